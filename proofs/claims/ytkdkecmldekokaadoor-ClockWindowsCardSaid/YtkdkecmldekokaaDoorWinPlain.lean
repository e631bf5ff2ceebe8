/- The plain law of the clock: whoever does at each tick what a task wants has a Stop within each window. -/
import Derived.Test.YtkdkecmldekokaaDoorRows
namespace Go.Proofs.YtkdkecmldekokaaDoor

/-- What holds ahead of tick n: P period, T patience, R retries, L = T + R T, f the first tick, l the last Stop, i how many were asked; the task: due, open, tries, until. -/
def CInv (P T R L f n l i due opn tries til : Int) : Prop :=
  f ≤ l ∧ l < n ∧ n ≤ f + 4 * (P + L) + 1 ∧ 0 ≤ i ∧ i ≤ n - f ∧ 0 ≤ due ∧ due ≤ n + P ∧ 0 ≤ til ∧ til ≤ n + P ∧
  ∃ B : Int, (i = 0 → B = f + P) ∧ (i = 1 → B = f + P + max P (L + 1)) ∧ (i = 2 → B = f + P + max P (L + 1) + max P (L + 1)) ∧ due ≤ B ∧
  ((opn = -1 ∧ tries = 0 ∧ til = 0 ∧ due + L ≤ l + (P + L) ∧ n + L ≤ l + (P + L) ∧ n ≤ B) ∨
   (0 ≤ opn ∧ opn ≤ i ∧ ∃ k : Nat, 0 ≤ tries ∧ tries + k = R ∧ n ≤ til ∧ til + k * T ≤ l + (P + L) ∧ due ≤ til + k * T + P ∧ til + k * T + 1 ≤ B))

section
variable {P T R L f n l i due opn tries til : Int}

theorem CInv.start (hP : 1 ≤ P) (hL : 0 ≤ L) (hf : 0 ≤ f) : CInv P T R L f (f + 1) f 0 (f + P) (-1) 0 0 :=
  ⟨by omega, by omega, by omega, by omega, by omega, by omega, by omega, by omega, by omega, f + P, by omega, by omega, by omega, by omega, .inl ⟨rfl, rfl, rfl, by omega, by omega, by omega⟩⟩

theorem CInv.ask (h : CInv P T R L f n l i due opn tries til) (hn : n ≤ f + 4 * (P + L)) (hT : 1 ≤ T) (hTP : T ≤ P) (hR : 0 ≤ R) (hf : 0 ≤ f) (hL : L = T + R * T) (hL0 : 0 ≤ L) (ho : opn < 0) (hd : due ≤ n) :
    CInv P T R L f (n + 1) l (i + 1) (n + P) i 0 (n + T) := by
  obtain ⟨h1, h2, h3, h4, h5, h6, h7, h8, h9, B, b0, b1, b2, h10, h | h⟩ := h
  · obtain ⟨_, _, _, g1, g2, g3⟩ := h
    refine ⟨h1, by omega, by omega, by omega, by omega, by omega, by omega, by omega, by omega, B + max P (L + 1), by omega, by omega, by omega, by omega, .inr ⟨h4, by omega, R.toNat, by omega, by omega, by omega, ?_, ?_, ?_⟩⟩
    all_goals rw [Int.toNat_of_nonneg hR]; omega
  · omega

theorem CInv.rest (h : CInv P T R L f n l i due opn tries til) (hn : n ≤ f + 4 * (P + L)) (hw : opn < 0 ∧ n < due ∨ 0 ≤ opn ∧ n < til) :
    CInv P T R L f (n + 1) l i due opn tries til := by
  obtain ⟨h1, h2, h3, h4, h5, h6, h7, h8, h9, B, b0, b1, b2, h10, h | h⟩ := h
  · obtain ⟨_, _, _, g1, g2, g3⟩ := h
    exact ⟨h1, by omega, by omega, by omega, by omega, by omega, by omega, by omega, by omega, B, b0, b1, b2, h10, .inl ⟨by omega, by omega, by omega, by omega, by omega, by omega⟩⟩
  · obtain ⟨g1, g2, k, g3, g4, g5, g6, g7, g8⟩ := h
    exact ⟨h1, by omega, by omega, by omega, by omega, by omega, by omega, by omega, by omega, B, b0, b1, b2, h10, .inr ⟨g1, g2, k, g3, g4, by omega, g6, g7, g8⟩⟩

theorem CInv.again (h : CInv P T R L f n l i due opn tries til) (hn : n ≤ f + 4 * (P + L)) (hT : 1 ≤ T) (hTP : T ≤ P) (ho : 0 ≤ opn) (hu : til ≤ n) (ht : tries < R) :
    CInv P T R L f (n + 1) l i due opn (tries + 1) (n + T) := by
  obtain ⟨h1, h2, h3, h4, h5, h6, h7, h8, h9, B, b0, b1, b2, h10, h | h⟩ := h
  · omega
  · obtain ⟨g1, g2, k, g3, g4, g5, g6, g7, g8⟩ := h
    obtain ⟨k, rfl⟩ : ∃ j, k = j + 1 := ⟨k - 1, by omega⟩
    have e : ((k + 1 : Nat) : Int) * T = k * T + T := by rw [Int.natCast_add, Int.add_mul]; simp
    rw [e] at g6 g7 g8
    exact ⟨h1, by omega, by omega, by omega, by omega, by omega, by omega, by omega, by omega, B, b0, b1, b2, h10, .inr ⟨g1, g2, k, by omega, by omega, by omega, by omega, by omega, by omega⟩⟩

theorem CInv.stop (h : CInv P T R L f n l i due opn tries til) (hn : n ≤ f + 4 * (P + L)) (hP : 1 ≤ P) (ho : 0 ≤ opn) (hu : til ≤ n) (ht : R ≤ tries) :
    n - l ≤ P + L ∧ CInv P T R L f (n + 1) n i due (-1) 0 0 := by
  obtain ⟨h1, h2, h3, h4, h5, h6, h7, h8, h9, B, b0, b1, b2, h10, h | h⟩ := h
  · omega
  · obtain ⟨g1, g2, k, g3, g4, g5, g6, g7, g8⟩ := h
    obtain rfl : k = 0 := by omega
    simp only [Int.natCast_zero, Int.zero_mul, Int.add_zero] at g6 g7 g8
    exact ⟨by omega, by omega, by omega, by omega, by omega, by omega, by omega, by omega, by omega, by omega, B, b0, b1, b2, h10, .inl ⟨rfl, rfl, rfl, by omega, by omega, by omega⟩⟩

theorem CInv.late (h : CInv P T R L f (n + 1) l i due opn tries til) (hT : 1 ≤ T) (hL : 0 ≤ L) : n - l ≤ P + L := by
  obtain ⟨h1, h2, h3, h4, h5, h6, h7, h8, h9, B, b0, b1, b2, h10, h | h⟩ := h
  · omega
  · obtain ⟨g1, g2, k, g3, g4, g5, g6, g7, g8⟩ := h
    have : 0 ≤ (k : Int) * T := Int.mul_nonneg (by omega) (by omega)
    omega

theorem CInv.right (h : CInv P T R L f n l i due opn tries til) : 0 ≤ due ∧ 0 ≤ til ∧ -1 ≤ opn ∧ 0 ≤ tries ∧ (-1 < opn ∨ tries = 0 ∧ til = 0) := by
  obtain ⟨h1, h2, h3, h4, h5, h6, h7, h8, h9, B, b0, b1, b2, h10, h | h⟩ := h
  · omega
  · obtain ⟨g1, g2, k, g3, g4, g5, g6, g7, g8⟩ := h
    omega

theorem CInv.end (h : CInv P T R L f n l i due opn tries til) (hn : f + 4 * (P + L) < n) (hT : 1 ≤ T) (hP : 1 ≤ P) (hL : 0 ≤ L) : 3 ≤ i := by
  obtain ⟨h1, h2, h3, h4, h5, h6, h7, h8, h9, B, b0, b1, b2, h10, h | h⟩ := h
  · omega
  · obtain ⟨g1, g2, k, g3, g4, g5, g6, g7, g8⟩ := h
    have : 0 ≤ (k : Int) * T := Int.mul_nonneg (by omega) (by omega)
    omega

end
end Go.Proofs.YtkdkecmldekokaaDoor
