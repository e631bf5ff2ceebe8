/- The reference's disk in memory: a row of rows, a row of writes. -/
import Derived.Test.YtdgilgnaoifpcaaDoorDiskC
import Derived.Test.YtdgilgnaoifpcaaDoorRowsG
namespace Go.Proofs.YtdgilgnaoifpcaaDoor
open Go.RowKit

/-- A write of the reference's: its place, and its row. -/
def RWt (w : World) (F : Nat → Prop) (p : Int × List UInt8) (cs : List Value) : Prop := ∃ a c, cs = [.int .i64 p.1, .slice a p.2.length c] ∧ ArgB w a c p.2 ∧ ∀ b o s, a = some ⟨b, o, s⟩ → F b
theorem liesRWt : LiesOk RWt 2 := by
  refine ⟨?_, ?_, ?_⟩
  · rintro w w' D F x cs ⟨a, c, rfl, h1, h2⟩ hO hF
    exact ⟨a, c, rfl, hO.argB h1 (fun b o e => hF b (h2 b o none e)), h2⟩
  · rintro w F F' x cs ⟨a, c, rfl, h1, h2⟩ hF
    exact ⟨a, c, rfl, h1, fun b o s e => hF b (h2 b o s e)⟩
  · rintro w F x cs ⟨a, c, rfl, h1, h2⟩
    refine ⟨rfl, fun u hu => ?_⟩
    simp only [List.mem_cons, List.not_mem_nil, or_false] at hu
    rcases hu with rfl | rfl <;> rfl
/-- The sectors, in order. -/
def secs (n : Nat) (f : Int → List UInt8) : List (List UInt8) := (List.range n).map fun (i : Nat) => f (i : Int)
theorem secs_length (n : Nat) (f : Int → List UInt8) : (secs n f).length = n := by simp [secs]
theorem secs_at {n : Nat} (f : Int → List UInt8) {i : Nat} (h : i < n) : (secs n f)[i]? = some (f (i : Int)) := by simp [secs, h]
theorem secs_set (n : Nat) (f : Int → List UInt8) (i : Nat) (x : List UInt8) : (secs n f).set i x = secs n (fun j => if j = (i : Int) then x else f j) := by
  apply List.ext_getElem?
  intro k
  unfold secs
  rw [List.getElem?_set]
  by_cases hk : k < n
  · by_cases hik : i = k
    · subst hik; simp [hk]
    · have : ¬ (k : Int) = (i : Int) := by omega
      simp [hk, hik, this]
  · by_cases hik : i = k
    · subst hik; simp [hk]
    · simp [hk, hik]
theorem secs_succ (n : Nat) (f : Int → List UInt8) : secs (n + 1) f = secs n f ++ [f (n : Int)] := by simp [secs, List.range_succ]

/-- Its five cells. -/
def rcells (va vw : Value) (armed : Bool) (rl : Int) (gone : Bool) : Array Value := #[va, vw, .bool armed, .int .i64 rl, .bool gone]
structure RefD (base : Nat) (w : World) (R : Nat) (va vw : Value) (F : Nat → Prop) (n : Nat) (p : DP) (rl : Int) : Prop where
  at_ : w.heap[R]? = some (.cells (rcells va vw p.armed rl p.gone) 51 (0, 0))
  all : RowsOf RB 36 1 base w F va (secs n p.f)
  waits : RowsOf RWt 77 2 base w F vw p.ws
  fR : ¬ F R
  aR : ∀ k, va.ownBlock = some k → k ≠ R
  wR : ∀ k, vw.ownBlock = some k → k ≠ R ∧ va.ownBlock ≠ some k
  lens : ∀ q ∈ p.ws, q.2.length = 64 ∧ 0 ≤ q.1 ∧ q.1 < n
  flen : ∀ i, (p.f i).length = 64
  left : p.armed = true → rl = p.l
  range : 0 ≤ rl ∧ rl ≤ 9223372036854775807
/-- All its blocks lie in S. -/
def RM (base : Nat) (w : World) (R n : Nat) (p : DP) (S : Nat → Prop) : Prop :=
  ∃ va vw F rl, RefD base w R va vw F n p rl ∧ (S R ∧ (∀ k, va.ownBlock = some k → S k) ∧ (∀ k, vw.ownBlock = some k → S k) ∧ ∀ k, F k → S k) ∧ ∀ k, S k → base ≤ k ∧ k < w.heap.size
theorem RefD.c {base : Nat} {w : World} {R : Nat} {va vw : Value} {F : Nat → Prop} {n : Nat} {p : DP} {rl : Int} (h : RefD base w R va vw F n p rl) (j : Nat) : w.cell? ⟨R, j, none⟩ = (rcells va vw p.armed rl p.gone)[j]? := cell_of_block h.at_ j
theorem RefD.free {base : Nat} {w : World} {R : Nat} {va vw : Value} {F : Nat → Prop} {n : Nat} {p : DP} {rl : Int} (h : RefD base w R va vw F n p rl) (j : Nat) : w.frozen? ⟨R, j, none⟩ = false := free_of_block h.at_ j
theorem RefD.only {base : Nat} {w w' : World} {R : Nat} {va vw : Value} {F : Nat → Prop} {n : Nat} {p : DP} {rl : Int} {D : Nat → Prop} (h : RefD base w R va vw F n p rl) (hO : Only D w w') (h1 : ¬ D R) (h2 : ∀ k, va.ownBlock = some k → ¬ D k) (h3 : ∀ k, vw.ownBlock = some k → ¬ D k) (h4 : ∀ k, F k → ¬ D k) : RefD base w' R va vw F n p rl :=
  ⟨hO.heap h.at_ h1, h.all.only liesRB hO h4 h2, h.waits.only liesRWt hO h4 h3, h.fR, h.aR, h.wR, h.lens, h.flen, h.left, h.range⟩
theorem RM.only {base : Nat} {w w' : World} {R n : Nat} {p : DP} {S D : Nat → Prop} (h : RM base w R n p S) (hO : Only D w w') (hd : ∀ k, S k → ¬ D k) : RM base w' R n p S := by
  obtain ⟨va, vw, F, rl, h1, ⟨h2, h3, h4, h5⟩, h6⟩ := h
  exact ⟨va, vw, F, rl, h1.only hO (hd R h2) (fun k hk => hd k (h3 k hk)) (fun k hk => hd k (h4 k hk)) (fun k hk => hd k (h5 k hk)), ⟨h2, h3, h4, h5⟩, fun k hk => ⟨(h6 k hk).1, Nat.lt_of_lt_of_le (h6 k hk).2 hO.size⟩⟩
theorem RM.below {base : Nat} {w w' : World} {R n : Nat} {p : DP} {S : Nat → Prop} (h : RM base w R n p S) (hb : Below w.heap.size w w') : RM base w' R n p S := h.only (Only.ofBelow (D := fun _ => False) hb) (fun _ _ h => h)
/-- What a call did. -/
def RStep (base : Nat) (w w' : World) (R n : Nat) (p' : DP) (S : Nat → Prop) : Prop := RM base w' R n p' (fun k => S k ∨ (w.heap.size ≤ k ∧ k < w'.heap.size)) ∧ Only S w w'
theorem RStep.same {base : Nat} {w w' : World} {R n : Nat} {p : DP} {S : Nat → Prop} (h : RM base w R n p S) (hbs : base ≤ w.heap.size) (hb : Below w.heap.size w w') : RStep base w w' R n p S := by
  obtain ⟨va, vw, F, rl, h1, ⟨h2, h3, h4, h5⟩, h6⟩ := h.below hb
  obtain ⟨_, _, _, _, _, _, h7⟩ := h
  refine ⟨⟨va, vw, F, rl, h1, ⟨.inl h2, fun k hk => .inl (h3 k hk), fun k hk => .inl (h4 k hk), fun k hk => .inl (h5 k hk)⟩, ?_⟩, Only.ofBelow hb⟩
  rintro k (hk | ⟨hk1, hk2⟩)
  · exact h6 k hk
  · exact ⟨by omega, hk2⟩
/-- The step out of its parts: what is owned now was owned, or is new. -/
theorem RStep.mk' {base : Nat} {w w' : World} {R n : Nat} {p p' : DP} {S F : Nat → Prop} {va vw : Value} {rl : Int} (h : RM base w R n p S) (hbs : base ≤ w.heap.size) (h' : RefD base w' R va vw F n p' rl) (hO : Only S w w')
    (ha : ∀ k, va.ownBlock = some k → S k ∨ w.heap.size ≤ k) (hw : ∀ k, vw.ownBlock = some k → S k ∨ w.heap.size ≤ k) (hF : ∀ k, F k → S k ∨ w.heap.size ≤ k) : RStep base w w' R n p' S := by
  obtain ⟨va0, vw0, F0, rl0, h1, ⟨h2, h3, h4, h5⟩, h6⟩ := h
  have hnew : ∀ k, k < w'.heap.size → (S k ∨ w.heap.size ≤ k) → (S k ∨ (w.heap.size ≤ k ∧ k < w'.heap.size)) := fun k hk h => h.imp id (fun h => ⟨h, hk⟩)
  refine ⟨⟨va, vw, F, rl, h', ⟨.inl h2, fun k hk => hnew k (h'.all.ownLt k hk).2 (ha k hk), fun k hk => hnew k (h'.waits.ownLt k hk).2 (hw k hk), fun k hk => hnew k (h'.all.lt k hk) (hF k hk)⟩, ?_⟩, hO⟩
  rintro k (hk | ⟨hk1, hk2⟩)
  · exact ⟨(h6 k hk).1, Nat.lt_of_lt_of_le (h6 k hk).2 hO.size⟩
  · exact ⟨by omega, hk2⟩
end Go.Proofs.YtdgilgnaoifpcaaDoor
