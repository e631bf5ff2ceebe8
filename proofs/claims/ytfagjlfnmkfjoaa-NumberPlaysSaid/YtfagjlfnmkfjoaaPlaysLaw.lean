/- The plain law of NumberPlays: the window of 64 bits tells what all the ids tell. No program in sight. -/
import Derived.Test.YtfagjlfnmkfjoaaLaw
namespace Go.Proofs.Ytfagjlfnmkfjoaa
open Go.RowKit

/-! ### the reference's answers, of all ids that came -/
def gMax (all : List Int) : Int := all.foldl (fun g x => if g < x then x else g) 0
def rOld (all : List Int) (id : Int) : Bool := !all.isEmpty && decide (id ≤ gMax all - 64)
def rHas (all : List Int) (id : Int) : Bool := all.any fun x => decide (x = id) && !rOld all id
def rFresh (all : List Int) (id : Int) : Bool := mayB id && !rOld all id && !rHas all id
/-- The insertion of the reference's List. -/
def posR (x : Int) (out : List Int) : Nat → Nat
  | 0 => 0
  | n + 1 => if x < out.getD n 0 then posR x out n else n + 1
def insR (x : Int) (out : List Int) : List Int := out.take (posR x out out.length) ++ x :: out.drop (posR x out out.length)
def rStep (all : List Int) (out : List Int) (x : Int) : List Int := if rOld all x then out else insR x out
def rList (all : List Int) : List Int := all.foldl (rStep all) []

theorem gMax_acc (all : List Int) : ∀ g : Int, (∀ x ∈ all, x ≤ all.foldl (fun g x => if g < x then x else g) g) ∧ g ≤ all.foldl (fun g x => if g < x then x else g) g ∧
    (all.foldl (fun g x => if g < x then x else g) g = g ∨ all.foldl (fun g x => if g < x then x else g) g ∈ all) := by
  induction all with
  | nil => intro g; simp
  | cons y l ih =>
    intro g
    simp only [List.foldl_cons]
    obtain ⟨h1, h2, h3⟩ := ih (if g < y then y else g)
    have hy : y ≤ (if g < y then y else g) ∧ g ≤ (if g < y then y else g) := by split <;> omega
    refine ⟨fun x hx => ?_, by omega, ?_⟩
    · rcases List.mem_cons.1 hx with rfl | hx
      · omega
      · exact h1 x hx
    · rcases h3 with h3 | h3
      · rw [h3]
        split
        · exact .inr (List.mem_cons_self)
        · exact .inl rfl
      · exact .inr (List.mem_cons_of_mem _ h3)
theorem gMax_le {all : List Int} {x : Int} (h : x ∈ all) : x ≤ gMax all := (gMax_acc all 0).1 x h
theorem gMax_nonneg (all : List Int) : 0 ≤ gMax all := (gMax_acc all 0).2.1
theorem gMax_mem {all : List Int} (h : all ≠ []) (hp : ∀ x ∈ all, 0 ≤ x) : gMax all ∈ all := by
  rcases (gMax_acc all 0).2.2 with h1 | h1
  · cases all with
    | nil => exact absurd rfl h
    | cons y l =>
      have h2 := gMax_le (x := y) (all := y :: l) List.mem_cons_self
      have h3 := hp y List.mem_cons_self
      have : y = gMax (y :: l) := by unfold gMax at h2 ⊢; omega
      rw [← this]; exact List.mem_cons_self
  · exact h1
theorem gMax_snoc (all : List Int) (id : Int) : gMax (all ++ [id]) = if gMax all < id then id else gMax all := by
  unfold gMax; rw [List.foldl_append]; rfl

/-- The window stands for the ids. -/
structure Win (all : List Int) (any : Bool) (g : Int) (c : Nat) : Prop where
  hany : any = !all.isEmpty
  gm : g = gMax all
  clt : c < 18446744073709551616
  pos : ∀ x ∈ all, 0 ≤ x ∧ x ≤ 1099511627776
  bit : ∀ k, c.testBit k = true ↔ (k < 64 ∧ (g - k) ∈ all)
  nodup : all.Nodup

theorem Win.start : Win [] false 0 0 := ⟨rfl, rfl, by omega, fun x h => (by cases h), fun k => by simp, List.nodup_nil⟩
theorem Win.hg {all : List Int} {any : Bool} {g : Int} {c : Nat} (h : Win all any g c) : 0 ≤ g ∧ g ≤ 1099511627776 := by
  rw [h.gm]
  refine ⟨gMax_nonneg _, ?_⟩
  by_cases he : all = []
  · rw [he]; decide
  · exact (h.pos _ (gMax_mem he fun x hx => (h.pos x hx).1)).2
theorem Win.hz {all : List Int} {any : Bool} {g : Int} {c : Nat} (h : Win all any g c) : any = false → g = 0 := by
  intro e
  have : all = [] := by have := h.hany; rw [e] at this; simpa using this
  rw [h.gm, this]; rfl
theorem Win.old {all : List Int} {any : Bool} {g : Int} {c : Nat} (h : Win all any g c) (id : Int) : rOld all id = oldB any g id := by
  unfold rOld oldB; rw [h.hany, h.gm]
theorem Win.has {all : List Int} {any : Bool} {g : Int} {c : Nat} (h : Win all any g c) (id : Int) : rHas all id = hasB any g c id := by
  rw [Bool.eq_iff_iff]
  constructor
  · intro hh
    simp only [rHas, List.any_eq_true, Bool.and_eq_true, decide_eq_true_eq, Bool.not_eq_true'] at hh
    obtain ⟨x, hx, rfl, ho⟩ := hh
    have hne : any = true := by rw [h.hany]; cases all <;> simp_all
    have ho' := ho
    rw [h.old] at ho'
    have hle : x ≤ g := by rw [h.gm]; exact gMax_le hx
    have hp := h.pos x hx
    have hfar : g - 64 < x := by
      simp [oldB, hne] at ho'; exact ho'
    have hb : c.testBit (g - x).toNat = true := (h.bit _).2 ⟨by omega, by rw [show g - ((g - x).toNat : Int) = x from by omega]; exact hx⟩
    subst hne
    simp [hasB, bitB, mayB, ho', hle, hb, hp]
  · intro hh
    simp only [hasB, bitB, Bool.and_eq_true, decide_eq_true_eq, Bool.not_eq_true'] at hh
    obtain ⟨⟨⟨h1, h2⟩, h3⟩, h4, h5⟩ := hh
    obtain ⟨h6, h7⟩ := (h.bit _).1 h5
    rw [show g - ((g - id).toNat : Int) = id from by omega] at h7
    simp only [rHas, List.any_eq_true, Bool.and_eq_true, decide_eq_true_eq, Bool.not_eq_true']
    exact ⟨id, h7, rfl, by rw [h.old]; exact h3⟩
theorem Win.fresh {all : List Int} {any : Bool} {g : Int} {c : Nat} (h : Win all any g c) (id : Int) : rFresh all id = freshB any g c id := by
  unfold rFresh freshB; rw [h.old, h.has]

theorem one_bit (k : Nat) : Nat.testBit 1 k = decide (k = 0) := by
  have h := Nat.testBit_two_pow (n := 0) (m := k)
  rw [Nat.pow_zero] at h
  rw [h]
  simp [eq_comm]
theorem Win.next {all : List Int} {any : Bool} {g : Int} {c : Nat} (h : Win all any g c) {id : Int} (hf : freshB any g c id = true) :
    Win (all ++ [id]) (nextAny any g c id) (nextG any g c id) (nextC any g c id) := by
  have hf' := hf
  simp only [freshB, Bool.and_eq_true, Bool.not_eq_true'] at hf
  obtain ⟨⟨hf1, hf2⟩, hf3⟩ := hf
  have hm : 0 ≤ id ∧ id ≤ 1099511627776 := by simpa [mayB] using hf1
  have hgb := h.hg
  have hmem : id ∉ all := by
    intro hx
    have : rHas all id = true := by
      simp only [rHas, List.any_eq_true, Bool.and_eq_true, decide_eq_true_eq, Bool.not_eq_true']
      exact ⟨id, hx, rfl, by rw [h.old]; exact hf2⟩
    rw [h.has, hf3] at this
    cases this
  have hpos : ∀ x ∈ all ++ [id], 0 ≤ x ∧ x ≤ 1099511627776 := by
    intro x hx
    rcases List.mem_append.1 hx with hx | hx
    · exact h.pos x hx
    · simp at hx; subst hx; exact hm
  have hnd : (all ++ [id]).Nodup := by
    rw [List.nodup_append]
    exact ⟨h.nodup, by simp, fun a ha b hb => by simp at hb; subst hb; exact fun e => hmem (e ▸ ha)⟩
  by_cases hn : any = true → g < id
  · have : nextAny any g c id = true ∧ nextG any g c id = id ∧ nextC any g c id = bigN g c id := by
      cases any <;> simp_all [nextAny, nextG, nextC]
    rw [this.1, this.2.1, this.2.2]
    have hgid : g ≤ id := by
      cases hany : any
      · have := h.hz hany; omega
      · have := hn hany; omega
    refine ⟨by simp, ?_, bigN_lt _ _ _, hpos, fun k => ?_, hnd⟩
    · rw [gMax_snoc, ← h.gm]; split <;> omega
    · unfold bigN
      rw [Nat.testBit_or, two64, Nat.testBit_mod_two_pow, Nat.testBit_mul_two_pow, one_bit]
      simp only [Bool.or_eq_true, Bool.and_eq_true, decide_eq_true_eq, List.mem_append, List.mem_singleton]
      rcases Nat.lt_or_ge k 64 with hk | hk
      · constructor
        · rintro (⟨h1, h2, h3⟩ | rfl)
          · obtain ⟨h4, h5⟩ := (h.bit _).1 h3
            refine ⟨hk, .inl ?_⟩
            have e : id - (k : Int) = g - ((k - (min (id - g) 64).toNat : Nat) : Int) := by omega
            rw [e]; exact h5
          · exact ⟨hk, .inr (by omega)⟩
        · rintro ⟨_, h1 | h1⟩
          · have hle : id - (k : Int) ≤ g := by rw [h.gm]; exact gMax_le h1
            refine .inl ⟨hk, by omega, (h.bit _).2 ⟨by omega, ?_⟩⟩
            have e : id - (k : Int) = g - ((k - (min (id - g) 64).toNat : Nat) : Int) := by omega
            rw [← e]; exact h1
          · exact .inr (by omega)
      · constructor
        · rintro (⟨h1, _⟩ | h1) <;> omega
        · rintro ⟨h1, _⟩; omega
  · obtain ⟨rfl, hle⟩ : any = true ∧ id ≤ g := by simp at hn; omega
    have hfar : g - 64 < id := by simpa [oldB] using hf2
    have : nextAny true g c id = true ∧ nextG true g c id = g ∧ nextC true g c id = oneN g c id := by
      have : ¬ g < id := by omega
      simp [nextAny, nextG, nextC, hf', this]
    rw [this.1, this.2.1, this.2.2]
    refine ⟨by simp, ?_, oneN_lt h.clt hfar hle, hpos, fun k => ?_, hnd⟩
    · rw [gMax_snoc, ← h.gm, if_neg (by omega)]
    · unfold oneN
      rw [Nat.testBit_or, Nat.testBit_two_pow]
      simp only [Bool.or_eq_true, decide_eq_true_eq, List.mem_append, List.mem_singleton]
      rw [h.bit]
      constructor
      · rintro (⟨h1, h2⟩ | h1)
        · exact ⟨h1, .inl h2⟩
        · exact ⟨by omega, .inr (by omega)⟩
      · rintro ⟨h1, h2 | h2⟩
        · exact .inl ⟨h1, h2⟩
        · exact .inr (by omega)

/-! ### the lists -/
theorem posR_le (x : Int) (out : List Int) : ∀ n, posR x out n ≤ n
  | 0 => Nat.le_refl _
  | n + 1 => by
    unfold posR
    split
    · exact Nat.le_succ_of_le (posR_le x out n)
    · exact Nat.le_refl _
theorem posR_above (x : Int) (out : List Int) : ∀ n i, posR x out n ≤ i → i < n → x < out.getD i 0
  | 0, i, _, h => by omega
  | n + 1, i, h1, h2 => by
    unfold posR at h1
    split at h1
    · rename_i hx
      by_cases e : i = n
      · subst e; exact hx
      · exact posR_above x out n i h1 (by omega)
    · omega
theorem posR_below (x : Int) (out : List Int) : ∀ n, posR x out n = 0 ∨ ¬ x < out.getD (posR x out n - 1) 0
  | 0 => .inl rfl
  | n + 1 => by
    unfold posR
    split
    · exact posR_below x out n
    · rename_i hx; exact .inr hx
theorem insR_mem (x y : Int) (out : List Int) : y ∈ insR x out ↔ y = x ∨ y ∈ out := by
  unfold insR
  rw [List.mem_append, List.mem_cons]
  have h : y ∈ out ↔ y ∈ out.take (posR x out out.length) ∨ y ∈ out.drop (posR x out out.length) := by
    conv => lhs; rw [← List.take_append_drop (posR x out out.length) out]
    exact List.mem_append
  rw [h]
  constructor
  · rintro (h | h | h)
    · exact .inr (.inl h)
    · exact .inl h
    · exact .inr (.inr h)
  · rintro (h | h | h)
    · exact .inr (.inl h)
    · exact .inl h
    · exact .inr (.inr h)
theorem sorted_get {l : List Int} (h : l.Pairwise (· < ·)) {i j : Nat} (hi : i < j) (hj : j < l.length) : l.getD i 0 < l.getD j 0 := by
  have := List.pairwise_iff_getElem.1 h i j (by omega) hj hi
  simpa [show i < l.length from by omega, hj] using this
theorem insR_sorted {x : Int} {out : List Int} (h : out.Pairwise (· < ·)) (hx : x ∉ out) : (insR x out).Pairwise (· < ·) := by
  have hp := posR_le x out out.length
  unfold insR
  rw [List.pairwise_append]
  have hab : ∀ y ∈ out.drop (posR x out out.length), x < y := by
    intro y hy
    obtain ⟨k, hk, rfl⟩ := List.mem_iff_getElem.1 hy
    simp only [List.length_drop] at hk
    have := posR_above x out out.length (posR x out out.length + k) (by omega) (by omega)
    simpa [show posR x out out.length + k < out.length from by omega] using this
  have hbe : ∀ y ∈ out.take (posR x out out.length), y < x := by
    intro y hy
    obtain ⟨k, hk, rfl⟩ := List.mem_iff_getElem.1 hy
    simp only [List.length_take] at hk
    have hm : out[k] ∈ out := List.getElem_mem _
    have hne : out[k] ≠ x := fun e => hx (e ▸ hm)
    rw [List.getElem_take]
    rcases posR_below x out out.length with h0 | h0
    · omega
    · have hle : out[k] ≤ out.getD (posR x out out.length - 1) 0 := by
        by_cases e : k = posR x out out.length - 1
        · rw [← e]; simp [show k < out.length from by omega]
        · have := sorted_get h (i := k) (j := posR x out out.length - 1) (by omega) (by omega)
          simp only [show out.getD k 0 = out[k] from by simp [show k < out.length from by omega]] at this
          omega
      omega
  refine ⟨h.sublist (List.take_sublist _ _), ?_, ?_⟩
  · rw [List.pairwise_cons]
    exact ⟨hab, h.sublist (List.drop_sublist _ _)⟩
  · intro y hy z hz
    rcases List.mem_cons.1 hz with rfl | hz
    · exact hbe y hy
    · exact Int.lt_trans (hbe y hy) (hab z hz)
theorem rList_acc (all : List Int) : ∀ (l out : List Int), l.Nodup → out.Pairwise (· < ·) → (∀ x ∈ l, x ∉ out) →
    (l.foldl (rStep all) out).Pairwise (· < ·) ∧ ∀ y, y ∈ l.foldl (rStep all) out ↔ y ∈ out ∨ (y ∈ l ∧ rOld all y = false) := by
  intro l
  induction l with
  | nil => intro out _ h _; exact ⟨h, fun y => by simp⟩
  | cons x l ih =>
    intro out hn hs hd
    rw [List.nodup_cons] at hn
    rw [List.foldl_cons]
    cases ho : rOld all x
    · have hx := hd x List.mem_cons_self
      have e : rStep all out x = insR x out := by simp [rStep, ho]
      rw [e]
      obtain ⟨h1, h2⟩ := ih (insR x out) hn.2 (insR_sorted hs hx) (fun y hy hm => by
        rcases (insR_mem x y out).1 hm with rfl | hm
        · exact hn.1 hy
        · exact hd y (List.mem_cons_of_mem _ hy) hm)
      refine ⟨h1, fun y => ?_⟩
      rw [h2, insR_mem, List.mem_cons]
      constructor
      · rintro ((rfl | h) | ⟨h, h'⟩)
        · exact .inr ⟨.inl rfl, ho⟩
        · exact .inl h
        · exact .inr ⟨.inr h, h'⟩
      · rintro (h | ⟨rfl | h, h'⟩)
        · exact .inl (.inr h)
        · exact .inl (.inl rfl)
        · exact .inr ⟨h, h'⟩
    · have e : rStep all out x = out := by simp [rStep, ho]
      rw [e]
      obtain ⟨h1, h2⟩ := ih out hn.2 hs (fun y hy => hd y (List.mem_cons_of_mem _ hy))
      refine ⟨h1, fun y => ?_⟩
      rw [h2, List.mem_cons]
      constructor
      · rintro (h | ⟨h, h'⟩)
        · exact .inl h
        · exact .inr ⟨.inr h, h'⟩
      · rintro (h | ⟨rfl | h, h'⟩)
        · exact .inl h
        · rw [ho] at h'; cases h'
        · exact .inr ⟨h, h'⟩

/-- The ids of the window, rising. -/
def pList (g : Int) (c : Nat) : Nat → List Int
  | 0 => []
  | n + 1 => if c.testBit n then (g - n) :: pList g c n else pList g c n
theorem pList_mem (g : Int) (c : Nat) : ∀ n y, y ∈ pList g c n ↔ ∃ k, k < n ∧ c.testBit k = true ∧ y = g - (k : Int)
  | 0, y => by simp [pList]
  | n + 1, y => by
    unfold pList
    have ih := pList_mem g c n
    split
    · rename_i hb
      rw [List.mem_cons, ih]
      constructor
      · rintro (rfl | ⟨k, h1, h2, h3⟩)
        · exact ⟨n, by omega, hb, rfl⟩
        · exact ⟨k, by omega, h2, h3⟩
      · rintro ⟨k, h1, h2, h3⟩
        by_cases e : k = n
        · subst e; exact .inl h3
        · exact .inr ⟨k, by omega, h2, h3⟩
    · rename_i hb
      rw [ih]
      constructor
      · rintro ⟨k, h1, h2, h3⟩; exact ⟨k, by omega, h2, h3⟩
      · rintro ⟨k, h1, h2, h3⟩
        exact ⟨k, by
          by_cases e : k = n
          · subst e; exact absurd h2 hb
          · omega, h2, h3⟩
theorem pList_sorted (g : Int) (c : Nat) : ∀ n, (pList g c n).Pairwise (· < ·)
  | 0 => List.Pairwise.nil
  | n + 1 => by
    unfold pList
    have ih := pList_sorted g c n
    split
    · rw [List.pairwise_cons]
      refine ⟨fun y hy => ?_, ih⟩
      obtain ⟨k, h1, _, rfl⟩ := (pList_mem g c n y).1 hy
      omega
    · exact ih
theorem pList_length (g : Int) (c : Nat) : ∀ n, (pList g c n).length ≤ n
  | 0 => Nat.le_refl _
  | n + 1 => by
    have ih := pList_length g c n
    unfold pList
    split
    · simp; omega
    · omega
theorem pList_skip (g : Int) (c : Nat) (k : Nat) : ∀ m, k ≤ m → c % 2 ^ m < 2 ^ k → pList g c m = pList g c k
  | 0, h, _ => by rw [show k = 0 from by omega]
  | m + 1, h, hl => by
    by_cases e : k = m + 1
    · rw [e]
    · have hk : k ≤ m := by omega
      have hb : c.testBit m = false := by
        have h1 : (c % 2 ^ (m + 1)).testBit m = false := Nat.testBit_lt_two_pow (Nat.lt_of_lt_of_le hl (Nat.pow_le_pow_right (by omega) hk))
        rw [Nat.testBit_mod_two_pow] at h1
        simpa using h1
      have hu : pList g c (m + 1) = pList g c m := by
        conv => lhs; unfold pList
        rw [hb]
        rfl
      rw [hu]
      refine pList_skip g c k m hk ?_
      have : c % 2 ^ m ≤ c % 2 ^ (m + 1) := by
        rw [show 2 ^ (m + 1) = 2 ^ m * 2 from Nat.pow_succ _ _, Nat.mod_mul]
        omega
      omega

theorem sorted_unique : ∀ {a b : List Int}, a.Pairwise (· < ·) → b.Pairwise (· < ·) → (∀ x, x ∈ a ↔ x ∈ b) → a = b
  | [], [], _, _, _ => rfl
  | [], y :: b, _, _, h => by have := (h y).2 List.mem_cons_self; cases this
  | x :: a, [], _, _, h => by have := (h x).1 List.mem_cons_self; cases this
  | x :: a, y :: b, ha, hb, h => by
    rw [List.pairwise_cons] at ha hb
    have hxy : x = y := by
      rcases List.mem_cons.1 ((h x).1 List.mem_cons_self) with e | hx
      · exact e
      · rcases List.mem_cons.1 ((h y).2 List.mem_cons_self) with e | hy
        · exact e.symm
        · have h1 := hb.1 x hx
          have h2 := ha.1 y hy
          omega
    subst hxy
    have : a = b := sorted_unique ha.2 hb.2 (fun z => by
      constructor
      · intro hz
        rcases List.mem_cons.1 ((h z).1 (List.mem_cons_of_mem _ hz)) with e | hz'
        · subst e; have := ha.1 z hz; omega
        · exact hz'
      · intro hz
        rcases List.mem_cons.1 ((h z).2 (List.mem_cons_of_mem _ hz)) with e | hz'
        · subst e; have := hb.1 z hz; omega
        · exact hz')
    rw [this]

theorem Win.list {all : List Int} {any : Bool} {g : Int} {c : Nat} (h : Win all any g c) : rList all = pList g c 64 := by
  obtain ⟨h1, h2⟩ := rList_acc all all [] h.nodup List.Pairwise.nil (fun _ _ h => by cases h)
  refine sorted_unique h1 (pList_sorted g c 64) (fun y => ?_)
  show y ∈ all.foldl (rStep all) [] ↔ _
  rw [h2, pList_mem]
  constructor
  · rintro (h' | ⟨hy, ho⟩)
    · cases h'
    · rw [h.old] at ho
      have hne : any = true := by rw [h.hany]; cases all <;> simp_all
      have hle : y ≤ g := by rw [h.gm]; exact gMax_le hy
      have hfar : g - 64 < y := by simp [oldB, hne] at ho; exact ho
      exact ⟨(g - y).toNat, by omega, (h.bit _).2 ⟨by omega, by rw [show g - ((g - y).toNat : Int) = y from by omega]; exact hy⟩, by omega⟩
  · rintro ⟨k, hk, hb, rfl⟩
    obtain ⟨_, hm⟩ := (h.bit k).1 hb
    refine .inr ⟨hm, ?_⟩
    rw [h.old]
    simp [oldB]
    omega

end Go.Proofs.Ytfagjlfnmkfjoaa
