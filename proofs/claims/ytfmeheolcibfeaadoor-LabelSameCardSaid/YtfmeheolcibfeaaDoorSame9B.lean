/- The walks over label.Same: the second closure, each, Same. -/
import Derived.Test.YtfmeheolcibfeaaDoorSame9
import Derived.StillTailTactics
namespace Go.Proofs.YtfmeheolcibfeaaDoor
open Go.RowKit

/-- The first i of two sets of rows are alike. -/
def eqTo (f g : Nat → List UInt8) : Nat → Bool
  | 0 => true
  | i + 1 => eqTo f g i && decide (f i = g i)
theorem eqTo_iff (f g : Nat → List UInt8) (i : Nat) : eqTo f g i = true ↔ ∀ j, j < i → f j = g j := by
  induction i with
  | zero => exact ⟨fun _ j hj => absurd hj (Nat.not_lt_zero j), fun _ => rfl⟩
  | succ i ih =>
    rw [eqTo, Bool.and_eq_true, ih, decide_eq_true_eq]
    constructor
    · rintro ⟨h1, h2⟩ j hj
      rcases Nat.lt_succ_iff_lt_or_eq.1 hj with h | rfl
      · exact h1 j h
      · exact h2
    · exact fun h => ⟨fun j hj => h j (by omega), h i (by omega)⟩
/-- The rows from i on, at a. -/
structure RowsFrom (W : World) (rb sb : Nat) (a : Option Addr) (c : Nat) (f : Nat → List UInt8) (i : Nat) : Prop where
  len : 5 - i ≤ c
  most : c ≤ maxLen
  far : ∀ b o, a = some ⟨b, o, none⟩ → b ≠ rb ∧ b ≠ sb
  row : ∀ j, i ≤ j → j < 5 → ∃ b off aj cj, a = some ⟨b, off, none⟩ ∧ W.cell? ⟨b, off + (j - i), none⟩ = some (.slice aj (f j).length cj) ∧ ArgB W aj cj (f j)
theorem RowsFrom.tail {W : World} {rb sb b off c : Nat} {f : Nat → List UInt8} {i : Nat} (h : RowsFrom W rb sb (some ⟨b, off, none⟩) c f i) (hi : i < 5) : RowsFrom W rb sb (if c = 1 then some ⟨b, off, none⟩ else some ⟨b, off + 1, none⟩) (c - 1) f (i + 1) := by
  have hl := h.len
  refine ⟨by omega, by have := h.most; omega, ?_, ?_⟩
  · intro b' o' e
    split at e <;> · cases e; exact h.far _ _ rfl
  · intro j h1 h2
    obtain ⟨b', off', aj, cj, e, h3, h4⟩ := h.row j (by omega) h2
    cases e
    rw [if_neg (by omega)]
    exact ⟨_, _, aj, cj, rfl, by rw [show off + 1 + (j - (i + 1)) = off + (j - i) from by omega]; exact h3, h4⟩
theorem RowsFrom.upd {W W' : World} {rb sb p : Nat} {o : Obj} {a : Option Addr} {c : Nat} {f : Nat → List UInt8} {i : Nat} (h : RowsFrom W rb sb a c f i) (hu : Upd p o W W') (hp : p = rb ∨ p = sb) (hn : ∀ j x, W.cell? ⟨p, j, none⟩ ≠ some (.int .u8 x)) : RowsFrom W' rb sb a c f i :=
  ⟨h.len, h.most, h.far, fun j h1 h2 => by
    obtain ⟨b, off, aj, cj, rfl, h3, h4⟩ := h.row j h1 h2
    have := h.far b off rfl
    exact ⟨b, off, aj, cj, rfl, by rw [World.cell?_of_block (a := ⟨b, off + (j - i), none⟩) (hu.block b (by rcases hp with rfl | rfl <;> simp_all))]; exact h3, h4.upd9 hu hn⟩⟩
structure T29 (w X : World) (rb sb : Nat) (f g : Nat → List UInt8) (W : World) (i : Nat) : Prop where
  bel : Below w.heap.size w W
  size : X.heap.size ≤ W.heap.size
  oth : ∀ k, k < X.heap.size → k ≠ rb → k ≠ sb → W.heap[k]? = X.heap[k]?
  lt : (w.heap.size ≤ rb ∧ rb < X.heap.size) ∧ (w.heap.size ≤ sb ∧ sb < X.heap.size) ∧ rb ≠ sb
  same : W.heap[sb]? = some (.cells #[.bool (eqTo f g i)] 4 (0, 0))
  row : ∃ a c, W.heap[rb]? = some (.cells #[.slice a (5 - i) c] 60 (0, 0)) ∧ RowsFrom W rb sb a c f i
theorem one_no {v : Value} {W : World} {p : Nat} {t : TypeId} (h : W.heap[p]? = some (.cells #[v] t (0, 0))) (hv : ∀ x, v ≠ .int .u8 x) : ∀ j x, W.cell? ⟨p, j, none⟩ ≠ some (.int .u8 x) := by
  intro j x
  rw [cell_of_block h]
  match j with
  | 0 => intro e; simp at e; exact hv x e
  | j + 1 => intro e; simp at e
theorem T29.next {w X W W1 W2 : World} {rb sb b off c : Nat} {f g : Nat → List UInt8} {i : Nat} (h : T29 w X rb sb f g W i) (hi : i < 5) (hr : W.heap[rb]? = some (.cells #[.slice (some ⟨b, off, none⟩) (5 - i) c] 60 (0, 0))) (hf : RowsFrom W rb sb (some ⟨b, off, none⟩) c f i)
    (u1 : Upd sb (.cells #[.bool (eqTo f g (i + 1))] 4 (0, 0)) W W1) (u2 : Upd rb (.cells #[.slice (if c = 1 then some ⟨b, off, none⟩ else some ⟨b, off + 1, none⟩) (5 - (i + 1)) (c - 1)] 60 (0, 0)) W1 W2) : T29 w X rb sb f g W2 (i + 1) := by
  obtain ⟨⟨l1, l2⟩, ⟨l3, l4⟩, l5⟩ := h.lt
  have n1 := one_no h.same (fun x e => by cases e)
  have n2 : ∀ j x, W1.cell? ⟨rb, j, none⟩ ≠ some (.int .u8 x) := one_no ((u1.block rb l5).trans hr) (fun x e => by cases e)
  refine ⟨h.bel.trans ((u1.below l3).trans (u2.below l1)), by rw [u2.size, u1.size]; exact h.size, ?_, h.lt, by rw [u2.block sb (Ne.symm l5)]; exact u1.here, _, _, u2.here, ?_⟩
  · intro k hk hn1 hn2
    rw [u2.block k hn1, u1.block k hn2]
    exact h.oth k hk hn1 hn2
  · exact ((hf.tail hi).upd u1 (Or.inr rfl) n1).upd u2 (Or.inl rfl) n2

theorem ArgB.t29 {w X W : World} {rb sb : Nat} {f g : Nat → List UInt8} {i : Nat} (h : T29 w X rb sb f g W i) {a : Option Addr} {c : Nat} {bs : List UInt8} (ha : ArgB X a c bs) (h1 : ∀ j x, X.cell? ⟨rb, j, none⟩ ≠ some (.int .u8 x)) (h2 : ∀ j x, X.cell? ⟨sb, j, none⟩ ≠ some (.int .u8 x)) : ArgB W a c bs :=
  ⟨ha.len, ha.most, ha.nil, fun i hi => by
    obtain ⟨b, off, rfl, hc⟩ := ha.row i hi
    refine ⟨b, off, rfl, ?_⟩
    have e1 : b ≠ rb := by rintro rfl; exact h1 _ _ hc
    have e2 : b ≠ sb := by rintro rfl; exact h2 _ _ hc
    rw [← hc]
    exact World.cell?_of_block (a := ⟨b, off + i, none⟩) (h.oth b (World.block_lt_of_cell? X _ hc) e1 e2)⟩

set_option maxRecDepth 10000 in
set_option maxHeartbeats 1000000 in
theorem clo29_any (w X : World) (rb sb bb : Nat) (us : List Value) (f g : Nat → List UInt8) (i : Nat) (hi : i < 5) (s : Value) (W : World) (hv : Five X us g) (hbb : X.heap[bb]? = some (.cells us.toArray 36 (0, 0))) (hne : bb ≠ rb ∧ bb ≠ sb) (hrX : ∀ j x, X.cell? ⟨rb, j, none⟩ ≠ some (.int .u8 x)) (hsX : ∀ j x, X.cell? ⟨sb, j, none⟩ ≠ some (.int .u8 x)) (hS : T29 w X rb sb f g W i) :
    Calls Tryd.prog 29 #[s, .pointer (some ⟨bb, i, none⟩), .pointer (some ⟨sb, 0, none⟩), .pointer (some ⟨rb, 0, none⟩)] W fun e W' => e = .returned (.tuple #[]) ∧ T29 w X rb sb f g W' (i + 1) := by
  obtain ⟨a, c, hr, hf⟩ := hS.row
  obtain ⟨b, off, a1, c1, rfl, hc1, ha1⟩ := hf.row i (Nat.le_refl _) hi
  rw [Nat.sub_self, Nat.add_zero] at hc1
  obtain ⟨a2, c2, e2, ha2⟩ := hv.2 i hi
  have hbbW : W.heap[bb]? = some (.cells us.toArray 36 (0, 0)) := (hS.oth bb (block_lt hbb) hne.1 hne.2).trans hbb
  have k4 : W.cell? ⟨bb, i, none⟩ = some (.slice a2 (g i).length c2) := by rw [cell_of_block hbbW, List.getElem?_toArray]; exact e2
  have k1 : W.cell? ⟨sb, 0, none⟩ = some (.bool (eqTo f g i)) := by rw [cell_of_block hS.same]; rfl
  have k2 : W.cell? ⟨rb, 0, none⟩ = some (.slice (some ⟨b, off, none⟩) (5 - i) c) := by rw [cell_of_block hr]; rfl
  have f1 := free_of_block hS.same 0
  have f2 := free_of_block hr 0
  have ha2W := Lib.hid (ArgB.t29 hS ha2 hrX hsX)
  replace ha1 := Lib.hid ha1
  have hsr : sb ≠ rb := Ne.symm hS.lt.2.2
  have hlen := hf.len
  have hmx := hf.most
  have hfin : ∀ W1 W2, Upd sb (.cells #[.bool (eqTo f g (i + 1))] 4 (0, 0)) W W1 → Upd rb (.cells #[.slice (if c = 1 then some ⟨b, off, none⟩ else some ⟨b, off + 1, none⟩) (5 - (i + 1)) (c - 1)] 60 (0, 0)) W1 W2 → T29 w X rb sb f g W2 (i + 1) := fun W1 W2 u1 u2 => hS.next hi hr hf u1 u2
  have hs0 := hS.same
  have hr0 := hr
  replace hS := Lib.hid hS; replace hr := Lib.hid hr; replace hf := Lib.hid hf; replace hbbW := Lib.hid hbbW; replace hbb := Lib.hid hbb; replace hv := Lib.hid hv; replace e2 := Lib.hid e2; replace hrX := Lib.hid hrX; replace hsX := Lib.hid hsX; replace hs0 := Lib.hid hs0; replace hr0 := Lib.hid hr0; replace hlen := Lib.hid hlen; replace hfin := Lib.hid hfin; replace hne := Lib.hid hne
  have hev : eqTo f g (i + 1) = (eqTo f g i && decide (f i = g i)) := rfl
  replace hev := Lib.hid hev
  obtain ⟨m, hm⟩ : ∃ m, 5 - i = m + 1 := ⟨4 - i, by omega⟩
  have hm2 : 5 - (i + 1) = m := by omega
  replace hm2 := Lib.hid hm2
  have hcm : m + 1 ≤ c := by have := hlen.out; omega
  rw [hm] at k2
  replace hm := Lib.hid hm
  have hfin2 : ∀ (q : Bool) (a' : Option Addr) (c' : Nat), q = eqTo f g (i + 1) → a' = (if c = 1 then some ⟨b, off, none⟩ else some ⟨b, off + 1, none⟩) → c' = c - 1 → T29 w X rb sb f g ((W.setCell ⟨sb, 0, none⟩ (.bool q)).setCell ⟨rb, 0, none⟩ (.slice a' m c')).drew (i + 1) := by
    intro q a' c' hq ha hc
    have u1 := ((Upd.refl hs0.out).setCell (j := 0) (.bool q)).to (o' := .cells #[.bool (eqTo f g (i + 1))] 4 (0, 0)) (by rw [hq]; rfl)
    have u2 := (((Upd.refl ((u1.block rb (Ne.symm hsr)).trans hr0.out)).setCell (j := 0) (.slice a' m c')).to (o' := .cells #[.slice (if c = 1 then some ⟨b, off, none⟩ else some ⟨b, off + 1, none⟩) (5 - (i + 1)) (c - 1)] 60 (0, 0)) (by rw [ha, hc, hm2.out]; rfl)).drew
    exact hfin.out _ _ u1 u2
  replace hfin2 := Lib.hid hfin2
  clear hfin
  by_cases hE : eqTo f g i = true
  · rw [hE] at k1
    replace hE := Lib.hid hE
    have hq := Lib.hid (fun W' (h : Grown W W') => equal_any a1 c1 (f i) a2 c2 (g i) W' (ha1.out.below h) (ha2W.out.below h))
    go_enter Tryd.func29, Tryd.ntmps29
    go_wp2_with fail
    go_still_tail 10, (by kernel_rfl)
    refine wpStill_step (fun K hK => ?_)
    go_simp
    refine ⟨_, Calls.mono (hq.out W.drew (Drawn.below ⟨1, rfl⟩ _)) (fun e w'' h => ⟨h.1, h.2.symm⟩), hK _ ?_⟩
    clear hK K hq
    repeat still_step
    refine wpStill_nil ?_
    change wpList _ _ _ _ _ W.drew
    go_wp2_with fail
    all_goals
      go_end0
      refine ⟨rfl, hfin2.out _ _ _ ?_ ?_ ?_⟩
      · rw [hev.out, hE.out, Bool.true_and]
      · first | rw [if_pos h] | rw [if_neg h]
      · first | rfl | (rw [h])
  · rw [show eqTo f g i = false from by simpa using hE] at k1
    have hE := Lib.hid (show eqTo f g i = false from by simpa using hE)
    go_enter Tryd.func29, Tryd.ntmps29
    go_wp2_with fail
    go_region
    all_goals
      go_wp2_with fail
      all_goals
        go_end0
        refine ⟨rfl, hfin2.out _ _ _ ?_ ?_ ?_⟩
        · rw [hev.out, hE.out, Bool.false_and]
        · first | rw [if_pos h] | rw [if_neg h]
        · first | rfl | (rw [h])

/-- Five calls of the second closure. -/
theorem each29_any (w X : World) (rb sb bb : Nat) (us : List Value) (f g : Nat → List UInt8) (W : World) (hv : Five X us g) (hbb : X.heap[bb]? = some (.cells us.toArray 36 (0, 0))) (hne : bb ≠ rb ∧ bb ≠ sb) (hrX : ∀ j x, X.cell? ⟨rb, j, none⟩ ≠ some (.int .u8 x)) (hsX : ∀ j x, X.cell? ⟨sb, j, none⟩ ≠ some (.int .u8 x)) (hS : T29 w X rb sb f g W 0) :
    Calls Tryd.prog 26 #[.pointer (some ⟨bb, 0, none⟩), .func (Fn.func 29) #[] #[.pointer (some ⟨sb, 0, none⟩), .pointer (some ⟨rb, 0, none⟩)]] W fun e W' => e = .returned (.tuple #[]) ∧ T29 w X rb sb f g W' 5 := by
  replace hS := Lib.hid hS
  have hcl := fun i (hi : i < 5) s W hS => clo29_any w X rb sb bb us f g i hi s W hv hbb hne hrX hsX hS
  replace hcl := Lib.hid hcl
  replace hv := Lib.hid hv; replace hbb := Lib.hid hbb; replace hne := Lib.hid hne; replace hrX := Lib.hid hrX; replace hsX := Lib.hid hsX
  go_enter Tryd.func26, Tryd.ntmps26
  go_wp2_with fail
  with_reducible refine (hcl.out 0 (by decide) _ _ hS.out).mono ?_
  rintro e w1 ⟨rfl, hS⟩
  replace hS := Lib.hid hS
  go_wp2_with fail
  with_reducible refine (hcl.out 1 (by decide) _ _ hS.out).mono ?_
  rintro e w2 ⟨rfl, hS⟩
  replace hS := Lib.hid hS
  go_wp2_with fail
  with_reducible refine (hcl.out 2 (by decide) _ _ hS.out).mono ?_
  rintro e w3 ⟨rfl, hS⟩
  replace hS := Lib.hid hS
  go_wp2_with fail
  with_reducible refine (hcl.out 3 (by decide) _ _ hS.out).mono ?_
  rintro e w4 ⟨rfl, hS⟩
  replace hS := Lib.hid hS
  go_wp2_with fail
  with_reducible refine (hcl.out 4 (by decide) _ _ hS.out).mono ?_
  rintro e w5 ⟨rfl, hS⟩
  replace hS := Lib.hid hS
  go_wp2_with fail
  go_end0
  exact ⟨rfl, hS.out⟩
theorem each28_any (w X : World) (rb ab : Nat) (vs : List Value) (f : Nat → List UInt8) (W : World) (hv : Five X vs f) (hab : X.heap[ab]? = some (.cells vs.toArray 36 (0, 0))) (hne : ab ≠ rb) (hrX : ∀ j x, X.cell? ⟨rb, j, none⟩ ≠ some (.int .u8 x)) (hS : S28 w X rb f W 0) :
    Calls Tryd.prog 26 #[.pointer (some ⟨ab, 0, none⟩), .func (Fn.func 28) #[] #[.pointer (some ⟨rb, 0, none⟩)]] W fun e W' => e = .returned (.tuple #[]) ∧ S28 w X rb f W' 5 := by
  replace hS := Lib.hid hS
  have hcl := fun i (hi : i < 5) s W hS => clo28_any w X rb ab vs f i hi s W hv hab hne hrX hS
  replace hcl := Lib.hid hcl
  replace hv := Lib.hid hv; replace hab := Lib.hid hab; replace hne := Lib.hid hne; replace hrX := Lib.hid hrX
  go_enter Tryd.func26, Tryd.ntmps26
  go_wp2_with fail
  with_reducible refine (hcl.out 0 (by decide) _ _ hS.out).mono ?_
  rintro e w1 ⟨rfl, hS⟩
  replace hS := Lib.hid hS
  go_wp2_with fail
  with_reducible refine (hcl.out 1 (by decide) _ _ hS.out).mono ?_
  rintro e w2 ⟨rfl, hS⟩
  replace hS := Lib.hid hS
  go_wp2_with fail
  with_reducible refine (hcl.out 2 (by decide) _ _ hS.out).mono ?_
  rintro e w3 ⟨rfl, hS⟩
  replace hS := Lib.hid hS
  go_wp2_with fail
  with_reducible refine (hcl.out 3 (by decide) _ _ hS.out).mono ?_
  rintro e w4 ⟨rfl, hS⟩
  replace hS := Lib.hid hS
  go_wp2_with fail
  with_reducible refine (hcl.out 4 (by decide) _ _ hS.out).mono ?_
  rintro e w5 ⟨rfl, hS⟩
  replace hS := Lib.hid hS
  go_wp2_with fail
  go_end0
  exact ⟨rfl, hS.out⟩


set_option maxRecDepth 10000 in
set_option maxHeartbeats 1000000 in
theorem same9_any (vs us : List Value) (f g : Nat → List UInt8) (w : World) (hv : Five w vs f) (hu : Five w us g) :
    Calls Tryd.prog 19 #[.agg vs.toArray, .agg us.toArray] w fun e w' => e = .returned (.bool (eqTo f g 5)) ∧ Below w.heap.size w w' := by
  have hvs := Lib.hid hv
  have hus := Lib.hid hu
  obtain ⟨a0, c0, a1, c1, a2, c2, a3, c3, a4, c4, e1, -⟩ := hv.lits
  obtain ⟨b0, d0, b1, d1, b2, d2, b3, d3, b4, d4, e2, -⟩ := hu.lits
  clear hv hu
  have e1' := Lib.hid e1
  have e2' := Lib.hid e2
  have hA : vs.toArray = #[.slice a0 (f 0).length c0, .slice a1 (f 1).length c1, .slice a2 (f 2).length c2, .slice a3 (f 3).length c3, .slice a4 (f 4).length c4] := by rw [e1]
  have hB : us.toArray = #[.slice b0 (g 0).length d0, .slice b1 (g 1).length d1, .slice b2 (g 2).length d2, .slice b3 (g 3).length d3, .slice b4 (g 4).length d4] := by rw [e2]
  clear e1 e2
  rw [hA, hB]
  replace hA := Lib.hid hA
  replace hB := Lib.hid hB
  obtain ⟨X, hX⟩ : ∃ X, X = ((((w.alloc (.cells #[.slice a0 (f 0).length c0, .slice a1 (f 1).length c1, .slice a2 (f 2).length c2, .slice a3 (f 3).length c3, .slice a4 (f 4).length c4] 36)).alloc (.cells #[.slice b0 (g 0).length d0, .slice b1 (g 1).length d1, .slice b2 (g 2).length d2, .slice b3 (g 3).length d3, .slice b4 (g 4).length d4] 36)).alloc (.cells #[.bool true] 4)).alloc (.cells #[.slice none 0 0] 60)) := ⟨_, rfl⟩
  have hbX : Below w.heap.size w X := by rw [hX]; exact ((((Below.refl _ w).alloc (Nat.le_refl _) _).alloc (by simp) _).alloc (by simp; omega) _).alloc (by simp; omega) _
  have hsz : X.heap.size = w.heap.size + 1 + 1 + 1 + 1 := by rw [hX]; simp
  have hx0 : X.heap[w.heap.size]? = some (.cells vs.toArray 36 (0, 0)) := by
    rw [hA.out, hX]; simp only [heapA]; simp; try (repeat (first | rw [if_neg (by omega)] | rw [if_pos (by omega)]))
  have hx1 : X.heap[w.heap.size + 1]? = some (.cells us.toArray 36 (0, 0)) := by
    rw [hB.out, hX]; simp only [heapA]; simp; try (repeat (first | rw [if_neg (by omega)] | rw [if_pos (by omega)]))
  have hx2 : X.heap[w.heap.size + 1 + 1]? = some (.cells #[.bool true] 4 (0, 0)) := by
    rw [hX]; simp only [heapA]; simp; try (repeat (first | rw [if_neg (by omega)] | rw [if_pos (by omega)]))
  have hx3 : X.heap[w.heap.size + 1 + 1 + 1]? = some (.cells #[.slice none 0 0] 60 (0, 0)) := by
    rw [hX]; simp only [heapA]; simp; try (repeat (first | rw [if_neg (by omega)] | rw [if_pos (by omega)]))
  have hS0 : S28 w X (w.heap.size + 1 + 1 + 1) f X 0 := ⟨hbX, ⟨Nat.le_refl _, fun _ _ _ => rfl⟩, ⟨by omega, by omega⟩, _, hx3, OwnBB.nil _ _⟩
  have h28 := Lib.hid (each28_any w X (w.heap.size + 1 + 1 + 1) w.heap.size vs f X (hvs.out.below hbX) hx0 (by omega) (slice_no hx3 ⟨_, _, _, rfl⟩) hS0)
  have hnext : ∀ w1, S28 w X (w.heap.size + 1 + 1 + 1) f w1 5 → Calls Tryd.prog 26 #[.pointer (some ⟨w.heap.size + 1, 0, none⟩), .func (Fn.func 29) #[] #[.pointer (some ⟨w.heap.size + 1 + 1, 0, none⟩), .pointer (some ⟨w.heap.size + 1 + 1 + 1, 0, none⟩)]] w1 fun e W' => e = .returned (.tuple #[]) ∧ T29 w w1 (w.heap.size + 1 + 1 + 1) (w.heap.size + 1 + 1) f g W' 5 := by
    intro w1 hS
    obtain ⟨v, hr, hown⟩ := hS.row
    have hs1 : w1.heap[w.heap.size + 1 + 1]? = some (.cells #[.bool true] 4 (0, 0)) := (hS.oth.2 _ (by omega) (by omega)).trans hx2
    have hb1 : w1.heap[w.heap.size + 1]? = some (.cells us.toArray 36 (0, 0)) := (hS.oth.2 _ (by omega) (by omega)).trans hx1
    have hge := hS.oth.1
    have hvv : ∃ a c, v = .slice a 5 c ∧ RowsFrom w1 (w.heap.size + 1 + 1 + 1) (w.heap.size + 1 + 1) a c f 0 := by
      obtain ⟨xs, h1, h2⟩ := hown
      rw [rowsTo_length] at h1 h2
      rcases h1.2 with ⟨_, h0⟩ | ⟨g0, cap, cur, rfl, hbg, hh, hnc, hcm, hcs, htake⟩
      · cases h0
      · refine ⟨_, cap, rfl, by omega, hcm, ?_, ?_⟩
        · intro b o e
          cases e
          exact ⟨by omega, by omega⟩
        · intro j _ hj
          obtain ⟨ai, ci, hx, ha, _⟩ := h2 j hj
          have hgd : (rowsTo f 5).getD j [] = f j := by simp [rowsTo, List.getD_eq_getElem?_getD, hj]
          rw [hgd] at hx ha
          refine ⟨g0, 0, ai, ci, rfl, ?_, ha⟩
          have := h1.cells (g := g0) rfl j _ hx
          have e1 : (⟨g0, 0, none⟩ : Addr).add j = ⟨g0, 0 + (j - 0), none⟩ := by unfold Addr.add; split <;> simp_all
          rw [← e1]
          exact this
    obtain ⟨a, c, rfl, hrow⟩ := hvv
    exact each29_any w w1 _ _ _ us f g w1 (hus.out.below hS.bel) hb1 ⟨by omega, by omega⟩ (slice_no hr ⟨_, _, _, rfl⟩) (one_no hs1 (fun x e => by cases e)) ⟨hS.bel, Nat.le_refl _, fun _ _ _ _ => rfl, ⟨⟨by omega, by omega⟩, ⟨by omega, by omega⟩, by omega⟩, hs1, a, c, hr, hrow⟩
  replace hnext := Lib.hid hnext
  clear hS0 hx0 hx1 hx2 hx3 hsz hbX
  replace hX := Lib.hid hX
  clear hvs; clear hus; clear e1'; clear e2'
  go_enter Tryd.func19, Tryd.ntmps19
  go_wp2_with fail
  rw [← hX.out]
  with_reducible refine h28.out.mono ?_
  rintro e w1 ⟨rfl, hS⟩
  have h29 := Lib.hid (hnext.out w1 hS)
  clear hS hnext h28
  go_wp2_with fail
  with_reducible refine h29.out.mono ?_
  rintro e w2 ⟨rfl, hT⟩
  clear h29
  have k1 : w2.cell? ⟨w.heap.size + 1 + 1, 0, none⟩ = some (.bool (eqTo f g 5)) := by rw [cell_of_block hT.same]; rfl
  have hb2 := Lib.hid hT.bel
  clear hT
  generalize hq : eqTo f g 5 = q at *
  replace hq := Lib.hid hq
  go_wp2_with fail
  go_ret
  exact ⟨by rw [hq.out]; rfl, hb2.out⟩

end Go.Proofs.YtfmeheolcibfeaaDoor
