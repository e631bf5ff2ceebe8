/- The walks over label.All and its closure. -/
import Derived.Test.YtfmeheolcibfeaaDoorKeyAny
namespace Go.Proofs.YtfmeheolcibfeaaDoor
open Go.RowKit

/-- The names of an object's keys. -/
def nmB : Nat → List UInt8
  | 0 => [109, 97, 115, 107]
  | 1 => [112, 108, 97, 99, 101]
  | 2 => [115, 101, 110, 116, 105, 110, 101, 108]
  | 3 => [116, 97, 103]
  | _ => [115, 112, 111, 116]
theorem nmB_lab (j : Nat) : labB (nmB j) = true := by
  match j with
  | 0 => decide
  | 1 => decide
  | 2 => decide
  | 3 => decide
  | j + 4 => show labB [115, 112, 111, 116] = true; decide
def aBad (key : List UInt8) (n : Int) : Int := if masB key.length then (if numdB n then 0 else 1) else 9
theorem kBad_nm (key : List UInt8) (n : Int) (j : Nat) : kBad key (nmB j) n = aBad key n := by
  unfold kBad aBad
  rw [nmB_lab j, if_pos rfl]
theorem aBad_cases (key : List UInt8) (n : Int) : aBad key n = 0 ∨ aBad key n = 1 ∨ aBad key n = 6 ∨ aBad key n = 9 := by
  rw [← kBad_nm key n 0]; exact kBad_cases _ _ _
theorem kX_bad {key : List UInt8} {n : Int} (h : aBad key n ≠ 0) (j : Nat) : kX key (nmB j) n = [] := by
  unfold kX
  rw [kBad_nm, if_neg h]

theorem ArgB.upd9 {W W' : World} {a : Option Addr} {c p : Nat} {o : Obj} {bs : List UInt8} (h : ArgB W a c bs) (hu : Upd p o W W') (hn : ∀ j x, W.cell? ⟨p, j, none⟩ ≠ some (.int .u8 x)) : ArgB W' a c bs :=
  ⟨h.len, h.most, h.nil, fun i hi => by
    obtain ⟨b, off, rfl, hc⟩ := h.row i hi
    refine ⟨b, off, rfl, ?_⟩
    have hne : b ≠ p := by rintro rfl; exact hn _ _ hc
    rw [← hc]
    exact World.cell?_of_block (a := ⟨b, off + i, none⟩) (hu.block b hne)⟩

/-- The state between the closure's calls. -/
structure AllS9 (w X : World) (mb nb bb ob : Nat) (ak : Option Addr) (ck : Nat) (key : List UInt8) (n : Int) (zr zn zk : Addr) (W : World) (i : Nat) : Prop where
  bel : Below w.heap.size w W
  oth : X.heap.size ≤ W.heap.size ∧ ∀ k, k < X.heap.size → k ≠ bb → k ≠ ob → W.heap[k]? = X.heap[k]?
  lt : w.heap.size ≤ bb ∧ w.heap.size ≤ ob
  ne : mb ≠ ob ∧ nb ≠ ob ∧ bb ≠ ob ∧ mb ≠ bb ∧ nb ≠ bb
  cm : W.heap[mb]? = some (.cells #[.slice ak key.length ck] 22 (0, 0))
  cn : W.heap[nb]? = some (.cells #[.int .i64 n] 3 (0, 0))
  bad : W.heap[bb]? = some (.cells #[if i = 0 then .nilIface else kE zr zn zk (aBad key n)] 26 (0, 0))
  out : ∃ vs : List Value, vs.length = 5 ∧ W.heap[ob]? = some (.cells vs.toArray 36 (0, 0)) ∧ (∀ v ∈ vs, ∃ a l c, v = Value.slice a l c) ∧ ∀ j, j < i → ∃ a c, vs[j]? = some (.slice a (kX key (nmB j) n).length c) ∧ ArgB W a c (kX key (nmB j) n)

section
variable {w X : World} {mb nb bb ob : Nat} {ak : Option Addr} {ck : Nat} {key : List UInt8} {n : Int} {zr zn zk : Addr}
theorem kE_cell (b : Int) (x : Int) : some (kE zr zn zk b) ≠ some (.int .u8 x) := by
  unfold kE
  split <;> (intro e; cases e)
theorem AllS9.badCell {W : World} {i : Nat} (h : AllS9 w X mb nb bb ob ak ck key n zr zn zk W i) : ∀ j x, W.cell? ⟨bb, j, none⟩ ≠ some (.int .u8 x) := by
  intro j x
  rw [cell_of_block h.bad]
  match j with
  | 0 =>
    show some (if i = 0 then Value.nilIface else kE zr zn zk (aBad key n)) ≠ _
    split
    · intro e; cases e
    · exact kE_cell _ _
  | j + 1 => intro e; simp at e
theorem AllS9.outCell {W : World} {i : Nat} (h : AllS9 w X mb nb bb ob ak ck key n zr zn zk W i) : ∀ j x, W.cell? ⟨ob, j, none⟩ ≠ some (.int .u8 x) := by
  obtain ⟨vs, h1, h2, h3, _⟩ := h.out
  intro j x
  rw [cell_of_block h2, List.getElem?_toArray]
  intro e
  obtain ⟨a, l, c, hv⟩ := h3 _ (List.mem_of_getElem? e)
  cases hv
theorem AllS9.grown {W W' : World} {i : Nat} (h : AllS9 w X mb nb bb ob ak ck key n zr zn zk W i) (hb : Below W.heap.size W W') : AllS9 w X mb nb bb ob ak ck key n zr zn zk W' i := by
  obtain ⟨vs, h1, h2, h3, h4⟩ := h.out
  exact ⟨h.bel.trans (hb.mono h.bel.size), ⟨Nat.le_trans h.oth.1 hb.size, fun k a b c => (hb.block k (by have := h.oth.1; omega)).trans (h.oth.2 k a b c)⟩, h.lt, h.ne, (hb.block _ (block_lt h.cm)).trans h.cm, (hb.block _ (block_lt h.cn)).trans h.cn, (hb.block _ (block_lt h.bad)).trans h.bad,
    vs, h1, (hb.block _ (block_lt h2)).trans h2, h3, fun j hj => by
      obtain ⟨a, c, e, ha⟩ := h4 j hj
      exact ⟨a, c, e, ha.below hb⟩⟩
/-- The error is kept. -/
theorem AllS9.err {W : World} {i : Nat} (h : AllS9 w X mb nb bb ob ak ck key n zr zn zk W i) : Upd bb (.cells #[kE zr zn zk (aBad key n)] 26 (0, 0)) W (W.setCell ⟨bb, 0, none⟩ (kE zr zn zk (aBad key n))) :=
  ((Upd.refl h.bad).setCell (j := 0) (kE zr zn zk (aBad key n))).to rfl
/-- A key is kept. -/
theorem AllS9.store {W W1 : World} {i : Nat} (h : AllS9 w X mb nb bb ob ak ck key n zr zn zk W i) (hu : W1 = W ∧ (i ≠ 0 ∨ aBad key n = 0) ∨ Upd bb (.cells #[kE zr zn zk (aBad key n)] 26 (0, 0)) W W1) {a : Option Addr} {c : Nat} (ha : ArgB W a c (kX key (nmB i) n)) (hi : i < 5) :
    AllS9 w X mb nb bb ob ak ck key n zr zn zk (W1.setCell ⟨ob, i, none⟩ (.slice a (kX key (nmB i) n).length c)) (i + 1) := by
  obtain ⟨vs, h1, h2, h3, h4⟩ := h.out
  obtain ⟨e1, e2, e3, e4, e5⟩ := h.ne
  have hbad1 : W1.heap[bb]? = some (.cells #[kE zr zn zk (aBad key n)] 26 (0, 0)) := by
    rcases hu with ⟨rfl, hz⟩ | hu
    · rw [h.bad]
      rcases hz with hz | hz
      · rw [if_neg hz]
      · rw [hz, show kE zr zn zk 0 = .nilIface from rfl]; simp
    · exact hu.here
  have hoth : ∀ k, k ≠ bb → W1.heap[k]? = W.heap[k]? := by
    rcases hu with ⟨rfl, _⟩ | hu
    · intro k _; rfl
    · exact hu.block
  have hb1 : Below w.heap.size w W1 := by
    rcases hu with ⟨rfl, _⟩ | hu
    · exact h.bel
    · exact h.bel.trans (hu.below h.lt.1)
  have hargs : ∀ {a c bs}, ArgB W a c bs → ArgB W1 a c bs := by
    rcases hu with ⟨rfl, _⟩ | hu
    · exact fun h => h
    · exact fun hx => hx.upd9 hu h.badCell
  have ho1 := (hoth ob e3.symm).trans h2
  have hU := (Upd.refl ho1).setCell (j := i) (.slice a (kX key (nmB i) n).length c)
  have hoc : ∀ j x, W1.cell? ⟨ob, j, none⟩ ≠ some (.int .u8 x) := by
    intro j x
    rw [cell_of_block ho1, List.getElem?_toArray]
    intro e
    obtain ⟨a, l, c, hv⟩ := h3 _ (List.mem_of_getElem? e)
    cases hv
  have hsz1 : W1.heap.size = W.heap.size := by
    rcases hu with ⟨rfl, _⟩ | hu
    · rfl
    · exact hu.size
  refine ⟨hb1.trans (hU.below h.lt.2), ⟨by rw [hU.size, hsz1]; exact h.oth.1, fun k p q r => (hU.block k r).trans ((hoth k q).trans (h.oth.2 k p q r))⟩, h.lt, h.ne, (hU.block mb e1).trans ((hoth mb e4).trans h.cm), (hU.block nb e2).trans ((hoth nb e5).trans h.cn), (hU.block bb e3).trans (by rw [hbad1, if_neg (Nat.succ_ne_zero i)]),
    vs.set i (.slice a (kX key (nmB i) n).length c), by rw [List.length_set]; exact h1, hU.here.trans (by simp), fun v hv => ?_, fun j hj => ?_⟩
  · rcases List.mem_or_eq_of_mem_set hv with hv | rfl
    · exact h3 v hv
    · exact ⟨_, _, _, rfl⟩
  · rcases Nat.lt_or_ge j i with hlt | hge
    · obtain ⟨a', c', e, ha'⟩ := h4 j hlt
      exact ⟨a', c', by rw [List.getElem?_set_ne (by omega)]; exact e, (hargs ha').upd9 hU hoc⟩
    · obtain rfl : j = i := by omega
      exact ⟨a, c, by rw [List.getElem?_set_self (by omega)], (hargs ha).upd9 hU hoc⟩

set_option maxRecDepth 10000 in
set_option maxHeartbeats 1000000 in
theorem clo_any (i : Nat) (hi : i < 5) (s : ByteArray) (hs : s.data.toList = nmB i) (hsz : s.size ≤ 80000) (W : World) (hk : ArgB w ak ck key) (hx : key.length ≤ 9223372036854775807) (hW : LabK zr zn zk w) (hS : AllS9 w X mb nb bb ob ak ck key n zr zn zk W i) :
    Calls Tryd.prog 27 #[.string s, .pointer (some ⟨ob, i, none⟩), .pointer (some ⟨mb, 0, none⟩), .pointer (some ⟨nb, 0, none⟩), .pointer (some ⟨bb, 0, none⟩)] W fun e W' => e = .returned (.tuple #[]) ∧ AllS9 w X mb nb bb ob ak ck key n zr zn zk W' (i + 1) := by
  have k1 : W.cell? ⟨mb, 0, none⟩ = some (.slice ak key.length ck) := by rw [cell_of_block hS.cm]; rfl
  have k2 : W.cell? ⟨nb, 0, none⟩ = some (.int .i64 n) := by rw [cell_of_block hS.cn]; rfl
  have hky := lKey_any ak ck key s n zr zn zk W (hk.below hS.bel) hx hsz (hW.below hS.bel)
  rw [hs, kBad_nm] at hky
  replace hky := Lib.hid hky
  replace hS := Lib.hid hS
  by_cases hz : aBad key n = 0
  · rw [show kE zr zn zk (aBad key n) = .nilIface from by unfold kE; rw [if_pos hz]] at hky
    replace hz := Lib.hid hz
    clear hs
    go_enter Tryd.func27, Tryd.ntmps27
    go_wp2_with fail
    with_reducible refine hky.out.mono ?_
    rintro e w5 ⟨a5, c5, rfl, h5, hb5⟩
    have hS5 := hS.out.grown hb5
    obtain ⟨vs, g1, g2, g3, g4⟩ := hS5.out
    have kf : w5.frozen? ⟨ob, i, none⟩ = false := free_of_block g2 i
    have kc : w5.cell? ⟨ob, i, none⟩ = some (vs.getD i undef) := by rw [cell_of_block g2, List.getElem?_toArray]; simp [List.getD_eq_getElem?_getD, g1, hi]
    have hfin := Lib.hid (hS5.store (.inl ⟨rfl, .inr hz.out⟩) h5 hi)
    replace hS5 := Lib.hid hS5
    clear g2 g3 g4 h5 hb5 hky
    generalize vs.getD i undef = old at *
    go_wp2_with fail
    go_end0
    exact ⟨rfl, hfin.out⟩
  · obtain ⟨ze, hze⟩ : ∃ z, kE zr zn zk (aBad key n) = .iface 129 (.pointer (some z)) := ⟨_, by unfold kE; rw [if_neg hz]⟩
    rw [hze] at hky
    clear hs
    go_enter Tryd.func27, Tryd.ntmps27
    go_wp2_with fail
    with_reducible refine hky.out.mono ?_
    rintro e w5 ⟨a5, c5, rfl, h5, hb5⟩
    have hS5 := hS.out.grown hb5
    have hu := hS5.err
    rw [hze] at hu
    obtain ⟨vs, g1, g2, g3, g4⟩ := hS5.out
    have e3 := hS5.ne.2.2.1
    have kf : (w5.setCell ⟨bb, 0, none⟩ (.iface 129 (.pointer (some ze)))).frozen? ⟨ob, i, none⟩ = false := free_of_block ((hu.block ob e3.symm).trans g2) i
    have kc : (w5.setCell ⟨bb, 0, none⟩ (.iface 129 (.pointer (some ze)))).cell? ⟨ob, i, none⟩ = some (vs.getD i undef) := by rw [cell_of_block ((hu.block ob e3.symm).trans g2), List.getElem?_toArray]; simp [List.getD_eq_getElem?_getD, g1, hi]
    have kbf : w5.frozen? ⟨bb, 0, none⟩ = false := free_of_block hS5.bad 0
    have kbc : w5.cell? ⟨bb, 0, none⟩ = some (if i = 0 then .nilIface else kE zr zn zk (aBad key n)) := by rw [cell_of_block hS5.bad]; rfl
    rw [← hze] at hu
    have hfin := Lib.hid (hS5.store (.inr hu) h5 hi)
    rw [hze] at hfin
    replace hS5 := Lib.hid hS5
    replace hz := Lib.hid hz
    replace hze := Lib.hid hze
    replace hu := Lib.hid hu
    clear g2 g3 g4 h5 hb5 hky
    generalize vs.getD i undef = old at *
    generalize (if i = 0 then Value.nilIface else kE zr zn zk (aBad key n)) = old2 at *
    replace e3 := Lib.hid e3
    go_wp2_with fail
    go_end0
    exact ⟨rfl, hfin.out⟩
set_option maxRecDepth 10000 in
set_option maxHeartbeats 1000000 in
theorem each_any (W : World) (hk : ArgB w ak ck key) (hx : key.length ≤ 9223372036854775807) (hW : LabK zr zn zk w) (hS : AllS9 w X mb nb bb ob ak ck key n zr zn zk W 0) :
    Calls Tryd.prog 26 #[.pointer (some ⟨ob, 0, none⟩), .func (Fn.func 27) #[] #[.pointer (some ⟨mb, 0, none⟩), .pointer (some ⟨nb, 0, none⟩), .pointer (some ⟨bb, 0, none⟩)]] W fun e W' => e = .returned (.tuple #[]) ∧ AllS9 w X mb nb bb ob ak ck key n zr zn zk W' 5 := by
  replace hS := Lib.hid hS
  go_enter Tryd.func26, Tryd.ntmps26
  go_wp2_with fail
  with_reducible refine (clo_any 0 (by decide) ⟨#[109, 97, 115, 107]⟩ rfl (by decide) _ hk hx hW hS.out).mono ?_
  rintro e w1 ⟨rfl, hS⟩
  replace hS := Lib.hid hS
  go_wp2_with fail
  with_reducible refine (clo_any 1 (by decide) ⟨#[112, 108, 97, 99, 101]⟩ rfl (by decide) _ hk hx hW hS.out).mono ?_
  rintro e w2 ⟨rfl, hS⟩
  replace hS := Lib.hid hS
  go_wp2_with fail
  with_reducible refine (clo_any 2 (by decide) ⟨#[115, 101, 110, 116, 105, 110, 101, 108]⟩ rfl (by decide) _ hk hx hW hS.out).mono ?_
  rintro e w3 ⟨rfl, hS⟩
  replace hS := Lib.hid hS
  go_wp2_with fail
  with_reducible refine (clo_any 3 (by decide) ⟨#[116, 97, 103]⟩ rfl (by decide) _ hk hx hW hS.out).mono ?_
  rintro e w4 ⟨rfl, hS⟩
  replace hS := Lib.hid hS
  go_wp2_with fail
  with_reducible refine (clo_any 4 (by decide) ⟨#[115, 112, 111, 116]⟩ rfl (by decide) _ hk hx hW hS.out).mono ?_
  rintro e w5 ⟨rfl, hS⟩
  replace hS := Lib.hid hS
  go_wp2_with fail
  go_end0
  exact ⟨rfl, hS.out⟩
end

theorem heapA (w : World) (o : Obj) (k : Nat) : (w.alloc o).heap[k]? = if k = w.heap.size then some o else w.heap[k]? := by
  show (w.heap.push o)[k]? = _
  rw [Array.getElem?_push]
/-- Five rows of bytes, side by side. -/
def Five (W : World) (vs : List Value) (f : Nat → List UInt8) : Prop := vs.length = 5 ∧ ∀ j, j < 5 → ∃ a c, vs[j]? = some (.slice a (f j).length c) ∧ ArgB W a c (f j)
theorem Five.below {W W' : World} {vs : List Value} {f : Nat → List UInt8} (h : Five W vs f) (hb : Below W.heap.size W W') : Five W' vs f :=
  ⟨h.1, fun j hj => by obtain ⟨a, c, e, ha⟩ := h.2 j hj; exact ⟨a, c, e, ha.below hb⟩⟩
theorem Five.lits {W : World} {vs : List Value} {f : Nat → List UInt8} (h : Five W vs f) : ∃ a0 c0 a1 c1 a2 c2 a3 c3 a4 c4, vs = [.slice a0 (f 0).length c0, .slice a1 (f 1).length c1, .slice a2 (f 2).length c2, .slice a3 (f 3).length c3, .slice a4 (f 4).length c4] ∧
    ArgB W a0 c0 (f 0) ∧ ArgB W a1 c1 (f 1) ∧ ArgB W a2 c2 (f 2) ∧ ArgB W a3 c3 (f 3) ∧ ArgB W a4 c4 (f 4) := by
  obtain ⟨hl, h⟩ := h
  obtain ⟨a0, c0, e0, h0⟩ := h 0 (by decide)
  obtain ⟨a1, c1, e1, h1⟩ := h 1 (by decide)
  obtain ⟨a2, c2, e2, h2⟩ := h 2 (by decide)
  obtain ⟨a3, c3, e3, h3⟩ := h 3 (by decide)
  obtain ⟨a4, c4, e4, h4⟩ := h 4 (by decide)
  refine ⟨a0, c0, a1, c1, a2, c2, a3, c3, a4, c4, ?_, h0, h1, h2, h3, h4⟩
  match vs, hl with
  | [v0, v1, v2, v3, v4], _ =>
    simp at e0 e1 e2 e3 e4
    rw [e0, e1, e2, e3, e4]
/-- A block that holds other things than bytes is stored over. -/
theorem Five.upd {W W' : World} {p : Nat} {o : Obj} {vs : List Value} {f : Nat → List UInt8} (h : Five W vs f) (hu : Upd p o W W') (hn : ∀ j x, W.cell? ⟨p, j, none⟩ ≠ some (.int .u8 x)) : Five W' vs f :=
  ⟨h.1, fun j hj => by obtain ⟨a, c, e, ha⟩ := h.2 j hj; exact ⟨a, c, e, ha.upd9 hu hn⟩⟩

end Go.Proofs.YtfmeheolcibfeaaDoor
