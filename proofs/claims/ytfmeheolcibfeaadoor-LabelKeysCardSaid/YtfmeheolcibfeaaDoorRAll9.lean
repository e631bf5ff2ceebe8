/- The walk over the reference's All. -/
import Derived.Test.YtfmeheolcibfeaaDoorAll9
import Derived.Test.YtfmeheolcibfeaaDoorStoreRow
namespace Go.Proofs.YtfmeheolcibfeaaDoor
open Go.RowKit

def zero5 : Array Value := #[.slice none 0 0, .slice none 0 0, .slice none 0 0, .slice none 0 0, .slice none 0 0]
def names5 : Array Value := #[.string ⟨#[109, 97, 115, 107]⟩, .string ⟨#[112, 108, 97, 99, 101]⟩, .string ⟨#[115, 101, 110, 116, 105, 110, 101, 108]⟩, .string ⟨#[116, 97, 103]⟩, .string ⟨#[115, 112, 111, 116]⟩]
theorem names5_at (i : Nat) (hi : i < 5) : names5[i]? = some (.string ⟨(nmB i).toArray⟩) := by
  match i, hi with
  | 0, _ => rfl
  | 1, _ => rfl
  | 2, _ => rfl
  | 3, _ => rfl
  | 4, _ => rfl
theorem nmB_size (i : Nat) : (⟨(nmB i).toArray⟩ : ByteArray).size ≤ 80000 := by
  match i with
  | 0 => decide
  | 1 => decide
  | 2 => decide
  | 3 => decide
  | i + 4 => show (⟨#[115, 112, 111, 116]⟩ : ByteArray).size ≤ 80000; decide

structure RAllS (w X : World) (ob : Nat) (key : List UInt8) (n : Int) (W : World) (i : Nat) : Prop where
  bel : Below w.heap.size w W
  oth : X.heap.size ≤ W.heap.size ∧ ∀ k, k < X.heap.size → k ≠ ob → W.heap[k]? = X.heap[k]?
  lt : w.heap.size ≤ ob ∧ ob < X.heap.size
  out : ∃ vs : List Value, vs.length = 5 ∧ W.heap[ob]? = some (.cells vs.toArray 39 (0, 0)) ∧ (∀ v ∈ vs, ∃ a l c, v = Value.slice a l c) ∧ ∀ j, j < i → ∃ a c, vs[j]? = some (.slice a (kX key (nmB j) n).length c) ∧ ArgB W a c (kX key (nmB j) n)
theorem RAllS.grown {w X W W' : World} {ob : Nat} {key : List UInt8} {n : Int} {i : Nat} (h : RAllS w X ob key n W i) (hb : Below W.heap.size W W') : RAllS w X ob key n W' i := by
  obtain ⟨vs, h1, h2, h3, h4⟩ := h.out
  exact ⟨h.bel.trans (hb.mono h.bel.size), ⟨Nat.le_trans h.oth.1 hb.size, fun k a b => (hb.block k (by have := h.oth.1; omega)).trans (h.oth.2 k a b)⟩, h.lt,
    vs, h1, (hb.block _ (block_lt h2)).trans h2, h3, fun j hj => by
      obtain ⟨a, c, e, ha⟩ := h4 j hj
      exact ⟨a, c, e, ha.below hb⟩⟩
theorem RAllS.store {w X W : World} {ob : Nat} {key : List UInt8} {n : Int} {i : Nat} (h : RAllS w X ob key n W i) {a : Option Addr} {c : Nat} (ha : ArgB W a c (kX key (nmB i) n)) (hi : i < 5) :
    RAllS w X ob key n (W.setCell ⟨ob, i, none⟩ (.slice a (kX key (nmB i) n).length c)) (i + 1) := by
  obtain ⟨vs, h1, h2, h3, h4⟩ := h.out
  have hU := (Upd.refl h2).setCell (j := i) (.slice a (kX key (nmB i) n).length c)
  have hoc : ∀ j x, W.cell? ⟨ob, j, none⟩ ≠ some (.int .u8 x) := by
    intro j x
    rw [cell_of_block h2, List.getElem?_toArray]
    intro e
    obtain ⟨a, l, c, hv⟩ := h3 _ (List.mem_of_getElem? e)
    cases hv
  refine ⟨h.bel.trans (hU.below h.lt.1), ⟨by rw [hU.size]; exact h.oth.1, fun k p q => (hU.block k q).trans (h.oth.2 k p q)⟩, h.lt,
    vs.set i (.slice a (kX key (nmB i) n).length c), by rw [List.length_set]; exact h1, hU.here.trans (by simp), fun v hv => ?_, fun j hj => ?_⟩
  · rcases List.mem_or_eq_of_mem_set hv with hv | rfl
    · exact h3 v hv
    · exact ⟨_, _, _, rfl⟩
  · rcases Nat.lt_or_ge j i with hlt | hge
    · obtain ⟨a', c', e, ha'⟩ := h4 j hlt
      exact ⟨a', c', by rw [List.getElem?_set_ne (by omega)]; exact e, ha'.upd9 hU hoc⟩
    · obtain rfl : j = i := by omega
      exact ⟨a, c, by rw [List.getElem?_set_self (by omega)], ha.upd9 hU hoc⟩

set_option maxRecDepth 10000 in
set_option maxHeartbeats 1000000 in
theorem rAll9_any (ak : Option Addr) (ck : Nat) (key : List UInt8) (n : Int) (w : World) (hk : ArgB w ak ck key) (hx : key.length ≤ 9223372036854775807) (hK : RefK w) (hF : RefF w) :
    Calls Tryd.prog 16 #[.slice ak key.length ck, .int .i64 n] w fun e w' => ∃ vs, e = .returned (.tuple #[.agg vs.toArray, .int .i64 (aBad key n)]) ∧ Five w' vs (fun j => kX key (nmB j) n) ∧ Below w.heap.size w w' := by
  obtain ⟨X, hX⟩ : ∃ X, X = ((w.alloc (.cells zero5 39)).alloc (.cells zero5 39)).alloc (.cells names5 9) := ⟨_, rfl⟩
  have hXl := Lib.hid hX
  unfold zero5 names5 at hX
  have hbX : Below w.heap.size w X := by rw [hX]; exact (((Below.refl _ w).alloc (Nat.le_refl _) _).alloc (by simp) _).alloc (by simp; omega) _
  have hres : X.heap[w.heap.size]? = some (.cells zero5 39 (0, 0)) := by rw [hXl.out]; simp only [heapA]; simp; try omega
  have hout : X.heap[w.heap.size + 1]? = some (.cells zero5 39 (0, 0)) := by rw [hXl.out]; simp only [heapA]; simp; try omega
  have hnam : X.heap[w.heap.size + 1 + 1]? = some (.cells names5 9 (0, 0)) := by rw [hXl.out]; simp only [heapA]; simp; try omega
  have hS : RAllS w X (w.heap.size + 1) key n X 0 := ⟨hbX, ⟨Nat.le_refl _, fun _ _ _ => rfl⟩, ⟨by omega, block_lt hout⟩, zero5.toList, rfl, by rw [Array.toArray_toList]; exact hout, fun v hv => by
    simp [zero5] at hv; subst hv; exact ⟨_, _, _, rfl⟩, fun j hj => absurd hj (Nat.not_lt_zero j)⟩
  have hszZ : (Tryd.prog.info? 39).map (·.size) = some 5 := by kernel_rfl
  have hzc := Tryd.underlying39
  replace hbX := Lib.hid hbX; replace hres := Lib.hid hres; replace hout := Lib.hid hout; replace hnam := Lib.hid hnam; replace hS := Lib.hid hS
  replace hX := Lib.hid hX
  go_enter Tryd.func16, Tryd.ntmps16
  go_wp2_with fail
  rw [← hX.out]
  go_loopw [14] (fun j wr => ∃ i : Nat, i ≤ 5 ∧ j = .int .i64 i ∧ (i = 0 ∨ aBad key n = 0) ∧ RAllS w X (w.heap.size + 1) key n wr i) (fun j _ => 5 - (intOf j).toNat)
  case atStart => exact ⟨0, Nat.zero_le _, rfl, .inl rfl, hS.out⟩
  case round =>
    obtain ⟨i, hi, rfl, hz0, hSr⟩ := hrel
    replace hz0 := Lib.hid hz0
    by_cases hlt : i < 5
    · have hli : (i : Int) < 5 := by omega
      have hnr : wr.heap[w.heap.size + 1 + 1]? = some (.cells names5 9 (0, 0)) := by rw [hSr.oth.2 _ (block_lt hnam.out) (by omega)]; exact hnam.out
      have kn : wr.cell? ⟨w.heap.size + 1 + 1, i, none⟩ = some (.string ⟨(nmB i).toArray⟩) := by rw [cell_of_block hnr]; exact names5_at i hlt
      have hky := rKey_any ak ck key ⟨(nmB i).toArray⟩ n wr (hk.below hSr.bel) hx (nmB_size i) (hK.below hSr.bel) (hF.below hSr.bel)
      rw [show (⟨(nmB i).toArray⟩ : ByteArray).data.toList = nmB i from rfl, kBad_nm] at hky
      have hne : w.heap.size ≠ w.heap.size + 1 := by omega
      replace hky := Lib.hid hky
      replace hSr := Lib.hid hSr
      replace hnr := Lib.hid hnr
      replace hne := Lib.hid hne
      generalize (⟨(nmB i).toArray⟩ : ByteArray) = s at *
      by_cases hz : aBad key n = 0
      · rw [hz] at hky
        replace hz := Lib.hid hz
        go_wp2_with fail
        with_reducible refine hky.out.mono ?_
        rintro e w5 ⟨a5, c5, rfl, h5, hb5⟩
        have hS5 := hSr.out.grown hb5
        obtain ⟨vs, g1, g2, g3, g4⟩ := hS5.out
        have kf : w5.frozen? ⟨w.heap.size + 1, i, none⟩ = false := free_of_block g2 i
        have kc : w5.cell? ⟨w.heap.size + 1, i, none⟩ = some (vs.getD i undef) := by rw [cell_of_block g2, List.getElem?_toArray]; simp [List.getD_eq_getElem?_getD, g1, hlt]
        have hfin := Lib.hid (hS5.store h5 hlt)
        replace hS5 := Lib.hid hS5
        clear g2 g3 g4 h5 hb5 hky
        generalize vs.getD i undef = old at *
        go_wp2_with fail
        exact ⟨⟨i + 1, by omega, by go_num, .inr hz.out, hfin.out⟩, by simp [intOf]; omega⟩
      · have hbn : (aBad key n != 0) = true := by simpa using hz
        have hzf := Lib.hid (show ∀ W, Five W [.slice none 0 0, .slice none 0 0, .slice none 0 0, .slice none 0 0, .slice none 0 0] (fun j => kX key (nmB j) n) from fun W => ⟨rfl, fun j hj => by
          show ∃ a c, _ = some (Value.slice a (kX key (nmB j) n).length c) ∧ ArgB W a c (kX key (nmB j) n)
          rw [kX_bad hz j]
          refine ⟨none, 0, ?_, argB_none9 W⟩
          match j, hj with
          | 0, _ => rfl
          | 1, _ => rfl
          | 2, _ => rfl
          | 3, _ => rfl
          | 4, _ => rfl⟩)
        replace hz := Lib.hid hz
        go_wp2_with fail
        with_reducible refine hky.out.mono ?_
        rintro e w5 ⟨a5, c5, rfl, h5, hb5⟩
        have hS5 := hSr.out.grown hb5
        have hrw := Lib.hid (show w5.heap[w.heap.size]? = some (.cells zero5 39 (0, 0)) from by rw [hS5.oth.2 _ (block_lt hres.out) hne.out]; exact hres.out)
        have hbl := Lib.hid hS5.bel
        clear hS5 h5 hb5 hky
        have hszZ2 := Lib.hid (show (Tryd.prog.info? 39).map (·.size) = some (#[Value.slice none 0 0, .slice none 0 0, .slice none 0 0, .slice none 0 0, .slice none 0 0] : Array Value).size from hszZ)
        go_wp2_with (with_reducible refine wpList_store_row rfl 39 (.tmp 4) (.tmp 28) rfl w.heap.size zero5 #[.slice none 0 0, .slice none 0 0, .slice none 0 0, .slice none 0 0, .slice none 0 0] rfl rfl hrw hszZ2.out (by unfold zero5; rfl) (by kernel_rfl) ?_)
        intro w7 hU
        have hb7 := Lib.hid (hbl.out.trans (hU.out.below (Nat.le_refl _)))
        have hr7 := Lib.hid hU.out.here
        clear hU
        go_wp2_with fail
        exact ret_cell_tmpB rfl rfl hzc rfl hszZ2.out hr7.out ⟨_, rfl, hzf.out _, hb7.out⟩
    · obtain rfl : i = 5 := by omega
      have hz : aBad key n = 0 := by rcases hz0.out with h | h
                                     · exact absurd h (by decide)
                                     · exact h
      have hrw := Lib.hid (show wr.heap[w.heap.size]? = some (.cells zero5 39 (0, 0)) from by rw [hSr.oth.2 _ (block_lt hres.out) (by omega)]; exact hres.out)
      obtain ⟨vs, g1, g2, g3, g4⟩ := hSr.out
      have hfive := Lib.hid (show Five wr vs (fun j => kX key (nmB j) n) from ⟨g1, g4⟩)
      have hbl := Lib.hid hSr.bel
      have hnb := Lib.hid (fun j x => show wr.cell? ⟨w.heap.size, j, none⟩ ≠ some (.int .u8 x) from by
        rw [cell_of_block hrw.out, zero5, List.getElem?_toArray]
        intro e
        have := List.mem_of_getElem? e
        simp at this)
      replace g2 := Lib.hid g2
      replace hz := Lib.hid hz
      have ha1 : (vs.toArray.all (·.oneCell')) = true := by
        rw [List.all_toArray, List.all_eq_true]
        intro v hv
        obtain ⟨a, l, c, rfl⟩ := g3 v hv
        rfl
      have hsv : vs.toArray.size = 5 := by rw [List.size_toArray]; exact g1
      have hszV : (Tryd.prog.info? 39).map (·.size) = some vs.toArray.size := by rw [hsv]; exact hszZ
      have hs5 : zero5.size = vs.toArray.size := by rw [hsv]; rfl
      clear g3 g4 hSr
      replace hsv := Lib.hid hsv
      replace g1 := Lib.hid g1
      generalize hV : vs.toArray = V at *
      replace hV := Lib.hid hV
      go_wp2_with (first | with_reducible refine wpList_load_row rfl 39 (.tmp 6) rfl (w.heap.size + 1) V _ rfl g2 hzc rfl hszV ?_ | with_reducible refine wpList_store_row rfl 39 (.tmp 4) (.tmp 34) rfl w.heap.size zero5 V rfl rfl hrw hszV hs5 ha1 ?_)
      intro w3 hU
      have hf3 := Lib.hid (hfive.out.upd hU.out hnb.out)
      have hb3 := Lib.hid (hbl.out.trans (hU.out.below (Nat.le_refl _)))
      have hr3 := Lib.hid hU.out.here
      clear hU
      go_wp2_with fail
      exact ret_cell_tmpB rfl rfl hzc rfl hszV hr3.out ⟨vs, by rw [hz.out, hV.out]; rfl, hf3.out, hb3.out⟩

end Go.Proofs.YtfmeheolcibfeaaDoor
