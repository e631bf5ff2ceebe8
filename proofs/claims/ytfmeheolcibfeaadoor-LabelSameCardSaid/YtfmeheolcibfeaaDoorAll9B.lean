/- The walk over label.All. -/
import Derived.Test.YtfmeheolcibfeaaDoorAll9
import Derived.Test.YtfmeheolcibfeaaDoorStoreRow
import Derived.Test.YtfmeheolcibfeaaDoorOnL
namespace Go.Proofs.YtfmeheolcibfeaaDoor
open Go.RowKit

set_option maxRecDepth 10000 in
set_option maxHeartbeats 1000000 in
theorem all9_any (ak : Option Addr) (ck : Nat) (key : List UInt8) (n : Int) (zr zn zk : Addr) (w : World) (hk : ArgB w ak ck key) (hx : key.length ≤ 9223372036854775807) (hW : LabK zr zn zk w) :
    Calls Tryd.prog 15 #[.slice ak key.length ck, .int .i64 n] w fun e w' => ∃ vs, e = .returned (.tuple #[.agg vs.toArray, kE zr zn zk (aBad key n)]) ∧ Five w' vs (fun j => kX key (nmB j) n) ∧ Below w.heap.size w w' := by
  obtain ⟨X, hX⟩ : ∃ X, X = ((((w.alloc (.cells #[.slice ak key.length ck] 22)).alloc (.cells #[.int .i64 n] 3)).alloc (.cells #[.slice none 0 0, .slice none 0 0, .slice none 0 0, .slice none 0 0, .slice none 0 0] 36)).alloc (.cells #[.slice none 0 0, .slice none 0 0, .slice none 0 0, .slice none 0 0, .slice none 0 0] 36)).alloc (.cells #[.nilIface] 26) := ⟨_, rfl⟩
  have hbX : Below w.heap.size w X := by rw [hX]; exact (((((Below.refl _ w).alloc (Nat.le_refl _) _).alloc (by simp) _).alloc (by simp; omega) _).alloc (by simp; omega) _).alloc (by simp; omega) _
  have hS : AllS9 w X w.heap.size (w.heap.size + 1) (w.heap.size + 1 + 1 + 1 + 1) (w.heap.size + 1 + 1 + 1) ak ck key n zr zn zk X 0 := by
    refine ⟨hbX, ⟨Nat.le_refl _, fun _ _ _ _ => rfl⟩, ⟨by omega, by omega⟩, ⟨by omega, by omega, by omega, by omega, by omega⟩, ?_, ?_, ?_, [.slice none 0 0, .slice none 0 0, .slice none 0 0, .slice none 0 0, .slice none 0 0], rfl, ?_, ?_, fun j hj => absurd hj (Nat.not_lt_zero j)⟩
    · rw [hX]; simp only [heapA]; simp; try (repeat (first | rw [if_neg (by omega)] | rw [if_pos (by omega)]))
    · rw [hX]; simp only [heapA]; simp; try (repeat (first | rw [if_neg (by omega)] | rw [if_pos (by omega)]))
    · rw [hX]; simp only [heapA]; simp; try (repeat (first | rw [if_neg (by omega)] | rw [if_pos (by omega)]))
    · rw [hX]; simp only [heapA]; simp; try (repeat (first | rw [if_neg (by omega)] | rw [if_pos (by omega)]))
    · intro v hv; simp at hv; subst hv; exact ⟨_, _, _, rfl⟩
  have hres : X.heap[w.heap.size + 1 + 1]? = some (.cells #[.slice none 0 0, .slice none 0 0, .slice none 0 0, .slice none 0 0, .slice none 0 0] 36 (0, 0)) := by
    rw [hX]; simp only [heapA]; simp; try (repeat (first | rw [if_neg (by omega)] | rw [if_pos (by omega)]))
  have hea := Lib.hid (each_any X hk hx hW hS)
  clear hS
  replace hbX := Lib.hid hbX
  have hres2 := Lib.hid hres
  replace hX := Lib.hid hX
  clear hres
  go_enter Tryd.func15, Tryd.ntmps15
  go_wp2_with fail
  rw [← hX.out]
  with_reducible refine hea.out.mono ?_
  rintro e w1 ⟨rfl, hS⟩
  have hS2 := hS
  obtain ⟨vs, g1, g2, g3, g4⟩ := hS.out
  have hrw : w1.heap[w.heap.size + 1 + 1]? = some (.cells #[.slice none 0 0, .slice none 0 0, .slice none 0 0, .slice none 0 0, .slice none 0 0] 36 (0, 0)) := by
    rw [hS.oth.2 _ (block_lt hres2.out) (by omega) (by omega)]; exact hres2.out
  have hfive : Five w1 vs (fun j => kX key (nmB j) n) := ⟨g1, g4⟩
  have kb : w1.cell? ⟨w.heap.size + 1 + 1 + 1 + 1, 0, none⟩ = some (kE zr zn zk (aBad key n)) := by rw [cell_of_block hS.bad]; rfl
  have hbw := Lib.hid hS.bel
  clear hS hS2
  replace g2 := Lib.hid g2
  replace hrw := Lib.hid hrw
  have hszT : (Tryd.prog.info? 36).map (·.size) = some 5 := by kernel_rfl
  have hbne := Lib.hid (show w.heap.size + 1 + 1 + 1 + 1 ≠ w.heap.size + 1 + 1 from by omega)
  have hge := Lib.hid (show w.heap.size ≤ w.heap.size + 1 + 1 from by omega)
  have hnb := Lib.hid (fun j x => show w1.cell? ⟨w.heap.size + 1 + 1, j, none⟩ ≠ some (.int .u8 x) from by
    rw [cell_of_block hrw.out, List.getElem?_toArray]
    intro e
    have := List.mem_of_getElem? e
    simp at this)
  have hzc := Tryd.underlying36
  by_cases hz : aBad key n = 0
  · rw [hz, show kE zr zn zk 0 = .nilIface from rfl] at kb
    replace hz := Lib.hid hz
    replace hfive := Lib.hid hfive
    replace g1 := Lib.hid g1
    have ha1 : (vs.toArray.all (·.oneCell')) = true := by
      rw [List.all_toArray, List.all_eq_true]
      intro v hv
      obtain ⟨a, l, c, rfl⟩ := g3 v hv
      rfl
    have hsv : vs.toArray.size = 5 := by rw [List.size_toArray]; exact g1.out
    have hszV : (Tryd.prog.info? 36).map (·.size) = some vs.toArray.size := by rw [hsv]; exact hszT
    have hs5 : (#[Value.slice none 0 0, .slice none 0 0, .slice none 0 0, .slice none 0 0, .slice none 0 0] : Array Value).size = vs.toArray.size := by rw [hsv]; rfl
    clear g3 g4
    replace hsv := Lib.hid hsv
    generalize hV : vs.toArray = V at *
    replace hV := Lib.hid hV
    go_wp2_with (first | with_reducible refine wpList_load_row rfl 36 (.tmp 6) rfl (w.heap.size + 1 + 1 + 1) V _ rfl g2 hzc rfl hszV ?_ | with_reducible refine wpList_store_row rfl 36 (.tmp 4) (.tmp 14) rfl (w.heap.size + 1 + 1) _ V rfl rfl hrw hszV hs5 ha1 ?_)
    intro w3 hU
    have hf3 := Lib.hid (hfive.out.upd hU.out hnb.out)
    have hb3 := Lib.hid (hbw.out.trans (hU.out.below hge.out))
    have hr3 := Lib.hid hU.out.here
    clear hU
    go_wp2_with fail
    exact ret_cell_tmpB rfl rfl hzc rfl hszV hr3.out ⟨vs, by rw [hz.out, hV.out]; rfl, hf3.out, hb3.out⟩
  · obtain ⟨ze, hze⟩ : ∃ z, kE zr zn zk (aBad key n) = .iface 129 (.pointer (some z)) := ⟨_, by unfold kE; rw [if_neg hz]⟩
    rw [hze] at kb
    have hzf := Lib.hid (show ∀ W, Five W [.slice none 0 0, .slice none 0 0, .slice none 0 0, .slice none 0 0, .slice none 0 0] (fun j => kX key (nmB j) n) from fun W => ⟨rfl, fun j hj => by
      show ∃ a c, _ = some (Value.slice a (kX key (nmB j) n).length c) ∧ ArgB W a c (kX key (nmB j) n)
      rw [kX_bad hz j]
      refine ⟨none, 0, ?_, argB_none9 W⟩
      match j, hj with
      | 0, _ => rfl
      | 1, _ => rfl
      | 2, _ => rfl
      | 3, _ => rfl
      | 4, _ => rfl⟩)
    have kbW : ∀ W, Upd (w.heap.size + 1 + 1) (.cells #[.slice none 0 0, .slice none 0 0, .slice none 0 0, .slice none 0 0, .slice none 0 0] 36 (0, 0)) w1 W → W.cell? ⟨w.heap.size + 1 + 1 + 1 + 1, 0, none⟩ = some (.iface 129 (.pointer (some ze))) := fun W hW => by
      rw [World.cell?_of_block (a := ⟨w.heap.size + 1 + 1 + 1 + 1, 0, none⟩) (hW.block _ hbne.out)]; exact kb
    have hdr := Lib.hid ((Upd.refl hrw.out).drew)
    have hs5 := Lib.hid (show (#[Value.slice none 0 0, .slice none 0 0, .slice none 0 0, .slice none 0 0, .slice none 0 0] : Array Value).size = (#[Value.slice none 0 0, .slice none 0 0, .slice none 0 0, .slice none 0 0, .slice none 0 0] : Array Value).size from rfl)
    have ha5 := Lib.hid (show ((#[Value.slice none 0 0, .slice none 0 0, .slice none 0 0, .slice none 0 0, .slice none 0 0] : Array Value).all (·.oneCell')) = true from by kernel_rfl)
    have hszZ2 := Lib.hid (show (Tryd.prog.info? 36).map (·.size) = some (#[Value.slice none 0 0, .slice none 0 0, .slice none 0 0, .slice none 0 0, .slice none 0 0] : Array Value).size from hszT)
    replace hz := Lib.hid hz; replace hze := Lib.hid hze; replace hfive := Lib.hid hfive; replace g1 := Lib.hid g1
    clear g3 g4
    go_wp2_with fail
    refine wp_region_held_drew (S := (Upd (w.heap.size + 1 + 1) (.cells #[.slice none 0 0, .slice none 0 0, .slice none 0 0, .slice none 0 0, .slice none 0 0] 36 (0, 0)) w1)) (by kernel_rfl) hdr.out (fun hOn => ?_)
    generalize World.drew w1 = wd at *
    refine wpAnyH_take (i := 0) (v := ?_) (by simp only [List.getElem?_toArray, List.getElem?_cons_zero]; rfl) (by kernel_rfl) (by kernel_rfl) (by kernel_rfl) (by exact fun _ _ _ h => h) (Or.inl ⟨by rfl, ?_⟩) hOn ?_
    rotate_left
    focus (intro W hSW; go_simp; try with_reducible rfl)
    try simp only [Act.put, List.setIfInBounds_toArray, List.set_cons_zero, List.set_cons_succ]
    refine wpAnyH_take (i := 1) (v := ?_) (by simp only [List.getElem?_toArray, List.getElem?_cons_succ, List.getElem?_cons_zero]; rfl) (by kernel_rfl) (by kernel_rfl) (by kernel_rfl) (by exact fun _ _ _ h => h) (Or.inl ⟨by rfl, ?_⟩) hOn ?_
    rotate_left
    focus (intro W hSW; go_simp; try with_reducible rfl)
    try simp only [Act.put, List.setIfInBounds_toArray, List.set_cons_zero, List.set_cons_succ]
    refine wpAnyH_ready (rs := [2]) (by kernel_rfl) (by simp) ?_
    refine AllReadyH.cons (by simp only [List.getElem?_toArray, List.getElem?_cons_succ, List.getElem?_cons_zero]; rfl) (fun Kz hKz => ?_) AllReadyH.nil
    rw [if_pos (by rfl)]
    (with_reducible refine wp_store_rowK 36 (.tmp 4) (.tmp 12) rfl (w.heap.size + 1 + 1) #[.slice none 0 0, .slice none 0 0, .slice none 0 0, .slice none 0 0, .slice none 0 0] #[.slice none 0 0, .slice none 0 0, .slice none 0 0, .slice none 0 0, .slice none 0 0] rfl rfl (Lib.hid hOn.here) hszZ2.out rfl (by kernel_rfl) ?_)
    intro w9 hU9
    have hS := Upd.trans hOn hU9.out
    clear hU9
    refine hKz.out _ _ (by first | exact hS | exact Below.trans hOn (Below.mono hnew (Below.size hOn))) (fun hNext => ?_)
    clear hKz Kz hOn
    have hOn := hNext
    clear hNext
    try clear hnew
    try clear hS
    try simp only [Act.put]
    refine wpAnyH_take (i := 3) (v := ?_) (by simp only [List.getElem?_toArray, List.getElem?_cons_succ, List.getElem?_cons_zero]; rfl) (by kernel_rfl) (by kernel_rfl) (by kernel_rfl) (by exact fun _ _ _ h => h) (Or.inl ⟨by rfl, ?_⟩) hOn ?_
    rotate_left
    focus (intro W hSW; go_simp; try with_reducible rfl)
    try simp only [Act.put, List.setIfInBounds_toArray, List.set_cons_zero, List.set_cons_succ]
    refine wpAnyH_done (by kernel_rfl) ?_ _
    all_goals
      have hr3 := Lib.hid hOn.here
      have hb3 := Lib.hid (hbw.out.trans (hOn.below hge.out))
      clear hOn
      go_wp2_with fail
      exact ret_cell_tmpB rfl rfl hzc rfl hszZ2.out hr3.out ⟨_, by rw [hze.out]; rfl, hzf.out _, hb3.out⟩

end Go.Proofs.YtfmeheolcibfeaaDoor
