/- The walks over stream.Choose at the example's arguments, baileelaw10.alive. -/
import Derived.Test.YtkenakcipdkdbaaDoorStream
import Derived.LoopN
namespace Go.Proofs.YtkenakcipdkdbaaDoor
open Go.RowKit

theorem Tryd.infoIntP : (Tryd.prog.info? 3).map (fun i => (i.zero, i.size, i.bytes)) = some (some (.int .i64 0), 1, 8) := by kernel_rfl

theorem argB_nil0 (w : World) : ArgB w none 0 [] := ⟨Nat.le_refl _, Nat.zero_le _, fun _ => rfl, fun i hi => absurd hi (Nat.not_lt_zero i)⟩

theorem ownI_cell {B g n c : Nat} {w : World} {xs : List Value} (h : w.ownsRow B 3 1 (.slice (some ⟨g, 0, none⟩) n c) n xs) (j : Nat) (hj : j < n) : ∃ v, xs[j]? = some v ∧ w.cell? ⟨g, j, none⟩ = some v := by
  have hl : xs.length = n := by simpa using h.1
  refine ⟨xs[j]'(by omega), List.getElem?_eq_getElem _, ?_⟩
  have := World.ownsRow.cellAt h j (by omega)
  rw [this, List.getElem?_eq_getElem]
/-- Numbers so far, the rest as it was. -/
def countTo (n i : Nat) : List Value := (List.range n).map fun j => if j < i then .int .i64 (j : Int) else .int .i64 0
theorem countTo_at (n i j : Nat) (h : j < n) : (countTo n i)[j]? = some (if j < i then .int .i64 (j : Int) else .int .i64 0) := by simp [countTo, h]
theorem countTo_zero (n : Nat) : countTo n 0 = List.replicate n (.int .i64 0) := by
  apply List.ext_getElem (by simp [countTo])
  intro j h1 h2
  simp [countTo]
theorem countTo_set (n i : Nat) : (countTo n i).set i (.int .i64 (i : Int)) = countTo n (i + 1) := by
  apply List.ext_getElem?
  intro j
  rw [List.getElem?_set]
  by_cases hj : j < n
  · rw [countTo_at n (i + 1) j hj]
    by_cases h : i = j
    · subst h; rw [if_pos rfl, if_pos (by simpa [countTo] using hj), if_pos (by omega)]
    · rw [if_neg h, countTo_at n i j hj]
      by_cases h2 : j < i
      · rw [if_pos h2, if_pos (by omega)]
      · rw [if_neg h2, if_neg (by omega)]
  · have h1 : ∀ i, (countTo n i)[j]? = none := fun i => List.getElem?_eq_none (by simp [countTo]; omega)
    rw [h1, h1]
    by_cases h : i = j
    · subst h; rw [if_pos rfl, if_neg (by simp [countTo]; omega)]
    · rw [if_neg h]

set_option maxRecDepth 10000 in
set_option maxHeartbeats 2000000 in
theorem choose50 (w : World) (hK : ShaK w) (hF : ShaF w) :
    Calls Tryd.prog 18 #[.slice none 0 0, .int .i64 0, .int .i64 5, .int .i64 0] w fun e w' => ∃ g, e = .returned (.tuple #[.slice (some ⟨g, 0, none⟩) 0 0, .nilIface]) ∧  Below w.heap.size w w' := by
  obtain ⟨i0, hi, hz0, hz1, hz2⟩ := info_parts Tryd.infoIntP
  have hmk := macMake_any none 0 [] w (argB_nil0 w) (by simp) hK hF
  rw [show ([] : List UInt8).length = 0 from rfl] at hmk
  replace hmk := Lib.hid hmk
  go_enter Tryd.func18, Tryd.ntmps18
  go_wp2_with fail
  with_reducible refine hmk.out.mono ?_
  rintro e w1 ⟨b, rfl, hkey, hb1⟩
  have hgr := (Below.refl w1.heap.size w1).alloc (Nat.le_refl _) (.cells #[.pointer (some ⟨b, 0, none⟩)] 51)
  have hg := hb1.alloc hb1.size (.cells #[.pointer (some ⟨b, 0, none⟩)] 51)
  have hbox := heap_alloc_new w1 (.cells #[.pointer (some ⟨b, 0, none⟩)] 51)
  have hkey2 := Lib.hid (hkey.below hgr)
  have hKx := Lib.hid (hK.below hg)
  have hFx := Lib.hid (hF.below hg)
  have hgs := Nat.le_refl (w1.alloc (.cells #[.pointer (some ⟨b, 0, none⟩)] 51)).heap.size
  replace hg := Lib.hid hg
  replace hbox := Lib.hid hbox
  clear hb1 hmk hkey hgr
  go_wp2_with (at_make; go_must (refine wpList_make_full _ rfl _ _ 45 rfl (w1.alloc (.cells #[.pointer (some ⟨b, 0, none⟩)] 51)).heap.size 3 i0 (.int .i64 0) 1 Tryd.underlying45 hi hz0 hz1 _ _ _ _ 5 rfl rfl (by omega) (by omega) (by rw [hz2]; omega) (by unfold maxLen; omega) hgs ?_))
  intro w4 hown2 hg4
  rw [show (madeCells #[Value.int .i64 0] 5).toList = countTo 5 0 from by rw [countTo_zero, toList_madeCells_one]] at hown2
  obtain ⟨X, hX⟩ : ∃ X, X = w1.alloc (.cells #[.pointer (some ⟨b, 0, none⟩)] 51) := ⟨_, rfl⟩
  have hXs : X.heap.size = w1.heap.size + 1 := by rw [hX]; simp
  rw [← hX] at hg hbox hkey2 hKx hFx hg4
  rw [← hXs] at hown2 ⊢
  have hb4 := Lib.hid ((Below.refl X.heap.size X).grown hg4 (Nat.le_refl _) (fun k hk => by cases hk))
  replace hown2 := Lib.hid hown2
  have hlt := Lib.hid (show w1.heap.size < X.heap.size from by omega)
  replace hXs := Lib.hid hXs
  replace hX := Lib.hid hX
  clear hg4 hgs
  obtain ⟨g, hgd⟩ : ∃ g, g = X.heap.size := ⟨_, rfl⟩
  have hgg : X.heap.size ≤ g := by omega
  have hown3 : Hid (w4.ownsRow X.heap.size 3 1 (.slice (some ⟨g, 0, none⟩) 5 5) 5 (countTo 5 0)) := by rw [hgd]; exact hown2
  rw [← hgd]
  replace hgd := Lib.hid hgd
  clear hown2
  go_wp2_with fail
  go_loopw [12, 46] (fun _ j wr => ∃ i : Nat, i ≤ 5 ∧ j = .int .i64 i ∧ wr.ownsRow X.heap.size 3 1 (.slice (some ⟨g, 0, none⟩) 5 5) 5 (countTo 5 i) ∧ Below X.heap.size X wr)
    (fun _ j _ => 5 - (intOf j).toNat)
  case atStart => exact ⟨0, Nat.zero_le _, rfl, hown3.out, hb4.out⟩
  case round =>
    clear hown3 hb4
    obtain ⟨i, hi, rfl, hO, hB⟩ := hrel
    by_cases hlt5 : i < 5
    · obtain ⟨v, _, hc⟩ := ownI_cell hO i hlt5
      have hf := World.ownsRow.frozenAt hO i
      have hS := (World.ownsRow.stored hO i (.int .i64 (i : Int))).1
      rw [countTo_set] at hS
      have hb2 := Lib.hid (hB.setCell (p := ⟨g, i, none⟩) hgg (.int .i64 (i : Int)))
      have hi5 : (i : Int) < 5 := by omega
      replace hS := Lib.hid hS
      replace hO := Lib.hid hO
      replace hB := Lib.hid hB
      go_wp2_with fail
      exact ⟨⟨i + 1, by omega, by go_num, hS.out, hb2.out⟩, by simp [intOf]; omega⟩
    · obtain rfl : i = 5 := by omega
      have hbf := Lib.hid (hg.out.trans (hB.mono hg.out.size))
      replace hO := Lib.hid hO
      replace hB := Lib.hid hB
      go_wp2_with fail
      refine wp_loop_rounds 1 ?_
      rw [rounds_succ]
      go_wp2_with fail
      go_ret2
      exact ⟨_, rfl, hbf.out⟩

set_option maxRecDepth 10000 in
set_option maxHeartbeats 2000000 in
theorem choose11 (w : World) (hK : ShaK w) (hF : ShaF w) :
    Calls Tryd.prog 18 #[.slice none 0 0, .int .i64 0, .int .i64 1, .int .i64 1] w fun e w' => ∃ g, e = .returned (.tuple #[.slice (some ⟨g, 0, none⟩) 1 1, .nilIface]) ∧ w'.cell? ⟨g, 0, none⟩ = some (.int .i64 0) ∧ Below w.heap.size w w' := by
  obtain ⟨i0, hi, hz0, hz1, hz2⟩ := info_parts Tryd.infoIntP
  have hmk := macMake_any none 0 [] w (argB_nil0 w) (by simp) hK hF
  rw [show ([] : List UInt8).length = 0 from rfl] at hmk
  replace hmk := Lib.hid hmk
  go_enter Tryd.func18, Tryd.ntmps18
  go_wp2_with fail
  with_reducible refine hmk.out.mono ?_
  rintro e w1 ⟨b, rfl, hkey, hb1⟩
  have hgr := (Below.refl w1.heap.size w1).alloc (Nat.le_refl _) (.cells #[.pointer (some ⟨b, 0, none⟩)] 51)
  have hg := hb1.alloc hb1.size (.cells #[.pointer (some ⟨b, 0, none⟩)] 51)
  have hbox := heap_alloc_new w1 (.cells #[.pointer (some ⟨b, 0, none⟩)] 51)
  have hkey2 := Lib.hid (hkey.below hgr)
  have hKx := Lib.hid (hK.below hg)
  have hFx := Lib.hid (hF.below hg)
  have hgs := Nat.le_refl (w1.alloc (.cells #[.pointer (some ⟨b, 0, none⟩)] 51)).heap.size
  replace hg := Lib.hid hg
  replace hbox := Lib.hid hbox
  clear hb1 hmk hkey hgr
  go_wp2_with (at_make; go_must (refine wpList_make_full _ rfl _ _ 45 rfl (w1.alloc (.cells #[.pointer (some ⟨b, 0, none⟩)] 51)).heap.size 3 i0 (.int .i64 0) 1 Tryd.underlying45 hi hz0 hz1 _ _ _ _ 1 rfl rfl (by omega) (by omega) (by rw [hz2]; omega) (by unfold maxLen; omega) hgs ?_))
  intro w4 hown2 hg4
  rw [show (madeCells #[Value.int .i64 0] 1).toList = countTo 1 0 from by rw [countTo_zero, toList_madeCells_one]] at hown2
  obtain ⟨X, hX⟩ : ∃ X, X = w1.alloc (.cells #[.pointer (some ⟨b, 0, none⟩)] 51) := ⟨_, rfl⟩
  have hXs : X.heap.size = w1.heap.size + 1 := by rw [hX]; simp
  rw [← hX] at hg hbox hkey2 hKx hFx hg4
  rw [← hXs] at hown2 ⊢
  have hb4 := Lib.hid ((Below.refl X.heap.size X).grown hg4 (Nat.le_refl _) (fun k hk => by cases hk))
  replace hown2 := Lib.hid hown2
  have hlt := Lib.hid (show w1.heap.size < X.heap.size from by omega)
  replace hXs := Lib.hid hXs
  replace hX := Lib.hid hX
  clear hg4 hgs
  obtain ⟨g, hgd⟩ : ∃ g, g = X.heap.size := ⟨_, rfl⟩
  have hgg : X.heap.size ≤ g := by omega
  have hown3 : Hid (w4.ownsRow X.heap.size 3 1 (.slice (some ⟨g, 0, none⟩) 1 1) 1 (countTo 1 0)) := by rw [hgd]; exact hown2
  rw [← hgd]
  replace hgd := Lib.hid hgd
  clear hown2
  go_wp2_with fail
  go_loopw [12, 46] (fun _ j wr => ∃ i : Nat, i ≤ 1 ∧ j = .int .i64 i ∧ wr.ownsRow X.heap.size 3 1 (.slice (some ⟨g, 0, none⟩) 1 1) 1 (countTo 1 i) ∧ Below X.heap.size X wr)
    (fun _ j _ => 1 - (intOf j).toNat)
  case atStart => exact ⟨0, Nat.zero_le _, rfl, hown3.out, hb4.out⟩
  case round =>
    clear hown3 hb4
    obtain ⟨i, hi, rfl, hO, hB⟩ := hrel
    by_cases hlt5 : i < 1
    · obtain ⟨v, _, hc⟩ := ownI_cell hO i hlt5
      have hf := World.ownsRow.frozenAt hO i
      have hS := (World.ownsRow.stored hO i (.int .i64 (i : Int))).1
      rw [countTo_set] at hS
      have hb2 := Lib.hid (hB.setCell (p := ⟨g, i, none⟩) hgg (.int .i64 (i : Int)))
      have hi5 : (i : Int) < 1 := by omega
      replace hS := Lib.hid hS
      replace hO := Lib.hid hO
      replace hB := Lib.hid hB
      go_wp2_with fail
      exact ⟨⟨i + 1, by omega, by go_num, hS.out, hb2.out⟩, by simp [intOf]; omega⟩
    · obtain rfl : i = 1 := by omega
      have hc0 : wr.cell? ⟨g, 0, none⟩ = some (.int .i64 0) := by
        obtain ⟨v, h1, h2⟩ := ownI_cell hO 0 (by omega)
        rw [h2, ← h1]; rfl
      have hf0 := World.ownsRow.frozenAt hO 0
      have hbx : wr.cell? ⟨w1.heap.size, 0, none⟩ = some (.pointer (some ⟨b, 0, none⟩)) := by
        rw [cell_of_block ((hB.block _ hlt.out).trans hbox.out)]; rfl
      have hnum := mkNumber_any b [] 0 wr (hkey2.out.below hB) (by omega) (by omega) (hKx.out.below hB) (hFx.out.below hB)
      have hbf := Lib.hid (hg.out.trans (hB.mono hg.out.size))
      have hsz := hB.size
      replace hnum := Lib.hid hnum
      generalize beNat (blockB [] 0) 8 = N at *
      replace hO := Lib.hid hO
      replace hB := Lib.hid hB
      have hgw := Lib.hid (World.ownsRow.lt hO.out g rfl).2
      go_wp2_with fail
      refine wp_loop_rounds 2 ?_
      rw [rounds_succ]
      go_wp2_with fail
      with_reducible refine hnum.out.mono ?_
      rintro e w6 ⟨rfl, hb6⟩
      have hc6 := (hb6.cell (p := ⟨g, 0, none⟩) hgw.out).trans hc0
      have hf6 := (hb6.frozen (p := ⟨g, 0, none⟩) hgw.out).trans hf0
      have hbz := Lib.hid (hbf.out.trans (hb6.mono hbf.out.size))
      have hwg := Lib.hid (show w.heap.size ≤ g from Nat.le_trans hg.out.size hgg)
      have hm1 : (N : Int) % 1 = 0 := by omega
      have hm2 : (N : Int).tmod 1 = 0 := by rw [Int.tmod_eq_emod_of_nonneg (by omega)]; omega
      have hcs : Hid (((w6.setCell ⟨g, 0, none⟩ (.int .i64 0)).setCell ⟨g, 0, none⟩ (.int .i64 0)).cell? ⟨g, 0, none⟩ = some (.int .i64 0)) := Lib.hid (World.cell?_setCell_same' _ _ _ (by rw [World.cell?_setCell_same' _ _ _ (by rw [hc6]; rfl)]; rfl))
      have hbs := Lib.hid ((hbz.out.setCell (p := ⟨g, 0, none⟩) hwg.out (.int .i64 0)).setCell (p := ⟨g, 0, none⟩) hwg.out (.int .i64 0))
      clear hb6 hc0 hf0 hbx hsz
      replace hgg := Lib.hid hgg
      go_wp2_with fail
      go_region
      all_goals
        go_wp2_with fail
        rw [rounds_succ]
        go_wp2_with fail
        go_ret2
        refine ⟨g, rfl, hcs.out, ?_⟩
        first | exact hbs.out | exact hbs.out.drew

set_option maxRecDepth 10000 in
set_option maxHeartbeats 2000000 in
theorem alive10_any (w : World) (hK : ShaK w) (hF : ShaF w) : Calls Tryd.prog 6 #[] w fun e w' => e = .returned (.bool true) ∧ Below w.heap.size w w' := by
  have h1 := Lib.hid (choose50 w hK hF)
  go_enter Tryd.func6, Tryd.ntmps6
  go_wp2_with fail
  with_reducible refine h1.out.mono ?_
  rintro e w1 ⟨g, rfl, hb1⟩
  have h2 := Lib.hid (choose11 w1 (hK.below hb1) (hF.below hb1))
  replace hb1 := Lib.hid hb1
  clear h1
  go_wp2_with fail
  with_reducible refine h2.out.mono ?_
  rintro e w2 ⟨g2, rfl, hc, hb2⟩
  have hb3 := Lib.hid (hb1.out.trans (hb2.mono hb1.out.size))
  clear hb2 h2
  go_wp2_with fail
  go_ret
  exact ⟨rfl, hb3.out⟩

end Go.Proofs.YtkenakcipdkdbaaDoor
