/- Walks over disk: Sync. -/
import Derived.Test.YtdgilgnaoifpcaaDoorStateD
namespace Go.Proofs.YtdgilgnaoifpcaaDoor
open Go.RowKit

set_option maxRecDepth 100000 in
set_option maxHeartbeats 4000000 in
theorem dsync_yes (base B mb mn : Nat) (f : Int → List UInt8) (n : Int) (hn : n ≤ 2048) (T : TypeId) (v : Value) (ws : List (Int × List UInt8)) (armed : Bool) (l : Int) (har : armed = true → l ≠ 0) (hl : -1000000 ≤ l ∧ l ≤ 9223372036854775807) (w : World)
    (h : DiskOk base w B T n mb mn f v ws armed l false) (hws : ws.length ≤ 100000) (hmn : mn ≤ 100000) :
    Calls Tryd.prog 9 #[.pointer (some ⟨B, 0, none⟩)] w fun x w' => x = .returned .nilIface ∧
      DiskOk base w' B T n mb (mn + ws.length) (doneK (fun _ => some 64) ws f) (.slice none 0 0) [] armed (l - 1) false ∧ Only (fun k => k = B ∨ k = mb) w w' := by
  have hat := h.at_
  have hBl := block_lt hat
  have c3 : w.cell? ⟨B, 3, none⟩ = some (.bool armed) := by rw [cell_of_block hat]; rfl
  have c4 : w.cell? ⟨B, 4, none⟩ = some (.int .i64 l) := by rw [cell_of_block hat]; rfl
  have c5 : w.cell? ⟨B, 5, none⟩ = some (.bool false) := by rw [cell_of_block hat]; rfl
  have hde := Lib.hid (ddeed_go B armed l har hl w c3 c4 c5 (free_of_block hat _))
  obtain ⟨w1, hw1⟩ : ∃ w1, w1 = w.setCell ⟨B, 4, none⟩ (.int .i64 (l - 1)) := ⟨_, rfl⟩
  have hU1 := (Upd.refl hat).setCell (j := 4) (.int .i64 (l - 1))
  rw [← hw1] at hU1
  have hO1 : Only (fun k => k = B) w w1 := Only.ofUpd hU1 rfl
  obtain ⟨va, vc, hv⟩ : ∃ a c, v = .slice a ws.length c := by
    rcases h.row.2 with ⟨e1, h2⟩ | ⟨g, c, cur, e1, _⟩
    · exact ⟨none, 0, by rw [e1, h2]⟩
    · exact ⟨_, c, e1⟩
  have hat1 : w1.heap[B]? = some (.cells (dcells n mb v armed (l - 1) false) T (0, 0)) := hU1.here
  have hc2 : w1.cell? ⟨B, 2, none⟩ = some (.slice va ws.length vc) := by rw [cell_of_block hat1, ← hv]; rfl
  have hm1 : SureMap w1 mb mn f := h.map.only hO1 h.hmB
  have hrow1 : w1.ownsRow base 64 65 v ws.length (wcellsW ws) := hO1.owns h.row (fun k hk => (h.vB k hk).1)
  have hlens : ∀ p ∈ ws, p.2.length = 64 := fun p hp => (h.lens p hp).1
  have hmlt := hm1.lt
  have hs1 := hO1.size
  have hB1 := block_lt hat1
  replace h := Lib.hid h
  replace hat1 := Lib.hid hat1
  replace hm1 := Lib.hid hm1
  replace hrow1 := Lib.hid hrow1
  replace hO1 := Lib.hid hO1
  replace hv := Lib.hid hv
  replace hw1 := Lib.hid hw1
  replace hlens := Lib.hid hlens
  clear hU1 hat c3 c4 c5
  go_enter Tryd.func9, Tryd.ntmps9
  go_wp2_with fail
  with_reducible refine hde.out.mono ?_
  rintro x w2 ⟨rfl, hq⟩
  obtain rfl : w1 = w2 := hw1.out.trans hq.symm
  clear hq hde hw1
  go_wp2_with fail
  go_loopw [17, 18, 19, 5, 20, 21, 22, 23, 16] (fun _ _ _ _ _ _ _ _ j wr => ∃ k : Nat, k ≤ ws.length ∧ j = .int .i64 k ∧ SureMap wr mb (mn + k) (doneK (fun _ => some 64) (ws.take k) f) ∧ Only (fun b => b = mb) w1 wr) (fun _ _ _ _ _ _ _ _ j _ => ws.length - (intOf j).toNat)
  case atStart => exact ⟨0, Nat.zero_le _, rfl, hm1.out, Only.refl _ _⟩
  case round =>
    obtain ⟨k, hk, rfl, hmk, hOk⟩ := hrel
    have hsk := hOk.size
    have hwrB := (World.cell?_of_block (hOk.block B hB1 (fun e => h.out.hmB e.symm)) : wr.cell? ⟨B, 1, none⟩ = w1.cell? ⟨B, 1, none⟩)
    have hcB : wr.cell? ⟨B, 1, none⟩ = some (.map (some mb)) := hwrB.trans (by rw [cell_of_block hat1.out]; rfl)
    have hc2r : wr.cell? ⟨B, 2, none⟩ = some (.slice va ws.length vc) := (World.cell?_of_block (hOk.block B hB1 (fun e => h.out.hmB e.symm)) : wr.cell? ⟨B, 2, none⟩ = w1.cell? ⟨B, 2, none⟩).trans hc2
    have hBlk : wr.heap[B]? = some (.cells (dcells n mb v armed (l - 1) false) T (0, 0)) := (hOk.block B hB1 (fun e => h.out.hmB e.symm)).trans hat1.out
    have hf2r : wr.frozen? ⟨B, 2, none⟩ = false := free_of_block hBlk _
    replace hBlk := Lib.hid hBlk
    have hBr := World.block_lt_of_cell? wr _ hcB
    have hmr := hmk.lt
    clear hwrB
    replace hcB := Lib.hid hcB
    replace hmk := Lib.hid hmk
    replace hOk := Lib.hid hOk
    by_cases hlt : k < ws.length
    · have hlt2 : (k : Int) < ws.length := by omega
      obtain ⟨g, rfl⟩ : ∃ g, va = some ⟨g, 0, none⟩ := by
        rcases hrow1.out.2 with ⟨e1, h2⟩ | ⟨g, c, cur, e1, _⟩
        · omega
        · rw [hv.out] at e1
          injection e1 with e1
          exact ⟨g, e1⟩
      have hgm : g ≠ mb := (h.out.vB g (by rw [hv.out]; rfl)).2
      have hrw : wr.ownsRow base 64 65 (.slice (some ⟨g, 0, none⟩) ws.length vc) ws.length (wcellsW ws) := by
        have := hrow1.out
        rw [hv.out] at this
        exact hOk.out.owns this (fun b hb => by cases hb; exact hgm)
      obtain ⟨i, hi⟩ : ∃ i, i = ws[k].1 := ⟨_, rfl⟩
      obtain ⟨bs, hbsd⟩ : ∃ b, b = ws[k].2 := ⟨_, rfl⟩
      have hir := (h.out.lens ws[k] (List.getElem_mem hlt)).2
      rw [← hi] at hir
      have hbs : bs.length = 64 := by rw [hbsd]; exact hlens.out _ (List.getElem_mem hlt)
      obtain ⟨R, hRd⟩ : ∃ R, R = #[Value.int .i64 i] ++ (cB bs).toArray := ⟨_, rfl⟩
      have hRs : R.size = 65 := by rw [hRd]; simp [cB_length, hbs]
      have hRl : R.toList = .int .i64 i :: cB bs := by rw [hRd]; simp
      have hrg : wr.rangeAt g (k * 65) R.toList := by
        rw [hRl, hi, hbsd]
        exact row_range hrw hlens.out k hlt
      have hR1 : R.all (·.oneCell') = true := by
        rw [Array.all_eq_true']
        intro u hu
        have hu := Array.mem_toList_iff.2 hu
        rw [hRl] at hu
        rcases List.mem_cons.1 hu with rfl | hu
        · rfl
        · exact cB_one _ u hu
      have huW : Tryd.prog.underlying 64 = some _ := Tryd.underlying64
      have hszW : (Tryd.prog.info? 64).map (·.size) = some R.size := by rw [hRs]; kernel_rfl
      have hszL : (Tryd.prog.info? 64).map (·.size) = some R.toList.length := by rw [Array.length_toList, hRs]; kernel_rfl
      have hdn : ∀ w3, SureMap w3 mb (mn + k) (doneK (fun _ => some 64) (ws.take k) f) → w3.cell? ⟨B, 1, none⟩ = some (.map (some mb)) → _ := fun w3 h1 h2 => ddone_any B mb (mn + k) (doneK (fun _ => some 64) (ws.take k) f) i (by omega) (by omega) bs hbs 64 (Nat.le_refl _) 64 rfl w3 h2 h1 (by omega) h.out.hmB
      rw [← hRd] at hdn
      replace hrg := Lib.hid hrg
      replace hrw := Lib.hid hrw
      replace hbsd := Lib.hid hbsd
      replace hi := Lib.hid hi
      replace hRd := Lib.hid hRd
      replace hRl := Lib.hid hRl
      replace hdn := Lib.hid hdn
      go_wp2_with (first
        | (refine wpList_load_mid rfl 64 (.tmp 18) rfl g _ rfl R.toList _ hrg.out huW rfl hszL ?_; rw [Array.toArray_toList])
        | (refine wpList_store_row rfl 64 (.tmp 5) (.tmp 19) rfl wr.heap.size _ R rfl rfl (Lib.hid (heap_alloc_new _ _)) hszW (by rw [hRs]; rfl) hR1 ?_; intro w3 hU3)
        | (refine wpList_load_row rfl 64 (.tmp 5) rfl wr.heap.size R _ rfl (Lib.hid hU3.out.here) huW rfl hszW ?_))
      have hG3 : Grown wr w3 := Below.trans (Grown.alloc (Grown.refl wr) _) (hU3.out.below (Nat.le_refl _))
      have hm3 := hmk.out.only (Only.ofBelow (D := fun _ => False) hG3) (fun h => h)
      have hc3 := (hG3.cell (p := ⟨B, 1, none⟩) hBr).trans hcB.out
      have hcall := Lib.hid (hdn.out w3 hm3 hc3)
      have hO3 := Lib.hid ((hOk.out.trans (Only.ofBelow (D := fun b => b = mb) hG3) (fun _ _ h => h)))
      clear hU3 hdn hm3 hc3 hG3
      with_reducible refine hcall.out.mono ?_
      rintro x w4 ⟨rfl, hm4, hO4⟩
      clear hcall
      replace hm4 := Lib.hid hm4
      replace hO4 := Lib.hid hO4
      go_wp2_with fail
      go_roundw
      case rel =>
        refine ⟨k + 1, by omega, by go_num, ?_, hO3.out.trans hO4.out (fun _ _ h => h)⟩
        rw [doneK_take hlt, ← hi.out, ← hbsd.out, ← Nat.add_assoc]
        exact hm4.out
      case measure => simp [intOf]; omega
    · obtain rfl : k = ws.length := by omega
      go_wp2_with fail
      go_ret
      have hmk2 := hmk.out
      rw [List.take_length] at hmk2
      have hU := (Upd.refl hBlk.out).setCell (j := 2) (.slice none 0 0)
      have hOU : Only (fun b => b = B) wr _ := Only.ofUpd hU rfl
      refine ⟨rfl, ⟨hU.here, hmk2.only hOU h.out.hmB, ⟨rfl, .inl ⟨rfl, rfl⟩⟩, h.out.hmB, fun k hk => by (cases hk), h.out.geB, h.out.gem, fun p hp => by (cases hp)⟩, ?_⟩
      exact ((hO1.out.mono (E := fun k => k = B ∨ k = mb) (fun _ _ h => .inl h)).trans hOk.out (fun _ _ h => .inr h)).trans hOU (fun _ _ h => .inl h)
end Go.Proofs.YtdgilgnaoifpcaaDoor
