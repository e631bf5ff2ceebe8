/- Walks over disk: Crash. -/
import Derived.Test.YtdgilgnaoifpcaaDoorSync
namespace Go.Proofs.YtdgilgnaoifpcaaDoor
open Go.RowKit

/-- What a crash does of the j-th write. -/
def crashK (kept torn : Int) (s : Nat) (j : Nat) : Option Nat :=
  if (j : Int) < max kept 0 then some 64 else if (j : Int) = max kept 0 then some (min (max torn 0) 64).toNat
  else if (j : Int) - max kept 0 - 1 < 63 ∧ (bits BinOp.and IntKind.u64 ((s : Int) / 2 ^ (((j : Int) - max kept 0).toNat - 1)) 1 == 1) = true then some 64 else none
theorem crashK_le {kept torn : Int} {s j k : Nat} (h : crashK kept torn s j = some k) : k ≤ 64 := by
  unfold crashK at h
  split at h
  · injection h with h; omega
  · split at h
    · injection h with h; omega
    · split at h
      · injection h with h; omega
      · cases h

set_option maxRecDepth 100000 in
set_option maxHeartbeats 4000000 in
theorem dcrash_any (base B mb mn : Nat) (f : Int → List UInt8) (n : Int) (hn : n ≤ 2048) (T : TypeId) (v : Value) (ws : List (Int × List UInt8)) (armed : Bool) (l : Int) (gone : Bool) (w : World)
    (h : DiskOk base w B T n mb mn f v ws armed l gone) (hws : ws.length ≤ 100000) (hmn : mn ≤ 100000) (kept torn : Int) (s : Nat) (hk : -9223372036854775808 ≤ kept ∧ kept ≤ 9223372036854775807) (ht : -9223372036854775808 ≤ torn ∧ torn ≤ 9223372036854775807) (hs : s < 18446744073709551616) :
    Calls Tryd.prog 11 #[.pointer (some ⟨B, 0, none⟩), .agg #[.int .i64 kept, .int .i64 torn, .int .u64 s]] w fun x w' => x = .returned (.tuple #[]) ∧
      DiskOk base w' B T n mb (mn + ws.length) (doneK (crashK kept torn s) ws f) (.slice none 0 0) [] false 0 false ∧ Only (fun k => k = B ∨ k = mb) w w' := by
  have hat := h.at_
  have hBl := block_lt hat
  obtain ⟨va, vc, hv⟩ : ∃ a c, v = .slice a ws.length c := by
    rcases h.row.2 with ⟨e1, h2⟩ | ⟨g, c, cur, e1, _⟩
    · exact ⟨none, 0, by rw [e1, h2]⟩
    · exact ⟨_, c, e1⟩
  have hc2 : w.cell? ⟨B, 2, none⟩ = some (.slice va ws.length vc) := by rw [cell_of_block hat, ← hv]; rfl
  have hlens : ∀ p ∈ ws, p.2.length = 64 := fun p hp => (h.lens p hp).1
  have hmlt := h.map.lt
  obtain ⟨w1, hw1⟩ : ∃ w1, w1 = w.alloc (.cells #[.int .i64 kept, .int .i64 torn, .int .u64 s] 25) := ⟨_, rfl⟩
  have hg1 : Grown w w1 := by rw [hw1]; exact Grown.alloc (Grown.refl w) _
  have hx1 : w1.heap[w.heap.size]? = some (.cells #[.int .i64 kept, .int .i64 torn, .int .u64 s] 25 (0, 0)) := by rw [hw1]; exact heap_alloc_new w _
  have hO1 : Only (fun k => k = mb) w w1 := Only.ofBelow hg1
  have hm1 : SureMap w1 mb mn f := h.map.only (Only.ofBelow (D := fun _ => False) hg1) (fun h => h)
  have hc21 : w1.cell? ⟨B, 2, none⟩ = some (.slice va ws.length vc) := (hg1.cell (p := ⟨B, 2, none⟩) hBl).trans hc2
  have hx0 : w1.cell? ⟨w.heap.size, 0, none⟩ = some (.int .i64 kept) := by rw [cell_of_block hx1]; rfl
  have hs1 : w1.heap.size = w.heap.size + 1 := by rw [hw1]; exact World.size_alloc ..
  obtain ⟨K, hK⟩ : ∃ K, K = max kept 0 := ⟨_, rfl⟩
  have hK0 : 0 ≤ K := by omega
  have hK1 : K ≤ 9223372036854775807 := by omega
  replace h := Lib.hid h
  replace hat := Lib.hid hat
  replace hm1 := Lib.hid hm1
  replace hO1 := Lib.hid hO1
  replace hv := Lib.hid hv
  replace hw1 := Lib.hid hw1
  replace hlens := Lib.hid hlens
  replace hx1 := Lib.hid hx1
  replace hK := Lib.hid hK
  have hif : (if kept < 0 then (0 : Int) else kept) = K := by rw [hK.out]; split <;> omega
  clear hg1
  go_enter Tryd.func11, Tryd.ntmps11
  go_wp2_with fail
  rw [← hw1.out]
  go_loopw [17, 18, 19, 6, 5, 20, 21, 22, 23, 24, 7, 26, 27, 28, 25, 29, 30, 31, 33, 34, 35, 32, 36, 37, 38, 39, 40, 41, 42, 44, 45, 46, 47, 48, 49, 50, 51, 52, 53, 43, 54, 55, 56, 57, 16] (fun _ _ _ _ _ _ _ _ _ _ _ _ _ _ _ _ _ _ _ _ _ _ _ _ _ _ _ _ _ _ _ _ _ _ _ _ _ _ _ _ _ _ _ _ j wr => ∃ k : Nat, k ≤ ws.length ∧ j = .int .i64 k ∧ SureMap wr mb (mn + k) (doneK (crashK kept torn s) (ws.take k) f) ∧ Only (fun b => b = mb) w1 wr) (fun _ _ _ _ _ _ _ _ _ _ _ _ _ _ _ _ _ _ _ _ _ _ _ _ _ _ _ _ _ _ _ _ _ _ _ _ _ _ _ _ _ _ _ _ j _ => ws.length - (intOf j).toNat)
  case atStart => exact ⟨0, Nat.zero_le _, rfl, hm1.out, Only.refl _ _⟩
  case round =>
    obtain ⟨k, hk0, rfl, hmk, hOk⟩ := hrel
    have hsk := hOk.size
    have hB1 : B < w1.heap.size := by omega
    have hmne : ∀ b, b < w.heap.size + 1 → b ≠ mb → wr.heap[b]? = w1.heap[b]? := fun b hb hn => hOk.block b (by omega) hn
    have hat1 : w1.heap[B]? = some (.cells (dcells n mb v armed l gone) T (0, 0)) := by
      rw [hw1.out, ← hat.out]
      exact heap_alloc_old _ _ hBl
    have hBlk : wr.heap[B]? = some (.cells (dcells n mb v armed l gone) T (0, 0)) := (hmne B (by omega) (fun e => h.out.hmB e.symm)).trans hat1
    have hXk : wr.heap[w.heap.size]? = some (.cells #[.int .i64 kept, .int .i64 torn, .int .u64 s] 25 (0, 0)) := (hmne _ (by omega) (by omega)).trans hx1.out
    have hcB : wr.cell? ⟨B, 1, none⟩ = some (.map (some mb)) := by rw [cell_of_block hBlk]; rfl
    have hxr1 : wr.cell? ⟨w.heap.size, 1, none⟩ = some (.int .i64 torn) := by rw [cell_of_block hXk]; rfl
    have hxr2 : wr.cell? ⟨w.heap.size, 2, none⟩ = some (.int .u64 s) := by rw [cell_of_block hXk]; rfl
    have hBr := World.block_lt_of_cell? wr _ hcB
    have hwX := World.block_lt_of_cell? wr _ hxr1
    have hmr := hmk.lt
    have g2 : wr.frozen? ⟨B, 2, none⟩ = false := free_of_block hBlk _
    have g3 : wr.frozen? ⟨B, 3, none⟩ = false := free_of_block hBlk _
    have g4 : wr.frozen? ⟨B, 4, none⟩ = false := free_of_block hBlk _
    have g5 : wr.frozen? ⟨B, 5, none⟩ = false := free_of_block hBlk _
    have e2 : wr.cell? ⟨B, 2, none⟩ = some v := by rw [cell_of_block hBlk]; rfl
    have e3 : wr.cell? ⟨B, 3, none⟩ = some (.bool armed) := by rw [cell_of_block hBlk]; rfl
    have e4 : wr.cell? ⟨B, 4, none⟩ = some (.int .i64 l) := by rw [cell_of_block hBlk]; rfl
    have e5 : wr.cell? ⟨B, 5, none⟩ = some (.bool gone) := by rw [cell_of_block hBlk]; rfl
    clear hmne
    replace hBlk := Lib.hid hBlk
    replace hXk := Lib.hid hXk
    replace hcB := Lib.hid hcB
    replace hmk := Lib.hid hmk
    replace hOk := Lib.hid hOk
    replace hat1 := Lib.hid hat1
    by_cases hlt : k < ws.length
    · clear e2 e3 e4 e5 g2 g3 g4 g5
      have hlt2 : (k : Int) < ws.length := by omega
      obtain ⟨g, rfl⟩ : ∃ g, va = some ⟨g, 0, none⟩ := by
        rcases h.out.row.2 with ⟨e1, h2⟩ | ⟨g, c, cur, e1, _⟩
        · omega
        · rw [hv.out] at e1
          injection e1 with e1
          exact ⟨g, e1⟩
      have hgm : g ≠ mb := (h.out.vB g (by rw [hv.out]; rfl)).2
      have hrw : wr.ownsRow base 64 65 (.slice (some ⟨g, 0, none⟩) ws.length vc) ws.length (wcellsW ws) := by
        have := h.out.row
        rw [hv.out] at this
        exact (hO1.out.trans hOk.out (fun _ _ h => h)).owns this (fun b hb => by cases hb; exact hgm)
      obtain ⟨i, hi⟩ : ∃ i, i = ws[k].1 := ⟨_, rfl⟩
      obtain ⟨bs, hbsd⟩ : ∃ b, b = ws[k].2 := ⟨_, rfl⟩
      have hir := (h.out.lens ws[k] (List.getElem_mem hlt)).2
      rw [← hi] at hir
      have hbs : bs.length = 64 := by rw [hbsd]; exact hlens.out _ (List.getElem_mem hlt)
      obtain ⟨R, hRd⟩ : ∃ R, R = #[Value.int .i64 i] ++ (cB bs).toArray := ⟨_, rfl⟩
      have hRs : R.size = 65 := by rw [hRd]; simp [cB_length, hbs]
      have hRl : R.toList = .int .i64 i :: cB bs := by rw [hRd]; simp
      have hrg : wr.rangeAt g (k * 65) R.toList := by
        rw [hRl, hi, hbsd]
        exact row_range hrw hlens.out k hlt
      have hR1 : R.all (·.oneCell') = true := by
        rw [Array.all_eq_true']
        intro u hu
        have hu := Array.mem_toList_iff.2 hu
        rw [hRl] at hu
        rcases List.mem_cons.1 hu with rfl | hu
        · rfl
        · exact cB_one _ u hu
      have huW : Tryd.prog.underlying 64 = some _ := Tryd.underlying64
      have hszW : (Tryd.prog.info? 64).map (·.size) = some R.size := by rw [hRs]; kernel_rfl
      have hszL : (Tryd.prog.info? 64).map (·.size) = some R.toList.length := by rw [Array.length_toList, hRs]; kernel_rfl
      have hdn : ∀ (m : Nat) (hm : m ≤ 64) (M : Int) (hM : M = m) w3, SureMap w3 mb (mn + k) (doneK (crashK kept torn s) (ws.take k) f) → w3.cell? ⟨B, 1, none⟩ = some (.map (some mb)) → _ := fun m hm M hM w3 h1 h2 => ddone_any B mb (mn + k) (doneK (crashK kept torn s) (ws.take k) f) i (by omega) (by omega) bs hbs m hm M hM w3 h2 h1 (by omega) h.out.hmB
      rw [← hRd] at hdn
      have hw23 : IntKind.i64.wrap ((k : Int) - K) = k - K := IntWalk.i64_in _ (by omega)
      have hw24 : IntKind.i64.wrap ((k : Int) - K - 1) = k - K - 1 := IntWalk.i64_in _ (by omega)
      replace hrg := Lib.hid hrg
      replace hrw := Lib.hid hrw
      replace hbsd := Lib.hid hbsd
      replace hi := Lib.hid hi
      replace hRd := Lib.hid hRd
      replace hRl := Lib.hid hRl
      replace hdn := Lib.hid hdn
      clear hc2 hc21 hx0 hif
      by_cases k1 : (k : Int) < K
      · have hks : Hid (crashK kept torn s k = some 64) := Lib.hid (by unfold crashK; rw [← hK.out, if_pos k1])
        go_wp2_with (first
        | (refine wpList_load_mid rfl 64 (.tmp 19) rfl g _ rfl R.toList _ hrg.out huW rfl hszL ?_; rw [Array.toArray_toList])
        | (refine wpList_store_row rfl 64 (.tmp 6) (.tmp 20) rfl wr.heap.size _ R rfl rfl (Lib.hid (heap_alloc_new _ _)) hszW (by rw [hRs]; rfl) hR1 ?_; intro w3 hU3; have hG3 : Hid (Grown wr w3) := Lib.hid (Below.trans (Grown.alloc (Grown.refl wr) _) (hU3.out.below (Nat.le_refl _))); have hx31 : w3.cell? ⟨w.heap.size, 1, none⟩ = some (.int .i64 torn) := (hG3.out.cell (p := ⟨w.heap.size, 1, none⟩) hwX).trans hxr1; have hx32 : w3.cell? ⟨w.heap.size, 2, none⟩ = some (.int .u64 s) := (hG3.out.cell (p := ⟨w.heap.size, 2, none⟩) hwX).trans hxr2)
        | (refine wpList_load_row rfl 64 (.tmp 6) rfl wr.heap.size R _ rfl (Lib.hid hU3.out.here) huW rfl hszW ?_))
        have hcall := Lib.hid (hdn.out 64 (Nat.le_refl _) 64 rfl w3 (hmk.out.only (Only.ofBelow (D := fun _ => False) hG3.out) (fun h => h)) ((hG3.out.cell (p := ⟨B, 1, none⟩) hBr).trans hcB.out))
        have hO3 := Lib.hid ((hOk.out.trans (Only.ofBelow (D := fun b => b = mb) hG3.out) (fun _ _ h => h)))
        clear hU3 hdn hG3 hx31 hx32
        with_reducible refine hcall.out.mono ?_
        rintro x w4 ⟨rfl, hm4, hO4⟩
        clear hcall
        replace hm4 := Lib.hid hm4
        replace hO4 := Lib.hid hO4
        go_wp2_with fail
        go_roundw
        case rel =>
          refine ⟨k + 1, by omega, by go_num, ?_, hO3.out.trans hO4.out (fun _ _ h => h)⟩
          rw [doneK_take hlt, hks.out, ← hi.out, ← hbsd.out, ← Nat.add_assoc]
          exact hm4.out
        case measure => simp [intOf]; omega
      by_cases k2 : (k : Int) = K
      · obtain rfl : K = (k : Int) := k2.symm
        clear k2
        obtain ⟨t0, ht0⟩ : ∃ t0, t0 = max torn 0 := ⟨_, rfl⟩
        obtain ⟨t1, ht1⟩ : ∃ t1, t1 = min t0 64 := ⟨_, rfl⟩
        have hif1 : (if torn < 0 then (0 : Int) else torn) = t0 := by rw [ht0]; split <;> omega
        have hif2 : (if 64 < t0 then (64 : Int) else t0) = t1 := by rw [ht1]; split <;> omega
        have htm : t1.toNat ≤ 64 := by omega
        have htn : 0 ≤ t1 := by omega
        replace ht0 := Lib.hid ht0
        replace ht1 := Lib.hid ht1
        have hks : Hid (crashK kept torn s k = some t1.toNat) := Lib.hid (by unfold crashK; rw [← hK.out, if_neg k1, if_pos rfl, ← ht0.out, ← ht1.out])
        go_wp2_with (first
        | (refine wpList_load_mid rfl 64 (.tmp 19) rfl g _ rfl R.toList _ hrg.out huW rfl hszL ?_; rw [Array.toArray_toList])
        | (refine wpList_store_row rfl 64 (.tmp 6) (.tmp 20) rfl wr.heap.size _ R rfl rfl (Lib.hid (heap_alloc_new _ _)) hszW (by rw [hRs]; rfl) hR1 ?_; intro w3 hU3; have hG3 : Hid (Grown wr w3) := Lib.hid (Below.trans (Grown.alloc (Grown.refl wr) _) (hU3.out.below (Nat.le_refl _))); have hx31 : w3.cell? ⟨w.heap.size, 1, none⟩ = some (.int .i64 torn) := (hG3.out.cell (p := ⟨w.heap.size, 1, none⟩) hwX).trans hxr1; have hx32 : w3.cell? ⟨w.heap.size, 2, none⟩ = some (.int .u64 s) := (hG3.out.cell (p := ⟨w.heap.size, 2, none⟩) hwX).trans hxr2)
        | (refine wpList_load_row rfl 64 (.tmp 6) rfl wr.heap.size R _ rfl (Lib.hid hU3.out.here) huW rfl hszW ?_))
        have hcall := Lib.hid (hdn.out t1.toNat htm t1 (by omega) w3 (hmk.out.only (Only.ofBelow (D := fun _ => False) hG3.out) (fun h => h)) ((hG3.out.cell (p := ⟨B, 1, none⟩) hBr).trans hcB.out))
        have hO3 := Lib.hid ((hOk.out.trans (Only.ofBelow (D := fun b => b = mb) hG3.out) (fun _ _ h => h)))
        clear hU3 hdn hG3 hx31 hx32
        with_reducible refine hcall.out.mono ?_
        rintro x w4 ⟨rfl, hm4, hO4⟩
        clear hcall
        replace hm4 := Lib.hid hm4
        replace hO4 := Lib.hid hO4
        go_wp2_with fail
        go_roundw
        case rel =>
          refine ⟨k + 1, by omega, by go_num, ?_, hO3.out.trans hO4.out (fun _ _ h => h)⟩
          rw [doneK_take hlt, hks.out, ← hi.out, ← hbsd.out, ← Nat.add_assoc]
          exact hm4.out
        case measure => simp [intOf]; omega
      by_cases k3 : (k : Int) - K - 1 < 63
      · have hc24 : (k : Int) - K - 1 ≥ 0 := by omega
        cases k4 : (bits BinOp.and IntKind.u64 ((s : Int) / 2 ^ (((k : Int) - K).toNat - 1)) 1 == 1)
        · have hks : Hid (crashK kept torn s k = none) := Lib.hid (by unfold crashK; rw [← hK.out, if_neg k1, if_neg k2, if_neg (fun e => by rw [k4] at e; cases e.2)])
          go_wp2_with (first
          | (refine wpList_load_mid rfl 64 (.tmp 19) rfl g _ rfl R.toList _ hrg.out huW rfl hszL ?_; rw [Array.toArray_toList])
          | (refine wpList_store_row rfl 64 (.tmp 6) (.tmp 20) rfl wr.heap.size _ R rfl rfl (Lib.hid (heap_alloc_new _ _)) hszW (by rw [hRs]; rfl) hR1 ?_; intro w3 hU3; have hG3 : Hid (Grown wr w3) := Lib.hid (Below.trans (Grown.alloc (Grown.refl wr) _) (hU3.out.below (Nat.le_refl _))); have hx31 : w3.cell? ⟨w.heap.size, 1, none⟩ = some (.int .i64 torn) := (hG3.out.cell (p := ⟨w.heap.size, 1, none⟩) hwX).trans hxr1; have hx32 : w3.cell? ⟨w.heap.size, 2, none⟩ = some (.int .u64 s) := (hG3.out.cell (p := ⟨w.heap.size, 2, none⟩) hwX).trans hxr2)
          | (refine wpList_load_row rfl 64 (.tmp 6) rfl wr.heap.size R _ rfl (Lib.hid hU3.out.here) huW rfl hszW ?_))
          go_roundw
          case rel =>
            refine ⟨k + 1, by omega, by go_num, ?_, hOk.out.trans (Only.ofBelow (D := fun b => b = mb) hG3.out) (fun _ _ h => h)⟩
            rw [doneK_take hlt, hks.out]
            exact (hmk.out.only (Only.ofBelow (D := fun _ => False) hG3.out) (fun h => h)).mono (by omega)
          case measure => simp [intOf]; omega
        · have hks : Hid (crashK kept torn s k = some 64) := Lib.hid (by unfold crashK; rw [← hK.out, if_neg k1, if_neg k2, if_pos ⟨k3, k4⟩])
          go_wp2_with (first
          | (refine wpList_load_mid rfl 64 (.tmp 19) rfl g _ rfl R.toList _ hrg.out huW rfl hszL ?_; rw [Array.toArray_toList])
          | (refine wpList_store_row rfl 64 (.tmp 6) (.tmp 20) rfl wr.heap.size _ R rfl rfl (Lib.hid (heap_alloc_new _ _)) hszW (by rw [hRs]; rfl) hR1 ?_; intro w3 hU3; have hG3 : Hid (Grown wr w3) := Lib.hid (Below.trans (Grown.alloc (Grown.refl wr) _) (hU3.out.below (Nat.le_refl _))); have hx31 : w3.cell? ⟨w.heap.size, 1, none⟩ = some (.int .i64 torn) := (hG3.out.cell (p := ⟨w.heap.size, 1, none⟩) hwX).trans hxr1; have hx32 : w3.cell? ⟨w.heap.size, 2, none⟩ = some (.int .u64 s) := (hG3.out.cell (p := ⟨w.heap.size, 2, none⟩) hwX).trans hxr2)
          | (refine wpList_load_row rfl 64 (.tmp 6) rfl wr.heap.size R _ rfl (Lib.hid hU3.out.here) huW rfl hszW ?_))
          have hcall := Lib.hid (hdn.out 64 (Nat.le_refl _) 64 rfl w3 (hmk.out.only (Only.ofBelow (D := fun _ => False) hG3.out) (fun h => h)) ((hG3.out.cell (p := ⟨B, 1, none⟩) hBr).trans hcB.out))
          have hO3 := Lib.hid ((hOk.out.trans (Only.ofBelow (D := fun b => b = mb) hG3.out) (fun _ _ h => h)))
          clear hU3 hdn hG3 hx31 hx32
          with_reducible refine hcall.out.mono ?_
          rintro x w4 ⟨rfl, hm4, hO4⟩
          clear hcall
          replace hm4 := Lib.hid hm4
          replace hO4 := Lib.hid hO4
          go_wp2_with fail
          go_roundw
          case rel =>
            refine ⟨k + 1, by omega, by go_num, ?_, hO3.out.trans hO4.out (fun _ _ h => h)⟩
            rw [doneK_take hlt, hks.out, ← hi.out, ← hbsd.out, ← Nat.add_assoc]
            exact hm4.out
          case measure => simp [intOf]; omega
      · have hks : Hid (crashK kept torn s k = none) := Lib.hid (by unfold crashK; rw [← hK.out, if_neg k1, if_neg k2, if_neg (fun e => k3 e.1)])
        go_wp2_with (first
        | (refine wpList_load_mid rfl 64 (.tmp 19) rfl g _ rfl R.toList _ hrg.out huW rfl hszL ?_; rw [Array.toArray_toList])
        | (refine wpList_store_row rfl 64 (.tmp 6) (.tmp 20) rfl wr.heap.size _ R rfl rfl (Lib.hid (heap_alloc_new _ _)) hszW (by rw [hRs]; rfl) hR1 ?_; intro w3 hU3; have hG3 : Hid (Grown wr w3) := Lib.hid (Below.trans (Grown.alloc (Grown.refl wr) _) (hU3.out.below (Nat.le_refl _))); have hx31 : w3.cell? ⟨w.heap.size, 1, none⟩ = some (.int .i64 torn) := (hG3.out.cell (p := ⟨w.heap.size, 1, none⟩) hwX).trans hxr1; have hx32 : w3.cell? ⟨w.heap.size, 2, none⟩ = some (.int .u64 s) := (hG3.out.cell (p := ⟨w.heap.size, 2, none⟩) hwX).trans hxr2)
        | (refine wpList_load_row rfl 64 (.tmp 6) rfl wr.heap.size R _ rfl (Lib.hid hU3.out.here) huW rfl hszW ?_))
        go_roundw
        case rel =>
          refine ⟨k + 1, by omega, by go_num, ?_, hOk.out.trans (Only.ofBelow (D := fun b => b = mb) hG3.out) (fun _ _ h => h)⟩
          rw [doneK_take hlt, hks.out]
          exact (hmk.out.only (Only.ofBelow (D := fun _ => False) hG3.out) (fun h => h)).mono (by omega)
        case measure => simp [intOf]; omega
    · obtain rfl : k = ws.length := by omega
      clear hc2 hc21 hx0 hif
      go_wp2_with fail
      go_end0
      have hmk2 := hmk.out
      rw [List.take_length] at hmk2
      have hU := ((((Upd.refl hBlk.out).setCell (j := 2) (.slice none 0 0)).setCell (j := 5) (.bool false)).setCell (j := 3) (.bool false)).setCell (j := 4) (.int .i64 0)
      have hOU : Only (fun b => b = B) wr _ := Only.ofUpd hU rfl
      refine ⟨rfl, ⟨hU.here, hmk2.only hOU h.out.hmB, ⟨rfl, .inl ⟨rfl, rfl⟩⟩, h.out.hmB, fun k hk => by (cases hk), h.out.geB, h.out.gem, fun p hp => by (cases hp)⟩, ?_⟩
      exact ((hO1.out.mono (E := fun k => k = B ∨ k = mb) (fun _ _ h => .inr h)).trans hOk.out (fun _ _ h => .inr h)).trans hOU (fun _ _ h => .inl h)
end Go.Proofs.YtdgilgnaoifpcaaDoor
