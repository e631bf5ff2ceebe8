/- Walks over disk: deed, Sure. -/
import Derived.Test.YtdgilgnaoifpcaaDoorDisk1
namespace Go.Proofs.YtdgilgnaoifpcaaDoor
open Go.RowKit

set_option maxHeartbeats 400000 in
theorem ddeed_go (B : Nat) (armed : Bool) (l : Int) (h : armed = true → l ≠ 0) (hl : -1000000 ≤ l ∧ l ≤ 9223372036854775807) (w : World) (c3 : w.cell? ⟨B, 3, none⟩ = some (.bool armed)) (c4 : w.cell? ⟨B, 4, none⟩ = some (.int .i64 l)) (c5 : w.cell? ⟨B, 5, none⟩ = some (.bool false)) (f4 : w.frozen? ⟨B, 4, none⟩ = false) :
    Calls Tryd.prog 22 #[.pointer (some ⟨B, 0, none⟩)] w fun x w' => x = .returned .nilIface ∧ w' = w.setCell ⟨B, 4, none⟩ (.int .i64 (l - 1)) := by
  have hw : IntKind.i64.wrap (l - 1) = l - 1 := IntWalk.i64_in _ (by omega)
  cases armed
  · clear h
    go_enter Tryd.func22, Tryd.ntmps22
    go_wp2_with fail
    go_ret
    exact ⟨rfl, rfl⟩
  · have h0 : (l == 0) = false := by simpa using h rfl
    clear h
    go_enter Tryd.func22, Tryd.ntmps22
    go_wp2_with fail
    go_ret
    exact ⟨rfl, rfl⟩
set_option maxHeartbeats 400000 in
theorem ddeed_gone (B : Nat) (armed : Bool) (l : Int) (h : armed = true → l ≠ 0) (w : World) (e : Nat → Addr) (hE : DErr w e) (c3 : w.cell? ⟨B, 3, none⟩ = some (.bool armed)) (c4 : w.cell? ⟨B, 4, none⟩ = some (.int .i64 l)) (c5 : w.cell? ⟨B, 5, none⟩ = some (.bool true)) :
    Calls Tryd.prog 22 #[.pointer (some ⟨B, 0, none⟩)] w fun x w' => x = .returned (.iface 96 (.pointer (some (e 2)))) ∧ w = w' := by
  have hk := hE.power
  cases armed
  · clear h
    go_enter Tryd.func22, Tryd.ntmps22
    go_wp2_with fail
    go_ret
    exact ⟨rfl, rfl⟩
  · have h0 : (l == 0) = false := by simpa using h rfl
    clear h
    go_enter Tryd.func22, Tryd.ntmps22
    go_wp2_with fail
    go_ret
    exact ⟨rfl, rfl⟩

/-- A sector in a block of its own. -/
def SecBlk (w : World) (g : Nat) (bs : List UInt8) : Prop := w.heap[g]? = some (.cells (cB bs).toArray 62 (0, 0))
theorem SecBlk.argB {w : World} {g : Nat} {bs : List UInt8} (h : SecBlk w g bs) (hl : bs.length = 64) : ArgB w (some ⟨g, 0, none⟩) 64 bs := by
  refine ⟨by omega, by decide, (fun e => by cases e), fun i hi => ⟨g, 0, rfl, ?_⟩⟩
  rw [cell_of_block h]
  simp [cB, hi]
set_option maxRecDepth 100000 in
set_option maxHeartbeats 1000000 in
theorem dsure_yes (B mb mn : Nat) (f : Int → List UInt8) (n i : Int) (h0 : 0 ≤ i) (h1 : i < n) (hn : n ≤ 2048) (w : World) (hc : w.cell? ⟨B, 0, none⟩ = some (.int .i64 n)) (hc1 : w.cell? ⟨B, 1, none⟩ = some (.map (some mb))) (hm : SureMap w mb mn f) :
    Calls Tryd.prog 10 #[.pointer (some ⟨B, 0, none⟩), .int .i64 i] w fun x w' => ∃ g, x = .returned (.tuple #[.slice (some ⟨g, 0, none⟩) 64 64, .nilIface]) ∧ SecBlk w' g (f i) ∧ w.heap.size ≤ g ∧ Below w.heap.size w w' := by
  have hth := Lib.hid (dthere_yes B n i h0 h1 w hc)
  have hl : (f i).length = 64 := by obtain ⟨_, _, _, hl, _⟩ := hm; exact hl i
  replace hm := Lib.hid hm
  have hi1 : -9223372036854775808 ≤ i := by omega
  have hi2 : i ≤ 9223372036854775807 := by omega
  obtain ⟨S, hSd⟩ : ∃ S, S = (cB (f i)).toArray := ⟨_, rfl⟩
  have hSV : secV (f i) = .agg S := by rw [hSd]; rfl
  have hSs : S.size = 64 := by rw [hSd]; simp [cB_length, hl]
  have hS1 : S.all (·.oneCell') = true := by
    rw [hSd, Array.all_eq_true']
    intro u hu
    exact cB_one _ u (by simpa using hu)
  have hz : (w.alloc (.cells (cB zSec).toArray 62)).heap[w.heap.size]? = some (.cells (cB zSec).toArray 62 (0, 0)) := heap_alloc_new w _
  have hsz : (Tryd.prog.info? 62).map (·.size) = some S.size := by rw [hSs]; kernel_rfl
  have hzs : (cB zSec).toArray.size = S.size := by rw [hSs]; rfl
  have hgrow : Below w.heap.size w (w.alloc (.cells (cB zSec).toArray 62)) := (Below.refl _ _).alloc (Nat.le_refl _) _
  replace hSV := Lib.hid hSV
  replace hSd := Lib.hid hSd
  replace hz := Lib.hid hz
  replace hgrow := Lib.hid hgrow
  replace hl := Lib.hid hl
  go_enter Tryd.func10, Tryd.ntmps10
  go_wp2_with fail
  with_reducible refine hth.out.mono ?_
  rintro x w2 ⟨rfl, hq⟩
  obtain rfl := hq
  clear hth
  go_wp2_with (first
    | (at_lookup; go_must (refine wpList_look rfl _ _ rfl mb mn f rfl hm i rfl hi1 hi2 ?_); rw [hSV.out])
    | (refine wpList_store_row rfl 62 (.tmp 7) (.tmp 19) rfl w.heap.size _ S rfl rfl hz hsz hzs hS1 ?_; intro w3 hU3))
  go_ret2
  exact ⟨_, rfl, by rw [SecBlk, ← hSd.out]; exact hU3.out.here, Nat.le_refl _, hgrow.out.trans (hU3.out.below (Nat.le_refl _))⟩
end Go.Proofs.YtdgilgnaoifpcaaDoor
