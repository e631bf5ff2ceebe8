/- Walks over disk: Waits, Gone, Size, Sure of no sector; the law's filled. -/
import Derived.Test.YtdgilgnaoifpcaaDoorDisk2
namespace Go.Proofs.YtdgilgnaoifpcaaDoor
open Go.RowKit

set_option maxHeartbeats 400000 in
theorem dwaits_any (B : Nat) (a : Option Addr) (m c : Nat) (w : World) (h : w.cell? ⟨B, 2, none⟩ = some (.slice a m c)) : Calls Tryd.prog 17 #[.pointer (some ⟨B, 0, none⟩)] w fun x w' => x = .returned (.int .i64 m) ∧ w = w' := by
  go_enter Tryd.func17, Tryd.ntmps17
  go_wp2_with fail
  go_ret
  exact ⟨rfl, rfl⟩
set_option maxHeartbeats 400000 in
theorem dgone_any (B : Nat) (g : Bool) (w : World) (h : w.cell? ⟨B, 5, none⟩ = some (.bool g)) : Calls Tryd.prog 18 #[.pointer (some ⟨B, 0, none⟩)] w fun x w' => x = .returned (.bool g) ∧ w = w' := by
  go_enter Tryd.func18, Tryd.ntmps18
  go_wp2_with fail
  go_ret
  exact ⟨rfl, rfl⟩
set_option maxHeartbeats 400000 in
theorem dsize_any (B : Nat) (n : Int) (w : World) (h : w.cell? ⟨B, 0, none⟩ = some (.int .i64 n)) : Calls Tryd.prog 16 #[.pointer (some ⟨B, 0, none⟩)] w fun x w' => x = .returned (.int .i64 n) ∧ w = w' := by
  go_enter Tryd.func16, Tryd.ntmps16
  go_wp2_with fail
  go_ret
  exact ⟨rfl, rfl⟩
set_option maxHeartbeats 400000 in
theorem dsure_no (B : Nat) (n i : Int) (h : i < 0 ∨ n ≤ i) (w : World) (hc : w.cell? ⟨B, 0, none⟩ = some (.int .i64 n)) (e : Nat → Addr) (hE : DErr w e) : Calls Tryd.prog 10 #[.pointer (some ⟨B, 0, none⟩), .int .i64 i] w fun x w' => x = .returned (.tuple #[.slice none 0 0, .iface 96 (.pointer (some (e 0)))]) ∧ w = w' := by
  have hth := Lib.hid (dthere_no B n i h w hc e hE)
  clear h
  go_enter Tryd.func10, Tryd.ntmps10
  go_wp2_with fail
  with_reducible refine hth.out.mono ?_
  rintro x w2 ⟨rfl, hq⟩
  obtain rfl := hq
  clear hth
  go_wp2_with fail
  go_ret2
  exact ⟨rfl, rfl⟩
set_option maxRecDepth 100000 in
set_option maxHeartbeats 1000000 in
theorem filled_any (n : Int) (L : Nat) (hL : L ≤ 1000) (w : World) : Calls Tryd.prog 7 #[.int .i64 n, .int .i64 L] w fun x w' => ∃ v bs, x = .returned v ∧ OwnB w.heap.size w' v bs ∧ bs.length = L ∧ Below w.heap.size w w' := by
  have o0 := owns_made0 w w.heap.size (Nat.le_refl _)
  have b0 : Below w.heap.size w (w.alloc (.cells #[] 5)) := (Below.refl _ _).alloc (Nat.le_refl _) _
  replace o0 := Lib.hid o0
  replace b0 := Lib.hid b0
  go_enter Tryd.func7, Tryd.ntmps7
  go_wp2_with fail
  go_loopw [5, 8, 9, 10, 11, 12, 13, 14, 15, 16, 17, 18, 19, 20, 6] (fun v _ _ _ _ _ _ _ _ _ _ _ _ _ j wr => ∃ (k : Nat) (bs : List UInt8), k ≤ L ∧ j = .int .i64 k ∧ OwnB w.heap.size wr v bs ∧ bs.length = k ∧ Below w.heap.size w wr) (fun _ _ _ _ _ _ _ _ _ _ _ _ _ _ j _ => L - (intOf j).toNat)
  case atStart => exact ⟨0, [], Nat.zero_le _, rfl, o0.out, rfl, b0.out⟩
  case round =>
    obtain ⟨k, bs, hk, rfl, ho, hlen, hb⟩ := hrel
    have hsz := hb.size
    replace ho := Lib.hid ho
    replace hb := Lib.hid hb
    replace hlen := Lib.hid hlen
    clear o0 b0
    by_cases hlt : k < L
    · have hlt2 : (k : Int) < L := by omega
      obtain ⟨u, hu⟩ : ∃ u : UInt8, wrap64 (n + (k : Int) % 3) % 256 = (u.toNat : Int) := by
        generalize wrap64 (n + (k : Int) % 3) = q
        refine ⟨UInt8.ofNat (q % 256).toNat, ?_⟩
        have h1 : (q % 256).toNat < 256 := by omega
        have h2 : (UInt8.ofNat (q % 256).toNat).toNat = (q % 256).toNat := by
          rw [UInt8.toNat_ofNat']
          omega
        rw [h2]
        omega
      go_wp2_with (at_builtin; go_must (refine wpB_app1 rfl (.tmp 13) (.tmp 19) rfl w.heap.size _ bs rfl ho u rfl (by rw [hlen.out]; omega) hsz ?_); intro v2 w2 ho2 hb2)
      go_roundw
      case rel => exact ⟨k + 1, bs ++ [u], by omega, by go_num, ho2.out, by rw [List.length_append, hlen.out]; rfl, hb.out.trans hb2.out⟩
      case measure => simp [intOf]; omega
    · obtain rfl : k = L := by omega
      go_wp2_with fail
      go_ret
      exact ⟨_, bs, rfl, ho.out, hlen.out, hb.out⟩
end Go.Proofs.YtdgilgnaoifpcaaDoor
