/- The walks over label.Number and baileeref09.Number. -/
import Derived.Test.YtfmeheolcibfeaaDoorNumB
import Derived.Test.YtfmeheolcibfeaaDoorShaS
namespace Go.Proofs.YtfmeheolcibfeaaDoor
open Go.RowKit

set_option maxHeartbeats 1000000 in
theorem lnum_any (n : Int) (w : World) (h1 : -9223372036854775808 ≤ n) (h2 : n ≤ 9223372036854775807) :
    Calls Tryd.prog 13 #[.int .i64 n] w fun e w' => ∃ v, e = .returned v ∧ OwnB w.heap.size w' v (numB n) ∧ Below w.heap.size w w' := by
  have h0 := Lib.hid (OwnB.nil w.heap.size w)
  have hby := Lib.hid (numByte_shr n)
  have hsc := Lib.hid (numTo_succ n)
  have hend := Lib.hid (show (List.range 8).map (numByte n) = numB n from rfl)
  replace h1 := Lib.hid h1
  replace h2 := Lib.hid h2
  go_enter Tryd.func13, Tryd.ntmps13
  go_wp2_with fail
  go_loopw [3, 4] (fun v j wr => ∃ k : Nat, k ≤ 8 ∧ j = .int .i64 (7 - (k : Int)) ∧ OwnB w.heap.size wr v ((List.range k).map (numByte n)) ∧ Below w.heap.size w wr)
    (fun _ j _ => (intOf j + 8).toNat)
  case atStart => exact ⟨0, Nat.zero_le _, rfl, h0.out, Below.refl _ _⟩
  case round =>
    clear h0
    obtain ⟨k, hk, rfl, hown, hbel⟩ := hrel
    have hsz := hbel.size
    replace hown := Lib.hid hown
    replace hbel := Lib.hid hbel
    by_cases hlt : k < 8
    · have hll : ((List.range k).map (numByte n)).length ≤ 1000000 := by rw [List.length_map, List.length_range]; omega
      have hge : (0 : Int) ≤ 7 - (k : Int) := by omega
      have hb := Lib.hid (hby.out k hlt)
      have hs := Lib.hid (hsc.out k)
      generalize (List.range k).map (numByte n) = T at *
      go_wp2_with (at_builtin; go_must (refine wpB_app1z rfl (.tmp 9) (.tmp 15) rfl w.heap.size _ T rfl hown (numByte n k) _ ?hz rfl hll hsz ?_))
      case hz => exact hb.out
      intro v5 w5 ho5 hd5
      have hb5 := Lib.hid (hbel.out.trans hd5.out)
      go_wp2_with fail
      go_roundw
      case rel => exact ⟨k + 1, by omega, by go_num, by rw [hs.out]; exact ho5.out, hb5.out⟩
      case measure => simp [intOf]; omega
    · obtain rfl : k = 8 := by omega
      have hlt7 : ¬ (0 : Int) ≤ 7 - ((8 : Nat) : Int) := by omega
      go_wp2_with fail
      go_ret
      exact ⟨_, rfl, by rw [← hend.out]; exact hown.out, hbel.out⟩

set_option maxRecDepth 100000 in
set_option maxHeartbeats 1000000 in
theorem rnum_any (n : Int) (w : World) (h1 : -9223372036854775808 ≤ n) (h2 : n ≤ 9223372036854775807) :
    Calls Tryd.prog 14 #[.int .i64 n] w fun e w' => ∃ v, e = .returned v ∧ OwnB w.heap.size w' v (numB n) ∧ Below w.heap.size w w' := by
  obtain ⟨i0, hi, hz0, hz1, hz2⟩ := info_parts Tryd.infoByteP
  have hby := Lib.hid (numX_byte n)
  have hxs := Lib.hid (numX_succ n)
  have hset := Lib.hid (backTo_set n)
  have hb0 := Lib.hid (backTo_zero n)
  have hend := Lib.hid (backTo_end n)
  have hu : Hid (IntKind.u64.wrap n = ((numX n 0 : Nat) : Int)) := Lib.hid (by rw [numX_zero]; unfold numU; rw [IntKind.wrap_u64]; omega)
  have hxl := Lib.hid (numX_lt n)
  replace h1 := Lib.hid h1
  replace h2 := Lib.hid h2
  have hu2 := hu.out
  obtain ⟨x0, hx0⟩ : ∃ x, x = numX n 0 := ⟨_, rfl⟩
  rw [← hx0] at hu2
  replace hx0 := Lib.hid hx0
  clear hu
  go_enter Tryd.func14, Tryd.ntmps14
  go_wp2_with (at_make; go_must (refine wpList_make_full _ rfl _ _ 22 rfl w.heap.size 5 i0 (.int .u8 0) 1 Tryd.underlying22 hi hz0 hz1 _ _ _ _ 8 rfl rfl (by omega) (by omega) (by rw [hz2]; omega) (by unfold maxLen; omega) (Nat.le_refl _) ?_))
  intro w4 hown2 hg4
  have hO := Lib.hid (OwnB.made hown2)
  have hB := Lib.hid ((Below.refl w.heap.size w).grown hg4 (Nat.le_refl _) (fun k hk => by cases hk))
  clear hown2 hg4
  go_wp2_with fail
  clear hu2
  go_loopw [4, 5] (fun x j wr => ∃ r : Nat, r ≤ 8 ∧ j = .int .i64 (7 - (r : Int)) ∧ x = .int .u64 ((numX n r : Nat) : Int) ∧ OwnB w.heap.size wr (.slice (some ⟨w.heap.size, 0, none⟩) 8 8) (tab 8 (backTo n r)) ∧ Below w.heap.size w wr)
    (fun _ j _ => (intOf j + 8).toNat)
  case atStart => exact ⟨0, Nat.zero_le _, rfl, by rw [hx0.out], by rw [hb0.out]; exact hO.out, hB.out⟩
  case round =>
    clear hO hB
    obtain ⟨r, hr, rfl, rfl, hO, hB⟩ := hrel
    by_cases hlt : r < 8
    · have hc := hO.cell (by rw [tab_length]) (j := 7 - r) (by omega)
      have hf := hO.free (by rw [tab_length]) (7 - r)
      have hS := hO.set (by rw [tab_length]) (7 - r) (numByte n (7 - r))
      rw [hset.out r hlt] at hS
      replace hS := Lib.hid hS
      have e1 := hby.out r hlt
      have e2 : ((numX n r : Nat) : Int) / 256 = ((numX n (r + 1) : Nat) : Int) := by rw [hxs.out r]; omega
      have e3 : (7 - (r : Int)).toNat = 7 - r := by omega
      have e4 : (0 : Int) ≤ 7 - (r : Int) := by omega
      have e5 : (7 - (r : Int)) < 8 := by omega
      have hwy : Hid (IntKind.u64.wrap ((numX n (r + 1) : Nat) : Int) = ((numX n (r + 1) : Nat) : Int)) := Lib.hid (by have := numX_lt n (r + 1); rw [IntKind.wrap_u64]; omega)
      have hyd := Lib.hid (show numX n (r + 1) = numX n (r + 1) from rfl)
      have hb2 := Lib.hid (hB.setCell (p := ⟨w.heap.size, 7 - r, none⟩) (Nat.le_refl _) (.int .u8 ((numByte n (7 - r)).toNat : Int)))
      replace hO := Lib.hid hO
      replace hB := Lib.hid hB
      obtain ⟨y, hy⟩ : ∃ y, y = numX n (r + 1) := ⟨_, rfl⟩
      rw [← hy] at e2 hwy
      replace hy := Lib.hid hy
      generalize numX n r = x at *
      generalize numByte n (7 - r) = b at *
      clear hxl hby hxs hset hend hb0 h1 h2 hyd
      go_wp2_with fail
      exact ⟨⟨r + 1, by omega, by go_num, by rw [hwy.out, hy.out], hS.out, hb2.out⟩, by simp [intOf]; omega⟩
    · obtain rfl : r = 8 := by omega
      have hlt7 : ¬ (0 : Int) ≤ 7 - ((8 : Nat) : Int) := by omega
      rw [hend.out] at hO
      replace hO := Lib.hid hO
      replace hB := Lib.hid hB
      go_wp2_with fail
      go_ret
      exact ⟨_, rfl, hO.out, hB.out⟩

end Go.Proofs.YtfmeheolcibfeaaDoor
