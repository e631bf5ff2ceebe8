/- Walks over poly.Slope; its plain law. -/
import Derived.Test.YtkoeejpiaffmfaaPolyApp
namespace Go.Proofs.Ytkoeejpiaffmfaa
open Go.RowKit

def slopeAt (p : List UInt8) (i : Nat) : UInt8 := if i % 2 = 0 then cf p (i + 1) else 0
def slope (p : List UInt8) : List UInt8 := trim (tab (p.length - 1) (slopeAt p))
theorem cf_slope (p : List UInt8) (i : Nat) : cf (slope p) i = slopeAt p i := by
  rw [slope, cf_trim, cf_tab]
  split
  · rfl
  · unfold slopeAt
    rw [cf_ge (by omega)]
    split <;> rfl
theorem slope_length (p : List UInt8) : (slope p).length ≤ p.length := by
  rw [slope, trim_length]
  exact Nat.le_trans (tlen_le _) (by rw [tab_length]; omega)

set_option maxRecDepth 10000 in
set_option maxHeartbeats 1000000 in
theorem slope_any (a : Option Addr) (cap : Nat) (bs : List UInt8) (w : World) (h : ArgB w a cap bs) (hr : bs.length ≤ 1000000) :
    Calls Try.prog 14 #[.slice a bs.length cap] w fun e w' => ∃ v, e = .returned v ∧ OwnB w.heap.size w' v (slope bs) ∧ Below w.heap.size w w' := by
  replace h := Lib.hid h
  go_enter Try.func14, Try.ntmps14
  go_wp2_with fail
  go_loopw [3, 4] (fun v j wr => ∃ k : Nat, (k = 0 ∨ k + 1 ≤ bs.length) ∧ j = .int .i64 ((k : Int) + 1) ∧ OwnB w.heap.size wr v (tab k (slopeAt bs)) ∧ Below w.heap.size w wr)
    (fun _ j _ => bs.length - (intOf j).toNat)
  case atStart => exact ⟨0, .inl rfl, rfl, OwnB.nil _ _, Below.refl _ _⟩
  case round =>
    obtain ⟨k, hk, rfl, hown, hbel⟩ := hrel
    have hsz := hbel.size
    have htl := tab_length k (slopeAt bs)
    have hts := tab_succ k (slopeAt bs)
    replace hown := Lib.hid hown
    by_cases hlt : k + 1 < bs.length
    · obtain ⟨b, off, rfl, hc⟩ := (h.out.below hbel).row (k + 1) hlt
      rw [show bs.getD (k + 1) 0 = cf bs (k + 1) from rfl] at hc
      replace hbel := Lib.hid hbel
      have hlt2 : (k : Int) + 1 < (bs.length : Int) := by omega
      have hl1 : (tab k (slopeAt bs)).length ≤ 1000000 := by omega
      replace htl := Lib.hid htl
      by_cases hp : k % 2 = 0
      · have hm : ((k : Int) + 1).tmod 2 = 1 := by rw [Int.tmod_eq_emod_of_nonneg (by omega)]; omega
        rw [show slopeAt bs k = cf bs (k + 1) from if_pos hp] at hts
        replace hts := Lib.hid hts
        clear hp
        generalize cf bs (k + 1) = x at *
        go_wp2_with (at_builtin; go_must (refine wpB_app1 rfl (.tmp 19) (.tmp 21) rfl w.heap.size u3 (tab k (slopeAt bs)) rfl hown x rfl hl1 hsz ?_))
        intro v' w3 ho3 hb3
        go_wp2_with fail
        go_roundw
        case rel => exact ⟨k + 1, by omega, by go_num, by rw [hts.out]; exact ho3.out, hbel.out.trans hb3.out⟩
        case measure => simp [intOf]; omega
      · have hm : ((k : Int) + 1).tmod 2 = 0 := by rw [Int.tmod_eq_emod_of_nonneg (by omega)]; omega
        rw [show slopeAt bs k = 0 from if_neg hp] at hts
        replace hts := Lib.hid hts
        clear hp
        generalize cf bs (k + 1) = x at *
        go_wp2_with (at_builtin; go_must (refine wpB_app1 rfl (.tmp 19) (.tmp 21) rfl w.heap.size u3 (tab k (slopeAt bs)) rfl hown 0 rfl hl1 hsz ?_))
        intro v' w3 ho3 hb3
        go_wp2_with fail
        go_roundw
        case rel => exact ⟨k + 1, by omega, by go_num, by rw [hts.out]; exact ho3.out, hbel.out.trans hb3.out⟩
        case measure => simp [intOf]; omega
    · have hk' : k = bs.length - 1 := by omega
      have hlt2 : ¬ (k : Int) + 1 < (bs.length : Int) := by omega
      obtain ⟨ao, co, rfl, harg, _⟩ := hown.out.arg
      have hc := trim_any _ _ _ _ harg (by omega)
      rw [show trim (tab k (slopeAt bs)) = slope bs from by rw [hk']; rfl, htl] at hc
      rw [htl]
      replace hc := Lib.hid hc
      clear harg hts htl hown hk'
      go_wp2_with fail
      refine hc.out.mono ?_
      rintro e w3 ⟨v, rfl, ho, hb3⟩
      replace ho := Lib.hid (ho.mono hsz)
      have hb4 := Lib.hid (hbel.trans (hb3.mono hsz))
      go_wp2_with fail
      go_ret
      exact ⟨_, rfl, ho.out, hb4.out⟩

end Go.Proofs.Ytkoeejpiaffmfaa
