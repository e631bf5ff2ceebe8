/- Walks over the reference's Add. -/
import Derived.Test.YtkoeejpiaffmfaaPolyApp
namespace Go.Proofs.Ytkoeejpiaffmfaa
open Go.RowKit

set_option maxRecDepth 10000 in
set_option maxHeartbeats 2000000 in
theorem radd_any (a : Option Addr) (ca : Nat) (xs : List UInt8) (b : Option Addr) (cb : Nat) (ys : List UInt8) (w : World) (ha : ArgB w a ca xs) (hb : ArgB w b cb ys) (hx : xs.length ≤ 400000) (hy : ys.length ≤ 400000) :
    Calls Try.prog 21 #[.slice a xs.length ca, .slice b ys.length cb] w fun e w' => ∃ v, e = .returned v ∧ OwnB w.heap.size w' v (padd xs ys) ∧ Below w.heap.size w w' := by
  replace ha := Lib.hid ha
  replace hb := Lib.hid hb
  go_enter Try.func21, Try.ntmps21
  go_wp2_with fail
  have hown0 := Lib.hid (owns_made0 w w.heap.size (Nat.le_refl _))
  have hb0 := Lib.hid ((Below.refl w.heap.size w).alloc (Nat.le_refl _) (.cells #[] 5))
  go_loopw [5, 6] (fun v j wr => ∃ k : Nat, k ≤ max xs.length ys.length ∧ j = .int .i64 k ∧ OwnB w.heap.size wr v (tab k fun i => Gf.add (cf xs i) (cf ys i)) ∧ Below w.heap.size w wr)
    (fun _ j _ => max xs.length ys.length - (intOf j).toNat)
  case atStart => exact ⟨0, Nat.zero_le _, rfl, hown0.out, hb0.out⟩
  case round =>
    clear hown0 hb0
    obtain ⟨k, hk, rfl, hown, hbel⟩ := hrel
    have hsz := hbel.size
    replace hown := Lib.hid hown
    replace hbel := Lib.hid hbel
    have ha1 := Lib.hid (ha.out.below hbel.out)
    have hb1 := Lib.hid (hb.out.below hbel.out)
    by_cases hlt : k < max xs.length ys.length
    · have htl := Lib.hid (tab_length k (fun i => Gf.add (cf xs i) (cf ys i)))
      have hts := Lib.hid (tab_succ k (fun i => Gf.add (cf xs i) (cf ys i)))
      have hl1 : (tab k fun i => Gf.add (cf xs i) (cf ys i)).length ≤ 1000000 := by rw [htl.out]; omega
      have hc1 := Lib.hid (at_any _ ca xs k _ ha1.out.row)
      have hc2 := Lib.hid (at_any _ cb ys k _ hb1.out.row)
      have hcase : (k : Int) < (xs.length : Int) ∨ (¬ (k : Int) < (xs.length : Int) ∧ (k : Int) < (ys.length : Int)) := by omega
      generalize (tab k fun i => Gf.add (cf xs i) (cf ys i)) = T at *
      generalize cf xs k = x at *
      generalize cf ys k = y at *
      rcases hcase with hcase | ⟨hcase, hcase2⟩
      all_goals
        go_wp2_with fail
        refine hc1.out.mono ?_
        rintro e w2 ⟨rfl, rfl⟩
        go_wp2_with fail
        refine hc2.out.mono ?_
        rintro e w2 ⟨rfl, rfl⟩
        go_wp2_with (at_builtin; (rw [xor_u8]); go_must (refine wpB_app1 rfl (.tmp 20) (.tmp 28) rfl w.heap.size u5 T rfl hown (Gf.add x y) rfl hl1 hsz ?_))
        intro v' w3 ho3 hb3
        go_wp2_with fail
        go_roundw
        case rel => exact ⟨k + 1, by omega, by go_num, by rw [hts.out]; exact ho3.out, hbel.out.trans hb3.out⟩
        case measure => simp [intOf]; omega
    · obtain rfl : k = max xs.length ys.length := by omega
      obtain ⟨ao, co, rfl, harg, _⟩ := hown.out.arg
      have htl := tab_length (max xs.length ys.length) (fun i => Gf.add (cf xs i) (cf ys i))
      have hc := rtrim_any _ _ _ _ harg (by rw [htl]; omega)
      have h1 : ¬ ((max xs.length ys.length : Nat) : Int) < (xs.length : Int) := by omega
      have h2 : ¬ ((max xs.length ys.length : Nat) : Int) < (ys.length : Int) := by omega
      rw [htl] at hc ⊢
      replace hc := Lib.hid hc
      clear harg htl hlt
      generalize hK : max xs.length ys.length = K at *
      go_wp2_with fail
      refine hc.out.mono ?_
      rintro e w3 ⟨v, rfl, ho, hb3⟩
      replace ho := Lib.hid (ho.mono hsz)
      have hb4 := Lib.hid (hbel.out.trans (hb3.mono hsz))
      go_wp2_with fail
      go_ret
      refine ⟨_, rfl, ?_, hb4.out⟩
      unfold padd
      rw [hK]
      exact ho.out

end Go.Proofs.Ytkoeejpiaffmfaa
