/- What shuffle's laws find; its example. -/
import Derived.Test.YtmngcnhnpfnloaaDoorWalk
import Derived.Test.YtmngcnhnpfnloaaDoorTagR
namespace Go.Proofs.YtmngcnhnpfnloaaDoor
open Go.RowKit

structure ShM (zr : Addr) (w : World) : Prop where
  K : ShaK w
  F : ShaF w
  range : SentAt gRange11 w zr
theorem ShM.below {zr : Addr} {w w' : World} (h : ShM zr w) (hb : Below w.heap.size w w') : ShM zr w' := ⟨h.K.below hb, h.F.below hb, h.range.below hb⟩

set_option maxHeartbeats 1000000 in
theorem alive11_any (w : World) (hK : ShaK w) (hF : ShaF w) : Calls Tryd.prog 7 #[] w fun e w' => e = .returned (.bool true) ∧ Below w.heap.size w w' := by
  have hnew := Lib.hid (new_ok none 0 [] 1 w (argB_nil w) (by simp) (Nat.le_refl _) (by omega) hK hF)
  have hb1 : bitsN 1 = 1 := by decide
  rw [hb1, show ([] : List UInt8).length = 0 from rfl, show ((1 : Nat) : Int) = 1 from rfl] at hnew
  have hto := Lib.hid (fun b W A B C => oTo_any b [] 1 1 0 W A (by omega) (by decide) (Nat.le_refl _) (by omega) B C)
  have hp : place (stepN (rnd [] 1) 1) 1 (2 ^ (2 * 1)) 0 = 0 := by
    have := place_lt (n := 1) (stepN_lt (rnd_lt [] 1)) (back_step (rnd_lt [] 1)) (by decide) (show 0 < 1 by omega)
    omega
  rw [hp, show ((0 : Nat) : Int) = 0 from rfl] at hto
  replace hK := Lib.hid hK; replace hF := Lib.hid hF; replace hp := Lib.hid hp; replace hb1 := Lib.hid hb1
  go_enter Tryd.func7, Tryd.ntmps7
  go_wp2_with fail
  with_reducible refine hnew.out.mono ?_
  rintro e w1 ⟨b, rfl, hO, hb1⟩
  replace hK := Lib.hid (hK.out.below hb1); replace hF := Lib.hid (hF.out.below hb1)
  replace hb1 := Lib.hid hb1
  have htc := Lib.hid (hto.out b _ hO hK.out hF.out)
  replace hO := Lib.hid hO
  clear hnew hto
  go_wp2_with fail
  with_reducible refine htc.out.mono ?_
  rintro e w2 ⟨rfl, hb2⟩
  replace hO := Lib.hid (hO.out.below hb2)
  have hb3 := Lib.hid (hb1.out.trans (hb2.mono hb1.out.size))
  clear hb2 htc
  go_wp2_with fail
  with_reducible refine (size_any b [] 1 1 _ hO.out).mono ?_
  rintro e w3 ⟨rfl, rfl⟩
  go_wp2_with fail
  with_reducible refine (bits_any b [] 1 1 _ hO.out).mono ?_
  rintro e w3 ⟨rfl, rfl⟩
  go_wp2_with fail
  go_ret
  exact ⟨rfl, hb3.out⟩

end Go.Proofs.YtmngcnhnpfnloaaDoor
