/- The walk over (*shuffle.Order).All. -/
import Derived.Test.YtmngcnhnpfnloaaDoorWalk
import Derived.Test.YtmngcnhnpfnloaaDoorOwnI
namespace Go.Proofs.YtmngcnhnpfnloaaDoor
open Go.RowKit

/-- The places of the first numbers. -/
def placesTo (f : Nat → Nat) (size N i : Nat) : List Int := (List.range i).map fun j => ((place f size N j : Nat) : Int)
theorem placesTo_succ (f : Nat → Nat) (size N i : Nat) : placesTo f size N (i + 1) = placesTo f size N i ++ [((place f size N i : Nat) : Int)] := by simp [placesTo, List.range_succ]
theorem placesTo_length (f : Nat → Nat) (size N i : Nat) : (placesTo f size N i).length = i := by simp [placesTo]

theorem all_big (b : Nat) (key : List UInt8) (size bits : Nat) (w : World) (hO : OrdAt w b key size bits) (hs : 1024 < size) :
    Calls Tryd.prog 11 #[.pointer (some ⟨b, 0, none⟩)] w fun e w' => e = .returned (.slice none 0 0) ∧ w = w' := by
  have k1 := hO.size
  have hsi : (1024 : Int) < size := by omega
  go_enter Tryd.func11, Tryd.ntmps11
  go_wp2_with fail
  go_ret
  exact ⟨rfl, rfl⟩

set_option maxRecDepth 10000 in
set_option maxHeartbeats 1000000 in
theorem all_any (b : Nat) (key : List UInt8) (size bits : Nat) (w : World) (hO : OrdAt w b key size bits) (h100 : size ≤ 100) (hs : size ≤ 2 ^ (2 * bits)) (hb1 : 1 ≤ bits) (hb2 : bits ≤ 10) (hK : ShaK w) (hF : ShaF w) :
    Calls Tryd.prog 11 #[.pointer (some ⟨b, 0, none⟩)] w fun e w' => ∃ v, e = .returned v ∧ OwnI w.heap.size w' v (placesTo (stepN (rnd key bits) bits) size (2 ^ (2 * bits)) size) ∧ Below w.heap.size w w' := by
  have k1 := hO.size
  have hsi : (size : Int) ≤ 100 := by omega
  have hto := Lib.hid (fun x W A B C D => oTo_any b key size bits x W A B hs hb1 hb2 C D)
  have hps := Lib.hid (placesTo_succ (stepN (rnd key bits) bits) size (2 ^ (2 * bits)))
  have hpl := Lib.hid (placesTo_length (stepN (rnd key bits) bits) size (2 ^ (2 * bits)))
  have hp0 := Lib.hid (show placesTo (stepN (rnd key bits) bits) size (2 ^ (2 * bits)) 0 = [] from rfl)
  have hown0 := Lib.hid (OwnI.nil w.heap.size w)
  replace hO := Lib.hid hO; replace hK := Lib.hid hK; replace hF := Lib.hid hF; replace hs := Lib.hid hs
  generalize placesTo (stepN (rnd key bits) bits) size (2 ^ (2 * bits)) = L at *
  generalize place (stepN (rnd key bits) bits) size (2 ^ (2 * bits)) = f at *
  go_enter Tryd.func11, Tryd.ntmps11
  go_wp2_with fail
  go_loopw [3, 4, 5, 6, 16] (fun v _ _ _ j wr => ∃ i : Nat, i ≤ size ∧ j = .int .i64 i ∧ OwnI w.heap.size wr v (L i) ∧ Below w.heap.size w wr)
    (fun _ _ _ _ j _ => size - (intOf j).toNat)
  case atStart => exact ⟨0, Nat.zero_le _, rfl, by rw [hp0.out]; exact hown0.out, Below.refl _ _⟩
  case round =>
    obtain ⟨i, hi, rfl, hOw, hB⟩ := hrel
    by_cases hlt : i < size
    · have hli : (i : Int) < size := by omega
      have hc := Lib.hid (hto.out i wr (hO.out.below hB) hlt (hK.out.below hB) (hF.out.below hB))
      have hL1 := Lib.hid (hps.out i)
      have hLl := Lib.hid (hpl.out i)
      replace hOw := Lib.hid hOw
      replace hB := Lib.hid hB
      generalize f i = y at *
      go_wp2_with fail
      with_reducible refine hc.out.mono ?_
      rintro e w2 ⟨rfl, hB2⟩
      have hO2 := Lib.hid (hOw.out.below hB2 (Nat.le_refl _))
      have hB3 := Lib.hid (hB.out.trans (hB2.mono hB.out.size))
      have hs3 := hB3.out.size
      clear hB2 hc hOw
      go_wp2_with (at_builtin; go_must (refine wpI_app1 rfl (.tmp 27) (.tmp 29) rfl w.heap.size _ (L i) rfl hO2 (y : Int) rfl (by have := hLl.out; omega) hs3 ?_))
      intro v4 w4 ho4 hb4
      have hB4 := Lib.hid (hB3.out.trans hb4.out)
      rw [← hL1.out] at ho4
      go_wp2_with fail
      exact ⟨⟨i + 1, by omega, by go_num, ho4.out, hB4.out⟩, by simp [intOf]; omega⟩
    · obtain rfl : i = size := by omega
      replace hOw := Lib.hid hOw
      replace hB := Lib.hid hB
      go_wp2_with fail
      go_ret
      exact ⟨_, rfl, hOw.out, hB.out⟩

end Go.Proofs.YtmngcnhnpfnloaaDoor
