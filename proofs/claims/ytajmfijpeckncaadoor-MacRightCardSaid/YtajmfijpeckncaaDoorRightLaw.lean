/- The walk over baileelaw08.MacRight: for whatever arguments it returns true and leaves what was there as it was. -/
import Derived.Test.YtajmfijpeckncaaDoorTagR
import Derived.Test.YtajmfijpeckncaaDoorOnL
namespace Go.Proofs.YtajmfijpeckncaaDoor
open Go.RowKit

theorem dec_beq (a b : List UInt8) : decide (a = b) = (a == b) := by
  rw [Bool.eq_iff_iff, decide_eq_true_iff, beq_iff_eq]

set_option maxRecDepth 10000 in
set_option maxHeartbeats 4000000 in
theorem right_walk (a1 : Option Addr) (c1 : Nat) (key : List UInt8) (a2 : Option Addr) (c2 : Nat) (m : List UInt8) (a3 : Option Addr) (c3 : Nat) (tag : List UInt8) (w : World) (h1 : ArgB w a1 c1 key) (h2 : ArgB w a2 c2 m) (h3 : ArgB w a3 c3 tag)
    (hK : ShaK w) (hF : ShaF w) (hRK : RefK w) (hRF : RefF w) :
    Calls Tryd.prog 4 #[.slice a1 key.length c1, .slice a2 m.length c2, .slice a3 tag.length c3] w fun e w' => e = .returned (.bool true) ∧ Below w.heap.size w w' := by
  have hal := Lib.hid (alive8_any w hK hF)
  have hx1 : key.length ≤ 9223372036854775807 := by have := h1.len; have := h1.most; unfold maxLen at *; omega
  have hx2 : m.length ≤ 9223372036854775807 := by have := h2.len; have := h2.most; unfold maxLen at *; omega
  have hx3 : tag.length ≤ 9223372036854775807 := by have := h3.len; have := h3.most; unfold maxLen at *; omega
  by_cases hbig : 300 < key.length ∨ 300 < m.length ∨ 60 < tag.length
  · have hd : ∃ b1 b2 b3 : Bool, decide (300 < (key.length : Int)) = b1 ∧ decide (300 < (m.length : Int)) = b2 ∧ decide (60 < (tag.length : Int)) = b3 ∧ (b1 || b2 || b3) = true := by
      refine ⟨_, _, _, rfl, rfl, rfl, ?_⟩
      simp only [Bool.or_eq_true, decide_eq_true_eq]
      omega
    obtain ⟨b1, b2, b3, e1, e2, e3, e4⟩ := hd
    cases b1 <;> cases b2 <;> cases b3 <;> simp at e4
    all_goals
      go_enter Tryd.func4, Tryd.ntmps4
      go_wp2_with fail
      with_reducible refine hal.out.mono ?_
      rintro e w1 ⟨rfl, hb1⟩
      replace hb1 := Lib.hid hb1
      go_wp2_with fail
      go_ret
      exact ⟨rfl, hb1.out⟩
  · have hk : ¬ 300 < (key.length : Int) := by omega
    have hm : ¬ 300 < (m.length : Int) := by omega
    have ht : ¬ 60 < (tag.length : Int) := by omega
    go_enter Tryd.func4, Tryd.ntmps4
    go_wp2_with fail
    with_reducible refine hal.out.mono ?_
    rintro e w1 ⟨rfl, hb1⟩
    replace h1 := Lib.hid (h1.below hb1)
    replace h2 := Lib.hid (h2.below hb1)
    replace h3 := Lib.hid (h3.below hb1)
    replace hK := Lib.hid (hK.below hb1)
    replace hF := Lib.hid (hF.below hb1)
    replace hRK := Lib.hid (hRK.below hb1)
    replace hRF := Lib.hid (hRF.below hb1)
    replace hb1 := Lib.hid hb1
    go_wp2_with fail
    with_reducible refine (macMake_any a1 c1 key _ h1.out (by omega) hK.out hF.out).mono ?_
    rintro e w2 ⟨b, rfl, hkey, hnew⟩
    replace h1 := Lib.hid (h1.out.below hnew); replace h2 := Lib.hid (h2.out.below hnew); replace h3 := Lib.hid (h3.out.below hnew); replace hK := Lib.hid (hK.out.below hnew); replace hF := Lib.hid (hF.out.below hnew); replace hRK := Lib.hid (hRK.out.below hnew); replace hRF := Lib.hid (hRF.out.below hnew)
    replace hkey := Lib.hid hkey
    replace hb1 := Lib.hid (hb1.out.trans (hnew.mono hb1.out.size))
    clear hnew hal
    have hlT := Lib.hid (show ((hmac key m).take 8).length = 8 from by rw [List.length_take, hmac_length]; rfl)
    have hrt := (fun W (g : Nat) A B C D E => keyRight_any b key a3 c3 tag (some ⟨g, 0, none⟩) 1 [m] W A B (by omega) C (by simp; omega) (by simp) D E)
    rw [show [m].flatten = m from by simp, show [m].length = 1 from rfl, dec_beq] at hrt
    replace hrt := Lib.hid hrt
    have hsa := fun W A B => macSame_any a3 c3 tag a2 c2 m W A B (by omega)
    have hsb := fun W A B => macSame_any a2 c2 m a2 c2 m W A B (by omega)
    rw [dec_beq] at hsa hsb
    rw [beq_self_eq_true] at hsb
    replace hsa := Lib.hid hsa
    replace hsb := Lib.hid hsb
    have hse := str_eq tag ((hmac key m).take 8)
    have hsm := str_eq tag m
    have htg := Lib.hid (fun W A B C D => rtag_any a1 c1 key a2 c2 m W A (by omega) B (by omega) C D)
    have k2 := convE h2.out _ rfl
    have k3 := convE h3.out _ rfl
    generalize (hmac key m).take 8 = T at *
    go_wp2_with fail
    refine wp_region_on2 (by kernel_rfl) (fun wd hOn => ?_)
    refine wpAnyH_take (i := 0) (v := ?_) (by simp only [List.getElem?_toArray, List.getElem?_cons_zero]; rfl) (by kernel_rfl) (by kernel_rfl) (by kernel_rfl) (by exact fun _ _ _ h => h) (Or.inl ⟨by rfl, ?_⟩) hOn ?_
    rotate_left
    focus (intro W hSW; go_simp; try with_reducible rfl)
    try simp only [Act.put, List.setIfInBounds_toArray, List.set_cons_zero, List.set_cons_succ]
    refine wpAnyH_take (i := 1) (v := ?_) (by simp only [List.getElem?_toArray, List.getElem?_cons_succ, List.getElem?_cons_zero]; rfl) (by kernel_rfl) (by kernel_rfl) (by kernel_rfl) (by exact fun _ _ _ h => h) (Or.inl ⟨by rfl, ?_⟩) hOn ?_
    rotate_left
    focus (intro W hSW; go_simp; try with_reducible rfl)
    try simp only [Act.put, List.setIfInBounds_toArray, List.set_cons_zero, List.set_cons_succ]
    refine wpAnyH_take (i := 2) (v := ?_) (by simp only [List.getElem?_toArray, List.getElem?_cons_succ, List.getElem?_cons_zero]; rfl) (by kernel_rfl) (by kernel_rfl) (by kernel_rfl) (by exact fun _ _ _ h => h) (Or.inl ⟨by rfl, ?_⟩) hOn ?_
    rotate_left
    focus (intro W hSW; go_simp; try with_reducible rfl)
    try simp only [Act.put, List.setIfInBounds_toArray, List.set_cons_zero, List.set_cons_succ]
    refine wpAnyH_take (i := 5) (v := ?_) (by simp only [List.getElem?_toArray, List.getElem?_cons_succ, List.getElem?_cons_zero]; rfl) (by kernel_rfl) (by kernel_rfl) (by kernel_rfl) (by exact fun _ _ _ h => h) (Or.inl ⟨by rfl, ?_⟩) hOn ?_
    rotate_left
    focus (intro W hSW; go_simp; try with_reducible rfl)
    try simp only [Act.put, List.setIfInBounds_toArray, List.set_cons_zero, List.set_cons_succ]
    refine wpAnyH_take (i := 6) (v := ?_) (by simp only [List.getElem?_toArray, List.getElem?_cons_succ, List.getElem?_cons_zero]; rfl) (by kernel_rfl) (by kernel_rfl) (by kernel_rfl) (by exact fun _ _ _ h => h) (Or.inl ⟨by rfl, ?_⟩) hOn ?_
    rotate_left
    focus (intro W hSW; go_simp; try with_reducible rfl)
    try simp only [Act.put, List.setIfInBounds_toArray, List.set_cons_zero, List.set_cons_succ]
    refine wpAnyH_take (i := 7) (v := ?_) (by simp only [List.getElem?_toArray, List.getElem?_cons_succ, List.getElem?_cons_zero]; rfl) (by kernel_rfl) (by kernel_rfl) (by kernel_rfl) (by exact fun _ _ _ h => h) (Or.inl ⟨by rfl, ?_⟩) hOn ?_
    rotate_left
    focus (intro W hSW; go_simp; try with_reducible rfl)
    try simp only [Act.put, List.setIfInBounds_toArray, List.set_cons_zero, List.set_cons_succ]
    refine wpAnyH_take (i := 8) (v := ?_) (by simp only [List.getElem?_toArray, List.getElem?_cons_succ, List.getElem?_cons_zero]; rfl) (by kernel_rfl) (by kernel_rfl) (by kernel_rfl) (by exact fun _ _ _ h => h) (Or.inl ⟨by rfl, ?_⟩) hOn ?_
    rotate_left
    focus (intro W hSW; go_simp; try with_reducible rfl)
    try simp only [Act.put, List.setIfInBounds_toArray, List.set_cons_zero, List.set_cons_succ]
    refine wpAnyH_ready (rs := [3]) (by kernel_rfl) (by simp) ?_
    refine AllReadyH.cons (by simp only [List.getElem?_toArray, List.getElem?_cons_succ, List.getElem?_cons_zero]; rfl) (fun Kz hKz => ?_) AllReadyH.nil
    go_simp
    try go_wp2_with fail
    (with_reducible refine made_step (t := 22) ?_)
    intro w5 hx5 hnew
    have hw := Lib.hid (Below.trans hOn (hnew.mono hOn.size))
    replace h1 := Lib.hid (h1.out.below hw.out); replace h2 := Lib.hid (h2.out.below hw.out); replace h3 := Lib.hid (h3.out.below hw.out); replace hK := Lib.hid (hK.out.below hw.out); replace hF := Lib.hid (hF.out.below hw.out); replace hRK := Lib.hid (hRK.out.below hw.out); replace hRF := Lib.hid (hRF.out.below hw.out); replace hkey := Lib.hid (hkey.out.below hw.out)
    replace hb1 := Lib.hid (hb1.out.trans (hw.out.mono hb1.out.size))
    have hbb := Lib.hid (argBB_one h2.out hx5.out)
    clear hx5 hw
    have k2 := convE h2.out _ rfl
    have k3 := convE h3.out _ rfl
    refine hKz.out _ _ (Grown.trans hOn hnew) (fun hNext => ?_)
    clear hKz Kz hOn
    refine wpAnyH_onward hNext (fun hOn => ?_)
    clear hNext hnew
    try simp only [Act.put, List.setIfInBounds_toArray, List.set_cons_zero, List.set_cons_succ]
    refine wpAnyH_ready (rs := [4]) (by kernel_rfl) (by simp) ?_
    refine AllReadyH.cons (by simp only [List.getElem?_toArray, List.getElem?_cons_succ, List.getElem?_cons_zero]; rfl) (fun Kz hKz => ?_) AllReadyH.nil
    go_simp
    (with_reducible refine (hrt.out _ _ (hkey.out.below hOn) (h3.out.below hOn) (hbb.out.below hOn) (hK.out.below hOn) (hF.out.below hOn)).mono ?_)
    rintro e w6 ⟨rfl, hnew⟩
    have hw := Lib.hid (Below.trans hOn (hnew.mono hOn.size))
    replace h1 := Lib.hid (h1.out.below hw.out); replace h2 := Lib.hid (h2.out.below hw.out); replace h3 := Lib.hid (h3.out.below hw.out); replace hK := Lib.hid (hK.out.below hw.out); replace hF := Lib.hid (hF.out.below hw.out); replace hRK := Lib.hid (hRK.out.below hw.out); replace hRF := Lib.hid (hRF.out.below hw.out); replace hkey := Lib.hid (hkey.out.below hw.out)
    replace hb1 := Lib.hid (hb1.out.trans (hw.out.mono hb1.out.size))
    clear hw
    have k2 := convE h2.out _ rfl
    have k3 := convE h3.out _ rfl
    go_wp2_with fail
    refine hKz.out _ _ (Grown.trans hOn hnew) (fun hNext => ?_)
    clear hKz Kz hOn
    refine wpAnyH_onward hNext (fun hOn => ?_)
    clear hNext hnew
    try simp only [Act.put, List.setIfInBounds_toArray, List.set_cons_zero, List.set_cons_succ]
    refine wpAnyH_ready (rs := [9]) (by kernel_rfl) (by simp) ?_
    refine AllReadyH.cons (by simp only [List.getElem?_toArray, List.getElem?_cons_succ, List.getElem?_cons_zero]; rfl) (fun Kz hKz => ?_) AllReadyH.nil
    go_simp
    (with_reducible refine (htg.out _ (h1.out.below hOn) (h2.out.below hOn) (hRK.out.below hOn) (hRF.out.below hOn)).mono ?_)
    rintro e w7 ⟨v7, rfl, ho7, hnew⟩
    obtain ⟨a7, c7, rfl, h7, _⟩ := ho7.arg
    have hw := Lib.hid (Below.trans hOn (hnew.mono hOn.size))
    replace h1 := Lib.hid (h1.out.below hw.out); replace h2 := Lib.hid (h2.out.below hw.out); replace h3 := Lib.hid (h3.out.below hw.out); replace hK := Lib.hid (hK.out.below hw.out); replace hF := Lib.hid (hF.out.below hw.out); replace hRK := Lib.hid (hRK.out.below hw.out); replace hRF := Lib.hid (hRF.out.below hw.out); replace hkey := Lib.hid (hkey.out.below hw.out)
    replace hb1 := Lib.hid (hb1.out.trans (hw.out.mono hb1.out.size))
    clear hw ho7
    have k2 := convE h2.out _ rfl
    have k3 := convE h3.out _ rfl
    have k7 := convE h7 _ rfl
    clear h7
    go_wp2_with fail
    refine hKz.out _ _ (Grown.trans hOn hnew) (fun hNext => ?_)
    clear hKz Kz hOn
    refine wpAnyH_onward hNext (fun hOn => ?_)
    clear hNext hnew
    try simp only [Act.put, List.setIfInBounds_toArray, List.set_cons_zero, List.set_cons_succ]
    refine wpAnyH_take (i := 10) (v := ?_) (by simp only [List.getElem?_toArray, List.getElem?_cons_succ, List.getElem?_cons_zero]; rfl) (by kernel_rfl) (by kernel_rfl) (by kernel_rfl) (by exact fun _ _ _ h => h) (Or.inl ⟨by rfl, ?_⟩) hOn ?_
    rotate_left
    focus (intro W hSW; go_simp; try with_reducible rfl)
    try simp only [Act.put, List.setIfInBounds_toArray, List.set_cons_zero, List.set_cons_succ]
    refine wpAnyH_take (i := 11) (v := ?_) (by simp only [List.getElem?_toArray, List.getElem?_cons_succ, List.getElem?_cons_zero]; rfl) (by kernel_rfl) (by kernel_rfl) (by kernel_rfl) (by exact fun _ _ _ h => h) (Or.inl ⟨by rfl, ?_⟩) hOn ?_
    rotate_left
    focus (intro W hSW; go_simp; try with_reducible rfl)
    try simp only [Act.put, List.setIfInBounds_toArray, List.set_cons_zero, List.set_cons_succ]
    refine wpAnyH_take (i := 12) (v := ?_) (by simp only [List.getElem?_toArray, List.getElem?_cons_succ, List.getElem?_cons_zero]; rfl) (by kernel_rfl) (by kernel_rfl) (by kernel_rfl) (by exact fun _ _ _ h => h) (Or.inl ⟨by rfl, ?_⟩) hOn ?_
    rotate_left
    focus (intro W hSW; go_simp; try with_reducible rfl)
    try simp only [Act.put, List.setIfInBounds_toArray, List.set_cons_zero, List.set_cons_succ]
    refine wpAnyH_take (i := 13) (v := ?_) (by simp only [List.getElem?_toArray, List.getElem?_cons_succ, List.getElem?_cons_zero]; rfl) (by kernel_rfl) (by kernel_rfl) (by kernel_rfl) (by exact fun _ _ _ h => h) (Or.inl ⟨by rfl, ?_⟩) hOn ?_
    rotate_left
    focus (intro W hSW; go_simp; try with_reducible rfl)
    try simp only [Act.put, List.setIfInBounds_toArray, List.set_cons_zero, List.set_cons_succ]
    refine wpAnyH_take (i := 14) (v := ?_) (by simp only [List.getElem?_toArray, List.getElem?_cons_succ, List.getElem?_cons_zero]; rfl) (by kernel_rfl) (by kernel_rfl) (by kernel_rfl) (by exact fun _ _ _ h => h) (Or.inl ⟨by rfl, ?_⟩) hOn ?_
    rotate_left
    focus (intro W hSW; go_simp; try with_reducible rfl)
    try simp only [Act.put, List.setIfInBounds_toArray, List.set_cons_zero, List.set_cons_succ]
    refine wpAnyH_take (i := 15) (v := ?_) (by simp only [List.getElem?_toArray, List.getElem?_cons_succ, List.getElem?_cons_zero]; rfl) (by kernel_rfl) (by kernel_rfl) (by kernel_rfl) (by exact fun _ _ _ h => h) (Or.inl ⟨by rfl, ?_⟩) hOn ?_
    rotate_left
    focus (intro W hSW; go_simp; try with_reducible rfl)
    try simp only [Act.put, List.setIfInBounds_toArray, List.set_cons_zero, List.set_cons_succ]
    refine wpAnyH_take (i := 17) (v := ?_) (by simp only [List.getElem?_toArray, List.getElem?_cons_succ, List.getElem?_cons_zero]; rfl) (by kernel_rfl) (by kernel_rfl) (by kernel_rfl) (by exact fun _ _ _ h => h) (Or.inl ⟨by rfl, ?_⟩) hOn ?_
    rotate_left
    focus (intro W hSW; go_simp; try with_reducible rfl)
    try simp only [Act.put, List.setIfInBounds_toArray, List.set_cons_zero, List.set_cons_succ]
    refine wpAnyH_take (i := 18) (v := ?_) (by simp only [List.getElem?_toArray, List.getElem?_cons_succ, List.getElem?_cons_zero]; rfl) (by kernel_rfl) (by kernel_rfl) (by kernel_rfl) (by exact fun _ _ _ h => h) (Or.inl ⟨by rfl, ?_⟩) hOn ?_
    rotate_left
    focus (intro W hSW; go_simp; try with_reducible rfl)
    try simp only [Act.put, List.setIfInBounds_toArray, List.set_cons_zero, List.set_cons_succ]
    refine wpAnyH_take (i := 19) (v := ?_) (by simp only [List.getElem?_toArray, List.getElem?_cons_succ, List.getElem?_cons_zero]; rfl) (by kernel_rfl) (by kernel_rfl) (by kernel_rfl) (by exact fun _ _ _ h => h) (Or.inl ⟨by rfl, ?_⟩) hOn ?_
    rotate_left
    focus (intro W hSW; go_simp; try with_reducible rfl)
    try simp only [Act.put, List.setIfInBounds_toArray, List.set_cons_zero, List.set_cons_succ]
    refine wpAnyH_take (i := 20) (v := ?_) (by simp only [List.getElem?_toArray, List.getElem?_cons_succ, List.getElem?_cons_zero]; rfl) (by kernel_rfl) (by kernel_rfl) (by kernel_rfl) (by exact fun _ _ _ h => h) (Or.inl ⟨by rfl, ?_⟩) hOn ?_
    rotate_left
    focus (intro W hSW; go_simp; try with_reducible rfl)
    try simp only [Act.put, List.setIfInBounds_toArray, List.set_cons_zero, List.set_cons_succ]
    refine wpAnyH_take (i := 21) (v := ?_) (by simp only [List.getElem?_toArray, List.getElem?_cons_succ, List.getElem?_cons_zero]; rfl) (by kernel_rfl) (by kernel_rfl) (by kernel_rfl) (by exact fun _ _ _ h => h) (Or.inl ⟨by rfl, ?_⟩) hOn ?_
    rotate_left
    focus (intro W hSW; go_simp; try with_reducible rfl)
    try simp only [Act.put, List.setIfInBounds_toArray, List.set_cons_zero, List.set_cons_succ]
    refine wpAnyH_ready (rs := [16]) (by kernel_rfl) (by simp) ?_
    refine AllReadyH.cons (by simp only [List.getElem?_toArray, List.getElem?_cons_succ, List.getElem?_cons_zero]; rfl) (fun Kz hKz => ?_) AllReadyH.nil
    go_simp
    (with_reducible refine (hsa.out _ (h3.out.below hOn) (h2.out.below hOn)).mono ?_)
    rintro e w8 ⟨rfl, rfl⟩
    have hnew := Grown.refl w7
    go_wp2_with fail
    refine hKz.out _ _ (Grown.trans hOn hnew) (fun hNext => ?_)
    clear hKz Kz hOn
    refine wpAnyH_onward hNext (fun hOn => ?_)
    clear hNext hnew
    try simp only [Act.put, List.setIfInBounds_toArray, List.set_cons_zero, List.set_cons_succ]
    refine wpAnyH_take (i := 22) (v := ?_) (by simp only [List.getElem?_toArray, List.getElem?_cons_succ, List.getElem?_cons_zero]; rfl) (by kernel_rfl) (by kernel_rfl) (by kernel_rfl) (by exact fun _ _ _ h => h) (Or.inl ⟨by rfl, ?_⟩) hOn ?_
    rotate_left
    focus (intro W hSW; go_simp; try with_reducible rfl)
    try simp only [Act.put, List.setIfInBounds_toArray, List.set_cons_zero, List.set_cons_succ]
    refine wpAnyH_take (i := 23) (v := ?_) (by simp only [List.getElem?_toArray, List.getElem?_cons_succ, List.getElem?_cons_zero]; rfl) (by kernel_rfl) (by kernel_rfl) (by kernel_rfl) (by exact fun _ _ _ h => h) (Or.inl ⟨by rfl, ?_⟩) hOn ?_
    rotate_left
    focus (intro W hSW; go_simp; try with_reducible rfl)
    try simp only [Act.put, List.setIfInBounds_toArray, List.set_cons_zero, List.set_cons_succ]
    refine wpAnyH_take (i := 24) (v := ?_) (by simp only [List.getElem?_toArray, List.getElem?_cons_succ, List.getElem?_cons_zero]; rfl) (by kernel_rfl) (by kernel_rfl) (by kernel_rfl) (by exact fun _ _ _ h => h) (Or.inl ⟨by rfl, ?_⟩) hOn ?_
    rotate_left
    focus (intro W hSW; go_simp; try with_reducible rfl)
    try simp only [Act.put, List.setIfInBounds_toArray, List.set_cons_zero, List.set_cons_succ]
    refine wpAnyH_take (i := 25) (v := ?_) (by simp only [List.getElem?_toArray, List.getElem?_cons_succ, List.getElem?_cons_zero]; rfl) (by kernel_rfl) (by kernel_rfl) (by kernel_rfl) (by exact fun _ _ _ h => h) (Or.inl ⟨by rfl, ?_⟩) hOn ?_
    rotate_left
    focus (intro W hSW; go_simp; try with_reducible rfl)
    try simp only [Act.put, List.setIfInBounds_toArray, List.set_cons_zero, List.set_cons_succ]
    refine wpAnyH_take (i := 26) (v := ?_) (by simp only [List.getElem?_toArray, List.getElem?_cons_succ, List.getElem?_cons_zero]; rfl) (by kernel_rfl) (by kernel_rfl) (by kernel_rfl) (by exact fun _ _ _ h => h) (Or.inl ⟨by rfl, ?_⟩) hOn ?_
    rotate_left
    focus (intro W hSW; go_simp; try with_reducible rfl)
    try simp only [Act.put, List.setIfInBounds_toArray, List.set_cons_zero, List.set_cons_succ]
    refine wpAnyH_ready (rs := [27]) (by kernel_rfl) (by simp) ?_
    refine AllReadyH.cons (by simp only [List.getElem?_toArray, List.getElem?_cons_succ, List.getElem?_cons_zero]; rfl) (fun Kz hKz => ?_) AllReadyH.nil
    go_simp
    (with_reducible refine (hsb.out _ (h2.out.below hOn) (h2.out.below hOn)).mono ?_)
    rintro e w8 ⟨rfl, rfl⟩
    have hnew := Grown.refl w7
    go_wp2_with fail
    refine hKz.out _ _ (Grown.trans hOn hnew) (fun hNext => ?_)
    clear hKz Kz hOn
    refine wpAnyH_onward hNext (fun hOn => ?_)
    clear hNext hnew
    try simp only [Act.put, List.setIfInBounds_toArray, List.set_cons_zero, List.set_cons_succ]
    refine wpAnyH_take (i := 28) (v := ?_) (by simp only [List.getElem?_toArray, List.getElem?_cons_succ, List.getElem?_cons_zero]; rfl) (by kernel_rfl) (by kernel_rfl) (by kernel_rfl) (by exact fun _ _ _ h => h) (Or.inl ⟨by rfl, ?_⟩) hOn ?_
    rotate_left
    focus (intro W hSW; go_simp; try with_reducible rfl)
    try simp only [Act.put, List.setIfInBounds_toArray, List.set_cons_zero, List.set_cons_succ]
    refine wpAnyH_take (i := 29) (v := ?_) (by simp only [List.getElem?_toArray, List.getElem?_cons_succ, List.getElem?_cons_zero]; rfl) (by kernel_rfl) (by kernel_rfl) (by kernel_rfl) (by exact fun _ _ _ h => h) (Or.inl ⟨by rfl, ?_⟩) hOn ?_
    rotate_left
    focus (intro W hSW; go_simp; try with_reducible rfl)
    try simp only [Act.put, List.setIfInBounds_toArray, List.set_cons_zero, List.set_cons_succ]
    refine wpAnyH_done (by kernel_rfl) ?_ _
    go_wp2_with fail
    go_ret
    exact ⟨rfl, hb1.out⟩

end Go.Proofs.YtajmfijpeckncaaDoor
