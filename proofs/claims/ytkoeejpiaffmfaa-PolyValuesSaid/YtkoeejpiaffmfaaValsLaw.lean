/- The walk over PolyValues. -/
import Derived.Test.YtkoeejpiaffmfaaLeib
import Derived.Test.YtkoeejpiaffmfaaZeros
import Derived.Test.YtkoeejpiaffmfaaREval
import Derived.Test.YtkoeejpiaffmfaaOnL
namespace Go.Proofs.Ytkoeejpiaffmfaa
open Go.RowKit

set_option maxRecDepth 10000 in
set_option maxHeartbeats 8000000 in
theorem vals_walk8 (a : Option Addr) (ca : Nat) (bs : List UInt8) (x : UInt8) (w : World) (ha : ArgB w a ca bs) :
    Calls Try.prog 6 #[.slice a bs.length ca, .int .u8 (x.toNat : Int)] w fun e w' => e = .returned (.bool true) ∧ Below w.heap.size w w' := by
  have hla : bs.length ≤ maxLen := Nat.le_trans ha.len ha.most
  replace ha := Lib.hid ha
  rcases Nat.lt_or_ge 40 bs.length with h1 | h1
  · go_enter Try.func6, Try.ntmps6
    go_wp2_with fail
    refine (alive2_any _).mono ?_
    rintro e w1 ⟨rfl, hb1⟩
    go_wp2_with fail
    go_ret
    exact ⟨rfl, hb1⟩
  go_enter Try.func6, Try.ntmps6
  go_wp2_with fail
  refine (alive2_any _).mono ?_
  rintro e w1 ⟨rfl, hb1⟩
  replace ha := Lib.hid (ha.out.below hb1)
  replace hb1 := Lib.hid hb1
  go_wp2_with fail
  have hown0 := Lib.hid (owns_made0 w1 w1.heap.size (Nat.le_refl _))
  have hb0 := Lib.hid ((Below.refl w1.heap.size w1).alloc (Nat.le_refl _) (.cells #[] 5))
  go_loopw [5, 6] (fun v j wr => ∃ k : Nat, (k = 0 ∨ k + 1 ≤ bs.length) ∧ j = .int .i64 ((k : Int) + 1) ∧ OwnB w1.heap.size wr v (tab k (slopeAt bs)) ∧ Below w1.heap.size w1 wr)
    (fun _ j _ => bs.length - (intOf j).toNat)
  case atStart => exact ⟨0, .inl rfl, rfl, hown0.out, hb0.out⟩
  case round =>
    clear hown0 hb0
    obtain ⟨k, hk, rfl, hown, hbel⟩ := hrel
    have hsz := hbel.size
    have htl := tab_length k (slopeAt bs)
    have hts := tab_succ k (slopeAt bs)
    replace hown := Lib.hid hown
    by_cases hlt : k + 1 < bs.length
    · obtain ⟨b, off, rfl, hc⟩ := (ha.out.below hbel).row (k + 1) hlt
      rw [show bs.getD (k + 1) 0 = cf bs (k + 1) from rfl] at hc
      replace hbel := Lib.hid hbel
      have hlt2 : (k : Int) + 1 < (bs.length : Int) := by omega
      have hl1 : (tab k (slopeAt bs)).length ≤ 1000000 := by omega
      replace htl := Lib.hid htl
      by_cases hp : k % 2 = 0
      · have hm : ((k : Int) + 1).tmod 2 = 1 := by rw [Int.tmod_eq_emod_of_nonneg (by omega)]; omega
        rw [show slopeAt bs k = cf bs (k + 1) from if_pos hp] at hts
        replace hts := Lib.hid hts
        clear hp
        generalize cf bs (k + 1) = y at *
        go_wp2_with (at_builtin; go_must (refine wpB_app1 rfl (.tmp 24) (.tmp 29) rfl w1.heap.size u5 (tab k (slopeAt bs)) rfl hown y rfl hl1 hsz ?_))
        intro v' w3 ho3 hb3
        go_wp2_with fail
        go_roundw
        case rel => exact ⟨k + 1, by omega, by go_num, by rw [hts.out]; exact ho3.out, hbel.out.trans hb3.out⟩
        case measure => simp [intOf]; omega
      · have hm : ((k : Int) + 1).tmod 2 = 0 := by rw [Int.tmod_eq_emod_of_nonneg (by omega)]; omega
        rw [show slopeAt bs k = 0 from if_neg hp] at hts
        replace hts := Lib.hid hts
        clear hp
        go_wp2_with (at_builtin; go_must (refine wpB_app1 rfl (.tmp 31) (.tmp 32) rfl w1.heap.size u5 (tab k (slopeAt bs)) rfl hown 0 rfl hl1 hsz ?_))
        intro v' w3 ho3 hb3
        go_wp2_with fail
        go_roundw
        case rel => exact ⟨k + 1, by omega, by go_num, by rw [hts.out]; exact ho3.out, hbel.out.trans hb3.out⟩
        case measure => simp [intOf]; omega
    · have hlt2 : ¬ (k : Int) + 1 < (bs.length : Int) := by omega
      have hT : trim (tab k (slopeAt bs)) = slope bs := by rw [show k = bs.length - 1 from by omega]; rfl
      obtain ⟨a5, c5, rfl, hS, _⟩ := hown.out.arg
      rw [htl]
      replace ha := ha.out.below hbel
      generalize wr = W1 at *
      have hb2 := Lib.hid (hb1.out.trans (hbel.mono hb1.out.size))
      have hS2 := hS.below ((Below.refl W1.heap.size W1).alloc (Nat.le_refl _) (.cells #[] 5))
      have hown0 := Lib.hid (owns_made0 W1 W1.heap.size (Nat.le_refl _))
      have hb0 := Lib.hid ((Below.refl W1.heap.size W1).alloc (Nat.le_refl _) (.cells #[] 5))
      replace hS := Lib.hid hS
      replace ha := Lib.hid ha
      have hTl : (tab k (slopeAt bs)).length ≤ 100 := by omega
      replace hT := Lib.hid hT
      clear hown hbel hts hS2 hb1 hk hlt
      go_wp2_with fail
      go_loopw [7, 8] (fun v j wr => ∃ m : Nat, m ≤ 256 ∧ j = .int .i64 m ∧ OwnB W1.heap.size wr v (zk bs m) ∧ Below W1.heap.size W1 wr)
        (fun _ j _ => 256 - (intOf j).toNat)
      case atStart => exact ⟨0, Nat.zero_le _, rfl, hown0.out, hb0.out⟩
      case round =>
        clear hown0 hb0
        obtain ⟨m, hm, rfl, hown, hbel⟩ := hrel
        have hszm := hbel.size
        by_cases hlt : m < 256
        · have hrow := (ha.out.below hbel).row
          have hbk := byte_of m hlt
          have hev := reval_any a ca bs (UInt8.ofNat m) wr hrow (by omega)
          rw [hbk] at hev
          have hzl := zk_length bs m
          have hlt2 : (m : Int) < 256 := by omega
          by_cases hz : peval bs (UInt8.ofNat m) = 0
          · have hs := zk_yes hz
            rw [hz] at hev
            replace hev := Lib.hid hev
            replace hs := Lib.hid hs
            replace hbel := Lib.hid hbel
            replace hown := Lib.hid hown
            clear hrow hz
            go_wp2_with fail
            refine hev.out.mono ?_
            rintro e w2 ⟨rfl, rfl⟩
            replace hbk := Lib.hid hbk
            go_wp2_with (at_builtin; go_must (refine wpB_app1z rfl (.tmp 44) (.tmp 47) rfl W1.heap.size u7 (zk bs m) rfl hown (UInt8.ofNat m) (m : Int) hbk.out rfl (by omega) hszm ?_))
            intro v' w3 ho3 hb4
            go_wp2_with fail
            go_roundw
            case rel => exact ⟨m + 1, by omega, by go_num, by rw [hs.out]; exact ho3.out, hbel.out.trans hb4.out⟩
            case measure => simp [intOf]; omega
          · have hs := zk_no hz
            have hz' : (((peval bs (UInt8.ofNat m)).toNat : Int) == 0) = false := u8_ne hz
            replace hev := Lib.hid hev
            replace hs := Lib.hid hs
            replace hbel := Lib.hid hbel
            replace hown := Lib.hid hown
            clear hrow hz hbk
            generalize peval bs (UInt8.ofNat m) = y at *
            go_wp2_with fail
            refine hev.out.mono ?_
            rintro e w2 ⟨rfl, rfl⟩
            go_wp2_with fail
            go_roundw
            case rel => exact ⟨m + 1, by omega, by go_num, by rw [hs.out]; exact hown.out, hbel.out⟩
            case measure => simp [intOf]; omega
        · obtain rfl : m = 256 := by omega
          rw [show zk bs 256 = zerosOf bs from rfl] at hown
          obtain ⟨a7, c7, rfl, hZ, _⟩ := hown.arg
          replace ha := Lib.hid (ha.out.below hbel)
          replace hS := Lib.hid (hS.out.below hbel)
          have hb3 := Lib.hid (hb2.out.trans (hbel.mono hb2.out.size))
          replace hZ := Lib.hid hZ
          clear hown hbel
          generalize tab k (slopeAt bs) = T at *
          generalize wr = W2 at *
          have hTl2 : T.length = k := htl
          go_wp2_with fail
          refine wp_region_on (by kernel_rfl) (fun hOn => ?_)
          refine wpAnyH_take (i := 0) (v := ?_) (by simp only [List.getElem?_toArray, List.getElem?_cons_zero]; rfl) (by kernel_rfl) (by kernel_rfl) (by kernel_rfl) (by exact fun _ _ _ h => h) (Or.inl ⟨by rfl, ?_⟩) hOn ?_
          rotate_left
          focus (intro W hSW; go_simp; try with_reducible rfl)
          try simp only [Act.put, List.setIfInBounds_toArray, List.set_cons_zero, List.set_cons_succ]
          refine wpAnyH_take (i := 1) (v := ?_) (by simp only [List.getElem?_toArray, List.getElem?_cons_succ, List.getElem?_cons_zero]; rfl) (by kernel_rfl) (by kernel_rfl) (by kernel_rfl) (by exact fun _ _ _ h => h) (Or.inl ⟨by rfl, ?_⟩) hOn ?_
          rotate_left
          focus (intro W hSW; go_simp; try with_reducible rfl)
          try simp only [Act.put, List.setIfInBounds_toArray, List.set_cons_zero, List.set_cons_succ]
          refine wpAnyH_take (i := 3) (v := ?_) (by simp only [List.getElem?_toArray, List.getElem?_cons_succ, List.getElem?_cons_zero]; rfl) (by kernel_rfl) (by kernel_rfl) (by kernel_rfl) (by exact fun _ _ _ h => h) (Or.inl ⟨by rfl, ?_⟩) hOn ?_
          rotate_left
          focus (intro W hSW; go_simp; try with_reducible rfl)
          try simp only [Act.put, List.setIfInBounds_toArray, List.set_cons_zero, List.set_cons_succ]
          refine wpAnyH_take (i := 4) (v := ?_) (by simp only [List.getElem?_toArray, List.getElem?_cons_succ, List.getElem?_cons_zero]; rfl) (by kernel_rfl) (by kernel_rfl) (by kernel_rfl) (by exact fun _ _ _ h => h) (Or.inl ⟨by rfl, ?_⟩) hOn ?_
          rotate_left
          focus (intro W hSW; go_simp; try with_reducible rfl)
          try simp only [Act.put, List.setIfInBounds_toArray, List.set_cons_zero, List.set_cons_succ]
          refine wpAnyH_ready (rs := [2]) (by kernel_rfl) (by simp) ?_
          refine AllReadyH.cons (by simp only [List.getElem?_toArray, List.getElem?_cons_succ, List.getElem?_cons_zero]; rfl) (fun K hK => ?_) AllReadyH.nil
          go_simp
          refine (eval_any a ca bs x _ (ha.out.below hOn).row (by omega)).mono ?_
          rintro e w2 ⟨rfl, hnew⟩
          have hw := Lib.hid (Below.trans hOn (hnew.mono hOn.size))
          replace ha := Lib.hid (ha.out.below hw.out)
          replace hS := Lib.hid (hS.out.below hw.out)
          replace hZ := Lib.hid (hZ.out.below hw.out)
          replace hb3 := Lib.hid (Below.trans hb3.out (hw.out.mono hb3.out.size))
          clear hw
          go_wp2_with fail
          refine hK.out _ _ (Grown.trans hOn hnew) (fun hNext => ?_)
          clear hK K hOn
          refine wpAnyH_onward hNext (fun hOn => ?_)
          clear hNext hnew
          try simp only [Act.put, List.setIfInBounds_toArray, List.set_cons_zero, List.set_cons_succ]
          refine wpAnyH_ready (rs := [5]) (by kernel_rfl) (by simp) ?_
          refine AllReadyH.cons (by simp only [List.getElem?_toArray, List.getElem?_cons_succ, List.getElem?_cons_zero]; rfl) (fun K hK => ?_) AllReadyH.nil
          go_simp
          refine (reval_any a ca bs x _ (ha.out.below hOn).row (by omega)).mono ?_
          rintro e w3 ⟨rfl, rfl⟩
          have hnew := Grown.refl w2
          go_wp2_with fail
          refine hK.out _ _ (Grown.trans hOn hnew) (fun hNext => ?_)
          clear hK K hOn
          refine wpAnyH_onward hNext (fun hOn => ?_)
          clear hNext hnew
          try simp only [Act.put, List.setIfInBounds_toArray, List.set_cons_zero, List.set_cons_succ]
          refine wpAnyH_take (i := 6) (v := ?_) (by simp only [List.getElem?_toArray, List.getElem?_cons_succ, List.getElem?_cons_zero]; rfl) (by kernel_rfl) (by kernel_rfl) (by kernel_rfl) (by exact fun _ _ _ h => h) (Or.inl ⟨by rfl, ?_⟩) hOn ?_
          rotate_left
          focus (intro W hSW; go_simp; try with_reducible rfl)
          try simp only [Act.put, List.setIfInBounds_toArray, List.set_cons_zero, List.set_cons_succ]
          refine wpAnyH_take (i := 7) (v := ?_) (by simp only [List.getElem?_toArray, List.getElem?_cons_succ, List.getElem?_cons_zero]; rfl) (by kernel_rfl) (by kernel_rfl) (by kernel_rfl) (by exact fun _ _ _ h => h) (Or.inl ⟨by rfl, ?_⟩) hOn ?_
          rotate_left
          focus (intro W hSW; go_simp; try with_reducible rfl)
          try simp only [Act.put, List.setIfInBounds_toArray, List.set_cons_zero, List.set_cons_succ]
          refine wpAnyH_take (i := 8) (v := ?_) (by simp only [List.getElem?_toArray, List.getElem?_cons_succ, List.getElem?_cons_zero]; rfl) (by kernel_rfl) (by kernel_rfl) (by kernel_rfl) (by exact fun _ _ _ h => h) (Or.inl ⟨by rfl, ?_⟩) hOn ?_
          rotate_left
          focus (intro W hSW; go_simp; try with_reducible rfl)
          try simp only [Act.put, List.setIfInBounds_toArray, List.set_cons_zero, List.set_cons_succ]
          refine wpAnyH_take (i := 11) (v := ?_) (by simp only [List.getElem?_toArray, List.getElem?_cons_succ, List.getElem?_cons_zero]; rfl) (by kernel_rfl) (by kernel_rfl) (by kernel_rfl) (by exact fun _ _ _ h => h) (Or.inl ⟨by rfl, ?_⟩) hOn ?_
          rotate_left
          focus (intro W hSW; go_simp; try with_reducible rfl)
          try simp only [Act.put, List.setIfInBounds_toArray, List.set_cons_zero, List.set_cons_succ]
          refine wpAnyH_ready (rs := [9]) (by kernel_rfl) (by simp) ?_
          refine AllReadyH.cons (by simp only [List.getElem?_toArray, List.getElem?_cons_succ, List.getElem?_cons_zero]; rfl) (fun K hK => ?_) AllReadyH.nil
          go_simp
          refine (slope_any a ca bs _ (ha.out.below hOn) (by omega)).mono ?_
          rintro e w4 ⟨v4, rfl, ho, hnew⟩
          obtain ⟨a4, c4, rfl, h4, _⟩ := ho.arg
          have hw := Lib.hid (Below.trans hOn (hnew.mono hOn.size))
          replace ha := Lib.hid (ha.out.below hw.out)
          replace hS := Lib.hid (hS.out.below hw.out)
          replace hZ := Lib.hid (hZ.out.below hw.out)
          replace hb3 := Lib.hid (Below.trans hb3.out (hw.out.mono hb3.out.size))
          have k4 := convE h4 _ rfl
          replace h4 := Lib.hid h4
          clear ho hw
          go_wp2_with fail
          refine hK.out _ _ (Grown.trans hOn hnew) (fun hNext => ?_)
          clear hK K hOn
          refine wpAnyH_onward hNext (fun hOn => ?_)
          clear hNext hnew
          try simp only [Act.put, List.setIfInBounds_toArray, List.set_cons_zero, List.set_cons_succ]
          refine wpAnyH_take (i := 10) (v := ?_) (by simp only [List.getElem?_toArray, List.getElem?_cons_succ, List.getElem?_cons_zero]; rfl) (by kernel_rfl) (by kernel_rfl) (by kernel_rfl) (by exact fun _ _ _ h => h) (Or.inl ⟨by rfl, ?_⟩) hOn ?_
          rotate_left
          focus (intro W hSW; go_simp; try with_reducible rfl)
          try simp only [Act.put, List.setIfInBounds_toArray, List.set_cons_zero, List.set_cons_succ]
          refine wpAnyH_ready (rs := [12]) (by kernel_rfl) (by simp) ?_
          refine AllReadyH.cons (by simp only [List.getElem?_toArray, List.getElem?_cons_succ, List.getElem?_cons_zero]; rfl) (fun K hK => ?_) AllReadyH.nil
          go_simp
          (rw [← hTl2])
          refine (rtrim_any a5 c5 T _ (hS.out.below hOn) (by omega)).mono ?_
          rw [hT.out]
          rintro e w5 ⟨v5, rfl, ho, hnew⟩
          obtain ⟨a6, c6, rfl, h6, _⟩ := ho.arg
          have hw := Lib.hid (Below.trans hOn (hnew.mono hOn.size))
          replace ha := Lib.hid (ha.out.below hw.out)
          replace hZ := Lib.hid (hZ.out.below hw.out)
          replace hb3 := Lib.hid (Below.trans hb3.out (hw.out.mono hb3.out.size))
          have k5 := convE (h4.out.below hw.out) _ rfl
          have k6 := convE h6 _ rfl
          have kZ := convE hZ.out _ rfl
          clear ho hw h4 h6 k4
          go_wp2_with fail
          refine hK.out _ _ (Grown.trans hOn hnew) (fun hNext => ?_)
          clear hK K hOn
          refine wpAnyH_onward hNext (fun hOn => ?_)
          clear hNext hnew
          try simp only [Act.put, List.setIfInBounds_toArray, List.set_cons_zero, List.set_cons_succ]
          refine wpAnyH_take (i := 13) (v := ?_) (by simp only [List.getElem?_toArray, List.getElem?_cons_succ, List.getElem?_cons_zero]; rfl) (by kernel_rfl) (by kernel_rfl) (by kernel_rfl) (by exact fun _ _ _ h => h) (Or.inl ⟨by rfl, ?_⟩) hOn ?_
          rotate_left
          focus (intro W hSW; go_simp; try with_reducible rfl)
          try simp only [Act.put, List.setIfInBounds_toArray, List.set_cons_zero, List.set_cons_succ]
          refine wpAnyH_take (i := 14) (v := ?_) (by simp only [List.getElem?_toArray, List.getElem?_cons_succ, List.getElem?_cons_zero]; rfl) (by kernel_rfl) (by kernel_rfl) (by kernel_rfl) (by exact fun _ _ _ h => h) (Or.inl ⟨by rfl, ?_⟩) hOn ?_
          rotate_left
          focus (intro W hSW; go_simp; try with_reducible rfl)
          try simp only [Act.put, List.setIfInBounds_toArray, List.set_cons_zero, List.set_cons_succ]
          refine wpAnyH_take (i := 15) (v := ?_) (by simp only [List.getElem?_toArray, List.getElem?_cons_succ, List.getElem?_cons_zero]; rfl) (by kernel_rfl) (by kernel_rfl) (by kernel_rfl) (by exact fun _ _ _ h => h) (Or.inl ⟨by rfl, ?_⟩) hOn ?_
          rotate_left
          focus (intro W hSW; go_simp; try with_reducible rfl)
          try simp only [Act.put, List.setIfInBounds_toArray, List.set_cons_zero, List.set_cons_succ]
          refine wpAnyH_take (i := 16) (v := ?_) (by simp only [List.getElem?_toArray, List.getElem?_cons_succ, List.getElem?_cons_zero]; rfl) (by kernel_rfl) (by kernel_rfl) (by kernel_rfl) (by exact fun _ _ _ h => h) (Or.inl ⟨by rfl, ?_⟩) hOn ?_
          rotate_left
          focus (intro W hSW; go_simp; try with_reducible rfl)
          try simp only [Act.put, List.setIfInBounds_toArray, List.set_cons_zero, List.set_cons_succ]
          refine wpAnyH_take (i := 17) (v := ?_) (by simp only [List.getElem?_toArray, List.getElem?_cons_succ, List.getElem?_cons_zero]; rfl) (by kernel_rfl) (by kernel_rfl) (by kernel_rfl) (by exact fun _ _ _ h => h) (Or.inl ⟨by rfl, ?_⟩) hOn ?_
          rotate_left
          focus (intro W hSW; go_simp; try with_reducible rfl)
          try simp only [Act.put, List.setIfInBounds_toArray, List.set_cons_zero, List.set_cons_succ]
          refine wpAnyH_take (i := 20) (v := ?_) (by simp only [List.getElem?_toArray, List.getElem?_cons_succ, List.getElem?_cons_zero]; rfl) (by kernel_rfl) (by kernel_rfl) (by kernel_rfl) (by exact fun _ _ _ h => h) (Or.inl ⟨by rfl, ?_⟩) hOn ?_
          rotate_left
          focus (intro W hSW; go_simp; try with_reducible rfl)
          try simp only [Act.put, List.setIfInBounds_toArray, List.set_cons_zero, List.set_cons_succ]
          refine wpAnyH_take (i := 21) (v := ?_) (by simp only [List.getElem?_toArray, List.getElem?_cons_succ, List.getElem?_cons_zero]; rfl) (by kernel_rfl) (by kernel_rfl) (by kernel_rfl) (by exact fun _ _ _ h => h) (Or.inl ⟨by rfl, ?_⟩) hOn ?_
          rotate_left
          focus (intro W hSW; go_simp; try with_reducible rfl)
          try simp only [Act.put, List.setIfInBounds_toArray, List.set_cons_zero, List.set_cons_succ]
          refine wpAnyH_ready (rs := [18]) (by kernel_rfl) (by simp) ?_
          refine AllReadyH.cons (by simp only [List.getElem?_toArray, List.getElem?_cons_succ, List.getElem?_cons_zero]; rfl) (fun K hK => ?_) AllReadyH.nil
          go_simp
          refine (zeros_any a ca bs _ (ha.out.below hOn) (by omega)).mono ?_
          rintro e w6 ⟨v6, rfl, ho, hnew⟩
          obtain ⟨a8, c8, rfl, h8, _⟩ := ho.arg
          have hw := Lib.hid (Below.trans hOn (hnew.mono hOn.size))
          replace hb3 := Lib.hid (Below.trans hb3.out (hw.out.mono hb3.out.size))
          have k8 := convE h8 _ rfl
          have kZ2 := convE (hZ.out.below hw.out) _ rfl
          clear ho hw h8
          go_wp2_with fail
          refine hK.out _ _ (Grown.trans hOn hnew) (fun hNext => ?_)
          clear hK K hOn
          refine wpAnyH_onward hNext (fun hOn => ?_)
          clear hNext hnew
          try simp only [Act.put, List.setIfInBounds_toArray, List.set_cons_zero, List.set_cons_succ]
          refine wpAnyH_take (i := 19) (v := ?_) (by simp only [List.getElem?_toArray, List.getElem?_cons_succ, List.getElem?_cons_zero]; rfl) (by kernel_rfl) (by kernel_rfl) (by kernel_rfl) (by exact fun _ _ _ h => h) (Or.inl ⟨by rfl, ?_⟩) hOn ?_
          rotate_left
          focus (intro W hSW; go_simp; try with_reducible rfl)
          try simp only [Act.put, List.setIfInBounds_toArray, List.set_cons_zero, List.set_cons_succ]
          refine wpAnyH_take (i := 22) (v := ?_) (by simp only [List.getElem?_toArray, List.getElem?_cons_succ, List.getElem?_cons_zero]; rfl) (by kernel_rfl) (by kernel_rfl) (by kernel_rfl) (by exact fun _ _ _ h => h) (Or.inl ⟨by rfl, ?_⟩) hOn ?_
          rotate_left
          focus (intro W hSW; go_simp; try with_reducible rfl)
          try simp only [Act.put, List.setIfInBounds_toArray, List.set_cons_zero, List.set_cons_succ]
          refine wpAnyH_take (i := 23) (v := ?_) (by simp only [List.getElem?_toArray, List.getElem?_cons_succ, List.getElem?_cons_zero]; rfl) (by kernel_rfl) (by kernel_rfl) (by kernel_rfl) (by exact fun _ _ _ h => h) (Or.inl ⟨by rfl, ?_⟩) hOn ?_
          rotate_left
          focus (intro W hSW; go_simp; try with_reducible rfl)
          try simp only [Act.put, List.setIfInBounds_toArray, List.set_cons_zero, List.set_cons_succ]
          refine wpAnyH_take (i := 24) (v := ?_) (by simp only [List.getElem?_toArray, List.getElem?_cons_succ, List.getElem?_cons_zero]; rfl) (by kernel_rfl) (by kernel_rfl) (by kernel_rfl) (by exact fun _ _ _ h => h) (Or.inl ⟨by rfl, ?_⟩) hOn ?_
          rotate_left
          focus (intro W hSW; go_simp; try with_reducible rfl)
          try simp only [Act.put, List.setIfInBounds_toArray, List.set_cons_zero, List.set_cons_succ]
          refine wpAnyH_done (by kernel_rfl) ?_ _
          go_wp2_with fail
          go_ret
          exact ⟨rfl, hb3.out⟩

theorem vals_walk (a : Option Addr) (ca : Nat) (bs : List UInt8) (x : Int) (w : World) (ha : ArgB w a ca bs) (hx : (Lit.int .u8 x).wf = true) :
    Calls Try.prog 6 #[.slice a bs.length ca, .int .u8 x] w fun e w' => e = .returned (.bool true) ∧ Below w.heap.size w w' := by
  have := vals_walk8 a ca bs (UInt8.ofNat x.toNat) w ha
  rw [u8_of_wf hx] at this
  exact this

end Go.Proofs.Ytkoeejpiaffmfaa
