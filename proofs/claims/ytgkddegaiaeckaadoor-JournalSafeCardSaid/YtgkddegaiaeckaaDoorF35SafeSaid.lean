/- The walk over baileenum.SameLists, of two lists that are alike. -/
import Derived.Test.YtgkddegaiaeckaaDoorF34SafeSaid
import Derived.Test.YtgkddegaiaeckaaDoorF2SafeSaid
namespace Go.Proofs.YtgkddegaiaeckaaDoor
open Go.RowKit

set_option maxRecDepth 10000 in
set_option maxHeartbeats 1000000 in
theorem same_lists (a1 : Option Addr) (c1 : Nat) (a2 : Option Addr) (c2 : Nat) (ps : List (List UInt8)) (w : World) (h1 : ArgBB w a1 c1 ps) (h2 : ArgBB w a2 c2 ps) :
    Calls Tryd.prog 10 #[.slice a1 ps.length c1, .slice a2 ps.length c2] w fun e w' => e = .returned (.bool true) ∧ Below w.heap.size w w' := by
  have hx2 : ps.length ≤ 9223372036854775807 := by have := h2.len; have := h2.most; unfold maxLen at *; omega
  replace h1 := Lib.hid h1
  replace h2 := Lib.hid h2
  go_enter Tryd.func10, Tryd.ntmps10
  go_wp2_with fail
  go_loopw [5, 13] (fun _ j wr => ∃ i : Nat, i ≤ ps.length ∧ j = .int .i64 i ∧ Below w.heap.size w wr)
    (fun _ j _ => ps.length - (intOf j).toNat)
  case atStart => exact ⟨0, Nat.zero_le _, rfl, Below.refl _ _⟩
  case round =>
    obtain ⟨i, hi, rfl, hg⟩ := hrel
    by_cases hlt : i < ps.length
    · obtain ⟨g1, o1, rfl, ai1, ci1, hc1, hr1⟩ := (h1.out.below hg).row i hlt
      obtain ⟨g2, o2, rfl, ai2, ci2, hc2, hr2⟩ := (h2.out.below hg).row i hlt
      have k1 := far_cell hc1
      have k2 := far_cell hc2
      have v1 := convE hr1 _ rfl
      have v2 := convE hr2 _ rfl
      have hs := str_eq (ps.getD i []) (ps.getD i [])
      have hli : (i : Int) < ps.length := by omega
      replace hr1 := Lib.hid hr1
      replace hr2 := Lib.hid hr2
      replace hg := Lib.hid hg
      clear hc1 hc2
      generalize ps.getD i [] = bs at *
      go_wp2_with fail
      refine wp_region_on2 (by kernel_rfl) (fun wd hOn => ?_)
      refine wpAnyH_take (i := 0) (v := ?_) (by simp only [List.getElem?_toArray, List.getElem?_cons_zero]; rfl) (by kernel_rfl) (by kernel_rfl) (by kernel_rfl) (by exact fun _ _ _ h => h) (Or.inl ⟨by rfl, ?_⟩) hOn ?_
      rotate_left
      focus (intro W hSW; go_simp; try with_reducible rfl)
      try simp only [Act.put, List.setIfInBounds_toArray, List.set_cons_zero, List.set_cons_succ]
      refine wpAnyH_take (i := 1) (v := ?_) (by simp only [List.getElem?_toArray, List.getElem?_cons_succ, List.getElem?_cons_zero]; rfl) (by kernel_rfl) (by kernel_rfl) (by kernel_rfl) (by exact fun _ _ _ h => h) (Or.inl ⟨by rfl, ?_⟩) hOn ?_
      rotate_left
      focus (intro W hSW; go_simp; try with_reducible rfl)
      try simp only [Act.put, List.setIfInBounds_toArray, List.set_cons_zero, List.set_cons_succ]
      refine wpAnyH_take (i := 2) (v := ?_) (by simp only [List.getElem?_toArray, List.getElem?_cons_succ, List.getElem?_cons_zero]; rfl) (by kernel_rfl) (by kernel_rfl) (by kernel_rfl) (by exact fun _ _ _ h => h) (Or.inl ⟨by rfl, ?_⟩) hOn ?_
      rotate_left
      focus (intro W hSW; go_simp; try with_reducible rfl)
      try simp only [Act.put, List.setIfInBounds_toArray, List.set_cons_zero, List.set_cons_succ]
      refine wpAnyH_take (i := 3) (v := ?_) (by simp only [List.getElem?_toArray, List.getElem?_cons_succ, List.getElem?_cons_zero]; rfl) (by kernel_rfl) (by kernel_rfl) (by kernel_rfl) (by exact fun _ _ _ h => h) (Or.inl ⟨by rfl, ?_⟩) hOn ?_
      rotate_left
      focus (intro W hSW; go_simp; try with_reducible rfl)
      try simp only [Act.put, List.setIfInBounds_toArray, List.set_cons_zero, List.set_cons_succ]
      refine wpAnyH_take (i := 4) (v := ?_) (by simp only [List.getElem?_toArray, List.getElem?_cons_succ, List.getElem?_cons_zero]; rfl) (by kernel_rfl) (by kernel_rfl) (by kernel_rfl) (by exact fun _ _ _ h => h) (Or.inl ⟨by rfl, ?_⟩) hOn ?_
      rotate_left
      focus (intro W hSW; go_simp; try with_reducible rfl)
      try simp only [Act.put, List.setIfInBounds_toArray, List.set_cons_zero, List.set_cons_succ]
      refine wpAnyH_take (i := 5) (v := ?_) (by simp only [List.getElem?_toArray, List.getElem?_cons_succ, List.getElem?_cons_zero]; rfl) (by kernel_rfl) (by kernel_rfl) (by kernel_rfl) (by exact fun _ _ _ h => h) (Or.inl ⟨by rfl, ?_⟩) hOn ?_
      rotate_left
      focus (intro W hSW; go_simp; try with_reducible rfl)
      try simp only [Act.put, List.setIfInBounds_toArray, List.set_cons_zero, List.set_cons_succ]
      refine wpAnyH_take (i := 6) (v := ?_) (by simp only [List.getElem?_toArray, List.getElem?_cons_succ, List.getElem?_cons_zero]; rfl) (by kernel_rfl) (by kernel_rfl) (by kernel_rfl) (by exact fun _ _ _ h => h) (Or.inl ⟨by rfl, ?_⟩) hOn ?_
      rotate_left
      focus (intro W hSW; go_simp; try with_reducible rfl)
      try simp only [Act.put, List.setIfInBounds_toArray, List.set_cons_zero, List.set_cons_succ]
      refine wpAnyH_take (i := 7) (v := ?_) (by simp only [List.getElem?_toArray, List.getElem?_cons_succ, List.getElem?_cons_zero]; rfl) (by kernel_rfl) (by kernel_rfl) (by kernel_rfl) (by exact fun _ _ _ h => h) (Or.inl ⟨by rfl, ?_⟩) hOn ?_
      rotate_left
      focus (intro W hSW; go_simp; try with_reducible rfl)
      try simp only [Act.put, List.setIfInBounds_toArray, List.set_cons_zero, List.set_cons_succ]
      refine wpAnyH_take (i := 8) (v := ?_) (by simp only [List.getElem?_toArray, List.getElem?_cons_succ, List.getElem?_cons_zero]; rfl) (by kernel_rfl) (by kernel_rfl) (by kernel_rfl) (by exact fun _ _ _ h => h) (Or.inl ⟨by rfl, ?_⟩) hOn ?_
      rotate_left
      focus (intro W hSW; go_simp; try with_reducible rfl)
      try simp only [Act.put, List.setIfInBounds_toArray, List.set_cons_zero, List.set_cons_succ]
      refine wpAnyH_take (i := 9) (v := ?_) (by simp only [List.getElem?_toArray, List.getElem?_cons_succ, List.getElem?_cons_zero]; rfl) (by kernel_rfl) (by kernel_rfl) (by kernel_rfl) (by exact fun _ _ _ h => h) (Or.inl ⟨by rfl, ?_⟩) hOn ?_
      rotate_left
      focus (intro W hSW; go_simp; try with_reducible rfl)
      try simp only [Act.put, List.setIfInBounds_toArray, List.set_cons_zero, List.set_cons_succ]
      refine wpAnyH_take (i := 10) (v := ?_) (by simp only [List.getElem?_toArray, List.getElem?_cons_succ, List.getElem?_cons_zero]; rfl) (by kernel_rfl) (by kernel_rfl) (by kernel_rfl) (by exact fun _ _ _ h => h) (Or.inl ⟨by rfl, ?_⟩) hOn ?_
      rotate_left
      focus (intro W hSW; go_simp; try with_reducible rfl)
      try simp only [Act.put, List.setIfInBounds_toArray, List.set_cons_zero, List.set_cons_succ]
      refine wpAnyH_done (by kernel_rfl) ?_ _
      all_goals
        have hb := Lib.hid (hg.out.trans (hOn.mono hg.out.size))
        clear hOn
        go_wp2_with fail
        exact ⟨⟨i + 1, by omega, by go_num, hb.out⟩, by simp [intOf]; omega⟩
    · obtain rfl : i = ps.length := by omega
      replace hg := Lib.hid hg
      go_wp2_with fail
      go_ret
      exact ⟨rfl, hg.out⟩

end Go.Proofs.YtgkddegaiaeckaaDoor
