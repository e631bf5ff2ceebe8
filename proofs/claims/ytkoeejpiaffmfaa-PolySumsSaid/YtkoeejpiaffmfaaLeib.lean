/- PolyLeibniz. -/
import Derived.Test.YtkoeejpiaffmfaaSlope
import Derived.Test.YtkoeejpiaffmfaaRoots
import Derived.Test.YtkoeejpiaffmfaaPolyAdd
import Derived.Test.YtkoeejpiaffmfaaOnL
namespace Go.Proofs.Ytkoeejpiaffmfaa
open Go.RowKit

/-- k times c. -/
def times (k : Nat) (c : UInt8) : UInt8 := if k % 2 = 1 then c else 0
theorem times_add (i j : Nat) (c : UInt8) : times (i + j) c = Gf.add (times i c) (times j c) := by
  unfold times
  by_cases h1 : i % 2 = 1 <;> by_cases h2 : j % 2 = 1
  · rw [if_pos h1, if_pos h2, if_neg (by omega), Gf.add_self]
  · rw [if_pos h1, if_neg h2, if_pos (by omega), Gf.add_zero]
  · rw [if_neg h1, if_pos h2, if_pos (by omega), Gf.zero_add]
  · rw [if_neg h1, if_neg h2, if_neg (by omega), Gf.zero_add]
theorem times_zero (c : UInt8) : times 0 c = 0 := rfl
theorem times_mul_left (k : Nat) (a b : UInt8) : times k (Gf.mul a b) = Gf.mul (times k a) b := by
  unfold times; split
  · rfl
  · rw [Gf.mul_zero_left]
theorem times_mul_right (k : Nat) (a b : UInt8) : times k (Gf.mul a b) = Gf.mul a (times k b) := by
  unfold times; split
  · rfl
  · rw [Gf.mul_zero]
theorem times_xsum (k n : Nat) (f : Nat → UInt8) : times k (xsum n f) = xsum n fun i => times k (f i) := by
  unfold times; split
  · rfl
  · rw [xsum_zero]
theorem slopeAt_times (p : List UInt8) (i : Nat) : slopeAt p i = times (i + 1) (cf p (i + 1)) := by
  unfold slopeAt times
  by_cases h : i % 2 = 0
  · rw [if_pos h, if_pos (by omega)]
  · rw [if_neg h, if_neg (by omega)]
theorem leibniz (p q : List UInt8) : slope (pmul p q) = padd (pmul (slope p) q) (pmul p (slope q)) := by
  rw [← show trim (slope (pmul p q)) = slope (pmul p q) from trim_trim _, ← show trim (padd (pmul (slope p) q) (pmul p (slope q))) = padd (pmul (slope p) q) (pmul p (slope q)) from trim_trim _]
  apply trim_ext
  intro k
  have key : slopeAt (pmul p q) k = Gf.add (conv (slope p) q k) (conv p (slope q) k) := by
    rw [slopeAt_times, cf_pmul]
    unfold conv
    rw [times_xsum]
    have h1 : xsum (k + 1 + 1) (fun i => times (k + 1) (Gf.mul (cf p i) (cf q (k + 1 - i)))) =
        Gf.add (xsum (k + 1 + 1) fun i => Gf.mul (times i (cf p i)) (cf q (k + 1 - i))) (xsum (k + 1 + 1) fun i => Gf.mul (cf p i) (times (k + 1 - i) (cf q (k + 1 - i)))) := by
      rw [← xsum_add]
      refine xsum_congr fun i hi => ?_
      rw [← times_mul_left, ← times_mul_right, ← times_add, show i + (k + 1 - i) = k + 1 from by omega]
    rw [h1]
    congr 1
    · rw [xsum_succ', times_zero, Gf.mul_zero_left, Gf.zero_add]
      refine xsum_congr fun i _ => ?_
      rw [cf_slope, slopeAt_times, Nat.add_sub_add_right]
    · rw [xsum, Nat.sub_self, times_zero, Gf.mul_zero, Gf.add_zero]
      refine xsum_congr fun i hi => ?_
      rw [cf_slope, slopeAt_times, show k + 1 - i = k - i + 1 from by omega]
  rw [cf_slope, key, cf_padd, cf_pmul, cf_pmul]

/-- string(b) of bytes. -/
theorem convB {w : World} {a : Option Addr} {c : Nat} {bs : List UInt8} (h : ArgB w a c bs) (n : Nat) (hn : bs.length = n) : (convert 22 9 (.slice a n c)).run Try.prog w = .ok (.string ⟨bs.toArray⟩) w := by
  subst hn
  exact conv_str bs Try.underlying22 Try.underlying5 Try.underlying9 h.row
theorem convE {w : World} {a : Option Addr} {c : Nat} {bs : List UInt8} (h : ArgB w a c bs) (n : Nat) (hn : bs.length = n) : ∀ W, Grown w W → (convert 22 9 (.slice a n c)).run Try.prog W = .ok (.string ⟨bs.toArray⟩) W :=
  fun _ hW => convB (h.below hW) n hn

set_option maxRecDepth 10000 in
set_option maxHeartbeats 8000000 in
theorem leib_walk (a : Option Addr) (ca : Nat) (xs : List UInt8) (b : Option Addr) (cb : Nat) (ys : List UInt8) (w : World) (ha : ArgB w a ca xs) (hb : ArgB w b cb ys) :
    Calls Try.prog 4 #[.slice a xs.length ca, .slice b ys.length cb] w fun e w' => e = .returned (.bool true) ∧ Below w.heap.size w w' := by
  have hla : xs.length ≤ maxLen := Nat.le_trans ha.len ha.most
  have hlb : ys.length ≤ maxLen := Nat.le_trans hb.len hb.most
  replace ha := Lib.hid ha
  replace hb := Lib.hid hb
  rcases Nat.lt_or_ge 40 xs.length with h1 | h1
  · go_enter Try.func4, Try.ntmps4
    go_wp2_with fail
    refine (alive2_any _).mono ?_
    rintro e w1 ⟨rfl, hb1⟩
    go_wp2_with fail
    go_ret
    exact ⟨rfl, hb1⟩
  rcases Nat.lt_or_ge 40 ys.length with h2 | h2
  · go_enter Try.func4, Try.ntmps4
    go_wp2_with fail
    refine (alive2_any _).mono ?_
    rintro e w1 ⟨rfl, hb1⟩
    go_wp2_with fail
    go_ret
    exact ⟨rfl, hb1⟩
  have hL := Lib.hid (leibniz xs ys)
  have l1 := pmul_length xs ys
  have l2 := slope_length xs
  have l3 := slope_length ys
  have l4 := pmul_length (slope xs) ys
  have l5 := pmul_length xs (slope ys)
  go_enter Try.func4, Try.ntmps4
  go_wp2_with fail
  refine (alive2_any _).mono ?_
  rintro e w1 ⟨rfl, hb1⟩
  replace ha := Lib.hid (ha.out.below hb1)
  replace hb := Lib.hid (hb.out.below hb1)
  replace hb1 := Lib.hid hb1
  go_wp2_with fail
  refine wp_region_on (by kernel_rfl) (fun hOn => ?_)
  refine wpAnyH_take (i := 0) (v := ?_) (by simp only [List.getElem?_toArray, List.getElem?_cons_zero]; rfl) (by kernel_rfl) (by kernel_rfl) (by kernel_rfl) (by exact fun _ _ _ h => h) (Or.inl ⟨by rfl, ?_⟩) hOn ?_
  rotate_left
  focus (intro W hSW; go_simp; try with_reducible rfl)
  try simp only [Act.put, List.setIfInBounds_toArray, List.set_cons_zero, List.set_cons_succ]
  refine wpAnyH_take (i := 1) (v := ?_) (by simp only [List.getElem?_toArray, List.getElem?_cons_succ, List.getElem?_cons_zero]; rfl) (by kernel_rfl) (by kernel_rfl) (by kernel_rfl) (by exact fun _ _ _ h => h) (Or.inl ⟨by rfl, ?_⟩) hOn ?_
  rotate_left
  focus (intro W hSW; go_simp; try with_reducible rfl)
  try simp only [Act.put, List.setIfInBounds_toArray, List.set_cons_zero, List.set_cons_succ]
  refine wpAnyH_take (i := 5) (v := ?_) (by simp only [List.getElem?_toArray, List.getElem?_cons_succ, List.getElem?_cons_zero]; rfl) (by kernel_rfl) (by kernel_rfl) (by kernel_rfl) (by exact fun _ _ _ h => h) (Or.inl ⟨by rfl, ?_⟩) hOn ?_
  rotate_left
  focus (intro W hSW; go_simp; try with_reducible rfl)
  try simp only [Act.put, List.setIfInBounds_toArray, List.set_cons_zero, List.set_cons_succ]
  refine wpAnyH_take (i := 7) (v := ?_) (by simp only [List.getElem?_toArray, List.getElem?_cons_succ, List.getElem?_cons_zero]; rfl) (by kernel_rfl) (by kernel_rfl) (by kernel_rfl) (by exact fun _ _ _ h => h) (Or.inl ⟨by rfl, ?_⟩) hOn ?_
  rotate_left
  focus (intro W hSW; go_simp; try with_reducible rfl)
  try simp only [Act.put, List.setIfInBounds_toArray, List.set_cons_zero, List.set_cons_succ]
  refine wpAnyH_take (i := 9) (v := ?_) (by simp only [List.getElem?_toArray, List.getElem?_cons_succ, List.getElem?_cons_zero]; rfl) (by kernel_rfl) (by kernel_rfl) (by kernel_rfl) (by exact fun _ _ _ h => h) (Or.inl ⟨by rfl, ?_⟩) hOn ?_
  rotate_left
  focus (intro W hSW; go_simp; try with_reducible rfl)
  try simp only [Act.put, List.setIfInBounds_toArray, List.set_cons_zero, List.set_cons_succ]
  refine wpAnyH_take (i := 10) (v := ?_) (by simp only [List.getElem?_toArray, List.getElem?_cons_succ, List.getElem?_cons_zero]; rfl) (by kernel_rfl) (by kernel_rfl) (by kernel_rfl) (by exact fun _ _ _ h => h) (Or.inl ⟨by rfl, ?_⟩) hOn ?_
  rotate_left
  focus (intro W hSW; go_simp; try with_reducible rfl)
  try simp only [Act.put, List.setIfInBounds_toArray, List.set_cons_zero, List.set_cons_succ]
  refine wpAnyH_ready (rs := [2]) (by kernel_rfl) (by simp) ?_
  refine AllReadyH.cons (by simp only [List.getElem?_toArray, List.getElem?_cons_succ, List.getElem?_cons_zero]; rfl) (fun K hK => ?_) AllReadyH.nil
  go_simp
  refine (pmul_any a ca xs b cb ys _ (ha.out.below hOn) (hb.out.below hOn) (by omega) (by omega)).mono ?_
  rintro e w2 ⟨v2, rfl, ho, hnew⟩
  obtain ⟨a2, c2, rfl, hM, _⟩ := ho.arg
  have hw := Lib.hid (Below.trans hOn (hnew.mono hOn.size))
  replace ha := Lib.hid (ha.out.below hw.out)
  replace hb := Lib.hid (hb.out.below hw.out)
  replace hb1 := Lib.hid (Below.trans hb1.out (hw.out.mono hb1.out.size))
  replace hM := Lib.hid hM
  clear ho hw
  go_wp2_with fail
  refine hK.out _ _ (Grown.trans hOn hnew) (fun hNext => ?_)
  clear hK K hOn
  refine wpAnyH_onward hNext (fun hOn => ?_)
  clear hNext hnew
  try simp only [Act.put, List.setIfInBounds_toArray, List.set_cons_zero, List.set_cons_succ]
  refine wpAnyH_ready (rs := [3]) (by kernel_rfl) (by simp) ?_
  refine AllReadyH.cons (by simp only [List.getElem?_toArray, List.getElem?_cons_succ, List.getElem?_cons_zero]; rfl) (fun K hK => ?_) AllReadyH.nil
  go_simp
  refine (slope_any a2 c2 (pmul xs ys) _ (hM.out.below hOn) (by omega)).mono ?_
  rw [hL.out]
  rintro e w3 ⟨v3, rfl, ho, hnew⟩
  obtain ⟨a3, c3, rfl, hS, _⟩ := ho.arg
  have hw := Lib.hid (Below.trans hOn (hnew.mono hOn.size))
  replace ha := Lib.hid (ha.out.below hw.out)
  replace hb := Lib.hid (hb.out.below hw.out)
  replace hb1 := Lib.hid (Below.trans hb1.out (hw.out.mono hb1.out.size))
  have kS := convE hS _ rfl
  replace hS := Lib.hid hS
  clear ho hw hM
  go_wp2_with fail
  refine hK.out _ _ (Grown.trans hOn hnew) (fun hNext => ?_)
  clear hK K hOn
  refine wpAnyH_onward hNext (fun hOn => ?_)
  clear hNext hnew
  try simp only [Act.put, List.setIfInBounds_toArray, List.set_cons_zero, List.set_cons_succ]
  refine wpAnyH_take (i := 4) (v := ?_) (by simp only [List.getElem?_toArray, List.getElem?_cons_succ, List.getElem?_cons_zero]; rfl) (by kernel_rfl) (by kernel_rfl) (by kernel_rfl) (by exact fun _ _ _ h => h) (Or.inl ⟨by rfl, ?_⟩) hOn ?_
  rotate_left
  focus (intro W hSW; go_simp; try with_reducible rfl)
  try simp only [Act.put, List.setIfInBounds_toArray, List.set_cons_zero, List.set_cons_succ]
  refine wpAnyH_ready (rs := [6]) (by kernel_rfl) (by simp) ?_
  refine AllReadyH.cons (by simp only [List.getElem?_toArray, List.getElem?_cons_succ, List.getElem?_cons_zero]; rfl) (fun K hK => ?_) AllReadyH.nil
  go_simp
  refine (slope_any a ca xs _ (ha.out.below hOn) (by omega)).mono ?_
  rintro e w4 ⟨v4, rfl, ho, hnew⟩
  obtain ⟨a4, c4, rfl, h4, _⟩ := ho.arg
  have hw := Lib.hid (Below.trans hOn (hnew.mono hOn.size))
  replace ha := Lib.hid (ha.out.below hw.out)
  replace hb := Lib.hid (hb.out.below hw.out)
  replace hb1 := Lib.hid (Below.trans hb1.out (hw.out.mono hb1.out.size))
  replace hS := Lib.hid (hS.out.below hw.out)
  replace h4 := Lib.hid h4
  clear ho hw kS
  go_wp2_with fail
  refine hK.out _ _ (Grown.trans hOn hnew) (fun hNext => ?_)
  clear hK K hOn
  refine wpAnyH_onward hNext (fun hOn => ?_)
  clear hNext hnew
  try simp only [Act.put, List.setIfInBounds_toArray, List.set_cons_zero, List.set_cons_succ]
  refine wpAnyH_ready (rs := [8]) (by kernel_rfl) (by simp) ?_
  refine AllReadyH.cons (by simp only [List.getElem?_toArray, List.getElem?_cons_succ, List.getElem?_cons_zero]; rfl) (fun K hK => ?_) AllReadyH.nil
  go_simp
  refine (pmul_any a4 c4 (slope xs) b cb ys _ (h4.out.below hOn) (hb.out.below hOn) (by omega) (by omega)).mono ?_
  rintro e w5 ⟨v5, rfl, ho, hnew⟩
  obtain ⟨a5, c5, rfl, h5, _⟩ := ho.arg
  have hw := Lib.hid (Below.trans hOn (hnew.mono hOn.size))
  replace ha := Lib.hid (ha.out.below hw.out)
  replace hb := Lib.hid (hb.out.below hw.out)
  replace hb1 := Lib.hid (Below.trans hb1.out (hw.out.mono hb1.out.size))
  replace hS := Lib.hid (hS.out.below hw.out)
  replace h5 := Lib.hid h5
  clear ho hw h4
  go_wp2_with fail
  refine hK.out _ _ (Grown.trans hOn hnew) (fun hNext => ?_)
  clear hK K hOn
  refine wpAnyH_onward hNext (fun hOn => ?_)
  clear hNext hnew
  try simp only [Act.put, List.setIfInBounds_toArray, List.set_cons_zero, List.set_cons_succ]
  refine wpAnyH_ready (rs := [11]) (by kernel_rfl) (by simp) ?_
  refine AllReadyH.cons (by simp only [List.getElem?_toArray, List.getElem?_cons_succ, List.getElem?_cons_zero]; rfl) (fun K hK => ?_) AllReadyH.nil
  go_simp
  refine (slope_any b cb ys _ (hb.out.below hOn) (by omega)).mono ?_
  rintro e w6 ⟨v6, rfl, ho, hnew⟩
  obtain ⟨a6, c6, rfl, h6, _⟩ := ho.arg
  have hw := Lib.hid (Below.trans hOn (hnew.mono hOn.size))
  replace ha := Lib.hid (ha.out.below hw.out)
  replace hb1 := Lib.hid (Below.trans hb1.out (hw.out.mono hb1.out.size))
  replace hS := Lib.hid (hS.out.below hw.out)
  replace h5 := Lib.hid (h5.out.below hw.out)
  replace h6 := Lib.hid h6
  clear ho hw hb
  go_wp2_with fail
  refine hK.out _ _ (Grown.trans hOn hnew) (fun hNext => ?_)
  clear hK K hOn
  refine wpAnyH_onward hNext (fun hOn => ?_)
  clear hNext hnew
  try simp only [Act.put, List.setIfInBounds_toArray, List.set_cons_zero, List.set_cons_succ]
  refine wpAnyH_ready (rs := [12]) (by kernel_rfl) (by simp) ?_
  refine AllReadyH.cons (by simp only [List.getElem?_toArray, List.getElem?_cons_succ, List.getElem?_cons_zero]; rfl) (fun K hK => ?_) AllReadyH.nil
  go_simp
  refine (pmul_any a ca xs a6 c6 (slope ys) _ (ha.out.below hOn) (h6.out.below hOn) (by omega) (by omega)).mono ?_
  rintro e w7 ⟨v7, rfl, ho, hnew⟩
  obtain ⟨a7, c7, rfl, h7, _⟩ := ho.arg
  have hw := Lib.hid (Below.trans hOn (hnew.mono hOn.size))
  replace hb1 := Lib.hid (Below.trans hb1.out (hw.out.mono hb1.out.size))
  replace hS := Lib.hid (hS.out.below hw.out)
  replace h5 := Lib.hid (h5.out.below hw.out)
  replace h7 := Lib.hid h7
  clear ho hw ha h6
  go_wp2_with fail
  refine hK.out _ _ (Grown.trans hOn hnew) (fun hNext => ?_)
  clear hK K hOn
  refine wpAnyH_onward hNext (fun hOn => ?_)
  clear hNext hnew
  try simp only [Act.put, List.setIfInBounds_toArray, List.set_cons_zero, List.set_cons_succ]
  refine wpAnyH_ready (rs := [13]) (by kernel_rfl) (by simp) ?_
  refine AllReadyH.cons (by simp only [List.getElem?_toArray, List.getElem?_cons_succ, List.getElem?_cons_zero]; rfl) (fun K hK => ?_) AllReadyH.nil
  go_simp
  refine (padd_any a5 c5 (pmul (slope xs) ys) a7 c7 (pmul xs (slope ys)) _ (h5.out.below hOn) (h7.out.below hOn) (by omega) (by omega)).mono ?_
  rintro e w8 ⟨v8, rfl, ho, hnew⟩
  obtain ⟨a8, c8, rfl, h8, _⟩ := ho.arg
  have hw := Lib.hid (Below.trans hOn (hnew.mono hOn.size))
  replace hb1 := Lib.hid (Below.trans hb1.out (hw.out.mono hb1.out.size))
  have kS2 := convE (hS.out.below hw.out) _ rfl
  have k8 := convE h8 _ rfl
  clear ho hw h5 h7
  go_wp2_with fail
  refine hK.out _ _ (Grown.trans hOn hnew) (fun hNext => ?_)
  clear hK K hOn
  refine wpAnyH_onward hNext (fun hOn => ?_)
  clear hNext hnew
  try simp only [Act.put, List.setIfInBounds_toArray, List.set_cons_zero, List.set_cons_succ]
  refine wpAnyH_take (i := 14) (v := ?_) (by simp only [List.getElem?_toArray, List.getElem?_cons_succ, List.getElem?_cons_zero]; rfl) (by kernel_rfl) (by kernel_rfl) (by kernel_rfl) (by exact fun _ _ _ h => h) (Or.inl ⟨by rfl, ?_⟩) hOn ?_
  rotate_left
  focus (intro W hSW; go_simp; try with_reducible rfl)
  try simp only [Act.put, List.setIfInBounds_toArray, List.set_cons_zero, List.set_cons_succ]
  refine wpAnyH_take (i := 15) (v := ?_) (by simp only [List.getElem?_toArray, List.getElem?_cons_succ, List.getElem?_cons_zero]; rfl) (by kernel_rfl) (by kernel_rfl) (by kernel_rfl) (by exact fun _ _ _ h => h) (Or.inl ⟨by rfl, ?_⟩) hOn ?_
  rotate_left
  focus (intro W hSW; go_simp; try with_reducible rfl)
  try simp only [Act.put, List.setIfInBounds_toArray, List.set_cons_zero, List.set_cons_succ]
  refine wpAnyH_take (i := 16) (v := ?_) (by simp only [List.getElem?_toArray, List.getElem?_cons_succ, List.getElem?_cons_zero]; rfl) (by kernel_rfl) (by kernel_rfl) (by kernel_rfl) (by exact fun _ _ _ h => h) (Or.inl ⟨by rfl, ?_⟩) hOn ?_
  rotate_left
  focus (intro W hSW; go_simp; try with_reducible rfl)
  try simp only [Act.put, List.setIfInBounds_toArray, List.set_cons_zero, List.set_cons_succ]
  refine wpAnyH_done (by kernel_rfl) ?_ _
  go_wp2_with fail
  go_ret
  exact ⟨rfl, hb1.out⟩

end Go.Proofs.Ytkoeejpiaffmfaa
