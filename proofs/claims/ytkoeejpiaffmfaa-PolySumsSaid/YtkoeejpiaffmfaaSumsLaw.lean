/- The walk over PolySums. -/
import Derived.Test.YtkoeejpiaffmfaaLeib
import Derived.Test.YtkoeejpiaffmfaaPolyCut
import Derived.Test.YtkoeejpiaffmfaaPolyShift
import Derived.Test.YtkoeejpiaffmfaaPolyRAdd
import Derived.Test.YtkoeejpiaffmfaaPolyRef
import Derived.Test.YtkoeejpiaffmfaaEnum
import Derived.Test.YtkoeejpiaffmfaaOnL
import Derived.Deep.CutRange
namespace Go.Proofs.Ytkoeejpiaffmfaa
open Go.RowKit

theorem padd_length (p q : List UInt8) : (padd p q).length ≤ max p.length q.length := by
  rw [padd, trim_length]
  exact Nat.le_trans (tlen_le _) (Nat.le_of_eq (tab_length _ _))

theorem marks_arg {w : World} {g : Nat} {bs : List UInt8} (h : At w (some ⟨g, 0, none⟩) (cB (bs ++ marksB))) (hl : bs.length ≤ 1000000) : ArgB w (some ⟨g, 0, none⟩) (bs.length + 6) bs :=
  ⟨by omega, by unfold maxLen; omega, (fun e => by cases e), marks_row h⟩

theorem grown_of_drawn {a b : World} (h : Drawn a b) : Below a.heap.size a b := h.below _
theorem rtrim_cut (a : Option Addr) (c : Nat) (xs : List UInt8) (k : Nat) (hk : k ≤ xs.length) (w : World) (h : ArgB w a c xs) (hr : xs.length ≤ 1000000) :
    Calls Try.prog 18 #[.slice a k c] w fun e w' => ∃ v, e = .returned v ∧ OwnB w.heap.size w' v (trim (xs.take k)) ∧ Below w.heap.size w w' := by
  have h1 := rtrim_any a c (xs.take k) w (h.cut k) (by simp; omega)
  rw [show (xs.take k).length = k from by simp; omega] at h1
  exact h1

set_option maxRecDepth 10000 in
set_option maxHeartbeats 8000000 in
theorem sums_walk (a : Option Addr) (ca : Nat) (xs : List UInt8) (b : Option Addr) (cb : Nat) (ys : List UInt8) (n : Int) (w : World) (ha : ArgB w a ca xs) (hb : ArgB w b cb ys) (hn : (Lit.int .i64 n).wf = true) :
    Calls Try.prog 5 #[.slice a xs.length ca, .slice b ys.length cb, .int .i64 n] w fun e w' => e = .returned (.bool true) ∧ Below w.heap.size w w' := by
  have hla : xs.length ≤ maxLen := Nat.le_trans ha.len ha.most
  have hlb : ys.length ≤ maxLen := Nat.le_trans hb.len hb.most
  have hnl : -9223372036854775808 ≤ n ∧ n ≤ 9223372036854775807 := by simpa [Lit.wf, IntKind.min, IntKind.max, IntKind.signed, IntKind.bits] using hn
  clear hn
  replace ha := Lib.hid ha
  replace hb := Lib.hid hb
  rcases Nat.lt_or_ge 60 xs.length with h1 | h1
  · go_enter Try.func5, Try.ntmps5
    go_wp2_with fail
    refine (alive2_any _).mono ?_
    rintro e w1 ⟨rfl, hb1⟩
    go_wp2_with fail
    go_ret
    exact ⟨rfl, hb1⟩
  rcases Nat.lt_or_ge 60 ys.length with h2 | h2
  · go_enter Try.func5, Try.ntmps5
    go_wp2_with fail
    refine (alive2_any _).mono ?_
    rintro e w1 ⟨rfl, hb1⟩
    go_wp2_with fail
    go_ret
    exact ⟨rfl, hb1⟩
  go_enter Try.func5, Try.ntmps5
  go_wp2_with fail
  refine (alive2_any _).mono ?_
  rintro e w1 ⟨rfl, hb1⟩
  replace ha := Lib.hid (ha.out.below hb1)
  replace hb := Lib.hid (hb.out.below hb1)
  replace hb1 := Lib.hid hb1
  go_wp2_with fail
  refine (bytes_any a ca xs _ ha.out (by omega)).mono ?_
  rintro e w2 ⟨g1, hg1, rfl, hl1, hMa, hb2⟩
  replace ha := Lib.hid (ha.out.below hb2)
  replace hb := Lib.hid (hb.out.below hb2)
  replace hb1 := Lib.hid (hb1.out.trans (hb2.mono hb1.out.size))
  replace hMa := Lib.hid hMa
  clear hb2
  go_wp2_with fail
  refine (bytes_any b cb ys _ hb.out (by omega)).mono ?_
  rintro e w3 ⟨g2, hg2, rfl, hl2, hMb, hb2⟩
  replace ha := Lib.hid (ha.out.below hb2)
  replace hb := Lib.hid (hb.out.below hb2)
  replace hMa := Lib.hid (hMa.out.below hb2)
  replace hb1 := Lib.hid (hb1.out.trans (hb2.mono hb1.out.size))
  replace hMb := Lib.hid hMb
  clear hb2
  go_wp2_with fail
  refine (rtrim_any a ca xs _ ha.out (by omega)).mono ?_
  rintro e w4 ⟨v4, rfl, ho, hb2⟩
  obtain ⟨aT, cT, rfl, hT, _⟩ := ho.arg
  rw [trim_length]
  replace ha := Lib.hid (ha.out.below hb2)
  replace hb := Lib.hid (hb.out.below hb2)
  replace hMa := Lib.hid (hMa.out.below hb2)
  replace hMb := Lib.hid (hMb.out.below hb2)
  replace hb1 := Lib.hid (hb1.out.trans (hb2.mono hb1.out.size))
  replace hT := Lib.hid hT
  clear hb2 ho
  go_wp2_with fail
  obtain ⟨x, hx⟩ : ∃ x : UInt8, (x.toNat : Int) = n % 256 := ⟨UInt8.ofNat (n % 256).toNat, by simp; omega⟩
  rw [← hx]
  replace hx := Lib.hid hx
  have htl := tlen_le xs
  have kw : IntKind.i64.wrap ((tlen xs : Int) - 1) = (tlen xs : Int) - 1 := IntWalk.i64_in _ (by omega)
  have hl3 := padd_length xs ys
  have hl4 := pmul_length xs ys
  have kT := convE hT.out _ (trim_length xs)
  go_cut [79] from 32 to 79 (fun c wx => c = .bool false ∧ ArgB wx a ca xs ∧ ArgB wx b cb ys ∧ At wx (some ⟨g1, 0, none⟩) (cB (xs ++ marksB)) ∧ At wx (some ⟨g2, 0, none⟩) (cB (ys ++ marksB)) ∧ Below w.heap.size w wx)
  case first =>
    refine wp_region_on (by kernel_rfl) (fun hOn => ?_)
    refine wpAnyH_take (i := 0) (v := ?_) (by simp only [List.getElem?_toArray, List.getElem?_cons_zero]; rfl) (by kernel_rfl) (by kernel_rfl) (by kernel_rfl) (by exact fun _ _ _ h => h) (Or.inl ⟨by rfl, ?_⟩) hOn ?_
    rotate_left
    focus (intro W hSW; go_simp; try with_reducible rfl)
    try simp only [Act.put, List.setIfInBounds_toArray, List.set_cons_zero, List.set_cons_succ]
    refine wpAnyH_take (i := 3) (v := ?_) (by simp only [List.getElem?_toArray, List.getElem?_cons_succ, List.getElem?_cons_zero]; rfl) (by kernel_rfl) (by kernel_rfl) (by kernel_rfl) (by exact fun _ _ _ h => h) (Or.inl ⟨by rfl, ?_⟩) hOn ?_
    rotate_left
    focus (intro W hSW; go_simp; try with_reducible rfl)
    try simp only [Act.put, List.setIfInBounds_toArray, List.set_cons_zero, List.set_cons_succ]
    refine wpAnyH_take (i := 4) (v := ?_) (by simp only [List.getElem?_toArray, List.getElem?_cons_succ, List.getElem?_cons_zero]; rfl) (by kernel_rfl) (by kernel_rfl) (by kernel_rfl) (by exact fun _ _ _ h => h) (Or.inl ⟨by rfl, ?_⟩) hOn ?_
    rotate_left
    focus (intro W hSW; go_simp; try with_reducible rfl)
    try simp only [Act.put, List.setIfInBounds_toArray, List.set_cons_zero, List.set_cons_succ]
    refine wpAnyH_ready (rs := [1]) (by kernel_rfl) (by simp) ?_
    refine AllReadyH.cons (by simp only [List.getElem?_toArray, List.getElem?_cons_succ, List.getElem?_cons_zero]; rfl) (fun K hK => ?_) AllReadyH.nil
    go_simp
    refine (trim_any (some ⟨g1, 0, none⟩) (xs.length + 6) xs _ (marks_arg (hMa.out.below hOn) (by omega)) (by omega)).mono ?_
    rintro e w6 ⟨v6, rfl, ho, hnew⟩
    obtain ⟨a6, c6, rfl, h6, _⟩ := ho.arg
    have hw := Lib.hid (Below.trans hOn (hnew.mono hOn.size))
    replace ha := Lib.hid (ha.out.below hw.out)
    replace hb := Lib.hid (hb.out.below hw.out)
    replace hMa := Lib.hid (hMa.out.below hw.out)
    replace hMb := Lib.hid (hMb.out.below hw.out)
    replace hT := Lib.hid (hT.out.below hw.out)
    replace hb1 := Lib.hid (Below.trans hb1.out (hw.out.mono hb1.out.size))
    have k6 := convE h6 _ rfl
    have kT := convE hT.out _ (trim_length xs)
    clear h6
    clear ho hw
    go_wp2_with fail
    refine hK.out _ _ (Grown.trans hOn hnew) (fun hNext => ?_)
    clear hK K hOn
    refine wpAnyH_onward hNext (fun hOn => ?_)
    clear hNext hnew
    try simp only [Act.put, List.setIfInBounds_toArray, List.set_cons_zero, List.set_cons_succ]
    refine wpAnyH_take (i := 2) (v := ?_) (by simp only [List.getElem?_toArray, List.getElem?_cons_succ, List.getElem?_cons_zero]; rfl) (by kernel_rfl) (by kernel_rfl) (by kernel_rfl) (by exact fun _ _ _ h => h) (Or.inl ⟨by rfl, ?_⟩) hOn ?_
    rotate_left
    focus (intro W hSW; go_simp; try with_reducible rfl)
    try simp only [Act.put, List.setIfInBounds_toArray, List.set_cons_zero, List.set_cons_succ]
    refine wpAnyH_take (i := 5) (v := ?_) (by simp only [List.getElem?_toArray, List.getElem?_cons_succ, List.getElem?_cons_zero]; rfl) (by kernel_rfl) (by kernel_rfl) (by kernel_rfl) (by exact fun _ _ _ h => h) (Or.inl ⟨by rfl, ?_⟩) hOn ?_
    rotate_left
    focus (intro W hSW; go_simp; try with_reducible rfl)
    try simp only [Act.put, List.setIfInBounds_toArray, List.set_cons_zero, List.set_cons_succ]
    refine wpAnyH_take (i := 6) (v := ?_) (by simp only [List.getElem?_toArray, List.getElem?_cons_succ, List.getElem?_cons_zero]; rfl) (by kernel_rfl) (by kernel_rfl) (by kernel_rfl) (by exact fun _ _ _ h => h) (Or.inl ⟨by rfl, ?_⟩) hOn ?_
    rotate_left
    focus (intro W hSW; go_simp; try with_reducible rfl)
    try simp only [Act.put, List.setIfInBounds_toArray, List.set_cons_zero, List.set_cons_succ]
    refine wpAnyH_take (i := 7) (v := ?_) (by simp only [List.getElem?_toArray, List.getElem?_cons_succ, List.getElem?_cons_zero]; rfl) (by kernel_rfl) (by kernel_rfl) (by kernel_rfl) (by exact fun _ _ _ h => h) (Or.inl ⟨by rfl, ?_⟩) hOn ?_
    rotate_left
    focus (intro W hSW; go_simp; try with_reducible rfl)
    try simp only [Act.put, List.setIfInBounds_toArray, List.set_cons_zero, List.set_cons_succ]
    refine wpAnyH_take (i := 9) (v := ?_) (by simp only [List.getElem?_toArray, List.getElem?_cons_succ, List.getElem?_cons_zero]; rfl) (by kernel_rfl) (by kernel_rfl) (by kernel_rfl) (by exact fun _ _ _ h => h) (Or.inl ⟨by rfl, ?_⟩) hOn ?_
    rotate_left
    focus (intro W hSW; go_simp; try with_reducible rfl)
    try simp only [Act.put, List.setIfInBounds_toArray, List.set_cons_zero, List.set_cons_succ]
    refine wpAnyH_take (i := 10) (v := ?_) (by simp only [List.getElem?_toArray, List.getElem?_cons_succ, List.getElem?_cons_zero]; rfl) (by kernel_rfl) (by kernel_rfl) (by kernel_rfl) (by exact fun _ _ _ h => h) (Or.inl ⟨by rfl, ?_⟩) hOn ?_
    rotate_left
    focus (intro W hSW; go_simp; try with_reducible rfl)
    try simp only [Act.put, List.setIfInBounds_toArray, List.set_cons_zero, List.set_cons_succ]
    refine wpAnyH_take (i := 11) (v := ?_) (by simp only [List.getElem?_toArray, List.getElem?_cons_succ, List.getElem?_cons_zero]; rfl) (by kernel_rfl) (by kernel_rfl) (by kernel_rfl) (by exact fun _ _ _ h => h) (Or.inl ⟨by rfl, ?_⟩) hOn ?_
    rotate_left
    focus (intro W hSW; go_simp; try with_reducible rfl)
    try simp only [Act.put, List.setIfInBounds_toArray, List.set_cons_zero, List.set_cons_succ]
    refine wpAnyH_ready (rs := [8]) (by kernel_rfl) (by simp) ?_
    refine AllReadyH.cons (by simp only [List.getElem?_toArray, List.getElem?_cons_succ, List.getElem?_cons_zero]; rfl) (fun K hK => ?_) AllReadyH.nil
    go_simp
    refine (degree_any (some ⟨g1, 0, none⟩) (xs.length + 6) xs _ (marks_arg (hMa.out.below hOn) (by omega)).row (by omega)).mono ?_
    rintro e w7 ⟨rfl, hnew⟩
    have hw := Lib.hid (Below.trans hOn (hnew.mono hOn.size))
    replace ha := Lib.hid (ha.out.below hw.out)
    replace hb := Lib.hid (hb.out.below hw.out)
    replace hMa := Lib.hid (hMa.out.below hw.out)
    replace hMb := Lib.hid (hMb.out.below hw.out)
    replace hT := Lib.hid (hT.out.below hw.out)
    replace hb1 := Lib.hid (Below.trans hb1.out (hw.out.mono hb1.out.size))
    clear hw
    go_wp2_with fail
    refine hK.out _ _ (Grown.trans hOn hnew) (fun hNext => ?_)
    clear hK K hOn
    refine wpAnyH_onward hNext (fun hOn => ?_)
    clear hNext hnew
    try simp only [Act.put, List.setIfInBounds_toArray, List.set_cons_zero, List.set_cons_succ]
    refine wpAnyH_take (i := 12) (v := ?_) (by simp only [List.getElem?_toArray, List.getElem?_cons_succ, List.getElem?_cons_zero]; rfl) (by kernel_rfl) (by kernel_rfl) (by kernel_rfl) (by exact fun _ _ _ h => h) (Or.inl ⟨by rfl, ?_⟩) hOn ?_
    rotate_left
    focus (intro W hSW; go_simp; try with_reducible rfl)
    try simp only [Act.put, List.setIfInBounds_toArray, List.set_cons_zero, List.set_cons_succ]
    refine wpAnyH_take (i := 13) (v := ?_) (by simp only [List.getElem?_toArray, List.getElem?_cons_succ, List.getElem?_cons_zero]; rfl) (by kernel_rfl) (by kernel_rfl) (by kernel_rfl) (by exact fun _ _ _ h => h) (Or.inl ⟨by rfl, ?_⟩) hOn ?_
    rotate_left
    focus (intro W hSW; go_simp; try with_reducible rfl)
    try simp only [Act.put, List.setIfInBounds_toArray, List.set_cons_zero, List.set_cons_succ]
    refine wpAnyH_take (i := 14) (v := ?_) (by simp only [List.getElem?_toArray, List.getElem?_cons_succ, List.getElem?_cons_zero]; rfl) (by kernel_rfl) (by kernel_rfl) (by kernel_rfl) (by exact fun _ _ _ h => h) (Or.inl ⟨by rfl, ?_⟩) hOn ?_
    rotate_left
    focus (intro W hSW; go_simp; try with_reducible rfl)
    try simp only [Act.put, List.setIfInBounds_toArray, List.set_cons_zero, List.set_cons_succ]
    refine wpAnyH_take (i := 15) (v := ?_) (by simp only [List.getElem?_toArray, List.getElem?_cons_succ, List.getElem?_cons_zero]; rfl) (by kernel_rfl) (by kernel_rfl) (by kernel_rfl) (by exact fun _ _ _ h => h) (Or.inl ⟨by rfl, ?_⟩) hOn ?_
    rotate_left
    focus (intro W hSW; go_simp; try with_reducible rfl)
    try simp only [Act.put, List.setIfInBounds_toArray, List.set_cons_zero, List.set_cons_succ]
    refine wpAnyH_take (i := 16) (v := ?_) (by simp only [List.getElem?_toArray, List.getElem?_cons_succ, List.getElem?_cons_zero]; rfl) (by kernel_rfl) (by kernel_rfl) (by kernel_rfl) (by exact fun _ _ _ h => h) (Or.inl ⟨by rfl, ?_⟩) hOn ?_
    rotate_left
    focus (intro W hSW; go_simp; try with_reducible rfl)
    try simp only [Act.put, List.setIfInBounds_toArray, List.set_cons_zero, List.set_cons_succ]
    refine wpAnyH_take (i := 19) (v := ?_) (by simp only [List.getElem?_toArray, List.getElem?_cons_succ, List.getElem?_cons_zero]; rfl) (by kernel_rfl) (by kernel_rfl) (by kernel_rfl) (by exact fun _ _ _ h => h) (Or.inl ⟨by rfl, ?_⟩) hOn ?_
    rotate_left
    focus (intro W hSW; go_simp; try with_reducible rfl)
    try simp only [Act.put, List.setIfInBounds_toArray, List.set_cons_zero, List.set_cons_succ]
    refine wpAnyH_take (i := 20) (v := ?_) (by simp only [List.getElem?_toArray, List.getElem?_cons_succ, List.getElem?_cons_zero]; rfl) (by kernel_rfl) (by kernel_rfl) (by kernel_rfl) (by exact fun _ _ _ h => h) (Or.inl ⟨by rfl, ?_⟩) hOn ?_
    rotate_left
    focus (intro W hSW; go_simp; try with_reducible rfl)
    try simp only [Act.put, List.setIfInBounds_toArray, List.set_cons_zero, List.set_cons_succ]
    refine wpAnyH_ready (rs := [17]) (by kernel_rfl) (by simp) ?_
    refine AllReadyH.cons (by simp only [List.getElem?_toArray, List.getElem?_cons_succ, List.getElem?_cons_zero]; rfl) (fun K hK => ?_) AllReadyH.nil
    go_simp
    refine (padd_any (some ⟨g1, 0, none⟩) (xs.length + 6) xs (some ⟨g2, 0, none⟩) (ys.length + 6) ys _ (marks_arg (hMa.out.below hOn) (by omega)) (marks_arg (hMb.out.below hOn) (by omega)) (by omega) (by omega)).mono ?_
    rintro e w8 ⟨v8, rfl, ho, hnew⟩
    obtain ⟨a8, c8, rfl, h8, _⟩ := ho.arg
    have hw := Lib.hid (Below.trans hOn (hnew.mono hOn.size))
    replace ha := Lib.hid (ha.out.below hw.out)
    replace hb := Lib.hid (hb.out.below hw.out)
    replace hMa := Lib.hid (hMa.out.below hw.out)
    replace hMb := Lib.hid (hMb.out.below hw.out)
    replace hT := Lib.hid (hT.out.below hw.out)
    replace hb1 := Lib.hid (Below.trans hb1.out (hw.out.mono hb1.out.size))
    have k8 := convE h8 _ rfl
    replace h8 := Lib.hid h8
    clear ho hw
    go_wp2_with fail
    refine hK.out _ _ (Grown.trans hOn hnew) (fun hNext => ?_)
    clear hK K hOn
    refine wpAnyH_onward hNext (fun hOn => ?_)
    clear hNext hnew
    try simp only [Act.put, List.setIfInBounds_toArray, List.set_cons_zero, List.set_cons_succ]
    refine wpAnyH_take (i := 18) (v := ?_) (by simp only [List.getElem?_toArray, List.getElem?_cons_succ, List.getElem?_cons_zero]; rfl) (by kernel_rfl) (by kernel_rfl) (by kernel_rfl) (by exact fun _ _ _ h => h) (Or.inl ⟨by rfl, ?_⟩) hOn ?_
    rotate_left
    focus (intro W hSW; go_simp; try with_reducible rfl)
    try simp only [Act.put, List.setIfInBounds_toArray, List.set_cons_zero, List.set_cons_succ]
    refine wpAnyH_ready (rs := [21]) (by kernel_rfl) (by simp) ?_
    refine AllReadyH.cons (by simp only [List.getElem?_toArray, List.getElem?_cons_succ, List.getElem?_cons_zero]; rfl) (fun K hK => ?_) AllReadyH.nil
    go_simp
    refine (radd_any a ca xs b cb ys _ (ha.out.below hOn) (hb.out.below hOn) (by omega) (by omega)).mono ?_
    rintro e w9 ⟨v9, rfl, ho, hnew⟩
    obtain ⟨a9, c9, rfl, h9, _⟩ := ho.arg
    have hw := Lib.hid (Below.trans hOn (hnew.mono hOn.size))
    replace ha := Lib.hid (ha.out.below hw.out)
    replace hb := Lib.hid (hb.out.below hw.out)
    replace hMa := Lib.hid (hMa.out.below hw.out)
    replace hMb := Lib.hid (hMb.out.below hw.out)
    replace hT := Lib.hid (hT.out.below hw.out)
    replace hb1 := Lib.hid (Below.trans hb1.out (hw.out.mono hb1.out.size))
    have k9 := convE h9 _ rfl
    have k8b := convE (h8.out.below hw.out) _ rfl
    clear h8 h9 k8
    clear ho hw
    go_wp2_with fail
    refine hK.out _ _ (Grown.trans hOn hnew) (fun hNext => ?_)
    clear hK K hOn
    refine wpAnyH_onward hNext (fun hOn => ?_)
    clear hNext hnew
    try simp only [Act.put, List.setIfInBounds_toArray, List.set_cons_zero, List.set_cons_succ]
    refine wpAnyH_take (i := 22) (v := ?_) (by simp only [List.getElem?_toArray, List.getElem?_cons_succ, List.getElem?_cons_zero]; rfl) (by kernel_rfl) (by kernel_rfl) (by kernel_rfl) (by exact fun _ _ _ h => h) (Or.inl ⟨by rfl, ?_⟩) hOn ?_
    rotate_left
    focus (intro W hSW; go_simp; try with_reducible rfl)
    try simp only [Act.put, List.setIfInBounds_toArray, List.set_cons_zero, List.set_cons_succ]
    refine wpAnyH_take (i := 23) (v := ?_) (by simp only [List.getElem?_toArray, List.getElem?_cons_succ, List.getElem?_cons_zero]; rfl) (by kernel_rfl) (by kernel_rfl) (by kernel_rfl) (by exact fun _ _ _ h => h) (Or.inl ⟨by rfl, ?_⟩) hOn ?_
    rotate_left
    focus (intro W hSW; go_simp; try with_reducible rfl)
    try simp only [Act.put, List.setIfInBounds_toArray, List.set_cons_zero, List.set_cons_succ]
    refine wpAnyH_take (i := 24) (v := ?_) (by simp only [List.getElem?_toArray, List.getElem?_cons_succ, List.getElem?_cons_zero]; rfl) (by kernel_rfl) (by kernel_rfl) (by kernel_rfl) (by exact fun _ _ _ h => h) (Or.inl ⟨by rfl, ?_⟩) hOn ?_
    rotate_left
    focus (intro W hSW; go_simp; try with_reducible rfl)
    try simp only [Act.put, List.setIfInBounds_toArray, List.set_cons_zero, List.set_cons_succ]
    refine wpAnyH_take (i := 25) (v := ?_) (by simp only [List.getElem?_toArray, List.getElem?_cons_succ, List.getElem?_cons_zero]; rfl) (by kernel_rfl) (by kernel_rfl) (by kernel_rfl) (by exact fun _ _ _ h => h) (Or.inl ⟨by rfl, ?_⟩) hOn ?_
    rotate_left
    focus (intro W hSW; go_simp; try with_reducible rfl)
    try simp only [Act.put, List.setIfInBounds_toArray, List.set_cons_zero, List.set_cons_succ]
    refine wpAnyH_take (i := 26) (v := ?_) (by simp only [List.getElem?_toArray, List.getElem?_cons_succ, List.getElem?_cons_zero]; rfl) (by kernel_rfl) (by kernel_rfl) (by kernel_rfl) (by exact fun _ _ _ h => h) (Or.inl ⟨by rfl, ?_⟩) hOn ?_
    rotate_left
    focus (intro W hSW; go_simp; try with_reducible rfl)
    try simp only [Act.put, List.setIfInBounds_toArray, List.set_cons_zero, List.set_cons_succ]
    refine wpAnyH_take (i := 27) (v := ?_) (by simp only [List.getElem?_toArray, List.getElem?_cons_succ, List.getElem?_cons_zero]; rfl) (by kernel_rfl) (by kernel_rfl) (by kernel_rfl) (by exact fun _ _ _ h => h) (Or.inl ⟨by rfl, ?_⟩) hOn ?_
    rotate_left
    focus (intro W hSW; go_simp; try with_reducible rfl)
    try simp only [Act.put, List.setIfInBounds_toArray, List.set_cons_zero, List.set_cons_succ]
    refine wpAnyH_take (i := 30) (v := ?_) (by simp only [List.getElem?_toArray, List.getElem?_cons_succ, List.getElem?_cons_zero]; rfl) (by kernel_rfl) (by kernel_rfl) (by kernel_rfl) (by exact fun _ _ _ h => h) (Or.inl ⟨by rfl, ?_⟩) hOn ?_
    rotate_left
    focus (intro W hSW; go_simp; try with_reducible rfl)
    try simp only [Act.put, List.setIfInBounds_toArray, List.set_cons_zero, List.set_cons_succ]
    refine wpAnyH_take (i := 31) (v := ?_) (by simp only [List.getElem?_toArray, List.getElem?_cons_succ, List.getElem?_cons_zero]; rfl) (by kernel_rfl) (by kernel_rfl) (by kernel_rfl) (by exact fun _ _ _ h => h) (Or.inl ⟨by rfl, ?_⟩) hOn ?_
    rotate_left
    focus (intro W hSW; go_simp; try with_reducible rfl)
    try simp only [Act.put, List.setIfInBounds_toArray, List.set_cons_zero, List.set_cons_succ]
    refine wpAnyH_ready (rs := [28]) (by kernel_rfl) (by simp) ?_
    refine AllReadyH.cons (by simp only [List.getElem?_toArray, List.getElem?_cons_succ, List.getElem?_cons_zero]; rfl) (fun K hK => ?_) AllReadyH.nil
    go_simp
    refine (pmul_any (some ⟨g1, 0, none⟩) (xs.length + 6) xs (some ⟨g2, 0, none⟩) (ys.length + 6) ys _ (marks_arg (hMa.out.below hOn) (by omega)) (marks_arg (hMb.out.below hOn) (by omega)) (by omega) (by omega)).mono ?_
    rintro e w10 ⟨v10, rfl, ho, hnew⟩
    obtain ⟨a10, c10, rfl, h10, _⟩ := ho.arg
    have hw := Lib.hid (Below.trans hOn (hnew.mono hOn.size))
    replace ha := Lib.hid (ha.out.below hw.out)
    replace hb := Lib.hid (hb.out.below hw.out)
    replace hMa := Lib.hid (hMa.out.below hw.out)
    replace hMb := Lib.hid (hMb.out.below hw.out)
    replace hT := Lib.hid (hT.out.below hw.out)
    replace hb1 := Lib.hid (Below.trans hb1.out (hw.out.mono hb1.out.size))
    have k10 := convE h10 _ rfl
    replace h10 := Lib.hid h10
    clear ho hw
    go_wp2_with fail
    refine hK.out _ _ (Grown.trans hOn hnew) (fun hNext => ?_)
    clear hK K hOn
    refine wpAnyH_onward hNext (fun hOn => ?_)
    clear hNext hnew
    try simp only [Act.put, List.setIfInBounds_toArray, List.set_cons_zero, List.set_cons_succ]
    refine wpAnyH_take (i := 29) (v := ?_) (by simp only [List.getElem?_toArray, List.getElem?_cons_succ, List.getElem?_cons_zero]; rfl) (by kernel_rfl) (by kernel_rfl) (by kernel_rfl) (by exact fun _ _ _ h => h) (Or.inl ⟨by rfl, ?_⟩) hOn ?_
    rotate_left
    focus (intro W hSW; go_simp; try with_reducible rfl)
    try simp only [Act.put, List.setIfInBounds_toArray, List.set_cons_zero, List.set_cons_succ]
    refine wpAnyH_ready (rs := [32]) (by kernel_rfl) (by simp) ?_
    refine AllReadyH.cons (by simp only [List.getElem?_toArray, List.getElem?_cons_succ, List.getElem?_cons_zero]; rfl) (fun K hK => ?_) AllReadyH.nil
    go_simp
    refine (rmul_any a ca xs b cb ys _ (ha.out.below hOn) (hb.out.below hOn) (by omega) (by omega)).mono ?_
    rintro e w11 ⟨v11, rfl, ho, hnew⟩
    obtain ⟨a11, c11, rfl, h11, _⟩ := ho.arg
    have hw := Lib.hid (Below.trans hOn (hnew.mono hOn.size))
    replace ha := Lib.hid (ha.out.below hw.out)
    replace hb := Lib.hid (hb.out.below hw.out)
    replace hMa := Lib.hid (hMa.out.below hw.out)
    replace hMb := Lib.hid (hMb.out.below hw.out)
    replace hT := Lib.hid (hT.out.below hw.out)
    replace hb1 := Lib.hid (Below.trans hb1.out (hw.out.mono hb1.out.size))
    have k11 := convE h11 _ rfl
    have k10b := convE (h10.out.below hw.out) _ rfl
    clear h10 h11 k10
    clear ho hw
    go_wp2_with fail
    refine hK.out _ _ (Grown.trans hOn hnew) (fun hNext => ?_)
    clear hK K hOn
    refine wpAnyH_onward hNext (fun hOn => ?_)
    clear hNext hnew
    try simp only [Act.put, List.setIfInBounds_toArray, List.set_cons_zero, List.set_cons_succ]
    refine wpAnyH_take (i := 33) (v := ?_) (by simp only [List.getElem?_toArray, List.getElem?_cons_succ, List.getElem?_cons_zero]; rfl) (by kernel_rfl) (by kernel_rfl) (by kernel_rfl) (by exact fun _ _ _ h => h) (Or.inl ⟨by rfl, ?_⟩) hOn ?_
    rotate_left
    focus (intro W hSW; go_simp; try with_reducible rfl)
    try simp only [Act.put, List.setIfInBounds_toArray, List.set_cons_zero, List.set_cons_succ]
    refine wpAnyH_take (i := 34) (v := ?_) (by simp only [List.getElem?_toArray, List.getElem?_cons_succ, List.getElem?_cons_zero]; rfl) (by kernel_rfl) (by kernel_rfl) (by kernel_rfl) (by exact fun _ _ _ h => h) (Or.inl ⟨by rfl, ?_⟩) hOn ?_
    rotate_left
    focus (intro W hSW; go_simp; try with_reducible rfl)
    try simp only [Act.put, List.setIfInBounds_toArray, List.set_cons_zero, List.set_cons_succ]
    refine wpAnyH_take (i := 35) (v := ?_) (by simp only [List.getElem?_toArray, List.getElem?_cons_succ, List.getElem?_cons_zero]; rfl) (by kernel_rfl) (by kernel_rfl) (by kernel_rfl) (by exact fun _ _ _ h => h) (Or.inl ⟨by rfl, ?_⟩) hOn ?_
    rotate_left
    focus (intro W hSW; go_simp; try with_reducible rfl)
    try simp only [Act.put, List.setIfInBounds_toArray, List.set_cons_zero, List.set_cons_succ]
    refine wpAnyH_take (i := 36) (v := ?_) (by simp only [List.getElem?_toArray, List.getElem?_cons_succ, List.getElem?_cons_zero]; rfl) (by kernel_rfl) (by kernel_rfl) (by kernel_rfl) (by exact fun _ _ _ h => h) (Or.inl ⟨by rfl, ?_⟩) hOn ?_
    rotate_left
    focus (intro W hSW; go_simp; try with_reducible rfl)
    try simp only [Act.put, List.setIfInBounds_toArray, List.set_cons_zero, List.set_cons_succ]
    refine wpAnyH_take (i := 37) (v := ?_) (by simp only [List.getElem?_toArray, List.getElem?_cons_succ, List.getElem?_cons_zero]; rfl) (by kernel_rfl) (by kernel_rfl) (by kernel_rfl) (by exact fun _ _ _ h => h) (Or.inl ⟨by rfl, ?_⟩) hOn ?_
    rotate_left
    focus (intro W hSW; go_simp; try with_reducible rfl)
    try simp only [Act.put, List.setIfInBounds_toArray, List.set_cons_zero, List.set_cons_succ]
    refine wpAnyH_take (i := 38) (v := ?_) (by simp only [List.getElem?_toArray, List.getElem?_cons_succ, List.getElem?_cons_zero]; rfl) (by kernel_rfl) (by kernel_rfl) (by kernel_rfl) (by exact fun _ _ _ h => h) (Or.inl ⟨by rfl, ?_⟩) hOn ?_
    rotate_left
    focus (intro W hSW; go_simp; try with_reducible rfl)
    try simp only [Act.put, List.setIfInBounds_toArray, List.set_cons_zero, List.set_cons_succ]
    refine wpAnyH_take (i := 41) (v := ?_) (by simp only [List.getElem?_toArray, List.getElem?_cons_succ, List.getElem?_cons_zero]; rfl) (by kernel_rfl) (by kernel_rfl) (by kernel_rfl) (by exact fun _ _ _ h => h) (Or.inl ⟨by rfl, ?_⟩) hOn ?_
    rotate_left
    focus (intro W hSW; go_simp; try with_reducible rfl)
    try simp only [Act.put, List.setIfInBounds_toArray, List.set_cons_zero, List.set_cons_succ]
    refine wpAnyH_take (i := 42) (v := ?_) (by simp only [List.getElem?_toArray, List.getElem?_cons_succ, List.getElem?_cons_zero]; rfl) (by kernel_rfl) (by kernel_rfl) (by kernel_rfl) (by exact fun _ _ _ h => h) (Or.inl ⟨by rfl, ?_⟩) hOn ?_
    rotate_left
    focus (intro W hSW; go_simp; try with_reducible rfl)
    try simp only [Act.put, List.setIfInBounds_toArray, List.set_cons_zero, List.set_cons_succ]
    refine wpAnyH_ready (rs := [39, 43]) (by kernel_rfl) (by simp) ?_
    refine AllReadyH.cons (by simp only [List.getElem?_toArray, List.getElem?_cons_succ, List.getElem?_cons_zero]; rfl) (fun K hK => ?_) ?_
    go_simp
    refine (scale_any (some ⟨g1, 0, none⟩) (xs.length + 6) xs x _ (marks_arg (hMa.out.below hOn) (by omega)) (by omega)).mono ?_
    rintro e w12 ⟨v12, rfl, ho, hnew⟩
    obtain ⟨a12, c12, rfl, h12, _⟩ := ho.arg
    have hw := Lib.hid (Below.trans hOn (hnew.mono hOn.size))
    replace ha := Lib.hid (ha.out.below hw.out)
    replace hb := Lib.hid (hb.out.below hw.out)
    replace hMa := Lib.hid (hMa.out.below hw.out)
    replace hMb := Lib.hid (hMb.out.below hw.out)
    replace hT := Lib.hid (hT.out.below hw.out)
    replace hb1 := Lib.hid (Below.trans hb1.out (hw.out.mono hb1.out.size))
    have k12 := convE h12 _ rfl
    replace h12 := Lib.hid h12
    (try have hlit := Lib.hid ((argB_lit w11 5 [x] #[.int .u8 (x.toNat : Int)] rfl (by simp)).below hnew))
    clear ho hw
    go_wp2_with fail
    refine hK.out _ _ (Grown.trans hOn hnew) (fun hNext => ?_)
    clear hK K hOn
    refine wpAnyH_onward hNext (fun hOn => ?_)
    clear hNext hnew
    try simp only [Act.put, List.setIfInBounds_toArray, List.set_cons_zero, List.set_cons_succ]
    refine wpAnyH_take (i := 40) (v := ?_) (by simp only [List.getElem?_toArray, List.getElem?_cons_succ, List.getElem?_cons_zero]; rfl) (by kernel_rfl) (by kernel_rfl) (by kernel_rfl) (by exact fun _ _ _ h => h) (Or.inl ⟨by rfl, ?_⟩) hOn ?_
    rotate_left
    focus (intro W hSW; go_simp; try with_reducible rfl)
    try simp only [Act.put, List.setIfInBounds_toArray, List.set_cons_zero, List.set_cons_succ]
    refine wpAnyH_ready (rs := [43]) (by kernel_rfl) (by simp) ?_
    refine AllReadyH.cons (by simp only [List.getElem?_toArray, List.getElem?_cons_succ, List.getElem?_cons_zero]; rfl) (fun K hK => ?_) AllReadyH.nil
    go_simp
    try go_wp2_with fail
    refine hK.out _ _ (Grown.alloc hOn _) (fun hNext => ?_)
    clear hK K hOn
    have hOn := hNext
    clear hNext
    try simp only [Act.put, List.setIfInBounds_toArray, List.set_cons_zero, List.set_cons_succ]
    refine wpAnyH_ready (rs := [44]) (by kernel_rfl) (by simp) ?_
    refine AllReadyH.cons (by simp only [List.getElem?_toArray, List.getElem?_cons_succ, List.getElem?_cons_zero]; rfl) (fun K hK => ?_) AllReadyH.nil
    go_simp
    (first | refine (rmul_any a ca xs _ _ [x] _ (ha.out.below hOn) (argB_lit _ _ [x] _ rfl (by simp)) (by omega) (by simp)).mono ?_ | refine (rmul_any a ca xs _ _ [x] _ (ha.out.below hOn) (hlit.out.below hOn) (by omega) (by simp)).mono ?_)
    rintro e w13 ⟨v13, rfl, ho, hnew⟩
    obtain ⟨a13, c13, rfl, h13, _⟩ := ho.arg
    have hw := Lib.hid (Below.trans hOn (hnew.mono hOn.size))
    replace ha := Lib.hid (ha.out.below hw.out)
    replace hb := Lib.hid (hb.out.below hw.out)
    replace hMa := Lib.hid (hMa.out.below hw.out)
    replace hMb := Lib.hid (hMb.out.below hw.out)
    replace hT := Lib.hid (hT.out.below hw.out)
    replace hb1 := Lib.hid (Below.trans hb1.out (hw.out.mono hb1.out.size))
    have k13 := convE h13 _ rfl
    have k12b := convE (h12.out.below hw.out) _ rfl
    clear ho hw h12 h13
    go_wp2_with fail
    refine hK.out _ _ (Grown.trans hOn hnew) (fun hNext => ?_)
    clear hK K hOn
    refine wpAnyH_onward hNext (fun hOn => ?_)
    clear hNext hnew
    try simp only [Act.put, List.setIfInBounds_toArray, List.set_cons_zero, List.set_cons_succ]
    refine wpAnyH_take (i := 45) (v := ?_) (by simp only [List.getElem?_toArray, List.getElem?_cons_succ, List.getElem?_cons_zero]; rfl) (by kernel_rfl) (by kernel_rfl) (by kernel_rfl) (by exact fun _ _ _ h => h) (Or.inl ⟨by rfl, ?_⟩) hOn ?_
    rotate_left
    focus (intro W hSW; go_simp; try with_reducible rfl)
    try simp only [Act.put, List.setIfInBounds_toArray, List.set_cons_zero, List.set_cons_succ]
    refine wpAnyH_take (i := 46) (v := ?_) (by simp only [List.getElem?_toArray, List.getElem?_cons_succ, List.getElem?_cons_zero]; rfl) (by kernel_rfl) (by kernel_rfl) (by kernel_rfl) (by exact fun _ _ _ h => h) (Or.inl ⟨by rfl, ?_⟩) hOn ?_
    rotate_left
    focus (intro W hSW; go_simp; try with_reducible rfl)
    try simp only [Act.put, List.setIfInBounds_toArray, List.set_cons_zero, List.set_cons_succ]
    refine wpAnyH_take (i := 47) (v := ?_) (by simp only [List.getElem?_toArray, List.getElem?_cons_succ, List.getElem?_cons_zero]; rfl) (by kernel_rfl) (by kernel_rfl) (by kernel_rfl) (by exact fun _ _ _ h => h) (Or.inl ⟨by rfl, ?_⟩) hOn ?_
    rotate_left
    focus (intro W hSW; go_simp; try with_reducible rfl)
    try simp only [Act.put, List.setIfInBounds_toArray, List.set_cons_zero, List.set_cons_succ]
    refine wpAnyH_done (by kernel_rfl) ?_ _
    rotate_left
    refine AllReadyH.cons (by simp only [List.getElem?_toArray, List.getElem?_cons_succ, List.getElem?_cons_zero]; rfl) (fun K hK => ?_) AllReadyH.nil
    go_simp
    try go_wp2_with fail
    refine hK.out _ _ (Grown.alloc hOn _) (fun hNext => ?_)
    clear hK K hOn
    have hOn := hNext
    clear hNext
    try simp only [Act.put, List.setIfInBounds_toArray, List.set_cons_zero, List.set_cons_succ]
    refine wpAnyH_ready (rs := [39]) (by kernel_rfl) (by simp) ?_
    refine AllReadyH.cons (by simp only [List.getElem?_toArray, List.getElem?_cons_succ, List.getElem?_cons_zero]; rfl) (fun K hK => ?_) AllReadyH.nil
    go_simp
    refine (scale_any (some ⟨g1, 0, none⟩) (xs.length + 6) xs x _ (marks_arg (hMa.out.below hOn) (by omega)) (by omega)).mono ?_
    rintro e w12 ⟨v12, rfl, ho, hnew⟩
    obtain ⟨a12, c12, rfl, h12, _⟩ := ho.arg
    have hw := Lib.hid (Below.trans hOn (hnew.mono hOn.size))
    replace ha := Lib.hid (ha.out.below hw.out)
    replace hb := Lib.hid (hb.out.below hw.out)
    replace hMa := Lib.hid (hMa.out.below hw.out)
    replace hMb := Lib.hid (hMb.out.below hw.out)
    replace hT := Lib.hid (hT.out.below hw.out)
    replace hb1 := Lib.hid (Below.trans hb1.out (hw.out.mono hb1.out.size))
    have k12 := convE h12 _ rfl
    replace h12 := Lib.hid h12
    (try have hlit := Lib.hid ((argB_lit w11 5 [x] #[.int .u8 (x.toNat : Int)] rfl (by simp)).below hnew))
    clear ho hw
    go_wp2_with fail
    refine hK.out _ _ (Grown.trans hOn hnew) (fun hNext => ?_)
    clear hK K hOn
    refine wpAnyH_onward hNext (fun hOn => ?_)
    clear hNext hnew
    try simp only [Act.put, List.setIfInBounds_toArray, List.set_cons_zero, List.set_cons_succ]
    refine wpAnyH_take (i := 40) (v := ?_) (by simp only [List.getElem?_toArray, List.getElem?_cons_succ, List.getElem?_cons_zero]; rfl) (by kernel_rfl) (by kernel_rfl) (by kernel_rfl) (by exact fun _ _ _ h => h) (Or.inl ⟨by rfl, ?_⟩) hOn ?_
    rotate_left
    focus (intro W hSW; go_simp; try with_reducible rfl)
    try simp only [Act.put, List.setIfInBounds_toArray, List.set_cons_zero, List.set_cons_succ]
    refine wpAnyH_ready (rs := [44]) (by kernel_rfl) (by simp) ?_
    refine AllReadyH.cons (by simp only [List.getElem?_toArray, List.getElem?_cons_succ, List.getElem?_cons_zero]; rfl) (fun K hK => ?_) AllReadyH.nil
    go_simp
    (first | refine (rmul_any a ca xs _ _ [x] _ (ha.out.below hOn) (argB_lit _ _ [x] _ rfl (by simp)) (by omega) (by simp)).mono ?_ | refine (rmul_any a ca xs _ _ [x] _ (ha.out.below hOn) (hlit.out.below hOn) (by omega) (by simp)).mono ?_)
    rintro e w13 ⟨v13, rfl, ho, hnew⟩
    obtain ⟨a13, c13, rfl, h13, _⟩ := ho.arg
    have hw := Lib.hid (Below.trans hOn (hnew.mono hOn.size))
    replace ha := Lib.hid (ha.out.below hw.out)
    replace hb := Lib.hid (hb.out.below hw.out)
    replace hMa := Lib.hid (hMa.out.below hw.out)
    replace hMb := Lib.hid (hMb.out.below hw.out)
    replace hT := Lib.hid (hT.out.below hw.out)
    replace hb1 := Lib.hid (Below.trans hb1.out (hw.out.mono hb1.out.size))
    have k13 := convE h13 _ rfl
    have k12b := convE (h12.out.below hw.out) _ rfl
    clear ho hw h12 h13
    go_wp2_with fail
    refine hK.out _ _ (Grown.trans hOn hnew) (fun hNext => ?_)
    clear hK K hOn
    refine wpAnyH_onward hNext (fun hOn => ?_)
    clear hNext hnew
    try simp only [Act.put, List.setIfInBounds_toArray, List.set_cons_zero, List.set_cons_succ]
    refine wpAnyH_take (i := 45) (v := ?_) (by simp only [List.getElem?_toArray, List.getElem?_cons_succ, List.getElem?_cons_zero]; rfl) (by kernel_rfl) (by kernel_rfl) (by kernel_rfl) (by exact fun _ _ _ h => h) (Or.inl ⟨by rfl, ?_⟩) hOn ?_
    rotate_left
    focus (intro W hSW; go_simp; try with_reducible rfl)
    try simp only [Act.put, List.setIfInBounds_toArray, List.set_cons_zero, List.set_cons_succ]
    refine wpAnyH_take (i := 46) (v := ?_) (by simp only [List.getElem?_toArray, List.getElem?_cons_succ, List.getElem?_cons_zero]; rfl) (by kernel_rfl) (by kernel_rfl) (by kernel_rfl) (by exact fun _ _ _ h => h) (Or.inl ⟨by rfl, ?_⟩) hOn ?_
    rotate_left
    focus (intro W hSW; go_simp; try with_reducible rfl)
    try simp only [Act.put, List.setIfInBounds_toArray, List.set_cons_zero, List.set_cons_succ]
    refine wpAnyH_take (i := 47) (v := ?_) (by simp only [List.getElem?_toArray, List.getElem?_cons_succ, List.getElem?_cons_zero]; rfl) (by kernel_rfl) (by kernel_rfl) (by kernel_rfl) (by exact fun _ _ _ h => h) (Or.inl ⟨by rfl, ?_⟩) hOn ?_
    rotate_left
    focus (intro W hSW; go_simp; try with_reducible rfl)
    try simp only [Act.put, List.setIfInBounds_toArray, List.set_cons_zero, List.set_cons_succ]
    refine wpAnyH_done (by kernel_rfl) ?_ _
    all_goals
      go_wp2_with fail
      go_meet
      exact ⟨rfl, ha.out, hb.out, hMa.out, hMb.out, hb1.out⟩
  case rest =>
    clear kT kw hl3 hl4 htl hT hx ha hb hMa hMb hb1
    obtain ⟨rfl, ha, hb, hMa, hMb, hb1⟩ := hcut
    replace ha := Lib.hid ha
    replace hb := Lib.hid hb
    replace hMa := Lib.hid hMa
    replace hMb := Lib.hid hMb
    replace hb1 := Lib.hid hb1
    obtain ⟨i0, hi, hz0, hz1, hz2⟩ := info_parts Try.infoByteP
    rcases (show n < 0 ∨ (0 ≤ n ∧ n ≤ 1000) ∨ 1000 < n from by omega) with hn | hn | hn
    · go_wp2_with (at_make; go_must (refine wpList_make_full _ rfl _ _ 22 rfl wc.heap.size 5 i0 (.int .u8 0) 1 Try.underlying22 hi hz0 hz1 _ _ _ _ 0 rfl rfl (by omega) (by omega) (by rw [hz2]; omega) (by unfold maxLen; omega) (Nat.le_refl _) ?_))
      intro w14 hown2 hg2
      have hown := Lib.hid (OwnB.made hown2)
      have hb2 := Lib.hid ((Below.refl wc.heap.size wc).grown hg2 (Nat.le_refl _) (fun k hk => by cases hk))
      have ha2 := Lib.hid (ha.out.below hb2.out)
      have hsz2 := hb2.out.size
      clear hown2 hg2
      have hkl := Lib.hid (show ((tab 0 fun _ => 0) ++ xs).length = xs.length by rw [List.length_append, tab_length]; exact Nat.zero_add _)
      go_wp2_with (at_builtin; go_must (refine wpB_app rfl (.tmp 86) (.tmp 87) rfl wc.heap.size _ (tab 0 fun _ => 0) rfl hown a ca xs xs.length rfl (Lib.hid rfl) ha2 (by rw [tab_length]; omega) (by omega) hsz2 ?_))
      intro v' w15 ho3 hb3
      clear ha2 hown
      obtain ⟨a3, c3, rfl, h3, _⟩ := ho3.out.arg
      have hb4 := Lib.hid (hb2.out.trans hb3.out)
      have hsz4 := hb4.out.size
      clear hb2 hb3 ho3
      have hc := rtrim_any _ _ _ _ h3 (by rw [hkl.out]; omega)
      rw [hkl.out] at hc ⊢
      replace hc := Lib.hid hc
      clear h3
      replace ha := Lib.hid (ha.out.below hb4.out)
      replace hb := Lib.hid (hb.out.below hb4.out)
      replace hMa := Lib.hid (hMa.out.below hb4.out)
      replace hMb := Lib.hid (hMb.out.below hb4.out)
      replace hb1 := Lib.hid (hb1.out.trans (hb4.out.mono hb1.out.size))
      clear hb4
      go_wp2_with fail
      with_reducible refine hc.out.mono ?_
      rintro e w16 ⟨v, rfl, ho4, hb5⟩
      clear hc hkl
      obtain ⟨aS, cS, rfl, hS, _⟩ := ho4.arg
      replace ha := Lib.hid (ha.out.below hb5)
      replace hb := Lib.hid (hb.out.below hb5)
      replace hMa := Lib.hid (hMa.out.below hb5)
      replace hMb := Lib.hid (hMb.out.below hb5)
      replace hb1 := Lib.hid (hb1.out.trans (hb5.mono hb1.out.size))
      clear hb5 ho4
      replace hS := Lib.hid hS
      have hcap := ha.out.len
      go_upto_if 94 with fail
      go_cut [13] from 91 to 97 (fun s13 wx => wx = w16 ∧ ∃ q : Nat, s13 = .slice a q ca ∧ q ≤ xs.length ∧ ((n < 0 ∧ q ≤ 0) ∨ (0 ≤ n ∧ n ≤ xs.length ∧ n = (q : Int)) ∨ ((xs.length : Int) < n ∧ xs.length ≤ q ∧ q ≤ xs.length)))
      case first =>
        rcases Nat.lt_or_ge 0 xs.length with hkx | hkx
        · have hkz : ((0 : Nat) : Int) < xs.length := by omega
          replace hkx := Lib.hid hkx
          go_wp2_with fail
          go_meet
          exact ⟨rfl, 0, rfl, by have := hkx.out; omega, by have := hkx.out; omega⟩
        · have hkz : ¬ ((0 : Nat) : Int) < xs.length := by omega
          replace hkx := Lib.hid hkx
          go_wp2_with fail
          go_meet
          exact ⟨rfl, xs.length, rfl, by have := hkx.out; omega, by have := hkx.out; omega⟩
      case rest =>
        obtain ⟨rfl, q, rfl, hq1, hq⟩ := hcut
        have hlow := fun W (h : ArgB W (some ⟨g1, 0, none⟩) (xs.length + 6) xs) => low_any (some ⟨g1, 0, none⟩) (xs.length + 6) xs n q (by omega) W h (by omega)
        have hrt := fun W (h : ArgB W a ca xs) => rtrim_cut a ca xs q (by omega) W h (by omega)
        have hshift := fun W (h : ArgB W (some ⟨g1, 0, none⟩) (xs.length + 6) xs) => shift_any (some ⟨g1, 0, none⟩) (xs.length + 6) xs n 0 (by omega) W h (by omega)
        replace hrt := Lib.hid hrt
        replace hlow := Lib.hid hlow
        replace hshift := Lib.hid hshift
        go_wp2_with fail
        have kS := convE hS.out _ rfl
        refine wp_region_on (by kernel_rfl) (fun hOn => ?_)
        refine wpAnyH_take (i := 0) (v := ?_) (by simp only [List.getElem?_toArray, List.getElem?_cons_zero]; rfl) (by kernel_rfl) (by kernel_rfl) (by kernel_rfl) (by exact fun _ _ _ h => h) (Or.inl ⟨by rfl, ?_⟩) hOn ?_
        rotate_left
        focus (intro W hSW; go_simp; try with_reducible rfl)
        try simp only [Act.put, List.setIfInBounds_toArray, List.set_cons_zero, List.set_cons_succ]
        refine wpAnyH_take (i := 1) (v := ?_) (by simp only [List.getElem?_toArray, List.getElem?_cons_succ, List.getElem?_cons_zero]; rfl) (by kernel_rfl) (by kernel_rfl) (by kernel_rfl) (by exact fun _ _ _ h => h) (Or.inl ⟨by rfl, ?_⟩) hOn ?_
        rotate_left
        focus (intro W hSW; go_simp; try with_reducible rfl)
        try simp only [Act.put, List.setIfInBounds_toArray, List.set_cons_zero, List.set_cons_succ]
        refine wpAnyH_take (i := 4) (v := ?_) (by simp only [List.getElem?_toArray, List.getElem?_cons_succ, List.getElem?_cons_zero]; rfl) (by kernel_rfl) (by kernel_rfl) (by kernel_rfl) (by exact fun _ _ _ h => h) (Or.inl ⟨by rfl, ?_⟩) hOn ?_
        rotate_left
        focus (intro W hSW; go_simp; try with_reducible rfl)
        try simp only [Act.put, List.setIfInBounds_toArray, List.set_cons_zero, List.set_cons_succ]
        refine wpAnyH_take (i := 5) (v := ?_) (by simp only [List.getElem?_toArray, List.getElem?_cons_succ, List.getElem?_cons_zero]; rfl) (by kernel_rfl) (by kernel_rfl) (by kernel_rfl) (by exact fun _ _ _ h => h) (Or.inl ⟨by rfl, ?_⟩) hOn ?_
        rotate_left
        focus (intro W hSW; go_simp; try with_reducible rfl)
        try simp only [Act.put, List.setIfInBounds_toArray, List.set_cons_zero, List.set_cons_succ]
        refine wpAnyH_ready (rs := [2]) (by kernel_rfl) (by simp) ?_
        refine AllReadyH.cons (by simp only [List.getElem?_toArray, List.getElem?_cons_succ, List.getElem?_cons_zero]; rfl) (fun K hK => ?_) AllReadyH.nil
        go_simp
        refine (hshift.out _ (marks_arg (hMa.out.below hOn) (by omega))).mono ?_
        rintro e w6 ⟨v6, rfl, ho, hnew⟩
        obtain ⟨a6, c6, rfl, h6, _⟩ := ho.arg
        have hw := Lib.hid (Below.trans hOn (hnew.mono hOn.size))
        replace ha := Lib.hid (ha.out.below hw.out)
        replace hb := Lib.hid (hb.out.below hw.out)
        replace hMa := Lib.hid (hMa.out.below hw.out)
        replace hMb := Lib.hid (hMb.out.below hw.out)
        replace hS := Lib.hid (hS.out.below hw.out)
        replace hb1 := Lib.hid (Below.trans hb1.out (hw.out.mono hb1.out.size))
        have k6 := convE h6 _ rfl
        have kS := convE hS.out _ rfl
        clear h6
        clear ho hw
        go_wp2_with fail
        refine hK.out _ _ (Grown.trans hOn hnew) (fun hNext => ?_)
        clear hK K hOn
        refine wpAnyH_onward hNext (fun hOn => ?_)
        clear hNext hnew
        try simp only [Act.put, List.setIfInBounds_toArray, List.set_cons_zero, List.set_cons_succ]
        refine wpAnyH_take (i := 3) (v := ?_) (by simp only [List.getElem?_toArray, List.getElem?_cons_succ, List.getElem?_cons_zero]; rfl) (by kernel_rfl) (by kernel_rfl) (by kernel_rfl) (by exact fun _ _ _ h => h) (Or.inl ⟨by rfl, ?_⟩) hOn ?_
        rotate_left
        focus (intro W hSW; go_simp; try with_reducible rfl)
        try simp only [Act.put, List.setIfInBounds_toArray, List.set_cons_zero, List.set_cons_succ]
        refine wpAnyH_take (i := 6) (v := ?_) (by simp only [List.getElem?_toArray, List.getElem?_cons_succ, List.getElem?_cons_zero]; rfl) (by kernel_rfl) (by kernel_rfl) (by kernel_rfl) (by exact fun _ _ _ h => h) (Or.inl ⟨by rfl, ?_⟩) hOn ?_
        rotate_left
        focus (intro W hSW; go_simp; try with_reducible rfl)
        try simp only [Act.put, List.setIfInBounds_toArray, List.set_cons_zero, List.set_cons_succ]
        refine wpAnyH_take (i := 7) (v := ?_) (by simp only [List.getElem?_toArray, List.getElem?_cons_succ, List.getElem?_cons_zero]; rfl) (by kernel_rfl) (by kernel_rfl) (by kernel_rfl) (by exact fun _ _ _ h => h) (Or.inl ⟨by rfl, ?_⟩) hOn ?_
        rotate_left
        focus (intro W hSW; go_simp; try with_reducible rfl)
        try simp only [Act.put, List.setIfInBounds_toArray, List.set_cons_zero, List.set_cons_succ]
        refine wpAnyH_take (i := 8) (v := ?_) (by simp only [List.getElem?_toArray, List.getElem?_cons_succ, List.getElem?_cons_zero]; rfl) (by kernel_rfl) (by kernel_rfl) (by kernel_rfl) (by exact fun _ _ _ h => h) (Or.inl ⟨by rfl, ?_⟩) hOn ?_
        rotate_left
        focus (intro W hSW; go_simp; try with_reducible rfl)
        try simp only [Act.put, List.setIfInBounds_toArray, List.set_cons_zero, List.set_cons_succ]
        refine wpAnyH_take (i := 9) (v := ?_) (by simp only [List.getElem?_toArray, List.getElem?_cons_succ, List.getElem?_cons_zero]; rfl) (by kernel_rfl) (by kernel_rfl) (by kernel_rfl) (by exact fun _ _ _ h => h) (Or.inl ⟨by rfl, ?_⟩) hOn ?_
        rotate_left
        focus (intro W hSW; go_simp; try with_reducible rfl)
        try simp only [Act.put, List.setIfInBounds_toArray, List.set_cons_zero, List.set_cons_succ]
        refine wpAnyH_take (i := 12) (v := ?_) (by simp only [List.getElem?_toArray, List.getElem?_cons_succ, List.getElem?_cons_zero]; rfl) (by kernel_rfl) (by kernel_rfl) (by kernel_rfl) (by exact fun _ _ _ h => h) (Or.inl ⟨by rfl, ?_⟩) hOn ?_
        rotate_left
        focus (intro W hSW; go_simp; try with_reducible rfl)
        try simp only [Act.put, List.setIfInBounds_toArray, List.set_cons_zero, List.set_cons_succ]
        refine wpAnyH_ready (rs := [10]) (by kernel_rfl) (by simp) ?_
        refine AllReadyH.cons (by simp only [List.getElem?_toArray, List.getElem?_cons_succ, List.getElem?_cons_zero]; rfl) (fun K hK => ?_) AllReadyH.nil
        go_simp
        refine (hlow.out _ (marks_arg (hMa.out.below hOn) (by omega))).mono ?_
        rintro e w7 ⟨v7, rfl, ho, hnew⟩
        obtain ⟨a7, c7, rfl, h7, _⟩ := ho.arg
        have hw := Lib.hid (Below.trans hOn (hnew.mono hOn.size))
        replace ha := Lib.hid (ha.out.below hw.out)
        replace hb := Lib.hid (hb.out.below hw.out)
        replace hMa := Lib.hid (hMa.out.below hw.out)
        replace hMb := Lib.hid (hMb.out.below hw.out)
        replace hb1 := Lib.hid (Below.trans hb1.out (hw.out.mono hb1.out.size))
        have k7 := convE h7 _ rfl
        replace h7 := Lib.hid h7
        clear ho hw
        go_wp2_with fail
        refine hK.out _ _ (Grown.trans hOn hnew) (fun hNext => ?_)
        clear hK K hOn
        refine wpAnyH_onward hNext (fun hOn => ?_)
        clear hNext hnew
        try simp only [Act.put, List.setIfInBounds_toArray, List.set_cons_zero, List.set_cons_succ]
        refine wpAnyH_take (i := 11) (v := ?_) (by simp only [List.getElem?_toArray, List.getElem?_cons_succ, List.getElem?_cons_zero]; rfl) (by kernel_rfl) (by kernel_rfl) (by kernel_rfl) (by exact fun _ _ _ h => h) (Or.inl ⟨by rfl, ?_⟩) hOn ?_
        rotate_left
        focus (intro W hSW; go_simp; try with_reducible rfl)
        try simp only [Act.put, List.setIfInBounds_toArray, List.set_cons_zero, List.set_cons_succ]
        refine wpAnyH_ready (rs := [13]) (by kernel_rfl) (by simp) ?_
        refine AllReadyH.cons (by simp only [List.getElem?_toArray, List.getElem?_cons_succ, List.getElem?_cons_zero]; rfl) (fun K hK => ?_) AllReadyH.nil
        go_simp
        refine (hrt.out _ (ha.out.below hOn)).mono ?_
        rintro e w8 ⟨v8, rfl, ho, hnew⟩
        obtain ⟨a8, c8, rfl, h8, _⟩ := ho.arg
        have hw := Lib.hid (Below.trans hOn (hnew.mono hOn.size))
        replace ha := Lib.hid (ha.out.below hw.out)
        replace hb := Lib.hid (hb.out.below hw.out)
        replace hMa := Lib.hid (hMa.out.below hw.out)
        replace hMb := Lib.hid (hMb.out.below hw.out)
        replace hb1 := Lib.hid (Below.trans hb1.out (hw.out.mono hb1.out.size))
        have k8 := convE h8 _ rfl
        have k7b := convE (h7.out.below hw.out) _ rfl
        clear h7 h8
        clear ho hw
        go_wp2_with fail
        refine hK.out _ _ (Grown.trans hOn hnew) (fun hNext => ?_)
        clear hK K hOn
        refine wpAnyH_onward hNext (fun hOn => ?_)
        clear hNext hnew
        try simp only [Act.put, List.setIfInBounds_toArray, List.set_cons_zero, List.set_cons_succ]
        refine wpAnyH_take (i := 14) (v := ?_) (by simp only [List.getElem?_toArray, List.getElem?_cons_succ, List.getElem?_cons_zero]; rfl) (by kernel_rfl) (by kernel_rfl) (by kernel_rfl) (by exact fun _ _ _ h => h) (Or.inl ⟨by rfl, ?_⟩) hOn ?_
        rotate_left
        focus (intro W hSW; go_simp; try with_reducible rfl)
        try simp only [Act.put, List.setIfInBounds_toArray, List.set_cons_zero, List.set_cons_succ]
        refine wpAnyH_take (i := 15) (v := ?_) (by simp only [List.getElem?_toArray, List.getElem?_cons_succ, List.getElem?_cons_zero]; rfl) (by kernel_rfl) (by kernel_rfl) (by kernel_rfl) (by exact fun _ _ _ h => h) (Or.inl ⟨by rfl, ?_⟩) hOn ?_
        rotate_left
        focus (intro W hSW; go_simp; try with_reducible rfl)
        try simp only [Act.put, List.setIfInBounds_toArray, List.set_cons_zero, List.set_cons_succ]
        refine wpAnyH_take (i := 16) (v := ?_) (by simp only [List.getElem?_toArray, List.getElem?_cons_succ, List.getElem?_cons_zero]; rfl) (by kernel_rfl) (by kernel_rfl) (by kernel_rfl) (by exact fun _ _ _ h => h) (Or.inl ⟨by rfl, ?_⟩) hOn ?_
        rotate_left
        focus (intro W hSW; go_simp; try with_reducible rfl)
        try simp only [Act.put, List.setIfInBounds_toArray, List.set_cons_zero, List.set_cons_succ]
        refine wpAnyH_take (i := 17) (v := ?_) (by simp only [List.getElem?_toArray, List.getElem?_cons_succ, List.getElem?_cons_zero]; rfl) (by kernel_rfl) (by kernel_rfl) (by kernel_rfl) (by exact fun _ _ _ h => h) (Or.inl ⟨by rfl, ?_⟩) hOn ?_
        rotate_left
        focus (intro W hSW; go_simp; try with_reducible rfl)
        try simp only [Act.put, List.setIfInBounds_toArray, List.set_cons_zero, List.set_cons_succ]
        refine wpAnyH_take (i := 18) (v := ?_) (by simp only [List.getElem?_toArray, List.getElem?_cons_succ, List.getElem?_cons_zero]; rfl) (by kernel_rfl) (by kernel_rfl) (by kernel_rfl) (by exact fun _ _ _ h => h) (Or.inl ⟨by rfl, ?_⟩) hOn ?_
        rotate_left
        focus (intro W hSW; go_simp; try with_reducible rfl)
        try simp only [Act.put, List.setIfInBounds_toArray, List.set_cons_zero, List.set_cons_succ]
        refine wpAnyH_take (i := 19) (v := ?_) (by simp only [List.getElem?_toArray, List.getElem?_cons_succ, List.getElem?_cons_zero]; rfl) (by kernel_rfl) (by kernel_rfl) (by kernel_rfl) (by exact fun _ _ _ h => h) (Or.inl ⟨by rfl, ?_⟩) hOn ?_
        rotate_left
        focus (intro W hSW; go_simp; try with_reducible rfl)
        try simp only [Act.put, List.setIfInBounds_toArray, List.set_cons_zero, List.set_cons_succ]
        refine wpAnyH_ready (rs := [20]) (by kernel_rfl) (by simp) ?_
        refine AllReadyH.cons (by simp only [List.getElem?_toArray, List.getElem?_cons_succ, List.getElem?_cons_zero]; rfl) (fun K hK => ?_) AllReadyH.nil
        go_simp
        refine (kept_any g1 a ca xs _ (by omega) (hMa.out.below hOn) (ha.out.below hOn)).mono ?_
        rintro e w9 ⟨rfl, hd⟩
        have hnew := grown_of_drawn hd
        have hw := Lib.hid (Below.trans hOn (hnew.mono hOn.size))
        replace ha := Lib.hid (ha.out.below hw.out)
        replace hb := Lib.hid (hb.out.below hw.out)
        replace hMa := Lib.hid (hMa.out.below hw.out)
        replace hMb := Lib.hid (hMb.out.below hw.out)
        replace hb1 := Lib.hid (Below.trans hb1.out (hw.out.mono hb1.out.size))
        clear hd hw
        go_wp2_with fail
        refine hK.out _ _ (Grown.trans hOn hnew) (fun hNext => ?_)
        clear hK K hOn
        refine wpAnyH_onward hNext (fun hOn => ?_)
        clear hNext hnew
        try simp only [Act.put, List.setIfInBounds_toArray, List.set_cons_zero, List.set_cons_succ]
        refine wpAnyH_take (i := 21) (v := ?_) (by simp only [List.getElem?_toArray, List.getElem?_cons_succ, List.getElem?_cons_zero]; rfl) (by kernel_rfl) (by kernel_rfl) (by kernel_rfl) (by exact fun _ _ _ h => h) (Or.inl ⟨by rfl, ?_⟩) hOn ?_
        rotate_left
        focus (intro W hSW; go_simp; try with_reducible rfl)
        try simp only [Act.put, List.setIfInBounds_toArray, List.set_cons_zero, List.set_cons_succ]
        refine wpAnyH_take (i := 22) (v := ?_) (by simp only [List.getElem?_toArray, List.getElem?_cons_succ, List.getElem?_cons_zero]; rfl) (by kernel_rfl) (by kernel_rfl) (by kernel_rfl) (by exact fun _ _ _ h => h) (Or.inl ⟨by rfl, ?_⟩) hOn ?_
        rotate_left
        focus (intro W hSW; go_simp; try with_reducible rfl)
        try simp only [Act.put, List.setIfInBounds_toArray, List.set_cons_zero, List.set_cons_succ]
        refine wpAnyH_take (i := 23) (v := ?_) (by simp only [List.getElem?_toArray, List.getElem?_cons_succ, List.getElem?_cons_zero]; rfl) (by kernel_rfl) (by kernel_rfl) (by kernel_rfl) (by exact fun _ _ _ h => h) (Or.inl ⟨by rfl, ?_⟩) hOn ?_
        rotate_left
        focus (intro W hSW; go_simp; try with_reducible rfl)
        try simp only [Act.put, List.setIfInBounds_toArray, List.set_cons_zero, List.set_cons_succ]
        refine wpAnyH_take (i := 24) (v := ?_) (by simp only [List.getElem?_toArray, List.getElem?_cons_succ, List.getElem?_cons_zero]; rfl) (by kernel_rfl) (by kernel_rfl) (by kernel_rfl) (by exact fun _ _ _ h => h) (Or.inl ⟨by rfl, ?_⟩) hOn ?_
        rotate_left
        focus (intro W hSW; go_simp; try with_reducible rfl)
        try simp only [Act.put, List.setIfInBounds_toArray, List.set_cons_zero, List.set_cons_succ]
        refine wpAnyH_ready (rs := [25]) (by kernel_rfl) (by simp) ?_
        refine AllReadyH.cons (by simp only [List.getElem?_toArray, List.getElem?_cons_succ, List.getElem?_cons_zero]; rfl) (fun K hK => ?_) AllReadyH.nil
        go_simp
        refine (kept_any g2 b cb ys _ (by omega) (hMb.out.below hOn) (hb.out.below hOn)).mono ?_
        rintro e w10 ⟨rfl, hd⟩
        have hnew := grown_of_drawn hd
        have hw := Lib.hid (Below.trans hOn (hnew.mono hOn.size))
        replace hb1 := Lib.hid (Below.trans hb1.out (hw.out.mono hb1.out.size))
        clear hd hw
        go_wp2_with fail
        refine hK.out _ _ (Grown.trans hOn hnew) (fun hNext => ?_)
        clear hK K hOn
        refine wpAnyH_onward hNext (fun hOn => ?_)
        clear hNext hnew
        try simp only [Act.put, List.setIfInBounds_toArray, List.set_cons_zero, List.set_cons_succ]
        refine wpAnyH_take (i := 26) (v := ?_) (by simp only [List.getElem?_toArray, List.getElem?_cons_succ, List.getElem?_cons_zero]; rfl) (by kernel_rfl) (by kernel_rfl) (by kernel_rfl) (by exact fun _ _ _ h => h) (Or.inl ⟨by rfl, ?_⟩) hOn ?_
        rotate_left
        focus (intro W hSW; go_simp; try with_reducible rfl)
        try simp only [Act.put, List.setIfInBounds_toArray, List.set_cons_zero, List.set_cons_succ]
        refine wpAnyH_take (i := 27) (v := ?_) (by simp only [List.getElem?_toArray, List.getElem?_cons_succ, List.getElem?_cons_zero]; rfl) (by kernel_rfl) (by kernel_rfl) (by kernel_rfl) (by exact fun _ _ _ h => h) (Or.inl ⟨by rfl, ?_⟩) hOn ?_
        rotate_left
        focus (intro W hSW; go_simp; try with_reducible rfl)
        try simp only [Act.put, List.setIfInBounds_toArray, List.set_cons_zero, List.set_cons_succ]
        refine wpAnyH_done (by kernel_rfl) ?_ _
        go_wp2_with fail
        go_ret
        exact ⟨rfl, hb1.out⟩
    · obtain ⟨k, rfl⟩ : ∃ k : Nat, n = (k : Int) := ⟨n.toNat, by omega⟩
      go_wp2_with (at_make; go_must (refine wpList_make_full _ rfl _ _ 22 rfl wc.heap.size 5 i0 (.int .u8 0) 1 Try.underlying22 hi hz0 hz1 _ _ _ _ k rfl rfl (by omega) (by omega) (by rw [hz2]; omega) (by unfold maxLen; omega) (Nat.le_refl _) ?_))
      intro w14 hown2 hg2
      have hown := Lib.hid (OwnB.made hown2)
      have hb2 := Lib.hid ((Below.refl wc.heap.size wc).grown hg2 (Nat.le_refl _) (fun k hk => by cases hk))
      have ha2 := Lib.hid (ha.out.below hb2.out)
      have hsz2 := hb2.out.size
      clear hown2 hg2
      have hkl := Lib.hid (show ((tab k fun _ => 0) ++ xs).length = k + xs.length by rw [List.length_append, tab_length])
      go_wp2_with (at_builtin; go_must (refine wpB_app rfl (.tmp 86) (.tmp 87) rfl wc.heap.size _ (tab k fun _ => 0) rfl hown a ca xs xs.length rfl (Lib.hid rfl) ha2 (by rw [tab_length]; omega) (by omega) hsz2 ?_))
      intro v' w15 ho3 hb3
      clear ha2 hown
      obtain ⟨a3, c3, rfl, h3, _⟩ := ho3.out.arg
      have hb4 := Lib.hid (hb2.out.trans hb3.out)
      have hsz4 := hb4.out.size
      clear hb2 hb3 ho3
      have hc := rtrim_any _ _ _ _ h3 (by rw [hkl.out]; omega)
      rw [hkl.out] at hc ⊢
      replace hc := Lib.hid hc
      clear h3
      replace ha := Lib.hid (ha.out.below hb4.out)
      replace hb := Lib.hid (hb.out.below hb4.out)
      replace hMa := Lib.hid (hMa.out.below hb4.out)
      replace hMb := Lib.hid (hMb.out.below hb4.out)
      replace hb1 := Lib.hid (hb1.out.trans (hb4.out.mono hb1.out.size))
      clear hb4
      go_wp2_with fail
      with_reducible refine hc.out.mono ?_
      rintro e w16 ⟨v, rfl, ho4, hb5⟩
      clear hc hkl
      obtain ⟨aS, cS, rfl, hS, _⟩ := ho4.arg
      replace ha := Lib.hid (ha.out.below hb5)
      replace hb := Lib.hid (hb.out.below hb5)
      replace hMa := Lib.hid (hMa.out.below hb5)
      replace hMb := Lib.hid (hMb.out.below hb5)
      replace hb1 := Lib.hid (hb1.out.trans (hb5.mono hb1.out.size))
      clear hb5 ho4
      replace hS := Lib.hid hS
      have hcap := ha.out.len
      go_upto_if 94 with fail
      go_cut [13] from 91 to 97 (fun s13 wx => wx = w16 ∧ ∃ q : Nat, s13 = .slice a q ca ∧ q ≤ xs.length ∧ (((k : Int) < 0 ∧ q ≤ 0) ∨ (0 ≤ (k : Int) ∧ (k : Int) ≤ xs.length ∧ (k : Int) = (q : Int)) ∨ ((xs.length : Int) < (k : Int) ∧ xs.length ≤ q ∧ q ≤ xs.length)))
      case first =>
        rcases Nat.lt_or_ge k xs.length with hkx | hkx
        · have hkz : ((k : Nat) : Int) < xs.length := by omega
          replace hkx := Lib.hid hkx
          go_wp2_with fail
          go_meet
          exact ⟨rfl, k, rfl, by have := hkx.out; omega, by have := hkx.out; omega⟩
        · have hkz : ¬ ((k : Nat) : Int) < xs.length := by omega
          replace hkx := Lib.hid hkx
          go_wp2_with fail
          go_meet
          exact ⟨rfl, xs.length, rfl, by have := hkx.out; omega, by have := hkx.out; omega⟩
      case rest =>
        obtain ⟨rfl, q, rfl, hq1, hq⟩ := hcut
        have hlow := fun W (h : ArgB W (some ⟨g1, 0, none⟩) (xs.length + 6) xs) => low_any (some ⟨g1, 0, none⟩) (xs.length + 6) xs (k : Int) q (by omega) W h (by omega)
        have hrt := fun W (h : ArgB W a ca xs) => rtrim_cut a ca xs q (by omega) W h (by omega)
        have hshift := fun W (h : ArgB W (some ⟨g1, 0, none⟩) (xs.length + 6) xs) => shift_any (some ⟨g1, 0, none⟩) (xs.length + 6) xs (k : Int) k (by omega) W h (by omega)
        replace hrt := Lib.hid hrt
        replace hlow := Lib.hid hlow
        replace hshift := Lib.hid hshift
        go_wp2_with fail
        have kS := convE hS.out _ rfl
        refine wp_region_on (by kernel_rfl) (fun hOn => ?_)
        refine wpAnyH_take (i := 0) (v := ?_) (by simp only [List.getElem?_toArray, List.getElem?_cons_zero]; rfl) (by kernel_rfl) (by kernel_rfl) (by kernel_rfl) (by exact fun _ _ _ h => h) (Or.inl ⟨by rfl, ?_⟩) hOn ?_
        rotate_left
        focus (intro W hSW; go_simp; try with_reducible rfl)
        try simp only [Act.put, List.setIfInBounds_toArray, List.set_cons_zero, List.set_cons_succ]
        refine wpAnyH_take (i := 1) (v := ?_) (by simp only [List.getElem?_toArray, List.getElem?_cons_succ, List.getElem?_cons_zero]; rfl) (by kernel_rfl) (by kernel_rfl) (by kernel_rfl) (by exact fun _ _ _ h => h) (Or.inl ⟨by rfl, ?_⟩) hOn ?_
        rotate_left
        focus (intro W hSW; go_simp; try with_reducible rfl)
        try simp only [Act.put, List.setIfInBounds_toArray, List.set_cons_zero, List.set_cons_succ]
        refine wpAnyH_take (i := 4) (v := ?_) (by simp only [List.getElem?_toArray, List.getElem?_cons_succ, List.getElem?_cons_zero]; rfl) (by kernel_rfl) (by kernel_rfl) (by kernel_rfl) (by exact fun _ _ _ h => h) (Or.inl ⟨by rfl, ?_⟩) hOn ?_
        rotate_left
        focus (intro W hSW; go_simp; try with_reducible rfl)
        try simp only [Act.put, List.setIfInBounds_toArray, List.set_cons_zero, List.set_cons_succ]
        refine wpAnyH_take (i := 5) (v := ?_) (by simp only [List.getElem?_toArray, List.getElem?_cons_succ, List.getElem?_cons_zero]; rfl) (by kernel_rfl) (by kernel_rfl) (by kernel_rfl) (by exact fun _ _ _ h => h) (Or.inl ⟨by rfl, ?_⟩) hOn ?_
        rotate_left
        focus (intro W hSW; go_simp; try with_reducible rfl)
        try simp only [Act.put, List.setIfInBounds_toArray, List.set_cons_zero, List.set_cons_succ]
        refine wpAnyH_ready (rs := [2]) (by kernel_rfl) (by simp) ?_
        refine AllReadyH.cons (by simp only [List.getElem?_toArray, List.getElem?_cons_succ, List.getElem?_cons_zero]; rfl) (fun K hK => ?_) AllReadyH.nil
        go_simp
        refine (hshift.out _ (marks_arg (hMa.out.below hOn) (by omega))).mono ?_
        rintro e w6 ⟨v6, rfl, ho, hnew⟩
        obtain ⟨a6, c6, rfl, h6, _⟩ := ho.arg
        have hw := Lib.hid (Below.trans hOn (hnew.mono hOn.size))
        replace ha := Lib.hid (ha.out.below hw.out)
        replace hb := Lib.hid (hb.out.below hw.out)
        replace hMa := Lib.hid (hMa.out.below hw.out)
        replace hMb := Lib.hid (hMb.out.below hw.out)
        replace hS := Lib.hid (hS.out.below hw.out)
        replace hb1 := Lib.hid (Below.trans hb1.out (hw.out.mono hb1.out.size))
        have k6 := convE h6 _ rfl
        have kS := convE hS.out _ rfl
        clear h6
        clear ho hw
        go_wp2_with fail
        refine hK.out _ _ (Grown.trans hOn hnew) (fun hNext => ?_)
        clear hK K hOn
        refine wpAnyH_onward hNext (fun hOn => ?_)
        clear hNext hnew
        try simp only [Act.put, List.setIfInBounds_toArray, List.set_cons_zero, List.set_cons_succ]
        refine wpAnyH_take (i := 3) (v := ?_) (by simp only [List.getElem?_toArray, List.getElem?_cons_succ, List.getElem?_cons_zero]; rfl) (by kernel_rfl) (by kernel_rfl) (by kernel_rfl) (by exact fun _ _ _ h => h) (Or.inl ⟨by rfl, ?_⟩) hOn ?_
        rotate_left
        focus (intro W hSW; go_simp; try with_reducible rfl)
        try simp only [Act.put, List.setIfInBounds_toArray, List.set_cons_zero, List.set_cons_succ]
        refine wpAnyH_take (i := 6) (v := ?_) (by simp only [List.getElem?_toArray, List.getElem?_cons_succ, List.getElem?_cons_zero]; rfl) (by kernel_rfl) (by kernel_rfl) (by kernel_rfl) (by exact fun _ _ _ h => h) (Or.inl ⟨by rfl, ?_⟩) hOn ?_
        rotate_left
        focus (intro W hSW; go_simp; try with_reducible rfl)
        try simp only [Act.put, List.setIfInBounds_toArray, List.set_cons_zero, List.set_cons_succ]
        refine wpAnyH_take (i := 7) (v := ?_) (by simp only [List.getElem?_toArray, List.getElem?_cons_succ, List.getElem?_cons_zero]; rfl) (by kernel_rfl) (by kernel_rfl) (by kernel_rfl) (by exact fun _ _ _ h => h) (Or.inl ⟨by rfl, ?_⟩) hOn ?_
        rotate_left
        focus (intro W hSW; go_simp; try with_reducible rfl)
        try simp only [Act.put, List.setIfInBounds_toArray, List.set_cons_zero, List.set_cons_succ]
        refine wpAnyH_take (i := 8) (v := ?_) (by simp only [List.getElem?_toArray, List.getElem?_cons_succ, List.getElem?_cons_zero]; rfl) (by kernel_rfl) (by kernel_rfl) (by kernel_rfl) (by exact fun _ _ _ h => h) (Or.inl ⟨by rfl, ?_⟩) hOn ?_
        rotate_left
        focus (intro W hSW; go_simp; try with_reducible rfl)
        try simp only [Act.put, List.setIfInBounds_toArray, List.set_cons_zero, List.set_cons_succ]
        refine wpAnyH_take (i := 9) (v := ?_) (by simp only [List.getElem?_toArray, List.getElem?_cons_succ, List.getElem?_cons_zero]; rfl) (by kernel_rfl) (by kernel_rfl) (by kernel_rfl) (by exact fun _ _ _ h => h) (Or.inl ⟨by rfl, ?_⟩) hOn ?_
        rotate_left
        focus (intro W hSW; go_simp; try with_reducible rfl)
        try simp only [Act.put, List.setIfInBounds_toArray, List.set_cons_zero, List.set_cons_succ]
        refine wpAnyH_take (i := 12) (v := ?_) (by simp only [List.getElem?_toArray, List.getElem?_cons_succ, List.getElem?_cons_zero]; rfl) (by kernel_rfl) (by kernel_rfl) (by kernel_rfl) (by exact fun _ _ _ h => h) (Or.inl ⟨by rfl, ?_⟩) hOn ?_
        rotate_left
        focus (intro W hSW; go_simp; try with_reducible rfl)
        try simp only [Act.put, List.setIfInBounds_toArray, List.set_cons_zero, List.set_cons_succ]
        refine wpAnyH_ready (rs := [10]) (by kernel_rfl) (by simp) ?_
        refine AllReadyH.cons (by simp only [List.getElem?_toArray, List.getElem?_cons_succ, List.getElem?_cons_zero]; rfl) (fun K hK => ?_) AllReadyH.nil
        go_simp
        refine (hlow.out _ (marks_arg (hMa.out.below hOn) (by omega))).mono ?_
        rintro e w7 ⟨v7, rfl, ho, hnew⟩
        obtain ⟨a7, c7, rfl, h7, _⟩ := ho.arg
        have hw := Lib.hid (Below.trans hOn (hnew.mono hOn.size))
        replace ha := Lib.hid (ha.out.below hw.out)
        replace hb := Lib.hid (hb.out.below hw.out)
        replace hMa := Lib.hid (hMa.out.below hw.out)
        replace hMb := Lib.hid (hMb.out.below hw.out)
        replace hb1 := Lib.hid (Below.trans hb1.out (hw.out.mono hb1.out.size))
        have k7 := convE h7 _ rfl
        replace h7 := Lib.hid h7
        clear ho hw
        go_wp2_with fail
        refine hK.out _ _ (Grown.trans hOn hnew) (fun hNext => ?_)
        clear hK K hOn
        refine wpAnyH_onward hNext (fun hOn => ?_)
        clear hNext hnew
        try simp only [Act.put, List.setIfInBounds_toArray, List.set_cons_zero, List.set_cons_succ]
        refine wpAnyH_take (i := 11) (v := ?_) (by simp only [List.getElem?_toArray, List.getElem?_cons_succ, List.getElem?_cons_zero]; rfl) (by kernel_rfl) (by kernel_rfl) (by kernel_rfl) (by exact fun _ _ _ h => h) (Or.inl ⟨by rfl, ?_⟩) hOn ?_
        rotate_left
        focus (intro W hSW; go_simp; try with_reducible rfl)
        try simp only [Act.put, List.setIfInBounds_toArray, List.set_cons_zero, List.set_cons_succ]
        refine wpAnyH_ready (rs := [13]) (by kernel_rfl) (by simp) ?_
        refine AllReadyH.cons (by simp only [List.getElem?_toArray, List.getElem?_cons_succ, List.getElem?_cons_zero]; rfl) (fun K hK => ?_) AllReadyH.nil
        go_simp
        refine (hrt.out _ (ha.out.below hOn)).mono ?_
        rintro e w8 ⟨v8, rfl, ho, hnew⟩
        obtain ⟨a8, c8, rfl, h8, _⟩ := ho.arg
        have hw := Lib.hid (Below.trans hOn (hnew.mono hOn.size))
        replace ha := Lib.hid (ha.out.below hw.out)
        replace hb := Lib.hid (hb.out.below hw.out)
        replace hMa := Lib.hid (hMa.out.below hw.out)
        replace hMb := Lib.hid (hMb.out.below hw.out)
        replace hb1 := Lib.hid (Below.trans hb1.out (hw.out.mono hb1.out.size))
        have k8 := convE h8 _ rfl
        have k7b := convE (h7.out.below hw.out) _ rfl
        clear h7 h8
        clear ho hw
        go_wp2_with fail
        refine hK.out _ _ (Grown.trans hOn hnew) (fun hNext => ?_)
        clear hK K hOn
        refine wpAnyH_onward hNext (fun hOn => ?_)
        clear hNext hnew
        try simp only [Act.put, List.setIfInBounds_toArray, List.set_cons_zero, List.set_cons_succ]
        refine wpAnyH_take (i := 14) (v := ?_) (by simp only [List.getElem?_toArray, List.getElem?_cons_succ, List.getElem?_cons_zero]; rfl) (by kernel_rfl) (by kernel_rfl) (by kernel_rfl) (by exact fun _ _ _ h => h) (Or.inl ⟨by rfl, ?_⟩) hOn ?_
        rotate_left
        focus (intro W hSW; go_simp; try with_reducible rfl)
        try simp only [Act.put, List.setIfInBounds_toArray, List.set_cons_zero, List.set_cons_succ]
        refine wpAnyH_take (i := 15) (v := ?_) (by simp only [List.getElem?_toArray, List.getElem?_cons_succ, List.getElem?_cons_zero]; rfl) (by kernel_rfl) (by kernel_rfl) (by kernel_rfl) (by exact fun _ _ _ h => h) (Or.inl ⟨by rfl, ?_⟩) hOn ?_
        rotate_left
        focus (intro W hSW; go_simp; try with_reducible rfl)
        try simp only [Act.put, List.setIfInBounds_toArray, List.set_cons_zero, List.set_cons_succ]
        refine wpAnyH_take (i := 16) (v := ?_) (by simp only [List.getElem?_toArray, List.getElem?_cons_succ, List.getElem?_cons_zero]; rfl) (by kernel_rfl) (by kernel_rfl) (by kernel_rfl) (by exact fun _ _ _ h => h) (Or.inl ⟨by rfl, ?_⟩) hOn ?_
        rotate_left
        focus (intro W hSW; go_simp; try with_reducible rfl)
        try simp only [Act.put, List.setIfInBounds_toArray, List.set_cons_zero, List.set_cons_succ]
        refine wpAnyH_take (i := 17) (v := ?_) (by simp only [List.getElem?_toArray, List.getElem?_cons_succ, List.getElem?_cons_zero]; rfl) (by kernel_rfl) (by kernel_rfl) (by kernel_rfl) (by exact fun _ _ _ h => h) (Or.inl ⟨by rfl, ?_⟩) hOn ?_
        rotate_left
        focus (intro W hSW; go_simp; try with_reducible rfl)
        try simp only [Act.put, List.setIfInBounds_toArray, List.set_cons_zero, List.set_cons_succ]
        refine wpAnyH_take (i := 18) (v := ?_) (by simp only [List.getElem?_toArray, List.getElem?_cons_succ, List.getElem?_cons_zero]; rfl) (by kernel_rfl) (by kernel_rfl) (by kernel_rfl) (by exact fun _ _ _ h => h) (Or.inl ⟨by rfl, ?_⟩) hOn ?_
        rotate_left
        focus (intro W hSW; go_simp; try with_reducible rfl)
        try simp only [Act.put, List.setIfInBounds_toArray, List.set_cons_zero, List.set_cons_succ]
        refine wpAnyH_take (i := 19) (v := ?_) (by simp only [List.getElem?_toArray, List.getElem?_cons_succ, List.getElem?_cons_zero]; rfl) (by kernel_rfl) (by kernel_rfl) (by kernel_rfl) (by exact fun _ _ _ h => h) (Or.inl ⟨by rfl, ?_⟩) hOn ?_
        rotate_left
        focus (intro W hSW; go_simp; try with_reducible rfl)
        try simp only [Act.put, List.setIfInBounds_toArray, List.set_cons_zero, List.set_cons_succ]
        refine wpAnyH_ready (rs := [20]) (by kernel_rfl) (by simp) ?_
        refine AllReadyH.cons (by simp only [List.getElem?_toArray, List.getElem?_cons_succ, List.getElem?_cons_zero]; rfl) (fun K hK => ?_) AllReadyH.nil
        go_simp
        refine (kept_any g1 a ca xs _ (by omega) (hMa.out.below hOn) (ha.out.below hOn)).mono ?_
        rintro e w9 ⟨rfl, hd⟩
        have hnew := grown_of_drawn hd
        have hw := Lib.hid (Below.trans hOn (hnew.mono hOn.size))
        replace ha := Lib.hid (ha.out.below hw.out)
        replace hb := Lib.hid (hb.out.below hw.out)
        replace hMa := Lib.hid (hMa.out.below hw.out)
        replace hMb := Lib.hid (hMb.out.below hw.out)
        replace hb1 := Lib.hid (Below.trans hb1.out (hw.out.mono hb1.out.size))
        clear hd hw
        go_wp2_with fail
        refine hK.out _ _ (Grown.trans hOn hnew) (fun hNext => ?_)
        clear hK K hOn
        refine wpAnyH_onward hNext (fun hOn => ?_)
        clear hNext hnew
        try simp only [Act.put, List.setIfInBounds_toArray, List.set_cons_zero, List.set_cons_succ]
        refine wpAnyH_take (i := 21) (v := ?_) (by simp only [List.getElem?_toArray, List.getElem?_cons_succ, List.getElem?_cons_zero]; rfl) (by kernel_rfl) (by kernel_rfl) (by kernel_rfl) (by exact fun _ _ _ h => h) (Or.inl ⟨by rfl, ?_⟩) hOn ?_
        rotate_left
        focus (intro W hSW; go_simp; try with_reducible rfl)
        try simp only [Act.put, List.setIfInBounds_toArray, List.set_cons_zero, List.set_cons_succ]
        refine wpAnyH_take (i := 22) (v := ?_) (by simp only [List.getElem?_toArray, List.getElem?_cons_succ, List.getElem?_cons_zero]; rfl) (by kernel_rfl) (by kernel_rfl) (by kernel_rfl) (by exact fun _ _ _ h => h) (Or.inl ⟨by rfl, ?_⟩) hOn ?_
        rotate_left
        focus (intro W hSW; go_simp; try with_reducible rfl)
        try simp only [Act.put, List.setIfInBounds_toArray, List.set_cons_zero, List.set_cons_succ]
        refine wpAnyH_take (i := 23) (v := ?_) (by simp only [List.getElem?_toArray, List.getElem?_cons_succ, List.getElem?_cons_zero]; rfl) (by kernel_rfl) (by kernel_rfl) (by kernel_rfl) (by exact fun _ _ _ h => h) (Or.inl ⟨by rfl, ?_⟩) hOn ?_
        rotate_left
        focus (intro W hSW; go_simp; try with_reducible rfl)
        try simp only [Act.put, List.setIfInBounds_toArray, List.set_cons_zero, List.set_cons_succ]
        refine wpAnyH_take (i := 24) (v := ?_) (by simp only [List.getElem?_toArray, List.getElem?_cons_succ, List.getElem?_cons_zero]; rfl) (by kernel_rfl) (by kernel_rfl) (by kernel_rfl) (by exact fun _ _ _ h => h) (Or.inl ⟨by rfl, ?_⟩) hOn ?_
        rotate_left
        focus (intro W hSW; go_simp; try with_reducible rfl)
        try simp only [Act.put, List.setIfInBounds_toArray, List.set_cons_zero, List.set_cons_succ]
        refine wpAnyH_ready (rs := [25]) (by kernel_rfl) (by simp) ?_
        refine AllReadyH.cons (by simp only [List.getElem?_toArray, List.getElem?_cons_succ, List.getElem?_cons_zero]; rfl) (fun K hK => ?_) AllReadyH.nil
        go_simp
        refine (kept_any g2 b cb ys _ (by omega) (hMb.out.below hOn) (hb.out.below hOn)).mono ?_
        rintro e w10 ⟨rfl, hd⟩
        have hnew := grown_of_drawn hd
        have hw := Lib.hid (Below.trans hOn (hnew.mono hOn.size))
        replace hb1 := Lib.hid (Below.trans hb1.out (hw.out.mono hb1.out.size))
        clear hd hw
        go_wp2_with fail
        refine hK.out _ _ (Grown.trans hOn hnew) (fun hNext => ?_)
        clear hK K hOn
        refine wpAnyH_onward hNext (fun hOn => ?_)
        clear hNext hnew
        try simp only [Act.put, List.setIfInBounds_toArray, List.set_cons_zero, List.set_cons_succ]
        refine wpAnyH_take (i := 26) (v := ?_) (by simp only [List.getElem?_toArray, List.getElem?_cons_succ, List.getElem?_cons_zero]; rfl) (by kernel_rfl) (by kernel_rfl) (by kernel_rfl) (by exact fun _ _ _ h => h) (Or.inl ⟨by rfl, ?_⟩) hOn ?_
        rotate_left
        focus (intro W hSW; go_simp; try with_reducible rfl)
        try simp only [Act.put, List.setIfInBounds_toArray, List.set_cons_zero, List.set_cons_succ]
        refine wpAnyH_take (i := 27) (v := ?_) (by simp only [List.getElem?_toArray, List.getElem?_cons_succ, List.getElem?_cons_zero]; rfl) (by kernel_rfl) (by kernel_rfl) (by kernel_rfl) (by exact fun _ _ _ h => h) (Or.inl ⟨by rfl, ?_⟩) hOn ?_
        rotate_left
        focus (intro W hSW; go_simp; try with_reducible rfl)
        try simp only [Act.put, List.setIfInBounds_toArray, List.set_cons_zero, List.set_cons_succ]
        refine wpAnyH_done (by kernel_rfl) ?_ _
        go_wp2_with fail
        go_ret
        exact ⟨rfl, hb1.out⟩
    · go_wp2_with (at_make; go_must (refine wpList_make_full _ rfl _ _ 22 rfl wc.heap.size 5 i0 (.int .u8 0) 1 Try.underlying22 hi hz0 hz1 _ _ _ _ 1000 rfl rfl (by omega) (by omega) (by rw [hz2]; omega) (by unfold maxLen; omega) (Nat.le_refl _) ?_))
      intro w14 hown2 hg2
      have hown := Lib.hid (OwnB.made hown2)
      have hb2 := Lib.hid ((Below.refl wc.heap.size wc).grown hg2 (Nat.le_refl _) (fun k hk => by cases hk))
      have ha2 := Lib.hid (ha.out.below hb2.out)
      have hsz2 := hb2.out.size
      clear hown2 hg2
      have hkl := Lib.hid (show ((tab 1000 fun _ => 0) ++ xs).length = 1000 + xs.length by rw [List.length_append, tab_length])
      go_wp2_with (at_builtin; go_must (refine wpB_app rfl (.tmp 86) (.tmp 87) rfl wc.heap.size _ (tab 1000 fun _ => 0) rfl hown a ca xs xs.length rfl (Lib.hid rfl) ha2 (by rw [tab_length]; omega) (by omega) hsz2 ?_))
      intro v' w15 ho3 hb3
      clear ha2 hown
      obtain ⟨a3, c3, rfl, h3, _⟩ := ho3.out.arg
      have hb4 := Lib.hid (hb2.out.trans hb3.out)
      have hsz4 := hb4.out.size
      clear hb2 hb3 ho3
      have hc := rtrim_any _ _ _ _ h3 (by rw [hkl.out]; omega)
      rw [hkl.out] at hc ⊢
      replace hc := Lib.hid hc
      clear h3
      replace ha := Lib.hid (ha.out.below hb4.out)
      replace hb := Lib.hid (hb.out.below hb4.out)
      replace hMa := Lib.hid (hMa.out.below hb4.out)
      replace hMb := Lib.hid (hMb.out.below hb4.out)
      replace hb1 := Lib.hid (hb1.out.trans (hb4.out.mono hb1.out.size))
      clear hb4
      go_wp2_with fail
      with_reducible refine hc.out.mono ?_
      rintro e w16 ⟨v, rfl, ho4, hb5⟩
      clear hc hkl
      obtain ⟨aS, cS, rfl, hS, _⟩ := ho4.arg
      replace ha := Lib.hid (ha.out.below hb5)
      replace hb := Lib.hid (hb.out.below hb5)
      replace hMa := Lib.hid (hMa.out.below hb5)
      replace hMb := Lib.hid (hMb.out.below hb5)
      replace hb1 := Lib.hid (hb1.out.trans (hb5.mono hb1.out.size))
      clear hb5 ho4
      replace hS := Lib.hid hS
      have hcap := ha.out.len
      go_upto_if 94 with fail
      go_cut [13] from 91 to 97 (fun s13 wx => wx = w16 ∧ ∃ q : Nat, s13 = .slice a q ca ∧ q ≤ xs.length ∧ ((n < 0 ∧ q ≤ 0) ∨ (0 ≤ n ∧ n ≤ xs.length ∧ n = (q : Int)) ∨ ((xs.length : Int) < n ∧ xs.length ≤ q ∧ q ≤ xs.length)))
      case first =>
        rcases Nat.lt_or_ge 1000 xs.length with hkx | hkx
        · exact absurd hkx (by omega)
        · have hkz : ¬ ((1000 : Nat) : Int) < xs.length := by omega
          replace hkx := Lib.hid hkx
          go_wp2_with fail
          go_meet
          exact ⟨rfl, xs.length, rfl, by have := hkx.out; omega, by have := hkx.out; omega⟩
      case rest =>
        obtain ⟨rfl, q, rfl, hq1, hq⟩ := hcut
        have hlow := fun W (h : ArgB W (some ⟨g1, 0, none⟩) (xs.length + 6) xs) => low_any (some ⟨g1, 0, none⟩) (xs.length + 6) xs n q (by omega) W h (by omega)
        have hrt := fun W (h : ArgB W a ca xs) => rtrim_cut a ca xs q (by omega) W h (by omega)
        have hshift := fun W (h : ArgB W (some ⟨g1, 0, none⟩) (xs.length + 6) xs) => shift_any (some ⟨g1, 0, none⟩) (xs.length + 6) xs n 1000 (by omega) W h (by omega)
        replace hrt := Lib.hid hrt
        replace hlow := Lib.hid hlow
        replace hshift := Lib.hid hshift
        go_wp2_with fail
        have kS := convE hS.out _ rfl
        refine wp_region_on (by kernel_rfl) (fun hOn => ?_)
        refine wpAnyH_take (i := 0) (v := ?_) (by simp only [List.getElem?_toArray, List.getElem?_cons_zero]; rfl) (by kernel_rfl) (by kernel_rfl) (by kernel_rfl) (by exact fun _ _ _ h => h) (Or.inl ⟨by rfl, ?_⟩) hOn ?_
        rotate_left
        focus (intro W hSW; go_simp; try with_reducible rfl)
        try simp only [Act.put, List.setIfInBounds_toArray, List.set_cons_zero, List.set_cons_succ]
        refine wpAnyH_take (i := 1) (v := ?_) (by simp only [List.getElem?_toArray, List.getElem?_cons_succ, List.getElem?_cons_zero]; rfl) (by kernel_rfl) (by kernel_rfl) (by kernel_rfl) (by exact fun _ _ _ h => h) (Or.inl ⟨by rfl, ?_⟩) hOn ?_
        rotate_left
        focus (intro W hSW; go_simp; try with_reducible rfl)
        try simp only [Act.put, List.setIfInBounds_toArray, List.set_cons_zero, List.set_cons_succ]
        refine wpAnyH_take (i := 4) (v := ?_) (by simp only [List.getElem?_toArray, List.getElem?_cons_succ, List.getElem?_cons_zero]; rfl) (by kernel_rfl) (by kernel_rfl) (by kernel_rfl) (by exact fun _ _ _ h => h) (Or.inl ⟨by rfl, ?_⟩) hOn ?_
        rotate_left
        focus (intro W hSW; go_simp; try with_reducible rfl)
        try simp only [Act.put, List.setIfInBounds_toArray, List.set_cons_zero, List.set_cons_succ]
        refine wpAnyH_take (i := 5) (v := ?_) (by simp only [List.getElem?_toArray, List.getElem?_cons_succ, List.getElem?_cons_zero]; rfl) (by kernel_rfl) (by kernel_rfl) (by kernel_rfl) (by exact fun _ _ _ h => h) (Or.inl ⟨by rfl, ?_⟩) hOn ?_
        rotate_left
        focus (intro W hSW; go_simp; try with_reducible rfl)
        try simp only [Act.put, List.setIfInBounds_toArray, List.set_cons_zero, List.set_cons_succ]
        refine wpAnyH_ready (rs := [2]) (by kernel_rfl) (by simp) ?_
        refine AllReadyH.cons (by simp only [List.getElem?_toArray, List.getElem?_cons_succ, List.getElem?_cons_zero]; rfl) (fun K hK => ?_) AllReadyH.nil
        go_simp
        refine (hshift.out _ (marks_arg (hMa.out.below hOn) (by omega))).mono ?_
        rintro e w6 ⟨v6, rfl, ho, hnew⟩
        obtain ⟨a6, c6, rfl, h6, _⟩ := ho.arg
        have hw := Lib.hid (Below.trans hOn (hnew.mono hOn.size))
        replace ha := Lib.hid (ha.out.below hw.out)
        replace hb := Lib.hid (hb.out.below hw.out)
        replace hMa := Lib.hid (hMa.out.below hw.out)
        replace hMb := Lib.hid (hMb.out.below hw.out)
        replace hS := Lib.hid (hS.out.below hw.out)
        replace hb1 := Lib.hid (Below.trans hb1.out (hw.out.mono hb1.out.size))
        have k6 := convE h6 _ rfl
        have kS := convE hS.out _ rfl
        clear h6
        clear ho hw
        go_wp2_with fail
        refine hK.out _ _ (Grown.trans hOn hnew) (fun hNext => ?_)
        clear hK K hOn
        refine wpAnyH_onward hNext (fun hOn => ?_)
        clear hNext hnew
        try simp only [Act.put, List.setIfInBounds_toArray, List.set_cons_zero, List.set_cons_succ]
        refine wpAnyH_take (i := 3) (v := ?_) (by simp only [List.getElem?_toArray, List.getElem?_cons_succ, List.getElem?_cons_zero]; rfl) (by kernel_rfl) (by kernel_rfl) (by kernel_rfl) (by exact fun _ _ _ h => h) (Or.inl ⟨by rfl, ?_⟩) hOn ?_
        rotate_left
        focus (intro W hSW; go_simp; try with_reducible rfl)
        try simp only [Act.put, List.setIfInBounds_toArray, List.set_cons_zero, List.set_cons_succ]
        refine wpAnyH_take (i := 6) (v := ?_) (by simp only [List.getElem?_toArray, List.getElem?_cons_succ, List.getElem?_cons_zero]; rfl) (by kernel_rfl) (by kernel_rfl) (by kernel_rfl) (by exact fun _ _ _ h => h) (Or.inl ⟨by rfl, ?_⟩) hOn ?_
        rotate_left
        focus (intro W hSW; go_simp; try with_reducible rfl)
        try simp only [Act.put, List.setIfInBounds_toArray, List.set_cons_zero, List.set_cons_succ]
        refine wpAnyH_take (i := 7) (v := ?_) (by simp only [List.getElem?_toArray, List.getElem?_cons_succ, List.getElem?_cons_zero]; rfl) (by kernel_rfl) (by kernel_rfl) (by kernel_rfl) (by exact fun _ _ _ h => h) (Or.inl ⟨by rfl, ?_⟩) hOn ?_
        rotate_left
        focus (intro W hSW; go_simp; try with_reducible rfl)
        try simp only [Act.put, List.setIfInBounds_toArray, List.set_cons_zero, List.set_cons_succ]
        refine wpAnyH_take (i := 8) (v := ?_) (by simp only [List.getElem?_toArray, List.getElem?_cons_succ, List.getElem?_cons_zero]; rfl) (by kernel_rfl) (by kernel_rfl) (by kernel_rfl) (by exact fun _ _ _ h => h) (Or.inl ⟨by rfl, ?_⟩) hOn ?_
        rotate_left
        focus (intro W hSW; go_simp; try with_reducible rfl)
        try simp only [Act.put, List.setIfInBounds_toArray, List.set_cons_zero, List.set_cons_succ]
        refine wpAnyH_take (i := 9) (v := ?_) (by simp only [List.getElem?_toArray, List.getElem?_cons_succ, List.getElem?_cons_zero]; rfl) (by kernel_rfl) (by kernel_rfl) (by kernel_rfl) (by exact fun _ _ _ h => h) (Or.inl ⟨by rfl, ?_⟩) hOn ?_
        rotate_left
        focus (intro W hSW; go_simp; try with_reducible rfl)
        try simp only [Act.put, List.setIfInBounds_toArray, List.set_cons_zero, List.set_cons_succ]
        refine wpAnyH_take (i := 12) (v := ?_) (by simp only [List.getElem?_toArray, List.getElem?_cons_succ, List.getElem?_cons_zero]; rfl) (by kernel_rfl) (by kernel_rfl) (by kernel_rfl) (by exact fun _ _ _ h => h) (Or.inl ⟨by rfl, ?_⟩) hOn ?_
        rotate_left
        focus (intro W hSW; go_simp; try with_reducible rfl)
        try simp only [Act.put, List.setIfInBounds_toArray, List.set_cons_zero, List.set_cons_succ]
        refine wpAnyH_ready (rs := [10]) (by kernel_rfl) (by simp) ?_
        refine AllReadyH.cons (by simp only [List.getElem?_toArray, List.getElem?_cons_succ, List.getElem?_cons_zero]; rfl) (fun K hK => ?_) AllReadyH.nil
        go_simp
        refine (hlow.out _ (marks_arg (hMa.out.below hOn) (by omega))).mono ?_
        rintro e w7 ⟨v7, rfl, ho, hnew⟩
        obtain ⟨a7, c7, rfl, h7, _⟩ := ho.arg
        have hw := Lib.hid (Below.trans hOn (hnew.mono hOn.size))
        replace ha := Lib.hid (ha.out.below hw.out)
        replace hb := Lib.hid (hb.out.below hw.out)
        replace hMa := Lib.hid (hMa.out.below hw.out)
        replace hMb := Lib.hid (hMb.out.below hw.out)
        replace hb1 := Lib.hid (Below.trans hb1.out (hw.out.mono hb1.out.size))
        have k7 := convE h7 _ rfl
        replace h7 := Lib.hid h7
        clear ho hw
        go_wp2_with fail
        refine hK.out _ _ (Grown.trans hOn hnew) (fun hNext => ?_)
        clear hK K hOn
        refine wpAnyH_onward hNext (fun hOn => ?_)
        clear hNext hnew
        try simp only [Act.put, List.setIfInBounds_toArray, List.set_cons_zero, List.set_cons_succ]
        refine wpAnyH_take (i := 11) (v := ?_) (by simp only [List.getElem?_toArray, List.getElem?_cons_succ, List.getElem?_cons_zero]; rfl) (by kernel_rfl) (by kernel_rfl) (by kernel_rfl) (by exact fun _ _ _ h => h) (Or.inl ⟨by rfl, ?_⟩) hOn ?_
        rotate_left
        focus (intro W hSW; go_simp; try with_reducible rfl)
        try simp only [Act.put, List.setIfInBounds_toArray, List.set_cons_zero, List.set_cons_succ]
        refine wpAnyH_ready (rs := [13]) (by kernel_rfl) (by simp) ?_
        refine AllReadyH.cons (by simp only [List.getElem?_toArray, List.getElem?_cons_succ, List.getElem?_cons_zero]; rfl) (fun K hK => ?_) AllReadyH.nil
        go_simp
        refine (hrt.out _ (ha.out.below hOn)).mono ?_
        rintro e w8 ⟨v8, rfl, ho, hnew⟩
        obtain ⟨a8, c8, rfl, h8, _⟩ := ho.arg
        have hw := Lib.hid (Below.trans hOn (hnew.mono hOn.size))
        replace ha := Lib.hid (ha.out.below hw.out)
        replace hb := Lib.hid (hb.out.below hw.out)
        replace hMa := Lib.hid (hMa.out.below hw.out)
        replace hMb := Lib.hid (hMb.out.below hw.out)
        replace hb1 := Lib.hid (Below.trans hb1.out (hw.out.mono hb1.out.size))
        have k8 := convE h8 _ rfl
        have k7b := convE (h7.out.below hw.out) _ rfl
        clear h7 h8
        clear ho hw
        go_wp2_with fail
        refine hK.out _ _ (Grown.trans hOn hnew) (fun hNext => ?_)
        clear hK K hOn
        refine wpAnyH_onward hNext (fun hOn => ?_)
        clear hNext hnew
        try simp only [Act.put, List.setIfInBounds_toArray, List.set_cons_zero, List.set_cons_succ]
        refine wpAnyH_take (i := 14) (v := ?_) (by simp only [List.getElem?_toArray, List.getElem?_cons_succ, List.getElem?_cons_zero]; rfl) (by kernel_rfl) (by kernel_rfl) (by kernel_rfl) (by exact fun _ _ _ h => h) (Or.inl ⟨by rfl, ?_⟩) hOn ?_
        rotate_left
        focus (intro W hSW; go_simp; try with_reducible rfl)
        try simp only [Act.put, List.setIfInBounds_toArray, List.set_cons_zero, List.set_cons_succ]
        refine wpAnyH_take (i := 15) (v := ?_) (by simp only [List.getElem?_toArray, List.getElem?_cons_succ, List.getElem?_cons_zero]; rfl) (by kernel_rfl) (by kernel_rfl) (by kernel_rfl) (by exact fun _ _ _ h => h) (Or.inl ⟨by rfl, ?_⟩) hOn ?_
        rotate_left
        focus (intro W hSW; go_simp; try with_reducible rfl)
        try simp only [Act.put, List.setIfInBounds_toArray, List.set_cons_zero, List.set_cons_succ]
        refine wpAnyH_take (i := 16) (v := ?_) (by simp only [List.getElem?_toArray, List.getElem?_cons_succ, List.getElem?_cons_zero]; rfl) (by kernel_rfl) (by kernel_rfl) (by kernel_rfl) (by exact fun _ _ _ h => h) (Or.inl ⟨by rfl, ?_⟩) hOn ?_
        rotate_left
        focus (intro W hSW; go_simp; try with_reducible rfl)
        try simp only [Act.put, List.setIfInBounds_toArray, List.set_cons_zero, List.set_cons_succ]
        refine wpAnyH_take (i := 17) (v := ?_) (by simp only [List.getElem?_toArray, List.getElem?_cons_succ, List.getElem?_cons_zero]; rfl) (by kernel_rfl) (by kernel_rfl) (by kernel_rfl) (by exact fun _ _ _ h => h) (Or.inl ⟨by rfl, ?_⟩) hOn ?_
        rotate_left
        focus (intro W hSW; go_simp; try with_reducible rfl)
        try simp only [Act.put, List.setIfInBounds_toArray, List.set_cons_zero, List.set_cons_succ]
        refine wpAnyH_take (i := 18) (v := ?_) (by simp only [List.getElem?_toArray, List.getElem?_cons_succ, List.getElem?_cons_zero]; rfl) (by kernel_rfl) (by kernel_rfl) (by kernel_rfl) (by exact fun _ _ _ h => h) (Or.inl ⟨by rfl, ?_⟩) hOn ?_
        rotate_left
        focus (intro W hSW; go_simp; try with_reducible rfl)
        try simp only [Act.put, List.setIfInBounds_toArray, List.set_cons_zero, List.set_cons_succ]
        refine wpAnyH_take (i := 19) (v := ?_) (by simp only [List.getElem?_toArray, List.getElem?_cons_succ, List.getElem?_cons_zero]; rfl) (by kernel_rfl) (by kernel_rfl) (by kernel_rfl) (by exact fun _ _ _ h => h) (Or.inl ⟨by rfl, ?_⟩) hOn ?_
        rotate_left
        focus (intro W hSW; go_simp; try with_reducible rfl)
        try simp only [Act.put, List.setIfInBounds_toArray, List.set_cons_zero, List.set_cons_succ]
        refine wpAnyH_ready (rs := [20]) (by kernel_rfl) (by simp) ?_
        refine AllReadyH.cons (by simp only [List.getElem?_toArray, List.getElem?_cons_succ, List.getElem?_cons_zero]; rfl) (fun K hK => ?_) AllReadyH.nil
        go_simp
        refine (kept_any g1 a ca xs _ (by omega) (hMa.out.below hOn) (ha.out.below hOn)).mono ?_
        rintro e w9 ⟨rfl, hd⟩
        have hnew := grown_of_drawn hd
        have hw := Lib.hid (Below.trans hOn (hnew.mono hOn.size))
        replace ha := Lib.hid (ha.out.below hw.out)
        replace hb := Lib.hid (hb.out.below hw.out)
        replace hMa := Lib.hid (hMa.out.below hw.out)
        replace hMb := Lib.hid (hMb.out.below hw.out)
        replace hb1 := Lib.hid (Below.trans hb1.out (hw.out.mono hb1.out.size))
        clear hd hw
        go_wp2_with fail
        refine hK.out _ _ (Grown.trans hOn hnew) (fun hNext => ?_)
        clear hK K hOn
        refine wpAnyH_onward hNext (fun hOn => ?_)
        clear hNext hnew
        try simp only [Act.put, List.setIfInBounds_toArray, List.set_cons_zero, List.set_cons_succ]
        refine wpAnyH_take (i := 21) (v := ?_) (by simp only [List.getElem?_toArray, List.getElem?_cons_succ, List.getElem?_cons_zero]; rfl) (by kernel_rfl) (by kernel_rfl) (by kernel_rfl) (by exact fun _ _ _ h => h) (Or.inl ⟨by rfl, ?_⟩) hOn ?_
        rotate_left
        focus (intro W hSW; go_simp; try with_reducible rfl)
        try simp only [Act.put, List.setIfInBounds_toArray, List.set_cons_zero, List.set_cons_succ]
        refine wpAnyH_take (i := 22) (v := ?_) (by simp only [List.getElem?_toArray, List.getElem?_cons_succ, List.getElem?_cons_zero]; rfl) (by kernel_rfl) (by kernel_rfl) (by kernel_rfl) (by exact fun _ _ _ h => h) (Or.inl ⟨by rfl, ?_⟩) hOn ?_
        rotate_left
        focus (intro W hSW; go_simp; try with_reducible rfl)
        try simp only [Act.put, List.setIfInBounds_toArray, List.set_cons_zero, List.set_cons_succ]
        refine wpAnyH_take (i := 23) (v := ?_) (by simp only [List.getElem?_toArray, List.getElem?_cons_succ, List.getElem?_cons_zero]; rfl) (by kernel_rfl) (by kernel_rfl) (by kernel_rfl) (by exact fun _ _ _ h => h) (Or.inl ⟨by rfl, ?_⟩) hOn ?_
        rotate_left
        focus (intro W hSW; go_simp; try with_reducible rfl)
        try simp only [Act.put, List.setIfInBounds_toArray, List.set_cons_zero, List.set_cons_succ]
        refine wpAnyH_take (i := 24) (v := ?_) (by simp only [List.getElem?_toArray, List.getElem?_cons_succ, List.getElem?_cons_zero]; rfl) (by kernel_rfl) (by kernel_rfl) (by kernel_rfl) (by exact fun _ _ _ h => h) (Or.inl ⟨by rfl, ?_⟩) hOn ?_
        rotate_left
        focus (intro W hSW; go_simp; try with_reducible rfl)
        try simp only [Act.put, List.setIfInBounds_toArray, List.set_cons_zero, List.set_cons_succ]
        refine wpAnyH_ready (rs := [25]) (by kernel_rfl) (by simp) ?_
        refine AllReadyH.cons (by simp only [List.getElem?_toArray, List.getElem?_cons_succ, List.getElem?_cons_zero]; rfl) (fun K hK => ?_) AllReadyH.nil
        go_simp
        refine (kept_any g2 b cb ys _ (by omega) (hMb.out.below hOn) (hb.out.below hOn)).mono ?_
        rintro e w10 ⟨rfl, hd⟩
        have hnew := grown_of_drawn hd
        have hw := Lib.hid (Below.trans hOn (hnew.mono hOn.size))
        replace hb1 := Lib.hid (Below.trans hb1.out (hw.out.mono hb1.out.size))
        clear hd hw
        go_wp2_with fail
        refine hK.out _ _ (Grown.trans hOn hnew) (fun hNext => ?_)
        clear hK K hOn
        refine wpAnyH_onward hNext (fun hOn => ?_)
        clear hNext hnew
        try simp only [Act.put, List.setIfInBounds_toArray, List.set_cons_zero, List.set_cons_succ]
        refine wpAnyH_take (i := 26) (v := ?_) (by simp only [List.getElem?_toArray, List.getElem?_cons_succ, List.getElem?_cons_zero]; rfl) (by kernel_rfl) (by kernel_rfl) (by kernel_rfl) (by exact fun _ _ _ h => h) (Or.inl ⟨by rfl, ?_⟩) hOn ?_
        rotate_left
        focus (intro W hSW; go_simp; try with_reducible rfl)
        try simp only [Act.put, List.setIfInBounds_toArray, List.set_cons_zero, List.set_cons_succ]
        refine wpAnyH_take (i := 27) (v := ?_) (by simp only [List.getElem?_toArray, List.getElem?_cons_succ, List.getElem?_cons_zero]; rfl) (by kernel_rfl) (by kernel_rfl) (by kernel_rfl) (by exact fun _ _ _ h => h) (Or.inl ⟨by rfl, ?_⟩) hOn ?_
        rotate_left
        focus (intro W hSW; go_simp; try with_reducible rfl)
        try simp only [Act.put, List.setIfInBounds_toArray, List.set_cons_zero, List.set_cons_succ]
        refine wpAnyH_done (by kernel_rfl) ?_ _
        go_wp2_with fail
        go_ret
        exact ⟨rfl, hb1.out⟩

end Go.Proofs.Ytkoeejpiaffmfaa
