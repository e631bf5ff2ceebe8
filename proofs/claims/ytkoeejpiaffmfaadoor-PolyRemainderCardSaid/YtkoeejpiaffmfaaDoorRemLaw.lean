/- The walk over PolyRemainder. -/
import Derived.Test.YtkoeejpiaffmfaaDoorDivLaw
import Derived.Test.YtkoeejpiaffmfaaDoorZeros
import Derived.Test.YtkoeejpiaffmfaaDoorOnL
namespace Go.Proofs.YtkoeejpiaffmfaaDoor
open Go.RowKit

theorem tlen_root (r : UInt8) : tlen [r, 1] = 2 := by simp [tlen]
theorem trim_one {B : List UInt8} (h : trim B = B) (hl : B.length ≤ 1) : B = [] ∨ ∃ c, B = [c] ∧ c ≠ 0 := by
  match B, hl with
  | [], _ => exact .inl rfl
  | [c], _ =>
    refine .inr ⟨c, rfl, fun e => ?_⟩
    subst e
    exact absurd h (by decide)
theorem peval_root (r : UInt8) : peval [r, 1] r = 0 := by
  rw [peval_cons, peval_cons, peval_nil, Gf.mul_zero_left, Gf.zero_add, Gf.one_mul, Gf.add_self]
theorem mem_take {Z : List UInt8} {k : Nat} (h : k < Z.length) (r : UInt8) : r ∈ Z.take (k + 1) ↔ r ∈ Z.take k ∨ cf Z k = r := by
  rw [List.take_succ_eq_append_getElem h, List.mem_append, List.mem_singleton, cf_lt h, eq_comm (a := r)]
theorem u8_beq (x y : UInt8) : ((x.toNat : Int) == (y.toNat : Int)) = decide (x = y) := by
  by_cases h : x = y
  · subst h; simp
  · rw [decide_eq_false h, beq_eq_false_iff_ne]
    intro e
    exact h (UInt8.toNat_inj.1 (by omega))

set_option maxRecDepth 10000 in
set_option maxHeartbeats 8000000 in
theorem rem_walk8 (a : Option Addr) (ca : Nat) (xs : List UInt8) (r : UInt8) (w : World) (ha : ArgB w a ca xs) :
    Calls Tryd.prog 3 #[.slice a xs.length ca, .int .u8 (r.toNat : Int)] w fun e w' => e = .returned (.bool true) ∧ Below w.heap.size w w' := by
  have hla : xs.length ≤ maxLen := Nat.le_trans ha.len ha.most
  replace ha := Lib.hid ha
  rcases Nat.lt_or_ge 60 xs.length with h1 | h1
  · go_enter Tryd.func3, Tryd.ntmps3
    go_wp2_with fail
    refine (alive2_any _).mono ?_
    rintro e w1 ⟨rfl, hb1⟩
    go_wp2_with fail
    go_ret
    exact ⟨rfl, hb1⟩
  go_enter Tryd.func3, Tryd.ntmps3
  go_wp2_with fail
  refine (alive2_any _).mono ?_
  rintro e w1 ⟨rfl, hb1⟩
  replace ha := ha.out.below hb1
  have hlit := argB_lit w1 5 [r, 1] #[.int .u8 (r.toNat : Int), .int .u8 1] rfl (by simp)
  have hbl1 := (Below.refl w1.heap.size w1).alloc (Nat.le_refl _) (.cells #[.int .u8 (r.toNat : Int), .int .u8 1] 5)
  have hb2 := hb1.alloc hb1.size (.cells #[.int .u8 (r.toNat : Int), .int .u8 1] 5)
  replace ha := ha.below hbl1
  have hdiv := div_some a ca xs _ _ [r, 1] _ ha hlit (by omega) (by simp) (by rw [tlen_root]; decide)
  rw [tlen_root] at hdiv
  replace hdiv := Lib.hid hdiv
  replace ha := Lib.hid ha
  replace hb2 := Lib.hid hb2
  clear hb1 hbl1 hlit
  go_wp2_with fail
  refine hdiv.out.mono ?_
  rintro e w3 ⟨v1, v2, A, B, rfl, ho1, ho2, hb3, htA, htB, hlt, hcf, hlA, hlB⟩
  obtain ⟨a1, c1, rfl, hA, _⟩ := ho1.arg
  obtain ⟨a2, c2, rfl, hB, _⟩ := ho2.arg
  replace ha := Lib.hid (ha.out.below hb3)
  replace hb3 := Lib.hid (hb2.out.trans (hb3.mono hb2.out.size))
  have hsum : padd (pmul A [r, 1]) B = trim xs := by
    apply trim_ext
    intro i
    rw [cf_tab, hcf i]
    by_cases hi : i < max (pmul A [r, 1]).length B.length
    · rw [if_pos hi, cf_pmul, Gf.add_comm]
    · rw [if_neg hi, cf_ge (p := B) (by omega), Gf.zero_add, ← cf_pmul, cf_ge (by omega)]
  have hval : peval xs r = peval B r := by
    rw [← peval_trim xs, ← hsum, peval_padd, peval_pmul, peval_root, Gf.mul_zero, Gf.zero_add]
  have hB1 := trim_one htB (by omega)
  have hmem := zeros_mem xs r
  have hzl := zk_length xs 256
  have hlM := pmul_length A [r, 1]
  rw [show zk xs 256 = zerosOf xs from rfl] at hzl
  replace hsum := Lib.hid hsum
  clear ho1 ho2 hdiv hb2 hcf htA htB
  rcases hB1 with rfl | ⟨c, rfl, hc⟩
  all_goals
    have hBlen := hlt
    first
    | (have hv0 : peval xs r = 0 := hval; rw [hv0] at hmem; have hroot : decide (r ∈ zerosOf xs) = true := decide_eq_true (hmem.2 rfl); have hev := eval_any a ca xs r w3 ha.out.row (by omega); rw [hv0] at hev)
    | (have hv0 : peval xs r = c := (by rw [hval, peval_cons, peval_nil, Gf.mul_zero_left, Gf.zero_add]); rw [hv0] at hmem; have hroot : decide (r ∈ zerosOf xs) = false := decide_eq_false (fun h => hc (hmem.1 h)); have hev := eval_any a ca xs r w3 ha.out.row (by omega); rw [hv0] at hev; have hcz := u8_bne hc; have hcz2 := u8_ne hc; obtain ⟨bb, bo, rfl, hBc⟩ := hB.row 0 (by simp); rw [show [c].getD 0 0 = c from rfl, Nat.add_zero] at hBc)
    replace hev := Lib.hid hev
    replace hroot := Lib.hid hroot
    replace hB := Lib.hid hB
    replace hA := Lib.hid hA
    clear hmem hval
    go_wp2_with fail
    refine hev.out.mono ?_
    rintro e w4 ⟨rfl, hb4⟩
    replace ha := Lib.hid (ha.out.below hb4)
    replace hA := Lib.hid (hA.out.below hb4)
    (try replace hBc := (hb4.cell (World.block_lt_of_cell? _ _ hBc)).trans hBc)
    replace hB := Lib.hid (hB.out.below hb4)
    replace hb4 := Lib.hid (hb3.out.trans (hb4.mono hb3.out.size))
    clear hev
    go_wp2_with fail
    refine (zeros_any a ca xs _ ha.out (by omega)).mono ?_
    rintro e w5 ⟨v5, rfl, ho5, hb5⟩
    obtain ⟨a5, c5, rfl, hZ, _⟩ := ho5.arg
    replace ha := Lib.hid (ha.out.below hb5)
    replace hA := Lib.hid (hA.out.below hb5)
    replace hB := Lib.hid (hB.out.below hb5)
    replace hb5 := Lib.hid (hb4.out.trans (hb5.mono hb4.out.size))
    replace hZ := Lib.hid hZ
    clear ho5
    generalize zerosOf xs = Z at *
    go_wp2_with fail
    go_loop [9, 58] (fun b j => ∃ k : Nat, k ≤ Z.length ∧ j = .int .i64 k ∧ b = .bool (decide (r ∈ Z.take k))) (fun _ j => Z.length - (intOf j).toNat)
    case atStart => exact ⟨0, Nat.zero_le _, rfl, by simp⟩
    case round =>
      obtain ⟨k, hk, rfl, rfl⟩ := hrel
      by_cases hkk : k < Z.length
      · have hm := mem_take hkk r
        obtain ⟨zb, zo, rfl, cz⟩ := hZ.out.row k hkk
        rw [show Z.getD k 0 = cf Z k from rfl] at cz
        by_cases hin : r ∈ Z.take k
        · have hd : decide (r ∈ Z.take (k + 1)) = true := decide_eq_true (hm.2 (.inl hin))
          rw [decide_eq_true hin]
          replace hd := Lib.hid hd
          clear hm hin
          generalize cf Z k = x at *
          go_wp2_with fail
          exact ⟨⟨k + 1, by omega, by go_num, by rw [hd.out]⟩, by simp [intOf]; omega⟩
        · have hd : decide (r ∈ Z.take (k + 1)) = decide (cf Z k = r) := by
            by_cases hx : cf Z k = r
            · rw [decide_eq_true hx, decide_eq_true (hm.2 (.inr hx))]
            · rw [decide_eq_false hx, decide_eq_false (fun h => (hm.1 h).elim hin hx)]
          have hbq := u8_beq (cf Z k) r
          rw [← hd] at hbq
          rw [decide_eq_false hin]
          replace hd := Lib.hid hd
          clear hm hin
          generalize cf Z k = x at *
          generalize hD : decide (r ∈ Z.take (k + 1)) = D at *
          replace hD := Lib.hid hD
          go_wp2_with fail
          exact ⟨⟨k + 1, by omega, by go_num, by rw [hD.out]⟩, by simp [intOf]; omega⟩
      · obtain rfl : k = Z.length := by omega
        rw [List.take_length, hroot.out]
        have hlit := argB_lit w5 5 [r, 1] #[.int .u8 (r.toNat : Int), .int .u8 1] rfl (by simp)
        have hbl1 := (Below.refl w5.heap.size w5).alloc (Nat.le_refl _) (.cells #[.int .u8 (r.toNat : Int), .int .u8 1] 5)
        have hb6 := Lib.hid (hb5.out.alloc hb5.out.size (.cells #[.int .u8 (r.toNat : Int), .int .u8 1] 5))
        have hm1 := Lib.hid (pmul_any a1 c1 A _ _ [r, 1] _ (hA.out.below hbl1) hlit (by omega) (by simp))
        have hB6 := hB.out.below hbl1
        have ha6 := ha.out.below hbl1
        replace hB6 := Lib.hid hB6
        replace ha6 := Lib.hid ha6
        clear hlit hbl1
        go_wp2_with fail
        refine hm1.out.mono ?_
        rintro e w7 ⟨v7, rfl, ho7, hb7⟩
        obtain ⟨a7, c7, rfl, h7, _⟩ := ho7.arg
        have hs1 := padd_any a7 c7 (pmul A [r, 1]) _ c2 _ w7 h7 (hB6.out.below hb7) (by have h2 : [r, 1].length = 2 := rfl; omega) (by simp)
        rw [hsum.out] at hs1
        replace hs1 := Lib.hid hs1
        replace ha6 := Lib.hid (ha6.out.below hb7)
        replace hb7 := Lib.hid (hb6.out.trans (hb7.mono hb6.out.size))
        clear ho7 hm1
        go_wp2_with fail
        refine hs1.out.mono ?_
        rintro e w8 ⟨v8, rfl, ho8, hb8⟩
        obtain ⟨a8, c8, rfl, h8, _⟩ := ho8.arg
        have ha8 := ha6.out.below hb8
        replace hb8 := Lib.hid (hb7.out.trans (hb8.mono hb7.out.size))
        have k8 := convE h8 _ rfl
        replace h8 := Lib.hid h8
        replace ha8 := Lib.hid ha8
        clear ho8 hs1
        go_wp2_with fail
        refine wp_region_on (by kernel_rfl) (fun hOn => ?_)
        refine wpAnyH_take (i := 0) (v := ?_) (by simp only [List.getElem?_toArray, List.getElem?_cons_zero]; rfl) (by kernel_rfl) (by kernel_rfl) (by kernel_rfl) (by exact fun _ _ _ h => h) (Or.inl ⟨by rfl, ?_⟩) hOn ?_
        rotate_left
        focus (intro W hSW; go_simp; try with_reducible rfl)
        try simp only [Act.put, List.setIfInBounds_toArray, List.set_cons_zero, List.set_cons_succ]
        refine wpAnyH_take (i := 1) (v := ?_) (by simp only [List.getElem?_toArray, List.getElem?_cons_succ, List.getElem?_cons_zero]; rfl) (by kernel_rfl) (by kernel_rfl) (by kernel_rfl) (by exact fun _ _ _ h => h) (Or.inl ⟨by rfl, ?_⟩) hOn ?_
        rotate_left
        focus (intro W hSW; go_simp; try with_reducible rfl)
        try simp only [Act.put, List.setIfInBounds_toArray, List.set_cons_zero, List.set_cons_succ]
        refine wpAnyH_take (i := 2) (v := ?_) (by simp only [List.getElem?_toArray, List.getElem?_cons_succ, List.getElem?_cons_zero]; rfl) (by kernel_rfl) (by kernel_rfl) (by kernel_rfl) (by exact fun _ _ _ h => h) (Or.inl ⟨by rfl, ?_⟩) hOn ?_
        rotate_left
        focus (intro W hSW; go_simp; try with_reducible rfl)
        try simp only [Act.put, List.setIfInBounds_toArray, List.set_cons_zero, List.set_cons_succ]
        refine wpAnyH_take (i := 3) (v := ?_) (by simp only [List.getElem?_toArray, List.getElem?_cons_succ, List.getElem?_cons_zero]; rfl) (by kernel_rfl) (by kernel_rfl) (by kernel_rfl) (by exact fun _ _ _ h => h) (Or.inl ⟨by rfl, ?_⟩) hOn ?_
        rotate_left
        focus (intro W hSW; go_simp; try with_reducible rfl)
        try simp only [Act.put, List.setIfInBounds_toArray, List.set_cons_zero, List.set_cons_succ]
        refine wpAnyH_take (i := 4) (v := ?_) (by simp only [List.getElem?_toArray, List.getElem?_cons_succ, List.getElem?_cons_zero]; rfl) (by kernel_rfl) (by kernel_rfl) (by kernel_rfl) (by exact fun _ _ _ h => h) (Or.inl ⟨by rfl, ?_⟩) hOn ?_
        rotate_left
        focus (intro W hSW; go_simp; try with_reducible rfl)
        try simp only [Act.put, List.setIfInBounds_toArray, List.set_cons_zero, List.set_cons_succ]
        refine wpAnyH_take (i := 5) (v := ?_) (by simp only [List.getElem?_toArray, List.getElem?_cons_succ, List.getElem?_cons_zero]; rfl) (by kernel_rfl) (by kernel_rfl) (by kernel_rfl) (by exact fun _ _ _ h => h) (Or.inl ⟨by rfl, ?_⟩) hOn ?_
        rotate_left
        focus (intro W hSW; go_simp; try with_reducible rfl)
        try simp only [Act.put, List.setIfInBounds_toArray, List.set_cons_zero, List.set_cons_succ]
        refine wpAnyH_take (i := 6) (v := ?_) (by simp only [List.getElem?_toArray, List.getElem?_cons_succ, List.getElem?_cons_zero]; rfl) (by kernel_rfl) (by kernel_rfl) (by kernel_rfl) (by exact fun _ _ _ h => h) (Or.inl ⟨by rfl, ?_⟩) hOn ?_
        rotate_left
        focus (intro W hSW; go_simp; try with_reducible rfl)
        try simp only [Act.put, List.setIfInBounds_toArray, List.set_cons_zero, List.set_cons_succ]
        refine wpAnyH_take (i := 7) (v := ?_) (by simp only [List.getElem?_toArray, List.getElem?_cons_succ, List.getElem?_cons_zero]; rfl) (by kernel_rfl) (by kernel_rfl) (by kernel_rfl) (by exact fun _ _ _ h => h) (Or.inl ⟨by rfl, ?_⟩) hOn ?_
        rotate_left
        focus (intro W hSW; go_simp; try with_reducible rfl)
        try simp only [Act.put, List.setIfInBounds_toArray, List.set_cons_zero, List.set_cons_succ]
        refine wpAnyH_ready (rs := [8]) (by kernel_rfl) (by simp) ?_
        refine AllReadyH.cons (by simp only [List.getElem?_toArray, List.getElem?_cons_succ, List.getElem?_cons_zero]; rfl) (fun K hK => ?_) AllReadyH.nil
        go_simp
        refine (trim_any a ca xs _ (ha8.out.below hOn) (by omega)).mono ?_
        rintro e w9 ⟨v9, rfl, ho9, hnew⟩
        obtain ⟨a9, c9, rfl, h9, _⟩ := ho9.arg
        have hw9 := Lib.hid (Below.trans hOn (hnew.mono hOn.size))
        have k9 := convE h9 _ rfl
        have k10 := convE (h8.out.below hw9.out) _ rfl
        clear ho9 h9
        go_wp2_with fail
        refine hK.out _ _ (Grown.trans hOn hnew) (fun hNext => ?_)
        clear hK K hOn
        refine wpAnyH_onward hNext (fun hOn => ?_)
        clear hNext hnew
        try simp only [Act.put, List.setIfInBounds_toArray, List.set_cons_zero, List.set_cons_succ]
        refine wpAnyH_take (i := 9) (v := ?_) (by simp only [List.getElem?_toArray, List.getElem?_cons_succ, List.getElem?_cons_zero]; rfl) (by kernel_rfl) (by kernel_rfl) (by kernel_rfl) (by exact fun _ _ _ h => h) (Or.inl ⟨by rfl, ?_⟩) hOn ?_
        rotate_left
        focus (intro W hSW; go_simp; try with_reducible rfl)
        try simp only [Act.put, List.setIfInBounds_toArray, List.set_cons_zero, List.set_cons_succ]
        refine wpAnyH_take (i := 10) (v := ?_) (by simp only [List.getElem?_toArray, List.getElem?_cons_succ, List.getElem?_cons_zero]; rfl) (by kernel_rfl) (by kernel_rfl) (by kernel_rfl) (by exact fun _ _ _ h => h) (Or.inl ⟨by rfl, ?_⟩) hOn ?_
        rotate_left
        focus (intro W hSW; go_simp; try with_reducible rfl)
        try simp only [Act.put, List.setIfInBounds_toArray, List.set_cons_zero, List.set_cons_succ]
        refine wpAnyH_take (i := 11) (v := ?_) (by simp only [List.getElem?_toArray, List.getElem?_cons_succ, List.getElem?_cons_zero]; rfl) (by kernel_rfl) (by kernel_rfl) (by kernel_rfl) (by exact fun _ _ _ h => h) (Or.inl ⟨by rfl, ?_⟩) hOn ?_
        rotate_left
        focus (intro W hSW; go_simp; try with_reducible rfl)
        try simp only [Act.put, List.setIfInBounds_toArray, List.set_cons_zero, List.set_cons_succ]
        refine wpAnyH_take (i := 12) (v := ?_) (by simp only [List.getElem?_toArray, List.getElem?_cons_succ, List.getElem?_cons_zero]; rfl) (by kernel_rfl) (by kernel_rfl) (by kernel_rfl) (by exact fun _ _ _ h => h) (Or.inl ⟨by rfl, ?_⟩) hOn ?_
        rotate_left
        focus (intro W hSW; go_simp; try with_reducible rfl)
        try simp only [Act.put, List.setIfInBounds_toArray, List.set_cons_zero, List.set_cons_succ]
        refine wpAnyH_done (by kernel_rfl) ?_ _
        go_wp2_with fail
        go_ret
        exact ⟨rfl, hb8.out.trans (hw9.out.mono hb8.out.size)⟩

theorem rem_walk (a : Option Addr) (ca : Nat) (xs : List UInt8) (r : Int) (w : World) (ha : ArgB w a ca xs) (hr : (Lit.int .u8 r).wf = true) (z : Nat → Addr) (_ : Errs 66 [0] w z) :
    Calls Tryd.prog 3 #[.slice a xs.length ca, .int .u8 r] w fun e w' => e = .returned (.bool true) ∧ Below w.heap.size w w' := by
  have := rem_walk8 a ca xs (UInt8.ofNat r.toNat) w ha
  rw [u8_of_wf hr] at this
  exact this

end Go.Proofs.YtkoeejpiaffmfaaDoor
