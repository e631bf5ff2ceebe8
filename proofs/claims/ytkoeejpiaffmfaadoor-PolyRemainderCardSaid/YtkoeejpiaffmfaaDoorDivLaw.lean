/- The walk over PolyDivides. -/
import Derived.Test.YtkoeejpiaffmfaaDoorDiv
import Derived.Test.YtkoeejpiaffmfaaDoorRoots
import Derived.Test.YtkoeejpiaffmfaaDoorPolyRef
import Derived.Test.YtkoeejpiaffmfaaDoorPolyRAdd
import Derived.Test.YtkoeejpiaffmfaaDoorNum
import Derived.Test.YtkoeejpiaffmfaaDoorOnL
namespace Go.Proofs.YtkoeejpiaffmfaaDoor
open Go.RowKit

set_option maxHeartbeats 1000000 in
theorem div_zero (a : Option Addr) (ca : Nat) (xs : List UInt8) (b : Option Addr) (cb : Nat) (ys : List UInt8) (w : World) (hb : ArgB w b cb ys) (hy : ys.length ≤ 400000) (hq0 : tlen ys = 0) (z : Addr)
    (hz : w.cell? ⟨0, 0, none⟩ = some (.iface 66 (.pointer (some z)))) :
    Calls Tryd.prog 6 #[.slice a xs.length ca, .slice b ys.length cb] w fun e w' => e = .returned (.tuple #[.slice none 0 0, .slice none 0 0, .iface 66 (.pointer (some z))]) ∧ Below w.heap.size w w' := by
  go_enter Tryd.func6, Tryd.ntmps6
  go_wp2_with fail
  refine (trim_any b cb ys w hb (by omega)).mono ?_
  rintro e w1 ⟨v, rfl, ho, hb1⟩
  obtain ⟨b1, c1, rfl, hQ, hQb⟩ := ho.arg
  have hz1 := (hb1.cell (World.block_lt_of_cell? w _ hz)).trans hz
  rw [trim_length, hq0]
  replace hb1 := Lib.hid hb1
  clear hQ ho hQb hz
  go_wp2_with fail
  go_quiet (fail)
  go_wp2_with fail
  go_ret3
  exact ⟨rfl, below_drewN hb1.out _⟩

theorem ArgB.drew {w : World} {a : Option Addr} {c : Nat} {bs : List UInt8} (h : ArgB w a c bs) : ArgB w.drew a c bs := ⟨h.len, h.most, h.nil, h.row⟩
theorem ArgB.drewN {w : World} {a : Option Addr} {c : Nat} {bs : List UInt8} (h : ArgB w a c bs) (n : Nat) : ArgB (w.drewN n) a c bs := ⟨h.len, h.most, h.nil, h.row⟩
/-- string(b) of bytes. -/
theorem convB {w : World} {a : Option Addr} {c : Nat} {bs : List UInt8} (h : ArgB w a c bs) (n : Nat) (hn : bs.length = n) : (convert 22 9 (.slice a n c)).run Tryd.prog w = .ok (.string ⟨bs.toArray⟩) w := by
  subst hn
  exact conv_str bs Tryd.underlying22 Tryd.underlying5 Tryd.underlying9 h.row

theorem convE {w : World} {a : Option Addr} {c : Nat} {bs : List UInt8} (h : ArgB w a c bs) (n : Nat) (hn : bs.length = n) : ∀ W, Grown w W → (convert 22 9 (.slice a n c)).run Tryd.prog W = .ok (.string ⟨bs.toArray⟩) W :=
  fun _ hW => convB (h.below hW) n hn

set_option maxRecDepth 10000 in
set_option maxHeartbeats 8000000 in
theorem divides_walk (a : Option Addr) (ca : Nat) (xs : List UInt8) (b : Option Addr) (cb : Nat) (ys : List UInt8) (w : World) (ha : ArgB w a ca xs) (hb : ArgB w b cb ys) (ea : Nat → Addr) (hE : Errs 66 errGs w ea) :
    Calls Tryd.prog 4 #[.slice a xs.length ca, .slice b ys.length cb] w fun e w' => e = .returned (.bool true) ∧ Below w.heap.size w w' := by
  have hla : xs.length ≤ maxLen := Nat.le_trans ha.len ha.most
  have hlb : ys.length ≤ maxLen := Nat.le_trans hb.len hb.most
  replace ha := Lib.hid ha
  replace hb := Lib.hid hb
  replace hE := Lib.hid hE
  rcases Nat.lt_or_ge 80 xs.length with h1 | h1
  · go_enter Tryd.func4, Tryd.ntmps4
    go_wp2_with fail
    refine (alive2_any _).mono ?_
    rintro e w1 ⟨rfl, hb1⟩
    go_wp2_with fail
    go_ret
    exact ⟨rfl, hb1⟩
  rcases Nat.lt_or_ge 80 ys.length with h2 | h2
  · go_enter Tryd.func4, Tryd.ntmps4
    go_wp2_with fail
    refine (alive2_any _).mono ?_
    rintro e w1 ⟨rfl, hb1⟩
    go_wp2_with fail
    go_ret
    exact ⟨rfl, hb1⟩
  go_enter Tryd.func4, Tryd.ntmps4
  go_wp2_with fail
  refine (alive2_any _).mono ?_
  rintro e w1 ⟨rfl, hb1⟩
  replace ha := Lib.hid (ha.out.below hb1)
  replace hb := Lib.hid (hb.out.below hb1)
  replace hE := Lib.hid (hE.out.below hb1)
  replace hb1 := Lib.hid hb1
  go_wp2_with fail
  by_cases hq : tlen ys = 0
  · have hcell := num_cells hE.out
    refine (div_zero a ca xs b cb ys _ hb.out (by omega) hq (ea 19) (by exact hcell.2.2.2.2.2.2.2.2.2.2.2.2.2.2.2.2.2.2.2)).mono ?_
    rintro e w2 ⟨rfl, hb2⟩
    replace hb := Lib.hid (hb.out.below hb2)
    replace hE := Lib.hid (hE.out.below hb2)
    replace hb2 := Lib.hid (hb1.out.trans (hb2.mono hb1.out.size))
    clear hcell
    go_wp2_with fail
    refine (rtrim_any b cb ys _ hb.out (by omega)).mono ?_
    rintro e w3 ⟨v, rfl, ho, hb3⟩
    obtain ⟨b1, c1, rfl, hQ, _⟩ := ho.arg
    rw [trim_length, hq]
    replace hE := Lib.hid (hE.out.below hb3)
    replace hb3 := Lib.hid (hb2.out.trans (hb3.mono hb2.out.size))
    clear hQ ho
    go_wp2_with fail
    refine (num_err 19 (by decide) ea _ hE.out).mono ?_
    rintro e w4 ⟨rfl, hb4⟩
    replace hb4 := Lib.hid (hb3.out.trans (hb4.mono hb3.out.size))
    go_wp2_with fail
    go_ret
    exact ⟨rfl, hb4.out⟩
  · refine (div_some a ca xs b cb ys _ ha.out hb.out (by omega) (by omega) hq).mono ?_
    rintro e w2 ⟨v1, v2, A, B, rfl, ho1, ho2, hb2, htA, htB, hlt, hcf, hlA, hlB⟩
    obtain ⟨a1, c1, rfl, hA, _⟩ := ho1.arg
    obtain ⟨a2, c2, rfl, hB, _⟩ := ho2.arg
    replace ha := ha.out.below hb2
    replace hb := hb.out.below hb2
    replace hb2 := Lib.hid (hb1.out.trans (hb2.mono hb1.out.size))
    have hsum : padd (pmul A ys) B = trim xs := by
      apply trim_ext
      intro i
      rw [cf_tab, hcf i]
      by_cases hi : i < max (pmul A ys).length B.length
      · rw [if_pos hi, cf_pmul, Gf.add_comm]
      · rw [if_neg hi, cf_ge (p := B) (by omega), Gf.zero_add, ← cf_pmul, cf_ge (by omega)]
    have hlM := pmul_length A ys
    have hq' : ((tlen ys : Int) == 0) = false := by rw [beq_eq_false_iff_ne]; omega
    replace hb := Lib.hid hb
    replace ha := Lib.hid ha
    replace hA := Lib.hid hA
    replace hB := Lib.hid hB
    replace hcf := Lib.hid hcf
    replace hsum := Lib.hid hsum
    replace htA := Lib.hid htA
    replace htB := Lib.hid htB
    clear ho1 ho2 hE hb1
    go_wp2_with fail
    refine (rtrim_any b cb ys _ hb.out (by omega)).mono ?_
    rintro e w3 ⟨v, rfl, ho, hb3⟩
    obtain ⟨b3, c3, rfl, _, _⟩ := ho.arg
    rw [trim_length]
    replace ha := Lib.hid (ha.out.below hb3)
    replace hb := Lib.hid (hb.out.below hb3)
    replace hA := Lib.hid (hA.out.below hb3)
    replace hB := Lib.hid (hB.out.below hb3)
    replace hb3 := Lib.hid (hb2.out.trans (hb3.mono hb2.out.size))
    clear ho hb2
    generalize tlen ys = tl at *
    go_wp2_with fail
    -- the two trimmed forms
    have kA := convE hA.out _ rfl
    have kB := convE hB.out _ rfl
    refine wp_region_on (by kernel_rfl) (fun hOn => ?_)
    refine wpAnyH_take (i := 0) (v := ?_) (by simp only [List.getElem?_toArray, List.getElem?_cons_zero]; rfl) (by kernel_rfl) (by kernel_rfl) (by kernel_rfl) (by exact fun _ _ _ h => h) (Or.inl ⟨by rfl, ?_⟩) hOn ?_
    rotate_left
    focus (intro W hSW; go_simp; try with_reducible rfl)
    try simp only [Act.put, List.setIfInBounds_toArray, List.set_cons_zero, List.set_cons_succ]
    refine wpAnyH_take (i := 3) (v := ?_) (by simp only [List.getElem?_toArray, List.getElem?_cons_succ, List.getElem?_cons_zero]; rfl) (by kernel_rfl) (by kernel_rfl) (by kernel_rfl) (by exact fun _ _ _ h => h) (Or.inl ⟨by rfl, ?_⟩) hOn ?_
    rotate_left
    focus (intro W hSW; go_simp; try with_reducible rfl)
    try simp only [Act.put, List.setIfInBounds_toArray, List.set_cons_zero, List.set_cons_succ]
    refine wpAnyH_take (i := 4) (v := ?_) (by simp only [List.getElem?_toArray, List.getElem?_cons_succ, List.getElem?_cons_zero]; rfl) (by kernel_rfl) (by kernel_rfl) (by kernel_rfl) (by exact fun _ _ _ h => h) (Or.inl ⟨by rfl, ?_⟩) hOn ?_
    rotate_left
    focus (intro W hSW; go_simp; try with_reducible rfl)
    try simp only [Act.put, List.setIfInBounds_toArray, List.set_cons_zero, List.set_cons_succ]
    refine wpAnyH_ready (rs := [1]) (by kernel_rfl) (by simp) ?_
    refine AllReadyH.cons (by simp only [List.getElem?_toArray, List.getElem?_cons_succ, List.getElem?_cons_zero]; rfl) (fun K hK => ?_) AllReadyH.nil
    go_simp
    refine (rtrim_any a1 c1 A _ (hA.out.below hOn) (by omega)).mono ?_
    rw [htA.out]
    rintro e w4 ⟨v4, rfl, ho4, hnew⟩
    obtain ⟨a4, c4, rfl, h4, _⟩ := ho4.arg
    have hw4 := Lib.hid (Below.trans hOn (hnew.mono hOn.size))
    have kA4 := convE h4 _ rfl
    have kA5 := convE (hA.out.below hw4.out) _ rfl
    have kB4 := convE (hB.out.below hw4.out) _ rfl
    have hB4 := Lib.hid (hB.out.below hw4.out)
    clear ho4 h4 kA kB
    go_wp2_with fail
    refine hK.out _ _ (Grown.trans hOn hnew) (fun hNext => ?_)
    clear hK K hOn
    refine wpAnyH_onward hNext (fun hOn => ?_)
    clear hNext hnew
    try simp only [Act.put, List.setIfInBounds_toArray, List.set_cons_zero, List.set_cons_succ]
    refine wpAnyH_take (i := 2) (v := ?_) (by simp only [List.getElem?_toArray, List.getElem?_cons_succ, List.getElem?_cons_zero]; rfl) (by kernel_rfl) (by kernel_rfl) (by kernel_rfl) (by exact fun _ _ _ h => h) (Or.inl ⟨by rfl, ?_⟩) hOn ?_
    rotate_left
    focus (intro W hSW; go_simp; try with_reducible rfl)
    try simp only [Act.put, List.setIfInBounds_toArray, List.set_cons_zero, List.set_cons_succ]
    refine wpAnyH_take (i := 5) (v := ?_) (by simp only [List.getElem?_toArray, List.getElem?_cons_succ, List.getElem?_cons_zero]; rfl) (by kernel_rfl) (by kernel_rfl) (by kernel_rfl) (by exact fun _ _ _ h => h) (Or.inl ⟨by rfl, ?_⟩) hOn ?_
    rotate_left
    focus (intro W hSW; go_simp; try with_reducible rfl)
    try simp only [Act.put, List.setIfInBounds_toArray, List.set_cons_zero, List.set_cons_succ]
    refine wpAnyH_take (i := 6) (v := ?_) (by simp only [List.getElem?_toArray, List.getElem?_cons_succ, List.getElem?_cons_zero]; rfl) (by kernel_rfl) (by kernel_rfl) (by kernel_rfl) (by exact fun _ _ _ h => h) (Or.inl ⟨by rfl, ?_⟩) hOn ?_
    rotate_left
    focus (intro W hSW; go_simp; try with_reducible rfl)
    try simp only [Act.put, List.setIfInBounds_toArray, List.set_cons_zero, List.set_cons_succ]
    refine wpAnyH_take (i := 7) (v := ?_) (by simp only [List.getElem?_toArray, List.getElem?_cons_succ, List.getElem?_cons_zero]; rfl) (by kernel_rfl) (by kernel_rfl) (by kernel_rfl) (by exact fun _ _ _ h => h) (Or.inl ⟨by rfl, ?_⟩) hOn ?_
    rotate_left
    focus (intro W hSW; go_simp; try with_reducible rfl)
    try simp only [Act.put, List.setIfInBounds_toArray, List.set_cons_zero, List.set_cons_succ]
    refine wpAnyH_take (i := 10) (v := ?_) (by simp only [List.getElem?_toArray, List.getElem?_cons_succ, List.getElem?_cons_zero]; rfl) (by kernel_rfl) (by kernel_rfl) (by kernel_rfl) (by exact fun _ _ _ h => h) (Or.inl ⟨by rfl, ?_⟩) hOn ?_
    rotate_left
    focus (intro W hSW; go_simp; try with_reducible rfl)
    try simp only [Act.put, List.setIfInBounds_toArray, List.set_cons_zero, List.set_cons_succ]
    refine wpAnyH_take (i := 11) (v := ?_) (by simp only [List.getElem?_toArray, List.getElem?_cons_succ, List.getElem?_cons_zero]; rfl) (by kernel_rfl) (by kernel_rfl) (by kernel_rfl) (by exact fun _ _ _ h => h) (Or.inl ⟨by rfl, ?_⟩) hOn ?_
    rotate_left
    focus (intro W hSW; go_simp; try with_reducible rfl)
    try simp only [Act.put, List.setIfInBounds_toArray, List.set_cons_zero, List.set_cons_succ]
    refine wpAnyH_ready (rs := [8]) (by kernel_rfl) (by simp) ?_
    refine AllReadyH.cons (by simp only [List.getElem?_toArray, List.getElem?_cons_succ, List.getElem?_cons_zero]; rfl) (fun K hK => ?_) AllReadyH.nil
    go_simp
    refine (rtrim_any a2 c2 B _ (hB4.out.below hOn) (by omega)).mono ?_
    rw [htB.out]
    rintro e w5 ⟨v5, rfl, ho5, hnew⟩
    obtain ⟨a5, c5, rfl, h5, _⟩ := ho5.arg
    have hw5 := Lib.hid (Below.trans hOn (hnew.mono hOn.size))
    have kB5 := convE h5 _ rfl
    have kB6 := convE (hB4.out.below hw5.out) _ rfl
    clear ho5 h5
    go_wp2_with fail
    refine hK.out _ _ (Grown.trans hOn hnew) (fun hNext => ?_)
    clear hK K hOn
    refine wpAnyH_onward hNext (fun hOn => ?_)
    clear hNext hnew
    try simp only [Act.put, List.setIfInBounds_toArray, List.set_cons_zero, List.set_cons_succ]
    refine wpAnyH_take (i := 9) (v := ?_) (by simp only [List.getElem?_toArray, List.getElem?_cons_succ, List.getElem?_cons_zero]; rfl) (by kernel_rfl) (by kernel_rfl) (by kernel_rfl) (by exact fun _ _ _ h => h) (Or.inl ⟨by rfl, ?_⟩) hOn ?_
    rotate_left
    focus (intro W hSW; go_simp; try with_reducible rfl)
    try simp only [Act.put, List.setIfInBounds_toArray, List.set_cons_zero, List.set_cons_succ]
    refine wpAnyH_take (i := 12) (v := ?_) (by simp only [List.getElem?_toArray, List.getElem?_cons_succ, List.getElem?_cons_zero]; rfl) (by kernel_rfl) (by kernel_rfl) (by kernel_rfl) (by exact fun _ _ _ h => h) (Or.inl ⟨by rfl, ?_⟩) hOn ?_
    rotate_left
    focus (intro W hSW; go_simp; try with_reducible rfl)
    try simp only [Act.put, List.setIfInBounds_toArray, List.set_cons_zero, List.set_cons_succ]
    refine wpAnyH_take (i := 13) (v := ?_) (by simp only [List.getElem?_toArray, List.getElem?_cons_succ, List.getElem?_cons_zero]; rfl) (by kernel_rfl) (by kernel_rfl) (by kernel_rfl) (by exact fun _ _ _ h => h) (Or.inl ⟨by rfl, ?_⟩) hOn ?_
    rotate_left
    focus (intro W hSW; go_simp; try with_reducible rfl)
    try simp only [Act.put, List.setIfInBounds_toArray, List.set_cons_zero, List.set_cons_succ]
    refine wpAnyH_take (i := 14) (v := ?_) (by simp only [List.getElem?_toArray, List.getElem?_cons_succ, List.getElem?_cons_zero]; rfl) (by kernel_rfl) (by kernel_rfl) (by kernel_rfl) (by exact fun _ _ _ h => h) (Or.inl ⟨by rfl, ?_⟩) hOn ?_
    rotate_left
    focus (intro W hSW; go_simp; try with_reducible rfl)
    try simp only [Act.put, List.setIfInBounds_toArray, List.set_cons_zero, List.set_cons_succ]
    refine wpAnyH_done (by kernel_rfl) ?_ _
    have hg5 := Lib.hid (Below.trans hw4.out (hw5.out.mono hw4.out.size))
    replace ha := Lib.hid (ha.out.below hg5.out)
    replace hb := Lib.hid (hb.out.below hg5.out)
    replace hA := Lib.hid (hA.out.below hg5.out)
    replace hB := Lib.hid (hB.out.below hg5.out)
    replace hb3 := Lib.hid (Below.trans hb3.out (hg5.out.mono hb3.out.size))
    have hlt' : (B.length : Int) < (tl : Int) := by omega
    clear hg5 hw4 hw5 kA4 kA5 kB4 kB5 kB6 hB4
    go_wp2_with fail
    refine wp_region_on (by kernel_rfl) (fun hOn => ?_)
    refine wpAnyH_take (i := 0) (v := ?_) (by simp only [List.getElem?_toArray, List.getElem?_cons_zero]; rfl) (by kernel_rfl) (by kernel_rfl) (by kernel_rfl) (by exact fun _ _ _ h => h) (Or.inl ⟨by rfl, ?_⟩) hOn ?_
    rotate_left
    focus (intro W hSW; go_simp; try with_reducible rfl)
    try simp only [Act.put, List.setIfInBounds_toArray, List.set_cons_zero, List.set_cons_succ]
    refine wpAnyH_take (i := 1) (v := ?_) (by simp only [List.getElem?_toArray, List.getElem?_cons_succ, List.getElem?_cons_zero]; rfl) (by kernel_rfl) (by kernel_rfl) (by kernel_rfl) (by exact fun _ _ _ h => h) (Or.inl ⟨by rfl, ?_⟩) hOn ?_
    rotate_left
    focus (intro W hSW; go_simp; try with_reducible rfl)
    try simp only [Act.put, List.setIfInBounds_toArray, List.set_cons_zero, List.set_cons_succ]
    refine wpAnyH_take (i := 2) (v := ?_) (by simp only [List.getElem?_toArray, List.getElem?_cons_succ, List.getElem?_cons_zero]; rfl) (by kernel_rfl) (by kernel_rfl) (by kernel_rfl) (by exact fun _ _ _ h => h) (Or.inl ⟨by rfl, ?_⟩) hOn ?_
    rotate_left
    focus (intro W hSW; go_simp; try with_reducible rfl)
    try simp only [Act.put, List.setIfInBounds_toArray, List.set_cons_zero, List.set_cons_succ]
    refine wpAnyH_take (i := 3) (v := ?_) (by simp only [List.getElem?_toArray, List.getElem?_cons_succ, List.getElem?_cons_zero]; rfl) (by kernel_rfl) (by kernel_rfl) (by kernel_rfl) (by exact fun _ _ _ h => h) (Or.inl ⟨by rfl, ?_⟩) hOn ?_
    rotate_left
    focus (intro W hSW; go_simp; try with_reducible rfl)
    try simp only [Act.put, List.setIfInBounds_toArray, List.set_cons_zero, List.set_cons_succ]
    refine wpAnyH_take (i := 4) (v := ?_) (by simp only [List.getElem?_toArray, List.getElem?_cons_succ, List.getElem?_cons_zero]; rfl) (by kernel_rfl) (by kernel_rfl) (by kernel_rfl) (by exact fun _ _ _ h => h) (Or.inl ⟨by rfl, ?_⟩) hOn ?_
    rotate_left
    focus (intro W hSW; go_simp; try with_reducible rfl)
    try simp only [Act.put, List.setIfInBounds_toArray, List.set_cons_zero, List.set_cons_succ]
    refine wpAnyH_take (i := 5) (v := ?_) (by simp only [List.getElem?_toArray, List.getElem?_cons_succ, List.getElem?_cons_zero]; rfl) (by kernel_rfl) (by kernel_rfl) (by kernel_rfl) (by exact fun _ _ _ h => h) (Or.inl ⟨by rfl, ?_⟩) hOn ?_
    rotate_left
    focus (intro W hSW; go_simp; try with_reducible rfl)
    try simp only [Act.put, List.setIfInBounds_toArray, List.set_cons_zero, List.set_cons_succ]
    refine wpAnyH_take (i := 6) (v := ?_) (by simp only [List.getElem?_toArray, List.getElem?_cons_succ, List.getElem?_cons_zero]; rfl) (by kernel_rfl) (by kernel_rfl) (by kernel_rfl) (by exact fun _ _ _ h => h) (Or.inl ⟨by rfl, ?_⟩) hOn ?_
    rotate_left
    focus (intro W hSW; go_simp; try with_reducible rfl)
    try simp only [Act.put, List.setIfInBounds_toArray, List.set_cons_zero, List.set_cons_succ]
    refine wpAnyH_take (i := 7) (v := ?_) (by simp only [List.getElem?_toArray, List.getElem?_cons_succ, List.getElem?_cons_zero]; rfl) (by kernel_rfl) (by kernel_rfl) (by kernel_rfl) (by exact fun _ _ _ h => h) (Or.inl ⟨by rfl, ?_⟩) hOn ?_
    rotate_left
    focus (intro W hSW; go_simp; try with_reducible rfl)
    try simp only [Act.put, List.setIfInBounds_toArray, List.set_cons_zero, List.set_cons_succ]
    refine wpAnyH_take (i := 8) (v := ?_) (by simp only [List.getElem?_toArray, List.getElem?_cons_succ, List.getElem?_cons_zero]; rfl) (by kernel_rfl) (by kernel_rfl) (by kernel_rfl) (by exact fun _ _ _ h => h) (Or.inl ⟨by rfl, ?_⟩) hOn ?_
    rotate_left
    focus (intro W hSW; go_simp; try with_reducible rfl)
    try simp only [Act.put, List.setIfInBounds_toArray, List.set_cons_zero, List.set_cons_succ]
    refine wpAnyH_take (i := 9) (v := ?_) (by simp only [List.getElem?_toArray, List.getElem?_cons_succ, List.getElem?_cons_zero]; rfl) (by kernel_rfl) (by kernel_rfl) (by kernel_rfl) (by exact fun _ _ _ h => h) (Or.inl ⟨by rfl, ?_⟩) hOn ?_
    rotate_left
    focus (intro W hSW; go_simp; try with_reducible rfl)
    try simp only [Act.put, List.setIfInBounds_toArray, List.set_cons_zero, List.set_cons_succ]
    refine wpAnyH_take (i := 10) (v := ?_) (by simp only [List.getElem?_toArray, List.getElem?_cons_succ, List.getElem?_cons_zero]; rfl) (by kernel_rfl) (by kernel_rfl) (by kernel_rfl) (by exact fun _ _ _ h => h) (Or.inl ⟨by rfl, ?_⟩) hOn ?_
    rotate_left
    focus (intro W hSW; go_simp; try with_reducible rfl)
    try simp only [Act.put, List.setIfInBounds_toArray, List.set_cons_zero, List.set_cons_succ]
    refine wpAnyH_take (i := 11) (v := ?_) (by simp only [List.getElem?_toArray, List.getElem?_cons_succ, List.getElem?_cons_zero]; rfl) (by kernel_rfl) (by kernel_rfl) (by kernel_rfl) (by exact fun _ _ _ h => h) (Or.inl ⟨by rfl, ?_⟩) hOn ?_
    rotate_left
    focus (intro W hSW; go_simp; try with_reducible rfl)
    try simp only [Act.put, List.setIfInBounds_toArray, List.set_cons_zero, List.set_cons_succ]
    refine wpAnyH_take (i := 12) (v := ?_) (by simp only [List.getElem?_toArray, List.getElem?_cons_succ, List.getElem?_cons_zero]; rfl) (by kernel_rfl) (by kernel_rfl) (by kernel_rfl) (by exact fun _ _ _ h => h) (Or.inl ⟨by rfl, ?_⟩) hOn ?_
    rotate_left
    focus (intro W hSW; go_simp; try with_reducible rfl)
    try simp only [Act.put, List.setIfInBounds_toArray, List.set_cons_zero, List.set_cons_succ]
    refine wpAnyH_take (i := 13) (v := ?_) (by simp only [List.getElem?_toArray, List.getElem?_cons_succ, List.getElem?_cons_zero]; rfl) (by kernel_rfl) (by kernel_rfl) (by kernel_rfl) (by exact fun _ _ _ h => h) (Or.inl ⟨by rfl, ?_⟩) hOn ?_
    rotate_left
    focus (intro W hSW; go_simp; try with_reducible rfl)
    try simp only [Act.put, List.setIfInBounds_toArray, List.set_cons_zero, List.set_cons_succ]
    refine wpAnyH_take (i := 14) (v := ?_) (by simp only [List.getElem?_toArray, List.getElem?_cons_succ, List.getElem?_cons_zero]; rfl) (by kernel_rfl) (by kernel_rfl) (by kernel_rfl) (by exact fun _ _ _ h => h) (Or.inl ⟨by rfl, ?_⟩) hOn ?_
    rotate_left
    focus (intro W hSW; go_simp; try with_reducible rfl)
    try simp only [Act.put, List.setIfInBounds_toArray, List.set_cons_zero, List.set_cons_succ]
    refine wpAnyH_take (i := 16) (v := ?_) (by simp only [List.getElem?_toArray, List.getElem?_cons_succ, List.getElem?_cons_zero]; rfl) (by kernel_rfl) (by kernel_rfl) (by kernel_rfl) (by exact fun _ _ _ h => h) (Or.inl ⟨by rfl, ?_⟩) hOn ?_
    rotate_left
    focus (intro W hSW; go_simp; try with_reducible rfl)
    try simp only [Act.put, List.setIfInBounds_toArray, List.set_cons_zero, List.set_cons_succ]
    refine wpAnyH_take (i := 19) (v := ?_) (by simp only [List.getElem?_toArray, List.getElem?_cons_succ, List.getElem?_cons_zero]; rfl) (by kernel_rfl) (by kernel_rfl) (by kernel_rfl) (by exact fun _ _ _ h => h) (Or.inl ⟨by rfl, ?_⟩) hOn ?_
    rotate_left
    focus (intro W hSW; go_simp; try with_reducible rfl)
    try simp only [Act.put, List.setIfInBounds_toArray, List.set_cons_zero, List.set_cons_succ]
    refine wpAnyH_ready (rs := [15]) (by kernel_rfl) (by simp) ?_
    refine AllReadyH.cons (by simp only [List.getElem?_toArray, List.getElem?_cons_succ, List.getElem?_cons_zero]; rfl) (fun K hK => ?_) AllReadyH.nil
    go_simp
    refine (rmul_any a1 c1 A b cb ys _ (hA.out.below hOn) (hb.out.below hOn) (by omega) (by omega)).mono ?_
    rintro e w6 ⟨v6, rfl, ho6, hnew⟩
    obtain ⟨a6, c6, rfl, h6, _⟩ := ho6.arg
    have hw6 := Lib.hid (Below.trans hOn (hnew.mono hOn.size))
    replace h6 := Lib.hid h6
    clear ho6
    go_wp2_with fail
    refine hK.out _ _ (Grown.trans hOn hnew) (fun hNext => ?_)
    clear hK K hOn
    refine wpAnyH_onward hNext (fun hOn => ?_)
    clear hNext hnew
    try simp only [Act.put, List.setIfInBounds_toArray, List.set_cons_zero, List.set_cons_succ]
    refine wpAnyH_ready (rs := [17]) (by kernel_rfl) (by simp) ?_
    refine AllReadyH.cons (by simp only [List.getElem?_toArray, List.getElem?_cons_succ, List.getElem?_cons_zero]; rfl) (fun K hK => ?_) AllReadyH.nil
    go_simp
    refine (radd_any a6 c6 (pmul A ys) a2 c2 B _ (h6.out.below hOn) ((hB.out.below hw6.out).below hOn) (by omega) (by omega)).mono ?_
    rw [hsum.out]
    rintro e w7 ⟨v7, rfl, ho7, hnew⟩
    obtain ⟨a7, c7, rfl, h7, _⟩ := ho7.arg
    have hw7 := Lib.hid (Below.trans hOn (hnew.mono hOn.size))
    have kS7 := convE h7 _ rfl
    have ha7 := Lib.hid ((ha.out.below hw6.out).below hw7.out)
    replace h7 := Lib.hid h7
    clear ho7
    go_wp2_with fail
    refine hK.out _ _ (Grown.trans hOn hnew) (fun hNext => ?_)
    clear hK K hOn
    refine wpAnyH_onward hNext (fun hOn => ?_)
    clear hNext hnew
    try simp only [Act.put, List.setIfInBounds_toArray, List.set_cons_zero, List.set_cons_succ]
    refine wpAnyH_take (i := 18) (v := ?_) (by simp only [List.getElem?_toArray, List.getElem?_cons_succ, List.getElem?_cons_zero]; rfl) (by kernel_rfl) (by kernel_rfl) (by kernel_rfl) (by exact fun _ _ _ h => h) (Or.inl ⟨by rfl, ?_⟩) hOn ?_
    rotate_left
    focus (intro W hSW; go_simp; try with_reducible rfl)
    try simp only [Act.put, List.setIfInBounds_toArray, List.set_cons_zero, List.set_cons_succ]
    refine wpAnyH_ready (rs := [20]) (by kernel_rfl) (by simp) ?_
    refine AllReadyH.cons (by simp only [List.getElem?_toArray, List.getElem?_cons_succ, List.getElem?_cons_zero]; rfl) (fun K hK => ?_) AllReadyH.nil
    go_simp
    refine (rtrim_any a ca xs _ (ha7.out.below hOn) (by omega)).mono ?_
    rintro e w8 ⟨v8, rfl, ho8, hnew⟩
    obtain ⟨a8, c8, rfl, h8, _⟩ := ho8.arg
    have hw8 := Lib.hid (Below.trans hOn (hnew.mono hOn.size))
    have kS8 := convE h8 _ rfl
    have kS9 := convE (h7.out.below hw8.out) _ rfl
    clear ho8 h8
    go_wp2_with fail
    refine hK.out _ _ (Grown.trans hOn hnew) (fun hNext => ?_)
    clear hK K hOn
    refine wpAnyH_onward hNext (fun hOn => ?_)
    clear hNext hnew
    try simp only [Act.put, List.setIfInBounds_toArray, List.set_cons_zero, List.set_cons_succ]
    refine wpAnyH_take (i := 21) (v := ?_) (by simp only [List.getElem?_toArray, List.getElem?_cons_succ, List.getElem?_cons_zero]; rfl) (by kernel_rfl) (by kernel_rfl) (by kernel_rfl) (by exact fun _ _ _ h => h) (Or.inl ⟨by rfl, ?_⟩) hOn ?_
    rotate_left
    focus (intro W hSW; go_simp; try with_reducible rfl)
    try simp only [Act.put, List.setIfInBounds_toArray, List.set_cons_zero, List.set_cons_succ]
    refine wpAnyH_take (i := 22) (v := ?_) (by simp only [List.getElem?_toArray, List.getElem?_cons_succ, List.getElem?_cons_zero]; rfl) (by kernel_rfl) (by kernel_rfl) (by kernel_rfl) (by exact fun _ _ _ h => h) (Or.inl ⟨by rfl, ?_⟩) hOn ?_
    rotate_left
    focus (intro W hSW; go_simp; try with_reducible rfl)
    try simp only [Act.put, List.setIfInBounds_toArray, List.set_cons_zero, List.set_cons_succ]
    refine wpAnyH_take (i := 23) (v := ?_) (by simp only [List.getElem?_toArray, List.getElem?_cons_succ, List.getElem?_cons_zero]; rfl) (by kernel_rfl) (by kernel_rfl) (by kernel_rfl) (by exact fun _ _ _ h => h) (Or.inl ⟨by rfl, ?_⟩) hOn ?_
    rotate_left
    focus (intro W hSW; go_simp; try with_reducible rfl)
    try simp only [Act.put, List.setIfInBounds_toArray, List.set_cons_zero, List.set_cons_succ]
    refine wpAnyH_take (i := 24) (v := ?_) (by simp only [List.getElem?_toArray, List.getElem?_cons_succ, List.getElem?_cons_zero]; rfl) (by kernel_rfl) (by kernel_rfl) (by kernel_rfl) (by exact fun _ _ _ h => h) (Or.inl ⟨by rfl, ?_⟩) hOn ?_
    rotate_left
    focus (intro W hSW; go_simp; try with_reducible rfl)
    try simp only [Act.put, List.setIfInBounds_toArray, List.set_cons_zero, List.set_cons_succ]
    refine wpAnyH_done (by kernel_rfl) ?_ _
    go_wp2_with fail
    go_ret
    exact ⟨rfl, hb3.out.trans ((hw6.out.trans ((hw7.out.trans (hw8.out.mono hw7.out.size)).mono hw6.out.size)).mono hb3.out.size)⟩

end Go.Proofs.YtkoeejpiaffmfaaDoor
