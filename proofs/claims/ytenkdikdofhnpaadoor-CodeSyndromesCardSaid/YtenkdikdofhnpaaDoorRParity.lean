/- The walk over the reference's Parity: long division is the register. -/
import Derived.Test.YtenkdikdofhnpaaDoorParity
import Derived.Test.YtenkdikdofhnpaaDoorAppZ
namespace Go.Proofs.YtenkdikdofhnpaaDoor
open Go.RowKit

theorem reg_ge (G data : List UInt8) {k : Nat} (h : 32 ≤ k) : cf (regOf G data) k = 0 := cf_ge (by rw [regOf_length]; exact h)
/-- The row behind i rounds. -/
def longAt (G data : List UInt8) (i j : Nat) : UInt8 := if j < i then 0 else Gf.add (cf data j) (cf (regOf G (data.take i)) (j - i))
def longTo (G data : List UInt8) (i m j : Nat) : UInt8 := if j < i + m then longAt G data (i + 1) j else longAt G data i j
def byAt (G data : List UInt8) (i : Nat) : UInt8 := Gf.add (cf data i) (cf (regOf G (data.take i)) 0)
theorem longAt_here (G data : List UInt8) (i : Nat) : longAt G data i i = byAt G data i := by
  unfold longAt byAt; rw [if_neg (Nat.lt_irrefl i), Nat.sub_self]
theorem long_start (G data : List UInt8) : data ++ List.replicate 32 0 = tab (data.length + 32) (longAt G data 0) := by
  apply cf_ext (by simp [tab_length])
  intro j
  rw [cf_tab, cf_append]
  unfold longAt
  rw [if_neg (Nat.not_lt_zero j), List.take_zero, regOf_nil]
  have h0 : ∀ i, cf (tab 32 fun _ => 0) i = 0 := fun i => by rw [cf_tab]; split <;> rfl
  rw [h0, Gf.add_zero]
  have hz : ∀ i, cf (List.replicate 32 (0 : UInt8)) i = 0 := fun i => by
    rw [← tab_zero]; exact h0 i
  by_cases h : j < data.length
  · rw [if_pos h, if_pos (by omega)]
  · rw [if_neg h, hz]
    split
    · rw [cf_ge (by omega)]
    · rfl
theorem longTo_zero (G data : List UInt8) (i : Nat) : tab (data.length + 32) (longTo G data i 0) = tab (data.length + 32) (longAt G data i) := by
  refine tab_congr fun j _ => ?_
  unfold longTo
  by_cases h : j < i
  · rw [if_pos (by omega)]; unfold longAt; rw [if_pos (by omega), if_pos h]
  · rw [if_neg (by omega)]
theorem longTo_full (G data : List UInt8) (i : Nat) : tab (data.length + 32) (longTo G data i 33) = tab (data.length + 32) (longAt G data (i + 1)) := by
  refine tab_congr fun j _ => ?_
  unfold longTo
  by_cases h : j < i + 33
  · rw [if_pos h]
  · rw [if_neg h]
    unfold longAt
    rw [if_neg (by omega), if_neg (by omega), reg_ge _ _ (by omega), reg_ge _ _ (by omega)]
theorem long_new (G data : List UInt8) (i m : Nat) (hi : i < data.length) (hm : m ≤ 32) (hG : cf G 32 = 1) :
    Gf.add (longAt G data i (i + m)) (Gf.mul (byAt G data i) (cf G (32 - m))) = longAt G data (i + 1) (i + m) := by
  cases m with
  | zero =>
    rw [Nat.add_zero, Nat.sub_zero, longAt_here, hG, Gf.mul_one, Gf.add_self]
    unfold longAt; rw [if_pos (by omega)]
  | succ m =>
    unfold longAt
    rw [if_neg (by omega), if_neg (by omega), show i + (m + 1) - (i + 1) = m from by omega, show i + (m + 1) - i = m + 1 from by omega, regOf_take hi, regStep, cf_tab, if_pos (by omega), regAt, byAt, Gf.add_assoc]
    rw [show 32 - (m + 1) = 31 - m from by omega]
theorem longTo_next (G data : List UInt8) (i m : Nat) (hi : i < data.length) (hm : m ≤ 32) (hG : cf G 32 = 1) :
    (tab (data.length + 32) (longTo G data i m)).set (i + m) (Gf.add (longAt G data i (i + m)) (Gf.mul (byAt G data i) (cf G (32 - m)))) = tab (data.length + 32) (longTo G data i (m + 1)) := by
  rw [long_new G data i m hi hm hG, tab_set]
  refine tab_congr fun j _ => ?_
  unfold longTo
  by_cases h : j = i + m
  · subst h; rw [if_pos rfl, if_pos (by omega)]
  · rw [if_neg h]
    by_cases h2 : j < i + m
    · rw [if_pos h2, if_pos (by omega)]
    · rw [if_neg h2, if_neg (by omega)]
theorem longTo_at (G data : List UInt8) (i m : Nat) (hi : i < data.length) (hm : m ≤ 32) : cf (tab (data.length + 32) (longTo G data i m)) (i + m) = longAt G data i (i + m) := by
  rw [cf_tab, if_pos (by omega)]; unfold longTo; rw [if_neg (Nat.lt_irrefl _)]
/-- Nothing to take away: nothing turns. -/
theorem long_quiet (G data : List UInt8) (i : Nat) (hi : i < data.length) (hG : cf G 32 = 1) (h : byAt G data i = 0) : tab (data.length + 32) (longAt G data i) = tab (data.length + 32) (longAt G data (i + 1)) := by
  refine tab_congr fun j _ => ?_
  by_cases h1 : j < i
  · unfold longAt; rw [if_pos h1, if_pos (by omega)]
  · by_cases h2 : j ≤ i + 32
    · have := long_new G data i (j - i) hi (by omega) hG
      rw [h, Gf.mul_zero_left, Gf.add_zero, show i + (j - i) = j from by omega] at this
      exact this
    · unfold longAt
      rw [if_neg h1, if_neg (by omega), reg_ge _ _ (by omega), reg_ge _ _ (by omega)]
theorem long_end (G data : List UInt8) : (tab (data.length + 32) (longAt G data data.length)).drop data.length = regOf G data := by
  apply cf_ext (by rw [List.length_drop, tab_length, regOf_length]; omega)
  intro j
  rw [cf_drop, cf_tab]
  by_cases h : j < 32
  · rw [if_pos (by omega)]
    unfold longAt
    rw [if_neg (by omega), List.take_length, cf_ge (Nat.le_add_right _ _), Gf.zero_add, Nat.add_sub_cancel_left]
  · rw [if_neg (by omega), cf_ge (by rw [regOf_length]; omega)]

theorem OwnB.form0 {base : Nat} {w : World} {v : Value} {bs : List UInt8} (h : OwnB base w v bs) (hn : 0 < bs.length) : ∃ g c, v = .slice (some ⟨g, 0, none⟩) bs.length c ∧ base ≤ g := by
  rcases h.2 with ⟨_, hx⟩ | ⟨g, cap, cur, e1, e2, _⟩
  · rw [hx] at hn; exact absurd hn (by omega)
  · exact ⟨g, cap, e1, e2⟩

theorem u8_bne' {a : UInt8} (h : a ≠ 0) : ((a.toNat : Int) != 0) = true := by rw [bne, u8_ne h]; rfl

set_option maxRecDepth 10000 in
set_option maxHeartbeats 4000000 in
theorem rparity_any (a : Option Addr) (ca : Nat) (bs : List UInt8) (w : World) (ha : ArgB w a ca bs) (h1 : 1 ≤ bs.length) (h2 : bs.length ≤ 223) :
    Calls Tryd.prog 23 #[.slice a bs.length ca] w fun e w' => ∃ a' c', e = .returned (.tuple #[.slice a' 32 c', .int .i64 0]) ∧ ArgB w' a' c' (regOf genP bs) ∧ Below w.heap.size w w' := by
  have hGl := genP_length
  have hG1 := genP_one
  generalize hG : genP = G at *
  have ha := Lib.hid ha
  have hnil := Lib.hid (cB_length bs)
  go_enter Tryd.func23, Tryd.ntmps23
  go_wp2_with fail
  with_reducible refine (rgen_any _).mono ?_
  rintro e w1 ⟨v, rfl, ho, hb1⟩
  rw [hG] at ho
  obtain ⟨ag, cg, rfl, hg, _⟩ := ho.arg
  rw [hGl]
  have hs1 := hb1.size
  replace ha := Lib.hid (ha.out.below hb1)
  have hown0 := Lib.hid (owns_made0 w1 w1.heap.size (Nat.le_refl _))
  have hb2 := Lib.hid ((Below.refl w1.heap.size w1).alloc (Nat.le_refl _) (.cells #[] 5))
  have ha2 := Lib.hid (ha.out.below hb2.out)
  replace hg := Lib.hid hg
  replace hb1 := Lib.hid hb1
  clear ho
  go_wp2_with (at_builtin; first
    | go_must (refine wpB_app rfl (.tmp 18) (.tmp 19) rfl w1.heap.size _ [] rfl hown0 a ca bs _ rfl (Lib.hid rfl) ha2 (by simp) (by omega) (by simp) ?_))
  intro v1 w3 hown3 hb3
  have hs3 := hb3.out.size
  replace hb3 := Lib.hid (hb2.out.trans hb3.out)
  refine wpB_zeros rfl (.tmp 20) _ rfl w1.heap.size v1 bs 32 rfl rfl hown3 (by omega) (by omega) (by omega) (Nat.le_trans (Nat.le_refl _) hb3.out.size) ?_
  intro v2 w4 hown4 hb4
  have hrl : (bs ++ List.replicate 32 (0 : UInt8)).length = bs.length + 32 := by simp
  obtain ⟨gb, cb, rfl, hgs⟩ := hown4.out.form0 (by omega)
  rw [hrl] at hown4 ⊢
  rw [long_start G bs] at hown4
  replace hb4 := Lib.hid (hb3.out.trans hb4.out)
  have hsg := Lib.hid (show w.heap.size ≤ gb from by omega)
  clear hown3 hown0 hb3 ha2 hrl hb2
  go_wp2_with fail
  go_loopw [6, 7, 8, 24] (fun _ _ _ j wr => ∃ i : Nat, i ≤ bs.length ∧ j = .int .i64 i ∧ OwnB w1.heap.size wr (.slice (some ⟨gb, 0, none⟩) (bs.length + 32) cb) (tab (bs.length + 32) (longAt G bs i)) ∧ Below w1.heap.size w1 wr)
    (fun _ _ _ j _ => bs.length - (intOf j).toNat)
  case atStart => exact ⟨0, Nat.zero_le _, rfl, hown4.out, hb4.out⟩
  case round =>
    clear hown4 hb4
    obtain ⟨i, hi1, rfl, hrow, hbel⟩ := hrel
    by_cases hlt : i < bs.length
    · have c0 := hrow.cell (tab_length _ _).symm (j := i) (by omega)
      rw [cf_tab, if_pos (by omega), longAt_here] at c0
      by_cases hby : byAt G bs i = 0
      · rw [hby] at c0
        rw [long_quiet G bs i hlt hG1 hby] at hrow
        replace hrow := Lib.hid hrow
        replace hbel := Lib.hid hbel
        clear hby
        go_wp2_with fail
        go_loop [8] (fun j => ∃ m : Nat, m ≤ 33 ∧ j = .int .i64 m) (fun j => 33 - (intOf j).toNat)
        case atStart => exact ⟨0, Nat.zero_le _, rfl⟩
        case round =>
          obtain ⟨m, hm, rfl⟩ := hrel
          by_cases hmm : m ≤ 32
          · go_wp2_with fail
            exact ⟨⟨m + 1, by omega, by go_num⟩, by simp [intOf]; omega⟩
          · obtain rfl : m = 33 := by omega
            go_wp2_with fail
            go_roundw
            case rel => exact ⟨i + 1, by omega, by go_num, hrow.out, hbel.out⟩
            case measure => simp [intOf]; omega
      · have hne := u8_bne' hby
        obtain ⟨by1, hb1y⟩ : ∃ y, y = byAt G bs i := ⟨_, rfl⟩
        rw [← hb1y] at c0 hne hby
        rw [← longTo_zero] at hrow
        have hful := Lib.hid (longTo_full G bs i)
        have hrow := Lib.hid hrow
        have hbel := Lib.hid hbel
        replace hb1y := Lib.hid hb1y
        replace hby := Lib.hid hby
        have hne := Lib.hid hne
        go_wp2_with fail
        go_loopw [8] (fun j wq => ∃ m : Nat, m ≤ 33 ∧ j = .int .i64 m ∧ OwnB w1.heap.size wq (.slice (some ⟨gb, 0, none⟩) (bs.length + 32) cb) (tab (bs.length + 32) (longTo G bs i m)) ∧ Below w1.heap.size w1 wq)
          (fun j _ => 33 - (intOf j).toNat)
        case atStart => exact ⟨0, Nat.zero_le _, rfl, hrow.out, hbel.out⟩
        case round =>
          clear hrow hbel
          obtain ⟨m, hm, rfl, hq, hbq⟩ := hrel
          by_cases hmm : m ≤ 32
          · obtain ⟨gb2, go2, rfl, cg1⟩ := (hg.out.below hbq).row (32 - m) (by omega)
            rw [show G.getD (32 - m) 0 = cf G (32 - m) from rfl] at cg1
            have c1 := hq.cell (tab_length _ _).symm (j := i + m) (by omega)
            rw [longTo_at _ _ _ _ hlt hmm] at c1
            have f1 := hq.free (tab_length _ _).symm (i + m)
            have hnx := hq.set (tab_length _ _).symm (i + m) (Gf.add (longAt G bs i (i + m)) (Gf.mul by1 (cf G (32 - m))))
            rw [hb1y.out, longTo_next G bs i m hlt hmm hG1, ← hb1y.out] at hnx
            replace hnx := Lib.hid hnx
            replace hq := Lib.hid hq
            replace hbq := Lib.hid hbq
            have hne1 := hne.out
            generalize cf G (32 - m) = y at *
            generalize longAt G bs i (i + m) = x at *
            have hk1 : (32 : Int) - m < 33 := by omega
            have hk2 : (0 : Int) ≤ (32 : Int) - m := by omega
            have hk3 : ((32 : Int) - m).toNat = 32 - m := by omega
            have hk5 := IntWalk.i64_in ((32 : Int) - m) (by omega)
            have hj1 : (i : Int) + m < (bs.length : Int) + 32 := by omega
            have hj2 : (0 : Int) ≤ (i : Int) + m := by omega
            have hj3 : ((i : Int) + m).toNat = i + m := by omega
            have hj5 := IntWalk.i64_in ((i : Int) + m) (by omega)
            go_wp2_with fail
            go_region_with (go_at_call 34; refine (refmul_any by1 y _).mono ?_; rintro e w' ⟨rfl, rfl⟩)
            all_goals
              clear hk1 hk2 hk3 hk5 hj1 hj2 hj3 hj5
              go_wp2_with fail
              exact ⟨⟨m + 1, by omega, by go_num, by rw [xor_u8]; exact hnx.out, below_drewN (hbq.out.setCell (p := ⟨gb, i + m, none⟩) hgs _) _⟩, by simp [intOf]; omega⟩
          · obtain rfl : m = 33 := by omega
            rw [hful.out] at hq
            replace hq := Lib.hid hq
            replace hbq := Lib.hid hbq
            go_wp2_with fail
            go_roundw
            case rel => exact ⟨i + 1, by omega, by go_num, hq.out, hbq.out⟩
            case measure => simp [intOf]; omega
    · obtain rfl : i = bs.length := by omega
      obtain ⟨ao, co, hv, harg, _⟩ := hrow.arg
      rw [tab_length] at hv
      obtain ⟨rfl, rfl⟩ : some ⟨gb, 0, none⟩ = ao ∧ cb = co := by simpa using hv
      have hcap : bs.length + 32 ≤ cb := by have := harg.len; rw [tab_length] at this; exact this
      have hend := Lib.hid (long_end G bs)
      replace harg := Lib.hid harg
      replace hbel := Lib.hid (hb1.out.trans (hbel.mono hs1))
      clear hv hrow
      go_wp2_with fail
      go_ret2
      have hm := harg.out.most
      refine ⟨_, _, rfl, ⟨by rw [regOf_length]; omega, by omega, (fun e => by cases e), fun i hi => ?_⟩, hbel.out⟩
      rw [regOf_length] at hi
      obtain ⟨b2, o2, e, hc⟩ := harg.out.row (bs.length + i) (by rw [tab_length]; omega)
      cases e
      refine ⟨gb, bs.length, rfl, ?_⟩
      rw [Nat.zero_add] at hc
      rw [hc, ← hend.out]
      have := cf_drop (tab (bs.length + 32) (longAt G bs bs.length)) bs.length i
      unfold cf at this
      rw [this]

end Go.Proofs.YtenkdikdofhnpaaDoor
