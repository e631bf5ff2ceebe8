/- Walks over poly.Shift, Low. -/
import Derived.Test.YtkoeejpiaffmfaaPolyAdd
namespace Go.Proofs.Ytkoeejpiaffmfaa
open Go.RowKit

set_option maxRecDepth 10000 in
set_option maxHeartbeats 2000000 in
theorem shift_any (a : Option Addr) (ca : Nat) (xs : List UInt8) (n : Int) (k : Nat) (hk : (n < 0 ∧ k = 0) ∨ (0 ≤ n ∧ n ≤ 1000 ∧ n = (k : Int)) ∨ (1000 < n ∧ k = 1000)) (w : World) (ha : ArgB w a ca xs) (hx : xs.length ≤ 400000) :
    Calls Try.prog 23 #[.slice a xs.length ca, .int .i64 n] w fun e w' => ∃ v, e = .returned v ∧ OwnB w.heap.size w' v (trim ((tab k fun _ => 0) ++ xs)) ∧ Below w.heap.size w w' := by
  obtain ⟨i0, hi, hz0, hz1, hz2⟩ := info_parts Try.infoByteP
  have hk1 : k ≤ 1000 := by omega
  have hkl : ((tab k fun _ => 0) ++ xs).length = k + xs.length := by rw [List.length_append, tab_length]
  replace ha := Lib.hid ha
  replace hkl := Lib.hid hkl
  have htl := Lib.hid (tab_length k (fun _ => (0 : UInt8)))
  replace hk : (n < 0 ∧ k ≤ 0) ∨ (0 ≤ n ∧ n ≤ 1000 ∧ n = (k : Int)) ∨ (1000 < n ∧ 1000 ≤ k) := by omega
  rcases hk with ⟨h1, h2⟩ | ⟨h1, h2, rfl⟩ | ⟨h1, h2⟩
  all_goals
    (try have hf2 : ¬ n < 0 := by omega)
    (try have hf3 : ¬ (1000 : Int) < n := by omega)
    (try have hf4 : ¬ n < (1000 : Int) := by omega)
    go_enter Try.func23, Try.ntmps23
    go_wp2_with (at_make; go_must (refine wpList_make_full _ rfl _ _ 22 rfl w.heap.size 5 i0 (.int .u8 0) 1 Try.underlying22 hi hz0 hz1 _ _ _ _ k rfl rfl (by omega) (by omega) (by rw [hz2]; omega) (by unfold maxLen; omega) (Nat.le_refl _) ?_))
    intro w2 hown2 hg2
    have hown := Lib.hid (OwnB.made hown2)
    have hb2 := Lib.hid ((Below.refl w.heap.size w).grown hg2 (Nat.le_refl _) (fun k hk => by cases hk))
    have ha2 := Lib.hid (ha.out.below hb2.out)
    have hsz2 := hb2.out.size
    clear hown2 hg2
    go_wp2_with (at_builtin; go_must (refine wpB_app rfl (.tmp 8) (.tmp 9) rfl w.heap.size _ (tab k fun _ => 0) rfl hown a ca xs xs.length rfl (Lib.hid rfl) ha2 (by rw [htl.out]; omega) (by omega) hsz2 ?_))
    intro v' w3 ho3 hb3
    have hsz3 := hb3.out.size
    obtain ⟨a3, c3, rfl, h3, _⟩ := ho3.out.arg
    have hc := trim_any _ _ _ _ h3 (by rw [hkl.out]; omega)
    rw [hkl.out] at hc ⊢
    replace hc := Lib.hid hc
    have hb4 := Lib.hid (hb2.out.trans hb3.out)
    have hsz4 := hb4.out.size
    clear h3 ho3
    go_wp2_with fail
    refine hc.out.mono ?_
    rintro e w4 ⟨v, rfl, ho4, hb5⟩
    replace ho4 := Lib.hid (ho4.mono hsz4)
    replace hb5 := Lib.hid (hb4.out.trans (hb5.mono hsz4))
    go_wp2_with fail
    go_ret
    exact ⟨_, rfl, ho4.out, hb5.out⟩

theorem ArgB.cut {w : World} {a : Option Addr} {c : Nat} {bs : List UInt8} (h : ArgB w a c bs) (k : Nat) : ArgB w a c (bs.take k) := by
  refine ⟨Nat.le_trans (by simp; omega) h.len, h.most, h.nil, At.toB ?_⟩
  have := (At.ofB h.row).take k
  rw [show cB (bs.take k) = (cB bs).take k from by simp [cB]]
  exact this

set_option maxRecDepth 10000 in
set_option maxHeartbeats 2000000 in
theorem low_any (a : Option Addr) (ca : Nat) (xs : List UInt8) (n : Int) (k : Nat) (hk : (n < 0 ∧ k ≤ 0) ∨ (0 ≤ n ∧ n ≤ xs.length ∧ n = (k : Int)) ∨ ((xs.length : Int) < n ∧ xs.length ≤ k ∧ k ≤ xs.length)) (w : World) (ha : ArgB w a ca xs) (hx : xs.length ≤ 400000) :
    Calls Try.prog 24 #[.slice a xs.length ca, .int .i64 n] w fun e w' => ∃ v, e = .returned v ∧ OwnB w.heap.size w' v (trim (xs.take k)) ∧ Below w.heap.size w w' := by
  have hcap := ha.len
  have hk1 : k ≤ xs.length := by omega
  have hc := trim_any _ _ _ _ (ha.cut k) (by simp; omega)
  rw [show (xs.take k).length = k from by simp; omega] at hc
  replace ha := Lib.hid ha
  rcases hk with ⟨h1, h2⟩ | ⟨h1, h2, rfl⟩ | ⟨h1, h2, h3⟩
  · obtain rfl : k = 0 := by omega
    replace hc := Lib.hid hc
    have hf3 : ¬ (xs.length : Int) < 0 := by omega
    have hf4 : (0 : Int) ≤ xs.length := by omega
    go_enter Try.func24, Try.ntmps24
    go_wp2_with fail
    refine hc.out.mono ?_
    rintro e w4 ⟨v, rfl, ho4, hb5⟩
    replace ho4 := Lib.hid ho4
    replace hb5 := Lib.hid hb5
    go_wp2_with fail
    go_ret
    exact ⟨_, rfl, ho4.out, hb5.out⟩
  · replace hc := Lib.hid hc
    have hf2 : ¬ (k : Int) < 0 := by omega
    have hf3 : ¬ (xs.length : Int) < k := by omega
    go_enter Try.func24, Try.ntmps24
    go_wp2_with fail
    refine hc.out.mono ?_
    rintro e w4 ⟨v, rfl, ho4, hb5⟩
    replace ho4 := Lib.hid ho4
    replace hb5 := Lib.hid hb5
    go_wp2_with fail
    go_ret
    exact ⟨_, rfl, ho4.out, hb5.out⟩
  · obtain rfl : k = xs.length := by omega
    replace hc := Lib.hid hc
    have hf2 : ¬ n < 0 := by omega
    have hf4 : ¬ n < (xs.length : Int) := by omega
    go_enter Try.func24, Try.ntmps24
    go_wp2_with fail
    refine hc.out.mono ?_
    rintro e w4 ⟨v, rfl, ho4, hb5⟩
    replace ho4 := Lib.hid ho4
    replace hb5 := Lib.hid hb5
    go_wp2_with fail
    go_ret
    exact ⟨_, rfl, ho4.out, hb5.out⟩

end Go.Proofs.Ytkoeejpiaffmfaa
