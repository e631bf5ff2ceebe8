/- Walks over poly.Add; field.Add, field.Mul lie in the field's texts. -/
import Derived.Test.YtkoeejpiaffmfaaPolyApp
import Derived.Test.YtkoeejpiaffmfaaField
import Derived.Deep.AppendLies
namespace Go.Proofs.Ytkoeejpiaffmfaa
open Go.RowKit

/-- The sum behind k of the second list. -/
def sumTo (p q : List UInt8) (k j : Nat) : UInt8 := if j < k then Gf.add (cf p j) (cf q j) else cf p j
theorem sumTo_step (p q : List UInt8) (n k : Nat) : (tab n (sumTo p q k)).set k (Gf.add (cf p k) (cf q k)) = tab n (sumTo p q (k + 1)) := by
  apply List.ext_getElem (by simp [tab])
  intro j h1 h2
  simp only [List.getElem_set, tab, List.getElem_map, List.getElem_range]
  by_cases e : k = j
  · subst e
    rw [if_pos rfl]
    unfold sumTo
    rw [if_pos (by omega)]
  · rw [if_neg e]
    unfold sumTo
    by_cases h : j < k
    · rw [if_pos h, if_pos (by omega)]
    · rw [if_neg h, if_neg (by omega)]
theorem sumTo_full {p q : List UInt8} (h : q.length ≤ p.length) : trim (tab p.length (sumTo p q q.length)) = padd p q := by
  apply trim_ext
  intro i
  rw [cf_tab, cf_tab]
  by_cases hi : i < p.length
  · rw [if_pos hi, if_pos (by omega)]
    unfold sumTo
    split
    · rfl
    · rw [cf_ge (p := q) (by omega), Gf.add_zero]
  · rw [if_neg hi, if_neg (by omega)]
theorem padd_comm (p q : List UInt8) : padd p q = padd q p := by
  unfold padd
  rw [Nat.max_comm]
  congr 1
  exact tab_congr fun i _ => Gf.add_comm _ _
theorem cf_sumTo (p q : List UInt8) (n k : Nat) (h : k < n) : cf (tab n (sumTo p q k)) k = cf p k := by
  rw [cf_tab, if_pos h]
  unfold sumTo
  rw [if_neg (by omega)]

theorem OwnB.form {base : Nat} {w : World} {v : Value} {bs : List UInt8} (h : OwnB base w v bs) (hn : 0 < bs.length) : ∃ g c, v = .slice (some ⟨g, 0, none⟩) bs.length c ∧ base ≤ g := by
  rcases h.2 with ⟨_, hx⟩ | ⟨g, cap, cur, e1, e2, _⟩
  · rw [hx] at hn; exact absurd hn (by omega)
  · exact ⟨g, cap, e1, e2⟩

set_option maxRecDepth 10000 in
set_option maxHeartbeats 2000000 in
theorem add_ge (a : Option Addr) (ca : Nat) (xs : List UInt8) (b : Option Addr) (cb : Nat) (ys : List UInt8) (w : World) (ha : ArgB w a ca xs) (hb : ArgB w b cb ys) (hlen : ys.length ≤ xs.length) (hx : xs.length ≤ 400000) (hy : ys.length ≤ 400000) :
    Calls Try.prog 16 #[.slice a xs.length ca, .slice b ys.length cb] w fun e w' => ∃ v, e = .returned v ∧ OwnB w.heap.size w' v (padd xs ys) ∧ Below w.heap.size w w' := by
  replace ha := Lib.hid ha
  replace hb := Lib.hid hb
  have hfull := Lib.hid (sumTo_full (p := xs) (q := ys) (by omega))
  go_enter Try.func16, Try.ntmps16
  go_wp2_with fail
  refine (clone_any a ca xs w ha.out (by omega)).mono ?_
  rintro e w1 ⟨v, rfl, ho, hb1⟩
  replace hb1 := Lib.hid hb1
  have hstart : OwnB w.heap.size w1 v (tab xs.length (sumTo xs ys 0)) := by
    rw [show tab xs.length (sumTo xs ys 0) = xs from by rw [show sumTo xs ys 0 = cf xs from funext fun j => by unfold sumTo; rw [if_neg (by omega)]]; exact tab_cf xs]
    exact ho
  clear ho
  replace hstart := Lib.hid hstart
  go_wp2_with fail
  go_loopw [19] (fun j wr => ∃ k : Nat, k ≤ ys.length ∧ j = .int .i64 k ∧ OwnB w.heap.size wr v (tab xs.length (sumTo xs ys k)) ∧ Below w.heap.size w wr)
    (fun j _ => ys.length - (intOf j).toNat)
  case atStart => exact ⟨0, Nat.zero_le _, rfl, hstart.out, hb1.out⟩
  case round =>
    clear hstart hb1
    obtain ⟨k, hk, rfl, hown, hbel⟩ := hrel
    have hsz := hbel.size
    replace hbel := Lib.hid hbel
    by_cases hlt : k < ys.length
    · obtain ⟨yb, yo, rfl, cy⟩ := (hb.out.below hbel.out).row k hlt
      rw [show ys.getD k 0 = cf ys k from rfl] at cy
      obtain ⟨g, c, rfl, hg⟩ := hown.form (by rw [tab_length]; omega)
      rw [tab_length] at hown ⊢
      have c1 := hown.cell (tab_length _ _).symm (j := k) (by omega)
      rw [cf_sumTo _ _ _ _ (by omega)] at c1
      have f1 := hown.free (tab_length _ _).symm k
      have hset := hown.set (tab_length _ _).symm k (Gf.add (cf xs k) (cf ys k))
      rw [sumTo_step] at hset
      replace hset := Lib.hid hset
      replace hown := Lib.hid hown
      have hP : (k : Int) < (xs.length : Int) := by omega
      generalize cf xs k = x at *
      generalize cf ys k = y at *
      go_wp2_with fail
      refine (add_any x y _).mono ?_
      rintro e w3 ⟨rfl, rfl⟩
      go_wp2_with fail
      go_roundw
      case rel => exact ⟨k + 1, by omega, by go_num, hset.out, hbel.out.setCell (p := ⟨g, k, none⟩) hg _⟩
      case measure => simp [intOf]; omega
    · obtain rfl : k = ys.length := by omega
      obtain ⟨ao, co, rfl, harg, _⟩ := hown.arg
      have hc := trim_any _ _ _ _ harg (by rw [tab_length]; omega)
      rw [hfull.out, tab_length] at hc
      rw [tab_length]
      replace hc := Lib.hid hc
      clear harg hown
      go_wp2_with fail
      refine hc.out.mono ?_
      rintro e w3 ⟨v, rfl, ho, hb3⟩
      replace ho := Lib.hid (ho.mono hsz)
      have hb4 := Lib.hid (hbel.out.trans (hb3.mono hsz))
      go_wp2_with fail
      go_ret
      exact ⟨_, rfl, ho.out, hb4.out⟩

set_option maxRecDepth 10000 in
set_option maxHeartbeats 2000000 in
theorem add_lt (a : Option Addr) (ca : Nat) (xs : List UInt8) (b : Option Addr) (cb : Nat) (ys : List UInt8) (w : World) (ha : ArgB w a ca xs) (hb : ArgB w b cb ys) (hlen : xs.length < ys.length) (hx : xs.length ≤ 400000) (hy : ys.length ≤ 400000) :
    Calls Try.prog 16 #[.slice a xs.length ca, .slice b ys.length cb] w fun e w' => ∃ v, e = .returned v ∧ OwnB w.heap.size w' v (padd ys xs) ∧ Below w.heap.size w w' := by
  replace ha := Lib.hid ha
  replace hb := Lib.hid hb
  have hfull := Lib.hid (sumTo_full (p := ys) (q := xs) (by omega))
  go_enter Try.func16, Try.ntmps16
  go_wp2_with fail
  refine (clone_any b cb ys w hb.out (by omega)).mono ?_
  rintro e w1 ⟨v, rfl, ho, hb1⟩
  replace hb1 := Lib.hid hb1
  have hstart : OwnB w.heap.size w1 v (tab ys.length (sumTo ys xs 0)) := by
    rw [show tab ys.length (sumTo ys xs 0) = ys from by rw [show sumTo ys xs 0 = cf ys from funext fun j => by unfold sumTo; rw [if_neg (by omega)]]; exact tab_cf ys]
    exact ho
  clear ho
  replace hstart := Lib.hid hstart
  go_wp2_with fail
  go_loopw [19] (fun j wr => ∃ k : Nat, k ≤ xs.length ∧ j = .int .i64 k ∧ OwnB w.heap.size wr v (tab ys.length (sumTo ys xs k)) ∧ Below w.heap.size w wr)
    (fun j _ => xs.length - (intOf j).toNat)
  case atStart => exact ⟨0, Nat.zero_le _, rfl, hstart.out, hb1.out⟩
  case round =>
    clear hstart hb1
    obtain ⟨k, hk, rfl, hown, hbel⟩ := hrel
    have hsz := hbel.size
    replace hbel := Lib.hid hbel
    by_cases hlt : k < xs.length
    · obtain ⟨yb, yo, rfl, cy⟩ := (ha.out.below hbel.out).row k hlt
      rw [show xs.getD k 0 = cf xs k from rfl] at cy
      obtain ⟨g, c, rfl, hg⟩ := hown.form (by rw [tab_length]; omega)
      rw [tab_length] at hown ⊢
      have c1 := hown.cell (tab_length _ _).symm (j := k) (by omega)
      rw [cf_sumTo _ _ _ _ (by omega)] at c1
      have f1 := hown.free (tab_length _ _).symm k
      have hset := hown.set (tab_length _ _).symm k (Gf.add (cf ys k) (cf xs k))
      rw [sumTo_step] at hset
      replace hset := Lib.hid hset
      replace hown := Lib.hid hown
      have hP : (k : Int) < (ys.length : Int) := by omega
      generalize cf ys k = x at *
      generalize cf xs k = y at *
      go_wp2_with fail
      refine (add_any x y _).mono ?_
      rintro e w3 ⟨rfl, rfl⟩
      go_wp2_with fail
      go_roundw
      case rel => exact ⟨k + 1, by omega, by go_num, hset.out, hbel.out.setCell (p := ⟨g, k, none⟩) hg _⟩
      case measure => simp [intOf]; omega
    · obtain rfl : k = xs.length := by omega
      obtain ⟨ao, co, rfl, harg, _⟩ := hown.arg
      have hc := trim_any _ _ _ _ harg (by rw [tab_length]; omega)
      rw [hfull.out, tab_length] at hc
      rw [tab_length]
      replace hc := Lib.hid hc
      clear harg hown
      go_wp2_with fail
      refine hc.out.mono ?_
      rintro e w3 ⟨v, rfl, ho, hb3⟩
      replace ho := Lib.hid (ho.mono hsz)
      have hb4 := Lib.hid (hbel.out.trans (hb3.mono hsz))
      go_wp2_with fail
      go_ret
      exact ⟨_, rfl, ho.out, hb4.out⟩

theorem padd_any (a : Option Addr) (ca : Nat) (xs : List UInt8) (b : Option Addr) (cb : Nat) (ys : List UInt8) (w : World) (ha : ArgB w a ca xs) (hb : ArgB w b cb ys) (hx : xs.length ≤ 400000) (hy : ys.length ≤ 400000) :
    Calls Try.prog 16 #[.slice a xs.length ca, .slice b ys.length cb] w fun e w' => ∃ v, e = .returned v ∧ OwnB w.heap.size w' v (padd xs ys) ∧ Below w.heap.size w w' := by
  rcases Nat.lt_or_ge xs.length ys.length with h | h
  · rw [padd_comm]
    exact add_lt a ca xs b cb ys w ha hb h hx hy
  · exact add_ge a ca xs b cb ys w ha hb h hx hy

end Go.Proofs.Ytkoeejpiaffmfaa
