/- Walks over poly.Scale, Shift, Low. -/
import Derived.Test.YtkoeejpiaffmfaaPolyAdd
namespace Go.Proofs.Ytkoeejpiaffmfaa
open Go.RowKit

/-- k numbers times c. -/
def scaleTo (p : List UInt8) (c : UInt8) (k j : Nat) : UInt8 := if j < k then Gf.mul (cf p j) c else cf p j
theorem scaleTo_step (p : List UInt8) (c : UInt8) (n k : Nat) : (tab n (scaleTo p c k)).set k (Gf.mul (cf p k) c) = tab n (scaleTo p c (k + 1)) := by
  apply List.ext_getElem (by simp [tab])
  intro j h1 h2
  simp only [List.getElem_set, tab, List.getElem_map, List.getElem_range]
  by_cases e : k = j
  · subst e
    rw [if_pos rfl]
    unfold scaleTo
    rw [if_pos (by omega)]
  · rw [if_neg e]
    unfold scaleTo
    by_cases h : j < k
    · rw [if_pos h, if_pos (by omega)]
    · rw [if_neg h, if_neg (by omega)]
theorem cf_scaleTo (p : List UInt8) (c : UInt8) (n k : Nat) (h : k < n) : cf (tab n (scaleTo p c k)) k = cf p k := by
  rw [cf_tab, if_pos h]
  unfold scaleTo
  rw [if_neg (by omega)]
theorem scale_full (p : List UInt8) (c : UInt8) : trim (tab p.length (scaleTo p c p.length)) = pmul p [c] := by
  rw [← show trim (pmul p [c]) = pmul p [c] from trim_trim _]
  apply trim_ext
  intro i
  rw [cf_tab, cf_pmul, conv_comm]
  have h : conv [c] p i = Gf.mul c (cf p i) := by
    cases i with
    | zero => rw [conv_cons_zero]
    | succ i =>
      rw [conv_cons_succ, show conv [] p i = 0 from xsum_zero' fun j _ => by rw [cf_ge (Nat.zero_le _), Gf.mul_zero_left], Gf.add_zero]
  rw [h, Gf.mul_comm]
  by_cases hi : i < p.length
  · rw [if_pos hi]; unfold scaleTo; rw [if_pos hi]
  · rw [if_neg hi, cf_ge (by omega), Gf.mul_zero_left]

set_option maxRecDepth 10000 in
set_option maxHeartbeats 2000000 in
theorem scale_any (a : Option Addr) (ca : Nat) (xs : List UInt8) (c : UInt8) (w : World) (ha : ArgB w a ca xs) (hx : xs.length ≤ 400000) :
    Calls Try.prog 22 #[.slice a xs.length ca, .int .u8 (c.toNat : Int)] w fun e w' => ∃ v, e = .returned v ∧ OwnB w.heap.size w' v (pmul xs [c]) ∧ Below w.heap.size w w' := by
  replace ha := Lib.hid ha
  have hfull := Lib.hid (scale_full xs c)
  go_enter Try.func22, Try.ntmps22
  go_wp2_with fail
  refine (make_any w).mono ?_
  rintro e w1 ⟨rfl, hb1, ht1⟩
  have hlt1 := ht1.lt
  have hz1 := hb1.size
  replace ha := Lib.hid (ha.out.below hb1)
  replace hb1 := Lib.hid hb1
  replace ht1 := Lib.hid ht1
  go_wp2_with fail
  refine (clone_any a ca xs w1 ha.out (by omega)).mono ?_
  rintro e w2 ⟨v, rfl, ho, hb2⟩
  have hstart : OwnB w1.heap.size w2 v (tab xs.length (scaleTo xs c 0)) := by
    rw [show tab xs.length (scaleTo xs c 0) = xs from by rw [show scaleTo xs c 0 = cf xs from funext fun j => by unfold scaleTo; rw [if_neg (by omega)]]; exact tab_cf xs]
    exact ho
  clear ho
  obtain ⟨ao, co, rfl, _, _⟩ := hstart.arg
  rw [tab_length] at hstart ⊢
  replace hstart := Lib.hid hstart
  replace hb2 := Lib.hid hb2
  go_wp2_with fail
  go_loopw [14] (fun j wr => ∃ k : Nat, k ≤ xs.length ∧ j = .int .i64 k ∧ OwnB w1.heap.size wr (.slice ao xs.length co) (tab xs.length (scaleTo xs c k)) ∧ Below w1.heap.size w1 wr)
    (fun j _ => xs.length - (intOf j).toNat)
  case atStart => exact ⟨0, Nat.zero_le _, rfl, hstart.out, hb2.out⟩
  case round =>
    clear hstart hb2
    obtain ⟨k, hk, rfl, hown, hbel⟩ := hrel
    have hsz := hbel.size
    replace hbel := Lib.hid hbel
    by_cases hlt : k < xs.length
    · obtain ⟨g, cc, hv, hg⟩ := hown.form (by rw [tab_length]; omega)
      rw [tab_length] at hv
      obtain ⟨rfl, rfl⟩ : ao = some ⟨g, 0, none⟩ ∧ co = cc := by simpa using hv
      clear hv
      have c1 := hown.cell (tab_length _ _).symm (j := k) (by omega)
      rw [cf_scaleTo _ _ _ _ (by omega)] at c1
      have f1 := hown.free (tab_length _ _).symm k
      have hset := hown.set (tab_length _ _).symm k (Gf.mul (cf xs k) c)
      rw [scaleTo_step] at hset
      have ht2 := ht1.out.below hbel.out hlt1
      replace hset := Lib.hid hset
      replace hown := Lib.hid hown
      replace ht2 := Lib.hid ht2
      have hP : (k : Int) < (xs.length : Int) := by omega
      generalize cf xs k = x at *
      go_wp2_with fail
      refine (tmul_any x c _ _ ht2.out).mono ?_
      rintro e w3 ⟨rfl, n, rfl⟩
      go_wp2_with fail
      go_roundw
      case rel => exact ⟨k + 1, by omega, by go_num, hset.out, (below_drewN hbel.out n).setCell (p := ⟨g, k, none⟩) hg _⟩
      case measure => simp [intOf]; omega
    · obtain rfl : k = xs.length := by omega
      obtain ⟨a2, c2, hv, harg, _⟩ := hown.arg
      rw [tab_length] at hv
      obtain ⟨rfl, rfl⟩ : ao = a2 ∧ co = c2 := by simpa using hv
      have hc := trim_any _ _ _ _ harg (by rw [tab_length]; omega)
      rw [hfull.out, tab_length] at hc
      replace hc := Lib.hid hc
      clear harg hown hv
      go_wp2_with fail
      refine hc.out.mono ?_
      rintro e w3 ⟨v, rfl, ho, hb3⟩
      replace ho := Lib.hid (ho.mono (Nat.le_trans hz1 hsz))
      have hb4 := Lib.hid (hb1.out.trans ((hbel.out.trans (hb3.mono hsz)).mono hz1))
      go_wp2_with fail
      go_ret
      exact ⟨_, rfl, ho.out, hb4.out⟩

end Go.Proofs.Ytkoeejpiaffmfaa
