/- Walks over poly.Mul. -/
import Derived.Test.YtenkdikdofhnpaaDoorPoly1
import Derived.Test.YtenkdikdofhnpaaDoorPolyRow
import Derived.Test.YtenkdikdofhnpaaDoorMake
import Derived.Deep.RegionWith
import Derived.IntWalk
namespace Go.Proofs.YtenkdikdofhnpaaDoor
open Go.RowKit

theorem OwnB.cell {base g n cap : Nat} {w : World} {bs : List UInt8} (h : OwnB base w (.slice (some ⟨g, 0, none⟩) n cap) bs) (hn : n = bs.length) {j : Nat} (hj : j < n) : w.cell? ⟨g, j, none⟩ = some (.int .u8 ((cf bs j).toNat : Int)) := by
  subst hn
  have := World.ownsRow.cellAt h j (by omega)
  rw [this]
  simp [cB, cf, hj]
theorem OwnB.free {base g n cap : Nat} {w : World} {bs : List UInt8} (h : OwnB base w (.slice (some ⟨g, 0, none⟩) n cap) bs) (hn : n = bs.length) (j : Nat) : w.frozen? ⟨g, j, none⟩ = false := by
  subst hn
  exact World.ownsRow.frozenAt h j
theorem OwnB.set {base g n cap : Nat} {w : World} {bs : List UInt8} (h : OwnB base w (.slice (some ⟨g, 0, none⟩) n cap) bs) (hn : n = bs.length) (j : Nat) (x : UInt8) : OwnB base (w.setCell ⟨g, j, none⟩ (.int .u8 (x.toNat : Int))) (.slice (some ⟨g, 0, none⟩) n cap) (bs.set j x) := by
  subst hn
  have := (World.ownsRow.stored h j (.int .u8 (x.toNat : Int))).1
  unfold OwnB
  rw [List.length_set, show cB (bs.set j x) = (cB bs).set j (.int .u8 (x.toNat : Int)) from by simp [cB, List.map_set]]
  exact this
theorem OwnB.made {base g n cap : Nat} {w : World} (h : w.ownsRow base 5 1 (.slice (some ⟨g, 0, none⟩) n cap) n (madeCells #[Value.int .u8 0] n).toList) : OwnB base w (.slice (some ⟨g, 0, none⟩) n cap) (tab n fun _ => 0) := by
  unfold OwnB
  rw [tab_length, tab_zero]
  rw [show cB (List.replicate n 0) = (madeCells #[Value.int .u8 0] n).toList from by rw [toList_madeCells_one]; simp [cB]]
  exact h

set_option maxRecDepth 10000 in
set_option maxHeartbeats 2000000 in
theorem pmul_any (a : Option Addr) (ca : Nat) (xs : List UInt8) (b : Option Addr) (cb : Nat) (ys : List UInt8) (w : World) (ha : ArgB w a ca xs) (hb : ArgB w b cb ys) (hx : xs.length ≤ 400000) (hy : ys.length ≤ 400000) :
    Calls Tryd.prog 43 #[.slice a xs.length ca, .slice b ys.length cb] w fun e w' => ∃ v, e = .returned v ∧ OwnB w.heap.size w' v (pmul xs ys) ∧ Below w.heap.size w w' := by
  obtain ⟨i0, hi, hz0, hz1, hz2⟩ := info_parts Tryd.infoByteP
  replace ha := Lib.hid ha
  replace hb := Lib.hid hb
  go_enter Tryd.func43, Tryd.ntmps43
  go_wp2_with fail
  refine (make_any w).mono ?_
  rintro e w1 ⟨rfl, hb1, ht1⟩
  have ha1 := Lib.hid (ha.out.below hb1)
  have hb1' := Lib.hid (hb.out.below hb1)
  have hlt1 := ht1.lt
  have hsz1 := hb1.size
  replace ht1 := Lib.hid ht1
  replace hb1 := Lib.hid hb1
  clear ha hb
  go_wp2_with (at_make; go_must (refine wpList_make_full _ rfl _ _ 22 rfl w1.heap.size 5 i0 (.int .u8 0) 1 Tryd.underlying22 hi hz0 hz1 _ _ _ _ (xs.length + ys.length) rfl rfl (by simp) (by simp) (by rw [hz2]; omega) (by unfold maxLen; omega) (Nat.le_refl _) ?_))
  intro w2 hown2 hg2
  have hown := Lib.hid (OwnB.made hown2)
  have hb2 := Lib.hid ((Below.refl w1.heap.size w1).grown hg2 (Nat.le_refl _) (fun k hk => by cases hk))
  clear hown2 hg2
  go_wp2_with fail
  go_loopw [20] (fun j wr => ∃ i : Nat, i ≤ xs.length ∧ j = .int .i64 i ∧ OwnB w1.heap.size wr (.slice (some ⟨w1.heap.size, 0, none⟩) (xs.length + ys.length) (xs.length + ys.length)) (tab (xs.length + ys.length) (rowsTo xs ys i)) ∧ Below w1.heap.size w1 wr)
    (fun j _ => xs.length - (intOf j).toNat)
  case atStart => exact ⟨0, Nat.zero_le _, rfl, hown.out, hb2.out⟩
  case round =>
    clear hown hb2
    obtain ⟨i, hi1, rfl, hown, hbel⟩ := hrel
    replace hown := Lib.hid hown
    replace hbel := Lib.hid hbel
    by_cases hlt : i < xs.length
    · obtain ⟨xb, xo, rfl, cx⟩ := (ha1.out.below hbel.out).row i hlt
      have hcx : xs.getD i 0 = cf xs i := rfl
      rw [hcx] at cx
      clear hcx
      generalize hX : cf xs i = x at *
      replace hX := Lib.hid hX
      go_wp2_with fail
      go_loopw [27] (fun j wq => ∃ k : Nat, k ≤ ys.length ∧ j = .int .i64 k ∧ OwnB w1.heap.size wq (.slice (some ⟨w1.heap.size, 0, none⟩) (xs.length + ys.length) (xs.length + ys.length)) (tab (xs.length + ys.length) (rowAt xs ys i k)) ∧ Below w1.heap.size w1 wq)
        (fun j _ => ys.length - (intOf j).toNat)
      case atStart => exact ⟨0, Nat.zero_le _, rfl, by rw [show rowAt xs ys i 0 = rowsTo xs ys i from funext (rowAt_zero _ _ _)]; exact hown.out, hbel.out⟩
      case round =>
        obtain ⟨k, hk, rfl, hq, hbq⟩ := hrel
        replace hq := Lib.hid hq
        replace hbq := Lib.hid hbq
        by_cases hkk : k < ys.length
        · obtain ⟨yb, yo, rfl, cy⟩ := (hb1'.out.below hbq.out).row k hkk
          have hcy : ys.getD k 0 = cf ys k := rfl
          rw [hcy] at cy
          clear hcy
          generalize hY : cf ys k = y at *
          have c1 := hq.out.cell (tab_length _ _).symm (j := i + k) (by omega)
          rw [cf_tab_row _ _ _ _ _ (by omega)] at c1
          have f1 := hq.out.free (tab_length _ _).symm (i + k)
          have hset := hq.out.set (tab_length _ _).symm (i + k) (Gf.add (rowsTo xs ys i (i + k)) (Gf.mul x y))
          rw [show Gf.mul x y = Gf.mul (cf xs i) (cf ys k) from by rw [hX.out, hY], tab_row] at hset
          rw [hX.out, hY] at hset
          replace hset := Lib.hid hset
          replace hY := Lib.hid hY
          have htq := Lib.hid (ht1.out.below hbq.out hlt1)
          generalize rowsTo xs ys i (i + k) = r at *
          go_wp2_with fail
          have htd : TabAt wr.drew w.heap.size := htq.out
          replace htd := Lib.hid htd
          have hk1 : (i : Int) + k < ((xs.length + ys.length : Nat) : Int) := by omega
          have hk2 : (0 : Int) ≤ (i : Int) + k := by omega
          have hk3 : ((i : Int) + k).toNat = i + k := by omega
          have hk4 : (i : Int) + k < (xs.length : Int) + ys.length := by omega
          have hk5 := IntWalk.i64_in ((i : Int) + k) (by omega)
          go_region_with (go_at_call 31; refine (tmul_any x y w.heap.size wr.drew htd.out).mono ?_; rintro e w' ⟨rfl, n, rfl⟩)
          all_goals
            clear hk1 hk2 hk3 hk4 hk5
            go_wp2_with fail
            go_roundw
            case rel => exact ⟨k + 1, by omega, by go_num, by rw [xor_u8]; exact hset.out, below_drewN (hbq.out.setCell (p := ⟨w1.heap.size, i + k, none⟩) (Nat.le_refl _) _) _⟩
            case measure => simp [intOf]; omega
        · obtain rfl : k = ys.length := by omega
          go_wp2_with fail
          go_roundw
          case rel => exact ⟨i + 1, by omega, by go_num, by rw [← show rowAt xs ys i ys.length = rowsTo xs ys (i + 1) from funext (rowAt_full _ _ _)]; exact hq.out, hbq.out⟩
          case measure => simp [intOf]; omega
    · obtain rfl : i = xs.length := by omega
      have hfull := hown.out
      rw [show rowsTo xs ys xs.length = conv xs ys from funext (rowsTo_all _ _)] at hfull
      obtain ⟨ao, co, hv, harg, _⟩ := hfull.arg
      rw [tab_length] at hv
      obtain ⟨rfl, _, rfl⟩ : some ⟨w1.heap.size, 0, none⟩ = ao ∧ True ∧ xs.length + ys.length = co := by simpa using hv
      clear hv hfull hown
      have hsz := hbel.out.size
      have hc := trim_any _ _ _ _ harg (by rw [tab_length]; omega)
      rw [tab_length] at hc
      replace hc := Lib.hid hc
      clear harg
      go_wp2_with fail
      refine hc.out.mono ?_
      rintro e w3 ⟨v, rfl, ho, hb3⟩
      replace ho := Lib.hid (ho.mono (Nat.le_trans hsz1 hsz))
      have hb4 := Lib.hid (hb1.out.trans ((hbel.out.trans (hb3.mono hsz)).mono hsz1))
      go_wp2_with fail
      go_ret
      exact ⟨_, rfl, ho.out, hb4.out⟩

end Go.Proofs.YtenkdikdofhnpaaDoor
