/- Walks over poly.Div. -/
import Derived.Test.YtkoeejpiaffmfaaDoorPolyAdd
import Derived.Test.YtkoeejpiaffmfaaDoorDivL
import Derived.IntWalk
namespace Go.Proofs.YtkoeejpiaffmfaaDoor
open Go.RowKit

theorem OwnB.stored {base base' n cap b j : Nat} {w : World} {v u : Value} {bs cs : List UInt8} (h : OwnB base w v bs) (h2 : OwnB base' w (.slice (some ⟨b, 0, none⟩) n cap) cs) (hn : n = cs.length) (hne : v.ownBlock ≠ some b) : OwnB base (w.setCell ⟨b, j, none⟩ u) v bs := by
  subst hn
  exact World.ownsRow.kept h (World.ownsRow.stored h2 j u).2 (.inr hne)

set_option maxRecDepth 10000 in
set_option maxHeartbeats 4000000 in
theorem div_some (a : Option Addr) (ca : Nat) (xs : List UInt8) (b : Option Addr) (cb : Nat) (ys : List UInt8) (w : World) (ha : ArgB w a ca xs) (hb : ArgB w b cb ys) (hx : xs.length ≤ 400000) (hy : ys.length ≤ 400000) (hq0 : tlen ys ≠ 0) :
    Calls Tryd.prog 6 #[.slice a xs.length ca, .slice b ys.length cb] w fun e w' => ∃ v1 v2 A B, e = .returned (.tuple #[v1, v2, .nilIface]) ∧ OwnB w.heap.size w' v1 A ∧ OwnB w.heap.size w' v2 B ∧ Below w.heap.size w w' ∧
      trim A = A ∧ trim B = B ∧ B.length < tlen ys ∧ (∀ j, cf xs j = Gf.add (cf B j) (conv A ys j)) ∧ A.length ≤ xs.length ∧ B.length ≤ xs.length := by
  replace ha := Lib.hid ha
  replace hb := Lib.hid hb
  go_enter Tryd.func6, Tryd.ntmps6
  go_wp2_with fail
  refine (trim_any b cb ys w hb.out (by omega)).mono ?_
  rintro e w1 ⟨v, rfl, ho, hb1⟩
  replace ha := Lib.hid (ha.out.below hb1)
  obtain ⟨b1, c1, rfl, hQ, hQb⟩ := ho.arg
  replace hb1 := Lib.hid hb1
  clear hb ho
  -- the divisor, by a name
  obtain ⟨q, hq⟩ : ∃ q, q = trim ys := ⟨_, rfl⟩
  obtain ⟨d, hd⟩ : ∃ d, q.length = d + 1 := by
    obtain ⟨d, hd⟩ := Nat.exists_eq_succ_of_ne_zero hq0
    exact ⟨d, by rw [hq, trim_length]; exact hd⟩
  have hdl : d + 1 ≤ 400000 := by rw [← hd, hq, trim_length]; exact Nat.le_trans (tlen_le _) hy
  have hqd : cf q d ≠ 0 := by
    have h1 := tlen_ne ys hq0
    rw [← trim_length, ← hq, hd, Nat.add_sub_cancel, ← cf_trim, ← hq] at h1
    exact h1
  have hcq : ∀ A j, conv A q j = conv A ys j := fun A j => conv_congr (fun _ => rfl) (fun i => by rw [hq, cf_trim]) j
  have htq : tlen ys = d + 1 := by rw [← trim_length, ← hq, hd]
  rw [← hq] at hQ ⊢
  rw [hd]
  replace hQ := Lib.hid hQ
  replace hcq := Lib.hid hcq
  replace htq := Lib.hid htq
  clear hq0
  have hz : ((d : Int) + 1 == 0) = false := by rw [beq_eq_false_iff_ne]; omega
  go_wp2_with fail
  refine (make_any _).mono ?_
  rintro e w2 ⟨rfl, hb2, ht2⟩
  replace ha := Lib.hid (ha.out.below hb2)
  replace hQ := Lib.hid (hQ.out.below hb2)
  have hlt2 := ht2.lt
  have hz2 := hb2.size
  have hz1 := hb1.out.size
  replace hb2 := Lib.hid (hb1.out.trans (hb2.mono hb1.out.size))
  replace ht2 := Lib.hid ht2
  clear hb1
  go_wp2_with fail
  refine (trim_any a ca xs w2 ha.out (by omega)).mono ?_
  rintro e w3 ⟨v, rfl, ho, hb3⟩
  have hz3 := hb3.size
  replace hb3 := Lib.hid hb3
  clear ha
  have htx := Lib.hid (trim_length xs)
  have hlx := tlen_le xs
  obtain ⟨m, hm⟩ : ∃ m, m = tlen xs := ⟨_, rfl⟩
  rw [← hm] at htx hlx
  obtain ⟨n, hn⟩ : ∃ n : Nat, n = m - d := ⟨_, rfl⟩
  obtain ⟨a1, c2, rfl, _, hblk⟩ := ho.arg
  rw [htx.out] at ho ⊢
  have hn1 : m ≤ n + d := by omega
  have hn2 : n = 0 ∨ n + d ≤ m := by omega
  have hn3 : n ≤ m := by omega
  clear hn
  have hstart := DInv.start (p := xs) (q := q) (n := n) (by omega)
  replace hstart := Lib.hid hstart
  replace ho := Lib.hid ho
  have hblk2 : ∀ ob os sp, a1 = some ⟨ob, os, sp⟩ → ob ≠ w3.heap.size := fun ob os sp e => by have := hblk ob os sp e; omega
  replace hblk2 := Lib.hid hblk2
  clear hblk
  obtain ⟨i0, hi, hz0, hz1', hz2'⟩ := info_parts Tryd.infoByteP
  replace hm := Lib.hid hm
  go_wp2_with (at_make; go_must (refine wpList_make_full _ rfl _ _ 22 rfl w2.heap.size 5 i0 (.int .u8 0) 1 Tryd.underlying22 hi hz0 hz1' _ _ _ _ n rfl rfl (by omega) (by omega) (by rw [hz2']; omega) (by unfold maxLen; omega) hz3 ?_))
  all_goals
    intro w4 hown2 hg4
    have hquo := Lib.hid (OwnB.made hown2)
    have hb4 := Lib.hid ((Below.refl w2.heap.size w3).grown hg4 hz3 (fun k hk => by cases hk))
    have hres := Lib.hid (World.ownsRow.kept (row := none) ho.out hg4 (by
      cases a1 with
      | none => exact .inl rfl
      | some ad => exact .inr (by simp [Value.ownBlock])))
    have hb5 := Lib.hid (hb3.out.trans hb4.out)
    clear hown2 hg4 hb4
    go_wp2_with fail
    go_loopw [10] (fun j wr => ∃ (t : Nat) (A R : List UInt8), t ≤ n ∧ j = .int .i64 ((t : Int) - 1) ∧ R.length = m ∧ A.length = n ∧ OwnB w2.heap.size wr (.slice a1 m c2) R ∧ OwnB w2.heap.size wr (.slice (some ⟨w3.heap.size, 0, none⟩) n n) A ∧ DInv xs q A R t ∧ Below w2.heap.size w2 wr)
      (fun j _ => (intOf j + 1).toNat)
    case atStart => exact ⟨n, _, _, Nat.le_refl _, rfl, htx.out, tab_length _ _, hres.out, hquo.out, hstart.out, hb5.out⟩
    case round =>
      clear hres hquo hb5 hstart ho
      obtain ⟨t, A, R, ht, rfl, hRl, hAl, hR, hA, hinv, hbel⟩ := hrel
      replace hbel := Lib.hid hbel
      cases t with
      | succ i =>
        first
        | (exfalso; omega)
        | (
          have hm1 : ((i + 1 : Nat) : Int) - 1 = (i : Int) := by omega
          rw [hm1]
          clear hm1
          have hQ4 := hQ.out.below hbel.out
          have ht4 := Lib.hid (ht2.out.below hbel.out hlt2)
          obtain ⟨g1, cc, hv, hg1⟩ := hR.form (by omega)
          rw [hRl] at hv
          obtain ⟨rfl, rfl⟩ : a1 = some ⟨g1, 0, none⟩ ∧ c2 = cc := by simpa using hv
          clear hv
          have hne := hblk2.out g1 0 none rfl
          have c1 := hR.cell hRl.symm (j := i + d) (by omega)
          obtain ⟨qb, qo, rfl, cq⟩ := hQ4.row d (by omega)
          rw [show q.getD d 0 = cf q d from rfl] at cq
          have hq' : (d : Int) < (q.length : Int) := by omega
          have hstep := hinv.step hd hqd (by omega) hRl (by omega)
          obtain ⟨by1, hby⟩ : ∃ y, y = Gf.mul (cf R (i + d)) (Gf.inv (cf q d)) := ⟨_, rfl⟩
          rw [← hby] at hstep
          replace hstep := Lib.hid hstep
          replace hby := Lib.hid hby
          have hA2 := hA.set hAl.symm i by1
          have hf2 := hA.free hAl.symm i
          have hc2 := hA.cell hAl.symm (j := i) (by omega)
          have hR2 := hR.stored (j := i) (u := .int .u8 (by1.toNat : Int)) hA hAl.symm (by simp [Value.ownBlock]; exact hne)
          replace hA2 := Lib.hid hA2
          replace hR2 := Lib.hid hR2
          have hb2' := Lib.hid (hbel.out.setCell (p := ⟨w3.heap.size, i, none⟩) hz3 (.int .u8 (by1.toNat : Int)))
          replace hinv := Lib.hid hinv
          replace hA := Lib.hid hA
          replace hR := Lib.hid hR
          replace hQ4 := Lib.hid hQ4
          generalize cf R (i + d) = rx at *
          generalize hqx : cf q d = qx at *
          go_wp2_with fail
          have hk1 := IntWalk.i64_in ((i : Int) + (d + 1)) (by omega)
          have hk2 := IntWalk.i64_in ((i : Int) + (d + 1) - 1) (by omega)
          have hk3 : ((i : Int) + (d + 1) - 1).toNat = i + d := by omega
          have hk4 : (i : Int) + (d + 1) - 1 < (m : Int) := by omega
          have hk5 : (0 : Int) ≤ (i : Int) + (d + 1) - 1 := by omega
          go_quiet ((go_at_call 18; exact Calls.quiet_of (tdiv_any _ _ _ _ ht4.out)))
          rw [← hby.out]
          clear hk1 hk2 hk3 hk4 hk5 c1 cq hQ4
          go_wp2_with fail
          have hst : tab m (restAt R q by1 i 0) = R := by rw [← hRl]; exact restAt_zero R q by1 i
          replace hst := Lib.hid hst
          have hbel2 : Below w2.heap.size w2 ((wr.drewN nq).setCell ⟨w3.heap.size, i, none⟩ (.int .u8 (by1.toNat : Int))) := (below_drewN hbel.out nq).setCell (p := ⟨w3.heap.size, i, none⟩) hz3 _
          replace hbel2 := Lib.hid hbel2
          have hR3 : OwnB w2.heap.size ((wr.drewN nq).setCell ⟨w3.heap.size, i, none⟩ (.int .u8 (by1.toNat : Int))) (.slice (some ⟨g1, 0, none⟩) m c2) R := hR2.out
          have hA3 : OwnB w2.heap.size ((wr.drewN nq).setCell ⟨w3.heap.size, i, none⟩ (.int .u8 (by1.toNat : Int))) (.slice (some ⟨w3.heap.size, 0, none⟩) n n) (A.set i by1) := hA2.out
          replace hR3 := Lib.hid hR3
          replace hA3 := Lib.hid hA3
          clear hR2 hA2 hb2' hf2 hc2 ht4
          generalize ((wr.drewN nq).setCell ⟨w3.heap.size, i, none⟩ (.int .u8 (by1.toNat : Int))) = W5 at *
          go_loopw [60] (fun j wr => ∃ k : Nat, k ≤ d + 1 ∧ j = .int .i64 k ∧ OwnB w2.heap.size wr (.slice (some ⟨g1, 0, none⟩) m c2) (tab m (restAt R q by1 i k)) ∧ OwnB w2.heap.size wr (.slice (some ⟨w3.heap.size, 0, none⟩) n n) (A.set i by1) ∧ Below w2.heap.size w2 wr)
            (fun j _ => d + 1 - (intOf j).toNat)
          case atStart => exact ⟨0, Nat.zero_le _, rfl, by rw [hst.out]; exact hR3.out, hA3.out, hbel2.out⟩
          case round =>
            clear hst hR3 hA3 hbel2 hbel
            obtain ⟨k, hk, rfl, hR4, hA4, hbel⟩ := hrel
            by_cases hkk : k < d + 1
            · obtain ⟨qb2, qo2, hqe, cy⟩ := (hQ.out.below hbel).row k (by omega)
              obtain ⟨rfl, rfl⟩ : qb = qb2 ∧ qo = qo2 := by simpa using hqe
              rw [show q.getD k 0 = cf q k from rfl] at cy
              have htab := ht2.out.below hbel hlt2
              have hkq : (k : Int) < (d : Int) + 1 := by omega
              have c1 := hR4.cell (tab_length _ _).symm (j := i + k) (by omega)
              rw [cf_restAt _ _ _ _ _ _ (by omega)] at c1
              have f1 := hR4.free (tab_length _ _).symm (i + k)
              have hset := hR4.set (tab_length _ _).symm (i + k) (Gf.add (cf R (i + k)) (Gf.mul (cf q k) by1))
              rw [restAt_step] at hset
              have hA5 := hA4.stored (j := i + k) (u := .int .u8 ((Gf.add (cf R (i + k)) (Gf.mul (cf q k) by1)).toNat : Int)) hR4 (tab_length _ _).symm (by simp [Value.ownBlock]; exact fun e => hne e.symm)
              replace hset := Lib.hid hset
              replace hA5 := Lib.hid hA5
              replace hR4 := Lib.hid hR4
              replace hA4 := Lib.hid hA4
              replace hbel := Lib.hid hbel
              replace htab := Lib.hid htab
              generalize cf R (i + k) = r at *
              generalize hqk : cf q k = y at *
              go_wp2_with fail
              have htd : TabAt wr.drew w1.heap.size := htab.out
              replace htd := Lib.hid htd
              have hk1 : (i : Int) + k < (m : Int) := by omega
              have hk2 : (0 : Int) ≤ (i : Int) + k := by omega
              have hk3 : ((i : Int) + k).toNat = i + k := by omega
              have hk5 := IntWalk.i64_in ((i : Int) + k) (by omega)
              go_region_with (go_at_call 19; refine (tmul_any y by1 w1.heap.size wr.drew htd.out).mono ?_; rintro e w' ⟨rfl, n', rfl⟩)
              all_goals
                clear hk1 hk2 hk3 hk5
                go_wp2_with fail
                go_roundw
                case rel => exact ⟨k + 1, by omega, by go_num, by rw [xor_u8]; exact hset.out, by rw [xor_u8]; exact hA5.out, below_drewN (hbel.out.setCell (p := ⟨g1, i + k, none⟩) hg1 _) _⟩
                case measure => simp [intOf]; omega
            · obtain rfl : k = d + 1 := by omega
              rw [hd] at hstep
              replace hbel := Lib.hid hbel
              replace hR4 := Lib.hid hR4
              replace hA4 := Lib.hid hA4
              go_wp2_with fail
              go_roundw
              case rel => exact ⟨i, _, _, by omega, by go_num, tab_length _ _, by rw [List.length_set]; exact hAl, hR4.out, hA4.out, hstep.out, hbel.out⟩
              case measure => simp [intOf])
      | zero =>
        have hsz := hbel.out.size
        have hQA : ArgB wr (some ⟨w3.heap.size, 0, none⟩) n A := by
          obtain ⟨ax, cx, hv, harg, _⟩ := hA.arg
          rw [hAl] at hv
          obtain ⟨rfl, rfl⟩ : some ⟨w3.heap.size, 0, none⟩ = ax ∧ n = cx := by simpa using hv
          exact harg
        have hQR : ArgB wr a1 c2 R := by
          obtain ⟨ax, cx, hv, harg, _⟩ := hR.arg
          rw [hRl] at hv
          obtain ⟨rfl, rfl⟩ : a1 = ax ∧ c2 = cx := by simpa using hv
          exact harg
        have hct := trim_any _ _ _ _ hQA (by omega)
        rw [hAl] at hct
        replace hct := Lib.hid hct
        replace hQR := Lib.hid hQR
        replace hinv := Lib.hid hinv
        clear hQA hR hA
        go_wp2_with fail
        refine hct.out.mono ?_
        rintro e w5 ⟨v5, rfl, ho5, hb5⟩
        have hct2 := trim_any _ _ _ _ (hQR.out.below hb5) (by omega)
        rw [hRl] at hct2
        replace hct2 := Lib.hid hct2
        replace ho5 := Lib.hid (ho5.mono (Nat.le_trans hz1 (Nat.le_trans hz2 hsz)))
        replace hb5 := Lib.hid ((hb2.out.trans (hbel.out.mono (Nat.le_trans hz1 hz2))).trans (hb5.mono (Nat.le_trans hz1 (Nat.le_trans hz2 hsz))))
        go_wp2_with fail
        refine hct2.out.mono ?_
        rintro e w6 ⟨v6, rfl, ho6, hb6⟩
        replace ho5 := Lib.hid (ho5.out.below hb6 (Nat.le_refl _))
        replace ho6 := Lib.hid (ho6.mono hb5.out.size)
        replace hb6 := Lib.hid (hb5.out.trans (hb6.mono hb5.out.size))
        go_wp2_with fail
        go_ret3
        have hlA := tlen_le A
        have hlR := tlen_le R
        refine ⟨_, _, trim A, trim R, rfl, ho5.out, ho6.out, hb6.out, trim_trim _, trim_trim _, ?_, fun j => ?_, ?_, ?_⟩
        · rw [trim_length, htq.out, ← hd]
          exact hinv.out.rest (by omega)
        · rw [hinv.out.sum j, cf_trim, ← hcq.out]
          congr 1
          exact conv_congr (fun i => (cf_trim A i).symm) (fun _ => rfl) j
        · rw [trim_length]; omega
        · rw [trim_length]; omega

end Go.Proofs.YtkoeejpiaffmfaaDoor
