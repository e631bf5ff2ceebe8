/- The walk over JournalSafe. -/
import Derived.Test.YtgkddegaiaeckaaDoorF37SafeSaid
import Derived.Test.YtgkddegaiaeckaaDoorF39SafeSaid
import Derived.Test.YtgkddegaiaeckaaDoorF41SafeSaid
import Derived.Deep.CutBlock
namespace Go.Proofs.YtgkddegaiaeckaaDoor
open Go.RowKit

theorem SafeD.end_ {p : DP} {all : List (List UInt8)} {sure : Nat} (h : SafeD p all sure) (a b : Int) (s : Nat) :
    sure ≤ (recsOf (p.crash a b s)).length ∧ (begB (recsOf (p.crash a b s)) all = true ∨ oddB z32 (recsOf (p.crash a b s)) all = true) ∧ (recsOf (p.crash a b s)).length ≤ 2560 := by
  have hB := h.inv.crash a b s
  have hn : (p.crash a b s).n = ((40 : Nat) : Int) := h.n
  obtain ⟨hl, hx⟩ := hB.all hn
  have hend : (recsOf (p.crash a b s)).length ≤ 2560 := by
    have h1 := (scanB_end _ (seenAll (p.crash a b s)) z32 (Nat.lt_succ_self _)).1
    have h2 := recs_le (recsOf (p.crash a b s))
    unfold recsOf at h2 ⊢
    omega
  have hsc := scan_safe all z32 (seenAll (p.crash a b s)) sure h.le h.okR (by have := h.fit; omega) (fun x hx2 => by
    obtain ⟨h1, h2⟩ := hx x (by omega)
    exact ⟨h1, h2⟩)
  exact ⟨hsc.1, hsc.2, hend⟩
theorem SafeA.new {armed : Bool} {l : Int} : SafeA { DP.new 40 with armed := armed, l := l } [] 0 := by
  refine ⟨⟨⟨fun _ => rfl, fun q hq => absurd hq (by simp [DP.new])⟩, fun i j e y hy => ⟨.inr ?_, fun h => absurd h (by simp [endB])⟩, fun q hq => absurd hq (by simp [DP.new])⟩, ?_, Nat.le_refl _, fun r hr => absurd hr (by simp), by decide, rfl, rfl, fun _ _ => rfl⟩
  · show zSec.getD y 0 = 0
    rw [List.getD_eq_getElem?_getD]
    cases hq : zSec[y]? with
    | none => rfl
    | some u =>
      have hz : ∀ u ∈ zSec, u = 0 := by decide
      exact hz u (List.mem_of_getElem? hq)
  · exact shows_new 40
theorem SafeA.toD {p : DP} {recs : List (List UInt8)} {sure : Nat} (h : SafeA p recs sure) : SafeD p recs sure := h.dead0 h.inv h.n
theorem recsOf_ok (p : DP) : ∀ r ∈ recsOf p, okR r := scanB_ok _ _ _ (Nat.lt_succ_self _)

/-- The rows that were told of: apart from the journal and its disk. -/
structure AllAt (n1 : Nat) (w : World) (J B mb : Nat) (v rv : Value) (F : Nat → Prop) (va : Value) (all : List (List UInt8)) : Prop where
  row : ∃ Fa, RowsOf RB 22 1 n1 w Fa va all ∧ (∀ k, Fa k → n1 ≤ k) ∧ ∀ k, Fa k ∨ va.ownBlock = some k → ¬ JF J F rv k ∧ ¬ DiskD B mb v k
theorem AllAt.argBB {n1 : Nat} {w : World} {J B mb : Nat} {v rv : Value} {F : Nat → Prop} {va : Value} {all : List (List UInt8)} (h : AllAt n1 w J B mb v rv F va all) : ∃ a c, va = .slice a all.length c ∧ ArgBB w a c all := by
  obtain ⟨Fa, h1, _⟩ := h.row
  obtain ⟨a, c, e, h2⟩ := h1.argBB
  exact ⟨a, c, e, h2⟩
/-- Rows that were made just now. -/
theorem AllAt.new {base : Nat} {w w' : World} {J B mb mn : Nat} {v rv : Value} {F : Nat → Prop} {p : DP} {recs : List (List UInt8)} {s : Nat} {d : Bool} (h : JD base w J B mb mn v rv F p recs s d) {va : Value} {all : List (List UInt8)} {Fa : Nat → Prop} (hr : RowsOf RB 22 1 w.heap.size w' Fa va all) (hF : ∀ k, Fa k → w.heap.size ≤ k) : AllAt w.heap.size w' J B mb v rv F va all := by
  refine ⟨Fa, hr, hF, fun k hk => ?_⟩
  have hge : w.heap.size ≤ k := hk.elim (hF k) (fun e => (hr.ownLt k e).1)
  exact ⟨fun hj => by have := (h.jm.lt _ hj).2; omega, fun hd => by have := (h.dm.lt _ hd).2; omega⟩

/-- What holds behind the loop. -/
structure SafeEnd (base : Nat) (w0 w : World) (J B mb : Nat) (va : Value) : Prop where
  ex : ∃ mn v rv F p recs all sure dead n1, JD base w J B mb mn v rv F p recs sure dead ∧ SafeD p all sure ∧ AllAt n1 w J B mb v rv F va all ∧ (∀ r ∈ all, r.length ≤ 1000) ∧ mn ≤ 40000 ∧ p.ws.length ≤ 15000 ∧ sure ≤ 1000000 ∧ all.length ≤ 1000000
  bel : Below base w0 w
/-- What holds in the loop. -/
structure SafeLp (base : Nat) (w0 w : World) (J B mb k : Nat) (va : Value) : Prop where
  ex : ∃ mn v rv F p recs sure n1, JD base w J B mb mn v rv F p recs sure false ∧ SafeA p recs sure ∧ AllAt n1 w J B mb v rv F va recs ∧ mn + p.ws.length ≤ 20000 + 434 * k ∧ p.ws.length ≤ 434 * k ∧ -(435 * (k : Int)) ≤ p.l ∧ p.l ≤ 100 ∧ recs.length ≤ k
  bel : Below base w0 w
theorem SafeLp.end_ {base : Nat} {w0 w : World} {J B mb k : Nat} {va : Value} (h : SafeLp base w0 w J B mb k va) (hk : k ≤ 30) : SafeEnd base w0 w J B mb va := by
  obtain ⟨mn, v, rv, F, p, recs, sure, n1, hj, hS, hall, b1, b2, b3, b4, b5⟩ := h.ex
  exact ⟨⟨mn, v, rv, F, p, recs, recs, sure, false, n1, hj, hS.toD, hall, fun r hr => by have := (hj.jm.okR r hr).2; omega, by omega, by omega, by have := hS.le; omega, by omega⟩, h.bel⟩
def actV (x : ActJ) : Array Value := #[.int .i64 x.kind, .int .i64 x.n, .slice x.a x.r.length x.c, .int .i64 x.kept, .int .i64 x.torn, .int .u64 (x.scat : Int)]

set_option maxRecDepth 100000 in
set_option maxHeartbeats 2000000 in
theorem safe_walk (a0 : Option Addr) (c0 : Nat) (xs : List ActJ) (kept torn : Int) (sc : Nat) (power : Int) (w : World) (hA : ArgJ w a0 xs) (hkt : in64 kept) (htn : in64 torn) (hsc : sc < 18446744073709551616) (hpw : in64 power)
    (e : Nat → Addr) (hE : DErr w e) (hFu : FullE w) (hK : ShaK w) (hF : ShaF w) (hRK : RefK w) (hRF : RefF w) :
    Calls Tryd.prog 4 #[.slice a0 xs.length c0, .agg #[.int .i64 kept, .int .i64 torn, .int .u64 (sc : Int)], .int .i64 power] w fun x w' => x = .returned (.bool true) ∧ Below w.heap.size w w' := by
  have hG1 : Below w.heap.size w (w.alloc (.cells #[.int .i64 kept, .int .i64 torn, .int .u64 (sc : Int)] 37)) := (Below.refl _ _).alloc (Nat.le_refl _) _
  have hbx := heap_alloc_new w (.cells #[.int .i64 kept, .int .i64 torn, .int .u64 (sc : Int)] 37 (0, 0))
  obtain ⟨w1, hw1⟩ : ∃ w1, w1 = w.alloc (.cells #[.int .i64 kept, .int .i64 torn, .int .u64 (sc : Int)] 37) := ⟨_, rfl⟩
  rw [← hw1] at hG1
  have hbx1 : w1.heap[w.heap.size]? = some (.cells #[.int .i64 kept, .int .i64 torn, .int .u64 (sc : Int)] 37 (0, 0)) := by rw [hw1]; exact hbx
  clear hbx
  have hal := Lib.hid (alive19_any w1 e (hE.below hG1) (hK.below hG1) (hF.below hG1))
  have hlg : ∀ W, Below w.heap.size w W → Calls Tryd.prog 12 #[.slice a0 xs.length c0, .int .i64 30] W (LongPost W 30 xs) := fun W hW => long19_any a0 c0 xs 30 (by decide) W (hA.below hW)
  obtain ⟨L, hL⟩ : ∃ L, L = xs.length := ⟨_, rfl⟩
  rw [← hL] at hlg
  rw [← hL]
  have hEb0 : ∀ W, Below w.heap.size w W → DErr W e := fun W hW => hE.below hW
  have hPb := World.block_lt_of_cell? w _ hE.power
  simp only at hPb
  replace hlg := Lib.hid hlg
  replace hw1 := Lib.hid hw1
  replace hG1 := Lib.hid hG1
  replace hbx1 := Lib.hid hbx1
  replace hL := Lib.hid hL
  replace hA := Lib.hid hA
  replace hE := Lib.hid hE
  replace hEb0 := Lib.hid hEb0
  replace hFu := Lib.hid hFu
  replace hK := Lib.hid hK
  replace hF := Lib.hid hF
  replace hRK := Lib.hid hRK
  replace hRF := Lib.hid hRF
  go_enter Tryd.func4, Tryd.ntmps4
  go_wp2_with fail
  rw [← hw1.out]
  with_reducible refine hal.out.mono ?_
  clear hal hw1
  rintro x w2 ⟨rfl, hb2⟩
  have hb02 := Lib.hid (hG1.out.trans (hb2.mono hG1.out.size))
  have hbx2 := Lib.hid ((hb2.block _ (block_lt hbx1.out)).trans hbx1.out)
  clear hb2 hbx1
  go_wp2_with fail
  with_reducible refine (hlg.out w2 hb02.out).mono ?_
  clear hlg
  rintro x w3 ⟨r, rfl, hr, hb3⟩
  have hb03 := Lib.hid (hb02.out.trans (hb3.mono hb02.out.size))
  have hbx3 := Lib.hid ((hb3.block _ (block_lt hbx2.out)).trans hbx2.out)
  clear hb3 hbx2 hb02
  cases r with
  | true =>
    clear hr
    go_wp2_with fail
    go_ret
    exact ⟨rfl, hb03.out⟩
  | false =>
    obtain ⟨hL30, hR5⟩ := hr rfl
    rw [← hL.out] at hL30
    clear hr
    have hn := Lib.hid (dnew_yes 40 (by decide) (by decide) w3)
    have hd := dm_new 40 w3 w3.heap.size (Nat.le_refl _)
    have hb4 : Below w3.heap.size w3 ((w3.alloc (.map #[] 0)).alloc (.cells (dcells 40 w3.heap.size (.slice none 0 0) false 0 false) 72)) := ((Below.refl _ _).alloc (Nat.le_refl _) _).alloc (by simp) _
    generalize hW4 : (w3.alloc (.map #[] 0)).alloc (.cells (dcells 40 w3.heap.size (.slice none 0 0) false 0 false) 72) = w4 at *
    have hw03 := hb03.out.size
    have hBE : 2 ≠ w3.heap.size + 1 := by omega
    have hEb : ∀ W, Below w3.heap.size w3 W → DErr W e := fun W hW => hEb0.out W (hb03.out.trans (hW.mono hw03))
    have hKb : ∀ W, Below w3.heap.size w3 W → ShaK W ∧ ShaF W ∧ RefK W ∧ RefF W ∧ FullE W ∧ ArgJ W a0 xs ∧ W.heap[w.heap.size]? = some (.cells #[.int .i64 kept, .int .i64 torn, .int .u64 (sc : Int)] 37 (0, 0)) := fun W hW => by
      have h1 := hb03.out.trans (hW.mono hw03)
      exact ⟨hK.out.below h1, hF.out.below h1, hRK.out.below h1, hRF.out.below h1, hFu.out.below h1, hA.out.below h1, (hW.block _ (block_lt hbx3.out)).trans hbx3.out⟩
    have hop := Lib.hid (open_good hd hb4.size (good_new 40) (by decide) (by decide) (by decide) ⟨by decide, by decide⟩ e hBE (fun W hW => hEb W (hb4.trans hW)) (hKb _ hb4).1 (hKb _ hb4).2.1 (by decide) (fun r hr => absurd hr (by simp)))
    obtain ⟨B, hB⟩ : ∃ B, B = w3.heap.size + 1 := ⟨_, rfl⟩
    obtain ⟨base, hbase⟩ : ∃ base, base = w3.heap.size := ⟨_, rfl⟩
    replace hd := Lib.hid hd
    replace hEb := Lib.hid hEb
    replace hKb := Lib.hid hKb
    replace hb4 := Lib.hid hb4
    replace hW4 := Lib.hid hW4
    replace hR5 := Lib.hid hR5
    go_wp2_with fail
    with_reducible refine hn.out.mono ?_
    rintro x w' ⟨rfl, hq⟩
    obtain rfl : w4 = w' := hq.symm
    clear hq hn hW4
    go_wp2_with fail
    with_reducible refine hop.out.mono ?_
    clear hop
    rintro x w5 ⟨J, rv, F, v5, mn5, rfl, hm5, hj5, hs5, hnew5⟩
    have hb5 := hb4.out.trans (hs5.below hd.out hb4.out.size)
    rw [← hB] at hj5 ⊢
    rw [← hbase] at hj5 hb5
    replace hB := Lib.hid hB
    clear hs5 hnew5
    have hEw := hEb.out w5 (hbase ▸ hb5)
    obtain ⟨pm, hpm⟩ : ∃ pm, pm = power.tmod 100 := ⟨_, rfl⟩
    have harm := darm_any hj5.dm pm e hEw
    have hrem : power.tmod 100 = pm := hpm.symm
    replace hbase := Lib.hid hbase
    replace hj5 := Lib.hid hj5
    replace hb5 := Lib.hid hb5
    replace hEw := Lib.hid hEw
    clear hd
    go_upto_region 9 with fail
    go_cut [52] from 36 to 52 (fun s52 wx => s52 = .bool false ∧ Below base w3 wx ∧ ∃ a l, JD base wx J B base mn5 v5 rv F { DP.new 40 with armed := a, l := l } [] 0 false ∧ 0 ≤ l ∧ l ≤ 100)
    case first =>
      by_cases hp0 : 0 ≤ power
      · have hp1 : 0 ≤ pm := by rw [hpm]; exact Int.tmod_nonneg _ hp0
        have hp2 : pm < 100 := by rw [hpm]; exact Int.tmod_lt_of_pos _ (by decide)
        have harm2 : (DP.new 40).arm pm = ({ DP.new 40 with armed := true, l := pm }, 0) := by unfold DP.arm; rw [if_neg (by omega)]; rfl
        rw [harm2] at harm
        replace harm := Lib.hid harm
        clear harm2 hpm
        go_wp2_with fail
        with_reducible refine harm.out.mono ?_
        rintro x w6 ⟨rfl, hst⟩
        simp only [errV]
        have hj6 := Lib.hid (JStep.disk hj5.out hst).ok
        have hb6 := Lib.hid (hb5.out.trans (hst.below hj5.out.dm (by have := hbase.out; have := hb5.out.size; omega)))
        clear hst
        go_wp2_with fail
        go_meet
        exact ⟨rfl, hb6.out, _, _, hj6.out, hp1, by omega⟩
      · clear harm hpm
        go_wp2_with fail
        go_meet
        exact ⟨rfl, hb5.out, false, 0, hj5.out, by decide, by decide⟩
    case rest =>
      obtain ⟨rfl, hb6, ar, lf, hj6, hl0, hl1⟩ := hcut
      have hS0 := SafeA.new (armed := ar) (l := lf)
      clear harm hrem hpm hEw hj5
      generalize hp0 : ({ DP.new 40 with armed := ar, l := lf } : DP) = p0 at *
      have hw0 : p0.ws = [] := by rw [← hp0]; rfl
      have hl : p0.l = lf := by rw [← hp0]
      have hG7 : Below wc.heap.size wc (wc.alloc (.cells #[] 22)) := (Below.refl _ _).alloc (Nat.le_refl _) _
      have hlp : SafeLp base w3 (wc.alloc (.cells #[] 22)) J B base 0 (.slice (some ⟨wc.heap.size, 0, none⟩) 0 0) := by
        refine ⟨⟨mn5, v5, rv, F, p0, [], 0, wc.heap.size, hj6.below hG7, hS0, AllAt.new hj6 (RowsOf.made0 wc wc.heap.size (Nat.le_refl _)) (fun k h => h.elim), ?_, ?_, ?_, ?_, Nat.le_refl _⟩, hb6.trans (hG7.mono (by have := hj6.dm.lt B (.inl rfl); omega))⟩
        · rw [hw0]; simp; omega
        · rw [hw0]; simp
        · omega
        · omega
      replace hlp := Lib.hid hlp
      clear hS0 hw0 hl hp0 hG7 hj6 hb6 hb5
      go_upto_block 0 with fail
      go_cut [10] from 12 (fun s10 wx => SafeEnd base w3 wx J B base s10)
      case first =>
        go_wp2_with fail
        refine wp_loopF [(false, 10), (true, 1), (false, 1), (true, 2), (false, 42), (true, 49), (false, 37)] _ [] (fun U wr => ∃ k : Nat, k ≤ L ∧ U 56 = .int .i64 (k : Nat) ∧ SafeLp base w3 wr J B base k (U 10)) (fun U _ => L - (intOf (U 56)).toNat) ?_ ?_
        · simp only [List.getD_cons_zero, List.getD_cons_succ]
          exact ⟨0, Nat.zero_le _, rfl, hlp.out⟩
        · clear hlp
          intro U wr hrel KK hback l' hl'
          obtain ⟨k, hk, h56, hlp⟩ := hrel
          simp only [fillS, popSeg, cond_true, cond_false, Nat.reduceAdd, h56] at hl'
          generalize hu10 : U 10 = u10 at *
          subst hl'
          replace h56 := Lib.hid h56
          replace hu10 := Lib.hid hu10
          by_cases hlt : k < L
          · have hlt2 : (k : Int) < (L : Int) := by omega
            have hkl : k < xs.length := by rw [← hL.out]; exact hlt
            obtain ⟨mn, v, rv, F, p, recs, sure, n1, hj, hS, hall, b1, b2, b3, b4, b5⟩ := hlp.ex
            have hbr := hlp.bel
            have hw3r := hbr.size
            have hkb := hKb.out wr (hbase.out ▸ hbr)
            obtain ⟨b, o, hab, hat⟩ := hkb.2.2.2.2.2.1.row k hkl
            have harg0 : ArgB w (xs[k]'hkl).a (xs[k]'hkl).c (xs[k]'hkl).r := by obtain ⟨_, _, _, h⟩ := hA.out.row k hkl; exact h.arg
            subst hab
            have hR := hR5.out _ (List.getElem_mem hkl)
            generalize xs[k]'hkl = x at *
            have hbase0 : w.heap.size ≤ base := by rw [hbase.out]; exact hb03.out.size
            have hAD : 1 ≤ x.r.length → ∀ b o s, x.a = some ⟨b, o, s⟩ → ¬ JF J F rv b ∧ ¬ DiskD B base v b ∧ b < base := fun h0 b o s e => by
              obtain ⟨b', o', e', hc⟩ := harg0.row 0 (by omega)
              rw [e] at e'
              cases e'
              have := World.block_lt_of_cell? w _ hc
              simp only at this
              exact ⟨fun h => by have := (hj.jm.lt _ h).1; omega, fun h => by have := (hj.dm.lt _ h).1; omega, by omega⟩
            have hXj : ¬ JF J F rv wr.heap.size ∧ ¬ DiskD B base v wr.heap.size := ⟨fun h => by have := (hj.jm.lt _ h).2; omega, fun h => by have := (hj.dm.lt _ h).2; omega⟩
            have hargW : ∀ W, Below w3.heap.size w3 W → ArgB W x.a x.c x.r := fun W hW => harg0.below (hb03.out.trans (hW.mono hb03.out.size))
            replace hargW := Lib.hid hargW
            clear harg0
            have hG1 : Below wr.heap.size wr (wr.alloc (.cells (actV x) 49)) := (Below.refl _ _).alloc (Nat.le_refl _) _
            have hn1 := heap_alloc_new wr (.cells (actV x) 49 (0, 0))
            obtain ⟨w1', hw1'⟩ : ∃ w1', w1' = wr.alloc (.cells (actV x) 49) := ⟨_, rfl⟩
            rw [← hw1'] at hG1
            have hn1' : w1'.heap[wr.heap.size]? = some (.cells (actV x) 49 (0, 0)) := by rw [hw1']; exact hn1
            have hj1 := hj.below hG1
            have hrc := Lib.hid (records_any hj1.jm (by omega))
            have hbw : base ≤ wr.heap.size := by have := hj.dm.lt B (.inl rfl); omega
            obtain ⟨d0, d1, d2, d3, d4, d5, harg, _, _, _, _, _⟩ := hat
            have harg1 := harg.below hG1
            clear hall hn1
            unfold actV at hw1'
            replace hj1 := Lib.hid hj1
            replace hS := Lib.hid hS
            replace harg1 := Lib.hid harg1
            replace hn1' := Lib.hid hn1'
            replace hG1 := Lib.hid hG1
            replace hbr := Lib.hid hbr
            replace hkb := Lib.hid hkb
            replace hw1' := Lib.hid hw1'
            clear hj harg hlp
            go_wp2_with fail
            rw [← hw1'.out]
            with_reducible refine hrc.out.mono ?_
            clear hrc d0 d1 d2 d3 d4 d5 hw1'
            rintro y w2' ⟨v2, F2, rfl, hr2, hF2, hb2⟩
            obtain ⟨a2, c2, rfl, _⟩ := hr2.argBB
            clear hr2 hF2
            have hj2 := hj1.out.below hb2
            have harg2 := harg1.out.below hb2
            have hn2 := (hb2.block _ (block_lt hn1'.out)).trans hn1'.out
            have hb12 := hb2.size
            have hG2 : Below wr.heap.size wr w2' := hG1.out.trans (hb2.mono hG1.out.size)
            have hbr2 : Below base w3 w2' := hbr.out.trans (hG2.mono (by omega))
            have hkb2 := hKb.out w2' (hbase.out ▸ hbr2)
            obtain ⟨X, hX⟩ : ∃ X, X = wr.heap.size := ⟨_, rfl⟩
            rw [← hX] at hn2 ⊢
            have hXlt := block_lt hn2
            rw [← hX] at hXj
            have q0 : w2'.cell? ⟨X, 0, none⟩ = some (.int .i64 x.kind) := by rw [cell_of_block hn2]; rfl
            have q2 : w2'.cell? ⟨X, 2, none⟩ = some (.slice x.a x.r.length x.c) := by rw [cell_of_block hn2]; rfl
            have hwb : base ≤ w2'.heap.size := by omega
            have hEb2 : ∀ W, Below base w2' W → DErr W e := fun W hW => hEb.out W (hbase.out ▸ hbr2.trans hW)
            have hAD2 : 1 ≤ x.r.length → ∀ b o s, x.a = some ⟨b, o, s⟩ → ¬ JF J F rv b ∧ ¬ DiskD B base v b ∧ b < w2'.heap.size := fun h0 b o s e => ⟨(hAD h0 b o s e).1, (hAD h0 b o s e).2.1, Nat.lt_of_lt_of_le (hAD h0 b o s e).2.2 hwb⟩
            have hBE2 : 2 ≠ B := by rw [hB.out]; exact hBE
            have t0 := append_act hj2 hwb hS.out (by omega) (by omega) (by omega) e hBE2 hEb2 hkb2.2.2.2.2.1 hkb2.1 hkb2.2.1 x.r hR x.a x.c harg2 hAD2
            have t1 := sync_act hj2 hwb hS.out (by omega) (by omega) (by omega) e hBE2 hEb2 hkb2.2.2.2.2.1 hkb2.1 hkb2.2.1 (by omega) x.r
            have t2 := put_act hj2 hwb hS.out (by omega) (by omega) (by omega) e hBE2 hEb2 hkb2.2.2.2.2.1 hkb2.1 hkb2.2.1 x.r hR x.a x.c harg2 hAD2
            obtain ⟨rl, hrl⟩ : ∃ rl, rl = x.r.length := ⟨_, rfl⟩
            rw [← hrl] at q2 t0 t2
            replace t0 := Lib.hid t0
            replace t1 := Lib.hid t1
            replace t2 := Lib.hid t2
            replace hrl := Lib.hid hrl
            replace hj2 := Lib.hid hj2
            replace hn2 := Lib.hid hn2
            replace harg2 := Lib.hid harg2
            replace hAD := Lib.hid hAD
            replace hAD2 := Lib.hid hAD2
            replace hEb2 := Lib.hid hEb2
            replace hbr2 := Lib.hid hbr2
            replace hkb2 := Lib.hid hkb2
            replace hG2 := Lib.hid hG2
            replace hX := Lib.hid hX
            replace hXj := Lib.hid hXj
            clear hb2 hG1 harg1 hn1' hj1 hkb
            go_upto_block 2 with fail
            go_cut [] from 60 to 104 (fun wx => ∃ y, ActPost base w2' J B base mn v rv F p recs x.r y wx)
            case first =>
              clear hback
              by_cases hk0 : x.kind = 0
              · have i0 : (x.kind == 0) = true := by simpa using hk0
                clear hk0
                go_wp2_with fail
                with_reducible refine t0.out.mono ?_
                rintro y wy hy
                obtain ⟨⟨u, rfl⟩, _⟩ := id hy
                replace hy := Lib.hid hy
                go_wp2_with fail
                go_meet
                exact ⟨_, hy.out⟩
              · have i0 : (x.kind == 0) = false := by simpa using hk0
                clear hk0
                by_cases hk1 : x.kind = 1
                · have i1 : (x.kind == 1) = true := by simpa using hk1
                  clear hk1
                  go_wp2_with fail
                  with_reducible refine t1.out.mono ?_
                  rintro y wy hy
                  obtain ⟨⟨u, rfl⟩, _⟩ := id hy
                  replace hy := Lib.hid hy
                  go_wp2_with fail
                  go_meet
                  exact ⟨_, hy.out⟩
                · have i1 : (x.kind == 1) = false := by simpa using hk1
                  clear hk1
                  go_wp2_with fail
                  with_reducible refine t2.out.mono ?_
                  rintro y wy hy
                  obtain ⟨⟨u, rfl⟩, _⟩ := id hy
                  replace hy := Lib.hid hy
                  go_wp2_with fail
                  go_meet
                  exact ⟨_, hy.out⟩
            case rest =>
              clear t0 t1 t2 q0 q2
              obtain ⟨y, hp⟩ := hcut
              unfold ActPost at hp
              obtain ⟨_, mn', v', rv', F', p', recs', sure', dead', hst, hA', hD', bm, bw, bl1, bl2, bln⟩ := hp
              have hwb2 : base ≤ w2'.heap.size := by have := hbr2.out.size; have := hbase.out; omega
              have hn3 := hst.only.heap hn2.out (fun h => h.elim hXj.out.1 hXj.out.2)
              have hbst := hst.below hj2.out hwb2
              have hbr3 : Below base w3 wc := hbr2.out.trans hbst
              have hwb3 := hbst.size
              have hrc3 := Lib.hid (records_any hst.ok.jm (by omega))
              have hjl : ∀ k, JF J F' rv' k ∨ DiskD B base v' k → base ≤ k ∧ k < wc.heap.size := fun k hk => hk.elim (hst.ok.jm.lt k) (hst.ok.dm.lt k)
              have hok3 := hst.ok.jm.okR
              replace hst := Lib.hid hst
              replace hA' := Lib.hid hA'
              replace hD' := Lib.hid hD'
              replace hn3 := Lib.hid hn3
              replace hbr3 := Lib.hid hbr3
              replace hjl := Lib.hid hjl
              replace hok3 := Lib.hid hok3
              clear hbst
              go_wp2_with fail
              with_reducible refine hrc3.out.mono ?_
              clear hrc3
              rintro z w4 ⟨v4, F4, rfl, hr4, hF4, hb4⟩
              obtain ⟨a4, c4, rfl, hr4a⟩ := hr4.argBB
              have hj4 := hst.out.ok.below hb4
              have hdd := Lib.hid (jdead_any hj4.jm)
              have hb4s := hb4.size
              have hbr4 : Below base w3 w4 := hbr3.out.trans (hb4.mono (by omega))
              have hn4 := (hb4.block _ (block_lt hn3.out)).trans hn3.out
              have q24 : w4.cell? ⟨X, 2, none⟩ = some (.slice x.a rl x.c) := by rw [cell_of_block hn4, hrl.out]; rfl
              have harg4 : Hid (ArgB w4 x.a x.c x.r) := Lib.hid (hargW.out w4 (hbase.out ▸ hbr4))
              have q24a := fun o => (((Below.refl w4.heap.size w4).alloc (Nat.le_refl _) o).cell (World.block_lt_of_cell? w4 _ q24)).trans q24
              replace hr4 := Lib.hid hr4
              replace hF4 := Lib.hid hF4
              replace hj4 := Lib.hid hj4
              replace hbr4 := Lib.hid hbr4
              replace hb4 := Lib.hid hb4
              clear hr4a hn4
              cases dead' with
              | false =>
                have hlp' : SafeLp base w3 w4 J B base (k + 1) (.slice a4 recs'.length c4) := by
                  refine ⟨⟨mn', v', rv', F', p', recs', sure', _, hj4.out, (hA'.out rfl).1, AllAt.new hst.out.ok hr4.out hF4.out, ?_, ?_, ?_, ?_, ?_⟩, hbr4.out⟩
                  · have := (hA'.out rfl).2; omega
                  · omega
                  · omega
                  · omega
                  · omega
                replace hlp' := Lib.hid hlp'
                go_wp2_with fail
                with_reducible refine hdd.out.mono ?_
                rintro z w5 ⟨rfl, hq⟩
                obtain rfl := hq
                go_wp2_with fail
                with_reducible refine hdd.out.mono ?_
                rintro z w5 ⟨rfl, hq⟩
                obtain rfl := hq
                go_wp2_with fail
                refine hback.out _ _ (by kernel_rfl) ?_ ?_
                · simp only [List.getD_cons_zero, List.getD_cons_succ]
                  exact ⟨k + 1, by omega, by go_num, hlp'.out⟩
                · have h56 := h56.out
                  simp only [List.getD_cons_zero, List.getD_cons_succ, h56, intOf]
                  omega
              | true =>
                have hdsure := (hD'.out rfl).le
                clear hback
                by_cases hc1 : recs'.length = recs.length
                · have i3 : ((recs'.length : Int) == (recs.length : Int)) = true := by rw [hc1]; simp
                  by_cases hc2 : 0 < rl
                  · have i4 : (0 : Int) < (rl : Int) := by omega
                    have hSD : SafeD p' (recs' ++ [x.r]) sure' := by
                      have := hD'.out rfl
                      rwa [if_pos ⟨hc1, by rw [← hrl.out]; exact hc2⟩] at this
                    have ho6 := Lib.hid (owns_made0 w4 w4.heap.size (Nat.le_refl _))
                    have hG6 : Below w4.heap.size w4 (w4.alloc (.cells #[] 5)) := (Below.refl _ _).alloc (Nat.le_refl _) _
                    have haR6 := Lib.hid (harg4.out.below hG6)
                    have hbs6 : w4.heap.size ≤ (w4.alloc (.cells #[] 5)).heap.size := hG6.size
                    have hinfo := Lib.hid infoRow24
                    have hrl1 : rl ≤ 500 := by rw [hrl.out]; exact hR
                    have hRl : Hid (x.r.length = rl) := Lib.hid hrl.out.symm
                    have hdn : recs'.length ≤ 1000000 := by omega
                    have hc1' := Lib.hid hc1
                    replace hSD := Lib.hid hSD
                    replace hG6 := Lib.hid hG6
                    clear hc1
                    go_wp2_with fail
                    with_reducible refine hdd.out.mono ?_
                    rintro z w5 ⟨rfl, hq⟩
                    obtain rfl := hq
                    go_wp2_with (first
                      | (at_builtin; refine wpB_app rfl (.tmp 96) (.tmp 98) rfl w4.heap.size _ [] rfl ho6 _ _ x.r rl rfl hRl haR6 (by decide) (by omega) hbs6 ?_; intro v7 w7 ho7 hb7; obtain ⟨g7, c7, e7, hg7⟩ := OwnB.form (show OwnB w4.heap.size w7 v7 x.r from ho7.out) (by rw [hRl.out]; exact hc2); subst e7; have ho7' := Lib.hid (show OwnB w4.heap.size w7 (.slice (some ⟨g7, 0, none⟩) x.r.length c7) x.r from ho7.out); have hb47 := Lib.hid (hG6.out.trans hb7.out); have hr7 := Lib.hid (hr4.out.below liesRB hb47.out); have hyB := Lib.hid (show RB w7 (fun k => F4 k ∨ k = g7) x.r (#[Value.slice (some ⟨g7, 0, none⟩) x.r.length c7] : Array Value).toList from liesRB.more (rb_own ho7'.out) (fun k h => by cases h; exact .inr rfl)); have hFB := Lib.hid (show ∀ k, F4 k → F4 k ∨ k = g7 from fun k h => .inl h); have haB := Lib.hid (show ∀ k, (Value.slice a4 recs'.length c4).ownBlock = some k → ¬ (F4 k ∨ k = g7) from fun k hk h => h.elim (hr4.out.apart k hk) (fun h => by have := (hr4.out.ownLt k hk).2; omega)); have hlB := Lib.hid (show ∀ k, F4 k ∨ k = g7 → k < w7.heap.size from fun k h => h.elim (fun h => hr7.out.lt k h) (fun h => h ▸ (World.ownsRow.lt ho7'.out g7 rfl).2)); have hbs7 : wc.heap.size ≤ w7.heap.size := (by have := hb47.out.size; omega))
                      | (at_builtin; refine wpList_appRows (P := Tryd.prog) (R := RB) (e := 22) (size := 1) (base := wc.heap.size) (F := F4) (F' := fun k => F4 k ∨ k = g7) rfl liesRB (.tmp 95) (.tmp 100) 23 rfl Tryd.underlying23 24 hinfo.out (by decide) rfl hr7 x.r #[.slice (some ⟨g7, 0, none⟩) x.r.length c7] hyB hFB haB hlB rfl hdn (by decide) hbs7 ?_; intro v8 w8 hr8 ho8 hm8; obtain ⟨a8, n8, c8, hv8⟩ : ∃ a n c, v8 = .slice a n c := (by obtain ⟨a, c, e, _⟩ := hr8.out.form; exact ⟨a, _, c, e⟩); subst hv8; have hj8 := Lib.hid ((hj4.out.below hb47.out).only ho8.out (fun k hk e => by have := (hr4.out.ownLt k e).1; have := (hjl.out k (.inl hk)).2; omega) (fun k hk e => by have := (hr4.out.ownLt k e).1; have := (hjl.out k (.inr hk)).2; omega)); have hdd8 := Lib.hid (jdead_any hj8.out.jm)))
                    with_reducible refine hdd8.out.mono ?_
                    rintro z w9 ⟨rfl, hq⟩
                    obtain rfl := hq
                    have hend : SafeEnd base w3 w8 J B base (.slice a8 n8 c8) := by
                      have hs7 := hb47.out.size
                      have hge : ∀ k, (F4 k ∨ k = g7) ∨ (Value.slice a8 n8 c8).ownBlock = some k → wc.heap.size ≤ k := fun k hk => by
                        rcases hk with (h | h) | h
                        · exact hF4.out k h
                        · omega
                        · rcases hm8.out k h with h | h
                          · exact (hr4.out.ownLt k h).1
                          · omega
                      refine ⟨⟨mn', v', rv', F', p', recs', recs' ++ [x.r], sure', true, wc.heap.size, hj8.out, hSD.out, ⟨_, hr8.out, fun k hk => hge k (.inl hk), fun k hk => ?_⟩, ?_, ?_, ?_, ?_, ?_⟩, ?_⟩
                      · have := hge k hk
                        exact ⟨fun h => by have := (hjl.out k (.inl h)).2; omega, fun h => by have := (hjl.out k (.inr h)).2; omega⟩
                      · intro r hr
                        rcases List.mem_append.1 hr with hr | hr
                        · have := (hok3.out r hr).2; omega
                        · rw [List.mem_singleton.1 hr]; omega
                      · omega
                      · omega
                      · have := hSD.out.le; rw [List.length_append, List.length_singleton] at this; omega
                      · rw [List.length_append, List.length_singleton]; omega
                      · exact (hbr4.out.trans (hb47.out.mono (by omega))).trans (ho8.out.below (by omega) (fun k hk => by have := (hr4.out.ownLt k hk).1; omega))
                    replace hend := Lib.hid hend
                    go_wp2_with fail
                    go_meet
                    exact hend.out
                  · have i4 : ¬ ((0 : Int) < (rl : Int)) := by omega
                    have hSD : SafeD p' recs' sure' := by
                      have := hD'.out rfl
                      rwa [if_neg (fun h => hc2 (by rw [hrl.out]; exact h.2))] at this
                    have hend : SafeEnd base w3 w4 J B base (.slice a4 recs'.length c4) := ⟨⟨mn', v', rv', F', p', recs', recs', sure', true, _, hj4.out, hSD, AllAt.new hst.out.ok hr4.out hF4.out, fun r hr => by have := (hok3.out r hr).2; omega, by omega, by omega, by have := hSD.le; omega, by omega⟩, hbr4.out⟩
                    replace hend := Lib.hid hend
                    replace hSD := Lib.hid hSD
                    replace hc1 := Lib.hid hc1
                    (go_wp2_with fail; with_reducible refine hdd.out.mono ?_; rintro z w5 ⟨rfl, hq⟩; obtain rfl := hq; go_wp2_with fail; with_reducible refine hdd.out.mono ?_; rintro z w5 ⟨rfl, hq⟩; obtain rfl := hq; go_wp2_with fail; go_meet; exact hend.out)
                · have i3 : ((recs'.length : Int) == (recs.length : Int)) = false := by simp; omega
                  have hSD : SafeD p' recs' sure' := by
                    have := hD'.out rfl
                    rwa [if_neg (fun h => hc1 h.1)] at this
                  have hend : SafeEnd base w3 w4 J B base (.slice a4 recs'.length c4) := ⟨⟨mn', v', rv', F', p', recs', recs', sure', true, _, hj4.out, hSD, AllAt.new hst.out.ok hr4.out hF4.out, fun r hr => by have := (hok3.out r hr).2; omega, by omega, by omega, by have := hSD.le; omega, by omega⟩, hbr4.out⟩
                  replace hend := Lib.hid hend
                  replace hSD := Lib.hid hSD
                  replace hc1 := Lib.hid hc1
                  (go_wp2_with fail; with_reducible refine hdd.out.mono ?_; rintro z w5 ⟨rfl, hq⟩; obtain rfl := hq; go_wp2_with fail; with_reducible refine hdd.out.mono ?_; rintro z w5 ⟨rfl, hq⟩; obtain rfl := hq; go_wp2_with fail; go_meet; exact hend.out)
          · obtain rfl : k = L := by omega
            have hend := Lib.hid (hlp.end_ hL30)
            clear hback hlp
            go_wp2_with fail
            go_meet
            exact hend.out
      case rest =>
        obtain ⟨⟨mn', v', rv', F', p', recs', all, sure', dead', n1, hj, hSD, hall, hlen, bm, bw, bs, bl⟩, hbe⟩ := hcut
        obtain ⟨Fa, hrow, hFa, hap⟩ := hall.row
        obtain ⟨aa, ca, rfl, _⟩ := hrow.argBB
        have hsu := Lib.hid (jsure_any hj.jm)
        have hkc := hKb.out wc (hbase.out ▸ hbe)
        have hcb := hkc.2.2.2.2.2.2
        have k0 : wc.cell? ⟨w.heap.size, 0, none⟩ = some (.int .i64 kept) := by rw [cell_of_block hcb]; rfl
        have k1 : wc.cell? ⟨w.heap.size, 1, none⟩ = some (.int .i64 torn) := by rw [cell_of_block hcb]; rfl
        have k2 : wc.cell? ⟨w.heap.size, 2, none⟩ = some (.int .u64 (sc : Int)) := by rw [cell_of_block hcb]; rfl
        have hcr := Lib.hid (dcrash_dm hj.dm (by rw [hSD.n]; decide) (by omega) (by omega) kept torn sc (sc : Int) rfl hkt htn hsc)
        obtain ⟨hs1, hs2, hs3⟩ := hSD.end_ kept torn sc
        have hn6 : (p'.crash kept torn sc).n = ((40 : Nat) : Int) := hSD.n
        have hws6 : (p'.crash kept torn sc).ws = [] := rfl
        have hl6 : (p'.crash kept torn sc).l = 0 := rfl
        have ha6 : (p'.crash kept torn sc).armed = false := rfl
        have hg6 : (p'.crash kept torn sc).gone = false := rfl
        generalize hp6 : p'.crash kept torn sc = p6 at *
        have hok6 := recsOf_ok p6
        have hwb := hbe.size
        have hbw3 : base = w3.heap.size := hbase.out
        clear hlp hkc hcb hall
        replace hj := Lib.hid hj
        replace hrow := Lib.hid hrow
        replace hap := Lib.hid hap
        replace hFa := Lib.hid hFa
        replace hlen := Lib.hid hlen
        replace hbe := Lib.hid hbe
        replace hs2 := Lib.hid hs2
        replace hok6 := Lib.hid hok6
        replace hp6 := Lib.hid hp6
        replace hws6 := Lib.hid hws6
        replace hl6 := Lib.hid hl6
        replace ha6 := Lib.hid ha6
        replace hg6 := Lib.hid hg6
        replace hn6 := Lib.hid hn6
        replace hSD := Lib.hid hSD
        replace hbw3 := Lib.hid hbw3
        go_wp2_with fail
        with_reducible refine hsu.out.mono ?_
        rintro x w5' ⟨rfl, hq⟩
        obtain rfl := hq
        clear hsu
        go_wp2_with fail
        with_reducible refine hcr.out.mono ?_
        rintro x w6 ⟨rfl, mn6, hm6, hst6⟩
        clear hcr k0 k1 k2
        have hb6 : Below base wc w6 := hst6.below hj.out.dm (by have := hbw3.out; omega)
        have hb36 : Below base w3 w6 := hbe.out.trans hb6
        have hw6 := hb36.size
        have hk6 := hKb.out w6 (hbw3.out ▸ hb36)
        have hop := Lib.hid (open_any hst6.ok (by have := hbw3.out; omega) 40 hn6.out (by decide) (by decide) (by rw [hws6.out]; decide) (by omega) (by rw [hl6.out]; decide) ha6.out hg6.out e (by rw [hB.out]; exact hBE) (fun W hW => hEb.out W (hbw3.out ▸ hb36.trans hW)) hk6.1 hk6.2.1)
        have hrow6 := hrow.out.only liesRB hst6.only (fun k hk => (hap.out k (.inl hk)).2) (fun k hk => (hap.out k (.inr hk)).2)
        have hap6 : ∀ k, Fa k ∨ (Value.slice aa all.length ca).ownBlock = some k → ¬ DiskD B base (.slice none 0 0) k := fun k hk hd => by
          rcases hst6.new k hd with h | h
          · exact (hap.out k hk).2 h
          · rcases hk with hk | hk
            · have := hrow.out.lt k hk; omega
            · have := (hrow.out.ownLt k hk).2; omega
        replace hst6 := Lib.hid hst6
        replace hb36 := Lib.hid hb36
        replace hrow6 := Lib.hid hrow6
        replace hap6 := Lib.hid hap6
        clear hb6 hk6
        go_wp2_with fail
        with_reducible refine hop.out.mono ?_
        clear hop
        rintro x w7 ⟨J7, rv7, F7, v7, mn7, rfl, hm7, hj7, hst7, hnew7⟩
        have hb7 : Below base w6 w7 := hst7.below hst6.out.ok (by have := hbw3.out; omega)
        have hb37 : Below base w3 w7 := hb36.out.trans hb7
        have hw7 := hb7.size
        have hrc := Lib.hid (records_any hj7.jm (by omega))
        have hrow7 := Lib.hid (hrow6.out.only liesRB hst7.only (fun k hk => hap6.out k (.inl hk)) (fun k hk => hap6.out k (.inr hk)))
        replace hj7 := Lib.hid hj7
        replace hb37 := Lib.hid hb37
        clear hst7 hnew7 hb7
        go_wp2_with fail
        with_reducible refine hrc.out.mono ?_
        clear hrc
        rintro z w8 ⟨v8, F8, rfl, hr8, hF8, hb8⟩
        obtain ⟨a8, c8, rfl, hA8⟩ := hr8.argBB
        obtain ⟨aa', ca', hea, hAll8⟩ := (hrow7.out.below liesRB hb8).argBB
        cases hea
        have hsu8 := Lib.hid (jsure_any (hj7.out.below hb8).jm)
        have hb38 : Below base w3 w8 := hb37.out.trans (hb8.mono (by have := hbw3.out; omega))
        have i1 : ¬ (((recsOf p6).length : Int) < (sure' : Int)) := by omega
        have hbg := Lib.hid (begins_any (recsOf p6) all a8 aa c8 ca w8 hA8 hAll8)
        have hb08 : Below w.heap.size w w8 := hb03.out.trans (hb38.mono (by rw [hbw3.out]; exact hb03.out.size))
        have hod := fun W (hW : Drawn w8 W) => odd_any (recsOf p6) all (fun r hr => by have := (hok6.out r hr).2; omega) hlen.out a8 aa c8 ca W (hA8.below (hW.below _)) (hAll8.below (hW.below _)) (hRK.out.below (hb08.trans (hW.below _))) (hRF.out.below (hb08.trans (hW.below _)))
        replace hod := Lib.hid hod
        replace hb08 := Lib.hid hb08
        clear hr8 hF8 hA8 hAll8
        go_wp2_with fail
        with_reducible refine hsu8.out.mono ?_
        rintro x w9 ⟨rfl, hq⟩
        obtain rfl := hq
        go_wp2_with fail
        with_reducible refine hbg.out.mono ?_
        rintro x w10 ⟨rfl, hd⟩
        replace hd := Lib.hid hd
        have hs2' := hs2.out
        cases hbb : begB (recsOf p6) all
        · rw [hbb] at hs2'
          have hodd : oddB z32 (recsOf p6) all = true := hs2'.resolve_left (fun h => by cases h)
          have hod2 := hod.out w10 hd.out
          rw [hodd] at hod2
          replace hod2 := Lib.hid hod2
          clear hod hs2' hodd hbg
          go_wp2_with fail
          with_reducible refine hod2.out.mono ?_
          rintro x w11 ⟨rfl, hb11⟩
          have hfin := Lib.hid ((hb08.out.trans (hd.out.below _)).trans (hb11.mono (hb08.out.trans (hd.out.below _)).size))
          go_wp2_with fail
          go_ret
          exact ⟨rfl, hfin.out⟩
        · clear hod hs2' hbg
          have hfin := Lib.hid (hb08.out.trans (hd.out.below _))
          go_wp2_with fail
          go_ret
          exact ⟨rfl, hfin.out⟩
/-- The law, as its frame asks for it. -/
theorem safe_law (a0 : Option Addr) (cap0 : Nat) (z0 : List ActJ) (kept torn : Int) (sc : Nat) (power : Int) (W : World) (w0 : ArgJ W a0 z0) (hk : in64 kept) (ht : in64 torn) (hs : sc < 18446744073709551616) (hp : (Lit.int IntKind.i64 power).wf = true) (ea : Nat → Addr) (hE : Errs 161 [0, 4, 1, 5, 3, 2] W ea) (hK : ShaK W) (hF : ShaF W) (hRK : RefK W) (hRF : RefF W) :
    Calls Tryd.prog 4 #[.slice a0 z0.length cap0, .agg #[.int .i64 kept, .int .i64 torn, .int .u64 (sc : Int)], .int .i64 power] W fun x w' => x = .returned (.bool true) ∧ Below W.heap.size W w' :=
  safe_walk a0 cap0 z0 kept torn sc power W w0 hk ht hs (cWf64 hp) (fun k => match k with | 0 => ea 0 | 1 => ea 1 | _ => ea 5) ⟨hE.var 0 (by decide), hE.var 1 (by decide), hE.var 5 (by decide)⟩ ⟨_, hE.var 3 (by decide)⟩ hK hF hRK hRF
end Go.Proofs.YtgkddegaiaeckaaDoor
