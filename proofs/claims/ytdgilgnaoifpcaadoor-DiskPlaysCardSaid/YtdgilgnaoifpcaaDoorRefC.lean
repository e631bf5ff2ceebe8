/- Walks over the reference's disk: Crash. -/
import Derived.Test.YtdgilgnaoifpcaaDoorRefS
import Derived.Test.YtdgilgnaoifpcaaDoorLoopF
import Derived.Test.YtdgilgnaoifpcaaDoorBitsN
import Derived.Deep.CutRange
namespace Go.Proofs.YtdgilgnaoifpcaaDoor
open Go.RowKit

theorem RGo.round {base : Nat} {w2 wr : World} {R n L cw : Nat} {va : Value} {aw : Option Addr} {F : Nat → Prop} {P : DP} {rl : Int} {ks : Nat → Option Nat} {k : Nat} (h : RGo base w2 wr R n va (.slice aw L cw) F P rl ks k) (hbs : base ≤ w2.heap.size) (hn : n ≤ 2048) (hkw : k < P.ws.length) :
    ∃ (g i : Nat) (a' : Option Addr) (c' : Nat), aw = some ⟨g, 0, none⟩ ∧ wr.cell? ⟨g, k * 2, none⟩ = some (.int .i64 i) ∧ wr.cell? ⟨g, k * 2 + 1, none⟩ = some (.slice a' 64 c') ∧ ∀ wb, wb = wr.alloc (.cells #[.int .i64 i, .slice a' 64 c'] 77) →
      ((∀ m : Nat, m ≤ 64 → ks k = some m → ∀ M : Int, M = m → Calls Tryd.prog 39 #[.pointer (some ⟨R, 0, none⟩), .agg #[.int .i64 i, .slice a' 64 c'], .int .i64 M] wb fun x w' => x = .returned (.tuple #[]) ∧ RGo base w2 w' R n va (.slice aw L cw) F P rl ks (k + 1)) ∧
      (ks k = none → ∀ w', Below wb.heap.size wb w' → RGo base w2 w' R n va (.slice aw L cw) F P rl ks (k + 1))) := by
  have h0 := h
  obtain ⟨F', h1, h2, h3, h4⟩ := h0
  obtain ⟨g, cap, cs, e3, hRW, hrgw⟩ := h1.waits.elem liesRWt k _ (List.getElem?_eq_getElem hkw)
  obtain ⟨a', c', rfl, harg', -⟩ := hRW
  have hq := h1.lens P.ws[k] (List.getElem_mem hkw)
  have hgd : P.ws.getD k (0, []) = P.ws[k] := by simp [List.getD_eq_getElem?_getD, hkw]
  obtain ⟨i, hi⟩ : ∃ i : Nat, P.ws[k].1 = (i : Int) := ⟨P.ws[k].1.toNat, by have := hq.2.1; omega⟩
  have d0 := hrgw 0 _ rfl
  have d1 := hrgw 1 _ rfl
  rw [show (P.ws[k].2).length = 64 from hq.1] at d1
  have hi' : ({ P with f := doneK ks (P.ws.take k) P.f } : DP).ws[k].1 = (i : Int) := hi
  rw [hi'] at d0
  have hsl : aw = some ⟨g, 0, none⟩ := by injection e3
  subst hsl
  refine ⟨g, i, a', c', rfl, d0, d1, ?_⟩
  rintro wb rfl
  have hG : Below wr.heap.size wr (wr.alloc (.cells #[.int .i64 i, .slice a' 64 c'] 77)) := (Below.refl _ _).alloc (Nat.le_refl _) _
  have hb1 := h1.below hG
  refine ⟨?_, fun hks w' hb' => h.skip hkw hks (hG.trans (hb'.mono hG.size))⟩
  rintro m hm hks M rfl
  refine (rdone_any hb1 (by have := h4.size; have := hG.size; omega) i (by have := hq.2.2; omega) hn a' c' P.ws[k].2 hq.1 (harg'.below hG) m hm hb1.lts).mono ?_
  rintro x w' ⟨rfl, hd⟩
  exact ⟨rfl, RGo.did (m := m) ⟨F', h2, h3, h4, hG, by rw [hgd, hi]; exact hd⟩ hkw hks⟩

theorem u64_bit (x : Nat) (hx : x < 18446744073709551616) : bits .and .u64 (x : Int) 1 = ((x % 2 : Nat) : Int) := by
  have h1 : x &&& 1 = x % 2 := Nat.and_one_is_mod x
  have h2 : IntKind.u64.wrap ((BitVec.ofInt 64 (x : Int) &&& BitVec.ofInt 64 (1 : Int)).toNat : Int) = ((x % 2 : Nat) : Int) := by
    rw [BitVec.toNat_and, ofInt_u64 x (by omega), show (1 : Int) = ((1 : Nat) : Int) from rfl, ofInt_u64 1 (by omega), h1]
    show ((x % 2 : Nat) : Int) % 18446744073709551616 = _
    omega
  exact h2
/-- Which bit counts. -/
theorem crashK_far {kept torn : Int} {s k : Nat} (h1 : max kept 0 < (k : Int)) (hs : s < 18446744073709551616) :
    crashK kept torn s k = if (k : Int) - max kept 0 - 1 < 63 ∧ s / 2 ^ ((k : Int) - max kept 0 - 1).toNat % 2 = 1 then some 64 else none := by
  unfold crashK
  rw [if_neg (by omega), if_neg (by omega)]
  have hd : s / 2 ^ (((k : Int) - max kept 0).toNat - 1) ≤ s := Nat.div_le_self _ _
  have e1 : ((s : Int) / 2 ^ (((k : Int) - max kept 0).toNat - 1)) = ((s / 2 ^ (((k : Int) - max kept 0).toNat - 1) : Nat) : Int) := by
    rw [Int.natCast_ediv]
    simp
  have e2 : ((k : Int) - max kept 0 - 1).toNat = ((k : Int) - max kept 0).toNat - 1 := by omega
  rw [e1, u64_bit _ (by omega), e2]
  generalize s / 2 ^ (((k : Int) - max kept 0).toNat - 1) = q
  have : (((q % 2 : Nat) : Int) == 1) = true ↔ q % 2 = 1 := by
    rw [beq_iff_eq]; omega
  by_cases hq : q % 2 = 1
  · simp [hq]
  · have hq0 : q % 2 = 0 := by omega
    simp [hq0]

set_option maxRecDepth 100000 in
set_option maxHeartbeats 4000000 in
theorem rcrash_any {base : Nat} {w : World} {R n : Nat} {p : DP} {S : Nat → Prop} (h : RM base w R n p S) (hbs : base ≤ w.heap.size) (hn : n ≤ 2048) (hws : p.ws.length ≤ 100000) (kept torn : Int) (s : Nat) (hk : inI64 kept) (ht : inI64 torn) (hs : s < 18446744073709551616) :
    Calls Tryd.prog 32 #[.pointer (some ⟨R, 0, none⟩), .int .i64 kept, .int .i64 torn, .int .u64 (s : Int)] w fun x w' => x = .returned (.tuple #[]) ∧ RStep base w w' R n (p.crash kept torn s) S := by
  have h' := h
  obtain ⟨va, vw, F, rl, hr, hS, hSl⟩ := h'
  obtain ⟨aw, cw, e2, -⟩ := hr.waits.form
  subst e2
  have hst0 := RGo.start hr (crashK kept torn s)
  obtain ⟨K, hK⟩ : ∃ K, K = max kept 0 := ⟨_, rfl⟩
  obtain ⟨T, hT⟩ : ∃ T : Nat, (T : Int) = min (max torn 0) 64 := ⟨(min (max torn 0) 64).toNat, by omega⟩
  obtain ⟨T0, hT0⟩ : ∃ T0, T0 = max torn 0 := ⟨_, rfl⟩
  have hk2 : K ≤ 9223372036854775807 := by unfold inI64 at hk; omega
  have hk3 : 0 ≤ K := by omega
  have hT64 : T ≤ 64 := by omega
  obtain ⟨L, hL⟩ : ∃ L, L = p.ws.length := ⟨_, rfl⟩
  have c1 : w.cell? ⟨R, 1, none⟩ = some (.slice aw L cw) := by rw [hr.c, hL]; rfl
  rw [← hL] at hst0 hws
  replace hr := Lib.hid hr
  replace h := Lib.hid h
  replace hS := Lib.hid hS
  replace hSl := Lib.hid hSl
  replace hst0 := Lib.hid hst0
  replace hK := Lib.hid hK
  replace hT := Lib.hid hT
  replace hT0 := Lib.hid hT0
  replace hL := Lib.hid hL
  replace hk := Lib.hid hk
  replace ht := Lib.hid ht
  replace hs := Lib.hid hs
  go_enter Tryd.func32, Tryd.ntmps32
  go_upto_if 13 with fail
  go_cut [1] from 12 to 14 (fun s1 wx => wx = w ∧ s1 = .int .i64 K)
  case first =>
    by_cases hk0 : kept < 0
    · go_wp2_with fail
      go_meet
      exact ⟨rfl, by have := hK.out; rw [this, show max kept 0 = 0 from by omega]⟩
    · go_wp2_with fail
      go_meet
      exact ⟨rfl, by have := hK.out; rw [this, show max kept 0 = kept from by omega]⟩
  case rest =>
    obtain ⟨rfl, rfl⟩ := hcut
    go_upto_if 15 with fail
    go_cut [2] from 14 to 16 (fun s2 wx => wx = wc ∧ s2 = .int .i64 T0)
    case first =>
      by_cases hk0 : torn < 0
      · go_wp2_with fail
        go_meet
        exact ⟨rfl, by have := hT0.out; rw [this, show max torn 0 = 0 from by omega]⟩
      · go_wp2_with fail
        go_meet
        exact ⟨rfl, by have := hT0.out; rw [this, show max torn 0 = torn from by omega]⟩
    case rest =>
      obtain ⟨rfl, rfl⟩ := hcut
      go_upto_if 17 with fail
      go_cut [2] from 16 to 18 (fun s2 wx => wx = wc ∧ s2 = .int .i64 (T : Int))
      case first =>
        by_cases hk0 : 64 < T0
        · go_wp2_with fail
          go_meet
          exact ⟨rfl, by have h1 := hT0.out; have h2 := hT.out; rw [h2, ← h1, show min T0 64 = 64 from by omega]⟩
        · go_wp2_with fail
          go_meet
          exact ⟨rfl, by have h1 := hT0.out; have h2 := hT.out; rw [h2, ← h1, show min T0 64 = T0 from by omega]⟩
      case rest =>
        obtain ⟨rfl, rfl⟩ := hcut
        go_wp2_with fail
        refine wp_loopF [(false, 8), (true, 4), (false, 11), (true, 41), (false, 12)] _ [] (fun U wr => ∃ k : Nat, k ≤ L ∧ U 23 = .int .i64 k ∧ RGo base wc wr R n va (.slice aw L cw) F p rl (crashK kept torn s) k) (fun U _ => L - (intOf (U 23)).toNat) ?_ ?_
        · simp only [List.getD_cons_zero, List.getD_cons_succ]
          exact ⟨0, Nat.zero_le _, rfl, hst0.out⟩
        · clear hst0 c1
          intro U wr hrel KK hback l' hl'
          obtain ⟨k, hkl, h23, hgo⟩ := hrel
          simp only [fillS, popSeg, cond_true, cond_false, Nat.reduceAdd, h23] at hl'
          subst hl'
          replace h23 := Lib.hid h23
          by_cases hlt : k < L
          · have hlt2 : (k : Int) < L := by omega
            obtain ⟨g, i, a', c', rfl, d0, d1, hround⟩ := hgo.round hbs hn (by rw [← hL.out]; exact hlt)
            obtain ⟨wb, hwb⟩ : ∃ wb, wb = wr.alloc (.cells #[.int .i64 i, .slice a' 64 c'] 77) := ⟨_, rfl⟩
            have hrd := Lib.hid (hround wb hwb)
            have hbx : wb.heap[wr.heap.size]? = some (.cells #[.int .i64 i, .slice a' 64 c'] 77 (0, 0)) := by rw [hwb]; exact heap_alloc_new wr _
            have b0 : wb.cell? ⟨wr.heap.size, 0, none⟩ = some (.int .i64 i) := by rw [cell_of_block hbx]; rfl
            have b1 : wb.cell? ⟨wr.heap.size, 1, none⟩ = some (.slice a' 64 c') := by rw [cell_of_block hbx]; rfl
            have hfin : ∀ w', RGo base wc w' R n va (.slice (some ⟨g, 0, none⟩) L cw) F p rl (crashK kept torn s) (k + 1) → (∃ j : Nat, j ≤ L ∧ Value.int .i64 ((k : Int) + 1) = .int .i64 j ∧ RGo base wc w' R n va (.slice (some ⟨g, 0, none⟩) L cw) F p rl (crashK kept torn s) j) := fun w' hg => ⟨k + 1, by omega, by go_num, hg⟩
            have hsub : IntKind.i64.wrap ((k : Int) - K) = k - K := IntWalk.i64_in _ (by omega)
            replace hwb := Lib.hid hwb
            replace hfin := Lib.hid hfin
            clear hround hbx hgo
            by_cases k1 : (k : Int) < K
            · have hks : crashK kept torn s k = some 64 := by unfold crashK; rw [← hK.out, if_pos k1]
              have hdo := Lib.hid (hrd.out.1 64 (Nat.le_refl _) hks 64 rfl)
              clear hks hrd
              go_wp2_with fail
              rw [← hwb.out]
              go_wp2_with fail
              with_reducible refine hdo.out.mono ?_
              rintro x4 w4 ⟨rfl, hd⟩
              replace hd := Lib.hid hd
              clear hdo b0 b1 d0 d1
              go_wp2_with fail
              refine hback.out _ _ (by kernel_rfl) ?_ ?_
              · simp only [List.getD_cons_zero, List.getD_cons_succ]
                exact hfin.out _ hd.out
              · have h23 := h23.out
                simp only [List.getD_cons_zero, List.getD_cons_succ, h23, intOf]
                omega
            · by_cases k2 : (k : Int) = K
              · have hks : crashK kept torn s k = some T := by
                  unfold crashK
                  rw [← hK.out, if_neg k1, if_pos k2, ← hT.out]
                  rfl
                have hdo := Lib.hid (hrd.out.1 T hT64 hks T rfl)
                have hkb : ((k : Int) == K) = true := by simpa using k2
                clear hks hrd k2
                go_wp2_with fail
                rw [← hwb.out]
                go_wp2_with fail
                with_reducible refine hdo.out.mono ?_
                rintro x4 w4 ⟨rfl, hd⟩
                replace hd := Lib.hid hd
                clear hdo b0 b1 d0 d1
                go_wp2_with fail
                refine hback.out _ _ (by kernel_rfl) ?_ ?_
                · simp only [List.getD_cons_zero, List.getD_cons_succ]
                  exact hfin.out _ hd.out
                · have h23 := h23.out
                  simp only [List.getD_cons_zero, List.getD_cons_succ, h23, intOf]
                  omega
              · have hkb : ((k : Int) == K) = false := by simpa using k2
                obtain ⟨D, hD⟩ : ∃ D : Nat, (k : Int) - K - 1 = (D : Int) := ⟨((k : Int) - K - 1).toNat, by omega⟩
                have hks0 : crashK kept torn s k = if D < 63 ∧ s / 2 ^ D % 2 = 1 then some 64 else none := by
                  rw [crashK_far (by rw [← hK.out]; omega) hs.out, ← hK.out, hD]
                  have : ((D : Int) < 63) ↔ D < 63 := by omega
                  simp only [this, Int.toNat_natCast]
                have hsub2 : IntKind.i64.wrap ((k : Int) - K - 1) = (D : Int) := by rw [hD]; exact IntWalk.i64_in _ (by omega)
                replace hks0 := Lib.hid hks0
                replace hD := Lib.hid hD
                by_cases hD63 : D < 63
                · have hd63 : (D : Int) < 63 := by omega
                  go_wp2_with fail
                  rw [← hwb.out]
                  go_wp2_with fail
                  refine wp_loopF [(false, 10), (true, 2), (false, 35), (true, 10), (false, 19)] _ [] (fun U2 W' => ∃ j : Nat, j ≤ D ∧ U2 11 = .int .i64 j ∧ U2 10 = .int .u64 ((s / 2 ^ j : Nat) : Int) ∧ W' = wb) (fun U2 _ => D - (intOf (U2 11)).toNat) ?_ ?_
                  · simp only [List.getD_cons_zero, List.getD_cons_succ]
                    exact ⟨0, Nat.zero_le _, rfl, by simp, trivial⟩
                  · intro U2 wr2 hrel2 KK2 hback2 l2 hl2
                    obtain ⟨j, hj, h11, h10, rfl⟩ := hrel2
                    have hqs : s / 2 ^ j ≤ s := Nat.div_le_self _ _
                    have hqn : s / 2 ^ (j + 1) = s / 2 ^ j / 2 := by rw [Nat.pow_succ, Nat.div_div_eq_div_mul]
                    have hsl := hs.out
                    generalize hq : s / 2 ^ j = q at *
                    simp only [fillS, popSeg, cond_true, cond_false, Nat.reduceAdd, h11, h10] at hl2
                    subst hl2
                    replace h11 := Lib.hid h11
                    replace hqn := Lib.hid hqn
                    by_cases hjD : j < D
                    · have hjD2 : (j : Int) < D := by omega
                      replace hq := Lib.hid hq
                      go_wp2_with fail
                      refine hback2.out _ _ (by kernel_rfl) ?_ ?_
                      · simp only [List.getD_cons_zero, List.getD_cons_succ]
                        exact ⟨j + 1, by omega, by go_num, by rw [hqn.out, Int.natCast_ediv]; rfl, trivial⟩
                      · have h11 := h11.out
                        simp only [List.getD_cons_zero, List.getD_cons_succ, h11, intOf]
                        omega
                    · obtain rfl : D = j := by omega
                      rw [hq] at hks0
                      by_cases hq1 : q % 2 = 1
                      · have hqi : (q : Int) % 2 = 1 := by omega
                        have hks : crashK kept torn s k = some 64 := by rw [hks0.out, if_pos ⟨hD63, hq1⟩]
                        have hdo := Lib.hid (hrd.out.1 64 (Nat.le_refl _) hks 64 rfl)
                        replace hq := Lib.hid hq
                        clear hks hrd
                        go_wp2_with fail
                        with_reducible refine hdo.out.mono ?_
                        rintro x4 w4 ⟨rfl, hd⟩
                        replace hd := Lib.hid hd
                        clear hdo b0 b1 d0 d1
                        go_wp2_with fail
                        refine hback.out _ _ (by kernel_rfl) ?_ ?_
                        · simp only [List.getD_cons_zero, List.getD_cons_succ]
                          exact hfin.out _ hd.out
                        · have h23 := h23.out
                          simp only [List.getD_cons_zero, List.getD_cons_succ, h23, intOf]
                          omega
                      · have hqi : ¬ (q : Int) % 2 = 1 := by omega
                        have hqb : ((q : Int) % 2 == 1) = false := by simpa using hqi
                        have hks : crashK kept torn s k = none := by rw [hks0.out, if_neg (fun e => hq1 e.2)]
                        have hno := Lib.hid (hrd.out.2 hks wr2 (Below.refl _ _))
                        replace hq := Lib.hid hq
                        clear hks hrd
                        go_wp2_with fail
                        refine hback.out _ _ (by kernel_rfl) ?_ ?_
                        · simp only [List.getD_cons_zero, List.getD_cons_succ]
                          exact hfin.out _ hno.out
                        · have h23 := h23.out
                          simp only [List.getD_cons_zero, List.getD_cons_succ, h23, intOf]
                          omega
                · have hd63 : ¬ (D : Int) < 63 := by omega
                  have hks : crashK kept torn s k = none := by rw [hks0.out, if_neg (fun e => hD63 e.1)]
                  have hno := Lib.hid (hrd.out.2 hks wb (Below.refl _ _))
                  clear hks hrd
                  go_wp2_with fail
                  rw [← hwb.out]
                  go_wp2_with fail
                  refine hback.out _ _ (by kernel_rfl) ?_ ?_
                  · simp only [List.getD_cons_zero, List.getD_cons_succ]
                    exact hfin.out _ hno.out
                  · have h23 := h23.out
                    simp only [List.getD_cons_zero, List.getD_cons_succ, h23, intOf]
                    omega
          · obtain rfl : L = k := by omega
            obtain ⟨F', h1, h2, h3, h4⟩ := hgo
            rw [hL.out, List.take_length] at h1
            have c1 : wr.cell? ⟨R, 1, none⟩ = some (.slice aw L cw) := by rw [hL.out, h1.c]; rfl
            have f1 := h1.free 1
            have hU1 := (Upd.refl h1.at_).setCell (j := 1) (.slice none 0 0)
            have hU2 := hU1.setCell (j := 4) (.bool false)
            have hU3 := hU2.setCell (j := 2) (.bool false)
            have hU4 := hU3.setCell (j := 3) (.int .i64 0)
            have e4 : (wr.setCell ⟨R, 1, none⟩ (.slice none 0 0)).cell? ⟨R, 4, none⟩ = some (.bool p.gone) := by rw [cell_of_block hU1.here]; rfl
            have g4 : (wr.setCell ⟨R, 1, none⟩ (.slice none 0 0)).frozen? ⟨R, 4, none⟩ = false := free_of_block hU1.here _
            have e2 : ((wr.setCell ⟨R, 1, none⟩ (.slice none 0 0)).setCell ⟨R, 4, none⟩ (.bool false)).cell? ⟨R, 2, none⟩ = some (.bool p.armed) := by rw [cell_of_block hU2.here]; rfl
            have g2 : ((wr.setCell ⟨R, 1, none⟩ (.slice none 0 0)).setCell ⟨R, 4, none⟩ (.bool false)).frozen? ⟨R, 2, none⟩ = false := free_of_block hU2.here _
            have e3 : (((wr.setCell ⟨R, 1, none⟩ (.slice none 0 0)).setCell ⟨R, 4, none⟩ (.bool false)).setCell ⟨R, 2, none⟩ (.bool false)).cell? ⟨R, 3, none⟩ = some (.int .i64 rl) := by rw [cell_of_block hU3.here]; rfl
            have g3 : (((wr.setCell ⟨R, 1, none⟩ (.slice none 0 0)).setCell ⟨R, 4, none⟩ (.bool false)).setCell ⟨R, 2, none⟩ (.bool false)).frozen? ⟨R, 3, none⟩ = false := free_of_block hU3.here _
            have a4 : wr.cell? ⟨R, 4, none⟩ = some (.bool p.gone) := by rw [h1.c]; rfl
            have a2 : wr.cell? ⟨R, 2, none⟩ = some (.bool p.armed) := by rw [h1.c]; rfl
            have a3 : wr.cell? ⟨R, 3, none⟩ = some (.int .i64 rl) := by rw [h1.c]; rfl
            have q4 := h1.free 4
            have q2 := h1.free 2
            have q3 := h1.free 3
            replace hU4 := Lib.hid hU4
            replace h1 := Lib.hid h1
            replace h4 := Lib.hid h4
            clear hU1 hU2 hU3
            go_wp2_with fail
            go_end0
            have hst := h1.out.cleared (l' := 0) (a := false) (g := false) hU4.out (fun e => by cases e) (by decide)
            refine ⟨rfl, ?_⟩
            have hfin : RStep base wc _ R n { p with f := doneK (crashK kept torn s) p.ws p.f, ws := [], armed := false, l := 0, gone := false } S := RStep.mk' h.out hbs hst ?_ (fun k hk => .inl (hS.out.2.1 k hk)) (fun k hk => by cases hk) (fun k hk => Or.imp (fun e => hS.out.2.2.2 k e) (fun e => by omega) (h3 k hk))
            · exact hfin
            · have k2 : Only S wc wr := h4.out.mono (fun k _ e => hS.out.2.1 k e)
              exact k2.trans ((Only.ofUpd hU4.out rfl : Only (fun k => k = R) _ _).mono (fun _ _ e => e ▸ hS.out.1)) (fun _ _ h => h)
end Go.Proofs.YtdgilgnaoifpcaaDoor
