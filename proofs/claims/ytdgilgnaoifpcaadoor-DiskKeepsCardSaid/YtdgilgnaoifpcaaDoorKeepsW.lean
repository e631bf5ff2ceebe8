/- DiskKeeps returns true, for all acts. -/
import Derived.Test.YtdgilgnaoifpcaaDoorKeepsL
import Derived.Test.YtdgilgnaoifpcaaDoorLoopF
namespace Go.Proofs.YtdgilgnaoifpcaaDoor
open Go.RowKit

theorem DErr.below {w w' : World} {e : Nat → Addr} (h : DErr w e) (hb : Below w.heap.size w w') : DErr w' e :=
  ⟨(hb.cell (p := ⟨0, 0, none⟩) (World.block_lt_of_cell? w _ h.range)).trans h.range, (hb.cell (p := ⟨1, 0, none⟩) (World.block_lt_of_cell? w _ h.size)).trans h.size, (hb.cell (p := ⟨2, 0, none⟩) (World.block_lt_of_cell? w _ h.power)).trans h.power⟩
theorem DErr.ltP {w : World} {e : Nat → Addr} (h : DErr w e) : 2 < w.heap.size := by have := World.block_lt_of_cell? w _ h.power; simpa using this

set_option maxRecDepth 100000 in
set_option maxHeartbeats 4000000 in
theorem keeps_walk (a : Option Addr) (c : Nat) (xs : List ActD) (w : World) (hA : ArgA w a xs) (kept torn : Int) (scat : Nat) (at0 : Int) (hkept : inI64 kept) (htorn : inI64 torn) (hscat : scat < 18446744073709551616) (hat0 : inI64 at0) (e : Nat → Addr) (hE : DErr w e) :
    Calls Tryd.prog 3 #[.slice a xs.length c, .agg #[.int .i64 kept, .int .i64 torn, .int .u64 (scat : Int)], .int .i64 at0] w fun x w' => x = .returned (.bool true) ∧ Below w.heap.size w w' := by
  obtain ⟨w1, hw1⟩ : ∃ w1, w1 = w.alloc (.cells #[.int .i64 kept, .int .i64 torn, .int .u64 (scat : Int)] 25) := ⟨_, rfl⟩
  have hG1 : Below w.heap.size w w1 := by rw [hw1]; exact (Below.refl _ _).alloc (Nat.le_refl _) _
  have hbx : w1.heap[w.heap.size]? = some (.cells #[.int .i64 kept, .int .i64 torn, .int .u64 (scat : Int)] 25 (0, 0)) := by rw [hw1]; exact heap_alloc_new w _
  have hs1 : w1.heap.size = w.heap.size + 1 := by rw [hw1]; exact World.size_alloc ..
  have hE1 := hE.below hG1
  have hal := Lib.hid (alive18_any w1 e hE1)
  obtain ⟨L, hL⟩ : ∃ L, L = xs.length := ⟨_, rfl⟩
  have hA1 := Lib.hid (hA.below hG1)
  rw [← hL]
  replace hL := Lib.hid hL
  replace hw1 := Lib.hid hw1
  replace hbx := Lib.hid hbx
  replace hs1 := Lib.hid hs1
  replace hG1 := Lib.hid hG1
  replace hE1 := Lib.hid hE1
  replace hE := Lib.hid hE
  replace hkept := Lib.hid hkept
  replace htorn := Lib.hid htorn
  replace hscat := Lib.hid hscat
  obtain ⟨A, hAd⟩ : ∃ A, at0 % 8 = A := ⟨_, rfl⟩
  have hA0 : 0 ≤ A := by omega
  have hA8 : A < 8 := by omega
  have hu0 : IntKind.u64.wrap at0 = at0 % 18446744073709551616 := rfl
  have hu1 : at0 % 18446744073709551616 % 8 = A := by omega
  clear hA
  by_cases hlong : 60 < L
  · have hl2 : (60 : Int) < L := by omega
    go_enter Tryd.func3, Tryd.ntmps3
    go_wp2_with fail
    rw [← hw1.out]
    with_reducible refine hal.out.mono ?_
    rintro x w2 ⟨rfl, hb2⟩
    replace hb2 := Lib.hid hb2
    go_wp2_with fail
    go_ret
    exact ⟨rfl, hG1.out.trans (hb2.out.mono hG1.out.size)⟩
  · have hl2 : ¬ ((60 : Int) < L) := by omega
    go_enter Tryd.func3, Tryd.ntmps3
    go_wp2_with fail
    rw [← hw1.out]
    with_reducible refine hal.out.mono ?_
    rintro x w2 ⟨rfl, hb2⟩
    clear hal
    have hn := Lib.hid (dnew_yes 8 (by decide) (by decide) w2)
    have hd := Lib.hid (dm_new 8 w2 w1.heap.size hb2.size)
    have hb3 : Below w1.heap.size w1 ((w2.alloc (.map #[] 0)).alloc (.cells (dcells 8 w2.heap.size (.slice none 0 0) false 0 false) 59)) := (hb2.alloc hb2.size _).alloc (by have := hb2.size; simp; omega) _
    have hs3 : ((w2.alloc (.map #[] 0)).alloc (.cells (dcells 8 w2.heap.size (.slice none 0 0) false 0 false) 59)).heap.size = w2.heap.size + 2 := by simp
    have hsz2 := hb2.size
    generalize hW3 : (w2.alloc (.map #[] 0)).alloc (.cells (dcells 8 w2.heap.size (.slice none 0 0) false 0 false) 59) = w3 at *
    replace hb2 := Lib.hid hb2
    replace hb3 := Lib.hid hb3
    replace hW3 := Lib.hid hW3
    replace hs3 := Lib.hid hs3
    go_wp2_with fail
    with_reducible refine hn.out.mono ?_
    rintro x w4 ⟨rfl, hq⟩
    obtain rfl : w3 = w4 := hq.symm
    clear hq hn hW3
    go_wp2_with fail
    have hrow0 : RowsOf RB 36 1 w1.heap.size (w3.alloc (.cells #[] 36)) (fun _ => False) (.slice (some ⟨w3.heap.size, 0, none⟩) 0 0) ([] : List (List UInt8)) := RowsOf.made0 w3 w1.heap.size hb3.out.size
    have hG4 : Below w3.heap.size w3 (w3.alloc (.cells #[] 36)) := (Below.refl _ _).alloc (Nat.le_refl _) _
    have hinv0 : KInv w1.heap.size w1 (w3.alloc (.cells #[] 36)) (w2.heap.size + 1) w2.heap.size A 0 (.slice (some ⟨w3.heap.size, 0, none⟩) 0 0) :=
      ⟨0, _, _, _, hd.out.below hG4, rfl, rfl, rfl, Nat.le_refl _, Nat.le_refl _, ⟨by decide, by decide⟩, hrow0, fun _ h => False.elim h, fun k hk => (by
        obtain rfl : k = w3.heap.size := by simpa [Value.ownBlock] using hk.symm
        have := hs3.out
        rintro (h | h | h)
        · omega
        · omega
        · cases h), hb3.out.trans (hG4.mono hb3.out.size)⟩
    have hs4 : w1.heap.size ≤ (w3.alloc (.cells #[] 36)).heap.size := Nat.le_trans hb3.out.size hG4.size
    have hBE : 2 ≠ w2.heap.size + 1 := by have := hE1.out.ltP; omega
    have hBB : w1.heap.size ≤ w2.heap.size := hsz2
    generalize w3.alloc (.cells #[] 36) = w4 at *
    generalize hBd : w2.heap.size + 1 = B at *
    generalize hmbd : w2.heap.size = mb at *
    replace hinv0 := Lib.hid hinv0
    replace hBd := Lib.hid hBd
    replace hmbd := Lib.hid hmbd
    rw [hu1]
    clear hrow0 hG4 hd hb2 hb3 hs3 hu0 hu1 hsz2
    refine wp_loopF [(false, 9), (true, 1), (false, 1), (true, 2), (false, 29), (true, 37)] _ [] (fun U wr => ∃ k : Nat, k ≤ L ∧ U 42 = .int .i64 k ∧ KInv w1.heap.size w1 wr B mb A k (U 9) ∧ w1.heap.size ≤ wr.heap.size)
      (fun U _ => L - (intOf (U 42)).toNat) ?_ ?_
    · simp only [List.getD_cons_zero, List.getD_cons_succ]
      exact ⟨0, Nat.zero_le _, rfl, hinv0.out, hs4⟩
    · clear hinv0 hs4
      intro U wr hrel KK hback l' hl'
      obtain ⟨k, hk, h42, hinv, hsz⟩ := hrel
      simp only [fillS, popSeg, cond_true, cond_false, Nat.reduceAdd, h42] at hl'
      generalize hvv : U 9 = vv at *
      subst hl'
      replace h42 := Lib.hid h42
      replace hvv := Lib.hid hvv
      by_cases hlt : k < L
      · have hlt2 : (k : Int) < L := by omega
        obtain ⟨b, o, rfl, hat0⟩ := hA1.out.row k (by rw [← hL.out]; exact hlt)
        have hat := (hat0.below (by obtain ⟨_, _, _, _, _, _, _, _, _, _, _, _, _, _, hbel⟩ := hinv; exact hbel))
        clear hat0
        obtain ⟨c0, c1, c2, c3, c4, c5, c6, hwf⟩ := hat
        generalize xs[k]'(by rw [← hL.out]; exact hlt) = x at *
        replace hinv := Lib.hid hinv
        have hn1 := hwf.at_
        have hscw := hwf.scat
        replace hwf := Lib.hid hwf
        go_wp2_with fail
        generalize hWA : wr.alloc (.cells #[.int .i64 x.kind, .int .i64 x.at_, .int .i64 x.n, .int .i64 x.kept, .int .i64 x.torn, .int .u64 (x.scat : Int), .int .i64 x.long] 35) = wA
        have hgA : Below wr.heap.size wr wA := hWA ▸ (Below.refl _ _).alloc (Nat.le_refl _) _
        have hbxA : wA.heap[wr.heap.size]? = some (.cells x.cells 35 (0, 0)) := hWA ▸ heap_alloc_new wr _
        have hsA := hgA.size
        have hltX := block_lt hbxA
        have hfil := Lib.hid (filled_any x.n 64 (by decide) wA)
        rw [show ((64 : Nat) : Int) = 64 from rfl] at hfil
        clear c0 c1 c2 c3 c4 c5 c6
        obtain ⟨mn, v, p, F, hdm0, hp8, hpa, hpg, hpw, hpm, hpl, hrows0, hF, hvF, hbel0⟩ := hinv.out
        have hDX : ∀ k, DiskD B mb v k → k < wr.heap.size := fun k hk => (hdm0.lt k hk).2
        have hvX : ∀ k, vv.ownBlock = some k → k < wr.heap.size := fun k hk => (hrows0.ownLt k hk).2
        have hdm := hdm0.below hgA
        have hrows := hrows0.below liesRB hgA
        have hbel := hbel0.trans (hgA.mono hsz)
        clear hdm0 hrows0 hbel0 hinv
        generalize wr.heap.size = X at *
        have hXD : ¬ DiskD B mb v X := fun h => Nat.lt_irrefl _ (hDX X h)
        have hXv : Hid (vv.ownBlock ≠ some X) := Lib.hid (fun h => Nat.lt_irrefl _ (hvX X h))
        have hvlt : Hid (∀ k, vv.ownBlock = some k → k < wA.heap.size) := Lib.hid (fun k hk => Nat.lt_of_lt_of_le (hvX k hk) hsA)
        clear hvX
        clear hDX
        replace hXD := Lib.hid hXD
        replace hWA := Lib.hid hWA
        with_reducible refine hfil.out.mono ?_
        rintro y w5 ⟨vf, bs, rfl, hof, hbl, hb5⟩
        clear hfil
        have hs5 := hb5.size
        have hbx5 := (hb5.block X hltX).trans hbxA
        have d0 : w5.cell? ⟨X, 0, none⟩ = some (.int .i64 x.kind) := by rw [cell_of_block hbx5]; rfl
        have d1 : w5.cell? ⟨X, 1, none⟩ = some (.int .i64 x.at_) := by rw [cell_of_block hbx5]; rfl
        have hof2 : ∀ k, vf.ownBlock = some k → wA.heap.size ≤ k ∧ k < w5.heap.size := fun k hk => World.ownsRow.lt hof k hk
        have hdm5 := hdm.below hb5
        have hrows5 := hrows.below liesRB hb5
        have hbel5 := hbel.trans (hb5.mono (by omega))
        have hE5 := hE1.out.below hbel5
        have hDlt : ∀ k, DiskD B mb v k → k < wA.heap.size := fun k hk => (hdm.lt k hk).2
        have hbad : p.bad = false := by unfold DP.bad; rw [hpg, hpa]; rfl
        obtain ⟨af, cf_, rfl, harg, hargl⟩ := hof.arg
        have hrb : RB w5 (fun k => (Value.slice af bs.length cf_).ownBlock = some k) bs [.slice af bs.length cf_] := rb_own hof
        replace hbx5 := Lib.hid hbx5
        replace hbl := Lib.hid hbl
        replace hof := Lib.hid hof
        clear hgA hWA hb5 hbxA
        have hb5s : w1.heap.size ≤ w5.heap.size := by omega
        by_cases hk0 : x.kind = 0
        · rw [hk0] at d0
          have hD5 : ∀ b o s, af = some ⟨b, o, s⟩ → ¬ DiskD B mb v b := fun b o s e hd => by
            have h1 := hargl b o s e
            have h2 := hDlt b hd
            omega
          have hwr := dwrite_any hdm5 hb5s (by omega) (by omega) e hE5 hBE x.at_ af cf_ bs harg hD5
          by_cases hin : x.at_ < 0 ∨ p.n ≤ x.at_
          · have hpw2 : p.write x.at_ bs = (p, 1) := by unfold DP.write; rw [if_pos hin]
            rw [hpw2] at hwr
            replace hwr := Lib.hid hwr
            replace hdm5 := Lib.hid hdm5
            replace hrows5 := Lib.hid hrows5
            clear hpw2 hrb harg hargl hD5 hin hdm hrows hbel hE5 hDlt
            go_wp2_with fail
            with_reducible refine hwr.out.mono ?_
            rintro y w6 ⟨rfl, v6, hst⟩
            have hks := KStep hdm5.out hrows5.out hF hvF hbel5 hb5s hst
            have h6s := hst.only.size
            have hinv6 : Hid (KInv w1.heap.size w1 w6 B mb A (k + 1) vv) := Lib.hid ⟨mn, v6, p, F, hst.ok, hp8, hpa, hpg, by omega, by omega, by omega, hks.1, hks.2.1, hks.2.2.1, hks.2.2.2⟩
            have e0 : w6.cell? ⟨X, 0, none⟩ = some (.int .i64 0) := by rw [cell_of_block (hst.only.heap hbx5.out hXD.out)]; show some (Value.int .i64 x.kind) = _; rw [hk0]
            clear hks hst hwr hdm5 hrows5
            simp only [errV]
            go_wp2_with fail
            refine hback.out _ _ (by kernel_rfl) ?_ ?_
            · simp only [List.getD_cons_zero, List.getD_cons_succ]
              exact ⟨k + 1, by omega, by go_num, hinv6.out, by omega⟩
            · have h42 := h42.out
              simp only [List.getD_cons_zero, List.getD_cons_succ, h42, intOf]
              omega
          · obtain ⟨i, hi⟩ : ∃ i, x.at_ = i := ⟨_, rfl⟩
            rw [hi] at d1 hwr hin
            have hpw2 : p.write i bs = ({ p with l := p.l - 1, ws := p.ws ++ [(i, bs)] }, 0) := by unfold DP.write; rw [if_neg hin, if_neg (by have := hbl.out; omega), hbad]; rfl
            rw [hpw2] at hwr
            have hks := fun w6 v6 hst => KStep (w6 := w6) (mn' := mn) (v' := v6) (p' := { p with l := p.l - 1, ws := p.ws ++ [(i, bs)] }) hdm5 hrows5 hF hvF hbel5 hb5s hst
            replace hks := Lib.hid hks
            replace hwr := Lib.hid hwr
            have hHd := hDlt
            replace hdm5 := Lib.hid hdm5
            replace hrows5 := Lib.hid hrows5
            replace hHd := Lib.hid hHd
            replace hrb := Lib.hid hrb
            replace hof2 := Lib.hid hof2
            replace hF := Lib.hid hF
            replace hvF := Lib.hid hvF
            clear hpw2 harg hargl hD5 hdm hrows hbel hE5 hDlt
            by_cases hat : i = A
            · have hat2 : A = i := hat.symm
              subst hat2
              have hin2 := Lib.hid hin
              clear hin hat
              replace hi := Lib.hid hi
              go_wp2_with fail
              with_reducible refine hwr.out.mono ?_
              rintro y w6 ⟨rfl, v6, hst⟩
              have h6s := hst.only.size
              have e6 := hst.only.heap hbx5.out hXD.out
              have e0 : w6.cell? ⟨X, 0, none⟩ = some (.int .i64 0) := by rw [cell_of_block e6]; show some (Value.int .i64 x.kind) = _; rw [hk0]
              have e1 : w6.cell? ⟨X, 1, none⟩ = some (.int .i64 A) := by rw [cell_of_block e6]; show some (Value.int .i64 x.at_) = _; rw [hi.out]
              obtain ⟨k1, k2, k3, k4⟩ := hks.out w6 v6 hst
              have hy6 : Hid (RB w6 (fun k => F k ∨ (Value.slice af bs.length cf_).ownBlock = some k) bs [Value.slice af bs.length cf_]) := Lib.hid (liesRB.more (liesRB.only hrb.out hst.only (fun k hk hd => by have h1 := hof2.out k hk; have h2 := hHd.out k hd; omega)) (fun k h => .inr h))
              have hF6 : Hid (∀ k, F k → F k ∨ (Value.slice af bs.length cf_).ownBlock = some k) := Lib.hid (fun k h => .inl h)
              have ha6 : Hid (∀ k, vv.ownBlock = some k → ¬ (F k ∨ (Value.slice af bs.length cf_).ownBlock = some k)) := Lib.hid (fun k hk h => by
                rcases h with h | h
                · exact k1.apart k hk h
                · have h1 := hof2.out k h
                  have h2 := hvlt.out k hk
                  omega)
              have hl6 : Hid (∀ k, F k ∨ (Value.slice af bs.length cf_).ownBlock = some k → k < w6.heap.size) := Lib.hid (fun k h => by
                rcases h with h | h
                · exact k1.lt k h
                · have h1 := hof2.out k h
                  omega)
              have hinfo : (Tryd.prog.info? 36).map (fun i => (i.zero.map (·.cells.size), i.size, i.bytes)) = some (some 1, 1, 24) := by kernel_rfl
              have hnl : Hid ((rowsOf A p.ws).length ≤ 1000000) := Lib.hid (by have := rowsOf_length A p.ws; omega)
              have hr6 := Lib.hid k1
              replace k2 := Lib.hid k2
              replace k3 := Lib.hid k3
              replace k4 := Lib.hid k4
              replace hst := Lib.hid hst
              replace e6 := Lib.hid e6
              replace hinfo := Lib.hid hinfo
              have hcX : Hid (∀ w7 : World, Hid (Only (fun k => vv.ownBlock = some k) w6 w7) → w7.cell? ⟨X, 0, none⟩ = some (.int .i64 0)) := Lib.hid (fun w7 hon => by
                rw [cell_of_block (hon.out.heap e6.out (fun h => hXv.out h))]; show some (Value.int .i64 x.kind) = _; rw [hk0])
              have hsX : Hid (∀ w7 : World, Hid (Only (fun k => vv.ownBlock = some k) w6 w7) → w6.heap.size ≤ w7.heap.size) := Lib.hid (fun w7 hon => hon.out.size)
              clear hks hwr hrows5 k1
              simp only [errV]
              go_wp2_with (at_builtin; refine wpList_appRows (P := Tryd.prog) (R := RB) (e := 36) (size := 1) (base := w1.heap.size) (F := F) (F' := fun k => F k ∨ (Value.slice af bs.length cf_).ownBlock = some k) rfl liesRB (.tmp 66) (.tmp 68) 33 rfl Tryd.underlying33 24 hinfo.out (by decide) rfl hr6 bs #[.slice af bs.length cf_] hy6 hF6 ha6 hl6 rfl hnl.out (by decide) (by omega) ?_; intro v7 w7 hr7 hon7 hmv7; have f0 := hcX.out w7 hon7; have h7s := hsX.out w7 hon7)
              have hka := KApp hdm5.out hHd.out hof2.out hst.out k2.out k3.out k4.out (by omega) hr6.out hr7.out hon7.out hmv7.out
              have hinv7 : Hid (KInv w1.heap.size w1 w7 B mb A (k + 1) v7) := Lib.hid ⟨mn, v6, _, _, hka.1, hp8, hpa, hpg, by simp; omega, by omega, by show _ ∧ _; simp only; omega, by show RowsOf _ _ _ _ _ _ _ (rowsOf A (p.ws ++ [(A, bs)])); rw [rowsOf_snoc_eq]; exact hr7.out, hka.2.1, hka.2.2.1, hka.2.2.2⟩
              clear hka hr7 hon7 hmv7
              go_wp2_with fail
              refine hback.out _ _ (by kernel_rfl) ?_ ?_
              · simp only [List.getD_cons_zero, List.getD_cons_succ]
                exact ⟨k + 1, by omega, by go_num, hinv7.out, by omega⟩
              · have h42 := h42.out
                simp only [List.getD_cons_zero, List.getD_cons_succ, h42, intOf]
                omega
            · have hatb : (i == A) = false := by simpa using hat
              replace hat := Lib.hid hat
              have hin2 := Lib.hid hin
              clear hin
              replace hi := Lib.hid hi
              go_wp2_with fail
              with_reducible refine hwr.out.mono ?_
              rintro y w6 ⟨rfl, v6, hst⟩
              have h6s := hst.only.size
              have e6 := hst.only.heap hbx5.out hXD.out
              have e0 : w6.cell? ⟨X, 0, none⟩ = some (.int .i64 0) := by rw [cell_of_block e6]; show some (Value.int .i64 x.kind) = _; rw [hk0]
              have e1 : w6.cell? ⟨X, 1, none⟩ = some (.int .i64 i) := by rw [cell_of_block e6]; show some (Value.int .i64 x.at_) = _; rw [hi.out]
              obtain ⟨k1, k2, k3, k4⟩ := hks.out w6 v6 hst
              have hinv6 : Hid (KInv w1.heap.size w1 w6 B mb A (k + 1) vv) := Lib.hid ⟨mn, v6, _, F, hst.ok, hp8, hpa, hpg, by simp; omega, by omega, by show _ ∧ _; simp only; omega, by show RowsOf _ _ _ _ _ _ _ (rowsOf A (p.ws ++ [(i, bs)])); rw [rowsOf_snoc_ne hat.out]; exact k1, k2, k3, k4⟩
              clear hks hst hwr hdm5 hrows5 k1 k2 k3 k4
              simp only [errV]
              go_wp2_with fail
              refine hback.out _ _ (by kernel_rfl) ?_ ?_
              · simp only [List.getD_cons_zero, List.getD_cons_succ]
                exact ⟨k + 1, by omega, by go_num, hinv6.out, by omega⟩
              · have h42 := h42.out
                simp only [List.getD_cons_zero, List.getD_cons_succ, h42, intOf]
                omega
        · have hkb : (x.kind == 0) = false := by simpa using hk0
          by_cases hk1 : x.kind = 1
          · rw [hk1] at d0
            have hsy := dsync_any hdm5 (by omega) (by omega) (by omega) (by omega) e hE5 hBE
            have hps : p.sync = ({ p with l := p.l - 1, f := doneK (fun _ => some 64) p.ws p.f, ws := [] }, 0) := by unfold DP.sync; rw [hbad]; rfl
            rw [hps] at hsy
            replace hsy := Lib.hid hsy
            replace hdm5 := Lib.hid hdm5
            replace hrows5 := Lib.hid hrows5
            replace hF := Lib.hid hF
            replace hvF := Lib.hid hvF
            clear hps hrb harg hargl hdm hrows hbel hE5 hDlt
            go_wp2_with fail
            with_reducible refine hsy.out.mono ?_
            rintro y w6 ⟨rfl, v6, mn6, hmn6, hst⟩
            have hks := KStep hdm5.out hrows5.out hF.out hvF.out hbel5 hb5s hst
            have h6s := hst.only.size
            have hinv6 : Hid (KInv w1.heap.size w1 w6 B mb A (k + 1) (.slice none 0 0)) := Lib.hid ⟨mn6, v6, _, fun _ => False, hst.ok, hp8, hpa, hpg, Nat.zero_le _, by omega, by show _ ∧ _; simp only; omega, RowsOf.nil _ _, fun _ h => False.elim h, fun k hk => (by cases hk), hks.2.2.2⟩
            clear hks hst hsy hdm5 hrows5
            simp only [errV]
            go_wp2_with fail
            refine hback.out _ _ (by kernel_rfl) ?_ ?_
            · simp only [List.getD_cons_zero, List.getD_cons_succ]
              exact ⟨k + 1, by omega, by go_num, hinv6.out, by omega⟩
            · have h42 := h42.out
              simp only [List.getD_cons_zero, List.getD_cons_succ, h42, intOf]
              omega
          · have hkb1 : (x.kind == 1) = false := by simpa using hk1
            have hinv6 : Hid (KInv w1.heap.size w1 w5 B mb A (k + 1) vv) := Lib.hid ⟨mn, v, p, F, hdm5, hp8, hpa, hpg, by omega, by omega, by omega, hrows5, hF, hvF, hbel5⟩
            clear hdm5 hrows5 hF hvF hrb harg hargl hdm hrows hbel hE5 hDlt hk0 hk1
            go_wp2_with fail
            refine hback.out _ _ (by kernel_rfl) ?_ ?_
            · simp only [List.getD_cons_zero, List.getD_cons_succ]
              exact ⟨k + 1, by omega, by go_num, hinv6.out, by omega⟩
            · have h42 := h42.out
              simp only [List.getD_cons_zero, List.getD_cons_succ, h42, intOf]
              omega
      · obtain rfl : k = L := by omega
        obtain ⟨mn, v, p, F, hdm, hp8, hpa, hpg, hpw, hpm, hpl, hrows, hF, hvF, hbel⟩ := hinv
        have hDlt := fun k hk => (hdm.lt k hk).2
        have hsu := Lib.hid (dsure_dm hdm (by omega) A hA0 (by omega))
        have hbx8 : wr.heap[w.heap.size]? = some (.cells #[.int .i64 kept, .int .i64 torn, .int .u64 (scat : Int)] 25 (0, 0)) := (hbel.block _ (by have := hs1.out; omega)).trans hbx.out
        have hblt := block_lt hbx8
        have hfl : ∀ i, (p.f i).length = 64 := by obtain ⟨_, _, _, hl, _⟩ := hdm.map; exact hl
        have hwl : ∀ q ∈ p.ws, q.2.length = 64 := fun q hq => (hdm.lens q hq).1
        replace hdm := Lib.hid hdm
        replace hrows := Lib.hid hrows
        replace hF := Lib.hid hF
        replace hvF := Lib.hid hvF
        replace hbel := Lib.hid hbel
        replace hDlt := Lib.hid hDlt
        replace hbx8 := Lib.hid hbx8
        replace hfl := Lib.hid hfl
        replace hwl := Lib.hid hwl
        clear hback hA1
        go_wp2_with fail
        with_reducible refine hsu.out.mono ?_
        rintro y w8 ⟨g1, rfl, hs1g, hg1, hb8⟩
        clear hsu
        have hs8 := hb8.size
        have hd8 := hdm.out.below hb8
        have hcr := Lib.hid (dcrash_dm hd8 (by omega) (by omega) (by omega) kept torn scat (scat : Int) rfl hkept.out htorn.out hscat.out)
        have c0 : w8.cell? ⟨w.heap.size, 0, none⟩ = some (.int .i64 kept) := by rw [cell_of_block ((hb8.block _ hblt).trans hbx8.out)]; rfl
        have c1 : w8.cell? ⟨w.heap.size, 1, none⟩ = some (.int .i64 torn) := by rw [cell_of_block ((hb8.block _ hblt).trans hbx8.out)]; rfl
        have c2 : w8.cell? ⟨w.heap.size, 2, none⟩ = some (.int .u64 (scat : Int)) := by rw [cell_of_block ((hb8.block _ hblt).trans hbx8.out)]; rfl
        replace hd8 := Lib.hid hd8
        replace hs1g := Lib.hid hs1g
        replace hb8 := Lib.hid hb8
        go_wp2_with fail
        with_reducible refine hcr.out.mono ?_
        rintro y w9 ⟨rfl, mn9, _, hst⟩
        clear hcr c0 c1 c2
        have hs9 := hst.only.size
        have hrd := Lib.hid (dread_dm hst.ok (by show p.n ≤ 2048; omega) (Nat.zero_le _) rfl A hA0 (by show A < p.n; omega))
        replace hst := Lib.hid hst
        go_wp2_with fail
        with_reducible refine hrd.out.mono ?_
        rintro y w10 ⟨g2, off, rfl, hrb2, hg2, hb10⟩
        clear hrd
        have hs10 := hb10.size
        obtain ⟨N, hN⟩ : ∃ N, N = (p.crash kept torn scat).f A := ⟨_, rfl⟩
        obtain ⟨W, hW⟩ : ∃ W, W = p.f A := ⟨_, rfl⟩
        have hN2 : seenW (p.crash kept torn scat).ws (p.crash kept torn scat).f A = N := hN.symm
        have hNl : N.length = 64 := by rw [hN]; obtain ⟨_, _, _, hl, _⟩ := hst.out.ok.map; exact hl A
        have hWl : W.length = 64 := by rw [hW]; exact hfl.out A
        rw [hN2] at hrb2
        rw [← hW] at hs1g
        have hNa := hrb2.argB hNl
        have hWa := hs1g.out.argB hWl
        have hcN : ∀ k, k < 64 → w10.cell? ⟨g2, off + k, none⟩ = some (.int .u8 ((N.getD k 0).toNat : Int)) := fun k hk => by
          obtain ⟨b, o, e1, hc⟩ := hNa.row k (by omega)
          cases e1
          exact hc
        have hgD : ¬ DiskD B mb v g1 := fun h => by have := hDlt.out g1 h; omega
        have hg1l : g1 < w8.heap.size := block_lt hs1g.out
        have hcW : ∀ k, k < 64 → w10.cell? ⟨g1, k, none⟩ = some (.int .u8 ((W.getD k 0).toNat : Int)) := fun k hk => by
          obtain ⟨b, o, e1, hc⟩ := hWa.row k (by omega)
          cases e1
          rw [Nat.zero_add] at hc
          rw [World.cell?_of_block (a := ⟨g1, k, none⟩) (hb10.block g1 (by omega)), World.cell?_of_block (a := ⟨g1, k, none⟩) (hst.out.only.block g1 hg1l hgD)]
          exact hc
        have hr10 := ((hrows.out.below liesRB hb8.out).only liesRB hst.out.only hF.out hvF.out).below liesRB hb10
        have hlaw : ∀ k, k < 64 → ((N.getD k 0) == (W.getD k 0) || (rowsOf A p.ws).any (fun r => r.getD k 0 == N.getD k 0)) = true := fun k _ => by
          rcases done_bytes A k p.ws (crashK kept torn scat) p.f hwl.out hfl.out (fun j m h => crashK_le h) with h | ⟨r, h1, h2⟩
          · have : N.getD k 0 = W.getD k 0 := by rw [hN, hW]; exact h
            rw [this, beq_self_eq_true]; rfl
          · have h3 : r.getD k 0 = N.getD k 0 := by rw [hN]; exact h2
            rw [Bool.or_eq_true]
            exact .inr (List.any_eq_true.2 ⟨r, h1, by simpa using h3⟩)
        have hrl := rowsOf_len hwl.out (A := A)
        have hpl2 := rowsOf_length A p.ws
        have hbelF := Lib.hid (hG1.out.trans (((hbel.out.trans (hb8.out.mono hsz)).trans (hst.out.only.below (by omega) (fun k hk => (hdm.out.lt k hk).1))).trans (hb10.mono (by omega)) |>.mono hG1.out.size))
        generalize rowsOf A p.ws = ps at *
        obtain ⟨av, cv, rfl, hav, _, _, _⟩ := hr10.form
        replace hr10 := Lib.hid hr10
        replace hlaw := Lib.hid hlaw
        replace hcN := Lib.hid hcN
        replace hcW := Lib.hid hcW
        replace hrl := Lib.hid hrl
        replace hN := Lib.hid hN
        replace hW := Lib.hid hW
        clear hrb2 hs1g hNa hWa hgD hg1l hst hb10 hb8 hd8 hdm hrows hF hvF hfl hwl hN2 hbx8 hbel hNl hWl hav
        go_wp2_with fail
        refine wp_loopF [(false, 15), (true, 3), (false, 1), (true, 1), (false, 90), (true, 30)] _ [] (fun U W' => ∃ k : Nat, k ≤ 64 ∧ U 110 = .int .i64 k ∧ W' = w10) (fun U _ => 64 - (intOf (U 110)).toNat) ?_ ?_
        · simp only [List.getD_cons_zero, List.getD_cons_succ]
          exact ⟨0, Nat.zero_le _, rfl, trivial⟩
        · intro U2 wr2 hrel2 KK2 hback2 l2 hl2
          obtain ⟨k2, hk2, h110, rfl⟩ := hrel2
          simp only [fillS, popSeg, cond_true, cond_false, Nat.reduceAdd, h110] at hl2
          subst hl2
          replace h110 := Lib.hid h110
          by_cases hlt2 : k2 < 64
          · have hlt3 : (k2 : Int) < 64 := by omega
            have hcn := hcN.out k2 hlt2
            have hcw := hcW.out k2 hlt2
            have hlw := Lib.hid (hlaw.out k2 hlt2)
            generalize N.getD k2 0 = x at *
            generalize W.getD k2 0 = y at *
            have hxy := u8_beq x y
            go_wp2_with fail
            refine wp_loopF [(false, 17), (true, 1), (false, 1), (true, 1), (false, 103), (true, 14)] _ [] (fun U W' => ∃ j : Nat, j ≤ ps.length ∧ U 123 = .int .i64 j ∧ U 17 = .bool (x == y || (ps.take j).any (fun r => r.getD k2 0 == x)) ∧ W' = wr2) (fun U _ => ps.length - (intOf (U 123)).toNat) ?_ ?_
            · simp only [List.getD_cons_zero, List.getD_cons_succ]
              exact ⟨0, Nat.zero_le _, rfl, by simp, trivial⟩
            · intro U3 wr3 hrel3 KK3 hback3 l3 hl3
              obtain ⟨j, hj, h123, h17, rfl⟩ := hrel3
              generalize hkn : (x == y || (ps.take j).any (fun r => r.getD k2 0 == x)) = kn at *
              simp only [fillS, popSeg, cond_true, cond_false, Nat.reduceAdd, h123, h17] at hl3
              subst hl3
              replace h123 := Lib.hid h123
              replace h17 := Lib.hid h17
              by_cases hjl : j < ps.length
              · have hj2 : (j : Int) < ps.length := by omega
                obtain ⟨g, c', cs, e1, hR, hrg⟩ := hr10.out.elem liesRB j ps[j] (List.getElem?_eq_getElem hjl)
                obtain ⟨a', c'', rfl, harg, _⟩ := hR
                cases e1
                have hcell : wr3.cell? ⟨g, j, none⟩ = some (.slice a' (ps[j]).length c'') := by
                  have := hrg 0 _ rfl
                  rwa [Nat.mul_one, Nat.add_zero] at this
                have hrl64 := hrl.out ps[j] (List.getElem_mem hjl)
                obtain ⟨b', o', rfl, hcb⟩ := harg.row k2 (by omega)
                have hnx := any_take (f := fun r => List.getD r k2 0 == x) hjl
                generalize (ps[j]).getD k2 0 = z at *
                have hzx := u8_beq z x
                rw [hrl64] at hcell
                have hnx2 : (x == y || (ps.take (j + 1)).any (fun r => r.getD k2 0 == x)) = (kn || (z == x)) := by rw [hnx, ← hkn, Bool.or_assoc]
                replace hnx2 := Lib.hid hnx2
                clear hnx hrg harg hrl64
                replace hkn := Lib.hid hkn
                cases kn
                · go_wp2_with fail
                  refine hback3.out _ _ (by kernel_rfl) ?_ ?_
                  · simp only [List.getD_cons_zero, List.getD_cons_succ]
                    exact ⟨j + 1, by omega, by go_num, by rw [hnx2.out]; simp, trivial⟩
                  · have h123 := h123.out
                    simp only [List.getD_cons_zero, List.getD_cons_succ, h123, intOf]
                    omega
                · go_wp2_with fail
                  refine hback3.out _ _ (by kernel_rfl) ?_ ?_
                  · simp only [List.getD_cons_zero, List.getD_cons_succ]
                    exact ⟨j + 1, by omega, by go_num, by rw [hnx2.out]; simp, trivial⟩
                  · have h123 := h123.out
                    simp only [List.getD_cons_zero, List.getD_cons_succ, h123, intOf]
                    omega
              · obtain rfl : j = ps.length := by omega
                have hkt : kn = true := by rw [← hkn, List.take_length]; exact hlw.out
                subst hkt
                replace hkn := Lib.hid hkn
                go_wp2_with fail
                refine hback2.out _ _ (by kernel_rfl) ?_ ?_
                · simp only [List.getD_cons_zero, List.getD_cons_succ]
                  exact ⟨k2 + 1, by omega, by go_num, trivial⟩
                · have h110 := h110.out
                  simp only [List.getD_cons_zero, List.getD_cons_succ, h110, intOf]
                  omega
          · obtain rfl : k2 = 64 := by omega
            go_wp2_with fail
            go_ret
            exact ⟨rfl, hbelF.out⟩
end Go.Proofs.YtdgilgnaoifpcaaDoor
