/- JRNext, JRScan, ScansLaw, ScansFin. -/
import Derived.Test.YtgkddegaiaeckaaDoorF9SafeSaid
import Derived.Test.YtgkddegaiaeckaaDoorF33SafeSaid
import Derived.Test.YtgkddegaiaeckaaDoorF18SafeSaid
import Derived.Test.YtgkddegaiaeckaaDoorF30SafeSaid
import Derived.Test.YtgkddegaiaeckaaDoorF35SafeSaid
import Derived.Test.YtgkddegaiaeckaaDoorF2SafeSaid
import Derived.Test.YtgkddegaiaeckaaDoorSent
/- The walk over baileeref19.Next. -/
namespace Go.Proofs.YtgkddegaiaeckaaDoor
open Go.RowKit

set_option maxRecDepth 100000 in
set_option maxHeartbeats 1000000 in
theorem rnext_any (h r : List UInt8) (hh : h.length = 32) (a : Option Addr) (c : Nat) (w : World) (ha : ArgB w a c r) (hr : r.length ≤ 1000) (hK : RefK w) (hF : RefF w) :
    Calls Tryd.prog 11 #[.agg (cB h).toArray, .slice a r.length c] w fun x w' => x = .returned (.agg (cB (nextB h r)).toArray) ∧ Below w.heap.size w w' := by
  have zr := zeroR_run
  have zn := zero32_ne
  have hN := nextB_len h r
  have hu1 : Tryd.prog.underlying 30 = some (.array 32 5) := Tryd.underlying30
  have tD : (Tryd.prog.info? 30).map (·.size) = some (cB (nextB h r)).toArray.size := by rw [List.size_toArray, cB_length, hN]; kernel_rfl
  have t32 := zero32_like hN
  have tO := cB_all (nextB h r)
  have hof := fun (v : Option Addr) (k : Nat) (W : World) hA hB hC => rshaOf_any v k (h ++ lnB r.length ++ r) W hA (by simp [hh, lnB]; omega) hB hC
  rw [show sha (h ++ lnB r.length ++ r) = nextB h r by simp [nextB]] at hof
  obtain ⟨N, hNd⟩ : ∃ N, N = (cB (nextB h r)).toArray := ⟨_, rfl⟩
  rw [← hNd] at tD t32 tO hof ⊢
  obtain ⟨H, hHd⟩ : ∃ H, H = (cB h).toArray := ⟨_, rfl⟩
  rw [← hHd]
  have hbx := heap_alloc_new w (.cells H 30 (0, 0))
  rw [hHd] at hbx
  have hq2 : ((w.alloc (.cells H 30)).alloc (.cells zero32 30)).heap.size = w.heap.size + 1 + 1 := by simp
  have hb2 : Below w.heap.size w ((w.alloc (.cells H 30)).alloc (.cells zero32 30)) := ((Below.refl _ w).alloc (Nat.le_refl _) _).alloc (by simp) _
  have hx2 : ((w.alloc (.cells H 30)).alloc (.cells zero32 30)).heap[w.heap.size]? = some (.cells (cB h).toArray 30 (0, 0)) := by rw [hHd] at *; exact (Below.heap_alloc _ _ _ (by simp)).trans hbx
  have hz2 : ((w.alloc (.cells H 30)).alloc (.cells zero32 30)).heap[w.heap.size + 1]? = some (.cells zero32 30 (0, 0)) := by
    have := heap_alloc_new (w.alloc (.cells H 30)) (.cells zero32 30 (0, 0))
    rwa [World.size_alloc] at this
  have hG3 := (Below.refl (w.heap.size + 1 + 1) ((w.alloc (.cells H 30)).alloc (.cells zero32 30))).alloc (by simp) (.cells #[] 5)
  have ho3 : OwnB (w.heap.size + 1 + 1) (((w.alloc (.cells H 30)).alloc (.cells zero32 30)).alloc (.cells #[] 5)) (.slice (some ⟨w.heap.size + 1 + 1, 0, none⟩) 0 0) [] := by
    have := owns_made0 ((w.alloc (.cells H 30)).alloc (.cells zero32 30)) (w.heap.size + 1 + 1) (by simp)
    rwa [hq2] at this
  have hG3' : Below ((w.alloc (.cells H 30)).alloc (.cells zero32 30)).heap.size ((w.alloc (.cells H 30)).alloc (.cells zero32 30)) (((w.alloc (.cells H 30)).alloc (.cells zero32 30)).alloc (.cells #[] 5)) := by rw [hq2]; exact hG3
  have hah := (argB_block hx2 (show h.length ≤ 32 by omega) (by decide)).below hG3'
  have hz3 : ∀ W, Below (w.heap.size + 1 + 1) (((w.alloc (.cells H 30)).alloc (.cells zero32 30)).alloc (.cells #[] 5)) W → W.heap[w.heap.size + 1]? = some (.cells zero32 30 (0, 0)) := fun W hW => ((hG3.trans hW).block _ (by omega)).trans hz2
  have hb3 : Below w.heap.size w (((w.alloc (.cells H 30)).alloc (.cells zero32 30)).alloc (.cells #[] 5)) := hb2.trans (hG3.mono (by omega))
  have hbs3 : w.heap.size + 1 + 1 ≤ (((w.alloc (.cells H 30)).alloc (.cells zero32 30)).alloc (.cells #[] 5)).heap.size := by simp
  have har := fun W (hW : Below w.heap.size w W) => ha.below hW
  have e0 : (((UInt8.ofNat (r.length / 256)).toNat : Nat) : Int) = (r.length : Int) / 256 := by rw [ofNat_div (by omega)]; omega
  have e1 : (((UInt8.ofNat r.length).toNat : Nat) : Int) = (r.length : Int) % 256 := by rw [ofNat_mod]; omega
  have hcells : (cB (lnB r.length)).toArray = #[.int .u8 ((r.length : Int) / 256), .int .u8 ((r.length : Int) % 256)] := by rw [← e0, ← e1]; rfl
  have hal : ∀ W : World, ArgB (W.alloc (.cells #[.int .u8 ((r.length : Int) / 256), .int .u8 ((r.length : Int) % 256)] 5)) (some ⟨W.heap.size, 0, none⟩) 2 (lnB r.length) := fun W => argB_block (heap_alloc_new W _ |>.trans (by rw [hcells])) (by simp [lnB]) (by decide)
  have hq1 : (r.length : Int) / 256 % 256 = (r.length : Int) / 256 := by omega
  obtain ⟨L, hL⟩ : ∃ L, L = r.length := ⟨_, rfl⟩
  rw [← hL] at hal hq1 hof ⊢
  have hL2 : L ≤ 1000 := by omega
  have hln : Hid ((lnB L).length = 2) := Lib.hid rfl
  replace hNd := Lib.hid hNd
  replace hHd := Lib.hid hHd
  replace hof := Lib.hid hof
  replace hz3 := Lib.hid hz3
  replace hb3 := Lib.hid hb3
  replace hK := Lib.hid hK
  replace hF := Lib.hid hF
  replace ho3 := Lib.hid ho3
  replace hah := Lib.hid hah
  replace har := Lib.hid har
  replace hal := Lib.hid hal
  replace hh := Lib.hid hh
  replace hL := Lib.hid hL
  clear hx2 hbx hcells e0 e1 ha hN hG3 hG3' hb2 hz2 hq2
  go_enter Tryd.func11, Tryd.ntmps11
  go_wp2_with (first
    | (at_builtin; refine wpB_app rfl (.tmp 5) (.tmp 6) rfl (w.heap.size + 1 + 1) _ [] rfl ho3 _ _ h 32 rfl hh hah (by decide) (by decide) hbs3 ?_; intro v4 w4 ho4 hb4; have hbs4 : w.heap.size + 1 + 1 ≤ (w4.alloc (.cells #[.int .u8 ((L : Int) / 256), .int .u8 ((L : Int) % 256)] 5)).heap.size := (by have := hb4.out.size; have := hbs3; rw [World.size_alloc]; omega); have hG5 := Lib.hid ((hb4.out).trans ((Below.refl (w.heap.size + 1 + 1) w4).alloc (by have := hb4.out.size; omega) (.cells #[.int .u8 ((L : Int) / 256), .int .u8 ((L : Int) % 256)] 5))); have ho5 := Lib.hid (OwnB.below ho4.out ((Below.refl w4.heap.size w4).alloc (Nat.le_refl _) (.cells #[.int .u8 ((L : Int) / 256), .int .u8 ((L : Int) % 256)] 5)) (Nat.le_refl _)); have hl5 := Lib.hid (hal.out w4); have hlh : ([] ++ h).length ≤ 1000000 := (by rw [List.nil_append, hh.out]; decide))
    | (at_builtin; refine wpB_app rfl (.tmp 7) (.tmp 16) rfl (w.heap.size + 1 + 1) _ ([] ++ h) rfl ho5 _ _ (lnB L) 2 rfl hln hl5 hlh (by decide) hbs4 ?_; intro v6 w6 ho6 hb6; have hG6 := Lib.hid (hG5.out.trans hb6.out); have hbs6 : w.heap.size + 1 + 1 ≤ w6.heap.size := Nat.le_trans hbs4 hb6.out.size; have hr6 := Lib.hid (har.out w6 (hb3.out.trans (hG6.out.mono (by omega)))); have hlh6 : ([] ++ h ++ lnB L).length ≤ 1000000 := (by rw [List.nil_append, List.length_append, hh.out, hln.out]; decide); have hLr : Hid (r.length = L) := Lib.hid hL.out.symm)
    | (at_builtin; refine wpB_app rfl (.tmp 17) (.tmp 18) rfl (w.heap.size + 1 + 1) _ ([] ++ h ++ lnB L) rfl ho6 _ _ r L rfl hLr hr6 hlh6 (by omega) hbs6 ?_; intro v8 w8 ho8 hb8; have hG8 := Lib.hid (hG6.out.trans hb8.out); obtain ⟨a8, c8, e8, hA8, _⟩ := OwnB.arg ho8.out; subst e8; have hA8 := Lib.hid hA8))
  have hA8' := hA8.out
  rw [List.nil_append] at hA8'
  have hb8' : Below w.heap.size w w8 := hb3.out.trans (hG8.out.mono (by omega))
  have hc8 := hof.out a8 c8 w8 hA8' (hK.out.below hb8') (hF.out.below hb8')
  rw [show (h ++ lnB L ++ r).length = h.length + ((lnB L).length + r.length) by simp [Nat.add_assoc]] at hc8
  replace hc8 := Lib.hid hc8
  have hz8 := Lib.hid (hz3.out w8 hG8.out)
  replace hb8' := Lib.hid hb8'
  with_reducible refine hc8.out.mono ?_
  rintro x w9 ⟨rfl, hb9⟩
  have hz9 := Lib.hid ((hb9.block _ (block_lt hz8.out)).trans hz8.out)
  have hb99 := Lib.hid (hb8'.out.trans (hb9.mono hb8'.out.size))
  go_wp2_with (refine wpList_store_row rfl 30 (.tmp 4) (.tmp 20) rfl (w.heap.size + 1) zero32 N rfl rfl hz9 tD t32 tO ?_; intro w10 hU10)
  refine ret_cell_row rfl rfl hu1 rfl tD hU10.out.here ⟨rfl, hb99.out.trans (hU10.out.below (by omega))⟩
end Go.Proofs.YtgkddegaiaeckaaDoor
/- The walk over baileeref19.Scan. -/
namespace Go.Proofs.YtgkddegaiaeckaaDoor
open Go.RowKit

theorem recs_le2 (l : List (List UInt8)) : l.length ≤ endB l := by
  unfold endB
  induction l with
  | nil => exact Nat.le_refl _
  | cons q l ih => simp only [List.length_cons, List.map_cons, List.sum_cons]; omega
/-- Ahead of a round of the reference. -/
structure RScanSt (base hb : Nat) (w0 wr : World) (bs : List UInt8) (dn : List (List UInt8)) (vo : Value) : Prop where
  rows : ∃ F, RowsOf RB 22 1 base wr F vo dn ∧ (∀ k, F k → k ≠ hb) ∧ (∀ k, F k → base ≤ k)
  own : ∀ k, vo.ownBlock = some k → k ≠ hb
  head : wr.heap[hb]? = some (.cells (cB (headB z32 dn)).toArray 30 (0, 0))
  bel : Below base w0 wr
  rest : dn ++ scanB (bs.drop (endB dn)) (headB z32 dn) = scanB bs z32
  le : endB dn ≤ bs.length
theorem RScanSt.stop {base hb : Nat} {w0 wr : World} {bs : List UInt8} {dn : List (List UInt8)} {vo : Value} (h : RScanSt base hb w0 wr bs dn vo) (hf : firstB (bs.drop (endB dn)) (headB z32 dn) = none) : dn = scanB bs z32 := by
  have := h.rest
  rwa [scanB_none hf, List.append_nil] at this
set_option maxRecDepth 100000 in
set_option maxHeartbeats 2000000 in
theorem rscan_any (bs : List UInt8) (hmax : bs.length ≤ 100000) (a : Option Addr) (c : Nat) (w : World) (ha : ArgB w a c bs) (hK : RefK w) (hF : RefF w) :
    Calls Tryd.prog 8 #[.slice a bs.length c] w (ScanPost w bs) := by
  have zr := zeroR_run
  have zn := zero32_ne
  have huA : Tryd.prog.underlying 30 = some (.array 32 5) := Tryd.underlying30
  have hzz : (Instr.build 30 #[]).run Tryd.prog = fun W => .ok (.agg zero32) W := by funext W; kernel_rfl
  have hb1 : Below w.heap.size w (w.alloc (.cells #[] 22)) := (Below.refl _ _).alloc (Nat.le_refl _) _
  have hz1 : Hid (((w.alloc (.cells #[] 22)).alloc (.cells zero32 30)).heap[w.heap.size + 1]? = some (.cells zero32 30 (0, 0))) := Lib.hid (by
    have := heap_alloc_new (w.alloc (.cells #[] 22)) (.cells zero32 30 (0, 0))
    rwa [World.size_alloc] at this)
  have hzi : (Tryd.prog.info? 30).map (·.size) = some zero32.size := by rw [zero32_z, List.size_toArray, cB_length, z32_len]; kernel_rfl
  have hzo : zero32.all (·.oneCell') = true := by rw [zero32_z]; exact cB_all _
  have hst0 : ∀ w2, Upd (w.heap.size + 1) (.cells zero32 30 (0, 0)) ((w.alloc (.cells #[] 22)).alloc (.cells zero32 30)) w2 → RScanSt w.heap.size (w.heap.size + 1) w w2 bs [] (.slice (some ⟨w.heap.size, 0, none⟩) 0 0) := fun w2 hU => by
    have hr0 : RowsOf RB 22 1 w.heap.size (w.alloc (.cells #[] 22)) (fun _ => False) (.slice (some ⟨w.heap.size, 0, none⟩) 0 0) [] := RowsOf.made0 w w.heap.size (Nat.le_refl _)
    have hr1 := hr0.below liesRB ((Below.refl _ (w.alloc (.cells #[] 22))).alloc (Nat.le_refl _) (.cells zero32 30))
    refine ⟨⟨_, hr1.only liesRB (Only.ofUpd (D := fun k => k = w.heap.size + 1) hU rfl) (fun _ h => False.elim h) (fun k hk e => by cases hk; exact absurd (show w.heap.size = w.heap.size + 1 from e) (by omega)), fun _ h => False.elim h, fun _ h => False.elim h⟩, fun k hk e => by cases hk; exact absurd (show w.heap.size = w.heap.size + 1 from e) (by omega), by have := hU.here; rw [zero32_z] at this; exact this, (hb1.alloc hb1.size _).trans (hU.below (by omega)), rfl, Nat.zero_le _⟩
  replace hst0 := Lib.hid hst0
  replace ha := Lib.hid ha
  replace hK := Lib.hid hK
  replace hF := Lib.hid hF
  obtain ⟨L, hL⟩ : ∃ L, L = bs.length := ⟨_, rfl⟩
  rw [← hL] at hmax ⊢
  replace hL := Lib.hid hL
  go_enter Tryd.func8, Tryd.ntmps8
  go_wp2_with (refine wpList_store_row rfl 30 (.tmp 5) (.tmp 11) rfl (w.heap.size + 1) zero32 zero32 rfl rfl hz1 hzi rfl hzo ?_; intro w2 hU2)
  have hst := Lib.hid (hst0.out w2 hU2.out)
  have hs2 : w.heap.size + 2 ≤ w2.heap.size := by have := hU2.out.size; simp at this; omega
  clear hst0 hz1 hzo hU2 hb1
  obtain ⟨hb, hhb⟩ : ∃ hb, hb = w.heap.size + 1 := ⟨_, rfl⟩
  rw [← hhb] at hst ⊢
  replace hhb := Lib.hid hhb
  refine wp_loopF [(false, 4), (true, 1), (false, 1), (true, 73)] _ [] (fun U wr => ∃ dn : List (List UInt8), U 6 = .int .i64 (endB dn : Nat) ∧ RScanSt w.heap.size hb w wr bs dn (U 4) ∧ w.heap.size + 2 ≤ wr.heap.size)
    (fun U _ => L - (intOf (U 6)).toNat) ?_ ?_
  · simp only [List.getD_cons_zero, List.getD_cons_succ]
    exact ⟨[], rfl, hst.out, hs2⟩
  · clear hst hs2
    intro U wr hrel KK hback l' hl'
    obtain ⟨dn, h6, hst, hsz⟩ := hrel
    simp only [fillS, popSeg, cond_true, cond_false, Nat.reduceAdd, h6] at hl'
    generalize hv4 : U 4 = vo at *
    subst hl'
    replace h6 := Lib.hid h6
    replace hv4 := Lib.hid hv4
    obtain ⟨D, hD⟩ : ∃ D, D = endB dn := ⟨_, rfl⟩
    have hDL : D ≤ L := by have := hst.le; rw [hD, hL.out]; exact this
    have hstop : ∀ W, firstB (bs.drop D) (headB z32 dn) = none → Below wr.heap.size wr W → ScanPost w bs (.returned (.tuple #[vo, .int .i64 (D : Nat)])) W := fun W hf hW => by
      rw [hD] at hf
      have e := hst.stop hf
      obtain ⟨F, k1, k2, k3⟩ := hst.rows
      exact ⟨vo, F, by rw [← e, hD], by rw [← e]; exact k1.below liesRB hW, k3, hst.bel.trans (hW.mono (by omega))⟩
    rw [← hD]
    have hdl : (bs.drop D).length = L - D := by rw [List.length_drop, hL.out]
    replace hst := Lib.hid hst
    replace hstop := Lib.hid hstop
    replace hD := Lib.hid hD
    by_cases h34 : L - D < 34
    · have hi34 : ¬ ((34 : Int) ≤ (L : Int) - (D : Int)) := by omega
      have hf : firstB (bs.drop D) (headB z32 dn) = none := by unfold firstB; rw [if_pos (by omega)]
      have hfin := Lib.hid (hstop.out wr hf (Below.refl _ _))
      clear hf
      go_wp2_with fail
      go_ret2
      exact hfin.out
    · have hi34 : (34 : Int) ≤ (L : Int) - (D : Int) := by omega
      obtain ⟨ab, ao, hab, _⟩ := ha.out.row 0 (by have := hL.out; omega)
      subst hab
      have har : ArgB wr (some ⟨ab, ao, none⟩) c bs := ha.out.below ((hst.out.bel).mono (Nat.le_refl _))
      obtain ⟨_, _, e1, hx⟩ := har.row D (by have := hL.out; omega)
      cases e1
      obtain ⟨_, _, e2, hy⟩ := har.row (D + 1) (by have := hL.out; omega)
      cases e2
      obtain ⟨n, hn⟩ : ∃ n, n = numB (bs.drop D) := ⟨_, rfl⟩
      have hnv : n = (bs.getD D 0).toNat * 256 + (bs.getD (D + 1) 0).toNat := by
        rw [hn]; unfold numB
        simp [List.getD_eq_getElem?_getD, List.getElem?_drop]
      have hx8 := (bs.getD D 0).toNat_lt
      have hy8 := (bs.getD (D + 1) 0).toNat_lt
      generalize (bs.getD D 0).toNat = x at *
      generalize (bs.getD (D + 1) 0).toNat = y at *
      have hni : (x : Int) * 256 + (y : Int) = (n : Int) := by omega
      have hlc := har.len
      have hclim := har.most
      unfold maxLen at hclim
      have hcL : L ≤ c := by have := hL.out; omega
      replace har := Lib.hid har
      replace hn := Lib.hid hn
      replace hnv := Lib.hid hnv
      by_cases hbad : n < 1 ∨ 400 < n ∨ L - D - 34 < n
      · have hf : firstB (bs.drop D) (headB z32 dn) = none := by unfold firstB; rw [if_neg (by omega), if_pos (by rw [← hn.out]; omega)]
        have hfin := fun W hW => hstop.out W hf hW
        replace hfin := Lib.hid hfin
        clear hf
        have hlx : (x : Int) < 256 := by omega
        have hly : (y : Int) < 256 := by omega
        rcases (show n < 1 ∨ (1 ≤ n ∧ 400 < n) ∨ (1 ≤ n ∧ n ≤ 400 ∧ L - D - 34 < n) by omega) with hc1 | ⟨hc1, hc2⟩ | ⟨hc1, hc2, hc3⟩
        · have i1 : (n : Int) < 1 := by omega
          go_wp2_with fail
          go_quiet (fail)
          all_goals (try go_wp2_with fail)
          go_ret2
          exact hfin.out _ (Drawn.below ⟨_, rfl⟩ _)
        · have i1 : ¬ ((n : Int) < 1) := by omega
          have i2 : (400 : Int) < (n : Int) := by omega
          go_wp2_with fail
          go_quiet (fail)
          all_goals (try go_wp2_with fail)
          go_ret2
          exact hfin.out _ (Drawn.below ⟨_, rfl⟩ _)
        · have i1 : ¬ ((n : Int) < 1) := by omega
          have i2 : ¬ ((400 : Int) < (n : Int)) := by omega
          have i3 : (L : Int) - (D : Int) - 34 < (n : Int) := by omega
          go_wp2_with fail
          go_quiet (fail)
          all_goals (try go_wp2_with fail)
          go_ret2
          exact hfin.out _ (Drawn.below ⟨_, rfl⟩ _)
      · have hn1 : 1 ≤ n := by omega
        have hn4 : n ≤ 400 := by omega
        have hfit : D + 34 + n ≤ L := by omega
        have i1 : ¬ ((n : Int) < 1) := by omega
        have i2 : ¬ ((400 : Int) < (n : Int)) := by omega
        have i3 : ¬ ((L : Int) - (D : Int) - 34 < (n : Int)) := by omega
        have j1 : (D : Int) + 34 + (n : Int) ≤ (c : Int) := by omega
        have j2 : ¬ (c = D + 34) := by omega
        have hlx : (x : Int) < 256 := by omega
        have hly : (y : Int) < 256 := by omega
        obtain ⟨R, hR⟩ : ∃ R, R = (bs.drop (D + 34)).take n := ⟨_, rfl⟩
        obtain ⟨S, hS⟩ : ∃ S, S = (bs.drop (D + 2)).take 32 := ⟨_, rfl⟩
        have hRl : R.length = n := by rw [hR, List.length_take, List.length_drop]; have := hL.out; omega
        have hSl : S.length = 32 := by rw [hS, List.length_take, List.length_drop]; have := hL.out; omega
        have haR : ∀ W, Below wr.heap.size wr W → ArgB W (some ⟨ab, ao + (D + 34), none⟩) (c - (D + 34)) R := fun W hW => by
          rw [hR]; exact ((har.out.below hW).from (D + 34) (by have := hL.out; omega)).upto n
        have haS : ∀ W, Below wr.heap.size wr W → ArgB W (some ⟨ab, ao + (D + 2), none⟩) (c - (D + 2)) S := fun W hW => by
          rw [hS]; exact ((har.out.below hW).from (D + 2) (by have := hL.out; omega)).upto 32
        have hfv : firstB (bs.drop D) (headB z32 dn) = if S = nextB (headB z32 dn) R then some R else none := by
          unfold firstB
          rw [if_neg (by omega), if_neg (by rw [← hn.out]; omega), ← hn.out, List.drop_drop, List.drop_drop, ← hS, ← hR]
        have hhl : (headB z32 dn).length = 32 := headB_len z32_len dn
        have hNl := nextB_len (headB z32 dn) R
        have hnx := fun W (hW : Below wr.heap.size wr W) hk hf => rnext_any (headB z32 dn) R hhl _ _ W (haR W hW) (by omega) hk hf
        rw [hRl] at hnx
        obtain ⟨H, hHd⟩ : ∃ H, H = (cB (headB z32 dn)).toArray := ⟨_, rfl⟩
        obtain ⟨N, hNd⟩ : ∃ N, N = (cB (nextB (headB z32 dn) R)).toArray := ⟨_, rfl⟩
        rw [← hHd, ← hNd] at hnx
        have hzH : (Tryd.prog.info? 30).map (·.size) = some H.size := by rw [hHd, List.size_toArray, cB_length, hhl]; kernel_rfl
        have hzN : (Tryd.prog.info? 30).map (·.size) = some N.size := by rw [hNd, List.size_toArray, cB_length, hNl]; kernel_rfl
        have hHN : H.size = N.size := by rw [hHd, hNd]; simp [cB_length, hhl, hNl]
        have hZN : zero32.size = N.size := by rw [hNd]; exact zero32_like hNl
        have hN1 : N.all (·.oneCell') = true := by rw [hNd]; exact cB_all _
        have hhead := hst.out.head
        rw [← hHd] at hhead
        replace hHd := Lib.hid hHd
        replace hNd := Lib.hid hNd
        replace hnx := Lib.hid hnx
        replace haR := Lib.hid haR
        replace haS := Lib.hid haS
        replace hfv := Lib.hid hfv
        replace hR := Lib.hid hR
        replace hS := Lib.hid hS
        replace hRl := Lib.hid hRl
        replace hSl := Lib.hid hSl
        replace hHN := Lib.hid hHN
        replace hhead := Lib.hid hhead
        replace hNl := Lib.hid hNl
        replace hdl := Lib.hid hdl
        clear hbad
        go_wp2_with fail
        go_quiet (fail)
        have hheadq : Hid ((wr.drewN nq).heap[hb]? = some (.cells H 30 (0, 0))) := hhead
        go_wp2_with (refine wpList_load_row rfl 30 (.tmp 5) rfl hb H _ rfl hheadq huA rfl hzH ?_)
        have hbq : Below wr.heap.size wr (wr.drewN nq) := Drawn.below ⟨nq, rfl⟩ _
        generalize wr.drewN nq = wq at *
        have hbw : Below w.heap.size w wq := hst.out.bel.trans (hbq.mono (by omega))
        have hnq := Lib.hid (hnx.out wq hbq (hK.out.below hbw) (hF.out.below hbw))
        replace hbq := Lib.hid hbq
        replace hbw := Lib.hid hbw
        with_reducible refine hnq.out.mono ?_
        clear hnq hnx
        rintro x4 w4 ⟨rfl, hb4⟩
        have hz5 : Hid ((w4.alloc (.cells zero32 30)).heap[w4.heap.size]? = some (.cells zero32 30 (0, 0))) := heap_alloc_new w4 (.cells zero32 30 (0, 0))
        go_wp2_with (refine wpList_store_row rfl 30 (.tmp 9) (.tmp 55) rfl w4.heap.size zero32 N rfl rfl hz5 hzN hZN hN1 ?_; intro w5 hU5)
        have hb45 : Below w4.heap.size w4 w5 := ((Below.refl _ _).alloc (Nat.le_refl _) _).trans (hU5.out.below (Nat.le_refl _))
        have hbr4 : Below wr.heap.size wr w4 := hbq.out.trans (hb4.mono hbq.out.size)
        have hbr5 : Below wr.heap.size wr w5 := hbr4.trans (hb45.mono hbr4.size)
        obtain ⟨g9, hg9⟩ : ∃ g9, g9 = w4.heap.size := ⟨_, rfl⟩
        have hg9r : wr.heap.size ≤ g9 := by rw [hg9]; exact hbr4.size
        have hN5 : w5.heap[g9]? = some (.cells N 30 (0, 0)) := by rw [hg9]; exact hU5.out.here
        rw [← hg9]
        have haN : ArgB w5 (some ⟨g9, 0, none⟩) 32 (nextB (headB z32 dn) R) := argB_block (by rw [← hNd.out]; exact hN5) (by rw [hNl.out]; exact Nat.le_refl _) (by decide)
        have kc1 := fun m => conv_str (P := Tryd.prog) (w := w5.drewN m) (src := 22) (dst := 9) (c := 32) (nextB (headB z32 dn) R) Tryd.underlying22 Tryd.underlying5 Tryd.underlying9 (haN.below (Drawn.below ⟨m, rfl⟩ _)).row
        have kc2 := fun m => conv_str (P := Tryd.prog) (w := w5.drewN m) (src := 22) (dst := 9) (c := c - (D + 2)) S Tryd.underlying22 Tryd.underlying5 Tryd.underlying9 ((haS.out w5 hbr5).below (Drawn.below ⟨m, rfl⟩ _)).row
        rw [hNl.out] at kc1
        rw [hSl.out] at kc2
        have hse := str_eq (nextB (headB z32 dn) R) S
        have j3 : ¬ (c = D + 2) := by omega
        have j4 : D + 34 - (D + 2) = 32 := by omega
        have j5 : (D : Int) + 34 ≤ (c : Int) := by omega
        have j6 : D + 34 ≤ c := by omega
        have j7 : (D : Int) + 2 ≤ (D : Int) + 34 := by omega
        have j8 : D + 2 ≤ c := by omega
        have j9 : (D : Int) + 2 ≤ (c : Int) := by omega
        have j10 : ¬ ((D : Int) + 34 < (D : Int) + 2) := by omega
        replace hg9 := Lib.hid hg9
        replace hN5 := Lib.hid hN5
        replace hbr5 := Lib.hid hbr5
        replace hbr4 := Lib.hid hbr4
        replace hb45 := Lib.hid hb45
        clear haN hb4 hU5 hz5
        by_cases hqe : nextB (headB z32 dn) R = S
        · have hfs : firstB (bs.drop D) (headB z32 dn) = some R := by rw [hfv.out, if_pos hqe.symm]
          have hre := hst.out.rest
          rw [← hD.out, scanB_some hfs, List.drop_drop] at hre
          have hE2 : endB (dn ++ [R]) = D + (34 + n) := by rw [endB_snoc, ← hD.out, hRl.out]
          have hhs : headB z32 (dn ++ [R]) = nextB (headB z32 dn) R := headB_snoc _ _ _
          have hre2 : (dn ++ [R]) ++ scanB (bs.drop (endB (dn ++ [R]))) (headB z32 (dn ++ [R])) = scanB bs z32 := by
            rw [hE2, hhs, ← hre, hRl.out, List.append_assoc]; rfl
          obtain ⟨F, f1, f2, f3⟩ := hst.out.rows
          have hdn : dn.length ≤ 1000000 := by have := recs_le2 dn; have := hD.out; omega
          have hrr := hqe
          go_wp2_with fail
          go_quiet (fail)
          have hb6 : Below wr.heap.size wr (w5.drewN nq) := hbr5.out.trans (Drawn.below ⟨nq, rfl⟩ _)
          have hN6 : (w5.drewN nq).heap[g9]? = some (.cells N 30 (0, 0)) := hN5.out
          generalize w5.drewN nq = w6 at *
          have hH6 : w6.heap[hb]? = some (.cells H 30 (0, 0)) := (hb6.block _ (block_lt hhead.out)).trans hhead.out
          have ho6 := owns_made0 w6 w6.heap.size (Nat.le_refl _)
          have hG6 : Below w6.heap.size w6 (w6.alloc (.cells #[] 5)) := (Below.refl _ _).alloc (Nat.le_refl _) _
          have haR6 := Lib.hid ((haR.out w6 hb6).below hG6)
          have hbs6 : w6.heap.size ≤ (w6.alloc (.cells #[] 5)).heap.size := hG6.size
          have hg9l := block_lt hN6
          have hhbl := block_lt hhead.out
          have hb6s := hb6.size
          have hinfo := Lib.hid infoRow24
          replace ho6 := Lib.hid ho6
          replace hb6 := Lib.hid hb6
          replace hN6 := Lib.hid hN6
          replace hH6 := Lib.hid hH6
          replace hG6 := Lib.hid hG6
          replace f1 := Lib.hid f1
          replace f2 := Lib.hid f2
          replace f3 := Lib.hid f3
          replace hre2 := Lib.hid hre2
          replace hE2 := Lib.hid hE2
          replace hhs := Lib.hid hhs
          clear kc1 kc2 hse hrr hqe hfs hre
          go_wp2_with (first
            | (at_builtin; refine wpB_app rfl (.tmp 67) (.tmp 68) rfl w6.heap.size _ [] rfl ho6 _ _ R n rfl hRl haR6 (by decide) (by omega) hbs6 ?_; intro v7 w7 ho7 hb7; obtain ⟨g7, c7, e7, hg7⟩ := OwnB.form (show OwnB w6.heap.size w7 v7 R from ho7.out) (by rw [hRl.out]; exact hn1); subst e7; have ho7' := Lib.hid (show OwnB w6.heap.size w7 (.slice (some ⟨g7, 0, none⟩) R.length c7) R from ho7.out); have hb67 := Lib.hid (hG6.out.trans hb7.out); have hbr7 := Lib.hid (hb6.out.trans (hb67.out.mono hb6s)); have hr7 := Lib.hid (f1.out.below liesRB hbr7.out); have hyB := Lib.hid (show RB w7 (fun k => F k ∨ k = g7) R (#[Value.slice (some ⟨g7, 0, none⟩) R.length c7] : Array Value).toList from liesRB.more (rb_own ho7'.out) (fun k h => by cases h; exact .inr rfl)); have hFB := Lib.hid (show ∀ k, F k → F k ∨ k = g7 from fun k h => .inl h); have haB := Lib.hid (show ∀ k, vo.ownBlock = some k → ¬ (F k ∨ k = g7) from fun k hk h => h.elim (f1.out.apart k hk) (fun h => by have := (f1.out.ownLt k hk).2; omega)); have hlB := Lib.hid (show ∀ k, F k ∨ k = g7 → k < w7.heap.size from fun k h => h.elim (fun h => hr7.out.lt k h) (fun h => h ▸ (World.ownsRow.lt ho7'.out g7 rfl).2)); have hbs7 : w.heap.size ≤ w7.heap.size := (by have := hbr7.out.size; omega))
            | (at_builtin; refine wpList_appRows (P := Tryd.prog) (R := RB) (e := 22) (size := 1) (base := w.heap.size) (F := F) (F' := fun k => F k ∨ k = g7) rfl liesRB (.tmp 66) (.tmp 70) 23 rfl Tryd.underlying23 24 hinfo.out (by decide) rfl hr7 R #[.slice (some ⟨g7, 0, none⟩) R.length c7] hyB hFB haB hlB rfl hdn (by decide) hbs7 ?_; intro v8 w8 hr8 ho8 hm8; have hN8 := Lib.hid (ho8.out.heap ((hb67.out.block g9 hg9l).trans hN6.out) (fun e => by have := (f1.out.ownLt _ e).2; omega)); have hH8 := Lib.hid (ho8.out.heap ((hb67.out.block hb (by omega)).trans hH6.out) (fun e => hst.out.own _ e rfl)))
            | (refine wpList_load_row rfl 30 (.tmp 9) rfl g9 N _ rfl hN8 huA rfl hzN ?_)
            | (refine wpList_store_row rfl 30 (.tmp 5) (.tmp 72) rfl hb H N rfl rfl hH8 hzN hHN.out hN1 ?_; intro w9 hU9))
          have hhbw : hb = w.heap.size + 1 := hhb.out
          have hs7 := hbr7.out.size
          have hown8 : ∀ k, v8.ownBlock = some k → k ≠ hb := fun k hk e => by
            rcases hm8.out k hk with h | h
            · exact hst.out.own k h e
            · omega
          refine hback.out _ _ (by kernel_rfl) ?_ ?_
          · simp only [List.getD_cons_zero, List.getD_cons_succ]
            refine ⟨dn ++ [R], by rw [hE2.out, Int.natCast_add, Int.natCast_add]; rfl, ⟨⟨fun k => F k ∨ k = g7, hr8.out.only liesRB (Only.ofUpd (D := fun k => k = hb) hU9.out rfl) (fun k hk e => hk.elim (fun h => f2.out k h e) (fun h => by have : k = hb := e; omega)) hown8, fun k hk => hk.elim (f2.out k) (fun h => by omega), fun k hk => hk.elim (f3.out k) (fun h => by omega)⟩, hown8, by rw [hhs.out, ← hNd.out]; exact hU9.out.here, ?_, hre2.out, by rw [hE2.out]; have := hL.out; omega⟩, ?_⟩
            · exact ((hst.out.bel.trans (hbr7.out.mono (by omega))).trans (ho8.out.below hbs7 (fun k hk => (f1.out.ownLt k hk).1))).trans (hU9.out.below (by omega))
            · have h8 := ho8.out.size
              have h9 := hU9.out.size
              omega
          · have h6 := h6.out
            have hD := hD.out
            simp only [List.getD_cons_zero, List.getD_cons_succ, h6, intOf]
            omega
        · have hfn : firstB (bs.drop D) (headB z32 dn) = none := by rw [hfv.out, if_neg (fun e => hqe e.symm)]
          have hfin := hstop.out w5 hfn hbr5.out
          have hfin2 := fun m => hstop.out (w5.drewN m) hfn (hbr5.out.trans (Drawn.below ⟨m, rfl⟩ _))
          replace hfin2 := Lib.hid hfin2
          have hne : ¬ (({ data := (nextB (headB z32 dn) R).toArray } : ByteArray) = { data := S.toArray }) := fun e => hqe (hse.1 e)
          have hnb : (nextB (headB z32 dn) R == S) = false := beq_eq_false_iff_ne.2 hqe
          have hna : ¬ ((nextB (headB z32 dn) R).toArray = S.toArray) := fun e => hne (by rw [e])
          clear hfin hfn hse
          go_wp2_with fail
          go_quiet (fail)
          go_wp2_with fail
          go_ret2
          exact hfin2.out _
end Go.Proofs.YtgkddegaiaeckaaDoor
/- The walk over JournalScans. -/
namespace Go.Proofs.YtgkddegaiaeckaaDoor
open Go.RowKit

theorem headsB_get (ps : List (List UInt8)) : ∀ (h : List UInt8) (k : Nat), k < ps.length → (headsB h ps)[k]? = some (headB h (ps.take (k + 1))) := by
  induction ps with
  | nil => intro h k hk; exact absurd hk (Nat.not_lt_zero _)
  | cons r l ih =>
    intro h k hk
    cases k with
    | zero => rfl
    | succ k => exact ih (nextB h r) k (by simpa using hk)
theorem neqSame (xs : List UInt8) (hx : xs.length = 32) (w : World) : (binOp .neq 30 (.agg (cB xs).toArray) (.agg (cB xs).toArray)).run Tryd.prog w = .ok (.bool false) w := by
  show (binOp .neq 30 (.agg (xs.map Extern.Stop.cell).toArray) (.agg (xs.map Extern.Stop.cell).toArray)).run Tryd.prog w = _
  rw [run_neq_struct, run_equalIn_bytes w 9998 30 5 32 Tryd.underlying30 Tryd.underlying5 (fun w => by kernel_rfl) xs xs hx hx]
  simp
set_option maxRecDepth 100000 in
set_option maxHeartbeats 2000000 in
theorem scans_walk (a0 : Option Addr) (c0 : Nat) (bs : List UInt8) (a1 : Option Addr) (c1 : Nat) (ps : List (List UInt8)) (w : World) (hA0 : ArgB w a0 c0 bs) (hA1 : ArgBB w a1 c1 ps) (e : Nat → Addr) (hE : DErr w e) (hK : ShaK w) (hF : ShaF w) (hRK : RefK w) (hRF : RefF w) :
    Calls Tryd.prog 3 #[.slice a0 bs.length c0, .slice a1 ps.length c1] w fun x w' => x = .returned (.bool true) ∧ Below w.heap.size w w' := by
  have hal := Lib.hid (alive19_any w e hE hK hF)
  have zr := zeroR_run
  have zn := zero32_ne
  have huA : Tryd.prog.underlying 30 = some (.array 32 5) := Tryd.underlying30
  have hzz : (Instr.build 30 #[]).run Tryd.prog = fun W => .ok (.agg zero32) W := by funext W; kernel_rfl
  have hzi : (Tryd.prog.info? 30).map (·.size) = some zero32.size := by rw [zero32_z, List.size_toArray, cB_length, z32_len]; kernel_rfl
  have hzo : zero32.all (·.oneCell') = true := by rw [zero32_z]; exact cB_all _
  obtain ⟨L, hL⟩ : ∃ L, L = bs.length := ⟨_, rfl⟩
  obtain ⟨M, hM⟩ : ∃ M, M = ps.length := ⟨_, rfl⟩
  have hcm0 := hA0.most
  have hcm1 := hA1.most
  have hLm : L ≤ 9223372036854775807 := by have := hA0.len; unfold maxLen at *; omega
  have hMm : M ≤ 9223372036854775807 := by have := hA1.len; unfold maxLen at *; omega
  rw [← hL, ← hM]
  replace hL := Lib.hid hL
  replace hM := Lib.hid hM
  replace hA0 := Lib.hid hA0
  replace hA1 := Lib.hid hA1
  replace hK := Lib.hid hK
  replace hF := Lib.hid hF
  replace hRK := Lib.hid hRK
  replace hRF := Lib.hid hRF
  clear hE hcm0 hcm1
  go_enter Tryd.func3, Tryd.ntmps3
  go_wp2_with fail
  with_reducible refine hal.out.mono ?_
  clear hal
  rintro x w1 ⟨rfl, hb1⟩
  replace hb1 := Lib.hid hb1
  by_cases hL2 : 2000 < L
  · have i1 : (2000 : Int) < (L : Int) := by omega
    go_wp2_with fail
    go_ret
    exact ⟨rfl, hb1.out⟩
  · by_cases hM2 : 20 < M
    · have i1 : ¬ ((2000 : Int) < (L : Int)) := by omega
      have i2 : (20 : Int) < (M : Int) := by omega
      go_wp2_with fail
      go_ret
      exact ⟨rfl, hb1.out⟩
    · have i1 : ¬ ((2000 : Int) < (L : Int)) := by omega
      have i2 : ¬ ((20 : Int) < (M : Int)) := by omega
      go_wp2_with fail
      refine wp_loopF [(false, 4), (true, 3), (false, 20), (true, 8), (false, 46)] _ [] (fun U wr => ∃ k : Nat, k ≤ M ∧ U 27 = .int .i64 (k : Nat) ∧ U 4 = .bool false ∧ wr = w1 ∧ ∀ i, i < k → (ps.getD i []).length ≤ 500)
        (fun U _ => M - (intOf (U 27)).toNat) ?_ ?_
      · simp only [List.getD_cons_zero, List.getD_cons_succ]
        exact ⟨0, Nat.zero_le _, rfl, trivial, trivial, fun i hi => absurd hi (Nat.not_lt_zero _)⟩
      · intro U wr hrel KK hback l' hl'
        obtain ⟨k, hk, h27, h4, rfl, hle⟩ := hrel
        simp only [fillS, popSeg, cond_true, cond_false, Nat.reduceAdd, h27, h4] at hl'
        subst hl'
        replace h27 := Lib.hid h27
        replace h4 := Lib.hid h4
        by_cases hlt : k < M
        · have hlt2 : (k : Int) < (M : Int) := by omega
          obtain ⟨b, o, hab, ai, ci, hc, hai⟩ := (hA1.out.below hb1.out).row k (by rw [← hM.out]; exact hlt)
          subst hab
          obtain ⟨R, hR⟩ : ∃ R, R = (ps.getD k []).length := ⟨_, rfl⟩
          rw [← hR] at hc
          have hRm : R ≤ 9223372036854775807 := by have := hai.len; have := hai.most; unfold maxLen at *; omega
          replace hR := Lib.hid hR
          clear hai
          by_cases hR5 : 500 < R
          · have i3 : (500 : Int) < (R : Int) := by omega
            go_wp2_with fail
            go_ret
            exact ⟨rfl, hb1.out⟩
          · have i3 : ¬ ((500 : Int) < (R : Int)) := by omega
            replace hle := Lib.hid hle
            go_wp2_with fail
            refine hback.out _ _ (by kernel_rfl) ?_ ?_
            · simp only [List.getD_cons_zero, List.getD_cons_succ]
              refine ⟨k + 1, by omega, by go_num, trivial, trivial, fun i hi => ?_⟩
              by_cases hik : i < k
              · exact hle.out i hik
              · obtain rfl : i = k := by omega
                rw [← hR.out]; omega
            · have h27 := h27.out
              simp only [List.getD_cons_zero, List.getD_cons_succ, h27, intOf]
              omega
        · obtain rfl : k = M := by omega
          have hall : ∀ r ∈ ps, r.length ≤ 1000 := fun r hr => by
            obtain ⟨i, hi, rfl⟩ := List.mem_iff_getElem.1 hr
            have := hle i (by rw [hM.out]; exact hi)
            simp [List.getD_eq_getElem?_getD, hi] at this
            omega
          have hsc := scan_any bs (by have := hL.out; omega) a0 c0 wr (hA0.out.below hb1.out) (hK.out.below hb1.out) (hF.out.below hb1.out)
          rw [← hL.out] at hsc
          replace hsc := Lib.hid hsc
          replace hall := Lib.hid hall
          clear hle hlt
          go_wp2_with fail
          with_reducible refine hsc.out.mono ?_
          clear hsc
          rintro x w2 ⟨vx, Fx, rfl, hrx, _, hb2⟩
          have hb12 := hb1.out.trans (hb2.mono hb1.out.size)
          have hrs := rscan_any bs (by have := hL.out; omega) a0 c0 w2 (hA0.out.below hb12) (hRK.out.below hb12) (hRF.out.below hb12)
          rw [← hL.out] at hrs
          replace hrs := Lib.hid hrs
          replace hrx := Lib.hid hrx
          replace hb12 := Lib.hid hb12
          clear hb2
          go_wp2_with fail
          with_reducible refine hrs.out.mono ?_
          clear hrs
          rintro x w3 ⟨vy, Fy, rfl, hry, _, hb3⟩
          have hb13 := hb12.out.trans (hb3.mono hb12.out.size)
          have hrx3 := Lib.hid (hrx.out.below liesRB hb3)
          have hhd := heads_any ps (by have := hM.out; omega) hall.out a1 c1 w3 (hA1.out.below hb13) (hK.out.below hb13) (hF.out.below hb13)
          rw [← hM.out] at hhd
          replace hhd := Lib.hid hhd
          replace hry := Lib.hid hry
          replace hb13 := Lib.hid hb13
          clear hb3
          go_wp2_with fail
          with_reducible refine hhd.out.mono ?_
          clear hhd
          rintro x w4 ⟨vh, rfl, hrh, hb4⟩
          have hb14 := hb13.out.trans (hb4.mono hb13.out.size)
          obtain ⟨ax, cx, rfl, hax⟩ := (hrx3.out.below liesRB hb4).argBB
          obtain ⟨ay, cy, rfl, hay⟩ := (hry.out.below liesRB hb4).argBB
          have hsl := Lib.hid (same_lists ax cx ay cy (scanB bs z32) w4 hax hay)
          obtain ⟨ah, ch, hvh, _⟩ := hrh.form
          rw [headsB_length, ← hM.out] at hvh
          subst hvh
          replace hrh := Lib.hid hrh
          replace hb14 := Lib.hid hb14
          clear hb4 hax hay
          go_wp2_with fail
          with_reducible refine hsl.out.mono ?_
          clear hsl
          rintro x w5 ⟨rfl, hb5⟩
          have hb15 := Lib.hid (hb14.out.trans (hb5.mono hb14.out.size))
          have hrh5 := Lib.hid (hrh.out.below liesRD hb5)
          have hz6 : Hid ((w5.alloc (.cells zero32 30)).heap[w5.heap.size]? = some (.cells zero32 30 (0, 0))) := heap_alloc_new w5 (.cells zero32 30 (0, 0))
          clear hb5
          go_wp2_with (refine wpList_store_row rfl 30 (.tmp 12) (.tmp 63) rfl w5.heap.size zero32 zero32 rfl rfl hz6 hzi rfl hzo ?_; intro w6 hU6)
          obtain ⟨hb, hhb⟩ : ∃ hb, hb = w5.heap.size := ⟨_, rfl⟩
          have hb16 : Below w.heap.size w w6 := (hb15.out.trans ((Below.refl _ _).alloc hb15.out.size _)).trans (hU6.out.below hb15.out.size)
          have hz7 : w6.heap[hb]? = some (.cells (cB (headB z32 (ps.take 0))).toArray 30 (0, 0)) := by rw [hhb, hU6.out.here, zero32_z]; rfl
          have hrh7 : RowsOf RD 32 32 w3.heap.size w6 (fun _ => False) (.slice ah k ch) (headsB z32 ps) := (hrh5.out.below liesRD ((Below.refl _ _).alloc (Nat.le_refl _) (.cells zero32 30))).only liesRD (Only.ofUpd (D := fun j => j = w5.heap.size) hU6.out rfl) (fun _ h => False.elim h) (fun j hj e => by have := (hrh5.out.ownLt j hj).2; have : j = w5.heap.size := e; omega)
          have hah : ∀ j, (Value.slice ah k ch).ownBlock = some j → j ≠ hb := fun j hj e => by have := (hrh5.out.ownLt j hj).2; omega
          have hwb : w.heap.size ≤ hb := by rw [hhb]; exact hb15.out.size
          rw [← hhb]
          replace hhb := Lib.hid hhb
          replace hb16 := Lib.hid hb16
          replace hz7 := Lib.hid hz7
          replace hrh7 := Lib.hid hrh7
          replace hah := Lib.hid hah
          clear hU6 hz6 hzo hrh5 hrh hry hrx hrx3
          refine wp_loopF [(false, 13), (true, 2), (false, 51), (true, 15)] _ [] (fun U wr => ∃ j : Nat, j ≤ k ∧ U 66 = .int .i64 (j : Nat) ∧ wr.heap[hb]? = some (.cells (cB (headB z32 (ps.take j))).toArray 30 (0, 0)) ∧ RowsOf RD 32 32 w3.heap.size wr (fun _ => False) (.slice ah k ch) (headsB z32 ps) ∧ Below w.heap.size w wr)
            (fun U _ => k - (intOf (U 66)).toNat) ?_ ?_
          · simp only [List.getD_cons_zero, List.getD_cons_succ]
            exact ⟨0, Nat.zero_le _, rfl, hz7.out, hrh7.out, hb16.out⟩
          · clear hz7 hrh7 hb16
            intro V wq hrel KK2 hback2 l2 hl2
            obtain ⟨j, hj, h66, hhd, hrr, hbq⟩ := hrel
            simp only [fillS, popSeg, cond_true, cond_false, Nat.reduceAdd, h66] at hl2
            subst hl2
            replace h66 := Lib.hid h66
            by_cases hjk : j < k
            · have hjk2 : (j : Int) < (k : Int) := by omega
              have hjl : j < ps.length := by rw [← hM.out]; exact hjk
              obtain ⟨b, o, hab, ai, ci, hc, hai⟩ := (hA1.out.below hbq).row j hjl
              subst hab
              have hgd : ps.getD j [] = ps[j] := by simp [List.getD_eq_getElem?_getD, hjl]
              rw [hgd] at hc hai
              have hr1 := hall.out ps[j] (List.getElem_mem hjl)
              have htk : ps.take (j + 1) = ps.take j ++ [ps[j]] := List.take_succ_eq_append_getElem hjl
              have hhl : (headB z32 (ps.take j)).length = 32 := headB_len z32_len _
              have hhr : (headB z32 (ps.take (j + 1))).length = 32 := headB_len z32_len _
              have hnl : headB z32 (ps.take (j + 1)) = nextB (headB z32 (ps.take j)) ps[j] := by rw [htk, headB_snoc]
              have hnx := rnext_any (headB z32 (ps.take j)) ps[j] hhl ai ci wq hai hr1 (hRK.out.below hbq) (hRF.out.below hbq)
              have hget := headsB_get ps z32 j hjl
              have hneq := neqSame (headB z32 (ps.take (j + 1))) hhr
              have hND : (Tryd.prog.info? 32).map (·.size) = some (cB (headB z32 (ps.take (j + 1)))).length := by rw [infoDigest hhr, List.size_toArray]
              obtain ⟨H, hH⟩ : ∃ H, H = (cB (headB z32 (ps.take j))).toArray := ⟨_, rfl⟩
              obtain ⟨N, hN⟩ : ∃ N, N = (cB (headB z32 (ps.take (j + 1)))).toArray := ⟨_, rfl⟩
              rw [← hH, ← hnl, ← hN] at hnx
              rw [← hN] at hneq
              rw [← hH] at hhd
              have hzH : (Tryd.prog.info? 30).map (·.size) = some H.size := by rw [hH, List.size_toArray, cB_length, hhl]; kernel_rfl
              have hzA : (Tryd.prog.info? 30).map (·.size) = some N.size := by rw [hN, List.size_toArray, cB_length, hhr]; kernel_rfl
              have hHN : H.size = N.size := by rw [hH, hN]; simp [cB_length, hhl, hhr]
              have hN1 : N.all (·.oneCell') = true := by rw [hN]; exact cB_all _
              have huD : Tryd.prog.underlying 32 = some (.array 32 5) := Tryd.underlying32
              generalize ps[j] = r at *
              have hwq := hbq.size
              replace hnx := Lib.hid hnx
              replace hhd := Lib.hid hhd
              replace hrr := Lib.hid hrr
              replace hbq := Lib.hid hbq
              replace hget := Lib.hid hget
              replace hN := Lib.hid hN
              replace hH := Lib.hid hH
              replace hHN := Lib.hid hHN
              replace hnl := Lib.hid hnl
              replace htk := Lib.hid htk
              clear hai hgd
              go_wp2_with (refine wpList_load_row rfl 30 (.tmp 12) rfl hb H _ rfl hhd huA rfl hzH ?_)
              with_reducible refine hnx.out.mono ?_
              clear hnx
              rintro x w7 ⟨rfl, hb7⟩
              have hhd7 : Hid (w7.heap[hb]? = some (.cells H 30 (0, 0))) := Lib.hid ((hb7.block _ (block_lt hhd.out)).trans hhd.out)
              have hrr7 := Lib.hid (hrr.out.below liesRD hb7)
              have hbq7 := Lib.hid (hbq.out.trans (hb7.mono hwq))
              clear hb7
              go_wp2_with (refine wpList_store_row rfl 30 (.tmp 12) (.tmp 73) rfl hb H N rfl rfl hhd7 hzA hHN.out hN1 ?_; intro w8 hU8)
              have hbq8 := Lib.hid (hbq7.out.trans (hU8.out.below hwb))
              have hrr8 := hrr7.out.only liesRD (Only.ofUpd (D := fun j => j = hb) hU8.out rfl) (fun _ h => False.elim h) (fun j hj e => hah.out j hj e)
              obtain ⟨gh, cg, cs, hvh, ⟨_, rfl⟩, hrg⟩ := hrr8.elem liesRD j _ hget.out
              rw [headsB_length, ← hM.out] at hvh
              cases hvh
              have hN8 : w8.heap[hb]? = some (.cells N 30 (0, 0)) := hU8.out.here
              have hS8 : Hid (w8.drew.heap[hb]? = some (.cells N 30 (0, 0)) ∧ w8.drew.rangeAt gh (j * 32) (cB (headB z32 (ps.take (j + 1))))) := Lib.hid ⟨hN8, hrg⟩
              have rlA : ∀ W : World, (W.heap[hb]? = some (.cells N 30 (0, 0)) ∧ W.rangeAt gh (j * 32) (cB (headB z32 (ps.take (j + 1))))) → W.heap[hb]? = some (.cells N 30 (0, 0)) := fun _ h => h.1
              replace hrr8 := Lib.hid hrr8
              replace hN8 := Lib.hid hN8
              clear hrg hrr7 hrr hhd hhd7 hU8
              have hd8 : Hid (Below w8.heap.size w8 w8.drew) := Lib.hid ((Below.refl _ _).drew)
              go_wp2_with fail
              refine wp_region_held_drew (S := (fun W : World => W.heap[hb]? = some (.cells N 30 (0, 0)) ∧ W.rangeAt gh (j * 32) (cB (headB z32 (ps.take (j + 1)))))) (by kernel_rfl) hS8.out (fun hOn => ?_)
              generalize World.drew w8 = wd at *
              refine wpAnyH_take (i := 0) (v := ?_) (by simp only [List.getElem?_toArray, List.getElem?_cons_zero]; rfl) (by kernel_rfl) (by kernel_rfl) (by kernel_rfl) (by exact fun _ _ _ h => h) (Or.inl ⟨by rfl, ?_⟩) hOn ?_
              rotate_left
              focus (intro W hSW; go_simp; try with_reducible rfl)
              try simp only [Act.put, List.setIfInBounds_toArray, List.set_cons_zero, List.set_cons_succ]
              refine wpAnyH_take (i := 1) (v := ?_) (by simp only [List.getElem?_toArray, List.getElem?_cons_succ, List.getElem?_cons_zero]; rfl) (by kernel_rfl) (by kernel_rfl) (by kernel_rfl) (by exact fun _ _ _ h => h) (Or.inl ⟨by rfl, ?_⟩) hOn ?_
              rotate_left
              focus (intro W hSW; go_simp; try with_reducible rfl)
              try simp only [Act.put, List.setIfInBounds_toArray, List.set_cons_zero, List.set_cons_succ]
              refine wpAnyH_take (i := 2) (v := ?_) (by simp only [List.getElem?_toArray, List.getElem?_cons_succ, List.getElem?_cons_zero]; rfl) (by kernel_rfl) (by kernel_rfl) (by kernel_rfl) (by exact fun _ _ _ h => h) (Or.inl ⟨by rfl, ?_⟩) hOn ?_
              rotate_left
              focus (intro W hSW; go_simp; try with_reducible rfl)
              try simp only [Act.put, List.setIfInBounds_toArray, List.set_cons_zero, List.set_cons_succ]
              refine wpAnyH_take (i := 4) (v := Value.agg _) (by simp only [List.getElem?_toArray, List.getElem?_cons_succ, List.getElem?_cons_zero]; rfl) (by kernel_rfl) (by kernel_rfl) (by kernel_rfl) (by exact fun _ _ _ h => h) (Or.inl ⟨by rfl, fun W hSW => yields_load_row _ _ rfl _ _ _ rfl (rlA W hSW) huA rfl hzA⟩) hOn ?_
              try simp only [Act.put, List.setIfInBounds_toArray, List.set_cons_zero, List.set_cons_succ]
              refine wpAnyH_ready (rs := [3]) (by kernel_rfl) (by simp) ?_
              refine AllReadyH.cons (by simp only [List.getElem?_toArray, List.getElem?_cons_succ, List.getElem?_cons_zero]; rfl) (fun Kz hKz => ?_) AllReadyH.nil
              rw [if_pos (by rfl)]
              (refine wp_load_mid 32 (.tmp 76) rfl gh (j * 32) rfl (cB (headB z32 (ps.take (j + 1)))) _ hOn.2 huD rfl hND ?_)
              have hS := hOn
              rw [← hN.out]
              refine hKz.out _ _ (by first | exact hS | exact Below.trans hOn (Below.mono hnew (Below.size hOn))) (fun hNext => ?_)
              clear hKz Kz hOn
              have hOn := hNext
              clear hNext
              try clear hnew
              try clear hS
              try simp only [Act.put]
              refine wpAnyH_take (i := 5) (v := ?_) (by simp only [List.getElem?_toArray, List.getElem?_cons_succ, List.getElem?_cons_zero]; rfl) (by kernel_rfl) (by kernel_rfl) (by kernel_rfl) (by exact fun _ _ _ h => h) (Or.inl ⟨by rfl, ?_⟩) hOn ?_
              rotate_left
              focus (intro W hSW; go_simp; try with_reducible rfl)
              try simp only [Act.put, List.setIfInBounds_toArray, List.set_cons_zero, List.set_cons_succ]
              refine wpAnyH_done (by kernel_rfl) ?_ _
              all_goals
                go_wp2_with fail
                refine hback2.out _ _ (by kernel_rfl) ?_ ?_
                · simp only [List.getD_cons_zero, List.getD_cons_succ]
                  exact ⟨j + 1, by omega, by go_num, by rw [← hN.out]; exact (hd8.out.block _ (block_lt hN8.out)).trans hN8.out, hrr8.out.below liesRD hd8.out, hbq8.out.trans (hd8.out.mono hbq8.out.size)⟩
                · have h66 := h66.out
                  simp only [List.getD_cons_zero, List.getD_cons_succ, h66, intOf]
                  omega
            · obtain rfl : j = k := by omega
              replace hbq := Lib.hid hbq
              go_wp2_with fail
              go_ret
              exact ⟨rfl, hbq.out⟩
end Go.Proofs.YtgkddegaiaeckaaDoor
/- JournalScans: the walk, in the frame's words. -/
namespace Go.Proofs.YtgkddegaiaeckaaDoor
open Go.RowKit
theorem scans_law (a0 : Option Addr) (cap0 : Nat) (z0 : List UInt8) (a1 : Option Addr) (cap1 : Nat) (z1 : List (List UInt8)) (W : World) (w0 : ArgB W a0 cap0 z0) (w1 : ArgBB W a1 cap1 z1) (ea : Nat → Addr) (hE : Errs 161 [0, 4, 1, 5, 3, 2] W ea) (hK : ShaK W) (hF : ShaF W) (hRK : RefK W) (hRF : RefF W) :
    Calls Tryd.prog 3 #[.slice a0 z0.length cap0, .slice a1 z1.length cap1] W fun x w' => x = .returned (.bool true) ∧ Below W.heap.size W w' :=
  scans_walk a0 cap0 z0 a1 cap1 z1 W w0 w1 (fun k => match k with | 0 => ea 0 | 1 => ea 1 | _ => ea 5) ⟨hE.var 0 (by decide), hE.var 1 (by decide), hE.var 5 (by decide)⟩ hK hF hRK hRF
end Go.Proofs.YtgkddegaiaeckaaDoor
