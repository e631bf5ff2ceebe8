/- The walks over Begins, Odd. -/
import Derived.Test.YtgkddegaiaeckaaDoorF31SafeSaid
import Derived.Test.YtgkddegaiaeckaaDoorF36SafeSaid
import Derived.Test.YtgkddegaiaeckaaDoorF2SafeSaid
import Derived.Deep.CutRange
namespace Go.Proofs.YtgkddegaiaeckaaDoor
open Go.RowKit

theorem begB_iff : ∀ ps qs : List (List UInt8), begB ps qs = true ↔ ps.length ≤ qs.length ∧ ∀ i, i < ps.length → ps.getD i [] = qs.getD i [] := by
  intro ps
  induction ps with
  | nil => intro qs; simp [begB]
  | cons a ps ih =>
    intro qs
    cases qs with
    | nil => simp [begB]
    | cons b qs =>
      simp only [begB, Bool.and_eq_true, beq_iff_eq, ih qs, List.length_cons]
      constructor
      · rintro ⟨rfl, h1, h2⟩
        refine ⟨by omega, fun i hi => ?_⟩
        cases i with
        | zero => rfl
        | succ i => simpa using h2 i (by omega)
      · rintro ⟨h1, h2⟩
        refine ⟨by simpa using h2 0 (by omega), by omega, fun i hi => ?_⟩
        simpa using h2 (i + 1) (by omega)
theorem drop_getD {α : Type} {l : List α} {d : α} {k : Nat} (h : k < l.length) : l.drop k = l.getD k d :: l.drop (k + 1) := by
  rw [List.drop_eq_getElem_cons h]
  simp [List.getD_eq_getElem?_getD, h]
theorem take_getD {α : Type} {l : List α} {d : α} {k : Nat} (h : k < l.length) : l.take (k + 1) = l.take k ++ [l.getD k d] := by
  rw [List.take_succ_eq_append_getElem h]
  simp [List.getD_eq_getElem?_getD, h]

set_option maxRecDepth 100000 in
set_option maxHeartbeats 1000000 in
theorem begins_any (ps qs : List (List UInt8)) (a1 a2 : Option Addr) (c1 c2 : Nat) (w : World) (hA : ArgBB w a1 c1 ps) (hB : ArgBB w a2 c2 qs) :
    Calls Tryd.prog 23 #[.slice a1 ps.length c1, .slice a2 qs.length c2] w fun x w' => x = .returned (.bool (begB ps qs)) ∧ Drawn w w' := by
  obtain ⟨q, hq⟩ : ∃ q, q = begB ps qs := ⟨_, rfl⟩
  have hiff := begB_iff ps qs
  rw [← hq] at hiff ⊢
  obtain ⟨L, hL⟩ : ∃ L, L = ps.length := ⟨_, rfl⟩
  obtain ⟨M, hM⟩ : ∃ M, M = qs.length := ⟨_, rfl⟩
  have hLm : L ≤ 9223372036854775807 := by have := hA.len; have := hA.most; unfold maxLen at *; omega
  have hMm : M ≤ 9223372036854775807 := by have := hB.len; have := hB.most; unfold maxLen at *; omega
  rw [← hL, ← hM] at hiff
  rw [← hL, ← hM]
  replace hL := Lib.hid hL
  replace hM := Lib.hid hM
  replace hA := Lib.hid hA
  replace hB := Lib.hid hB
  replace hiff := Lib.hid hiff
  clear hq
  by_cases hgt : M < L
  · have hq : q = false := Bool.eq_false_iff.2 (fun h => by have := (hiff.out.1 h).1; omega)
    have i1 : (M : Int) < (L : Int) := by omega
    subst hq
    clear hiff
    go_enter Tryd.func23, Tryd.ntmps23
    go_wp2_with fail
    go_ret
    exact ⟨rfl, Drawn.refl _⟩
  · have i1 : ¬ ((M : Int) < (L : Int)) := by omega
    go_enter Tryd.func23, Tryd.ntmps23
    go_wp2_with fail
    refine wp_loopF [(false, 4), (true, 3), (false, 7), (true, 14)] _ [] (fun U wr => ∃ k : Nat, k ≤ L ∧ U 14 = .int .i64 (k : Nat) ∧ Drawn w wr ∧ ∀ i, i < k → ps.getD i [] = qs.getD i []) (fun U _ => L - (intOf (U 14)).toNat) ?_ ?_
    · simp only [List.getD_cons_zero, List.getD_cons_succ]
      exact ⟨0, Nat.zero_le _, rfl, Drawn.refl _, fun i hi => absurd hi (Nat.not_lt_zero _)⟩
    · intro U wr hrel KK hback l' hl'
      obtain ⟨k, hk, h14, hdw, hle⟩ := hrel
      simp only [fillS, popSeg, cond_true, cond_false, Nat.reduceAdd, h14] at hl'
      subst hl'
      replace h14 := Lib.hid h14
      by_cases hlt : k < L
      · have hlt2 : (k : Int) < (L : Int) := by omega
        have hlm2 : (k : Int) < (M : Int) := by omega
        have hlm3 : k < M := by omega
        obtain ⟨b, o, hab, ai, ci, hc, hai⟩ := (hA.out.below (hdw.below _)).row k (by rw [← hL.out]; exact hlt)
        obtain ⟨b', o', hab', ai', ci', hc', hai'⟩ := (hB.out.below (hdw.below _)).row k (by rw [← hM.out]; exact hlm3)
        subst hab hab'
        generalize hxs : ps.getD k [] = xs at *
        generalize hys : qs.getD k [] = ys at *
        have kc1 := fun m => conv_str (P := Tryd.prog) (w := wr.drewN m) (src := 22) (dst := 9) (c := ci) xs Tryd.underlying22 Tryd.underlying5 Tryd.underlying9 (hai.below (Drawn.below ⟨m, rfl⟩ _)).row
        have kc2 := fun m => conv_str (P := Tryd.prog) (w := wr.drewN m) (src := 22) (dst := 9) (c := ci') ys Tryd.underlying22 Tryd.underlying5 Tryd.underlying9 (hai'.below (Drawn.below ⟨m, rfl⟩ _)).row
        have hse := str_eq xs ys
        by_cases hqe : xs = ys
        · replace hle := Lib.hid hle
          replace hxs := Lib.hid hxs
          replace hys := Lib.hid hys
          replace hdw := Lib.hid hdw
          subst hqe
          clear hai hai'
          go_wp2_with fail
          go_quiet (fail)
          go_wp2_with fail
          refine hback.out _ _ (by kernel_rfl) ?_ ?_
          · simp only [List.getD_cons_zero, List.getD_cons_succ]
            refine ⟨k + 1, by omega, by go_num, hdw.out.more _, fun i hi => ?_⟩
            by_cases hik : i < k
            · exact hle.out i hik
            · obtain rfl : i = k := by omega
              rw [hxs.out, hys.out]
          · have h14 := h14.out
            simp only [List.getD_cons_zero, List.getD_cons_succ, h14, intOf]
            omega
        · have hq : q = false := Bool.eq_false_iff.2 (fun h => by have := (hiff.out.1 h).2 k hlt; rw [hxs, hys] at this; exact hqe this)
          have hne : ¬ (({ data := xs.toArray } : ByteArray) = { data := ys.toArray }) := fun e => hqe (hse.1 e)
          have hnb : (xs == ys) = false := beq_eq_false_iff_ne.2 hqe
          have hna : ¬ (xs.toArray = ys.toArray) := fun e => hne (by rw [e])
          subst hq
          replace hle := Lib.hid hle
          replace hxs := Lib.hid hxs
          replace hys := Lib.hid hys
          replace hdw := Lib.hid hdw
          clear hai hai' hse hiff
          go_wp2_with fail
          go_quiet (fail)
          go_wp2_with fail
          go_ret
          exact ⟨rfl, hdw.out.more _⟩
      · obtain rfl : k = L := by omega
        have hq : q = true := hiff.out.2 ⟨by omega, hle⟩
        subst hq
        replace hle := Lib.hid hle
        replace hdw := Lib.hid hdw
        clear hiff
        go_wp2_with fail
        go_ret
        exact ⟨rfl, hdw.out⟩

set_option maxRecDepth 100000 in
set_option maxHeartbeats 1000000 in
theorem odd_any (ps qs : List (List UInt8)) (hl1 : ∀ r ∈ ps, r.length ≤ 1000) (hl2 : ∀ r ∈ qs, r.length ≤ 1000) (a1 a2 : Option Addr) (c1 c2 : Nat) (w : World) (hA : ArgBB w a1 c1 ps) (hB : ArgBB w a2 c2 qs) (hRK : RefK w) (hRF : RefF w) :
    Calls Tryd.prog 24 #[.slice a1 ps.length c1, .slice a2 qs.length c2] w fun x w' => x = .returned (.bool (oddB z32 ps qs)) ∧ Below w.heap.size w w' := by
  have zr := zeroR_run
  have zn := zero32_ne
  have huA : Tryd.prog.underlying 30 = some (.array 32 5) := Tryd.underlying30
  have hzz : (Instr.build 30 #[]).run Tryd.prog = fun W => .ok (.agg zero32) W := by funext W; kernel_rfl
  have hzi : (Tryd.prog.info? 30).map (·.size) = some zero32.size := by rw [zero32_z, List.size_toArray, cB_length, z32_len]; kernel_rfl
  have hzo : zero32.all (·.oneCell') = true := by rw [zero32_z]; exact cB_all _
  obtain ⟨q, hq⟩ : ∃ q, q = oddB z32 ps qs := ⟨_, rfl⟩
  rw [← hq]
  obtain ⟨L, hL⟩ : ∃ L, L = ps.length := ⟨_, rfl⟩
  obtain ⟨M, hM⟩ : ∃ M, M = qs.length := ⟨_, rfl⟩
  have hLm : L ≤ 9223372036854775807 := by have := hA.len; have := hA.most; unfold maxLen at *; omega
  have hMm : M ≤ 9223372036854775807 := by have := hB.len; have := hB.most; unfold maxLen at *; omega
  rw [← hL, ← hM]
  have hz1 : Hid ((w.alloc (.cells zero32 30)).heap[w.heap.size]? = some (.cells zero32 30 (0, 0))) := heap_alloc_new w (.cells zero32 30 (0, 0))
  have hst0 : ∀ w2, Upd w.heap.size (.cells zero32 30 (0, 0)) (w.alloc (.cells zero32 30)) w2 → Below w.heap.size w w2 := fun w2 hU => ((Below.refl _ _).alloc (Nat.le_refl _) _).trans (hU.below (Nat.le_refl _))
  replace hst0 := Lib.hid hst0
  replace hq := Lib.hid hq
  replace hL := Lib.hid hL
  replace hM := Lib.hid hM
  replace hA := Lib.hid hA
  replace hB := Lib.hid hB
  replace hRK := Lib.hid hRK
  replace hRF := Lib.hid hRF
  go_enter Tryd.func24, Tryd.ntmps24
  go_wp2_with (refine wpList_store_row rfl 30 (.tmp 5) (.tmp 11) rfl w.heap.size zero32 zero32 rfl rfl hz1 hzi rfl hzo ?_; intro w2 hU2)
  have hb2 := Lib.hid (hst0.out w2 hU2.out)
  have hh2 := Lib.hid hU2.out.here
  have hs2 : w.heap.size + 1 ≤ w2.heap.size := by have := hU2.out.size; simp at this; omega
  obtain ⟨hb, hhb⟩ : ∃ hb, hb = w.heap.size := ⟨_, rfl⟩
  rw [← hhb] at hh2 ⊢
  replace hhb := Lib.hid hhb
  clear hst0 hz1 hU2
  refine wp_loopF [(false, 4), (true, 1), (false, 1), (true, 5), (false, 3), (true, 47)] _ [] (fun U wr => ∃ k : Nat, k ≤ L ∧ U 14 = .int .i64 (k : Nat) ∧ Below w.heap.size w wr ∧ wr.heap[hb]? = some (.cells (cB (headB z32 (ps.take k))).toArray 30 (0, 0)) ∧ q = oddB (headB z32 (ps.take k)) (ps.drop k) (qs.drop k)) (fun U _ => L - (intOf (U 14)).toNat) ?_ ?_
  · simp only [List.getD_cons_zero, List.getD_cons_succ]
    exact ⟨0, Nat.zero_le _, rfl, hb2.out, by rw [List.take_zero, hh2.out, zero32_z]; rfl, hq.out⟩
  · clear hb2 hh2 hs2
    intro U wr hrel KK hback l' hl'
    obtain ⟨k, hk, h14, hbw, hhd, hqk⟩ := hrel
    simp only [fillS, popSeg, cond_true, cond_false, Nat.reduceAdd, h14] at hl'
    subst hl'
    replace h14 := Lib.hid h14
    by_cases hlt : k < L
    · have hlt2 : (k : Int) < (L : Int) := by omega
      by_cases hlm : k < M
      · have hlm2 : ¬ ((M : Int) ≤ (k : Int)) := by omega
        have hlm3 : (k : Int) < (M : Int) := by omega
        obtain ⟨b, o, hab, ai, ci, hc, hai⟩ := (hA.out.below hbw).row k (by rw [← hL.out]; exact hlt)
        obtain ⟨b', o', hab', ai', ci', hc', hai'⟩ := (hB.out.below hbw).row k (by rw [← hM.out]; exact hlm)
        subst hab hab'
        rw [drop_getD (d := []) (by rw [← hL.out]; exact hlt), drop_getD (l := qs) (d := []) (by rw [← hM.out]; exact hlm), oddB] at hqk
        have hx1 : (ps.getD k []).length ≤ 1000 := by
          have hm : ps[k]'(by rw [← hL.out]; exact hlt) ∈ ps := List.getElem_mem _
          have := hl1 _ hm
          simpa [List.getD_eq_getElem?_getD, show k < ps.length by rw [← hL.out]; exact hlt] using this
        have hy1 : (qs.getD k []).length ≤ 1000 := by
          have hm : qs[k]'(by rw [← hM.out]; exact hlm) ∈ qs := List.getElem_mem _
          have := hl2 _ hm
          simpa [List.getD_eq_getElem?_getD, show k < qs.length by rw [← hM.out]; exact hlm] using this
        have htk : ps.take (k + 1) = ps.take k ++ [ps.getD k []] := take_getD (by rw [← hL.out]; exact hlt)
        have hhs : headB z32 (ps.take (k + 1)) = nextB (headB z32 (ps.take k)) (ps.getD k []) := by rw [htk, headB_snoc]
        have hhl : (headB z32 (ps.take k)).length = 32 := headB_len z32_len _
        clear htk
        generalize hxs : ps.getD k [] = xs at *
        generalize hys : qs.getD k [] = ys at *
        have kc1 := fun m => conv_str (P := Tryd.prog) (w := wr.drewN m) (src := 22) (dst := 9) (c := ci) xs Tryd.underlying22 Tryd.underlying5 Tryd.underlying9 (hai.below (Drawn.below ⟨m, rfl⟩ _)).row
        have kc2 := fun m => conv_str (P := Tryd.prog) (w := wr.drewN m) (src := 22) (dst := 9) (c := ci') ys Tryd.underlying22 Tryd.underlying5 Tryd.underlying9 (hai'.below (Drawn.below ⟨m, rfl⟩ _)).row
        have hse := str_eq xs ys
        obtain ⟨h, hhv⟩ : ∃ h, h = headB z32 (ps.take k) := ⟨_, rfl⟩
        rw [← hhv] at hhd hqk hhs hhl
        obtain ⟨H, hHd⟩ : ∃ H, H = (cB h).toArray := ⟨_, rfl⟩
        obtain ⟨N, hNd⟩ : ∃ N, N = (cB (nextB h xs)).toArray := ⟨_, rfl⟩
        have hNl := nextB_len h xs
        have hnx := fun W ha hk hf => rnext_any h xs hhl ai ci W ha (by omega) hk hf
        have hny := fun W ha hk hf => rnext_any h ys hhl ai' ci' W ha (by omega) hk hf
        rw [← hHd] at hhd hnx hny
        rw [← hNd] at hnx
        have hzH : (Tryd.prog.info? 30).map (·.size) = some H.size := by rw [hHd, List.size_toArray, cB_length, hhl]; kernel_rfl
        have hzN : (Tryd.prog.info? 30).map (·.size) = some N.size := by rw [hNd, List.size_toArray, cB_length, hNl]; kernel_rfl
        have hHN : H.size = N.size := by rw [hHd, hNd]; simp [cB_length, hhl, hNl]
        have hN1 : N.all (·.oneCell') = true := by rw [hNd]; exact cB_all _
        replace hhd := Lib.hid hhd
        replace hHd := Lib.hid hHd
        replace hNd := Lib.hid hNd
        replace hhv := Lib.hid hhv
        replace hqk := Lib.hid hqk
        replace hhs := Lib.hid hhs
        replace hhl := Lib.hid hhl
        replace hxs := Lib.hid hxs
        replace hys := Lib.hid hys
        replace hNl := Lib.hid hNl
        replace hnx := Lib.hid hnx
        replace hny := Lib.hid hny
        replace hHN := Lib.hid hHN
        replace hai := Lib.hid hai
        replace hai' := Lib.hid hai'
        replace hbw := Lib.hid hbw
        by_cases hqe : xs = ys
        · have hqe2 := hqe
          subst hqe
          clear hny
          go_wp2_with fail
          go_quiet (fail)
          have hheadq : Hid ((wr.drewN nq).heap[hb]? = some (.cells H 30 (0, 0))) := hhd
          go_wp2_with (refine wpList_load_row rfl 30 (.tmp 5) rfl hb H _ rfl hheadq huA rfl hzH ?_)
          have hbq : Below wr.heap.size wr (wr.drewN nq) := Drawn.below ⟨nq, rfl⟩ _
          have haiq := hai.out.below hbq
          generalize wr.drewN nq = wq at *
          have hwr := hbw.out.size
          have hbwq : Below w.heap.size w wq := hbw.out.trans (hbq.mono hwr)
          have hnq := Lib.hid (hnx.out wq haiq (hRK.out.below hbwq) (hRF.out.below hbwq))
          replace hbwq := Lib.hid hbwq
          clear hbq haiq hnx
          with_reducible refine hnq.out.mono ?_
          clear hnq
          rintro x4 w4 ⟨rfl, hb4⟩
          have hH4 : Hid (w4.heap[hb]? = some (.cells H 30 (0, 0))) := Lib.hid ((hb4.block _ (block_lt hheadq.out)).trans hheadq.out)
          have hbw4 := Lib.hid (hbwq.out.trans (hb4.mono hbwq.out.size))
          clear hb4
          go_wp2_with (refine wpList_store_row rfl 30 (.tmp 5) (.tmp 33) rfl hb H N rfl rfl hH4 hzN hHN.out hN1 ?_; intro w5 hU5)
          refine hback.out _ _ (by kernel_rfl) ?_ ?_
          · simp only [List.getD_cons_zero, List.getD_cons_succ]
            refine ⟨k + 1, by omega, by go_num, hbw4.out.trans (hU5.out.below (by rw [hhb.out]; exact Nat.le_refl _)), by rw [hhs.out, ← hNd.out]; exact hU5.out.here, ?_⟩
            rw [hhs.out, hqk.out]; simp only [if_true]
          · have h14 := h14.out
            simp only [List.getD_cons_zero, List.getD_cons_succ, h14, intOf]
            omega
        · have hne : ¬ (({ data := xs.toArray } : ByteArray) = { data := ys.toArray }) := fun e => hqe (hse.1 e)
          have hnb : (xs == ys) = false := beq_eq_false_iff_ne.2 hqe
          have hna : ¬ (xs.toArray = ys.toArray) := fun e => hne (by rw [e])
          have hqo : q = (List.range 32).all fun k => (nextB h xs).getD k 0 == (nextB h ys).getD k 0 || (nextB h xs).getD k 0 == 0 := by rw [hqk.out, if_neg hqe]
          have hYl := nextB_len h ys
          obtain ⟨Y, hYd⟩ : ∃ Y, Y = (cB (nextB h ys)).toArray := ⟨_, rfl⟩
          have hny := hny.out
          rw [← hYd] at hny
          replace hny := Lib.hid hny
          have hzY : (Tryd.prog.info? 30).map (·.size) = some Y.size := by rw [hYd, List.size_toArray, cB_length, hYl]; kernel_rfl
          have hY1 : Y.all (·.oneCell') = true := by rw [hYd]; exact cB_all _
          replace hqo := Lib.hid hqo
          replace hYd := Lib.hid hYd
          replace hYl := Lib.hid hYl
          clear hse
          go_wp2_with fail
          go_quiet (fail)
          go_wp2_with fail
          have hheadq : Hid ((wr.drewN nq).heap[hb]? = some (.cells H 30 (0, 0))) := hhd
          have hbq : Below wr.heap.size wr (wr.drewN nq) := Drawn.below ⟨nq, rfl⟩ _
          have haiq := hai.out.below hbq
          have haiq' := hai'.out.below hbq
          have hcq : (wr.drewN nq).cell? ⟨b', o' + k, none⟩ = some (.slice ai' ys.length ci') := by rw [World.cell?_drewN]; exact hc'
          generalize wr.drewN nq = wq at *
          have hwr := hbw.out.size
          have hbwq : Below w.heap.size w wq := hbw.out.trans (hbq.mono hwr)
          have hd0 : Hid (Below wq.heap.size wq wq.drew) := Lib.hid ((Below.refl _ _).drew)
          have rlA : ∀ W : World, Below wq.heap.size wq W → W.heap[hb]? = some (.cells H 30 (0, 0)) := fun W h => (h.block _ (block_lt hheadq.out)).trans hheadq.out
          have hzA := hzH
          have hnq := fun W (hW : Below wq.heap.size wq W) => hnx.out W (haiq.below hW) (hRK.out.below (hbwq.trans (hW.mono hbwq.size))) (hRF.out.below (hbwq.trans (hW.mono hbwq.size)))
          have hmq := fun W (hW : Below wq.heap.size wq W) => hny.out W (haiq'.below hW) (hRK.out.below (hbwq.trans (hW.mono hbwq.size))) (hRF.out.below (hbwq.trans (hW.mono hbwq.size)))
          replace hnq := Lib.hid hnq
          replace hmq := Lib.hid hmq
          replace hbwq := Lib.hid hbwq
          replace haiq := Lib.hid haiq
          replace haiq' := Lib.hid haiq'
          have hcW : ∀ W : World, Below wq.heap.size wq W → W.cell? ⟨b', o' + k, none⟩ = some (.slice ai' ys.length ci') := fun W hW => (hW.cell (p := ⟨b', o' + k, none⟩) (World.block_lt_of_cell? wq _ hcq)).trans hcq
          have hzZ : (Tryd.prog.info? 30).map (·.size) = some N.size := hzN
          have s0N : zero32.size = N.size := by rw [hNd.out]; exact zero32_like hNl.out
          have s0Y : zero32.size = Y.size := by rw [hYd.out]; exact zero32_like hYl.out
          go_cut [8, 9] from 14 to 60 (fun s8 s9 wx => ∃ g8 g9, s8 = .pointer (some ⟨g8, 0, none⟩) ∧ s9 = .pointer (some ⟨g9, 0, none⟩) ∧ wx.heap[g8]? = some (.cells N 30 (0, 0)) ∧ wx.heap[g9]? = some (.cells Y 30 (0, 0)) ∧ Below wq.heap.size wq wx)
          case first =>
            refine wp_region_held_drew (S := (Below wq.heap.size wq)) (by kernel_rfl) hd0.out (fun hOn => ?_)
            generalize World.drew wq = wd at *
            refine wpAnyH_take (i := 0) (v := Value.agg _) (by simp only [List.getElem?_toArray, List.getElem?_cons_zero]; rfl) (by kernel_rfl) (by kernel_rfl) (by kernel_rfl) (by exact fun _ _ _ h => h) (Or.inl ⟨by rfl, fun W hSW => yields_load_row _ _ rfl _ _ _ rfl (rlA W hSW) huA rfl hzA⟩) hOn ?_
            try simp only [Act.put, List.setIfInBounds_toArray, List.set_cons_zero, List.set_cons_succ]
            refine wpAnyH_take (i := 1) (v := ?_) (by simp only [List.getElem?_toArray, List.getElem?_cons_succ, List.getElem?_cons_zero]; rfl) (by kernel_rfl) (by kernel_rfl) (by kernel_rfl) (by exact fun _ _ _ h => h) (Or.inl ⟨by rfl, ?_⟩) hOn ?_
            rotate_left
            focus (intro W hSW; go_simp; try with_reducible rfl)
            try simp only [Act.put, List.setIfInBounds_toArray, List.set_cons_zero, List.set_cons_succ]
            refine wpAnyH_take (i := 3) (v := Value.agg _) (by simp only [List.getElem?_toArray, List.getElem?_cons_succ, List.getElem?_cons_zero]; rfl) (by kernel_rfl) (by kernel_rfl) (by kernel_rfl) (by exact fun _ _ _ h => h) (Or.inl ⟨by rfl, fun W hSW => yields_load_row _ _ rfl _ _ _ rfl (rlA W hSW) huA rfl hzA⟩) hOn ?_
            try simp only [Act.put, List.setIfInBounds_toArray, List.set_cons_zero, List.set_cons_succ]
            refine wpAnyH_take (i := 4) (v := ?_) (by simp only [List.getElem?_toArray, List.getElem?_cons_succ, List.getElem?_cons_zero]; rfl) (by kernel_rfl) (by kernel_rfl) (by kernel_rfl) (by exact fun _ _ _ h => h) (Or.inl ⟨by rfl, ?_⟩) hOn ?_
            rotate_left
            focus (intro W hSW; go_simp; try with_reducible rfl)
            try simp only [Act.put, List.setIfInBounds_toArray, List.set_cons_zero, List.set_cons_succ]
            refine wpAnyH_take (i := 5) (v := ?_) (by simp only [List.getElem?_toArray, List.getElem?_cons_succ, List.getElem?_cons_zero]; rfl) (by kernel_rfl) (by kernel_rfl) (by kernel_rfl) (by exact fun _ _ _ h => h) (Or.inl ⟨by rfl, ?_⟩) hOn ?_
            rotate_left
            focus (intro W hSW; go_simp; try with_reducible rfl)
            try simp only [Act.put, List.setIfInBounds_toArray, List.set_cons_zero, List.set_cons_succ]
            refine wpAnyH_take (i := 6) (v := ?_) (by simp only [List.getElem?_toArray, List.getElem?_cons_succ, List.getElem?_cons_zero]; rfl) (by kernel_rfl) (by kernel_rfl) (by kernel_rfl) (by exact fun _ _ _ h => h) (Or.inl ⟨by rfl, ?_⟩) hOn ?_
            rotate_left
            focus (intro W hSW; go_simp; try with_reducible rfl)
            try simp only [Act.put, List.setIfInBounds_toArray, List.set_cons_zero, List.set_cons_succ]
            refine wpAnyH_take (i := 7) (v := ?_) (by simp only [List.getElem?_toArray, List.getElem?_cons_succ, List.getElem?_cons_zero]; rfl) (by kernel_rfl) (by kernel_rfl) (by kernel_rfl) (by exact fun _ _ _ h => h) (Or.inl ⟨by rfl, ?_⟩) hOn ?_
            rotate_left
            focus (intro W hSW; go_simp; try with_reducible rfl)
            try simp only [Act.put, List.setIfInBounds_toArray, List.set_cons_zero, List.set_cons_succ]
            refine wpAnyH_ready (rs := [2, 9, 10]) (by kernel_rfl) (by simp) ?_
            refine AllReadyH.cons (by simp only [List.getElem?_toArray, List.getElem?_cons_succ, List.getElem?_cons_zero]; rfl) (fun Kz hKz => ?_) ?_
            go_simp
            (with_reducible refine (hnq.out _ hOn).mono ?_)
            rintro e w3 ⟨rfl, hnew⟩
            (try replace hz1 := Lib.hid ((hnew.block _ (block_lt hz1.out)).trans hz1.out))
            (try replace hz2 := Lib.hid ((hnew.block _ (block_lt hz2.out)).trans hz2.out))
            focus (go_wp2_with fail)
            refine hKz.out _ _ (by first | exact hS | exact Below.trans hOn (Below.mono hnew (Below.size hOn))) (fun hNext => ?_)
            clear hKz Kz hOn
            have hOn := hNext
            clear hNext
            try clear hnew
            try clear hS
            try simp only [Act.put, List.setIfInBounds_toArray, List.set_cons_zero, List.set_cons_succ]
            refine wpAnyH_ready (rs := [8, 9, 10]) (by kernel_rfl) (by simp) ?_
            refine AllReadyH.cons (by simp only [List.getElem?_toArray, List.getElem?_cons_succ, List.getElem?_cons_zero]; rfl) (fun Kz hKz => ?_) ?_
            go_simp
            (with_reducible refine (hmq.out _ hOn).mono ?_)
            rintro e w4 ⟨rfl, hnew⟩
            (try replace hz1 := Lib.hid ((hnew.block _ (block_lt hz1.out)).trans hz1.out))
            (try replace hz2 := Lib.hid ((hnew.block _ (block_lt hz2.out)).trans hz2.out))
            focus (go_wp2_with fail)
            refine hKz.out _ _ (by first | exact hS | exact Below.trans hOn (Below.mono hnew (Below.size hOn))) (fun hNext => ?_)
            clear hKz Kz hOn
            have hOn := hNext
            clear hNext
            try clear hnew
            try clear hS
            try simp only [Act.put, List.setIfInBounds_toArray, List.set_cons_zero, List.set_cons_succ]
            refine wpAnyH_ready (rs := [9, 10]) (by kernel_rfl) (by simp) ?_
            refine AllReadyH.cons (by simp only [List.getElem?_toArray, List.getElem?_cons_succ, List.getElem?_cons_zero]; rfl) (fun Kz hKz => ?_) ?_
            go_simp
            focus (try go_wp2_with fail)
            (fail_if_success (have := hz1))
            (with_reducible refine made_step (t := 30) ?_)
            intro w5 hz1 hnew
            have hge1 := Lib.hid hOn.size
            refine hKz.out _ _ (by first | exact hS | exact Below.trans hOn (Below.mono hnew (Below.size hOn))) (fun hNext => ?_)
            clear hKz Kz hOn
            have hOn := hNext
            clear hNext
            try clear hnew
            try clear hS
            try simp only [Act.put, List.setIfInBounds_toArray, List.set_cons_zero, List.set_cons_succ]
            refine wpAnyH_ready (rs := [10]) (by kernel_rfl) (by simp) ?_
            refine AllReadyH.cons (by simp only [List.getElem?_toArray, List.getElem?_cons_succ, List.getElem?_cons_zero]; rfl) (fun Kz hKz => ?_) AllReadyH.nil
            go_simp
            focus (try go_wp2_with fail)
            (fail_if_success (have := hz2))
            (with_reducible refine made_step (t := 30) ?_)
            intro w6 hz2 hnew
            have hz12 := Lib.hid (block_lt hz1.out)
            have hge2 := Lib.hid hOn.size
            replace hz1 := Lib.hid ((hnew.block _ (block_lt hz1.out)).trans hz1.out)
            refine hKz.out _ _ (by first | exact hS | exact Below.trans hOn (Below.mono hnew (Below.size hOn))) (fun hNext => ?_)
            clear hKz Kz hOn
            have hOn := hNext
            clear hNext
            try clear hnew
            try clear hS
            try simp only [Act.put, List.setIfInBounds_toArray, List.set_cons_zero, List.set_cons_succ]
            refine wpAnyH_ready (rs := [11]) (by kernel_rfl) (by simp) ?_
            refine AllReadyH.cons (by simp only [List.getElem?_toArray, List.getElem?_cons_succ, List.getElem?_cons_zero]; rfl) (fun Kz hKz => ?_) AllReadyH.nil
            rw [if_pos (by rfl)]
            (with_reducible refine wp_store_rowK 30 (.tmp 8) (.tmp 36) rfl _ zero32 N rfl rfl hz1 hzN s0N hN1 ?_)
            intro w7 hU7
            have hS := hOn.trans (hU7.out.below hge1.out)
            have hN7 := Lib.hid hU7.out.here
            have hz3 := Lib.hid ((hU7.out.block _ (by have := hz12.out; omega)).trans hz2.out)
            have hne7 := Lib.hid hz12.out
            have hge7 := Lib.hid hge2.out
            refine hKz.out _ _ (by first | exact hS | exact Below.trans hOn (Below.mono hnew (Below.size hOn))) (fun hNext => ?_)
            clear hKz Kz hOn
            have hOn := hNext
            clear hNext
            try clear hnew
            try clear hS
            try simp only [Act.put]
            refine wpAnyH_ready (rs := [12]) (by kernel_rfl) (by simp) ?_
            refine AllReadyH.cons (by simp only [List.getElem?_toArray, List.getElem?_cons_succ, List.getElem?_cons_zero]; rfl) (fun Kz hKz => ?_) AllReadyH.nil
            rw [if_pos (by rfl)]
            (with_reducible refine wp_store_rowK 30 (.tmp 9) (.tmp 42) rfl _ zero32 Y rfl rfl hz3 hzY s0Y hY1 ?_)
            intro w8 hU8
            have hS := hOn.trans (hU8.out.below hge7.out)
            have hY8 := Lib.hid hU8.out.here
            have hN8 := Lib.hid ((hU8.out.block _ (by have := hz12.out; omega)).trans hN7.out)
            refine hKz.out _ _ (by first | exact hS | exact Below.trans hOn (Below.mono hnew (Below.size hOn))) (fun hNext => ?_)
            clear hKz Kz hOn
            have hOn := hNext
            clear hNext
            try clear hnew
            try clear hS
            try simp only [Act.put]
            refine wpAnyH_done (by kernel_rfl) ?_ _
            rotate_left
            refine AllReadyH.cons (by simp only [List.getElem?_toArray, List.getElem?_cons_succ, List.getElem?_cons_zero]; rfl) (fun Kz hKz => ?_) AllReadyH.nil
            go_simp
            focus (try go_wp2_with fail)
            (fail_if_success (have := hz1))
            (with_reducible refine made_step (t := 30) ?_)
            intro w5 hz1 hnew
            have hge1 := Lib.hid hOn.size
            refine hKz.out _ _ (by first | exact hS | exact Below.trans hOn (Below.mono hnew (Below.size hOn))) (fun hNext => ?_)
            clear hKz Kz hOn
            have hOn := hNext
            clear hNext
            try clear hnew
            try clear hS
            try simp only [Act.put, List.setIfInBounds_toArray, List.set_cons_zero, List.set_cons_succ]
            refine wpAnyH_ready (rs := [9]) (by kernel_rfl) (by simp) ?_
            refine AllReadyH.cons (by simp only [List.getElem?_toArray, List.getElem?_cons_succ, List.getElem?_cons_zero]; rfl) (fun Kz hKz => ?_) AllReadyH.nil
            go_simp
            focus (try go_wp2_with fail)
            (fail_if_success (have := hz2))
            (with_reducible refine made_step (t := 30) ?_)
            intro w6 hz2 hnew
            have hz12 := Lib.hid (block_lt hz1.out)
            have hge2 := Lib.hid hOn.size
            replace hz1 := Lib.hid ((hnew.block _ (block_lt hz1.out)).trans hz1.out)
            refine hKz.out _ _ (by first | exact hS | exact Below.trans hOn (Below.mono hnew (Below.size hOn))) (fun hNext => ?_)
            clear hKz Kz hOn
            have hOn := hNext
            clear hNext
            try clear hnew
            try clear hS
            try simp only [Act.put, List.setIfInBounds_toArray, List.set_cons_zero, List.set_cons_succ]
            refine wpAnyH_ready (rs := [11]) (by kernel_rfl) (by simp) ?_
            refine AllReadyH.cons (by simp only [List.getElem?_toArray, List.getElem?_cons_succ, List.getElem?_cons_zero]; rfl) (fun Kz hKz => ?_) AllReadyH.nil
            rw [if_pos (by rfl)]
            (with_reducible refine wp_store_rowK 30 (.tmp 8) (.tmp 36) rfl _ zero32 N rfl rfl hz2 hzN s0N hN1 ?_)
            intro w7 hU7
            have hS := hOn.trans (hU7.out.below hge2.out)
            have hN7 := Lib.hid hU7.out.here
            have hz3 := Lib.hid ((hU7.out.block _ (by have := hz12.out; omega)).trans hz1.out)
            have hge7 := Lib.hid hge1.out
            refine hKz.out _ _ (by first | exact hS | exact Below.trans hOn (Below.mono hnew (Below.size hOn))) (fun hNext => ?_)
            clear hKz Kz hOn
            have hOn := hNext
            clear hNext
            try clear hnew
            try clear hS
            try simp only [Act.put]
            refine wpAnyH_ready (rs := [12]) (by kernel_rfl) (by simp) ?_
            refine AllReadyH.cons (by simp only [List.getElem?_toArray, List.getElem?_cons_succ, List.getElem?_cons_zero]; rfl) (fun Kz hKz => ?_) AllReadyH.nil
            rw [if_pos (by rfl)]
            (with_reducible refine wp_store_rowK 30 (.tmp 9) (.tmp 42) rfl _ zero32 Y rfl rfl hz3 hzY s0Y hY1 ?_)
            intro w8 hU8
            have hS := hOn.trans (hU8.out.below hge7.out)
            have hY8 := Lib.hid hU8.out.here
            have hN8 := Lib.hid ((hU8.out.block _ (by have := hz12.out; omega)).trans hN7.out)
            refine hKz.out _ _ (by first | exact hS | exact Below.trans hOn (Below.mono hnew (Below.size hOn))) (fun hNext => ?_)
            clear hKz Kz hOn
            have hOn := hNext
            clear hNext
            try clear hnew
            try clear hS
            try simp only [Act.put]
            refine wpAnyH_done (by kernel_rfl) ?_ _
            rotate_left
            refine AllReadyH.cons (by simp only [List.getElem?_toArray, List.getElem?_cons_succ, List.getElem?_cons_zero]; rfl) (fun Kz hKz => ?_) ?_
            go_simp
            focus (try go_wp2_with fail)
            (fail_if_success (have := hz1))
            (with_reducible refine made_step (t := 30) ?_)
            intro w5 hz1 hnew
            have hge1 := Lib.hid hOn.size
            refine hKz.out _ _ (by first | exact hS | exact Below.trans hOn (Below.mono hnew (Below.size hOn))) (fun hNext => ?_)
            clear hKz Kz hOn
            have hOn := hNext
            clear hNext
            try clear hnew
            try clear hS
            try simp only [Act.put, List.setIfInBounds_toArray, List.set_cons_zero, List.set_cons_succ]
            refine wpAnyH_ready (rs := [8, 10]) (by kernel_rfl) (by simp) ?_
            refine AllReadyH.cons (by simp only [List.getElem?_toArray, List.getElem?_cons_succ, List.getElem?_cons_zero]; rfl) (fun Kz hKz => ?_) ?_
            go_simp
            (with_reducible refine (hmq.out _ hOn).mono ?_)
            rintro e w4 ⟨rfl, hnew⟩
            (try replace hz1 := Lib.hid ((hnew.block _ (block_lt hz1.out)).trans hz1.out))
            (try replace hz2 := Lib.hid ((hnew.block _ (block_lt hz2.out)).trans hz2.out))
            focus (go_wp2_with fail)
            refine hKz.out _ _ (by first | exact hS | exact Below.trans hOn (Below.mono hnew (Below.size hOn))) (fun hNext => ?_)
            clear hKz Kz hOn
            have hOn := hNext
            clear hNext
            try clear hnew
            try clear hS
            try simp only [Act.put, List.setIfInBounds_toArray, List.set_cons_zero, List.set_cons_succ]
            refine wpAnyH_ready (rs := [10]) (by kernel_rfl) (by simp) ?_
            refine AllReadyH.cons (by simp only [List.getElem?_toArray, List.getElem?_cons_succ, List.getElem?_cons_zero]; rfl) (fun Kz hKz => ?_) AllReadyH.nil
            go_simp
            focus (try go_wp2_with fail)
            (fail_if_success (have := hz2))
            (with_reducible refine made_step (t := 30) ?_)
            intro w6 hz2 hnew
            have hz12 := Lib.hid (block_lt hz1.out)
            have hge2 := Lib.hid hOn.size
            replace hz1 := Lib.hid ((hnew.block _ (block_lt hz1.out)).trans hz1.out)
            refine hKz.out _ _ (by first | exact hS | exact Below.trans hOn (Below.mono hnew (Below.size hOn))) (fun hNext => ?_)
            clear hKz Kz hOn
            have hOn := hNext
            clear hNext
            try clear hnew
            try clear hS
            try simp only [Act.put, List.setIfInBounds_toArray, List.set_cons_zero, List.set_cons_succ]
            refine wpAnyH_ready (rs := [11]) (by kernel_rfl) (by simp) ?_
            refine AllReadyH.cons (by simp only [List.getElem?_toArray, List.getElem?_cons_succ, List.getElem?_cons_zero]; rfl) (fun Kz hKz => ?_) AllReadyH.nil
            rw [if_pos (by rfl)]
            (with_reducible refine wp_store_rowK 30 (.tmp 8) (.tmp 36) rfl _ zero32 N rfl rfl hz1 hzN s0N hN1 ?_)
            intro w7 hU7
            have hS := hOn.trans (hU7.out.below hge1.out)
            have hN7 := Lib.hid hU7.out.here
            have hz3 := Lib.hid ((hU7.out.block _ (by have := hz12.out; omega)).trans hz2.out)
            have hne7 := Lib.hid hz12.out
            have hge7 := Lib.hid hge2.out
            refine hKz.out _ _ (by first | exact hS | exact Below.trans hOn (Below.mono hnew (Below.size hOn))) (fun hNext => ?_)
            clear hKz Kz hOn
            have hOn := hNext
            clear hNext
            try clear hnew
            try clear hS
            try simp only [Act.put]
            refine wpAnyH_ready (rs := [12]) (by kernel_rfl) (by simp) ?_
            refine AllReadyH.cons (by simp only [List.getElem?_toArray, List.getElem?_cons_succ, List.getElem?_cons_zero]; rfl) (fun Kz hKz => ?_) AllReadyH.nil
            rw [if_pos (by rfl)]
            (with_reducible refine wp_store_rowK 30 (.tmp 9) (.tmp 42) rfl _ zero32 Y rfl rfl hz3 hzY s0Y hY1 ?_)
            intro w8 hU8
            have hS := hOn.trans (hU8.out.below hge7.out)
            have hY8 := Lib.hid hU8.out.here
            have hN8 := Lib.hid ((hU8.out.block _ (by have := hz12.out; omega)).trans hN7.out)
            refine hKz.out _ _ (by first | exact hS | exact Below.trans hOn (Below.mono hnew (Below.size hOn))) (fun hNext => ?_)
            clear hKz Kz hOn
            have hOn := hNext
            clear hNext
            try clear hnew
            try clear hS
            try simp only [Act.put]
            refine wpAnyH_done (by kernel_rfl) ?_ _
            rotate_left
            refine AllReadyH.cons (by simp only [List.getElem?_toArray, List.getElem?_cons_succ, List.getElem?_cons_zero]; rfl) (fun Kz hKz => ?_) AllReadyH.nil
            go_simp
            focus (try go_wp2_with fail)
            (fail_if_success (have := hz2))
            (with_reducible refine made_step (t := 30) ?_)
            intro w6 hz2 hnew
            have hz12 := Lib.hid (block_lt hz1.out)
            have hge2 := Lib.hid hOn.size
            replace hz1 := Lib.hid ((hnew.block _ (block_lt hz1.out)).trans hz1.out)
            refine hKz.out _ _ (by first | exact hS | exact Below.trans hOn (Below.mono hnew (Below.size hOn))) (fun hNext => ?_)
            clear hKz Kz hOn
            have hOn := hNext
            clear hNext
            try clear hnew
            try clear hS
            try simp only [Act.put, List.setIfInBounds_toArray, List.set_cons_zero, List.set_cons_succ]
            refine wpAnyH_ready (rs := [8]) (by kernel_rfl) (by simp) ?_
            refine AllReadyH.cons (by simp only [List.getElem?_toArray, List.getElem?_cons_succ, List.getElem?_cons_zero]; rfl) (fun Kz hKz => ?_) AllReadyH.nil
            go_simp
            (with_reducible refine (hmq.out _ hOn).mono ?_)
            rintro e w4 ⟨rfl, hnew⟩
            (try replace hz1 := Lib.hid ((hnew.block _ (block_lt hz1.out)).trans hz1.out))
            (try replace hz2 := Lib.hid ((hnew.block _ (block_lt hz2.out)).trans hz2.out))
            focus (go_wp2_with fail)
            refine hKz.out _ _ (by first | exact hS | exact Below.trans hOn (Below.mono hnew (Below.size hOn))) (fun hNext => ?_)
            clear hKz Kz hOn
            have hOn := hNext
            clear hNext
            try clear hnew
            try clear hS
            try simp only [Act.put, List.setIfInBounds_toArray, List.set_cons_zero, List.set_cons_succ]
            refine wpAnyH_ready (rs := [11]) (by kernel_rfl) (by simp) ?_
            refine AllReadyH.cons (by simp only [List.getElem?_toArray, List.getElem?_cons_succ, List.getElem?_cons_zero]; rfl) (fun Kz hKz => ?_) AllReadyH.nil
            rw [if_pos (by rfl)]
            (with_reducible refine wp_store_rowK 30 (.tmp 8) (.tmp 36) rfl _ zero32 N rfl rfl hz1 hzN s0N hN1 ?_)
            intro w7 hU7
            have hS := hOn.trans (hU7.out.below hge1.out)
            have hN7 := Lib.hid hU7.out.here
            have hz3 := Lib.hid ((hU7.out.block _ (by have := hz12.out; omega)).trans hz2.out)
            have hne7 := Lib.hid hz12.out
            have hge7 := Lib.hid hge2.out
            refine hKz.out _ _ (by first | exact hS | exact Below.trans hOn (Below.mono hnew (Below.size hOn))) (fun hNext => ?_)
            clear hKz Kz hOn
            have hOn := hNext
            clear hNext
            try clear hnew
            try clear hS
            try simp only [Act.put]
            refine wpAnyH_ready (rs := [12]) (by kernel_rfl) (by simp) ?_
            refine AllReadyH.cons (by simp only [List.getElem?_toArray, List.getElem?_cons_succ, List.getElem?_cons_zero]; rfl) (fun Kz hKz => ?_) AllReadyH.nil
            rw [if_pos (by rfl)]
            (with_reducible refine wp_store_rowK 30 (.tmp 9) (.tmp 42) rfl _ zero32 Y rfl rfl hz3 hzY s0Y hY1 ?_)
            intro w8 hU8
            have hS := hOn.trans (hU8.out.below hge7.out)
            have hY8 := Lib.hid hU8.out.here
            have hN8 := Lib.hid ((hU8.out.block _ (by have := hz12.out; omega)).trans hN7.out)
            refine hKz.out _ _ (by first | exact hS | exact Below.trans hOn (Below.mono hnew (Below.size hOn))) (fun hNext => ?_)
            clear hKz Kz hOn
            have hOn := hNext
            clear hNext
            try clear hnew
            try clear hS
            try simp only [Act.put]
            refine wpAnyH_done (by kernel_rfl) ?_ _
            rotate_left
            refine AllReadyH.cons (by simp only [List.getElem?_toArray, List.getElem?_cons_succ, List.getElem?_cons_zero]; rfl) (fun Kz hKz => ?_) AllReadyH.nil
            go_simp
            focus (try go_wp2_with fail)
            (fail_if_success (have := hz1))
            (with_reducible refine made_step (t := 30) ?_)
            intro w5 hz1 hnew
            have hge1 := Lib.hid hOn.size
            refine hKz.out _ _ (by first | exact hS | exact Below.trans hOn (Below.mono hnew (Below.size hOn))) (fun hNext => ?_)
            clear hKz Kz hOn
            have hOn := hNext
            clear hNext
            try clear hnew
            try clear hS
            try simp only [Act.put, List.setIfInBounds_toArray, List.set_cons_zero, List.set_cons_succ]
            refine wpAnyH_ready (rs := [8, 9]) (by kernel_rfl) (by simp) ?_
            refine AllReadyH.cons (by simp only [List.getElem?_toArray, List.getElem?_cons_succ, List.getElem?_cons_zero]; rfl) (fun Kz hKz => ?_) ?_
            go_simp
            (with_reducible refine (hmq.out _ hOn).mono ?_)
            rintro e w4 ⟨rfl, hnew⟩
            (try replace hz1 := Lib.hid ((hnew.block _ (block_lt hz1.out)).trans hz1.out))
            (try replace hz2 := Lib.hid ((hnew.block _ (block_lt hz2.out)).trans hz2.out))
            focus (go_wp2_with fail)
            refine hKz.out _ _ (by first | exact hS | exact Below.trans hOn (Below.mono hnew (Below.size hOn))) (fun hNext => ?_)
            clear hKz Kz hOn
            have hOn := hNext
            clear hNext
            try clear hnew
            try clear hS
            try simp only [Act.put, List.setIfInBounds_toArray, List.set_cons_zero, List.set_cons_succ]
            refine wpAnyH_ready (rs := [9]) (by kernel_rfl) (by simp) ?_
            refine AllReadyH.cons (by simp only [List.getElem?_toArray, List.getElem?_cons_succ, List.getElem?_cons_zero]; rfl) (fun Kz hKz => ?_) AllReadyH.nil
            go_simp
            focus (try go_wp2_with fail)
            (fail_if_success (have := hz2))
            (with_reducible refine made_step (t := 30) ?_)
            intro w6 hz2 hnew
            have hz12 := Lib.hid (block_lt hz1.out)
            have hge2 := Lib.hid hOn.size
            replace hz1 := Lib.hid ((hnew.block _ (block_lt hz1.out)).trans hz1.out)
            refine hKz.out _ _ (by first | exact hS | exact Below.trans hOn (Below.mono hnew (Below.size hOn))) (fun hNext => ?_)
            clear hKz Kz hOn
            have hOn := hNext
            clear hNext
            try clear hnew
            try clear hS
            try simp only [Act.put, List.setIfInBounds_toArray, List.set_cons_zero, List.set_cons_succ]
            refine wpAnyH_ready (rs := [11]) (by kernel_rfl) (by simp) ?_
            refine AllReadyH.cons (by simp only [List.getElem?_toArray, List.getElem?_cons_succ, List.getElem?_cons_zero]; rfl) (fun Kz hKz => ?_) AllReadyH.nil
            rw [if_pos (by rfl)]
            (with_reducible refine wp_store_rowK 30 (.tmp 8) (.tmp 36) rfl _ zero32 N rfl rfl hz2 hzN s0N hN1 ?_)
            intro w7 hU7
            have hS := hOn.trans (hU7.out.below hge2.out)
            have hN7 := Lib.hid hU7.out.here
            have hz3 := Lib.hid ((hU7.out.block _ (by have := hz12.out; omega)).trans hz1.out)
            have hge7 := Lib.hid hge1.out
            refine hKz.out _ _ (by first | exact hS | exact Below.trans hOn (Below.mono hnew (Below.size hOn))) (fun hNext => ?_)
            clear hKz Kz hOn
            have hOn := hNext
            clear hNext
            try clear hnew
            try clear hS
            try simp only [Act.put]
            refine wpAnyH_ready (rs := [12]) (by kernel_rfl) (by simp) ?_
            refine AllReadyH.cons (by simp only [List.getElem?_toArray, List.getElem?_cons_succ, List.getElem?_cons_zero]; rfl) (fun Kz hKz => ?_) AllReadyH.nil
            rw [if_pos (by rfl)]
            (with_reducible refine wp_store_rowK 30 (.tmp 9) (.tmp 42) rfl _ zero32 Y rfl rfl hz3 hzY s0Y hY1 ?_)
            intro w8 hU8
            have hS := hOn.trans (hU8.out.below hge7.out)
            have hY8 := Lib.hid hU8.out.here
            have hN8 := Lib.hid ((hU8.out.block _ (by have := hz12.out; omega)).trans hN7.out)
            refine hKz.out _ _ (by first | exact hS | exact Below.trans hOn (Below.mono hnew (Below.size hOn))) (fun hNext => ?_)
            clear hKz Kz hOn
            have hOn := hNext
            clear hNext
            try clear hnew
            try clear hS
            try simp only [Act.put]
            refine wpAnyH_done (by kernel_rfl) ?_ _
            rotate_left
            refine AllReadyH.cons (by simp only [List.getElem?_toArray, List.getElem?_cons_succ, List.getElem?_cons_zero]; rfl) (fun Kz hKz => ?_) AllReadyH.nil
            go_simp
            focus (try go_wp2_with fail)
            (fail_if_success (have := hz2))
            (with_reducible refine made_step (t := 30) ?_)
            intro w6 hz2 hnew
            have hz12 := Lib.hid (block_lt hz1.out)
            have hge2 := Lib.hid hOn.size
            replace hz1 := Lib.hid ((hnew.block _ (block_lt hz1.out)).trans hz1.out)
            refine hKz.out _ _ (by first | exact hS | exact Below.trans hOn (Below.mono hnew (Below.size hOn))) (fun hNext => ?_)
            clear hKz Kz hOn
            have hOn := hNext
            clear hNext
            try clear hnew
            try clear hS
            try simp only [Act.put, List.setIfInBounds_toArray, List.set_cons_zero, List.set_cons_succ]
            refine wpAnyH_ready (rs := [8]) (by kernel_rfl) (by simp) ?_
            refine AllReadyH.cons (by simp only [List.getElem?_toArray, List.getElem?_cons_succ, List.getElem?_cons_zero]; rfl) (fun Kz hKz => ?_) AllReadyH.nil
            go_simp
            (with_reducible refine (hmq.out _ hOn).mono ?_)
            rintro e w4 ⟨rfl, hnew⟩
            (try replace hz1 := Lib.hid ((hnew.block _ (block_lt hz1.out)).trans hz1.out))
            (try replace hz2 := Lib.hid ((hnew.block _ (block_lt hz2.out)).trans hz2.out))
            focus (go_wp2_with fail)
            refine hKz.out _ _ (by first | exact hS | exact Below.trans hOn (Below.mono hnew (Below.size hOn))) (fun hNext => ?_)
            clear hKz Kz hOn
            have hOn := hNext
            clear hNext
            try clear hnew
            try clear hS
            try simp only [Act.put, List.setIfInBounds_toArray, List.set_cons_zero, List.set_cons_succ]
            refine wpAnyH_ready (rs := [11]) (by kernel_rfl) (by simp) ?_
            refine AllReadyH.cons (by simp only [List.getElem?_toArray, List.getElem?_cons_succ, List.getElem?_cons_zero]; rfl) (fun Kz hKz => ?_) AllReadyH.nil
            rw [if_pos (by rfl)]
            (with_reducible refine wp_store_rowK 30 (.tmp 8) (.tmp 36) rfl _ zero32 N rfl rfl hz2 hzN s0N hN1 ?_)
            intro w7 hU7
            have hS := hOn.trans (hU7.out.below hge2.out)
            have hN7 := Lib.hid hU7.out.here
            have hz3 := Lib.hid ((hU7.out.block _ (by have := hz12.out; omega)).trans hz1.out)
            have hge7 := Lib.hid hge1.out
            refine hKz.out _ _ (by first | exact hS | exact Below.trans hOn (Below.mono hnew (Below.size hOn))) (fun hNext => ?_)
            clear hKz Kz hOn
            have hOn := hNext
            clear hNext
            try clear hnew
            try clear hS
            try simp only [Act.put]
            refine wpAnyH_ready (rs := [12]) (by kernel_rfl) (by simp) ?_
            refine AllReadyH.cons (by simp only [List.getElem?_toArray, List.getElem?_cons_succ, List.getElem?_cons_zero]; rfl) (fun Kz hKz => ?_) AllReadyH.nil
            rw [if_pos (by rfl)]
            (with_reducible refine wp_store_rowK 30 (.tmp 9) (.tmp 42) rfl _ zero32 Y rfl rfl hz3 hzY s0Y hY1 ?_)
            intro w8 hU8
            have hS := hOn.trans (hU8.out.below hge7.out)
            have hY8 := Lib.hid hU8.out.here
            have hN8 := Lib.hid ((hU8.out.block _ (by have := hz12.out; omega)).trans hN7.out)
            refine hKz.out _ _ (by first | exact hS | exact Below.trans hOn (Below.mono hnew (Below.size hOn))) (fun hNext => ?_)
            clear hKz Kz hOn
            have hOn := hNext
            clear hNext
            try clear hnew
            try clear hS
            try simp only [Act.put]
            refine wpAnyH_done (by kernel_rfl) ?_ _
            rotate_left
            refine AllReadyH.cons (by simp only [List.getElem?_toArray, List.getElem?_cons_succ, List.getElem?_cons_zero]; rfl) (fun Kz hKz => ?_) ?_
            go_simp
            focus (try go_wp2_with fail)
            (fail_if_success (have := hz1))
            (with_reducible refine made_step (t := 30) ?_)
            intro w5 hz1 hnew
            have hge1 := Lib.hid hOn.size
            refine hKz.out _ _ (by first | exact hS | exact Below.trans hOn (Below.mono hnew (Below.size hOn))) (fun hNext => ?_)
            clear hKz Kz hOn
            have hOn := hNext
            clear hNext
            try clear hnew
            try clear hS
            try simp only [Act.put, List.setIfInBounds_toArray, List.set_cons_zero, List.set_cons_succ]
            refine wpAnyH_ready (rs := [2, 10]) (by kernel_rfl) (by simp) ?_
            refine AllReadyH.cons (by simp only [List.getElem?_toArray, List.getElem?_cons_succ, List.getElem?_cons_zero]; rfl) (fun Kz hKz => ?_) ?_
            go_simp
            (with_reducible refine (hnq.out _ hOn).mono ?_)
            rintro e w3 ⟨rfl, hnew⟩
            (try replace hz1 := Lib.hid ((hnew.block _ (block_lt hz1.out)).trans hz1.out))
            (try replace hz2 := Lib.hid ((hnew.block _ (block_lt hz2.out)).trans hz2.out))
            focus (go_wp2_with fail)
            refine hKz.out _ _ (by first | exact hS | exact Below.trans hOn (Below.mono hnew (Below.size hOn))) (fun hNext => ?_)
            clear hKz Kz hOn
            have hOn := hNext
            clear hNext
            try clear hnew
            try clear hS
            try simp only [Act.put, List.setIfInBounds_toArray, List.set_cons_zero, List.set_cons_succ]
            refine wpAnyH_ready (rs := [8, 10]) (by kernel_rfl) (by simp) ?_
            refine AllReadyH.cons (by simp only [List.getElem?_toArray, List.getElem?_cons_succ, List.getElem?_cons_zero]; rfl) (fun Kz hKz => ?_) ?_
            go_simp
            (with_reducible refine (hmq.out _ hOn).mono ?_)
            rintro e w4 ⟨rfl, hnew⟩
            (try replace hz1 := Lib.hid ((hnew.block _ (block_lt hz1.out)).trans hz1.out))
            (try replace hz2 := Lib.hid ((hnew.block _ (block_lt hz2.out)).trans hz2.out))
            focus (go_wp2_with fail)
            refine hKz.out _ _ (by first | exact hS | exact Below.trans hOn (Below.mono hnew (Below.size hOn))) (fun hNext => ?_)
            clear hKz Kz hOn
            have hOn := hNext
            clear hNext
            try clear hnew
            try clear hS
            try simp only [Act.put, List.setIfInBounds_toArray, List.set_cons_zero, List.set_cons_succ]
            refine wpAnyH_ready (rs := [10]) (by kernel_rfl) (by simp) ?_
            refine AllReadyH.cons (by simp only [List.getElem?_toArray, List.getElem?_cons_succ, List.getElem?_cons_zero]; rfl) (fun Kz hKz => ?_) AllReadyH.nil
            go_simp
            focus (try go_wp2_with fail)
            (fail_if_success (have := hz2))
            (with_reducible refine made_step (t := 30) ?_)
            intro w6 hz2 hnew
            have hz12 := Lib.hid (block_lt hz1.out)
            have hge2 := Lib.hid hOn.size
            replace hz1 := Lib.hid ((hnew.block _ (block_lt hz1.out)).trans hz1.out)
            refine hKz.out _ _ (by first | exact hS | exact Below.trans hOn (Below.mono hnew (Below.size hOn))) (fun hNext => ?_)
            clear hKz Kz hOn
            have hOn := hNext
            clear hNext
            try clear hnew
            try clear hS
            try simp only [Act.put, List.setIfInBounds_toArray, List.set_cons_zero, List.set_cons_succ]
            refine wpAnyH_ready (rs := [11]) (by kernel_rfl) (by simp) ?_
            refine AllReadyH.cons (by simp only [List.getElem?_toArray, List.getElem?_cons_succ, List.getElem?_cons_zero]; rfl) (fun Kz hKz => ?_) AllReadyH.nil
            rw [if_pos (by rfl)]
            (with_reducible refine wp_store_rowK 30 (.tmp 8) (.tmp 36) rfl _ zero32 N rfl rfl hz1 hzN s0N hN1 ?_)
            intro w7 hU7
            have hS := hOn.trans (hU7.out.below hge1.out)
            have hN7 := Lib.hid hU7.out.here
            have hz3 := Lib.hid ((hU7.out.block _ (by have := hz12.out; omega)).trans hz2.out)
            have hne7 := Lib.hid hz12.out
            have hge7 := Lib.hid hge2.out
            refine hKz.out _ _ (by first | exact hS | exact Below.trans hOn (Below.mono hnew (Below.size hOn))) (fun hNext => ?_)
            clear hKz Kz hOn
            have hOn := hNext
            clear hNext
            try clear hnew
            try clear hS
            try simp only [Act.put]
            refine wpAnyH_ready (rs := [12]) (by kernel_rfl) (by simp) ?_
            refine AllReadyH.cons (by simp only [List.getElem?_toArray, List.getElem?_cons_succ, List.getElem?_cons_zero]; rfl) (fun Kz hKz => ?_) AllReadyH.nil
            rw [if_pos (by rfl)]
            (with_reducible refine wp_store_rowK 30 (.tmp 9) (.tmp 42) rfl _ zero32 Y rfl rfl hz3 hzY s0Y hY1 ?_)
            intro w8 hU8
            have hS := hOn.trans (hU8.out.below hge7.out)
            have hY8 := Lib.hid hU8.out.here
            have hN8 := Lib.hid ((hU8.out.block _ (by have := hz12.out; omega)).trans hN7.out)
            refine hKz.out _ _ (by first | exact hS | exact Below.trans hOn (Below.mono hnew (Below.size hOn))) (fun hNext => ?_)
            clear hKz Kz hOn
            have hOn := hNext
            clear hNext
            try clear hnew
            try clear hS
            try simp only [Act.put]
            refine wpAnyH_done (by kernel_rfl) ?_ _
            rotate_left
            refine AllReadyH.cons (by simp only [List.getElem?_toArray, List.getElem?_cons_succ, List.getElem?_cons_zero]; rfl) (fun Kz hKz => ?_) AllReadyH.nil
            go_simp
            focus (try go_wp2_with fail)
            (fail_if_success (have := hz2))
            (with_reducible refine made_step (t := 30) ?_)
            intro w6 hz2 hnew
            have hz12 := Lib.hid (block_lt hz1.out)
            have hge2 := Lib.hid hOn.size
            replace hz1 := Lib.hid ((hnew.block _ (block_lt hz1.out)).trans hz1.out)
            refine hKz.out _ _ (by first | exact hS | exact Below.trans hOn (Below.mono hnew (Below.size hOn))) (fun hNext => ?_)
            clear hKz Kz hOn
            have hOn := hNext
            clear hNext
            try clear hnew
            try clear hS
            try simp only [Act.put, List.setIfInBounds_toArray, List.set_cons_zero, List.set_cons_succ]
            refine wpAnyH_ready (rs := [8]) (by kernel_rfl) (by simp) ?_
            refine AllReadyH.cons (by simp only [List.getElem?_toArray, List.getElem?_cons_succ, List.getElem?_cons_zero]; rfl) (fun Kz hKz => ?_) AllReadyH.nil
            go_simp
            (with_reducible refine (hmq.out _ hOn).mono ?_)
            rintro e w4 ⟨rfl, hnew⟩
            (try replace hz1 := Lib.hid ((hnew.block _ (block_lt hz1.out)).trans hz1.out))
            (try replace hz2 := Lib.hid ((hnew.block _ (block_lt hz2.out)).trans hz2.out))
            focus (go_wp2_with fail)
            refine hKz.out _ _ (by first | exact hS | exact Below.trans hOn (Below.mono hnew (Below.size hOn))) (fun hNext => ?_)
            clear hKz Kz hOn
            have hOn := hNext
            clear hNext
            try clear hnew
            try clear hS
            try simp only [Act.put, List.setIfInBounds_toArray, List.set_cons_zero, List.set_cons_succ]
            refine wpAnyH_ready (rs := [11]) (by kernel_rfl) (by simp) ?_
            refine AllReadyH.cons (by simp only [List.getElem?_toArray, List.getElem?_cons_succ, List.getElem?_cons_zero]; rfl) (fun Kz hKz => ?_) AllReadyH.nil
            rw [if_pos (by rfl)]
            (with_reducible refine wp_store_rowK 30 (.tmp 8) (.tmp 36) rfl _ zero32 N rfl rfl hz1 hzN s0N hN1 ?_)
            intro w7 hU7
            have hS := hOn.trans (hU7.out.below hge1.out)
            have hN7 := Lib.hid hU7.out.here
            have hz3 := Lib.hid ((hU7.out.block _ (by have := hz12.out; omega)).trans hz2.out)
            have hne7 := Lib.hid hz12.out
            have hge7 := Lib.hid hge2.out
            refine hKz.out _ _ (by first | exact hS | exact Below.trans hOn (Below.mono hnew (Below.size hOn))) (fun hNext => ?_)
            clear hKz Kz hOn
            have hOn := hNext
            clear hNext
            try clear hnew
            try clear hS
            try simp only [Act.put]
            refine wpAnyH_ready (rs := [12]) (by kernel_rfl) (by simp) ?_
            refine AllReadyH.cons (by simp only [List.getElem?_toArray, List.getElem?_cons_succ, List.getElem?_cons_zero]; rfl) (fun Kz hKz => ?_) AllReadyH.nil
            rw [if_pos (by rfl)]
            (with_reducible refine wp_store_rowK 30 (.tmp 9) (.tmp 42) rfl _ zero32 Y rfl rfl hz3 hzY s0Y hY1 ?_)
            intro w8 hU8
            have hS := hOn.trans (hU8.out.below hge7.out)
            have hY8 := Lib.hid hU8.out.here
            have hN8 := Lib.hid ((hU8.out.block _ (by have := hz12.out; omega)).trans hN7.out)
            refine hKz.out _ _ (by first | exact hS | exact Below.trans hOn (Below.mono hnew (Below.size hOn))) (fun hNext => ?_)
            clear hKz Kz hOn
            have hOn := hNext
            clear hNext
            try clear hnew
            try clear hS
            try simp only [Act.put]
            refine wpAnyH_done (by kernel_rfl) ?_ _
            rotate_left
            refine AllReadyH.cons (by simp only [List.getElem?_toArray, List.getElem?_cons_succ, List.getElem?_cons_zero]; rfl) (fun Kz hKz => ?_) AllReadyH.nil
            go_simp
            focus (try go_wp2_with fail)
            (fail_if_success (have := hz2))
            (with_reducible refine made_step (t := 30) ?_)
            intro w6 hz2 hnew
            have hz12 := Lib.hid (block_lt hz1.out)
            have hge2 := Lib.hid hOn.size
            replace hz1 := Lib.hid ((hnew.block _ (block_lt hz1.out)).trans hz1.out)
            refine hKz.out _ _ (by first | exact hS | exact Below.trans hOn (Below.mono hnew (Below.size hOn))) (fun hNext => ?_)
            clear hKz Kz hOn
            have hOn := hNext
            clear hNext
            try clear hnew
            try clear hS
            try simp only [Act.put, List.setIfInBounds_toArray, List.set_cons_zero, List.set_cons_succ]
            refine wpAnyH_ready (rs := [2]) (by kernel_rfl) (by simp) ?_
            refine AllReadyH.cons (by simp only [List.getElem?_toArray, List.getElem?_cons_succ, List.getElem?_cons_zero]; rfl) (fun Kz hKz => ?_) AllReadyH.nil
            go_simp
            (with_reducible refine (hnq.out _ hOn).mono ?_)
            rintro e w3 ⟨rfl, hnew⟩
            (try replace hz1 := Lib.hid ((hnew.block _ (block_lt hz1.out)).trans hz1.out))
            (try replace hz2 := Lib.hid ((hnew.block _ (block_lt hz2.out)).trans hz2.out))
            focus (go_wp2_with fail)
            refine hKz.out _ _ (by first | exact hS | exact Below.trans hOn (Below.mono hnew (Below.size hOn))) (fun hNext => ?_)
            clear hKz Kz hOn
            have hOn := hNext
            clear hNext
            try clear hnew
            try clear hS
            try simp only [Act.put, List.setIfInBounds_toArray, List.set_cons_zero, List.set_cons_succ]
            refine wpAnyH_ready (rs := [8]) (by kernel_rfl) (by simp) ?_
            refine AllReadyH.cons (by simp only [List.getElem?_toArray, List.getElem?_cons_succ, List.getElem?_cons_zero]; rfl) (fun Kz hKz => ?_) AllReadyH.nil
            go_simp
            (with_reducible refine (hmq.out _ hOn).mono ?_)
            rintro e w4 ⟨rfl, hnew⟩
            (try replace hz1 := Lib.hid ((hnew.block _ (block_lt hz1.out)).trans hz1.out))
            (try replace hz2 := Lib.hid ((hnew.block _ (block_lt hz2.out)).trans hz2.out))
            focus (go_wp2_with fail)
            refine hKz.out _ _ (by first | exact hS | exact Below.trans hOn (Below.mono hnew (Below.size hOn))) (fun hNext => ?_)
            clear hKz Kz hOn
            have hOn := hNext
            clear hNext
            try clear hnew
            try clear hS
            try simp only [Act.put, List.setIfInBounds_toArray, List.set_cons_zero, List.set_cons_succ]
            refine wpAnyH_ready (rs := [11]) (by kernel_rfl) (by simp) ?_
            refine AllReadyH.cons (by simp only [List.getElem?_toArray, List.getElem?_cons_succ, List.getElem?_cons_zero]; rfl) (fun Kz hKz => ?_) AllReadyH.nil
            rw [if_pos (by rfl)]
            (with_reducible refine wp_store_rowK 30 (.tmp 8) (.tmp 36) rfl _ zero32 N rfl rfl hz1 hzN s0N hN1 ?_)
            intro w7 hU7
            have hS := hOn.trans (hU7.out.below hge1.out)
            have hN7 := Lib.hid hU7.out.here
            have hz3 := Lib.hid ((hU7.out.block _ (by have := hz12.out; omega)).trans hz2.out)
            have hne7 := Lib.hid hz12.out
            have hge7 := Lib.hid hge2.out
            refine hKz.out _ _ (by first | exact hS | exact Below.trans hOn (Below.mono hnew (Below.size hOn))) (fun hNext => ?_)
            clear hKz Kz hOn
            have hOn := hNext
            clear hNext
            try clear hnew
            try clear hS
            try simp only [Act.put]
            refine wpAnyH_ready (rs := [12]) (by kernel_rfl) (by simp) ?_
            refine AllReadyH.cons (by simp only [List.getElem?_toArray, List.getElem?_cons_succ, List.getElem?_cons_zero]; rfl) (fun Kz hKz => ?_) AllReadyH.nil
            rw [if_pos (by rfl)]
            (with_reducible refine wp_store_rowK 30 (.tmp 9) (.tmp 42) rfl _ zero32 Y rfl rfl hz3 hzY s0Y hY1 ?_)
            intro w8 hU8
            have hS := hOn.trans (hU8.out.below hge7.out)
            have hY8 := Lib.hid hU8.out.here
            have hN8 := Lib.hid ((hU8.out.block _ (by have := hz12.out; omega)).trans hN7.out)
            refine hKz.out _ _ (by first | exact hS | exact Below.trans hOn (Below.mono hnew (Below.size hOn))) (fun hNext => ?_)
            clear hKz Kz hOn
            have hOn := hNext
            clear hNext
            try clear hnew
            try clear hS
            try simp only [Act.put]
            refine wpAnyH_done (by kernel_rfl) ?_ _
            rotate_left
            refine AllReadyH.cons (by simp only [List.getElem?_toArray, List.getElem?_cons_succ, List.getElem?_cons_zero]; rfl) (fun Kz hKz => ?_) AllReadyH.nil
            go_simp
            focus (try go_wp2_with fail)
            (fail_if_success (have := hz1))
            (with_reducible refine made_step (t := 30) ?_)
            intro w5 hz1 hnew
            have hge1 := Lib.hid hOn.size
            refine hKz.out _ _ (by first | exact hS | exact Below.trans hOn (Below.mono hnew (Below.size hOn))) (fun hNext => ?_)
            clear hKz Kz hOn
            have hOn := hNext
            clear hNext
            try clear hnew
            try clear hS
            try simp only [Act.put, List.setIfInBounds_toArray, List.set_cons_zero, List.set_cons_succ]
            refine wpAnyH_ready (rs := [2, 9]) (by kernel_rfl) (by simp) ?_
            refine AllReadyH.cons (by simp only [List.getElem?_toArray, List.getElem?_cons_succ, List.getElem?_cons_zero]; rfl) (fun Kz hKz => ?_) ?_
            go_simp
            (with_reducible refine (hnq.out _ hOn).mono ?_)
            rintro e w3 ⟨rfl, hnew⟩
            (try replace hz1 := Lib.hid ((hnew.block _ (block_lt hz1.out)).trans hz1.out))
            (try replace hz2 := Lib.hid ((hnew.block _ (block_lt hz2.out)).trans hz2.out))
            focus (go_wp2_with fail)
            refine hKz.out _ _ (by first | exact hS | exact Below.trans hOn (Below.mono hnew (Below.size hOn))) (fun hNext => ?_)
            clear hKz Kz hOn
            have hOn := hNext
            clear hNext
            try clear hnew
            try clear hS
            try simp only [Act.put, List.setIfInBounds_toArray, List.set_cons_zero, List.set_cons_succ]
            refine wpAnyH_ready (rs := [8, 9]) (by kernel_rfl) (by simp) ?_
            refine AllReadyH.cons (by simp only [List.getElem?_toArray, List.getElem?_cons_succ, List.getElem?_cons_zero]; rfl) (fun Kz hKz => ?_) ?_
            go_simp
            (with_reducible refine (hmq.out _ hOn).mono ?_)
            rintro e w4 ⟨rfl, hnew⟩
            (try replace hz1 := Lib.hid ((hnew.block _ (block_lt hz1.out)).trans hz1.out))
            (try replace hz2 := Lib.hid ((hnew.block _ (block_lt hz2.out)).trans hz2.out))
            focus (go_wp2_with fail)
            refine hKz.out _ _ (by first | exact hS | exact Below.trans hOn (Below.mono hnew (Below.size hOn))) (fun hNext => ?_)
            clear hKz Kz hOn
            have hOn := hNext
            clear hNext
            try clear hnew
            try clear hS
            try simp only [Act.put, List.setIfInBounds_toArray, List.set_cons_zero, List.set_cons_succ]
            refine wpAnyH_ready (rs := [9]) (by kernel_rfl) (by simp) ?_
            refine AllReadyH.cons (by simp only [List.getElem?_toArray, List.getElem?_cons_succ, List.getElem?_cons_zero]; rfl) (fun Kz hKz => ?_) AllReadyH.nil
            go_simp
            focus (try go_wp2_with fail)
            (fail_if_success (have := hz2))
            (with_reducible refine made_step (t := 30) ?_)
            intro w6 hz2 hnew
            have hz12 := Lib.hid (block_lt hz1.out)
            have hge2 := Lib.hid hOn.size
            replace hz1 := Lib.hid ((hnew.block _ (block_lt hz1.out)).trans hz1.out)
            refine hKz.out _ _ (by first | exact hS | exact Below.trans hOn (Below.mono hnew (Below.size hOn))) (fun hNext => ?_)
            clear hKz Kz hOn
            have hOn := hNext
            clear hNext
            try clear hnew
            try clear hS
            try simp only [Act.put, List.setIfInBounds_toArray, List.set_cons_zero, List.set_cons_succ]
            refine wpAnyH_ready (rs := [11]) (by kernel_rfl) (by simp) ?_
            refine AllReadyH.cons (by simp only [List.getElem?_toArray, List.getElem?_cons_succ, List.getElem?_cons_zero]; rfl) (fun Kz hKz => ?_) AllReadyH.nil
            rw [if_pos (by rfl)]
            (with_reducible refine wp_store_rowK 30 (.tmp 8) (.tmp 36) rfl _ zero32 N rfl rfl hz2 hzN s0N hN1 ?_)
            intro w7 hU7
            have hS := hOn.trans (hU7.out.below hge2.out)
            have hN7 := Lib.hid hU7.out.here
            have hz3 := Lib.hid ((hU7.out.block _ (by have := hz12.out; omega)).trans hz1.out)
            have hge7 := Lib.hid hge1.out
            refine hKz.out _ _ (by first | exact hS | exact Below.trans hOn (Below.mono hnew (Below.size hOn))) (fun hNext => ?_)
            clear hKz Kz hOn
            have hOn := hNext
            clear hNext
            try clear hnew
            try clear hS
            try simp only [Act.put]
            refine wpAnyH_ready (rs := [12]) (by kernel_rfl) (by simp) ?_
            refine AllReadyH.cons (by simp only [List.getElem?_toArray, List.getElem?_cons_succ, List.getElem?_cons_zero]; rfl) (fun Kz hKz => ?_) AllReadyH.nil
            rw [if_pos (by rfl)]
            (with_reducible refine wp_store_rowK 30 (.tmp 9) (.tmp 42) rfl _ zero32 Y rfl rfl hz3 hzY s0Y hY1 ?_)
            intro w8 hU8
            have hS := hOn.trans (hU8.out.below hge7.out)
            have hY8 := Lib.hid hU8.out.here
            have hN8 := Lib.hid ((hU8.out.block _ (by have := hz12.out; omega)).trans hN7.out)
            refine hKz.out _ _ (by first | exact hS | exact Below.trans hOn (Below.mono hnew (Below.size hOn))) (fun hNext => ?_)
            clear hKz Kz hOn
            have hOn := hNext
            clear hNext
            try clear hnew
            try clear hS
            try simp only [Act.put]
            refine wpAnyH_done (by kernel_rfl) ?_ _
            rotate_left
            refine AllReadyH.cons (by simp only [List.getElem?_toArray, List.getElem?_cons_succ, List.getElem?_cons_zero]; rfl) (fun Kz hKz => ?_) AllReadyH.nil
            go_simp
            focus (try go_wp2_with fail)
            (fail_if_success (have := hz2))
            (with_reducible refine made_step (t := 30) ?_)
            intro w6 hz2 hnew
            have hz12 := Lib.hid (block_lt hz1.out)
            have hge2 := Lib.hid hOn.size
            replace hz1 := Lib.hid ((hnew.block _ (block_lt hz1.out)).trans hz1.out)
            refine hKz.out _ _ (by first | exact hS | exact Below.trans hOn (Below.mono hnew (Below.size hOn))) (fun hNext => ?_)
            clear hKz Kz hOn
            have hOn := hNext
            clear hNext
            try clear hnew
            try clear hS
            try simp only [Act.put, List.setIfInBounds_toArray, List.set_cons_zero, List.set_cons_succ]
            refine wpAnyH_ready (rs := [8]) (by kernel_rfl) (by simp) ?_
            refine AllReadyH.cons (by simp only [List.getElem?_toArray, List.getElem?_cons_succ, List.getElem?_cons_zero]; rfl) (fun Kz hKz => ?_) AllReadyH.nil
            go_simp
            (with_reducible refine (hmq.out _ hOn).mono ?_)
            rintro e w4 ⟨rfl, hnew⟩
            (try replace hz1 := Lib.hid ((hnew.block _ (block_lt hz1.out)).trans hz1.out))
            (try replace hz2 := Lib.hid ((hnew.block _ (block_lt hz2.out)).trans hz2.out))
            focus (go_wp2_with fail)
            refine hKz.out _ _ (by first | exact hS | exact Below.trans hOn (Below.mono hnew (Below.size hOn))) (fun hNext => ?_)
            clear hKz Kz hOn
            have hOn := hNext
            clear hNext
            try clear hnew
            try clear hS
            try simp only [Act.put, List.setIfInBounds_toArray, List.set_cons_zero, List.set_cons_succ]
            refine wpAnyH_ready (rs := [11]) (by kernel_rfl) (by simp) ?_
            refine AllReadyH.cons (by simp only [List.getElem?_toArray, List.getElem?_cons_succ, List.getElem?_cons_zero]; rfl) (fun Kz hKz => ?_) AllReadyH.nil
            rw [if_pos (by rfl)]
            (with_reducible refine wp_store_rowK 30 (.tmp 8) (.tmp 36) rfl _ zero32 N rfl rfl hz2 hzN s0N hN1 ?_)
            intro w7 hU7
            have hS := hOn.trans (hU7.out.below hge2.out)
            have hN7 := Lib.hid hU7.out.here
            have hz3 := Lib.hid ((hU7.out.block _ (by have := hz12.out; omega)).trans hz1.out)
            have hge7 := Lib.hid hge1.out
            refine hKz.out _ _ (by first | exact hS | exact Below.trans hOn (Below.mono hnew (Below.size hOn))) (fun hNext => ?_)
            clear hKz Kz hOn
            have hOn := hNext
            clear hNext
            try clear hnew
            try clear hS
            try simp only [Act.put]
            refine wpAnyH_ready (rs := [12]) (by kernel_rfl) (by simp) ?_
            refine AllReadyH.cons (by simp only [List.getElem?_toArray, List.getElem?_cons_succ, List.getElem?_cons_zero]; rfl) (fun Kz hKz => ?_) AllReadyH.nil
            rw [if_pos (by rfl)]
            (with_reducible refine wp_store_rowK 30 (.tmp 9) (.tmp 42) rfl _ zero32 Y rfl rfl hz3 hzY s0Y hY1 ?_)
            intro w8 hU8
            have hS := hOn.trans (hU8.out.below hge7.out)
            have hY8 := Lib.hid hU8.out.here
            have hN8 := Lib.hid ((hU8.out.block _ (by have := hz12.out; omega)).trans hN7.out)
            refine hKz.out _ _ (by first | exact hS | exact Below.trans hOn (Below.mono hnew (Below.size hOn))) (fun hNext => ?_)
            clear hKz Kz hOn
            have hOn := hNext
            clear hNext
            try clear hnew
            try clear hS
            try simp only [Act.put]
            refine wpAnyH_done (by kernel_rfl) ?_ _
            rotate_left
            refine AllReadyH.cons (by simp only [List.getElem?_toArray, List.getElem?_cons_succ, List.getElem?_cons_zero]; rfl) (fun Kz hKz => ?_) AllReadyH.nil
            go_simp
            focus (try go_wp2_with fail)
            (fail_if_success (have := hz2))
            (with_reducible refine made_step (t := 30) ?_)
            intro w6 hz2 hnew
            have hz12 := Lib.hid (block_lt hz1.out)
            have hge2 := Lib.hid hOn.size
            replace hz1 := Lib.hid ((hnew.block _ (block_lt hz1.out)).trans hz1.out)
            refine hKz.out _ _ (by first | exact hS | exact Below.trans hOn (Below.mono hnew (Below.size hOn))) (fun hNext => ?_)
            clear hKz Kz hOn
            have hOn := hNext
            clear hNext
            try clear hnew
            try clear hS
            try simp only [Act.put, List.setIfInBounds_toArray, List.set_cons_zero, List.set_cons_succ]
            refine wpAnyH_ready (rs := [2]) (by kernel_rfl) (by simp) ?_
            refine AllReadyH.cons (by simp only [List.getElem?_toArray, List.getElem?_cons_succ, List.getElem?_cons_zero]; rfl) (fun Kz hKz => ?_) AllReadyH.nil
            go_simp
            (with_reducible refine (hnq.out _ hOn).mono ?_)
            rintro e w3 ⟨rfl, hnew⟩
            (try replace hz1 := Lib.hid ((hnew.block _ (block_lt hz1.out)).trans hz1.out))
            (try replace hz2 := Lib.hid ((hnew.block _ (block_lt hz2.out)).trans hz2.out))
            focus (go_wp2_with fail)
            refine hKz.out _ _ (by first | exact hS | exact Below.trans hOn (Below.mono hnew (Below.size hOn))) (fun hNext => ?_)
            clear hKz Kz hOn
            have hOn := hNext
            clear hNext
            try clear hnew
            try clear hS
            try simp only [Act.put, List.setIfInBounds_toArray, List.set_cons_zero, List.set_cons_succ]
            refine wpAnyH_ready (rs := [8]) (by kernel_rfl) (by simp) ?_
            refine AllReadyH.cons (by simp only [List.getElem?_toArray, List.getElem?_cons_succ, List.getElem?_cons_zero]; rfl) (fun Kz hKz => ?_) AllReadyH.nil
            go_simp
            (with_reducible refine (hmq.out _ hOn).mono ?_)
            rintro e w4 ⟨rfl, hnew⟩
            (try replace hz1 := Lib.hid ((hnew.block _ (block_lt hz1.out)).trans hz1.out))
            (try replace hz2 := Lib.hid ((hnew.block _ (block_lt hz2.out)).trans hz2.out))
            focus (go_wp2_with fail)
            refine hKz.out _ _ (by first | exact hS | exact Below.trans hOn (Below.mono hnew (Below.size hOn))) (fun hNext => ?_)
            clear hKz Kz hOn
            have hOn := hNext
            clear hNext
            try clear hnew
            try clear hS
            try simp only [Act.put, List.setIfInBounds_toArray, List.set_cons_zero, List.set_cons_succ]
            refine wpAnyH_ready (rs := [11]) (by kernel_rfl) (by simp) ?_
            refine AllReadyH.cons (by simp only [List.getElem?_toArray, List.getElem?_cons_succ, List.getElem?_cons_zero]; rfl) (fun Kz hKz => ?_) AllReadyH.nil
            rw [if_pos (by rfl)]
            (with_reducible refine wp_store_rowK 30 (.tmp 8) (.tmp 36) rfl _ zero32 N rfl rfl hz2 hzN s0N hN1 ?_)
            intro w7 hU7
            have hS := hOn.trans (hU7.out.below hge2.out)
            have hN7 := Lib.hid hU7.out.here
            have hz3 := Lib.hid ((hU7.out.block _ (by have := hz12.out; omega)).trans hz1.out)
            have hge7 := Lib.hid hge1.out
            refine hKz.out _ _ (by first | exact hS | exact Below.trans hOn (Below.mono hnew (Below.size hOn))) (fun hNext => ?_)
            clear hKz Kz hOn
            have hOn := hNext
            clear hNext
            try clear hnew
            try clear hS
            try simp only [Act.put]
            refine wpAnyH_ready (rs := [12]) (by kernel_rfl) (by simp) ?_
            refine AllReadyH.cons (by simp only [List.getElem?_toArray, List.getElem?_cons_succ, List.getElem?_cons_zero]; rfl) (fun Kz hKz => ?_) AllReadyH.nil
            rw [if_pos (by rfl)]
            (with_reducible refine wp_store_rowK 30 (.tmp 9) (.tmp 42) rfl _ zero32 Y rfl rfl hz3 hzY s0Y hY1 ?_)
            intro w8 hU8
            have hS := hOn.trans (hU8.out.below hge7.out)
            have hY8 := Lib.hid hU8.out.here
            have hN8 := Lib.hid ((hU8.out.block _ (by have := hz12.out; omega)).trans hN7.out)
            refine hKz.out _ _ (by first | exact hS | exact Below.trans hOn (Below.mono hnew (Below.size hOn))) (fun hNext => ?_)
            clear hKz Kz hOn
            have hOn := hNext
            clear hNext
            try clear hnew
            try clear hS
            try simp only [Act.put]
            refine wpAnyH_done (by kernel_rfl) ?_ _
            all_goals
              go_wp2_with fail
              go_meet
              exact ⟨_, _, rfl, rfl, hN8.out, hY8.out, hOn⟩
          case rest =>
            obtain ⟨g8, g9, rfl, rfl, hN8, hY8, hbx⟩ := hcut
            have hbwx : Below w.heap.size w wc := hbwq.out.trans (hbx.mono hbwq.out.size)
            have hcN : ∀ j, j < 32 → wc.cell? ⟨g8, j, none⟩ = some (.int .u8 (((nextB h xs).getD j 0).toNat : Int)) := fun j hj => by rw [cell_of_block hN8, hNd.out, List.getElem?_toArray]; exact cellB_at (by rw [hNl.out]; exact hj)
            have hcY : ∀ j, j < 32 → wc.cell? ⟨g9, j, none⟩ = some (.int .u8 (((nextB h ys).getD j 0).toNat : Int)) := fun j hj => by rw [cell_of_block hY8, hYd.out, List.getElem?_toArray]; exact cellB_at (by rw [hYl.out]; exact hj)
            replace hcN := Lib.hid hcN
            replace hcY := Lib.hid hcY
            replace hbwx := Lib.hid hbwx
            clear hback hN8 hY8 hbx hnq hmq haiq haiq' rlA hcW hd0 hheadq hbq hcq
            go_wp2_with fail
            refine wp_loopF [(false, 4), (true, 1), (false, 5), (true, 1), (false, 32), (true, 17), (false, 1)] _ [] (fun U2 w5 => ∃ j : Nat, j ≤ 32 ∧ U2 43 = .int .i64 (j : Nat) ∧ Drawn wc w5 ∧ ∀ i, i < j → ((nextB h xs).getD i 0 == (nextB h ys).getD i 0 || (nextB h xs).getD i 0 == 0) = true) (fun U2 _ => 32 - (intOf (U2 43)).toNat) ?_ ?_
            · simp only [List.getD_cons_zero, List.getD_cons_succ]
              exact ⟨0, Nat.zero_le _, rfl, Drawn.refl _, fun i hi => absurd hi (Nat.not_lt_zero _)⟩
            · intro U2 w5 hrel KK2 hback2 l2 hl2
              obtain ⟨j, hj, h43, hdw, hle⟩ := hrel
              simp only [fillS, popSeg, cond_true, cond_false, Nat.reduceAdd, h43] at hl2
              subst hl2
              replace h43 := Lib.hid h43
              replace hle := Lib.hid hle
              by_cases hlt2 : j < 32
              · have hlt3 : (j : Int) < 32 := by omega
                have c8 := (hdw.cell ⟨g8, j, none⟩).trans (hcN.out j hlt2)
                have c9 := (hdw.cell ⟨g9, j, none⟩).trans (hcY.out j hlt2)
                have hok : Hid (((nextB h xs).getD j 0 == (nextB h ys).getD j 0 || (nextB h xs).getD j 0 == 0) = (((nextB h xs).getD j 0).toNat == ((nextB h ys).getD j 0).toNat || ((nextB h xs).getD j 0).toNat == 0)) := Lib.hid (by
                  congr 1
                  · rw [Bool.eq_iff_iff, beq_iff_eq, beq_iff_eq]; exact ⟨fun e => by rw [e], fun e => UInt8.toNat.inj e⟩
                  · rw [Bool.eq_iff_iff, beq_iff_eq, beq_iff_eq]; exact ⟨fun e => by rw [e]; rfl, fun e => UInt8.toNat.inj e⟩)
                obtain ⟨xn, hxn⟩ : ∃ xn, xn = ((nextB h xs).getD j 0).toNat := ⟨_, rfl⟩
                obtain ⟨yn, hyn⟩ : ∃ yn, yn = ((nextB h ys).getD j 0).toNat := ⟨_, rfl⟩
                rw [← hxn] at c8
                rw [← hyn] at c9
                have hok2 : Hid (((nextB h xs).getD j 0 == (nextB h ys).getD j 0 || (nextB h xs).getD j 0 == 0) = (xn == yn || xn == 0)) := Lib.hid (by rw [hok.out, hxn, hyn])
                replace hxn := Lib.hid hxn
                replace hyn := Lib.hid hyn
                replace hdw := Lib.hid hdw
                clear hok
                have hgo : ∀ W, (xn == yn || xn == 0) = true → Drawn wc W → ∃ j' : Nat, j' ≤ 32 ∧ Value.int .i64 ((j : Int) + 1) = .int .i64 (j' : Nat) ∧ Drawn wc W ∧ ∀ i, i < j' → ((nextB h xs).getD i 0 == (nextB h ys).getD i 0 || (nextB h xs).getD i 0 == 0) = true := fun W hok hW => by
                  refine ⟨j + 1, by omega, rfl, hW, fun i hi => ?_⟩
                  by_cases hij : i < j
                  · exact hle.out i hij
                  · obtain rfl : i = j := by omega
                    rw [hok2.out]; exact hok
                replace hgo := Lib.hid hgo
                by_cases hxy : xn = yn
                · have i1 : ((xn : Int) != (yn : Int)) = false := by rw [hxy]; simp
                  have hok4 := fun n => hgo.out _ (by rw [hxy]; simp) (hdw.out.more n)
                  replace hxy := Lib.hid hxy
                  replace hok4 := Lib.hid hok4
                  go_wp2_with fail
                  go_quiet (fail)
                  go_wp2_with fail
                  refine hback2.out _ _ (by kernel_rfl) ?_ ?_
                  · simp only [List.getD_cons_zero, List.getD_cons_succ]
                    exact hok4.out _
                  · have h43 := h43.out
                    simp only [List.getD_cons_zero, List.getD_cons_succ, h43, intOf]
                    omega
                · have i1 : ((xn : Int) != (yn : Int)) = true := by simp; omega
                  by_cases hx0 : xn = 0
                  · have i2 : ((xn : Int) != 0) = false := by rw [hx0]; simp
                    have hok4 := fun n => hgo.out _ (by rw [hx0]; simp) (hdw.out.more n)
                    replace hxy := Lib.hid hxy
                    replace hx0 := Lib.hid hx0
                    replace hok4 := Lib.hid hok4
                    go_wp2_with fail
                    go_quiet (fail)
                    go_wp2_with fail
                    refine hback2.out _ _ (by kernel_rfl) ?_ ?_
                    · simp only [List.getD_cons_zero, List.getD_cons_succ]
                      exact hok4.out _
                    · have h43 := h43.out
                      simp only [List.getD_cons_zero, List.getD_cons_succ, h43, intOf]
                      omega
                  · have i2 : ((xn : Int) != 0) = true := by simp; omega
                    have hq0 : q = false := by
                      rw [hqo.out, Bool.eq_false_iff]
                      intro hc
                      rw [List.all_eq_true] at hc
                      have h1 := hc j (by simp [hlt2])
                      rw [hok2.out] at h1
                      simp [hxy, hx0] at h1
                    subst hq0
                    replace hxy := Lib.hid hxy
                    replace hx0 := Lib.hid hx0
                    clear hqo hq hqk
                    go_wp2_with fail
                    go_quiet (fail)
                    go_wp2_with fail
                    go_ret
                    exact ⟨rfl, hbwx.out.trans ((hdw.out.more _).below _)⟩
              · obtain rfl : j = 32 := by omega
                have hq0 : q = true := by
                  rw [hqo.out, List.all_eq_true]
                  exact fun i hi => hle.out i (by simpa using hi)
                subst hq0
                replace hdw := Lib.hid hdw
                clear hqo hq hqk
                go_wp2_with fail
                go_ret
                exact ⟨rfl, hbwx.out.trans (hdw.out.below _)⟩
      · have hlm2 : (M : Int) ≤ (k : Int) := by omega
        have hq2 : q = false := by
          rw [hqk, drop_getD (d := []) (by rw [← hL.out]; exact hlt), List.drop_of_length_le (l := qs) (by rw [← hM.out]; omega)]
          rfl
        obtain ⟨b, o, hab, ai, ci, hc, hai⟩ := (hA.out.below hbw).row k (by rw [← hL.out]; exact hlt)
        subst hab hq2
        replace hbw := Lib.hid hbw
        clear hqk hhd hai
        go_wp2_with fail
        go_ret
        exact ⟨rfl, hbw.out⟩
    · obtain rfl : k = L := by omega
      have hq2 : q = false := by
        rw [hqk, List.drop_of_length_le (by rw [← hL.out]; exact Nat.le_refl _)]
        rfl
      subst hq2
      replace hbw := Lib.hid hbw
      clear hqk hhd
      go_wp2_with fail
      go_ret
      exact ⟨rfl, hbw.out⟩
end Go.Proofs.YtgkddegaiaeckaaDoor
