/- Walks over the reference's Fresh, List. -/
import Derived.Test.YtfagjlfnmkfjoaaNumL
import Derived.Test.YtfagjlfnmkfjoaaOnL
import Derived.Deep.CutRange
namespace Go.Proofs.Ytfagjlfnmkfjoaa
open Go.RowKit

set_option maxHeartbeats 1000000 in
theorem rfresh_no (all : List Int) (a : Option Addr) (ca : Nat) (id : Int) (b : Nat) (w : World) (hb : w.cell? ⟨b, 0, none⟩ = some (.slice a all.length ca)) (hs : RowI .i64 w a all) (hl : all.length ≤ 1000000) (hg : gMax all ≤ 1099511627776) (hf : rFresh all id = false) :
    Calls Try.prog 10 #[.pointer (some ⟨b, 0, none⟩), .int .i64 id] w fun e w' => e = .returned (.bool false) ∧ Drawn w w' := by
  have h1 := Lib.hid (rold_any all a ca id b w hb hs hl hg)
  have h2 := Lib.hid (fun w' (hd : Drawn w w') => rhas_any all a ca id b w' ((hd.cell _).trans hb) (hs.below (hd.below _)) hl hg)
  clear hb hs
  by_cases hm : id < 0
  · clear hf h1 h2
    go_enter Try.func10, Try.ntmps10
    go_wp2_with fail
    go_ret
    exact ⟨rfl, Drawn.refl _⟩
  by_cases hm2 : 1099511627776 < id
  · clear hf h1 h2
    go_enter Try.func10, Try.ntmps10
    go_wp2_with fail
    go_ret
    exact ⟨rfl, Drawn.refl _⟩
  have hmay : mayB id = true := by simp [mayB]; omega
  cases ho : rOld all id
  · have hh : rHas all id = true := by simpa [rFresh, hmay, ho] using hf
    rw [ho] at h1
    rw [hh] at h2
    clear hf
    go_enter Try.func10, Try.ntmps10
    go_wp2_with fail
    refine h1.out.mono ?_
    rintro e w1 ⟨rfl, hd⟩
    replace hd := Lib.hid hd
    go_wp2_with fail
    refine (h2.out w1 hd.out).mono ?_
    rintro e w2 ⟨rfl, hd2⟩
    replace hd2 := Lib.hid hd2
    go_wp2_with fail
    go_ret
    exact ⟨rfl, hd.out.trans hd2.out⟩
  · rw [ho] at h1
    clear hf h2
    go_enter Try.func10, Try.ntmps10
    go_wp2_with fail
    refine h1.out.mono ?_
    rintro e w' ⟨rfl, n, rfl⟩
    go_wp2_with fail
    go_ret
    exact ⟨rfl, n, rfl⟩

set_option maxHeartbeats 1000000 in
theorem rfresh_yes (all : List Int) (a : Option Addr) (ca : Nat) (id : Int) (b : Nat) (v0 : Value) (w : World) (hv0 : v0 = .slice a all.length ca) (hb : w.heap[b]? = some (mods v0)) (hs : SrcI w a ca all) (hl : all.length ≤ 1000) (hg : gMax all ≤ 1099511627776) (hf : rFresh all id = true) :
    Calls Try.prog 10 #[.pointer (some ⟨b, 0, none⟩), .int .i64 id] w fun e w' => e = .returned (.bool true) ∧ ∃ v, w'.heap[b]? = some (mods v) ∧ OwnI w.heap.size w' v (all ++ [id]) ∧ w.grownBy w' (some b) := by
  have hbl := block_lt hb
  subst hv0
  have hbh := Lib.hid hb
  have hc0 : w.cell? ⟨b, 0, none⟩ = some (.slice a all.length ca) := by rw [cell_of_block hb]; rfl
  have hf0 : w.frozen? ⟨b, 0, none⟩ = false := free_of_block hb 0
  have hmay : mayB id = true ∧ rOld all id = false ∧ rHas all id = false := by simpa [rFresh, and_assoc] using hf
  obtain ⟨hm, ho, hh⟩ := hmay
  have hm' : 0 ≤ id ∧ id ≤ 1099511627776 := by simpa [mayB] using hm
  have h1 := Lib.hid (rold_any all a ca id b w hc0 hs.row (by omega) hg)
  have h2 := Lib.hid (fun w' (hd : Drawn w w') => rhas_any all a ca id b w' ((hd.cell _).trans hc0) (hs.row.below (hd.below _)) (by omega) hg)
  rw [ho] at h1
  rw [hh] at h2
  clear hf hm hb
  replace hs := Lib.hid hs
  go_enter Try.func10, Try.ntmps10
  go_wp2_with fail
  refine h1.out.mono ?_
  rintro e w' ⟨rfl, hd⟩
  replace hd := Lib.hid hd
  go_wp2_with fail
  refine (h2.out w' hd.out).mono ?_
  rintro e w1 ⟨rfl, hd2⟩
  have hdd := hd.out.trans hd2
  have e1 : w1.heap = w.heap := hdd.heap
  have hc1 := (hdd.cell ⟨b, 0, none⟩).trans hc0
  have hd1 : Below w.heap.size w w1 := hdd.below _
  clear hd hd2 hdd
  have hs1 := Lib.hid ((hs.out.below hd1).below (Grown.alloc (Grown.refl w1) (.cells #[] 3)))
  have own0 := Lib.hid (OwnI.made0 w1 w1.heap.size (Nat.le_refl _))
  clear hc0 hf0 h1 h2 hs
  replace hd1 := Lib.hid hd1
  replace e1 := Lib.hid e1
  have hbl1 : b < w1.heap.size := by rw [e1.out]; exact hbl
  go_wp2_with (at_builtin; go_must (refine wpI_app rfl (.tmp 22) (.tmp 26) rfl w1.heap.size _ [] rfl own0 a ca all all.length rfl (Lib.hid rfl) hs1 (by simp) (by omega) (by simp) ?_))
  intro v2 w2 ho2 hb2
  have hb3 := Lib.hid (show Below w1.heap.size w1 w2 from ((Below.refl w1.heap.size w1).alloc (Nat.le_refl _) (.cells #[] 3)).trans hb2.out)
  have hc2 := (hb3.out.cell (p := ⟨b, 0, none⟩) hbl1).trans hc1
  have hsz2 := hb3.out.size
  clear hc1 hb2
  go_wp2_with (at_builtin; go_must (refine wpI_app1 rfl (.tmp 27) (.tmp 29) rfl w1.heap.size v2 _ rfl ho2 id rfl (by first | omega | (simp; omega)) hsz2 ?_))
  intro v3 w3 ho3 hb4
  have hb5 := Lib.hid (show Below w1.heap.size w1 w3 from hb3.out.trans hb4.out)
  have hc3 := (hb4.out.cell (p := ⟨b, 0, none⟩) hbl1).trans hc2
  have hbk : w3.heap[b]? = some (mods (.slice a all.length ca)) := by
    rw [hb5.out.block b hbl1, e1.out]; exact hbh.out
  have hf3 : w3.frozen? ⟨b, 0, none⟩ = false := free_of_block hbk 0
  clear hc2 hb3 hb4
  obtain ⟨g3, c3, hv3⟩ := ho3.out.form (by simp)
  subst hv3
  have hbkh := Lib.hid hbk
  clear hbk
  go_wp2_with fail
  go_ret
  have hu : Upd b (mods (.slice (some ⟨g3, 0, none⟩) (all ++ [id]).length c3)) w3 (w3.setCell ⟨b, 0, none⟩ (.slice (some ⟨g3, 0, none⟩) (all ++ [id]).length c3)) := Upd.to ((Upd.refl hbkh.out).setCell _) rfl
  have ho4 : OwnI w.heap.size w3 (.slice (some ⟨g3, 0, none⟩) (all ++ [id]).length c3) (all ++ [id]) := by
    have := ho3.out.mono (base' := w.heap.size) (by rw [e1.out]; exact Nat.le_refl _)
    simpa using this
  have hlen : (all ++ [id]).length = all.length + 1 := by simp
  rw [hlen] at hu ho4
  refine ⟨rfl, _, hu.here, ?_, ?_⟩
  · refine ⟨ho4.1, ?_⟩
    rcases ho4.2 with h | ⟨g, cap, cur, k1, k2, k3, k4⟩
    · exact .inl h
    · exact .inr ⟨g, cap, cur, k1, k2, (hu.block g (by omega)).trans k3, k4⟩
  · have hb6 := hd1.out.trans (hb5.out.mono (by rw [e1.out]; exact Nat.le_refl _))
    exact ⟨hu.os.trans hb6.os, hu.tape.trans hb6.tape, hu.output.trans hb6.output, by rw [hu.size]; exact hb6.size, fun k hk hr => (hu.block k (by intro e; exact hr (by rw [e]))).trans (hb6.block k hk)⟩

/-! ### List -/
theorem insR_ne (x : Int) (out : List Int) : out.take (posR x out out.length) ++ [x] ++ out.drop (posR x out out.length) ≠ [] := by simp
theorem insR_eq (x : Int) (out : List Int) : insR x out = [] ++ out.take (posR x out out.length) ++ [x] ++ out.drop (posR x out out.length) := by simp [insR]
theorem insR_length (x : Int) (out : List Int) : (insR x out).length = out.length + 1 := by
  have := posR_le x out out.length
  simp [insR]; omega
theorem rStep_length (all out : List Int) (x : Int) : (rStep all out x).length ≤ out.length + 1 := by
  unfold rStep; split
  · omega
  · rw [insR_length]; exact Nat.le_refl _
def rTo (all : List Int) (k : Nat) : List Int := (all.take k).foldl (rStep all) []
theorem rTo_succ {all : List Int} {k : Nat} (h : k < all.length) : rTo all (k + 1) = rStep all (rTo all k) (all.getD k 0) := by
  unfold rTo
  rw [List.take_succ_eq_append_getElem h, List.foldl_append]
  simp [h]
theorem rTo_length (all : List Int) : ∀ k, k ≤ all.length → (rTo all k).length ≤ k
  | 0, _ => by simp [rTo]
  | k + 1, h => by
    rw [rTo_succ (by omega)]
    have := rStep_length all (rTo all k) (all.getD k 0)
    have := rTo_length all k (by omega)
    omega

set_option maxRecDepth 10000 in
set_option maxHeartbeats 4000000 in
theorem rlist_any (all : List Int) (a : Option Addr) (ca : Nat) (b : Nat) (w : World) (hbh : w.cell? ⟨b, 0, none⟩ = some (.slice a all.length ca)) (hbl : b < w.heap.size) (hs : SrcI w a ca all) (hl : all.length ≤ 1000) (hg : gMax all ≤ 1099511627776) :
    Calls Try.prog 8 #[.pointer (some ⟨b, 0, none⟩)] w fun e w' => ∃ v, e = .returned v ∧ OwnI w.heap.size w' v (rList all) ∧ Below w.heap.size w w' := by
  have hbl' := Lib.hid hbl
  have hall := Lib.hid (show rTo all all.length = rList all from by unfold rTo rList; rw [List.take_length])
  have hlen := Lib.hid (rTo_length all)
  replace hs := Lib.hid hs
  have own0 := Lib.hid (OwnI.made0 w w.heap.size (Nat.le_refl _))
  have hb0 := Lib.hid (Grown.alloc (Grown.refl w) (.cells #[] 3))
  have hc0 := (hb0.out.cell (p := ⟨b, 0, none⟩) hbl).trans hbh
  replace hbh := Lib.hid hbh
  clear hbl
  go_enter Try.func8, Try.ntmps8
  go_wp2_with fail
  clear hc0
  go_loopw [3, 13] (fun v j wr => ∃ k : Nat, k ≤ all.length ∧ j = .int .i64 k ∧ OwnI w.heap.size wr v (rTo all k) ∧ (∃ g cap, v = .slice (some ⟨g, 0, none⟩) (rTo all k).length cap) ∧ Below w.heap.size w wr) (fun _ j _ => all.length - (intOf j).toNat)
  case atStart => exact ⟨0, Nat.zero_le _, rfl, own0.out, ⟨_, _, rfl⟩, hb0.out⟩
  case round =>
    clear own0 hb0
    obtain ⟨k, hk, rfl, hown, ⟨g, cap, rfl⟩, hbel⟩ := hrel
    by_cases hlt : k < all.length
    · have hsr := Lib.hid (hs.out.below hbel)
      obtain ⟨b1, o1, e1, hc⟩ := hsr.out.row k hlt
      have hcr := (hbel.cell (p := ⟨b, 0, none⟩) hbl'.out).trans hbh.out
      have hst := Lib.hid (rTo_succ hlt)
      have hl0 := hlen.out k (by omega)
      generalize all.getD k 0 = x at *
      have hcall := Lib.hid (rold_any all a ca x b wr hcr hsr.out.row (by omega) hg)
      have hsz := Lib.hid hbel.size
      subst e1
      clear hcr hsr
      generalize rTo all k = out at *
      replace hbel := Lib.hid hbel
      cases ho : rOld all x
      · have hst := Lib.hid (show rTo all (k + 1) = insR x out from by rw [hst.out]; simp [rStep, ho])
        rw [ho] at hcall
        obtain ⟨a2, c2, hv, hsrc, hgb⟩ := hown.src
        cases hv
        have hcap := hsrc.len
        have hmax := hsrc.most
        replace hsrc := Lib.hid hsrc
        replace hgb := Lib.hid hgb
        replace hown := Lib.hid hown
        go_wp2_with fail
        refine hcall.out.mono ?_
        rintro e w' ⟨rfl, nn, rfl⟩
        obtain ⟨wr', hwr⟩ : ∃ wr', wr' = wr.drewN nn := ⟨_, rfl⟩
        have hdw : Drawn wr wr' := ⟨nn, hwr⟩
        rw [← hwr]
        have hsz' : wr'.heap.size = wr.heap.size := by rw [hdw.heap]
        replace hsrc := Lib.hid (hsrc.out.below (hdw.below _))
        replace hbel := Lib.hid (hbel.out.trans (hdw.below _))
        have hsz0 := Lib.hid (show w.heap.size ≤ wr'.heap.size from by rw [hsz']; exact hsz.out)
        clear hwr hdw hcall hown hc hsz
        go_wp2_with fail
        go_loop [6] (fun j => ∃ n : Nat, n ≤ out.length ∧ j = .int .i64 n ∧ posR x out n = posR x out out.length) (fun j => (intOf j).toNat)
        case atStart => exact ⟨out.length, Nat.le_refl _, rfl, rfl⟩
        case round =>
          obtain ⟨n, hn, rfl, hp⟩ := hrel
          by_cases hstop : n = 0 ∨ (0 < n ∧ ¬ x < out.getD (n - 1) 0)
          · have hpn : posR x out n = n := by
              rcases hstop with rfl | ⟨h0, h1⟩
              · rfl
              · obtain ⟨m, rfl⟩ : ∃ m, n = m + 1 := ⟨n - 1, by omega⟩
                rw [Nat.add_sub_cancel] at h1
                unfold posR
                rw [if_neg h1]
            rw [hpn] at hp
            have hst2 := Lib.hid (show rTo all (k + 1) = [] ++ out.take n ++ [x] ++ out.drop n from by rw [hst.out, insR_eq, ← hp])
            have hne := Lib.hid (show ([] ++ out.take n ++ [x] ++ out.drop n : List Int) ≠ [] from by simp)
            have hlt1 := Lib.hid (show ([] ++ out.take n : List Int).length ≤ 1000000 from by simp; omega)
            have hlt2 := Lib.hid (show ([] ++ out.take n ++ [x] : List Int).length ≤ 1000000 from by simp; omega)
            have hm1 := Lib.hid (show (out.take n).length = n from by simp; omega)
            have hm2 := Lib.hid (show [x].length = 1 from rfl)
            have hm3 := Lib.hid (show (out.drop n).length = out.length - n from by simp)
            clear hst hp hpn
            have hncap : n ≤ cap := by omega
            have hncapi : (n : Int) ≤ (cap : Int) := by omega
            have hnli : (n : Int) ≤ (out.length : Int) := by omega
            rcases hstop with h0 | ⟨h0, h1⟩
            · replace h0 : (n : Int) ≤ 0 := by omega
              rcases Nat.lt_or_ge n cap with hcn | hcn
              · have hcn' : ¬ cap = n := by omega
                go_wp2_with fail
                refine wp_region_on (by kernel_rfl) (fun hOn => ?_)
                obtain ⟨wd, hwd⟩ : ∃ wd, wd = wr'.drew := ⟨_, rfl⟩
                rw [← hwd] at hOn ⊢
                have hwz := Lib.hid (show wd.heap.size = wr'.heap.size from by rw [hwd]; rfl)
                clear hwd
                refine wpAnyH_take (i := 1) (v := ?_) (by simp only [List.getElem?_toArray, List.getElem?_cons_succ, List.getElem?_cons_zero]; rfl) (by kernel_rfl) (by kernel_rfl) (by kernel_rfl) (by exact fun _ _ _ h => h) (Or.inl ⟨by rfl, ?_⟩) hOn ?_
                rotate_left
                focus (intro W hSW; go_simp; try with_reducible rfl)
                try simp only [Act.put, List.setIfInBounds_toArray, List.set_cons_zero, List.set_cons_succ]
                refine wpAnyH_take (i := 2) (v := ?_) (by simp only [List.getElem?_toArray, List.getElem?_cons_succ, List.getElem?_cons_zero]; rfl) (by kernel_rfl) (by kernel_rfl) (by kernel_rfl) (by exact fun _ _ _ h => h) (Or.inl ⟨by rfl, ?_⟩) hOn ?_
                rotate_left
                focus (intro W hSW; go_simp; try with_reducible rfl)
                try simp only [Act.put, List.setIfInBounds_toArray, List.set_cons_zero, List.set_cons_succ]
                refine wpAnyH_take (i := 3) (v := ?_) (by simp only [List.getElem?_toArray, List.getElem?_cons_succ, List.getElem?_cons_zero]; rfl) (by kernel_rfl) (by kernel_rfl) (by kernel_rfl) (by exact fun _ _ _ h => h) (Or.inl ⟨by rfl, ?_⟩) hOn ?_
                rotate_left
                focus (intro W hSW; go_simp; try with_reducible rfl)
                try simp only [Act.put, List.setIfInBounds_toArray, List.set_cons_zero, List.set_cons_succ]
                refine wpAnyH_take (i := 5) (v := ?_) (by simp only [List.getElem?_toArray, List.getElem?_cons_succ, List.getElem?_cons_zero]; rfl) (by kernel_rfl) (by kernel_rfl) (by kernel_rfl) (by exact fun _ _ _ h => h) (Or.inl ⟨by rfl, ?_⟩) hOn ?_
                rotate_left
                focus (intro W hSW; go_simp; try with_reducible rfl)
                try simp only [Act.put, List.setIfInBounds_toArray, List.set_cons_zero, List.set_cons_succ]
                refine wpAnyH_take (i := 8) (v := ?_) (by simp only [List.getElem?_toArray, List.getElem?_cons_succ, List.getElem?_cons_zero]; rfl) (by kernel_rfl) (by kernel_rfl) (by kernel_rfl) (by exact fun _ _ _ h => h) (Or.inl ⟨by rfl, ?_⟩) hOn ?_
                rotate_left
                focus (intro W hSW; go_simp; try with_reducible rfl)
                try simp only [Act.put, List.setIfInBounds_toArray, List.set_cons_zero, List.set_cons_succ]
                refine wpAnyH_take (i := 9) (v := ?_) (by simp only [List.getElem?_toArray, List.getElem?_cons_succ, List.getElem?_cons_zero]; rfl) (by kernel_rfl) (by kernel_rfl) (by kernel_rfl) (by exact fun _ _ _ h => h) (Or.inl ⟨by rfl, ?_⟩) hOn ?_
                rotate_left
                focus (intro W hSW; go_simp; try with_reducible rfl)
                try simp only [Act.put, List.setIfInBounds_toArray, List.set_cons_zero, List.set_cons_succ]
                refine wpAnyH_take (i := 10) (v := ?_) (by simp only [List.getElem?_toArray, List.getElem?_cons_succ, List.getElem?_cons_zero]; rfl) (by kernel_rfl) (by kernel_rfl) (by kernel_rfl) (by exact fun _ _ _ h => h) (Or.inl ⟨by rfl, ?_⟩) hOn ?_
                rotate_left
                focus (intro W hSW; go_simp; try with_reducible rfl)
                try simp only [Act.put, List.setIfInBounds_toArray, List.set_cons_zero, List.set_cons_succ]
                refine wpAnyH_ready (rs := [0, 6]) (by kernel_rfl) (by simp) ?_
                refine AllReadyH.cons (by simp only [List.getElem?_toArray, List.getElem?_cons_zero]; rfl) (fun K hK => ?_) ?_
                · have own0 := Lib.hid (OwnI.made0 wd wd.heap.size (Nat.le_refl _))
                  go_simp
                  try go_wp2_with fail
                  refine hK.out _ _ (Grown.alloc hOn _) (fun hNext => ?_)
                  clear hK K hOn
                  have hOn := hNext
                  clear hNext
                  try simp only [Act.put, List.setIfInBounds_toArray, List.set_cons_zero, List.set_cons_succ]
                  refine wpAnyH_ready (rs := [4, 6]) (by kernel_rfl) (by simp) ?_
                  refine AllReadyH.cons (by simp only [List.getElem?_toArray, List.getElem?_cons_succ, List.getElem?_cons_zero]; rfl) (fun K hK => ?_) ?_
                  · have hs1 := Lib.hid ((hsrc.out.take n).below hOn)
                    rw [if_pos (by rfl)]
                    refine opI_app (.tmp 35) (.tmp 38) rfl wd.heap.size _ _ rfl own0 _ _ (out.take n) _ rfl hm1 hs1 (by first | exact hlt1.out | exact hlt2.out | simp) (by omega) (by first | exact Nat.le_refl _ | (have := hOn.size; have := hwz.out; omega) | simp | (simp; omega)) ?_
                    intro v1 w1 ho1 hb1 hg1
                    have hG := Below.trans hOn ((hb1.out).mono (by have := hwz.out; omega))
                    refine hK.out _ _ hG (fun hNext => ?_)
                    clear hG
                    clear hK K hOn
                    have hOn := hNext
                    clear hNext
                    try simp only [Act.put, List.setIfInBounds_toArray, List.set_cons_zero, List.set_cons_succ]
                    refine wpAnyH_ready (rs := [6]) (by kernel_rfl) (by simp) ?_
                    refine AllReadyH.cons (by simp only [List.getElem?_toArray, List.getElem?_cons_succ, List.getElem?_cons_zero]; rfl) (fun K hK => ?_) AllReadyH.nil
                    have own1 := Lib.hid (OwnI.below ho1.out ((Below.refl w1.heap.size w1).alloc (Nat.le_refl _) (.cells #[.int .i64 x] 3)) (Nat.le_refl _))
                    have box := Lib.hid (srcI_lit w1 3 [x] #[.int .i64 x] rfl (by simp))
                    go_simp
                    try go_wp2_with fail
                    refine hK.out _ _ (Grown.alloc hOn _) (fun hNext => ?_)
                    clear hK K hOn
                    have hOn := hNext
                    clear hNext
                    try simp only [Act.put, List.setIfInBounds_toArray, List.set_cons_zero, List.set_cons_succ]
                    refine wpAnyH_ready (rs := [7]) (by kernel_rfl) (by simp) ?_
                    refine AllReadyH.cons (by simp only [List.getElem?_toArray, List.getElem?_cons_succ, List.getElem?_cons_zero]; rfl) (fun K hK => ?_) AllReadyH.nil
                    rw [if_pos (by rfl)]
                    refine opI_app (.tmp 39) (.tmp 41) rfl wd.heap.size _ _ rfl own1 _ _ [x] _ rfl hm2 box (by first | exact hlt1.out | exact hlt2.out | simp) (by omega) (by first | exact Nat.le_refl _ | (have := hOn.size; have := hwz.out; omega) | simp | (simp; omega)) ?_
                    intro v2 w2 ho2 hb2 hg2
                    have hG := Below.trans hOn ((hb2.out).mono (by have := hwz.out; omega))
                    refine hK.out _ _ hG (fun hNext => ?_)
                    clear hG
                    clear hK K hOn
                    have hOn := hNext
                    clear hNext
                    try simp only [Act.put, List.setIfInBounds_toArray, List.set_cons_zero, List.set_cons_succ]
                    refine wpAnyH_ready (rs := [11]) (by kernel_rfl) (by simp) ?_
                    refine AllReadyH.cons (by simp only [List.getElem?_toArray, List.getElem?_cons_succ, List.getElem?_cons_zero]; rfl) (fun K hK => ?_) AllReadyH.nil
                    have hs3 := Lib.hid ((hsrc.out.dropIn n).below hOn)
                    rw [if_pos (by rfl)]
                    refine opI_app (.tmp 42) (.tmp 45) rfl wd.heap.size _ _ rfl ho2 _ _ (out.drop n) _ rfl hm3 hs3 (by first | exact hlt1.out | exact hlt2.out | simp) (by omega) (by first | exact Nat.le_refl _ | (have := hOn.size; have := hwz.out; omega) | simp | (simp; omega)) ?_
                    intro v3 w3 ho3 hb3 hg3
                    have hG := Below.trans hOn ((hb3.out).mono (by have := hwz.out; omega))
                    refine hK.out _ _ hG (fun hNext => ?_)
                    clear hG
                    clear hK K hOn
                    have hOn := hNext
                    clear hNext
                    try simp only [Act.put, List.setIfInBounds_toArray, List.set_cons_zero, List.set_cons_succ]
                    refine wpAnyH_take (i := 12) (v := ?_) (by simp only [List.getElem?_toArray, List.getElem?_cons_succ, List.getElem?_cons_zero]; rfl) (by kernel_rfl) (by kernel_rfl) (by kernel_rfl) (by exact fun _ _ _ h => h) (Or.inl ⟨by rfl, ?_⟩) hOn ?_
                    rotate_left
                    focus (intro W hSW; go_simp; try with_reducible rfl)
                    try simp only [Act.put, List.setIfInBounds_toArray, List.set_cons_zero, List.set_cons_succ]
                    refine wpAnyH_done (by kernel_rfl) ?_ _
                    go_wp2_with fail
                    go_roundw
                    case rel => exact ⟨k + 1, by omega, by go_num, by rw [hst2.out]; exact ho3.out.mono (by have := hsz0.out; have := hwz.out; omega), by rw [hst2.out]; exact ho3.out.form hne.out, hbel.out.trans (hOn.mono hsz0.out)⟩
                    case measure => simp [intOf]; omega
                  refine AllReadyH.cons (by simp only [List.getElem?_toArray, List.getElem?_cons_succ, List.getElem?_cons_zero]; rfl) (fun K hK => ?_) AllReadyH.nil
                  have box : Hid (SrcI ((wd.alloc (.cells #[] 3)).alloc (.cells #[.int .i64 x] 3)) (some ⟨wd.heap.size + 1, 0, none⟩) 1 [x]) := Lib.hid (by have := srcI_lit (wd.alloc (.cells #[] 3)) 3 [x] #[.int .i64 x] rfl (by simp); simpa using this)
                  have own1 := Lib.hid (World.ownsRow.alloc own0.out (.cells #[.int .i64 x] 3))
                  go_simp
                  try go_wp2_with fail
                  refine hK.out _ _ (Grown.alloc hOn _) (fun hNext => ?_)
                  clear hK K hOn
                  have hOn := hNext
                  clear hNext
                  try simp only [Act.put, List.setIfInBounds_toArray, List.set_cons_zero, List.set_cons_succ]
                  refine wpAnyH_ready (rs := [4]) (by kernel_rfl) (by simp) ?_
                  refine AllReadyH.cons (by simp only [List.getElem?_toArray, List.getElem?_cons_succ, List.getElem?_cons_zero]; rfl) (fun K hK => ?_) AllReadyH.nil
                  have hs1 := Lib.hid ((hsrc.out.take n).below hOn)
                  rw [if_pos (by rfl)]
                  refine opI_app (.tmp 35) (.tmp 38) rfl wd.heap.size _ _ rfl own1 _ _ (out.take n) _ rfl hm1 hs1 (by first | exact hlt1.out | exact hlt2.out | simp) (by omega) (by first | exact Nat.le_refl _ | (have := hOn.size; have := hwz.out; omega) | simp | (simp; omega)) ?_
                  intro v1 w1 ho1 hb1 hg1
                  have hG := Below.trans hOn ((hb1.out).mono (by have := hwz.out; omega))
                  refine hK.out _ _ hG (fun hNext => ?_)
                  clear hG
                  clear hK K hOn
                  have hOn := hNext
                  clear hNext
                  try simp only [Act.put, List.setIfInBounds_toArray, List.set_cons_zero, List.set_cons_succ]
                  have hgk : Hid (World.grownBy _ w1 (some wd.heap.size)) := hg1
                  have boxk := Lib.hid (box.out.kept hgk.out (by simp))
                  refine wpAnyH_ready (rs := [7]) (by kernel_rfl) (by simp) ?_
                  refine AllReadyH.cons (by simp only [List.getElem?_toArray, List.getElem?_cons_succ, List.getElem?_cons_zero]; rfl) (fun K hK => ?_) AllReadyH.nil
                  rw [if_pos (by rfl)]
                  refine opI_app (.tmp 39) (.tmp 41) rfl wd.heap.size _ _ rfl ho1 _ _ [x] _ rfl hm2 boxk (by first | exact hlt1.out | exact hlt2.out | simp) (by omega) (by first | exact Nat.le_refl _ | (have := hOn.size; have := hwz.out; omega) | simp | (simp; omega)) ?_
                  intro v2 w2 ho2 hb2 hg2
                  have hG := Below.trans hOn ((hb2.out).mono (by have := hwz.out; omega))
                  refine hK.out _ _ hG (fun hNext => ?_)
                  clear hG
                  clear hK K hOn
                  have hOn := hNext
                  clear hNext
                  try simp only [Act.put, List.setIfInBounds_toArray, List.set_cons_zero, List.set_cons_succ]
                  refine wpAnyH_ready (rs := [11]) (by kernel_rfl) (by simp) ?_
                  refine AllReadyH.cons (by simp only [List.getElem?_toArray, List.getElem?_cons_succ, List.getElem?_cons_zero]; rfl) (fun K hK => ?_) AllReadyH.nil
                  have hs3 := Lib.hid ((hsrc.out.dropIn n).below hOn)
                  rw [if_pos (by rfl)]
                  refine opI_app (.tmp 42) (.tmp 45) rfl wd.heap.size _ _ rfl ho2 _ _ (out.drop n) _ rfl hm3 hs3 (by first | exact hlt1.out | exact hlt2.out | simp) (by omega) (by first | exact Nat.le_refl _ | (have := hOn.size; have := hwz.out; omega) | simp | (simp; omega)) ?_
                  intro v3 w3 ho3 hb3 hg3
                  have hG := Below.trans hOn ((hb3.out).mono (by have := hwz.out; omega))
                  refine hK.out _ _ hG (fun hNext => ?_)
                  clear hG
                  clear hK K hOn
                  have hOn := hNext
                  clear hNext
                  try simp only [Act.put, List.setIfInBounds_toArray, List.set_cons_zero, List.set_cons_succ]
                  refine wpAnyH_take (i := 12) (v := ?_) (by simp only [List.getElem?_toArray, List.getElem?_cons_succ, List.getElem?_cons_zero]; rfl) (by kernel_rfl) (by kernel_rfl) (by kernel_rfl) (by exact fun _ _ _ h => h) (Or.inl ⟨by rfl, ?_⟩) hOn ?_
                  rotate_left
                  focus (intro W hSW; go_simp; try with_reducible rfl)
                  try simp only [Act.put, List.setIfInBounds_toArray, List.set_cons_zero, List.set_cons_succ]
                  refine wpAnyH_done (by kernel_rfl) ?_ _
                  go_wp2_with fail
                  go_roundw
                  case rel => exact ⟨k + 1, by omega, by go_num, by rw [hst2.out]; exact ho3.out.mono (by have := hsz0.out; have := hwz.out; omega), by rw [hst2.out]; exact ho3.out.form hne.out, hbel.out.trans (hOn.mono hsz0.out)⟩
                  case measure => simp [intOf]; omega
                refine AllReadyH.cons (by simp only [List.getElem?_toArray, List.getElem?_cons_succ, List.getElem?_cons_zero]; rfl) (fun K hK => ?_) AllReadyH.nil
                have box := Lib.hid (srcI_lit wd 3 [x] #[.int .i64 x] rfl (by simp))
                have own0 : Hid (OwnI (wd.heap.size + 1) ((wd.alloc (.cells #[.int .i64 x] 3)).alloc (.cells #[] 3)) (.slice (some ⟨wd.heap.size + 1, 0, none⟩) 0 0) []) := Lib.hid (by have := OwnI.made0 (wd.alloc (.cells #[.int .i64 x] 3)) (wd.heap.size + 1) (by simp); simpa using this)
                go_simp
                try go_wp2_with fail
                refine hK.out _ _ (Grown.alloc hOn _) (fun hNext => ?_)
                clear hK K hOn
                have hOn := hNext
                clear hNext
                try simp only [Act.put, List.setIfInBounds_toArray, List.set_cons_zero, List.set_cons_succ]
                refine wpAnyH_ready (rs := [0]) (by kernel_rfl) (by simp) ?_
                refine AllReadyH.cons (by simp only [List.getElem?_toArray, List.getElem?_cons_zero]; rfl) (fun K hK => ?_) AllReadyH.nil
                replace box := Lib.hid (box.out.below (Grown.alloc (Grown.refl _) (.cells #[] 3)))
                go_simp
                try go_wp2_with fail
                refine hK.out _ _ (Grown.alloc hOn _) (fun hNext => ?_)
                clear hK K hOn
                have hOn := hNext
                clear hNext
                try simp only [Act.put, List.setIfInBounds_toArray, List.set_cons_zero, List.set_cons_succ]
                refine wpAnyH_ready (rs := [4]) (by kernel_rfl) (by simp) ?_
                refine AllReadyH.cons (by simp only [List.getElem?_toArray, List.getElem?_cons_succ, List.getElem?_cons_zero]; rfl) (fun K hK => ?_) AllReadyH.nil
                have hs1 := Lib.hid ((hsrc.out.take n).below hOn)
                rw [if_pos (by rfl)]
                refine opI_app (.tmp 35) (.tmp 38) rfl (wd.heap.size + 1) _ _ rfl own0 _ _ (out.take n) _ rfl hm1 hs1 (by first | exact hlt1.out | exact hlt2.out | simp) (by omega) (by first | exact Nat.le_refl _ | (have := hOn.size; have := hwz.out; omega) | simp | (simp; omega)) ?_
                intro v1 w1 ho1 hb1 hg1
                have hG := Below.trans hOn ((hb1.out).mono (by have := hwz.out; omega))
                refine hK.out _ _ hG (fun hNext => ?_)
                clear hG
                clear hK K hOn
                have hOn := hNext
                clear hNext
                try simp only [Act.put, List.setIfInBounds_toArray, List.set_cons_zero, List.set_cons_succ]
                have hgk : Hid (World.grownBy _ w1 (some (wd.heap.size + 1))) := hg1
                have boxk := Lib.hid (box.out.kept hgk.out (by simp))
                replace ho1 := Lib.hid (ho1.out.mono (Nat.le_succ wd.heap.size))
                refine wpAnyH_ready (rs := [7]) (by kernel_rfl) (by simp) ?_
                refine AllReadyH.cons (by simp only [List.getElem?_toArray, List.getElem?_cons_succ, List.getElem?_cons_zero]; rfl) (fun K hK => ?_) AllReadyH.nil
                rw [if_pos (by rfl)]
                refine opI_app (.tmp 39) (.tmp 41) rfl wd.heap.size _ _ rfl ho1 _ _ [x] _ rfl hm2 boxk (by first | exact hlt1.out | exact hlt2.out | simp) (by omega) (by first | exact Nat.le_refl _ | (have := hOn.size; have := hwz.out; omega) | simp | (simp; omega)) ?_
                intro v2 w2 ho2 hb2 hg2
                have hG := Below.trans hOn ((hb2.out).mono (by have := hwz.out; omega))
                refine hK.out _ _ hG (fun hNext => ?_)
                clear hG
                clear hK K hOn
                have hOn := hNext
                clear hNext
                try simp only [Act.put, List.setIfInBounds_toArray, List.set_cons_zero, List.set_cons_succ]
                refine wpAnyH_ready (rs := [11]) (by kernel_rfl) (by simp) ?_
                refine AllReadyH.cons (by simp only [List.getElem?_toArray, List.getElem?_cons_succ, List.getElem?_cons_zero]; rfl) (fun K hK => ?_) AllReadyH.nil
                have hs3 := Lib.hid ((hsrc.out.dropIn n).below hOn)
                rw [if_pos (by rfl)]
                refine opI_app (.tmp 42) (.tmp 45) rfl wd.heap.size _ _ rfl ho2 _ _ (out.drop n) _ rfl hm3 hs3 (by first | exact hlt1.out | exact hlt2.out | simp) (by omega) (by first | exact Nat.le_refl _ | (have := hOn.size; have := hwz.out; omega) | simp | (simp; omega)) ?_
                intro v3 w3 ho3 hb3 hg3
                have hG := Below.trans hOn ((hb3.out).mono (by have := hwz.out; omega))
                refine hK.out _ _ hG (fun hNext => ?_)
                clear hG
                clear hK K hOn
                have hOn := hNext
                clear hNext
                try simp only [Act.put, List.setIfInBounds_toArray, List.set_cons_zero, List.set_cons_succ]
                refine wpAnyH_take (i := 12) (v := ?_) (by simp only [List.getElem?_toArray, List.getElem?_cons_succ, List.getElem?_cons_zero]; rfl) (by kernel_rfl) (by kernel_rfl) (by kernel_rfl) (by exact fun _ _ _ h => h) (Or.inl ⟨by rfl, ?_⟩) hOn ?_
                rotate_left
                focus (intro W hSW; go_simp; try with_reducible rfl)
                try simp only [Act.put, List.setIfInBounds_toArray, List.set_cons_zero, List.set_cons_succ]
                refine wpAnyH_done (by kernel_rfl) ?_ _
                go_wp2_with fail
                go_roundw
                case rel => exact ⟨k + 1, by omega, by go_num, by rw [hst2.out]; exact ho3.out.mono (by have := hsz0.out; have := hwz.out; omega), by rw [hst2.out]; exact ho3.out.form hne.out, hbel.out.trans (hOn.mono hsz0.out)⟩
                case measure => simp [intOf]; omega
              · obtain rfl : n = cap := by omega
                replace hm3 := Lib.hid (show (out.drop n).length = 0 from by simp; omega)
                go_wp2_with fail
                refine wp_region_on (by kernel_rfl) (fun hOn => ?_)
                obtain ⟨wd, hwd⟩ : ∃ wd, wd = wr'.drew := ⟨_, rfl⟩
                rw [← hwd] at hOn ⊢
                have hwz := Lib.hid (show wd.heap.size = wr'.heap.size from by rw [hwd]; rfl)
                clear hwd
                refine wpAnyH_take (i := 1) (v := ?_) (by simp only [List.getElem?_toArray, List.getElem?_cons_succ, List.getElem?_cons_zero]; rfl) (by kernel_rfl) (by kernel_rfl) (by kernel_rfl) (by exact fun _ _ _ h => h) (Or.inl ⟨by rfl, ?_⟩) hOn ?_
                rotate_left
                focus (intro W hSW; go_simp; try with_reducible rfl)
                try simp only [Act.put, List.setIfInBounds_toArray, List.set_cons_zero, List.set_cons_succ]
                refine wpAnyH_take (i := 2) (v := ?_) (by simp only [List.getElem?_toArray, List.getElem?_cons_succ, List.getElem?_cons_zero]; rfl) (by kernel_rfl) (by kernel_rfl) (by kernel_rfl) (by exact fun _ _ _ h => h) (Or.inl ⟨by rfl, ?_⟩) hOn ?_
                rotate_left
                focus (intro W hSW; go_simp; try with_reducible rfl)
                try simp only [Act.put, List.setIfInBounds_toArray, List.set_cons_zero, List.set_cons_succ]
                refine wpAnyH_take (i := 3) (v := ?_) (by simp only [List.getElem?_toArray, List.getElem?_cons_succ, List.getElem?_cons_zero]; rfl) (by kernel_rfl) (by kernel_rfl) (by kernel_rfl) (by exact fun _ _ _ h => h) (Or.inl ⟨by rfl, ?_⟩) hOn ?_
                rotate_left
                focus (intro W hSW; go_simp; try with_reducible rfl)
                try simp only [Act.put, List.setIfInBounds_toArray, List.set_cons_zero, List.set_cons_succ]
                refine wpAnyH_take (i := 5) (v := ?_) (by simp only [List.getElem?_toArray, List.getElem?_cons_succ, List.getElem?_cons_zero]; rfl) (by kernel_rfl) (by kernel_rfl) (by kernel_rfl) (by exact fun _ _ _ h => h) (Or.inl ⟨by rfl, ?_⟩) hOn ?_
                rotate_left
                focus (intro W hSW; go_simp; try with_reducible rfl)
                try simp only [Act.put, List.setIfInBounds_toArray, List.set_cons_zero, List.set_cons_succ]
                refine wpAnyH_take (i := 8) (v := ?_) (by simp only [List.getElem?_toArray, List.getElem?_cons_succ, List.getElem?_cons_zero]; rfl) (by kernel_rfl) (by kernel_rfl) (by kernel_rfl) (by exact fun _ _ _ h => h) (Or.inl ⟨by rfl, ?_⟩) hOn ?_
                rotate_left
                focus (intro W hSW; go_simp; try with_reducible rfl)
                try simp only [Act.put, List.setIfInBounds_toArray, List.set_cons_zero, List.set_cons_succ]
                refine wpAnyH_take (i := 9) (v := ?_) (by simp only [List.getElem?_toArray, List.getElem?_cons_succ, List.getElem?_cons_zero]; rfl) (by kernel_rfl) (by kernel_rfl) (by kernel_rfl) (by exact fun _ _ _ h => h) (Or.inl ⟨by rfl, ?_⟩) hOn ?_
                rotate_left
                focus (intro W hSW; go_simp; try with_reducible rfl)
                try simp only [Act.put, List.setIfInBounds_toArray, List.set_cons_zero, List.set_cons_succ]
                refine wpAnyH_take (i := 10) (v := ?_) (by simp only [List.getElem?_toArray, List.getElem?_cons_succ, List.getElem?_cons_zero]; rfl) (by kernel_rfl) (by kernel_rfl) (by kernel_rfl) (by exact fun _ _ _ h => h) (Or.inl ⟨by rfl, ?_⟩) hOn ?_
                rotate_left
                focus (intro W hSW; go_simp; try with_reducible rfl)
                try simp only [Act.put, List.setIfInBounds_toArray, List.set_cons_zero, List.set_cons_succ]
                refine wpAnyH_ready (rs := [0, 6]) (by kernel_rfl) (by simp) ?_
                refine AllReadyH.cons (by simp only [List.getElem?_toArray, List.getElem?_cons_zero]; rfl) (fun K hK => ?_) ?_
                · have own0 := Lib.hid (OwnI.made0 wd wd.heap.size (Nat.le_refl _))
                  go_simp
                  try go_wp2_with fail
                  refine hK.out _ _ (Grown.alloc hOn _) (fun hNext => ?_)
                  clear hK K hOn
                  have hOn := hNext
                  clear hNext
                  try simp only [Act.put, List.setIfInBounds_toArray, List.set_cons_zero, List.set_cons_succ]
                  refine wpAnyH_ready (rs := [4, 6]) (by kernel_rfl) (by simp) ?_
                  refine AllReadyH.cons (by simp only [List.getElem?_toArray, List.getElem?_cons_succ, List.getElem?_cons_zero]; rfl) (fun K hK => ?_) ?_
                  · have hs1 := Lib.hid ((hsrc.out.take n).below hOn)
                    rw [if_pos (by rfl)]
                    refine opI_app (.tmp 35) (.tmp 38) rfl wd.heap.size _ _ rfl own0 _ _ (out.take n) _ rfl hm1 hs1 (by first | exact hlt1.out | exact hlt2.out | simp) (by omega) (by first | exact Nat.le_refl _ | (have := hOn.size; have := hwz.out; omega) | simp | (simp; omega)) ?_
                    intro v1 w1 ho1 hb1 hg1
                    have hG := Below.trans hOn ((hb1.out).mono (by have := hwz.out; omega))
                    refine hK.out _ _ hG (fun hNext => ?_)
                    clear hG
                    clear hK K hOn
                    have hOn := hNext
                    clear hNext
                    try simp only [Act.put, List.setIfInBounds_toArray, List.set_cons_zero, List.set_cons_succ]
                    refine wpAnyH_ready (rs := [6]) (by kernel_rfl) (by simp) ?_
                    refine AllReadyH.cons (by simp only [List.getElem?_toArray, List.getElem?_cons_succ, List.getElem?_cons_zero]; rfl) (fun K hK => ?_) AllReadyH.nil
                    have own1 := Lib.hid (OwnI.below ho1.out ((Below.refl w1.heap.size w1).alloc (Nat.le_refl _) (.cells #[.int .i64 x] 3)) (Nat.le_refl _))
                    have box := Lib.hid (srcI_lit w1 3 [x] #[.int .i64 x] rfl (by simp))
                    go_simp
                    try go_wp2_with fail
                    refine hK.out _ _ (Grown.alloc hOn _) (fun hNext => ?_)
                    clear hK K hOn
                    have hOn := hNext
                    clear hNext
                    try simp only [Act.put, List.setIfInBounds_toArray, List.set_cons_zero, List.set_cons_succ]
                    refine wpAnyH_ready (rs := [7]) (by kernel_rfl) (by simp) ?_
                    refine AllReadyH.cons (by simp only [List.getElem?_toArray, List.getElem?_cons_succ, List.getElem?_cons_zero]; rfl) (fun K hK => ?_) AllReadyH.nil
                    rw [if_pos (by rfl)]
                    refine opI_app (.tmp 39) (.tmp 41) rfl wd.heap.size _ _ rfl own1 _ _ [x] _ rfl hm2 box (by first | exact hlt1.out | exact hlt2.out | simp) (by omega) (by first | exact Nat.le_refl _ | (have := hOn.size; have := hwz.out; omega) | simp | (simp; omega)) ?_
                    intro v2 w2 ho2 hb2 hg2
                    have hG := Below.trans hOn ((hb2.out).mono (by have := hwz.out; omega))
                    refine hK.out _ _ hG (fun hNext => ?_)
                    clear hG
                    clear hK K hOn
                    have hOn := hNext
                    clear hNext
                    try simp only [Act.put, List.setIfInBounds_toArray, List.set_cons_zero, List.set_cons_succ]
                    refine wpAnyH_ready (rs := [11]) (by kernel_rfl) (by simp) ?_
                    refine AllReadyH.cons (by simp only [List.getElem?_toArray, List.getElem?_cons_succ, List.getElem?_cons_zero]; rfl) (fun K hK => ?_) AllReadyH.nil
                    have hs3 := Lib.hid ((hsrc.out.dropEnd).below hOn)
                    rw [if_pos (by rfl)]
                    refine opI_app (.tmp 42) (.tmp 45) rfl wd.heap.size _ _ rfl ho2 _ _ (out.drop n) _ rfl hm3 hs3 (by first | exact hlt1.out | exact hlt2.out | simp) (by omega) (by first | exact Nat.le_refl _ | (have := hOn.size; have := hwz.out; omega) | simp | (simp; omega)) ?_
                    intro v3 w3 ho3 hb3 hg3
                    have hG := Below.trans hOn ((hb3.out).mono (by have := hwz.out; omega))
                    refine hK.out _ _ hG (fun hNext => ?_)
                    clear hG
                    clear hK K hOn
                    have hOn := hNext
                    clear hNext
                    try simp only [Act.put, List.setIfInBounds_toArray, List.set_cons_zero, List.set_cons_succ]
                    refine wpAnyH_take (i := 12) (v := ?_) (by simp only [List.getElem?_toArray, List.getElem?_cons_succ, List.getElem?_cons_zero]; rfl) (by kernel_rfl) (by kernel_rfl) (by kernel_rfl) (by exact fun _ _ _ h => h) (Or.inl ⟨by rfl, ?_⟩) hOn ?_
                    rotate_left
                    focus (intro W hSW; go_simp; try with_reducible rfl)
                    try simp only [Act.put, List.setIfInBounds_toArray, List.set_cons_zero, List.set_cons_succ]
                    refine wpAnyH_done (by kernel_rfl) ?_ _
                    go_wp2_with fail
                    go_roundw
                    case rel => exact ⟨k + 1, by omega, by go_num, by rw [hst2.out]; exact ho3.out.mono (by have := hsz0.out; have := hwz.out; omega), by rw [hst2.out]; exact ho3.out.form hne.out, hbel.out.trans (hOn.mono hsz0.out)⟩
                    case measure => simp [intOf]; omega
                  refine AllReadyH.cons (by simp only [List.getElem?_toArray, List.getElem?_cons_succ, List.getElem?_cons_zero]; rfl) (fun K hK => ?_) AllReadyH.nil
                  have box : Hid (SrcI ((wd.alloc (.cells #[] 3)).alloc (.cells #[.int .i64 x] 3)) (some ⟨wd.heap.size + 1, 0, none⟩) 1 [x]) := Lib.hid (by have := srcI_lit (wd.alloc (.cells #[] 3)) 3 [x] #[.int .i64 x] rfl (by simp); simpa using this)
                  have own1 := Lib.hid (World.ownsRow.alloc own0.out (.cells #[.int .i64 x] 3))
                  go_simp
                  try go_wp2_with fail
                  refine hK.out _ _ (Grown.alloc hOn _) (fun hNext => ?_)
                  clear hK K hOn
                  have hOn := hNext
                  clear hNext
                  try simp only [Act.put, List.setIfInBounds_toArray, List.set_cons_zero, List.set_cons_succ]
                  refine wpAnyH_ready (rs := [4]) (by kernel_rfl) (by simp) ?_
                  refine AllReadyH.cons (by simp only [List.getElem?_toArray, List.getElem?_cons_succ, List.getElem?_cons_zero]; rfl) (fun K hK => ?_) AllReadyH.nil
                  have hs1 := Lib.hid ((hsrc.out.take n).below hOn)
                  rw [if_pos (by rfl)]
                  refine opI_app (.tmp 35) (.tmp 38) rfl wd.heap.size _ _ rfl own1 _ _ (out.take n) _ rfl hm1 hs1 (by first | exact hlt1.out | exact hlt2.out | simp) (by omega) (by first | exact Nat.le_refl _ | (have := hOn.size; have := hwz.out; omega) | simp | (simp; omega)) ?_
                  intro v1 w1 ho1 hb1 hg1
                  have hG := Below.trans hOn ((hb1.out).mono (by have := hwz.out; omega))
                  refine hK.out _ _ hG (fun hNext => ?_)
                  clear hG
                  clear hK K hOn
                  have hOn := hNext
                  clear hNext
                  try simp only [Act.put, List.setIfInBounds_toArray, List.set_cons_zero, List.set_cons_succ]
                  have hgk : Hid (World.grownBy _ w1 (some wd.heap.size)) := hg1
                  have boxk := Lib.hid (box.out.kept hgk.out (by simp))
                  refine wpAnyH_ready (rs := [7]) (by kernel_rfl) (by simp) ?_
                  refine AllReadyH.cons (by simp only [List.getElem?_toArray, List.getElem?_cons_succ, List.getElem?_cons_zero]; rfl) (fun K hK => ?_) AllReadyH.nil
                  rw [if_pos (by rfl)]
                  refine opI_app (.tmp 39) (.tmp 41) rfl wd.heap.size _ _ rfl ho1 _ _ [x] _ rfl hm2 boxk (by first | exact hlt1.out | exact hlt2.out | simp) (by omega) (by first | exact Nat.le_refl _ | (have := hOn.size; have := hwz.out; omega) | simp | (simp; omega)) ?_
                  intro v2 w2 ho2 hb2 hg2
                  have hG := Below.trans hOn ((hb2.out).mono (by have := hwz.out; omega))
                  refine hK.out _ _ hG (fun hNext => ?_)
                  clear hG
                  clear hK K hOn
                  have hOn := hNext
                  clear hNext
                  try simp only [Act.put, List.setIfInBounds_toArray, List.set_cons_zero, List.set_cons_succ]
                  refine wpAnyH_ready (rs := [11]) (by kernel_rfl) (by simp) ?_
                  refine AllReadyH.cons (by simp only [List.getElem?_toArray, List.getElem?_cons_succ, List.getElem?_cons_zero]; rfl) (fun K hK => ?_) AllReadyH.nil
                  have hs3 := Lib.hid ((hsrc.out.dropEnd).below hOn)
                  rw [if_pos (by rfl)]
                  refine opI_app (.tmp 42) (.tmp 45) rfl wd.heap.size _ _ rfl ho2 _ _ (out.drop n) _ rfl hm3 hs3 (by first | exact hlt1.out | exact hlt2.out | simp) (by omega) (by first | exact Nat.le_refl _ | (have := hOn.size; have := hwz.out; omega) | simp | (simp; omega)) ?_
                  intro v3 w3 ho3 hb3 hg3
                  have hG := Below.trans hOn ((hb3.out).mono (by have := hwz.out; omega))
                  refine hK.out _ _ hG (fun hNext => ?_)
                  clear hG
                  clear hK K hOn
                  have hOn := hNext
                  clear hNext
                  try simp only [Act.put, List.setIfInBounds_toArray, List.set_cons_zero, List.set_cons_succ]
                  refine wpAnyH_take (i := 12) (v := ?_) (by simp only [List.getElem?_toArray, List.getElem?_cons_succ, List.getElem?_cons_zero]; rfl) (by kernel_rfl) (by kernel_rfl) (by kernel_rfl) (by exact fun _ _ _ h => h) (Or.inl ⟨by rfl, ?_⟩) hOn ?_
                  rotate_left
                  focus (intro W hSW; go_simp; try with_reducible rfl)
                  try simp only [Act.put, List.setIfInBounds_toArray, List.set_cons_zero, List.set_cons_succ]
                  refine wpAnyH_done (by kernel_rfl) ?_ _
                  go_wp2_with fail
                  go_roundw
                  case rel => exact ⟨k + 1, by omega, by go_num, by rw [hst2.out]; exact ho3.out.mono (by have := hsz0.out; have := hwz.out; omega), by rw [hst2.out]; exact ho3.out.form hne.out, hbel.out.trans (hOn.mono hsz0.out)⟩
                  case measure => simp [intOf]; omega
                refine AllReadyH.cons (by simp only [List.getElem?_toArray, List.getElem?_cons_succ, List.getElem?_cons_zero]; rfl) (fun K hK => ?_) AllReadyH.nil
                have box := Lib.hid (srcI_lit wd 3 [x] #[.int .i64 x] rfl (by simp))
                have own0 : Hid (OwnI (wd.heap.size + 1) ((wd.alloc (.cells #[.int .i64 x] 3)).alloc (.cells #[] 3)) (.slice (some ⟨wd.heap.size + 1, 0, none⟩) 0 0) []) := Lib.hid (by have := OwnI.made0 (wd.alloc (.cells #[.int .i64 x] 3)) (wd.heap.size + 1) (by simp); simpa using this)
                go_simp
                try go_wp2_with fail
                refine hK.out _ _ (Grown.alloc hOn _) (fun hNext => ?_)
                clear hK K hOn
                have hOn := hNext
                clear hNext
                try simp only [Act.put, List.setIfInBounds_toArray, List.set_cons_zero, List.set_cons_succ]
                refine wpAnyH_ready (rs := [0]) (by kernel_rfl) (by simp) ?_
                refine AllReadyH.cons (by simp only [List.getElem?_toArray, List.getElem?_cons_zero]; rfl) (fun K hK => ?_) AllReadyH.nil
                replace box := Lib.hid (box.out.below (Grown.alloc (Grown.refl _) (.cells #[] 3)))
                go_simp
                try go_wp2_with fail
                refine hK.out _ _ (Grown.alloc hOn _) (fun hNext => ?_)
                clear hK K hOn
                have hOn := hNext
                clear hNext
                try simp only [Act.put, List.setIfInBounds_toArray, List.set_cons_zero, List.set_cons_succ]
                refine wpAnyH_ready (rs := [4]) (by kernel_rfl) (by simp) ?_
                refine AllReadyH.cons (by simp only [List.getElem?_toArray, List.getElem?_cons_succ, List.getElem?_cons_zero]; rfl) (fun K hK => ?_) AllReadyH.nil
                have hs1 := Lib.hid ((hsrc.out.take n).below hOn)
                rw [if_pos (by rfl)]
                refine opI_app (.tmp 35) (.tmp 38) rfl (wd.heap.size + 1) _ _ rfl own0 _ _ (out.take n) _ rfl hm1 hs1 (by first | exact hlt1.out | exact hlt2.out | simp) (by omega) (by first | exact Nat.le_refl _ | (have := hOn.size; have := hwz.out; omega) | simp | (simp; omega)) ?_
                intro v1 w1 ho1 hb1 hg1
                have hG := Below.trans hOn ((hb1.out).mono (by have := hwz.out; omega))
                refine hK.out _ _ hG (fun hNext => ?_)
                clear hG
                clear hK K hOn
                have hOn := hNext
                clear hNext
                try simp only [Act.put, List.setIfInBounds_toArray, List.set_cons_zero, List.set_cons_succ]
                have hgk : Hid (World.grownBy _ w1 (some (wd.heap.size + 1))) := hg1
                have boxk := Lib.hid (box.out.kept hgk.out (by simp))
                replace ho1 := Lib.hid (ho1.out.mono (Nat.le_succ wd.heap.size))
                refine wpAnyH_ready (rs := [7]) (by kernel_rfl) (by simp) ?_
                refine AllReadyH.cons (by simp only [List.getElem?_toArray, List.getElem?_cons_succ, List.getElem?_cons_zero]; rfl) (fun K hK => ?_) AllReadyH.nil
                rw [if_pos (by rfl)]
                refine opI_app (.tmp 39) (.tmp 41) rfl wd.heap.size _ _ rfl ho1 _ _ [x] _ rfl hm2 boxk (by first | exact hlt1.out | exact hlt2.out | simp) (by omega) (by first | exact Nat.le_refl _ | (have := hOn.size; have := hwz.out; omega) | simp | (simp; omega)) ?_
                intro v2 w2 ho2 hb2 hg2
                have hG := Below.trans hOn ((hb2.out).mono (by have := hwz.out; omega))
                refine hK.out _ _ hG (fun hNext => ?_)
                clear hG
                clear hK K hOn
                have hOn := hNext
                clear hNext
                try simp only [Act.put, List.setIfInBounds_toArray, List.set_cons_zero, List.set_cons_succ]
                refine wpAnyH_ready (rs := [11]) (by kernel_rfl) (by simp) ?_
                refine AllReadyH.cons (by simp only [List.getElem?_toArray, List.getElem?_cons_succ, List.getElem?_cons_zero]; rfl) (fun K hK => ?_) AllReadyH.nil
                have hs3 := Lib.hid ((hsrc.out.dropEnd).below hOn)
                rw [if_pos (by rfl)]
                refine opI_app (.tmp 42) (.tmp 45) rfl wd.heap.size _ _ rfl ho2 _ _ (out.drop n) _ rfl hm3 hs3 (by first | exact hlt1.out | exact hlt2.out | simp) (by omega) (by first | exact Nat.le_refl _ | (have := hOn.size; have := hwz.out; omega) | simp | (simp; omega)) ?_
                intro v3 w3 ho3 hb3 hg3
                have hG := Below.trans hOn ((hb3.out).mono (by have := hwz.out; omega))
                refine hK.out _ _ hG (fun hNext => ?_)
                clear hG
                clear hK K hOn
                have hOn := hNext
                clear hNext
                try simp only [Act.put, List.setIfInBounds_toArray, List.set_cons_zero, List.set_cons_succ]
                refine wpAnyH_take (i := 12) (v := ?_) (by simp only [List.getElem?_toArray, List.getElem?_cons_succ, List.getElem?_cons_zero]; rfl) (by kernel_rfl) (by kernel_rfl) (by kernel_rfl) (by exact fun _ _ _ h => h) (Or.inl ⟨by rfl, ?_⟩) hOn ?_
                rotate_left
                focus (intro W hSW; go_simp; try with_reducible rfl)
                try simp only [Act.put, List.setIfInBounds_toArray, List.set_cons_zero, List.set_cons_succ]
                refine wpAnyH_done (by kernel_rfl) ?_ _
                go_wp2_with fail
                go_roundw
                case rel => exact ⟨k + 1, by omega, by go_num, by rw [hst2.out]; exact ho3.out.mono (by have := hsz0.out; have := hwz.out; omega), by rw [hst2.out]; exact ho3.out.form hne.out, hbel.out.trans (hOn.mono hsz0.out)⟩
                case measure => simp [intOf]; omega
            · obtain ⟨b2, o2, e2, hc2⟩ := hsrc.out.row (n - 1) (by omega)
              cases e2
              rw [Nat.zero_add] at hc2
              generalize out.getD (n - 1) 0 = y at *
              have h0' : (0 : Int) < n := by omega
              have h3 : (n : Int) - 1 < out.length := by omega
              rcases Nat.lt_or_ge n cap with hcn | hcn
              · have hcn' : ¬ cap = n := by omega
                go_wp2_with fail
                refine wp_region_on (by kernel_rfl) (fun hOn => ?_)
                obtain ⟨wd, hwd⟩ : ∃ wd, wd = wr'.drew := ⟨_, rfl⟩
                rw [← hwd] at hOn ⊢
                have hwz := Lib.hid (show wd.heap.size = wr'.heap.size from by rw [hwd]; rfl)
                clear hwd
                refine wpAnyH_take (i := 1) (v := ?_) (by simp only [List.getElem?_toArray, List.getElem?_cons_succ, List.getElem?_cons_zero]; rfl) (by kernel_rfl) (by kernel_rfl) (by kernel_rfl) (by exact fun _ _ _ h => h) (Or.inl ⟨by rfl, ?_⟩) hOn ?_
                rotate_left
                focus (intro W hSW; go_simp; try with_reducible rfl)
                try simp only [Act.put, List.setIfInBounds_toArray, List.set_cons_zero, List.set_cons_succ]
                refine wpAnyH_take (i := 2) (v := ?_) (by simp only [List.getElem?_toArray, List.getElem?_cons_succ, List.getElem?_cons_zero]; rfl) (by kernel_rfl) (by kernel_rfl) (by kernel_rfl) (by exact fun _ _ _ h => h) (Or.inl ⟨by rfl, ?_⟩) hOn ?_
                rotate_left
                focus (intro W hSW; go_simp; try with_reducible rfl)
                try simp only [Act.put, List.setIfInBounds_toArray, List.set_cons_zero, List.set_cons_succ]
                refine wpAnyH_take (i := 3) (v := ?_) (by simp only [List.getElem?_toArray, List.getElem?_cons_succ, List.getElem?_cons_zero]; rfl) (by kernel_rfl) (by kernel_rfl) (by kernel_rfl) (by exact fun _ _ _ h => h) (Or.inl ⟨by rfl, ?_⟩) hOn ?_
                rotate_left
                focus (intro W hSW; go_simp; try with_reducible rfl)
                try simp only [Act.put, List.setIfInBounds_toArray, List.set_cons_zero, List.set_cons_succ]
                refine wpAnyH_take (i := 5) (v := ?_) (by simp only [List.getElem?_toArray, List.getElem?_cons_succ, List.getElem?_cons_zero]; rfl) (by kernel_rfl) (by kernel_rfl) (by kernel_rfl) (by exact fun _ _ _ h => h) (Or.inl ⟨by rfl, ?_⟩) hOn ?_
                rotate_left
                focus (intro W hSW; go_simp; try with_reducible rfl)
                try simp only [Act.put, List.setIfInBounds_toArray, List.set_cons_zero, List.set_cons_succ]
                refine wpAnyH_take (i := 8) (v := ?_) (by simp only [List.getElem?_toArray, List.getElem?_cons_succ, List.getElem?_cons_zero]; rfl) (by kernel_rfl) (by kernel_rfl) (by kernel_rfl) (by exact fun _ _ _ h => h) (Or.inl ⟨by rfl, ?_⟩) hOn ?_
                rotate_left
                focus (intro W hSW; go_simp; try with_reducible rfl)
                try simp only [Act.put, List.setIfInBounds_toArray, List.set_cons_zero, List.set_cons_succ]
                refine wpAnyH_take (i := 9) (v := ?_) (by simp only [List.getElem?_toArray, List.getElem?_cons_succ, List.getElem?_cons_zero]; rfl) (by kernel_rfl) (by kernel_rfl) (by kernel_rfl) (by exact fun _ _ _ h => h) (Or.inl ⟨by rfl, ?_⟩) hOn ?_
                rotate_left
                focus (intro W hSW; go_simp; try with_reducible rfl)
                try simp only [Act.put, List.setIfInBounds_toArray, List.set_cons_zero, List.set_cons_succ]
                refine wpAnyH_take (i := 10) (v := ?_) (by simp only [List.getElem?_toArray, List.getElem?_cons_succ, List.getElem?_cons_zero]; rfl) (by kernel_rfl) (by kernel_rfl) (by kernel_rfl) (by exact fun _ _ _ h => h) (Or.inl ⟨by rfl, ?_⟩) hOn ?_
                rotate_left
                focus (intro W hSW; go_simp; try with_reducible rfl)
                try simp only [Act.put, List.setIfInBounds_toArray, List.set_cons_zero, List.set_cons_succ]
                refine wpAnyH_ready (rs := [0, 6]) (by kernel_rfl) (by simp) ?_
                refine AllReadyH.cons (by simp only [List.getElem?_toArray, List.getElem?_cons_zero]; rfl) (fun K hK => ?_) ?_
                · have own0 := Lib.hid (OwnI.made0 wd wd.heap.size (Nat.le_refl _))
                  go_simp
                  try go_wp2_with fail
                  refine hK.out _ _ (Grown.alloc hOn _) (fun hNext => ?_)
                  clear hK K hOn
                  have hOn := hNext
                  clear hNext
                  try simp only [Act.put, List.setIfInBounds_toArray, List.set_cons_zero, List.set_cons_succ]
                  refine wpAnyH_ready (rs := [4, 6]) (by kernel_rfl) (by simp) ?_
                  refine AllReadyH.cons (by simp only [List.getElem?_toArray, List.getElem?_cons_succ, List.getElem?_cons_zero]; rfl) (fun K hK => ?_) ?_
                  · have hs1 := Lib.hid ((hsrc.out.take n).below hOn)
                    rw [if_pos (by rfl)]
                    refine opI_app (.tmp 35) (.tmp 38) rfl wd.heap.size _ _ rfl own0 _ _ (out.take n) _ rfl hm1 hs1 (by first | exact hlt1.out | exact hlt2.out | simp) (by omega) (by first | exact Nat.le_refl _ | (have := hOn.size; have := hwz.out; omega) | simp | (simp; omega)) ?_
                    intro v1 w1 ho1 hb1 hg1
                    have hG := Below.trans hOn ((hb1.out).mono (by have := hwz.out; omega))
                    refine hK.out _ _ hG (fun hNext => ?_)
                    clear hG
                    clear hK K hOn
                    have hOn := hNext
                    clear hNext
                    try simp only [Act.put, List.setIfInBounds_toArray, List.set_cons_zero, List.set_cons_succ]
                    refine wpAnyH_ready (rs := [6]) (by kernel_rfl) (by simp) ?_
                    refine AllReadyH.cons (by simp only [List.getElem?_toArray, List.getElem?_cons_succ, List.getElem?_cons_zero]; rfl) (fun K hK => ?_) AllReadyH.nil
                    have own1 := Lib.hid (OwnI.below ho1.out ((Below.refl w1.heap.size w1).alloc (Nat.le_refl _) (.cells #[.int .i64 x] 3)) (Nat.le_refl _))
                    have box := Lib.hid (srcI_lit w1 3 [x] #[.int .i64 x] rfl (by simp))
                    go_simp
                    try go_wp2_with fail
                    refine hK.out _ _ (Grown.alloc hOn _) (fun hNext => ?_)
                    clear hK K hOn
                    have hOn := hNext
                    clear hNext
                    try simp only [Act.put, List.setIfInBounds_toArray, List.set_cons_zero, List.set_cons_succ]
                    refine wpAnyH_ready (rs := [7]) (by kernel_rfl) (by simp) ?_
                    refine AllReadyH.cons (by simp only [List.getElem?_toArray, List.getElem?_cons_succ, List.getElem?_cons_zero]; rfl) (fun K hK => ?_) AllReadyH.nil
                    rw [if_pos (by rfl)]
                    refine opI_app (.tmp 39) (.tmp 41) rfl wd.heap.size _ _ rfl own1 _ _ [x] _ rfl hm2 box (by first | exact hlt1.out | exact hlt2.out | simp) (by omega) (by first | exact Nat.le_refl _ | (have := hOn.size; have := hwz.out; omega) | simp | (simp; omega)) ?_
                    intro v2 w2 ho2 hb2 hg2
                    have hG := Below.trans hOn ((hb2.out).mono (by have := hwz.out; omega))
                    refine hK.out _ _ hG (fun hNext => ?_)
                    clear hG
                    clear hK K hOn
                    have hOn := hNext
                    clear hNext
                    try simp only [Act.put, List.setIfInBounds_toArray, List.set_cons_zero, List.set_cons_succ]
                    refine wpAnyH_ready (rs := [11]) (by kernel_rfl) (by simp) ?_
                    refine AllReadyH.cons (by simp only [List.getElem?_toArray, List.getElem?_cons_succ, List.getElem?_cons_zero]; rfl) (fun K hK => ?_) AllReadyH.nil
                    have hs3 := Lib.hid ((hsrc.out.dropIn n).below hOn)
                    rw [if_pos (by rfl)]
                    refine opI_app (.tmp 42) (.tmp 45) rfl wd.heap.size _ _ rfl ho2 _ _ (out.drop n) _ rfl hm3 hs3 (by first | exact hlt1.out | exact hlt2.out | simp) (by omega) (by first | exact Nat.le_refl _ | (have := hOn.size; have := hwz.out; omega) | simp | (simp; omega)) ?_
                    intro v3 w3 ho3 hb3 hg3
                    have hG := Below.trans hOn ((hb3.out).mono (by have := hwz.out; omega))
                    refine hK.out _ _ hG (fun hNext => ?_)
                    clear hG
                    clear hK K hOn
                    have hOn := hNext
                    clear hNext
                    try simp only [Act.put, List.setIfInBounds_toArray, List.set_cons_zero, List.set_cons_succ]
                    refine wpAnyH_take (i := 12) (v := ?_) (by simp only [List.getElem?_toArray, List.getElem?_cons_succ, List.getElem?_cons_zero]; rfl) (by kernel_rfl) (by kernel_rfl) (by kernel_rfl) (by exact fun _ _ _ h => h) (Or.inl ⟨by rfl, ?_⟩) hOn ?_
                    rotate_left
                    focus (intro W hSW; go_simp; try with_reducible rfl)
                    try simp only [Act.put, List.setIfInBounds_toArray, List.set_cons_zero, List.set_cons_succ]
                    refine wpAnyH_done (by kernel_rfl) ?_ _
                    go_wp2_with fail
                    go_roundw
                    case rel => exact ⟨k + 1, by omega, by go_num, by rw [hst2.out]; exact ho3.out.mono (by have := hsz0.out; have := hwz.out; omega), by rw [hst2.out]; exact ho3.out.form hne.out, hbel.out.trans (hOn.mono hsz0.out)⟩
                    case measure => simp [intOf]; omega
                  refine AllReadyH.cons (by simp only [List.getElem?_toArray, List.getElem?_cons_succ, List.getElem?_cons_zero]; rfl) (fun K hK => ?_) AllReadyH.nil
                  have box : Hid (SrcI ((wd.alloc (.cells #[] 3)).alloc (.cells #[.int .i64 x] 3)) (some ⟨wd.heap.size + 1, 0, none⟩) 1 [x]) := Lib.hid (by have := srcI_lit (wd.alloc (.cells #[] 3)) 3 [x] #[.int .i64 x] rfl (by simp); simpa using this)
                  have own1 := Lib.hid (World.ownsRow.alloc own0.out (.cells #[.int .i64 x] 3))
                  go_simp
                  try go_wp2_with fail
                  refine hK.out _ _ (Grown.alloc hOn _) (fun hNext => ?_)
                  clear hK K hOn
                  have hOn := hNext
                  clear hNext
                  try simp only [Act.put, List.setIfInBounds_toArray, List.set_cons_zero, List.set_cons_succ]
                  refine wpAnyH_ready (rs := [4]) (by kernel_rfl) (by simp) ?_
                  refine AllReadyH.cons (by simp only [List.getElem?_toArray, List.getElem?_cons_succ, List.getElem?_cons_zero]; rfl) (fun K hK => ?_) AllReadyH.nil
                  have hs1 := Lib.hid ((hsrc.out.take n).below hOn)
                  rw [if_pos (by rfl)]
                  refine opI_app (.tmp 35) (.tmp 38) rfl wd.heap.size _ _ rfl own1 _ _ (out.take n) _ rfl hm1 hs1 (by first | exact hlt1.out | exact hlt2.out | simp) (by omega) (by first | exact Nat.le_refl _ | (have := hOn.size; have := hwz.out; omega) | simp | (simp; omega)) ?_
                  intro v1 w1 ho1 hb1 hg1
                  have hG := Below.trans hOn ((hb1.out).mono (by have := hwz.out; omega))
                  refine hK.out _ _ hG (fun hNext => ?_)
                  clear hG
                  clear hK K hOn
                  have hOn := hNext
                  clear hNext
                  try simp only [Act.put, List.setIfInBounds_toArray, List.set_cons_zero, List.set_cons_succ]
                  have hgk : Hid (World.grownBy _ w1 (some wd.heap.size)) := hg1
                  have boxk := Lib.hid (box.out.kept hgk.out (by simp))
                  refine wpAnyH_ready (rs := [7]) (by kernel_rfl) (by simp) ?_
                  refine AllReadyH.cons (by simp only [List.getElem?_toArray, List.getElem?_cons_succ, List.getElem?_cons_zero]; rfl) (fun K hK => ?_) AllReadyH.nil
                  rw [if_pos (by rfl)]
                  refine opI_app (.tmp 39) (.tmp 41) rfl wd.heap.size _ _ rfl ho1 _ _ [x] _ rfl hm2 boxk (by first | exact hlt1.out | exact hlt2.out | simp) (by omega) (by first | exact Nat.le_refl _ | (have := hOn.size; have := hwz.out; omega) | simp | (simp; omega)) ?_
                  intro v2 w2 ho2 hb2 hg2
                  have hG := Below.trans hOn ((hb2.out).mono (by have := hwz.out; omega))
                  refine hK.out _ _ hG (fun hNext => ?_)
                  clear hG
                  clear hK K hOn
                  have hOn := hNext
                  clear hNext
                  try simp only [Act.put, List.setIfInBounds_toArray, List.set_cons_zero, List.set_cons_succ]
                  refine wpAnyH_ready (rs := [11]) (by kernel_rfl) (by simp) ?_
                  refine AllReadyH.cons (by simp only [List.getElem?_toArray, List.getElem?_cons_succ, List.getElem?_cons_zero]; rfl) (fun K hK => ?_) AllReadyH.nil
                  have hs3 := Lib.hid ((hsrc.out.dropIn n).below hOn)
                  rw [if_pos (by rfl)]
                  refine opI_app (.tmp 42) (.tmp 45) rfl wd.heap.size _ _ rfl ho2 _ _ (out.drop n) _ rfl hm3 hs3 (by first | exact hlt1.out | exact hlt2.out | simp) (by omega) (by first | exact Nat.le_refl _ | (have := hOn.size; have := hwz.out; omega) | simp | (simp; omega)) ?_
                  intro v3 w3 ho3 hb3 hg3
                  have hG := Below.trans hOn ((hb3.out).mono (by have := hwz.out; omega))
                  refine hK.out _ _ hG (fun hNext => ?_)
                  clear hG
                  clear hK K hOn
                  have hOn := hNext
                  clear hNext
                  try simp only [Act.put, List.setIfInBounds_toArray, List.set_cons_zero, List.set_cons_succ]
                  refine wpAnyH_take (i := 12) (v := ?_) (by simp only [List.getElem?_toArray, List.getElem?_cons_succ, List.getElem?_cons_zero]; rfl) (by kernel_rfl) (by kernel_rfl) (by kernel_rfl) (by exact fun _ _ _ h => h) (Or.inl ⟨by rfl, ?_⟩) hOn ?_
                  rotate_left
                  focus (intro W hSW; go_simp; try with_reducible rfl)
                  try simp only [Act.put, List.setIfInBounds_toArray, List.set_cons_zero, List.set_cons_succ]
                  refine wpAnyH_done (by kernel_rfl) ?_ _
                  go_wp2_with fail
                  go_roundw
                  case rel => exact ⟨k + 1, by omega, by go_num, by rw [hst2.out]; exact ho3.out.mono (by have := hsz0.out; have := hwz.out; omega), by rw [hst2.out]; exact ho3.out.form hne.out, hbel.out.trans (hOn.mono hsz0.out)⟩
                  case measure => simp [intOf]; omega
                refine AllReadyH.cons (by simp only [List.getElem?_toArray, List.getElem?_cons_succ, List.getElem?_cons_zero]; rfl) (fun K hK => ?_) AllReadyH.nil
                have box := Lib.hid (srcI_lit wd 3 [x] #[.int .i64 x] rfl (by simp))
                have own0 : Hid (OwnI (wd.heap.size + 1) ((wd.alloc (.cells #[.int .i64 x] 3)).alloc (.cells #[] 3)) (.slice (some ⟨wd.heap.size + 1, 0, none⟩) 0 0) []) := Lib.hid (by have := OwnI.made0 (wd.alloc (.cells #[.int .i64 x] 3)) (wd.heap.size + 1) (by simp); simpa using this)
                go_simp
                try go_wp2_with fail
                refine hK.out _ _ (Grown.alloc hOn _) (fun hNext => ?_)
                clear hK K hOn
                have hOn := hNext
                clear hNext
                try simp only [Act.put, List.setIfInBounds_toArray, List.set_cons_zero, List.set_cons_succ]
                refine wpAnyH_ready (rs := [0]) (by kernel_rfl) (by simp) ?_
                refine AllReadyH.cons (by simp only [List.getElem?_toArray, List.getElem?_cons_zero]; rfl) (fun K hK => ?_) AllReadyH.nil
                replace box := Lib.hid (box.out.below (Grown.alloc (Grown.refl _) (.cells #[] 3)))
                go_simp
                try go_wp2_with fail
                refine hK.out _ _ (Grown.alloc hOn _) (fun hNext => ?_)
                clear hK K hOn
                have hOn := hNext
                clear hNext
                try simp only [Act.put, List.setIfInBounds_toArray, List.set_cons_zero, List.set_cons_succ]
                refine wpAnyH_ready (rs := [4]) (by kernel_rfl) (by simp) ?_
                refine AllReadyH.cons (by simp only [List.getElem?_toArray, List.getElem?_cons_succ, List.getElem?_cons_zero]; rfl) (fun K hK => ?_) AllReadyH.nil
                have hs1 := Lib.hid ((hsrc.out.take n).below hOn)
                rw [if_pos (by rfl)]
                refine opI_app (.tmp 35) (.tmp 38) rfl (wd.heap.size + 1) _ _ rfl own0 _ _ (out.take n) _ rfl hm1 hs1 (by first | exact hlt1.out | exact hlt2.out | simp) (by omega) (by first | exact Nat.le_refl _ | (have := hOn.size; have := hwz.out; omega) | simp | (simp; omega)) ?_
                intro v1 w1 ho1 hb1 hg1
                have hG := Below.trans hOn ((hb1.out).mono (by have := hwz.out; omega))
                refine hK.out _ _ hG (fun hNext => ?_)
                clear hG
                clear hK K hOn
                have hOn := hNext
                clear hNext
                try simp only [Act.put, List.setIfInBounds_toArray, List.set_cons_zero, List.set_cons_succ]
                have hgk : Hid (World.grownBy _ w1 (some (wd.heap.size + 1))) := hg1
                have boxk := Lib.hid (box.out.kept hgk.out (by simp))
                replace ho1 := Lib.hid (ho1.out.mono (Nat.le_succ wd.heap.size))
                refine wpAnyH_ready (rs := [7]) (by kernel_rfl) (by simp) ?_
                refine AllReadyH.cons (by simp only [List.getElem?_toArray, List.getElem?_cons_succ, List.getElem?_cons_zero]; rfl) (fun K hK => ?_) AllReadyH.nil
                rw [if_pos (by rfl)]
                refine opI_app (.tmp 39) (.tmp 41) rfl wd.heap.size _ _ rfl ho1 _ _ [x] _ rfl hm2 boxk (by first | exact hlt1.out | exact hlt2.out | simp) (by omega) (by first | exact Nat.le_refl _ | (have := hOn.size; have := hwz.out; omega) | simp | (simp; omega)) ?_
                intro v2 w2 ho2 hb2 hg2
                have hG := Below.trans hOn ((hb2.out).mono (by have := hwz.out; omega))
                refine hK.out _ _ hG (fun hNext => ?_)
                clear hG
                clear hK K hOn
                have hOn := hNext
                clear hNext
                try simp only [Act.put, List.setIfInBounds_toArray, List.set_cons_zero, List.set_cons_succ]
                refine wpAnyH_ready (rs := [11]) (by kernel_rfl) (by simp) ?_
                refine AllReadyH.cons (by simp only [List.getElem?_toArray, List.getElem?_cons_succ, List.getElem?_cons_zero]; rfl) (fun K hK => ?_) AllReadyH.nil
                have hs3 := Lib.hid ((hsrc.out.dropIn n).below hOn)
                rw [if_pos (by rfl)]
                refine opI_app (.tmp 42) (.tmp 45) rfl wd.heap.size _ _ rfl ho2 _ _ (out.drop n) _ rfl hm3 hs3 (by first | exact hlt1.out | exact hlt2.out | simp) (by omega) (by first | exact Nat.le_refl _ | (have := hOn.size; have := hwz.out; omega) | simp | (simp; omega)) ?_
                intro v3 w3 ho3 hb3 hg3
                have hG := Below.trans hOn ((hb3.out).mono (by have := hwz.out; omega))
                refine hK.out _ _ hG (fun hNext => ?_)
                clear hG
                clear hK K hOn
                have hOn := hNext
                clear hNext
                try simp only [Act.put, List.setIfInBounds_toArray, List.set_cons_zero, List.set_cons_succ]
                refine wpAnyH_take (i := 12) (v := ?_) (by simp only [List.getElem?_toArray, List.getElem?_cons_succ, List.getElem?_cons_zero]; rfl) (by kernel_rfl) (by kernel_rfl) (by kernel_rfl) (by exact fun _ _ _ h => h) (Or.inl ⟨by rfl, ?_⟩) hOn ?_
                rotate_left
                focus (intro W hSW; go_simp; try with_reducible rfl)
                try simp only [Act.put, List.setIfInBounds_toArray, List.set_cons_zero, List.set_cons_succ]
                refine wpAnyH_done (by kernel_rfl) ?_ _
                go_wp2_with fail
                go_roundw
                case rel => exact ⟨k + 1, by omega, by go_num, by rw [hst2.out]; exact ho3.out.mono (by have := hsz0.out; have := hwz.out; omega), by rw [hst2.out]; exact ho3.out.form hne.out, hbel.out.trans (hOn.mono hsz0.out)⟩
                case measure => simp [intOf]; omega
              · obtain rfl : n = cap := by omega
                replace hm3 := Lib.hid (show (out.drop n).length = 0 from by simp; omega)
                go_wp2_with fail
                refine wp_region_on (by kernel_rfl) (fun hOn => ?_)
                obtain ⟨wd, hwd⟩ : ∃ wd, wd = wr'.drew := ⟨_, rfl⟩
                rw [← hwd] at hOn ⊢
                have hwz := Lib.hid (show wd.heap.size = wr'.heap.size from by rw [hwd]; rfl)
                clear hwd
                refine wpAnyH_take (i := 1) (v := ?_) (by simp only [List.getElem?_toArray, List.getElem?_cons_succ, List.getElem?_cons_zero]; rfl) (by kernel_rfl) (by kernel_rfl) (by kernel_rfl) (by exact fun _ _ _ h => h) (Or.inl ⟨by rfl, ?_⟩) hOn ?_
                rotate_left
                focus (intro W hSW; go_simp; try with_reducible rfl)
                try simp only [Act.put, List.setIfInBounds_toArray, List.set_cons_zero, List.set_cons_succ]
                refine wpAnyH_take (i := 2) (v := ?_) (by simp only [List.getElem?_toArray, List.getElem?_cons_succ, List.getElem?_cons_zero]; rfl) (by kernel_rfl) (by kernel_rfl) (by kernel_rfl) (by exact fun _ _ _ h => h) (Or.inl ⟨by rfl, ?_⟩) hOn ?_
                rotate_left
                focus (intro W hSW; go_simp; try with_reducible rfl)
                try simp only [Act.put, List.setIfInBounds_toArray, List.set_cons_zero, List.set_cons_succ]
                refine wpAnyH_take (i := 3) (v := ?_) (by simp only [List.getElem?_toArray, List.getElem?_cons_succ, List.getElem?_cons_zero]; rfl) (by kernel_rfl) (by kernel_rfl) (by kernel_rfl) (by exact fun _ _ _ h => h) (Or.inl ⟨by rfl, ?_⟩) hOn ?_
                rotate_left
                focus (intro W hSW; go_simp; try with_reducible rfl)
                try simp only [Act.put, List.setIfInBounds_toArray, List.set_cons_zero, List.set_cons_succ]
                refine wpAnyH_take (i := 5) (v := ?_) (by simp only [List.getElem?_toArray, List.getElem?_cons_succ, List.getElem?_cons_zero]; rfl) (by kernel_rfl) (by kernel_rfl) (by kernel_rfl) (by exact fun _ _ _ h => h) (Or.inl ⟨by rfl, ?_⟩) hOn ?_
                rotate_left
                focus (intro W hSW; go_simp; try with_reducible rfl)
                try simp only [Act.put, List.setIfInBounds_toArray, List.set_cons_zero, List.set_cons_succ]
                refine wpAnyH_take (i := 8) (v := ?_) (by simp only [List.getElem?_toArray, List.getElem?_cons_succ, List.getElem?_cons_zero]; rfl) (by kernel_rfl) (by kernel_rfl) (by kernel_rfl) (by exact fun _ _ _ h => h) (Or.inl ⟨by rfl, ?_⟩) hOn ?_
                rotate_left
                focus (intro W hSW; go_simp; try with_reducible rfl)
                try simp only [Act.put, List.setIfInBounds_toArray, List.set_cons_zero, List.set_cons_succ]
                refine wpAnyH_take (i := 9) (v := ?_) (by simp only [List.getElem?_toArray, List.getElem?_cons_succ, List.getElem?_cons_zero]; rfl) (by kernel_rfl) (by kernel_rfl) (by kernel_rfl) (by exact fun _ _ _ h => h) (Or.inl ⟨by rfl, ?_⟩) hOn ?_
                rotate_left
                focus (intro W hSW; go_simp; try with_reducible rfl)
                try simp only [Act.put, List.setIfInBounds_toArray, List.set_cons_zero, List.set_cons_succ]
                refine wpAnyH_take (i := 10) (v := ?_) (by simp only [List.getElem?_toArray, List.getElem?_cons_succ, List.getElem?_cons_zero]; rfl) (by kernel_rfl) (by kernel_rfl) (by kernel_rfl) (by exact fun _ _ _ h => h) (Or.inl ⟨by rfl, ?_⟩) hOn ?_
                rotate_left
                focus (intro W hSW; go_simp; try with_reducible rfl)
                try simp only [Act.put, List.setIfInBounds_toArray, List.set_cons_zero, List.set_cons_succ]
                refine wpAnyH_ready (rs := [0, 6]) (by kernel_rfl) (by simp) ?_
                refine AllReadyH.cons (by simp only [List.getElem?_toArray, List.getElem?_cons_zero]; rfl) (fun K hK => ?_) ?_
                · have own0 := Lib.hid (OwnI.made0 wd wd.heap.size (Nat.le_refl _))
                  go_simp
                  try go_wp2_with fail
                  refine hK.out _ _ (Grown.alloc hOn _) (fun hNext => ?_)
                  clear hK K hOn
                  have hOn := hNext
                  clear hNext
                  try simp only [Act.put, List.setIfInBounds_toArray, List.set_cons_zero, List.set_cons_succ]
                  refine wpAnyH_ready (rs := [4, 6]) (by kernel_rfl) (by simp) ?_
                  refine AllReadyH.cons (by simp only [List.getElem?_toArray, List.getElem?_cons_succ, List.getElem?_cons_zero]; rfl) (fun K hK => ?_) ?_
                  · have hs1 := Lib.hid ((hsrc.out.take n).below hOn)
                    rw [if_pos (by rfl)]
                    refine opI_app (.tmp 35) (.tmp 38) rfl wd.heap.size _ _ rfl own0 _ _ (out.take n) _ rfl hm1 hs1 (by first | exact hlt1.out | exact hlt2.out | simp) (by omega) (by first | exact Nat.le_refl _ | (have := hOn.size; have := hwz.out; omega) | simp | (simp; omega)) ?_
                    intro v1 w1 ho1 hb1 hg1
                    have hG := Below.trans hOn ((hb1.out).mono (by have := hwz.out; omega))
                    refine hK.out _ _ hG (fun hNext => ?_)
                    clear hG
                    clear hK K hOn
                    have hOn := hNext
                    clear hNext
                    try simp only [Act.put, List.setIfInBounds_toArray, List.set_cons_zero, List.set_cons_succ]
                    refine wpAnyH_ready (rs := [6]) (by kernel_rfl) (by simp) ?_
                    refine AllReadyH.cons (by simp only [List.getElem?_toArray, List.getElem?_cons_succ, List.getElem?_cons_zero]; rfl) (fun K hK => ?_) AllReadyH.nil
                    have own1 := Lib.hid (OwnI.below ho1.out ((Below.refl w1.heap.size w1).alloc (Nat.le_refl _) (.cells #[.int .i64 x] 3)) (Nat.le_refl _))
                    have box := Lib.hid (srcI_lit w1 3 [x] #[.int .i64 x] rfl (by simp))
                    go_simp
                    try go_wp2_with fail
                    refine hK.out _ _ (Grown.alloc hOn _) (fun hNext => ?_)
                    clear hK K hOn
                    have hOn := hNext
                    clear hNext
                    try simp only [Act.put, List.setIfInBounds_toArray, List.set_cons_zero, List.set_cons_succ]
                    refine wpAnyH_ready (rs := [7]) (by kernel_rfl) (by simp) ?_
                    refine AllReadyH.cons (by simp only [List.getElem?_toArray, List.getElem?_cons_succ, List.getElem?_cons_zero]; rfl) (fun K hK => ?_) AllReadyH.nil
                    rw [if_pos (by rfl)]
                    refine opI_app (.tmp 39) (.tmp 41) rfl wd.heap.size _ _ rfl own1 _ _ [x] _ rfl hm2 box (by first | exact hlt1.out | exact hlt2.out | simp) (by omega) (by first | exact Nat.le_refl _ | (have := hOn.size; have := hwz.out; omega) | simp | (simp; omega)) ?_
                    intro v2 w2 ho2 hb2 hg2
                    have hG := Below.trans hOn ((hb2.out).mono (by have := hwz.out; omega))
                    refine hK.out _ _ hG (fun hNext => ?_)
                    clear hG
                    clear hK K hOn
                    have hOn := hNext
                    clear hNext
                    try simp only [Act.put, List.setIfInBounds_toArray, List.set_cons_zero, List.set_cons_succ]
                    refine wpAnyH_ready (rs := [11]) (by kernel_rfl) (by simp) ?_
                    refine AllReadyH.cons (by simp only [List.getElem?_toArray, List.getElem?_cons_succ, List.getElem?_cons_zero]; rfl) (fun K hK => ?_) AllReadyH.nil
                    have hs3 := Lib.hid ((hsrc.out.dropEnd).below hOn)
                    rw [if_pos (by rfl)]
                    refine opI_app (.tmp 42) (.tmp 45) rfl wd.heap.size _ _ rfl ho2 _ _ (out.drop n) _ rfl hm3 hs3 (by first | exact hlt1.out | exact hlt2.out | simp) (by omega) (by first | exact Nat.le_refl _ | (have := hOn.size; have := hwz.out; omega) | simp | (simp; omega)) ?_
                    intro v3 w3 ho3 hb3 hg3
                    have hG := Below.trans hOn ((hb3.out).mono (by have := hwz.out; omega))
                    refine hK.out _ _ hG (fun hNext => ?_)
                    clear hG
                    clear hK K hOn
                    have hOn := hNext
                    clear hNext
                    try simp only [Act.put, List.setIfInBounds_toArray, List.set_cons_zero, List.set_cons_succ]
                    refine wpAnyH_take (i := 12) (v := ?_) (by simp only [List.getElem?_toArray, List.getElem?_cons_succ, List.getElem?_cons_zero]; rfl) (by kernel_rfl) (by kernel_rfl) (by kernel_rfl) (by exact fun _ _ _ h => h) (Or.inl ⟨by rfl, ?_⟩) hOn ?_
                    rotate_left
                    focus (intro W hSW; go_simp; try with_reducible rfl)
                    try simp only [Act.put, List.setIfInBounds_toArray, List.set_cons_zero, List.set_cons_succ]
                    refine wpAnyH_done (by kernel_rfl) ?_ _
                    go_wp2_with fail
                    go_roundw
                    case rel => exact ⟨k + 1, by omega, by go_num, by rw [hst2.out]; exact ho3.out.mono (by have := hsz0.out; have := hwz.out; omega), by rw [hst2.out]; exact ho3.out.form hne.out, hbel.out.trans (hOn.mono hsz0.out)⟩
                    case measure => simp [intOf]; omega
                  refine AllReadyH.cons (by simp only [List.getElem?_toArray, List.getElem?_cons_succ, List.getElem?_cons_zero]; rfl) (fun K hK => ?_) AllReadyH.nil
                  have box : Hid (SrcI ((wd.alloc (.cells #[] 3)).alloc (.cells #[.int .i64 x] 3)) (some ⟨wd.heap.size + 1, 0, none⟩) 1 [x]) := Lib.hid (by have := srcI_lit (wd.alloc (.cells #[] 3)) 3 [x] #[.int .i64 x] rfl (by simp); simpa using this)
                  have own1 := Lib.hid (World.ownsRow.alloc own0.out (.cells #[.int .i64 x] 3))
                  go_simp
                  try go_wp2_with fail
                  refine hK.out _ _ (Grown.alloc hOn _) (fun hNext => ?_)
                  clear hK K hOn
                  have hOn := hNext
                  clear hNext
                  try simp only [Act.put, List.setIfInBounds_toArray, List.set_cons_zero, List.set_cons_succ]
                  refine wpAnyH_ready (rs := [4]) (by kernel_rfl) (by simp) ?_
                  refine AllReadyH.cons (by simp only [List.getElem?_toArray, List.getElem?_cons_succ, List.getElem?_cons_zero]; rfl) (fun K hK => ?_) AllReadyH.nil
                  have hs1 := Lib.hid ((hsrc.out.take n).below hOn)
                  rw [if_pos (by rfl)]
                  refine opI_app (.tmp 35) (.tmp 38) rfl wd.heap.size _ _ rfl own1 _ _ (out.take n) _ rfl hm1 hs1 (by first | exact hlt1.out | exact hlt2.out | simp) (by omega) (by first | exact Nat.le_refl _ | (have := hOn.size; have := hwz.out; omega) | simp | (simp; omega)) ?_
                  intro v1 w1 ho1 hb1 hg1
                  have hG := Below.trans hOn ((hb1.out).mono (by have := hwz.out; omega))
                  refine hK.out _ _ hG (fun hNext => ?_)
                  clear hG
                  clear hK K hOn
                  have hOn := hNext
                  clear hNext
                  try simp only [Act.put, List.setIfInBounds_toArray, List.set_cons_zero, List.set_cons_succ]
                  have hgk : Hid (World.grownBy _ w1 (some wd.heap.size)) := hg1
                  have boxk := Lib.hid (box.out.kept hgk.out (by simp))
                  refine wpAnyH_ready (rs := [7]) (by kernel_rfl) (by simp) ?_
                  refine AllReadyH.cons (by simp only [List.getElem?_toArray, List.getElem?_cons_succ, List.getElem?_cons_zero]; rfl) (fun K hK => ?_) AllReadyH.nil
                  rw [if_pos (by rfl)]
                  refine opI_app (.tmp 39) (.tmp 41) rfl wd.heap.size _ _ rfl ho1 _ _ [x] _ rfl hm2 boxk (by first | exact hlt1.out | exact hlt2.out | simp) (by omega) (by first | exact Nat.le_refl _ | (have := hOn.size; have := hwz.out; omega) | simp | (simp; omega)) ?_
                  intro v2 w2 ho2 hb2 hg2
                  have hG := Below.trans hOn ((hb2.out).mono (by have := hwz.out; omega))
                  refine hK.out _ _ hG (fun hNext => ?_)
                  clear hG
                  clear hK K hOn
                  have hOn := hNext
                  clear hNext
                  try simp only [Act.put, List.setIfInBounds_toArray, List.set_cons_zero, List.set_cons_succ]
                  refine wpAnyH_ready (rs := [11]) (by kernel_rfl) (by simp) ?_
                  refine AllReadyH.cons (by simp only [List.getElem?_toArray, List.getElem?_cons_succ, List.getElem?_cons_zero]; rfl) (fun K hK => ?_) AllReadyH.nil
                  have hs3 := Lib.hid ((hsrc.out.dropEnd).below hOn)
                  rw [if_pos (by rfl)]
                  refine opI_app (.tmp 42) (.tmp 45) rfl wd.heap.size _ _ rfl ho2 _ _ (out.drop n) _ rfl hm3 hs3 (by first | exact hlt1.out | exact hlt2.out | simp) (by omega) (by first | exact Nat.le_refl _ | (have := hOn.size; have := hwz.out; omega) | simp | (simp; omega)) ?_
                  intro v3 w3 ho3 hb3 hg3
                  have hG := Below.trans hOn ((hb3.out).mono (by have := hwz.out; omega))
                  refine hK.out _ _ hG (fun hNext => ?_)
                  clear hG
                  clear hK K hOn
                  have hOn := hNext
                  clear hNext
                  try simp only [Act.put, List.setIfInBounds_toArray, List.set_cons_zero, List.set_cons_succ]
                  refine wpAnyH_take (i := 12) (v := ?_) (by simp only [List.getElem?_toArray, List.getElem?_cons_succ, List.getElem?_cons_zero]; rfl) (by kernel_rfl) (by kernel_rfl) (by kernel_rfl) (by exact fun _ _ _ h => h) (Or.inl ⟨by rfl, ?_⟩) hOn ?_
                  rotate_left
                  focus (intro W hSW; go_simp; try with_reducible rfl)
                  try simp only [Act.put, List.setIfInBounds_toArray, List.set_cons_zero, List.set_cons_succ]
                  refine wpAnyH_done (by kernel_rfl) ?_ _
                  go_wp2_with fail
                  go_roundw
                  case rel => exact ⟨k + 1, by omega, by go_num, by rw [hst2.out]; exact ho3.out.mono (by have := hsz0.out; have := hwz.out; omega), by rw [hst2.out]; exact ho3.out.form hne.out, hbel.out.trans (hOn.mono hsz0.out)⟩
                  case measure => simp [intOf]; omega
                refine AllReadyH.cons (by simp only [List.getElem?_toArray, List.getElem?_cons_succ, List.getElem?_cons_zero]; rfl) (fun K hK => ?_) AllReadyH.nil
                have box := Lib.hid (srcI_lit wd 3 [x] #[.int .i64 x] rfl (by simp))
                have own0 : Hid (OwnI (wd.heap.size + 1) ((wd.alloc (.cells #[.int .i64 x] 3)).alloc (.cells #[] 3)) (.slice (some ⟨wd.heap.size + 1, 0, none⟩) 0 0) []) := Lib.hid (by have := OwnI.made0 (wd.alloc (.cells #[.int .i64 x] 3)) (wd.heap.size + 1) (by simp); simpa using this)
                go_simp
                try go_wp2_with fail
                refine hK.out _ _ (Grown.alloc hOn _) (fun hNext => ?_)
                clear hK K hOn
                have hOn := hNext
                clear hNext
                try simp only [Act.put, List.setIfInBounds_toArray, List.set_cons_zero, List.set_cons_succ]
                refine wpAnyH_ready (rs := [0]) (by kernel_rfl) (by simp) ?_
                refine AllReadyH.cons (by simp only [List.getElem?_toArray, List.getElem?_cons_zero]; rfl) (fun K hK => ?_) AllReadyH.nil
                replace box := Lib.hid (box.out.below (Grown.alloc (Grown.refl _) (.cells #[] 3)))
                go_simp
                try go_wp2_with fail
                refine hK.out _ _ (Grown.alloc hOn _) (fun hNext => ?_)
                clear hK K hOn
                have hOn := hNext
                clear hNext
                try simp only [Act.put, List.setIfInBounds_toArray, List.set_cons_zero, List.set_cons_succ]
                refine wpAnyH_ready (rs := [4]) (by kernel_rfl) (by simp) ?_
                refine AllReadyH.cons (by simp only [List.getElem?_toArray, List.getElem?_cons_succ, List.getElem?_cons_zero]; rfl) (fun K hK => ?_) AllReadyH.nil
                have hs1 := Lib.hid ((hsrc.out.take n).below hOn)
                rw [if_pos (by rfl)]
                refine opI_app (.tmp 35) (.tmp 38) rfl (wd.heap.size + 1) _ _ rfl own0 _ _ (out.take n) _ rfl hm1 hs1 (by first | exact hlt1.out | exact hlt2.out | simp) (by omega) (by first | exact Nat.le_refl _ | (have := hOn.size; have := hwz.out; omega) | simp | (simp; omega)) ?_
                intro v1 w1 ho1 hb1 hg1
                have hG := Below.trans hOn ((hb1.out).mono (by have := hwz.out; omega))
                refine hK.out _ _ hG (fun hNext => ?_)
                clear hG
                clear hK K hOn
                have hOn := hNext
                clear hNext
                try simp only [Act.put, List.setIfInBounds_toArray, List.set_cons_zero, List.set_cons_succ]
                have hgk : Hid (World.grownBy _ w1 (some (wd.heap.size + 1))) := hg1
                have boxk := Lib.hid (box.out.kept hgk.out (by simp))
                replace ho1 := Lib.hid (ho1.out.mono (Nat.le_succ wd.heap.size))
                refine wpAnyH_ready (rs := [7]) (by kernel_rfl) (by simp) ?_
                refine AllReadyH.cons (by simp only [List.getElem?_toArray, List.getElem?_cons_succ, List.getElem?_cons_zero]; rfl) (fun K hK => ?_) AllReadyH.nil
                rw [if_pos (by rfl)]
                refine opI_app (.tmp 39) (.tmp 41) rfl wd.heap.size _ _ rfl ho1 _ _ [x] _ rfl hm2 boxk (by first | exact hlt1.out | exact hlt2.out | simp) (by omega) (by first | exact Nat.le_refl _ | (have := hOn.size; have := hwz.out; omega) | simp | (simp; omega)) ?_
                intro v2 w2 ho2 hb2 hg2
                have hG := Below.trans hOn ((hb2.out).mono (by have := hwz.out; omega))
                refine hK.out _ _ hG (fun hNext => ?_)
                clear hG
                clear hK K hOn
                have hOn := hNext
                clear hNext
                try simp only [Act.put, List.setIfInBounds_toArray, List.set_cons_zero, List.set_cons_succ]
                refine wpAnyH_ready (rs := [11]) (by kernel_rfl) (by simp) ?_
                refine AllReadyH.cons (by simp only [List.getElem?_toArray, List.getElem?_cons_succ, List.getElem?_cons_zero]; rfl) (fun K hK => ?_) AllReadyH.nil
                have hs3 := Lib.hid ((hsrc.out.dropEnd).below hOn)
                rw [if_pos (by rfl)]
                refine opI_app (.tmp 42) (.tmp 45) rfl wd.heap.size _ _ rfl ho2 _ _ (out.drop n) _ rfl hm3 hs3 (by first | exact hlt1.out | exact hlt2.out | simp) (by omega) (by first | exact Nat.le_refl _ | (have := hOn.size; have := hwz.out; omega) | simp | (simp; omega)) ?_
                intro v3 w3 ho3 hb3 hg3
                have hG := Below.trans hOn ((hb3.out).mono (by have := hwz.out; omega))
                refine hK.out _ _ hG (fun hNext => ?_)
                clear hG
                clear hK K hOn
                have hOn := hNext
                clear hNext
                try simp only [Act.put, List.setIfInBounds_toArray, List.set_cons_zero, List.set_cons_succ]
                refine wpAnyH_take (i := 12) (v := ?_) (by simp only [List.getElem?_toArray, List.getElem?_cons_succ, List.getElem?_cons_zero]; rfl) (by kernel_rfl) (by kernel_rfl) (by kernel_rfl) (by exact fun _ _ _ h => h) (Or.inl ⟨by rfl, ?_⟩) hOn ?_
                rotate_left
                focus (intro W hSW; go_simp; try with_reducible rfl)
                try simp only [Act.put, List.setIfInBounds_toArray, List.set_cons_zero, List.set_cons_succ]
                refine wpAnyH_done (by kernel_rfl) ?_ _
                go_wp2_with fail
                go_roundw
                case rel => exact ⟨k + 1, by omega, by go_num, by rw [hst2.out]; exact ho3.out.mono (by have := hsz0.out; have := hwz.out; omega), by rw [hst2.out]; exact ho3.out.form hne.out, hbel.out.trans (hOn.mono hsz0.out)⟩
                case measure => simp [intOf]; omega
          · obtain ⟨m, rfl⟩ : ∃ m, n = m + 1 := ⟨n - 1, by omega⟩
            obtain ⟨b2, o2, e2, hc2⟩ := hsrc.out.row m (by omega)
            cases e2
            rw [Nat.zero_add] at hc2
            have hx : x < out.getD m 0 := by
              apply Classical.byContradiction
              intro hx
              exact hstop (.inr ⟨by omega, by rw [Nat.add_sub_cancel]; exact hx⟩)
            have hp' := Lib.hid (show posR x out m = posR x out out.length from by
              rw [← hp]
              conv => rhs; unfold posR
              rw [if_pos hx])
            generalize out.getD m 0 = y at *
            clear hp hstop
            go_wp2_with fail
            exact ⟨⟨m, by omega, by go_num, hp'.out⟩, by simp [intOf]⟩
      · have hst := Lib.hid (show rTo all (k + 1) = out from by rw [hst.out]; simp [rStep, ho])
        rw [ho] at hcall
        replace hown := Lib.hid hown
        go_wp2_with fail
        refine hcall.out.mono ?_
        rintro e w' ⟨rfl, hdw⟩
        replace hdw := Lib.hid hdw
        go_wp2_with fail
        go_roundw
        case rel => exact ⟨k + 1, by omega, by go_num, by rw [hst.out]; exact hown.out.below (hdw.out.below wr.heap.size) (Nat.le_refl _), by rw [hst.out]; exact ⟨_, _, rfl⟩, hbel.out.trans (hdw.out.below _)⟩
        case measure => simp [intOf]; omega
    · obtain rfl : k = all.length := by omega
      rw [hall.out] at hown
      replace hown := Lib.hid hown
      replace hbel := Lib.hid hbel
      go_wp2_with fail
      go_ret
      exact ⟨_, rfl, by simpa [hall.out] using hown.out, hbel.out⟩

end Go.Proofs.Ytfagjlfnmkfjoaa
