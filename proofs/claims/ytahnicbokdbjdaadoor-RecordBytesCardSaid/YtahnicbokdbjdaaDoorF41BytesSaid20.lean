/- baileeref20.Bytes of a right record of kind 2. Printed by genrbytes.py. -/
import Derived.Test.YtahnicbokdbjdaaDoorF39BytesSaid20
import Derived.Test.YtahnicbokdbjdaaDoorF20BytesSaid20
namespace Go.Proofs.YtahnicbokdbjdaaDoor
open Go.RowKit
set_option linter.unusedVariables false

set_option maxRecDepth 100000 in
set_option maxHeartbeats 2000000 in
theorem rbytes_k2 (x : Rc) (hx : x.Ok) (hk : x.kind = 2) (hc : x.chk = 0) (w : World) : Calls Tryd.prog 11 #[.agg x.list.toArray] w (RBytesPost x w) := by
  have hs := Rc.size hx
  have hck := Lib.hid (fun W => rcheck0 x hx hc W)
  have hsz : (Tryd.prog.info? 34).map (·.size) = some x.list.toArray.size := by rw [hs]; kernel_rfl
  have hnums := (Rc.chk0 hc).2.1
  have hout : x.out = x.head ++ (numB x.id ++ ([b8 x.way] ++ ((numB x.index).drop 4 ++ numB x.tick))) := by unfold Rc.out; rw [if_neg (by omega), if_pos hk]
  have hhd : x.head = [2] ++ numB x.obj := by unfold Rc.head; rw [hk]; rfl
  have hcf := Rc.kept x hx 34
  rw [hk] at hcf
  have hlo := Lib.hid (fun W => rnum_any x.obj W hx.obj.1 hx.obj.2)
  have hlt := Lib.hid (fun W => rnum_any x.tick W hx.tick.1 hx.tick.2)
  have hli := Lib.hid (fun W => rnum_any x.id W hx.id.1 hx.id.2)
  have hno := Lib.hid (numB_length x.obj)
  have hnt := Lib.hid (numB_length x.tick)
  have hni := Lib.hid (numB_length x.id)
  have hv : 1 ≤ x.way ∧ x.way ≤ 2 := by
    unfold Rc.nums numsB at hnums
    rw [hk] at hnums
    simp [inB] at hnums
    omega
  have hwv : IntKind.u8.wrap x.way = ((b8 x.way).toNat : Int) := by rw [b8_val _ (by omega)]; rw [IntKind.wrap_u8]; omega
  have hlx := Lib.hid (fun W => rnum_any x.index W hx.index.1 hx.index.2)
  have hnxx := Lib.hid (numB_length x.index)
  have hnx : ((numB x.index).drop 4).length = 4 := by rw [List.length_drop, numB_length]
  rw [hhd] at hout
  generalize numB x.obj = NO at *
  generalize numB x.tick = NT at *
  generalize numB x.id = NI at *
  generalize b8 x.way = B1 at *
  generalize numB x.index = NX at *
  replace hnx := Lib.hid hnx
  clear hv
  clear hhd hnums hk hc
  generalize hR : x.list.toArray = R at *
  replace hR := Lib.hid hR
  replace hcf := Lib.hid hcf
  replace hout := Lib.hid hout
  have hrow := Lib.hid (heap_alloc_new w (.cells R 34))
  have hb := Lib.hid (show Below w.heap.size w (w.alloc (.cells R 34)) from (Below.refl _ _).alloc (Nat.le_refl _) _)
  have hzc := Tryd.underlying34
  generalize x.obj = vo at *
  generalize x.tick = vt at *
  generalize x.id = vi at *
  generalize x.way = vw at *
  generalize x.index = vx at *
  generalize x.verdict = vv at *
  generalize x.name = vn at *
  clear hx hs
  go_enter Tryd.func11, Tryd.ntmps11
  go_wp2_with (with_reducible refine wpList_load_row rfl 34 (.tmp 1) rfl w.heap.size R _ rfl hrow hzc rfl hsz ?_)
  with_reducible refine (hck.out _).mono ?_
  rintro e w2 ⟨rfl, hnew⟩
  have hrow2 := Lib.hid ((hnew.block _ (block_lt hrow.out)).trans hrow.out)
  have hb2 := Lib.hid (hb.out.trans (hnew.mono hb.out.size))
  clear hnew hrow hb hck
  go_wp2_with fail
  have k0 := fun W h => (hcf.out _ _ hrow2.out W h).1
  have k1 := fun W h => (hcf.out _ _ hrow2.out W h).2.1
  have hdr : Hid (Grown w2 w2.drew) := Lib.hid (Grown.drew (Grown.refl w2))
  go_cut [5] from 11 to 19 (fun s5 wx => OwnB w2.heap.size wx s5 ([2] ++ NO) ∧ Grown w2 wx)
  case first =>
    refine wp_region_held_drew (S := (Grown w2)) (by kernel_rfl) hdr.out (fun hOn => ?_)
    generalize World.drew w2 = wd at *
    refine wpAnyH_take (i := 0) (v := ?_) (by simp only [List.getElem?_toArray, List.getElem?_cons_zero]; rfl) (by kernel_rfl) (by kernel_rfl) (by kernel_rfl) (by exact fun _ _ _ h => h) (Or.inl ⟨by rfl, ?_⟩) hOn ?_
    rotate_left
    focus (intro W hSW; go_simp; try with_reducible rfl)
    try simp only [Act.put, List.setIfInBounds_toArray, List.set_cons_zero, List.set_cons_succ]
    refine wpAnyH_take (i := 1) (v := ?_) (by simp only [List.getElem?_toArray, List.getElem?_cons_succ, List.getElem?_cons_zero]; rfl) (by kernel_rfl) (by kernel_rfl) (by kernel_rfl) (by exact fun _ _ _ h => h) (Or.inl ⟨by rfl, ?_⟩) hOn ?_
    rotate_left
    focus (intro W hSW; go_simp; try with_reducible rfl)
    try simp only [Act.put, List.setIfInBounds_toArray, List.set_cons_zero, List.set_cons_succ]
    refine wpAnyH_take (i := 2) (v := ?_) (by simp only [List.getElem?_toArray, List.getElem?_cons_succ, List.getElem?_cons_zero]; rfl) (by kernel_rfl) (by kernel_rfl) (by kernel_rfl) (by exact fun _ _ _ h => h) (Or.inl ⟨by rfl, ?_⟩) hOn ?_
    rotate_left
    focus (intro W hSW; go_simp; try with_reducible rfl)
    try simp only [Act.put, List.setIfInBounds_toArray, List.set_cons_zero, List.set_cons_succ]
    refine wpAnyH_take (i := 4) (v := ?_) (by simp only [List.getElem?_toArray, List.getElem?_cons_succ, List.getElem?_cons_zero]; rfl) (by kernel_rfl) (by kernel_rfl) (by kernel_rfl) (by exact fun _ _ _ h => h) (Or.inl ⟨by rfl, ?_⟩) hOn ?_
    rotate_left
    focus (intro W hSW; go_simp; try with_reducible rfl)
    try simp only [Act.put, List.setIfInBounds_toArray, List.set_cons_zero, List.set_cons_succ]
    refine wpAnyH_take (i := 5) (v := ?_) (by simp only [List.getElem?_toArray, List.getElem?_cons_succ, List.getElem?_cons_zero]; rfl) (by kernel_rfl) (by kernel_rfl) (by kernel_rfl) (by exact fun _ _ _ h => h) (Or.inl ⟨by rfl, ?_⟩) hOn ?_
    rotate_left
    focus (intro W hSW; go_simp; try with_reducible rfl)
    try simp only [Act.put, List.setIfInBounds_toArray, List.set_cons_zero, List.set_cons_succ]
    refine wpAnyH_ready (rs := [3, 6]) (by kernel_rfl) (by simp) ?_
    refine AllReadyH.cons (by simp only [List.getElem?_toArray, List.getElem?_cons_succ, List.getElem?_cons_zero]; rfl) (fun Kz hKz => ?_) ?_
    go_simp
    focus (try go_wp2_with fail)
    (with_reducible refine made_step (t := 5) ?_)
    intro w5 hx5 hnew
    have hO5 := Lib.hid (ownB_one (x := 2) (base := w2.heap.size) hx5.out hOn.size)
    (try replace h3 := Lib.hid (h3.out.below hnew))
    clear hx5
    refine hKz.out _ _ (by first | exact hS | exact Below.trans hOn (Below.mono hnew (Below.size hOn))) (fun hNext => ?_)
    clear hKz Kz hOn
    have hOn := hNext
    clear hNext
    try clear hnew
    try clear hS
    try simp only [Act.put, List.setIfInBounds_toArray, List.set_cons_zero, List.set_cons_succ]
    refine wpAnyH_ready (rs := [6]) (by kernel_rfl) (by simp) ?_
    refine AllReadyH.cons (by simp only [List.getElem?_toArray, List.getElem?_cons_succ, List.getElem?_cons_zero]; rfl) (fun Kz hKz => ?_) AllReadyH.nil
    go_simp
    (with_reducible refine (hlo.out _).mono ?_)
    rintro e w3 ⟨v3, rfl, ho3, hnew⟩
    (try replace hO5 := Lib.hid (OwnB.below hO5.out hnew (Nat.le_refl _)))
    obtain ⟨g3, c3, e3, _⟩ := ho3.form (by rw [hno.out]; omega)
    subst e3
    obtain ⟨a4, c4, e4, h3, _⟩ := ho3.arg
    cases e4
    rw [hno.out]
    replace h3 := Lib.hid h3
    clear ho3
    focus (go_wp2_with fail)
    refine hKz.out _ _ (by first | exact hS | exact Below.trans hOn (Below.mono hnew (Below.size hOn))) (fun hNext => ?_)
    clear hKz Kz hOn
    have hOn := hNext
    clear hNext
    try clear hnew
    try clear hS
    try simp only [Act.put, List.setIfInBounds_toArray, List.set_cons_zero, List.set_cons_succ]
    refine wpAnyH_ready (rs := [7]) (by kernel_rfl) (by simp) ?_
    refine AllReadyH.cons (by simp only [List.getElem?_toArray, List.getElem?_cons_succ, List.getElem?_cons_zero]; rfl) (fun Kz hKz => ?_) AllReadyH.nil
    rw [if_pos (by rfl)]
    (refine wpK_appB (.tmp 14) (.tmp 17) rfl w2.heap.size _ [2] rfl hO5 _ _ NO 8 rfl hno h3 (by decide) (by decide) hOn.size ?_)
    intro v9 w9 ho9 hd9 hm9
    have hS := Below.grown hOn hd9.out hOn.size (fun k hk => (World.ownsRow.lt hO5.out k hk).1)
    refine hKz.out _ _ (by first | exact hS | exact Below.trans hOn (Below.mono hnew (Below.size hOn))) (fun hNext => ?_)
    clear hKz Kz hOn
    have hOn := hNext
    clear hNext
    try clear hnew
    try clear hS
    try simp only [Act.put]
    refine wpAnyH_take (i := 8) (v := ?_) (by simp only [List.getElem?_toArray, List.getElem?_cons_succ, List.getElem?_cons_zero]; rfl) (by kernel_rfl) (by kernel_rfl) (by kernel_rfl) (by exact fun _ _ _ h => h) (Or.inl ⟨by rfl, ?_⟩) hOn ?_
    rotate_left
    focus (intro W hSW; go_simp; try with_reducible rfl)
    try simp only [Act.put, List.setIfInBounds_toArray, List.set_cons_zero, List.set_cons_succ]
    refine wpAnyH_done (by kernel_rfl) ?_ _
    rotate_left
    refine AllReadyH.cons (by simp only [List.getElem?_toArray, List.getElem?_cons_succ, List.getElem?_cons_zero]; rfl) (fun Kz hKz => ?_) AllReadyH.nil
    go_simp
    (with_reducible refine (hlo.out _).mono ?_)
    rintro e w3 ⟨v3, rfl, ho3, hnew⟩
    (try replace hO5 := Lib.hid (OwnB.below hO5.out hnew (Nat.le_refl _)))
    obtain ⟨g3, c3, e3, _⟩ := ho3.form (by rw [hno.out]; omega)
    subst e3
    obtain ⟨a4, c4, e4, h3, _⟩ := ho3.arg
    cases e4
    rw [hno.out]
    replace h3 := Lib.hid h3
    clear ho3
    focus (go_wp2_with fail)
    refine hKz.out _ _ (by first | exact hS | exact Below.trans hOn (Below.mono hnew (Below.size hOn))) (fun hNext => ?_)
    clear hKz Kz hOn
    have hOn := hNext
    clear hNext
    try clear hnew
    try clear hS
    try simp only [Act.put, List.setIfInBounds_toArray, List.set_cons_zero, List.set_cons_succ]
    refine wpAnyH_ready (rs := [3]) (by kernel_rfl) (by simp) ?_
    refine AllReadyH.cons (by simp only [List.getElem?_toArray, List.getElem?_cons_succ, List.getElem?_cons_zero]; rfl) (fun Kz hKz => ?_) AllReadyH.nil
    go_simp
    focus (try go_wp2_with fail)
    (with_reducible refine made_step (t := 5) ?_)
    intro w5 hx5 hnew
    have hO5 := Lib.hid (ownB_one (x := 2) (base := w2.heap.size) hx5.out hOn.size)
    (try replace h3 := Lib.hid (h3.out.below hnew))
    clear hx5
    refine hKz.out _ _ (by first | exact hS | exact Below.trans hOn (Below.mono hnew (Below.size hOn))) (fun hNext => ?_)
    clear hKz Kz hOn
    have hOn := hNext
    clear hNext
    try clear hnew
    try clear hS
    try simp only [Act.put, List.setIfInBounds_toArray, List.set_cons_zero, List.set_cons_succ]
    refine wpAnyH_ready (rs := [7]) (by kernel_rfl) (by simp) ?_
    refine AllReadyH.cons (by simp only [List.getElem?_toArray, List.getElem?_cons_succ, List.getElem?_cons_zero]; rfl) (fun Kz hKz => ?_) AllReadyH.nil
    rw [if_pos (by rfl)]
    (refine wpK_appB (.tmp 14) (.tmp 17) rfl w2.heap.size _ [2] rfl hO5 _ _ NO 8 rfl hno h3 (by decide) (by decide) hOn.size ?_)
    intro v9 w9 ho9 hd9 hm9
    have hS := Below.grown hOn hd9.out hOn.size (fun k hk => (World.ownsRow.lt hO5.out k hk).1)
    refine hKz.out _ _ (by first | exact hS | exact Below.trans hOn (Below.mono hnew (Below.size hOn))) (fun hNext => ?_)
    clear hKz Kz hOn
    have hOn := hNext
    clear hNext
    try clear hnew
    try clear hS
    try simp only [Act.put]
    refine wpAnyH_take (i := 8) (v := ?_) (by simp only [List.getElem?_toArray, List.getElem?_cons_succ, List.getElem?_cons_zero]; rfl) (by kernel_rfl) (by kernel_rfl) (by kernel_rfl) (by exact fun _ _ _ h => h) (Or.inl ⟨by rfl, ?_⟩) hOn ?_
    rotate_left
    focus (intro W hSW; go_simp; try with_reducible rfl)
    try simp only [Act.put, List.setIfInBounds_toArray, List.set_cons_zero, List.set_cons_succ]
    refine wpAnyH_done (by kernel_rfl) ?_ _
    all_goals
      go_wp2_with fail
      go_meet
      exact ⟨ho9.out, hOn⟩
  case rest =>
    obtain ⟨ho9, hg9⟩ := hcut
    have q := hcf.out _ _ hrow2.out wc hg9
    have hlen9 : ([2] ++ NO).length = 9 := by simp [hno.out]
    generalize [2] ++ NO = P0 at *
    replace hlen9 := Lib.hid hlen9
    replace hg9 := Lib.hid hg9
    replace ho9 := Lib.hid ho9
    have hbs9 : w2.heap.size ≤ wc.heap.size := hg9.out.size
    clear k0 k1 hdr
    obtain ⟨q0, q1, q2, q3, q4, q5, q6, q7⟩ := q
    go_wp2_with fail
    with_reducible refine (hli.out _).mono ?_
    rintro e w20 ⟨v20, rfl, hu20, hnew⟩
    obtain ⟨a20, c20, rfl, h20, _⟩ := hu20.arg
    rw [hni.out]
    replace h20 := Lib.hid h20
    replace ho9 := Lib.hid (OwnB.below ho9.out hnew (Nat.le_refl _))
    have hg20 := Lib.hid (Grown.trans hg9.out hnew)
    have hbs20 : w2.heap.size ≤ w20.heap.size := hg20.out.size
    clear hnew hu20 q0 q1 q2 q3 q4 q5 q6 q7
    obtain ⟨q0, q1, q2, q3, q4, q5, q6, q7⟩ := hcf.out _ _ hrow2.out w20 hg20.out
    go_wp2_with (first
      | (at_builtin; refine wpB_app rfl (.tmp 47) (.tmp 50) rfl w2.heap.size _ (P0) rfl ho9 a20 c20 NI 8 rfl hni h20 (by simp [hlen9.out]) (by decide) hbs20 ?_; intro v21 w21 ho21 hd21; have hg21 := Lib.hid (Below.trans hg20.out hd21.out); have hbs21 : w2.heap.size ≤ w21.heap.size := hg21.out.size; clear hd21; have qq21 := hcf.out _ _ hrow2.out w21 hg21.out; clear q0 q1 q2 q3 q4 q5 q6 q7; obtain ⟨q0, q1, q2, q3, q4, q5, q6, q7⟩ := qq21)
      | (at_builtin; refine wpB_app1z rfl (.tmp 55) (.tmp 59) rfl w2.heap.size _ (P0 ++ NI) rfl ho21 B1 _ rfl rfl (by simp [hlen9.out, hni.out]) hbs21 ?_; intro v23 w23 ho23 hd23; have hg23 := Lib.hid (Below.trans hg21.out hd23.out); have hbs23 : w2.heap.size ≤ w23.heap.size := hg23.out.size; clear hd23; have qq23 := hcf.out _ _ hrow2.out w23 hg23.out; clear q0 q1 q2 q3 q4 q5 q6 q7; obtain ⟨q0, q1, q2, q3, q4, q5, q6, q7⟩ := qq23))
    with_reducible refine (hlx.out _).mono ?_
    rintro e w24 ⟨v24, rfl, hu24, hnew⟩
    obtain ⟨g24, cg24, e24, _⟩ := hu24.form (by rw [hnxx.out]; omega)
    subst e24
    obtain ⟨a24, c24, ee24, h24, _⟩ := hu24.arg
    cases ee24
    rw [hnxx.out]
    have hc8 : 8 ≤ cg24 := by have := h24.len; rw [hnxx.out] at this; exact this
    replace h24 := Lib.hid (h24.tail4 hnxx.out)
    replace ho23 := Lib.hid (OwnB.below ho23.out hnew (Nat.le_refl _))
    have hg24 := Lib.hid (Grown.trans hg23.out hnew)
    have hbs24 : w2.heap.size ≤ w24.heap.size := hg24.out.size
    clear hnew hu24 q0 q1 q2 q3 q4 q5 q6 q7
    obtain ⟨q0, q1, q2, q3, q4, q5, q6, q7⟩ := hcf.out _ _ hrow2.out w24 hg24.out
    go_wp2_with (first
      | (at_builtin; refine wpB_app rfl (.tmp 61) (.tmp 65) rfl w2.heap.size _ (P0 ++ NI ++ [B1]) rfl ho23 _ _ (NX.drop 4) 4 rfl hnx h24 (by simp [hlen9.out, hni.out]) (by decide) hbs24 ?_; intro v25 w25 ho25 hd25; have hg25 := Lib.hid (Below.trans hg24.out hd25.out); have hbs25 : w2.heap.size ≤ w25.heap.size := hg25.out.size; clear hd25; have qq25 := hcf.out _ _ hrow2.out w25 hg25.out; clear q0 q1 q2 q3 q4 q5 q6 q7; obtain ⟨q0, q1, q2, q3, q4, q5, q6, q7⟩ := qq25))
    with_reducible refine (hlt.out _).mono ?_
    rintro e w26 ⟨v26, rfl, hu26, hnew⟩
    obtain ⟨a26, c26, rfl, h26, _⟩ := hu26.arg
    rw [hnt.out]
    replace h26 := Lib.hid h26
    replace ho25 := Lib.hid (OwnB.below ho25.out hnew (Nat.le_refl _))
    have hg26 := Lib.hid (Grown.trans hg25.out hnew)
    have hbs26 : w2.heap.size ≤ w26.heap.size := hg26.out.size
    clear hnew hu26 q0 q1 q2 q3 q4 q5 q6 q7
    obtain ⟨q0, q1, q2, q3, q4, q5, q6, q7⟩ := hcf.out _ _ hrow2.out w26 hg26.out
    go_wp2_with (at_builtin; refine wpB_app rfl (.tmp 76) (.tmp 79) rfl w2.heap.size _ (P0 ++ NI ++ [B1] ++ (NX.drop 4)) rfl ho25 a26 c26 NT 8 rfl hnt h26 (by simp [hlen9.out, hni.out, hnx.out]) (by decide) hbs26 ?_; intro v27 w27 ho27 hd27; have hg27 := Lib.hid (Below.trans hg26.out hd27.out); have hbs27 : w2.heap.size ≤ w27.heap.size := hg27.out.size; clear hd27; have qq27 := hcf.out _ _ hrow2.out w27 hg27.out; clear q0 q1 q2 q3 q4 q5 q6 q7; obtain ⟨q0, q1, q2, q3, q4, q5, q6, q7⟩ := qq27)
    go_ret2
    exact ⟨_, rfl, by rw [hout.out]; simpa using ho27.out.mono hb2.out.size, hb2.out.trans (hg27.out.mono hb2.out.size)⟩
end Go.Proofs.YtahnicbokdbjdaaDoor
