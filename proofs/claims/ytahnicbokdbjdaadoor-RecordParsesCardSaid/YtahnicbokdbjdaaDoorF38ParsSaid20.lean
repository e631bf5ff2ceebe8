/- record.Bytes of a right record of kind 3. Printed by genbytes.py. -/
import Derived.Test.YtahnicbokdbjdaaDoorF23ParsSaid20
import Derived.Test.YtahnicbokdbjdaaDoorF20ParsSaid20
namespace Go.Proofs.YtahnicbokdbjdaaDoor
open Go.RowKit
set_option linter.unusedVariables false

set_option maxRecDepth 100000 in
set_option maxHeartbeats 2000000 in
theorem bytes_k3 (x : Rc) (hx : x.Ok) (hk : x.kind = 3) (hc : x.chk = 0) (ea : Nat → Addr) (w : World) (H : Errs 132 errGs w ea) : Calls Tryd.prog 10 #[.agg x.list.toArray] w (BytesPost x w) := by
  have hs := Rc.size hx
  have hck := Lib.hid (fun W h => check0 x hx hc ea W h)
  have hsz : (Tryd.prog.info? 31).map (·.size) = some x.list.toArray.size := by rw [hs]; kernel_rfl
  have hnums := (Rc.chk0 hc).2.1
  have hout : x.out = x.head ++ (numB x.id ++ ([b8 x.verdict] ++ numB x.tick)) := by unfold Rc.out; rw [if_neg (by omega), if_neg (by omega), if_pos hk]
  have hhd : x.head = [3] ++ numB x.obj := by unfold Rc.head; rw [hk]; rfl
  have hcf := Rc.kept x hx 31
  rw [hk] at hcf
  have hlo := Lib.hid (fun W => lnum_any x.obj W hx.obj.1 hx.obj.2)
  have hlt := Lib.hid (fun W => lnum_any x.tick W hx.tick.1 hx.tick.2)
  have hli := Lib.hid (fun W => lnum_any x.id W hx.id.1 hx.id.2)
  have hno := Lib.hid (numB_length x.obj)
  have hnt := Lib.hid (numB_length x.tick)
  have hni := Lib.hid (numB_length x.id)
  have hv : 1 ≤ x.verdict ∧ x.verdict ≤ 3 := by
    unfold Rc.nums numsB at hnums
    rw [hk] at hnums
    simp [inB] at hnums
    omega
  have hwv : IntKind.u8.wrap x.verdict = ((b8 x.verdict).toNat : Int) := by rw [b8_val _ (by omega)]; rw [IntKind.wrap_u8]; omega
  rw [hhd] at hout
  generalize numB x.obj = NO at *
  generalize numB x.tick = NT at *
  generalize numB x.id = NI at *
  generalize b8 x.verdict = B1 at *
  clear hv
  clear hhd hnums hk hc
  generalize hR : x.list.toArray = R at *
  replace hR := Lib.hid hR
  replace hcf := Lib.hid hcf
  replace hout := Lib.hid hout
  replace H := Lib.hid H
  have hrow := Lib.hid (heap_alloc_new w (.cells R 31))
  have hb := Lib.hid (show Below w.heap.size w (w.alloc (.cells R 31)) from (Below.refl _ _).alloc (Nat.le_refl _) _)
  have hzc := Tryd.underlying31
  obtain ⟨X, hX⟩ : ∃ X, X = x := ⟨_, rfl⟩
  generalize x.obj = vo at *
  generalize x.tick = vt at *
  generalize x.id = vi at *
  generalize x.way = vw at *
  generalize x.index = vx at *
  generalize x.verdict = vv at *
  generalize x.name = vn at *
  clear hx hs
  go_enter Tryd.func10, Tryd.ntmps10
  go_wp2_with (with_reducible refine wpList_load_row rfl 31 (.tmp 1) rfl w.heap.size R _ rfl hrow hzc rfl hsz ?_)
  with_reducible refine (hck.out _ (H.out.below hb.out)).mono ?_
  rintro e w2 ⟨rfl, hnew⟩
  have hrow2 := Lib.hid ((hnew.block _ (block_lt hrow.out)).trans hrow.out)
  have hb2 := Lib.hid (hb.out.trans (hnew.mono hb.out.size))
  clear hnew hrow hb hck
  go_wp2_with fail
  have k0 := fun W h => (hcf.out _ _ hrow2.out W h).1
  have k1 := fun W h => (hcf.out _ _ hrow2.out W h).2.1
  have hdr : Hid (Grown w2 w2.drew) := Lib.hid (Grown.drew (Grown.refl w2))
  go_cut [5] from 14 to 22 (fun s5 wx => OwnB w2.heap.size wx s5 ([3] ++ NO) ∧ Grown w2 wx)
  case first =>
    refine wp_region_held_drew (S := (Grown w2)) (by kernel_rfl) hdr.out (fun hOn => ?_)
    generalize World.drew w2 = wd at *
    refine wpAnyH_take (i := 0) (v := ?_) (by simp only [List.getElem?_toArray, List.getElem?_cons_zero]; rfl) (by kernel_rfl) (by kernel_rfl) (by kernel_rfl) (by exact fun _ _ _ h => h) (Or.inl ⟨by rfl, ?_⟩) hOn ?_
    rotate_left
    focus (intro W hSW; go_simp; try with_reducible rfl)
    try simp only [Act.put, List.setIfInBounds_toArray, List.set_cons_zero, List.set_cons_succ]
    refine wpAnyH_take (i := 1) (v := ?_) (by simp only [List.getElem?_toArray, List.getElem?_cons_succ, List.getElem?_cons_zero]; rfl) (by kernel_rfl) (by kernel_rfl) (by kernel_rfl) (by exact fun _ _ _ h => h) (Or.inl ⟨by rfl, ?_⟩) hOn ?_
    rotate_left
    focus (intro W hSW; go_simp; try with_reducible rfl)
    try simp only [Act.put, List.setIfInBounds_toArray, List.set_cons_zero, List.set_cons_succ]
    refine wpAnyH_take (i := 2) (v := ?_) (by simp only [List.getElem?_toArray, List.getElem?_cons_succ, List.getElem?_cons_zero]; rfl) (by kernel_rfl) (by kernel_rfl) (by kernel_rfl) (by exact fun _ _ _ h => h) (Or.inl ⟨by rfl, ?_⟩) hOn ?_
    rotate_left
    focus (intro W hSW; go_simp; try with_reducible rfl)
    try simp only [Act.put, List.setIfInBounds_toArray, List.set_cons_zero, List.set_cons_succ]
    refine wpAnyH_take (i := 4) (v := ?_) (by simp only [List.getElem?_toArray, List.getElem?_cons_succ, List.getElem?_cons_zero]; rfl) (by kernel_rfl) (by kernel_rfl) (by kernel_rfl) (by exact fun _ _ _ h => h) (Or.inl ⟨by rfl, ?_⟩) hOn ?_
    rotate_left
    focus (intro W hSW; go_simp; try with_reducible rfl)
    try simp only [Act.put, List.setIfInBounds_toArray, List.set_cons_zero, List.set_cons_succ]
    refine wpAnyH_take (i := 5) (v := ?_) (by simp only [List.getElem?_toArray, List.getElem?_cons_succ, List.getElem?_cons_zero]; rfl) (by kernel_rfl) (by kernel_rfl) (by kernel_rfl) (by exact fun _ _ _ h => h) (Or.inl ⟨by rfl, ?_⟩) hOn ?_
    rotate_left
    focus (intro W hSW; go_simp; try with_reducible rfl)
    try simp only [Act.put, List.setIfInBounds_toArray, List.set_cons_zero, List.set_cons_succ]
    refine wpAnyH_ready (rs := [3, 6]) (by kernel_rfl) (by simp) ?_
    refine AllReadyH.cons (by simp only [List.getElem?_toArray, List.getElem?_cons_succ, List.getElem?_cons_zero]; rfl) (fun Kz hKz => ?_) ?_
    go_simp
    focus (try go_wp2_with fail)
    (with_reducible refine made_step (t := 5) ?_)
    intro w5 hx5 hnew
    have hO5 := Lib.hid (ownB_one (x := 3) (base := w2.heap.size) hx5.out hOn.size)
    (try replace h3 := Lib.hid (h3.out.below hnew))
    clear hx5
    refine hKz.out _ _ (by first | exact hS | exact Below.trans hOn (Below.mono hnew (Below.size hOn))) (fun hNext => ?_)
    clear hKz Kz hOn
    have hOn := hNext
    clear hNext
    try clear hnew
    try clear hS
    try simp only [Act.put, List.setIfInBounds_toArray, List.set_cons_zero, List.set_cons_succ]
    refine wpAnyH_ready (rs := [6]) (by kernel_rfl) (by simp) ?_
    refine AllReadyH.cons (by simp only [List.getElem?_toArray, List.getElem?_cons_succ, List.getElem?_cons_zero]; rfl) (fun Kz hKz => ?_) AllReadyH.nil
    go_simp
    (with_reducible refine (hlo.out _).mono ?_)
    rintro e w3 ⟨v3, rfl, ho3, hnew⟩
    (try replace hO5 := Lib.hid (OwnB.below hO5.out hnew (Nat.le_refl _)))
    obtain ⟨g3, c3, e3, _⟩ := ho3.form (by rw [hno.out]; omega)
    subst e3
    obtain ⟨a4, c4, e4, h3, _⟩ := ho3.arg
    cases e4
    rw [hno.out]
    replace h3 := Lib.hid h3
    clear ho3
    focus (go_wp2_with fail)
    refine hKz.out _ _ (by first | exact hS | exact Below.trans hOn (Below.mono hnew (Below.size hOn))) (fun hNext => ?_)
    clear hKz Kz hOn
    have hOn := hNext
    clear hNext
    try clear hnew
    try clear hS
    try simp only [Act.put, List.setIfInBounds_toArray, List.set_cons_zero, List.set_cons_succ]
    refine wpAnyH_ready (rs := [7]) (by kernel_rfl) (by simp) ?_
    refine AllReadyH.cons (by simp only [List.getElem?_toArray, List.getElem?_cons_succ, List.getElem?_cons_zero]; rfl) (fun Kz hKz => ?_) AllReadyH.nil
    rw [if_pos (by rfl)]
    (refine wpK_appB (.tmp 17) (.tmp 20) rfl w2.heap.size _ [3] rfl hO5 _ _ NO 8 rfl hno h3 (by decide) (by decide) hOn.size ?_)
    intro v9 w9 ho9 hd9 hm9
    have hS := Below.grown hOn hd9.out hOn.size (fun k hk => (World.ownsRow.lt hO5.out k hk).1)
    refine hKz.out _ _ (by first | exact hS | exact Below.trans hOn (Below.mono hnew (Below.size hOn))) (fun hNext => ?_)
    clear hKz Kz hOn
    have hOn := hNext
    clear hNext
    try clear hnew
    try clear hS
    try simp only [Act.put]
    refine wpAnyH_take (i := 8) (v := ?_) (by simp only [List.getElem?_toArray, List.getElem?_cons_succ, List.getElem?_cons_zero]; rfl) (by kernel_rfl) (by kernel_rfl) (by kernel_rfl) (by exact fun _ _ _ h => h) (Or.inl ⟨by rfl, ?_⟩) hOn ?_
    rotate_left
    focus (intro W hSW; go_simp; try with_reducible rfl)
    try simp only [Act.put, List.setIfInBounds_toArray, List.set_cons_zero, List.set_cons_succ]
    refine wpAnyH_done (by kernel_rfl) ?_ _
    rotate_left
    refine AllReadyH.cons (by simp only [List.getElem?_toArray, List.getElem?_cons_succ, List.getElem?_cons_zero]; rfl) (fun Kz hKz => ?_) AllReadyH.nil
    go_simp
    (with_reducible refine (hlo.out _).mono ?_)
    rintro e w3 ⟨v3, rfl, ho3, hnew⟩
    (try replace hO5 := Lib.hid (OwnB.below hO5.out hnew (Nat.le_refl _)))
    obtain ⟨g3, c3, e3, _⟩ := ho3.form (by rw [hno.out]; omega)
    subst e3
    obtain ⟨a4, c4, e4, h3, _⟩ := ho3.arg
    cases e4
    rw [hno.out]
    replace h3 := Lib.hid h3
    clear ho3
    focus (go_wp2_with fail)
    refine hKz.out _ _ (by first | exact hS | exact Below.trans hOn (Below.mono hnew (Below.size hOn))) (fun hNext => ?_)
    clear hKz Kz hOn
    have hOn := hNext
    clear hNext
    try clear hnew
    try clear hS
    try simp only [Act.put, List.setIfInBounds_toArray, List.set_cons_zero, List.set_cons_succ]
    refine wpAnyH_ready (rs := [3]) (by kernel_rfl) (by simp) ?_
    refine AllReadyH.cons (by simp only [List.getElem?_toArray, List.getElem?_cons_succ, List.getElem?_cons_zero]; rfl) (fun Kz hKz => ?_) AllReadyH.nil
    go_simp
    focus (try go_wp2_with fail)
    (with_reducible refine made_step (t := 5) ?_)
    intro w5 hx5 hnew
    have hO5 := Lib.hid (ownB_one (x := 3) (base := w2.heap.size) hx5.out hOn.size)
    (try replace h3 := Lib.hid (h3.out.below hnew))
    clear hx5
    refine hKz.out _ _ (by first | exact hS | exact Below.trans hOn (Below.mono hnew (Below.size hOn))) (fun hNext => ?_)
    clear hKz Kz hOn
    have hOn := hNext
    clear hNext
    try clear hnew
    try clear hS
    try simp only [Act.put, List.setIfInBounds_toArray, List.set_cons_zero, List.set_cons_succ]
    refine wpAnyH_ready (rs := [7]) (by kernel_rfl) (by simp) ?_
    refine AllReadyH.cons (by simp only [List.getElem?_toArray, List.getElem?_cons_succ, List.getElem?_cons_zero]; rfl) (fun Kz hKz => ?_) AllReadyH.nil
    rw [if_pos (by rfl)]
    (refine wpK_appB (.tmp 17) (.tmp 20) rfl w2.heap.size _ [3] rfl hO5 _ _ NO 8 rfl hno h3 (by decide) (by decide) hOn.size ?_)
    intro v9 w9 ho9 hd9 hm9
    have hS := Below.grown hOn hd9.out hOn.size (fun k hk => (World.ownsRow.lt hO5.out k hk).1)
    refine hKz.out _ _ (by first | exact hS | exact Below.trans hOn (Below.mono hnew (Below.size hOn))) (fun hNext => ?_)
    clear hKz Kz hOn
    have hOn := hNext
    clear hNext
    try clear hnew
    try clear hS
    try simp only [Act.put]
    refine wpAnyH_take (i := 8) (v := ?_) (by simp only [List.getElem?_toArray, List.getElem?_cons_succ, List.getElem?_cons_zero]; rfl) (by kernel_rfl) (by kernel_rfl) (by kernel_rfl) (by exact fun _ _ _ h => h) (Or.inl ⟨by rfl, ?_⟩) hOn ?_
    rotate_left
    focus (intro W hSW; go_simp; try with_reducible rfl)
    try simp only [Act.put, List.setIfInBounds_toArray, List.set_cons_zero, List.set_cons_succ]
    refine wpAnyH_done (by kernel_rfl) ?_ _
    all_goals
      go_wp2_with fail
      go_meet
      exact ⟨ho9.out, hOn⟩
  case rest =>
    obtain ⟨ho9, hg9⟩ := hcut
    obtain ⟨q0, q1, q2, q3, q4, q5, q6, q7⟩ := hcf.out _ _ hrow2.out wc hg9
    have hP0 : ([3] ++ NO).length = 9 := by simp [hno.out]
    generalize [3] ++ NO = P0 at *
    replace hP0 := Lib.hid hP0
    replace hg9 := Lib.hid hg9
    replace ho9 := Lib.hid ho9
    obtain ⟨a9, c9, e9, h9, _⟩ := ho9.out.arg
    rw [hP0.out] at e9
    subst e9
    replace h9 := Lib.hid h9
    clear k0 k1 hdr
    go_wp2_with fail
    with_reducible refine (hlt.out _).mono ?_
    rintro e w10 ⟨v10, rfl, ho10, hnew⟩
    obtain ⟨a10, c10, rfl, h10, _⟩ := ho10.arg
    rw [hnt.out]
    replace h9 := Lib.hid (h9.out.below hnew)
    replace ho9 := Lib.hid (OwnB.below ho9.out hnew (Nat.le_refl _))
    replace h10 := Lib.hid h10
    have hg10 := Lib.hid (Grown.trans hg9.out hnew)
    clear hnew ho10 q0 q1 q2 q3 q4 q5 q6 q7
    obtain ⟨q0, q1, q2, q3, q4, q5, q6, q7⟩ := hcf.out _ _ hrow2.out w10 hg10.out
    have hrow10 := Lib.hid (rowG hrow2.out hg10.out)
    go_wp2_with fail
    have k2 := fun W h => (hcf.out _ _ hrow10.out W h).2.2.1
    have kv := fun W h => (hcf.out _ _ hrow10.out W h).2.2.2.2.2.2.1
    clear q0 q1 q2 q3 q4 q5 q6 q7
    have hflat1 : Hid (1 ≤ ([P0, NI, [B1], NT] : List (List UInt8)).flatten.length) := Lib.hid (by simp [hP0.out, hni.out, hnt.out])
    have hflat2 : Hid (([P0, NI, [B1], NT] : List (List UInt8)).flatten.length ≤ 1000000) := Lib.hid (by simp [hP0.out, hni.out, hnt.out])
    refine wp_region_on2 (by kernel_rfl) (fun wd hOn => ?_)
    refine wpAnyH_take (i := 0) (v := ?_) (by simp only [List.getElem?_toArray, List.getElem?_cons_zero]; rfl) (by kernel_rfl) (by kernel_rfl) (by kernel_rfl) (by exact fun _ _ _ h => h) (Or.inl ⟨by rfl, ?_⟩) hOn ?_
    rotate_left
    focus (intro W hSW; go_simp; try with_reducible rfl)
    try simp only [Act.put, List.setIfInBounds_toArray, List.set_cons_zero, List.set_cons_succ]
    refine wpAnyH_take (i := 1) (v := ?_) (by simp only [List.getElem?_toArray, List.getElem?_cons_succ, List.getElem?_cons_zero]; rfl) (by kernel_rfl) (by kernel_rfl) (by kernel_rfl) (by exact fun _ _ _ h => h) (Or.inl ⟨by rfl, ?_⟩) hOn ?_
    rotate_left
    focus (intro W hSW; go_simp; try with_reducible rfl)
    try simp only [Act.put, List.setIfInBounds_toArray, List.set_cons_zero, List.set_cons_succ]
    refine wpAnyH_take (i := 2) (v := ?_) (by simp only [List.getElem?_toArray, List.getElem?_cons_succ, List.getElem?_cons_zero]; rfl) (by kernel_rfl) (by kernel_rfl) (by kernel_rfl) (by exact fun _ _ _ h => h) (Or.inl ⟨by rfl, ?_⟩) hOn ?_
    rotate_left
    focus (intro W hSW; go_simp; try with_reducible rfl)
    try simp only [Act.put, List.setIfInBounds_toArray, List.set_cons_zero, List.set_cons_succ]
    refine wpAnyH_take (i := 4) (v := ?_) (by simp only [List.getElem?_toArray, List.getElem?_cons_succ, List.getElem?_cons_zero]; rfl) (by kernel_rfl) (by kernel_rfl) (by kernel_rfl) (by exact fun _ _ _ h => h) (Or.inl ⟨by rfl, ?_⟩) hOn ?_
    rotate_left
    focus (intro W hSW; go_simp; try with_reducible rfl)
    try simp only [Act.put, List.setIfInBounds_toArray, List.set_cons_zero, List.set_cons_succ]
    refine wpAnyH_take (i := 5) (v := ?_) (by simp only [List.getElem?_toArray, List.getElem?_cons_succ, List.getElem?_cons_zero]; rfl) (by kernel_rfl) (by kernel_rfl) (by kernel_rfl) (by exact fun _ _ _ h => h) (Or.inl ⟨by rfl, ?_⟩) hOn ?_
    rotate_left
    focus (intro W hSW; go_simp; try with_reducible rfl)
    try simp only [Act.put, List.setIfInBounds_toArray, List.set_cons_zero, List.set_cons_succ]
    refine wpAnyH_take (i := 6) (v := ?_) (by simp only [List.getElem?_toArray, List.getElem?_cons_succ, List.getElem?_cons_zero]; rfl) (by kernel_rfl) (by kernel_rfl) (by kernel_rfl) (by exact fun _ _ _ h => h) (Or.inl ⟨by rfl, ?_⟩) hOn ?_
    rotate_left
    focus (intro W hSW; go_simp; try with_reducible rfl)
    try simp only [Act.put, List.setIfInBounds_toArray, List.set_cons_zero, List.set_cons_succ]
    refine wpAnyH_take (i := 8) (v := ?_) (by simp only [List.getElem?_toArray, List.getElem?_cons_succ, List.getElem?_cons_zero]; rfl) (by kernel_rfl) (by kernel_rfl) (by kernel_rfl) (by exact fun _ _ _ h => h) (Or.inl ⟨by rfl, ?_⟩) hOn ?_
    rotate_left
    focus (intro W hSW; go_simp; try with_reducible rfl)
    try simp only [Act.put, List.setIfInBounds_toArray, List.set_cons_zero, List.set_cons_succ]
    refine wpAnyH_ready (rs := [3, 7]) (by kernel_rfl) (by simp) ?_
    refine AllReadyH.cons (by simp only [List.getElem?_toArray, List.getElem?_cons_succ, List.getElem?_cons_zero]; rfl) (fun Kz hKz => ?_) ?_
    go_simp
    (with_reducible refine (hli.out _).mono ?_)
    rintro e w11 ⟨v11, rfl, ho11, hnew⟩
    obtain ⟨a11, c11, rfl, h11, _⟩ := ho11.arg
    rw [hni.out]
    have hz := Lib.hid (Grown.trans hOn hnew)
    replace h9 := Lib.hid (h9.out.below hz.out)
    replace h10 := Lib.hid (h10.out.below hz.out)
    replace hg10 := Lib.hid (Grown.trans hg10.out hz.out)
    (try replace h12 := Lib.hid (h12.out.below hz.out))
    (try replace h13 := Lib.hid (h13.out.below hz.out))
    (try replace k2 := keepR k2 hz.out)
    (try replace kv := keepR kv hz.out)
    (try replace kx := keepR kx hz.out)
    replace h11 := Lib.hid h11
    clear hz ho11
    focus (go_wp2_with fail)
    refine hKz.out _ _ (Grown.trans hOn hnew) (fun hNext => ?_)
    clear hKz Kz hOn
    refine wpAnyH_onward hNext (fun hOn => ?_)
    clear hNext hnew
    try simp only [Act.put, List.setIfInBounds_toArray, List.set_cons_zero, List.set_cons_succ]
    refine wpAnyH_ready (rs := [7]) (by kernel_rfl) (by simp) ?_
    refine AllReadyH.cons (by simp only [List.getElem?_toArray, List.getElem?_cons_succ, List.getElem?_cons_zero]; rfl) (fun Kz hKz => ?_) AllReadyH.nil
    go_simp
    focus (try go_wp2_with fail)
    (with_reducible refine made_step (t := 5) ?_)
    intro w12 hx12 hnew
    have h12 := Lib.hid (argB_one (x := B1) hx12.out)
    have hz := Lib.hid (Grown.trans hOn hnew)
    replace h9 := Lib.hid (h9.out.below hz.out)
    replace h10 := Lib.hid (h10.out.below hz.out)
    replace hg10 := Lib.hid (Grown.trans hg10.out hz.out)
    (try replace h11 := Lib.hid (h11.out.below hz.out))
    (try replace h13 := Lib.hid (h13.out.below hz.out))
    (try replace k2 := keepR k2 hz.out)
    (try replace kv := keepR kv hz.out)
    (try replace kx := keepR kx hz.out)
    clear hz hx12
    refine hKz.out _ _ (Grown.trans hOn hnew) (fun hNext => ?_)
    clear hKz Kz hOn
    refine wpAnyH_onward hNext (fun hOn => ?_)
    clear hNext hnew
    try simp only [Act.put, List.setIfInBounds_toArray, List.set_cons_zero, List.set_cons_succ]
    refine wpAnyH_ready (rs := [9]) (by kernel_rfl) (by simp) ?_
    refine AllReadyH.cons (by simp only [List.getElem?_toArray, List.getElem?_cons_succ, List.getElem?_cons_zero]; rfl) (fun Kz hKz => ?_) AllReadyH.nil
    go_simp
    focus (try go_wp2_with fail)
    (with_reducible refine made_step (t := 36) ?_)
    intro w13 hx13 hnew
    have hz := Lib.hid (Grown.trans hOn hnew)
    replace h9 := Lib.hid (h9.out.below hz.out)
    replace h10 := Lib.hid (h10.out.below hz.out)
    replace hg10 := Lib.hid (Grown.trans hg10.out hz.out)
    (try replace h11 := Lib.hid (h11.out.below hz.out))
    (try replace h12 := Lib.hid (h12.out.below hz.out))
    (try replace h13 := Lib.hid (h13.out.below hz.out))
    (try replace k2 := keepR k2 hz.out)
    (try replace kv := keepR kv hz.out)
    (try replace kx := keepR kx hz.out)
    have hrows := Lib.hid (rows4 hx13.out hP0.out hni.out rfl hnt.out h9.out h11.out h12.out h10.out)
    clear hz hx13
    refine hKz.out _ _ (Grown.trans hOn hnew) (fun hNext => ?_)
    clear hKz Kz hOn
    refine wpAnyH_onward hNext (fun hOn => ?_)
    clear hNext hnew
    try simp only [Act.put, List.setIfInBounds_toArray, List.set_cons_zero, List.set_cons_succ]
    refine wpAnyH_ready (rs := [10]) (by kernel_rfl) (by simp) ?_
    refine AllReadyH.cons (by simp only [List.getElem?_toArray, List.getElem?_cons_succ, List.getElem?_cons_zero]; rfl) (fun Kz hKz => ?_) AllReadyH.nil
    go_simp
    (with_reducible refine (concatA _ [P0, NI, [B1], NT] 4 _ (hrows.out.below hOn) rfl (by decide) hflat1.out hflat2.out).mono ?_)
    rintro e w14 ⟨v14, rfl, ho14, hnew⟩
    have hfo := Lib.hid (ho14.mono (show w.heap.size ≤ _ from Nat.le_trans hb2.out.size (Nat.le_trans hg10.out.size hOn.size)))
    replace hg10 := Lib.hid (Grown.trans hg10.out (Grown.trans hOn hnew))
    clear hrows
    focus (go_wp2_with fail)
    refine hKz.out _ _ (Grown.trans hOn hnew) (fun hNext => ?_)
    clear hKz Kz hOn
    refine wpAnyH_onward hNext (fun hOn => ?_)
    clear hNext hnew
    try simp only [Act.put, List.setIfInBounds_toArray, List.set_cons_zero, List.set_cons_succ]
    refine wpAnyH_take (i := 11) (v := ?_) (by simp only [List.getElem?_toArray, List.getElem?_cons_succ, List.getElem?_cons_zero]; rfl) (by kernel_rfl) (by kernel_rfl) (by kernel_rfl) (by exact fun _ _ _ h => h) (Or.inl ⟨by rfl, ?_⟩) hOn ?_
    rotate_left
    focus (intro W hSW; go_simp; try with_reducible rfl)
    try simp only [Act.put, List.setIfInBounds_toArray, List.set_cons_zero, List.set_cons_succ]
    refine wpAnyH_take (i := 12) (v := ?_) (by simp only [List.getElem?_toArray, List.getElem?_cons_succ, List.getElem?_cons_zero]; rfl) (by kernel_rfl) (by kernel_rfl) (by kernel_rfl) (by exact fun _ _ _ h => h) (Or.inl ⟨by rfl, ?_⟩) hOn ?_
    rotate_left
    focus (intro W hSW; go_simp; try with_reducible rfl)
    try simp only [Act.put, List.setIfInBounds_toArray, List.set_cons_zero, List.set_cons_succ]
    refine wpAnyH_done (by kernel_rfl) ?_ _
    rotate_left
    refine AllReadyH.cons (by simp only [List.getElem?_toArray, List.getElem?_cons_succ, List.getElem?_cons_zero]; rfl) (fun Kz hKz => ?_) AllReadyH.nil
    go_simp
    focus (try go_wp2_with fail)
    (with_reducible refine made_step (t := 5) ?_)
    intro w12 hx12 hnew
    have h12 := Lib.hid (argB_one (x := B1) hx12.out)
    have hz := Lib.hid (Grown.trans hOn hnew)
    replace h9 := Lib.hid (h9.out.below hz.out)
    replace h10 := Lib.hid (h10.out.below hz.out)
    replace hg10 := Lib.hid (Grown.trans hg10.out hz.out)
    (try replace h11 := Lib.hid (h11.out.below hz.out))
    (try replace h13 := Lib.hid (h13.out.below hz.out))
    (try replace k2 := keepR k2 hz.out)
    (try replace kv := keepR kv hz.out)
    (try replace kx := keepR kx hz.out)
    clear hz hx12
    refine hKz.out _ _ (Grown.trans hOn hnew) (fun hNext => ?_)
    clear hKz Kz hOn
    refine wpAnyH_onward hNext (fun hOn => ?_)
    clear hNext hnew
    try simp only [Act.put, List.setIfInBounds_toArray, List.set_cons_zero, List.set_cons_succ]
    refine wpAnyH_ready (rs := [3]) (by kernel_rfl) (by simp) ?_
    refine AllReadyH.cons (by simp only [List.getElem?_toArray, List.getElem?_cons_succ, List.getElem?_cons_zero]; rfl) (fun Kz hKz => ?_) AllReadyH.nil
    go_simp
    (with_reducible refine (hli.out _).mono ?_)
    rintro e w11 ⟨v11, rfl, ho11, hnew⟩
    obtain ⟨a11, c11, rfl, h11, _⟩ := ho11.arg
    rw [hni.out]
    have hz := Lib.hid (Grown.trans hOn hnew)
    replace h9 := Lib.hid (h9.out.below hz.out)
    replace h10 := Lib.hid (h10.out.below hz.out)
    replace hg10 := Lib.hid (Grown.trans hg10.out hz.out)
    (try replace h12 := Lib.hid (h12.out.below hz.out))
    (try replace h13 := Lib.hid (h13.out.below hz.out))
    (try replace k2 := keepR k2 hz.out)
    (try replace kv := keepR kv hz.out)
    (try replace kx := keepR kx hz.out)
    replace h11 := Lib.hid h11
    clear hz ho11
    focus (go_wp2_with fail)
    refine hKz.out _ _ (Grown.trans hOn hnew) (fun hNext => ?_)
    clear hKz Kz hOn
    refine wpAnyH_onward hNext (fun hOn => ?_)
    clear hNext hnew
    try simp only [Act.put, List.setIfInBounds_toArray, List.set_cons_zero, List.set_cons_succ]
    refine wpAnyH_ready (rs := [9]) (by kernel_rfl) (by simp) ?_
    refine AllReadyH.cons (by simp only [List.getElem?_toArray, List.getElem?_cons_succ, List.getElem?_cons_zero]; rfl) (fun Kz hKz => ?_) AllReadyH.nil
    go_simp
    focus (try go_wp2_with fail)
    (with_reducible refine made_step (t := 36) ?_)
    intro w13 hx13 hnew
    have hz := Lib.hid (Grown.trans hOn hnew)
    replace h9 := Lib.hid (h9.out.below hz.out)
    replace h10 := Lib.hid (h10.out.below hz.out)
    replace hg10 := Lib.hid (Grown.trans hg10.out hz.out)
    (try replace h11 := Lib.hid (h11.out.below hz.out))
    (try replace h12 := Lib.hid (h12.out.below hz.out))
    (try replace h13 := Lib.hid (h13.out.below hz.out))
    (try replace k2 := keepR k2 hz.out)
    (try replace kv := keepR kv hz.out)
    (try replace kx := keepR kx hz.out)
    have hrows := Lib.hid (rows4 hx13.out hP0.out hni.out rfl hnt.out h9.out h11.out h12.out h10.out)
    clear hz hx13
    refine hKz.out _ _ (Grown.trans hOn hnew) (fun hNext => ?_)
    clear hKz Kz hOn
    refine wpAnyH_onward hNext (fun hOn => ?_)
    clear hNext hnew
    try simp only [Act.put, List.setIfInBounds_toArray, List.set_cons_zero, List.set_cons_succ]
    refine wpAnyH_ready (rs := [10]) (by kernel_rfl) (by simp) ?_
    refine AllReadyH.cons (by simp only [List.getElem?_toArray, List.getElem?_cons_succ, List.getElem?_cons_zero]; rfl) (fun Kz hKz => ?_) AllReadyH.nil
    go_simp
    (with_reducible refine (concatA _ [P0, NI, [B1], NT] 4 _ (hrows.out.below hOn) rfl (by decide) hflat1.out hflat2.out).mono ?_)
    rintro e w14 ⟨v14, rfl, ho14, hnew⟩
    have hfo := Lib.hid (ho14.mono (show w.heap.size ≤ _ from Nat.le_trans hb2.out.size (Nat.le_trans hg10.out.size hOn.size)))
    replace hg10 := Lib.hid (Grown.trans hg10.out (Grown.trans hOn hnew))
    clear hrows
    focus (go_wp2_with fail)
    refine hKz.out _ _ (Grown.trans hOn hnew) (fun hNext => ?_)
    clear hKz Kz hOn
    refine wpAnyH_onward hNext (fun hOn => ?_)
    clear hNext hnew
    try simp only [Act.put, List.setIfInBounds_toArray, List.set_cons_zero, List.set_cons_succ]
    refine wpAnyH_take (i := 11) (v := ?_) (by simp only [List.getElem?_toArray, List.getElem?_cons_succ, List.getElem?_cons_zero]; rfl) (by kernel_rfl) (by kernel_rfl) (by kernel_rfl) (by exact fun _ _ _ h => h) (Or.inl ⟨by rfl, ?_⟩) hOn ?_
    rotate_left
    focus (intro W hSW; go_simp; try with_reducible rfl)
    try simp only [Act.put, List.setIfInBounds_toArray, List.set_cons_zero, List.set_cons_succ]
    refine wpAnyH_take (i := 12) (v := ?_) (by simp only [List.getElem?_toArray, List.getElem?_cons_succ, List.getElem?_cons_zero]; rfl) (by kernel_rfl) (by kernel_rfl) (by kernel_rfl) (by exact fun _ _ _ h => h) (Or.inl ⟨by rfl, ?_⟩) hOn ?_
    rotate_left
    focus (intro W hSW; go_simp; try with_reducible rfl)
    try simp only [Act.put, List.setIfInBounds_toArray, List.set_cons_zero, List.set_cons_succ]
    refine wpAnyH_done (by kernel_rfl) ?_ _
    all_goals
      have hfin := Lib.hid (hb2.out.trans ((Grown.trans hg10.out hOn).mono hb2.out.size))
      clear hOn
      go_wp2_with fail
      go_ret2
      exact ⟨_, rfl, by rw [hout.out]; simpa using hfo.out, hfin.out⟩
end Go.Proofs.YtahnicbokdbjdaaDoor
