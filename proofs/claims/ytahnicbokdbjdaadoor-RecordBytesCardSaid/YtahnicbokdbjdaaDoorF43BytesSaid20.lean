/- RBytes4, Words20. -/
import Derived.Test.YtahnicbokdbjdaaDoorF39BytesSaid20
import Derived.Test.YtahnicbokdbjdaaDoorF20BytesSaid20
import Derived.Test.YtahnicbokdbjdaaDoorF23BytesSaid20
/- baileeref20.Bytes of a right record of kind 4. Printed by genrbytes.py. -/
namespace Go.Proofs.YtahnicbokdbjdaaDoor
open Go.RowKit
set_option linter.unusedVariables false

set_option maxRecDepth 100000 in
set_option maxHeartbeats 2000000 in
theorem rbytes_k4 (x : Rc) (hx : x.Ok) (hk : x.kind = 4) (hc : x.chk = 0) (w : World) : Calls Tryd.prog 11 #[.agg x.list.toArray] w (RBytesPost x w) := by
  have hs := Rc.size hx
  have hck := Lib.hid (fun W => rcheck0 x hx hc W)
  have hsz : (Tryd.prog.info? 34).map (·.size) = some x.list.toArray.size := by rw [hs]; kernel_rfl
  have hnums := (Rc.chk0 hc).2.1
  have hout : x.out = x.head ++ numB x.tick := by unfold Rc.out; rw [if_neg (by omega), if_neg (by omega), if_neg (by omega)]
  have hhd : x.head = [4] ++ numB x.obj := by unfold Rc.head; rw [hk]; rfl
  have hcf := Rc.kept x hx 34
  rw [hk] at hcf
  have hlo := Lib.hid (fun W => rnum_any x.obj W hx.obj.1 hx.obj.2)
  have hlt := Lib.hid (fun W => rnum_any x.tick W hx.tick.1 hx.tick.2)
  have hli := Lib.hid (fun W => rnum_any x.id W hx.id.1 hx.id.2)
  have hno := Lib.hid (numB_length x.obj)
  have hnt := Lib.hid (numB_length x.tick)
  have hni := Lib.hid (numB_length x.id)
  rw [hhd] at hout
  generalize numB x.obj = NO at *
  generalize numB x.tick = NT at *
  generalize numB x.id = NI at *
  clear hhd hnums hk hc
  generalize hR : x.list.toArray = R at *
  replace hR := Lib.hid hR
  replace hcf := Lib.hid hcf
  replace hout := Lib.hid hout
  have hrow := Lib.hid (heap_alloc_new w (.cells R 34))
  have hb := Lib.hid (show Below w.heap.size w (w.alloc (.cells R 34)) from (Below.refl _ _).alloc (Nat.le_refl _) _)
  have hzc := Tryd.underlying34
  generalize x.obj = vo at *
  generalize x.tick = vt at *
  generalize x.id = vi at *
  generalize x.way = vw at *
  generalize x.index = vx at *
  generalize x.verdict = vv at *
  generalize x.name = vn at *
  clear hx hs
  go_enter Tryd.func11, Tryd.ntmps11
  go_wp2_with (with_reducible refine wpList_load_row rfl 34 (.tmp 1) rfl w.heap.size R _ rfl hrow hzc rfl hsz ?_)
  with_reducible refine (hck.out _).mono ?_
  rintro e w2 ⟨rfl, hnew⟩
  have hrow2 := Lib.hid ((hnew.block _ (block_lt hrow.out)).trans hrow.out)
  have hb2 := Lib.hid (hb.out.trans (hnew.mono hb.out.size))
  clear hnew hrow hb hck
  go_wp2_with fail
  have k0 := fun W h => (hcf.out _ _ hrow2.out W h).1
  have k1 := fun W h => (hcf.out _ _ hrow2.out W h).2.1
  have hdr : Hid (Grown w2 w2.drew) := Lib.hid (Grown.drew (Grown.refl w2))
  go_cut [5] from 11 to 19 (fun s5 wx => OwnB w2.heap.size wx s5 ([4] ++ NO) ∧ Grown w2 wx)
  case first =>
    refine wp_region_held_drew (S := (Grown w2)) (by kernel_rfl) hdr.out (fun hOn => ?_)
    generalize World.drew w2 = wd at *
    refine wpAnyH_take (i := 0) (v := ?_) (by simp only [List.getElem?_toArray, List.getElem?_cons_zero]; rfl) (by kernel_rfl) (by kernel_rfl) (by kernel_rfl) (by exact fun _ _ _ h => h) (Or.inl ⟨by rfl, ?_⟩) hOn ?_
    rotate_left
    focus (intro W hSW; go_simp; try with_reducible rfl)
    try simp only [Act.put, List.setIfInBounds_toArray, List.set_cons_zero, List.set_cons_succ]
    refine wpAnyH_take (i := 1) (v := ?_) (by simp only [List.getElem?_toArray, List.getElem?_cons_succ, List.getElem?_cons_zero]; rfl) (by kernel_rfl) (by kernel_rfl) (by kernel_rfl) (by exact fun _ _ _ h => h) (Or.inl ⟨by rfl, ?_⟩) hOn ?_
    rotate_left
    focus (intro W hSW; go_simp; try with_reducible rfl)
    try simp only [Act.put, List.setIfInBounds_toArray, List.set_cons_zero, List.set_cons_succ]
    refine wpAnyH_take (i := 2) (v := ?_) (by simp only [List.getElem?_toArray, List.getElem?_cons_succ, List.getElem?_cons_zero]; rfl) (by kernel_rfl) (by kernel_rfl) (by kernel_rfl) (by exact fun _ _ _ h => h) (Or.inl ⟨by rfl, ?_⟩) hOn ?_
    rotate_left
    focus (intro W hSW; go_simp; try with_reducible rfl)
    try simp only [Act.put, List.setIfInBounds_toArray, List.set_cons_zero, List.set_cons_succ]
    refine wpAnyH_take (i := 4) (v := ?_) (by simp only [List.getElem?_toArray, List.getElem?_cons_succ, List.getElem?_cons_zero]; rfl) (by kernel_rfl) (by kernel_rfl) (by kernel_rfl) (by exact fun _ _ _ h => h) (Or.inl ⟨by rfl, ?_⟩) hOn ?_
    rotate_left
    focus (intro W hSW; go_simp; try with_reducible rfl)
    try simp only [Act.put, List.setIfInBounds_toArray, List.set_cons_zero, List.set_cons_succ]
    refine wpAnyH_take (i := 5) (v := ?_) (by simp only [List.getElem?_toArray, List.getElem?_cons_succ, List.getElem?_cons_zero]; rfl) (by kernel_rfl) (by kernel_rfl) (by kernel_rfl) (by exact fun _ _ _ h => h) (Or.inl ⟨by rfl, ?_⟩) hOn ?_
    rotate_left
    focus (intro W hSW; go_simp; try with_reducible rfl)
    try simp only [Act.put, List.setIfInBounds_toArray, List.set_cons_zero, List.set_cons_succ]
    refine wpAnyH_ready (rs := [3, 6]) (by kernel_rfl) (by simp) ?_
    refine AllReadyH.cons (by simp only [List.getElem?_toArray, List.getElem?_cons_succ, List.getElem?_cons_zero]; rfl) (fun Kz hKz => ?_) ?_
    go_simp
    focus (try go_wp2_with fail)
    (with_reducible refine made_step (t := 5) ?_)
    intro w5 hx5 hnew
    have hO5 := Lib.hid (ownB_one (x := 4) (base := w2.heap.size) hx5.out hOn.size)
    (try replace h3 := Lib.hid (h3.out.below hnew))
    clear hx5
    refine hKz.out _ _ (by first | exact hS | exact Below.trans hOn (Below.mono hnew (Below.size hOn))) (fun hNext => ?_)
    clear hKz Kz hOn
    have hOn := hNext
    clear hNext
    try clear hnew
    try clear hS
    try simp only [Act.put, List.setIfInBounds_toArray, List.set_cons_zero, List.set_cons_succ]
    refine wpAnyH_ready (rs := [6]) (by kernel_rfl) (by simp) ?_
    refine AllReadyH.cons (by simp only [List.getElem?_toArray, List.getElem?_cons_succ, List.getElem?_cons_zero]; rfl) (fun Kz hKz => ?_) AllReadyH.nil
    go_simp
    (with_reducible refine (hlo.out _).mono ?_)
    rintro e w3 ⟨v3, rfl, ho3, hnew⟩
    (try replace hO5 := Lib.hid (OwnB.below hO5.out hnew (Nat.le_refl _)))
    obtain ⟨g3, c3, e3, _⟩ := ho3.form (by rw [hno.out]; omega)
    subst e3
    obtain ⟨a4, c4, e4, h3, _⟩ := ho3.arg
    cases e4
    rw [hno.out]
    replace h3 := Lib.hid h3
    clear ho3
    focus (go_wp2_with fail)
    refine hKz.out _ _ (by first | exact hS | exact Below.trans hOn (Below.mono hnew (Below.size hOn))) (fun hNext => ?_)
    clear hKz Kz hOn
    have hOn := hNext
    clear hNext
    try clear hnew
    try clear hS
    try simp only [Act.put, List.setIfInBounds_toArray, List.set_cons_zero, List.set_cons_succ]
    refine wpAnyH_ready (rs := [7]) (by kernel_rfl) (by simp) ?_
    refine AllReadyH.cons (by simp only [List.getElem?_toArray, List.getElem?_cons_succ, List.getElem?_cons_zero]; rfl) (fun Kz hKz => ?_) AllReadyH.nil
    rw [if_pos (by rfl)]
    (refine wpK_appB (.tmp 14) (.tmp 17) rfl w2.heap.size _ [4] rfl hO5 _ _ NO 8 rfl hno h3 (by decide) (by decide) hOn.size ?_)
    intro v9 w9 ho9 hd9 hm9
    have hS := Below.grown hOn hd9.out hOn.size (fun k hk => (World.ownsRow.lt hO5.out k hk).1)
    refine hKz.out _ _ (by first | exact hS | exact Below.trans hOn (Below.mono hnew (Below.size hOn))) (fun hNext => ?_)
    clear hKz Kz hOn
    have hOn := hNext
    clear hNext
    try clear hnew
    try clear hS
    try simp only [Act.put]
    refine wpAnyH_take (i := 8) (v := ?_) (by simp only [List.getElem?_toArray, List.getElem?_cons_succ, List.getElem?_cons_zero]; rfl) (by kernel_rfl) (by kernel_rfl) (by kernel_rfl) (by exact fun _ _ _ h => h) (Or.inl ⟨by rfl, ?_⟩) hOn ?_
    rotate_left
    focus (intro W hSW; go_simp; try with_reducible rfl)
    try simp only [Act.put, List.setIfInBounds_toArray, List.set_cons_zero, List.set_cons_succ]
    refine wpAnyH_done (by kernel_rfl) ?_ _
    rotate_left
    refine AllReadyH.cons (by simp only [List.getElem?_toArray, List.getElem?_cons_succ, List.getElem?_cons_zero]; rfl) (fun Kz hKz => ?_) AllReadyH.nil
    go_simp
    (with_reducible refine (hlo.out _).mono ?_)
    rintro e w3 ⟨v3, rfl, ho3, hnew⟩
    (try replace hO5 := Lib.hid (OwnB.below hO5.out hnew (Nat.le_refl _)))
    obtain ⟨g3, c3, e3, _⟩ := ho3.form (by rw [hno.out]; omega)
    subst e3
    obtain ⟨a4, c4, e4, h3, _⟩ := ho3.arg
    cases e4
    rw [hno.out]
    replace h3 := Lib.hid h3
    clear ho3
    focus (go_wp2_with fail)
    refine hKz.out _ _ (by first | exact hS | exact Below.trans hOn (Below.mono hnew (Below.size hOn))) (fun hNext => ?_)
    clear hKz Kz hOn
    have hOn := hNext
    clear hNext
    try clear hnew
    try clear hS
    try simp only [Act.put, List.setIfInBounds_toArray, List.set_cons_zero, List.set_cons_succ]
    refine wpAnyH_ready (rs := [3]) (by kernel_rfl) (by simp) ?_
    refine AllReadyH.cons (by simp only [List.getElem?_toArray, List.getElem?_cons_succ, List.getElem?_cons_zero]; rfl) (fun Kz hKz => ?_) AllReadyH.nil
    go_simp
    focus (try go_wp2_with fail)
    (with_reducible refine made_step (t := 5) ?_)
    intro w5 hx5 hnew
    have hO5 := Lib.hid (ownB_one (x := 4) (base := w2.heap.size) hx5.out hOn.size)
    (try replace h3 := Lib.hid (h3.out.below hnew))
    clear hx5
    refine hKz.out _ _ (by first | exact hS | exact Below.trans hOn (Below.mono hnew (Below.size hOn))) (fun hNext => ?_)
    clear hKz Kz hOn
    have hOn := hNext
    clear hNext
    try clear hnew
    try clear hS
    try simp only [Act.put, List.setIfInBounds_toArray, List.set_cons_zero, List.set_cons_succ]
    refine wpAnyH_ready (rs := [7]) (by kernel_rfl) (by simp) ?_
    refine AllReadyH.cons (by simp only [List.getElem?_toArray, List.getElem?_cons_succ, List.getElem?_cons_zero]; rfl) (fun Kz hKz => ?_) AllReadyH.nil
    rw [if_pos (by rfl)]
    (refine wpK_appB (.tmp 14) (.tmp 17) rfl w2.heap.size _ [4] rfl hO5 _ _ NO 8 rfl hno h3 (by decide) (by decide) hOn.size ?_)
    intro v9 w9 ho9 hd9 hm9
    have hS := Below.grown hOn hd9.out hOn.size (fun k hk => (World.ownsRow.lt hO5.out k hk).1)
    refine hKz.out _ _ (by first | exact hS | exact Below.trans hOn (Below.mono hnew (Below.size hOn))) (fun hNext => ?_)
    clear hKz Kz hOn
    have hOn := hNext
    clear hNext
    try clear hnew
    try clear hS
    try simp only [Act.put]
    refine wpAnyH_take (i := 8) (v := ?_) (by simp only [List.getElem?_toArray, List.getElem?_cons_succ, List.getElem?_cons_zero]; rfl) (by kernel_rfl) (by kernel_rfl) (by kernel_rfl) (by exact fun _ _ _ h => h) (Or.inl ⟨by rfl, ?_⟩) hOn ?_
    rotate_left
    focus (intro W hSW; go_simp; try with_reducible rfl)
    try simp only [Act.put, List.setIfInBounds_toArray, List.set_cons_zero, List.set_cons_succ]
    refine wpAnyH_done (by kernel_rfl) ?_ _
    all_goals
      go_wp2_with fail
      go_meet
      exact ⟨ho9.out, hOn⟩
  case rest =>
    obtain ⟨ho9, hg9⟩ := hcut
    have q := hcf.out _ _ hrow2.out wc hg9
    have hlen9 : ([4] ++ NO).length = 9 := by simp [hno.out]
    generalize [4] ++ NO = P0 at *
    replace hlen9 := Lib.hid hlen9
    replace hg9 := Lib.hid hg9
    replace ho9 := Lib.hid ho9
    have hbs9 : w2.heap.size ≤ wc.heap.size := hg9.out.size
    clear k0 k1 hdr
    obtain ⟨q0, q1, q2, q3, q4, q5, q6, q7⟩ := q
    go_wp2_with fail
    with_reducible refine (hlt.out _).mono ?_
    rintro e w20 ⟨v20, rfl, hu20, hnew⟩
    obtain ⟨a20, c20, rfl, h20, _⟩ := hu20.arg
    rw [hnt.out]
    replace h20 := Lib.hid h20
    replace ho9 := Lib.hid (OwnB.below ho9.out hnew (Nat.le_refl _))
    have hg20 := Lib.hid (Grown.trans hg9.out hnew)
    have hbs20 : w2.heap.size ≤ w20.heap.size := hg20.out.size
    clear hnew hu20 q0 q1 q2 q3 q4 q5 q6 q7
    obtain ⟨q0, q1, q2, q3, q4, q5, q6, q7⟩ := hcf.out _ _ hrow2.out w20 hg20.out
    go_wp2_with (at_builtin; refine wpB_app rfl (.tmp 76) (.tmp 79) rfl w2.heap.size _ (P0) rfl ho9 a20 c20 NT 8 rfl hnt h20 (by simp [hlen9.out]) (by decide) hbs20 ?_; intro v21 w21 ho21 hd21; have hg21 := Lib.hid (Below.trans hg20.out hd21.out); have hbs21 : w2.heap.size ≤ w21.heap.size := hg21.out.size; clear hd21; have qq21 := hcf.out _ _ hrow2.out w21 hg21.out; clear q0 q1 q2 q3 q4 q5 q6 q7; obtain ⟨q0, q1, q2, q3, q4, q5, q6, q7⟩ := qq21)
    go_ret2
    exact ⟨_, rfl, by rw [hout.out]; simpa using ho21.out.mono hb2.out.size, hb2.out.trans (hg21.out.mono hb2.out.size)⟩
end Go.Proofs.YtahnicbokdbjdaaDoor
/- The walk over baileelaw20.RecordWords. -/
namespace Go.Proofs.YtahnicbokdbjdaaDoor
open Go.RowKit

theorem word1 (w : World) : Calls Tryd.prog 7 #[.int .i64 1] w fun e w' => e = .returned (.string ⟨#[112, 97, 115, 115]⟩) ∧ w = w' := by
  go_enter Tryd.func7, Tryd.ntmps7
  go_wp2_with fail
  go_ret
  exact ⟨rfl, rfl⟩
theorem word2 (w : World) : Calls Tryd.prog 7 #[.int .i64 2] w fun e w' => e = .returned (.string ⟨#[102, 97, 105, 108]⟩) ∧ w = w' := by
  go_enter Tryd.func7, Tryd.ntmps7
  go_wp2_with fail
  go_ret
  exact ⟨rfl, rfl⟩
theorem word3 (w : World) : Calls Tryd.prog 7 #[.int .i64 3] w fun e w' => e = .returned (.string ⟨#[116, 105, 109, 101, 111, 117, 116]⟩) ∧ w = w' := by
  go_enter Tryd.func7, Tryd.ntmps7
  go_wp2_with fail
  go_ret
  exact ⟨rfl, rfl⟩
theorem way1 (w : World) : Calls Tryd.prog 8 #[.int .i64 1] w fun e w' => e = .returned (.string ⟨#[115, 112, 111, 116]⟩) ∧ w = w' := by
  go_enter Tryd.func8, Tryd.ntmps8
  go_wp2_with fail
  go_ret
  exact ⟨rfl, rfl⟩
theorem way2 (w : World) : Calls Tryd.prog 8 #[.int .i64 2] w fun e w' => e = .returned (.string ⟨#[115, 101, 110, 116, 105, 110, 101, 108]⟩) ∧ w = w' := by
  go_enter Tryd.func8, Tryd.ntmps8
  go_wp2_with fail
  go_ret
  exact ⟨rfl, rfl⟩
theorem wordN (n : Int) (h1 : n ≠ 1) (h2 : n ≠ 2) (h3 : n ≠ 3) (w : World) : Calls Tryd.prog 7 #[.int .i64 n] w fun e w' => e = .returned (.string ⟨#[]⟩) ∧ w = w' := by
  have e1 : (n == 1) = false := by simpa using h1
  have e2 : (n == 2) = false := by simpa using h2
  have e3 : (n == 3) = false := by simpa using h3
  go_enter Tryd.func7, Tryd.ntmps7
  go_wp2_with fail
  go_ret
  exact ⟨rfl, rfl⟩
theorem wayN (n : Int) (h1 : n ≠ 1) (h2 : n ≠ 2) (w : World) : Calls Tryd.prog 8 #[.int .i64 n] w fun e w' => e = .returned (.string ⟨#[]⟩) ∧ w = w' := by
  have e1 : (n == 1) = false := by simpa using h1
  have e2 : (n == 2) = false := by simpa using h2
  go_enter Tryd.func8, Tryd.ntmps8
  go_wp2_with fail
  go_ret
  exact ⟨rfl, rfl⟩

set_option maxRecDepth 100000 in
set_option maxHeartbeats 1000000 in
theorem alive20 (w : World) : Calls Tryd.prog 6 #[] w fun e w' => e = .returned (.bool true) ∧ Below w.heap.size w w' := by
  have hby := Lib.hid (bytes_rec w)
  go_enter Tryd.func6, Tryd.ntmps6
  go_wp2_with fail
  refine Calls.mono (hby.out) ?_
  rintro e w1 ⟨a, c, rfl, hb⟩
  replace hb := Lib.hid hb
  clear hby
  go_wp2_with fail
  go_ret
  exact ⟨rfl, hb.out⟩

set_option maxHeartbeats 1000000 in
theorem words_walk (n : Int) (w : World) (_ : (Lit.int IntKind.i64 n).wf = true) : Calls Tryd.prog 3 #[.int .i64 n] w fun e w' => e = .returned (.bool true) ∧ Below w.heap.size w w' := by
  have hal := Lib.hid (alive20 w)
  rcases (show n = 1 ∨ n = 2 ∨ n = 3 ∨ n < 1 ∨ 3 < n from by omega) with rfl | rfl | rfl | hn | hn
  · skip
    go_enter Tryd.func3, Tryd.ntmps3
    go_wp2_with fail
    with_reducible refine hal.out.mono ?_
    rintro e w1 ⟨rfl, hb⟩
    replace hb := Lib.hid hb
    clear hal
    go_wp2_with fail
    with_reducible refine (word1 _).mono ?_
    rintro e w2 ⟨rfl, rfl⟩
    go_wp2_with fail
    with_reducible refine (way1 _).mono ?_
    rintro e w3 ⟨rfl, rfl⟩
    go_wp2_with fail
    go_ret
    exact ⟨rfl, by first | exact hb.out | exact (hb.out.alloc hb.out.size _).alloc (Nat.le_trans hb.out.size (by simp)) _ | exact hb.out.alloc hb.out.size _⟩
  · skip
    go_enter Tryd.func3, Tryd.ntmps3
    go_wp2_with fail
    with_reducible refine hal.out.mono ?_
    rintro e w1 ⟨rfl, hb⟩
    replace hb := Lib.hid hb
    clear hal
    go_wp2_with fail
    with_reducible refine (word2 _).mono ?_
    rintro e w2 ⟨rfl, rfl⟩
    go_wp2_with fail
    with_reducible refine (way2 _).mono ?_
    rintro e w3 ⟨rfl, rfl⟩
    go_wp2_with fail
    go_ret
    exact ⟨rfl, by first | exact hb.out | exact (hb.out.alloc hb.out.size _).alloc (Nat.le_trans hb.out.size (by simp)) _ | exact hb.out.alloc hb.out.size _⟩
  · have hwn := fun w => wayN 3 (by decide) (by decide) w
    go_enter Tryd.func3, Tryd.ntmps3
    go_wp2_with fail
    with_reducible refine hal.out.mono ?_
    rintro e w1 ⟨rfl, hb⟩
    replace hb := Lib.hid hb
    clear hal
    go_wp2_with fail
    with_reducible refine (word3 _).mono ?_
    rintro e w2 ⟨rfl, rfl⟩
    go_wp2_with fail
    with_reducible refine (hwn _).mono ?_
    rintro e w3 ⟨rfl, rfl⟩
    go_wp2_with fail
    go_ret
    exact ⟨rfl, by first | exact hb.out | exact hb.out.alloc hb.out.size _⟩
  · have hwo := Lib.hid (fun w => wordN n (by omega) (by omega) (by omega) w)
    have hwa := Lib.hid (fun w => wayN n (by omega) (by omega) w)
    have d1 : (1 ≤ n) = False := by simp; omega
    have d2 : True := trivial
    have d3 : True := trivial
    clear hn
    go_enter Tryd.func3, Tryd.ntmps3
    go_wp2_with fail
    with_reducible refine hal.out.mono ?_
    rintro e w1 ⟨rfl, hb⟩
    replace hb := Lib.hid hb
    clear hal
    go_wp2_with fail
    with_reducible refine (hwo.out _).mono ?_
    rintro e w2 ⟨rfl, rfl⟩
    go_wp2_with fail
    with_reducible refine (hwa.out _).mono ?_
    rintro e w3 ⟨rfl, rfl⟩
    go_wp2_with fail
    go_ret
    exact ⟨rfl, hb.out⟩
  · have hwo := Lib.hid (fun w => wordN n (by omega) (by omega) (by omega) w)
    have hwa := Lib.hid (fun w => wayN n (by omega) (by omega) w)
    have d1 : (1 ≤ n) = True := by simp; omega
    have d2 : (n ≤ 3) = False := by simp; omega
    have d3 : (n ≤ 2) = False := by simp; omega
    clear hn
    go_enter Tryd.func3, Tryd.ntmps3
    go_wp2_with fail
    with_reducible refine hal.out.mono ?_
    rintro e w1 ⟨rfl, hb⟩
    replace hb := Lib.hid hb
    clear hal
    go_wp2_with fail
    with_reducible refine (hwo.out _).mono ?_
    rintro e w2 ⟨rfl, rfl⟩
    go_wp2_with fail
    with_reducible refine (hwa.out _).mono ?_
    rintro e w3 ⟨rfl, rfl⟩
    go_wp2_with fail
    go_ret
    exact ⟨rfl, hb.out⟩

end Go.Proofs.YtahnicbokdbjdaaDoor
