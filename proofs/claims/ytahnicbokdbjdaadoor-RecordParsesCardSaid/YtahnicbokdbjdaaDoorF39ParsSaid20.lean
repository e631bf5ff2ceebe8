/- Bytes4, Words20, BytesGood, OneU. -/
import Derived.Test.YtahnicbokdbjdaaDoorF23ParsSaid20
import Derived.Test.YtahnicbokdbjdaaDoorF20ParsSaid20
import Derived.Test.YtahnicbokdbjdaaDoorF22ParsSaid20
import Derived.Test.YtahnicbokdbjdaaDoorF35ParsSaid20
import Derived.Test.YtahnicbokdbjdaaDoorF36ParsSaid20
import Derived.Test.YtahnicbokdbjdaaDoorF37ParsSaid20
import Derived.Test.YtahnicbokdbjdaaDoorF38ParsSaid20
import Derived.Test.YtahnicbokdbjdaaDoorF6ParsSaid20
/- record.Bytes of a right record of kind 4. Printed by genbytes.py. -/
namespace Go.Proofs.YtahnicbokdbjdaaDoor
open Go.RowKit
set_option linter.unusedVariables false

set_option maxRecDepth 100000 in
set_option maxHeartbeats 2000000 in
theorem bytes_k4 (x : Rc) (hx : x.Ok) (hk : x.kind = 4) (hc : x.chk = 0) (ea : Nat → Addr) (w : World) (H : Errs 132 errGs w ea) : Calls Tryd.prog 10 #[.agg x.list.toArray] w (BytesPost x w) := by
  have hs := Rc.size hx
  have hck := Lib.hid (fun W h => check0 x hx hc ea W h)
  have hsz : (Tryd.prog.info? 31).map (·.size) = some x.list.toArray.size := by rw [hs]; kernel_rfl
  have hnums := (Rc.chk0 hc).2.1
  have hout : x.out = x.head ++ numB x.tick := by unfold Rc.out; rw [if_neg (by omega), if_neg (by omega), if_neg (by omega)]
  have hhd : x.head = [4] ++ numB x.obj := by unfold Rc.head; rw [hk]; rfl
  have hcf := Rc.kept x hx 31
  rw [hk] at hcf
  have hlo := Lib.hid (fun W => lnum_any x.obj W hx.obj.1 hx.obj.2)
  have hlt := Lib.hid (fun W => lnum_any x.tick W hx.tick.1 hx.tick.2)
  have hli := Lib.hid (fun W => lnum_any x.id W hx.id.1 hx.id.2)
  have hno := Lib.hid (numB_length x.obj)
  have hnt := Lib.hid (numB_length x.tick)
  have hni := Lib.hid (numB_length x.id)
  rw [hhd] at hout
  generalize numB x.obj = NO at *
  generalize numB x.tick = NT at *
  generalize numB x.id = NI at *
  clear hhd hnums hk hc
  generalize hR : x.list.toArray = R at *
  replace hR := Lib.hid hR
  replace hcf := Lib.hid hcf
  replace hout := Lib.hid hout
  replace H := Lib.hid H
  have hrow := Lib.hid (heap_alloc_new w (.cells R 31))
  have hb := Lib.hid (show Below w.heap.size w (w.alloc (.cells R 31)) from (Below.refl _ _).alloc (Nat.le_refl _) _)
  have hzc := Tryd.underlying31
  obtain ⟨X, hX⟩ : ∃ X, X = x := ⟨_, rfl⟩
  generalize x.obj = vo at *
  generalize x.tick = vt at *
  generalize x.id = vi at *
  generalize x.way = vw at *
  generalize x.index = vx at *
  generalize x.verdict = vv at *
  generalize x.name = vn at *
  clear hx hs
  go_enter Tryd.func10, Tryd.ntmps10
  go_wp2_with (with_reducible refine wpList_load_row rfl 31 (.tmp 1) rfl w.heap.size R _ rfl hrow hzc rfl hsz ?_)
  with_reducible refine (hck.out _ (H.out.below hb.out)).mono ?_
  rintro e w2 ⟨rfl, hnew⟩
  have hrow2 := Lib.hid ((hnew.block _ (block_lt hrow.out)).trans hrow.out)
  have hb2 := Lib.hid (hb.out.trans (hnew.mono hb.out.size))
  clear hnew hrow hb hck
  go_wp2_with fail
  have k0 := fun W h => (hcf.out _ _ hrow2.out W h).1
  have k1 := fun W h => (hcf.out _ _ hrow2.out W h).2.1
  have hdr : Hid (Grown w2 w2.drew) := Lib.hid (Grown.drew (Grown.refl w2))
  go_cut [5] from 14 to 22 (fun s5 wx => OwnB w2.heap.size wx s5 ([4] ++ NO) ∧ Grown w2 wx)
  case first =>
    refine wp_region_held_drew (S := (Grown w2)) (by kernel_rfl) hdr.out (fun hOn => ?_)
    generalize World.drew w2 = wd at *
    refine wpAnyH_take (i := 0) (v := ?_) (by simp only [List.getElem?_toArray, List.getElem?_cons_zero]; rfl) (by kernel_rfl) (by kernel_rfl) (by kernel_rfl) (by exact fun _ _ _ h => h) (Or.inl ⟨by rfl, ?_⟩) hOn ?_
    rotate_left
    focus (intro W hSW; go_simp; try with_reducible rfl)
    try simp only [Act.put, List.setIfInBounds_toArray, List.set_cons_zero, List.set_cons_succ]
    refine wpAnyH_take (i := 1) (v := ?_) (by simp only [List.getElem?_toArray, List.getElem?_cons_succ, List.getElem?_cons_zero]; rfl) (by kernel_rfl) (by kernel_rfl) (by kernel_rfl) (by exact fun _ _ _ h => h) (Or.inl ⟨by rfl, ?_⟩) hOn ?_
    rotate_left
    focus (intro W hSW; go_simp; try with_reducible rfl)
    try simp only [Act.put, List.setIfInBounds_toArray, List.set_cons_zero, List.set_cons_succ]
    refine wpAnyH_take (i := 2) (v := ?_) (by simp only [List.getElem?_toArray, List.getElem?_cons_succ, List.getElem?_cons_zero]; rfl) (by kernel_rfl) (by kernel_rfl) (by kernel_rfl) (by exact fun _ _ _ h => h) (Or.inl ⟨by rfl, ?_⟩) hOn ?_
    rotate_left
    focus (intro W hSW; go_simp; try with_reducible rfl)
    try simp only [Act.put, List.setIfInBounds_toArray, List.set_cons_zero, List.set_cons_succ]
    refine wpAnyH_take (i := 4) (v := ?_) (by simp only [List.getElem?_toArray, List.getElem?_cons_succ, List.getElem?_cons_zero]; rfl) (by kernel_rfl) (by kernel_rfl) (by kernel_rfl) (by exact fun _ _ _ h => h) (Or.inl ⟨by rfl, ?_⟩) hOn ?_
    rotate_left
    focus (intro W hSW; go_simp; try with_reducible rfl)
    try simp only [Act.put, List.setIfInBounds_toArray, List.set_cons_zero, List.set_cons_succ]
    refine wpAnyH_take (i := 5) (v := ?_) (by simp only [List.getElem?_toArray, List.getElem?_cons_succ, List.getElem?_cons_zero]; rfl) (by kernel_rfl) (by kernel_rfl) (by kernel_rfl) (by exact fun _ _ _ h => h) (Or.inl ⟨by rfl, ?_⟩) hOn ?_
    rotate_left
    focus (intro W hSW; go_simp; try with_reducible rfl)
    try simp only [Act.put, List.setIfInBounds_toArray, List.set_cons_zero, List.set_cons_succ]
    refine wpAnyH_ready (rs := [3, 6]) (by kernel_rfl) (by simp) ?_
    refine AllReadyH.cons (by simp only [List.getElem?_toArray, List.getElem?_cons_succ, List.getElem?_cons_zero]; rfl) (fun Kz hKz => ?_) ?_
    go_simp
    focus (try go_wp2_with fail)
    (with_reducible refine made_step (t := 5) ?_)
    intro w5 hx5 hnew
    have hO5 := Lib.hid (ownB_one (x := 4) (base := w2.heap.size) hx5.out hOn.size)
    (try replace h3 := Lib.hid (h3.out.below hnew))
    clear hx5
    refine hKz.out _ _ (by first | exact hS | exact Below.trans hOn (Below.mono hnew (Below.size hOn))) (fun hNext => ?_)
    clear hKz Kz hOn
    have hOn := hNext
    clear hNext
    try clear hnew
    try clear hS
    try simp only [Act.put, List.setIfInBounds_toArray, List.set_cons_zero, List.set_cons_succ]
    refine wpAnyH_ready (rs := [6]) (by kernel_rfl) (by simp) ?_
    refine AllReadyH.cons (by simp only [List.getElem?_toArray, List.getElem?_cons_succ, List.getElem?_cons_zero]; rfl) (fun Kz hKz => ?_) AllReadyH.nil
    go_simp
    (with_reducible refine (hlo.out _).mono ?_)
    rintro e w3 ⟨v3, rfl, ho3, hnew⟩
    (try replace hO5 := Lib.hid (OwnB.below hO5.out hnew (Nat.le_refl _)))
    obtain ⟨g3, c3, e3, _⟩ := ho3.form (by rw [hno.out]; omega)
    subst e3
    obtain ⟨a4, c4, e4, h3, _⟩ := ho3.arg
    cases e4
    rw [hno.out]
    replace h3 := Lib.hid h3
    clear ho3
    focus (go_wp2_with fail)
    refine hKz.out _ _ (by first | exact hS | exact Below.trans hOn (Below.mono hnew (Below.size hOn))) (fun hNext => ?_)
    clear hKz Kz hOn
    have hOn := hNext
    clear hNext
    try clear hnew
    try clear hS
    try simp only [Act.put, List.setIfInBounds_toArray, List.set_cons_zero, List.set_cons_succ]
    refine wpAnyH_ready (rs := [7]) (by kernel_rfl) (by simp) ?_
    refine AllReadyH.cons (by simp only [List.getElem?_toArray, List.getElem?_cons_succ, List.getElem?_cons_zero]; rfl) (fun Kz hKz => ?_) AllReadyH.nil
    rw [if_pos (by rfl)]
    (refine wpK_appB (.tmp 17) (.tmp 20) rfl w2.heap.size _ [4] rfl hO5 _ _ NO 8 rfl hno h3 (by decide) (by decide) hOn.size ?_)
    intro v9 w9 ho9 hd9 hm9
    have hS := Below.grown hOn hd9.out hOn.size (fun k hk => (World.ownsRow.lt hO5.out k hk).1)
    refine hKz.out _ _ (by first | exact hS | exact Below.trans hOn (Below.mono hnew (Below.size hOn))) (fun hNext => ?_)
    clear hKz Kz hOn
    have hOn := hNext
    clear hNext
    try clear hnew
    try clear hS
    try simp only [Act.put]
    refine wpAnyH_take (i := 8) (v := ?_) (by simp only [List.getElem?_toArray, List.getElem?_cons_succ, List.getElem?_cons_zero]; rfl) (by kernel_rfl) (by kernel_rfl) (by kernel_rfl) (by exact fun _ _ _ h => h) (Or.inl ⟨by rfl, ?_⟩) hOn ?_
    rotate_left
    focus (intro W hSW; go_simp; try with_reducible rfl)
    try simp only [Act.put, List.setIfInBounds_toArray, List.set_cons_zero, List.set_cons_succ]
    refine wpAnyH_done (by kernel_rfl) ?_ _
    rotate_left
    refine AllReadyH.cons (by simp only [List.getElem?_toArray, List.getElem?_cons_succ, List.getElem?_cons_zero]; rfl) (fun Kz hKz => ?_) AllReadyH.nil
    go_simp
    (with_reducible refine (hlo.out _).mono ?_)
    rintro e w3 ⟨v3, rfl, ho3, hnew⟩
    (try replace hO5 := Lib.hid (OwnB.below hO5.out hnew (Nat.le_refl _)))
    obtain ⟨g3, c3, e3, _⟩ := ho3.form (by rw [hno.out]; omega)
    subst e3
    obtain ⟨a4, c4, e4, h3, _⟩ := ho3.arg
    cases e4
    rw [hno.out]
    replace h3 := Lib.hid h3
    clear ho3
    focus (go_wp2_with fail)
    refine hKz.out _ _ (by first | exact hS | exact Below.trans hOn (Below.mono hnew (Below.size hOn))) (fun hNext => ?_)
    clear hKz Kz hOn
    have hOn := hNext
    clear hNext
    try clear hnew
    try clear hS
    try simp only [Act.put, List.setIfInBounds_toArray, List.set_cons_zero, List.set_cons_succ]
    refine wpAnyH_ready (rs := [3]) (by kernel_rfl) (by simp) ?_
    refine AllReadyH.cons (by simp only [List.getElem?_toArray, List.getElem?_cons_succ, List.getElem?_cons_zero]; rfl) (fun Kz hKz => ?_) AllReadyH.nil
    go_simp
    focus (try go_wp2_with fail)
    (with_reducible refine made_step (t := 5) ?_)
    intro w5 hx5 hnew
    have hO5 := Lib.hid (ownB_one (x := 4) (base := w2.heap.size) hx5.out hOn.size)
    (try replace h3 := Lib.hid (h3.out.below hnew))
    clear hx5
    refine hKz.out _ _ (by first | exact hS | exact Below.trans hOn (Below.mono hnew (Below.size hOn))) (fun hNext => ?_)
    clear hKz Kz hOn
    have hOn := hNext
    clear hNext
    try clear hnew
    try clear hS
    try simp only [Act.put, List.setIfInBounds_toArray, List.set_cons_zero, List.set_cons_succ]
    refine wpAnyH_ready (rs := [7]) (by kernel_rfl) (by simp) ?_
    refine AllReadyH.cons (by simp only [List.getElem?_toArray, List.getElem?_cons_succ, List.getElem?_cons_zero]; rfl) (fun Kz hKz => ?_) AllReadyH.nil
    rw [if_pos (by rfl)]
    (refine wpK_appB (.tmp 17) (.tmp 20) rfl w2.heap.size _ [4] rfl hO5 _ _ NO 8 rfl hno h3 (by decide) (by decide) hOn.size ?_)
    intro v9 w9 ho9 hd9 hm9
    have hS := Below.grown hOn hd9.out hOn.size (fun k hk => (World.ownsRow.lt hO5.out k hk).1)
    refine hKz.out _ _ (by first | exact hS | exact Below.trans hOn (Below.mono hnew (Below.size hOn))) (fun hNext => ?_)
    clear hKz Kz hOn
    have hOn := hNext
    clear hNext
    try clear hnew
    try clear hS
    try simp only [Act.put]
    refine wpAnyH_take (i := 8) (v := ?_) (by simp only [List.getElem?_toArray, List.getElem?_cons_succ, List.getElem?_cons_zero]; rfl) (by kernel_rfl) (by kernel_rfl) (by kernel_rfl) (by exact fun _ _ _ h => h) (Or.inl ⟨by rfl, ?_⟩) hOn ?_
    rotate_left
    focus (intro W hSW; go_simp; try with_reducible rfl)
    try simp only [Act.put, List.setIfInBounds_toArray, List.set_cons_zero, List.set_cons_succ]
    refine wpAnyH_done (by kernel_rfl) ?_ _
    all_goals
      go_wp2_with fail
      go_meet
      exact ⟨ho9.out, hOn⟩
  case rest =>
    obtain ⟨ho9, hg9⟩ := hcut
    obtain ⟨q0, q1, q2, q3, q4, q5, q6, q7⟩ := hcf.out _ _ hrow2.out wc hg9
    have hP0 : ([4] ++ NO).length = 9 := by simp [hno.out]
    generalize [4] ++ NO = P0 at *
    replace hP0 := Lib.hid hP0
    replace hg9 := Lib.hid hg9
    replace ho9 := Lib.hid ho9
    obtain ⟨a9, c9, e9, h9, _⟩ := ho9.out.arg
    rw [hP0.out] at e9
    subst e9
    replace h9 := Lib.hid h9
    clear k0 k1 hdr
    go_wp2_with fail
    with_reducible refine (hlt.out _).mono ?_
    rintro e w10 ⟨v10, rfl, ho10, hnew⟩
    obtain ⟨a10, c10, rfl, h10, _⟩ := ho10.arg
    rw [hnt.out]
    replace h9 := Lib.hid (h9.out.below hnew)
    replace ho9 := Lib.hid (OwnB.below ho9.out hnew (Nat.le_refl _))
    replace h10 := Lib.hid h10
    have hg10 := Lib.hid (Grown.trans hg9.out hnew)
    clear hnew ho10 q0 q1 q2 q3 q4 q5 q6 q7
    obtain ⟨q0, q1, q2, q3, q4, q5, q6, q7⟩ := hcf.out _ _ hrow2.out w10 hg10.out
    have hbs : w2.heap.size ≤ w10.heap.size := hg10.out.size
    go_wp2_with (at_builtin; refine wpB_app rfl (.tmp 82) (.tmp 83) rfl w2.heap.size _ P0 rfl ho9 a10 c10 NT 8 rfl hnt h10 (by rw [hP0.out]; decide) (by decide) hbs ?_; intro v11 w11 ho11 hb11; have hfin := Lib.hid (hb2.out.trans ((Below.trans hg10.out hb11.out).mono hb2.out.size)))
    go_ret2
    exact ⟨_, rfl, by rw [hout.out]; exact ho11.out.mono hb2.out.size, hfin.out⟩
end Go.Proofs.YtahnicbokdbjdaaDoor
/- The walk over baileelaw20.RecordWords. -/
namespace Go.Proofs.YtahnicbokdbjdaaDoor
open Go.RowKit

theorem word1 (w : World) : Calls Tryd.prog 7 #[.int .i64 1] w fun e w' => e = .returned (.string ⟨#[112, 97, 115, 115]⟩) ∧ w = w' := by
  go_enter Tryd.func7, Tryd.ntmps7
  go_wp2_with fail
  go_ret
  exact ⟨rfl, rfl⟩
theorem word2 (w : World) : Calls Tryd.prog 7 #[.int .i64 2] w fun e w' => e = .returned (.string ⟨#[102, 97, 105, 108]⟩) ∧ w = w' := by
  go_enter Tryd.func7, Tryd.ntmps7
  go_wp2_with fail
  go_ret
  exact ⟨rfl, rfl⟩
theorem word3 (w : World) : Calls Tryd.prog 7 #[.int .i64 3] w fun e w' => e = .returned (.string ⟨#[116, 105, 109, 101, 111, 117, 116]⟩) ∧ w = w' := by
  go_enter Tryd.func7, Tryd.ntmps7
  go_wp2_with fail
  go_ret
  exact ⟨rfl, rfl⟩
theorem way1 (w : World) : Calls Tryd.prog 8 #[.int .i64 1] w fun e w' => e = .returned (.string ⟨#[115, 112, 111, 116]⟩) ∧ w = w' := by
  go_enter Tryd.func8, Tryd.ntmps8
  go_wp2_with fail
  go_ret
  exact ⟨rfl, rfl⟩
theorem way2 (w : World) : Calls Tryd.prog 8 #[.int .i64 2] w fun e w' => e = .returned (.string ⟨#[115, 101, 110, 116, 105, 110, 101, 108]⟩) ∧ w = w' := by
  go_enter Tryd.func8, Tryd.ntmps8
  go_wp2_with fail
  go_ret
  exact ⟨rfl, rfl⟩
theorem wordN (n : Int) (h1 : n ≠ 1) (h2 : n ≠ 2) (h3 : n ≠ 3) (w : World) : Calls Tryd.prog 7 #[.int .i64 n] w fun e w' => e = .returned (.string ⟨#[]⟩) ∧ w = w' := by
  have e1 : (n == 1) = false := by simpa using h1
  have e2 : (n == 2) = false := by simpa using h2
  have e3 : (n == 3) = false := by simpa using h3
  go_enter Tryd.func7, Tryd.ntmps7
  go_wp2_with fail
  go_ret
  exact ⟨rfl, rfl⟩
theorem wayN (n : Int) (h1 : n ≠ 1) (h2 : n ≠ 2) (w : World) : Calls Tryd.prog 8 #[.int .i64 n] w fun e w' => e = .returned (.string ⟨#[]⟩) ∧ w = w' := by
  have e1 : (n == 1) = false := by simpa using h1
  have e2 : (n == 2) = false := by simpa using h2
  go_enter Tryd.func8, Tryd.ntmps8
  go_wp2_with fail
  go_ret
  exact ⟨rfl, rfl⟩

set_option maxRecDepth 100000 in
set_option maxHeartbeats 1000000 in
theorem alive20 (w : World) : Calls Tryd.prog 6 #[] w fun e w' => e = .returned (.bool true) ∧ Below w.heap.size w w' := by
  have hby := Lib.hid (bytes_rec w)
  go_enter Tryd.func6, Tryd.ntmps6
  go_wp2_with fail
  refine Calls.mono (hby.out) ?_
  rintro e w1 ⟨a, c, rfl, hb⟩
  replace hb := Lib.hid hb
  clear hby
  go_wp2_with fail
  go_ret
  exact ⟨rfl, hb.out⟩

set_option maxHeartbeats 1000000 in
theorem words_walk (n : Int) (w : World) (_ : (Lit.int IntKind.i64 n).wf = true) : Calls Tryd.prog 3 #[.int .i64 n] w fun e w' => e = .returned (.bool true) ∧ Below w.heap.size w w' := by
  have hal := Lib.hid (alive20 w)
  rcases (show n = 1 ∨ n = 2 ∨ n = 3 ∨ n < 1 ∨ 3 < n from by omega) with rfl | rfl | rfl | hn | hn
  · skip
    go_enter Tryd.func3, Tryd.ntmps3
    go_wp2_with fail
    with_reducible refine hal.out.mono ?_
    rintro e w1 ⟨rfl, hb⟩
    replace hb := Lib.hid hb
    clear hal
    go_wp2_with fail
    with_reducible refine (word1 _).mono ?_
    rintro e w2 ⟨rfl, rfl⟩
    go_wp2_with fail
    with_reducible refine (way1 _).mono ?_
    rintro e w3 ⟨rfl, rfl⟩
    go_wp2_with fail
    go_ret
    exact ⟨rfl, by first | exact hb.out | exact (hb.out.alloc hb.out.size _).alloc (Nat.le_trans hb.out.size (by simp)) _ | exact hb.out.alloc hb.out.size _⟩
  · skip
    go_enter Tryd.func3, Tryd.ntmps3
    go_wp2_with fail
    with_reducible refine hal.out.mono ?_
    rintro e w1 ⟨rfl, hb⟩
    replace hb := Lib.hid hb
    clear hal
    go_wp2_with fail
    with_reducible refine (word2 _).mono ?_
    rintro e w2 ⟨rfl, rfl⟩
    go_wp2_with fail
    with_reducible refine (way2 _).mono ?_
    rintro e w3 ⟨rfl, rfl⟩
    go_wp2_with fail
    go_ret
    exact ⟨rfl, by first | exact hb.out | exact (hb.out.alloc hb.out.size _).alloc (Nat.le_trans hb.out.size (by simp)) _ | exact hb.out.alloc hb.out.size _⟩
  · have hwn := fun w => wayN 3 (by decide) (by decide) w
    go_enter Tryd.func3, Tryd.ntmps3
    go_wp2_with fail
    with_reducible refine hal.out.mono ?_
    rintro e w1 ⟨rfl, hb⟩
    replace hb := Lib.hid hb
    clear hal
    go_wp2_with fail
    with_reducible refine (word3 _).mono ?_
    rintro e w2 ⟨rfl, rfl⟩
    go_wp2_with fail
    with_reducible refine (hwn _).mono ?_
    rintro e w3 ⟨rfl, rfl⟩
    go_wp2_with fail
    go_ret
    exact ⟨rfl, by first | exact hb.out | exact hb.out.alloc hb.out.size _⟩
  · have hwo := Lib.hid (fun w => wordN n (by omega) (by omega) (by omega) w)
    have hwa := Lib.hid (fun w => wayN n (by omega) (by omega) w)
    have d1 : (1 ≤ n) = False := by simp; omega
    have d2 : True := trivial
    have d3 : True := trivial
    clear hn
    go_enter Tryd.func3, Tryd.ntmps3
    go_wp2_with fail
    with_reducible refine hal.out.mono ?_
    rintro e w1 ⟨rfl, hb⟩
    replace hb := Lib.hid hb
    clear hal
    go_wp2_with fail
    with_reducible refine (hwo.out _).mono ?_
    rintro e w2 ⟨rfl, rfl⟩
    go_wp2_with fail
    with_reducible refine (hwa.out _).mono ?_
    rintro e w3 ⟨rfl, rfl⟩
    go_wp2_with fail
    go_ret
    exact ⟨rfl, hb.out⟩
  · have hwo := Lib.hid (fun w => wordN n (by omega) (by omega) (by omega) w)
    have hwa := Lib.hid (fun w => wayN n (by omega) (by omega) w)
    have d1 : (1 ≤ n) = True := by simp; omega
    have d2 : (n ≤ 3) = False := by simp; omega
    have d3 : (n ≤ 2) = False := by simp; omega
    clear hn
    go_enter Tryd.func3, Tryd.ntmps3
    go_wp2_with fail
    with_reducible refine hal.out.mono ?_
    rintro e w1 ⟨rfl, hb⟩
    replace hb := Lib.hid hb
    clear hal
    go_wp2_with fail
    with_reducible refine (hwo.out _).mono ?_
    rintro e w2 ⟨rfl, rfl⟩
    go_wp2_with fail
    with_reducible refine (hwa.out _).mono ?_
    rintro e w3 ⟨rfl, rfl⟩
    go_wp2_with fail
    go_ret
    exact ⟨rfl, hb.out⟩

end Go.Proofs.YtahnicbokdbjdaaDoor
/- record.Bytes of a right record; Parse of its bytes: for every kind. -/
namespace Go.Proofs.YtahnicbokdbjdaaDoor
open Go.RowKit
set_option linter.unusedVariables false

theorem bytes_good (x : Rc) (hx : x.Ok) (hc : x.chk = 0) (ea : Nat → Addr) (w : World) (H : Errs 132 errGs w ea) : Calls Tryd.prog 10 #[.agg x.list.toArray] w (BytesPost x w) := by
  obtain ⟨hk, _⟩ := Rc.chk0 hc
  rcases (show x.kind = 1 ∨ x.kind = 2 ∨ x.kind = 3 ∨ x.kind = 4 by omega) with h | h | h | h
  · exact bytes_k1 x hx h hc ea w H
  · exact bytes_k2 x hx h hc ea w H
  · exact bytes_k3 x hx h hc ea w H
  · exact bytes_k4 x hx h hc ea w H
theorem parse_good (x : Rc) (hx : x.Ok) (hc : x.chk = 0) (a : Option Addr) (c : Nat) (n : Nat) (w : World) (ha : ArgB w a c x.out) (hn : x.out.length = n) (hm : n ≤ 1000) (haf : ∀ ad, a = some ad → ∃ b o, ad = ⟨b, o, none⟩ ∧ b < w.heap.size) (ea : Nat → Addr) (H : Errs 132 errGs w ea) :
    Calls Tryd.prog 14 #[.slice a n c] w (PGood x w) := by
  obtain ⟨hk, _⟩ := Rc.chk0 hc
  rcases (show x.kind = 1 ∨ x.kind = 2 ∨ x.kind = 3 ∨ x.kind = 4 by omega) with h | h | h | h
  · exact parse_good1 x hx h hc a c n w ha hn hm haf ea H
  · exact parse_good2 x hx h hc a c n w ha hn hm haf ea H
  · exact parse_good3 x hx h hc a c n w ha hn hm haf ea H
  · exact parse_good4 x hx h hc a c n w ha hn hm haf ea H
theorem out_le (x : Rc) (hx : x.Ok) (hc : x.chk = 0) : 1 ≤ x.out.length ∧ x.out.length ≤ 1000 := by
  have hl : x.kind = 1 → x.name.size ≤ 12 := fun h => lab_size ((Rc.chk0 hc).2.2.2 h).1
  have hb : (bytesL x.p.s x.p.n x.p.k x.p.d x.p.t x.p.r).length = 9 := rfl
  unfold Rc.out Rc.head
  split
  · next h =>
    have := hl h
    simp [numB_length, hx.root, hx.file, hb]
    omega
  · split
    · simp [numB_length]
    · split <;> simp [numB_length]

end Go.Proofs.YtahnicbokdbjdaaDoor
/- One cell of a block that is known: stored (its cells behind it), loaded. Of whatever program. -/
namespace Go.Proofs.YtahnicbokdbjdaaDoor
open Go.RowKit
section
variable {P : Program} {ops : Array Oper} {rest : List Oper} {o : Oper} {a : Act} {w : World} {Q : Exit → Act → World → Prop}
theorem run_storeVar_cell (w : World) (b j : Nat) (ty T : TypeId) (C : Array Value) (v : Value) (hg : w.heap[b]? = some (.cells C T (0, 0))) (hj : j < C.size) (hi : (P.info? ty).map (·.size) = some 1) (h1 : v.oneCell' = true) :
    (storeVar ty ⟨b, j, none⟩ v).run P w = .ok () (w.setCell ⟨b, j, none⟩ v) := by
  have ht := there_of_block hg j 1 (by omega)
  have := run_storeCells_cells (P := P) b j [v] 0 w (fun i hi => by simpa using (ht i (by simpa using hi)).1) (fun i hi => by simpa using (ht i (by simpa using hi)).2) (fun x hx => by simp at hx; subst hx; exact h1)
  have hc : v.cells = #[v] := by cases v <;> first | rfl | cases h1
  cases hq : P.info? ty with
  | none => simp [hq] at hi
  | some i =>
    have hs : i.size = 1 := by simpa [hq] using hi
    simp only [Nat.add_zero] at this
    simp [storeVar, sizeOf, typeInfo, hq, hc, hs, this, World.setCells]
theorem wp_store_oneU {K : Act → World → Prop} (ty T : TypeId) (x y : Operand) (ho : o.op = .store ty x y) (g j : Nat) (C : Array Value) (v : Value)
    (hx : a.eval x = .pointer (some ⟨g, j, none⟩)) (hy : a.eval y = v) (hg : Hid (w.heap[g]? = some (.cells C T (0, 0)))) (hj : j < C.size) (hi : (P.info? ty).map (·.size) = some 1) (h1 : v.oneCell' = true)
    (h : ∀ w', Hid (Upd g (.cells (C.setIfInBounds j v) T (0, 0)) w w') → K (a.put o.dst undef) w') : o.wp P a w K Q := by
  unfold Oper.wp execOp
  simp only [ho, hx, hy, Instr.storeAt, Instr.sureAddr, Sem.run_bind, Sem.run_pure, Result.andThen_ok, run_storeVar_cell w g j ty T C v hg.out hj hi h1]
  exact h _ (Lib.hid ((Upd.refl hg.out).setCell v))
theorem wpList_store_oneU (hgd : o.guard = none) (ty T : TypeId) (x y : Operand) (ho : o.op = .store ty x y) (g j : Nat) (C : Array Value) (v : Value)
    (hx : a.eval x = .pointer (some ⟨g, j, none⟩)) (hy : a.eval y = v) (hg : Hid (w.heap[g]? = some (.cells C T (0, 0)))) (hj : j < C.size) (hi : (P.info? ty).map (·.size) = some 1) (h1 : v.oneCell' = true)
    (h : ∀ w', Hid (Upd g (.cells (C.setIfInBounds j v) T (0, 0)) w w') → wpList P ops Q rest (a.put o.dst undef) w') : wpList P ops Q (o :: rest) a w :=
  wpList_plain hgd fun K hK => wp_store_oneU (K := K) ty T x y ho g j C v hx hy hg hj hi h1 (fun w' hw => hK _ _ (h w' hw))
end
end Go.Proofs.YtahnicbokdbjdaaDoor
