/- baileeref20.Bytes of a right record of kind 1. Printed by genrbytes.py. -/
import Derived.Test.YtahnicbokdbjdaaDoorF39BytesSaid20
import Derived.Test.YtahnicbokdbjdaaDoorF20BytesSaid20
namespace Go.Proofs.YtahnicbokdbjdaaDoor
open Go.RowKit
set_option linter.unusedVariables false

set_option maxRecDepth 100000 in
set_option maxHeartbeats 2000000 in
theorem rbytes_k1 (x : Rc) (hx : x.Ok) (hk : x.kind = 1) (hc : x.chk = 0) (w : World) : Calls Tryd.prog 11 #[.agg x.list.toArray] w (RBytesPost x w) := by
  have hs := Rc.size hx
  have hck := Lib.hid (fun W => rcheck0 x hx hc W)
  have hsz : (Tryd.prog.info? 34).map (·.size) = some x.list.toArray.size := by rw [hs]; kernel_rfl
  have hnums := (Rc.chk0 hc).2.1
  have hout : x.out = x.head ++ ([b8 (x.name.size : Int)] ++ (x.name.data.toList ++ (bytesL x.p.s x.p.n x.p.k x.p.d x.p.t x.p.r ++ (x.root ++ (x.file ++ numB x.tick))))) := by unfold Rc.out; rw [if_pos hk]
  have hhd : x.head = [1] ++ numB x.obj := by unfold Rc.head; rw [hk]; rfl
  have hcf := Rc.kept x hx 34
  rw [hk] at hcf
  have hlo := Lib.hid (fun W => rnum_any x.obj W hx.obj.1 hx.obj.2)
  have hlt := Lib.hid (fun W => rnum_any x.tick W hx.tick.1 hx.tick.2)
  have hli := Lib.hid (fun W => rnum_any x.id W hx.id.1 hx.id.2)
  have hno := Lib.hid (numB_length x.obj)
  have hnt := Lib.hid (numB_length x.tick)
  have hni := Lib.hid (numB_length x.id)
  obtain ⟨hlabt, hbad⟩ := (Rc.chk0 hc).2.2.2 hk
  have hpo := badAt_ok hbad
  have hsz12 : x.name.size ≤ 12 := lab_size hlabt
  have hwv : IntKind.u8.wrap (x.name.size : Int) = ((b8 (x.name.size : Int)).toNat : Int) := by rw [b8_val _ (by omega)]; rw [IntKind.wrap_u8]; omega
  have hpb := Lib.hid (fun W => rbytes_any x.p.s x.p.n x.p.k x.p.d x.p.t x.p.r W hpo)
  have hbl := Lib.hid (show (bytesL x.p.s x.p.n x.p.k x.p.d x.p.t x.p.r).length = 9 from rfl)
  have hrf := Lib.hid (fun (W : World) b h => argB_root x hx 34 (W := W) (b := b) h)
  have hff := Lib.hid (fun (W : World) b h => argB_file x hx 34 (W := W) (b := b) h)
  have hrl := Lib.hid hx.root
  have hfl := Lib.hid hx.file
  have hpf := fun (W : World) (b : Nat) (h : W.heap[b]? = some (.cells x.list.toArray 34 (0, 0))) => rangeAt_sub h (o := 4) (n := 6) (Rc.sub_p x)
  have i4 : (Tryd.prog.info? 32).map (·.size) = some x.p.list.length := by rw [P6.len]; kernel_rfl
  have hup := Tryd.underlying32
  have hnm := Lib.hid (show x.name.data.toList.length = x.name.size by simp)
  have hsm := Lib.hid (show x.name.size ≤ 12 by omega)
  obtain ⟨PP, hPP⟩ : ∃ PP, PP = x.p.list.toArray := ⟨_, rfl⟩
  have hpb2 : Hid (∀ W, Calls Tryd.prog 24 #[.agg PP] W fun e w2 => ∃ b, e = .returned (.slice (some ⟨b, 0, none⟩) 9 9) ∧ ArgB w2 (some ⟨b, 0, none⟩) 9 (bytesL x.p.s x.p.n x.p.k x.p.d x.p.t x.p.r) ∧ Below W.heap.size W w2) := by rw [hPP]; exact hpb
  replace hPP := Lib.hid hPP
  replace hpf := Lib.hid hpf
  rw [hhd] at hout
  generalize numB x.obj = NO at *
  generalize numB x.tick = NT at *
  generalize numB x.id = NI at *
  generalize b8 (x.name.size : Int) = BN at *
  generalize bytesL x.p.s x.p.n x.p.k x.p.d x.p.t x.p.r = PB at *
  generalize x.root = RB at *
  generalize x.file = FB at *
  generalize x.p.list = lp at *
  clear hlabt hbad hpo hpb hsz12
  clear hhd hnums hk hc
  generalize hR : x.list.toArray = R at *
  replace hR := Lib.hid hR
  replace hcf := Lib.hid hcf
  replace hout := Lib.hid hout
  have hrow := Lib.hid (heap_alloc_new w (.cells R 34))
  have hb := Lib.hid (show Below w.heap.size w (w.alloc (.cells R 34)) from (Below.refl _ _).alloc (Nat.le_refl _) _)
  have hzc := Tryd.underlying34
  generalize x.obj = vo at *
  generalize x.tick = vt at *
  generalize x.id = vi at *
  generalize x.way = vw at *
  generalize x.index = vx at *
  generalize x.verdict = vv at *
  generalize x.name = vn at *
  clear hx hs
  go_enter Tryd.func11, Tryd.ntmps11
  go_wp2_with (with_reducible refine wpList_load_row rfl 34 (.tmp 1) rfl w.heap.size R _ rfl hrow hzc rfl hsz ?_)
  with_reducible refine (hck.out _).mono ?_
  rintro e w2 ⟨rfl, hnew⟩
  have hrow2 := Lib.hid ((hnew.block _ (block_lt hrow.out)).trans hrow.out)
  have hb2 := Lib.hid (hb.out.trans (hnew.mono hb.out.size))
  clear hnew hrow hb hck
  go_wp2_with fail
  have k0 := fun W h => (hcf.out _ _ hrow2.out W h).1
  have k1 := fun W h => (hcf.out _ _ hrow2.out W h).2.1
  have hdr : Hid (Grown w2 w2.drew) := Lib.hid (Grown.drew (Grown.refl w2))
  go_cut [5] from 11 to 19 (fun s5 wx => ∃ v, s5 = v ∧ OwnB w2.heap.size wx v ([1] ++ NO) ∧ Grown w2 wx)
  case first =>
    refine wp_region_held_drew (S := (Grown w2)) (by kernel_rfl) hdr.out (fun hOn => ?_)
    generalize World.drew w2 = wd at *
    refine wpAnyH_take (i := 0) (v := ?_) (by simp only [List.getElem?_toArray, List.getElem?_cons_zero]; rfl) (by kernel_rfl) (by kernel_rfl) (by kernel_rfl) (by exact fun _ _ _ h => h) (Or.inl ⟨by rfl, ?_⟩) hOn ?_
    rotate_left
    focus (intro W hSW; go_simp; try with_reducible rfl)
    try simp only [Act.put, List.setIfInBounds_toArray, List.set_cons_zero, List.set_cons_succ]
    refine wpAnyH_take (i := 1) (v := ?_) (by simp only [List.getElem?_toArray, List.getElem?_cons_succ, List.getElem?_cons_zero]; rfl) (by kernel_rfl) (by kernel_rfl) (by kernel_rfl) (by exact fun _ _ _ h => h) (Or.inl ⟨by rfl, ?_⟩) hOn ?_
    rotate_left
    focus (intro W hSW; go_simp; try with_reducible rfl)
    try simp only [Act.put, List.setIfInBounds_toArray, List.set_cons_zero, List.set_cons_succ]
    refine wpAnyH_take (i := 2) (v := ?_) (by simp only [List.getElem?_toArray, List.getElem?_cons_succ, List.getElem?_cons_zero]; rfl) (by kernel_rfl) (by kernel_rfl) (by kernel_rfl) (by exact fun _ _ _ h => h) (Or.inl ⟨by rfl, ?_⟩) hOn ?_
    rotate_left
    focus (intro W hSW; go_simp; try with_reducible rfl)
    try simp only [Act.put, List.setIfInBounds_toArray, List.set_cons_zero, List.set_cons_succ]
    refine wpAnyH_take (i := 4) (v := ?_) (by simp only [List.getElem?_toArray, List.getElem?_cons_succ, List.getElem?_cons_zero]; rfl) (by kernel_rfl) (by kernel_rfl) (by kernel_rfl) (by exact fun _ _ _ h => h) (Or.inl ⟨by rfl, ?_⟩) hOn ?_
    rotate_left
    focus (intro W hSW; go_simp; try with_reducible rfl)
    try simp only [Act.put, List.setIfInBounds_toArray, List.set_cons_zero, List.set_cons_succ]
    refine wpAnyH_take (i := 5) (v := ?_) (by simp only [List.getElem?_toArray, List.getElem?_cons_succ, List.getElem?_cons_zero]; rfl) (by kernel_rfl) (by kernel_rfl) (by kernel_rfl) (by exact fun _ _ _ h => h) (Or.inl ⟨by rfl, ?_⟩) hOn ?_
    rotate_left
    focus (intro W hSW; go_simp; try with_reducible rfl)
    try simp only [Act.put, List.setIfInBounds_toArray, List.set_cons_zero, List.set_cons_succ]
    refine wpAnyH_ready (rs := [3, 6]) (by kernel_rfl) (by simp) ?_
    refine AllReadyH.cons (by simp only [List.getElem?_toArray, List.getElem?_cons_succ, List.getElem?_cons_zero]; rfl) (fun Kz hKz => ?_) ?_
    go_simp
    focus (try go_wp2_with fail)
    (with_reducible refine made_step (t := 5) ?_)
    intro w5 hx5 hnew
    have hO5 := Lib.hid (ownB_one (x := 1) (base := w2.heap.size) hx5.out hOn.size)
    (try replace h3 := Lib.hid (h3.out.below hnew))
    clear hx5
    refine hKz.out _ _ (by first | exact hS | exact Below.trans hOn (Below.mono hnew (Below.size hOn))) (fun hNext => ?_)
    clear hKz Kz hOn
    have hOn := hNext
    clear hNext
    try clear hnew
    try clear hS
    try simp only [Act.put, List.setIfInBounds_toArray, List.set_cons_zero, List.set_cons_succ]
    refine wpAnyH_ready (rs := [6]) (by kernel_rfl) (by simp) ?_
    refine AllReadyH.cons (by simp only [List.getElem?_toArray, List.getElem?_cons_succ, List.getElem?_cons_zero]; rfl) (fun Kz hKz => ?_) AllReadyH.nil
    go_simp
    (with_reducible refine (hlo.out _).mono ?_)
    rintro e w3 ⟨v3, rfl, ho3, hnew⟩
    (try replace hO5 := Lib.hid (OwnB.below hO5.out hnew (Nat.le_refl _)))
    obtain ⟨g3, c3, e3, _⟩ := ho3.form (by rw [hno.out]; omega)
    subst e3
    obtain ⟨a4, c4, e4, h3, _⟩ := ho3.arg
    cases e4
    rw [hno.out]
    replace h3 := Lib.hid h3
    clear ho3
    focus (go_wp2_with fail)
    refine hKz.out _ _ (by first | exact hS | exact Below.trans hOn (Below.mono hnew (Below.size hOn))) (fun hNext => ?_)
    clear hKz Kz hOn
    have hOn := hNext
    clear hNext
    try clear hnew
    try clear hS
    try simp only [Act.put, List.setIfInBounds_toArray, List.set_cons_zero, List.set_cons_succ]
    refine wpAnyH_ready (rs := [7]) (by kernel_rfl) (by simp) ?_
    refine AllReadyH.cons (by simp only [List.getElem?_toArray, List.getElem?_cons_succ, List.getElem?_cons_zero]; rfl) (fun Kz hKz => ?_) AllReadyH.nil
    rw [if_pos (by rfl)]
    (refine wpK_appB (.tmp 14) (.tmp 17) rfl w2.heap.size _ [1] rfl hO5 _ _ NO 8 rfl hno h3 (by decide) (by decide) hOn.size ?_)
    intro v9 w9 ho9 hd9 hm9
    have hS := Below.grown hOn hd9.out hOn.size (fun k hk => (World.ownsRow.lt hO5.out k hk).1)
    refine hKz.out _ _ (by first | exact hS | exact Below.trans hOn (Below.mono hnew (Below.size hOn))) (fun hNext => ?_)
    clear hKz Kz hOn
    have hOn := hNext
    clear hNext
    try clear hnew
    try clear hS
    try simp only [Act.put]
    refine wpAnyH_take (i := 8) (v := ?_) (by simp only [List.getElem?_toArray, List.getElem?_cons_succ, List.getElem?_cons_zero]; rfl) (by kernel_rfl) (by kernel_rfl) (by kernel_rfl) (by exact fun _ _ _ h => h) (Or.inl ⟨by rfl, ?_⟩) hOn ?_
    rotate_left
    focus (intro W hSW; go_simp; try with_reducible rfl)
    try simp only [Act.put, List.setIfInBounds_toArray, List.set_cons_zero, List.set_cons_succ]
    refine wpAnyH_done (by kernel_rfl) ?_ _
    rotate_left
    refine AllReadyH.cons (by simp only [List.getElem?_toArray, List.getElem?_cons_succ, List.getElem?_cons_zero]; rfl) (fun Kz hKz => ?_) AllReadyH.nil
    go_simp
    (with_reducible refine (hlo.out _).mono ?_)
    rintro e w3 ⟨v3, rfl, ho3, hnew⟩
    (try replace hO5 := Lib.hid (OwnB.below hO5.out hnew (Nat.le_refl _)))
    obtain ⟨g3, c3, e3, _⟩ := ho3.form (by rw [hno.out]; omega)
    subst e3
    obtain ⟨a4, c4, e4, h3, _⟩ := ho3.arg
    cases e4
    rw [hno.out]
    replace h3 := Lib.hid h3
    clear ho3
    focus (go_wp2_with fail)
    refine hKz.out _ _ (by first | exact hS | exact Below.trans hOn (Below.mono hnew (Below.size hOn))) (fun hNext => ?_)
    clear hKz Kz hOn
    have hOn := hNext
    clear hNext
    try clear hnew
    try clear hS
    try simp only [Act.put, List.setIfInBounds_toArray, List.set_cons_zero, List.set_cons_succ]
    refine wpAnyH_ready (rs := [3]) (by kernel_rfl) (by simp) ?_
    refine AllReadyH.cons (by simp only [List.getElem?_toArray, List.getElem?_cons_succ, List.getElem?_cons_zero]; rfl) (fun Kz hKz => ?_) AllReadyH.nil
    go_simp
    focus (try go_wp2_with fail)
    (with_reducible refine made_step (t := 5) ?_)
    intro w5 hx5 hnew
    have hO5 := Lib.hid (ownB_one (x := 1) (base := w2.heap.size) hx5.out hOn.size)
    (try replace h3 := Lib.hid (h3.out.below hnew))
    clear hx5
    refine hKz.out _ _ (by first | exact hS | exact Below.trans hOn (Below.mono hnew (Below.size hOn))) (fun hNext => ?_)
    clear hKz Kz hOn
    have hOn := hNext
    clear hNext
    try clear hnew
    try clear hS
    try simp only [Act.put, List.setIfInBounds_toArray, List.set_cons_zero, List.set_cons_succ]
    refine wpAnyH_ready (rs := [7]) (by kernel_rfl) (by simp) ?_
    refine AllReadyH.cons (by simp only [List.getElem?_toArray, List.getElem?_cons_succ, List.getElem?_cons_zero]; rfl) (fun Kz hKz => ?_) AllReadyH.nil
    rw [if_pos (by rfl)]
    (refine wpK_appB (.tmp 14) (.tmp 17) rfl w2.heap.size _ [1] rfl hO5 _ _ NO 8 rfl hno h3 (by decide) (by decide) hOn.size ?_)
    intro v9 w9 ho9 hd9 hm9
    have hS := Below.grown hOn hd9.out hOn.size (fun k hk => (World.ownsRow.lt hO5.out k hk).1)
    refine hKz.out _ _ (by first | exact hS | exact Below.trans hOn (Below.mono hnew (Below.size hOn))) (fun hNext => ?_)
    clear hKz Kz hOn
    have hOn := hNext
    clear hNext
    try clear hnew
    try clear hS
    try simp only [Act.put]
    refine wpAnyH_take (i := 8) (v := ?_) (by simp only [List.getElem?_toArray, List.getElem?_cons_succ, List.getElem?_cons_zero]; rfl) (by kernel_rfl) (by kernel_rfl) (by kernel_rfl) (by exact fun _ _ _ h => h) (Or.inl ⟨by rfl, ?_⟩) hOn ?_
    rotate_left
    focus (intro W hSW; go_simp; try with_reducible rfl)
    try simp only [Act.put, List.setIfInBounds_toArray, List.set_cons_zero, List.set_cons_succ]
    refine wpAnyH_done (by kernel_rfl) ?_ _
    all_goals
      go_wp2_with fail
      go_meet
      exact ⟨_, rfl, ho9.out, hOn⟩
  case rest =>
    obtain ⟨v9, rfl, ho9, hg9⟩ := hcut
    have q := hcf.out _ _ hrow2.out wc hg9
    have hlen9 : ([1] ++ NO).length = 9 := by simp [hno.out]
    generalize [1] ++ NO = P0 at *
    replace hlen9 := Lib.hid hlen9
    replace hg9 := Lib.hid hg9
    replace ho9 := Lib.hid ho9
    have hbs9 : w2.heap.size ≤ wc.heap.size := hg9.out.size
    clear k0 k1 hdr
    obtain ⟨q0, q1, q2, q3, q4, q5, q6, q7⟩ := q
    have hdr6 : Hid (Grown w2 wc.drew) := Lib.hid (Grown.drew hg9.out)
    have hL1 : Hid (P0.length ≤ 1000000) := Lib.hid (by rw [hlen9.out]; decide)
    have hL2 : Hid ((P0 ++ [BN]).length ≤ 1000000) := Lib.hid (by simp [hlen9.out])
    have hL3 : Hid ((P0 ++ [BN] ++ vn.data.toList).length ≤ 1000000) := Lib.hid (by simp [hlen9.out]; have := hsm.out; omega)
    have hL4 : Hid ((P0 ++ [BN] ++ vn.data.toList ++ PB).length ≤ 1000000) := Lib.hid (by simp [hlen9.out, hbl.out]; have := hsm.out; omega)
    have hL5 : Hid ((P0 ++ [BN] ++ vn.data.toList ++ PB ++ RB).length ≤ 1000000) := Lib.hid (by simp [hlen9.out, hbl.out, hrl.out]; have := hsm.out; omega)
    have hL6 : Hid ((P0 ++ [BN] ++ vn.data.toList ++ PB ++ RB ++ FB).length ≤ 1000000) := Lib.hid (by simp [hlen9.out, hbl.out, hrl.out, hfl.out]; have := hsm.out; omega)
    have hl12 : Hid (vn.size ≤ 1000000) := Lib.hid (by have := hsm.out; omega)
    have hone : Hid ([BN].length = 1) := Lib.hid rfl
    go_wp2_with fail
    clear q0 q1 q2 q3 q4 q5 q6 q7
    have k3 := fun W h => (hcf.out _ _ hrow2.out W h).2.2.2.1
    have hraw := Lib.hid True.intro
    replace ho9 := Lib.hid (OwnB.below ho9.out (Grown.drew (Grown.refl wc)) (Nat.le_refl _))
    go_cut [5] from 22 to 33 (fun s5 wx => ∃ v, s5 = v ∧ OwnB w2.heap.size wx v (P0 ++ [BN] ++ vn.data.toList) ∧ Grown w2 wx)
    case first =>
      refine wp_region_held_drew (S := (Grown w2)) (by kernel_rfl) hdr6.out (fun hOn => ?_)
      generalize World.drew wc = wd at *
      refine wpAnyH_take (i := 0) (v := ?_) (by simp only [List.getElem?_toArray, List.getElem?_cons_zero]; rfl) (by kernel_rfl) (by kernel_rfl) (by kernel_rfl) (by exact fun _ _ _ h => h) (Or.inl ⟨by rfl, ?_⟩) hOn ?_
      rotate_left
      focus (intro W hSW; go_simp; try with_reducible rfl)
      try simp only [Act.put, List.setIfInBounds_toArray, List.set_cons_zero, List.set_cons_succ]
      refine wpAnyH_take (i := 1) (v := ?_) (by simp only [List.getElem?_toArray, List.getElem?_cons_succ, List.getElem?_cons_zero]; rfl) (by kernel_rfl) (by kernel_rfl) (by kernel_rfl) (by exact fun _ _ _ h => h) (Or.inl ⟨by rfl, ?_⟩) hOn ?_
      rotate_left
      focus (intro W hSW; go_simp; try with_reducible rfl)
      try simp only [Act.put, List.setIfInBounds_toArray, List.set_cons_zero, List.set_cons_succ]
      refine wpAnyH_take (i := 2) (v := ?_) (by simp only [List.getElem?_toArray, List.getElem?_cons_succ, List.getElem?_cons_zero]; rfl) (by kernel_rfl) (by kernel_rfl) (by kernel_rfl) (by exact fun _ _ _ h => h) (Or.inl ⟨by rfl, ?_⟩) hOn ?_
      rotate_left
      focus (intro W hSW; go_simp; try with_reducible rfl)
      try simp only [Act.put, List.setIfInBounds_toArray, List.set_cons_zero, List.set_cons_succ]
      refine wpAnyH_take (i := 3) (v := ?_) (by simp only [List.getElem?_toArray, List.getElem?_cons_succ, List.getElem?_cons_zero]; rfl) (by kernel_rfl) (by kernel_rfl) (by kernel_rfl) (by exact fun _ _ _ h => h) (Or.inl ⟨by rfl, ?_⟩) hOn ?_
      rotate_left
      focus (intro W hSW; go_simp; try with_reducible rfl)
      try simp only [Act.put, List.setIfInBounds_toArray, List.set_cons_zero, List.set_cons_succ]
      refine wpAnyH_take (i := 4) (v := ?_) (by simp only [List.getElem?_toArray, List.getElem?_cons_succ, List.getElem?_cons_zero]; rfl) (by kernel_rfl) (by kernel_rfl) (by kernel_rfl) (by exact fun _ _ _ h => h) (Or.inl ⟨by rfl, ?_⟩) hOn ?_
      rotate_left
      focus (intro W hSW; go_simp; try with_reducible rfl)
      try simp only [Act.put, List.setIfInBounds_toArray, List.set_cons_zero, List.set_cons_succ]
      refine wpAnyH_take (i := 7) (v := ?_) (by simp only [List.getElem?_toArray, List.getElem?_cons_succ, List.getElem?_cons_zero]; rfl) (by kernel_rfl) (by kernel_rfl) (by kernel_rfl) (by exact fun _ _ _ h => h) (Or.inl ⟨by rfl, ?_⟩) hOn ?_
      rotate_left
      focus (intro W hSW; go_simp; try with_reducible rfl)
      try simp only [Act.put, List.setIfInBounds_toArray, List.set_cons_zero, List.set_cons_succ]
      refine wpAnyH_take (i := 8) (v := ?_) (by simp only [List.getElem?_toArray, List.getElem?_cons_succ, List.getElem?_cons_zero]; rfl) (by kernel_rfl) (by kernel_rfl) (by kernel_rfl) (by exact fun _ _ _ h => h) (Or.inl ⟨by rfl, ?_⟩) hOn ?_
      rotate_left
      focus (intro W hSW; go_simp; try with_reducible rfl)
      try simp only [Act.put, List.setIfInBounds_toArray, List.set_cons_zero, List.set_cons_succ]
      refine wpAnyH_ready (rs := [5, 9]) (by kernel_rfl) (by simp) ?_
      refine AllReadyH.cons (by simp only [List.getElem?_toArray, List.getElem?_cons_succ, List.getElem?_cons_zero]; rfl) (fun Kz hKz => ?_) ?_
      go_simp
      focus (try go_wp2_with fail)
      (with_reducible refine made_step (t := 5) ?_)
      intro w12 hx12 hnew
      have h12 := Lib.hid (argB_one (x := BN) hx12.out)
      replace ho9 := Lib.hid (OwnB.below ho9.out hnew (Nat.le_refl _))
      (try replace h16 := Lib.hid (h16.out.below hnew))
      (try replace hlt16 := Lib.hid (Nat.lt_of_lt_of_le hlt16.out hnew.size))
      clear hx12
      refine hKz.out _ _ (by first | exact hS | exact Below.trans hOn (Below.mono hnew (Below.size hOn))) (fun hNext => ?_)
      clear hKz Kz hOn
      have hOn := hNext
      clear hNext
      try clear hnew
      try clear hS
      try simp only [Act.put, List.setIfInBounds_toArray, List.set_cons_zero, List.set_cons_succ]
      refine wpAnyH_ready (rs := [6, 9]) (by kernel_rfl) (by simp) ?_
      refine AllReadyH.cons (by simp only [List.getElem?_toArray, List.getElem?_cons_succ, List.getElem?_cons_zero]; rfl) (fun Kz hKz => ?_) ?_
      rw [if_pos (by rfl)]
      (refine wpK_appB (.tmp 22) (.tmp 27) rfl w2.heap.size _ P0 rfl ho9 _ _ [BN] 1 rfl hone h12 hL1.out (by decide) hOn.size ?_)
      intro vA wA hoA hdA hmA
      have hS := Below.grown hOn hdA.out hOn.size (fun k hk => (World.ownsRow.lt ho9.out k hk).1)
      (try replace h16 := Lib.hid (argB_far h16.out hdA.out hlt16.out (fun e => hne16.out e.symm)))
      clear ho9 h12 hmA
      refine hKz.out _ _ (by first | exact hS | exact Below.trans hOn (Below.mono hnew (Below.size hOn))) (fun hNext => ?_)
      clear hKz Kz hOn
      have hOn := hNext
      clear hNext
      try clear hnew
      try clear hS
      try simp only [Act.put]
      refine wpAnyH_ready (rs := [9]) (by kernel_rfl) (by simp) ?_
      refine AllReadyH.cons (by simp only [List.getElem?_toArray, List.getElem?_cons_succ, List.getElem?_cons_zero]; rfl) (fun Kz hKz => ?_) AllReadyH.nil
      rw [if_pos (by rfl)]
      (with_reducible refine wpK_conv (.tmp 30) rfl vn rfl hl12.out ?_)
      intro v16 w16 hm16 hnewh
      have hnew : Grown _ _ := hnewh.out
      clear hnewh
      obtain ⟨a16, c16, e16, h16⟩ := hm16.out.arg
      obtain ⟨g16, cap16, rfl, hge16, hlt16, _⟩ := hm16.out
      cases e16
      rw [hnm.out]
      replace h16 := Lib.hid h16
      replace hlt16 := Lib.hid hlt16
      (try have hne16 := Lib.hid (ne_own ho9.out hge16))
      (try replace ho9 := Lib.hid (OwnB.below ho9.out hnew (Nat.le_refl _)))
      (try replace hoA := Lib.hid (OwnB.below hoA.out hnew (Nat.le_refl _)))
      (try replace h12 := Lib.hid (h12.out.below hnew))
      clear hm16
      refine hKz.out _ _ (by first | exact hS | exact Below.trans hOn (Below.mono hnew (Below.size hOn))) (fun hNext => ?_)
      clear hKz Kz hOn
      have hOn := hNext
      clear hNext
      try clear hnew
      try clear hS
      try simp only [Act.put]
      refine wpAnyH_ready (rs := [10]) (by kernel_rfl) (by simp) ?_
      refine AllReadyH.cons (by simp only [List.getElem?_toArray, List.getElem?_cons_succ, List.getElem?_cons_zero]; rfl) (fun Kz hKz => ?_) AllReadyH.nil
      rw [if_pos (by rfl)]
      (refine wpK_appB (.tmp 28) (.tmp 31) rfl w2.heap.size _ (P0 ++ [BN]) rfl hoA _ _ vn.data.toList vn.size rfl hnm h16 hL2.out hl12.out hOn.size ?_)
      intro vB wB hoB hdB hmB
      have hS := Below.grown hOn hdB.out hOn.size (fun k hk => (World.ownsRow.lt hoA.out k hk).1)
      refine hKz.out _ _ (by first | exact hS | exact Below.trans hOn (Below.mono hnew (Below.size hOn))) (fun hNext => ?_)
      clear hKz Kz hOn
      have hOn := hNext
      clear hNext
      try clear hnew
      try clear hS
      try simp only [Act.put]
      refine wpAnyH_take (i := 11) (v := ?_) (by simp only [List.getElem?_toArray, List.getElem?_cons_succ, List.getElem?_cons_zero]; rfl) (by kernel_rfl) (by kernel_rfl) (by kernel_rfl) (by exact fun _ _ _ h => h) (Or.inl ⟨by rfl, ?_⟩) hOn ?_
      rotate_left
      focus (intro W hSW; go_simp; try with_reducible rfl)
      try simp only [Act.put, List.setIfInBounds_toArray, List.set_cons_zero, List.set_cons_succ]
      refine wpAnyH_done (by kernel_rfl) ?_ _
      rotate_left
      refine AllReadyH.cons (by simp only [List.getElem?_toArray, List.getElem?_cons_succ, List.getElem?_cons_zero]; rfl) (fun Kz hKz => ?_) AllReadyH.nil
      rw [if_pos (by rfl)]
      (with_reducible refine wpK_conv (.tmp 30) rfl vn rfl hl12.out ?_)
      intro v16 w16 hm16 hnewh
      have hnew : Grown _ _ := hnewh.out
      clear hnewh
      obtain ⟨a16, c16, e16, h16⟩ := hm16.out.arg
      obtain ⟨g16, cap16, rfl, hge16, hlt16, _⟩ := hm16.out
      cases e16
      rw [hnm.out]
      replace h16 := Lib.hid h16
      replace hlt16 := Lib.hid hlt16
      (try have hne16 := Lib.hid (ne_own ho9.out hge16))
      (try replace ho9 := Lib.hid (OwnB.below ho9.out hnew (Nat.le_refl _)))
      (try replace hoA := Lib.hid (OwnB.below hoA.out hnew (Nat.le_refl _)))
      (try replace h12 := Lib.hid (h12.out.below hnew))
      clear hm16
      refine hKz.out _ _ (by first | exact hS | exact Below.trans hOn (Below.mono hnew (Below.size hOn))) (fun hNext => ?_)
      clear hKz Kz hOn
      have hOn := hNext
      clear hNext
      try clear hnew
      try clear hS
      try simp only [Act.put]
      refine wpAnyH_ready (rs := [6]) (by kernel_rfl) (by simp) ?_
      refine AllReadyH.cons (by simp only [List.getElem?_toArray, List.getElem?_cons_succ, List.getElem?_cons_zero]; rfl) (fun Kz hKz => ?_) AllReadyH.nil
      rw [if_pos (by rfl)]
      (refine wpK_appB (.tmp 22) (.tmp 27) rfl w2.heap.size _ P0 rfl ho9 _ _ [BN] 1 rfl hone h12 hL1.out (by decide) hOn.size ?_)
      intro vA wA hoA hdA hmA
      have hS := Below.grown hOn hdA.out hOn.size (fun k hk => (World.ownsRow.lt ho9.out k hk).1)
      (try replace h16 := Lib.hid (argB_far h16.out hdA.out hlt16.out (fun e => hne16.out e.symm)))
      clear ho9 h12 hmA
      refine hKz.out _ _ (by first | exact hS | exact Below.trans hOn (Below.mono hnew (Below.size hOn))) (fun hNext => ?_)
      clear hKz Kz hOn
      have hOn := hNext
      clear hNext
      try clear hnew
      try clear hS
      try simp only [Act.put]
      refine wpAnyH_ready (rs := [10]) (by kernel_rfl) (by simp) ?_
      refine AllReadyH.cons (by simp only [List.getElem?_toArray, List.getElem?_cons_succ, List.getElem?_cons_zero]; rfl) (fun Kz hKz => ?_) AllReadyH.nil
      rw [if_pos (by rfl)]
      (refine wpK_appB (.tmp 28) (.tmp 31) rfl w2.heap.size _ (P0 ++ [BN]) rfl hoA _ _ vn.data.toList vn.size rfl hnm h16 hL2.out hl12.out hOn.size ?_)
      intro vB wB hoB hdB hmB
      have hS := Below.grown hOn hdB.out hOn.size (fun k hk => (World.ownsRow.lt hoA.out k hk).1)
      refine hKz.out _ _ (by first | exact hS | exact Below.trans hOn (Below.mono hnew (Below.size hOn))) (fun hNext => ?_)
      clear hKz Kz hOn
      have hOn := hNext
      clear hNext
      try clear hnew
      try clear hS
      try simp only [Act.put]
      refine wpAnyH_take (i := 11) (v := ?_) (by simp only [List.getElem?_toArray, List.getElem?_cons_succ, List.getElem?_cons_zero]; rfl) (by kernel_rfl) (by kernel_rfl) (by kernel_rfl) (by exact fun _ _ _ h => h) (Or.inl ⟨by rfl, ?_⟩) hOn ?_
      rotate_left
      focus (intro W hSW; go_simp; try with_reducible rfl)
      try simp only [Act.put, List.setIfInBounds_toArray, List.set_cons_zero, List.set_cons_succ]
      refine wpAnyH_done (by kernel_rfl) ?_ _
      rotate_left
      refine AllReadyH.cons (by simp only [List.getElem?_toArray, List.getElem?_cons_succ, List.getElem?_cons_zero]; rfl) (fun Kz hKz => ?_) AllReadyH.nil
      rw [if_pos (by rfl)]
      (with_reducible refine wpK_conv (.tmp 30) rfl vn rfl hl12.out ?_)
      intro v16 w16 hm16 hnewh
      have hnew : Grown _ _ := hnewh.out
      clear hnewh
      obtain ⟨a16, c16, e16, h16⟩ := hm16.out.arg
      obtain ⟨g16, cap16, rfl, hge16, hlt16, _⟩ := hm16.out
      cases e16
      rw [hnm.out]
      replace h16 := Lib.hid h16
      replace hlt16 := Lib.hid hlt16
      (try have hne16 := Lib.hid (ne_own ho9.out hge16))
      (try replace ho9 := Lib.hid (OwnB.below ho9.out hnew (Nat.le_refl _)))
      (try replace hoA := Lib.hid (OwnB.below hoA.out hnew (Nat.le_refl _)))
      (try replace h12 := Lib.hid (h12.out.below hnew))
      clear hm16
      refine hKz.out _ _ (by first | exact hS | exact Below.trans hOn (Below.mono hnew (Below.size hOn))) (fun hNext => ?_)
      clear hKz Kz hOn
      have hOn := hNext
      clear hNext
      try clear hnew
      try clear hS
      try simp only [Act.put]
      refine wpAnyH_ready (rs := [5]) (by kernel_rfl) (by simp) ?_
      refine AllReadyH.cons (by simp only [List.getElem?_toArray, List.getElem?_cons_succ, List.getElem?_cons_zero]; rfl) (fun Kz hKz => ?_) AllReadyH.nil
      go_simp
      focus (try go_wp2_with fail)
      (with_reducible refine made_step (t := 5) ?_)
      intro w12 hx12 hnew
      have h12 := Lib.hid (argB_one (x := BN) hx12.out)
      replace ho9 := Lib.hid (OwnB.below ho9.out hnew (Nat.le_refl _))
      (try replace h16 := Lib.hid (h16.out.below hnew))
      (try replace hlt16 := Lib.hid (Nat.lt_of_lt_of_le hlt16.out hnew.size))
      clear hx12
      refine hKz.out _ _ (by first | exact hS | exact Below.trans hOn (Below.mono hnew (Below.size hOn))) (fun hNext => ?_)
      clear hKz Kz hOn
      have hOn := hNext
      clear hNext
      try clear hnew
      try clear hS
      try simp only [Act.put, List.setIfInBounds_toArray, List.set_cons_zero, List.set_cons_succ]
      refine wpAnyH_ready (rs := [6]) (by kernel_rfl) (by simp) ?_
      refine AllReadyH.cons (by simp only [List.getElem?_toArray, List.getElem?_cons_succ, List.getElem?_cons_zero]; rfl) (fun Kz hKz => ?_) AllReadyH.nil
      rw [if_pos (by rfl)]
      (refine wpK_appB (.tmp 22) (.tmp 27) rfl w2.heap.size _ P0 rfl ho9 _ _ [BN] 1 rfl hone h12 hL1.out (by decide) hOn.size ?_)
      intro vA wA hoA hdA hmA
      have hS := Below.grown hOn hdA.out hOn.size (fun k hk => (World.ownsRow.lt ho9.out k hk).1)
      (try replace h16 := Lib.hid (argB_far h16.out hdA.out hlt16.out (fun e => hne16.out e.symm)))
      clear ho9 h12 hmA
      refine hKz.out _ _ (by first | exact hS | exact Below.trans hOn (Below.mono hnew (Below.size hOn))) (fun hNext => ?_)
      clear hKz Kz hOn
      have hOn := hNext
      clear hNext
      try clear hnew
      try clear hS
      try simp only [Act.put]
      refine wpAnyH_ready (rs := [10]) (by kernel_rfl) (by simp) ?_
      refine AllReadyH.cons (by simp only [List.getElem?_toArray, List.getElem?_cons_succ, List.getElem?_cons_zero]; rfl) (fun Kz hKz => ?_) AllReadyH.nil
      rw [if_pos (by rfl)]
      (refine wpK_appB (.tmp 28) (.tmp 31) rfl w2.heap.size _ (P0 ++ [BN]) rfl hoA _ _ vn.data.toList vn.size rfl hnm h16 hL2.out hl12.out hOn.size ?_)
      intro vB wB hoB hdB hmB
      have hS := Below.grown hOn hdB.out hOn.size (fun k hk => (World.ownsRow.lt hoA.out k hk).1)
      refine hKz.out _ _ (by first | exact hS | exact Below.trans hOn (Below.mono hnew (Below.size hOn))) (fun hNext => ?_)
      clear hKz Kz hOn
      have hOn := hNext
      clear hNext
      try clear hnew
      try clear hS
      try simp only [Act.put]
      refine wpAnyH_take (i := 11) (v := ?_) (by simp only [List.getElem?_toArray, List.getElem?_cons_succ, List.getElem?_cons_zero]; rfl) (by kernel_rfl) (by kernel_rfl) (by kernel_rfl) (by exact fun _ _ _ h => h) (Or.inl ⟨by rfl, ?_⟩) hOn ?_
      rotate_left
      focus (intro W hSW; go_simp; try with_reducible rfl)
      try simp only [Act.put, List.setIfInBounds_toArray, List.set_cons_zero, List.set_cons_succ]
      refine wpAnyH_done (by kernel_rfl) ?_ _
      all_goals
        go_wp2_with fail
        go_meet
        exact ⟨_, rfl, hoB.out, hOn⟩
    case rest =>
      obtain ⟨v20, rfl, ho20, hg20⟩ := hcut
      clear ho9 hdr6
      go_wp2_with fail
      have hdr7 : Hid (Grown w2 wc.drew) := Lib.hid (Grown.drew hg20)
      replace hg20 := Lib.hid hg20
      replace ho20 := Lib.hid (OwnB.below ho20 (Grown.drew (Grown.refl wc)) (Nat.le_refl _))
      have hr4 := Lib.hid (fun (W : World) (h : Grown w2 W) => hpf.out _ _ (rowG hrow2.out h))
      have hrr := Lib.hid (fun (W : World) (h : Grown w2 W) => hrf.out _ _ (rowG hrow2.out h))
      have hff2 := Lib.hid (fun (W : World) (h : Grown w2 W) => hff.out _ _ (rowG hrow2.out h))
      go_cut [5] from 33 to 44 (fun s5 wx => ∃ v, s5 = v ∧ OwnB w2.heap.size wx v (P0 ++ [BN] ++ vn.data.toList ++ PB ++ RB ++ FB) ∧ Grown w2 wx)
      case first =>
        refine wp_region_held_drew (S := (Grown w2)) (by kernel_rfl) hdr7.out (fun hOn => ?_)
        generalize World.drew wc = wd at *
        refine wpAnyH_take (i := 0) (v := ?_) (by simp only [List.getElem?_toArray, List.getElem?_cons_zero]; rfl) (by kernel_rfl) (by kernel_rfl) (by kernel_rfl) (by exact fun _ _ _ h => h) (Or.inl ⟨by rfl, ?_⟩) hOn ?_
        rotate_left
        focus (intro W hSW; go_simp; try with_reducible rfl)
        try simp only [Act.put, List.setIfInBounds_toArray, List.set_cons_zero, List.set_cons_succ]
        refine wpAnyH_take (i := 1) (v := ?_) (by simp only [List.getElem?_toArray, List.getElem?_cons_succ, List.getElem?_cons_zero]; rfl) (by kernel_rfl) (by kernel_rfl) (by kernel_rfl) (by exact fun _ _ _ h => h) (Or.inl ⟨by rfl, ?_⟩) hOn ?_
        rotate_left
        focus (intro W hSW; go_simp; try with_reducible rfl)
        try simp only [Act.put, List.setIfInBounds_toArray, List.set_cons_zero, List.set_cons_succ]
        refine wpAnyH_take (i := 5) (v := ?_) (by simp only [List.getElem?_toArray, List.getElem?_cons_succ, List.getElem?_cons_zero]; rfl) (by kernel_rfl) (by kernel_rfl) (by kernel_rfl) (by exact fun _ _ _ h => h) (Or.inl ⟨by rfl, ?_⟩) hOn ?_
        rotate_left
        focus (intro W hSW; go_simp; try with_reducible rfl)
        try simp only [Act.put, List.setIfInBounds_toArray, List.set_cons_zero, List.set_cons_succ]
        refine wpAnyH_take (i := 6) (v := ?_) (by simp only [List.getElem?_toArray, List.getElem?_cons_succ, List.getElem?_cons_zero]; rfl) (by kernel_rfl) (by kernel_rfl) (by kernel_rfl) (by exact fun _ _ _ h => h) (Or.inl ⟨by rfl, ?_⟩) hOn ?_
        rotate_left
        focus (intro W hSW; go_simp; try with_reducible rfl)
        try simp only [Act.put, List.setIfInBounds_toArray, List.set_cons_zero, List.set_cons_succ]
        refine wpAnyH_take (i := 8) (v := ?_) (by simp only [List.getElem?_toArray, List.getElem?_cons_succ, List.getElem?_cons_zero]; rfl) (by kernel_rfl) (by kernel_rfl) (by kernel_rfl) (by exact fun _ _ _ h => h) (Or.inl ⟨by rfl, ?_⟩) hOn ?_
        rotate_left
        focus (intro W hSW; go_simp; try with_reducible rfl)
        try simp only [Act.put, List.setIfInBounds_toArray, List.set_cons_zero, List.set_cons_succ]
        refine wpAnyH_take (i := 9) (v := ?_) (by simp only [List.getElem?_toArray, List.getElem?_cons_succ, List.getElem?_cons_zero]; rfl) (by kernel_rfl) (by kernel_rfl) (by kernel_rfl) (by exact fun _ _ _ h => h) (Or.inl ⟨by rfl, ?_⟩) hOn ?_
        rotate_left
        focus (intro W hSW; go_simp; try with_reducible rfl)
        try simp only [Act.put, List.setIfInBounds_toArray, List.set_cons_zero, List.set_cons_succ]
        refine wpAnyH_ready (rs := [2]) (by kernel_rfl) (by simp) ?_
        refine AllReadyH.cons (by simp only [List.getElem?_toArray, List.getElem?_cons_succ, List.getElem?_cons_zero]; rfl) (fun Kz hKz => ?_) AllReadyH.nil
        rw [if_pos (by rfl)]
        (refine wp_load_mid 32 (.tmp 34) rfl w.heap.size 4 rfl lp _ (hr4.out _ hOn) hup rfl i4 ?_)
        rw [← hPP.out]
        have hS := hOn
        refine hKz.out _ _ (by first | exact hS | exact Below.trans hOn (Below.mono hnew (Below.size hOn))) (fun hNext => ?_)
        clear hKz Kz hOn
        have hOn := hNext
        clear hNext
        try clear hnew
        try clear hS
        try simp only [Act.put]
        refine wpAnyH_ready (rs := [3]) (by kernel_rfl) (by simp) ?_
        refine AllReadyH.cons (by simp only [List.getElem?_toArray, List.getElem?_cons_succ, List.getElem?_cons_zero]; rfl) (fun Kz hKz => ?_) AllReadyH.nil
        go_simp
        (with_reducible refine (hpb2.out _).mono ?_)
        rintro e w21 ⟨gp, rfl, hp9, hnew⟩
        replace ho20 := Lib.hid (OwnB.below ho20.out hnew (Nat.le_refl _))
        replace hp9 := Lib.hid hp9
        focus (go_wp2_with fail)
        refine hKz.out _ _ (by first | exact hS | exact Below.trans hOn (Below.mono hnew (Below.size hOn))) (fun hNext => ?_)
        clear hKz Kz hOn
        have hOn := hNext
        clear hNext
        try clear hnew
        try clear hS
        try simp only [Act.put, List.setIfInBounds_toArray, List.set_cons_zero, List.set_cons_succ]
        refine wpAnyH_ready (rs := [4]) (by kernel_rfl) (by simp) ?_
        refine AllReadyH.cons (by simp only [List.getElem?_toArray, List.getElem?_cons_succ, List.getElem?_cons_zero]; rfl) (fun Kz hKz => ?_) AllReadyH.nil
        rw [if_pos (by rfl)]
        (refine wpK_appB (.tmp 33) (.tmp 36) rfl w2.heap.size _ _ rfl ho20 _ _ PB 9 rfl hbl hp9 hL3.out (by decide) hOn.size ?_)
        intro vC wC hoC hdC hmC
        have hS := Below.grown hOn hdC.out hOn.size (fun k hk => (World.ownsRow.lt ho20.out k hk).1)
        refine hKz.out _ _ (by first | exact hS | exact Below.trans hOn (Below.mono hnew (Below.size hOn))) (fun hNext => ?_)
        clear hKz Kz hOn
        have hOn := hNext
        clear hNext
        try clear hnew
        try clear hS
        try simp only [Act.put]
        refine wpAnyH_ready (rs := [7]) (by kernel_rfl) (by simp) ?_
        refine AllReadyH.cons (by simp only [List.getElem?_toArray, List.getElem?_cons_succ, List.getElem?_cons_zero]; rfl) (fun Kz hKz => ?_) AllReadyH.nil
        rw [if_pos (by rfl)]
        (refine wpK_appB (.tmp 37) (.tmp 39) rfl w2.heap.size _ _ rfl hoC _ _ RB 32 rfl hrl (Lib.hid (hrr.out _ hOn)) hL4.out (by decide) hOn.size ?_)
        intro vD wD hoD hdD hmD
        have hS := Below.grown hOn hdD.out hOn.size (fun k hk => (World.ownsRow.lt hoC.out k hk).1)
        refine hKz.out _ _ (by first | exact hS | exact Below.trans hOn (Below.mono hnew (Below.size hOn))) (fun hNext => ?_)
        clear hKz Kz hOn
        have hOn := hNext
        clear hNext
        try clear hnew
        try clear hS
        try simp only [Act.put]
        refine wpAnyH_ready (rs := [10]) (by kernel_rfl) (by simp) ?_
        refine AllReadyH.cons (by simp only [List.getElem?_toArray, List.getElem?_cons_succ, List.getElem?_cons_zero]; rfl) (fun Kz hKz => ?_) AllReadyH.nil
        rw [if_pos (by rfl)]
        (refine wpK_appB (.tmp 40) (.tmp 42) rfl w2.heap.size _ _ rfl hoD _ _ FB 32 rfl hfl (Lib.hid (hff2.out _ hOn)) hL5.out (by decide) hOn.size ?_)
        intro vE wE hoE hdE hmE
        have hS := Below.grown hOn hdE.out hOn.size (fun k hk => (World.ownsRow.lt hoD.out k hk).1)
        refine hKz.out _ _ (by first | exact hS | exact Below.trans hOn (Below.mono hnew (Below.size hOn))) (fun hNext => ?_)
        clear hKz Kz hOn
        have hOn := hNext
        clear hNext
        try clear hnew
        try clear hS
        try simp only [Act.put]
        refine wpAnyH_take (i := 11) (v := ?_) (by simp only [List.getElem?_toArray, List.getElem?_cons_succ, List.getElem?_cons_zero]; rfl) (by kernel_rfl) (by kernel_rfl) (by kernel_rfl) (by exact fun _ _ _ h => h) (Or.inl ⟨by rfl, ?_⟩) hOn ?_
        rotate_left
        focus (intro W hSW; go_simp; try with_reducible rfl)
        try simp only [Act.put, List.setIfInBounds_toArray, List.set_cons_zero, List.set_cons_succ]
        refine wpAnyH_done (by kernel_rfl) ?_ _
        all_goals
          go_wp2_with fail
          go_meet
          exact ⟨_, rfl, hoE.out, hOn⟩
      case rest =>
        obtain ⟨v30, rfl, ho30, hg30⟩ := hcut
        obtain ⟨q0, q1, q2, q3, q4, q5, q6, q7⟩ := hcf.out _ _ hrow2.out wc hg30
        clear hraw k3 hr4 hrr hff2 ho20 hdr7
        replace hg30 := Lib.hid hg30
        replace ho30 := Lib.hid ho30
        go_wp2_with fail
        with_reducible refine (hlt.out _).mono ?_
        rintro e w40 ⟨v40, rfl, hu40, hnew⟩
        obtain ⟨a40, c40, rfl, h40, _⟩ := hu40.arg
        rw [hnt.out]
        replace h40 := Lib.hid h40
        replace ho30 := Lib.hid (OwnB.below ho30.out hnew (Nat.le_refl _))
        have hg40 := Lib.hid (Grown.trans hg30.out hnew)
        have hbs40 : w2.heap.size ≤ w40.heap.size := hg40.out.size
        clear hnew hu40 q0 q1 q2 q3 q4 q5 q6 q7
        go_wp2_with (at_builtin; refine wpB_app rfl (.tmp 76) (.tmp 79) rfl w2.heap.size _ _ rfl ho30 a40 c40 NT 8 rfl hnt h40 hL6.out (by decide) hbs40 ?_; intro v41 w41 ho41 hd41; have hg41 := Lib.hid (Below.trans hg40.out hd41.out))
        go_ret2
        exact ⟨_, rfl, by rw [hout.out]; simpa using ho41.out.mono hb2.out.size, hb2.out.trans (hg41.out.mono hb2.out.size)⟩
end Go.Proofs.YtahnicbokdbjdaaDoor
