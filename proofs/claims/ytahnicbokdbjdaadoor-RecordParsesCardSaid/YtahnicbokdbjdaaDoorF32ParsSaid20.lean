/- The walk over params.Parse. -/
import Derived.Test.YtahnicbokdbjdaaDoorF31ParsSaid20
import Derived.Test.YtahnicbokdbjdaaDoorF20ParsSaid20
import Derived.Test.YtahnicbokdbjdaaDoorF23ParsSaid20
import Derived.Deep.CutRange
namespace Go.Proofs.YtahnicbokdbjdaaDoor
open Go.RowKit



theorem far_cellP {w : World} {x : Addr} {v : Value} (h : w.cell? x = some v) : ∀ W, Grown w W → W.cell? x = some v := fun _ hW => (hW.cell (World.block_lt_of_cell? w _ h)).trans h
theorem two_at (b off m c : Nat) (x y : UInt8) (w : World) (h0 : w.cell? ⟨b, off, none⟩ = some (.int .u8 (x.toNat : Int))) (h1 : w.cell? ⟨b, off + 1, none⟩ = some (.int .u8 (y.toNat : Int))) (hm : 2 ≤ m) :
    ∀ W, Grown w W → Calls Tryd.prog 48 #[.slice (some ⟨b, off, none⟩) m c] W fun e w' => e = .returned (.int .i64 ((x.toNat : Int) * 256 + y.toNat)) ∧ ∃ n, w' = W.drewN n :=
  fun W hW => two_any b off m c x y W (far_cellP h0 W hW) (far_cellP h1 W hW) hm
theorem alloc_drewN (W : World) (o : Obj) (n : Nat) : (W.alloc o).drewN n = (W.drewN n).alloc o := rfl
theorem drewN_two (W : World) (a b : Nat) : (W.drewN a).drewN b = W.drewN (a + b) := by simp [World.drewN, Nat.add_assoc]
theorem grown_drewN {w W : World} (h : Grown w W) (n : Nat) : Grown w (W.drewN n) := below_drewN h n

/-- The nine bytes of parameters. -/
def f16 (x y : UInt8) : Int := (x.toNat : Int) * 256 + y.toNat
theorem f16_bd (x y : UInt8) : 0 ≤ f16 x y ∧ f16 x y ≤ 65535 := by unfold f16; have := x.toNat_lt; have := y.toNat_lt; omega

set_option maxRecDepth 10000 in
set_option maxHeartbeats 4000000 in
theorem parse_right (b off c : Nat) (x0 x1 x2 x3 x4 x5 x6 x7 x8 : UInt8) (_ : 9 ≤ c) (w : World) (h : badAt ((x0.toNat : Int) * 256 + x1.toNat) (x2.toNat : Int) (x3.toNat : Int) ((x4.toNat : Int) * 256 + x5.toNat) ((x6.toNat : Int) * 256 + x7.toNat) (x8.toNat : Int) = none) (z : Nat → Addr) (hE : ParErrs w z)
    (h0 : w.cell? ⟨b, off, none⟩ = some (.int .u8 (x0.toNat : Int))) (h1 : w.cell? ⟨b, off + 1, none⟩ = some (.int .u8 (x1.toNat : Int))) (h2 : w.cell? ⟨b, off + 2, none⟩ = some (.int .u8 (x2.toNat : Int))) (h3 : w.cell? ⟨b, off + 3, none⟩ = some (.int .u8 (x3.toNat : Int)))
    (h4 : w.cell? ⟨b, off + 4, none⟩ = some (.int .u8 (x4.toNat : Int))) (h5 : w.cell? ⟨b, off + 5, none⟩ = some (.int .u8 (x5.toNat : Int))) (h6 : w.cell? ⟨b, off + 6, none⟩ = some (.int .u8 (x6.toNat : Int))) (h7 : w.cell? ⟨b, off + 7, none⟩ = some (.int .u8 (x7.toNat : Int))) (h8 : w.cell? ⟨b, off + 8, none⟩ = some (.int .u8 (x8.toNat : Int))) :
    Calls Tryd.prog 33 #[.slice (some ⟨b, off, none⟩) 9 c] w fun e w' => e = .returned (.tuple #[.agg #[.int .i64 ((x0.toNat : Int) * 256 + x1.toNat), .int .i64 (x2.toNat : Int), .int .i64 (x3.toNat : Int), .int .i64 ((x4.toNat : Int) * 256 + x5.toNat), .int .i64 ((x6.toNat : Int) * 256 + x7.toNat), .int .i64 (x8.toNat : Int)], .nilIface]) ∧ Below w.heap.size w w' := by
  have q0 := cell_far1 h0
  have q1 := cell_far1 h1
  have q2 := cell_far1 h2
  have q3 := cell_far1 h3
  have q4 := cell_far1 h4
  have q5 := cell_far1 h5
  have q6 := cell_far1 h6
  have q7 := cell_far1 h7
  have q8 := cell_far1 h8
  clear h0 h1 h2 h3 h4 h5 h6 h7 h8
  have hb0 := Lib.hid (Below.refl w.heap.size w)
  go_enter Tryd.func33, Tryd.ntmps33
  go_wp2_with fail
  generalize hW : w.alloc (.cells #[.int .i64 0, .int .i64 0, .int .i64 0, .int .i64 0, .int .i64 0, .int .i64 0] 27) = W1 at *
  replace q0 := hW ▸ q0 (.cells #[.int .i64 0, .int .i64 0, .int .i64 0, .int .i64 0, .int .i64 0, .int .i64 0] 27)
  replace q1 := hW ▸ q1 (.cells #[.int .i64 0, .int .i64 0, .int .i64 0, .int .i64 0, .int .i64 0, .int .i64 0] 27)
  replace q2 := far_cellP (hW ▸ q2 (.cells #[.int .i64 0, .int .i64 0, .int .i64 0, .int .i64 0, .int .i64 0, .int .i64 0] 27))
  replace q3 := far_cellP (hW ▸ q3 (.cells #[.int .i64 0, .int .i64 0, .int .i64 0, .int .i64 0, .int .i64 0, .int .i64 0] 27))
  replace q4 := hW ▸ q4 (.cells #[.int .i64 0, .int .i64 0, .int .i64 0, .int .i64 0, .int .i64 0, .int .i64 0] 27)
  replace q5 := hW ▸ q5 (.cells #[.int .i64 0, .int .i64 0, .int .i64 0, .int .i64 0, .int .i64 0, .int .i64 0] 27)
  replace q6 := hW ▸ q6 (.cells #[.int .i64 0, .int .i64 0, .int .i64 0, .int .i64 0, .int .i64 0, .int .i64 0] 27)
  replace q7 := hW ▸ q7 (.cells #[.int .i64 0, .int .i64 0, .int .i64 0, .int .i64 0, .int .i64 0, .int .i64 0] 27)
  replace q8 := far_cellP (hW ▸ q8 (.cells #[.int .i64 0, .int .i64 0, .int .i64 0, .int .i64 0, .int .i64 0, .int .i64 0] 27))
  have ct := Lib.hid (two_at b off 9 c x0 x1 W1 q0 q1 (by omega))
  have cu := Lib.hid (two_at b (off + 4) 5 (c - 4) x4 x5 W1 q4 q5 (by omega))
  have cv := Lib.hid (two_at b (off + 6) 3 (c - 6) x6 x7 W1 q6 q7 (by omega))
  clear q0 q1 q4 q5 q6 q7
  have e2 : IntKind.i64.wrap (x2.toNat : Int) = x2.toNat := IntWalk.i64_in _ (by have := x2.toNat_lt; omega)
  have e3 : IntKind.i64.wrap (x3.toNat : Int) = x3.toNat := IntWalk.i64_in _ (by have := x3.toNat_lt; omega)
  have e8 : IntKind.i64.wrap (x8.toNat : Int) = x8.toNat := IntWalk.i64_in _ (by have := x8.toNat_lt; omega)
  go_cut [4] from 11 to 31 (fun s4 wx => ∃ m : Nat, s4 = .pointer (some ⟨W1.heap.size, 0, none⟩) ∧ wx = (W1.drewN m).alloc (.cells #[.int .i64 ((x0.toNat : Int) * 256 + x1.toNat), .int .i64 (x2.toNat : Int), .int .i64 (x3.toNat : Int), .int .i64 ((x4.toNat : Int) * 256 + x5.toNat), .int .i64 ((x6.toNat : Int) * 256 + x7.toNat), .int .i64 (x8.toNat : Int)] 27))
  case first =>
    refine wp_region_on (by kernel_rfl) (fun hOn => ?_)
    refine wpAnyH_take (i := 0) (v := ?_) (by simp only [List.getElem?_toArray, List.getElem?_cons_zero]; rfl) (by kernel_rfl) (by kernel_rfl) (by kernel_rfl) (by exact fun _ _ _ h => h) (Or.inl ⟨by rfl, ?_⟩) hOn ?_
    rotate_left
    focus (intro W hSW; go_simp; try with_reducible rfl)
    try simp only [Act.put, List.setIfInBounds_toArray, List.set_cons_zero, List.set_cons_succ]
    refine wpAnyH_take (i := 2) (v := ?_) (by simp only [List.getElem?_toArray, List.getElem?_cons_succ, List.getElem?_cons_zero]; rfl) (by kernel_rfl) (by kernel_rfl) (by kernel_rfl) (by exact fun _ _ _ h => h) (Or.inl ⟨by rfl, ?_⟩) hOn ?_
    rotate_left
    focus (intro W hSW; go_simp; try with_reducible rfl)
    try simp only [Act.put, List.setIfInBounds_toArray, List.set_cons_zero, List.set_cons_succ]
    refine wpAnyH_take (i := 3) (v := ?_) (by simp only [List.getElem?_toArray, List.getElem?_cons_succ, List.getElem?_cons_zero]; rfl) (by kernel_rfl) (by kernel_rfl) (by kernel_rfl) (by exact fun _ _ _ h => h) (Or.inl ⟨by rfl, ?_⟩) hOn ?_
    rotate_left
    focus (intro W hSW; go_simp; try with_reducible rfl)
    try simp only [Act.put, List.setIfInBounds_toArray, List.set_cons_zero, List.set_cons_succ]
    refine wpAnyH_take (i := 4) (v := ?_) (by simp only [List.getElem?_toArray, List.getElem?_cons_succ, List.getElem?_cons_zero]; rfl) (by kernel_rfl) (by kernel_rfl) (by kernel_rfl) (by exact fun _ _ _ h => h) (Or.inl ⟨by rfl, ?_⟩) hOn ?_
    rotate_left
    focus (intro W hSW; go_simp; try with_reducible rfl)
    try simp only [Act.put, List.setIfInBounds_toArray, List.set_cons_zero, List.set_cons_succ]
    refine wpAnyH_take (i := 5) (v := ?_) (by simp only [List.getElem?_toArray, List.getElem?_cons_succ, List.getElem?_cons_zero]; rfl) (by kernel_rfl) (by kernel_rfl) (by kernel_rfl) (by exact fun _ _ _ h => h) (Or.inl ⟨by rfl, ?_⟩) hOn ?_
    rotate_left
    focus (intro W hSW; go_simp; try with_reducible rfl)
    try simp only [Act.put, List.setIfInBounds_toArray, List.set_cons_zero, List.set_cons_succ]
    refine wpAnyH_take (i := 6) (v := ?_) (by simp only [List.getElem?_toArray, List.getElem?_cons_succ, List.getElem?_cons_zero]; rfl) (by kernel_rfl) (by kernel_rfl) (by kernel_rfl) (by exact fun _ _ _ h => h) (Or.inl ⟨by rfl, ?_⟩) hOn ?_
    rotate_left
    focus (intro W hSW; go_simp; try with_reducible rfl)
    try simp only [Act.put, List.setIfInBounds_toArray, List.set_cons_zero, List.set_cons_succ]
    refine wpAnyH_take (i := 7) (v := ?_) (by simp only [List.getElem?_toArray, List.getElem?_cons_succ, List.getElem?_cons_zero]; rfl) (by kernel_rfl) (by kernel_rfl) (by kernel_rfl) (by exact fun _ _ _ h => h) (Or.inl ⟨by rfl, ?_⟩) hOn ?_
    rotate_left
    focus (intro W hSW; go_simp; try with_reducible rfl)
    try simp only [Act.put, List.setIfInBounds_toArray, List.set_cons_zero, List.set_cons_succ]
    refine wpAnyH_take (i := 8) (v := ?_) (by simp only [List.getElem?_toArray, List.getElem?_cons_succ, List.getElem?_cons_zero]; rfl) (by kernel_rfl) (by kernel_rfl) (by kernel_rfl) (by exact fun _ _ _ h => h) (Or.inl ⟨by rfl, ?_⟩) hOn ?_
    rotate_left
    focus (intro W hSW; go_simp; try with_reducible rfl)
    try simp only [Act.put, List.setIfInBounds_toArray, List.set_cons_zero, List.set_cons_succ]
    refine wpAnyH_take (i := 9) (v := ?_) (by simp only [List.getElem?_toArray, List.getElem?_cons_succ, List.getElem?_cons_zero]; rfl) (by kernel_rfl) (by kernel_rfl) (by kernel_rfl) (by exact fun _ _ _ h => h) (Or.inl ⟨by rfl, ?_⟩) hOn ?_
    rotate_left
    focus (intro W hSW; go_simp; try with_reducible rfl)
    try simp only [Act.put, List.setIfInBounds_toArray, List.set_cons_zero, List.set_cons_succ]
    refine wpAnyH_take (i := 10) (v := ?_) (by simp only [List.getElem?_toArray, List.getElem?_cons_succ, List.getElem?_cons_zero]; rfl) (by kernel_rfl) (by kernel_rfl) (by kernel_rfl) (by exact fun _ _ _ h => h) (Or.inl ⟨by rfl, ?_⟩) hOn ?_
    rotate_left
    focus (intro W hSW; go_simp; try with_reducible rfl)
    try simp only [Act.put, List.setIfInBounds_toArray, List.set_cons_zero, List.set_cons_succ]
    refine wpAnyH_take (i := 11) (v := ?_) (by simp only [List.getElem?_toArray, List.getElem?_cons_succ, List.getElem?_cons_zero]; rfl) (by kernel_rfl) (by kernel_rfl) (by kernel_rfl) (by exact fun _ _ _ h => h) (Or.inl ⟨by rfl, ?_⟩) hOn ?_
    rotate_left
    focus (intro W hSW; go_simp; try with_reducible rfl)
    try simp only [Act.put, List.setIfInBounds_toArray, List.set_cons_zero, List.set_cons_succ]
    refine wpAnyH_take (i := 13) (v := ?_) (by simp only [List.getElem?_toArray, List.getElem?_cons_succ, List.getElem?_cons_zero]; rfl) (by kernel_rfl) (by kernel_rfl) (by kernel_rfl) (by exact fun _ _ _ h => h) (Or.inl ⟨by rfl, ?_⟩) hOn ?_
    rotate_left
    focus (intro W hSW; go_simp; try with_reducible rfl)
    try simp only [Act.put, List.setIfInBounds_toArray, List.set_cons_zero, List.set_cons_succ]
    refine wpAnyH_take (i := 14) (v := ?_) (by simp only [List.getElem?_toArray, List.getElem?_cons_succ, List.getElem?_cons_zero]; rfl) (by kernel_rfl) (by kernel_rfl) (by kernel_rfl) (by exact fun _ _ _ h => h) (Or.inl ⟨by rfl, ?_⟩) hOn ?_
    rotate_left
    focus (intro W hSW; go_simp; try with_reducible rfl)
    try simp only [Act.put, List.setIfInBounds_toArray, List.set_cons_zero, List.set_cons_succ]
    refine wpAnyH_take (i := 16) (v := ?_) (by simp only [List.getElem?_toArray, List.getElem?_cons_succ, List.getElem?_cons_zero]; rfl) (by kernel_rfl) (by kernel_rfl) (by kernel_rfl) (by exact fun _ _ _ h => h) (Or.inl ⟨by rfl, ?_⟩) hOn ?_
    rotate_left
    focus (intro W hSW; go_simp; try with_reducible rfl)
    try simp only [Act.put, List.setIfInBounds_toArray, List.set_cons_zero, List.set_cons_succ]
    refine wpAnyH_take (i := 17) (v := ?_) (by simp only [List.getElem?_toArray, List.getElem?_cons_succ, List.getElem?_cons_zero]; rfl) (by kernel_rfl) (by kernel_rfl) (by kernel_rfl) (by exact fun _ _ _ h => h) (Or.inl ⟨by rfl, ?_⟩) hOn ?_
    rotate_left
    focus (intro W hSW; go_simp; try with_reducible rfl)
    try simp only [Act.put, List.setIfInBounds_toArray, List.set_cons_zero, List.set_cons_succ]
    refine wpAnyH_take (i := 18) (v := ?_) (by simp only [List.getElem?_toArray, List.getElem?_cons_succ, List.getElem?_cons_zero]; rfl) (by kernel_rfl) (by kernel_rfl) (by kernel_rfl) (by exact fun _ _ _ h => h) (Or.inl ⟨by rfl, ?_⟩) hOn ?_
    rotate_left
    focus (intro W hSW; go_simp; try with_reducible rfl)
    try simp only [Act.put, List.setIfInBounds_toArray, List.set_cons_zero, List.set_cons_succ]
    refine wpAnyH_take (i := 19) (v := ?_) (by simp only [List.getElem?_toArray, List.getElem?_cons_succ, List.getElem?_cons_zero]; rfl) (by kernel_rfl) (by kernel_rfl) (by kernel_rfl) (by exact fun _ _ _ h => h) (Or.inl ⟨by rfl, ?_⟩) hOn ?_
    rotate_left
    focus (intro W hSW; go_simp; try with_reducible rfl)
    try simp only [Act.put, List.setIfInBounds_toArray, List.set_cons_zero, List.set_cons_succ]
    refine wpAnyH_ready (rs := [1, 21]) (by kernel_rfl) (by simp) ?_
    refine AllReadyH.cons (by simp only [List.getElem?_toArray, List.getElem?_cons_succ, List.getElem?_cons_zero]; rfl) (fun K hK => ?_) ?_
    · go_simp
      refine (ct.out _ hOn).mono ?_
      rintro e w2 ⟨rfl, nw2, rfl⟩
      go_wp2_with fail
      refine hK.out _ _ (by first | exact grown_drewN (Grown.refl _) _ | exact Grown.alloc (grown_drewN (Grown.refl _) _) _ | exact grown_drewN (Grown.alloc (grown_drewN (Grown.refl _) _) _) _) (fun hNext => ?_)
      clear hK K hOn
      have hOn := hNext
      clear hNext
      try rw [alloc_drewN, drewN_two]
      try rw [alloc_drewN, drewN_two] at hOn
      try simp only [Act.put, List.setIfInBounds_toArray, List.set_cons_zero, List.set_cons_succ]
      refine wpAnyH_ready (rs := [12, 21]) (by kernel_rfl) (by simp) ?_
      refine AllReadyH.cons (by simp only [List.getElem?_toArray, List.getElem?_cons_succ, List.getElem?_cons_zero]; rfl) (fun K hK => ?_) ?_
      · go_simp
        refine (cu.out _ hOn).mono ?_
        rintro e w3 ⟨rfl, nw3, rfl⟩
        go_wp2_with fail
        refine hK.out _ _ (by first | exact grown_drewN (Grown.refl _) _ | exact Grown.alloc (grown_drewN (Grown.refl _) _) _ | exact grown_drewN (Grown.alloc (grown_drewN (Grown.refl _) _) _) _) (fun hNext => ?_)
        clear hK K hOn
        have hOn := hNext
        clear hNext
        try rw [alloc_drewN, drewN_two]
        try rw [alloc_drewN, drewN_two] at hOn
        try simp only [Act.put, List.setIfInBounds_toArray, List.set_cons_zero, List.set_cons_succ]
        refine wpAnyH_ready (rs := [15, 21]) (by kernel_rfl) (by simp) ?_
        refine AllReadyH.cons (by simp only [List.getElem?_toArray, List.getElem?_cons_succ, List.getElem?_cons_zero]; rfl) (fun K hK => ?_) ?_
        · go_simp
          refine (cv.out _ hOn).mono ?_
          rintro e w4 ⟨rfl, nw4, rfl⟩
          go_wp2_with fail
          refine hK.out _ _ (by first | exact grown_drewN (Grown.refl _) _ | exact Grown.alloc (grown_drewN (Grown.refl _) _) _ | exact grown_drewN (Grown.alloc (grown_drewN (Grown.refl _) _) _) _) (fun hNext => ?_)
          clear hK K hOn
          have hOn := hNext
          clear hNext
          try rw [alloc_drewN, drewN_two]
          try rw [alloc_drewN, drewN_two] at hOn
          try simp only [Act.put, List.setIfInBounds_toArray, List.set_cons_zero, List.set_cons_succ]
          refine wpAnyH_take (i := 20) (v := ?_) (by simp only [List.getElem?_toArray, List.getElem?_cons_succ, List.getElem?_cons_zero]; rfl) (by kernel_rfl) (by kernel_rfl) (by kernel_rfl) (by exact fun _ _ _ h => h) (Or.inl ⟨by rfl, ?_⟩) hOn ?_
          rotate_left
          focus (intro W hSW; go_simp; try with_reducible rfl)
          try simp only [Act.put, List.setIfInBounds_toArray, List.set_cons_zero, List.set_cons_succ]
          refine wpAnyH_ready (rs := [21]) (by kernel_rfl) (by simp) ?_
          refine AllReadyH.cons (by simp only [List.getElem?_toArray, List.getElem?_cons_succ, List.getElem?_cons_zero]; rfl) (fun K hK => ?_) AllReadyH.nil
          go_simp
          try go_wp2_with fail
          refine hK.out _ _ (by first | exact grown_drewN (Grown.refl _) _ | exact Grown.alloc (grown_drewN (Grown.refl _) _) _ | exact grown_drewN (Grown.alloc (grown_drewN (Grown.refl _) _) _) _) (fun hNext => ?_)
          clear hK K hOn
          have hOn := hNext
          clear hNext
          try rw [alloc_drewN, drewN_two]
          try rw [alloc_drewN, drewN_two] at hOn
          try simp only [Act.put, List.setIfInBounds_toArray, List.set_cons_zero, List.set_cons_succ]
          refine wpAnyH_ready (rs := [22]) (by kernel_rfl) (by simp) ?_
          refine AllReadyH.cons (by simp only [List.getElem?_toArray, List.getElem?_cons_succ, List.getElem?_cons_zero]; rfl) (fun K hK => ?_) AllReadyH.nil
          rw [if_pos (by rfl)]
          refine wp_store_new (w := W1.drewN _) 27 (.tmp 4) (.tmp 31) rfl _ #[.int .i64 ((x0.toNat : Int) * 256 + x1.toNat), .int .i64 (x2.toNat : Int), .int .i64 (x3.toNat : Int), .int .i64 ((x4.toNat : Int) * 256 + x5.toNat), .int .i64 ((x6.toNat : Int) * 256 + x7.toNat), .int .i64 (x8.toNat : Int)] rfl rfl (by kernel_rfl) rfl (by simp [Value.oneCell']) ?_
          refine hK.out _ _ (by first | exact grown_drewN (Grown.refl _) _ | exact Grown.alloc (grown_drewN (Grown.refl _) _) _ | exact grown_drewN (Grown.alloc (grown_drewN (Grown.refl _) _) _) _) (fun hNext => ?_)
          clear hK K hOn
          have hOn := hNext
          clear hNext
          try rw [alloc_drewN, drewN_two]
          try rw [alloc_drewN, drewN_two] at hOn
          try simp only [Act.put]
          refine wpAnyH_done (by kernel_rfl) ?_ _
          go_wp2_with fail
          go_meet
          exact ⟨_, rfl, rfl⟩
        refine AllReadyH.cons (by simp only [List.getElem?_toArray, List.getElem?_cons_succ, List.getElem?_cons_zero]; rfl) (fun K hK => ?_) AllReadyH.nil
        go_simp
        try go_wp2_with fail
        refine hK.out _ _ (by first | exact grown_drewN (Grown.refl _) _ | exact Grown.alloc (grown_drewN (Grown.refl _) _) _ | exact grown_drewN (Grown.alloc (grown_drewN (Grown.refl _) _) _) _) (fun hNext => ?_)
        clear hK K hOn
        have hOn := hNext
        clear hNext
        try rw [alloc_drewN, drewN_two]
        try rw [alloc_drewN, drewN_two] at hOn
        try simp only [Act.put, List.setIfInBounds_toArray, List.set_cons_zero, List.set_cons_succ]
        refine wpAnyH_ready (rs := [15]) (by kernel_rfl) (by simp) ?_
        refine AllReadyH.cons (by simp only [List.getElem?_toArray, List.getElem?_cons_succ, List.getElem?_cons_zero]; rfl) (fun K hK => ?_) AllReadyH.nil
        go_simp
        refine (cv.out _ hOn).mono ?_
        rintro e w4 ⟨rfl, nw4, rfl⟩
        go_wp2_with fail
        refine hK.out _ _ (by first | exact grown_drewN (Grown.refl _) _ | exact Grown.alloc (grown_drewN (Grown.refl _) _) _ | exact grown_drewN (Grown.alloc (grown_drewN (Grown.refl _) _) _) _) (fun hNext => ?_)
        clear hK K hOn
        have hOn := hNext
        clear hNext
        try rw [alloc_drewN, drewN_two]
        try rw [alloc_drewN, drewN_two] at hOn
        try simp only [Act.put, List.setIfInBounds_toArray, List.set_cons_zero, List.set_cons_succ]
        refine wpAnyH_take (i := 20) (v := ?_) (by simp only [List.getElem?_toArray, List.getElem?_cons_succ, List.getElem?_cons_zero]; rfl) (by kernel_rfl) (by kernel_rfl) (by kernel_rfl) (by exact fun _ _ _ h => h) (Or.inl ⟨by rfl, ?_⟩) hOn ?_
        rotate_left
        focus (intro W hSW; go_simp; try with_reducible rfl)
        try simp only [Act.put, List.setIfInBounds_toArray, List.set_cons_zero, List.set_cons_succ]
        refine wpAnyH_ready (rs := [22]) (by kernel_rfl) (by simp) ?_
        refine AllReadyH.cons (by simp only [List.getElem?_toArray, List.getElem?_cons_succ, List.getElem?_cons_zero]; rfl) (fun K hK => ?_) AllReadyH.nil
        rw [if_pos (by rfl)]
        refine wp_store_new (w := W1.drewN _) 27 (.tmp 4) (.tmp 31) rfl _ #[.int .i64 ((x0.toNat : Int) * 256 + x1.toNat), .int .i64 (x2.toNat : Int), .int .i64 (x3.toNat : Int), .int .i64 ((x4.toNat : Int) * 256 + x5.toNat), .int .i64 ((x6.toNat : Int) * 256 + x7.toNat), .int .i64 (x8.toNat : Int)] rfl rfl (by kernel_rfl) rfl (by simp [Value.oneCell']) ?_
        refine hK.out _ _ (by first | exact grown_drewN (Grown.refl _) _ | exact Grown.alloc (grown_drewN (Grown.refl _) _) _ | exact grown_drewN (Grown.alloc (grown_drewN (Grown.refl _) _) _) _) (fun hNext => ?_)
        clear hK K hOn
        have hOn := hNext
        clear hNext
        try rw [alloc_drewN, drewN_two]
        try rw [alloc_drewN, drewN_two] at hOn
        try simp only [Act.put]
        refine wpAnyH_done (by kernel_rfl) ?_ _
        go_wp2_with fail
        go_meet
        exact ⟨_, rfl, rfl⟩
      refine AllReadyH.cons (by simp only [List.getElem?_toArray, List.getElem?_cons_succ, List.getElem?_cons_zero]; rfl) (fun K hK => ?_) AllReadyH.nil
      go_simp
      try go_wp2_with fail
      refine hK.out _ _ (by first | exact grown_drewN (Grown.refl _) _ | exact Grown.alloc (grown_drewN (Grown.refl _) _) _ | exact grown_drewN (Grown.alloc (grown_drewN (Grown.refl _) _) _) _) (fun hNext => ?_)
      clear hK K hOn
      have hOn := hNext
      clear hNext
      try rw [alloc_drewN, drewN_two]
      try rw [alloc_drewN, drewN_two] at hOn
      try simp only [Act.put, List.setIfInBounds_toArray, List.set_cons_zero, List.set_cons_succ]
      refine wpAnyH_ready (rs := [12]) (by kernel_rfl) (by simp) ?_
      refine AllReadyH.cons (by simp only [List.getElem?_toArray, List.getElem?_cons_succ, List.getElem?_cons_zero]; rfl) (fun K hK => ?_) AllReadyH.nil
      go_simp
      refine (cu.out _ hOn).mono ?_
      rintro e w3 ⟨rfl, nw3, rfl⟩
      go_wp2_with fail
      refine hK.out _ _ (by first | exact grown_drewN (Grown.refl _) _ | exact Grown.alloc (grown_drewN (Grown.refl _) _) _ | exact grown_drewN (Grown.alloc (grown_drewN (Grown.refl _) _) _) _) (fun hNext => ?_)
      clear hK K hOn
      have hOn := hNext
      clear hNext
      try rw [alloc_drewN, drewN_two]
      try rw [alloc_drewN, drewN_two] at hOn
      try simp only [Act.put, List.setIfInBounds_toArray, List.set_cons_zero, List.set_cons_succ]
      refine wpAnyH_ready (rs := [15]) (by kernel_rfl) (by simp) ?_
      refine AllReadyH.cons (by simp only [List.getElem?_toArray, List.getElem?_cons_succ, List.getElem?_cons_zero]; rfl) (fun K hK => ?_) AllReadyH.nil
      go_simp
      refine (cv.out _ hOn).mono ?_
      rintro e w4 ⟨rfl, nw4, rfl⟩
      go_wp2_with fail
      refine hK.out _ _ (by first | exact grown_drewN (Grown.refl _) _ | exact Grown.alloc (grown_drewN (Grown.refl _) _) _ | exact grown_drewN (Grown.alloc (grown_drewN (Grown.refl _) _) _) _) (fun hNext => ?_)
      clear hK K hOn
      have hOn := hNext
      clear hNext
      try rw [alloc_drewN, drewN_two]
      try rw [alloc_drewN, drewN_two] at hOn
      try simp only [Act.put, List.setIfInBounds_toArray, List.set_cons_zero, List.set_cons_succ]
      refine wpAnyH_take (i := 20) (v := ?_) (by simp only [List.getElem?_toArray, List.getElem?_cons_succ, List.getElem?_cons_zero]; rfl) (by kernel_rfl) (by kernel_rfl) (by kernel_rfl) (by exact fun _ _ _ h => h) (Or.inl ⟨by rfl, ?_⟩) hOn ?_
      rotate_left
      focus (intro W hSW; go_simp; try with_reducible rfl)
      try simp only [Act.put, List.setIfInBounds_toArray, List.set_cons_zero, List.set_cons_succ]
      refine wpAnyH_ready (rs := [22]) (by kernel_rfl) (by simp) ?_
      refine AllReadyH.cons (by simp only [List.getElem?_toArray, List.getElem?_cons_succ, List.getElem?_cons_zero]; rfl) (fun K hK => ?_) AllReadyH.nil
      rw [if_pos (by rfl)]
      refine wp_store_new (w := W1.drewN _) 27 (.tmp 4) (.tmp 31) rfl _ #[.int .i64 ((x0.toNat : Int) * 256 + x1.toNat), .int .i64 (x2.toNat : Int), .int .i64 (x3.toNat : Int), .int .i64 ((x4.toNat : Int) * 256 + x5.toNat), .int .i64 ((x6.toNat : Int) * 256 + x7.toNat), .int .i64 (x8.toNat : Int)] rfl rfl (by kernel_rfl) rfl (by simp [Value.oneCell']) ?_
      refine hK.out _ _ (by first | exact grown_drewN (Grown.refl _) _ | exact Grown.alloc (grown_drewN (Grown.refl _) _) _ | exact grown_drewN (Grown.alloc (grown_drewN (Grown.refl _) _) _) _) (fun hNext => ?_)
      clear hK K hOn
      have hOn := hNext
      clear hNext
      try rw [alloc_drewN, drewN_two]
      try rw [alloc_drewN, drewN_two] at hOn
      try simp only [Act.put]
      refine wpAnyH_done (by kernel_rfl) ?_ _
      go_wp2_with fail
      go_meet
      exact ⟨_, rfl, rfl⟩
    refine AllReadyH.cons (by simp only [List.getElem?_toArray, List.getElem?_cons_succ, List.getElem?_cons_zero]; rfl) (fun K hK => ?_) AllReadyH.nil
    go_simp
    try go_wp2_with fail
    refine hK.out _ _ (by first | exact grown_drewN (Grown.refl _) _ | exact Grown.alloc (grown_drewN (Grown.refl _) _) _ | exact grown_drewN (Grown.alloc (grown_drewN (Grown.refl _) _) _) _) (fun hNext => ?_)
    clear hK K hOn
    have hOn := hNext
    clear hNext
    try rw [alloc_drewN, drewN_two]
    try rw [alloc_drewN, drewN_two] at hOn
    try simp only [Act.put, List.setIfInBounds_toArray, List.set_cons_zero, List.set_cons_succ]
    refine wpAnyH_ready (rs := [1]) (by kernel_rfl) (by simp) ?_
    refine AllReadyH.cons (by simp only [List.getElem?_toArray, List.getElem?_cons_succ, List.getElem?_cons_zero]; rfl) (fun K hK => ?_) AllReadyH.nil
    go_simp
    refine (ct.out _ hOn).mono ?_
    rintro e w2 ⟨rfl, nw2, rfl⟩
    go_wp2_with fail
    refine hK.out _ _ (by first | exact grown_drewN (Grown.refl _) _ | exact Grown.alloc (grown_drewN (Grown.refl _) _) _ | exact grown_drewN (Grown.alloc (grown_drewN (Grown.refl _) _) _) _) (fun hNext => ?_)
    clear hK K hOn
    have hOn := hNext
    clear hNext
    try rw [alloc_drewN, drewN_two]
    try rw [alloc_drewN, drewN_two] at hOn
    try simp only [Act.put, List.setIfInBounds_toArray, List.set_cons_zero, List.set_cons_succ]
    refine wpAnyH_ready (rs := [12]) (by kernel_rfl) (by simp) ?_
    refine AllReadyH.cons (by simp only [List.getElem?_toArray, List.getElem?_cons_succ, List.getElem?_cons_zero]; rfl) (fun K hK => ?_) AllReadyH.nil
    go_simp
    refine (cu.out _ hOn).mono ?_
    rintro e w3 ⟨rfl, nw3, rfl⟩
    go_wp2_with fail
    refine hK.out _ _ (by first | exact grown_drewN (Grown.refl _) _ | exact Grown.alloc (grown_drewN (Grown.refl _) _) _ | exact grown_drewN (Grown.alloc (grown_drewN (Grown.refl _) _) _) _) (fun hNext => ?_)
    clear hK K hOn
    have hOn := hNext
    clear hNext
    try rw [alloc_drewN, drewN_two]
    try rw [alloc_drewN, drewN_two] at hOn
    try simp only [Act.put, List.setIfInBounds_toArray, List.set_cons_zero, List.set_cons_succ]
    refine wpAnyH_ready (rs := [15]) (by kernel_rfl) (by simp) ?_
    refine AllReadyH.cons (by simp only [List.getElem?_toArray, List.getElem?_cons_succ, List.getElem?_cons_zero]; rfl) (fun K hK => ?_) AllReadyH.nil
    go_simp
    refine (cv.out _ hOn).mono ?_
    rintro e w4 ⟨rfl, nw4, rfl⟩
    go_wp2_with fail
    refine hK.out _ _ (by first | exact grown_drewN (Grown.refl _) _ | exact Grown.alloc (grown_drewN (Grown.refl _) _) _ | exact grown_drewN (Grown.alloc (grown_drewN (Grown.refl _) _) _) _) (fun hNext => ?_)
    clear hK K hOn
    have hOn := hNext
    clear hNext
    try rw [alloc_drewN, drewN_two]
    try rw [alloc_drewN, drewN_two] at hOn
    try simp only [Act.put, List.setIfInBounds_toArray, List.set_cons_zero, List.set_cons_succ]
    refine wpAnyH_take (i := 20) (v := ?_) (by simp only [List.getElem?_toArray, List.getElem?_cons_succ, List.getElem?_cons_zero]; rfl) (by kernel_rfl) (by kernel_rfl) (by kernel_rfl) (by exact fun _ _ _ h => h) (Or.inl ⟨by rfl, ?_⟩) hOn ?_
    rotate_left
    focus (intro W hSW; go_simp; try with_reducible rfl)
    try simp only [Act.put, List.setIfInBounds_toArray, List.set_cons_zero, List.set_cons_succ]
    refine wpAnyH_ready (rs := [22]) (by kernel_rfl) (by simp) ?_
    refine AllReadyH.cons (by simp only [List.getElem?_toArray, List.getElem?_cons_succ, List.getElem?_cons_zero]; rfl) (fun K hK => ?_) AllReadyH.nil
    rw [if_pos (by rfl)]
    refine wp_store_new (w := W1.drewN _) 27 (.tmp 4) (.tmp 31) rfl _ #[.int .i64 ((x0.toNat : Int) * 256 + x1.toNat), .int .i64 (x2.toNat : Int), .int .i64 (x3.toNat : Int), .int .i64 ((x4.toNat : Int) * 256 + x5.toNat), .int .i64 ((x6.toNat : Int) * 256 + x7.toNat), .int .i64 (x8.toNat : Int)] rfl rfl (by kernel_rfl) rfl (by simp [Value.oneCell']) ?_
    refine hK.out _ _ (by first | exact grown_drewN (Grown.refl _) _ | exact Grown.alloc (grown_drewN (Grown.refl _) _) _ | exact grown_drewN (Grown.alloc (grown_drewN (Grown.refl _) _) _) _) (fun hNext => ?_)
    clear hK K hOn
    have hOn := hNext
    clear hNext
    try rw [alloc_drewN, drewN_two]
    try rw [alloc_drewN, drewN_two] at hOn
    try simp only [Act.put]
    refine wpAnyH_done (by kernel_rfl) ?_ _
    go_wp2_with fail
    go_meet
    exact ⟨_, rfl, rfl⟩
  case rest =>
    obtain ⟨m, rfl, hwc⟩ := hcut
    have hp := heap_alloc_new (W1.drewN m) (.cells #[.int .i64 ((x0.toNat : Int) * 256 + x1.toNat), .int .i64 (x2.toNat : Int), .int .i64 (x3.toNat : Int), .int .i64 ((x4.toNat : Int) * 256 + x5.toNat), .int .i64 ((x6.toNat : Int) * 256 + x7.toNat), .int .i64 (x8.toNat : Int)] 27)
    rw [← hwc] at hp
    have hg : w.heap.size < W1.heap.size := by rw [← hW]; simp
    have hz0 : W1.heap[w.heap.size]? = some (.cells #[.int .i64 0, .int .i64 0, .int .i64 0, .int .i64 0, .int .i64 0, .int .i64 0] 27) := by rw [← hW]; exact heap_alloc_new w _
    have hBW : Grown W1 wc := by rw [hwc]; exact Grown.alloc (grown_drewN (Grown.refl _) _) _
    have hzz := Lib.hid ((hBW.block w.heap.size (by omega)).trans hz0)
    have hbw : Below w.heap.size w W1 := by rw [← hW]; exact (Below.refl _ _).alloc (Nat.le_refl _) _
    replace hb0 := Lib.hid (hbw.trans (hBW.mono hbw.size))
    have hp := Lib.hid (show wc.heap[W1.heap.size]? = _ from hp)
    clear e2 e3 e8 q2 q3 q8 ct cu cv hwc hz0 hBW hbw
    replace hE := Lib.hid (hE.below hb0.out)
    have hcall := Lib.hid (check_lit ((x0.toNat : Int) * 256 + x1.toNat) (x2.toNat : Int) (x3.toNat : Int) ((x4.toNat : Int) * 256 + x5.toNat) ((x6.toNat : Int) * 256 + x7.toNat) (x8.toNat : Int) (badAt_ok h) z wc hE.out)
    clear h hE
    go_wp2_with (refine wpList_load_row rfl 27 (.tmp 4) rfl W1.heap.size #[.int .i64 ((x0.toNat : Int) * 256 + x1.toNat), .int .i64 (x2.toNat : Int), .int .i64 (x3.toNat : Int), .int .i64 ((x4.toNat : Int) * 256 + x5.toNat), .int .i64 ((x6.toNat : Int) * 256 + x7.toNat), .int .i64 (x8.toNat : Int)] _ rfl hp Tryd.underlying27 rfl (by kernel_rfl) ?_)
    with_reducible refine hcall.out.mono ?_
    rintro e w5 ⟨rfl, hb⟩
    replace hp := Lib.hid ((hb.block _ (block_lt hp.out)).trans hp.out)
    replace hzz := Lib.hid ((hb.block _ (block_lt hzz.out)).trans hzz.out)
    replace hb0 := Lib.hid (hb0.out.trans (hb.mono hb0.out.size))
    clear hb hcall
    go_wp2_with (first | (refine wpList_load_row rfl 27 (.tmp 4) rfl W1.heap.size #[.int .i64 ((x0.toNat : Int) * 256 + x1.toNat), .int .i64 (x2.toNat : Int), .int .i64 (x3.toNat : Int), .int .i64 ((x4.toNat : Int) * 256 + x5.toNat), .int .i64 ((x6.toNat : Int) * 256 + x7.toNat), .int .i64 (x8.toNat : Int)] _ rfl hp Tryd.underlying27 rfl (by kernel_rfl) ?_) | (refine wpList_store_row rfl 27 (.tmp 2) (.tmp 38) rfl w.heap.size _ #[.int .i64 ((x0.toNat : Int) * 256 + x1.toNat), .int .i64 (x2.toNat : Int), .int .i64 (x3.toNat : Int), .int .i64 ((x4.toNat : Int) * 256 + x5.toNat), .int .i64 ((x6.toNat : Int) * 256 + x7.toNat), .int .i64 (x8.toNat : Int)] rfl rfl hzz (by kernel_rfl) rfl (by simp [Value.oneCell']) ?_; intro wS hU))
    refine ret_cell_tmp_row rfl rfl rfl Tryd.underlying27 rfl (by kernel_rfl) hU.out.here ?_
    exact ⟨rfl, hb0.out.trans (hU.out.below (Nat.le_refl _))⟩

set_option maxRecDepth 10000 in
set_option maxHeartbeats 4000000 in
theorem parse_wrong (b off c : Nat) (x0 x1 x2 x3 x4 x5 x6 x7 x8 : UInt8) (_ : 9 ≤ c) (w : World) (F : ByteArray) (V : Int) (i : Nat) (h : badAt ((x0.toNat : Int) * 256 + x1.toNat) (x2.toNat : Int) (x3.toNat : Int) ((x4.toNat : Int) * 256 + x5.toNat) ((x6.toNat : Int) * 256 + x7.toNat) (x8.toNat : Int) = some (F, V, i)) (ea : Nat → Addr) (H : Errs 132 errGs w ea)
    (h0 : w.cell? ⟨b, off, none⟩ = some (.int .u8 (x0.toNat : Int))) (h1 : w.cell? ⟨b, off + 1, none⟩ = some (.int .u8 (x1.toNat : Int))) (h2 : w.cell? ⟨b, off + 2, none⟩ = some (.int .u8 (x2.toNat : Int))) (h3 : w.cell? ⟨b, off + 3, none⟩ = some (.int .u8 (x3.toNat : Int)))
    (h4 : w.cell? ⟨b, off + 4, none⟩ = some (.int .u8 (x4.toNat : Int))) (h5 : w.cell? ⟨b, off + 5, none⟩ = some (.int .u8 (x5.toNat : Int))) (h6 : w.cell? ⟨b, off + 6, none⟩ = some (.int .u8 (x6.toNat : Int))) (h7 : w.cell? ⟨b, off + 7, none⟩ = some (.int .u8 (x7.toNat : Int))) (h8 : w.cell? ⟨b, off + 8, none⟩ = some (.int .u8 (x8.toNat : Int))) :
    Calls Tryd.prog 33 #[.slice (some ⟨b, off, none⟩) 9 c] w fun e w' => ∃ g, e = .returned (.tuple #[.agg #[.int .i64 0, .int .i64 0, .int .i64 0, .int .i64 0, .int .i64 0, .int .i64 0], (.iface 93 (.pointer (some ⟨g, 0, none⟩)))]) ∧ WrongAns w.heap.size w' F V (ea i) g ∧ Below w.heap.size w w' := by
  have q0 := cell_far1 h0
  have q1 := cell_far1 h1
  have q2 := cell_far1 h2
  have q3 := cell_far1 h3
  have q4 := cell_far1 h4
  have q5 := cell_far1 h5
  have q6 := cell_far1 h6
  have q7 := cell_far1 h7
  have q8 := cell_far1 h8
  clear h0 h1 h2 h3 h4 h5 h6 h7 h8
  have hb0 := Lib.hid (Below.refl w.heap.size w)
  go_enter Tryd.func33, Tryd.ntmps33
  go_wp2_with fail
  generalize hW : w.alloc (.cells #[.int .i64 0, .int .i64 0, .int .i64 0, .int .i64 0, .int .i64 0, .int .i64 0] 27) = W1 at *
  replace q0 := hW ▸ q0 (.cells #[.int .i64 0, .int .i64 0, .int .i64 0, .int .i64 0, .int .i64 0, .int .i64 0] 27)
  replace q1 := hW ▸ q1 (.cells #[.int .i64 0, .int .i64 0, .int .i64 0, .int .i64 0, .int .i64 0, .int .i64 0] 27)
  replace q2 := far_cellP (hW ▸ q2 (.cells #[.int .i64 0, .int .i64 0, .int .i64 0, .int .i64 0, .int .i64 0, .int .i64 0] 27))
  replace q3 := far_cellP (hW ▸ q3 (.cells #[.int .i64 0, .int .i64 0, .int .i64 0, .int .i64 0, .int .i64 0, .int .i64 0] 27))
  replace q4 := hW ▸ q4 (.cells #[.int .i64 0, .int .i64 0, .int .i64 0, .int .i64 0, .int .i64 0, .int .i64 0] 27)
  replace q5 := hW ▸ q5 (.cells #[.int .i64 0, .int .i64 0, .int .i64 0, .int .i64 0, .int .i64 0, .int .i64 0] 27)
  replace q6 := hW ▸ q6 (.cells #[.int .i64 0, .int .i64 0, .int .i64 0, .int .i64 0, .int .i64 0, .int .i64 0] 27)
  replace q7 := hW ▸ q7 (.cells #[.int .i64 0, .int .i64 0, .int .i64 0, .int .i64 0, .int .i64 0, .int .i64 0] 27)
  replace q8 := far_cellP (hW ▸ q8 (.cells #[.int .i64 0, .int .i64 0, .int .i64 0, .int .i64 0, .int .i64 0, .int .i64 0] 27))
  have ct := Lib.hid (two_at b off 9 c x0 x1 W1 q0 q1 (by omega))
  have cu := Lib.hid (two_at b (off + 4) 5 (c - 4) x4 x5 W1 q4 q5 (by omega))
  have cv := Lib.hid (two_at b (off + 6) 3 (c - 6) x6 x7 W1 q6 q7 (by omega))
  clear q0 q1 q4 q5 q6 q7
  have e2 : IntKind.i64.wrap (x2.toNat : Int) = x2.toNat := IntWalk.i64_in _ (by have := x2.toNat_lt; omega)
  have e3 : IntKind.i64.wrap (x3.toNat : Int) = x3.toNat := IntWalk.i64_in _ (by have := x3.toNat_lt; omega)
  have e8 : IntKind.i64.wrap (x8.toNat : Int) = x8.toNat := IntWalk.i64_in _ (by have := x8.toNat_lt; omega)
  go_cut [4] from 11 to 31 (fun s4 wx => ∃ m : Nat, s4 = .pointer (some ⟨W1.heap.size, 0, none⟩) ∧ wx = (W1.drewN m).alloc (.cells #[.int .i64 ((x0.toNat : Int) * 256 + x1.toNat), .int .i64 (x2.toNat : Int), .int .i64 (x3.toNat : Int), .int .i64 ((x4.toNat : Int) * 256 + x5.toNat), .int .i64 ((x6.toNat : Int) * 256 + x7.toNat), .int .i64 (x8.toNat : Int)] 27))
  case first =>
    refine wp_region_on (by kernel_rfl) (fun hOn => ?_)
    refine wpAnyH_take (i := 0) (v := ?_) (by simp only [List.getElem?_toArray, List.getElem?_cons_zero]; rfl) (by kernel_rfl) (by kernel_rfl) (by kernel_rfl) (by exact fun _ _ _ h => h) (Or.inl ⟨by rfl, ?_⟩) hOn ?_
    rotate_left
    focus (intro W hSW; go_simp; try with_reducible rfl)
    try simp only [Act.put, List.setIfInBounds_toArray, List.set_cons_zero, List.set_cons_succ]
    refine wpAnyH_take (i := 2) (v := ?_) (by simp only [List.getElem?_toArray, List.getElem?_cons_succ, List.getElem?_cons_zero]; rfl) (by kernel_rfl) (by kernel_rfl) (by kernel_rfl) (by exact fun _ _ _ h => h) (Or.inl ⟨by rfl, ?_⟩) hOn ?_
    rotate_left
    focus (intro W hSW; go_simp; try with_reducible rfl)
    try simp only [Act.put, List.setIfInBounds_toArray, List.set_cons_zero, List.set_cons_succ]
    refine wpAnyH_take (i := 3) (v := ?_) (by simp only [List.getElem?_toArray, List.getElem?_cons_succ, List.getElem?_cons_zero]; rfl) (by kernel_rfl) (by kernel_rfl) (by kernel_rfl) (by exact fun _ _ _ h => h) (Or.inl ⟨by rfl, ?_⟩) hOn ?_
    rotate_left
    focus (intro W hSW; go_simp; try with_reducible rfl)
    try simp only [Act.put, List.setIfInBounds_toArray, List.set_cons_zero, List.set_cons_succ]
    refine wpAnyH_take (i := 4) (v := ?_) (by simp only [List.getElem?_toArray, List.getElem?_cons_succ, List.getElem?_cons_zero]; rfl) (by kernel_rfl) (by kernel_rfl) (by kernel_rfl) (by exact fun _ _ _ h => h) (Or.inl ⟨by rfl, ?_⟩) hOn ?_
    rotate_left
    focus (intro W hSW; go_simp; try with_reducible rfl)
    try simp only [Act.put, List.setIfInBounds_toArray, List.set_cons_zero, List.set_cons_succ]
    refine wpAnyH_take (i := 5) (v := ?_) (by simp only [List.getElem?_toArray, List.getElem?_cons_succ, List.getElem?_cons_zero]; rfl) (by kernel_rfl) (by kernel_rfl) (by kernel_rfl) (by exact fun _ _ _ h => h) (Or.inl ⟨by rfl, ?_⟩) hOn ?_
    rotate_left
    focus (intro W hSW; go_simp; try with_reducible rfl)
    try simp only [Act.put, List.setIfInBounds_toArray, List.set_cons_zero, List.set_cons_succ]
    refine wpAnyH_take (i := 6) (v := ?_) (by simp only [List.getElem?_toArray, List.getElem?_cons_succ, List.getElem?_cons_zero]; rfl) (by kernel_rfl) (by kernel_rfl) (by kernel_rfl) (by exact fun _ _ _ h => h) (Or.inl ⟨by rfl, ?_⟩) hOn ?_
    rotate_left
    focus (intro W hSW; go_simp; try with_reducible rfl)
    try simp only [Act.put, List.setIfInBounds_toArray, List.set_cons_zero, List.set_cons_succ]
    refine wpAnyH_take (i := 7) (v := ?_) (by simp only [List.getElem?_toArray, List.getElem?_cons_succ, List.getElem?_cons_zero]; rfl) (by kernel_rfl) (by kernel_rfl) (by kernel_rfl) (by exact fun _ _ _ h => h) (Or.inl ⟨by rfl, ?_⟩) hOn ?_
    rotate_left
    focus (intro W hSW; go_simp; try with_reducible rfl)
    try simp only [Act.put, List.setIfInBounds_toArray, List.set_cons_zero, List.set_cons_succ]
    refine wpAnyH_take (i := 8) (v := ?_) (by simp only [List.getElem?_toArray, List.getElem?_cons_succ, List.getElem?_cons_zero]; rfl) (by kernel_rfl) (by kernel_rfl) (by kernel_rfl) (by exact fun _ _ _ h => h) (Or.inl ⟨by rfl, ?_⟩) hOn ?_
    rotate_left
    focus (intro W hSW; go_simp; try with_reducible rfl)
    try simp only [Act.put, List.setIfInBounds_toArray, List.set_cons_zero, List.set_cons_succ]
    refine wpAnyH_take (i := 9) (v := ?_) (by simp only [List.getElem?_toArray, List.getElem?_cons_succ, List.getElem?_cons_zero]; rfl) (by kernel_rfl) (by kernel_rfl) (by kernel_rfl) (by exact fun _ _ _ h => h) (Or.inl ⟨by rfl, ?_⟩) hOn ?_
    rotate_left
    focus (intro W hSW; go_simp; try with_reducible rfl)
    try simp only [Act.put, List.setIfInBounds_toArray, List.set_cons_zero, List.set_cons_succ]
    refine wpAnyH_take (i := 10) (v := ?_) (by simp only [List.getElem?_toArray, List.getElem?_cons_succ, List.getElem?_cons_zero]; rfl) (by kernel_rfl) (by kernel_rfl) (by kernel_rfl) (by exact fun _ _ _ h => h) (Or.inl ⟨by rfl, ?_⟩) hOn ?_
    rotate_left
    focus (intro W hSW; go_simp; try with_reducible rfl)
    try simp only [Act.put, List.setIfInBounds_toArray, List.set_cons_zero, List.set_cons_succ]
    refine wpAnyH_take (i := 11) (v := ?_) (by simp only [List.getElem?_toArray, List.getElem?_cons_succ, List.getElem?_cons_zero]; rfl) (by kernel_rfl) (by kernel_rfl) (by kernel_rfl) (by exact fun _ _ _ h => h) (Or.inl ⟨by rfl, ?_⟩) hOn ?_
    rotate_left
    focus (intro W hSW; go_simp; try with_reducible rfl)
    try simp only [Act.put, List.setIfInBounds_toArray, List.set_cons_zero, List.set_cons_succ]
    refine wpAnyH_take (i := 13) (v := ?_) (by simp only [List.getElem?_toArray, List.getElem?_cons_succ, List.getElem?_cons_zero]; rfl) (by kernel_rfl) (by kernel_rfl) (by kernel_rfl) (by exact fun _ _ _ h => h) (Or.inl ⟨by rfl, ?_⟩) hOn ?_
    rotate_left
    focus (intro W hSW; go_simp; try with_reducible rfl)
    try simp only [Act.put, List.setIfInBounds_toArray, List.set_cons_zero, List.set_cons_succ]
    refine wpAnyH_take (i := 14) (v := ?_) (by simp only [List.getElem?_toArray, List.getElem?_cons_succ, List.getElem?_cons_zero]; rfl) (by kernel_rfl) (by kernel_rfl) (by kernel_rfl) (by exact fun _ _ _ h => h) (Or.inl ⟨by rfl, ?_⟩) hOn ?_
    rotate_left
    focus (intro W hSW; go_simp; try with_reducible rfl)
    try simp only [Act.put, List.setIfInBounds_toArray, List.set_cons_zero, List.set_cons_succ]
    refine wpAnyH_take (i := 16) (v := ?_) (by simp only [List.getElem?_toArray, List.getElem?_cons_succ, List.getElem?_cons_zero]; rfl) (by kernel_rfl) (by kernel_rfl) (by kernel_rfl) (by exact fun _ _ _ h => h) (Or.inl ⟨by rfl, ?_⟩) hOn ?_
    rotate_left
    focus (intro W hSW; go_simp; try with_reducible rfl)
    try simp only [Act.put, List.setIfInBounds_toArray, List.set_cons_zero, List.set_cons_succ]
    refine wpAnyH_take (i := 17) (v := ?_) (by simp only [List.getElem?_toArray, List.getElem?_cons_succ, List.getElem?_cons_zero]; rfl) (by kernel_rfl) (by kernel_rfl) (by kernel_rfl) (by exact fun _ _ _ h => h) (Or.inl ⟨by rfl, ?_⟩) hOn ?_
    rotate_left
    focus (intro W hSW; go_simp; try with_reducible rfl)
    try simp only [Act.put, List.setIfInBounds_toArray, List.set_cons_zero, List.set_cons_succ]
    refine wpAnyH_take (i := 18) (v := ?_) (by simp only [List.getElem?_toArray, List.getElem?_cons_succ, List.getElem?_cons_zero]; rfl) (by kernel_rfl) (by kernel_rfl) (by kernel_rfl) (by exact fun _ _ _ h => h) (Or.inl ⟨by rfl, ?_⟩) hOn ?_
    rotate_left
    focus (intro W hSW; go_simp; try with_reducible rfl)
    try simp only [Act.put, List.setIfInBounds_toArray, List.set_cons_zero, List.set_cons_succ]
    refine wpAnyH_take (i := 19) (v := ?_) (by simp only [List.getElem?_toArray, List.getElem?_cons_succ, List.getElem?_cons_zero]; rfl) (by kernel_rfl) (by kernel_rfl) (by kernel_rfl) (by exact fun _ _ _ h => h) (Or.inl ⟨by rfl, ?_⟩) hOn ?_
    rotate_left
    focus (intro W hSW; go_simp; try with_reducible rfl)
    try simp only [Act.put, List.setIfInBounds_toArray, List.set_cons_zero, List.set_cons_succ]
    refine wpAnyH_ready (rs := [1, 21]) (by kernel_rfl) (by simp) ?_
    refine AllReadyH.cons (by simp only [List.getElem?_toArray, List.getElem?_cons_succ, List.getElem?_cons_zero]; rfl) (fun K hK => ?_) ?_
    · go_simp
      refine (ct.out _ hOn).mono ?_
      rintro e w2 ⟨rfl, nw2, rfl⟩
      go_wp2_with fail
      refine hK.out _ _ (by first | exact grown_drewN (Grown.refl _) _ | exact Grown.alloc (grown_drewN (Grown.refl _) _) _ | exact grown_drewN (Grown.alloc (grown_drewN (Grown.refl _) _) _) _) (fun hNext => ?_)
      clear hK K hOn
      have hOn := hNext
      clear hNext
      try rw [alloc_drewN, drewN_two]
      try rw [alloc_drewN, drewN_two] at hOn
      try simp only [Act.put, List.setIfInBounds_toArray, List.set_cons_zero, List.set_cons_succ]
      refine wpAnyH_ready (rs := [12, 21]) (by kernel_rfl) (by simp) ?_
      refine AllReadyH.cons (by simp only [List.getElem?_toArray, List.getElem?_cons_succ, List.getElem?_cons_zero]; rfl) (fun K hK => ?_) ?_
      · go_simp
        refine (cu.out _ hOn).mono ?_
        rintro e w3 ⟨rfl, nw3, rfl⟩
        go_wp2_with fail
        refine hK.out _ _ (by first | exact grown_drewN (Grown.refl _) _ | exact Grown.alloc (grown_drewN (Grown.refl _) _) _ | exact grown_drewN (Grown.alloc (grown_drewN (Grown.refl _) _) _) _) (fun hNext => ?_)
        clear hK K hOn
        have hOn := hNext
        clear hNext
        try rw [alloc_drewN, drewN_two]
        try rw [alloc_drewN, drewN_two] at hOn
        try simp only [Act.put, List.setIfInBounds_toArray, List.set_cons_zero, List.set_cons_succ]
        refine wpAnyH_ready (rs := [15, 21]) (by kernel_rfl) (by simp) ?_
        refine AllReadyH.cons (by simp only [List.getElem?_toArray, List.getElem?_cons_succ, List.getElem?_cons_zero]; rfl) (fun K hK => ?_) ?_
        · go_simp
          refine (cv.out _ hOn).mono ?_
          rintro e w4 ⟨rfl, nw4, rfl⟩
          go_wp2_with fail
          refine hK.out _ _ (by first | exact grown_drewN (Grown.refl _) _ | exact Grown.alloc (grown_drewN (Grown.refl _) _) _ | exact grown_drewN (Grown.alloc (grown_drewN (Grown.refl _) _) _) _) (fun hNext => ?_)
          clear hK K hOn
          have hOn := hNext
          clear hNext
          try rw [alloc_drewN, drewN_two]
          try rw [alloc_drewN, drewN_two] at hOn
          try simp only [Act.put, List.setIfInBounds_toArray, List.set_cons_zero, List.set_cons_succ]
          refine wpAnyH_take (i := 20) (v := ?_) (by simp only [List.getElem?_toArray, List.getElem?_cons_succ, List.getElem?_cons_zero]; rfl) (by kernel_rfl) (by kernel_rfl) (by kernel_rfl) (by exact fun _ _ _ h => h) (Or.inl ⟨by rfl, ?_⟩) hOn ?_
          rotate_left
          focus (intro W hSW; go_simp; try with_reducible rfl)
          try simp only [Act.put, List.setIfInBounds_toArray, List.set_cons_zero, List.set_cons_succ]
          refine wpAnyH_ready (rs := [21]) (by kernel_rfl) (by simp) ?_
          refine AllReadyH.cons (by simp only [List.getElem?_toArray, List.getElem?_cons_succ, List.getElem?_cons_zero]; rfl) (fun K hK => ?_) AllReadyH.nil
          go_simp
          try go_wp2_with fail
          refine hK.out _ _ (by first | exact grown_drewN (Grown.refl _) _ | exact Grown.alloc (grown_drewN (Grown.refl _) _) _ | exact grown_drewN (Grown.alloc (grown_drewN (Grown.refl _) _) _) _) (fun hNext => ?_)
          clear hK K hOn
          have hOn := hNext
          clear hNext
          try rw [alloc_drewN, drewN_two]
          try rw [alloc_drewN, drewN_two] at hOn
          try simp only [Act.put, List.setIfInBounds_toArray, List.set_cons_zero, List.set_cons_succ]
          refine wpAnyH_ready (rs := [22]) (by kernel_rfl) (by simp) ?_
          refine AllReadyH.cons (by simp only [List.getElem?_toArray, List.getElem?_cons_succ, List.getElem?_cons_zero]; rfl) (fun K hK => ?_) AllReadyH.nil
          rw [if_pos (by rfl)]
          refine wp_store_new (w := W1.drewN _) 27 (.tmp 4) (.tmp 31) rfl _ #[.int .i64 ((x0.toNat : Int) * 256 + x1.toNat), .int .i64 (x2.toNat : Int), .int .i64 (x3.toNat : Int), .int .i64 ((x4.toNat : Int) * 256 + x5.toNat), .int .i64 ((x6.toNat : Int) * 256 + x7.toNat), .int .i64 (x8.toNat : Int)] rfl rfl (by kernel_rfl) rfl (by simp [Value.oneCell']) ?_
          refine hK.out _ _ (by first | exact grown_drewN (Grown.refl _) _ | exact Grown.alloc (grown_drewN (Grown.refl _) _) _ | exact grown_drewN (Grown.alloc (grown_drewN (Grown.refl _) _) _) _) (fun hNext => ?_)
          clear hK K hOn
          have hOn := hNext
          clear hNext
          try rw [alloc_drewN, drewN_two]
          try rw [alloc_drewN, drewN_two] at hOn
          try simp only [Act.put]
          refine wpAnyH_done (by kernel_rfl) ?_ _
          go_wp2_with fail
          go_meet
          exact ⟨_, rfl, rfl⟩
        refine AllReadyH.cons (by simp only [List.getElem?_toArray, List.getElem?_cons_succ, List.getElem?_cons_zero]; rfl) (fun K hK => ?_) AllReadyH.nil
        go_simp
        try go_wp2_with fail
        refine hK.out _ _ (by first | exact grown_drewN (Grown.refl _) _ | exact Grown.alloc (grown_drewN (Grown.refl _) _) _ | exact grown_drewN (Grown.alloc (grown_drewN (Grown.refl _) _) _) _) (fun hNext => ?_)
        clear hK K hOn
        have hOn := hNext
        clear hNext
        try rw [alloc_drewN, drewN_two]
        try rw [alloc_drewN, drewN_two] at hOn
        try simp only [Act.put, List.setIfInBounds_toArray, List.set_cons_zero, List.set_cons_succ]
        refine wpAnyH_ready (rs := [15]) (by kernel_rfl) (by simp) ?_
        refine AllReadyH.cons (by simp only [List.getElem?_toArray, List.getElem?_cons_succ, List.getElem?_cons_zero]; rfl) (fun K hK => ?_) AllReadyH.nil
        go_simp
        refine (cv.out _ hOn).mono ?_
        rintro e w4 ⟨rfl, nw4, rfl⟩
        go_wp2_with fail
        refine hK.out _ _ (by first | exact grown_drewN (Grown.refl _) _ | exact Grown.alloc (grown_drewN (Grown.refl _) _) _ | exact grown_drewN (Grown.alloc (grown_drewN (Grown.refl _) _) _) _) (fun hNext => ?_)
        clear hK K hOn
        have hOn := hNext
        clear hNext
        try rw [alloc_drewN, drewN_two]
        try rw [alloc_drewN, drewN_two] at hOn
        try simp only [Act.put, List.setIfInBounds_toArray, List.set_cons_zero, List.set_cons_succ]
        refine wpAnyH_take (i := 20) (v := ?_) (by simp only [List.getElem?_toArray, List.getElem?_cons_succ, List.getElem?_cons_zero]; rfl) (by kernel_rfl) (by kernel_rfl) (by kernel_rfl) (by exact fun _ _ _ h => h) (Or.inl ⟨by rfl, ?_⟩) hOn ?_
        rotate_left
        focus (intro W hSW; go_simp; try with_reducible rfl)
        try simp only [Act.put, List.setIfInBounds_toArray, List.set_cons_zero, List.set_cons_succ]
        refine wpAnyH_ready (rs := [22]) (by kernel_rfl) (by simp) ?_
        refine AllReadyH.cons (by simp only [List.getElem?_toArray, List.getElem?_cons_succ, List.getElem?_cons_zero]; rfl) (fun K hK => ?_) AllReadyH.nil
        rw [if_pos (by rfl)]
        refine wp_store_new (w := W1.drewN _) 27 (.tmp 4) (.tmp 31) rfl _ #[.int .i64 ((x0.toNat : Int) * 256 + x1.toNat), .int .i64 (x2.toNat : Int), .int .i64 (x3.toNat : Int), .int .i64 ((x4.toNat : Int) * 256 + x5.toNat), .int .i64 ((x6.toNat : Int) * 256 + x7.toNat), .int .i64 (x8.toNat : Int)] rfl rfl (by kernel_rfl) rfl (by simp [Value.oneCell']) ?_
        refine hK.out _ _ (by first | exact grown_drewN (Grown.refl _) _ | exact Grown.alloc (grown_drewN (Grown.refl _) _) _ | exact grown_drewN (Grown.alloc (grown_drewN (Grown.refl _) _) _) _) (fun hNext => ?_)
        clear hK K hOn
        have hOn := hNext
        clear hNext
        try rw [alloc_drewN, drewN_two]
        try rw [alloc_drewN, drewN_two] at hOn
        try simp only [Act.put]
        refine wpAnyH_done (by kernel_rfl) ?_ _
        go_wp2_with fail
        go_meet
        exact ⟨_, rfl, rfl⟩
      refine AllReadyH.cons (by simp only [List.getElem?_toArray, List.getElem?_cons_succ, List.getElem?_cons_zero]; rfl) (fun K hK => ?_) AllReadyH.nil
      go_simp
      try go_wp2_with fail
      refine hK.out _ _ (by first | exact grown_drewN (Grown.refl _) _ | exact Grown.alloc (grown_drewN (Grown.refl _) _) _ | exact grown_drewN (Grown.alloc (grown_drewN (Grown.refl _) _) _) _) (fun hNext => ?_)
      clear hK K hOn
      have hOn := hNext
      clear hNext
      try rw [alloc_drewN, drewN_two]
      try rw [alloc_drewN, drewN_two] at hOn
      try simp only [Act.put, List.setIfInBounds_toArray, List.set_cons_zero, List.set_cons_succ]
      refine wpAnyH_ready (rs := [12]) (by kernel_rfl) (by simp) ?_
      refine AllReadyH.cons (by simp only [List.getElem?_toArray, List.getElem?_cons_succ, List.getElem?_cons_zero]; rfl) (fun K hK => ?_) AllReadyH.nil
      go_simp
      refine (cu.out _ hOn).mono ?_
      rintro e w3 ⟨rfl, nw3, rfl⟩
      go_wp2_with fail
      refine hK.out _ _ (by first | exact grown_drewN (Grown.refl _) _ | exact Grown.alloc (grown_drewN (Grown.refl _) _) _ | exact grown_drewN (Grown.alloc (grown_drewN (Grown.refl _) _) _) _) (fun hNext => ?_)
      clear hK K hOn
      have hOn := hNext
      clear hNext
      try rw [alloc_drewN, drewN_two]
      try rw [alloc_drewN, drewN_two] at hOn
      try simp only [Act.put, List.setIfInBounds_toArray, List.set_cons_zero, List.set_cons_succ]
      refine wpAnyH_ready (rs := [15]) (by kernel_rfl) (by simp) ?_
      refine AllReadyH.cons (by simp only [List.getElem?_toArray, List.getElem?_cons_succ, List.getElem?_cons_zero]; rfl) (fun K hK => ?_) AllReadyH.nil
      go_simp
      refine (cv.out _ hOn).mono ?_
      rintro e w4 ⟨rfl, nw4, rfl⟩
      go_wp2_with fail
      refine hK.out _ _ (by first | exact grown_drewN (Grown.refl _) _ | exact Grown.alloc (grown_drewN (Grown.refl _) _) _ | exact grown_drewN (Grown.alloc (grown_drewN (Grown.refl _) _) _) _) (fun hNext => ?_)
      clear hK K hOn
      have hOn := hNext
      clear hNext
      try rw [alloc_drewN, drewN_two]
      try rw [alloc_drewN, drewN_two] at hOn
      try simp only [Act.put, List.setIfInBounds_toArray, List.set_cons_zero, List.set_cons_succ]
      refine wpAnyH_take (i := 20) (v := ?_) (by simp only [List.getElem?_toArray, List.getElem?_cons_succ, List.getElem?_cons_zero]; rfl) (by kernel_rfl) (by kernel_rfl) (by kernel_rfl) (by exact fun _ _ _ h => h) (Or.inl ⟨by rfl, ?_⟩) hOn ?_
      rotate_left
      focus (intro W hSW; go_simp; try with_reducible rfl)
      try simp only [Act.put, List.setIfInBounds_toArray, List.set_cons_zero, List.set_cons_succ]
      refine wpAnyH_ready (rs := [22]) (by kernel_rfl) (by simp) ?_
      refine AllReadyH.cons (by simp only [List.getElem?_toArray, List.getElem?_cons_succ, List.getElem?_cons_zero]; rfl) (fun K hK => ?_) AllReadyH.nil
      rw [if_pos (by rfl)]
      refine wp_store_new (w := W1.drewN _) 27 (.tmp 4) (.tmp 31) rfl _ #[.int .i64 ((x0.toNat : Int) * 256 + x1.toNat), .int .i64 (x2.toNat : Int), .int .i64 (x3.toNat : Int), .int .i64 ((x4.toNat : Int) * 256 + x5.toNat), .int .i64 ((x6.toNat : Int) * 256 + x7.toNat), .int .i64 (x8.toNat : Int)] rfl rfl (by kernel_rfl) rfl (by simp [Value.oneCell']) ?_
      refine hK.out _ _ (by first | exact grown_drewN (Grown.refl _) _ | exact Grown.alloc (grown_drewN (Grown.refl _) _) _ | exact grown_drewN (Grown.alloc (grown_drewN (Grown.refl _) _) _) _) (fun hNext => ?_)
      clear hK K hOn
      have hOn := hNext
      clear hNext
      try rw [alloc_drewN, drewN_two]
      try rw [alloc_drewN, drewN_two] at hOn
      try simp only [Act.put]
      refine wpAnyH_done (by kernel_rfl) ?_ _
      go_wp2_with fail
      go_meet
      exact ⟨_, rfl, rfl⟩
    refine AllReadyH.cons (by simp only [List.getElem?_toArray, List.getElem?_cons_succ, List.getElem?_cons_zero]; rfl) (fun K hK => ?_) AllReadyH.nil
    go_simp
    try go_wp2_with fail
    refine hK.out _ _ (by first | exact grown_drewN (Grown.refl _) _ | exact Grown.alloc (grown_drewN (Grown.refl _) _) _ | exact grown_drewN (Grown.alloc (grown_drewN (Grown.refl _) _) _) _) (fun hNext => ?_)
    clear hK K hOn
    have hOn := hNext
    clear hNext
    try rw [alloc_drewN, drewN_two]
    try rw [alloc_drewN, drewN_two] at hOn
    try simp only [Act.put, List.setIfInBounds_toArray, List.set_cons_zero, List.set_cons_succ]
    refine wpAnyH_ready (rs := [1]) (by kernel_rfl) (by simp) ?_
    refine AllReadyH.cons (by simp only [List.getElem?_toArray, List.getElem?_cons_succ, List.getElem?_cons_zero]; rfl) (fun K hK => ?_) AllReadyH.nil
    go_simp
    refine (ct.out _ hOn).mono ?_
    rintro e w2 ⟨rfl, nw2, rfl⟩
    go_wp2_with fail
    refine hK.out _ _ (by first | exact grown_drewN (Grown.refl _) _ | exact Grown.alloc (grown_drewN (Grown.refl _) _) _ | exact grown_drewN (Grown.alloc (grown_drewN (Grown.refl _) _) _) _) (fun hNext => ?_)
    clear hK K hOn
    have hOn := hNext
    clear hNext
    try rw [alloc_drewN, drewN_two]
    try rw [alloc_drewN, drewN_two] at hOn
    try simp only [Act.put, List.setIfInBounds_toArray, List.set_cons_zero, List.set_cons_succ]
    refine wpAnyH_ready (rs := [12]) (by kernel_rfl) (by simp) ?_
    refine AllReadyH.cons (by simp only [List.getElem?_toArray, List.getElem?_cons_succ, List.getElem?_cons_zero]; rfl) (fun K hK => ?_) AllReadyH.nil
    go_simp
    refine (cu.out _ hOn).mono ?_
    rintro e w3 ⟨rfl, nw3, rfl⟩
    go_wp2_with fail
    refine hK.out _ _ (by first | exact grown_drewN (Grown.refl _) _ | exact Grown.alloc (grown_drewN (Grown.refl _) _) _ | exact grown_drewN (Grown.alloc (grown_drewN (Grown.refl _) _) _) _) (fun hNext => ?_)
    clear hK K hOn
    have hOn := hNext
    clear hNext
    try rw [alloc_drewN, drewN_two]
    try rw [alloc_drewN, drewN_two] at hOn
    try simp only [Act.put, List.setIfInBounds_toArray, List.set_cons_zero, List.set_cons_succ]
    refine wpAnyH_ready (rs := [15]) (by kernel_rfl) (by simp) ?_
    refine AllReadyH.cons (by simp only [List.getElem?_toArray, List.getElem?_cons_succ, List.getElem?_cons_zero]; rfl) (fun K hK => ?_) AllReadyH.nil
    go_simp
    refine (cv.out _ hOn).mono ?_
    rintro e w4 ⟨rfl, nw4, rfl⟩
    go_wp2_with fail
    refine hK.out _ _ (by first | exact grown_drewN (Grown.refl _) _ | exact Grown.alloc (grown_drewN (Grown.refl _) _) _ | exact grown_drewN (Grown.alloc (grown_drewN (Grown.refl _) _) _) _) (fun hNext => ?_)
    clear hK K hOn
    have hOn := hNext
    clear hNext
    try rw [alloc_drewN, drewN_two]
    try rw [alloc_drewN, drewN_two] at hOn
    try simp only [Act.put, List.setIfInBounds_toArray, List.set_cons_zero, List.set_cons_succ]
    refine wpAnyH_take (i := 20) (v := ?_) (by simp only [List.getElem?_toArray, List.getElem?_cons_succ, List.getElem?_cons_zero]; rfl) (by kernel_rfl) (by kernel_rfl) (by kernel_rfl) (by exact fun _ _ _ h => h) (Or.inl ⟨by rfl, ?_⟩) hOn ?_
    rotate_left
    focus (intro W hSW; go_simp; try with_reducible rfl)
    try simp only [Act.put, List.setIfInBounds_toArray, List.set_cons_zero, List.set_cons_succ]
    refine wpAnyH_ready (rs := [22]) (by kernel_rfl) (by simp) ?_
    refine AllReadyH.cons (by simp only [List.getElem?_toArray, List.getElem?_cons_succ, List.getElem?_cons_zero]; rfl) (fun K hK => ?_) AllReadyH.nil
    rw [if_pos (by rfl)]
    refine wp_store_new (w := W1.drewN _) 27 (.tmp 4) (.tmp 31) rfl _ #[.int .i64 ((x0.toNat : Int) * 256 + x1.toNat), .int .i64 (x2.toNat : Int), .int .i64 (x3.toNat : Int), .int .i64 ((x4.toNat : Int) * 256 + x5.toNat), .int .i64 ((x6.toNat : Int) * 256 + x7.toNat), .int .i64 (x8.toNat : Int)] rfl rfl (by kernel_rfl) rfl (by simp [Value.oneCell']) ?_
    refine hK.out _ _ (by first | exact grown_drewN (Grown.refl _) _ | exact Grown.alloc (grown_drewN (Grown.refl _) _) _ | exact grown_drewN (Grown.alloc (grown_drewN (Grown.refl _) _) _) _) (fun hNext => ?_)
    clear hK K hOn
    have hOn := hNext
    clear hNext
    try rw [alloc_drewN, drewN_two]
    try rw [alloc_drewN, drewN_two] at hOn
    try simp only [Act.put]
    refine wpAnyH_done (by kernel_rfl) ?_ _
    go_wp2_with fail
    go_meet
    exact ⟨_, rfl, rfl⟩
  case rest =>
    obtain ⟨m, rfl, hwc⟩ := hcut
    have hp := heap_alloc_new (W1.drewN m) (.cells #[.int .i64 ((x0.toNat : Int) * 256 + x1.toNat), .int .i64 (x2.toNat : Int), .int .i64 (x3.toNat : Int), .int .i64 ((x4.toNat : Int) * 256 + x5.toNat), .int .i64 ((x6.toNat : Int) * 256 + x7.toNat), .int .i64 (x8.toNat : Int)] 27)
    rw [← hwc] at hp
    have hg : w.heap.size < W1.heap.size := by rw [← hW]; simp
    have hz0 : W1.heap[w.heap.size]? = some (.cells #[.int .i64 0, .int .i64 0, .int .i64 0, .int .i64 0, .int .i64 0, .int .i64 0] 27) := by rw [← hW]; exact heap_alloc_new w _
    have hBW : Grown W1 wc := by rw [hwc]; exact Grown.alloc (grown_drewN (Grown.refl _) _) _
    have hzz := Lib.hid ((hBW.block w.heap.size (by omega)).trans hz0)
    have hbw : Below w.heap.size w W1 := by rw [← hW]; exact (Below.refl _ _).alloc (Nat.le_refl _) _
    replace hb0 := Lib.hid (hbw.trans (hBW.mono hbw.size))
    have hp := Lib.hid (show wc.heap[W1.heap.size]? = _ from hp)
    clear e2 e3 e8 q2 q3 q8 ct cu cv hwc hz0 hBW hbw
    replace H := Lib.hid (H.below hb0.out)
    have hcall := Lib.hid (check_wrong ((x0.toNat : Int) * 256 + x1.toNat) (x2.toNat : Int) (x3.toNat : Int) ((x4.toNat : Int) * 256 + x5.toNat) ((x6.toNat : Int) * 256 + x7.toNat) (x8.toNat : Int) F V i h (by have := x2.toNat_lt; omega) ea wc H.out)
    clear h H
    go_wp2_with (refine wpList_load_row rfl 27 (.tmp 4) rfl W1.heap.size #[.int .i64 ((x0.toNat : Int) * 256 + x1.toNat), .int .i64 (x2.toNat : Int), .int .i64 (x3.toNat : Int), .int .i64 ((x4.toNat : Int) * 256 + x5.toNat), .int .i64 ((x6.toNat : Int) * 256 + x7.toNat), .int .i64 (x8.toNat : Int)] _ rfl hp Tryd.underlying27 rfl (by kernel_rfl) ?_)
    with_reducible refine hcall.out.mono ?_
    rintro e w5 ⟨g, rfl, hg1, hg2, hb⟩
    have hgw : w.heap.size < g := Nat.lt_of_lt_of_le (block_lt hzz.out) hg1
    replace hg2 := Lib.hid hg2
    replace hzz := Lib.hid ((hb.block _ (block_lt hzz.out)).trans hzz.out)
    replace hb0 := Lib.hid (hb0.out.trans (hb.mono hb0.out.size))
    clear hb hcall hg1
    go_wp2_with (refine wpList_store_row rfl 27 (.tmp 2) (.tmp 36) rfl w.heap.size _ #[.int .i64 0, .int .i64 0, .int .i64 0, .int .i64 0, .int .i64 0, .int .i64 0] rfl rfl hzz (by kernel_rfl) rfl (by simp [Value.oneCell']) ?_; intro wS hU)
    have hg3 := (hU.out.block g (by omega)).trans hg2.out
    refine ret_cell_tmp_row rfl rfl rfl Tryd.underlying27 rfl (by kernel_rfl) hU.out.here ?_
    exact ⟨g, rfl, ⟨by omega, hg3⟩, hb0.out.trans (hU.out.below (Nat.le_refl _))⟩

end Go.Proofs.YtahnicbokdbjdaaDoor
