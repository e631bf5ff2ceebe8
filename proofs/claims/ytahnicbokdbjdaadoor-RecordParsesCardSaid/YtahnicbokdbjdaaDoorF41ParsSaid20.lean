/- Walks over the reference's Parse, Right. -/
import Derived.Test.YtahnicbokdbjdaaDoorF31ParsSaid20
import Derived.Test.YtahnicbokdbjdaaDoorF23ParsSaid20
import Derived.Test.YtahnicbokdbjdaaDoorF20ParsSaid20
import Derived.Deep.CutRange
namespace Go.Proofs.YtahnicbokdbjdaaDoor
open Go.RowKit


/-- What the reference's Parse answers. -/
def rparseV (s n k d t r : Int) (b : Option (ByteArray × Int × Nat)) : Value := match b with
  | some (_, _, i) => .tuple #[.agg #[.int .i64 0, .int .i64 0, .int .i64 0, .int .i64 0, .int .i64 0, .int .i64 0], .int .i64 ((i + 1 : Nat) : Int)]
  | none => .tuple #[.agg #[.int .i64 s, .int .i64 n, .int .i64 k, .int .i64 d, .int .i64 t, .int .i64 r], .int .i64 0]
theorem far_cell2 {w : World} {x : Addr} {v : Value} (h : w.cell? x = some v) : ∀ W, Grown w W → W.cell? x = some v := fun _ hW => (hW.cell (World.block_lt_of_cell? w _ h)).trans h

set_option maxHeartbeats 2000000 in
theorem rparse_len (a : Option Addr) (m c : Nat) (hm : m ≠ 9) (w : World) :
    Calls Tryd.prog 35 #[.slice a m c] w fun e w' => e = .returned (.tuple #[.agg #[.int .i64 0, .int .i64 0, .int .i64 0, .int .i64 0, .int .i64 0, .int .i64 0], .int .i64 8]) ∧ Below w.heap.size w w' := by
  have hf : ((m : Int) != 9) = true := by rw [bne_iff_ne]; omega
  have hb0 := Lib.hid (Below.refl w.heap.size w)
  clear hm
  go_enter Tryd.func35, Tryd.ntmps35
  go_wp2_with fail
  refine ret_cell_tmp_row rfl rfl rfl Tryd.underlying32 rfl (by kernel_rfl) (b := w.heap.size) (c := #[.int .i64 0, .int .i64 0, .int .i64 0, .int .i64 0, .int .i64 0, .int .i64 0]) (heap_alloc_new w _) ?_
  exact ⟨rfl, hb0.out.alloc (Nat.le_refl _) _⟩

set_option maxRecDepth 10000 in
set_option maxHeartbeats 4000000 in
theorem rparse_nine (b off c : Nat) (x0 x1 x2 x3 x4 x5 x6 x7 x8 : UInt8) (_ : 9 ≤ c) (w : World) (B : Option (ByteArray × Int × Nat)) (h : badAt ((x0.toNat : Int) * 256 + x1.toNat) (x2.toNat : Int) (x3.toNat : Int) ((x4.toNat : Int) * 256 + x5.toNat) ((x6.toNat : Int) * 256 + x7.toNat) (x8.toNat : Int) = B)
    (h0 : w.cell? ⟨b, off, none⟩ = some (.int .u8 (x0.toNat : Int))) (h1 : w.cell? ⟨b, off + 1, none⟩ = some (.int .u8 (x1.toNat : Int))) (h2 : w.cell? ⟨b, off + 2, none⟩ = some (.int .u8 (x2.toNat : Int))) (h3 : w.cell? ⟨b, off + 3, none⟩ = some (.int .u8 (x3.toNat : Int)))
    (h4 : w.cell? ⟨b, off + 4, none⟩ = some (.int .u8 (x4.toNat : Int))) (h5 : w.cell? ⟨b, off + 5, none⟩ = some (.int .u8 (x5.toNat : Int))) (h6 : w.cell? ⟨b, off + 6, none⟩ = some (.int .u8 (x6.toNat : Int))) (h7 : w.cell? ⟨b, off + 7, none⟩ = some (.int .u8 (x7.toNat : Int))) (h8 : w.cell? ⟨b, off + 8, none⟩ = some (.int .u8 (x8.toNat : Int))) :
    Calls Tryd.prog 35 #[.slice (some ⟨b, off, none⟩) 9 c] w fun e w' => e = .returned (rparseV ((x0.toNat : Int) * 256 + x1.toNat) (x2.toNat : Int) (x3.toNat : Int) ((x4.toNat : Int) * 256 + x5.toNat) ((x6.toNat : Int) * 256 + x7.toNat) (x8.toNat : Int) B) ∧ Below w.heap.size w w' := by
  have q0 := cell_far1 h0
  have q1 := cell_far1 h1
  have q2 := cell_far1 h2
  have q3 := cell_far1 h3
  have q4 := cell_far1 h4
  have q5 := cell_far1 h5
  have q6 := cell_far1 h6
  have q7 := cell_far1 h7
  have q8 := cell_far1 h8
  have l0 := x0.toNat_lt
  have l1 := x1.toNat_lt
  have l2 := x2.toNat_lt
  have l3 := x3.toNat_lt
  have l4 := x4.toNat_lt
  have l5 := x5.toNat_lt
  have l6 := x6.toNat_lt
  have l7 := x7.toNat_lt
  have l8 := x8.toNat_lt
  clear h0 h1 h2 h3 h4 h5 h6 h7 h8
  have e0 : IntKind.i64.wrap (x0.toNat : Int) = x0.toNat := IntWalk.i64_in _ (by omega)
  have e1 : IntKind.i64.wrap (x1.toNat : Int) = x1.toNat := IntWalk.i64_in _ (by omega)
  have e2 : IntKind.i64.wrap (x2.toNat : Int) = x2.toNat := IntWalk.i64_in _ (by omega)
  have e3 : IntKind.i64.wrap (x3.toNat : Int) = x3.toNat := IntWalk.i64_in _ (by omega)
  have e4 : IntKind.i64.wrap (x4.toNat : Int) = x4.toNat := IntWalk.i64_in _ (by omega)
  have e5 : IntKind.i64.wrap (x5.toNat : Int) = x5.toNat := IntWalk.i64_in _ (by omega)
  have e6 : IntKind.i64.wrap (x6.toNat : Int) = x6.toNat := IntWalk.i64_in _ (by omega)
  have e7 : IntKind.i64.wrap (x7.toNat : Int) = x7.toNat := IntWalk.i64_in _ (by omega)
  have e8 : IntKind.i64.wrap (x8.toNat : Int) = x8.toNat := IntWalk.i64_in _ (by omega)
  have m0 : IntKind.i64.wrap ((x0.toNat : Int) * 256) = (x0.toNat : Int) * 256 := IntWalk.i64_in _ (by omega)
  have s0 : IntKind.i64.wrap ((x0.toNat : Int) * 256 + x1.toNat) = (x0.toNat : Int) * 256 + x1.toNat := IntWalk.i64_in _ (by omega)
  have m4 : IntKind.i64.wrap ((x4.toNat : Int) * 256) = (x4.toNat : Int) * 256 := IntWalk.i64_in _ (by omega)
  have s4 : IntKind.i64.wrap ((x4.toNat : Int) * 256 + x5.toNat) = (x4.toNat : Int) * 256 + x5.toNat := IntWalk.i64_in _ (by omega)
  have m6 : IntKind.i64.wrap ((x6.toNat : Int) * 256) = (x6.toNat : Int) * 256 := IntWalk.i64_in _ (by omega)
  have s6 : IntKind.i64.wrap ((x6.toNat : Int) * 256 + x7.toNat) = (x6.toNat : Int) * 256 + x7.toNat := IntWalk.i64_in _ (by omega)
  have hb0 := Lib.hid (Below.refl w.heap.size w)
  go_enter Tryd.func35, Tryd.ntmps35
  go_wp2_with fail
  generalize hW : w.alloc (.cells #[.int .i64 0, .int .i64 0, .int .i64 0, .int .i64 0, .int .i64 0, .int .i64 0] 32) = W1 at *
  replace q0 := far_cell2 (hW ▸ q0 (.cells #[.int .i64 0, .int .i64 0, .int .i64 0, .int .i64 0, .int .i64 0, .int .i64 0] 32))
  replace q1 := far_cell2 (hW ▸ q1 (.cells #[.int .i64 0, .int .i64 0, .int .i64 0, .int .i64 0, .int .i64 0, .int .i64 0] 32))
  replace q2 := far_cell2 (hW ▸ q2 (.cells #[.int .i64 0, .int .i64 0, .int .i64 0, .int .i64 0, .int .i64 0, .int .i64 0] 32))
  replace q3 := far_cell2 (hW ▸ q3 (.cells #[.int .i64 0, .int .i64 0, .int .i64 0, .int .i64 0, .int .i64 0, .int .i64 0] 32))
  replace q4 := far_cell2 (hW ▸ q4 (.cells #[.int .i64 0, .int .i64 0, .int .i64 0, .int .i64 0, .int .i64 0, .int .i64 0] 32))
  replace q5 := far_cell2 (hW ▸ q5 (.cells #[.int .i64 0, .int .i64 0, .int .i64 0, .int .i64 0, .int .i64 0, .int .i64 0] 32))
  replace q6 := far_cell2 (hW ▸ q6 (.cells #[.int .i64 0, .int .i64 0, .int .i64 0, .int .i64 0, .int .i64 0, .int .i64 0] 32))
  replace q7 := far_cell2 (hW ▸ q7 (.cells #[.int .i64 0, .int .i64 0, .int .i64 0, .int .i64 0, .int .i64 0, .int .i64 0] 32))
  replace q8 := far_cell2 (hW ▸ q8 (.cells #[.int .i64 0, .int .i64 0, .int .i64 0, .int .i64 0, .int .i64 0, .int .i64 0] 32))
  go_cut [4] from 12 to 54 (fun s4 wx => s4 = .pointer (some ⟨W1.heap.size, 0, none⟩) ∧ wx = W1.drew.alloc (.cells #[.int .i64 ((x0.toNat : Int) * 256 + x1.toNat), .int .i64 (x2.toNat : Int), .int .i64 (x3.toNat : Int), .int .i64 ((x4.toNat : Int) * 256 + x5.toNat), .int .i64 ((x6.toNat : Int) * 256 + x7.toNat), .int .i64 (x8.toNat : Int)] 32))
  case first =>
    refine wp_region_on (by kernel_rfl) (fun hOn => ?_)
    refine wpAnyH_take (i := 0) (v := ?_) (by simp only [List.getElem?_toArray, List.getElem?_cons_zero]; rfl) (by kernel_rfl) (by kernel_rfl) (by kernel_rfl) (by exact fun _ _ _ h => h) (Or.inl ⟨by rfl, ?_⟩) hOn ?_
    rotate_left
    focus (intro W hSW; go_simp; try with_reducible rfl)
    try simp only [Act.put, List.setIfInBounds_toArray, List.set_cons_zero, List.set_cons_succ]
    refine wpAnyH_take (i := 1) (v := ?_) (by simp only [List.getElem?_toArray, List.getElem?_cons_succ, List.getElem?_cons_zero]; rfl) (by kernel_rfl) (by kernel_rfl) (by kernel_rfl) (by exact fun _ _ _ h => h) (Or.inl ⟨by rfl, ?_⟩) hOn ?_
    rotate_left
    focus (intro W hSW; go_simp; try with_reducible rfl)
    try simp only [Act.put, List.setIfInBounds_toArray, List.set_cons_zero, List.set_cons_succ]
    refine wpAnyH_take (i := 2) (v := ?_) (by simp only [List.getElem?_toArray, List.getElem?_cons_succ, List.getElem?_cons_zero]; rfl) (by kernel_rfl) (by kernel_rfl) (by kernel_rfl) (by exact fun _ _ _ h => h) (Or.inl ⟨by rfl, ?_⟩) hOn ?_
    rotate_left
    focus (intro W hSW; go_simp; try with_reducible rfl)
    try simp only [Act.put, List.setIfInBounds_toArray, List.set_cons_zero, List.set_cons_succ]
    refine wpAnyH_take (i := 3) (v := ?_) (by simp only [List.getElem?_toArray, List.getElem?_cons_succ, List.getElem?_cons_zero]; rfl) (by kernel_rfl) (by kernel_rfl) (by kernel_rfl) (by exact fun _ _ _ h => h) (Or.inl ⟨by rfl, ?_⟩) hOn ?_
    rotate_left
    focus (intro W hSW; go_simp; try with_reducible rfl)
    try simp only [Act.put, List.setIfInBounds_toArray, List.set_cons_zero, List.set_cons_succ]
    refine wpAnyH_take (i := 4) (v := ?_) (by simp only [List.getElem?_toArray, List.getElem?_cons_succ, List.getElem?_cons_zero]; rfl) (by kernel_rfl) (by kernel_rfl) (by kernel_rfl) (by exact fun _ _ _ h => h) (Or.inl ⟨by rfl, ?_⟩) hOn ?_
    rotate_left
    focus (intro W hSW; go_simp; try with_reducible rfl)
    try simp only [Act.put, List.setIfInBounds_toArray, List.set_cons_zero, List.set_cons_succ]
    refine wpAnyH_take (i := 5) (v := ?_) (by simp only [List.getElem?_toArray, List.getElem?_cons_succ, List.getElem?_cons_zero]; rfl) (by kernel_rfl) (by kernel_rfl) (by kernel_rfl) (by exact fun _ _ _ h => h) (Or.inl ⟨by rfl, ?_⟩) hOn ?_
    rotate_left
    focus (intro W hSW; go_simp; try with_reducible rfl)
    try simp only [Act.put, List.setIfInBounds_toArray, List.set_cons_zero, List.set_cons_succ]
    refine wpAnyH_take (i := 6) (v := ?_) (by simp only [List.getElem?_toArray, List.getElem?_cons_succ, List.getElem?_cons_zero]; rfl) (by kernel_rfl) (by kernel_rfl) (by kernel_rfl) (by exact fun _ _ _ h => h) (Or.inl ⟨by rfl, ?_⟩) hOn ?_
    rotate_left
    focus (intro W hSW; go_simp; try with_reducible rfl)
    try simp only [Act.put, List.setIfInBounds_toArray, List.set_cons_zero, List.set_cons_succ]
    refine wpAnyH_take (i := 7) (v := ?_) (by simp only [List.getElem?_toArray, List.getElem?_cons_succ, List.getElem?_cons_zero]; rfl) (by kernel_rfl) (by kernel_rfl) (by kernel_rfl) (by exact fun _ _ _ h => h) (Or.inl ⟨by rfl, ?_⟩) hOn ?_
    rotate_left
    focus (intro W hSW; go_simp; try with_reducible rfl)
    try simp only [Act.put, List.setIfInBounds_toArray, List.set_cons_zero, List.set_cons_succ]
    refine wpAnyH_take (i := 8) (v := ?_) (by simp only [List.getElem?_toArray, List.getElem?_cons_succ, List.getElem?_cons_zero]; rfl) (by kernel_rfl) (by kernel_rfl) (by kernel_rfl) (by exact fun _ _ _ h => h) (Or.inl ⟨by rfl, ?_⟩) hOn ?_
    rotate_left
    focus (intro W hSW; go_simp; try with_reducible rfl)
    try simp only [Act.put, List.setIfInBounds_toArray, List.set_cons_zero, List.set_cons_succ]
    refine wpAnyH_take (i := 9) (v := ?_) (by simp only [List.getElem?_toArray, List.getElem?_cons_succ, List.getElem?_cons_zero]; rfl) (by kernel_rfl) (by kernel_rfl) (by kernel_rfl) (by exact fun _ _ _ h => h) (Or.inl ⟨by rfl, ?_⟩) hOn ?_
    rotate_left
    focus (intro W hSW; go_simp; try with_reducible rfl)
    try simp only [Act.put, List.setIfInBounds_toArray, List.set_cons_zero, List.set_cons_succ]
    refine wpAnyH_take (i := 10) (v := ?_) (by simp only [List.getElem?_toArray, List.getElem?_cons_succ, List.getElem?_cons_zero]; rfl) (by kernel_rfl) (by kernel_rfl) (by kernel_rfl) (by exact fun _ _ _ h => h) (Or.inl ⟨by rfl, ?_⟩) hOn ?_
    rotate_left
    focus (intro W hSW; go_simp; try with_reducible rfl)
    try simp only [Act.put, List.setIfInBounds_toArray, List.set_cons_zero, List.set_cons_succ]
    refine wpAnyH_take (i := 11) (v := ?_) (by simp only [List.getElem?_toArray, List.getElem?_cons_succ, List.getElem?_cons_zero]; rfl) (by kernel_rfl) (by kernel_rfl) (by kernel_rfl) (by exact fun _ _ _ h => h) (Or.inl ⟨by rfl, ?_⟩) hOn ?_
    rotate_left
    focus (intro W hSW; go_simp; try with_reducible rfl)
    try simp only [Act.put, List.setIfInBounds_toArray, List.set_cons_zero, List.set_cons_succ]
    refine wpAnyH_take (i := 12) (v := ?_) (by simp only [List.getElem?_toArray, List.getElem?_cons_succ, List.getElem?_cons_zero]; rfl) (by kernel_rfl) (by kernel_rfl) (by kernel_rfl) (by exact fun _ _ _ h => h) (Or.inl ⟨by rfl, ?_⟩) hOn ?_
    rotate_left
    focus (intro W hSW; go_simp; try with_reducible rfl)
    try simp only [Act.put, List.setIfInBounds_toArray, List.set_cons_zero, List.set_cons_succ]
    refine wpAnyH_take (i := 13) (v := ?_) (by simp only [List.getElem?_toArray, List.getElem?_cons_succ, List.getElem?_cons_zero]; rfl) (by kernel_rfl) (by kernel_rfl) (by kernel_rfl) (by exact fun _ _ _ h => h) (Or.inl ⟨by rfl, ?_⟩) hOn ?_
    rotate_left
    focus (intro W hSW; go_simp; try with_reducible rfl)
    try simp only [Act.put, List.setIfInBounds_toArray, List.set_cons_zero, List.set_cons_succ]
    refine wpAnyH_take (i := 14) (v := ?_) (by simp only [List.getElem?_toArray, List.getElem?_cons_succ, List.getElem?_cons_zero]; rfl) (by kernel_rfl) (by kernel_rfl) (by kernel_rfl) (by exact fun _ _ _ h => h) (Or.inl ⟨by rfl, ?_⟩) hOn ?_
    rotate_left
    focus (intro W hSW; go_simp; try with_reducible rfl)
    try simp only [Act.put, List.setIfInBounds_toArray, List.set_cons_zero, List.set_cons_succ]
    refine wpAnyH_take (i := 15) (v := ?_) (by simp only [List.getElem?_toArray, List.getElem?_cons_succ, List.getElem?_cons_zero]; rfl) (by kernel_rfl) (by kernel_rfl) (by kernel_rfl) (by exact fun _ _ _ h => h) (Or.inl ⟨by rfl, ?_⟩) hOn ?_
    rotate_left
    focus (intro W hSW; go_simp; try with_reducible rfl)
    try simp only [Act.put, List.setIfInBounds_toArray, List.set_cons_zero, List.set_cons_succ]
    refine wpAnyH_take (i := 16) (v := ?_) (by simp only [List.getElem?_toArray, List.getElem?_cons_succ, List.getElem?_cons_zero]; rfl) (by kernel_rfl) (by kernel_rfl) (by kernel_rfl) (by exact fun _ _ _ h => h) (Or.inl ⟨by rfl, ?_⟩) hOn ?_
    rotate_left
    focus (intro W hSW; go_simp; try with_reducible rfl)
    try simp only [Act.put, List.setIfInBounds_toArray, List.set_cons_zero, List.set_cons_succ]
    refine wpAnyH_take (i := 17) (v := ?_) (by simp only [List.getElem?_toArray, List.getElem?_cons_succ, List.getElem?_cons_zero]; rfl) (by kernel_rfl) (by kernel_rfl) (by kernel_rfl) (by exact fun _ _ _ h => h) (Or.inl ⟨by rfl, ?_⟩) hOn ?_
    rotate_left
    focus (intro W hSW; go_simp; try with_reducible rfl)
    try simp only [Act.put, List.setIfInBounds_toArray, List.set_cons_zero, List.set_cons_succ]
    refine wpAnyH_take (i := 18) (v := ?_) (by simp only [List.getElem?_toArray, List.getElem?_cons_succ, List.getElem?_cons_zero]; rfl) (by kernel_rfl) (by kernel_rfl) (by kernel_rfl) (by exact fun _ _ _ h => h) (Or.inl ⟨by rfl, ?_⟩) hOn ?_
    rotate_left
    focus (intro W hSW; go_simp; try with_reducible rfl)
    try simp only [Act.put, List.setIfInBounds_toArray, List.set_cons_zero, List.set_cons_succ]
    refine wpAnyH_take (i := 19) (v := ?_) (by simp only [List.getElem?_toArray, List.getElem?_cons_succ, List.getElem?_cons_zero]; rfl) (by kernel_rfl) (by kernel_rfl) (by kernel_rfl) (by exact fun _ _ _ h => h) (Or.inl ⟨by rfl, ?_⟩) hOn ?_
    rotate_left
    focus (intro W hSW; go_simp; try with_reducible rfl)
    try simp only [Act.put, List.setIfInBounds_toArray, List.set_cons_zero, List.set_cons_succ]
    refine wpAnyH_take (i := 20) (v := ?_) (by simp only [List.getElem?_toArray, List.getElem?_cons_succ, List.getElem?_cons_zero]; rfl) (by kernel_rfl) (by kernel_rfl) (by kernel_rfl) (by exact fun _ _ _ h => h) (Or.inl ⟨by rfl, ?_⟩) hOn ?_
    rotate_left
    focus (intro W hSW; go_simp; try with_reducible rfl)
    try simp only [Act.put, List.setIfInBounds_toArray, List.set_cons_zero, List.set_cons_succ]
    refine wpAnyH_take (i := 21) (v := ?_) (by simp only [List.getElem?_toArray, List.getElem?_cons_succ, List.getElem?_cons_zero]; rfl) (by kernel_rfl) (by kernel_rfl) (by kernel_rfl) (by exact fun _ _ _ h => h) (Or.inl ⟨by rfl, ?_⟩) hOn ?_
    rotate_left
    focus (intro W hSW; go_simp; try with_reducible rfl)
    try simp only [Act.put, List.setIfInBounds_toArray, List.set_cons_zero, List.set_cons_succ]
    refine wpAnyH_take (i := 22) (v := ?_) (by simp only [List.getElem?_toArray, List.getElem?_cons_succ, List.getElem?_cons_zero]; rfl) (by kernel_rfl) (by kernel_rfl) (by kernel_rfl) (by exact fun _ _ _ h => h) (Or.inl ⟨by rfl, ?_⟩) hOn ?_
    rotate_left
    focus (intro W hSW; go_simp; try with_reducible rfl)
    try simp only [Act.put, List.setIfInBounds_toArray, List.set_cons_zero, List.set_cons_succ]
    refine wpAnyH_take (i := 23) (v := ?_) (by simp only [List.getElem?_toArray, List.getElem?_cons_succ, List.getElem?_cons_zero]; rfl) (by kernel_rfl) (by kernel_rfl) (by kernel_rfl) (by exact fun _ _ _ h => h) (Or.inl ⟨by rfl, ?_⟩) hOn ?_
    rotate_left
    focus (intro W hSW; go_simp; try with_reducible rfl)
    try simp only [Act.put, List.setIfInBounds_toArray, List.set_cons_zero, List.set_cons_succ]
    refine wpAnyH_take (i := 24) (v := ?_) (by simp only [List.getElem?_toArray, List.getElem?_cons_succ, List.getElem?_cons_zero]; rfl) (by kernel_rfl) (by kernel_rfl) (by kernel_rfl) (by exact fun _ _ _ h => h) (Or.inl ⟨by rfl, ?_⟩) hOn ?_
    rotate_left
    focus (intro W hSW; go_simp; try with_reducible rfl)
    try simp only [Act.put, List.setIfInBounds_toArray, List.set_cons_zero, List.set_cons_succ]
    refine wpAnyH_take (i := 25) (v := ?_) (by simp only [List.getElem?_toArray, List.getElem?_cons_succ, List.getElem?_cons_zero]; rfl) (by kernel_rfl) (by kernel_rfl) (by kernel_rfl) (by exact fun _ _ _ h => h) (Or.inl ⟨by rfl, ?_⟩) hOn ?_
    rotate_left
    focus (intro W hSW; go_simp; try with_reducible rfl)
    try simp only [Act.put, List.setIfInBounds_toArray, List.set_cons_zero, List.set_cons_succ]
    refine wpAnyH_take (i := 26) (v := ?_) (by simp only [List.getElem?_toArray, List.getElem?_cons_succ, List.getElem?_cons_zero]; rfl) (by kernel_rfl) (by kernel_rfl) (by kernel_rfl) (by exact fun _ _ _ h => h) (Or.inl ⟨by rfl, ?_⟩) hOn ?_
    rotate_left
    focus (intro W hSW; go_simp; try with_reducible rfl)
    try simp only [Act.put, List.setIfInBounds_toArray, List.set_cons_zero, List.set_cons_succ]
    refine wpAnyH_take (i := 27) (v := ?_) (by simp only [List.getElem?_toArray, List.getElem?_cons_succ, List.getElem?_cons_zero]; rfl) (by kernel_rfl) (by kernel_rfl) (by kernel_rfl) (by exact fun _ _ _ h => h) (Or.inl ⟨by rfl, ?_⟩) hOn ?_
    rotate_left
    focus (intro W hSW; go_simp; try with_reducible rfl)
    try simp only [Act.put, List.setIfInBounds_toArray, List.set_cons_zero, List.set_cons_succ]
    refine wpAnyH_take (i := 28) (v := ?_) (by simp only [List.getElem?_toArray, List.getElem?_cons_succ, List.getElem?_cons_zero]; rfl) (by kernel_rfl) (by kernel_rfl) (by kernel_rfl) (by exact fun _ _ _ h => h) (Or.inl ⟨by rfl, ?_⟩) hOn ?_
    rotate_left
    focus (intro W hSW; go_simp; try with_reducible rfl)
    try simp only [Act.put, List.setIfInBounds_toArray, List.set_cons_zero, List.set_cons_succ]
    refine wpAnyH_take (i := 29) (v := ?_) (by simp only [List.getElem?_toArray, List.getElem?_cons_succ, List.getElem?_cons_zero]; rfl) (by kernel_rfl) (by kernel_rfl) (by kernel_rfl) (by exact fun _ _ _ h => h) (Or.inl ⟨by rfl, ?_⟩) hOn ?_
    rotate_left
    focus (intro W hSW; go_simp; try with_reducible rfl)
    try simp only [Act.put, List.setIfInBounds_toArray, List.set_cons_zero, List.set_cons_succ]
    refine wpAnyH_take (i := 30) (v := ?_) (by simp only [List.getElem?_toArray, List.getElem?_cons_succ, List.getElem?_cons_zero]; rfl) (by kernel_rfl) (by kernel_rfl) (by kernel_rfl) (by exact fun _ _ _ h => h) (Or.inl ⟨by rfl, ?_⟩) hOn ?_
    rotate_left
    focus (intro W hSW; go_simp; try with_reducible rfl)
    try simp only [Act.put, List.setIfInBounds_toArray, List.set_cons_zero, List.set_cons_succ]
    refine wpAnyH_take (i := 31) (v := ?_) (by simp only [List.getElem?_toArray, List.getElem?_cons_succ, List.getElem?_cons_zero]; rfl) (by kernel_rfl) (by kernel_rfl) (by kernel_rfl) (by exact fun _ _ _ h => h) (Or.inl ⟨by rfl, ?_⟩) hOn ?_
    rotate_left
    focus (intro W hSW; go_simp; try with_reducible rfl)
    try simp only [Act.put, List.setIfInBounds_toArray, List.set_cons_zero, List.set_cons_succ]
    refine wpAnyH_take (i := 32) (v := ?_) (by simp only [List.getElem?_toArray, List.getElem?_cons_succ, List.getElem?_cons_zero]; rfl) (by kernel_rfl) (by kernel_rfl) (by kernel_rfl) (by exact fun _ _ _ h => h) (Or.inl ⟨by rfl, ?_⟩) hOn ?_
    rotate_left
    focus (intro W hSW; go_simp; try with_reducible rfl)
    try simp only [Act.put, List.setIfInBounds_toArray, List.set_cons_zero, List.set_cons_succ]
    refine wpAnyH_take (i := 33) (v := ?_) (by simp only [List.getElem?_toArray, List.getElem?_cons_succ, List.getElem?_cons_zero]; rfl) (by kernel_rfl) (by kernel_rfl) (by kernel_rfl) (by exact fun _ _ _ h => h) (Or.inl ⟨by rfl, ?_⟩) hOn ?_
    rotate_left
    focus (intro W hSW; go_simp; try with_reducible rfl)
    try simp only [Act.put, List.setIfInBounds_toArray, List.set_cons_zero, List.set_cons_succ]
    refine wpAnyH_take (i := 34) (v := ?_) (by simp only [List.getElem?_toArray, List.getElem?_cons_succ, List.getElem?_cons_zero]; rfl) (by kernel_rfl) (by kernel_rfl) (by kernel_rfl) (by exact fun _ _ _ h => h) (Or.inl ⟨by rfl, ?_⟩) hOn ?_
    rotate_left
    focus (intro W hSW; go_simp; try with_reducible rfl)
    try simp only [Act.put, List.setIfInBounds_toArray, List.set_cons_zero, List.set_cons_succ]
    refine wpAnyH_take (i := 35) (v := ?_) (by simp only [List.getElem?_toArray, List.getElem?_cons_succ, List.getElem?_cons_zero]; rfl) (by kernel_rfl) (by kernel_rfl) (by kernel_rfl) (by exact fun _ _ _ h => h) (Or.inl ⟨by rfl, ?_⟩) hOn ?_
    rotate_left
    focus (intro W hSW; go_simp; try with_reducible rfl)
    try simp only [Act.put, List.setIfInBounds_toArray, List.set_cons_zero, List.set_cons_succ]
    refine wpAnyH_take (i := 36) (v := ?_) (by simp only [List.getElem?_toArray, List.getElem?_cons_succ, List.getElem?_cons_zero]; rfl) (by kernel_rfl) (by kernel_rfl) (by kernel_rfl) (by exact fun _ _ _ h => h) (Or.inl ⟨by rfl, ?_⟩) hOn ?_
    rotate_left
    focus (intro W hSW; go_simp; try with_reducible rfl)
    try simp only [Act.put, List.setIfInBounds_toArray, List.set_cons_zero, List.set_cons_succ]
    refine wpAnyH_take (i := 37) (v := ?_) (by simp only [List.getElem?_toArray, List.getElem?_cons_succ, List.getElem?_cons_zero]; rfl) (by kernel_rfl) (by kernel_rfl) (by kernel_rfl) (by exact fun _ _ _ h => h) (Or.inl ⟨by rfl, ?_⟩) hOn ?_
    rotate_left
    focus (intro W hSW; go_simp; try with_reducible rfl)
    try simp only [Act.put, List.setIfInBounds_toArray, List.set_cons_zero, List.set_cons_succ]
    refine wpAnyH_take (i := 38) (v := ?_) (by simp only [List.getElem?_toArray, List.getElem?_cons_succ, List.getElem?_cons_zero]; rfl) (by kernel_rfl) (by kernel_rfl) (by kernel_rfl) (by exact fun _ _ _ h => h) (Or.inl ⟨by rfl, ?_⟩) hOn ?_
    rotate_left
    focus (intro W hSW; go_simp; try with_reducible rfl)
    try simp only [Act.put, List.setIfInBounds_toArray, List.set_cons_zero, List.set_cons_succ]
    refine wpAnyH_take (i := 39) (v := ?_) (by simp only [List.getElem?_toArray, List.getElem?_cons_succ, List.getElem?_cons_zero]; rfl) (by kernel_rfl) (by kernel_rfl) (by kernel_rfl) (by exact fun _ _ _ h => h) (Or.inl ⟨by rfl, ?_⟩) hOn ?_
    rotate_left
    focus (intro W hSW; go_simp; try with_reducible rfl)
    try simp only [Act.put, List.setIfInBounds_toArray, List.set_cons_zero, List.set_cons_succ]
    refine wpAnyH_take (i := 40) (v := ?_) (by simp only [List.getElem?_toArray, List.getElem?_cons_succ, List.getElem?_cons_zero]; rfl) (by kernel_rfl) (by kernel_rfl) (by kernel_rfl) (by exact fun _ _ _ h => h) (Or.inl ⟨by rfl, ?_⟩) hOn ?_
    rotate_left
    focus (intro W hSW; go_simp; try with_reducible rfl)
    try simp only [Act.put, List.setIfInBounds_toArray, List.set_cons_zero, List.set_cons_succ]
    refine wpAnyH_take (i := 41) (v := ?_) (by simp only [List.getElem?_toArray, List.getElem?_cons_succ, List.getElem?_cons_zero]; rfl) (by kernel_rfl) (by kernel_rfl) (by kernel_rfl) (by exact fun _ _ _ h => h) (Or.inl ⟨by rfl, ?_⟩) hOn ?_
    rotate_left
    focus (intro W hSW; go_simp; try with_reducible rfl)
    try simp only [Act.put, List.setIfInBounds_toArray, List.set_cons_zero, List.set_cons_succ]
    refine wpAnyH_take (i := 42) (v := ?_) (by simp only [List.getElem?_toArray, List.getElem?_cons_succ, List.getElem?_cons_zero]; rfl) (by kernel_rfl) (by kernel_rfl) (by kernel_rfl) (by exact fun _ _ _ h => h) (Or.inl ⟨by rfl, ?_⟩) hOn ?_
    rotate_left
    focus (intro W hSW; go_simp; try with_reducible rfl)
    try simp only [Act.put, List.setIfInBounds_toArray, List.set_cons_zero, List.set_cons_succ]
    refine wpAnyH_ready (rs := [43]) (by kernel_rfl) (by simp) ?_
    refine AllReadyH.cons (by simp only [List.getElem?_toArray, List.getElem?_cons_succ, List.getElem?_cons_zero]; rfl) (fun K hK => ?_) AllReadyH.nil
    go_simp
    try go_wp2_with fail
    refine hK.out _ _ (by first | exact Grown.drew (Grown.refl _) | exact Grown.alloc (Grown.drew (Grown.refl _)) _) (fun hNext => ?_)
    clear hK K hOn
    have hOn := hNext
    clear hNext
    try simp only [Act.put, List.setIfInBounds_toArray, List.set_cons_zero, List.set_cons_succ]
    refine wpAnyH_ready (rs := [44]) (by kernel_rfl) (by simp) ?_
    refine AllReadyH.cons (by simp only [List.getElem?_toArray, List.getElem?_cons_succ, List.getElem?_cons_zero]; rfl) (fun K hK => ?_) AllReadyH.nil
    rw [if_pos (by rfl)]
    refine wp_store_new (w := W1.drew) 32 (.tmp 4) (.tmp 54) rfl _ #[.int .i64 ((x0.toNat : Int) * 256 + x1.toNat), .int .i64 (x2.toNat : Int), .int .i64 (x3.toNat : Int), .int .i64 ((x4.toNat : Int) * 256 + x5.toNat), .int .i64 ((x6.toNat : Int) * 256 + x7.toNat), .int .i64 (x8.toNat : Int)] rfl rfl (by kernel_rfl) rfl (by simp [Value.oneCell']) ?_
    refine hK.out _ _ (by first | exact Grown.drew (Grown.refl _) | exact Grown.alloc (Grown.drew (Grown.refl _)) _) (fun hNext => ?_)
    clear hK K hOn
    have hOn := hNext
    clear hNext
    try simp only [Act.put]
    refine wpAnyH_done (by kernel_rfl) ?_ _
    go_wp2_with fail
    go_meet
    exact ⟨rfl, rfl⟩
  case rest =>
    obtain ⟨rfl, hwc⟩ := hcut
    have hp := heap_alloc_new W1.drew (.cells #[.int .i64 ((x0.toNat : Int) * 256 + x1.toNat), .int .i64 (x2.toNat : Int), .int .i64 (x3.toNat : Int), .int .i64 ((x4.toNat : Int) * 256 + x5.toNat), .int .i64 ((x6.toNat : Int) * 256 + x7.toNat), .int .i64 (x8.toNat : Int)] 32)
    rw [← hwc] at hp
    have hg : w.heap.size < W1.heap.size := by rw [← hW]; simp
    have hz0 : W1.heap[w.heap.size]? = some (.cells #[.int .i64 0, .int .i64 0, .int .i64 0, .int .i64 0, .int .i64 0, .int .i64 0] 32) := by rw [← hW]; exact heap_alloc_new w _
    have hBW : Grown W1 wc := by rw [hwc]; exact Grown.alloc (Grown.drew (Grown.refl _)) _
    have hzz := Lib.hid ((hBW.block w.heap.size (by omega)).trans hz0)
    have hbw : Below w.heap.size w W1 := by rw [← hW]; exact (Below.refl _ _).alloc (Nat.le_refl _) _
    replace hb0 := Lib.hid (hbw.trans (hBW.mono hbw.size))
    have hp := Lib.hid (show wc.heap[W1.heap.size]? = _ from hp)
    clear q0 q1 q2 q3 q4 q5 q6 q7 q8 hwc hz0 hBW hbw e0 e1 e2 e3 e4 e5 e6 e7 e8 m0 m4 m6 s0 s4 s6
    have hcall := rcheck_any ((x0.toNat : Int) * 256 + x1.toNat) (x2.toNat : Int) (x3.toNat : Int) ((x4.toNat : Int) * 256 + x5.toNat) ((x6.toNat : Int) * 256 + x7.toNat) (x8.toNat : Int) wc
    rw [h] at hcall
    clear h
    cases B with
    | none =>
      unfold rcheckV at hcall
      replace hcall := Lib.hid hcall
      go_wp2_with (refine wpList_load_row rfl 32 (.tmp 4) rfl W1.heap.size #[.int .i64 ((x0.toNat : Int) * 256 + x1.toNat), .int .i64 (x2.toNat : Int), .int .i64 (x3.toNat : Int), .int .i64 ((x4.toNat : Int) * 256 + x5.toNat), .int .i64 ((x6.toNat : Int) * 256 + x7.toNat), .int .i64 (x8.toNat : Int)] _ rfl hp Tryd.underlying32 rfl (by kernel_rfl) ?_)
      refine hcall.out.mono ?_
      rintro e w5 ⟨rfl, hb⟩
      replace hp := Lib.hid ((hb.block _ (block_lt hp.out)).trans hp.out)
      replace hzz := Lib.hid ((hb.block _ (block_lt hzz.out)).trans hzz.out)
      replace hb0 := Lib.hid (hb0.out.trans (hb.mono hb0.out.size))
      clear hb hcall
      go_wp2_with (first | (refine wpList_load_row rfl 32 (.tmp 4) rfl W1.heap.size #[.int .i64 ((x0.toNat : Int) * 256 + x1.toNat), .int .i64 (x2.toNat : Int), .int .i64 (x3.toNat : Int), .int .i64 ((x4.toNat : Int) * 256 + x5.toNat), .int .i64 ((x6.toNat : Int) * 256 + x7.toNat), .int .i64 (x8.toNat : Int)] _ rfl hp Tryd.underlying32 rfl (by kernel_rfl) ?_) | (refine wpList_store_row rfl 32 (.tmp 2) (.tmp 65) rfl w.heap.size _ #[.int .i64 ((x0.toNat : Int) * 256 + x1.toNat), .int .i64 (x2.toNat : Int), .int .i64 (x3.toNat : Int), .int .i64 ((x4.toNat : Int) * 256 + x5.toNat), .int .i64 ((x6.toNat : Int) * 256 + x7.toNat), .int .i64 (x8.toNat : Int)] rfl rfl hzz (by kernel_rfl) rfl (by simp [Value.oneCell']) ?_; intro wS hU))
      refine ret_cell_tmp_row rfl rfl rfl Tryd.underlying32 rfl (by kernel_rfl) hU.out.here ?_
      exact ⟨rfl, hb0.out.trans (hU.out.below (Nat.le_refl _))⟩
    | some y =>
      obtain ⟨F, V, i⟩ := y
      unfold rcheckV at hcall
      obtain ⟨I, hI, hI3⟩ : ∃ I : Int, ((i + 1 : Nat) : Int) = I ∧ (I != 0) = true := ⟨_, rfl, by rw [bne_iff_ne]; omega⟩
      simp only [hI] at hcall ⊢
      replace hI := Lib.hid hI
      replace hcall := Lib.hid hcall
      go_wp2_with (refine wpList_load_row rfl 32 (.tmp 4) rfl W1.heap.size #[.int .i64 ((x0.toNat : Int) * 256 + x1.toNat), .int .i64 (x2.toNat : Int), .int .i64 (x3.toNat : Int), .int .i64 ((x4.toNat : Int) * 256 + x5.toNat), .int .i64 ((x6.toNat : Int) * 256 + x7.toNat), .int .i64 (x8.toNat : Int)] _ rfl hp Tryd.underlying32 rfl (by kernel_rfl) ?_)
      refine hcall.out.mono ?_
      rintro e w5 ⟨rfl, hb⟩
      replace hzz := Lib.hid ((hb.block _ (block_lt hzz.out)).trans hzz.out)
      replace hb0 := Lib.hid (hb0.out.trans (hb.mono hb0.out.size))
      clear hb hcall
      go_wp2_with (refine wpList_store_row rfl 32 (.tmp 2) (.tmp 63) rfl w.heap.size _ #[.int .i64 0, .int .i64 0, .int .i64 0, .int .i64 0, .int .i64 0, .int .i64 0] rfl rfl hzz (by kernel_rfl) rfl (by simp [Value.oneCell']) ?_; intro wS hU)
      refine ret_cell_tmp_row rfl rfl rfl Tryd.underlying32 rfl (by kernel_rfl) hU.out.here ?_
      exact ⟨by rw [← hI.out]; rfl, hb0.out.trans (hU.out.below (Nat.le_refl _))⟩

end Go.Proofs.YtahnicbokdbjdaaDoor
