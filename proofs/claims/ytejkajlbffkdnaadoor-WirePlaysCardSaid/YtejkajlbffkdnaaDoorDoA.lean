/- One act on a wire and on the reference's wire: all is the same. -/
import Derived.Test.YtejkajlbffkdnaaDoorMid
import Derived.Test.YtejkajlbffkdnaaDoorActs
import Derived.Test.YtejkajlbffkdnaaDoorEnum
import Derived.Test.YtejkajlbffkdnaaDoorOnL
import Derived.Test.YtejkajlbffkdnaaDoorOnL
namespace Go.Proofs.YtejkajlbffkdnaaDoor
open Go.RowKit

/-- What is known of a world on the way: it lies behind w. -/
structure Way2 (base W : Nat) (T : TypeId) (M : Nat) (TM : TypeId) (t : Nat) (w w' : World) : Prop where
  mid : ∃ y' z' ry' rz', Mid base W T M TM w' y' z' ry' rz' ∧ Sim y' ry' ∧ Sim z' rz' ∧ WInv (t + 1) y' ∧ WInv (t + 1) z'
  low : Below base w w'
/-- The act in its box. -/
def BoxAt (X : Nat) (x : ActV) (w : World) : Prop := w.heap[X]? = some (.cells x.cells 29 (0, 0))
theorem ArgB.fromAt {w : World} {g : Nat} {bs : List UInt8} (h : At w (some ⟨g, 0, none⟩) (cB (bs ++ marksB))) (hl : bs.length ≤ 1000000) : ArgB w (some ⟨g, 0, none⟩) (bs.length + 6) bs :=
  ⟨by omega, by unfold maxLen; omega, (fun e => by cases e), marks_row h⟩
theorem At.only24 {w w' : World} {D : Nat → Prop} {g : Nat} {ys : List Value} (h : At w (some ⟨g, 0, none⟩) ys) (hO : Only D w w') (hd : ¬ D g) : At w' (some ⟨g, 0, none⟩) ys := fun i hi => by
  obtain ⟨b, o, e, hc⟩ := h i hi
  cases e
  have hlt : g < w.heap.size := by
    rw [List.getElem?_eq_getElem hi] at hc
    exact World.block_lt_of_cell? w _ hc
  exact ⟨_, _, rfl, (World.cell?_of_block (w := w) (w' := w') (a := ⟨g, 0 + i, none⟩) (hO.block g hlt hd)).trans hc⟩

set_option maxRecDepth 100000 in
set_option maxHeartbeats 4000000 in
theorem do_send (base W : Nat) (T : TypeId) (M : Nat) (TM : TypeId) (t : Nat) (y z ry rz : Way) (w : World) (ea : Nat → Addr) (x : ActV) (hm : Mid base W T M TM w y z ry rz) (sy : Sim y ry) (sz : Sim z rz) (iy : WInv t y) (iz : WInv t z) (ht : t ≤ 200) (hb : base ≤ w.heap.size)
    (hEE : ∀ w', Below base w w' → Errs 85 errGs w' ea) (hge : 12 ≤ base) (hXX : ∀ w', Below base w w' → ArgB w' x.a x.c x.bs) (hl : x.bs.length ≤ 8100) (hlow : 0 < x.bs.length → ∀ b o, x.a = some ⟨b, o, none⟩ → b < base) (hk : x.kind = 0) :
    Calls Tryd.prog 16 #[.pointer (some ⟨W, 0, none⟩), .pointer (some ⟨M, 0, none⟩), .agg x.cells] w fun e w' => e = .returned (.bool true) ∧ Way2 base W T M TM t w w' := by
  obtain ⟨kind, way, ii, at_, by_, xa, xc, bs⟩ := x
  simp only at hk hXX hl hlow
  subst hk
  simp only [ActV.cells]
  have hgB : Below w.heap.size w (w.alloc (.cells #[.int .i64 0, .int .i64 way, .int .i64 ii, .int .i64 at_, .int .u8 (by_.toNat : Int), .slice xa bs.length xc] 29)) := (Below.refl _ _).alloc (Nat.le_refl _) _
  have hbx : (w.alloc (.cells #[.int .i64 0, .int .i64 way, .int .i64 ii, .int .i64 at_, .int .u8 (by_.toNat : Int), .slice xa bs.length xc] 29)).heap[w.heap.size]? = some (.cells #[.int .i64 0, .int .i64 way, .int .i64 ii, .int .i64 at_, .int .u8 (by_.toNat : Int), .slice xa bs.length xc] 29 (0, 0)) := heap_alloc_new w _
  obtain ⟨wA, hwA⟩ : ∃ wA, wA = w.alloc (.cells #[.int .i64 0, .int .i64 way, .int .i64 ii, .int .i64 at_, .int .u8 (by_.toNat : Int), .slice xa bs.length xc] 29) := ⟨_, rfl⟩
  rw [← hwA] at hgB hbx
  have hsA := hgB.size
  have hmA := hm.below hgB
  have hbA : base ≤ wA.heap.size := by omega
  have hlowA : Below base w wA := hgB.mono hb
  have hDX : ∀ k, Wire.D W y z k → k < w.heap.size := fun k hk => (hm.wire.lt k hk).2
  have hMX : M < w.heap.size := block_lt hm.ref.at_
  have hXlt : w.heap.size < wA.heap.size := block_lt hbx
  have hby := Lib.hid (bytes_any xa xc bs wA (hXX _ hlowA) (by omega))
  generalize hX : w.heap.size = X at *
  have hh : ∀ W' : World, W'.heap[X]? = some (.cells #[.int .i64 0, .int .i64 way, .int .i64 ii, .int .i64 at_, .int .u8 (by_.toNat : Int), .slice xa bs.length xc] 29 (0, 0)) → W'.cell? ⟨X, 1, none⟩ = some (.int .i64 way) ∧ W'.cell? ⟨X, 5, none⟩ = some (.slice xa bs.length xc) := fun W' h => ⟨by rw [cell_of_block h]; rfl, by rw [cell_of_block h]; rfl⟩
  have cx5 := (hh wA hbx).2
  have cx0 : wA.cell? ⟨X, 0, none⟩ = some (.int .i64 0) := by rw [cell_of_block hbx]; rfl
  replace hwA := Lib.hid hwA
  replace hmA := Lib.hid hmA
  replace hbx := Lib.hid hbx
  replace hXX := Lib.hid hXX
  replace hEE := Lib.hid hEE
  replace hlowA := Lib.hid hlowA
  replace hDX := Lib.hid hDX
  replace hX := Lib.hid hX
  replace hgB := Lib.hid hgB
  replace hh := Lib.hid hh
  replace sy := Lib.hid sy
  replace sz := Lib.hid sz
  replace iy := Lib.hid iy
  replace iz := Lib.hid iz
  replace hlow := Lib.hid hlow
  clear hm
  go_enter Tryd.func16, Tryd.ntmps16
  go_upto_region 1 with fail
  rw [hX.out]
  rw [← hwA.out]
  go_wp2_with fail
  with_reducible refine hby.out.mono ?_
  rintro e w1 ⟨gi, hgi, rfl, hgi2, hin, hnew⟩
  have hbx1 := Lib.hid ((hnew.block X (by omega)).trans hbx.out)
  have hm1 : Mid base W T M TM w1.drew y z ry rz := (hmA.out.below hnew).below (Drawn.below ⟨1, rfl⟩ _)
  have hlow1 : Below base w w1.drew := (hlowA.out.trans (hnew.mono hbA)).drew
  have hs1 := hnew.size
  have hargi : ArgB w1.drew (some ⟨gi, 0, none⟩) (bs.length + 6) bs := ArgB.fromAt (show At w1.drew _ _ from hin) (by omega)
  have hsend := Lib.hid (send_pair (w := w1.drew) hm1 sy.out sz.out iy.out iz.out ht (by show base ≤ w1.heap.size; omega) (hEE.out _ hlow1) hge way _ _ bs hargi (fun _ b o e => by cases e; have := hDX.out W (.inl rfl); omega))
  have hm1 := Lib.hid hm1
  have hlow1 := Lib.hid hlow1
  have hin1 := Lib.hid (show At w1.drew (some ⟨gi, 0, none⟩) (cB (bs ++ marksB)) from hin)
  have hsd : wA.heap.size ≤ w1.drew.heap.size := hs1
  have hS0 : Hid (w1.drew.heap[X]? = some (.cells #[.int .i64 0, .int .i64 way, .int .i64 ii, .int .i64 at_, .int .u8 (by_.toNat : Int), .slice xa bs.length xc] 29 (0, 0))) := hbx1
  clear hby cx5 cx0 hin hnew hargi hs1
  have k1 := fun (W' : World) h => (hh.out W' h).1
  have k5 := fun (W' : World) h => (hh.out W' h).2
  have cx1 : w1.cell? ⟨X, 5, none⟩ = some (.slice xa bs.length xc) := k5 w1 hbx1.out
  go_wp2_with fail
  refine wp_region_held_drew (S := (fun W' : World => W'.heap[X]? = some (.cells #[.int .i64 0, .int .i64 way, .int .i64 ii, .int .i64 at_, .int .u8 (by_.toNat : Int), .slice xa bs.length xc] 29 (0, 0)))) (by kernel_rfl) hS0.out (fun hOn => ?_)
  generalize World.drew w1 = wd at *
  refine wpAnyH_take (i := 0) (v := ?_) (by simp only [List.getElem?_toArray, List.getElem?_cons_zero]; rfl) (by kernel_rfl) (by kernel_rfl) (by kernel_rfl) (by exact fun _ _ _ h => h) (Or.inl ⟨by rfl, ?_⟩) hOn ?_
  rotate_left
  focus (intro W hSW; go_simp; try with_reducible rfl)
  try simp only [Act.put, List.setIfInBounds_toArray, List.set_cons_zero, List.set_cons_succ]
  refine wpAnyH_take (i := 1) (v := ?_) (by simp only [List.getElem?_toArray, List.getElem?_cons_succ, List.getElem?_cons_zero]; rfl) (by kernel_rfl) (by kernel_rfl) (by kernel_rfl) (by exact fun _ _ _ h => h) (Or.inl ⟨by rfl, ?_⟩) hOn ?_
  rotate_left
  focus (intro W hSW; go_simp; try with_reducible rfl)
  try simp only [Act.put, List.setIfInBounds_toArray, List.set_cons_zero, List.set_cons_succ]
  refine wpAnyH_take (i := 2) (v := ?_) (by simp only [List.getElem?_toArray, List.getElem?_cons_succ, List.getElem?_cons_zero]; rfl) (by kernel_rfl) (by kernel_rfl) (by kernel_rfl) (by exact fun _ _ _ h => h) (Or.inl ⟨by rfl, ?_⟩) hOn ?_
  rotate_left
  focus (intro W hSW; go_simp; try with_reducible rfl)
  try simp only [Act.put, List.setIfInBounds_toArray, List.set_cons_zero, List.set_cons_succ]
  refine wpAnyH_take (i := 3) (v := ?_) (by simp only [List.getElem?_toArray, List.getElem?_cons_succ, List.getElem?_cons_zero]; rfl) (by kernel_rfl) (by kernel_rfl) (by kernel_rfl) (by exact fun _ _ _ h => h) (Or.inl ⟨by rfl, ?_⟩) hOn ?_
  rotate_left
  focus (intro W hSW; go_simp; try with_reducible rfl)
  try simp only [Act.put, List.setIfInBounds_toArray, List.set_cons_zero, List.set_cons_succ]
  refine wpAnyH_take (i := 6) (v := ?_) (by simp only [List.getElem?_toArray, List.getElem?_cons_succ, List.getElem?_cons_zero]; rfl) (by kernel_rfl) (by kernel_rfl) (by kernel_rfl) (by exact fun _ _ _ h => h) (Or.inl ⟨by rfl, ?_⟩) hOn ?_
  rotate_left
  focus (intro W hSW; go_simp; try with_reducible rfl)
  try simp only [Act.put, List.setIfInBounds_toArray, List.set_cons_zero, List.set_cons_succ]
  refine wpAnyH_take (i := 7) (v := ?_) (by simp only [List.getElem?_toArray, List.getElem?_cons_succ, List.getElem?_cons_zero]; rfl) (by kernel_rfl) (by kernel_rfl) (by kernel_rfl) (by exact fun _ _ _ h => h) (Or.inl ⟨by rfl, ?_⟩) hOn ?_
  rotate_left
  focus (intro W hSW; go_simp; try with_reducible rfl)
  try simp only [Act.put, List.setIfInBounds_toArray, List.set_cons_zero, List.set_cons_succ]
  refine wpAnyH_take (i := 8) (v := ?_) (by simp only [List.getElem?_toArray, List.getElem?_cons_succ, List.getElem?_cons_zero]; rfl) (by kernel_rfl) (by kernel_rfl) (by kernel_rfl) (by exact fun _ _ _ h => h) (Or.inl ⟨by rfl, ?_⟩) hOn ?_
  rotate_left
  focus (intro W hSW; go_simp; try with_reducible rfl)
  try simp only [Act.put, List.setIfInBounds_toArray, List.set_cons_zero, List.set_cons_succ]
  refine wpAnyH_take (i := 9) (v := ?_) (by simp only [List.getElem?_toArray, List.getElem?_cons_succ, List.getElem?_cons_zero]; rfl) (by kernel_rfl) (by kernel_rfl) (by kernel_rfl) (by exact fun _ _ _ h => h) (Or.inl ⟨by rfl, ?_⟩) hOn ?_
  rotate_left
  focus (intro W hSW; go_simp; try with_reducible rfl)
  try simp only [Act.put, List.setIfInBounds_toArray, List.set_cons_zero, List.set_cons_succ]
  refine wpAnyH_take (i := 10) (v := ?_) (by simp only [List.getElem?_toArray, List.getElem?_cons_succ, List.getElem?_cons_zero]; rfl) (by kernel_rfl) (by kernel_rfl) (by kernel_rfl) (by exact fun _ _ _ h => h) (Or.inl ⟨by rfl, ?_⟩) hOn ?_
  rotate_left
  focus (intro W hSW; go_simp; try with_reducible rfl)
  try simp only [Act.put, List.setIfInBounds_toArray, List.set_cons_zero, List.set_cons_succ]
  refine wpAnyH_ready (rs := [4]) (by kernel_rfl) (by simp) ?_
  refine AllReadyH.cons (by simp only [List.getElem?_toArray, List.getElem?_cons_succ, List.getElem?_cons_zero]; rfl) (fun Kz hKz => ?_) AllReadyH.nil
  go_simp
  (with_reducible refine hsend.out.mono ?_)
  rintro e w3 ⟨r, y3, z3, rfl, hr, hst, iy3, iz3, href⟩
  have hS : w3.heap[X]? = _ := hst.only.heap hOn (fun hd => (by have := hDX.out X hd; omega))
  have hlow3 := Lib.hid (hlow1.out.trans (hst.below hm1.out.wire (by omega)))
  have hm3 := Lib.hid (hm1.out.ofWire hst)
  have hin3 := Lib.hid (hin1.out.only24 hst.only (fun hd => (by have := hDX.out gi hd; omega)))
  have hs3 := hst.only.size
  replace href := Lib.hid href
  replace iy3 := Lib.hid iy3
  replace iz3 := Lib.hid iz3
  clear hst hsend hin1 hm1 hlow1
  focus (go_wp2_with fail)
  refine hKz.out _ _ (by first | exact hS | exact Below.trans hOn (Below.mono hnew (Below.size hOn))) (fun hNext => ?_)
  clear hKz Kz hOn
  have hOn := hNext
  clear hNext
  try clear hnew
  try clear hS
  try simp only [Act.put, List.setIfInBounds_toArray, List.set_cons_zero, List.set_cons_succ]
  refine wpAnyH_ready (rs := [5]) (by kernel_rfl) (by simp) ?_
  refine AllReadyH.cons (by simp only [List.getElem?_toArray, List.getElem?_cons_succ, List.getElem?_cons_zero]; rfl) (fun Kz hKz => ?_) AllReadyH.nil
  go_simp
  (with_reducible refine (num_errOf ea r hr _ (hEE.out _ hlow3.out)).mono ?_)
  rintro e w4 ⟨rfl, hb4⟩
  have hS : w4.heap[X]? = _ := (hb4.block X (by omega)).trans hOn
  have hlow4 := Lib.hid (hlow3.out.trans (hb4.mono (by omega)))
  have hm4 := Lib.hid (hm3.out.below hb4)
  have hin4 := Lib.hid (At.below hin3.out hb4)
  have hs4 := hb4.size
  clear hb4 hm3 hlow3 hin3
  focus (go_wp2_with fail)
  refine hKz.out _ _ (by first | exact hS | exact Below.trans hOn (Below.mono hnew (Below.size hOn))) (fun hNext => ?_)
  clear hKz Kz hOn
  have hOn := hNext
  clear hNext
  try clear hnew
  try clear hS
  try simp only [Act.put, List.setIfInBounds_toArray, List.set_cons_zero, List.set_cons_succ]
  refine wpAnyH_ready (rs := [11]) (by kernel_rfl) (by simp) ?_
  refine AllReadyH.cons (by simp only [List.getElem?_toArray, List.getElem?_cons_succ, List.getElem?_cons_zero]; rfl) (fun Kz hKz => ?_) AllReadyH.nil
  go_simp
  (with_reducible refine (href.out _ _ _ hm4.out.ref (by omega) (hXX.out _ hlow4.out) (fun h0 b o e => by have := hlow.out h0 b o e; have := hm4.out.ref.ge; omega)).mono ?_)
  rintro e w5 ⟨rfl, ry5, rz5, hst5, sy5, sz5⟩
  have hS : w5.heap[X]? = _ := hst5.only.heap hOn (by omega)
  have hlow5 := Lib.hid (hlow4.out.trans (hst5.below hm4.out.ref (by omega)))
  have hm5 := Lib.hid (hm4.out.ofRef hst5)
  have hin5 := Lib.hid (hin4.out.only24 hst5.only (by omega))
  replace sy5 := Lib.hid sy5
  replace sz5 := Lib.hid sz5
  clear hst5 hm4 hlow4 hin4 href
  focus (go_wp2_with fail)
  refine hKz.out _ _ (by first | exact hS | exact Below.trans hOn (Below.mono hnew (Below.size hOn))) (fun hNext => ?_)
  clear hKz Kz hOn
  have hOn := hNext
  clear hNext
  try clear hnew
  try clear hS
  try simp only [Act.put, List.setIfInBounds_toArray, List.set_cons_zero, List.set_cons_succ]
  refine wpAnyH_take (i := 12) (v := ?_) (by simp only [List.getElem?_toArray, List.getElem?_cons_succ, List.getElem?_cons_zero]; rfl) (by kernel_rfl) (by kernel_rfl) (by kernel_rfl) (by exact fun _ _ _ h => h) (Or.inl ⟨by rfl, ?_⟩) hOn ?_
  rotate_left
  focus (intro W hSW; go_simp; try with_reducible rfl)
  try simp only [Act.put, List.setIfInBounds_toArray, List.set_cons_zero, List.set_cons_succ]
  refine wpAnyH_take (i := 13) (v := ?_) (by simp only [List.getElem?_toArray, List.getElem?_cons_succ, List.getElem?_cons_zero]; rfl) (by kernel_rfl) (by kernel_rfl) (by kernel_rfl) (by exact fun _ _ _ h => h) (Or.inl ⟨by rfl, ?_⟩) hOn ?_
  rotate_left
  focus (intro W hSW; go_simp; try with_reducible rfl)
  try simp only [Act.put, List.setIfInBounds_toArray, List.set_cons_zero, List.set_cons_succ]
  refine wpAnyH_take (i := 14) (v := ?_) (by simp only [List.getElem?_toArray, List.getElem?_cons_succ, List.getElem?_cons_zero]; rfl) (by kernel_rfl) (by kernel_rfl) (by kernel_rfl) (by exact fun _ _ _ h => h) (Or.inl ⟨by rfl, ?_⟩) hOn ?_
  rotate_left
  focus (intro W hSW; go_simp; try with_reducible rfl)
  try simp only [Act.put, List.setIfInBounds_toArray, List.set_cons_zero, List.set_cons_succ]
  refine wpAnyH_take (i := 15) (v := ?_) (by simp only [List.getElem?_toArray, List.getElem?_cons_succ, List.getElem?_cons_zero]; rfl) (by kernel_rfl) (by kernel_rfl) (by kernel_rfl) (by exact fun _ _ _ h => h) (Or.inl ⟨by rfl, ?_⟩) hOn ?_
  rotate_left
  focus (intro W hSW; go_simp; try with_reducible rfl)
  try simp only [Act.put, List.setIfInBounds_toArray, List.set_cons_zero, List.set_cons_succ]
  refine wpAnyH_take (i := 16) (v := ?_) (by simp only [List.getElem?_toArray, List.getElem?_cons_succ, List.getElem?_cons_zero]; rfl) (by kernel_rfl) (by kernel_rfl) (by kernel_rfl) (by exact fun _ _ _ h => h) (Or.inl ⟨by rfl, ?_⟩) hOn ?_
  rotate_left
  focus (intro W hSW; go_simp; try with_reducible rfl)
  try simp only [Act.put, List.setIfInBounds_toArray, List.set_cons_zero, List.set_cons_succ]
  refine wpAnyH_ready (rs := [17]) (by kernel_rfl) (by simp) ?_
  refine AllReadyH.cons (by simp only [List.getElem?_toArray, List.getElem?_cons_succ, List.getElem?_cons_zero]; rfl) (fun Kz hKz => ?_) AllReadyH.nil
  go_simp
  (with_reducible refine (kept_any gi xa xc bs _ (by omega) hin5.out (hXX.out _ hlow5.out)).mono ?_)
  rintro e w6 ⟨rfl, hd6⟩
  have hS : w6.heap[X]? = _ := (congrArg (·[X]?) hd6.heap).trans hOn
  have hlow6 := Lib.hid (hlow5.out.trans (hd6.below _))
  have hm6 := Lib.hid (hm5.out.below (hd6.below _))
  clear hd6 hm5 hlow5 hin5
  focus (go_wp2_with fail)
  refine hKz.out _ _ (by first | exact hS | exact Below.trans hOn (Below.mono hnew (Below.size hOn))) (fun hNext => ?_)
  clear hKz Kz hOn
  have hOn := hNext
  clear hNext
  try clear hnew
  try clear hS
  try simp only [Act.put, List.setIfInBounds_toArray, List.set_cons_zero, List.set_cons_succ]
  refine wpAnyH_take (i := 18) (v := ?_) (by simp only [List.getElem?_toArray, List.getElem?_cons_succ, List.getElem?_cons_zero]; rfl) (by kernel_rfl) (by kernel_rfl) (by kernel_rfl) (by exact fun _ _ _ h => h) (Or.inl ⟨by rfl, ?_⟩) hOn ?_
  rotate_left
  focus (intro W hSW; go_simp; try with_reducible rfl)
  try simp only [Act.put, List.setIfInBounds_toArray, List.set_cons_zero, List.set_cons_succ]
  refine wpAnyH_take (i := 19) (v := ?_) (by simp only [List.getElem?_toArray, List.getElem?_cons_succ, List.getElem?_cons_zero]; rfl) (by kernel_rfl) (by kernel_rfl) (by kernel_rfl) (by exact fun _ _ _ h => h) (Or.inl ⟨by rfl, ?_⟩) hOn ?_
  rotate_left
  focus (intro W hSW; go_simp; try with_reducible rfl)
  try simp only [Act.put, List.setIfInBounds_toArray, List.set_cons_zero, List.set_cons_succ]
  refine wpAnyH_done (by kernel_rfl) ?_ _
  go_wp2_with fail
  go_ret
  exact ⟨rfl, ⟨_, _, _, _, hm6.out, sy5.out, sz5.out, iy3.out, iz3.out⟩, hlow6.out⟩

set_option maxRecDepth 100000 in
set_option maxHeartbeats 4000000 in
theorem do_drop (base W : Nat) (T : TypeId) (M : Nat) (TM : TypeId) (t : Nat) (y z ry rz : Way) (w : World) (ea : Nat → Addr) (x : ActV) (hm : Mid base W T M TM w y z ry rz) (sy : Sim y ry) (sz : Sim z rz) (iy : WInv t y) (iz : WInv t z) (ht : t ≤ 200) (hb : base ≤ w.heap.size)
    (hEE : ∀ w', Below base w w' → Errs 85 errGs w' ea) (hge : 12 ≤ base) (hXX : ∀ w', Below base w w' → ArgB w' x.a x.c x.bs) (hl : x.bs.length ≤ 8100) (hlow : 0 < x.bs.length → ∀ b o, x.a = some ⟨b, o, none⟩ → b < base) (hk : x.kind = 2) :
    Calls Tryd.prog 16 #[.pointer (some ⟨W, 0, none⟩), .pointer (some ⟨M, 0, none⟩), .agg x.cells] w fun e w' => e = .returned (.bool true) ∧ Way2 base W T M TM t w w' := by
  obtain ⟨kind, way, ii, at_, by_, xa, xc, bs⟩ := x
  simp only at hk hXX hl hlow
  subst hk
  simp only [ActV.cells]
  have hgB : Below w.heap.size w (w.alloc (.cells #[.int .i64 2, .int .i64 way, .int .i64 ii, .int .i64 at_, .int .u8 (by_.toNat : Int), .slice xa bs.length xc] 29)) := (Below.refl _ _).alloc (Nat.le_refl _) _
  have hbx : (w.alloc (.cells #[.int .i64 2, .int .i64 way, .int .i64 ii, .int .i64 at_, .int .u8 (by_.toNat : Int), .slice xa bs.length xc] 29)).heap[w.heap.size]? = some (.cells #[.int .i64 2, .int .i64 way, .int .i64 ii, .int .i64 at_, .int .u8 (by_.toNat : Int), .slice xa bs.length xc] 29 (0, 0)) := heap_alloc_new w _
  obtain ⟨wA, hwA⟩ : ∃ wA, wA = w.alloc (.cells #[.int .i64 2, .int .i64 way, .int .i64 ii, .int .i64 at_, .int .u8 (by_.toNat : Int), .slice xa bs.length xc] 29) := ⟨_, rfl⟩
  rw [← hwA] at hgB hbx
  have hsA := hgB.size
  have hmA := hm.below hgB
  have hbA : base ≤ wA.heap.size := by omega
  have hlowA : Below base w wA := hgB.mono hb
  have hDX : ∀ k, Wire.D W y z k → k < w.heap.size := fun k hk => (hm.wire.lt k hk).2
  have hMX : M < w.heap.size := block_lt hm.ref.at_
  have hXlt : w.heap.size < wA.heap.size := block_lt hbx
  generalize hX : w.heap.size = X at *
  have hh : ∀ W' : World, W'.heap[X]? = some (.cells #[.int .i64 2, .int .i64 way, .int .i64 ii, .int .i64 at_, .int .u8 (by_.toNat : Int), .slice xa bs.length xc] 29 (0, 0)) → W'.cell? ⟨X, 0, none⟩ = some (.int .i64 2) ∧ W'.cell? ⟨X, 1, none⟩ = some (.int .i64 way) ∧ W'.cell? ⟨X, 2, none⟩ = some (.int .i64 ii) ∧ W'.cell? ⟨X, 3, none⟩ = some (.int .i64 at_) ∧ W'.cell? ⟨X, 4, none⟩ = some (.int .u8 (by_.toNat : Int)) :=
    fun W' h => ⟨by rw [cell_of_block h]; rfl, by rw [cell_of_block h]; rfl, by rw [cell_of_block h]; rfl, by rw [cell_of_block h]; rfl, by rw [cell_of_block h]; rfl⟩
  obtain ⟨cx0, cx1, cx2, cx3, cx4⟩ := hh wA hbx
  replace hwA := Lib.hid hwA
  replace hbx := Lib.hid hbx
  replace hEE := Lib.hid hEE
  replace hDX := Lib.hid hDX
  replace hX := Lib.hid hX
  replace hgB := Lib.hid hgB
  replace hh := Lib.hid hh
  clear hm hXX hlow
  go_enter Tryd.func16, Tryd.ntmps16
  go_upto_region 1 with fail
  rw [hX.out]
  rw [← hwA.out]
  have hm1 : Mid base W T M TM wA.drew y z ry rz := hmA.below (Drawn.below ⟨1, rfl⟩ _)
  have hlow1 : Below base w wA.drew := hlowA.drew
  have hop := Lib.hid (drop_pair (w := wA.drew) hm1 sy sz iy iz ht hbA (hEE.out _ hlow1) hge way ii)
  have hsd : wA.heap.size ≤ wA.drew.heap.size := Nat.le_refl _
  have hS0 : Hid (wA.drew.heap[X]? = some (.cells #[.int .i64 2, .int .i64 way, .int .i64 ii, .int .i64 at_, .int .u8 (by_.toNat : Int), .slice xa bs.length xc] 29 (0, 0))) := hbx
  replace hm1 := Lib.hid hm1
  replace hlow1 := Lib.hid hlow1
  replace hmA := Lib.hid hmA
  replace hlowA := Lib.hid hlowA
  clear sy sz iy iz
  have k1 := fun (W' : World) h => (hh.out W' h).2.1
  have k2 := fun (W' : World) h => (hh.out W' h).2.2.1
  have k3 := fun (W' : World) h => (hh.out W' h).2.2.2.1
  have k4 := fun (W' : World) h => (hh.out W' h).2.2.2.2
  go_wp2_with fail
  refine wp_region_held_drew (S := (fun W' : World => W'.heap[X]? = some (.cells #[.int .i64 2, .int .i64 way, .int .i64 ii, .int .i64 at_, .int .u8 (by_.toNat : Int), .slice xa bs.length xc] 29 (0, 0)))) (by kernel_rfl) hS0.out (fun hOn => ?_)
  generalize World.drew wA = wd at *
  refine wpAnyH_take (i := 0) (v := ?_) (by simp only [List.getElem?_toArray, List.getElem?_cons_zero]; rfl) (by kernel_rfl) (by kernel_rfl) (by kernel_rfl) (by exact fun _ _ _ h => h) (Or.inl ⟨by rfl, ?_⟩) hOn ?_
  rotate_left
  focus (intro W hSW; go_simp; try with_reducible rfl)
  try simp only [Act.put, List.setIfInBounds_toArray, List.set_cons_zero, List.set_cons_succ]
  refine wpAnyH_take (i := 1) (v := ?_) (by simp only [List.getElem?_toArray, List.getElem?_cons_succ, List.getElem?_cons_zero]; rfl) (by kernel_rfl) (by kernel_rfl) (by kernel_rfl) (by exact fun _ _ _ h => h) (Or.inl ⟨by rfl, ?_⟩) hOn ?_
  rotate_left
  focus (intro W hSW; go_simp; try with_reducible rfl)
  try simp only [Act.put, List.setIfInBounds_toArray, List.set_cons_zero, List.set_cons_succ]
  refine wpAnyH_take (i := 2) (v := ?_) (by simp only [List.getElem?_toArray, List.getElem?_cons_succ, List.getElem?_cons_zero]; rfl) (by kernel_rfl) (by kernel_rfl) (by kernel_rfl) (by exact fun _ _ _ h => h) (Or.inl ⟨by rfl, ?_⟩) hOn ?_
  rotate_left
  focus (intro W hSW; go_simp; try with_reducible rfl)
  try simp only [Act.put, List.setIfInBounds_toArray, List.set_cons_zero, List.set_cons_succ]
  refine wpAnyH_take (i := 3) (v := ?_) (by simp only [List.getElem?_toArray, List.getElem?_cons_succ, List.getElem?_cons_zero]; rfl) (by kernel_rfl) (by kernel_rfl) (by kernel_rfl) (by exact fun _ _ _ h => h) (Or.inl ⟨by rfl, ?_⟩) hOn ?_
  rotate_left
  focus (intro W hSW; go_simp; try with_reducible rfl)
  try simp only [Act.put, List.setIfInBounds_toArray, List.set_cons_zero, List.set_cons_succ]
  refine wpAnyH_take (i := 4) (v := ?_) (by simp only [List.getElem?_toArray, List.getElem?_cons_succ, List.getElem?_cons_zero]; rfl) (by kernel_rfl) (by kernel_rfl) (by kernel_rfl) (by exact fun _ _ _ h => h) (Or.inl ⟨by rfl, ?_⟩) hOn ?_
  rotate_left
  focus (intro W hSW; go_simp; try with_reducible rfl)
  try simp only [Act.put, List.setIfInBounds_toArray, List.set_cons_zero, List.set_cons_succ]
  refine wpAnyH_take (i := 7) (v := ?_) (by simp only [List.getElem?_toArray, List.getElem?_cons_succ, List.getElem?_cons_zero]; rfl) (by kernel_rfl) (by kernel_rfl) (by kernel_rfl) (by exact fun _ _ _ h => h) (Or.inl ⟨by rfl, ?_⟩) hOn ?_
  rotate_left
  focus (intro W hSW; go_simp; try with_reducible rfl)
  try simp only [Act.put, List.setIfInBounds_toArray, List.set_cons_zero, List.set_cons_succ]
  refine wpAnyH_take (i := 8) (v := ?_) (by simp only [List.getElem?_toArray, List.getElem?_cons_succ, List.getElem?_cons_zero]; rfl) (by kernel_rfl) (by kernel_rfl) (by kernel_rfl) (by exact fun _ _ _ h => h) (Or.inl ⟨by rfl, ?_⟩) hOn ?_
  rotate_left
  focus (intro W hSW; go_simp; try with_reducible rfl)
  try simp only [Act.put, List.setIfInBounds_toArray, List.set_cons_zero, List.set_cons_succ]
  refine wpAnyH_take (i := 9) (v := ?_) (by simp only [List.getElem?_toArray, List.getElem?_cons_succ, List.getElem?_cons_zero]; rfl) (by kernel_rfl) (by kernel_rfl) (by kernel_rfl) (by exact fun _ _ _ h => h) (Or.inl ⟨by rfl, ?_⟩) hOn ?_
  rotate_left
  focus (intro W hSW; go_simp; try with_reducible rfl)
  try simp only [Act.put, List.setIfInBounds_toArray, List.set_cons_zero, List.set_cons_succ]
  refine wpAnyH_take (i := 10) (v := ?_) (by simp only [List.getElem?_toArray, List.getElem?_cons_succ, List.getElem?_cons_zero]; rfl) (by kernel_rfl) (by kernel_rfl) (by kernel_rfl) (by exact fun _ _ _ h => h) (Or.inl ⟨by rfl, ?_⟩) hOn ?_
  rotate_left
  focus (intro W hSW; go_simp; try with_reducible rfl)
  try simp only [Act.put, List.setIfInBounds_toArray, List.set_cons_zero, List.set_cons_succ]
  refine wpAnyH_take (i := 11) (v := ?_) (by simp only [List.getElem?_toArray, List.getElem?_cons_succ, List.getElem?_cons_zero]; rfl) (by kernel_rfl) (by kernel_rfl) (by kernel_rfl) (by exact fun _ _ _ h => h) (Or.inl ⟨by rfl, ?_⟩) hOn ?_
  rotate_left
  focus (intro W hSW; go_simp; try with_reducible rfl)
  try simp only [Act.put, List.setIfInBounds_toArray, List.set_cons_zero, List.set_cons_succ]
  refine wpAnyH_ready (rs := [5]) (by kernel_rfl) (by simp) ?_
  refine AllReadyH.cons (by simp only [List.getElem?_toArray, List.getElem?_cons_succ, List.getElem?_cons_zero]; rfl) (fun Kz hKz => ?_) AllReadyH.nil
  go_simp
  (with_reducible refine hop.out.mono ?_)
  rintro e w3 ⟨r, y3, z3, rfl, hr, hst, iy3, iz3, href⟩
  have hS : w3.heap[X]? = _ := hst.only.heap hOn (fun hd => (by have := hDX.out X hd; omega))
  have hlow3 := Lib.hid (hlow1.out.trans (hst.below hm1.out.wire (by omega)))
  have hm3 := Lib.hid (hm1.out.ofWire hst)
  have hs3 := hst.only.size
  replace href := Lib.hid href
  replace iy3 := Lib.hid iy3
  replace iz3 := Lib.hid iz3
  clear hst hop hm1 hlow1
  focus (go_wp2_with fail)
  refine hKz.out _ _ (by first | exact hS | exact Below.trans hOn (Below.mono hnew (Below.size hOn))) (fun hNext => ?_)
  clear hKz Kz hOn
  have hOn := hNext
  clear hNext
  try clear hnew
  try clear hS
  try simp only [Act.put, List.setIfInBounds_toArray, List.set_cons_zero, List.set_cons_succ]
  refine wpAnyH_ready (rs := [6]) (by kernel_rfl) (by simp) ?_
  refine AllReadyH.cons (by simp only [List.getElem?_toArray, List.getElem?_cons_succ, List.getElem?_cons_zero]; rfl) (fun Kz hKz => ?_) AllReadyH.nil
  go_simp
  (with_reducible refine (num_errOf ea r hr _ (hEE.out _ hlow3.out)).mono ?_)
  rintro e w4 ⟨rfl, hb4⟩
  have hS : w4.heap[X]? = _ := (hb4.block X (by omega)).trans hOn
  have hlow4 := Lib.hid (hlow3.out.trans (hb4.mono (by omega)))
  have hm4 := Lib.hid (hm3.out.below hb4)
  have hs4 := hb4.size
  clear hb4 hm3 hlow3
  focus (go_wp2_with fail)
  refine hKz.out _ _ (by first | exact hS | exact Below.trans hOn (Below.mono hnew (Below.size hOn))) (fun hNext => ?_)
  clear hKz Kz hOn
  have hOn := hNext
  clear hNext
  try clear hnew
  try clear hS
  try simp only [Act.put, List.setIfInBounds_toArray, List.set_cons_zero, List.set_cons_succ]
  refine wpAnyH_ready (rs := [12]) (by kernel_rfl) (by simp) ?_
  refine AllReadyH.cons (by simp only [List.getElem?_toArray, List.getElem?_cons_succ, List.getElem?_cons_zero]; rfl) (fun Kz hKz => ?_) AllReadyH.nil
  go_simp
  (with_reducible refine (href.out _ hm4.out.ref (by omega)).mono ?_)
  rintro e w5 ⟨rfl, ry5, rz5, hst5, sy5, sz5⟩
  have hS : w5.heap[X]? = _ := hst5.only.heap hOn (by omega)
  have hlow5 := Lib.hid (hlow4.out.trans (hst5.below hm4.out.ref (by omega)))
  have hm5 := Lib.hid (hm4.out.ofRef hst5)
  replace sy5 := Lib.hid sy5
  replace sz5 := Lib.hid sz5
  clear hst5 hm4 hlow4 href
  focus (go_wp2_with fail)
  refine hKz.out _ _ (by first | exact hS | exact Below.trans hOn (Below.mono hnew (Below.size hOn))) (fun hNext => ?_)
  clear hKz Kz hOn
  have hOn := hNext
  clear hNext
  try clear hnew
  try clear hS
  try simp only [Act.put, List.setIfInBounds_toArray, List.set_cons_zero, List.set_cons_succ]
  refine wpAnyH_take (i := 13) (v := ?_) (by simp only [List.getElem?_toArray, List.getElem?_cons_succ, List.getElem?_cons_zero]; rfl) (by kernel_rfl) (by kernel_rfl) (by kernel_rfl) (by exact fun _ _ _ h => h) (Or.inl ⟨by rfl, ?_⟩) hOn ?_
  rotate_left
  focus (intro W hSW; go_simp; try with_reducible rfl)
  try simp only [Act.put, List.setIfInBounds_toArray, List.set_cons_zero, List.set_cons_succ]
  refine wpAnyH_take (i := 14) (v := ?_) (by simp only [List.getElem?_toArray, List.getElem?_cons_succ, List.getElem?_cons_zero]; rfl) (by kernel_rfl) (by kernel_rfl) (by kernel_rfl) (by exact fun _ _ _ h => h) (Or.inl ⟨by rfl, ?_⟩) hOn ?_
  rotate_left
  focus (intro W hSW; go_simp; try with_reducible rfl)
  try simp only [Act.put, List.setIfInBounds_toArray, List.set_cons_zero, List.set_cons_succ]
  refine wpAnyH_done (by kernel_rfl) ?_ _
  go_wp2_with fail
  go_ret
  exact ⟨rfl, ⟨_, _, _, _, hm5.out, sy5.out, sz5.out, iy3.out, iz3.out⟩, hlow5.out⟩

set_option maxRecDepth 100000 in
set_option maxHeartbeats 4000000 in
theorem do_double (base W : Nat) (T : TypeId) (M : Nat) (TM : TypeId) (t : Nat) (y z ry rz : Way) (w : World) (ea : Nat → Addr) (x : ActV) (hm : Mid base W T M TM w y z ry rz) (sy : Sim y ry) (sz : Sim z rz) (iy : WInv t y) (iz : WInv t z) (ht : t ≤ 200) (hb : base ≤ w.heap.size)
    (hEE : ∀ w', Below base w w' → Errs 85 errGs w' ea) (hge : 12 ≤ base) (hXX : ∀ w', Below base w w' → ArgB w' x.a x.c x.bs) (hl : x.bs.length ≤ 8100) (hlow : 0 < x.bs.length → ∀ b o, x.a = some ⟨b, o, none⟩ → b < base) (hk : x.kind = 3) :
    Calls Tryd.prog 16 #[.pointer (some ⟨W, 0, none⟩), .pointer (some ⟨M, 0, none⟩), .agg x.cells] w fun e w' => e = .returned (.bool true) ∧ Way2 base W T M TM t w w' := by
  obtain ⟨kind, way, ii, at_, by_, xa, xc, bs⟩ := x
  simp only at hk hXX hl hlow
  subst hk
  simp only [ActV.cells]
  have hgB : Below w.heap.size w (w.alloc (.cells #[.int .i64 3, .int .i64 way, .int .i64 ii, .int .i64 at_, .int .u8 (by_.toNat : Int), .slice xa bs.length xc] 29)) := (Below.refl _ _).alloc (Nat.le_refl _) _
  have hbx : (w.alloc (.cells #[.int .i64 3, .int .i64 way, .int .i64 ii, .int .i64 at_, .int .u8 (by_.toNat : Int), .slice xa bs.length xc] 29)).heap[w.heap.size]? = some (.cells #[.int .i64 3, .int .i64 way, .int .i64 ii, .int .i64 at_, .int .u8 (by_.toNat : Int), .slice xa bs.length xc] 29 (0, 0)) := heap_alloc_new w _
  obtain ⟨wA, hwA⟩ : ∃ wA, wA = w.alloc (.cells #[.int .i64 3, .int .i64 way, .int .i64 ii, .int .i64 at_, .int .u8 (by_.toNat : Int), .slice xa bs.length xc] 29) := ⟨_, rfl⟩
  rw [← hwA] at hgB hbx
  have hsA := hgB.size
  have hmA := hm.below hgB
  have hbA : base ≤ wA.heap.size := by omega
  have hlowA : Below base w wA := hgB.mono hb
  have hDX : ∀ k, Wire.D W y z k → k < w.heap.size := fun k hk => (hm.wire.lt k hk).2
  have hMX : M < w.heap.size := block_lt hm.ref.at_
  have hXlt : w.heap.size < wA.heap.size := block_lt hbx
  generalize hX : w.heap.size = X at *
  have hh : ∀ W' : World, W'.heap[X]? = some (.cells #[.int .i64 3, .int .i64 way, .int .i64 ii, .int .i64 at_, .int .u8 (by_.toNat : Int), .slice xa bs.length xc] 29 (0, 0)) → W'.cell? ⟨X, 0, none⟩ = some (.int .i64 3) ∧ W'.cell? ⟨X, 1, none⟩ = some (.int .i64 way) ∧ W'.cell? ⟨X, 2, none⟩ = some (.int .i64 ii) ∧ W'.cell? ⟨X, 3, none⟩ = some (.int .i64 at_) ∧ W'.cell? ⟨X, 4, none⟩ = some (.int .u8 (by_.toNat : Int)) :=
    fun W' h => ⟨by rw [cell_of_block h]; rfl, by rw [cell_of_block h]; rfl, by rw [cell_of_block h]; rfl, by rw [cell_of_block h]; rfl, by rw [cell_of_block h]; rfl⟩
  obtain ⟨cx0, cx1, cx2, cx3, cx4⟩ := hh wA hbx
  replace hwA := Lib.hid hwA
  replace hbx := Lib.hid hbx
  replace hEE := Lib.hid hEE
  replace hDX := Lib.hid hDX
  replace hX := Lib.hid hX
  replace hgB := Lib.hid hgB
  replace hh := Lib.hid hh
  clear hm hXX hlow
  go_enter Tryd.func16, Tryd.ntmps16
  go_upto_region 1 with fail
  rw [hX.out]
  rw [← hwA.out]
  have hm1 : Mid base W T M TM wA.drew y z ry rz := hmA.below (Drawn.below ⟨1, rfl⟩ _)
  have hlow1 : Below base w wA.drew := hlowA.drew
  have hop := Lib.hid (double_pair (w := wA.drew) hm1 sy sz iy iz ht hbA (hEE.out _ hlow1) hge way ii)
  have hsd : wA.heap.size ≤ wA.drew.heap.size := Nat.le_refl _
  have hS0 : Hid (wA.drew.heap[X]? = some (.cells #[.int .i64 3, .int .i64 way, .int .i64 ii, .int .i64 at_, .int .u8 (by_.toNat : Int), .slice xa bs.length xc] 29 (0, 0))) := hbx
  replace hm1 := Lib.hid hm1
  replace hlow1 := Lib.hid hlow1
  replace hmA := Lib.hid hmA
  replace hlowA := Lib.hid hlowA
  clear sy sz iy iz
  have k1 := fun (W' : World) h => (hh.out W' h).2.1
  have k2 := fun (W' : World) h => (hh.out W' h).2.2.1
  have k3 := fun (W' : World) h => (hh.out W' h).2.2.2.1
  have k4 := fun (W' : World) h => (hh.out W' h).2.2.2.2
  go_wp2_with fail
  refine wp_region_held_drew (S := (fun W' : World => W'.heap[X]? = some (.cells #[.int .i64 3, .int .i64 way, .int .i64 ii, .int .i64 at_, .int .u8 (by_.toNat : Int), .slice xa bs.length xc] 29 (0, 0)))) (by kernel_rfl) hS0.out (fun hOn => ?_)
  generalize World.drew wA = wd at *
  refine wpAnyH_take (i := 0) (v := ?_) (by simp only [List.getElem?_toArray, List.getElem?_cons_zero]; rfl) (by kernel_rfl) (by kernel_rfl) (by kernel_rfl) (by exact fun _ _ _ h => h) (Or.inl ⟨by rfl, ?_⟩) hOn ?_
  rotate_left
  focus (intro W hSW; go_simp; try with_reducible rfl)
  try simp only [Act.put, List.setIfInBounds_toArray, List.set_cons_zero, List.set_cons_succ]
  refine wpAnyH_take (i := 1) (v := ?_) (by simp only [List.getElem?_toArray, List.getElem?_cons_succ, List.getElem?_cons_zero]; rfl) (by kernel_rfl) (by kernel_rfl) (by kernel_rfl) (by exact fun _ _ _ h => h) (Or.inl ⟨by rfl, ?_⟩) hOn ?_
  rotate_left
  focus (intro W hSW; go_simp; try with_reducible rfl)
  try simp only [Act.put, List.setIfInBounds_toArray, List.set_cons_zero, List.set_cons_succ]
  refine wpAnyH_take (i := 2) (v := ?_) (by simp only [List.getElem?_toArray, List.getElem?_cons_succ, List.getElem?_cons_zero]; rfl) (by kernel_rfl) (by kernel_rfl) (by kernel_rfl) (by exact fun _ _ _ h => h) (Or.inl ⟨by rfl, ?_⟩) hOn ?_
  rotate_left
  focus (intro W hSW; go_simp; try with_reducible rfl)
  try simp only [Act.put, List.setIfInBounds_toArray, List.set_cons_zero, List.set_cons_succ]
  refine wpAnyH_take (i := 3) (v := ?_) (by simp only [List.getElem?_toArray, List.getElem?_cons_succ, List.getElem?_cons_zero]; rfl) (by kernel_rfl) (by kernel_rfl) (by kernel_rfl) (by exact fun _ _ _ h => h) (Or.inl ⟨by rfl, ?_⟩) hOn ?_
  rotate_left
  focus (intro W hSW; go_simp; try with_reducible rfl)
  try simp only [Act.put, List.setIfInBounds_toArray, List.set_cons_zero, List.set_cons_succ]
  refine wpAnyH_take (i := 4) (v := ?_) (by simp only [List.getElem?_toArray, List.getElem?_cons_succ, List.getElem?_cons_zero]; rfl) (by kernel_rfl) (by kernel_rfl) (by kernel_rfl) (by exact fun _ _ _ h => h) (Or.inl ⟨by rfl, ?_⟩) hOn ?_
  rotate_left
  focus (intro W hSW; go_simp; try with_reducible rfl)
  try simp only [Act.put, List.setIfInBounds_toArray, List.set_cons_zero, List.set_cons_succ]
  refine wpAnyH_take (i := 7) (v := ?_) (by simp only [List.getElem?_toArray, List.getElem?_cons_succ, List.getElem?_cons_zero]; rfl) (by kernel_rfl) (by kernel_rfl) (by kernel_rfl) (by exact fun _ _ _ h => h) (Or.inl ⟨by rfl, ?_⟩) hOn ?_
  rotate_left
  focus (intro W hSW; go_simp; try with_reducible rfl)
  try simp only [Act.put, List.setIfInBounds_toArray, List.set_cons_zero, List.set_cons_succ]
  refine wpAnyH_take (i := 8) (v := ?_) (by simp only [List.getElem?_toArray, List.getElem?_cons_succ, List.getElem?_cons_zero]; rfl) (by kernel_rfl) (by kernel_rfl) (by kernel_rfl) (by exact fun _ _ _ h => h) (Or.inl ⟨by rfl, ?_⟩) hOn ?_
  rotate_left
  focus (intro W hSW; go_simp; try with_reducible rfl)
  try simp only [Act.put, List.setIfInBounds_toArray, List.set_cons_zero, List.set_cons_succ]
  refine wpAnyH_take (i := 9) (v := ?_) (by simp only [List.getElem?_toArray, List.getElem?_cons_succ, List.getElem?_cons_zero]; rfl) (by kernel_rfl) (by kernel_rfl) (by kernel_rfl) (by exact fun _ _ _ h => h) (Or.inl ⟨by rfl, ?_⟩) hOn ?_
  rotate_left
  focus (intro W hSW; go_simp; try with_reducible rfl)
  try simp only [Act.put, List.setIfInBounds_toArray, List.set_cons_zero, List.set_cons_succ]
  refine wpAnyH_take (i := 10) (v := ?_) (by simp only [List.getElem?_toArray, List.getElem?_cons_succ, List.getElem?_cons_zero]; rfl) (by kernel_rfl) (by kernel_rfl) (by kernel_rfl) (by exact fun _ _ _ h => h) (Or.inl ⟨by rfl, ?_⟩) hOn ?_
  rotate_left
  focus (intro W hSW; go_simp; try with_reducible rfl)
  try simp only [Act.put, List.setIfInBounds_toArray, List.set_cons_zero, List.set_cons_succ]
  refine wpAnyH_take (i := 11) (v := ?_) (by simp only [List.getElem?_toArray, List.getElem?_cons_succ, List.getElem?_cons_zero]; rfl) (by kernel_rfl) (by kernel_rfl) (by kernel_rfl) (by exact fun _ _ _ h => h) (Or.inl ⟨by rfl, ?_⟩) hOn ?_
  rotate_left
  focus (intro W hSW; go_simp; try with_reducible rfl)
  try simp only [Act.put, List.setIfInBounds_toArray, List.set_cons_zero, List.set_cons_succ]
  refine wpAnyH_ready (rs := [5]) (by kernel_rfl) (by simp) ?_
  refine AllReadyH.cons (by simp only [List.getElem?_toArray, List.getElem?_cons_succ, List.getElem?_cons_zero]; rfl) (fun Kz hKz => ?_) AllReadyH.nil
  go_simp
  (with_reducible refine hop.out.mono ?_)
  rintro e w3 ⟨r, y3, z3, rfl, hr, hst, iy3, iz3, href⟩
  have hS : w3.heap[X]? = _ := hst.only.heap hOn (fun hd => (by have := hDX.out X hd; omega))
  have hlow3 := Lib.hid (hlow1.out.trans (hst.below hm1.out.wire (by omega)))
  have hm3 := Lib.hid (hm1.out.ofWire hst)
  have hs3 := hst.only.size
  replace href := Lib.hid href
  replace iy3 := Lib.hid iy3
  replace iz3 := Lib.hid iz3
  clear hst hop hm1 hlow1
  focus (go_wp2_with fail)
  refine hKz.out _ _ (by first | exact hS | exact Below.trans hOn (Below.mono hnew (Below.size hOn))) (fun hNext => ?_)
  clear hKz Kz hOn
  have hOn := hNext
  clear hNext
  try clear hnew
  try clear hS
  try simp only [Act.put, List.setIfInBounds_toArray, List.set_cons_zero, List.set_cons_succ]
  refine wpAnyH_ready (rs := [6]) (by kernel_rfl) (by simp) ?_
  refine AllReadyH.cons (by simp only [List.getElem?_toArray, List.getElem?_cons_succ, List.getElem?_cons_zero]; rfl) (fun Kz hKz => ?_) AllReadyH.nil
  go_simp
  (with_reducible refine (num_errOf ea r hr _ (hEE.out _ hlow3.out)).mono ?_)
  rintro e w4 ⟨rfl, hb4⟩
  have hS : w4.heap[X]? = _ := (hb4.block X (by omega)).trans hOn
  have hlow4 := Lib.hid (hlow3.out.trans (hb4.mono (by omega)))
  have hm4 := Lib.hid (hm3.out.below hb4)
  have hs4 := hb4.size
  clear hb4 hm3 hlow3
  focus (go_wp2_with fail)
  refine hKz.out _ _ (by first | exact hS | exact Below.trans hOn (Below.mono hnew (Below.size hOn))) (fun hNext => ?_)
  clear hKz Kz hOn
  have hOn := hNext
  clear hNext
  try clear hnew
  try clear hS
  try simp only [Act.put, List.setIfInBounds_toArray, List.set_cons_zero, List.set_cons_succ]
  refine wpAnyH_ready (rs := [12]) (by kernel_rfl) (by simp) ?_
  refine AllReadyH.cons (by simp only [List.getElem?_toArray, List.getElem?_cons_succ, List.getElem?_cons_zero]; rfl) (fun Kz hKz => ?_) AllReadyH.nil
  go_simp
  (with_reducible refine (href.out _ hm4.out.ref (by omega)).mono ?_)
  rintro e w5 ⟨rfl, ry5, rz5, hst5, sy5, sz5⟩
  have hS : w5.heap[X]? = _ := hst5.only.heap hOn (by omega)
  have hlow5 := Lib.hid (hlow4.out.trans (hst5.below hm4.out.ref (by omega)))
  have hm5 := Lib.hid (hm4.out.ofRef hst5)
  replace sy5 := Lib.hid sy5
  replace sz5 := Lib.hid sz5
  clear hst5 hm4 hlow4 href
  focus (go_wp2_with fail)
  refine hKz.out _ _ (by first | exact hS | exact Below.trans hOn (Below.mono hnew (Below.size hOn))) (fun hNext => ?_)
  clear hKz Kz hOn
  have hOn := hNext
  clear hNext
  try clear hnew
  try clear hS
  try simp only [Act.put, List.setIfInBounds_toArray, List.set_cons_zero, List.set_cons_succ]
  refine wpAnyH_take (i := 13) (v := ?_) (by simp only [List.getElem?_toArray, List.getElem?_cons_succ, List.getElem?_cons_zero]; rfl) (by kernel_rfl) (by kernel_rfl) (by kernel_rfl) (by exact fun _ _ _ h => h) (Or.inl ⟨by rfl, ?_⟩) hOn ?_
  rotate_left
  focus (intro W hSW; go_simp; try with_reducible rfl)
  try simp only [Act.put, List.setIfInBounds_toArray, List.set_cons_zero, List.set_cons_succ]
  refine wpAnyH_take (i := 14) (v := ?_) (by simp only [List.getElem?_toArray, List.getElem?_cons_succ, List.getElem?_cons_zero]; rfl) (by kernel_rfl) (by kernel_rfl) (by kernel_rfl) (by exact fun _ _ _ h => h) (Or.inl ⟨by rfl, ?_⟩) hOn ?_
  rotate_left
  focus (intro W hSW; go_simp; try with_reducible rfl)
  try simp only [Act.put, List.setIfInBounds_toArray, List.set_cons_zero, List.set_cons_succ]
  refine wpAnyH_done (by kernel_rfl) ?_ _
  go_wp2_with fail
  go_ret
  exact ⟨rfl, ⟨_, _, _, _, hm5.out, sy5.out, sz5.out, iy3.out, iz3.out⟩, hlow5.out⟩

set_option maxRecDepth 100000 in
set_option maxHeartbeats 4000000 in
theorem do_bend (base W : Nat) (T : TypeId) (M : Nat) (TM : TypeId) (t : Nat) (y z ry rz : Way) (w : World) (ea : Nat → Addr) (x : ActV) (hm : Mid base W T M TM w y z ry rz) (sy : Sim y ry) (sz : Sim z rz) (iy : WInv t y) (iz : WInv t z) (ht : t ≤ 200) (hb : base ≤ w.heap.size)
    (hEE : ∀ w', Below base w w' → Errs 85 errGs w' ea) (hge : 12 ≤ base) (hXX : ∀ w', Below base w w' → ArgB w' x.a x.c x.bs) (hl : x.bs.length ≤ 8100) (hlow : 0 < x.bs.length → ∀ b o, x.a = some ⟨b, o, none⟩ → b < base) (hk : x.kind = 4) :
    Calls Tryd.prog 16 #[.pointer (some ⟨W, 0, none⟩), .pointer (some ⟨M, 0, none⟩), .agg x.cells] w fun e w' => e = .returned (.bool true) ∧ Way2 base W T M TM t w w' := by
  obtain ⟨kind, way, ii, at_, by_, xa, xc, bs⟩ := x
  simp only at hk hXX hl hlow
  subst hk
  simp only [ActV.cells]
  have hgB : Below w.heap.size w (w.alloc (.cells #[.int .i64 4, .int .i64 way, .int .i64 ii, .int .i64 at_, .int .u8 (by_.toNat : Int), .slice xa bs.length xc] 29)) := (Below.refl _ _).alloc (Nat.le_refl _) _
  have hbx : (w.alloc (.cells #[.int .i64 4, .int .i64 way, .int .i64 ii, .int .i64 at_, .int .u8 (by_.toNat : Int), .slice xa bs.length xc] 29)).heap[w.heap.size]? = some (.cells #[.int .i64 4, .int .i64 way, .int .i64 ii, .int .i64 at_, .int .u8 (by_.toNat : Int), .slice xa bs.length xc] 29 (0, 0)) := heap_alloc_new w _
  obtain ⟨wA, hwA⟩ : ∃ wA, wA = w.alloc (.cells #[.int .i64 4, .int .i64 way, .int .i64 ii, .int .i64 at_, .int .u8 (by_.toNat : Int), .slice xa bs.length xc] 29) := ⟨_, rfl⟩
  rw [← hwA] at hgB hbx
  have hsA := hgB.size
  have hmA := hm.below hgB
  have hbA : base ≤ wA.heap.size := by omega
  have hlowA : Below base w wA := hgB.mono hb
  have hDX : ∀ k, Wire.D W y z k → k < w.heap.size := fun k hk => (hm.wire.lt k hk).2
  have hMX : M < w.heap.size := block_lt hm.ref.at_
  have hXlt : w.heap.size < wA.heap.size := block_lt hbx
  generalize hX : w.heap.size = X at *
  have hh : ∀ W' : World, W'.heap[X]? = some (.cells #[.int .i64 4, .int .i64 way, .int .i64 ii, .int .i64 at_, .int .u8 (by_.toNat : Int), .slice xa bs.length xc] 29 (0, 0)) → W'.cell? ⟨X, 0, none⟩ = some (.int .i64 4) ∧ W'.cell? ⟨X, 1, none⟩ = some (.int .i64 way) ∧ W'.cell? ⟨X, 2, none⟩ = some (.int .i64 ii) ∧ W'.cell? ⟨X, 3, none⟩ = some (.int .i64 at_) ∧ W'.cell? ⟨X, 4, none⟩ = some (.int .u8 (by_.toNat : Int)) :=
    fun W' h => ⟨by rw [cell_of_block h]; rfl, by rw [cell_of_block h]; rfl, by rw [cell_of_block h]; rfl, by rw [cell_of_block h]; rfl, by rw [cell_of_block h]; rfl⟩
  obtain ⟨cx0, cx1, cx2, cx3, cx4⟩ := hh wA hbx
  replace hwA := Lib.hid hwA
  replace hbx := Lib.hid hbx
  replace hEE := Lib.hid hEE
  replace hDX := Lib.hid hDX
  replace hX := Lib.hid hX
  replace hgB := Lib.hid hgB
  replace hh := Lib.hid hh
  clear hm hXX hlow
  go_enter Tryd.func16, Tryd.ntmps16
  go_upto_region 1 with fail
  rw [hX.out]
  rw [← hwA.out]
  have hm1 : Mid base W T M TM wA.drew y z ry rz := hmA.below (Drawn.below ⟨1, rfl⟩ _)
  have hlow1 : Below base w wA.drew := hlowA.drew
  have hop := Lib.hid (bend_pair (w := wA.drew) hm1 sy sz iy iz ht hbA (hEE.out _ hlow1) hge way ii at_ by_)
  have hsd : wA.heap.size ≤ wA.drew.heap.size := Nat.le_refl _
  have hS0 : Hid (wA.drew.heap[X]? = some (.cells #[.int .i64 4, .int .i64 way, .int .i64 ii, .int .i64 at_, .int .u8 (by_.toNat : Int), .slice xa bs.length xc] 29 (0, 0))) := hbx
  replace hm1 := Lib.hid hm1
  replace hlow1 := Lib.hid hlow1
  replace hmA := Lib.hid hmA
  replace hlowA := Lib.hid hlowA
  clear sy sz iy iz
  have k1 := fun (W' : World) h => (hh.out W' h).2.1
  have k2 := fun (W' : World) h => (hh.out W' h).2.2.1
  have k3 := fun (W' : World) h => (hh.out W' h).2.2.2.1
  have k4 := fun (W' : World) h => (hh.out W' h).2.2.2.2
  go_wp2_with fail
  refine wp_region_held_drew (S := (fun W' : World => W'.heap[X]? = some (.cells #[.int .i64 4, .int .i64 way, .int .i64 ii, .int .i64 at_, .int .u8 (by_.toNat : Int), .slice xa bs.length xc] 29 (0, 0)))) (by kernel_rfl) hS0.out (fun hOn => ?_)
  generalize World.drew wA = wd at *
  refine wpAnyH_take (i := 0) (v := ?_) (by simp only [List.getElem?_toArray, List.getElem?_cons_zero]; rfl) (by kernel_rfl) (by kernel_rfl) (by kernel_rfl) (by exact fun _ _ _ h => h) (Or.inl ⟨by rfl, ?_⟩) hOn ?_
  rotate_left
  focus (intro W hSW; go_simp; try with_reducible rfl)
  try simp only [Act.put, List.setIfInBounds_toArray, List.set_cons_zero, List.set_cons_succ]
  refine wpAnyH_take (i := 1) (v := ?_) (by simp only [List.getElem?_toArray, List.getElem?_cons_succ, List.getElem?_cons_zero]; rfl) (by kernel_rfl) (by kernel_rfl) (by kernel_rfl) (by exact fun _ _ _ h => h) (Or.inl ⟨by rfl, ?_⟩) hOn ?_
  rotate_left
  focus (intro W hSW; go_simp; try with_reducible rfl)
  try simp only [Act.put, List.setIfInBounds_toArray, List.set_cons_zero, List.set_cons_succ]
  refine wpAnyH_take (i := 2) (v := ?_) (by simp only [List.getElem?_toArray, List.getElem?_cons_succ, List.getElem?_cons_zero]; rfl) (by kernel_rfl) (by kernel_rfl) (by kernel_rfl) (by exact fun _ _ _ h => h) (Or.inl ⟨by rfl, ?_⟩) hOn ?_
  rotate_left
  focus (intro W hSW; go_simp; try with_reducible rfl)
  try simp only [Act.put, List.setIfInBounds_toArray, List.set_cons_zero, List.set_cons_succ]
  refine wpAnyH_take (i := 3) (v := ?_) (by simp only [List.getElem?_toArray, List.getElem?_cons_succ, List.getElem?_cons_zero]; rfl) (by kernel_rfl) (by kernel_rfl) (by kernel_rfl) (by exact fun _ _ _ h => h) (Or.inl ⟨by rfl, ?_⟩) hOn ?_
  rotate_left
  focus (intro W hSW; go_simp; try with_reducible rfl)
  try simp only [Act.put, List.setIfInBounds_toArray, List.set_cons_zero, List.set_cons_succ]
  refine wpAnyH_take (i := 4) (v := ?_) (by simp only [List.getElem?_toArray, List.getElem?_cons_succ, List.getElem?_cons_zero]; rfl) (by kernel_rfl) (by kernel_rfl) (by kernel_rfl) (by exact fun _ _ _ h => h) (Or.inl ⟨by rfl, ?_⟩) hOn ?_
  rotate_left
  focus (intro W hSW; go_simp; try with_reducible rfl)
  try simp only [Act.put, List.setIfInBounds_toArray, List.set_cons_zero, List.set_cons_succ]
  refine wpAnyH_take (i := 5) (v := ?_) (by simp only [List.getElem?_toArray, List.getElem?_cons_succ, List.getElem?_cons_zero]; rfl) (by kernel_rfl) (by kernel_rfl) (by kernel_rfl) (by exact fun _ _ _ h => h) (Or.inl ⟨by rfl, ?_⟩) hOn ?_
  rotate_left
  focus (intro W hSW; go_simp; try with_reducible rfl)
  try simp only [Act.put, List.setIfInBounds_toArray, List.set_cons_zero, List.set_cons_succ]
  refine wpAnyH_take (i := 6) (v := ?_) (by simp only [List.getElem?_toArray, List.getElem?_cons_succ, List.getElem?_cons_zero]; rfl) (by kernel_rfl) (by kernel_rfl) (by kernel_rfl) (by exact fun _ _ _ h => h) (Or.inl ⟨by rfl, ?_⟩) hOn ?_
  rotate_left
  focus (intro W hSW; go_simp; try with_reducible rfl)
  try simp only [Act.put, List.setIfInBounds_toArray, List.set_cons_zero, List.set_cons_succ]
  refine wpAnyH_take (i := 7) (v := ?_) (by simp only [List.getElem?_toArray, List.getElem?_cons_succ, List.getElem?_cons_zero]; rfl) (by kernel_rfl) (by kernel_rfl) (by kernel_rfl) (by exact fun _ _ _ h => h) (Or.inl ⟨by rfl, ?_⟩) hOn ?_
  rotate_left
  focus (intro W hSW; go_simp; try with_reducible rfl)
  try simp only [Act.put, List.setIfInBounds_toArray, List.set_cons_zero, List.set_cons_succ]
  refine wpAnyH_take (i := 8) (v := ?_) (by simp only [List.getElem?_toArray, List.getElem?_cons_succ, List.getElem?_cons_zero]; rfl) (by kernel_rfl) (by kernel_rfl) (by kernel_rfl) (by exact fun _ _ _ h => h) (Or.inl ⟨by rfl, ?_⟩) hOn ?_
  rotate_left
  focus (intro W hSW; go_simp; try with_reducible rfl)
  try simp only [Act.put, List.setIfInBounds_toArray, List.set_cons_zero, List.set_cons_succ]
  refine wpAnyH_take (i := 11) (v := ?_) (by simp only [List.getElem?_toArray, List.getElem?_cons_succ, List.getElem?_cons_zero]; rfl) (by kernel_rfl) (by kernel_rfl) (by kernel_rfl) (by exact fun _ _ _ h => h) (Or.inl ⟨by rfl, ?_⟩) hOn ?_
  rotate_left
  focus (intro W hSW; go_simp; try with_reducible rfl)
  try simp only [Act.put, List.setIfInBounds_toArray, List.set_cons_zero, List.set_cons_succ]
  refine wpAnyH_take (i := 12) (v := ?_) (by simp only [List.getElem?_toArray, List.getElem?_cons_succ, List.getElem?_cons_zero]; rfl) (by kernel_rfl) (by kernel_rfl) (by kernel_rfl) (by exact fun _ _ _ h => h) (Or.inl ⟨by rfl, ?_⟩) hOn ?_
  rotate_left
  focus (intro W hSW; go_simp; try with_reducible rfl)
  try simp only [Act.put, List.setIfInBounds_toArray, List.set_cons_zero, List.set_cons_succ]
  refine wpAnyH_take (i := 13) (v := ?_) (by simp only [List.getElem?_toArray, List.getElem?_cons_succ, List.getElem?_cons_zero]; rfl) (by kernel_rfl) (by kernel_rfl) (by kernel_rfl) (by exact fun _ _ _ h => h) (Or.inl ⟨by rfl, ?_⟩) hOn ?_
  rotate_left
  focus (intro W hSW; go_simp; try with_reducible rfl)
  try simp only [Act.put, List.setIfInBounds_toArray, List.set_cons_zero, List.set_cons_succ]
  refine wpAnyH_take (i := 14) (v := ?_) (by simp only [List.getElem?_toArray, List.getElem?_cons_succ, List.getElem?_cons_zero]; rfl) (by kernel_rfl) (by kernel_rfl) (by kernel_rfl) (by exact fun _ _ _ h => h) (Or.inl ⟨by rfl, ?_⟩) hOn ?_
  rotate_left
  focus (intro W hSW; go_simp; try with_reducible rfl)
  try simp only [Act.put, List.setIfInBounds_toArray, List.set_cons_zero, List.set_cons_succ]
  refine wpAnyH_take (i := 15) (v := ?_) (by simp only [List.getElem?_toArray, List.getElem?_cons_succ, List.getElem?_cons_zero]; rfl) (by kernel_rfl) (by kernel_rfl) (by kernel_rfl) (by exact fun _ _ _ h => h) (Or.inl ⟨by rfl, ?_⟩) hOn ?_
  rotate_left
  focus (intro W hSW; go_simp; try with_reducible rfl)
  try simp only [Act.put, List.setIfInBounds_toArray, List.set_cons_zero, List.set_cons_succ]
  refine wpAnyH_take (i := 16) (v := ?_) (by simp only [List.getElem?_toArray, List.getElem?_cons_succ, List.getElem?_cons_zero]; rfl) (by kernel_rfl) (by kernel_rfl) (by kernel_rfl) (by exact fun _ _ _ h => h) (Or.inl ⟨by rfl, ?_⟩) hOn ?_
  rotate_left
  focus (intro W hSW; go_simp; try with_reducible rfl)
  try simp only [Act.put, List.setIfInBounds_toArray, List.set_cons_zero, List.set_cons_succ]
  refine wpAnyH_take (i := 17) (v := ?_) (by simp only [List.getElem?_toArray, List.getElem?_cons_succ, List.getElem?_cons_zero]; rfl) (by kernel_rfl) (by kernel_rfl) (by kernel_rfl) (by exact fun _ _ _ h => h) (Or.inl ⟨by rfl, ?_⟩) hOn ?_
  rotate_left
  focus (intro W hSW; go_simp; try with_reducible rfl)
  try simp only [Act.put, List.setIfInBounds_toArray, List.set_cons_zero, List.set_cons_succ]
  refine wpAnyH_take (i := 18) (v := ?_) (by simp only [List.getElem?_toArray, List.getElem?_cons_succ, List.getElem?_cons_zero]; rfl) (by kernel_rfl) (by kernel_rfl) (by kernel_rfl) (by exact fun _ _ _ h => h) (Or.inl ⟨by rfl, ?_⟩) hOn ?_
  rotate_left
  focus (intro W hSW; go_simp; try with_reducible rfl)
  try simp only [Act.put, List.setIfInBounds_toArray, List.set_cons_zero, List.set_cons_succ]
  refine wpAnyH_take (i := 19) (v := ?_) (by simp only [List.getElem?_toArray, List.getElem?_cons_succ, List.getElem?_cons_zero]; rfl) (by kernel_rfl) (by kernel_rfl) (by kernel_rfl) (by exact fun _ _ _ h => h) (Or.inl ⟨by rfl, ?_⟩) hOn ?_
  rotate_left
  focus (intro W hSW; go_simp; try with_reducible rfl)
  try simp only [Act.put, List.setIfInBounds_toArray, List.set_cons_zero, List.set_cons_succ]
  refine wpAnyH_ready (rs := [9]) (by kernel_rfl) (by simp) ?_
  refine AllReadyH.cons (by simp only [List.getElem?_toArray, List.getElem?_cons_succ, List.getElem?_cons_zero]; rfl) (fun Kz hKz => ?_) AllReadyH.nil
  go_simp
  (with_reducible refine hop.out.mono ?_)
  rintro e w3 ⟨r, y3, z3, rfl, hr, hst, iy3, iz3, href⟩
  have hS : w3.heap[X]? = _ := hst.only.heap hOn (fun hd => (by have := hDX.out X hd; omega))
  have hlow3 := Lib.hid (hlow1.out.trans (hst.below hm1.out.wire (by omega)))
  have hm3 := Lib.hid (hm1.out.ofWire hst)
  have hs3 := hst.only.size
  replace href := Lib.hid href
  replace iy3 := Lib.hid iy3
  replace iz3 := Lib.hid iz3
  clear hst hop hm1 hlow1
  focus (go_wp2_with fail)
  refine hKz.out _ _ (by first | exact hS | exact Below.trans hOn (Below.mono hnew (Below.size hOn))) (fun hNext => ?_)
  clear hKz Kz hOn
  have hOn := hNext
  clear hNext
  try clear hnew
  try clear hS
  try simp only [Act.put, List.setIfInBounds_toArray, List.set_cons_zero, List.set_cons_succ]
  refine wpAnyH_ready (rs := [10]) (by kernel_rfl) (by simp) ?_
  refine AllReadyH.cons (by simp only [List.getElem?_toArray, List.getElem?_cons_succ, List.getElem?_cons_zero]; rfl) (fun Kz hKz => ?_) AllReadyH.nil
  go_simp
  (with_reducible refine (num_errOf ea r hr _ (hEE.out _ hlow3.out)).mono ?_)
  rintro e w4 ⟨rfl, hb4⟩
  have hS : w4.heap[X]? = _ := (hb4.block X (by omega)).trans hOn
  have hlow4 := Lib.hid (hlow3.out.trans (hb4.mono (by omega)))
  have hm4 := Lib.hid (hm3.out.below hb4)
  have hs4 := hb4.size
  clear hb4 hm3 hlow3
  focus (go_wp2_with fail)
  refine hKz.out _ _ (by first | exact hS | exact Below.trans hOn (Below.mono hnew (Below.size hOn))) (fun hNext => ?_)
  clear hKz Kz hOn
  have hOn := hNext
  clear hNext
  try clear hnew
  try clear hS
  try simp only [Act.put, List.setIfInBounds_toArray, List.set_cons_zero, List.set_cons_succ]
  refine wpAnyH_ready (rs := [20]) (by kernel_rfl) (by simp) ?_
  refine AllReadyH.cons (by simp only [List.getElem?_toArray, List.getElem?_cons_succ, List.getElem?_cons_zero]; rfl) (fun Kz hKz => ?_) AllReadyH.nil
  go_simp
  (with_reducible refine (href.out _ hm4.out.ref (by omega)).mono ?_)
  rintro e w5 ⟨rfl, ry5, rz5, hst5, sy5, sz5⟩
  have hS : w5.heap[X]? = _ := hst5.only.heap hOn (by omega)
  have hlow5 := Lib.hid (hlow4.out.trans (hst5.below hm4.out.ref (by omega)))
  have hm5 := Lib.hid (hm4.out.ofRef hst5)
  replace sy5 := Lib.hid sy5
  replace sz5 := Lib.hid sz5
  clear hst5 hm4 hlow4 href
  focus (go_wp2_with fail)
  refine hKz.out _ _ (by first | exact hS | exact Below.trans hOn (Below.mono hnew (Below.size hOn))) (fun hNext => ?_)
  clear hKz Kz hOn
  have hOn := hNext
  clear hNext
  try clear hnew
  try clear hS
  try simp only [Act.put, List.setIfInBounds_toArray, List.set_cons_zero, List.set_cons_succ]
  refine wpAnyH_take (i := 21) (v := ?_) (by simp only [List.getElem?_toArray, List.getElem?_cons_succ, List.getElem?_cons_zero]; rfl) (by kernel_rfl) (by kernel_rfl) (by kernel_rfl) (by exact fun _ _ _ h => h) (Or.inl ⟨by rfl, ?_⟩) hOn ?_
  rotate_left
  focus (intro W hSW; go_simp; try with_reducible rfl)
  try simp only [Act.put, List.setIfInBounds_toArray, List.set_cons_zero, List.set_cons_succ]
  refine wpAnyH_take (i := 22) (v := ?_) (by simp only [List.getElem?_toArray, List.getElem?_cons_succ, List.getElem?_cons_zero]; rfl) (by kernel_rfl) (by kernel_rfl) (by kernel_rfl) (by exact fun _ _ _ h => h) (Or.inl ⟨by rfl, ?_⟩) hOn ?_
  rotate_left
  focus (intro W hSW; go_simp; try with_reducible rfl)
  try simp only [Act.put, List.setIfInBounds_toArray, List.set_cons_zero, List.set_cons_succ]
  refine wpAnyH_done (by kernel_rfl) ?_ _
  go_wp2_with fail
  go_ret
  exact ⟨rfl, ⟨_, _, _, _, hm5.out, sy5.out, sz5.out, iy3.out, iz3.out⟩, hlow5.out⟩

set_option maxRecDepth 100000 in
set_option maxHeartbeats 4000000 in
theorem do_take (base W : Nat) (T : TypeId) (M : Nat) (TM : TypeId) (t : Nat) (y z ry rz : Way) (w : World) (ea : Nat → Addr) (x : ActV) (hm : Mid base W T M TM w y z ry rz) (sy : Sim y ry) (sz : Sim z rz) (iy : WInv t y) (iz : WInv t z) (ht : t ≤ 200) (hb : base ≤ w.heap.size)
    (hEE : ∀ w', Below base w w' → Errs 85 errGs w' ea) (hge : 12 ≤ base) (hXX : ∀ w', Below base w w' → ArgB w' x.a x.c x.bs) (hl : x.bs.length ≤ 8100) (hlow : 0 < x.bs.length → ∀ b o, x.a = some ⟨b, o, none⟩ → b < base) (hk : x.kind = 1) :
    Calls Tryd.prog 16 #[.pointer (some ⟨W, 0, none⟩), .pointer (some ⟨M, 0, none⟩), .agg x.cells] w fun e w' => e = .returned (.bool true) ∧ Way2 base W T M TM t w w' := by
  obtain ⟨kind, way, ii, at_, by_, xa, xc, bs⟩ := x
  simp only at hk hXX hl hlow
  subst hk
  simp only [ActV.cells]
  have hgB : Below w.heap.size w (w.alloc (.cells #[.int .i64 1, .int .i64 way, .int .i64 ii, .int .i64 at_, .int .u8 (by_.toNat : Int), .slice xa bs.length xc] 29)) := (Below.refl _ _).alloc (Nat.le_refl _) _
  have hbx : (w.alloc (.cells #[.int .i64 1, .int .i64 way, .int .i64 ii, .int .i64 at_, .int .u8 (by_.toNat : Int), .slice xa bs.length xc] 29)).heap[w.heap.size]? = some (.cells #[.int .i64 1, .int .i64 way, .int .i64 ii, .int .i64 at_, .int .u8 (by_.toNat : Int), .slice xa bs.length xc] 29 (0, 0)) := heap_alloc_new w _
  obtain ⟨wA, hwA⟩ : ∃ wA, wA = w.alloc (.cells #[.int .i64 1, .int .i64 way, .int .i64 ii, .int .i64 at_, .int .u8 (by_.toNat : Int), .slice xa bs.length xc] 29) := ⟨_, rfl⟩
  rw [← hwA] at hgB hbx
  have hsA := hgB.size
  have hmA := hm.below hgB
  have hbA : base ≤ wA.heap.size := by omega
  have hlowA : Below base w wA := hgB.mono hb
  have hDX : ∀ k, Wire.D W y z k → k < w.heap.size := fun k hk => (hm.wire.lt k hk).2
  have hMX : M < w.heap.size := block_lt hm.ref.at_
  have hXlt : w.heap.size < wA.heap.size := block_lt hbx
  generalize hX : w.heap.size = X at *
  have hh : ∀ W' : World, W'.heap[X]? = some (.cells #[.int .i64 1, .int .i64 way, .int .i64 ii, .int .i64 at_, .int .u8 (by_.toNat : Int), .slice xa bs.length xc] 29 (0, 0)) → W'.cell? ⟨X, 0, none⟩ = some (.int .i64 1) ∧ W'.cell? ⟨X, 1, none⟩ = some (.int .i64 way) ∧ W'.cell? ⟨X, 2, none⟩ = some (.int .i64 ii) ∧ W'.cell? ⟨X, 3, none⟩ = some (.int .i64 at_) ∧ W'.cell? ⟨X, 4, none⟩ = some (.int .u8 (by_.toNat : Int)) :=
    fun W' h => ⟨by rw [cell_of_block h]; rfl, by rw [cell_of_block h]; rfl, by rw [cell_of_block h]; rfl, by rw [cell_of_block h]; rfl, by rw [cell_of_block h]; rfl⟩
  obtain ⟨cx0, cx1, cx2, cx3, cx4⟩ := hh wA hbx
  replace hwA := Lib.hid hwA
  replace hbx := Lib.hid hbx
  replace hEE := Lib.hid hEE
  replace hDX := Lib.hid hDX
  replace hX := Lib.hid hX
  replace hgB := Lib.hid hgB
  replace hh := Lib.hid hh
  clear hm hXX hlow
  go_enter Tryd.func16, Tryd.ntmps16
  go_upto_region 1 with fail
  rw [hX.out]
  rw [← hwA.out]
  have hop := Lib.hid (take_pair (w := wA) hmA sy sz iy iz ht hbA (hEE.out _ hlowA) hge way ii)
  replace hmA := Lib.hid hmA
  replace hlowA := Lib.hid hlowA
  clear sy sz iy iz
  go_wp2_with fail
  with_reducible refine hop.out.mono ?_
  rintro e w3 ⟨r, y3, z3, a1, c1, bs1, rfl, hr, hst, iy3, iz3, ha1, hd1, href⟩
  have hbx3 := hst.only.heap hbx.out (fun hd => (by have := hDX.out X hd; omega))
  obtain ⟨cz0, cz1, cz2, cz3, cz4⟩ := hh.out w3 hbx3
  have hlow3 := Lib.hid (hlowA.out.trans (hst.below hmA.out.wire hbA))
  have hm3 := Lib.hid (hmA.out.ofWire hst)
  have hs3 := hst.only.size
  have hop2 := Lib.hid (href w3 hm3.out.ref (by omega))
  replace ha1 := Lib.hid ha1
  replace hd1 := Lib.hid hd1
  replace iy3 := Lib.hid iy3
  replace iz3 := Lib.hid iz3
  clear cx0 cx1 cx2 cx3 cx4 hop hst href cz0 cz3 cz4 hbx3 hmA hlowA
  go_wp2_with fail
  with_reducible refine hop2.out.mono ?_
  rintro e w5 ⟨a3, c3, rfl, ha3, ry5, rz5, hst5, sy5, sz5⟩
  have hlow5 := Lib.hid (hlow3.out.trans (hst5.below hm3.out.ref (by omega)))
  have hm5 := Lib.hid (hm3.out.ofRef hst5)
  have ha5 := hst5.only.argB ha1.out (fun b o e => hd1.out b o e)
  have kc1 := conv_str (P := Tryd.prog) (src := 27) (dst := 9) (c := c1) bs1 Tryd.underlying27 Tryd.underlying5 Tryd.underlying9 ha5.row
  have kc2 := conv_str (P := Tryd.prog) (src := 27) (dst := 9) (c := c3) bs1 Tryd.underlying27 Tryd.underlying5 Tryd.underlying9 ha3.row
  have hnum := Lib.hid (num_errOf ea r hr w5 (hEE.out _ hlow5.out))
  replace sy5 := Lib.hid sy5
  replace sz5 := Lib.hid sz5
  have hs5 := hst5.only.size
  clear hop2 hst5 hm3 hlow3 ha1 ha3 ha5 cz1 cz2
  generalize (⟨bs1.toArray⟩ : ByteArray) = sv at *
  go_wp2_with fail
  with_reducible refine hnum.out.mono ?_
  rintro e w6 ⟨rfl, hb6⟩
  have hm6 := Lib.hid (hm5.out.below hb6)
  have hlow6 := Lib.hid (hlow5.out.trans (hb6.mono (by omega)))
  clear hnum hb6 hm5 hlow5 kc1 kc2
  go_wp2_with fail
  go_ret
  exact ⟨rfl, ⟨_, _, _, _, hm6.out, sy5.out, sz5.out, iy3.out, iz3.out⟩, hlow6.out⟩

set_option maxRecDepth 100000 in
set_option maxHeartbeats 4000000 in
theorem do_clear (base W : Nat) (T : TypeId) (M : Nat) (TM : TypeId) (t : Nat) (y z ry rz : Way) (w : World) (ea : Nat → Addr) (x : ActV) (hm : Mid base W T M TM w y z ry rz) (sy : Sim y ry) (sz : Sim z rz) (iy : WInv t y) (iz : WInv t z) (ht : t ≤ 200) (hb : base ≤ w.heap.size)
    (hEE : ∀ w', Below base w w' → Errs 85 errGs w' ea) (hge : 12 ≤ base) (hXX : ∀ w', Below base w w' → ArgB w' x.a x.c x.bs) (hl : x.bs.length ≤ 8100) (hlow : 0 < x.bs.length → ∀ b o, x.a = some ⟨b, o, none⟩ → b < base) (hk : x.kind = 5) :
    Calls Tryd.prog 16 #[.pointer (some ⟨W, 0, none⟩), .pointer (some ⟨M, 0, none⟩), .agg x.cells] w fun e w' => e = .returned (.bool true) ∧ Way2 base W T M TM t w w' := by
  obtain ⟨kind, way, ii, at_, by_, xa, xc, bs⟩ := x
  simp only at hk hXX hl hlow
  subst hk
  simp only [ActV.cells]
  have hgB : Below w.heap.size w (w.alloc (.cells #[.int .i64 5, .int .i64 way, .int .i64 ii, .int .i64 at_, .int .u8 (by_.toNat : Int), .slice xa bs.length xc] 29)) := (Below.refl _ _).alloc (Nat.le_refl _) _
  have hbx : (w.alloc (.cells #[.int .i64 5, .int .i64 way, .int .i64 ii, .int .i64 at_, .int .u8 (by_.toNat : Int), .slice xa bs.length xc] 29)).heap[w.heap.size]? = some (.cells #[.int .i64 5, .int .i64 way, .int .i64 ii, .int .i64 at_, .int .u8 (by_.toNat : Int), .slice xa bs.length xc] 29 (0, 0)) := heap_alloc_new w _
  obtain ⟨wA, hwA⟩ : ∃ wA, wA = w.alloc (.cells #[.int .i64 5, .int .i64 way, .int .i64 ii, .int .i64 at_, .int .u8 (by_.toNat : Int), .slice xa bs.length xc] 29) := ⟨_, rfl⟩
  rw [← hwA] at hgB hbx
  have hsA := hgB.size
  have hmA := hm.below hgB
  have hbA : base ≤ wA.heap.size := by omega
  have hlowA : Below base w wA := hgB.mono hb
  have hDX : ∀ k, Wire.D W y z k → k < w.heap.size := fun k hk => (hm.wire.lt k hk).2
  have hMX : M < w.heap.size := block_lt hm.ref.at_
  have hXlt : w.heap.size < wA.heap.size := block_lt hbx
  generalize hX : w.heap.size = X at *
  have hh : ∀ W' : World, W'.heap[X]? = some (.cells #[.int .i64 5, .int .i64 way, .int .i64 ii, .int .i64 at_, .int .u8 (by_.toNat : Int), .slice xa bs.length xc] 29 (0, 0)) → W'.cell? ⟨X, 0, none⟩ = some (.int .i64 5) ∧ W'.cell? ⟨X, 1, none⟩ = some (.int .i64 way) ∧ W'.cell? ⟨X, 2, none⟩ = some (.int .i64 ii) ∧ W'.cell? ⟨X, 3, none⟩ = some (.int .i64 at_) ∧ W'.cell? ⟨X, 4, none⟩ = some (.int .u8 (by_.toNat : Int)) :=
    fun W' h => ⟨by rw [cell_of_block h]; rfl, by rw [cell_of_block h]; rfl, by rw [cell_of_block h]; rfl, by rw [cell_of_block h]; rfl, by rw [cell_of_block h]; rfl⟩
  obtain ⟨cx0, cx1, cx2, cx3, cx4⟩ := hh wA hbx
  replace hwA := Lib.hid hwA
  replace hbx := Lib.hid hbx
  replace hEE := Lib.hid hEE
  replace hDX := Lib.hid hDX
  replace hX := Lib.hid hX
  replace hgB := Lib.hid hgB
  replace hh := Lib.hid hh
  clear hm hXX hlow
  go_enter Tryd.func16, Tryd.ntmps16
  go_upto_region 1 with fail
  rw [hX.out]
  rw [← hwA.out]
  have hop := Lib.hid (clear_pair (w := wA) hmA sy sz iy iz ht hbA)
  replace hmA := Lib.hid hmA
  replace hlowA := Lib.hid hlowA
  clear sy sz iy iz
  go_wp2_with fail
  with_reducible refine hop.out.mono ?_
  rintro e w3 ⟨y3, z3, rfl, hst, iy3, iz3, href⟩
  have hlow3 := Lib.hid (hlowA.out.trans (hst.below hmA.out.wire hbA))
  have hm3 := Lib.hid (hmA.out.ofWire hst)
  have hs3 := hst.only.size
  have hop2 := Lib.hid (href w3 hm3.out.ref (by omega))
  replace iy3 := Lib.hid iy3
  replace iz3 := Lib.hid iz3
  clear cx0 cx1 cx2 cx3 cx4 hop hst href hmA hlowA
  go_wp2_with fail
  with_reducible refine hop2.out.mono ?_
  rintro e w5 ⟨rfl, ry5, rz5, hst5, sy5, sz5⟩
  have hlow5 := Lib.hid (hlow3.out.trans (hst5.below hm3.out.ref (by omega)))
  have hm5 := Lib.hid (hm3.out.ofRef hst5)
  replace sy5 := Lib.hid sy5
  replace sz5 := Lib.hid sz5
  clear hop2 hst5 hm3 hlow3
  go_wp2_with fail
  go_ret
  exact ⟨rfl, ⟨_, _, _, _, hm5.out, sy5.out, sz5.out, iy3.out, iz3.out⟩, hlow5.out⟩

set_option maxRecDepth 100000 in
set_option maxHeartbeats 4000000 in
theorem do_look (base W : Nat) (T : TypeId) (M : Nat) (TM : TypeId) (t : Nat) (y z ry rz : Way) (w : World) (ea : Nat → Addr) (x : ActV) (hm : Mid base W T M TM w y z ry rz) (sy : Sim y ry) (sz : Sim z rz) (iy : WInv t y) (iz : WInv t z) (ht : t ≤ 200) (hb : base ≤ w.heap.size)
    (hEE : ∀ w', Below base w w' → Errs 85 errGs w' ea) (hge : 12 ≤ base) (hXX : ∀ w', Below base w w' → ArgB w' x.a x.c x.bs) (hl : x.bs.length ≤ 8100) (hlow : 0 < x.bs.length → ∀ b o, x.a = some ⟨b, o, none⟩ → b < base) (h0 : x.kind ≠ 0) (h1 : x.kind ≠ 1) (h2 : x.kind ≠ 2) (h3 : x.kind ≠ 3) (h4 : x.kind ≠ 4) (h5 : x.kind ≠ 5) :
    Calls Tryd.prog 16 #[.pointer (some ⟨W, 0, none⟩), .pointer (some ⟨M, 0, none⟩), .agg x.cells] w fun e w' => e = .returned (.bool true) ∧ Way2 base W T M TM t w w' := by
  obtain ⟨kind, way, ii, at_, by_, xa, xc, bs⟩ := x
  simp only at h0 h1 h2 h3 h4 h5 hXX hl hlow
  simp only [ActV.cells]
  have hgB : Below w.heap.size w (w.alloc (.cells #[.int .i64 kind, .int .i64 way, .int .i64 ii, .int .i64 at_, .int .u8 (by_.toNat : Int), .slice xa bs.length xc] 29)) := (Below.refl _ _).alloc (Nat.le_refl _) _
  have hbx : (w.alloc (.cells #[.int .i64 kind, .int .i64 way, .int .i64 ii, .int .i64 at_, .int .u8 (by_.toNat : Int), .slice xa bs.length xc] 29)).heap[w.heap.size]? = some (.cells #[.int .i64 kind, .int .i64 way, .int .i64 ii, .int .i64 at_, .int .u8 (by_.toNat : Int), .slice xa bs.length xc] 29 (0, 0)) := heap_alloc_new w _
  obtain ⟨wA, hwA⟩ : ∃ wA, wA = w.alloc (.cells #[.int .i64 kind, .int .i64 way, .int .i64 ii, .int .i64 at_, .int .u8 (by_.toNat : Int), .slice xa bs.length xc] 29) := ⟨_, rfl⟩
  rw [← hwA] at hgB hbx
  have hsA := hgB.size
  have hmA := hm.below hgB
  have hbA : base ≤ wA.heap.size := by omega
  have hlowA : Below base w wA := hgB.mono hb
  have hDX : ∀ k, Wire.D W y z k → k < w.heap.size := fun k hk => (hm.wire.lt k hk).2
  have hMX : M < w.heap.size := block_lt hm.ref.at_
  have hXlt : w.heap.size < wA.heap.size := block_lt hbx
  generalize hX : w.heap.size = X at *
  have hh : ∀ W' : World, W'.heap[X]? = some (.cells #[.int .i64 kind, .int .i64 way, .int .i64 ii, .int .i64 at_, .int .u8 (by_.toNat : Int), .slice xa bs.length xc] 29 (0, 0)) → W'.cell? ⟨X, 0, none⟩ = some (.int .i64 kind) ∧ W'.cell? ⟨X, 1, none⟩ = some (.int .i64 way) ∧ W'.cell? ⟨X, 2, none⟩ = some (.int .i64 ii) ∧ W'.cell? ⟨X, 3, none⟩ = some (.int .i64 at_) ∧ W'.cell? ⟨X, 4, none⟩ = some (.int .u8 (by_.toNat : Int)) :=
    fun W' h => ⟨by rw [cell_of_block h]; rfl, by rw [cell_of_block h]; rfl, by rw [cell_of_block h]; rfl, by rw [cell_of_block h]; rfl, by rw [cell_of_block h]; rfl⟩
  obtain ⟨cx0, cx1, cx2, cx3, cx4⟩ := hh wA hbx
  replace hwA := Lib.hid hwA
  replace hbx := Lib.hid hbx
  replace hEE := Lib.hid hEE
  replace hDX := Lib.hid hDX
  replace hX := Lib.hid hX
  replace hgB := Lib.hid hgB
  replace hh := Lib.hid hh
  clear hm hXX hlow
  go_enter Tryd.func16, Tryd.ntmps16
  go_upto_region 1 with fail
  rw [hX.out]
  rw [← hwA.out]
  have e0 : (kind == 0) = false := by simpa using h0
  have e1 : (kind == 1) = false := by simpa using h1
  have e2 : (kind == 2) = false := by simpa using h2
  have e3 : (kind == 3) = false := by simpa using h3
  have e4 : (kind == 4) = false := by simpa using h4
  have e5 : (kind == 5) = false := by simpa using h5
  replace hmA := Lib.hid hmA
  replace hlowA := Lib.hid hlowA
  replace sy := Lib.hid sy
  replace sz := Lib.hid sz
  replace iy := Lib.hid iy
  replace iz := Lib.hid iz
  clear h0 h1 h2 h3 h4 h5
  go_wp2_with fail
  go_ret
  exact ⟨rfl, ⟨_, _, _, _, hmA.out, sy.out, sz.out, iy.out.up, iz.out.up⟩, hlowA.out⟩
/-- One act, whatever it is. -/
theorem do_any (base W : Nat) (T : TypeId) (M : Nat) (TM : TypeId) (t : Nat) (y z ry rz : Way) (w : World) (ea : Nat → Addr) (x : ActV) (hm : Mid base W T M TM w y z ry rz) (sy : Sim y ry) (sz : Sim z rz) (iy : WInv t y) (iz : WInv t z) (ht : t ≤ 200) (hb : base ≤ w.heap.size)
    (hEE : ∀ w', Below base w w' → Errs 85 errGs w' ea) (hge : 12 ≤ base) (hXX : ∀ w', Below base w w' → ArgB w' x.a x.c x.bs) (hl : x.bs.length ≤ 8100) (hlow : 0 < x.bs.length → ∀ b o, x.a = some ⟨b, o, none⟩ → b < base) :
    Calls Tryd.prog 16 #[.pointer (some ⟨W, 0, none⟩), .pointer (some ⟨M, 0, none⟩), .agg x.cells] w fun e w' => e = .returned (.bool true) ∧ Way2 base W T M TM t w w' := by
  by_cases h0 : x.kind = 0
  · exact do_send base W T M TM t y z ry rz w ea x hm sy sz iy iz ht hb hEE hge hXX hl hlow h0
  by_cases h1 : x.kind = 1
  · exact do_take base W T M TM t y z ry rz w ea x hm sy sz iy iz ht hb hEE hge hXX hl hlow h1
  by_cases h2 : x.kind = 2
  · exact do_drop base W T M TM t y z ry rz w ea x hm sy sz iy iz ht hb hEE hge hXX hl hlow h2
  by_cases h3 : x.kind = 3
  · exact do_double base W T M TM t y z ry rz w ea x hm sy sz iy iz ht hb hEE hge hXX hl hlow h3
  by_cases h4 : x.kind = 4
  · exact do_bend base W T M TM t y z ry rz w ea x hm sy sz iy iz ht hb hEE hge hXX hl hlow h4
  by_cases h5 : x.kind = 5
  · exact do_clear base W T M TM t y z ry rz w ea x hm sy sz iy iz ht hb hEE hge hXX hl hlow h5
  exact do_look base W T M TM t y z ry rz w ea x hm sy sz iy iz ht hb hEE hge hXX hl hlow h0 h1 h2 h3 h4 h5

end Go.Proofs.YtejkajlbffkdnaaDoor
