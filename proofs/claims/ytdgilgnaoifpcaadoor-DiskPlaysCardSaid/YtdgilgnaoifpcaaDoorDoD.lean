/- One act on a disk and on the reference's disk: all is the same. -/
import Derived.Test.YtdgilgnaoifpcaaDoorTwoD
import Derived.Test.YtdgilgnaoifpcaaDoorOnL
import Derived.Test.YtdgilgnaoifpcaaDoorOnL
namespace Go.Proofs.YtdgilgnaoifpcaaDoor
open Go.RowKit

theorem argB_fromAt {w : World} {g : Nat} {bs : List UInt8} (h : At w (some ⟨g, 0, none⟩) (cB (bs ++ marksB))) (hl : bs.length ≤ 1000000) : ArgB w (some ⟨g, 0, none⟩) (bs.length + 6) bs :=
  ⟨by omega, by unfold maxLen; omega, (fun e => by cases e), marks_row h⟩
theorem at_only18 {w w' : World} {D : Nat → Prop} {g : Nat} {ys : List Value} (h : At w (some ⟨g, 0, none⟩) ys) (hO : Only D w w') (hd : ¬ D g) : At w' (some ⟨g, 0, none⟩) ys := fun i hi => by
  obtain ⟨b, o, e, hc⟩ := h i hi
  cases e
  have hlt : g < w.heap.size := by
    rw [List.getElem?_eq_getElem hi] at hc
    exact World.block_lt_of_cell? w _ hc
  exact ⟨_, _, rfl, (World.cell?_of_block (w := w) (w' := w') (a := ⟨g, 0 + i, none⟩) (hO.block g hlt hd)).trans hc⟩
theorem Only.addB {D : Nat → Prop} {a b c : World} (h : Only D a b) (hb : Below b.heap.size b c) : Only D a c := h.trans (Only.ofBelow (D := D) hb) (fun _ _ h => h)
theorem Only.addO {D E : Nat → Prop} {a b c : World} (h : Only D a b) (h' : Only E b c) (hE : ∀ k, E k → D k) : Only D a c := h.trans h' (fun k _ hk => hE k hk)
theorem ref_write18 {base Z B mb mn R n : Nat} {v : Value} {W : World} {p p' : DP} {S : Nat → Prop} (hT : Two base W B mb mn v p' R n p S) (hb : base ≤ W.heap.size) (hpn : p.n = n) (hws : p.ws.length ≤ 150) (i : Int) (a : Option Addr) (c : Nat) (bs : List UInt8) (ho : OwnB Z W (.slice a bs.length c) bs) (hR : R < Z) (r : Nat) (hr : (p.write i bs).2 = r) :
    Calls Tryd.prog 27 #[.pointer (some ⟨R, 0, none⟩), .int .i64 i, .slice a bs.length c] W fun x w' => x = .returned (.int .i64 (numD r)) ∧ RStep base W w' R n (p.write i bs).1 S := by
  obtain ⟨a', c', e, ha, hal⟩ := ho.arg
  cases e
  rw [← hr]
  exact rwrite_any hT.r hb hpn (by omega) i a c bs ha (fun _ b o s e => ⟨(hal b o s e).2, fun e2 => by have := (hal b o s e).1; omega⟩)
theorem kept18 {Z g : Nat} {W : World} {a : Option Addr} {c : Nat} {bs : List UInt8} (hl : bs.length ≤ 1000000) (hg : At W (some ⟨g, 0, none⟩) (cB (bs ++ marksB))) (ho : OwnB Z W (.slice a bs.length c) bs) :
    Calls Tryd.prog 28 #[.slice (some ⟨g, 0, none⟩) bs.length (bs.length + 6), .slice a bs.length c] W fun e w' => e = .returned (.bool true) ∧ Drawn W w' := by
  obtain ⟨a', c', e, ha, hal⟩ := ho.arg
  cases e
  exact kept_any g a c bs W hl hg ha
theorem own_only18 {base : Nat} {w w' : World} {D : Nat → Prop} {v : Value} {bs : List UInt8} (h : OwnB base w v bs) (hO : Only D w w') (hd : ∀ k, v.ownBlock = some k → ¬ D k) : OwnB base w' v bs := hO.owns h hd

set_option maxRecDepth 100000 in
set_option maxHeartbeats 4000000 in
theorem do18_write (base B mb R n t : Nat) (w : World) (p : DP) (mn : Nat) (v : Value) (S : Nat → Prop) (hT : Two base w B mb mn v p R n p S) (hpn : p.n = n) (hbn : mn ≤ 200 * t ∧ p.ws.length ≤ t ∧ -(t : Int) ≤ p.l ∧ p.l ≤ 9223372036854775807) (ht : t ≤ 150) (hn : n ≤ 40) (hb : base ≤ w.heap.size) (ea : Nat → Addr) (hEE : ∀ w', Below base w w' → Errs 96 errGs w' ea) (hge : 2 < base) (x : ActD) (hwf : x.Wf) (hl : x.long ≤ 200) (hk : x.kind = 0) :
    Calls Tryd.prog 15 #[.pointer (some ⟨B, 0, none⟩), .pointer (some ⟨R, 0, none⟩), .agg x.cells] w fun e w' => e = .returned (.bool true) ∧ Inv18 base w' B mb R n (t + 1) ∧ Only (fun k => DiskD B mb v k ∨ S k) w w' := by
  obtain ⟨kind, at_, nn, kept, torn, scat, long⟩ := x
  simp only at hk hl
  subst hk
  simp only [ActD.cells]
  have hgB : Below w.heap.size w (w.alloc (.cells #[.int .i64 0, .int .i64 at_, .int .i64 nn, .int .i64 kept, .int .i64 torn, .int .u64 (scat : Int), .int .i64 long] 35)) := (Below.refl _ _).alloc (Nat.le_refl _) _
  have hbx : (w.alloc (.cells #[.int .i64 0, .int .i64 at_, .int .i64 nn, .int .i64 kept, .int .i64 torn, .int .u64 (scat : Int), .int .i64 long] 35)).heap[w.heap.size]? = some (.cells #[.int .i64 0, .int .i64 at_, .int .i64 nn, .int .i64 kept, .int .i64 torn, .int .u64 (scat : Int), .int .i64 long] 35 (0, 0)) := heap_alloc_new w _
  obtain ⟨wA, hwA⟩ : ∃ wA, wA = w.alloc (.cells #[.int .i64 0, .int .i64 at_, .int .i64 nn, .int .i64 kept, .int .i64 torn, .int .u64 (scat : Int), .int .i64 long] 35) := ⟨_, rfl⟩
  rw [← hwA] at hgB hbx
  have hbw : mn ≤ 30000 ∧ p.ws.length ≤ 150 := by omega
  have hpn2 : p.n ≤ 2048 := by omega
  have hbl3 : -1000000 ≤ p.l ∧ p.l ≤ 9223372036854775807 := by omega
  have hsA := hgB.size
  have hbA : base ≤ wA.heap.size := by omega
  have hlowA : Below base w wA := hgB.mono hb
  have honA : Only (fun k => DiskD B mb v k ∨ S k) w wA := Only.ofBelow hgB
  have hBl : B < w.heap.size := (hT.lt.1 B (.inl rfl)).2
  have hDX : ∀ k, (DiskD B mb v k ∨ S k) → k < w.heap.size := fun k hk => hk.elim (fun h => (hT.lt.1 k h).2) (fun h => (hT.lt.2 k h).2)
  have hBE : 2 ≠ B := by have := (hT.lt.1 B (.inl rfl)).1; omega
  have hXlt : w.heap.size < wA.heap.size := block_lt hbx
  have hTA := hT.below hgB
  have hRl : R < w.heap.size := (hT.lt.2 R (by obtain ⟨_, _, _, _, _, h5, _⟩ := hT.r; exact h5.1)).2
  have hRZ : R < wA.heap.size := by omega
  have hw0 := hwf.at_
  have hw1 := hwf.n
  have hw2 := hwf.kept
  have hw3 := hwf.torn
  have hw4 := hwf.scat
  simp only at hw0 hw1 hw2 hw3 hw4
  have hh : ∀ W' : World, W'.heap[w.heap.size]? = some (.cells #[.int .i64 0, .int .i64 at_, .int .i64 nn, .int .i64 kept, .int .i64 torn, .int .u64 (scat : Int), .int .i64 long] 35 (0, 0)) → W'.cell? ⟨w.heap.size, 0, none⟩ = some (.int .i64 0) ∧ W'.cell? ⟨w.heap.size, 1, none⟩ = some (.int .i64 at_) ∧ W'.cell? ⟨w.heap.size, 2, none⟩ = some (.int .i64 nn) ∧ W'.cell? ⟨w.heap.size, 3, none⟩ = some (.int .i64 kept) ∧ W'.cell? ⟨w.heap.size, 4, none⟩ = some (.int .i64 torn) ∧ W'.cell? ⟨w.heap.size, 5, none⟩ = some (.int .u64 (scat : Int)) ∧ W'.cell? ⟨w.heap.size, 6, none⟩ = some (.int .i64 long) :=
    fun W' h => ⟨by rw [cell_of_block h]; rfl, by rw [cell_of_block h]; rfl, by rw [cell_of_block h]; rfl, by rw [cell_of_block h]; rfl, by rw [cell_of_block h]; rfl, by rw [cell_of_block h]; rfl, by rw [cell_of_block h]; rfl⟩
  obtain ⟨cx0, cx1, cx2, cx3, cx4, cx5, cx6⟩ := hh wA hbx
  replace hw0 := Lib.hid hw0
  replace hw1 := Lib.hid hw1
  replace hw2 := Lib.hid hw2
  replace hw3 := Lib.hid hw3
  replace hw4 := Lib.hid hw4
  replace hwA := Lib.hid hwA
  replace hbx := Lib.hid hbx
  replace hEE := Lib.hid hEE
  replace hDX := Lib.hid hDX
  replace hgB := Lib.hid hgB
  replace hTA := Lib.hid hTA
  replace hlowA := Lib.hid hlowA
  replace honA := Lib.hid honA
  replace hh := Lib.hid hh
  replace hbn := Lib.hid hbn
  replace hpn := Lib.hid hpn
  clear hT hwf
  generalize hX : w.heap.size = X at *
  replace hX := Lib.hid hX
  have hfil := Lib.hid (filled_all nn long (by omega) wA)
  go_enter Tryd.func15, Tryd.ntmps15
  go_upto_region 1 with fail
  rw [hX.out]
  rw [← hwA.out]
  go_wp2_with fail
  with_reducible refine hfil.out.mono ?_
  rintro e w1 ⟨vf, bs, rfl, hof, hbl, hb1⟩
  clear hfil
  have hs1 := hb1.size
  have hbx1 := Lib.hid ((hb1.block X hXlt).trans hbx.out)
  have hfl1 := Lib.hid (show ∀ k, vf.ownBlock = some k → wA.heap.size ≤ k ∧ k < w1.heap.size from fun k hk => World.ownsRow.lt hof k hk)
  have hform : ∃ a c, vf = .slice a bs.length c := by obtain ⟨a, c, e, _⟩ := hof.arg; exact ⟨a, c, e⟩
  obtain ⟨af, cf_, rfl⟩ := hform
  have harg1 : ArgB w1 af cf_ bs := by obtain ⟨a, c, e, h, _⟩ := hof.arg; cases e; exact h
  have hby := Lib.hid (bytes_any af cf_ bs w1 harg1 (by omega))
  have hT1 := Lib.hid (hTA.out.below hb1)
  have hlow1 := Lib.hid (hlowA.out.trans (hb1.mono hbA))
  have hon1 := Lib.hid (honA.out.addB hb1)
  replace hof := Lib.hid hof
  clear harg1 hb1 cx0 cx1 cx2 cx3 cx4 cx5 cx6
  go_wp2_with fail
  with_reducible refine hby.out.mono ?_
  rintro e w2 ⟨gi, hgi, rfl, hgi2, hin, hb2⟩
  clear hby
  have hs2 := hb2.size
  have hbx2 : w2.heap[X]? = some (.cells #[.int .i64 0, .int .i64 at_, .int .i64 nn, .int .i64 kept, .int .i64 torn, .int .u64 (scat : Int), .int .i64 long] 35 (0, 0)) := (hb2.block X (by omega)).trans hbx1.out
  have hT2 := hT1.out.below hb2
  have hof2 : OwnB wA.heap.size w2.drew (.slice af bs.length cf_) bs := hof.out.below hb2.drew (Nat.le_refl _)
  have hlow2 : Below base w w2.drew := (hlow1.out.trans (hb2.mono (by omega))).drew
  have hon2 : Hid (Only (fun k => DiskD B mb v k ∨ S k) w w2.drew) := Lib.hid (hon1.out.addB hb2.drew)
  have hTd : Two base w2.drew B mb mn v p R n p S := hT2.below (Drawn.below ⟨1, rfl⟩ _)
  have hind : At w2.drew (some ⟨gi, 0, none⟩) (cB (bs ++ marksB)) := hin
  have hargi : ArgB w2.drew (some ⟨gi, 0, none⟩) (bs.length + 6) bs := argB_fromAt hind (by omega)
  have hsd : wA.heap.size ≤ w2.drew.heap.size := (by show _ ≤ w2.heap.size; omega)
  have hgid : gi < w2.drew.heap.size := hgi2
  have hwr := Lib.hid (dwrite_any hTd.d (by omega) (by omega) hbl3 (e18 ea) (dErr_of (hEE.out _ hlow2)) hBE at_ (some ⟨gi, 0, none⟩) (bs.length + 6) bs hargi (fun b o s e hd => by cases e; have := hDX.out gi (.inl hd); omega))
  have hS0 : Hid (w2.drew.heap[X]? = some (.cells #[.int .i64 0, .int .i64 at_, .int .i64 nn, .int .i64 kept, .int .i64 torn, .int .u64 (scat : Int), .int .i64 long] 35 (0, 0))) := Lib.hid hbx2
  obtain ⟨r, hr⟩ : ∃ r, (p.write at_ bs).2 = r := ⟨_, rfl⟩
  have hr3 : r ≤ 3 := hr ▸ write_le p at_ bs
  have hinv := Lib.hid (write_inv (mn := mn) (t := t) at_ bs hbn.out)
  rw [hr] at hwr
  replace hr := Lib.hid hr
  replace hTd := Lib.hid hTd
  replace hind := Lib.hid hind
  replace hof2 := Lib.hid hof2
  replace hlow2 := Lib.hid hlow2
  clear hin hT2 hb2 hargi hbx2
  have k1 := fun (W' : World) h => (hh.out W' h).2.1
  go_wp2_with fail
  refine wp_region_held_drew (S := (fun W' : World => W'.heap[X]? = some (.cells #[.int .i64 0, .int .i64 at_, .int .i64 nn, .int .i64 kept, .int .i64 torn, .int .u64 (scat : Int), .int .i64 long] 35 (0, 0)))) (by kernel_rfl) hS0.out (fun hOn => ?_)
  generalize World.drew w2 = wd at *
  refine wpAnyH_take (i := 0) (v := ?_) (by simp only [List.getElem?_toArray, List.getElem?_cons_zero]; rfl) (by kernel_rfl) (by kernel_rfl) (by kernel_rfl) (by exact fun _ _ _ h => h) (Or.inl ⟨by rfl, ?_⟩) hOn ?_
  rotate_left
  focus (intro W hSW; go_simp; try with_reducible rfl)
  try simp only [Act.put, List.setIfInBounds_toArray, List.set_cons_zero, List.set_cons_succ]
  refine wpAnyH_take (i := 1) (v := ?_) (by simp only [List.getElem?_toArray, List.getElem?_cons_succ, List.getElem?_cons_zero]; rfl) (by kernel_rfl) (by kernel_rfl) (by kernel_rfl) (by exact fun _ _ _ h => h) (Or.inl ⟨by rfl, ?_⟩) hOn ?_
  rotate_left
  focus (intro W hSW; go_simp; try with_reducible rfl)
  try simp only [Act.put, List.setIfInBounds_toArray, List.set_cons_zero, List.set_cons_succ]
  refine wpAnyH_take (i := 2) (v := ?_) (by simp only [List.getElem?_toArray, List.getElem?_cons_succ, List.getElem?_cons_zero]; rfl) (by kernel_rfl) (by kernel_rfl) (by kernel_rfl) (by exact fun _ _ _ h => h) (Or.inl ⟨by rfl, ?_⟩) hOn ?_
  rotate_left
  focus (intro W hSW; go_simp; try with_reducible rfl)
  try simp only [Act.put, List.setIfInBounds_toArray, List.set_cons_zero, List.set_cons_succ]
  refine wpAnyH_take (i := 3) (v := ?_) (by simp only [List.getElem?_toArray, List.getElem?_cons_succ, List.getElem?_cons_zero]; rfl) (by kernel_rfl) (by kernel_rfl) (by kernel_rfl) (by exact fun _ _ _ h => h) (Or.inl ⟨by rfl, ?_⟩) hOn ?_
  rotate_left
  focus (intro W hSW; go_simp; try with_reducible rfl)
  try simp only [Act.put, List.setIfInBounds_toArray, List.set_cons_zero, List.set_cons_succ]
  refine wpAnyH_take (i := 6) (v := ?_) (by simp only [List.getElem?_toArray, List.getElem?_cons_succ, List.getElem?_cons_zero]; rfl) (by kernel_rfl) (by kernel_rfl) (by kernel_rfl) (by exact fun _ _ _ h => h) (Or.inl ⟨by rfl, ?_⟩) hOn ?_
  rotate_left
  focus (intro W hSW; go_simp; try with_reducible rfl)
  try simp only [Act.put, List.setIfInBounds_toArray, List.set_cons_zero, List.set_cons_succ]
  refine wpAnyH_take (i := 7) (v := ?_) (by simp only [List.getElem?_toArray, List.getElem?_cons_succ, List.getElem?_cons_zero]; rfl) (by kernel_rfl) (by kernel_rfl) (by kernel_rfl) (by exact fun _ _ _ h => h) (Or.inl ⟨by rfl, ?_⟩) hOn ?_
  rotate_left
  focus (intro W hSW; go_simp; try with_reducible rfl)
  try simp only [Act.put, List.setIfInBounds_toArray, List.set_cons_zero, List.set_cons_succ]
  refine wpAnyH_take (i := 8) (v := ?_) (by simp only [List.getElem?_toArray, List.getElem?_cons_succ, List.getElem?_cons_zero]; rfl) (by kernel_rfl) (by kernel_rfl) (by kernel_rfl) (by exact fun _ _ _ h => h) (Or.inl ⟨by rfl, ?_⟩) hOn ?_
  rotate_left
  focus (intro W hSW; go_simp; try with_reducible rfl)
  try simp only [Act.put, List.setIfInBounds_toArray, List.set_cons_zero, List.set_cons_succ]
  refine wpAnyH_take (i := 9) (v := ?_) (by simp only [List.getElem?_toArray, List.getElem?_cons_succ, List.getElem?_cons_zero]; rfl) (by kernel_rfl) (by kernel_rfl) (by kernel_rfl) (by exact fun _ _ _ h => h) (Or.inl ⟨by rfl, ?_⟩) hOn ?_
  rotate_left
  focus (intro W hSW; go_simp; try with_reducible rfl)
  try simp only [Act.put, List.setIfInBounds_toArray, List.set_cons_zero, List.set_cons_succ]
  refine wpAnyH_ready (rs := [4]) (by kernel_rfl) (by simp) ?_
  refine AllReadyH.cons (by simp only [List.getElem?_toArray, List.getElem?_cons_succ, List.getElem?_cons_zero]; rfl) (fun Kz hKz => ?_) AllReadyH.nil
  go_simp
  (with_reducible refine hwr.out.mono ?_)
  rintro e w3 ⟨rfl, v3, hst⟩
  have hS : w3.heap[X]? = _ := hst.only.heap hOn (fun hd => (by have := hDX.out X (.inl hd); omega))
  have hT3 := Lib.hid (hTd.out.disk hst)
  have hlow3 := Lib.hid (hlow2.out.trans (hTd.out.dBelow (by omega) hst))
  have hon3 := Lib.hid (hon2.out.addO hst.only (fun k h => .inl h))
  have hin3 := Lib.hid (at_only18 hind.out hst.only (fun hd => (by have := hDX.out gi (.inl hd); omega)))
  have hof3 := Lib.hid (own_only18 hof2.out hst.only (fun k hk hd => (by have := hDX.out k (.inl hd); have := (hfl1.out k hk).1; omega)))
  have hs3 := hst.only.size
  clear hst hwr
  focus (go_wp2_with fail)
  refine hKz.out _ _ (by first | exact hS | exact Below.trans hOn (Below.mono hnew (Below.size hOn))) (fun hNext => ?_)
  clear hKz Kz hOn
  have hOn := hNext
  clear hNext
  try clear hnew
  try clear hS
  try simp only [Act.put, List.setIfInBounds_toArray, List.set_cons_zero, List.set_cons_succ]
  refine wpAnyH_ready (rs := [5]) (by kernel_rfl) (by simp) ?_
  refine AllReadyH.cons (by simp only [List.getElem?_toArray, List.getElem?_cons_succ, List.getElem?_cons_zero]; rfl) (fun Kz hKz => ?_) AllReadyH.nil
  go_simp
  (with_reducible refine (num_eD ea r hr3 _ (hEE.out _ hlow3.out)).mono ?_)
  rintro e w4 ⟨rfl, hb4⟩
  have hS : w4.heap[X]? = _ := (hb4.block X (by omega)).trans hOn
  have hlow4 := Lib.hid (hlow3.out.trans (hb4.mono (by omega)))
  have hon4 := Lib.hid (hon3.out.addB hb4)
  have hT4 := Lib.hid (hT3.out.below hb4)
  have hin4 := Lib.hid (At.below hin3.out hb4)
  have hof4 := Lib.hid (hof3.out.below hb4 (Nat.le_refl _))
  have hs4 := hb4.size
  clear hb4 hT3 hlow3 hin3 hof3
  focus (go_wp2_with fail)
  refine hKz.out _ _ (by first | exact hS | exact Below.trans hOn (Below.mono hnew (Below.size hOn))) (fun hNext => ?_)
  clear hKz Kz hOn
  have hOn := hNext
  clear hNext
  try clear hnew
  try clear hS
  try simp only [Act.put, List.setIfInBounds_toArray, List.set_cons_zero, List.set_cons_succ]
  refine wpAnyH_ready (rs := [10]) (by kernel_rfl) (by simp) ?_
  refine AllReadyH.cons (by simp only [List.getElem?_toArray, List.getElem?_cons_succ, List.getElem?_cons_zero]; rfl) (fun Kz hKz => ?_) AllReadyH.nil
  go_simp
  (with_reducible refine (ref_write18 hT4.out (by omega) hpn.out (by omega) at_ af cf_ bs hof4.out hRZ r hr.out).mono ?_)
  rintro e w5 ⟨rfl, hst5⟩
  have hS : w5.heap[X]? = _ := hst5.2.heap hOn (fun hd => (by have := hDX.out X (.inr hd); omega))
  have hT5 := Lib.hid (hT4.out.ref hst5)
  have hlow5 := Lib.hid (hlow4.out.trans (hT4.out.rBelow (by omega) hst5))
  have hon5 := Lib.hid (hon4.out.addO hst5.2 (fun k h => .inr h))
  have hin5 := Lib.hid (at_only18 hin4.out hst5.2 (fun hd => (by have := hDX.out gi (.inr hd); omega)))
  have hof5 := Lib.hid (own_only18 hof4.out hst5.2 (fun k hk hd => (by have := hDX.out k (.inr hd); have := (hfl1.out k hk).1; omega)))
  have hs5 := hst5.2.size
  clear hst5 hT4 hlow4 hin4 hof4
  focus (go_wp2_with fail)
  refine hKz.out _ _ (by first | exact hS | exact Below.trans hOn (Below.mono hnew (Below.size hOn))) (fun hNext => ?_)
  clear hKz Kz hOn
  have hOn := hNext
  clear hNext
  try clear hnew
  try clear hS
  try simp only [Act.put, List.setIfInBounds_toArray, List.set_cons_zero, List.set_cons_succ]
  refine wpAnyH_take (i := 11) (v := ?_) (by simp only [List.getElem?_toArray, List.getElem?_cons_succ, List.getElem?_cons_zero]; rfl) (by kernel_rfl) (by kernel_rfl) (by kernel_rfl) (by exact fun _ _ _ h => h) (Or.inl ⟨by rfl, ?_⟩) hOn ?_
  rotate_left
  focus (intro W hSW; go_simp; try with_reducible rfl)
  try simp only [Act.put, List.setIfInBounds_toArray, List.set_cons_zero, List.set_cons_succ]
  refine wpAnyH_take (i := 12) (v := ?_) (by simp only [List.getElem?_toArray, List.getElem?_cons_succ, List.getElem?_cons_zero]; rfl) (by kernel_rfl) (by kernel_rfl) (by kernel_rfl) (by exact fun _ _ _ h => h) (Or.inl ⟨by rfl, ?_⟩) hOn ?_
  rotate_left
  focus (intro W hSW; go_simp; try with_reducible rfl)
  try simp only [Act.put, List.setIfInBounds_toArray, List.set_cons_zero, List.set_cons_succ]
  refine wpAnyH_take (i := 13) (v := ?_) (by simp only [List.getElem?_toArray, List.getElem?_cons_succ, List.getElem?_cons_zero]; rfl) (by kernel_rfl) (by kernel_rfl) (by kernel_rfl) (by exact fun _ _ _ h => h) (Or.inl ⟨by rfl, ?_⟩) hOn ?_
  rotate_left
  focus (intro W hSW; go_simp; try with_reducible rfl)
  try simp only [Act.put, List.setIfInBounds_toArray, List.set_cons_zero, List.set_cons_succ]
  refine wpAnyH_take (i := 14) (v := ?_) (by simp only [List.getElem?_toArray, List.getElem?_cons_succ, List.getElem?_cons_zero]; rfl) (by kernel_rfl) (by kernel_rfl) (by kernel_rfl) (by exact fun _ _ _ h => h) (Or.inl ⟨by rfl, ?_⟩) hOn ?_
  rotate_left
  focus (intro W hSW; go_simp; try with_reducible rfl)
  try simp only [Act.put, List.setIfInBounds_toArray, List.set_cons_zero, List.set_cons_succ]
  refine wpAnyH_ready (rs := [15]) (by kernel_rfl) (by simp) ?_
  refine AllReadyH.cons (by simp only [List.getElem?_toArray, List.getElem?_cons_succ, List.getElem?_cons_zero]; rfl) (fun Kz hKz => ?_) AllReadyH.nil
  go_simp
  (with_reducible refine (kept18 (by omega) hin5.out hof5.out).mono ?_)
  rintro e w6 ⟨rfl, hd6⟩
  have hS : w6.heap[X]? = _ := (congrArg (·[X]?) hd6.heap).trans hOn
  have hlow6 := Lib.hid (hlow5.out.trans (hd6.below _))
  have hon6 := Lib.hid (hon5.out.addB (hd6.below _))
  have hT6 := Lib.hid (hT5.out.below (hd6.below _))
  clear hd6 hT5 hlow5 hin5
  focus (go_wp2_with fail)
  refine hKz.out _ _ (by first | exact hS | exact Below.trans hOn (Below.mono hnew (Below.size hOn))) (fun hNext => ?_)
  clear hKz Kz hOn
  have hOn := hNext
  clear hNext
  try clear hnew
  try clear hS
  try simp only [Act.put, List.setIfInBounds_toArray, List.set_cons_zero, List.set_cons_succ]
  refine wpAnyH_take (i := 16) (v := ?_) (by simp only [List.getElem?_toArray, List.getElem?_cons_succ, List.getElem?_cons_zero]; rfl) (by kernel_rfl) (by kernel_rfl) (by kernel_rfl) (by exact fun _ _ _ h => h) (Or.inl ⟨by rfl, ?_⟩) hOn ?_
  rotate_left
  focus (intro W hSW; go_simp; try with_reducible rfl)
  try simp only [Act.put, List.setIfInBounds_toArray, List.set_cons_zero, List.set_cons_succ]
  refine wpAnyH_take (i := 17) (v := ?_) (by simp only [List.getElem?_toArray, List.getElem?_cons_succ, List.getElem?_cons_zero]; rfl) (by kernel_rfl) (by kernel_rfl) (by kernel_rfl) (by exact fun _ _ _ h => h) (Or.inl ⟨by rfl, ?_⟩) hOn ?_
  rotate_left
  focus (intro W hSW; go_simp; try with_reducible rfl)
  try simp only [Act.put, List.setIfInBounds_toArray, List.set_cons_zero, List.set_cons_succ]
  refine wpAnyH_done (by kernel_rfl) ?_ _
  all_goals
    go_wp2_with fail
    go_ret
    exact ⟨rfl, ⟨_, _, _, _, hT6.out, hinv.out.1.trans hpn.out, hinv.out.2⟩, hon6.out⟩

set_option maxRecDepth 100000 in
set_option maxHeartbeats 4000000 in
theorem do18_sync (base B mb R n t : Nat) (w : World) (p : DP) (mn : Nat) (v : Value) (S : Nat → Prop) (hT : Two base w B mb mn v p R n p S) (hpn : p.n = n) (hbn : mn ≤ 200 * t ∧ p.ws.length ≤ t ∧ -(t : Int) ≤ p.l ∧ p.l ≤ 9223372036854775807) (ht : t ≤ 150) (hn : n ≤ 40) (hb : base ≤ w.heap.size) (ea : Nat → Addr) (hEE : ∀ w', Below base w w' → Errs 96 errGs w' ea) (hge : 2 < base) (x : ActD) (hwf : x.Wf) (hl : x.long ≤ 200) (hk : x.kind = 1) :
    Calls Tryd.prog 15 #[.pointer (some ⟨B, 0, none⟩), .pointer (some ⟨R, 0, none⟩), .agg x.cells] w fun e w' => e = .returned (.bool true) ∧ Inv18 base w' B mb R n (t + 1) ∧ Only (fun k => DiskD B mb v k ∨ S k) w w' := by
  obtain ⟨kind, at_, nn, kept, torn, scat, long⟩ := x
  simp only at hk hl
  subst hk
  simp only [ActD.cells]
  have hgB : Below w.heap.size w (w.alloc (.cells #[.int .i64 1, .int .i64 at_, .int .i64 nn, .int .i64 kept, .int .i64 torn, .int .u64 (scat : Int), .int .i64 long] 35)) := (Below.refl _ _).alloc (Nat.le_refl _) _
  have hbx : (w.alloc (.cells #[.int .i64 1, .int .i64 at_, .int .i64 nn, .int .i64 kept, .int .i64 torn, .int .u64 (scat : Int), .int .i64 long] 35)).heap[w.heap.size]? = some (.cells #[.int .i64 1, .int .i64 at_, .int .i64 nn, .int .i64 kept, .int .i64 torn, .int .u64 (scat : Int), .int .i64 long] 35 (0, 0)) := heap_alloc_new w _
  obtain ⟨wA, hwA⟩ : ∃ wA, wA = w.alloc (.cells #[.int .i64 1, .int .i64 at_, .int .i64 nn, .int .i64 kept, .int .i64 torn, .int .u64 (scat : Int), .int .i64 long] 35) := ⟨_, rfl⟩
  rw [← hwA] at hgB hbx
  have hbw : mn ≤ 30000 ∧ p.ws.length ≤ 150 := by omega
  have hpn2 : p.n ≤ 2048 := by omega
  have hbl3 : -1000000 ≤ p.l ∧ p.l ≤ 9223372036854775807 := by omega
  have hsA := hgB.size
  have hbA : base ≤ wA.heap.size := by omega
  have hlowA : Below base w wA := hgB.mono hb
  have honA : Only (fun k => DiskD B mb v k ∨ S k) w wA := Only.ofBelow hgB
  have hBl : B < w.heap.size := (hT.lt.1 B (.inl rfl)).2
  have hDX : ∀ k, (DiskD B mb v k ∨ S k) → k < w.heap.size := fun k hk => hk.elim (fun h => (hT.lt.1 k h).2) (fun h => (hT.lt.2 k h).2)
  have hBE : 2 ≠ B := by have := (hT.lt.1 B (.inl rfl)).1; omega
  have hXlt : w.heap.size < wA.heap.size := block_lt hbx
  have hTA := hT.below hgB
  have hRl : R < w.heap.size := (hT.lt.2 R (by obtain ⟨_, _, _, _, _, h5, _⟩ := hT.r; exact h5.1)).2
  have hRZ : R < wA.heap.size := by omega
  have hw0 := hwf.at_
  have hw1 := hwf.n
  have hw2 := hwf.kept
  have hw3 := hwf.torn
  have hw4 := hwf.scat
  simp only at hw0 hw1 hw2 hw3 hw4
  have hh : ∀ W' : World, W'.heap[w.heap.size]? = some (.cells #[.int .i64 1, .int .i64 at_, .int .i64 nn, .int .i64 kept, .int .i64 torn, .int .u64 (scat : Int), .int .i64 long] 35 (0, 0)) → W'.cell? ⟨w.heap.size, 0, none⟩ = some (.int .i64 1) ∧ W'.cell? ⟨w.heap.size, 1, none⟩ = some (.int .i64 at_) ∧ W'.cell? ⟨w.heap.size, 2, none⟩ = some (.int .i64 nn) ∧ W'.cell? ⟨w.heap.size, 3, none⟩ = some (.int .i64 kept) ∧ W'.cell? ⟨w.heap.size, 4, none⟩ = some (.int .i64 torn) ∧ W'.cell? ⟨w.heap.size, 5, none⟩ = some (.int .u64 (scat : Int)) ∧ W'.cell? ⟨w.heap.size, 6, none⟩ = some (.int .i64 long) :=
    fun W' h => ⟨by rw [cell_of_block h]; rfl, by rw [cell_of_block h]; rfl, by rw [cell_of_block h]; rfl, by rw [cell_of_block h]; rfl, by rw [cell_of_block h]; rfl, by rw [cell_of_block h]; rfl, by rw [cell_of_block h]; rfl⟩
  obtain ⟨cx0, cx1, cx2, cx3, cx4, cx5, cx6⟩ := hh wA hbx
  replace hw0 := Lib.hid hw0
  replace hw1 := Lib.hid hw1
  replace hw2 := Lib.hid hw2
  replace hw3 := Lib.hid hw3
  replace hw4 := Lib.hid hw4
  replace hwA := Lib.hid hwA
  replace hbx := Lib.hid hbx
  replace hEE := Lib.hid hEE
  replace hDX := Lib.hid hDX
  replace hgB := Lib.hid hgB
  replace hTA := Lib.hid hTA
  replace hlowA := Lib.hid hlowA
  replace honA := Lib.hid honA
  replace hh := Lib.hid hh
  replace hbn := Lib.hid hbn
  replace hpn := Lib.hid hpn
  clear hT hwf
  generalize hX : w.heap.size = X at *
  replace hX := Lib.hid hX
  have hsy := Lib.hid (dsync_any hTA.out.d (by omega) (by omega) (by omega) hbl3 (e18 ea) (dErr_of (hEE.out _ hlowA.out)) hBE)
  obtain ⟨r, hr⟩ : ∃ r, p.sync.2 = r := ⟨_, rfl⟩
  have hr3 : r ≤ 3 := hr ▸ sync_le p
  have hinv := Lib.hid (fun mn' (hm : mn' ≤ mn + p.ws.length) => sync_inv (mn := mn) (t := t) hbn.out (by omega) hm)
  have hrsy := Lib.hid (fun (W : World) v3 mn3 (hT : Two base W B mb mn3 v3 p.sync.1 R n p S) (hbW : base ≤ W.heap.size) => rsync_any hT.r hbW (by omega) (by omega))
  rw [hr] at hsy hrsy
  replace hr := Lib.hid hr
  go_enter Tryd.func15, Tryd.ntmps15
  go_upto_region 1 with fail
  rw [hX.out]
  rw [← hwA.out]
  go_wp2_with fail
  with_reducible refine hsy.out.mono ?_
  rintro e w3 ⟨rfl, v3, mn3, hm3, hst⟩
  clear cx0 cx1 cx2 cx3 cx4 cx5 cx6
  have hT3 := Lib.hid (hTA.out.disk hst)
  have hlow3 := Lib.hid (hlowA.out.trans (hTA.out.dBelow (by omega) hst))
  have hon3 := Lib.hid (honA.out.addO hst.only (fun k h => .inl h))
  have hs3 := hst.only.size
  clear hst hsy
  go_wp2_with fail
  with_reducible refine (num_eD ea r hr3 _ (hEE.out _ hlow3.out)).mono ?_
  rintro e w4 ⟨rfl, hb4⟩
  have hs4 := hb4.size
  have hlow4 := Lib.hid (hlow3.out.trans (hb4.mono (by omega)))
  have hon4 := Lib.hid (hon3.out.addB hb4)
  have hT4 := Lib.hid (hT3.out.below hb4)
  clear hb4 hT3 hlow3
  go_wp2_with fail
  with_reducible refine (hrsy.out _ _ _ hT4.out (by omega)).mono ?_
  rintro e w5 ⟨rfl, hst5⟩
  have hT5 := Lib.hid (hT4.out.ref hst5)
  have hon5 := Lib.hid (hon4.out.addO hst5.2 (fun k h => .inr h))
  clear hst5 hT4 hlow4 hrsy
  go_wp2_with fail
  go_ret
  exact ⟨rfl, ⟨_, _, _, _, hT5.out, (hinv.out _ hm3).1.trans hpn.out, (hinv.out _ hm3).2⟩, hon5.out⟩

set_option maxRecDepth 100000 in
set_option maxHeartbeats 4000000 in
theorem do18_arm (base B mb R n t : Nat) (w : World) (p : DP) (mn : Nat) (v : Value) (S : Nat → Prop) (hT : Two base w B mb mn v p R n p S) (hpn : p.n = n) (hbn : mn ≤ 200 * t ∧ p.ws.length ≤ t ∧ -(t : Int) ≤ p.l ∧ p.l ≤ 9223372036854775807) (ht : t ≤ 150) (hn : n ≤ 40) (hb : base ≤ w.heap.size) (ea : Nat → Addr) (hEE : ∀ w', Below base w w' → Errs 96 errGs w' ea) (hge : 2 < base) (x : ActD) (hwf : x.Wf) (hl : x.long ≤ 200) (hk : x.kind = 2) :
    Calls Tryd.prog 15 #[.pointer (some ⟨B, 0, none⟩), .pointer (some ⟨R, 0, none⟩), .agg x.cells] w fun e w' => e = .returned (.bool true) ∧ Inv18 base w' B mb R n (t + 1) ∧ Only (fun k => DiskD B mb v k ∨ S k) w w' := by
  obtain ⟨kind, at_, nn, kept, torn, scat, long⟩ := x
  simp only at hk hl
  subst hk
  simp only [ActD.cells]
  have hgB : Below w.heap.size w (w.alloc (.cells #[.int .i64 2, .int .i64 at_, .int .i64 nn, .int .i64 kept, .int .i64 torn, .int .u64 (scat : Int), .int .i64 long] 35)) := (Below.refl _ _).alloc (Nat.le_refl _) _
  have hbx : (w.alloc (.cells #[.int .i64 2, .int .i64 at_, .int .i64 nn, .int .i64 kept, .int .i64 torn, .int .u64 (scat : Int), .int .i64 long] 35)).heap[w.heap.size]? = some (.cells #[.int .i64 2, .int .i64 at_, .int .i64 nn, .int .i64 kept, .int .i64 torn, .int .u64 (scat : Int), .int .i64 long] 35 (0, 0)) := heap_alloc_new w _
  obtain ⟨wA, hwA⟩ : ∃ wA, wA = w.alloc (.cells #[.int .i64 2, .int .i64 at_, .int .i64 nn, .int .i64 kept, .int .i64 torn, .int .u64 (scat : Int), .int .i64 long] 35) := ⟨_, rfl⟩
  rw [← hwA] at hgB hbx
  have hbw : mn ≤ 30000 ∧ p.ws.length ≤ 150 := by omega
  have hpn2 : p.n ≤ 2048 := by omega
  have hbl3 : -1000000 ≤ p.l ∧ p.l ≤ 9223372036854775807 := by omega
  have hsA := hgB.size
  have hbA : base ≤ wA.heap.size := by omega
  have hlowA : Below base w wA := hgB.mono hb
  have honA : Only (fun k => DiskD B mb v k ∨ S k) w wA := Only.ofBelow hgB
  have hBl : B < w.heap.size := (hT.lt.1 B (.inl rfl)).2
  have hDX : ∀ k, (DiskD B mb v k ∨ S k) → k < w.heap.size := fun k hk => hk.elim (fun h => (hT.lt.1 k h).2) (fun h => (hT.lt.2 k h).2)
  have hBE : 2 ≠ B := by have := (hT.lt.1 B (.inl rfl)).1; omega
  have hXlt : w.heap.size < wA.heap.size := block_lt hbx
  have hTA := hT.below hgB
  have hRl : R < w.heap.size := (hT.lt.2 R (by obtain ⟨_, _, _, _, _, h5, _⟩ := hT.r; exact h5.1)).2
  have hRZ : R < wA.heap.size := by omega
  have hw0 := hwf.at_
  have hw1 := hwf.n
  have hw2 := hwf.kept
  have hw3 := hwf.torn
  have hw4 := hwf.scat
  simp only at hw0 hw1 hw2 hw3 hw4
  have hh : ∀ W' : World, W'.heap[w.heap.size]? = some (.cells #[.int .i64 2, .int .i64 at_, .int .i64 nn, .int .i64 kept, .int .i64 torn, .int .u64 (scat : Int), .int .i64 long] 35 (0, 0)) → W'.cell? ⟨w.heap.size, 0, none⟩ = some (.int .i64 2) ∧ W'.cell? ⟨w.heap.size, 1, none⟩ = some (.int .i64 at_) ∧ W'.cell? ⟨w.heap.size, 2, none⟩ = some (.int .i64 nn) ∧ W'.cell? ⟨w.heap.size, 3, none⟩ = some (.int .i64 kept) ∧ W'.cell? ⟨w.heap.size, 4, none⟩ = some (.int .i64 torn) ∧ W'.cell? ⟨w.heap.size, 5, none⟩ = some (.int .u64 (scat : Int)) ∧ W'.cell? ⟨w.heap.size, 6, none⟩ = some (.int .i64 long) :=
    fun W' h => ⟨by rw [cell_of_block h]; rfl, by rw [cell_of_block h]; rfl, by rw [cell_of_block h]; rfl, by rw [cell_of_block h]; rfl, by rw [cell_of_block h]; rfl, by rw [cell_of_block h]; rfl, by rw [cell_of_block h]; rfl⟩
  obtain ⟨cx0, cx1, cx2, cx3, cx4, cx5, cx6⟩ := hh wA hbx
  replace hw0 := Lib.hid hw0
  replace hw1 := Lib.hid hw1
  replace hw2 := Lib.hid hw2
  replace hw3 := Lib.hid hw3
  replace hw4 := Lib.hid hw4
  replace hwA := Lib.hid hwA
  replace hbx := Lib.hid hbx
  replace hEE := Lib.hid hEE
  replace hDX := Lib.hid hDX
  replace hgB := Lib.hid hgB
  replace hTA := Lib.hid hTA
  replace hlowA := Lib.hid hlowA
  replace honA := Lib.hid honA
  replace hh := Lib.hid hh
  replace hbn := Lib.hid hbn
  replace hpn := Lib.hid hpn
  clear hT hwf
  generalize hX : w.heap.size = X at *
  replace hX := Lib.hid hX
  have hTd : Two base wA.drew B mb mn v p R n p S := hTA.out.below (Drawn.below ⟨1, rfl⟩ _)
  have hlowd : Below base w wA.drew := hlowA.out.drew
  have hond : Hid (Only (fun k => DiskD B mb v k ∨ S k) w wA.drew) := Lib.hid honA.out.drew
  have har := Lib.hid (darm_any hTd.d nn (e18 ea) (dErr_of (hEE.out _ hlowd)))
  obtain ⟨r, hr⟩ : ∃ r, (p.arm nn).2 = r := ⟨_, rfl⟩
  have hr3 : r ≤ 3 := hr ▸ arm_le p nn
  have hinv := Lib.hid (arm_inv (mn := mn) (t := t) nn hw1.out hbn.out)
  have hrar := Lib.hid (fun (W : World) v3 mn3 (hT : Two base W B mb mn3 v3 (p.arm nn).1 R n p S) (hbW : base ≤ W.heap.size) => rarm_any hT.r hbW nn hw1.out)
  rw [hr] at har hrar
  replace hr := Lib.hid hr
  have hsd : wA.heap.size ≤ wA.drew.heap.size := Nat.le_refl _
  have hS0 : Hid (wA.drew.heap[X]? = some (.cells #[.int .i64 2, .int .i64 at_, .int .i64 nn, .int .i64 kept, .int .i64 torn, .int .u64 (scat : Int), .int .i64 long] 35 (0, 0))) := Lib.hid hbx.out
  replace hTd := Lib.hid hTd
  replace hlowd := Lib.hid hlowd
  have k2 := fun (W' : World) h => (hh.out W' h).2.2.1
  go_enter Tryd.func15, Tryd.ntmps15
  go_upto_region 1 with fail
  rw [hX.out]
  rw [← hwA.out]
  go_wp2_with fail
  clear cx0 cx1 cx2 cx3 cx4 cx5 cx6
  refine wp_region_held_drew (S := (fun W' : World => W'.heap[X]? = some (.cells #[.int .i64 2, .int .i64 at_, .int .i64 nn, .int .i64 kept, .int .i64 torn, .int .u64 (scat : Int), .int .i64 long] 35 (0, 0)))) (by kernel_rfl) hS0.out (fun hOn => ?_)
  generalize World.drew wA = wd at *
  refine wpAnyH_take (i := 0) (v := ?_) (by simp only [List.getElem?_toArray, List.getElem?_cons_zero]; rfl) (by kernel_rfl) (by kernel_rfl) (by kernel_rfl) (by exact fun _ _ _ h => h) (Or.inl ⟨by rfl, ?_⟩) hOn ?_
  rotate_left
  focus (intro W hSW; go_simp; try with_reducible rfl)
  try simp only [Act.put, List.setIfInBounds_toArray, List.set_cons_zero, List.set_cons_succ]
  refine wpAnyH_take (i := 1) (v := ?_) (by simp only [List.getElem?_toArray, List.getElem?_cons_succ, List.getElem?_cons_zero]; rfl) (by kernel_rfl) (by kernel_rfl) (by kernel_rfl) (by exact fun _ _ _ h => h) (Or.inl ⟨by rfl, ?_⟩) hOn ?_
  rotate_left
  focus (intro W hSW; go_simp; try with_reducible rfl)
  try simp only [Act.put, List.setIfInBounds_toArray, List.set_cons_zero, List.set_cons_succ]
  refine wpAnyH_take (i := 2) (v := ?_) (by simp only [List.getElem?_toArray, List.getElem?_cons_succ, List.getElem?_cons_zero]; rfl) (by kernel_rfl) (by kernel_rfl) (by kernel_rfl) (by exact fun _ _ _ h => h) (Or.inl ⟨by rfl, ?_⟩) hOn ?_
  rotate_left
  focus (intro W hSW; go_simp; try with_reducible rfl)
  try simp only [Act.put, List.setIfInBounds_toArray, List.set_cons_zero, List.set_cons_succ]
  refine wpAnyH_take (i := 5) (v := ?_) (by simp only [List.getElem?_toArray, List.getElem?_cons_succ, List.getElem?_cons_zero]; rfl) (by kernel_rfl) (by kernel_rfl) (by kernel_rfl) (by exact fun _ _ _ h => h) (Or.inl ⟨by rfl, ?_⟩) hOn ?_
  rotate_left
  focus (intro W hSW; go_simp; try with_reducible rfl)
  try simp only [Act.put, List.setIfInBounds_toArray, List.set_cons_zero, List.set_cons_succ]
  refine wpAnyH_take (i := 6) (v := ?_) (by simp only [List.getElem?_toArray, List.getElem?_cons_succ, List.getElem?_cons_zero]; rfl) (by kernel_rfl) (by kernel_rfl) (by kernel_rfl) (by exact fun _ _ _ h => h) (Or.inl ⟨by rfl, ?_⟩) hOn ?_
  rotate_left
  focus (intro W hSW; go_simp; try with_reducible rfl)
  try simp only [Act.put, List.setIfInBounds_toArray, List.set_cons_zero, List.set_cons_succ]
  refine wpAnyH_take (i := 7) (v := ?_) (by simp only [List.getElem?_toArray, List.getElem?_cons_succ, List.getElem?_cons_zero]; rfl) (by kernel_rfl) (by kernel_rfl) (by kernel_rfl) (by exact fun _ _ _ h => h) (Or.inl ⟨by rfl, ?_⟩) hOn ?_
  rotate_left
  focus (intro W hSW; go_simp; try with_reducible rfl)
  try simp only [Act.put, List.setIfInBounds_toArray, List.set_cons_zero, List.set_cons_succ]
  refine wpAnyH_ready (rs := [3]) (by kernel_rfl) (by simp) ?_
  refine AllReadyH.cons (by simp only [List.getElem?_toArray, List.getElem?_cons_succ, List.getElem?_cons_zero]; rfl) (fun Kz hKz => ?_) AllReadyH.nil
  go_simp
  (with_reducible refine har.out.mono ?_)
  rintro e w3 ⟨rfl, hst⟩
  have hS : w3.heap[X]? = _ := hst.only.heap hOn (fun hd => (by have := hDX.out X (.inl hd); omega))
  have hT3 := Lib.hid (hTd.out.disk hst)
  have hlow3 := Lib.hid (hlowd.out.trans (hTd.out.dBelow (by omega) hst))
  have hon3 := Lib.hid (hond.out.addO hst.only (fun k h => .inl h))
  have hs3 := hst.only.size
  clear hst har
  focus (go_wp2_with fail)
  refine hKz.out _ _ (by first | exact hS | exact Below.trans hOn (Below.mono hnew (Below.size hOn))) (fun hNext => ?_)
  clear hKz Kz hOn
  have hOn := hNext
  clear hNext
  try clear hnew
  try clear hS
  try simp only [Act.put, List.setIfInBounds_toArray, List.set_cons_zero, List.set_cons_succ]
  refine wpAnyH_ready (rs := [4]) (by kernel_rfl) (by simp) ?_
  refine AllReadyH.cons (by simp only [List.getElem?_toArray, List.getElem?_cons_succ, List.getElem?_cons_zero]; rfl) (fun Kz hKz => ?_) AllReadyH.nil
  go_simp
  (with_reducible refine (num_eD ea r hr3 _ (hEE.out _ hlow3.out)).mono ?_)
  rintro e w4 ⟨rfl, hb4⟩
  have hS : w4.heap[X]? = _ := (hb4.block X (by omega)).trans hOn
  have hlow4 := Lib.hid (hlow3.out.trans (hb4.mono (by omega)))
  have hon4 := Lib.hid (hon3.out.addB hb4)
  have hT4 := Lib.hid (hT3.out.below hb4)
  have hs4 := hb4.size
  clear hb4 hT3 hlow3
  focus (go_wp2_with fail)
  refine hKz.out _ _ (by first | exact hS | exact Below.trans hOn (Below.mono hnew (Below.size hOn))) (fun hNext => ?_)
  clear hKz Kz hOn
  have hOn := hNext
  clear hNext
  try clear hnew
  try clear hS
  try simp only [Act.put, List.setIfInBounds_toArray, List.set_cons_zero, List.set_cons_succ]
  refine wpAnyH_ready (rs := [8]) (by kernel_rfl) (by simp) ?_
  refine AllReadyH.cons (by simp only [List.getElem?_toArray, List.getElem?_cons_succ, List.getElem?_cons_zero]; rfl) (fun Kz hKz => ?_) AllReadyH.nil
  go_simp
  (with_reducible refine (hrar.out _ _ _ hT4.out (by omega)).mono ?_)
  rintro e w5 ⟨rfl, hst5⟩
  have hS : w5.heap[X]? = _ := hst5.2.heap hOn (fun hd => (by have := hDX.out X (.inr hd); omega))
  have hT5 := Lib.hid (hT4.out.ref hst5)
  have hlow5 := Lib.hid (hlow4.out.trans (hT4.out.rBelow (by omega) hst5))
  have hon5 := Lib.hid (hon4.out.addO hst5.2 (fun k h => .inr h))
  have hs5 := hst5.2.size
  clear hst5 hT4 hlow4
  focus (go_wp2_with fail)
  refine hKz.out _ _ (by first | exact hS | exact Below.trans hOn (Below.mono hnew (Below.size hOn))) (fun hNext => ?_)
  clear hKz Kz hOn
  have hOn := hNext
  clear hNext
  try clear hnew
  try clear hS
  try simp only [Act.put, List.setIfInBounds_toArray, List.set_cons_zero, List.set_cons_succ]
  refine wpAnyH_take (i := 9) (v := ?_) (by simp only [List.getElem?_toArray, List.getElem?_cons_succ, List.getElem?_cons_zero]; rfl) (by kernel_rfl) (by kernel_rfl) (by kernel_rfl) (by exact fun _ _ _ h => h) (Or.inl ⟨by rfl, ?_⟩) hOn ?_
  rotate_left
  focus (intro W hSW; go_simp; try with_reducible rfl)
  try simp only [Act.put, List.setIfInBounds_toArray, List.set_cons_zero, List.set_cons_succ]
  refine wpAnyH_take (i := 10) (v := ?_) (by simp only [List.getElem?_toArray, List.getElem?_cons_succ, List.getElem?_cons_zero]; rfl) (by kernel_rfl) (by kernel_rfl) (by kernel_rfl) (by exact fun _ _ _ h => h) (Or.inl ⟨by rfl, ?_⟩) hOn ?_
  rotate_left
  focus (intro W hSW; go_simp; try with_reducible rfl)
  try simp only [Act.put, List.setIfInBounds_toArray, List.set_cons_zero, List.set_cons_succ]
  refine wpAnyH_done (by kernel_rfl) ?_ _
  all_goals
    go_wp2_with fail
    go_ret
    exact ⟨rfl, ⟨_, _, _, _, hT5.out, hinv.out.1.trans hpn.out, hinv.out.2⟩, hon5.out⟩

set_option maxRecDepth 100000 in
set_option maxHeartbeats 4000000 in
theorem do18_crash (base B mb R n t : Nat) (w : World) (p : DP) (mn : Nat) (v : Value) (S : Nat → Prop) (hT : Two base w B mb mn v p R n p S) (hpn : p.n = n) (hbn : mn ≤ 200 * t ∧ p.ws.length ≤ t ∧ -(t : Int) ≤ p.l ∧ p.l ≤ 9223372036854775807) (ht : t ≤ 150) (hn : n ≤ 40) (hb : base ≤ w.heap.size) (ea : Nat → Addr) (hEE : ∀ w', Below base w w' → Errs 96 errGs w' ea) (hge : 2 < base) (x : ActD) (hwf : x.Wf) (hl : x.long ≤ 200) (hk : x.kind = 3) :
    Calls Tryd.prog 15 #[.pointer (some ⟨B, 0, none⟩), .pointer (some ⟨R, 0, none⟩), .agg x.cells] w fun e w' => e = .returned (.bool true) ∧ Inv18 base w' B mb R n (t + 1) ∧ Only (fun k => DiskD B mb v k ∨ S k) w w' := by
  obtain ⟨kind, at_, nn, kept, torn, scat, long⟩ := x
  simp only at hk hl
  subst hk
  simp only [ActD.cells]
  have hgB : Below w.heap.size w (w.alloc (.cells #[.int .i64 3, .int .i64 at_, .int .i64 nn, .int .i64 kept, .int .i64 torn, .int .u64 (scat : Int), .int .i64 long] 35)) := (Below.refl _ _).alloc (Nat.le_refl _) _
  have hbx : (w.alloc (.cells #[.int .i64 3, .int .i64 at_, .int .i64 nn, .int .i64 kept, .int .i64 torn, .int .u64 (scat : Int), .int .i64 long] 35)).heap[w.heap.size]? = some (.cells #[.int .i64 3, .int .i64 at_, .int .i64 nn, .int .i64 kept, .int .i64 torn, .int .u64 (scat : Int), .int .i64 long] 35 (0, 0)) := heap_alloc_new w _
  obtain ⟨wA, hwA⟩ : ∃ wA, wA = w.alloc (.cells #[.int .i64 3, .int .i64 at_, .int .i64 nn, .int .i64 kept, .int .i64 torn, .int .u64 (scat : Int), .int .i64 long] 35) := ⟨_, rfl⟩
  rw [← hwA] at hgB hbx
  have hbw : mn ≤ 30000 ∧ p.ws.length ≤ 150 := by omega
  have hpn2 : p.n ≤ 2048 := by omega
  have hbl3 : -1000000 ≤ p.l ∧ p.l ≤ 9223372036854775807 := by omega
  have hsA := hgB.size
  have hbA : base ≤ wA.heap.size := by omega
  have hlowA : Below base w wA := hgB.mono hb
  have honA : Only (fun k => DiskD B mb v k ∨ S k) w wA := Only.ofBelow hgB
  have hBl : B < w.heap.size := (hT.lt.1 B (.inl rfl)).2
  have hDX : ∀ k, (DiskD B mb v k ∨ S k) → k < w.heap.size := fun k hk => hk.elim (fun h => (hT.lt.1 k h).2) (fun h => (hT.lt.2 k h).2)
  have hBE : 2 ≠ B := by have := (hT.lt.1 B (.inl rfl)).1; omega
  have hXlt : w.heap.size < wA.heap.size := block_lt hbx
  have hTA := hT.below hgB
  have hRl : R < w.heap.size := (hT.lt.2 R (by obtain ⟨_, _, _, _, _, h5, _⟩ := hT.r; exact h5.1)).2
  have hRZ : R < wA.heap.size := by omega
  have hw0 := hwf.at_
  have hw1 := hwf.n
  have hw2 := hwf.kept
  have hw3 := hwf.torn
  have hw4 := hwf.scat
  simp only at hw0 hw1 hw2 hw3 hw4
  have hh : ∀ W' : World, W'.heap[w.heap.size]? = some (.cells #[.int .i64 3, .int .i64 at_, .int .i64 nn, .int .i64 kept, .int .i64 torn, .int .u64 (scat : Int), .int .i64 long] 35 (0, 0)) → W'.cell? ⟨w.heap.size, 0, none⟩ = some (.int .i64 3) ∧ W'.cell? ⟨w.heap.size, 1, none⟩ = some (.int .i64 at_) ∧ W'.cell? ⟨w.heap.size, 2, none⟩ = some (.int .i64 nn) ∧ W'.cell? ⟨w.heap.size, 3, none⟩ = some (.int .i64 kept) ∧ W'.cell? ⟨w.heap.size, 4, none⟩ = some (.int .i64 torn) ∧ W'.cell? ⟨w.heap.size, 5, none⟩ = some (.int .u64 (scat : Int)) ∧ W'.cell? ⟨w.heap.size, 6, none⟩ = some (.int .i64 long) :=
    fun W' h => ⟨by rw [cell_of_block h]; rfl, by rw [cell_of_block h]; rfl, by rw [cell_of_block h]; rfl, by rw [cell_of_block h]; rfl, by rw [cell_of_block h]; rfl, by rw [cell_of_block h]; rfl, by rw [cell_of_block h]; rfl⟩
  obtain ⟨cx0, cx1, cx2, cx3, cx4, cx5, cx6⟩ := hh wA hbx
  replace hw0 := Lib.hid hw0
  replace hw1 := Lib.hid hw1
  replace hw2 := Lib.hid hw2
  replace hw3 := Lib.hid hw3
  replace hw4 := Lib.hid hw4
  replace hwA := Lib.hid hwA
  replace hbx := Lib.hid hbx
  replace hEE := Lib.hid hEE
  replace hDX := Lib.hid hDX
  replace hgB := Lib.hid hgB
  replace hTA := Lib.hid hTA
  replace hlowA := Lib.hid hlowA
  replace honA := Lib.hid honA
  replace hh := Lib.hid hh
  replace hbn := Lib.hid hbn
  replace hpn := Lib.hid hpn
  clear hT hwf
  generalize hX : w.heap.size = X at *
  replace hX := Lib.hid hX
  have hcr := Lib.hid (dcrash_dm hTA.out.d (by omega) (by omega) (by omega) kept torn scat (scat : Int) rfl hw2.out hw3.out hw4.out)
  have hrcr := Lib.hid (fun (W : World) v3 mn3 (hT : Two base W B mb mn3 v3 (p.crash kept torn scat) R n p S) (hbW : base ≤ W.heap.size) => rcrash_any hT.r hbW (by omega) (by omega) kept torn scat hw2.out hw3.out hw4.out)
  go_enter Tryd.func15, Tryd.ntmps15
  go_upto_region 1 with fail
  rw [hX.out]
  rw [← hwA.out]
  go_wp2_with fail
  with_reducible refine hcr.out.mono ?_
  rintro e w3 ⟨rfl, mn3, hm3, hst⟩
  clear cx0 cx1 cx2 cx3 cx4 cx5 cx6
  obtain ⟨_, _, _, q3, q4, q5, _⟩ := hh.out w3 (hst.only.heap hbx.out (fun hd => by have := hDX.out X (.inl hd); omega))
  have hT3 := Lib.hid (hTA.out.disk hst)
  have hlow3 := Lib.hid (hlowA.out.trans (hTA.out.dBelow (by omega) hst))
  have hon3 := Lib.hid (honA.out.addO hst.only (fun k h => .inl h))
  have hs3 := hst.only.size
  clear hst hcr
  go_wp2_with fail
  with_reducible refine (hrcr.out _ _ _ hT3.out (by omega)).mono ?_
  rintro e w5 ⟨rfl, hst5⟩
  have hT5 := Lib.hid (hT3.out.ref hst5)
  have hon5 := Lib.hid (hon3.out.addO hst5.2 (fun k h => .inr h))
  clear hst5 hT3 hlow3 hrcr q3 q4 q5
  go_wp2_with fail
  go_ret
  refine ⟨rfl, ⟨_, _, _, _, hT5.out, hpn.out, ?_⟩, hon5.out⟩
  have := hbn.out
  simp only [DP.crash, List.length_nil]
  omega

set_option maxRecDepth 100000 in
set_option maxHeartbeats 4000000 in
theorem do18_none (base B mb R n t : Nat) (w : World) (p : DP) (mn : Nat) (v : Value) (S : Nat → Prop) (hT : Two base w B mb mn v p R n p S) (hpn : p.n = n) (hbn : mn ≤ 200 * t ∧ p.ws.length ≤ t ∧ -(t : Int) ≤ p.l ∧ p.l ≤ 9223372036854775807) (ht : t ≤ 150) (hn : n ≤ 40) (hb : base ≤ w.heap.size) (ea : Nat → Addr) (hEE : ∀ w', Below base w w' → Errs 96 errGs w' ea) (hge : 2 < base) (x : ActD) (hwf : x.Wf) (hl : x.long ≤ 200) (hk : x.kind < 0 ∨ 3 < x.kind) :
    Calls Tryd.prog 15 #[.pointer (some ⟨B, 0, none⟩), .pointer (some ⟨R, 0, none⟩), .agg x.cells] w fun e w' => e = .returned (.bool true) ∧ Inv18 base w' B mb R n (t + 1) ∧ Only (fun k => DiskD B mb v k ∨ S k) w w' := by
  obtain ⟨kind, at_, nn, kept, torn, scat, long⟩ := x
  simp only at hk hl
  skip
  simp only [ActD.cells]
  have hgB : Below w.heap.size w (w.alloc (.cells #[.int .i64 kind, .int .i64 at_, .int .i64 nn, .int .i64 kept, .int .i64 torn, .int .u64 (scat : Int), .int .i64 long] 35)) := (Below.refl _ _).alloc (Nat.le_refl _) _
  have hbx : (w.alloc (.cells #[.int .i64 kind, .int .i64 at_, .int .i64 nn, .int .i64 kept, .int .i64 torn, .int .u64 (scat : Int), .int .i64 long] 35)).heap[w.heap.size]? = some (.cells #[.int .i64 kind, .int .i64 at_, .int .i64 nn, .int .i64 kept, .int .i64 torn, .int .u64 (scat : Int), .int .i64 long] 35 (0, 0)) := heap_alloc_new w _
  obtain ⟨wA, hwA⟩ : ∃ wA, wA = w.alloc (.cells #[.int .i64 kind, .int .i64 at_, .int .i64 nn, .int .i64 kept, .int .i64 torn, .int .u64 (scat : Int), .int .i64 long] 35) := ⟨_, rfl⟩
  rw [← hwA] at hgB hbx
  have hbw : mn ≤ 30000 ∧ p.ws.length ≤ 150 := by omega
  have hpn2 : p.n ≤ 2048 := by omega
  have hbl3 : -1000000 ≤ p.l ∧ p.l ≤ 9223372036854775807 := by omega
  have hsA := hgB.size
  have hbA : base ≤ wA.heap.size := by omega
  have hlowA : Below base w wA := hgB.mono hb
  have honA : Only (fun k => DiskD B mb v k ∨ S k) w wA := Only.ofBelow hgB
  have hBl : B < w.heap.size := (hT.lt.1 B (.inl rfl)).2
  have hDX : ∀ k, (DiskD B mb v k ∨ S k) → k < w.heap.size := fun k hk => hk.elim (fun h => (hT.lt.1 k h).2) (fun h => (hT.lt.2 k h).2)
  have hBE : 2 ≠ B := by have := (hT.lt.1 B (.inl rfl)).1; omega
  have hXlt : w.heap.size < wA.heap.size := block_lt hbx
  have hTA := hT.below hgB
  have hRl : R < w.heap.size := (hT.lt.2 R (by obtain ⟨_, _, _, _, _, h5, _⟩ := hT.r; exact h5.1)).2
  have hRZ : R < wA.heap.size := by omega
  have hw0 := hwf.at_
  have hw1 := hwf.n
  have hw2 := hwf.kept
  have hw3 := hwf.torn
  have hw4 := hwf.scat
  simp only at hw0 hw1 hw2 hw3 hw4
  have hh : ∀ W' : World, W'.heap[w.heap.size]? = some (.cells #[.int .i64 kind, .int .i64 at_, .int .i64 nn, .int .i64 kept, .int .i64 torn, .int .u64 (scat : Int), .int .i64 long] 35 (0, 0)) → W'.cell? ⟨w.heap.size, 0, none⟩ = some (.int .i64 kind) ∧ W'.cell? ⟨w.heap.size, 1, none⟩ = some (.int .i64 at_) ∧ W'.cell? ⟨w.heap.size, 2, none⟩ = some (.int .i64 nn) ∧ W'.cell? ⟨w.heap.size, 3, none⟩ = some (.int .i64 kept) ∧ W'.cell? ⟨w.heap.size, 4, none⟩ = some (.int .i64 torn) ∧ W'.cell? ⟨w.heap.size, 5, none⟩ = some (.int .u64 (scat : Int)) ∧ W'.cell? ⟨w.heap.size, 6, none⟩ = some (.int .i64 long) :=
    fun W' h => ⟨by rw [cell_of_block h]; rfl, by rw [cell_of_block h]; rfl, by rw [cell_of_block h]; rfl, by rw [cell_of_block h]; rfl, by rw [cell_of_block h]; rfl, by rw [cell_of_block h]; rfl, by rw [cell_of_block h]; rfl⟩
  obtain ⟨cx0, cx1, cx2, cx3, cx4, cx5, cx6⟩ := hh wA hbx
  replace hw0 := Lib.hid hw0
  replace hw1 := Lib.hid hw1
  replace hw2 := Lib.hid hw2
  replace hw3 := Lib.hid hw3
  replace hw4 := Lib.hid hw4
  replace hwA := Lib.hid hwA
  replace hbx := Lib.hid hbx
  replace hEE := Lib.hid hEE
  replace hDX := Lib.hid hDX
  replace hgB := Lib.hid hgB
  replace hTA := Lib.hid hTA
  replace hlowA := Lib.hid hlowA
  replace honA := Lib.hid honA
  replace hh := Lib.hid hh
  replace hbn := Lib.hid hbn
  replace hpn := Lib.hid hpn
  clear hT hwf
  generalize hX : w.heap.size = X at *
  replace hX := Lib.hid hX
  have b0 : (kind == 0) = false := by simp; omega
  have b1 : (kind == 1) = false := by simp; omega
  have b2 : (kind == 2) = false := by simp; omega
  have b3 : (kind == 3) = false := by simp; omega
  clear hk
  go_enter Tryd.func15, Tryd.ntmps15
  go_upto_region 1 with fail
  rw [hX.out]
  rw [← hwA.out]
  go_wp2_with fail
  go_ret
  exact ⟨rfl, ⟨_, _, _, _, hTA.out, hpn.out, by have := hbn.out; omega⟩, honA.out⟩
theorem do18_any (base B mb R n t : Nat) (w : World) (p : DP) (mn : Nat) (v : Value) (S : Nat → Prop) (hT : Two base w B mb mn v p R n p S) (hpn : p.n = n) (hbn : mn ≤ 200 * t ∧ p.ws.length ≤ t ∧ -(t : Int) ≤ p.l ∧ p.l ≤ 9223372036854775807) (ht : t ≤ 150) (hn : n ≤ 40) (hb : base ≤ w.heap.size) (ea : Nat → Addr) (hEE : ∀ w', Below base w w' → Errs 96 errGs w' ea) (hge : 2 < base) (x : ActD) (hwf : x.Wf) (hl : x.long ≤ 200) :
    Calls Tryd.prog 15 #[.pointer (some ⟨B, 0, none⟩), .pointer (some ⟨R, 0, none⟩), .agg x.cells] w fun e w' => e = .returned (.bool true) ∧ Inv18 base w' B mb R n (t + 1) ∧ Only (fun k => DiskD B mb v k ∨ S k) w w' := by
  by_cases h0 : x.kind = 0
  · exact do18_write base B mb R n t w p mn v S hT hpn hbn ht hn hb ea hEE hge x hwf hl h0
  · by_cases h1 : x.kind = 1
    · exact do18_sync base B mb R n t w p mn v S hT hpn hbn ht hn hb ea hEE hge x hwf hl h1
    · by_cases h2 : x.kind = 2
      · exact do18_arm base B mb R n t w p mn v S hT hpn hbn ht hn hb ea hEE hge x hwf hl h2
      · by_cases h3 : x.kind = 3
        · exact do18_crash base B mb R n t w p mn v S hT hpn hbn ht hn hb ea hEE hge x hwf hl h3
        · exact do18_none base B mb R n t w p mn v S hT hpn hbn ht hn hb ea hEE hge x hwf hl (by omega)

end Go.Proofs.YtdgilgnaoifpcaaDoor
