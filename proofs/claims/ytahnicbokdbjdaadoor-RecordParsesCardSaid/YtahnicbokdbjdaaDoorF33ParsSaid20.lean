/- record.Parse of bytes that are no record's. Printed by genpbad.py and onrun.sh. -/
import Derived.Test.YtahnicbokdbjdaaDoorF31ParsSaid20
import Derived.Test.YtahnicbokdbjdaaDoorF32ParsSaid20
import Derived.Test.YtahnicbokdbjdaaDoorF17ParsSaid20
import Derived.Test.YtahnicbokdbjdaaDoorF20ParsSaid20
namespace Go.Proofs.YtahnicbokdbjdaaDoor
open Go.RowKit
set_option linter.unusedVariables false

set_option maxRecDepth 100000 in
theorem build_kind (k : Int) (W : World) : (Instr.build 31 #[(0, .int .i64 k)]).run Tryd.prog W = .ok (.agg (Rc.ofKind k).list.toArray) W := by
  refine run_build W _ _ _ ?_
  kernel_rfl
set_option maxRecDepth 100000 in
theorem build_zero (W : World) : (Instr.build 31 #[]).run Tryd.prog W = .ok (.agg Rc.zero.list.toArray) W := by
  refine run_build W _ _ _ ?_
  kernel_rfl
theorem parErrs {ea : Nat → Addr} {w : World} (H : Errs 132 errGs w ea) : ∀ W, Below w.heap.size w W →
    W.cell? ⟨6, 0, none⟩ = some (.iface 132 (.pointer (some (ea 6)))) ∧ W.cell? ⟨1, 0, none⟩ = some (.iface 132 (.pointer (some (ea 1)))) ∧
    W.cell? ⟨2, 0, none⟩ = some (.iface 132 (.pointer (some (ea 2)))) := by
  intro W hb
  obtain ⟨g0, g1, g2, g3, g4, g5, g6, _⟩ := num_cells (H.below hb)
  exact ⟨g6, g1, g2⟩
theorem ErrIs.upd {ea : Nat → Addr} {w w' : World} {v : Value} {n b : Nat} {o : Obj} {C : Array Value} {t : TypeId} {z : Nat × Nat} (h : ErrIs ea w v n) (hU : Upd b o w w') (hb : w.heap[b]? = some (.cells C t z)) (ht : t ≠ 95) : ErrIs ea w' v n := by
  rcases h with h | h | ⟨i, g, F, V, h1, h2, h3, h4⟩
  · exact .inl h
  · exact .inr (.inl h)
  · refine .inr (.inr ⟨i, g, F, V, h1, h2, h3, (hU.block g fun e => ?_).trans h4⟩)
    rw [e, hb] at h4
    injection h4 with h4
    injection h4 with _ h5 _
    exact ht h5
def PBad (ea : Nat → Addr) (n : Nat) (w : World) (e : Ending) (w' : World) : Prop := ∃ v, e = .returned (.tuple #[.agg Rc.zero.list.toArray, v]) ∧ ErrIs ea w' v n ∧ Below w.heap.size w w'

set_option maxRecDepth 100000 in
set_option maxHeartbeats 2000000 in
theorem parse_empty (bs : List UInt8) (a : Option Addr) (c n : Nat) (w : World) (ea : Nat → Addr)  (hs : (nB (bs, false) 1).2 = true) (ha : ArgB w a c bs) (hn : bs.length = n) (hm : n ≤ 1000) (haf : ∀ ad, a = some ad → ∃ b o, ad = ⟨b, o, none⟩ ∧ b < w.heap.size) (H : Errs 132 errGs w ea) :
    Calls Tryd.prog 14 #[.slice a n c] w (PBad ea 2 w) := by
  obtain ⟨w1, hw1⟩ : ∃ w1, w1 = (w.alloc (.cells Tryd.zeroCells31 31)).alloc (.cells #[.slice a n c, .bool false] 66) := ⟨_, rfl⟩
  have hb1 : Below w.heap.size w w1 := by rw [hw1]; exact ((Below.refl _ _).alloc (Nat.le_refl _) _).alloc (by simp) _
  have hs1 : w1.heap.size = w.heap.size + 2 := by rw [hw1]; simp
  have hz1 : w1.heap[w.heap.size]? = some (.cells Tryd.zeroCells31 31 (0, 0)) := by rw [hw1, heapA9, if_neg (by simp), heapA9, if_pos rfl]
  have hq1 : w1.heap[w.heap.size + 1]? = some (.cells #[.slice a n c, .bool false] 66 (0, 0)) := by rw [hw1, heapA9, if_pos (by simp)]
  have hr1 : RdM w1 (w.heap.size + 1) w.heap.size (bs, false).1 (bs, false).2 := by
    refine ⟨a, c, by rw [hn]; exact hq1, ha.below hb1, fun ad e => ?_⟩
    obtain ⟨b, o, h1, h2⟩ := haf ad e
    exact ⟨b, o, h1, by omega, h2⟩
  obtain ⟨k, hk⟩ : ∃ k, nN (bs, false) 1 = k := ⟨_, rfl⟩
  have hn0 : ∀ W, RdM W (w.heap.size + 1) w.heap.size (bs, false).1 (bs, false).2 → Calls Tryd.prog 31 #[.pointer (some ⟨w.heap.size + 1, 0, none⟩), .int .i64 1] W fun e w2 => e = .returned (.int .i64 k) ∧ RdM w2 (w.heap.size + 1) w.heap.size (nB (bs, false) 1).1 (nB (bs, false) 1).2 ∧ Only (fun k => k = w.heap.size + 1) W w2 := by
    intro W h
    have h := number_at (w.heap.size + 1) w.heap.size (bs, false) 1 W h (by decide) (by show bs.length ≤ 1000000; omega)
    rw [hk] at h
    exact h
  have hbd := Lib.hid (build_kind k)
  have s78 : (Rc.ofKind k).list.toArray.size = 78 := by rw [List.size_toArray, Rc.len (x := Rc.ofKind k) z32_len z32_len]
  have i8 : (Tryd.prog.info? 31).map (·.size) = some (Rc.ofKind k).list.toArray.size := by rw [s78]; kernel_rfl
  have z8 : (Tryd.zeroCells31).size = (Rc.ofKind k).list.toArray.size := by rw [s78]; kernel_rfl
  have hVo := Rc.all_one (Rc.ofKind k)
  have iZ : (Tryd.prog.info? 31).map (·.size) = some (Tryd.zeroCells31).size := by kernel_rfl
  have hZo : (Tryd.zeroCells31).all (·.oneCell') = true := by rw [Rc.zeroG]; exact Rc.all_one Rc.zero
  have hu := Tryd.underlying31
  have hrk0 : ∀ (W : World) b, W.heap[b]? = some (.cells (Rc.ofKind k).list.toArray 31 (0, 0)) → W.cell? ⟨b, 0, none⟩ = some (.int .i64 k) := fun W b h => by rw [cell_of_block h]; rfl
  have hce := Lib.hid (parErrs H)
  generalize (Rc.ofKind k).list.toArray = RK at *
  have hZe : Hid (∀ v, Ending.returned (.tuple #[.agg Tryd.zeroCells31, v]) = Ending.returned (.tuple #[.agg Rc.zero.list.toArray, v])) := Lib.hid (fun v => by rw [Rc.zeroG])
  clear s78
  generalize nB (bs, false) 1 = s1 at *
  obtain ⟨q, hq⟩ : ∃ q, q = w.heap.size + 1 := ⟨_, rfl⟩
  obtain ⟨B, hBd⟩ : ∃ B, B = w.heap.size := ⟨_, rfl⟩
  replace hw1 := Lib.hid hw1
  replace hn0 := Lib.hid hn0
  replace hr1 := Lib.hid hr1
  replace hz1 := Lib.hid hz1
  replace hb1 := Lib.hid hb1
  replace H := Lib.hid H
  replace hrk0 := Lib.hid hrk0
  clear hn hm haf ha hq1 hk
  go_enter Tryd.func14, Tryd.ntmps14
  go_wp2_with fail
  rw [← hw1.out]
  with_reducible refine (hn0.out _ hr1.out).mono ?_
  rintro e wa ⟨rfl, hra, hoa⟩
  have hza := Lib.hid (hoa.heap hz1.out (by omega))
  have hsa := hoa.size
  have hOa : Only (fun k => k = w.heap.size + 1) w1 wa := hoa
  have hna : w.heap.size + 1 < wa.heap.size := by omega
  have hZp := Lib.hid (heap_alloc_new wa (.cells Tryd.zeroCells31 31))
  have hba : Below w.heap.size w wa := hb1.out.trans (hoa.below (by omega) (fun k e => by omega))
  replace hra := Lib.hid hra
  replace hba := Lib.hid hba
  clear hoa hOa
  go_wp2_with (first
    | ((with_reducible show wpList _ _ _ (Oper.mk _ (Op.build 31 _) _ _ _ _ :: _) _ _); refine wpList_buildV rfl 31 [(0, .tmp 14)] rfl [(0, .int .i64 k)] rfl _ (hbd.out _) ?_)
    | ((with_reducible show wpList _ _ _ (Oper.mk _ (Op.store 31 (.tmp 5) _) _ _ _ _ :: _) _ _); (refine wpList_store_row rfl 31 (.tmp 5) (.tmp 15) rfl wa.heap.size _ RK rfl rfl hZp i8 z8 hVo ?_); intro w3 hU3; have hP3 := Lib.hid hU3.out.here; have hb3 := Lib.hid ((Below.alloc (Below.refl wa.heap.size wa) (Nat.le_refl _) (.cells Tryd.zeroCells31 31)).trans (hU3.out.below (Nat.le_refl _))); have hr3 := Lib.hid (hra.out.only (D := fun _ => False) (Only.ofBelow hb3.out) (fun e => e) (fun k e => e.elim)); have hz3 := Lib.hid ((hb3.out.block _ (block_lt hza.out)).trans hza.out); have k0 := hrk0.out _ _ hP3.out; obtain ⟨a3, c3, hq3, _⟩ := hr3.out; rw [hs] at hq3; have j1 := cell_of_block hq3 1; have hbw3 := Lib.hid (hba.out.trans (hb3.out.mono hba.out.size)); clear hq3))
  have hd0 : Hid (Below w.heap.size w w3.drew) := Lib.hid (hbw3.out.drew)
  have hzd : Hid (w3.drew.heap[w.heap.size]? = some (.cells Tryd.zeroCells31 31 (0, 0))) := Lib.hid hz3.out
  have hcW := fun W h => (hce.out W h).2.1
  have hraw := True.intro
  have lkB : ∀ W : World, Below w.heap.size w W → ∀ (x : Operand) (v : Value), True → True → True → True := fun _ _ _ _ _ _ _ => trivial
  clear hraw lkB
  refine wp_region_held_drew (S := (Below w.heap.size w)) (by kernel_rfl) hd0.out (fun hOn => ?_)
  generalize World.drew w3 = wd at *
  refine wpAnyH_take (i := 0) (v := ?_) (by simp only [List.getElem?_toArray, List.getElem?_cons_zero]; rfl) (by kernel_rfl) (by kernel_rfl) (by kernel_rfl) (by exact fun _ _ _ h => h) (Or.inl ⟨by rfl, ?_⟩) hOn ?_
  rotate_left
  focus (intro W hSW; go_simp; try with_reducible rfl)
  try simp only [Act.put, List.setIfInBounds_toArray, List.set_cons_zero, List.set_cons_succ]
  refine wpAnyH_take (i := 1) (v := ?_) (by simp only [List.getElem?_toArray, List.getElem?_cons_succ, List.getElem?_cons_zero]; rfl) (by kernel_rfl) (by kernel_rfl) (by kernel_rfl) (by exact fun _ _ _ h => h) (Or.inl ⟨by rfl, ?_⟩) hOn ?_
  rotate_left
  focus (intro W hSW; go_simp; try with_reducible rfl)
  try simp only [Act.put, List.setIfInBounds_toArray, List.set_cons_zero, List.set_cons_succ]
  refine wpAnyH_ready (rs := [2]) (by kernel_rfl) (by simp) ?_
  refine AllReadyH.cons (by simp only [List.getElem?_toArray, List.getElem?_cons_succ, List.getElem?_cons_zero]; rfl) (fun Kz hKz => ?_) AllReadyH.nil
  rw [if_pos (by rfl)]
  (with_reducible refine wp_store_rowK 31 (.tmp 2) (.tmp 21) rfl w.heap.size _ Tryd.zeroCells31 rfl rfl hzd iZ rfl hZo ?_)
  intro w9 hU9
  have hS := hOn.trans (hU9.out.below (Nat.le_refl _))
  have hres := Lib.hid hU9.out.here
  refine hKz.out _ _ (by first | exact hS | exact Below.trans hOn (Below.mono hnew (Below.size hOn))) (fun hNext => ?_)
  clear hKz Kz hOn
  have hOn := hNext
  clear hNext
  try clear hnew
  try clear hS
  try simp only [Act.put]
  refine wpAnyH_take (i := 3) (v := ?_) (by simp only [List.getElem?_toArray, List.getElem?_cons_succ, List.getElem?_cons_zero]; rfl) (by kernel_rfl) (by kernel_rfl) (by kernel_rfl) (by exact fun _ _ _ h => h) (Or.inl ⟨by rfl, ?_⟩) hOn ?_
  rotate_left
  focus (intro W hSW; go_simp; try with_reducible rfl)
  try simp only [Act.put, List.setIfInBounds_toArray, List.set_cons_zero, List.set_cons_succ]
  refine wpAnyH_done (by kernel_rfl) ?_ _
  all_goals
    go_wp2_with fail
    refine ret_cell_tmpB rfl rfl hu rfl iZ hres.out ?_
    exact ⟨_, hZe.out _, .inr (.inl ⟨2 - 1, by decide, by decide, rfl⟩), hOn⟩

set_option maxRecDepth 100000 in
set_option maxHeartbeats 2000000 in
theorem parse_kind (bs : List UInt8) (a : Option Addr) (c n : Nat) (w : World) (ea : Nat → Addr) (k : Int) (hk : nN (bs, false) 1 = k) (hs : (nB (bs, false) 1).2 = false) (hi4 : inB k 1 4 = false) (ha : ArgB w a c bs) (hn : bs.length = n) (hm : n ≤ 1000) (haf : ∀ ad, a = some ad → ∃ b o, ad = ⟨b, o, none⟩ ∧ b < w.heap.size) (H : Errs 132 errGs w ea) :
    Calls Tryd.prog 14 #[.slice a n c] w (PBad ea 7 w) := by
  obtain ⟨w1, hw1⟩ : ∃ w1, w1 = (w.alloc (.cells Tryd.zeroCells31 31)).alloc (.cells #[.slice a n c, .bool false] 66) := ⟨_, rfl⟩
  have hb1 : Below w.heap.size w w1 := by rw [hw1]; exact ((Below.refl _ _).alloc (Nat.le_refl _) _).alloc (by simp) _
  have hs1 : w1.heap.size = w.heap.size + 2 := by rw [hw1]; simp
  have hz1 : w1.heap[w.heap.size]? = some (.cells Tryd.zeroCells31 31 (0, 0)) := by rw [hw1, heapA9, if_neg (by simp), heapA9, if_pos rfl]
  have hq1 : w1.heap[w.heap.size + 1]? = some (.cells #[.slice a n c, .bool false] 66 (0, 0)) := by rw [hw1, heapA9, if_pos (by simp)]
  have hr1 : RdM w1 (w.heap.size + 1) w.heap.size (bs, false).1 (bs, false).2 := by
    refine ⟨a, c, by rw [hn]; exact hq1, ha.below hb1, fun ad e => ?_⟩
    obtain ⟨b, o, h1, h2⟩ := haf ad e
    exact ⟨b, o, h1, by omega, h2⟩
  have hn0 : ∀ W, RdM W (w.heap.size + 1) w.heap.size (bs, false).1 (bs, false).2 → Calls Tryd.prog 31 #[.pointer (some ⟨w.heap.size + 1, 0, none⟩), .int .i64 1] W fun e w2 => e = .returned (.int .i64 k) ∧ RdM w2 (w.heap.size + 1) w.heap.size (nB (bs, false) 1).1 (nB (bs, false) 1).2 ∧ Only (fun k => k = w.heap.size + 1) W w2 := by
    intro W h
    have h := number_at (w.heap.size + 1) w.heap.size (bs, false) 1 W h (by decide) (by show bs.length ≤ 1000000; omega)
    rw [hk] at h
    exact h
  have hbd := Lib.hid (build_kind k)
  have s78 : (Rc.ofKind k).list.toArray.size = 78 := by rw [List.size_toArray, Rc.len (x := Rc.ofKind k) z32_len z32_len]
  have i8 : (Tryd.prog.info? 31).map (·.size) = some (Rc.ofKind k).list.toArray.size := by rw [s78]; kernel_rfl
  have z8 : (Tryd.zeroCells31).size = (Rc.ofKind k).list.toArray.size := by rw [s78]; kernel_rfl
  have hVo := Rc.all_one (Rc.ofKind k)
  have iZ : (Tryd.prog.info? 31).map (·.size) = some (Tryd.zeroCells31).size := by kernel_rfl
  have hZo : (Tryd.zeroCells31).all (·.oneCell') = true := by rw [Rc.zeroG]; exact Rc.all_one Rc.zero
  have hu := Tryd.underlying31
  have hrk0 : ∀ (W : World) b, W.heap[b]? = some (.cells (Rc.ofKind k).list.toArray 31 (0, 0)) → W.cell? ⟨b, 0, none⟩ = some (.int .i64 k) := fun W b h => by rw [cell_of_block h]; rfl
  have hce := Lib.hid (parErrs H)
  generalize (Rc.ofKind k).list.toArray = RK at *
  have hZe : Hid (∀ v, Ending.returned (.tuple #[.agg Tryd.zeroCells31, v]) = Ending.returned (.tuple #[.agg Rc.zero.list.toArray, v])) := Lib.hid (fun v => by rw [Rc.zeroG])
  clear s78
  generalize nB (bs, false) 1 = s1 at *
  obtain ⟨q, hq⟩ : ∃ q, q = w.heap.size + 1 := ⟨_, rfl⟩
  obtain ⟨B, hBd⟩ : ∃ B, B = w.heap.size := ⟨_, rfl⟩
  replace hw1 := Lib.hid hw1
  replace hn0 := Lib.hid hn0
  replace hr1 := Lib.hid hr1
  replace hz1 := Lib.hid hz1
  replace hb1 := Lib.hid hb1
  replace H := Lib.hid H
  replace hrk0 := Lib.hid hrk0
  clear hn hm haf ha hq1 hk
  go_enter Tryd.func14, Tryd.ntmps14
  go_wp2_with fail
  rw [← hw1.out]
  with_reducible refine (hn0.out _ hr1.out).mono ?_
  rintro e wa ⟨rfl, hra, hoa⟩
  have hza := Lib.hid (hoa.heap hz1.out (by omega))
  have hsa := hoa.size
  have hOa : Only (fun k => k = w.heap.size + 1) w1 wa := hoa
  have hna : w.heap.size + 1 < wa.heap.size := by omega
  have hZp := Lib.hid (heap_alloc_new wa (.cells Tryd.zeroCells31 31))
  have hba : Below w.heap.size w wa := hb1.out.trans (hoa.below (by omega) (fun k e => by omega))
  replace hra := Lib.hid hra
  replace hba := Lib.hid hba
  clear hoa hOa
  go_wp2_with (first
    | ((with_reducible show wpList _ _ _ (Oper.mk _ (Op.build 31 _) _ _ _ _ :: _) _ _); refine wpList_buildV rfl 31 [(0, .tmp 14)] rfl [(0, .int .i64 k)] rfl _ (hbd.out _) ?_)
    | ((with_reducible show wpList _ _ _ (Oper.mk _ (Op.store 31 (.tmp 5) _) _ _ _ _ :: _) _ _); (refine wpList_store_row rfl 31 (.tmp 5) (.tmp 15) rfl wa.heap.size _ RK rfl rfl hZp i8 z8 hVo ?_); intro w3 hU3; have hP3 := Lib.hid hU3.out.here; have hb3 := Lib.hid ((Below.alloc (Below.refl wa.heap.size wa) (Nat.le_refl _) (.cells Tryd.zeroCells31 31)).trans (hU3.out.below (Nat.le_refl _))); have hr3 := Lib.hid (hra.out.only (D := fun _ => False) (Only.ofBelow hb3.out) (fun e => e) (fun k e => e.elim)); have hz3 := Lib.hid ((hb3.out.block _ (block_lt hza.out)).trans hza.out); have k0 := hrk0.out _ _ hP3.out; obtain ⟨a3, c3, hq3, _⟩ := hr3.out; rw [hs] at hq3; have j1 := cell_of_block hq3 1; have hbw3 := Lib.hid (hba.out.trans (hb3.out.mono hba.out.size)); clear hq3))
  with_reducible refine (within_any k 1 4 _).mono ?_
  rintro e w4 ⟨rfl, rfl⟩
  go_wp2_with fail
  have hd0 : Hid (Below w.heap.size w w3.drew) := Lib.hid (hbw3.out.drew)
  have hzd : Hid (w3.drew.heap[w.heap.size]? = some (.cells Tryd.zeroCells31 31 (0, 0))) := Lib.hid hz3.out
  have hcW := fun W h => (hce.out W h).1
  have hraw := True.intro
  have lkB : ∀ W : World, Below w.heap.size w W → ∀ (x : Operand) (v : Value), True → True → True → True := fun _ _ _ _ _ _ _ => trivial
  clear hraw lkB
  refine wp_region_held_drew (S := (Below w.heap.size w)) (by kernel_rfl) hd0.out (fun hOn => ?_)
  generalize World.drew w3 = wd at *
  refine wpAnyH_take (i := 0) (v := ?_) (by simp only [List.getElem?_toArray, List.getElem?_cons_zero]; rfl) (by kernel_rfl) (by kernel_rfl) (by kernel_rfl) (by exact fun _ _ _ h => h) (Or.inl ⟨by rfl, ?_⟩) hOn ?_
  rotate_left
  focus (intro W hSW; go_simp; try with_reducible rfl)
  try simp only [Act.put, List.setIfInBounds_toArray, List.set_cons_zero, List.set_cons_succ]
  refine wpAnyH_take (i := 1) (v := ?_) (by simp only [List.getElem?_toArray, List.getElem?_cons_succ, List.getElem?_cons_zero]; rfl) (by kernel_rfl) (by kernel_rfl) (by kernel_rfl) (by exact fun _ _ _ h => h) (Or.inl ⟨by rfl, ?_⟩) hOn ?_
  rotate_left
  focus (intro W hSW; go_simp; try with_reducible rfl)
  try simp only [Act.put, List.setIfInBounds_toArray, List.set_cons_zero, List.set_cons_succ]
  refine wpAnyH_ready (rs := [2]) (by kernel_rfl) (by simp) ?_
  refine AllReadyH.cons (by simp only [List.getElem?_toArray, List.getElem?_cons_succ, List.getElem?_cons_zero]; rfl) (fun Kz hKz => ?_) AllReadyH.nil
  rw [if_pos (by rfl)]
  (with_reducible refine wp_store_rowK 31 (.tmp 2) (.tmp 28) rfl w.heap.size _ Tryd.zeroCells31 rfl rfl hzd iZ rfl hZo ?_)
  intro w9 hU9
  have hS := hOn.trans (hU9.out.below (Nat.le_refl _))
  have hres := Lib.hid hU9.out.here
  refine hKz.out _ _ (by first | exact hS | exact Below.trans hOn (Below.mono hnew (Below.size hOn))) (fun hNext => ?_)
  clear hKz Kz hOn
  have hOn := hNext
  clear hNext
  try clear hnew
  try clear hS
  try simp only [Act.put]
  refine wpAnyH_take (i := 3) (v := ?_) (by simp only [List.getElem?_toArray, List.getElem?_cons_succ, List.getElem?_cons_zero]; rfl) (by kernel_rfl) (by kernel_rfl) (by kernel_rfl) (by exact fun _ _ _ h => h) (Or.inl ⟨by rfl, ?_⟩) hOn ?_
  rotate_left
  focus (intro W hSW; go_simp; try with_reducible rfl)
  try simp only [Act.put, List.setIfInBounds_toArray, List.set_cons_zero, List.set_cons_succ]
  refine wpAnyH_done (by kernel_rfl) ?_ _
  all_goals
    go_wp2_with fail
    refine ret_cell_tmpB rfl rfl hu rfl iZ hres.out ?_
    exact ⟨_, hZe.out _, .inr (.inl ⟨7 - 1, by decide, by decide, rfl⟩), hOn⟩

set_option maxRecDepth 100000 in
set_option maxHeartbeats 2000000 in
theorem parse_short (bs : List UInt8) (a : Option Addr) (c n : Nat) (w : World) (ea : Nat → Addr) (k : Int) (hk : nN (bs, false) 1 = k) (y : Rc) (s2 : List UInt8 × Bool) (hs : (nB (bs, false) 1).2 = false) (hi4 : inB k 1 4 = true) (hrest : ∀ W pp, W.heap[pp]? = some (.cells (Rc.ofKind k).list.toArray 31 (0, 0)) → RdM W (w.heap.size + 1) w.heap.size (nB (bs, false) 1).1 (nB (bs, false) 1).2 → pp ≠ w.heap.size + 1 → w.heap.size ≤ pp → Calls Tryd.prog 32 #[.pointer (some ⟨w.heap.size + 1, 0, none⟩), .pointer (some ⟨pp, 0, none⟩)] W fun e w2 => ∃ v, e = .returned v ∧ w2.heap[pp]? = some (.cells y.list.toArray 31 (0, 0)) ∧ RdM w2 (w.heap.size + 1) w.heap.size s2.1 s2.2 ∧ Only (fun k => k = pp ∨ k = w.heap.size + 1) W w2) (h2 : s2.2 = true) (ha : ArgB w a c bs) (hn : bs.length = n) (hm : n ≤ 1000) (haf : ∀ ad, a = some ad → ∃ b o, ad = ⟨b, o, none⟩ ∧ b < w.heap.size) (H : Errs 132 errGs w ea) :
    Calls Tryd.prog 14 #[.slice a n c] w (PBad ea 2 w) := by
  obtain ⟨w1, hw1⟩ : ∃ w1, w1 = (w.alloc (.cells Tryd.zeroCells31 31)).alloc (.cells #[.slice a n c, .bool false] 66) := ⟨_, rfl⟩
  have hb1 : Below w.heap.size w w1 := by rw [hw1]; exact ((Below.refl _ _).alloc (Nat.le_refl _) _).alloc (by simp) _
  have hs1 : w1.heap.size = w.heap.size + 2 := by rw [hw1]; simp
  have hz1 : w1.heap[w.heap.size]? = some (.cells Tryd.zeroCells31 31 (0, 0)) := by rw [hw1, heapA9, if_neg (by simp), heapA9, if_pos rfl]
  have hq1 : w1.heap[w.heap.size + 1]? = some (.cells #[.slice a n c, .bool false] 66 (0, 0)) := by rw [hw1, heapA9, if_pos (by simp)]
  have hr1 : RdM w1 (w.heap.size + 1) w.heap.size (bs, false).1 (bs, false).2 := by
    refine ⟨a, c, by rw [hn]; exact hq1, ha.below hb1, fun ad e => ?_⟩
    obtain ⟨b, o, h1, h2⟩ := haf ad e
    exact ⟨b, o, h1, by omega, h2⟩
  have hn0 : ∀ W, RdM W (w.heap.size + 1) w.heap.size (bs, false).1 (bs, false).2 → Calls Tryd.prog 31 #[.pointer (some ⟨w.heap.size + 1, 0, none⟩), .int .i64 1] W fun e w2 => e = .returned (.int .i64 k) ∧ RdM w2 (w.heap.size + 1) w.heap.size (nB (bs, false) 1).1 (nB (bs, false) 1).2 ∧ Only (fun k => k = w.heap.size + 1) W w2 := by
    intro W h
    have h := number_at (w.heap.size + 1) w.heap.size (bs, false) 1 W h (by decide) (by show bs.length ≤ 1000000; omega)
    rw [hk] at h
    exact h
  have hbd := Lib.hid (build_kind k)
  have s78 : (Rc.ofKind k).list.toArray.size = 78 := by rw [List.size_toArray, Rc.len (x := Rc.ofKind k) z32_len z32_len]
  have i8 : (Tryd.prog.info? 31).map (·.size) = some (Rc.ofKind k).list.toArray.size := by rw [s78]; kernel_rfl
  have z8 : (Tryd.zeroCells31).size = (Rc.ofKind k).list.toArray.size := by rw [s78]; kernel_rfl
  have hVo := Rc.all_one (Rc.ofKind k)
  have iZ : (Tryd.prog.info? 31).map (·.size) = some (Tryd.zeroCells31).size := by kernel_rfl
  have hZo : (Tryd.zeroCells31).all (·.oneCell') = true := by rw [Rc.zeroG]; exact Rc.all_one Rc.zero
  have hu := Tryd.underlying31
  have hrk0 : ∀ (W : World) b, W.heap[b]? = some (.cells (Rc.ofKind k).list.toArray 31 (0, 0)) → W.cell? ⟨b, 0, none⟩ = some (.int .i64 k) := fun W b h => by rw [cell_of_block h]; rfl
  have hce := Lib.hid (parErrs H)
  generalize (Rc.ofKind k).list.toArray = RK at *
  have hZe : Hid (∀ v, Ending.returned (.tuple #[.agg Tryd.zeroCells31, v]) = Ending.returned (.tuple #[.agg Rc.zero.list.toArray, v])) := Lib.hid (fun v => by rw [Rc.zeroG])
  clear s78
  generalize nB (bs, false) 1 = s1 at *
  obtain ⟨q, hq⟩ : ∃ q, q = w.heap.size + 1 := ⟨_, rfl⟩
  obtain ⟨B, hBd⟩ : ∃ B, B = w.heap.size := ⟨_, rfl⟩
  replace hw1 := Lib.hid hw1
  replace hn0 := Lib.hid hn0
  replace hr1 := Lib.hid hr1
  replace hz1 := Lib.hid hz1
  replace hb1 := Lib.hid hb1
  replace H := Lib.hid H
  replace hrk0 := Lib.hid hrk0
  clear hn hm haf ha hq1 hk
  replace hrest := Lib.hid hrest
  go_enter Tryd.func14, Tryd.ntmps14
  go_wp2_with fail
  rw [← hw1.out]
  with_reducible refine (hn0.out _ hr1.out).mono ?_
  rintro e wa ⟨rfl, hra, hoa⟩
  have hza := Lib.hid (hoa.heap hz1.out (by omega))
  have hsa := hoa.size
  have hOa : Only (fun k => k = w.heap.size + 1) w1 wa := hoa
  have hna : w.heap.size + 1 < wa.heap.size := by omega
  have hZp := Lib.hid (heap_alloc_new wa (.cells Tryd.zeroCells31 31))
  have hba : Below w.heap.size w wa := hb1.out.trans (hoa.below (by omega) (fun k e => by omega))
  replace hra := Lib.hid hra
  replace hba := Lib.hid hba
  clear hoa hOa
  go_wp2_with (first
    | ((with_reducible show wpList _ _ _ (Oper.mk _ (Op.build 31 _) _ _ _ _ :: _) _ _); refine wpList_buildV rfl 31 [(0, .tmp 14)] rfl [(0, .int .i64 k)] rfl _ (hbd.out _) ?_)
    | ((with_reducible show wpList _ _ _ (Oper.mk _ (Op.store 31 (.tmp 5) _) _ _ _ _ :: _) _ _); (refine wpList_store_row rfl 31 (.tmp 5) (.tmp 15) rfl wa.heap.size _ RK rfl rfl hZp i8 z8 hVo ?_); intro w3 hU3; have hP3 := Lib.hid hU3.out.here; have hb3 := Lib.hid ((Below.alloc (Below.refl wa.heap.size wa) (Nat.le_refl _) (.cells Tryd.zeroCells31 31)).trans (hU3.out.below (Nat.le_refl _))); have hr3 := Lib.hid (hra.out.only (D := fun _ => False) (Only.ofBelow hb3.out) (fun e => e) (fun k e => e.elim)); have hz3 := Lib.hid ((hb3.out.block _ (block_lt hza.out)).trans hza.out); have k0 := hrk0.out _ _ hP3.out; obtain ⟨a3, c3, hq3, _⟩ := hr3.out; rw [hs] at hq3; have j1 := cell_of_block hq3 1; have hbw3 := Lib.hid (hba.out.trans (hb3.out.mono hba.out.size)); clear hq3))
  with_reducible refine (within_any k 1 4 _).mono ?_
  rintro e w4 ⟨rfl, rfl⟩
  go_wp2_with fail
  with_reducible refine (hrest.out _ _ hP3.out hr3.out (by omega) (by omega)).mono ?_
  rintro e w5 ⟨v5, rfl, hP5, hr5, ho5⟩
  have hz5 := Lib.hid (ho5.heap hz3.out (by omega))
  have hbw5 := Lib.hid (hbw3.out.trans (ho5.below hbw3.out.size (fun k e => by omega)))
  obtain ⟨a5, c5, hq5, _⟩ := hr5
  clear j1 k0
  rw [h2] at hq5
  have j1 := cell_of_block hq5 1
  have j0 := cell_of_block hq5 0
  clear hq5 ho5
  replace hP5 := Lib.hid hP5
  have hH5 := Lib.hid (H.out.below hbw5.out)
  go_wp2_with fail
  have hd0 : Hid (Below w.heap.size w w5.drew) := Lib.hid (hbw5.out.drew)
  have hzd : Hid (w5.drew.heap[w.heap.size]? = some (.cells Tryd.zeroCells31 31 (0, 0))) := Lib.hid hz5.out
  have hcW := fun W h => (hce.out W h).2.1
  have hraw := True.intro
  have lkB : ∀ W : World, Below w.heap.size w W → ∀ (x : Operand) (v : Value), True → True → True → True := fun _ _ _ _ _ _ _ => trivial
  clear hraw lkB
  refine wp_region_held_drew (S := (Below w.heap.size w)) (by kernel_rfl) hd0.out (fun hOn => ?_)
  generalize World.drew w5 = wd at *
  refine wpAnyH_take (i := 0) (v := ?_) (by simp only [List.getElem?_toArray, List.getElem?_cons_zero]; rfl) (by kernel_rfl) (by kernel_rfl) (by kernel_rfl) (by exact fun _ _ _ h => h) (Or.inl ⟨by rfl, ?_⟩) hOn ?_
  rotate_left
  focus (intro W hSW; go_simp; try with_reducible rfl)
  try simp only [Act.put, List.setIfInBounds_toArray, List.set_cons_zero, List.set_cons_succ]
  refine wpAnyH_take (i := 1) (v := ?_) (by simp only [List.getElem?_toArray, List.getElem?_cons_succ, List.getElem?_cons_zero]; rfl) (by kernel_rfl) (by kernel_rfl) (by kernel_rfl) (by exact fun _ _ _ h => h) (Or.inl ⟨by rfl, ?_⟩) hOn ?_
  rotate_left
  focus (intro W hSW; go_simp; try with_reducible rfl)
  try simp only [Act.put, List.setIfInBounds_toArray, List.set_cons_zero, List.set_cons_succ]
  refine wpAnyH_ready (rs := [2]) (by kernel_rfl) (by simp) ?_
  refine AllReadyH.cons (by simp only [List.getElem?_toArray, List.getElem?_cons_succ, List.getElem?_cons_zero]; rfl) (fun Kz hKz => ?_) AllReadyH.nil
  rw [if_pos (by rfl)]
  (with_reducible refine wp_store_rowK 31 (.tmp 2) (.tmp 37) rfl w.heap.size _ Tryd.zeroCells31 rfl rfl hzd iZ rfl hZo ?_)
  intro w9 hU9
  have hS := hOn.trans (hU9.out.below (Nat.le_refl _))
  have hres := Lib.hid hU9.out.here
  refine hKz.out _ _ (by first | exact hS | exact Below.trans hOn (Below.mono hnew (Below.size hOn))) (fun hNext => ?_)
  clear hKz Kz hOn
  have hOn := hNext
  clear hNext
  try clear hnew
  try clear hS
  try simp only [Act.put]
  refine wpAnyH_take (i := 3) (v := ?_) (by simp only [List.getElem?_toArray, List.getElem?_cons_succ, List.getElem?_cons_zero]; rfl) (by kernel_rfl) (by kernel_rfl) (by kernel_rfl) (by exact fun _ _ _ h => h) (Or.inl ⟨by rfl, ?_⟩) hOn ?_
  rotate_left
  focus (intro W hSW; go_simp; try with_reducible rfl)
  try simp only [Act.put, List.setIfInBounds_toArray, List.set_cons_zero, List.set_cons_succ]
  refine wpAnyH_done (by kernel_rfl) ?_ _
  all_goals
    go_wp2_with fail
    refine ret_cell_tmpB rfl rfl hu rfl iZ hres.out ?_
    exact ⟨_, hZe.out _, .inr (.inl ⟨2 - 1, by decide, by decide, rfl⟩), hOn⟩

set_option maxRecDepth 100000 in
set_option maxHeartbeats 2000000 in
theorem parse_long (bs : List UInt8) (a : Option Addr) (c n : Nat) (w : World) (ea : Nat → Addr) (k : Int) (hk : nN (bs, false) 1 = k) (y : Rc) (s2 : List UInt8 × Bool) (hs : (nB (bs, false) 1).2 = false) (hi4 : inB k 1 4 = true) (hrest : ∀ W pp, W.heap[pp]? = some (.cells (Rc.ofKind k).list.toArray 31 (0, 0)) → RdM W (w.heap.size + 1) w.heap.size (nB (bs, false) 1).1 (nB (bs, false) 1).2 → pp ≠ w.heap.size + 1 → w.heap.size ≤ pp → Calls Tryd.prog 32 #[.pointer (some ⟨w.heap.size + 1, 0, none⟩), .pointer (some ⟨pp, 0, none⟩)] W fun e w2 => ∃ v, e = .returned v ∧ w2.heap[pp]? = some (.cells y.list.toArray 31 (0, 0)) ∧ RdM w2 (w.heap.size + 1) w.heap.size s2.1 s2.2 ∧ Only (fun k => k = pp ∨ k = w.heap.size + 1) W w2) (h2 : s2.2 = false) (h3 : 0 < s2.1.length) (ha : ArgB w a c bs) (hn : bs.length = n) (hm : n ≤ 1000) (haf : ∀ ad, a = some ad → ∃ b o, ad = ⟨b, o, none⟩ ∧ b < w.heap.size) (H : Errs 132 errGs w ea) :
    Calls Tryd.prog 14 #[.slice a n c] w (PBad ea 3 w) := by
  obtain ⟨w1, hw1⟩ : ∃ w1, w1 = (w.alloc (.cells Tryd.zeroCells31 31)).alloc (.cells #[.slice a n c, .bool false] 66) := ⟨_, rfl⟩
  have hb1 : Below w.heap.size w w1 := by rw [hw1]; exact ((Below.refl _ _).alloc (Nat.le_refl _) _).alloc (by simp) _
  have hs1 : w1.heap.size = w.heap.size + 2 := by rw [hw1]; simp
  have hz1 : w1.heap[w.heap.size]? = some (.cells Tryd.zeroCells31 31 (0, 0)) := by rw [hw1, heapA9, if_neg (by simp), heapA9, if_pos rfl]
  have hq1 : w1.heap[w.heap.size + 1]? = some (.cells #[.slice a n c, .bool false] 66 (0, 0)) := by rw [hw1, heapA9, if_pos (by simp)]
  have hr1 : RdM w1 (w.heap.size + 1) w.heap.size (bs, false).1 (bs, false).2 := by
    refine ⟨a, c, by rw [hn]; exact hq1, ha.below hb1, fun ad e => ?_⟩
    obtain ⟨b, o, h1, h2⟩ := haf ad e
    exact ⟨b, o, h1, by omega, h2⟩
  have hn0 : ∀ W, RdM W (w.heap.size + 1) w.heap.size (bs, false).1 (bs, false).2 → Calls Tryd.prog 31 #[.pointer (some ⟨w.heap.size + 1, 0, none⟩), .int .i64 1] W fun e w2 => e = .returned (.int .i64 k) ∧ RdM w2 (w.heap.size + 1) w.heap.size (nB (bs, false) 1).1 (nB (bs, false) 1).2 ∧ Only (fun k => k = w.heap.size + 1) W w2 := by
    intro W h
    have h := number_at (w.heap.size + 1) w.heap.size (bs, false) 1 W h (by decide) (by show bs.length ≤ 1000000; omega)
    rw [hk] at h
    exact h
  have hbd := Lib.hid (build_kind k)
  have s78 : (Rc.ofKind k).list.toArray.size = 78 := by rw [List.size_toArray, Rc.len (x := Rc.ofKind k) z32_len z32_len]
  have i8 : (Tryd.prog.info? 31).map (·.size) = some (Rc.ofKind k).list.toArray.size := by rw [s78]; kernel_rfl
  have z8 : (Tryd.zeroCells31).size = (Rc.ofKind k).list.toArray.size := by rw [s78]; kernel_rfl
  have hVo := Rc.all_one (Rc.ofKind k)
  have iZ : (Tryd.prog.info? 31).map (·.size) = some (Tryd.zeroCells31).size := by kernel_rfl
  have hZo : (Tryd.zeroCells31).all (·.oneCell') = true := by rw [Rc.zeroG]; exact Rc.all_one Rc.zero
  have hu := Tryd.underlying31
  have hrk0 : ∀ (W : World) b, W.heap[b]? = some (.cells (Rc.ofKind k).list.toArray 31 (0, 0)) → W.cell? ⟨b, 0, none⟩ = some (.int .i64 k) := fun W b h => by rw [cell_of_block h]; rfl
  have hce := Lib.hid (parErrs H)
  generalize (Rc.ofKind k).list.toArray = RK at *
  have hZe : Hid (∀ v, Ending.returned (.tuple #[.agg Tryd.zeroCells31, v]) = Ending.returned (.tuple #[.agg Rc.zero.list.toArray, v])) := Lib.hid (fun v => by rw [Rc.zeroG])
  clear s78
  generalize nB (bs, false) 1 = s1 at *
  obtain ⟨q, hq⟩ : ∃ q, q = w.heap.size + 1 := ⟨_, rfl⟩
  obtain ⟨B, hBd⟩ : ∃ B, B = w.heap.size := ⟨_, rfl⟩
  replace hw1 := Lib.hid hw1
  replace hn0 := Lib.hid hn0
  replace hr1 := Lib.hid hr1
  replace hz1 := Lib.hid hz1
  replace hb1 := Lib.hid hb1
  replace H := Lib.hid H
  replace hrk0 := Lib.hid hrk0
  clear hn hm haf ha hq1 hk
  replace hrest := Lib.hid hrest
  go_enter Tryd.func14, Tryd.ntmps14
  go_wp2_with fail
  rw [← hw1.out]
  with_reducible refine (hn0.out _ hr1.out).mono ?_
  rintro e wa ⟨rfl, hra, hoa⟩
  have hza := Lib.hid (hoa.heap hz1.out (by omega))
  have hsa := hoa.size
  have hOa : Only (fun k => k = w.heap.size + 1) w1 wa := hoa
  have hna : w.heap.size + 1 < wa.heap.size := by omega
  have hZp := Lib.hid (heap_alloc_new wa (.cells Tryd.zeroCells31 31))
  have hba : Below w.heap.size w wa := hb1.out.trans (hoa.below (by omega) (fun k e => by omega))
  replace hra := Lib.hid hra
  replace hba := Lib.hid hba
  clear hoa hOa
  go_wp2_with (first
    | ((with_reducible show wpList _ _ _ (Oper.mk _ (Op.build 31 _) _ _ _ _ :: _) _ _); refine wpList_buildV rfl 31 [(0, .tmp 14)] rfl [(0, .int .i64 k)] rfl _ (hbd.out _) ?_)
    | ((with_reducible show wpList _ _ _ (Oper.mk _ (Op.store 31 (.tmp 5) _) _ _ _ _ :: _) _ _); (refine wpList_store_row rfl 31 (.tmp 5) (.tmp 15) rfl wa.heap.size _ RK rfl rfl hZp i8 z8 hVo ?_); intro w3 hU3; have hP3 := Lib.hid hU3.out.here; have hb3 := Lib.hid ((Below.alloc (Below.refl wa.heap.size wa) (Nat.le_refl _) (.cells Tryd.zeroCells31 31)).trans (hU3.out.below (Nat.le_refl _))); have hr3 := Lib.hid (hra.out.only (D := fun _ => False) (Only.ofBelow hb3.out) (fun e => e) (fun k e => e.elim)); have hz3 := Lib.hid ((hb3.out.block _ (block_lt hza.out)).trans hza.out); have k0 := hrk0.out _ _ hP3.out; obtain ⟨a3, c3, hq3, _⟩ := hr3.out; rw [hs] at hq3; have j1 := cell_of_block hq3 1; have hbw3 := Lib.hid (hba.out.trans (hb3.out.mono hba.out.size)); clear hq3))
  with_reducible refine (within_any k 1 4 _).mono ?_
  rintro e w4 ⟨rfl, rfl⟩
  go_wp2_with fail
  with_reducible refine (hrest.out _ _ hP3.out hr3.out (by omega) (by omega)).mono ?_
  rintro e w5 ⟨v5, rfl, hP5, hr5, ho5⟩
  have hz5 := Lib.hid (ho5.heap hz3.out (by omega))
  have hbw5 := Lib.hid (hbw3.out.trans (ho5.below hbw3.out.size (fun k e => by omega)))
  obtain ⟨a5, c5, hq5, _⟩ := hr5
  clear j1 k0
  rw [h2] at hq5
  have hlt : (0 : Int) < (s2.1.length : Int) := by omega
  generalize (s2.1.length : Nat) = L2 at *
  have j1 := cell_of_block hq5 1
  have j0 := cell_of_block hq5 0
  clear hq5 ho5
  replace hP5 := Lib.hid hP5
  have hH5 := Lib.hid (H.out.below hbw5.out)
  go_wp2_with fail
  have hd0 : Hid (Below w.heap.size w w5.drew) := Lib.hid (hbw5.out.drew)
  have hzd : Hid (w5.drew.heap[w.heap.size]? = some (.cells Tryd.zeroCells31 31 (0, 0))) := Lib.hid hz5.out
  have hcW := fun W h => (hce.out W h).2.2
  have hraw := True.intro
  have lkB : ∀ W : World, Below w.heap.size w W → ∀ (x : Operand) (v : Value), True → True → True → True := fun _ _ _ _ _ _ _ => trivial
  clear hraw lkB
  refine wp_region_held_drew (S := (Below w.heap.size w)) (by kernel_rfl) hd0.out (fun hOn => ?_)
  generalize World.drew w5 = wd at *
  refine wpAnyH_take (i := 0) (v := ?_) (by simp only [List.getElem?_toArray, List.getElem?_cons_zero]; rfl) (by kernel_rfl) (by kernel_rfl) (by kernel_rfl) (by exact fun _ _ _ h => h) (Or.inl ⟨by rfl, ?_⟩) hOn ?_
  rotate_left
  focus (intro W hSW; go_simp; try with_reducible rfl)
  try simp only [Act.put, List.setIfInBounds_toArray, List.set_cons_zero, List.set_cons_succ]
  refine wpAnyH_take (i := 1) (v := ?_) (by simp only [List.getElem?_toArray, List.getElem?_cons_succ, List.getElem?_cons_zero]; rfl) (by kernel_rfl) (by kernel_rfl) (by kernel_rfl) (by exact fun _ _ _ h => h) (Or.inl ⟨by rfl, ?_⟩) hOn ?_
  rotate_left
  focus (intro W hSW; go_simp; try with_reducible rfl)
  try simp only [Act.put, List.setIfInBounds_toArray, List.set_cons_zero, List.set_cons_succ]
  refine wpAnyH_ready (rs := [2]) (by kernel_rfl) (by simp) ?_
  refine AllReadyH.cons (by simp only [List.getElem?_toArray, List.getElem?_cons_succ, List.getElem?_cons_zero]; rfl) (fun Kz hKz => ?_) AllReadyH.nil
  rw [if_pos (by rfl)]
  (with_reducible refine wp_store_rowK 31 (.tmp 2) (.tmp 46) rfl w.heap.size _ Tryd.zeroCells31 rfl rfl hzd iZ rfl hZo ?_)
  intro w9 hU9
  have hS := hOn.trans (hU9.out.below (Nat.le_refl _))
  have hres := Lib.hid hU9.out.here
  refine hKz.out _ _ (by first | exact hS | exact Below.trans hOn (Below.mono hnew (Below.size hOn))) (fun hNext => ?_)
  clear hKz Kz hOn
  have hOn := hNext
  clear hNext
  try clear hnew
  try clear hS
  try simp only [Act.put]
  refine wpAnyH_take (i := 3) (v := ?_) (by simp only [List.getElem?_toArray, List.getElem?_cons_succ, List.getElem?_cons_zero]; rfl) (by kernel_rfl) (by kernel_rfl) (by kernel_rfl) (by exact fun _ _ _ h => h) (Or.inl ⟨by rfl, ?_⟩) hOn ?_
  rotate_left
  focus (intro W hSW; go_simp; try with_reducible rfl)
  try simp only [Act.put, List.setIfInBounds_toArray, List.set_cons_zero, List.set_cons_succ]
  refine wpAnyH_done (by kernel_rfl) ?_ _
  all_goals
    go_wp2_with fail
    refine ret_cell_tmpB rfl rfl hu rfl iZ hres.out ?_
    exact ⟨_, hZe.out _, .inr (.inl ⟨3 - 1, by decide, by decide, rfl⟩), hOn⟩

set_option maxRecDepth 100000 in
set_option maxHeartbeats 2000000 in
theorem parse_chk (bs : List UInt8) (a : Option Addr) (c n : Nat) (w : World) (ea : Nat → Addr) (k : Int) (hk : nN (bs, false) 1 = k) (y : Rc) (hy : y.Ok) (s2 : List UInt8 × Bool) (hs : (nB (bs, false) 1).2 = false) (hi4 : inB k 1 4 = true) (hrest : ∀ W pp, W.heap[pp]? = some (.cells (Rc.ofKind k).list.toArray 31 (0, 0)) → RdM W (w.heap.size + 1) w.heap.size (nB (bs, false) 1).1 (nB (bs, false) 1).2 → pp ≠ w.heap.size + 1 → w.heap.size ≤ pp → Calls Tryd.prog 32 #[.pointer (some ⟨w.heap.size + 1, 0, none⟩), .pointer (some ⟨pp, 0, none⟩)] W fun e w2 => e = .returned (.slice none 0 0) ∧ w2.heap[pp]? = some (.cells y.list.toArray 31 (0, 0)) ∧ RdM w2 (w.heap.size + 1) w.heap.size s2.1 s2.2 ∧ Only (fun k => k = pp ∨ k = w.heap.size + 1) W w2) (h2 : s2.2 = false) (h3 : s2.1.length = 0) (hc : y.chk ≠ 0) (ha : ArgB w a c bs) (hn : bs.length = n) (hm : n ≤ 1000) (haf : ∀ ad, a = some ad → ∃ b o, ad = ⟨b, o, none⟩ ∧ b < w.heap.size) (H : Errs 132 errGs w ea) :
    Calls Tryd.prog 14 #[.slice a n c] w (PBad ea y.chk w) := by
  obtain ⟨w1, hw1⟩ : ∃ w1, w1 = (w.alloc (.cells Tryd.zeroCells31 31)).alloc (.cells #[.slice a n c, .bool false] 66) := ⟨_, rfl⟩
  have hb1 : Below w.heap.size w w1 := by rw [hw1]; exact ((Below.refl _ _).alloc (Nat.le_refl _) _).alloc (by simp) _
  have hs1 : w1.heap.size = w.heap.size + 2 := by rw [hw1]; simp
  have hz1 : w1.heap[w.heap.size]? = some (.cells Tryd.zeroCells31 31 (0, 0)) := by rw [hw1, heapA9, if_neg (by simp), heapA9, if_pos rfl]
  have hq1 : w1.heap[w.heap.size + 1]? = some (.cells #[.slice a n c, .bool false] 66 (0, 0)) := by rw [hw1, heapA9, if_pos (by simp)]
  have hr1 : RdM w1 (w.heap.size + 1) w.heap.size (bs, false).1 (bs, false).2 := by
    refine ⟨a, c, by rw [hn]; exact hq1, ha.below hb1, fun ad e => ?_⟩
    obtain ⟨b, o, h1, h2⟩ := haf ad e
    exact ⟨b, o, h1, by omega, h2⟩
  have hn0 : ∀ W, RdM W (w.heap.size + 1) w.heap.size (bs, false).1 (bs, false).2 → Calls Tryd.prog 31 #[.pointer (some ⟨w.heap.size + 1, 0, none⟩), .int .i64 1] W fun e w2 => e = .returned (.int .i64 k) ∧ RdM w2 (w.heap.size + 1) w.heap.size (nB (bs, false) 1).1 (nB (bs, false) 1).2 ∧ Only (fun k => k = w.heap.size + 1) W w2 := by
    intro W h
    have h := number_at (w.heap.size + 1) w.heap.size (bs, false) 1 W h (by decide) (by show bs.length ≤ 1000000; omega)
    rw [hk] at h
    exact h
  have hbd := Lib.hid (build_kind k)
  have s78 : (Rc.ofKind k).list.toArray.size = 78 := by rw [List.size_toArray, Rc.len (x := Rc.ofKind k) z32_len z32_len]
  have i8 : (Tryd.prog.info? 31).map (·.size) = some (Rc.ofKind k).list.toArray.size := by rw [s78]; kernel_rfl
  have z8 : (Tryd.zeroCells31).size = (Rc.ofKind k).list.toArray.size := by rw [s78]; kernel_rfl
  have hVo := Rc.all_one (Rc.ofKind k)
  have iZ : (Tryd.prog.info? 31).map (·.size) = some (Tryd.zeroCells31).size := by kernel_rfl
  have hZo : (Tryd.zeroCells31).all (·.oneCell') = true := by rw [Rc.zeroG]; exact Rc.all_one Rc.zero
  have hu := Tryd.underlying31
  have hrk0 : ∀ (W : World) b, W.heap[b]? = some (.cells (Rc.ofKind k).list.toArray 31 (0, 0)) → W.cell? ⟨b, 0, none⟩ = some (.int .i64 k) := fun W b h => by rw [cell_of_block h]; rfl
  have hce := Lib.hid (parErrs H)
  have iX : (Tryd.prog.info? 31).map (·.size) = some y.list.toArray.size := by rw [Rc.size hy]; kernel_rfl
  have hck : ∀ W, Errs 132 errGs W ea → Calls Tryd.prog 13 #[.agg y.list.toArray] W (fun e w2 => ∃ v, e = .returned v ∧ ErrIs ea w2 v y.chk ∧ Below W.heap.size W w2) := fun W h => check_any y hy ea W h
  generalize y.chk = N at *
  generalize y.list.toArray = X at *
  replace hck := Lib.hid hck
  clear hy
  generalize (Rc.ofKind k).list.toArray = RK at *
  have hZe : Hid (∀ v, Ending.returned (.tuple #[.agg Tryd.zeroCells31, v]) = Ending.returned (.tuple #[.agg Rc.zero.list.toArray, v])) := Lib.hid (fun v => by rw [Rc.zeroG])
  clear s78
  generalize nB (bs, false) 1 = s1 at *
  obtain ⟨q, hq⟩ : ∃ q, q = w.heap.size + 1 := ⟨_, rfl⟩
  obtain ⟨B, hBd⟩ : ∃ B, B = w.heap.size := ⟨_, rfl⟩
  replace hw1 := Lib.hid hw1
  replace hn0 := Lib.hid hn0
  replace hr1 := Lib.hid hr1
  replace hz1 := Lib.hid hz1
  replace hb1 := Lib.hid hb1
  replace H := Lib.hid H
  replace hrk0 := Lib.hid hrk0
  clear hn hm haf ha hq1 hk
  replace hrest := Lib.hid hrest
  go_enter Tryd.func14, Tryd.ntmps14
  go_wp2_with fail
  rw [← hw1.out]
  with_reducible refine (hn0.out _ hr1.out).mono ?_
  rintro e wa ⟨rfl, hra, hoa⟩
  have hza := Lib.hid (hoa.heap hz1.out (by omega))
  have hsa := hoa.size
  have hOa : Only (fun k => k = w.heap.size + 1) w1 wa := hoa
  have hna : w.heap.size + 1 < wa.heap.size := by omega
  have hZp := Lib.hid (heap_alloc_new wa (.cells Tryd.zeroCells31 31))
  have hba : Below w.heap.size w wa := hb1.out.trans (hoa.below (by omega) (fun k e => by omega))
  replace hra := Lib.hid hra
  replace hba := Lib.hid hba
  clear hoa hOa
  go_wp2_with (first
    | ((with_reducible show wpList _ _ _ (Oper.mk _ (Op.build 31 _) _ _ _ _ :: _) _ _); refine wpList_buildV rfl 31 [(0, .tmp 14)] rfl [(0, .int .i64 k)] rfl _ (hbd.out _) ?_)
    | ((with_reducible show wpList _ _ _ (Oper.mk _ (Op.store 31 (.tmp 5) _) _ _ _ _ :: _) _ _); (refine wpList_store_row rfl 31 (.tmp 5) (.tmp 15) rfl wa.heap.size _ RK rfl rfl hZp i8 z8 hVo ?_); intro w3 hU3; have hP3 := Lib.hid hU3.out.here; have hb3 := Lib.hid ((Below.alloc (Below.refl wa.heap.size wa) (Nat.le_refl _) (.cells Tryd.zeroCells31 31)).trans (hU3.out.below (Nat.le_refl _))); have hr3 := Lib.hid (hra.out.only (D := fun _ => False) (Only.ofBelow hb3.out) (fun e => e) (fun k e => e.elim)); have hz3 := Lib.hid ((hb3.out.block _ (block_lt hza.out)).trans hza.out); have k0 := hrk0.out _ _ hP3.out; obtain ⟨a3, c3, hq3, _⟩ := hr3.out; rw [hs] at hq3; have j1 := cell_of_block hq3 1; have hbw3 := Lib.hid (hba.out.trans (hb3.out.mono hba.out.size)); clear hq3))
  with_reducible refine (within_any k 1 4 _).mono ?_
  rintro e w4 ⟨rfl, rfl⟩
  go_wp2_with fail
  with_reducible refine (hrest.out _ _ hP3.out hr3.out (by omega) (by omega)).mono ?_
  rintro e w5 ⟨rfl, hP5, hr5, ho5⟩
  have hz5 := Lib.hid (ho5.heap hz3.out (by omega))
  have hbw5 := Lib.hid (hbw3.out.trans (ho5.below hbw3.out.size (fun k e => by omega)))
  obtain ⟨a5, c5, hq5, _⟩ := hr5
  clear j1 k0
  rw [h2] at hq5
  rw [h3] at hq5
  have j1 := cell_of_block hq5 1
  have j0 := cell_of_block hq5 0
  clear hq5 ho5
  replace hP5 := Lib.hid hP5
  have hH5 := Lib.hid (H.out.below hbw5.out)
  go_wp2_with (with_reducible refine wpList_load_row rfl 31 (.tmp 5) rfl wa.heap.size X _ rfl hP5 hu rfl iX ?_)
  with_reducible refine (hck.out _ hH5.out).mono ?_
  rintro e w6 ⟨v6, rfl, hv6, hb6⟩
  have hz6 := Lib.hid ((hb6.block _ (block_lt hz5.out)).trans hz5.out)
  have hbw6 := Lib.hid (hbw5.out.trans (hb6.mono hbw5.out.size))
  have hv6a := Lib.hid hv6
  have hq1 := hv6.neq
  have hq2 := hv6.guard
  have hnn : (N != 0) = true := by simpa using hc
  rw [hnn] at hq1
  clear hb6 hv6 hnn
  go_wp2_with (first
    | ((with_reducible show wpList _ _ _ (Oper.mk _ (Op.store 31 (.tmp 2) _) _ _ _ _ :: _) _ _); (refine wpList_store_row rfl 31 (.tmp 2) (.tmp 66) rfl w.heap.size _ Tryd.zeroCells31 rfl rfl hz6 iZ rfl hZo ?_); intro w10 hU10))
  refine ret_cell_tmpB rfl rfl hu rfl iZ hU10.out.here ?_
  exact ⟨v6, hZe.out v6, hv6a.out.upd hU10.out hz6.out (by decide), hbw6.out.trans (hU10.out.below (Nat.le_refl _))⟩

set_option maxRecDepth 100000 in
set_option maxHeartbeats 2000000 in
theorem parse_par (bs : List UInt8) (a : Option Addr) (c n : Nat) (w : World) (ea : Nat → Addr) (k : Int) (hk : nN (bs, false) 1 = k) (y : Rc) (s2 : List UInt8 × Bool) (xs : List UInt8) (i : Nat) (hs : (nB (bs, false) 1).2 = false) (hi4 : inB k 1 4 = true) (hrest : ∀ W pp, W.heap[pp]? = some (.cells (Rc.ofKind k).list.toArray 31 (0, 0)) → RdM W (w.heap.size + 1) w.heap.size (nB (bs, false) 1).1 (nB (bs, false) 1).2 → pp ≠ w.heap.size + 1 → w.heap.size ≤ pp → Calls Tryd.prog 32 #[.pointer (some ⟨w.heap.size + 1, 0, none⟩), .pointer (some ⟨pp, 0, none⟩)] W fun e w2 => ∃ g cc, e = .returned (.slice (some ⟨g, 0, none⟩) 9 cc) ∧ ArgB w2 (some ⟨g, 0, none⟩) cc xs ∧ w2.heap[pp]? = some (.cells y.list.toArray 31 (0, 0)) ∧ RdM w2 (w.heap.size + 1) w.heap.size s2.1 s2.2 ∧ Only (fun k => k = pp ∨ k = w.heap.size + 1) W w2) (h2 : s2.2 = false) (h3 : s2.1.length = 0) (hpar : ∀ W g cc, ArgB W (some ⟨g, 0, none⟩) cc xs → Errs 132 errGs W ea → Calls Tryd.prog 33 #[.slice (some ⟨g, 0, none⟩) 9 cc] W fun e w2 => ∃ v, e = .returned (.tuple #[.agg #[.int .i64 0, .int .i64 0, .int .i64 0, .int .i64 0, .int .i64 0, .int .i64 0], v]) ∧ ErrIs ea w2 v (i + 1) ∧ Below W.heap.size W w2) (ha : ArgB w a c bs) (hn : bs.length = n) (hm : n ≤ 1000) (haf : ∀ ad, a = some ad → ∃ b o, ad = ⟨b, o, none⟩ ∧ b < w.heap.size) (H : Errs 132 errGs w ea) :
    Calls Tryd.prog 14 #[.slice a n c] w (PBad ea (i + 1) w) := by
  obtain ⟨w1, hw1⟩ : ∃ w1, w1 = (w.alloc (.cells Tryd.zeroCells31 31)).alloc (.cells #[.slice a n c, .bool false] 66) := ⟨_, rfl⟩
  have hb1 : Below w.heap.size w w1 := by rw [hw1]; exact ((Below.refl _ _).alloc (Nat.le_refl _) _).alloc (by simp) _
  have hs1 : w1.heap.size = w.heap.size + 2 := by rw [hw1]; simp
  have hz1 : w1.heap[w.heap.size]? = some (.cells Tryd.zeroCells31 31 (0, 0)) := by rw [hw1, heapA9, if_neg (by simp), heapA9, if_pos rfl]
  have hq1 : w1.heap[w.heap.size + 1]? = some (.cells #[.slice a n c, .bool false] 66 (0, 0)) := by rw [hw1, heapA9, if_pos (by simp)]
  have hr1 : RdM w1 (w.heap.size + 1) w.heap.size (bs, false).1 (bs, false).2 := by
    refine ⟨a, c, by rw [hn]; exact hq1, ha.below hb1, fun ad e => ?_⟩
    obtain ⟨b, o, h1, h2⟩ := haf ad e
    exact ⟨b, o, h1, by omega, h2⟩
  have hn0 : ∀ W, RdM W (w.heap.size + 1) w.heap.size (bs, false).1 (bs, false).2 → Calls Tryd.prog 31 #[.pointer (some ⟨w.heap.size + 1, 0, none⟩), .int .i64 1] W fun e w2 => e = .returned (.int .i64 k) ∧ RdM w2 (w.heap.size + 1) w.heap.size (nB (bs, false) 1).1 (nB (bs, false) 1).2 ∧ Only (fun k => k = w.heap.size + 1) W w2 := by
    intro W h
    have h := number_at (w.heap.size + 1) w.heap.size (bs, false) 1 W h (by decide) (by show bs.length ≤ 1000000; omega)
    rw [hk] at h
    exact h
  have hbd := Lib.hid (build_kind k)
  have s78 : (Rc.ofKind k).list.toArray.size = 78 := by rw [List.size_toArray, Rc.len (x := Rc.ofKind k) z32_len z32_len]
  have i8 : (Tryd.prog.info? 31).map (·.size) = some (Rc.ofKind k).list.toArray.size := by rw [s78]; kernel_rfl
  have z8 : (Tryd.zeroCells31).size = (Rc.ofKind k).list.toArray.size := by rw [s78]; kernel_rfl
  have hVo := Rc.all_one (Rc.ofKind k)
  have iZ : (Tryd.prog.info? 31).map (·.size) = some (Tryd.zeroCells31).size := by kernel_rfl
  have hZo : (Tryd.zeroCells31).all (·.oneCell') = true := by rw [Rc.zeroG]; exact Rc.all_one Rc.zero
  have hu := Tryd.underlying31
  have hrk0 : ∀ (W : World) b, W.heap[b]? = some (.cells (Rc.ofKind k).list.toArray 31 (0, 0)) → W.cell? ⟨b, 0, none⟩ = some (.int .i64 k) := fun W b h => by rw [cell_of_block h]; rfl
  have hce := Lib.hid (parErrs H)
  obtain ⟨PP, hPP⟩ : ∃ PP : Array Value, PP = #[.int .i64 0, .int .i64 0, .int .i64 0, .int .i64 0, .int .i64 0, .int .i64 0] := ⟨_, rfl⟩
  rw [← hPP] at hpar
  have ip : (Tryd.prog.info? 27).map (·.size) = some PP.size := by rw [hPP]; kernel_rfl
  have zp : (#[.int .i64 0, .int .i64 0, .int .i64 0, .int .i64 0, .int .i64 0, .int .i64 0] : Array Value).size = PP.size := by rw [hPP]
  have op : PP.all (·.oneCell') = true := by rw [hPP]; simp [Value.oneCell']
  clear hPP
  replace hpar := Lib.hid hpar
  generalize (Rc.ofKind k).list.toArray = RK at *
  have hZe : Hid (∀ v, Ending.returned (.tuple #[.agg Tryd.zeroCells31, v]) = Ending.returned (.tuple #[.agg Rc.zero.list.toArray, v])) := Lib.hid (fun v => by rw [Rc.zeroG])
  clear s78
  generalize nB (bs, false) 1 = s1 at *
  obtain ⟨q, hq⟩ : ∃ q, q = w.heap.size + 1 := ⟨_, rfl⟩
  obtain ⟨B, hBd⟩ : ∃ B, B = w.heap.size := ⟨_, rfl⟩
  replace hw1 := Lib.hid hw1
  replace hn0 := Lib.hid hn0
  replace hr1 := Lib.hid hr1
  replace hz1 := Lib.hid hz1
  replace hb1 := Lib.hid hb1
  replace H := Lib.hid H
  replace hrk0 := Lib.hid hrk0
  clear hn hm haf ha hq1 hk
  replace hrest := Lib.hid hrest
  go_enter Tryd.func14, Tryd.ntmps14
  go_wp2_with fail
  rw [← hw1.out]
  with_reducible refine (hn0.out _ hr1.out).mono ?_
  rintro e wa ⟨rfl, hra, hoa⟩
  have hza := Lib.hid (hoa.heap hz1.out (by omega))
  have hsa := hoa.size
  have hOa : Only (fun k => k = w.heap.size + 1) w1 wa := hoa
  have hna : w.heap.size + 1 < wa.heap.size := by omega
  have hZp := Lib.hid (heap_alloc_new wa (.cells Tryd.zeroCells31 31))
  have hba : Below w.heap.size w wa := hb1.out.trans (hoa.below (by omega) (fun k e => by omega))
  replace hra := Lib.hid hra
  replace hba := Lib.hid hba
  clear hoa hOa
  go_wp2_with (first
    | ((with_reducible show wpList _ _ _ (Oper.mk _ (Op.build 31 _) _ _ _ _ :: _) _ _); refine wpList_buildV rfl 31 [(0, .tmp 14)] rfl [(0, .int .i64 k)] rfl _ (hbd.out _) ?_)
    | ((with_reducible show wpList _ _ _ (Oper.mk _ (Op.store 31 (.tmp 5) _) _ _ _ _ :: _) _ _); (refine wpList_store_row rfl 31 (.tmp 5) (.tmp 15) rfl wa.heap.size _ RK rfl rfl hZp i8 z8 hVo ?_); intro w3 hU3; have hP3 := Lib.hid hU3.out.here; have hb3 := Lib.hid ((Below.alloc (Below.refl wa.heap.size wa) (Nat.le_refl _) (.cells Tryd.zeroCells31 31)).trans (hU3.out.below (Nat.le_refl _))); have hr3 := Lib.hid (hra.out.only (D := fun _ => False) (Only.ofBelow hb3.out) (fun e => e) (fun k e => e.elim)); have hz3 := Lib.hid ((hb3.out.block _ (block_lt hza.out)).trans hza.out); have k0 := hrk0.out _ _ hP3.out; obtain ⟨a3, c3, hq3, _⟩ := hr3.out; rw [hs] at hq3; have j1 := cell_of_block hq3 1; have hbw3 := Lib.hid (hba.out.trans (hb3.out.mono hba.out.size)); clear hq3))
  with_reducible refine (within_any k 1 4 _).mono ?_
  rintro e w4 ⟨rfl, rfl⟩
  go_wp2_with fail
  with_reducible refine (hrest.out _ _ hP3.out hr3.out (by omega) (by omega)).mono ?_
  rintro e w5 ⟨gp, cp, rfl, hgp, hP5, hr5, ho5⟩
  have hz5 := Lib.hid (ho5.heap hz3.out (by omega))
  have hbw5 := Lib.hid (hbw3.out.trans (ho5.below hbw3.out.size (fun k e => by omega)))
  obtain ⟨a5, c5, hq5, _⟩ := hr5
  clear j1 k0
  rw [h2] at hq5
  rw [h3] at hq5
  have j1 := cell_of_block hq5 1
  have j0 := cell_of_block hq5 0
  clear hq5 ho5
  replace hP5 := Lib.hid hP5
  have hH5 := Lib.hid (H.out.below hbw5.out)
  replace hgp := Lib.hid hgp
  have hnl := fun W => @Lib.run_eql_slice_nil Tryd.prog W 36 5 (some ⟨gp, 0, none⟩) 9 cp 0 0 Tryd.underlying36
  go_wp2_with fail
  with_reducible refine (hpar.out _ _ _ hgp.out hH5.out).mono ?_
  rintro e w6 ⟨v6, rfl, hv6, hb6⟩
  have hz6 := Lib.hid ((hb6.block _ (block_lt hz5.out)).trans hz5.out)
  have hbw6 := Lib.hid (hbw5.out.trans (hb6.mono hbw5.out.size))
  have hv6a := Lib.hid hv6
  have hs6 : w.heap.size ≤ w6.heap.size := hbw6.out.size
  have hq1 := hv6.neq
  have hq2 := hv6.guard
  have hnn : ((i + 1) != 0) = true := by simp
  rw [hnn] at hq1
  clear hb6 j0 j1 hv6 hnn
  have hZ7 := Lib.hid (heap_alloc_new w6 (.cells #[.int .i64 0, .int .i64 0, .int .i64 0, .int .i64 0, .int .i64 0, .int .i64 0] 27))
  go_wp2_with (first
    | ((with_reducible show wpList _ _ _ (Oper.mk _ (Op.store 27 (.tmp 7) _) _ _ _ _ :: _) _ _); (refine wpList_store_row rfl 27 (.tmp 7) (.tmp 54) rfl w6.heap.size _ PP rfl rfl hZ7 ip zp op ?_); intro w8 hU8; have hb8 := Lib.hid ((Below.alloc (Below.refl w6.heap.size w6) (Nat.le_refl _) _).trans (hU8.out.below (Nat.le_refl _))); have hz8 := Lib.hid ((hb8.out.block _ (block_lt hz6.out)).trans hz6.out); have hbw8 := Lib.hid (hbw6.out.trans (hb8.out.mono hbw6.out.size)); have hv8 := Lib.hid (hv6a.out.below hb8.out))
    | ((with_reducible show wpList _ _ _ (Oper.mk _ (Op.store 31 (.tmp 2) _) _ _ _ _ :: _) _ _); (refine wpList_store_row rfl 31 (.tmp 2) (.tmp 58) rfl w.heap.size _ Tryd.zeroCells31 rfl rfl hz8 iZ rfl hZo ?_); intro w10 hU10))
  refine ret_cell_tmpB rfl rfl hu rfl iZ hU10.out.here ?_
  exact ⟨v6, hZe.out v6, hv8.out.upd hU10.out hz8.out (by decide), hbw8.out.trans (hU10.out.below (Nat.le_refl _))⟩

set_option maxRecDepth 100000 in
set_option maxHeartbeats 2000000 in
theorem parse_chk1 (bs : List UInt8) (a : Option Addr) (c n : Nat) (w : World) (ea : Nat → Addr) (k : Int) (hk : nN (bs, false) 1 = k) (y : Rc) (hy : y.Ok) (y0 : Rc) (hy0 : y0.Ok) (hyp : y = { y0 with p := y.p }) (s2 : List UInt8 × Bool) (xs : List UInt8) (hs : (nB (bs, false) 1).2 = false) (hi4 : inB k 1 4 = true) (hrest : ∀ W pp, W.heap[pp]? = some (.cells (Rc.ofKind k).list.toArray 31 (0, 0)) → RdM W (w.heap.size + 1) w.heap.size (nB (bs, false) 1).1 (nB (bs, false) 1).2 → pp ≠ w.heap.size + 1 → w.heap.size ≤ pp → Calls Tryd.prog 32 #[.pointer (some ⟨w.heap.size + 1, 0, none⟩), .pointer (some ⟨pp, 0, none⟩)] W fun e w2 => ∃ g cc, e = .returned (.slice (some ⟨g, 0, none⟩) 9 cc) ∧ ArgB w2 (some ⟨g, 0, none⟩) cc xs ∧ w2.heap[pp]? = some (.cells y0.list.toArray 31 (0, 0)) ∧ RdM w2 (w.heap.size + 1) w.heap.size s2.1 s2.2 ∧ Only (fun k => k = pp ∨ k = w.heap.size + 1) W w2) (h2 : s2.2 = false) (h3 : s2.1.length = 0) (hpar : ∀ W g cc, ArgB W (some ⟨g, 0, none⟩) cc xs → Errs 132 errGs W ea → Calls Tryd.prog 33 #[.slice (some ⟨g, 0, none⟩) 9 cc] W fun e w2 => e = .returned (.tuple #[.agg y.p.list.toArray, .nilIface]) ∧ Below W.heap.size W w2) (hc : y.chk ≠ 0) (ha : ArgB w a c bs) (hn : bs.length = n) (hm : n ≤ 1000) (haf : ∀ ad, a = some ad → ∃ b o, ad = ⟨b, o, none⟩ ∧ b < w.heap.size) (H : Errs 132 errGs w ea) :
    Calls Tryd.prog 14 #[.slice a n c] w (PBad ea y.chk w) := by
  obtain ⟨w1, hw1⟩ : ∃ w1, w1 = (w.alloc (.cells Tryd.zeroCells31 31)).alloc (.cells #[.slice a n c, .bool false] 66) := ⟨_, rfl⟩
  have hb1 : Below w.heap.size w w1 := by rw [hw1]; exact ((Below.refl _ _).alloc (Nat.le_refl _) _).alloc (by simp) _
  have hs1 : w1.heap.size = w.heap.size + 2 := by rw [hw1]; simp
  have hz1 : w1.heap[w.heap.size]? = some (.cells Tryd.zeroCells31 31 (0, 0)) := by rw [hw1, heapA9, if_neg (by simp), heapA9, if_pos rfl]
  have hq1 : w1.heap[w.heap.size + 1]? = some (.cells #[.slice a n c, .bool false] 66 (0, 0)) := by rw [hw1, heapA9, if_pos (by simp)]
  have hr1 : RdM w1 (w.heap.size + 1) w.heap.size (bs, false).1 (bs, false).2 := by
    refine ⟨a, c, by rw [hn]; exact hq1, ha.below hb1, fun ad e => ?_⟩
    obtain ⟨b, o, h1, h2⟩ := haf ad e
    exact ⟨b, o, h1, by omega, h2⟩
  have hn0 : ∀ W, RdM W (w.heap.size + 1) w.heap.size (bs, false).1 (bs, false).2 → Calls Tryd.prog 31 #[.pointer (some ⟨w.heap.size + 1, 0, none⟩), .int .i64 1] W fun e w2 => e = .returned (.int .i64 k) ∧ RdM w2 (w.heap.size + 1) w.heap.size (nB (bs, false) 1).1 (nB (bs, false) 1).2 ∧ Only (fun k => k = w.heap.size + 1) W w2 := by
    intro W h
    have h := number_at (w.heap.size + 1) w.heap.size (bs, false) 1 W h (by decide) (by show bs.length ≤ 1000000; omega)
    rw [hk] at h
    exact h
  have hbd := Lib.hid (build_kind k)
  have s78 : (Rc.ofKind k).list.toArray.size = 78 := by rw [List.size_toArray, Rc.len (x := Rc.ofKind k) z32_len z32_len]
  have i8 : (Tryd.prog.info? 31).map (·.size) = some (Rc.ofKind k).list.toArray.size := by rw [s78]; kernel_rfl
  have z8 : (Tryd.zeroCells31).size = (Rc.ofKind k).list.toArray.size := by rw [s78]; kernel_rfl
  have hVo := Rc.all_one (Rc.ofKind k)
  have iZ : (Tryd.prog.info? 31).map (·.size) = some (Tryd.zeroCells31).size := by kernel_rfl
  have hZo : (Tryd.zeroCells31).all (·.oneCell') = true := by rw [Rc.zeroG]; exact Rc.all_one Rc.zero
  have hu := Tryd.underlying31
  have hrk0 : ∀ (W : World) b, W.heap[b]? = some (.cells (Rc.ofKind k).list.toArray 31 (0, 0)) → W.cell? ⟨b, 0, none⟩ = some (.int .i64 k) := fun W b h => by rw [cell_of_block h]; rfl
  have hce := Lib.hid (parErrs H)
  have iX : (Tryd.prog.info? 31).map (·.size) = some y.list.toArray.size := by rw [Rc.size hy]; kernel_rfl
  have hck : ∀ W, Errs 132 errGs W ea → Calls Tryd.prog 13 #[.agg y.list.toArray] W (fun e w2 => ∃ v, e = .returned v ∧ ErrIs ea w2 v y.chk ∧ Below W.heap.size W w2) := fun W h => check_any y hy ea W h
  have hpat : patch y0.list.toArray 4 y.p.list.toArray.toList = y.list.toArray := by rw [List.toList_toArray, Rc.patch_p, ← hyp]
  have hpsz : 4 + y.p.list.toArray.size ≤ y0.list.toArray.size := by rw [List.size_toArray, List.size_toArray, Rc.len (x := y0) hy0.root hy0.file, P6.len]; decide
  have ip : (Tryd.prog.info? 27).map (·.size) = some y.p.list.toArray.size := by rw [List.size_toArray, P6.len]; kernel_rfl
  have zp : (#[.int .i64 0, .int .i64 0, .int .i64 0, .int .i64 0, .int .i64 0, .int .i64 0] : Array Value).size = y.p.list.toArray.size := rfl
  have op := arr_one (P6.one y.p)
  have hup := Tryd.underlying27
  replace hpat := Lib.hid hpat
  generalize y.p.list.toArray = PP at *
  generalize hY0 : y0.list.toArray = Y at *
  clear hY0 hyp hy0
  replace hpar := Lib.hid hpar
  generalize y.chk = N at *
  generalize y.list.toArray = X at *
  replace hck := Lib.hid hck
  clear hy
  generalize (Rc.ofKind k).list.toArray = RK at *
  have hZe : Hid (∀ v, Ending.returned (.tuple #[.agg Tryd.zeroCells31, v]) = Ending.returned (.tuple #[.agg Rc.zero.list.toArray, v])) := Lib.hid (fun v => by rw [Rc.zeroG])
  clear s78
  generalize nB (bs, false) 1 = s1 at *
  obtain ⟨q, hq⟩ : ∃ q, q = w.heap.size + 1 := ⟨_, rfl⟩
  obtain ⟨B, hBd⟩ : ∃ B, B = w.heap.size := ⟨_, rfl⟩
  replace hw1 := Lib.hid hw1
  replace hn0 := Lib.hid hn0
  replace hr1 := Lib.hid hr1
  replace hz1 := Lib.hid hz1
  replace hb1 := Lib.hid hb1
  replace H := Lib.hid H
  replace hrk0 := Lib.hid hrk0
  clear hn hm haf ha hq1 hk
  replace hrest := Lib.hid hrest
  go_enter Tryd.func14, Tryd.ntmps14
  go_wp2_with fail
  rw [← hw1.out]
  with_reducible refine (hn0.out _ hr1.out).mono ?_
  rintro e wa ⟨rfl, hra, hoa⟩
  have hza := Lib.hid (hoa.heap hz1.out (by omega))
  have hsa := hoa.size
  have hOa : Only (fun k => k = w.heap.size + 1) w1 wa := hoa
  have hna : w.heap.size + 1 < wa.heap.size := by omega
  have hZp := Lib.hid (heap_alloc_new wa (.cells Tryd.zeroCells31 31))
  have hba : Below w.heap.size w wa := hb1.out.trans (hoa.below (by omega) (fun k e => by omega))
  replace hra := Lib.hid hra
  replace hba := Lib.hid hba
  clear hoa hOa
  go_wp2_with (first
    | ((with_reducible show wpList _ _ _ (Oper.mk _ (Op.build 31 _) _ _ _ _ :: _) _ _); refine wpList_buildV rfl 31 [(0, .tmp 14)] rfl [(0, .int .i64 k)] rfl _ (hbd.out _) ?_)
    | ((with_reducible show wpList _ _ _ (Oper.mk _ (Op.store 31 (.tmp 5) _) _ _ _ _ :: _) _ _); (refine wpList_store_row rfl 31 (.tmp 5) (.tmp 15) rfl wa.heap.size _ RK rfl rfl hZp i8 z8 hVo ?_); intro w3 hU3; have hP3 := Lib.hid hU3.out.here; have hb3 := Lib.hid ((Below.alloc (Below.refl wa.heap.size wa) (Nat.le_refl _) (.cells Tryd.zeroCells31 31)).trans (hU3.out.below (Nat.le_refl _))); have hr3 := Lib.hid (hra.out.only (D := fun _ => False) (Only.ofBelow hb3.out) (fun e => e) (fun k e => e.elim)); have hz3 := Lib.hid ((hb3.out.block _ (block_lt hza.out)).trans hza.out); have k0 := hrk0.out _ _ hP3.out; obtain ⟨a3, c3, hq3, _⟩ := hr3.out; rw [hs] at hq3; have j1 := cell_of_block hq3 1; have hbw3 := Lib.hid (hba.out.trans (hb3.out.mono hba.out.size)); clear hq3))
  with_reducible refine (within_any k 1 4 _).mono ?_
  rintro e w4 ⟨rfl, rfl⟩
  go_wp2_with fail
  with_reducible refine (hrest.out _ _ hP3.out hr3.out (by omega) (by omega)).mono ?_
  rintro e w5 ⟨gp, cp, rfl, hgp, hP5, hr5, ho5⟩
  have hz5 := Lib.hid (ho5.heap hz3.out (by omega))
  have hbw5 := Lib.hid (hbw3.out.trans (ho5.below hbw3.out.size (fun k e => by omega)))
  obtain ⟨a5, c5, hq5, _⟩ := hr5
  clear j1 k0
  rw [h2] at hq5
  rw [h3] at hq5
  have j1 := cell_of_block hq5 1
  have j0 := cell_of_block hq5 0
  clear hq5 ho5
  replace hP5 := Lib.hid hP5
  have hH5 := Lib.hid (H.out.below hbw5.out)
  replace hgp := Lib.hid hgp
  have hnl := fun W => @Lib.run_eql_slice_nil Tryd.prog W 36 5 (some ⟨gp, 0, none⟩) 9 cp 0 0 Tryd.underlying36
  go_wp2_with fail
  with_reducible refine (hpar.out _ _ _ hgp.out hH5.out).mono ?_
  rintro e w7 ⟨rfl, hb7⟩
  have hP7 := Lib.hid ((hb7.block _ (block_lt hP5.out)).trans hP5.out)
  have hz7 := Lib.hid ((hb7.block _ (block_lt hz5.out)).trans hz5.out)
  have hbw7 := Lib.hid (hbw5.out.trans (hb7.mono hbw5.out.size))
  have hs7 : w.heap.size ≤ w7.heap.size := hbw7.out.size
  clear hb7 j0 j1
  have hZ7 := Lib.hid (heap_alloc_new w7 (.cells #[.int .i64 0, .int .i64 0, .int .i64 0, .int .i64 0, .int .i64 0, .int .i64 0] 27))
  go_wp2_with (first
    | ((with_reducible show wpList _ _ _ (Oper.mk _ (Op.store 27 (.tmp 7) _) _ _ _ _ :: _) _ _); (refine wpList_store_row rfl 27 (.tmp 7) (.tmp 54) rfl w7.heap.size _ PP rfl rfl hZ7 ip zp op ?_); intro w8 hU8; have hb8 := Lib.hid ((Below.alloc (Below.refl w7.heap.size w7) (Nat.le_refl _) _).trans (hU8.out.below (Nat.le_refl _))); have hP8 := Lib.hid ((hb8.out.block _ (block_lt hP7.out)).trans hP7.out); have hz8 := Lib.hid ((hb8.out.block _ (block_lt hz7.out)).trans hz7.out); have hbw8 := Lib.hid (hbw7.out.trans (hb8.out.mono hbw7.out.size)); have hp8 := Lib.hid hU8.out.here)
    | ((with_reducible show wpList _ _ _ (Oper.mk _ (Op.load 27 (.tmp 7)) _ _ _ _ :: _) _ _); refine wpList_load_row rfl 27 (.tmp 7) rfl w7.heap.size PP _ rfl hp8 hup rfl ip ?_)
    | ((with_reducible show wpList _ _ _ (Oper.mk _ (Op.store 27 (.tmp 61) _) _ _ _ _ :: _) _ _); (refine wpList_store_midU rfl 27 31 (.tmp 61) (.tmp 60) rfl wa.heap.size 4 Y PP rfl rfl hP8 ip hpsz op ?_); intro w9 hU9; rw [hpat.out] at hU9; have hP9 := Lib.hid hU9.out.here; have hz9 := Lib.hid ((hU9.out.block _ (by omega)).trans hz8.out); have hbw9 := Lib.hid (hbw8.out.trans (hU9.out.below (by omega))))
    | (with_reducible refine wpList_load_row rfl 31 (.tmp 5) rfl wa.heap.size X _ rfl hP9 hu rfl iX ?_))
  with_reducible refine (hck.out _ (H.out.below hbw9.out)).mono ?_
  rintro e w6 ⟨v6, rfl, hv6, hb6⟩
  have hz6 := Lib.hid ((hb6.block _ (block_lt hz9.out)).trans hz9.out)
  have hbw6 := Lib.hid (hbw9.out.trans (hb6.mono hbw9.out.size))
  have hv6a := Lib.hid hv6
  have hq1 := hv6.neq
  have hq2 := hv6.guard
  have hnn : (N != 0) = true := by simpa using hc
  rw [hnn] at hq1
  clear hb6 hv6 hnn
  go_wp2_with (first
    | ((with_reducible show wpList _ _ _ (Oper.mk _ (Op.store 31 (.tmp 2) _) _ _ _ _ :: _) _ _); (refine wpList_store_row rfl 31 (.tmp 2) (.tmp 66) rfl w.heap.size _ Tryd.zeroCells31 rfl rfl hz6 iZ rfl hZo ?_); intro w10 hU10))
  refine ret_cell_tmpB rfl rfl hu rfl iZ hU10.out.here ?_
  exact ⟨v6, hZe.out v6, hv6a.out.upd hU10.out hz6.out (by decide), hbw6.out.trans (hU10.out.below (Nat.le_refl _))⟩

end Go.Proofs.YtahnicbokdbjdaaDoor
