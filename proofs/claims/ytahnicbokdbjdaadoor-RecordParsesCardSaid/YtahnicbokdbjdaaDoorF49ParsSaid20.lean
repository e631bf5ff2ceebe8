/- The law RecordParses, walked. -/
import Derived.Test.YtahnicbokdbjdaaDoorF48ParsSaid20
import Derived.Test.YtahnicbokdbjdaaDoorF39ParsSaid20
import Derived.Test.YtahnicbokdbjdaaDoorF20ParsSaid20
namespace Go.Proofs.YtahnicbokdbjdaaDoor
open Go.RowKit
set_option linter.unusedVariables false

theorem marks_arg20 {w : World} {g : Nat} {bs : List UInt8} (h : At w (some ⟨g, 0, none⟩) (cB (bs ++ marksB))) (hl : bs.length ≤ 1000000) : ArgB w (some ⟨g, 0, none⟩) (bs.length + 6) bs :=
  ⟨by omega, by unfold maxLen; omega, (fun e => by cases e), marks_row h⟩
set_option maxRecDepth 100000 in
set_option maxHeartbeats 1000000 in
theorem rp_long (a : Option Addr) (c : Nat) (xs : List UInt8) (hl : 500 < xs.length) (w : World) : Calls Tryd.prog 5 #[.slice a xs.length c] w fun e w2 => e = .returned (.bool true) ∧ Below w.heap.size w w2 := by
  have hal := Lib.hid (fun W => alive20 W)
  obtain ⟨n, hn⟩ : ∃ n, xs.length = n := ⟨_, rfl⟩
  rw [hn] at hl ⊢
  have hlt : (500 : Int) < (n : Int) := by omega
  clear hn hl
  go_enter Tryd.func5, Tryd.ntmps5
  go_wp2_with fail
  with_reducible refine (hal.out _).mono ?_
  rintro e w1 ⟨rfl, hb⟩
  replace hb := Lib.hid hb
  go_wp2_with fail
  go_ret
  exact ⟨rfl, hb.out⟩

set_option maxRecDepth 100000 in
set_option maxHeartbeats 2000000 in
theorem rp_bad (a : Option Addr) (c : Nat) (xs : List UInt8) (hl : xs.length ≤ 500) (y : Rc) (N : Nat) (hy : y.Ok) (h0 : N ≠ 0)
    (hp : ∀ (a : Option Addr) (c : Nat) (w : World) (ea : Nat → Addr), ArgB w a c xs → (∀ ad, a = some ad → ∃ b o, ad = ⟨b, o, none⟩ ∧ b < w.heap.size) → Errs 132 errGs w ea →
      Calls Tryd.prog 14 #[.slice a xs.length c] w fun e w2 => ∃ v, e = .returned (.tuple #[.agg y.list.toArray, v]) ∧ ErrIs ea w2 v N ∧ Below w.heap.size w w2)
    (hr : ∀ (a : Option Addr) (c : Nat) (w : World), ArgB w a c xs → Calls Tryd.prog 16 #[.slice a xs.length c] w (RPost y N w))
    (ea : Nat → Addr) (w : World) (hx : ArgB w a c xs) (H : Errs 132 errGs w ea) : Calls Tryd.prog 5 #[.slice a xs.length c] w fun e w2 => e = .returned (.bool true) ∧ Below w.heap.size w w2 := by
  have hal := Lib.hid (fun W => alive20 W)
  have hof := Lib.hid (fun W => of20_any y hy W)
  have hrr : ∀ (a : Option Addr) (c : Nat) (W : World), ArgB W a c xs → Calls Tryd.prog 16 #[.slice a xs.length c] W fun e w2 => e = .returned (.tuple #[.agg y.list.toArray, .int .i64 (N : Int)]) ∧ Below W.heap.size W w2 := fun a c W h => hr a c W h
  have hs := Rc.size hy
  have hszG : (Tryd.prog.info? 31).map (·.size) = some y.list.toArray.size := by rw [hs]; kernel_rfl
  have hszR : (Tryd.prog.info? 34).map (·.size) = some y.list.toArray.size := by rw [hs]; kernel_rfl
  have hzR : (Tryd.zeroCells34).size = y.list.toArray.size := by rw [hs]; kernel_rfl
  have hzG : (Tryd.zeroCells31).size = y.list.toArray.size := by rw [hs]; kernel_rfl
  have hVo := Rc.all_one y
  have huG := Tryd.underlying31
  have huR := Tryd.underlying34
  have hne := fun W => neq_rcR y y hy hy W
  rw [decide_eq_true (rfl : y = y), Bool.not_true] at hne
  have hNb : ((N : Int) != 0) = true := by simpa using h0
  have hNN : ((N : Int) != (N : Int)) = false := by simp
  have hkp := fun g W h1 h2 => kept_any g a c xs W (by omega) h1 h2
  have hby := fun W h => bytes_any a c xs W h (by omega)
  obtain ⟨n, hn⟩ : ∃ n, xs.length = n := ⟨_, rfl⟩
  have hmk : ∀ {W : World} {g : Nat}, At W (some ⟨g, 0, none⟩) (cB (xs ++ marksB)) → ArgB W (some ⟨g, 0, none⟩) (n + 6) xs := fun h => by rw [← hn]; exact marks_arg20 h (by omega)
  rw [hn] at hl hp hrr hkp hby ⊢
  have hlt : ¬ (500 : Int) < (n : Int) := by omega
  generalize y.list.toArray = R at *
  generalize hM : (N : Int) = M at *
  replace hp := Lib.hid hp
  replace hrr := Lib.hid hrr
  replace hkp := Lib.hid hkp
  replace hby := Lib.hid hby
  replace hx := Lib.hid hx
  replace H := Lib.hid H
  replace hM := Lib.hid hM
  have hb0 := Lib.hid (Below.refl w.heap.size w)
  clear hr hn hl h0 hs
  go_enter Tryd.func5, Tryd.ntmps5
  go_wp2_with fail
  with_reducible refine (hal.out _).mono ?_
  rintro e w1 ⟨rfl, hb⟩
  have hx1 := Lib.hid (hx.out.below hb)
  have hb1 := Lib.hid (hb0.out.trans hb)
  clear hb
  go_wp2_with fail
  with_reducible refine (hby.out _ hx1.out).mono ?_
  rintro e w2 ⟨g, hg, rfl, hgl, hMk, hb⟩
  have hx2 := Lib.hid (hx1.out.below hb)
  have hb2 := Lib.hid (hb1.out.trans (hb.mono hb1.out.size))
  have hgw : w.heap.size ≤ g := Nat.le_trans hb1.out.size hg
  replace hMk := Lib.hid hMk
  clear hb hg
  go_wp2_with fail
  with_reducible refine (hp.out _ _ _ ea (hmk hMk.out) (fun ad e => by cases e; exact ⟨_, _, rfl, hgl⟩) (H.out.below hb2.out)).mono ?_
  rintro e w3 ⟨v, rfl, hv, hb⟩
  have hx3 := Lib.hid (hx2.out.below hb)
  have hb3 := Lib.hid (hb2.out.trans (hb.mono hb2.out.size))
  have hM3 := Lib.hid (hMk.out.below hb)
  have hZ3 := Lib.hid (heap_alloc_new w3 (.cells Tryd.zeroCells31 31))
  clear hb
  go_wp2_with ((with_reducible show wpList _ _ _ (Oper.mk _ (Op.store 31 (.tmp 4) _) _ _ _ _ :: _) _ _); (refine wpList_store_row rfl 31 (.tmp 4) (.tmp 19) rfl w3.heap.size _ R rfl rfl hZ3 hszG hzG hVo ?_); intro w4 hU4; have hn4 : Below w3.heap.size w3 w4 := (Below.alloc (Below.refl w3.heap.size w3) (Nat.le_refl _) (.cells Tryd.zeroCells31 31)).trans (hU4.out.below (Nat.le_refl _)); have hx4 := Lib.hid (hx3.out.below hn4); have hb4 := Lib.hid (hb3.out.trans (hn4.mono hb3.out.size)); have hM4 := Lib.hid (hM3.out.below hn4); have hv4 := Lib.hid (hv.below hn4); have hy4 := Lib.hid hU4.out.here; clear hn4)
  with_reducible refine (hrr.out _ _ _ hx4.out).mono ?_
  rintro e w5 ⟨rfl, hb⟩
  have hx5 := Lib.hid (hx4.out.below hb)
  have hb5 := Lib.hid (hb4.out.trans (hb.mono hb4.out.size))
  have hM5 := Lib.hid (hM4.out.below hb)
  have hv5 := Lib.hid (hv4.out.below hb)
  have hy5 := Lib.hid ((hb.block _ (block_lt hy4.out)).trans hy4.out)
  have hZ5 := Lib.hid (heap_alloc_new w5 (.cells Tryd.zeroCells34 34))
  clear hb
  go_wp2_with ((with_reducible show wpList _ _ _ (Oper.mk _ (Op.store 34 (.tmp 6) _) _ _ _ _ :: _) _ _); (refine wpList_store_row rfl 34 (.tmp 6) (.tmp 24) rfl w5.heap.size _ R rfl rfl hZ5 hszR hzR hVo ?_); intro w6 hU6; have hn6 : Below w5.heap.size w5 w6 := (Below.alloc (Below.refl w5.heap.size w5) (Nat.le_refl _) (.cells Tryd.zeroCells34 34)).trans (hU6.out.below (Nat.le_refl _)); have hx6 := Lib.hid (hx5.out.below hn6); have hb6 := Lib.hid (hb5.out.trans (hn6.mono hb5.out.size)); have hM6 := Lib.hid (hM5.out.below hn6); have hv6 := Lib.hid (hv5.out.below hn6); have hy6 := Lib.hid ((hn6.block _ (block_lt hy5.out)).trans hy5.out); have hz6 := Lib.hid hU6.out.here; clear hn6)
  have rlA : ∀ W : World, Grown w6 W → W.heap[w3.heap.size]? = some (.cells R 31 (0, 0)) := fun W hW => rowG hy6.out hW
  have huA : Tryd.prog.underlying 31 = _ := Tryd.underlying31
  have hzA := hszG
  have rlB : ∀ W : World, Grown w6 W → W.heap[w5.heap.size]? = some (.cells R 34 (0, 0)) := fun W hW => rowG hz6.out hW
  have huB : Tryd.prog.underlying 34 = _ := Tryd.underlying34
  have hzB := hszR
  have hd0 : Hid (Grown w6 w6.drew) := Lib.hid (Grown.drew (Grown.refl w6))
  have hH6 := Lib.hid (H.out.below hb6.out)
  have hnm : Hid (∀ W, Grown w6 W → Calls Tryd.prog 12 #[v] W fun e w2 => e = .returned (.int .i64 M) ∧ Below W.heap.size W w2) := Lib.hid (fun W hW => by rw [← hM.out]; exact num_is (hv6.out.below hW) (hH6.out.below hW))
  refine wp_region_held_drew (S := (Grown w6)) (by kernel_rfl) hd0.out (fun hOn => ?_)
  generalize World.drew w6 = wd at *
  refine wpAnyH_take (i := 0) (v := ?_) (by simp only [List.getElem?_toArray, List.getElem?_cons_zero]; rfl) (by kernel_rfl) (by kernel_rfl) (by kernel_rfl) (by exact fun _ _ _ h => h) (Or.inl ⟨by rfl, ?_⟩) hOn ?_
  rotate_left
  focus (intro W hSW; go_simp; try with_reducible rfl)
  try simp only [Act.put, List.setIfInBounds_toArray, List.set_cons_zero, List.set_cons_succ]
  refine wpAnyH_take (i := 2) (v := ?_) (by simp only [List.getElem?_toArray, List.getElem?_cons_succ, List.getElem?_cons_zero]; rfl) (by kernel_rfl) (by kernel_rfl) (by kernel_rfl) (by exact fun _ _ _ h => h) (Or.inl ⟨by rfl, ?_⟩) hOn ?_
  rotate_left
  focus (intro W hSW; go_simp; try with_reducible rfl)
  try simp only [Act.put, List.setIfInBounds_toArray, List.set_cons_zero, List.set_cons_succ]
  refine wpAnyH_ready (rs := [1]) (by kernel_rfl) (by simp) ?_
  refine AllReadyH.cons (by simp only [List.getElem?_toArray, List.getElem?_cons_succ, List.getElem?_cons_zero]; rfl) (fun Kz hKz => ?_) AllReadyH.nil
  go_simp
  (with_reducible refine (hnm.out _ hOn).mono ?_)
  rintro e w7 ⟨rfl, hnew⟩
  have hS := Grown.trans hOn hnew
  focus (go_wp2_with fail)
  refine hKz.out _ _ (by first | exact hS | exact Below.trans hOn (Below.mono hnew (Below.size hOn))) (fun hNext => ?_)
  clear hKz Kz hOn
  have hOn := hNext
  clear hNext
  try clear hnew
  try clear hS
  try simp only [Act.put, List.setIfInBounds_toArray, List.set_cons_zero, List.set_cons_succ]
  refine wpAnyH_take (i := 3) (v := ?_) (by simp only [List.getElem?_toArray, List.getElem?_cons_succ, List.getElem?_cons_zero]; rfl) (by kernel_rfl) (by kernel_rfl) (by kernel_rfl) (by exact fun _ _ _ h => h) (Or.inl ⟨by rfl, ?_⟩) hOn ?_
  rotate_left
  focus (intro W hSW; go_simp; try with_reducible rfl)
  try simp only [Act.put, List.setIfInBounds_toArray, List.set_cons_zero, List.set_cons_succ]
  refine wpAnyH_take (i := 4) (v := ?_) (by simp only [List.getElem?_toArray, List.getElem?_cons_succ, List.getElem?_cons_zero]; rfl) (by kernel_rfl) (by kernel_rfl) (by kernel_rfl) (by exact fun _ _ _ h => h) (Or.inl ⟨by rfl, ?_⟩) hOn ?_
  rotate_left
  focus (intro W hSW; go_simp; try with_reducible rfl)
  try simp only [Act.put, List.setIfInBounds_toArray, List.set_cons_zero, List.set_cons_succ]
  refine wpAnyH_take (i := 5) (v := Value.agg _) (by simp only [List.getElem?_toArray, List.getElem?_cons_succ, List.getElem?_cons_zero]; rfl) (by kernel_rfl) (by kernel_rfl) (by kernel_rfl) (by exact fun _ _ _ h => h) (Or.inl ⟨by rfl, fun W hSW => yields_load_row _ _ rfl _ _ _ rfl (rlA W hSW) huA rfl hzA⟩) hOn ?_
  try simp only [Act.put, List.setIfInBounds_toArray, List.set_cons_zero, List.set_cons_succ]
  refine wpAnyH_take (i := 7) (v := Value.agg _) (by simp only [List.getElem?_toArray, List.getElem?_cons_succ, List.getElem?_cons_zero]; rfl) (by kernel_rfl) (by kernel_rfl) (by kernel_rfl) (by exact fun _ _ _ h => h) (Or.inl ⟨by rfl, fun W hSW => yields_load_row _ _ rfl _ _ _ rfl (rlB W hSW) huB rfl hzB⟩) hOn ?_
  try simp only [Act.put, List.setIfInBounds_toArray, List.set_cons_zero, List.set_cons_succ]
  refine wpAnyH_ready (rs := [6]) (by kernel_rfl) (by simp) ?_
  refine AllReadyH.cons (by simp only [List.getElem?_toArray, List.getElem?_cons_succ, List.getElem?_cons_zero]; rfl) (fun Kz hKz => ?_) AllReadyH.nil
  go_simp
  (with_reducible refine (hof.out _).mono ?_)
  rintro e w8 ⟨rfl, hnew⟩
  have hS := Grown.trans hOn hnew
  focus (go_wp2_with fail)
  refine hKz.out _ _ (by first | exact hS | exact Below.trans hOn (Below.mono hnew (Below.size hOn))) (fun hNext => ?_)
  clear hKz Kz hOn
  have hOn := hNext
  clear hNext
  try clear hnew
  try clear hS
  try simp only [Act.put, List.setIfInBounds_toArray, List.set_cons_zero, List.set_cons_succ]
  refine wpAnyH_take (i := 8) (v := ?_) (by simp only [List.getElem?_toArray, List.getElem?_cons_succ, List.getElem?_cons_zero]; rfl) (by kernel_rfl) (by kernel_rfl) (by kernel_rfl) (by exact fun _ _ _ h => h) (Or.inl ⟨by rfl, ?_⟩) hOn ?_
  rotate_left
  focus (intro W hSW; go_simp; try with_reducible rfl)
  try simp only [Act.put, List.setIfInBounds_toArray, List.set_cons_zero, List.set_cons_succ]
  refine wpAnyH_take (i := 9) (v := ?_) (by simp only [List.getElem?_toArray, List.getElem?_cons_succ, List.getElem?_cons_zero]; rfl) (by kernel_rfl) (by kernel_rfl) (by kernel_rfl) (by exact fun _ _ _ h => h) (Or.inl ⟨by rfl, ?_⟩) hOn ?_
  rotate_left
  focus (intro W hSW; go_simp; try with_reducible rfl)
  try simp only [Act.put, List.setIfInBounds_toArray, List.set_cons_zero, List.set_cons_succ]
  refine wpAnyH_take (i := 10) (v := ?_) (by simp only [List.getElem?_toArray, List.getElem?_cons_succ, List.getElem?_cons_zero]; rfl) (by kernel_rfl) (by kernel_rfl) (by kernel_rfl) (by exact fun _ _ _ h => h) (Or.inl ⟨by rfl, ?_⟩) hOn ?_
  rotate_left
  focus (intro W hSW; go_simp; try with_reducible rfl)
  try simp only [Act.put, List.setIfInBounds_toArray, List.set_cons_zero, List.set_cons_succ]
  refine wpAnyH_take (i := 11) (v := ?_) (by simp only [List.getElem?_toArray, List.getElem?_cons_succ, List.getElem?_cons_zero]; rfl) (by kernel_rfl) (by kernel_rfl) (by kernel_rfl) (by exact fun _ _ _ h => h) (Or.inl ⟨by rfl, ?_⟩) hOn ?_
  rotate_left
  focus (intro W hSW; go_simp; try with_reducible rfl)
  try simp only [Act.put, List.setIfInBounds_toArray, List.set_cons_zero, List.set_cons_succ]
  refine wpAnyH_take (i := 12) (v := ?_) (by simp only [List.getElem?_toArray, List.getElem?_cons_succ, List.getElem?_cons_zero]; rfl) (by kernel_rfl) (by kernel_rfl) (by kernel_rfl) (by exact fun _ _ _ h => h) (Or.inl ⟨by rfl, ?_⟩) hOn ?_
  rotate_left
  focus (intro W hSW; go_simp; try with_reducible rfl)
  try simp only [Act.put, List.setIfInBounds_toArray, List.set_cons_zero, List.set_cons_succ]
  refine wpAnyH_ready (rs := [13]) (by kernel_rfl) (by simp) ?_
  refine AllReadyH.cons (by simp only [List.getElem?_toArray, List.getElem?_cons_succ, List.getElem?_cons_zero]; rfl) (fun Kz hKz => ?_) AllReadyH.nil
  go_simp
  (with_reducible refine (hkp.out _ _ (hM6.out.below hOn) (hx6.out.below hOn)).mono ?_)
  rintro e w9 ⟨rfl, hdr⟩
  have hS := Grown.trans hOn (hdr.below _)
  focus (go_wp2_with fail)
  refine hKz.out _ _ (by first | exact hS | exact Below.trans hOn (Below.mono hnew (Below.size hOn))) (fun hNext => ?_)
  clear hKz Kz hOn
  have hOn := hNext
  clear hNext
  try clear hnew
  try clear hS
  try simp only [Act.put, List.setIfInBounds_toArray, List.set_cons_zero, List.set_cons_succ]
  refine wpAnyH_take (i := 14) (v := ?_) (by simp only [List.getElem?_toArray, List.getElem?_cons_succ, List.getElem?_cons_zero]; rfl) (by kernel_rfl) (by kernel_rfl) (by kernel_rfl) (by exact fun _ _ _ h => h) (Or.inl ⟨by rfl, ?_⟩) hOn ?_
  rotate_left
  focus (intro W hSW; go_simp; try with_reducible rfl)
  try simp only [Act.put, List.setIfInBounds_toArray, List.set_cons_zero, List.set_cons_succ]
  refine wpAnyH_take (i := 15) (v := ?_) (by simp only [List.getElem?_toArray, List.getElem?_cons_succ, List.getElem?_cons_zero]; rfl) (by kernel_rfl) (by kernel_rfl) (by kernel_rfl) (by exact fun _ _ _ h => h) (Or.inl ⟨by rfl, ?_⟩) hOn ?_
  rotate_left
  focus (intro W hSW; go_simp; try with_reducible rfl)
  try simp only [Act.put, List.setIfInBounds_toArray, List.set_cons_zero, List.set_cons_succ]
  refine wpAnyH_done (by kernel_rfl) ?_ _
  all_goals
    go_wp2_with fail
    go_ret
    exact ⟨rfl, hb6.out.trans (hOn.mono hb6.out.size)⟩
set_option maxRecDepth 100000 in
set_option maxHeartbeats 2000000 in
theorem rp_good (a : Option Addr) (c : Nat) (xs : List UInt8) (hl : xs.length ≤ 500) (y : Rc) (hy : y.Ok) (h0 : y.chk = 0) (ho : y.out = xs)
    (hp : ∀ (a : Option Addr) (c : Nat) (w : World) (ea : Nat → Addr), ArgB w a c xs → (∀ ad, a = some ad → ∃ b o, ad = ⟨b, o, none⟩ ∧ b < w.heap.size) → Errs 132 errGs w ea →
      Calls Tryd.prog 14 #[.slice a xs.length c] w fun e w2 => ∃ v, e = .returned (.tuple #[.agg y.list.toArray, v]) ∧ ErrIs ea w2 v 0 ∧ Below w.heap.size w w2)
    (hr : ∀ (a : Option Addr) (c : Nat) (w : World), ArgB w a c xs → Calls Tryd.prog 16 #[.slice a xs.length c] w (RPost y 0 w))
    (ea : Nat → Addr) (w : World) (hx : ArgB w a c xs) (H : Errs 132 errGs w ea) : Calls Tryd.prog 5 #[.slice a xs.length c] w fun e w2 => e = .returned (.bool true) ∧ Below w.heap.size w w2 := by
  have hal := Lib.hid (fun W => alive20 W)
  have hof := Lib.hid (fun W => of20_any y hy W)
  have hrr : ∀ (a : Option Addr) (c : Nat) (W : World), ArgB W a c xs → Calls Tryd.prog 16 #[.slice a xs.length c] W fun e w2 => e = .returned (.tuple #[.agg y.list.toArray, .int .i64 0]) ∧ Below W.heap.size W w2 := fun a c W h => hr a c W h
  have hs := Rc.size hy
  have hszG : (Tryd.prog.info? 31).map (·.size) = some y.list.toArray.size := by rw [hs]; kernel_rfl
  have hszR : (Tryd.prog.info? 34).map (·.size) = some y.list.toArray.size := by rw [hs]; kernel_rfl
  have hzR : (Tryd.zeroCells34).size = y.list.toArray.size := by rw [hs]; kernel_rfl
  have hzG : (Tryd.zeroCells31).size = y.list.toArray.size := by rw [hs]; kernel_rfl
  have hVo := Rc.all_one y
  have huG := Tryd.underlying31
  have huR := Tryd.underlying34
  have hne := fun W => neq_rcR y y hy hy W
  rw [decide_eq_true (rfl : y = y), Bool.not_true] at hne
  have hbg := fun W h => bytes_good y hy h0 ea W h
  replace hbg := Lib.hid hbg
  have hkp := fun g W h1 h2 => kept_any g a c xs W (by omega) h1 h2
  have hby := fun W h => bytes_any a c xs W h (by omega)
  obtain ⟨n, hn⟩ : ∃ n, xs.length = n := ⟨_, rfl⟩
  have hmk : ∀ {W : World} {g : Nat}, At W (some ⟨g, 0, none⟩) (cB (xs ++ marksB)) → ArgB W (some ⟨g, 0, none⟩) (n + 6) xs := fun h => by rw [← hn]; exact marks_arg20 h (by omega)
  rw [hn] at hl hp hrr hkp hby ⊢
  have hlt : ¬ (500 : Int) < (n : Int) := by omega
  generalize y.list.toArray = R at *
  replace hp := Lib.hid hp
  replace hrr := Lib.hid hrr
  replace hkp := Lib.hid hkp
  replace hby := Lib.hid hby
  replace hx := Lib.hid hx
  replace H := Lib.hid H
  have hb0 := Lib.hid (Below.refl w.heap.size w)
  clear hr hl h0 hs
  replace hn := Lib.hid hn
  go_enter Tryd.func5, Tryd.ntmps5
  go_wp2_with fail
  with_reducible refine (hal.out _).mono ?_
  rintro e w1 ⟨rfl, hb⟩
  have hx1 := Lib.hid (hx.out.below hb)
  have hb1 := Lib.hid (hb0.out.trans hb)
  clear hb
  go_wp2_with fail
  with_reducible refine (hby.out _ hx1.out).mono ?_
  rintro e w2 ⟨g, hg, rfl, hgl, hMk, hb⟩
  have hx2 := Lib.hid (hx1.out.below hb)
  have hb2 := Lib.hid (hb1.out.trans (hb.mono hb1.out.size))
  have hgw : w.heap.size ≤ g := Nat.le_trans hb1.out.size hg
  replace hMk := Lib.hid hMk
  clear hb hg
  go_wp2_with fail
  with_reducible refine (hp.out _ _ _ ea (hmk hMk.out) (fun ad e => by cases e; exact ⟨_, _, rfl, hgl⟩) (H.out.below hb2.out)).mono ?_
  rintro e w3 ⟨v, rfl, hv, hb⟩
  have hx3 := Lib.hid (hx2.out.below hb)
  have hb3 := Lib.hid (hb2.out.trans (hb.mono hb2.out.size))
  have hM3 := Lib.hid (hMk.out.below hb)
  have hZ3 := Lib.hid (heap_alloc_new w3 (.cells Tryd.zeroCells31 31))
  clear hb
  go_wp2_with ((with_reducible show wpList _ _ _ (Oper.mk _ (Op.store 31 (.tmp 4) _) _ _ _ _ :: _) _ _); (refine wpList_store_row rfl 31 (.tmp 4) (.tmp 19) rfl w3.heap.size _ R rfl rfl hZ3 hszG hzG hVo ?_); intro w4 hU4; have hn4 : Below w3.heap.size w3 w4 := (Below.alloc (Below.refl w3.heap.size w3) (Nat.le_refl _) (.cells Tryd.zeroCells31 31)).trans (hU4.out.below (Nat.le_refl _)); have hx4 := Lib.hid (hx3.out.below hn4); have hb4 := Lib.hid (hb3.out.trans (hn4.mono hb3.out.size)); have hM4 := Lib.hid (hM3.out.below hn4); have hv4 := Lib.hid (hv.below hn4); have hy4 := Lib.hid hU4.out.here; clear hn4)
  with_reducible refine (hrr.out _ _ _ hx4.out).mono ?_
  rintro e w5 ⟨rfl, hb⟩
  have hx5 := Lib.hid (hx4.out.below hb)
  have hb5 := Lib.hid (hb4.out.trans (hb.mono hb4.out.size))
  have hM5 := Lib.hid (hM4.out.below hb)
  have hv5 := Lib.hid (hv4.out.below hb)
  have hy5 := Lib.hid ((hb.block _ (block_lt hy4.out)).trans hy4.out)
  have hZ5 := Lib.hid (heap_alloc_new w5 (.cells Tryd.zeroCells34 34))
  clear hb
  go_wp2_with ((with_reducible show wpList _ _ _ (Oper.mk _ (Op.store 34 (.tmp 6) _) _ _ _ _ :: _) _ _); (refine wpList_store_row rfl 34 (.tmp 6) (.tmp 24) rfl w5.heap.size _ R rfl rfl hZ5 hszR hzR hVo ?_); intro w6 hU6; have hn6 : Below w5.heap.size w5 w6 := (Below.alloc (Below.refl w5.heap.size w5) (Nat.le_refl _) (.cells Tryd.zeroCells34 34)).trans (hU6.out.below (Nat.le_refl _)); have hx6 := Lib.hid (hx5.out.below hn6); have hb6 := Lib.hid (hb5.out.trans (hn6.mono hb5.out.size)); have hM6 := Lib.hid (hM5.out.below hn6); have hv6 := Lib.hid (hv5.out.below hn6); have hy6 := Lib.hid ((hn6.block _ (block_lt hy5.out)).trans hy5.out); have hz6 := Lib.hid hU6.out.here; clear hn6)
  have rlA : ∀ W : World, Grown w6 W → W.heap[w3.heap.size]? = some (.cells R 31 (0, 0)) := fun W hW => rowG hy6.out hW
  have huA : Tryd.prog.underlying 31 = _ := Tryd.underlying31
  have hzA := hszG
  have rlB : ∀ W : World, Grown w6 W → W.heap[w5.heap.size]? = some (.cells R 34 (0, 0)) := fun W hW => rowG hz6.out hW
  have huB : Tryd.prog.underlying 34 = _ := Tryd.underlying34
  have hzB := hszR
  have hd0 : Hid (Grown w6 w6.drew) := Lib.hid (Grown.drew (Grown.refl w6))
  have hH6 := Lib.hid (H.out.below hb6.out)
  have hnm : Hid (∀ W, Grown w6 W → Calls Tryd.prog 12 #[v] W fun e w2 => e = .returned (.int .i64 0) ∧ Below W.heap.size W w2) := Lib.hid (fun W hW => num_is (hv6.out.below hW) (hH6.out.below hW))
  refine wp_region_held_drew (S := (Grown w6)) (by kernel_rfl) hd0.out (fun hOn => ?_)
  generalize World.drew w6 = wd at *
  refine wpAnyH_take (i := 0) (v := ?_) (by simp only [List.getElem?_toArray, List.getElem?_cons_zero]; rfl) (by kernel_rfl) (by kernel_rfl) (by kernel_rfl) (by exact fun _ _ _ h => h) (Or.inl ⟨by rfl, ?_⟩) hOn ?_
  rotate_left
  focus (intro W hSW; go_simp; try with_reducible rfl)
  try simp only [Act.put, List.setIfInBounds_toArray, List.set_cons_zero, List.set_cons_succ]
  refine wpAnyH_take (i := 2) (v := ?_) (by simp only [List.getElem?_toArray, List.getElem?_cons_succ, List.getElem?_cons_zero]; rfl) (by kernel_rfl) (by kernel_rfl) (by kernel_rfl) (by exact fun _ _ _ h => h) (Or.inl ⟨by rfl, ?_⟩) hOn ?_
  rotate_left
  focus (intro W hSW; go_simp; try with_reducible rfl)
  try simp only [Act.put, List.setIfInBounds_toArray, List.set_cons_zero, List.set_cons_succ]
  refine wpAnyH_ready (rs := [1]) (by kernel_rfl) (by simp) ?_
  refine AllReadyH.cons (by simp only [List.getElem?_toArray, List.getElem?_cons_succ, List.getElem?_cons_zero]; rfl) (fun Kz hKz => ?_) AllReadyH.nil
  go_simp
  (with_reducible refine (hnm.out _ hOn).mono ?_)
  rintro e w7 ⟨rfl, hnew⟩
  have hS := Grown.trans hOn hnew
  focus (go_wp2_with fail)
  refine hKz.out _ _ (by first | exact hS | exact Below.trans hOn (Below.mono hnew (Below.size hOn))) (fun hNext => ?_)
  clear hKz Kz hOn
  have hOn := hNext
  clear hNext
  try clear hnew
  try clear hS
  try simp only [Act.put, List.setIfInBounds_toArray, List.set_cons_zero, List.set_cons_succ]
  refine wpAnyH_take (i := 3) (v := ?_) (by simp only [List.getElem?_toArray, List.getElem?_cons_succ, List.getElem?_cons_zero]; rfl) (by kernel_rfl) (by kernel_rfl) (by kernel_rfl) (by exact fun _ _ _ h => h) (Or.inl ⟨by rfl, ?_⟩) hOn ?_
  rotate_left
  focus (intro W hSW; go_simp; try with_reducible rfl)
  try simp only [Act.put, List.setIfInBounds_toArray, List.set_cons_zero, List.set_cons_succ]
  refine wpAnyH_take (i := 4) (v := ?_) (by simp only [List.getElem?_toArray, List.getElem?_cons_succ, List.getElem?_cons_zero]; rfl) (by kernel_rfl) (by kernel_rfl) (by kernel_rfl) (by exact fun _ _ _ h => h) (Or.inl ⟨by rfl, ?_⟩) hOn ?_
  rotate_left
  focus (intro W hSW; go_simp; try with_reducible rfl)
  try simp only [Act.put, List.setIfInBounds_toArray, List.set_cons_zero, List.set_cons_succ]
  refine wpAnyH_take (i := 5) (v := Value.agg _) (by simp only [List.getElem?_toArray, List.getElem?_cons_succ, List.getElem?_cons_zero]; rfl) (by kernel_rfl) (by kernel_rfl) (by kernel_rfl) (by exact fun _ _ _ h => h) (Or.inl ⟨by rfl, fun W hSW => yields_load_row _ _ rfl _ _ _ rfl (rlA W hSW) huA rfl hzA⟩) hOn ?_
  try simp only [Act.put, List.setIfInBounds_toArray, List.set_cons_zero, List.set_cons_succ]
  refine wpAnyH_take (i := 7) (v := Value.agg _) (by simp only [List.getElem?_toArray, List.getElem?_cons_succ, List.getElem?_cons_zero]; rfl) (by kernel_rfl) (by kernel_rfl) (by kernel_rfl) (by exact fun _ _ _ h => h) (Or.inl ⟨by rfl, fun W hSW => yields_load_row _ _ rfl _ _ _ rfl (rlB W hSW) huB rfl hzB⟩) hOn ?_
  try simp only [Act.put, List.setIfInBounds_toArray, List.set_cons_zero, List.set_cons_succ]
  refine wpAnyH_ready (rs := [6]) (by kernel_rfl) (by simp) ?_
  refine AllReadyH.cons (by simp only [List.getElem?_toArray, List.getElem?_cons_succ, List.getElem?_cons_zero]; rfl) (fun Kz hKz => ?_) AllReadyH.nil
  go_simp
  (with_reducible refine (hof.out _).mono ?_)
  rintro e w8 ⟨rfl, hnew⟩
  have hS := Grown.trans hOn hnew
  focus (go_wp2_with fail)
  refine hKz.out _ _ (by first | exact hS | exact Below.trans hOn (Below.mono hnew (Below.size hOn))) (fun hNext => ?_)
  clear hKz Kz hOn
  have hOn := hNext
  clear hNext
  try clear hnew
  try clear hS
  try simp only [Act.put, List.setIfInBounds_toArray, List.set_cons_zero, List.set_cons_succ]
  refine wpAnyH_take (i := 8) (v := ?_) (by simp only [List.getElem?_toArray, List.getElem?_cons_succ, List.getElem?_cons_zero]; rfl) (by kernel_rfl) (by kernel_rfl) (by kernel_rfl) (by exact fun _ _ _ h => h) (Or.inl ⟨by rfl, ?_⟩) hOn ?_
  rotate_left
  focus (intro W hSW; go_simp; try with_reducible rfl)
  try simp only [Act.put, List.setIfInBounds_toArray, List.set_cons_zero, List.set_cons_succ]
  refine wpAnyH_take (i := 9) (v := ?_) (by simp only [List.getElem?_toArray, List.getElem?_cons_succ, List.getElem?_cons_zero]; rfl) (by kernel_rfl) (by kernel_rfl) (by kernel_rfl) (by exact fun _ _ _ h => h) (Or.inl ⟨by rfl, ?_⟩) hOn ?_
  rotate_left
  focus (intro W hSW; go_simp; try with_reducible rfl)
  try simp only [Act.put, List.setIfInBounds_toArray, List.set_cons_zero, List.set_cons_succ]
  refine wpAnyH_take (i := 10) (v := ?_) (by simp only [List.getElem?_toArray, List.getElem?_cons_succ, List.getElem?_cons_zero]; rfl) (by kernel_rfl) (by kernel_rfl) (by kernel_rfl) (by exact fun _ _ _ h => h) (Or.inl ⟨by rfl, ?_⟩) hOn ?_
  rotate_left
  focus (intro W hSW; go_simp; try with_reducible rfl)
  try simp only [Act.put, List.setIfInBounds_toArray, List.set_cons_zero, List.set_cons_succ]
  refine wpAnyH_take (i := 11) (v := ?_) (by simp only [List.getElem?_toArray, List.getElem?_cons_succ, List.getElem?_cons_zero]; rfl) (by kernel_rfl) (by kernel_rfl) (by kernel_rfl) (by exact fun _ _ _ h => h) (Or.inl ⟨by rfl, ?_⟩) hOn ?_
  rotate_left
  focus (intro W hSW; go_simp; try with_reducible rfl)
  try simp only [Act.put, List.setIfInBounds_toArray, List.set_cons_zero, List.set_cons_succ]
  refine wpAnyH_take (i := 12) (v := ?_) (by simp only [List.getElem?_toArray, List.getElem?_cons_succ, List.getElem?_cons_zero]; rfl) (by kernel_rfl) (by kernel_rfl) (by kernel_rfl) (by exact fun _ _ _ h => h) (Or.inl ⟨by rfl, ?_⟩) hOn ?_
  rotate_left
  focus (intro W hSW; go_simp; try with_reducible rfl)
  try simp only [Act.put, List.setIfInBounds_toArray, List.set_cons_zero, List.set_cons_succ]
  refine wpAnyH_ready (rs := [13]) (by kernel_rfl) (by simp) ?_
  refine AllReadyH.cons (by simp only [List.getElem?_toArray, List.getElem?_cons_succ, List.getElem?_cons_zero]; rfl) (fun Kz hKz => ?_) AllReadyH.nil
  go_simp
  (with_reducible refine (hkp.out _ _ (hM6.out.below hOn) (hx6.out.below hOn)).mono ?_)
  rintro e w9 ⟨rfl, hdr⟩
  have hS := Grown.trans hOn (hdr.below _)
  focus (go_wp2_with fail)
  refine hKz.out _ _ (by first | exact hS | exact Below.trans hOn (Below.mono hnew (Below.size hOn))) (fun hNext => ?_)
  clear hKz Kz hOn
  have hOn := hNext
  clear hNext
  try clear hnew
  try clear hS
  try simp only [Act.put, List.setIfInBounds_toArray, List.set_cons_zero, List.set_cons_succ]
  refine wpAnyH_take (i := 14) (v := ?_) (by simp only [List.getElem?_toArray, List.getElem?_cons_succ, List.getElem?_cons_zero]; rfl) (by kernel_rfl) (by kernel_rfl) (by kernel_rfl) (by exact fun _ _ _ h => h) (Or.inl ⟨by rfl, ?_⟩) hOn ?_
  rotate_left
  focus (intro W hSW; go_simp; try with_reducible rfl)
  try simp only [Act.put, List.setIfInBounds_toArray, List.set_cons_zero, List.set_cons_succ]
  refine wpAnyH_take (i := 15) (v := ?_) (by simp only [List.getElem?_toArray, List.getElem?_cons_succ, List.getElem?_cons_zero]; rfl) (by kernel_rfl) (by kernel_rfl) (by kernel_rfl) (by exact fun _ _ _ h => h) (Or.inl ⟨by rfl, ?_⟩) hOn ?_
  rotate_left
  focus (intro W hSW; go_simp; try with_reducible rfl)
  try simp only [Act.put, List.setIfInBounds_toArray, List.set_cons_zero, List.set_cons_succ]
  refine wpAnyH_done (by kernel_rfl) ?_ _
  all_goals
    have hx9 := Lib.hid (hx6.out.below hOn)
    have hb9 := Lib.hid (hb6.out.trans (hOn.mono hb6.out.size))
    have hy9 := Lib.hid (rowG hy6.out hOn)
    clear hOn hnm hd0
    go_wp2_with (with_reducible refine wpList_load_row rfl 31 (.tmp 4) rfl w3.heap.size R _ rfl hy9 huG rfl hszG ?_)
    with_reducible refine (hbg.out _ (H.out.below hb9.out)).mono ?_
    rintro e w10 ⟨v10, rfl, ho10, hnn⟩
    have hx10 := Lib.hid (hx9.out.below hnn)
    have hb10 := Lib.hid (hb9.out.trans (hnn.mono hb9.out.size))
    obtain ⟨a10, c10, rfl, ha10, _⟩ := ho10.arg
    rw [ho] at ha10
    rw [ho, hn.out]
    have cv10 := convB ha10 n hn.out
    have cvx := convB hx10.out n hn.out
    clear hnn ho10 ha10
    go_wp2_with fail
    go_ret
    exact ⟨rfl, hb10.out⟩
theorem rp_law (a : Option Addr) (c : Nat) (xs : List UInt8) (w : World) (hx : ArgB w a c xs) (ea : Nat → Addr) (H : Errs 132 errGs w ea) : Calls Tryd.prog 5 #[.slice a xs.length c] w fun e w2 => e = .returned (.bool true) ∧ Below w.heap.size w w2 := by
  by_cases hl : 500 < xs.length
  · exact rp_long a c xs hl w
  · obtain ⟨y, N, hy, hN, _, hp, hr⟩ := both_all xs (by omega)
    by_cases h0 : N = 0
    · subst h0
      obtain ⟨h1, h2⟩ := hN rfl
      exact rp_good a c xs (by omega) y hy h1 h2 hp hr ea w hx H
    · exact rp_bad a c xs (by omega) y N hy h0 hp hr ea w hx H
end Go.Proofs.YtahnicbokdbjdaaDoor
