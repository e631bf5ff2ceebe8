/- model.Put where it adds no name. Printed by genmput.py. -/
import Derived.Test.YtndgacjfkoliaaaDoorF22PlaysSaid34
import Derived.Test.YtndgacjfkoliaaaDoorF29PlaysSaid34
import Derived.Test.YtndgacjfkoliaaaDoorF4PlaysSaid34
namespace Go.Proofs.YtndgacjfkoliaaaDoor
open Go.RowKit
set_option linter.unusedSimpArgs false
set_option linter.unusedVariables false

theorem ErrIs.updM {ea : Nat → Addr} {w w' : World} {v : Value} {n b : Nat} {o : Obj} {C : Array Value} {t : TypeId} {z : Nat × Nat} (h : ErrIs ea w v n) (hU : Upd b o w w') (hb : w.heap[b]? = some (.cells C t z)) (ht : t ≠ 92) : ErrIs ea w' v n := by
  rcases h with h | h | ⟨i, g, F, V, h1, h2, h3, h4⟩
  · exact .inl h
  · exact .inr (.inl h)
  · refine .inr (.inr ⟨i, g, F, V, h1, h2, h3, (hU.block g fun e => ?_).trans h4⟩)
    rw [e, hb] at h4
    injection h4 with h4
    injection h4 with _ h5 _
    exact ht h5

set_option maxRecDepth 100000 in
set_option maxHeartbeats 4000000 in
theorem mput_chk (va : Value) (m : Md) (w : World) (ha : ArgM w va m) (l1 : m.ns.length ≤ 4) (l2 : m.vs.length ≤ 1000) (s : ByteArray) (size : Int) (f : List UInt8) (p : P6) (hs : s.size ≤ 1000000) (hf : f.length = 32) (hp : p.Ok) (n : Nat) (hn0 : n ≠ 0) (hpo : pChk p = n)  (ea : Nat → Addr) (H : Errs 137 errGs w ea) :
    Calls Tryd.prog 14 #[va, .string s, .int .i64 size, .agg (cB f).toArray, .agg p.list.toArray] w (NPost ea m 0 n w) := by
  have ha0 := ha
  obtain ⟨⟨an, cn, av, cv, e0, hN, -, -, hV, -, -⟩, okN, okV⟩ := ha
  obtain ⟨PP, hPP⟩ : ∃ PP, PP = p.list.toArray := ⟨_, rfl⟩
  obtain ⟨DD, hDD⟩ : ∃ DD, DD = (cB f).toArray := ⟨_, rfl⟩
  obtain ⟨N, hNl⟩ : ∃ N, N = m.ns.length := ⟨_, rfl⟩
  obtain ⟨V, hVl⟩ : ∃ V, V = m.vs.length := ⟨_, rfl⟩
  rw [← hNl, ← hVl] at e0
  obtain ⟨CM, hCM⟩ : ∃ CM : Array Value, CM = #[.slice an N cn, .slice av V cv] := ⟨_, rfl⟩
  rw [← hCM] at e0
  subst e0
  obtain ⟨w2, hw2⟩ : ∃ w2, w2 = ((((w.alloc (.cells CM 28)).alloc (.cells #[.string s] 9)).alloc (.cells DD 53)).alloc (.cells PP 34)).alloc (.cells #[.slice none 0 0, .slice none 0 0] 28) := ⟨_, rfl⟩
  obtain ⟨b0, b1, b2, b3, b4, hs2, hB⟩ := five_allocs w _ _ _ _ _ _ _ _ _ _ w2 hw2
  have hck : ∀ W, Below w.heap.size w W → Calls Tryd.prog 27 #[.agg PP] W fun e w' => ∃ v, e = .returned v ∧ ErrIs ea w' v n ∧ Below W.heap.size W w' := fun W hW => by rw [hPP]; have := parCheckM p hp ea W (H.below hW); rwa [hpo] at this
  have huM : Tryd.prog.underlying 28 = _ := Tryd.underlying28
  have huP : Tryd.prog.underlying 34 = _ := Tryd.underlying34
  have huD : Tryd.prog.underlying 53 = _ := Tryd.underlying53
  have iM : (Tryd.prog.info? 28).map (·.size) = some CM.size := by rw [hCM]; kernel_rfl
  have h1M : CM.all (·.oneCell') = true := by rw [hCM]; simp [Value.oneCell']
  have hss : (#[.slice none 0 0, .slice none 0 0] : Array Value).size = CM.size := by rw [hCM]; rfl
  have iP : (Tryd.prog.info? 34).map (·.size) = some PP.size := by rw [hPP]; kernel_rfl
  have iD : (Tryd.prog.info? 53).map (·.size) = some DD.size := by rw [hDD, List.size_toArray, cB_length, hf]; kernel_rfl
  have hP0 : PP[0]? = some (.int .i64 p.s) := by rw [hPP]; rfl
  have hC0 : CM[0]? = some (.slice an N cn) := by rw [hCM]; rfl
  rw [← hPP, ← hDD]
  have hpost : Hid (∀ W v, ErrIs ea W v n → Below w.heap.size w W → NPost ea m 0 n w (.returned (.tuple #[.agg CM, .int .i64 0, v])) W) := Lib.hid (fun W v hv h => ⟨_, _, rfl, ha0.below h (Nat.le_refl _), hv, h⟩)
  replace hck := Lib.hid hck
  replace hNl := Lib.hid hNl
  replace hVl := Lib.hid hVl
  replace hw2 := Lib.hid hw2
  replace b0 := Lib.hid b0
  replace b1 := Lib.hid b1
  replace b2 := Lib.hid b2
  replace b3 := Lib.hid b3
  replace b4 := Lib.hid b4
  replace hB := Lib.hid hB
  replace hs2 := Lib.hid hs2
  replace hPP := Lib.hid hPP
  replace hDD := Lib.hid hDD
  replace hCM := Lib.hid hCM
  replace hP0 := Lib.hid hP0
  replace hC0 := Lib.hid hC0
  clear hN hV ha0 okN okV hpo hp hs hf H l1 l2
  go_enter Tryd.func14, Tryd.ntmps14
  go_upto_region 1 with fail
  rw [← hw2.out]
  clear hw2
  go_wp2_with (refine wpList_load_row rfl 34 (.tmp 9) rfl (w.heap.size + 3) PP _ rfl b3 huP rfl iP ?_)
  with_reducible refine (hck.out w2 hB.out).mono ?_
  rintro x w3 ⟨v, rfl, hv, hb3⟩
  have hB3 := Lib.hid (hB.out.trans (hb3.mono hB.out.size))
  have q0 := Lib.hid ((hb3.block _ (block_lt b0.out)).trans b0.out)
  have q4 := Lib.hid ((hb3.block _ (block_lt b4.out)).trans b4.out)
  have hu := hv.neq
  have hg := hv.guard
  have hne : (n != 0) = true := by simpa using hn0
  rw [hne] at hu
  replace hv := Lib.hid hv
  clear hck hb3 b0 b1 b2 b3 b4 hB hn0
  go_wp2_with (first
    | ((with_reducible show wpList _ _ _ (Oper.mk _ (Op.load 28 (.tmp 5)) _ _ _ _ :: _) _ _); refine wpList_load_row rfl 28 (.tmp 5) rfl w.heap.size CM _ rfl q0 huM rfl iM ?_)
    | ((with_reducible show wpList _ _ _ (Oper.mk _ (Op.store 28 (.tmp 10) _) _ _ _ _ :: _) _ _); (refine wpList_store_row rfl 28 (.tmp 10) (.tmp 20) rfl (w.heap.size + 4) _ CM rfl rfl q4 iM hss h1M ?_); intro w9 hU9))
  refine ret_cell_tmp2 (c := CM) rfl rfl huM rfl iM hU9.out.here ?_
  exact hpost.out _ _ (hv.out.updM hU9.out q4.out (by decide)) (hB3.out.trans (hU9.out.below (by omega)))

set_option maxRecDepth 100000 in
set_option maxHeartbeats 4000000 in
theorem mput_size (va : Value) (m : Md) (w : World) (ha : ArgM w va m) (l1 : m.ns.length ≤ 4) (l2 : m.vs.length ≤ 1000) (s : ByteArray) (size : Int) (f : List UInt8) (p : P6) (hs : s.size ≤ 1000000) (hf : f.length = 32) (hp : p.Ok) (hpo : badAt p.s p.n p.k p.d p.t p.r = none) (q : Int) (hfi : findS m.ns s = q) (hsz : size ≠ p.s) (ea : Nat → Addr) (H : Errs 137 errGs w ea) :
    Calls Tryd.prog 14 #[va, .string s, .int .i64 size, .agg (cB f).toArray, .agg p.list.toArray] w (NPost ea m 0 8 w) := by
  have ha0 := ha
  obtain ⟨⟨an, cn, av, cv, e0, hN, -, -, hV, -, -⟩, okN, okV⟩ := ha
  obtain ⟨PP, hPP⟩ : ∃ PP, PP = p.list.toArray := ⟨_, rfl⟩
  obtain ⟨DD, hDD⟩ : ∃ DD, DD = (cB f).toArray := ⟨_, rfl⟩
  obtain ⟨N, hNl⟩ : ∃ N, N = m.ns.length := ⟨_, rfl⟩
  obtain ⟨V, hVl⟩ : ∃ V, V = m.vs.length := ⟨_, rfl⟩
  rw [← hNl, ← hVl] at e0
  obtain ⟨CM, hCM⟩ : ∃ CM : Array Value, CM = #[.slice an N cn, .slice av V cv] := ⟨_, rfl⟩
  rw [← hCM] at e0
  subst e0
  obtain ⟨w2, hw2⟩ : ∃ w2, w2 = ((((w.alloc (.cells CM 28)).alloc (.cells #[.string s] 9)).alloc (.cells DD 53)).alloc (.cells PP 34)).alloc (.cells #[.slice none 0 0, .slice none 0 0] 28) := ⟨_, rfl⟩
  obtain ⟨b0, b1, b2, b3, b4, hs2, hB⟩ := five_allocs w _ _ _ _ _ _ _ _ _ _ w2 hw2
  have hck : ∀ W, Below w.heap.size w W → Calls Tryd.prog 27 #[.agg PP] W fun e w' => e = .returned .nilIface ∧ Below W.heap.size W w' := fun W hW => by rw [hPP]; exact check_ok p.s p.n p.k p.d p.t p.r (badAt_ok hpo) (pz ea) W (par_of (H.below hW))
  have huM : Tryd.prog.underlying 28 = _ := Tryd.underlying28
  have huP : Tryd.prog.underlying 34 = _ := Tryd.underlying34
  have huD : Tryd.prog.underlying 53 = _ := Tryd.underlying53
  have iM : (Tryd.prog.info? 28).map (·.size) = some CM.size := by rw [hCM]; kernel_rfl
  have h1M : CM.all (·.oneCell') = true := by rw [hCM]; simp [Value.oneCell']
  have hss : (#[.slice none 0 0, .slice none 0 0] : Array Value).size = CM.size := by rw [hCM]; rfl
  have iP : (Tryd.prog.info? 34).map (·.size) = some PP.size := by rw [hPP]; kernel_rfl
  have iD : (Tryd.prog.info? 53).map (·.size) = some DD.size := by rw [hDD, List.size_toArray, cB_length, hf]; kernel_rfl
  have hP0 : PP[0]? = some (.int .i64 p.s) := by rw [hPP]; rfl
  have hC0 : CM[0]? = some (.slice an N cn) := by rw [hCM]; rfl
  rw [← hPP, ← hDD]
  have hix : ∀ W, Below w2.heap.size w2 W → Calls Tryd.prog 28 #[.slice an N cn, .func (.func 29) #[] #[.pointer (some ⟨w.heap.size + 1, 0, none⟩)]] W fun r w' => r = .returned (.int .i64 (q)) ∧ Below W.heap.size W w' := fun W hW => by
    have hb : W.heap[w.heap.size + 1]? = some (.cells #[.string s] 9 (0, 0)) := (hW.block _ (block_lt b1)).trans b1
    have := indexN_any an cn m.ns okN W (hN.below (hB.trans (hW.mono hB.size)) (Nat.le_refl _)) (by omega) (w.heap.size + 1) s (by rw [cell_of_block hb]; rfl)
    rw [hNl]
    rwa [hfi] at this
  have hge := Lib.hid (fun W (h : Below w.heap.size w W) => (num_cells (H.below h)).2.2.2.2.2.2.2.1)
  have hpost : Hid (∀ W, Below w.heap.size w W → NPost ea m 0 8 w (.returned (.tuple #[.agg CM, .int .i64 0, .iface 137 (.pointer (some (ea 7)))])) W) := Lib.hid (fun W h => ⟨_, _, rfl, ha0.below h (Nat.le_refl _), .inr (.inl ⟨7, by decide, rfl, rfl⟩), h⟩)
  have hgl : 0 < w.heap.size := World.block_lt_of_cell? w _ (hge.out w (Below.refl _ _))
  have hsn : (size != p.s) = true := by simpa using hsz
  clear hsz
  replace hck := Lib.hid hck
  replace hNl := Lib.hid hNl
  replace hVl := Lib.hid hVl
  replace hw2 := Lib.hid hw2
  replace b0 := Lib.hid b0
  replace b1 := Lib.hid b1
  replace b2 := Lib.hid b2
  replace b3 := Lib.hid b3
  replace b4 := Lib.hid b4
  replace hB := Lib.hid hB
  replace hs2 := Lib.hid hs2
  replace hPP := Lib.hid hPP
  replace hDD := Lib.hid hDD
  replace hCM := Lib.hid hCM
  replace hP0 := Lib.hid hP0
  replace hC0 := Lib.hid hC0
  clear hN hV ha0 okN okV hpo hp hs hf H l1 l2 hfi
  replace hix := Lib.hid hix
  go_enter Tryd.func14, Tryd.ntmps14
  go_upto_region 1 with fail
  rw [← hw2.out]
  clear hw2
  go_wp2_with (refine wpList_load_row rfl 34 (.tmp 9) rfl (w.heap.size + 3) PP _ rfl b3 huP rfl iP ?_)
  with_reducible refine (hck.out w2 hB.out).mono ?_
  rintro x w3 ⟨rfl, hb3⟩
  have hB3 := Lib.hid (hB.out.trans (hb3.mono hB.out.size))
  have k0 := (hb3.block _ (block_lt b0.out)).trans b0.out
  have c0 : w3.cell? ⟨w.heap.size, 0, none⟩ = some (.slice an N cn) := by rw [cell_of_block k0]; exact hC0.out
  have hix3 := Lib.hid (hix.out w3 hb3)
  clear hck hix k0
  go_wp2_with fail
  with_reducible refine hix3.out.mono ?_
  clear hix3
  rintro x w4 ⟨rfl, hb4⟩
  have hB4 := Lib.hid (hB3.out.trans (hb4.mono hB3.out.size))
  have hB24 := hb3.trans (hb4.mono hb3.size)
  have q0 := Lib.hid ((hB24.block _ (block_lt b0.out)).trans b0.out)
  have q1 := Lib.hid ((hB24.block _ (block_lt b1.out)).trans b1.out)
  have q2 := Lib.hid ((hB24.block _ (block_lt b2.out)).trans b2.out)
  have q3 := Lib.hid ((hB24.block _ (block_lt b3.out)).trans b3.out)
  have q4 := Lib.hid ((hB24.block _ (block_lt b4.out)).trans b4.out)
  have c30 : w4.cell? ⟨w.heap.size + 3, 0, none⟩ = some (.int .i64 p.s) := by rw [cell_of_block q3.out]; exact hP0.out
  have c10 : w4.cell? ⟨w.heap.size + 1, 0, none⟩ = some (.string s) := by rw [cell_of_block q1.out]; rfl
  clear hb3 hb4 hB24 b0 b1 b2 b3 b4 hB c0 hB3
  go_wp2_with fail
  have z0 := q0
  have z4 := q4
  have hBz := hB4
  generalize w4 = wz at *
  clear q0 q1 q2 q3 q4 c30 c10 hB4
  have hgz := hge.out wz hBz.out
  have hd0 : Hid (Only (fun k => k = w.heap.size + 4) wz wz.drew) := Lib.hid ((Only.refl _ _).drew)
  have rlA : ∀ W : World, Only (fun k => k = w.heap.size + 4) wz W → W.heap[w.heap.size]? = some (.cells CM 28 (0, 0)) := fun W hW => hW.heap z0.out (by omega)
  have huA := huM
  have hzA := iM
  have hcW : ∀ W : World, Only (fun k => k = w.heap.size + 4) wz W → W.cell? ⟨0, 0, none⟩ = some (.iface 137 (.pointer (some (ea 7)))) := fun W hW => (World.cell?_of_block (a := ⟨0, 0, none⟩) (hW.block _ (World.block_lt_of_cell? wz _ hgz) (by simp only at hgl ⊢; omega))).trans hgz
  replace z4 : Hid (wz.drew.heap[w.heap.size + 4]? = some (.cells #[.slice none 0 0, .slice none 0 0] 28 (0, 0))) := Lib.hid z4.out
  clear hgz
  refine wp_region_held_drew (S := (Only (fun k => k = w.heap.size + 4) wz)) (by kernel_rfl) hd0.out (fun hOn => ?_)
  generalize World.drew wz = wd at *
  refine wpAnyH_take (i := 0) (v := Value.agg _) (by simp only [List.getElem?_toArray, List.getElem?_cons_zero]; rfl) (by kernel_rfl) (by kernel_rfl) (by kernel_rfl) (by exact fun _ _ _ h => h) (Or.inl ⟨by rfl, fun W hSW => yields_load_row _ _ rfl _ _ _ rfl (rlA W hSW) huA rfl hzA⟩) hOn ?_
  try simp only [Act.put, List.setIfInBounds_toArray, List.set_cons_zero, List.set_cons_succ]
  refine wpAnyH_take (i := 1) (v := ?_) (by simp only [List.getElem?_toArray, List.getElem?_cons_succ, List.getElem?_cons_zero]; rfl) (by kernel_rfl) (by kernel_rfl) (by kernel_rfl) (by exact fun _ _ _ h => h) (Or.inl ⟨by rfl, ?_⟩) hOn ?_
  rotate_left
  focus (intro W hSW; go_simp; try with_reducible rfl)
  try simp only [Act.put, List.setIfInBounds_toArray, List.set_cons_zero, List.set_cons_succ]
  refine wpAnyH_ready (rs := [2]) (by kernel_rfl) (by simp) ?_
  refine AllReadyH.cons (by simp only [List.getElem?_toArray, List.getElem?_cons_succ, List.getElem?_cons_zero]; rfl) (fun Kz hKz => ?_) AllReadyH.nil
  rw [if_pos (by rfl)]
  (with_reducible refine wp_store_rowK 28 (.tmp 10) (.tmp 31) rfl (w.heap.size + 4) #[.slice none 0 0, .slice none 0 0] CM rfl rfl z4 iM hss h1M ?_)
  intro w9 hU9
  have hS := hOn.trans (Only.ofUpd (D := fun k => k = w.heap.size + 4) hU9.out rfl) (fun _ _ e => e)
  have hres := Lib.hid hU9.out.here
  refine hKz.out _ _ (by first | exact hS | exact Below.trans hOn (Below.mono hnew (Below.size hOn))) (fun hNext => ?_)
  clear hKz Kz hOn
  have hOn := hNext
  clear hNext
  try clear hnew
  try clear hS
  try simp only [Act.put]
  refine wpAnyH_take (i := 3) (v := ?_) (by simp only [List.getElem?_toArray, List.getElem?_cons_succ, List.getElem?_cons_zero]; rfl) (by kernel_rfl) (by kernel_rfl) (by kernel_rfl) (by exact fun _ _ _ h => h) (Or.inl ⟨by rfl, ?_⟩) hOn ?_
  rotate_left
  focus (intro W hSW; go_simp; try with_reducible rfl)
  try simp only [Act.put, List.setIfInBounds_toArray, List.set_cons_zero, List.set_cons_succ]
  refine wpAnyH_take (i := 4) (v := ?_) (by simp only [List.getElem?_toArray, List.getElem?_cons_succ, List.getElem?_cons_zero]; rfl) (by kernel_rfl) (by kernel_rfl) (by kernel_rfl) (by exact fun _ _ _ h => h) (Or.inl ⟨by rfl, ?_⟩) hOn ?_
  rotate_left
  focus (intro W hSW; go_simp; try with_reducible rfl)
  try simp only [Act.put, List.setIfInBounds_toArray, List.set_cons_zero, List.set_cons_succ]
  refine wpAnyH_done (by kernel_rfl) ?_ _
  all_goals
    go_wp2_with fail
    refine ret_cell_tmp2 (c := CM) rfl rfl huM rfl iM hres.out ?_
    exact hpost.out _ (hBz.out.trans (hOn.below (by have := hBz.out.size; omega) (fun k e => by omega)))

set_option maxRecDepth 100000 in
set_option maxHeartbeats 4000000 in
theorem mput_same (va : Value) (m : Md) (w : World) (ha : ArgM w va m) (l1 : m.ns.length ≤ 4) (l2 : m.vs.length ≤ 1000) (s : ByteArray) (size : Int) (f : List UInt8) (p : P6) (hs : s.size ≤ 1000000) (hf : f.length = 32) (hp : p.Ok) (hpo : badAt p.s p.n p.k p.d p.t p.r = none) (i : Nat) (hi : i < m.ns.length) (hfi : findS m.ns s = (i : Int)) (hsz : size = p.s) (hnw : m.ns[i] = ⟨s, p, f, false⟩) (ea : Nat → Addr) (H : Errs 137 errGs w ea) :
    Calls Tryd.prog 14 #[va, .string s, .int .i64 size, .agg (cB f).toArray, .agg p.list.toArray] w (NPost ea m (i : Int) 0 w) := by
  have ha0 := ha
  obtain ⟨⟨an, cn, av, cv, e0, hN, -, -, hV, -, -⟩, okN, okV⟩ := ha
  obtain ⟨PP, hPP⟩ : ∃ PP, PP = p.list.toArray := ⟨_, rfl⟩
  obtain ⟨DD, hDD⟩ : ∃ DD, DD = (cB f).toArray := ⟨_, rfl⟩
  obtain ⟨N, hNl⟩ : ∃ N, N = m.ns.length := ⟨_, rfl⟩
  obtain ⟨V, hVl⟩ : ∃ V, V = m.vs.length := ⟨_, rfl⟩
  rw [← hNl, ← hVl] at e0
  obtain ⟨CM, hCM⟩ : ∃ CM : Array Value, CM = #[.slice an N cn, .slice av V cv] := ⟨_, rfl⟩
  rw [← hCM] at e0
  subst e0
  obtain ⟨w2, hw2⟩ : ∃ w2, w2 = ((((w.alloc (.cells CM 28)).alloc (.cells #[.string s] 9)).alloc (.cells DD 53)).alloc (.cells PP 34)).alloc (.cells #[.slice none 0 0, .slice none 0 0] 28) := ⟨_, rfl⟩
  obtain ⟨b0, b1, b2, b3, b4, hs2, hB⟩ := five_allocs w _ _ _ _ _ _ _ _ _ _ w2 hw2
  have hck : ∀ W, Below w.heap.size w W → Calls Tryd.prog 27 #[.agg PP] W fun e w' => e = .returned .nilIface ∧ Below W.heap.size W w' := fun W hW => by rw [hPP]; exact check_ok p.s p.n p.k p.d p.t p.r (badAt_ok hpo) (pz ea) W (par_of (H.below hW))
  have huM : Tryd.prog.underlying 28 = _ := Tryd.underlying28
  have huP : Tryd.prog.underlying 34 = _ := Tryd.underlying34
  have huD : Tryd.prog.underlying 53 = _ := Tryd.underlying53
  have iM : (Tryd.prog.info? 28).map (·.size) = some CM.size := by rw [hCM]; kernel_rfl
  have h1M : CM.all (·.oneCell') = true := by rw [hCM]; simp [Value.oneCell']
  have hss : (#[.slice none 0 0, .slice none 0 0] : Array Value).size = CM.size := by rw [hCM]; rfl
  have iP : (Tryd.prog.info? 34).map (·.size) = some PP.size := by rw [hPP]; kernel_rfl
  have iD : (Tryd.prog.info? 53).map (·.size) = some DD.size := by rw [hDD, List.size_toArray, cB_length, hf]; kernel_rfl
  have hP0 : PP[0]? = some (.int .i64 p.s) := by rw [hPP]; rfl
  have hC0 : CM[0]? = some (.slice an N cn) := by rw [hCM]; rfl
  rw [← hPP, ← hDD]
  subst hsz
  have hix : ∀ W, Below w2.heap.size w2 W → Calls Tryd.prog 28 #[.slice an N cn, .func (.func 29) #[] #[.pointer (some ⟨w.heap.size + 1, 0, none⟩)]] W fun r w' => r = .returned (.int .i64 ((i : Int))) ∧ Below W.heap.size W w' := fun W hW => by
    have hb : W.heap[w.heap.size + 1]? = some (.cells #[.string s] 9 (0, 0)) := (hW.block _ (block_lt b1)).trans b1
    have := indexN_any an cn m.ns okN W (hN.below (hB.trans (hW.mono hB.size)) (Nat.le_refl _)) (by omega) (w.heap.size + 1) s (by rw [cell_of_block hb]; rfl)
    rw [hNl]
    rwa [hfi] at this
  have hpost : Hid (∀ W, Below w.heap.size w W → NPost ea m (i : Int) 0 w (.returned (.tuple #[.agg CM, .int .i64 (i : Int), .nilIface])) W) := Lib.hid (fun W h => ⟨_, _, rfl, ha0.below h (Nat.le_refl _), .inl ⟨rfl, rfl⟩, h⟩)
  obtain ⟨b, o, hab, hr⟩ := hN i hi
  subst hab
  have hii : (i : Int) < (N : Int) := by rw [hNl]; omega
  have hi0 : (0 : Int) ≤ (i : Int) := by omega
  have hx := okN _ (List.getElem_mem hi)
  have hy : (⟨s, p, f, false⟩ : Nm).Ok := ⟨Nat.le_trans hs (by decide), hp, hf⟩
  have heq := fun W => (neq_nmG (m.ns[i]) ⟨s, p, f, false⟩ hx hy W).2
  rw [decide_eq_true hnw] at heq
  have hbd := fun W => build_nmG ⟨s, p, f, false⟩ hf W
  simp only at hbd
  rw [← hPP, ← hDD] at hbd
  obtain ⟨NW, hNW⟩ : ∃ NW, NW = (⟨s, p, f, false⟩ : Nm).list.toArray := ⟨_, rfl⟩
  obtain ⟨XA, hXA⟩ : ∃ XA, XA = (m.ns[i]).list.toArray := ⟨_, rfl⟩
  rw [← hNW] at hbd heq
  rw [← hXA] at heq
  have iX : (Tryd.prog.info? 69).map (·.size) = some (m.ns[i]).list.length := by rw [Nm.list_length hx.f]; kernel_rfl
  have huN := Tryd.underlying69
  generalize m.ns[i] = x at *
  replace hr := Lib.hid hr
  replace hXA := Lib.hid hXA
  replace hNW := Lib.hid hNW
  replace hbd := Lib.hid hbd
  replace hck := Lib.hid hck
  replace hNl := Lib.hid hNl
  replace hVl := Lib.hid hVl
  replace hw2 := Lib.hid hw2
  replace b0 := Lib.hid b0
  replace b1 := Lib.hid b1
  replace b2 := Lib.hid b2
  replace b3 := Lib.hid b3
  replace b4 := Lib.hid b4
  replace hB := Lib.hid hB
  replace hs2 := Lib.hid hs2
  replace hPP := Lib.hid hPP
  replace hDD := Lib.hid hDD
  replace hCM := Lib.hid hCM
  replace hP0 := Lib.hid hP0
  replace hC0 := Lib.hid hC0
  clear hN hV ha0 okN okV hpo hp hs hf H l1 l2 hfi hnw hi hx hy
  replace hix := Lib.hid hix
  go_enter Tryd.func14, Tryd.ntmps14
  go_upto_region 1 with fail
  rw [← hw2.out]
  clear hw2
  go_wp2_with (refine wpList_load_row rfl 34 (.tmp 9) rfl (w.heap.size + 3) PP _ rfl b3 huP rfl iP ?_)
  with_reducible refine (hck.out w2 hB.out).mono ?_
  rintro x w3 ⟨rfl, hb3⟩
  have hB3 := Lib.hid (hB.out.trans (hb3.mono hB.out.size))
  have k0 := (hb3.block _ (block_lt b0.out)).trans b0.out
  have c0 : w3.cell? ⟨w.heap.size, 0, none⟩ = some (.slice (some ⟨b, o, none⟩) N cn) := by rw [cell_of_block k0]; exact hC0.out
  have hix3 := Lib.hid (hix.out w3 hb3)
  clear hck hix k0
  go_wp2_with fail
  with_reducible refine hix3.out.mono ?_
  clear hix3
  rintro x w4 ⟨rfl, hb4⟩
  have hB4 := Lib.hid (hB3.out.trans (hb4.mono hB3.out.size))
  have hB24 := hb3.trans (hb4.mono hb3.size)
  have q0 := Lib.hid ((hB24.block _ (block_lt b0.out)).trans b0.out)
  have q1 := Lib.hid ((hB24.block _ (block_lt b1.out)).trans b1.out)
  have q2 := Lib.hid ((hB24.block _ (block_lt b2.out)).trans b2.out)
  have q3 := Lib.hid ((hB24.block _ (block_lt b3.out)).trans b3.out)
  have q4 := Lib.hid ((hB24.block _ (block_lt b4.out)).trans b4.out)
  have c30 : w4.cell? ⟨w.heap.size + 3, 0, none⟩ = some (.int .i64 p.s) := by rw [cell_of_block q3.out]; exact hP0.out
  have c10 : w4.cell? ⟨w.heap.size + 1, 0, none⟩ = some (.string s) := by rw [cell_of_block q1.out]; rfl
  clear hb3 hb4 hB24 b0 b1 b2 b3 b4 hB c0 hB3
  go_wp2_with fail
  have hrW := Lib.hid (rangeAt_below hr.out hB4.out (Nat.le_refl _))
  have hd0 : Hid (Grown w4 w4.drew) := Lib.hid (Grown.drew (Grown.refl w4))
  have r2 := Lib.hid (fun W (h : Grown w4 W) => rangeAt_below hrW.out h (Nat.le_refl _))
  have hld := fun W (h : Grown w4 W) => run_loadAt_mid (P := Tryd.prog) W b (o + i * 40) 69 x.list _ (r2.out W h) huN rfl iX
  rw [← hXA.out] at hld
  have kcM : ∀ W : World, Grown w4 W → W.cell? ⟨w.heap.size, 0, none⟩ = some (.slice (some ⟨b, o, none⟩) N cn) := fun W hW => by rw [cell_of_block ((hW.block _ (block_lt q0.out)).trans q0.out)]; exact hC0.out
  have kcS : ∀ W : World, Grown w4 W → W.cell? ⟨w.heap.size + 1, 0, none⟩ = some (.string s) := fun W hW => (hW.cell (World.block_lt_of_cell? w4 _ c10)).trans c10
  have rlA : ∀ W : World, Grown w4 W → W.heap[w.heap.size + 3]? = some (.cells PP 34 (0, 0)) := fun W hW => (hW.block _ (block_lt q3.out)).trans q3.out
  have huA := huP
  have hzA := iP
  have rlB : ∀ W : World, Grown w4 W → W.heap[w.heap.size + 2]? = some (.cells DD 53 (0, 0)) := fun W hW => (hW.block _ (block_lt q2.out)).trans q2.out
  have huB := huD
  have hzB := iD
  clear c30 c10
  have hraw := Nat.le_refl 0
  go_cut [33] from 34 to 47 (fun s33 wx => s33 = .bool true ∧ Grown w4 wx)
  case first =>
   refine wp_region_held_drew (S := (Grown w4)) (by kernel_rfl) hd0.out (fun hOn => ?_)
   generalize World.drew w4 = wd at *
   refine wpAnyH_take (i := 0) (v := ?_) (by simp only [List.getElem?_toArray, List.getElem?_cons_zero]; rfl) (by kernel_rfl) (by kernel_rfl) (by kernel_rfl) (by exact fun _ _ _ h => h) (Or.inl ⟨by rfl, ?_⟩) hOn ?_
   rotate_left
   focus (intro W hSW; go_simp; try with_reducible rfl)
   try simp only [Act.put, List.setIfInBounds_toArray, List.set_cons_zero, List.set_cons_succ]
   refine wpAnyH_take (i := 1) (v := ?_) (by simp only [List.getElem?_toArray, List.getElem?_cons_succ, List.getElem?_cons_zero]; rfl) (by kernel_rfl) (by kernel_rfl) (by kernel_rfl) (by exact fun _ _ _ h => h) (Or.inl ⟨by rfl, ?_⟩) hOn ?_
   rotate_left
   focus (intro W hSW; go_simp; try with_reducible rfl)
   try simp only [Act.put, List.setIfInBounds_toArray, List.set_cons_zero, List.set_cons_succ]
   refine wpAnyH_take (i := 2) (v := ?_) (by simp only [List.getElem?_toArray, List.getElem?_cons_succ, List.getElem?_cons_zero]; rfl) (by kernel_rfl) (by kernel_rfl) (by kernel_rfl) (by exact fun _ _ _ h => h) (Or.inl ⟨by rfl, ?_⟩) hOn ?_
   rotate_left
   focus (intro W hSW; go_simp; try with_reducible rfl)
   try simp only [Act.put, List.setIfInBounds_toArray, List.set_cons_zero, List.set_cons_succ]
   refine wpAnyH_take (i := 3) (v := ?_) (by simp only [List.getElem?_toArray, List.getElem?_cons_succ, List.getElem?_cons_zero]; rfl) (by kernel_rfl) (by kernel_rfl) (by kernel_rfl) (by exact fun _ _ _ h => h) (Or.inl ⟨by rfl, ?_⟩) hOn ?_
   rotate_left
   focus (intro W hSW; go_simp; try with_reducible rfl)
   try simp only [Act.put, List.setIfInBounds_toArray, List.set_cons_zero, List.set_cons_succ]
   refine wpAnyH_take (i := 4) (v := ?_) (by simp only [List.getElem?_toArray, List.getElem?_cons_succ, List.getElem?_cons_zero]; rfl) (by kernel_rfl) (by kernel_rfl) (by kernel_rfl) (by exact fun _ _ _ h => h) (Or.inl ⟨by rfl, ?_⟩) hOn ?_
   rotate_left
   focus (intro W hSW; go_simp; try with_reducible rfl)
   try simp only [Act.put, List.setIfInBounds_toArray, List.set_cons_zero, List.set_cons_succ]
   refine wpAnyH_take (i := 5) (v := ?_) (by simp only [List.getElem?_toArray, List.getElem?_cons_succ, List.getElem?_cons_zero]; rfl) (by kernel_rfl) (by kernel_rfl) (by kernel_rfl) (by exact fun _ _ _ h => h) (Or.inl ⟨by rfl, ?_⟩) hOn ?_
   rotate_left
   focus (intro W hSW; go_simp; try with_reducible rfl)
   try simp only [Act.put, List.setIfInBounds_toArray, List.set_cons_zero, List.set_cons_succ]
   refine wpAnyH_take (i := 6) (v := ?_) (by simp only [List.getElem?_toArray, List.getElem?_cons_succ, List.getElem?_cons_zero]; rfl) (by kernel_rfl) (by kernel_rfl) (by kernel_rfl) (by exact fun _ _ _ h => h) (Or.inl ⟨by rfl, ?_⟩) hOn ?_
   rotate_left
   focus (intro W hSW; go_simp; try with_reducible rfl)
   try simp only [Act.put, List.setIfInBounds_toArray, List.set_cons_zero, List.set_cons_succ]
   refine wpAnyH_take (i := 8) (v := ?_) (by simp only [List.getElem?_toArray, List.getElem?_cons_succ, List.getElem?_cons_zero]; rfl) (by kernel_rfl) (by kernel_rfl) (by kernel_rfl) (by exact fun _ _ _ h => h) (Or.inl ⟨by rfl, ?_⟩) hOn ?_
   rotate_left
   focus (intro W hSW; go_simp; try with_reducible rfl)
   try simp only [Act.put, List.setIfInBounds_toArray, List.set_cons_zero, List.set_cons_succ]
   refine wpAnyH_take (i := 9) (v := Value.agg _) (by simp only [List.getElem?_toArray, List.getElem?_cons_succ, List.getElem?_cons_zero]; rfl) (by kernel_rfl) (by kernel_rfl) (by kernel_rfl) (by exact fun _ _ _ h => h) (Or.inl ⟨by rfl, fun W hSW => yields_load_row _ _ rfl _ _ _ rfl (rlA W hSW) huA rfl hzA⟩) hOn ?_
   try simp only [Act.put, List.setIfInBounds_toArray, List.set_cons_zero, List.set_cons_succ]
   refine wpAnyH_take (i := 10) (v := Value.agg _) (by simp only [List.getElem?_toArray, List.getElem?_cons_succ, List.getElem?_cons_zero]; rfl) (by kernel_rfl) (by kernel_rfl) (by kernel_rfl) (by exact fun _ _ _ h => h) (Or.inl ⟨by rfl, fun W hSW => yields_load_row _ _ rfl _ _ _ rfl (rlB W hSW) huB rfl hzB⟩) hOn ?_
   try simp only [Act.put, List.setIfInBounds_toArray, List.set_cons_zero, List.set_cons_succ]
   refine wpAnyH_ready (rs := [7, 11]) (by kernel_rfl) (by simp) ?_
   refine AllReadyH.cons (by simp only [List.getElem?_toArray, List.getElem?_cons_succ, List.getElem?_cons_zero]; rfl) (fun Kz hKz => ?_) ?_
   rw [if_pos (by rfl)]
   (refine wp_load_mid 69 (.tmp 40) rfl b (o + i * 40) rfl x.list _ (r2.out _ hOn) huN rfl iX ?_)
   rw [← hXA.out]
   have hS := hOn
   refine hKz.out _ _ (by first | exact hS | exact Below.trans hOn (Below.mono hnew (Below.size hOn))) (fun hNext => ?_)
   clear hKz Kz hOn
   have hOn := hNext
   clear hNext
   try clear hnew
   try clear hS
   try simp only [Act.put]
   refine wpAnyH_ready (rs := [11]) (by kernel_rfl) (by simp) ?_
   refine AllReadyH.cons (by simp only [List.getElem?_toArray, List.getElem?_cons_succ, List.getElem?_cons_zero]; rfl) (fun Kz hKz => ?_) AllReadyH.nil
   rw [if_pos (by rfl)]
   (refine wpK_buildV 69 [(0, .tmp 42), (1, .tmp 43), (2, .tmp 44), (3, .const (.bool false))] rfl [(0, .string s), (1, .agg PP), (2, .agg DD), (3, .bool false)] rfl _ (hbd.out _) ?_)
   have hS := hOn
   refine hKz.out _ _ (by first | exact hS | exact Below.trans hOn (Below.mono hnew (Below.size hOn))) (fun hNext => ?_)
   clear hKz Kz hOn
   have hOn := hNext
   clear hNext
   try clear hnew
   try clear hS
   try simp only [Act.put]
   refine wpAnyH_take (i := 12) (v := ?_) (by simp only [List.getElem?_toArray, List.getElem?_cons_succ, List.getElem?_cons_zero]; rfl) (by kernel_rfl) (by kernel_rfl) (by kernel_rfl) (by exact fun _ _ _ h => h) (Or.inl ⟨by rfl, ?_⟩) hOn ?_
   rotate_left
   focus (intro W hSW; go_simp; try with_reducible rfl)
   try simp only [Act.put, List.setIfInBounds_toArray, List.set_cons_zero, List.set_cons_succ]
   refine wpAnyH_take (i := 13) (v := ?_) (by simp only [List.getElem?_toArray, List.getElem?_cons_succ, List.getElem?_cons_zero]; rfl) (by kernel_rfl) (by kernel_rfl) (by kernel_rfl) (by exact fun _ _ _ h => h) (Or.inl ⟨by rfl, ?_⟩) hOn ?_
   rotate_left
   focus (intro W hSW; go_simp; try with_reducible rfl)
   try simp only [Act.put, List.setIfInBounds_toArray, List.set_cons_zero, List.set_cons_succ]
   refine wpAnyH_take (i := 14) (v := ?_) (by simp only [List.getElem?_toArray, List.getElem?_cons_succ, List.getElem?_cons_zero]; rfl) (by kernel_rfl) (by kernel_rfl) (by kernel_rfl) (by exact fun _ _ _ h => h) (Or.inl ⟨by rfl, ?_⟩) hOn ?_
   rotate_left
   focus (intro W hSW; go_simp; try with_reducible rfl)
   try simp only [Act.put, List.setIfInBounds_toArray, List.set_cons_zero, List.set_cons_succ]
   refine wpAnyH_done (by kernel_rfl) ?_ _
   rotate_left
   refine AllReadyH.cons (by simp only [List.getElem?_toArray, List.getElem?_cons_succ, List.getElem?_cons_zero]; rfl) (fun Kz hKz => ?_) AllReadyH.nil
   rw [if_pos (by rfl)]
   (refine wpK_buildV 69 [(0, .tmp 42), (1, .tmp 43), (2, .tmp 44), (3, .const (.bool false))] rfl [(0, .string s), (1, .agg PP), (2, .agg DD), (3, .bool false)] rfl _ (hbd.out _) ?_)
   have hS := hOn
   refine hKz.out _ _ (by first | exact hS | exact Below.trans hOn (Below.mono hnew (Below.size hOn))) (fun hNext => ?_)
   clear hKz Kz hOn
   have hOn := hNext
   clear hNext
   try clear hnew
   try clear hS
   try simp only [Act.put]
   refine wpAnyH_ready (rs := [7]) (by kernel_rfl) (by simp) ?_
   refine AllReadyH.cons (by simp only [List.getElem?_toArray, List.getElem?_cons_succ, List.getElem?_cons_zero]; rfl) (fun Kz hKz => ?_) AllReadyH.nil
   rw [if_pos (by rfl)]
   (refine wp_load_mid 69 (.tmp 40) rfl b (o + i * 40) rfl x.list _ (r2.out _ hOn) huN rfl iX ?_)
   rw [← hXA.out]
   have hS := hOn
   refine hKz.out _ _ (by first | exact hS | exact Below.trans hOn (Below.mono hnew (Below.size hOn))) (fun hNext => ?_)
   clear hKz Kz hOn
   have hOn := hNext
   clear hNext
   try clear hnew
   try clear hS
   try simp only [Act.put]
   refine wpAnyH_take (i := 12) (v := ?_) (by simp only [List.getElem?_toArray, List.getElem?_cons_succ, List.getElem?_cons_zero]; rfl) (by kernel_rfl) (by kernel_rfl) (by kernel_rfl) (by exact fun _ _ _ h => h) (Or.inl ⟨by rfl, ?_⟩) hOn ?_
   rotate_left
   focus (intro W hSW; go_simp; try with_reducible rfl)
   try simp only [Act.put, List.setIfInBounds_toArray, List.set_cons_zero, List.set_cons_succ]
   refine wpAnyH_take (i := 13) (v := ?_) (by simp only [List.getElem?_toArray, List.getElem?_cons_succ, List.getElem?_cons_zero]; rfl) (by kernel_rfl) (by kernel_rfl) (by kernel_rfl) (by exact fun _ _ _ h => h) (Or.inl ⟨by rfl, ?_⟩) hOn ?_
   rotate_left
   focus (intro W hSW; go_simp; try with_reducible rfl)
   try simp only [Act.put, List.setIfInBounds_toArray, List.set_cons_zero, List.set_cons_succ]
   refine wpAnyH_take (i := 14) (v := ?_) (by simp only [List.getElem?_toArray, List.getElem?_cons_succ, List.getElem?_cons_zero]; rfl) (by kernel_rfl) (by kernel_rfl) (by kernel_rfl) (by exact fun _ _ _ h => h) (Or.inl ⟨by rfl, ?_⟩) hOn ?_
   rotate_left
   focus (intro W hSW; go_simp; try with_reducible rfl)
   try simp only [Act.put, List.setIfInBounds_toArray, List.set_cons_zero, List.set_cons_succ]
   refine wpAnyH_done (by kernel_rfl) ?_ _
   all_goals
    go_wp2_with fail
    go_meet
    exact ⟨rfl, hOn⟩
  case rest =>
    obtain ⟨rfl, hOn⟩ := hcut
    generalize wc = wd at *
    have hB5 := Lib.hid (hB4.out.trans (hOn.mono hB4.out.size))
    have z0 := Lib.hid ((hOn.block _ (block_lt q0.out)).trans q0.out)
    have z4 := Lib.hid ((hOn.block _ (block_lt q4.out)).trans q4.out)
    go_wp2_with (first
      | ((with_reducible show wpList _ _ _ (Oper.mk _ (Op.load 28 (.tmp 5)) _ _ _ _ :: _) _ _); refine wpList_load_row rfl 28 (.tmp 5) rfl w.heap.size CM _ rfl z0 huM rfl iM ?_)
      | ((with_reducible show wpList _ _ _ (Oper.mk _ (Op.store 28 (.tmp 10) _) _ _ _ _ :: _) _ _); (refine wpList_store_row rfl 28 (.tmp 10) (.tmp 48) rfl (w.heap.size + 4) _ CM rfl rfl z4 iM hss h1M ?_); intro w9 hU9))
    refine ret_cell_tmp2 (c := CM) rfl rfl huM rfl iM hU9.out.here ?_
    exact hpost.out _ (hB5.out.trans (hU9.out.below (by omega)))

set_option maxRecDepth 100000 in
set_option maxHeartbeats 4000000 in
theorem mput_name0 (va : Value) (m : Md) (w : World) (ha : ArgM w va m) (l1 : m.ns.length ≤ 4) (l2 : m.vs.length ≤ 1000) (s : ByteArray) (size : Int) (f : List UInt8) (p : P6) (hs : s.size ≤ 1000000) (hf : f.length = 32) (hp : p.Ok) (hpo : badAt p.s p.n p.k p.d p.t p.r = none) (hfi : findS m.ns s = -1) (hsz : size = p.s) (hla : labB s.data.toList = false) (ea : Nat → Addr) (H : Errs 137 errGs w ea) :
    Calls Tryd.prog 14 #[va, .string s, .int .i64 size, .agg (cB f).toArray, .agg p.list.toArray] w (NPost ea m 0 6 w) := by
  have ha0 := ha
  obtain ⟨⟨an, cn, av, cv, e0, hN, -, -, hV, -, -⟩, okN, okV⟩ := ha
  obtain ⟨PP, hPP⟩ : ∃ PP, PP = p.list.toArray := ⟨_, rfl⟩
  obtain ⟨DD, hDD⟩ : ∃ DD, DD = (cB f).toArray := ⟨_, rfl⟩
  obtain ⟨N, hNl⟩ : ∃ N, N = m.ns.length := ⟨_, rfl⟩
  obtain ⟨V, hVl⟩ : ∃ V, V = m.vs.length := ⟨_, rfl⟩
  rw [← hNl, ← hVl] at e0
  obtain ⟨CM, hCM⟩ : ∃ CM : Array Value, CM = #[.slice an N cn, .slice av V cv] := ⟨_, rfl⟩
  rw [← hCM] at e0
  subst e0
  obtain ⟨w2, hw2⟩ : ∃ w2, w2 = ((((w.alloc (.cells CM 28)).alloc (.cells #[.string s] 9)).alloc (.cells DD 53)).alloc (.cells PP 34)).alloc (.cells #[.slice none 0 0, .slice none 0 0] 28) := ⟨_, rfl⟩
  obtain ⟨b0, b1, b2, b3, b4, hs2, hB⟩ := five_allocs w _ _ _ _ _ _ _ _ _ _ w2 hw2
  have hck : ∀ W, Below w.heap.size w W → Calls Tryd.prog 27 #[.agg PP] W fun e w' => e = .returned .nilIface ∧ Below W.heap.size W w' := fun W hW => by rw [hPP]; exact check_ok p.s p.n p.k p.d p.t p.r (badAt_ok hpo) (pz ea) W (par_of (H.below hW))
  have huM : Tryd.prog.underlying 28 = _ := Tryd.underlying28
  have huP : Tryd.prog.underlying 34 = _ := Tryd.underlying34
  have huD : Tryd.prog.underlying 53 = _ := Tryd.underlying53
  have iM : (Tryd.prog.info? 28).map (·.size) = some CM.size := by rw [hCM]; kernel_rfl
  have h1M : CM.all (·.oneCell') = true := by rw [hCM]; simp [Value.oneCell']
  have hss : (#[.slice none 0 0, .slice none 0 0] : Array Value).size = CM.size := by rw [hCM]; rfl
  have iP : (Tryd.prog.info? 34).map (·.size) = some PP.size := by rw [hPP]; kernel_rfl
  have iD : (Tryd.prog.info? 53).map (·.size) = some DD.size := by rw [hDD, List.size_toArray, cB_length, hf]; kernel_rfl
  have hP0 : PP[0]? = some (.int .i64 p.s) := by rw [hPP]; rfl
  have hC0 : CM[0]? = some (.slice an N cn) := by rw [hCM]; rfl
  rw [← hPP, ← hDD]
  subst hsz
  have hix : ∀ W, Below w2.heap.size w2 W → Calls Tryd.prog 28 #[.slice an N cn, .func (.func 29) #[] #[.pointer (some ⟨w.heap.size + 1, 0, none⟩)]] W fun r w' => r = .returned (.int .i64 (-1)) ∧ Below W.heap.size W w' := fun W hW => by
    have hb : W.heap[w.heap.size + 1]? = some (.cells #[.string s] 9 (0, 0)) := (hW.block _ (block_lt b1)).trans b1
    have := indexN_any an cn m.ns okN W (hN.below (hB.trans (hW.mono hB.size)) (Nat.le_refl _)) (by omega) (w.heap.size + 1) s (by rw [cell_of_block hb]; rfl)
    rw [hNl]
    rwa [hfi] at this
  have hge := Lib.hid (fun W (h : Below w.heap.size w W) => (num_cells (H.below h)).2.2.2.2.2.1)
  have hpost : Hid (∀ W, Below w.heap.size w W → NPost ea m 0 6 w (.returned (.tuple #[.agg CM, .int .i64 0, .iface 137 (.pointer (some (ea 5)))])) W) := Lib.hid (fun W h => ⟨_, _, rfl, ha0.below h (Nat.le_refl _), .inr (.inl ⟨5, by decide, rfl, rfl⟩), h⟩)
  have hgl : 1 < w.heap.size := World.block_lt_of_cell? w _ (hge.out w (Below.refl _ _))
  have hlb : ∀ W, Calls Tryd.prog 30 #[.string s] W fun e w' => e = .returned (.bool false) ∧ Below W.heap.size W w' := fun W => by
    have := label_any s W (Nat.le_trans hs (by decide))
    rwa [hla] at this
  replace hlb := Lib.hid hlb
  clear hla
  replace hck := Lib.hid hck
  replace hNl := Lib.hid hNl
  replace hVl := Lib.hid hVl
  replace hw2 := Lib.hid hw2
  replace b0 := Lib.hid b0
  replace b1 := Lib.hid b1
  replace b2 := Lib.hid b2
  replace b3 := Lib.hid b3
  replace b4 := Lib.hid b4
  replace hB := Lib.hid hB
  replace hs2 := Lib.hid hs2
  replace hPP := Lib.hid hPP
  replace hDD := Lib.hid hDD
  replace hCM := Lib.hid hCM
  replace hP0 := Lib.hid hP0
  replace hC0 := Lib.hid hC0
  clear hN hV ha0 okN okV hpo hp hs hf H l1 l2 hfi
  replace hix := Lib.hid hix
  go_enter Tryd.func14, Tryd.ntmps14
  go_upto_region 1 with fail
  rw [← hw2.out]
  clear hw2
  go_wp2_with (refine wpList_load_row rfl 34 (.tmp 9) rfl (w.heap.size + 3) PP _ rfl b3 huP rfl iP ?_)
  with_reducible refine (hck.out w2 hB.out).mono ?_
  rintro x w3 ⟨rfl, hb3⟩
  have hB3 := Lib.hid (hB.out.trans (hb3.mono hB.out.size))
  have k0 := (hb3.block _ (block_lt b0.out)).trans b0.out
  have c0 : w3.cell? ⟨w.heap.size, 0, none⟩ = some (.slice an N cn) := by rw [cell_of_block k0]; exact hC0.out
  have hix3 := Lib.hid (hix.out w3 hb3)
  clear hck hix k0
  go_wp2_with fail
  with_reducible refine hix3.out.mono ?_
  clear hix3
  rintro x w4 ⟨rfl, hb4⟩
  have hB4 := Lib.hid (hB3.out.trans (hb4.mono hB3.out.size))
  have hB24 := hb3.trans (hb4.mono hb3.size)
  have q0 := Lib.hid ((hB24.block _ (block_lt b0.out)).trans b0.out)
  have q1 := Lib.hid ((hB24.block _ (block_lt b1.out)).trans b1.out)
  have q2 := Lib.hid ((hB24.block _ (block_lt b2.out)).trans b2.out)
  have q3 := Lib.hid ((hB24.block _ (block_lt b3.out)).trans b3.out)
  have q4 := Lib.hid ((hB24.block _ (block_lt b4.out)).trans b4.out)
  have c30 : w4.cell? ⟨w.heap.size + 3, 0, none⟩ = some (.int .i64 p.s) := by rw [cell_of_block q3.out]; exact hP0.out
  have c10 : w4.cell? ⟨w.heap.size + 1, 0, none⟩ = some (.string s) := by rw [cell_of_block q1.out]; rfl
  clear hb3 hb4 hB24 b0 b1 b2 b3 b4 hB c0 hB3
  go_wp2_with fail
  go_quiet (fail)
  go_wp2_with fail
  have hB5 := Lib.hid (hB4.out.trans (Drawn.below ⟨nq, rfl⟩ w.heap.size))
  have hB45 : Below w4.heap.size w4 (w4.drewN nq) := Drawn.below ⟨nq, rfl⟩ _
  have z0 := Lib.hid ((hB45.block _ (block_lt q0.out)).trans q0.out)
  have z4 := Lib.hid ((hB45.block _ (block_lt q4.out)).trans q4.out)
  clear hB45
  generalize w4.drewN nq = w5 at *
  go_wp2_with fail
  with_reducible refine (hlb.out _).mono ?_
  rintro x w6 ⟨rfl, hb6⟩
  have hBz := Lib.hid (hB5.out.trans (hb6.mono hB5.out.size))
  replace z0 := Lib.hid ((hb6.block _ (block_lt z0.out)).trans z0.out)
  replace z4 := Lib.hid ((hb6.block _ (block_lt z4.out)).trans z4.out)
  have c00 : w6.cell? ⟨w.heap.size, 0, none⟩ = some (.slice an N cn) := by rw [cell_of_block z0.out]; exact hC0.out
  clear hb6
  go_wp2_with fail
  generalize w6 = wz at *
  clear c00
  have hgz := hge.out wz hBz.out
  have hd0 : Hid (Only (fun k => k = w.heap.size + 4) wz wz.drew) := Lib.hid ((Only.refl _ _).drew)
  have rlA : ∀ W : World, Only (fun k => k = w.heap.size + 4) wz W → W.heap[w.heap.size]? = some (.cells CM 28 (0, 0)) := fun W hW => hW.heap z0.out (by omega)
  have huA := huM
  have hzA := iM
  have hcW : ∀ W : World, Only (fun k => k = w.heap.size + 4) wz W → W.cell? ⟨1, 0, none⟩ = some (.iface 137 (.pointer (some (ea 5)))) := fun W hW => (World.cell?_of_block (a := ⟨1, 0, none⟩) (hW.block _ (World.block_lt_of_cell? wz _ hgz) (by simp only at hgl ⊢; omega))).trans hgz
  replace z4 : Hid (wz.drew.heap[w.heap.size + 4]? = some (.cells #[.slice none 0 0, .slice none 0 0] 28 (0, 0))) := Lib.hid z4.out
  clear hgz
  refine wp_region_held_drew (S := (Only (fun k => k = w.heap.size + 4) wz)) (by kernel_rfl) hd0.out (fun hOn => ?_)
  generalize World.drew wz = wd at *
  refine wpAnyH_take (i := 0) (v := Value.agg _) (by simp only [List.getElem?_toArray, List.getElem?_cons_zero]; rfl) (by kernel_rfl) (by kernel_rfl) (by kernel_rfl) (by exact fun _ _ _ h => h) (Or.inl ⟨by rfl, fun W hSW => yields_load_row _ _ rfl _ _ _ rfl (rlA W hSW) huA rfl hzA⟩) hOn ?_
  try simp only [Act.put, List.setIfInBounds_toArray, List.set_cons_zero, List.set_cons_succ]
  refine wpAnyH_take (i := 1) (v := ?_) (by simp only [List.getElem?_toArray, List.getElem?_cons_succ, List.getElem?_cons_zero]; rfl) (by kernel_rfl) (by kernel_rfl) (by kernel_rfl) (by exact fun _ _ _ h => h) (Or.inl ⟨by rfl, ?_⟩) hOn ?_
  rotate_left
  focus (intro W hSW; go_simp; try with_reducible rfl)
  try simp only [Act.put, List.setIfInBounds_toArray, List.set_cons_zero, List.set_cons_succ]
  refine wpAnyH_ready (rs := [2]) (by kernel_rfl) (by simp) ?_
  refine AllReadyH.cons (by simp only [List.getElem?_toArray, List.getElem?_cons_succ, List.getElem?_cons_zero]; rfl) (fun Kz hKz => ?_) AllReadyH.nil
  rw [if_pos (by rfl)]
  (with_reducible refine wp_store_rowK 28 (.tmp 10) (.tmp 54) rfl (w.heap.size + 4) #[.slice none 0 0, .slice none 0 0] CM rfl rfl z4 iM hss h1M ?_)
  intro w9 hU9
  have hS := hOn.trans (Only.ofUpd (D := fun k => k = w.heap.size + 4) hU9.out rfl) (fun _ _ e => e)
  have hres := Lib.hid hU9.out.here
  refine hKz.out _ _ (by first | exact hS | exact Below.trans hOn (Below.mono hnew (Below.size hOn))) (fun hNext => ?_)
  clear hKz Kz hOn
  have hOn := hNext
  clear hNext
  try clear hnew
  try clear hS
  try simp only [Act.put]
  refine wpAnyH_take (i := 3) (v := ?_) (by simp only [List.getElem?_toArray, List.getElem?_cons_succ, List.getElem?_cons_zero]; rfl) (by kernel_rfl) (by kernel_rfl) (by kernel_rfl) (by exact fun _ _ _ h => h) (Or.inl ⟨by rfl, ?_⟩) hOn ?_
  rotate_left
  focus (intro W hSW; go_simp; try with_reducible rfl)
  try simp only [Act.put, List.setIfInBounds_toArray, List.set_cons_zero, List.set_cons_succ]
  refine wpAnyH_take (i := 4) (v := ?_) (by simp only [List.getElem?_toArray, List.getElem?_cons_succ, List.getElem?_cons_zero]; rfl) (by kernel_rfl) (by kernel_rfl) (by kernel_rfl) (by exact fun _ _ _ h => h) (Or.inl ⟨by rfl, ?_⟩) hOn ?_
  rotate_left
  focus (intro W hSW; go_simp; try with_reducible rfl)
  try simp only [Act.put, List.setIfInBounds_toArray, List.set_cons_zero, List.set_cons_succ]
  refine wpAnyH_done (by kernel_rfl) ?_ _
  all_goals
    go_wp2_with fail
    refine ret_cell_tmp2 (c := CM) rfl rfl huM rfl iM hres.out ?_
    exact hpost.out _ (hBz.out.trans (hOn.below (by have := hBz.out.size; omega) (fun k e => by omega)))

set_option maxRecDepth 100000 in
set_option maxHeartbeats 4000000 in
theorem mput_full (va : Value) (m : Md) (w : World) (ha : ArgM w va m) (l1 : m.ns.length ≤ 4) (l2 : m.vs.length ≤ 1000) (s : ByteArray) (size : Int) (f : List UInt8) (p : P6) (hs : s.size ≤ 1000000) (hf : f.length = 32) (hp : p.Ok) (hpo : badAt p.s p.n p.k p.d p.t p.r = none) (hfi : findS m.ns s = -1) (hsz : size = p.s) (hla : labB s.data.toList = true) (hfl : 4 ≤ m.ns.length) (ea : Nat → Addr) (H : Errs 137 errGs w ea) :
    Calls Tryd.prog 14 #[va, .string s, .int .i64 size, .agg (cB f).toArray, .agg p.list.toArray] w (NPost ea m 0 12 w) := by
  have ha0 := ha
  obtain ⟨⟨an, cn, av, cv, e0, hN, -, -, hV, -, -⟩, okN, okV⟩ := ha
  obtain ⟨PP, hPP⟩ : ∃ PP, PP = p.list.toArray := ⟨_, rfl⟩
  obtain ⟨DD, hDD⟩ : ∃ DD, DD = (cB f).toArray := ⟨_, rfl⟩
  obtain ⟨N, hNl⟩ : ∃ N, N = m.ns.length := ⟨_, rfl⟩
  obtain ⟨V, hVl⟩ : ∃ V, V = m.vs.length := ⟨_, rfl⟩
  rw [← hNl, ← hVl] at e0
  obtain ⟨CM, hCM⟩ : ∃ CM : Array Value, CM = #[.slice an N cn, .slice av V cv] := ⟨_, rfl⟩
  rw [← hCM] at e0
  subst e0
  obtain ⟨w2, hw2⟩ : ∃ w2, w2 = ((((w.alloc (.cells CM 28)).alloc (.cells #[.string s] 9)).alloc (.cells DD 53)).alloc (.cells PP 34)).alloc (.cells #[.slice none 0 0, .slice none 0 0] 28) := ⟨_, rfl⟩
  obtain ⟨b0, b1, b2, b3, b4, hs2, hB⟩ := five_allocs w _ _ _ _ _ _ _ _ _ _ w2 hw2
  have hck : ∀ W, Below w.heap.size w W → Calls Tryd.prog 27 #[.agg PP] W fun e w' => e = .returned .nilIface ∧ Below W.heap.size W w' := fun W hW => by rw [hPP]; exact check_ok p.s p.n p.k p.d p.t p.r (badAt_ok hpo) (pz ea) W (par_of (H.below hW))
  have huM : Tryd.prog.underlying 28 = _ := Tryd.underlying28
  have huP : Tryd.prog.underlying 34 = _ := Tryd.underlying34
  have huD : Tryd.prog.underlying 53 = _ := Tryd.underlying53
  have iM : (Tryd.prog.info? 28).map (·.size) = some CM.size := by rw [hCM]; kernel_rfl
  have h1M : CM.all (·.oneCell') = true := by rw [hCM]; simp [Value.oneCell']
  have hss : (#[.slice none 0 0, .slice none 0 0] : Array Value).size = CM.size := by rw [hCM]; rfl
  have iP : (Tryd.prog.info? 34).map (·.size) = some PP.size := by rw [hPP]; kernel_rfl
  have iD : (Tryd.prog.info? 53).map (·.size) = some DD.size := by rw [hDD, List.size_toArray, cB_length, hf]; kernel_rfl
  have hP0 : PP[0]? = some (.int .i64 p.s) := by rw [hPP]; rfl
  have hC0 : CM[0]? = some (.slice an N cn) := by rw [hCM]; rfl
  rw [← hPP, ← hDD]
  subst hsz
  have hix : ∀ W, Below w2.heap.size w2 W → Calls Tryd.prog 28 #[.slice an N cn, .func (.func 29) #[] #[.pointer (some ⟨w.heap.size + 1, 0, none⟩)]] W fun r w' => r = .returned (.int .i64 (-1)) ∧ Below W.heap.size W w' := fun W hW => by
    have hb : W.heap[w.heap.size + 1]? = some (.cells #[.string s] 9 (0, 0)) := (hW.block _ (block_lt b1)).trans b1
    have := indexN_any an cn m.ns okN W (hN.below (hB.trans (hW.mono hB.size)) (Nat.le_refl _)) (by omega) (w.heap.size + 1) s (by rw [cell_of_block hb]; rfl)
    rw [hNl]
    rwa [hfi] at this
  have hge := Lib.hid (fun W (h : Below w.heap.size w W) => (num_cells (H.below h)).2.2.2.2.2.2.2.2.2.2.2.1)
  have hpost : Hid (∀ W, Below w.heap.size w W → NPost ea m 0 12 w (.returned (.tuple #[.agg CM, .int .i64 0, .iface 137 (.pointer (some (ea 11)))])) W) := Lib.hid (fun W h => ⟨_, _, rfl, ha0.below h (Nat.le_refl _), .inr (.inl ⟨11, by decide, rfl, rfl⟩), h⟩)
  have hgl : 3 < w.heap.size := World.block_lt_of_cell? w _ (hge.out w (Below.refl _ _))
  have hlb : ∀ W, Calls Tryd.prog 30 #[.string s] W fun e w' => e = .returned (.bool true) ∧ Below W.heap.size W w' := fun W => by
    have := label_any s W (Nat.le_trans hs (by decide))
    rwa [hla] at this
  replace hlb := Lib.hid hlb
  clear hla
  have hN4 : (4 : Int) ≤ (N : Int) := by rw [hNl]; omega
  clear hfl
  replace hck := Lib.hid hck
  replace hNl := Lib.hid hNl
  replace hVl := Lib.hid hVl
  replace hw2 := Lib.hid hw2
  replace b0 := Lib.hid b0
  replace b1 := Lib.hid b1
  replace b2 := Lib.hid b2
  replace b3 := Lib.hid b3
  replace b4 := Lib.hid b4
  replace hB := Lib.hid hB
  replace hs2 := Lib.hid hs2
  replace hPP := Lib.hid hPP
  replace hDD := Lib.hid hDD
  replace hCM := Lib.hid hCM
  replace hP0 := Lib.hid hP0
  replace hC0 := Lib.hid hC0
  clear hN hV ha0 okN okV hpo hp hs hf H l1 l2 hfi
  replace hix := Lib.hid hix
  go_enter Tryd.func14, Tryd.ntmps14
  go_upto_region 1 with fail
  rw [← hw2.out]
  clear hw2
  go_wp2_with (refine wpList_load_row rfl 34 (.tmp 9) rfl (w.heap.size + 3) PP _ rfl b3 huP rfl iP ?_)
  with_reducible refine (hck.out w2 hB.out).mono ?_
  rintro x w3 ⟨rfl, hb3⟩
  have hB3 := Lib.hid (hB.out.trans (hb3.mono hB.out.size))
  have k0 := (hb3.block _ (block_lt b0.out)).trans b0.out
  have c0 : w3.cell? ⟨w.heap.size, 0, none⟩ = some (.slice an N cn) := by rw [cell_of_block k0]; exact hC0.out
  have hix3 := Lib.hid (hix.out w3 hb3)
  clear hck hix k0
  go_wp2_with fail
  with_reducible refine hix3.out.mono ?_
  clear hix3
  rintro x w4 ⟨rfl, hb4⟩
  have hB4 := Lib.hid (hB3.out.trans (hb4.mono hB3.out.size))
  have hB24 := hb3.trans (hb4.mono hb3.size)
  have q0 := Lib.hid ((hB24.block _ (block_lt b0.out)).trans b0.out)
  have q1 := Lib.hid ((hB24.block _ (block_lt b1.out)).trans b1.out)
  have q2 := Lib.hid ((hB24.block _ (block_lt b2.out)).trans b2.out)
  have q3 := Lib.hid ((hB24.block _ (block_lt b3.out)).trans b3.out)
  have q4 := Lib.hid ((hB24.block _ (block_lt b4.out)).trans b4.out)
  have c30 : w4.cell? ⟨w.heap.size + 3, 0, none⟩ = some (.int .i64 p.s) := by rw [cell_of_block q3.out]; exact hP0.out
  have c10 : w4.cell? ⟨w.heap.size + 1, 0, none⟩ = some (.string s) := by rw [cell_of_block q1.out]; rfl
  clear hb3 hb4 hB24 b0 b1 b2 b3 b4 hB c0 hB3
  go_wp2_with fail
  go_quiet (fail)
  go_wp2_with fail
  have hB5 := Lib.hid (hB4.out.trans (Drawn.below ⟨nq, rfl⟩ w.heap.size))
  have hB45 : Below w4.heap.size w4 (w4.drewN nq) := Drawn.below ⟨nq, rfl⟩ _
  have z0 := Lib.hid ((hB45.block _ (block_lt q0.out)).trans q0.out)
  have z4 := Lib.hid ((hB45.block _ (block_lt q4.out)).trans q4.out)
  clear hB45
  generalize w4.drewN nq = w5 at *
  go_wp2_with fail
  with_reducible refine (hlb.out _).mono ?_
  rintro x w6 ⟨rfl, hb6⟩
  have hBz := Lib.hid (hB5.out.trans (hb6.mono hB5.out.size))
  replace z0 := Lib.hid ((hb6.block _ (block_lt z0.out)).trans z0.out)
  replace z4 := Lib.hid ((hb6.block _ (block_lt z4.out)).trans z4.out)
  have c00 : w6.cell? ⟨w.heap.size, 0, none⟩ = some (.slice an N cn) := by rw [cell_of_block z0.out]; exact hC0.out
  clear hb6
  go_wp2_with fail
  generalize w6 = wz at *
  clear c00
  have hgz := hge.out wz hBz.out
  have hd0 : Hid (Only (fun k => k = w.heap.size + 4) wz wz.drew) := Lib.hid ((Only.refl _ _).drew)
  have rlA : ∀ W : World, Only (fun k => k = w.heap.size + 4) wz W → W.heap[w.heap.size]? = some (.cells CM 28 (0, 0)) := fun W hW => hW.heap z0.out (by omega)
  have huA := huM
  have hzA := iM
  have hcW : ∀ W : World, Only (fun k => k = w.heap.size + 4) wz W → W.cell? ⟨3, 0, none⟩ = some (.iface 137 (.pointer (some (ea 11)))) := fun W hW => (World.cell?_of_block (a := ⟨3, 0, none⟩) (hW.block _ (World.block_lt_of_cell? wz _ hgz) (by simp only at hgl ⊢; omega))).trans hgz
  replace z4 : Hid (wz.drew.heap[w.heap.size + 4]? = some (.cells #[.slice none 0 0, .slice none 0 0] 28 (0, 0))) := Lib.hid z4.out
  clear hgz
  refine wp_region_held_drew (S := (Only (fun k => k = w.heap.size + 4) wz)) (by kernel_rfl) hd0.out (fun hOn => ?_)
  generalize World.drew wz = wd at *
  refine wpAnyH_take (i := 0) (v := Value.agg _) (by simp only [List.getElem?_toArray, List.getElem?_cons_zero]; rfl) (by kernel_rfl) (by kernel_rfl) (by kernel_rfl) (by exact fun _ _ _ h => h) (Or.inl ⟨by rfl, fun W hSW => yields_load_row _ _ rfl _ _ _ rfl (rlA W hSW) huA rfl hzA⟩) hOn ?_
  try simp only [Act.put, List.setIfInBounds_toArray, List.set_cons_zero, List.set_cons_succ]
  refine wpAnyH_take (i := 1) (v := ?_) (by simp only [List.getElem?_toArray, List.getElem?_cons_succ, List.getElem?_cons_zero]; rfl) (by kernel_rfl) (by kernel_rfl) (by kernel_rfl) (by exact fun _ _ _ h => h) (Or.inl ⟨by rfl, ?_⟩) hOn ?_
  rotate_left
  focus (intro W hSW; go_simp; try with_reducible rfl)
  try simp only [Act.put, List.setIfInBounds_toArray, List.set_cons_zero, List.set_cons_succ]
  refine wpAnyH_ready (rs := [2]) (by kernel_rfl) (by simp) ?_
  refine AllReadyH.cons (by simp only [List.getElem?_toArray, List.getElem?_cons_succ, List.getElem?_cons_zero]; rfl) (fun Kz hKz => ?_) AllReadyH.nil
  rw [if_pos (by rfl)]
  (with_reducible refine wp_store_rowK 28 (.tmp 10) (.tmp 66) rfl (w.heap.size + 4) #[.slice none 0 0, .slice none 0 0] CM rfl rfl z4 iM hss h1M ?_)
  intro w9 hU9
  have hS := hOn.trans (Only.ofUpd (D := fun k => k = w.heap.size + 4) hU9.out rfl) (fun _ _ e => e)
  have hres := Lib.hid hU9.out.here
  refine hKz.out _ _ (by first | exact hS | exact Below.trans hOn (Below.mono hnew (Below.size hOn))) (fun hNext => ?_)
  clear hKz Kz hOn
  have hOn := hNext
  clear hNext
  try clear hnew
  try clear hS
  try simp only [Act.put]
  refine wpAnyH_take (i := 3) (v := ?_) (by simp only [List.getElem?_toArray, List.getElem?_cons_succ, List.getElem?_cons_zero]; rfl) (by kernel_rfl) (by kernel_rfl) (by kernel_rfl) (by exact fun _ _ _ h => h) (Or.inl ⟨by rfl, ?_⟩) hOn ?_
  rotate_left
  focus (intro W hSW; go_simp; try with_reducible rfl)
  try simp only [Act.put, List.setIfInBounds_toArray, List.set_cons_zero, List.set_cons_succ]
  refine wpAnyH_take (i := 4) (v := ?_) (by simp only [List.getElem?_toArray, List.getElem?_cons_succ, List.getElem?_cons_zero]; rfl) (by kernel_rfl) (by kernel_rfl) (by kernel_rfl) (by exact fun _ _ _ h => h) (Or.inl ⟨by rfl, ?_⟩) hOn ?_
  rotate_left
  focus (intro W hSW; go_simp; try with_reducible rfl)
  try simp only [Act.put, List.setIfInBounds_toArray, List.set_cons_zero, List.set_cons_succ]
  refine wpAnyH_done (by kernel_rfl) ?_ _
  all_goals
    go_wp2_with fail
    refine ret_cell_tmp2 (c := CM) rfl rfl huM rfl iM hres.out ?_
    exact hpost.out _ (hBz.out.trans (hOn.below (by have := hBz.out.size; omega) (fun k e => by omega)))

set_option maxRecDepth 100000 in
set_option maxHeartbeats 4000000 in
theorem mput_name1 (va : Value) (m : Md) (w : World) (ha : ArgM w va m) (l1 : m.ns.length ≤ 4) (l2 : m.vs.length ≤ 1000) (s : ByteArray) (size : Int) (f : List UInt8) (p : P6) (hs : s.size ≤ 1000000) (hf : f.length = 32) (hp : p.Ok) (hpo : badAt p.s p.n p.k p.d p.t p.r = none) (i : Nat) (hi : i < m.ns.length) (hfi : findS m.ns s = (i : Int)) (hsz : size = p.s) (hnw : m.ns[i] ≠ ⟨s, p, f, false⟩) (hla : labB s.data.toList = false) (ea : Nat → Addr) (H : Errs 137 errGs w ea) :
    Calls Tryd.prog 14 #[va, .string s, .int .i64 size, .agg (cB f).toArray, .agg p.list.toArray] w (NPost ea m 0 6 w) := by
  have ha0 := ha
  obtain ⟨⟨an, cn, av, cv, e0, hN, -, -, hV, -, -⟩, okN, okV⟩ := ha
  obtain ⟨PP, hPP⟩ : ∃ PP, PP = p.list.toArray := ⟨_, rfl⟩
  obtain ⟨DD, hDD⟩ : ∃ DD, DD = (cB f).toArray := ⟨_, rfl⟩
  obtain ⟨N, hNl⟩ : ∃ N, N = m.ns.length := ⟨_, rfl⟩
  obtain ⟨V, hVl⟩ : ∃ V, V = m.vs.length := ⟨_, rfl⟩
  rw [← hNl, ← hVl] at e0
  obtain ⟨CM, hCM⟩ : ∃ CM : Array Value, CM = #[.slice an N cn, .slice av V cv] := ⟨_, rfl⟩
  rw [← hCM] at e0
  subst e0
  obtain ⟨w2, hw2⟩ : ∃ w2, w2 = ((((w.alloc (.cells CM 28)).alloc (.cells #[.string s] 9)).alloc (.cells DD 53)).alloc (.cells PP 34)).alloc (.cells #[.slice none 0 0, .slice none 0 0] 28) := ⟨_, rfl⟩
  obtain ⟨b0, b1, b2, b3, b4, hs2, hB⟩ := five_allocs w _ _ _ _ _ _ _ _ _ _ w2 hw2
  have hck : ∀ W, Below w.heap.size w W → Calls Tryd.prog 27 #[.agg PP] W fun e w' => e = .returned .nilIface ∧ Below W.heap.size W w' := fun W hW => by rw [hPP]; exact check_ok p.s p.n p.k p.d p.t p.r (badAt_ok hpo) (pz ea) W (par_of (H.below hW))
  have huM : Tryd.prog.underlying 28 = _ := Tryd.underlying28
  have huP : Tryd.prog.underlying 34 = _ := Tryd.underlying34
  have huD : Tryd.prog.underlying 53 = _ := Tryd.underlying53
  have iM : (Tryd.prog.info? 28).map (·.size) = some CM.size := by rw [hCM]; kernel_rfl
  have h1M : CM.all (·.oneCell') = true := by rw [hCM]; simp [Value.oneCell']
  have hss : (#[.slice none 0 0, .slice none 0 0] : Array Value).size = CM.size := by rw [hCM]; rfl
  have iP : (Tryd.prog.info? 34).map (·.size) = some PP.size := by rw [hPP]; kernel_rfl
  have iD : (Tryd.prog.info? 53).map (·.size) = some DD.size := by rw [hDD, List.size_toArray, cB_length, hf]; kernel_rfl
  have hP0 : PP[0]? = some (.int .i64 p.s) := by rw [hPP]; rfl
  have hC0 : CM[0]? = some (.slice an N cn) := by rw [hCM]; rfl
  rw [← hPP, ← hDD]
  subst hsz
  have hix : ∀ W, Below w2.heap.size w2 W → Calls Tryd.prog 28 #[.slice an N cn, .func (.func 29) #[] #[.pointer (some ⟨w.heap.size + 1, 0, none⟩)]] W fun r w' => r = .returned (.int .i64 ((i : Int))) ∧ Below W.heap.size W w' := fun W hW => by
    have hb : W.heap[w.heap.size + 1]? = some (.cells #[.string s] 9 (0, 0)) := (hW.block _ (block_lt b1)).trans b1
    have := indexN_any an cn m.ns okN W (hN.below (hB.trans (hW.mono hB.size)) (Nat.le_refl _)) (by omega) (w.heap.size + 1) s (by rw [cell_of_block hb]; rfl)
    rw [hNl]
    rwa [hfi] at this
  have hge := Lib.hid (fun W (h : Below w.heap.size w W) => (num_cells (H.below h)).2.2.2.2.2.1)
  have hpost : Hid (∀ W, Below w.heap.size w W → NPost ea m 0 6 w (.returned (.tuple #[.agg CM, .int .i64 0, .iface 137 (.pointer (some (ea 5)))])) W) := Lib.hid (fun W h => ⟨_, _, rfl, ha0.below h (Nat.le_refl _), .inr (.inl ⟨5, by decide, rfl, rfl⟩), h⟩)
  have hgl : 1 < w.heap.size := World.block_lt_of_cell? w _ (hge.out w (Below.refl _ _))
  have hlb : ∀ W, Calls Tryd.prog 30 #[.string s] W fun e w' => e = .returned (.bool false) ∧ Below W.heap.size W w' := fun W => by
    have := label_any s W (Nat.le_trans hs (by decide))
    rwa [hla] at this
  replace hlb := Lib.hid hlb
  clear hla
  obtain ⟨b, o, hab, hr⟩ := hN i hi
  subst hab
  have hii : (i : Int) < (N : Int) := by rw [hNl]; omega
  have hi0 : (0 : Int) ≤ (i : Int) := by omega
  have hx := okN _ (List.getElem_mem hi)
  have hy : (⟨s, p, f, false⟩ : Nm).Ok := ⟨Nat.le_trans hs (by decide), hp, hf⟩
  have heq := fun W => (neq_nmG (m.ns[i]) ⟨s, p, f, false⟩ hx hy W).2
  rw [decide_eq_false hnw] at heq
  have hbd := fun W => build_nmG ⟨s, p, f, false⟩ hf W
  simp only at hbd
  rw [← hPP, ← hDD] at hbd
  obtain ⟨NW, hNW⟩ : ∃ NW, NW = (⟨s, p, f, false⟩ : Nm).list.toArray := ⟨_, rfl⟩
  obtain ⟨XA, hXA⟩ : ∃ XA, XA = (m.ns[i]).list.toArray := ⟨_, rfl⟩
  rw [← hNW] at hbd heq
  rw [← hXA] at heq
  have iX : (Tryd.prog.info? 69).map (·.size) = some (m.ns[i]).list.length := by rw [Nm.list_length hx.f]; kernel_rfl
  have huN := Tryd.underlying69
  generalize m.ns[i] = x at *
  replace hr := Lib.hid hr
  replace hXA := Lib.hid hXA
  replace hNW := Lib.hid hNW
  replace hbd := Lib.hid hbd
  replace hck := Lib.hid hck
  replace hNl := Lib.hid hNl
  replace hVl := Lib.hid hVl
  replace hw2 := Lib.hid hw2
  replace b0 := Lib.hid b0
  replace b1 := Lib.hid b1
  replace b2 := Lib.hid b2
  replace b3 := Lib.hid b3
  replace b4 := Lib.hid b4
  replace hB := Lib.hid hB
  replace hs2 := Lib.hid hs2
  replace hPP := Lib.hid hPP
  replace hDD := Lib.hid hDD
  replace hCM := Lib.hid hCM
  replace hP0 := Lib.hid hP0
  replace hC0 := Lib.hid hC0
  clear hN hV ha0 okN okV hpo hp hs hf H l1 l2 hfi hnw hi hx hy
  replace hix := Lib.hid hix
  go_enter Tryd.func14, Tryd.ntmps14
  go_upto_region 1 with fail
  rw [← hw2.out]
  clear hw2
  go_wp2_with (refine wpList_load_row rfl 34 (.tmp 9) rfl (w.heap.size + 3) PP _ rfl b3 huP rfl iP ?_)
  with_reducible refine (hck.out w2 hB.out).mono ?_
  rintro x w3 ⟨rfl, hb3⟩
  have hB3 := Lib.hid (hB.out.trans (hb3.mono hB.out.size))
  have k0 := (hb3.block _ (block_lt b0.out)).trans b0.out
  have c0 : w3.cell? ⟨w.heap.size, 0, none⟩ = some (.slice (some ⟨b, o, none⟩) N cn) := by rw [cell_of_block k0]; exact hC0.out
  have hix3 := Lib.hid (hix.out w3 hb3)
  clear hck hix k0
  go_wp2_with fail
  with_reducible refine hix3.out.mono ?_
  clear hix3
  rintro x w4 ⟨rfl, hb4⟩
  have hB4 := Lib.hid (hB3.out.trans (hb4.mono hB3.out.size))
  have hB24 := hb3.trans (hb4.mono hb3.size)
  have q0 := Lib.hid ((hB24.block _ (block_lt b0.out)).trans b0.out)
  have q1 := Lib.hid ((hB24.block _ (block_lt b1.out)).trans b1.out)
  have q2 := Lib.hid ((hB24.block _ (block_lt b2.out)).trans b2.out)
  have q3 := Lib.hid ((hB24.block _ (block_lt b3.out)).trans b3.out)
  have q4 := Lib.hid ((hB24.block _ (block_lt b4.out)).trans b4.out)
  have c30 : w4.cell? ⟨w.heap.size + 3, 0, none⟩ = some (.int .i64 p.s) := by rw [cell_of_block q3.out]; exact hP0.out
  have c10 : w4.cell? ⟨w.heap.size + 1, 0, none⟩ = some (.string s) := by rw [cell_of_block q1.out]; rfl
  clear hb3 hb4 hB24 b0 b1 b2 b3 b4 hB c0 hB3
  go_wp2_with fail
  have hrW := Lib.hid (rangeAt_below hr.out hB4.out (Nat.le_refl _))
  have hd0 : Hid (Grown w4 w4.drew) := Lib.hid (Grown.drew (Grown.refl w4))
  have r2 := Lib.hid (fun W (h : Grown w4 W) => rangeAt_below hrW.out h (Nat.le_refl _))
  have hld := fun W (h : Grown w4 W) => run_loadAt_mid (P := Tryd.prog) W b (o + i * 40) 69 x.list _ (r2.out W h) huN rfl iX
  rw [← hXA.out] at hld
  have kcM : ∀ W : World, Grown w4 W → W.cell? ⟨w.heap.size, 0, none⟩ = some (.slice (some ⟨b, o, none⟩) N cn) := fun W hW => by rw [cell_of_block ((hW.block _ (block_lt q0.out)).trans q0.out)]; exact hC0.out
  have kcS : ∀ W : World, Grown w4 W → W.cell? ⟨w.heap.size + 1, 0, none⟩ = some (.string s) := fun W hW => (hW.cell (World.block_lt_of_cell? w4 _ c10)).trans c10
  have rlA : ∀ W : World, Grown w4 W → W.heap[w.heap.size + 3]? = some (.cells PP 34 (0, 0)) := fun W hW => (hW.block _ (block_lt q3.out)).trans q3.out
  have huA := huP
  have hzA := iP
  have rlB : ∀ W : World, Grown w4 W → W.heap[w.heap.size + 2]? = some (.cells DD 53 (0, 0)) := fun W hW => (hW.block _ (block_lt q2.out)).trans q2.out
  have huB := huD
  have hzB := iD
  clear c30 c10
  have hraw := Nat.le_refl 0
  go_cut [33] from 34 to 47 (fun s33 wx => s33 = .bool false ∧ Grown w4 wx)
  case first =>
   refine wp_region_held_drew (S := (Grown w4)) (by kernel_rfl) hd0.out (fun hOn => ?_)
   generalize World.drew w4 = wd at *
   refine wpAnyH_take (i := 0) (v := ?_) (by simp only [List.getElem?_toArray, List.getElem?_cons_zero]; rfl) (by kernel_rfl) (by kernel_rfl) (by kernel_rfl) (by exact fun _ _ _ h => h) (Or.inl ⟨by rfl, ?_⟩) hOn ?_
   rotate_left
   focus (intro W hSW; go_simp; try with_reducible rfl)
   try simp only [Act.put, List.setIfInBounds_toArray, List.set_cons_zero, List.set_cons_succ]
   refine wpAnyH_take (i := 1) (v := ?_) (by simp only [List.getElem?_toArray, List.getElem?_cons_succ, List.getElem?_cons_zero]; rfl) (by kernel_rfl) (by kernel_rfl) (by kernel_rfl) (by exact fun _ _ _ h => h) (Or.inl ⟨by rfl, ?_⟩) hOn ?_
   rotate_left
   focus (intro W hSW; go_simp; try with_reducible rfl)
   try simp only [Act.put, List.setIfInBounds_toArray, List.set_cons_zero, List.set_cons_succ]
   refine wpAnyH_take (i := 2) (v := ?_) (by simp only [List.getElem?_toArray, List.getElem?_cons_succ, List.getElem?_cons_zero]; rfl) (by kernel_rfl) (by kernel_rfl) (by kernel_rfl) (by exact fun _ _ _ h => h) (Or.inl ⟨by rfl, ?_⟩) hOn ?_
   rotate_left
   focus (intro W hSW; go_simp; try with_reducible rfl)
   try simp only [Act.put, List.setIfInBounds_toArray, List.set_cons_zero, List.set_cons_succ]
   refine wpAnyH_take (i := 3) (v := ?_) (by simp only [List.getElem?_toArray, List.getElem?_cons_succ, List.getElem?_cons_zero]; rfl) (by kernel_rfl) (by kernel_rfl) (by kernel_rfl) (by exact fun _ _ _ h => h) (Or.inl ⟨by rfl, ?_⟩) hOn ?_
   rotate_left
   focus (intro W hSW; go_simp; try with_reducible rfl)
   try simp only [Act.put, List.setIfInBounds_toArray, List.set_cons_zero, List.set_cons_succ]
   refine wpAnyH_take (i := 4) (v := ?_) (by simp only [List.getElem?_toArray, List.getElem?_cons_succ, List.getElem?_cons_zero]; rfl) (by kernel_rfl) (by kernel_rfl) (by kernel_rfl) (by exact fun _ _ _ h => h) (Or.inl ⟨by rfl, ?_⟩) hOn ?_
   rotate_left
   focus (intro W hSW; go_simp; try with_reducible rfl)
   try simp only [Act.put, List.setIfInBounds_toArray, List.set_cons_zero, List.set_cons_succ]
   refine wpAnyH_take (i := 5) (v := ?_) (by simp only [List.getElem?_toArray, List.getElem?_cons_succ, List.getElem?_cons_zero]; rfl) (by kernel_rfl) (by kernel_rfl) (by kernel_rfl) (by exact fun _ _ _ h => h) (Or.inl ⟨by rfl, ?_⟩) hOn ?_
   rotate_left
   focus (intro W hSW; go_simp; try with_reducible rfl)
   try simp only [Act.put, List.setIfInBounds_toArray, List.set_cons_zero, List.set_cons_succ]
   refine wpAnyH_take (i := 6) (v := ?_) (by simp only [List.getElem?_toArray, List.getElem?_cons_succ, List.getElem?_cons_zero]; rfl) (by kernel_rfl) (by kernel_rfl) (by kernel_rfl) (by exact fun _ _ _ h => h) (Or.inl ⟨by rfl, ?_⟩) hOn ?_
   rotate_left
   focus (intro W hSW; go_simp; try with_reducible rfl)
   try simp only [Act.put, List.setIfInBounds_toArray, List.set_cons_zero, List.set_cons_succ]
   refine wpAnyH_take (i := 8) (v := ?_) (by simp only [List.getElem?_toArray, List.getElem?_cons_succ, List.getElem?_cons_zero]; rfl) (by kernel_rfl) (by kernel_rfl) (by kernel_rfl) (by exact fun _ _ _ h => h) (Or.inl ⟨by rfl, ?_⟩) hOn ?_
   rotate_left
   focus (intro W hSW; go_simp; try with_reducible rfl)
   try simp only [Act.put, List.setIfInBounds_toArray, List.set_cons_zero, List.set_cons_succ]
   refine wpAnyH_take (i := 9) (v := Value.agg _) (by simp only [List.getElem?_toArray, List.getElem?_cons_succ, List.getElem?_cons_zero]; rfl) (by kernel_rfl) (by kernel_rfl) (by kernel_rfl) (by exact fun _ _ _ h => h) (Or.inl ⟨by rfl, fun W hSW => yields_load_row _ _ rfl _ _ _ rfl (rlA W hSW) huA rfl hzA⟩) hOn ?_
   try simp only [Act.put, List.setIfInBounds_toArray, List.set_cons_zero, List.set_cons_succ]
   refine wpAnyH_take (i := 10) (v := Value.agg _) (by simp only [List.getElem?_toArray, List.getElem?_cons_succ, List.getElem?_cons_zero]; rfl) (by kernel_rfl) (by kernel_rfl) (by kernel_rfl) (by exact fun _ _ _ h => h) (Or.inl ⟨by rfl, fun W hSW => yields_load_row _ _ rfl _ _ _ rfl (rlB W hSW) huB rfl hzB⟩) hOn ?_
   try simp only [Act.put, List.setIfInBounds_toArray, List.set_cons_zero, List.set_cons_succ]
   refine wpAnyH_ready (rs := [7, 11]) (by kernel_rfl) (by simp) ?_
   refine AllReadyH.cons (by simp only [List.getElem?_toArray, List.getElem?_cons_succ, List.getElem?_cons_zero]; rfl) (fun Kz hKz => ?_) ?_
   rw [if_pos (by rfl)]
   (refine wp_load_mid 69 (.tmp 40) rfl b (o + i * 40) rfl x.list _ (r2.out _ hOn) huN rfl iX ?_)
   rw [← hXA.out]
   have hS := hOn
   refine hKz.out _ _ (by first | exact hS | exact Below.trans hOn (Below.mono hnew (Below.size hOn))) (fun hNext => ?_)
   clear hKz Kz hOn
   have hOn := hNext
   clear hNext
   try clear hnew
   try clear hS
   try simp only [Act.put]
   refine wpAnyH_ready (rs := [11]) (by kernel_rfl) (by simp) ?_
   refine AllReadyH.cons (by simp only [List.getElem?_toArray, List.getElem?_cons_succ, List.getElem?_cons_zero]; rfl) (fun Kz hKz => ?_) AllReadyH.nil
   rw [if_pos (by rfl)]
   (refine wpK_buildV 69 [(0, .tmp 42), (1, .tmp 43), (2, .tmp 44), (3, .const (.bool false))] rfl [(0, .string s), (1, .agg PP), (2, .agg DD), (3, .bool false)] rfl _ (hbd.out _) ?_)
   have hS := hOn
   refine hKz.out _ _ (by first | exact hS | exact Below.trans hOn (Below.mono hnew (Below.size hOn))) (fun hNext => ?_)
   clear hKz Kz hOn
   have hOn := hNext
   clear hNext
   try clear hnew
   try clear hS
   try simp only [Act.put]
   refine wpAnyH_take (i := 12) (v := ?_) (by simp only [List.getElem?_toArray, List.getElem?_cons_succ, List.getElem?_cons_zero]; rfl) (by kernel_rfl) (by kernel_rfl) (by kernel_rfl) (by exact fun _ _ _ h => h) (Or.inl ⟨by rfl, ?_⟩) hOn ?_
   rotate_left
   focus (intro W hSW; go_simp; try with_reducible rfl)
   try simp only [Act.put, List.setIfInBounds_toArray, List.set_cons_zero, List.set_cons_succ]
   refine wpAnyH_take (i := 13) (v := ?_) (by simp only [List.getElem?_toArray, List.getElem?_cons_succ, List.getElem?_cons_zero]; rfl) (by kernel_rfl) (by kernel_rfl) (by kernel_rfl) (by exact fun _ _ _ h => h) (Or.inl ⟨by rfl, ?_⟩) hOn ?_
   rotate_left
   focus (intro W hSW; go_simp; try with_reducible rfl)
   try simp only [Act.put, List.setIfInBounds_toArray, List.set_cons_zero, List.set_cons_succ]
   refine wpAnyH_take (i := 14) (v := ?_) (by simp only [List.getElem?_toArray, List.getElem?_cons_succ, List.getElem?_cons_zero]; rfl) (by kernel_rfl) (by kernel_rfl) (by kernel_rfl) (by exact fun _ _ _ h => h) (Or.inl ⟨by rfl, ?_⟩) hOn ?_
   rotate_left
   focus (intro W hSW; go_simp; try with_reducible rfl)
   try simp only [Act.put, List.setIfInBounds_toArray, List.set_cons_zero, List.set_cons_succ]
   refine wpAnyH_done (by kernel_rfl) ?_ _
   rotate_left
   refine AllReadyH.cons (by simp only [List.getElem?_toArray, List.getElem?_cons_succ, List.getElem?_cons_zero]; rfl) (fun Kz hKz => ?_) AllReadyH.nil
   rw [if_pos (by rfl)]
   (refine wpK_buildV 69 [(0, .tmp 42), (1, .tmp 43), (2, .tmp 44), (3, .const (.bool false))] rfl [(0, .string s), (1, .agg PP), (2, .agg DD), (3, .bool false)] rfl _ (hbd.out _) ?_)
   have hS := hOn
   refine hKz.out _ _ (by first | exact hS | exact Below.trans hOn (Below.mono hnew (Below.size hOn))) (fun hNext => ?_)
   clear hKz Kz hOn
   have hOn := hNext
   clear hNext
   try clear hnew
   try clear hS
   try simp only [Act.put]
   refine wpAnyH_ready (rs := [7]) (by kernel_rfl) (by simp) ?_
   refine AllReadyH.cons (by simp only [List.getElem?_toArray, List.getElem?_cons_succ, List.getElem?_cons_zero]; rfl) (fun Kz hKz => ?_) AllReadyH.nil
   rw [if_pos (by rfl)]
   (refine wp_load_mid 69 (.tmp 40) rfl b (o + i * 40) rfl x.list _ (r2.out _ hOn) huN rfl iX ?_)
   rw [← hXA.out]
   have hS := hOn
   refine hKz.out _ _ (by first | exact hS | exact Below.trans hOn (Below.mono hnew (Below.size hOn))) (fun hNext => ?_)
   clear hKz Kz hOn
   have hOn := hNext
   clear hNext
   try clear hnew
   try clear hS
   try simp only [Act.put]
   refine wpAnyH_take (i := 12) (v := ?_) (by simp only [List.getElem?_toArray, List.getElem?_cons_succ, List.getElem?_cons_zero]; rfl) (by kernel_rfl) (by kernel_rfl) (by kernel_rfl) (by exact fun _ _ _ h => h) (Or.inl ⟨by rfl, ?_⟩) hOn ?_
   rotate_left
   focus (intro W hSW; go_simp; try with_reducible rfl)
   try simp only [Act.put, List.setIfInBounds_toArray, List.set_cons_zero, List.set_cons_succ]
   refine wpAnyH_take (i := 13) (v := ?_) (by simp only [List.getElem?_toArray, List.getElem?_cons_succ, List.getElem?_cons_zero]; rfl) (by kernel_rfl) (by kernel_rfl) (by kernel_rfl) (by exact fun _ _ _ h => h) (Or.inl ⟨by rfl, ?_⟩) hOn ?_
   rotate_left
   focus (intro W hSW; go_simp; try with_reducible rfl)
   try simp only [Act.put, List.setIfInBounds_toArray, List.set_cons_zero, List.set_cons_succ]
   refine wpAnyH_take (i := 14) (v := ?_) (by simp only [List.getElem?_toArray, List.getElem?_cons_succ, List.getElem?_cons_zero]; rfl) (by kernel_rfl) (by kernel_rfl) (by kernel_rfl) (by exact fun _ _ _ h => h) (Or.inl ⟨by rfl, ?_⟩) hOn ?_
   rotate_left
   focus (intro W hSW; go_simp; try with_reducible rfl)
   try simp only [Act.put, List.setIfInBounds_toArray, List.set_cons_zero, List.set_cons_succ]
   refine wpAnyH_done (by kernel_rfl) ?_ _
   all_goals
    go_wp2_with fail
    go_meet
    exact ⟨rfl, hOn⟩
  case rest =>
    obtain ⟨rfl, hOn⟩ := hcut
    generalize wc = wd at *
    have hB5 := Lib.hid (hB4.out.trans (hOn.mono hB4.out.size))
    have z0 := Lib.hid ((hOn.block _ (block_lt q0.out)).trans q0.out)
    have z4 := Lib.hid ((hOn.block _ (block_lt q4.out)).trans q4.out)
    have c6 := kcS _ hOn
    clear rlA rlB kcM kcS hld r2 hraw
    go_wp2_with fail
    with_reducible refine (hlb.out _).mono ?_
    rintro x w6 ⟨rfl, hb6⟩
    have hBz := Lib.hid (hB5.out.trans (hb6.mono hB5.out.size))
    replace z0 := Lib.hid ((hb6.block _ (block_lt z0.out)).trans z0.out)
    replace z4 := Lib.hid ((hb6.block _ (block_lt z4.out)).trans z4.out)
    have c00 : w6.cell? ⟨w.heap.size, 0, none⟩ = some (.slice (some ⟨b, o, none⟩) N cn) := by rw [cell_of_block z0.out]; exact hC0.out
    clear hb6
    go_wp2_with fail
    generalize w6 = wz at *
    clear c00
    have hgz := hge.out wz hBz.out
    have hd1 : Hid (Only (fun k => k = w.heap.size + 4) wz wz.drew) := Lib.hid ((Only.refl _ _).drew)
    have rlC : ∀ W : World, Only (fun k => k = w.heap.size + 4) wz W → W.heap[w.heap.size]? = some (.cells CM 28 (0, 0)) := fun W hW => hW.heap z0.out (by omega)
    have huC := huM
    have hzC := iM
    have hcW : ∀ W : World, Only (fun k => k = w.heap.size + 4) wz W → W.cell? ⟨1, 0, none⟩ = some (.iface 137 (.pointer (some (ea 5)))) := fun W hW => (World.cell?_of_block (a := ⟨1, 0, none⟩) (hW.block _ (World.block_lt_of_cell? wz _ hgz) (by simp only at hgl ⊢; omega))).trans hgz
    replace z4 : Hid (wz.drew.heap[w.heap.size + 4]? = some (.cells #[.slice none 0 0, .slice none 0 0] 28 (0, 0))) := Lib.hid z4.out
    clear hgz
    refine wp_region_held_drew (S := (Only (fun k => k = w.heap.size + 4) wz)) (by kernel_rfl) hd1.out (fun hOn => ?_)
    generalize World.drew wz = wd at *
    refine wpAnyH_take (i := 0) (v := Value.agg _) (by simp only [List.getElem?_toArray, List.getElem?_cons_zero]; rfl) (by kernel_rfl) (by kernel_rfl) (by kernel_rfl) (by exact fun _ _ _ h => h) (Or.inl ⟨by rfl, fun W hSW => yields_load_row _ _ rfl _ _ _ rfl (rlC W hSW) huC rfl hzC⟩) hOn ?_
    try simp only [Act.put, List.setIfInBounds_toArray, List.set_cons_zero, List.set_cons_succ]
    refine wpAnyH_take (i := 1) (v := ?_) (by simp only [List.getElem?_toArray, List.getElem?_cons_succ, List.getElem?_cons_zero]; rfl) (by kernel_rfl) (by kernel_rfl) (by kernel_rfl) (by exact fun _ _ _ h => h) (Or.inl ⟨by rfl, ?_⟩) hOn ?_
    rotate_left
    focus (intro W hSW; go_simp; try with_reducible rfl)
    try simp only [Act.put, List.setIfInBounds_toArray, List.set_cons_zero, List.set_cons_succ]
    refine wpAnyH_ready (rs := [2]) (by kernel_rfl) (by simp) ?_
    refine AllReadyH.cons (by simp only [List.getElem?_toArray, List.getElem?_cons_succ, List.getElem?_cons_zero]; rfl) (fun Kz hKz => ?_) AllReadyH.nil
    rw [if_pos (by rfl)]
    (with_reducible refine wp_store_rowK 28 (.tmp 10) (.tmp 54) rfl (w.heap.size + 4) #[.slice none 0 0, .slice none 0 0] CM rfl rfl z4 iM hss h1M ?_)
    intro w9 hU9
    have hS := hOn.trans (Only.ofUpd (D := fun k => k = w.heap.size + 4) hU9.out rfl) (fun _ _ e => e)
    have hres := Lib.hid hU9.out.here
    refine hKz.out _ _ (by first | exact hS | exact Below.trans hOn (Below.mono hnew (Below.size hOn))) (fun hNext => ?_)
    clear hKz Kz hOn
    have hOn := hNext
    clear hNext
    try clear hnew
    try clear hS
    try simp only [Act.put]
    refine wpAnyH_take (i := 3) (v := ?_) (by simp only [List.getElem?_toArray, List.getElem?_cons_succ, List.getElem?_cons_zero]; rfl) (by kernel_rfl) (by kernel_rfl) (by kernel_rfl) (by exact fun _ _ _ h => h) (Or.inl ⟨by rfl, ?_⟩) hOn ?_
    rotate_left
    focus (intro W hSW; go_simp; try with_reducible rfl)
    try simp only [Act.put, List.setIfInBounds_toArray, List.set_cons_zero, List.set_cons_succ]
    refine wpAnyH_take (i := 4) (v := ?_) (by simp only [List.getElem?_toArray, List.getElem?_cons_succ, List.getElem?_cons_zero]; rfl) (by kernel_rfl) (by kernel_rfl) (by kernel_rfl) (by exact fun _ _ _ h => h) (Or.inl ⟨by rfl, ?_⟩) hOn ?_
    rotate_left
    focus (intro W hSW; go_simp; try with_reducible rfl)
    try simp only [Act.put, List.setIfInBounds_toArray, List.set_cons_zero, List.set_cons_succ]
    refine wpAnyH_done (by kernel_rfl) ?_ _
    all_goals
      go_wp2_with fail
      refine ret_cell_tmp2 (c := CM) rfl rfl huM rfl iM hres.out ?_
      exact hpost.out _ (hBz.out.trans (hOn.below (by have := hBz.out.size; omega) (fun k e => by omega)))

set_option maxRecDepth 100000 in
set_option maxHeartbeats 4000000 in
theorem mput_dup (va : Value) (m : Md) (w : World) (ha : ArgM w va m) (l1 : m.ns.length ≤ 4) (l2 : m.vs.length ≤ 1000) (s : ByteArray) (size : Int) (f : List UInt8) (p : P6) (hs : s.size ≤ 1000000) (hf : f.length = 32) (hp : p.Ok) (hpo : badAt p.s p.n p.k p.d p.t p.r = none) (i : Nat) (hi : i < m.ns.length) (hfi : findS m.ns s = (i : Int)) (hsz : size = p.s) (hnw : m.ns[i] ≠ ⟨s, p, f, false⟩) (hla : labB s.data.toList = true) (ea : Nat → Addr) (H : Errs 137 errGs w ea) :
    Calls Tryd.prog 14 #[va, .string s, .int .i64 size, .agg (cB f).toArray, .agg p.list.toArray] w (NPost ea m 0 10 w) := by
  have ha0 := ha
  obtain ⟨⟨an, cn, av, cv, e0, hN, -, -, hV, -, -⟩, okN, okV⟩ := ha
  obtain ⟨PP, hPP⟩ : ∃ PP, PP = p.list.toArray := ⟨_, rfl⟩
  obtain ⟨DD, hDD⟩ : ∃ DD, DD = (cB f).toArray := ⟨_, rfl⟩
  obtain ⟨N, hNl⟩ : ∃ N, N = m.ns.length := ⟨_, rfl⟩
  obtain ⟨V, hVl⟩ : ∃ V, V = m.vs.length := ⟨_, rfl⟩
  rw [← hNl, ← hVl] at e0
  obtain ⟨CM, hCM⟩ : ∃ CM : Array Value, CM = #[.slice an N cn, .slice av V cv] := ⟨_, rfl⟩
  rw [← hCM] at e0
  subst e0
  obtain ⟨w2, hw2⟩ : ∃ w2, w2 = ((((w.alloc (.cells CM 28)).alloc (.cells #[.string s] 9)).alloc (.cells DD 53)).alloc (.cells PP 34)).alloc (.cells #[.slice none 0 0, .slice none 0 0] 28) := ⟨_, rfl⟩
  obtain ⟨b0, b1, b2, b3, b4, hs2, hB⟩ := five_allocs w _ _ _ _ _ _ _ _ _ _ w2 hw2
  have hck : ∀ W, Below w.heap.size w W → Calls Tryd.prog 27 #[.agg PP] W fun e w' => e = .returned .nilIface ∧ Below W.heap.size W w' := fun W hW => by rw [hPP]; exact check_ok p.s p.n p.k p.d p.t p.r (badAt_ok hpo) (pz ea) W (par_of (H.below hW))
  have huM : Tryd.prog.underlying 28 = _ := Tryd.underlying28
  have huP : Tryd.prog.underlying 34 = _ := Tryd.underlying34
  have huD : Tryd.prog.underlying 53 = _ := Tryd.underlying53
  have iM : (Tryd.prog.info? 28).map (·.size) = some CM.size := by rw [hCM]; kernel_rfl
  have h1M : CM.all (·.oneCell') = true := by rw [hCM]; simp [Value.oneCell']
  have hss : (#[.slice none 0 0, .slice none 0 0] : Array Value).size = CM.size := by rw [hCM]; rfl
  have iP : (Tryd.prog.info? 34).map (·.size) = some PP.size := by rw [hPP]; kernel_rfl
  have iD : (Tryd.prog.info? 53).map (·.size) = some DD.size := by rw [hDD, List.size_toArray, cB_length, hf]; kernel_rfl
  have hP0 : PP[0]? = some (.int .i64 p.s) := by rw [hPP]; rfl
  have hC0 : CM[0]? = some (.slice an N cn) := by rw [hCM]; rfl
  rw [← hPP, ← hDD]
  subst hsz
  have hix : ∀ W, Below w2.heap.size w2 W → Calls Tryd.prog 28 #[.slice an N cn, .func (.func 29) #[] #[.pointer (some ⟨w.heap.size + 1, 0, none⟩)]] W fun r w' => r = .returned (.int .i64 ((i : Int))) ∧ Below W.heap.size W w' := fun W hW => by
    have hb : W.heap[w.heap.size + 1]? = some (.cells #[.string s] 9 (0, 0)) := (hW.block _ (block_lt b1)).trans b1
    have := indexN_any an cn m.ns okN W (hN.below (hB.trans (hW.mono hB.size)) (Nat.le_refl _)) (by omega) (w.heap.size + 1) s (by rw [cell_of_block hb]; rfl)
    rw [hNl]
    rwa [hfi] at this
  have hge := Lib.hid (fun W (h : Below w.heap.size w W) => (num_cells (H.below h)).2.2.2.2.2.2.2.2.2.1)
  have hpost : Hid (∀ W, Below w.heap.size w W → NPost ea m 0 10 w (.returned (.tuple #[.agg CM, .int .i64 0, .iface 137 (.pointer (some (ea 9)))])) W) := Lib.hid (fun W h => ⟨_, _, rfl, ha0.below h (Nat.le_refl _), .inr (.inl ⟨9, by decide, rfl, rfl⟩), h⟩)
  have hgl : 2 < w.heap.size := World.block_lt_of_cell? w _ (hge.out w (Below.refl _ _))
  have hlb : ∀ W, Calls Tryd.prog 30 #[.string s] W fun e w' => e = .returned (.bool true) ∧ Below W.heap.size W w' := fun W => by
    have := label_any s W (Nat.le_trans hs (by decide))
    rwa [hla] at this
  replace hlb := Lib.hid hlb
  clear hla
  obtain ⟨b, o, hab, hr⟩ := hN i hi
  subst hab
  have hii : (i : Int) < (N : Int) := by rw [hNl]; omega
  have hi0 : (0 : Int) ≤ (i : Int) := by omega
  have hx := okN _ (List.getElem_mem hi)
  have hy : (⟨s, p, f, false⟩ : Nm).Ok := ⟨Nat.le_trans hs (by decide), hp, hf⟩
  have heq := fun W => (neq_nmG (m.ns[i]) ⟨s, p, f, false⟩ hx hy W).2
  rw [decide_eq_false hnw] at heq
  have hbd := fun W => build_nmG ⟨s, p, f, false⟩ hf W
  simp only at hbd
  rw [← hPP, ← hDD] at hbd
  obtain ⟨NW, hNW⟩ : ∃ NW, NW = (⟨s, p, f, false⟩ : Nm).list.toArray := ⟨_, rfl⟩
  obtain ⟨XA, hXA⟩ : ∃ XA, XA = (m.ns[i]).list.toArray := ⟨_, rfl⟩
  rw [← hNW] at hbd heq
  rw [← hXA] at heq
  have iX : (Tryd.prog.info? 69).map (·.size) = some (m.ns[i]).list.length := by rw [Nm.list_length hx.f]; kernel_rfl
  have huN := Tryd.underlying69
  generalize m.ns[i] = x at *
  replace hr := Lib.hid hr
  replace hXA := Lib.hid hXA
  replace hNW := Lib.hid hNW
  replace hbd := Lib.hid hbd
  replace hck := Lib.hid hck
  replace hNl := Lib.hid hNl
  replace hVl := Lib.hid hVl
  replace hw2 := Lib.hid hw2
  replace b0 := Lib.hid b0
  replace b1 := Lib.hid b1
  replace b2 := Lib.hid b2
  replace b3 := Lib.hid b3
  replace b4 := Lib.hid b4
  replace hB := Lib.hid hB
  replace hs2 := Lib.hid hs2
  replace hPP := Lib.hid hPP
  replace hDD := Lib.hid hDD
  replace hCM := Lib.hid hCM
  replace hP0 := Lib.hid hP0
  replace hC0 := Lib.hid hC0
  clear hN hV ha0 okN okV hpo hp hs hf H l1 l2 hfi hnw hi hx hy
  replace hix := Lib.hid hix
  go_enter Tryd.func14, Tryd.ntmps14
  go_upto_region 1 with fail
  rw [← hw2.out]
  clear hw2
  go_wp2_with (refine wpList_load_row rfl 34 (.tmp 9) rfl (w.heap.size + 3) PP _ rfl b3 huP rfl iP ?_)
  with_reducible refine (hck.out w2 hB.out).mono ?_
  rintro x w3 ⟨rfl, hb3⟩
  have hB3 := Lib.hid (hB.out.trans (hb3.mono hB.out.size))
  have k0 := (hb3.block _ (block_lt b0.out)).trans b0.out
  have c0 : w3.cell? ⟨w.heap.size, 0, none⟩ = some (.slice (some ⟨b, o, none⟩) N cn) := by rw [cell_of_block k0]; exact hC0.out
  have hix3 := Lib.hid (hix.out w3 hb3)
  clear hck hix k0
  go_wp2_with fail
  with_reducible refine hix3.out.mono ?_
  clear hix3
  rintro x w4 ⟨rfl, hb4⟩
  have hB4 := Lib.hid (hB3.out.trans (hb4.mono hB3.out.size))
  have hB24 := hb3.trans (hb4.mono hb3.size)
  have q0 := Lib.hid ((hB24.block _ (block_lt b0.out)).trans b0.out)
  have q1 := Lib.hid ((hB24.block _ (block_lt b1.out)).trans b1.out)
  have q2 := Lib.hid ((hB24.block _ (block_lt b2.out)).trans b2.out)
  have q3 := Lib.hid ((hB24.block _ (block_lt b3.out)).trans b3.out)
  have q4 := Lib.hid ((hB24.block _ (block_lt b4.out)).trans b4.out)
  have c30 : w4.cell? ⟨w.heap.size + 3, 0, none⟩ = some (.int .i64 p.s) := by rw [cell_of_block q3.out]; exact hP0.out
  have c10 : w4.cell? ⟨w.heap.size + 1, 0, none⟩ = some (.string s) := by rw [cell_of_block q1.out]; rfl
  clear hb3 hb4 hB24 b0 b1 b2 b3 b4 hB c0 hB3
  go_wp2_with fail
  have hrW := Lib.hid (rangeAt_below hr.out hB4.out (Nat.le_refl _))
  have hd0 : Hid (Grown w4 w4.drew) := Lib.hid (Grown.drew (Grown.refl w4))
  have r2 := Lib.hid (fun W (h : Grown w4 W) => rangeAt_below hrW.out h (Nat.le_refl _))
  have hld := fun W (h : Grown w4 W) => run_loadAt_mid (P := Tryd.prog) W b (o + i * 40) 69 x.list _ (r2.out W h) huN rfl iX
  rw [← hXA.out] at hld
  have kcM : ∀ W : World, Grown w4 W → W.cell? ⟨w.heap.size, 0, none⟩ = some (.slice (some ⟨b, o, none⟩) N cn) := fun W hW => by rw [cell_of_block ((hW.block _ (block_lt q0.out)).trans q0.out)]; exact hC0.out
  have kcS : ∀ W : World, Grown w4 W → W.cell? ⟨w.heap.size + 1, 0, none⟩ = some (.string s) := fun W hW => (hW.cell (World.block_lt_of_cell? w4 _ c10)).trans c10
  have rlA : ∀ W : World, Grown w4 W → W.heap[w.heap.size + 3]? = some (.cells PP 34 (0, 0)) := fun W hW => (hW.block _ (block_lt q3.out)).trans q3.out
  have huA := huP
  have hzA := iP
  have rlB : ∀ W : World, Grown w4 W → W.heap[w.heap.size + 2]? = some (.cells DD 53 (0, 0)) := fun W hW => (hW.block _ (block_lt q2.out)).trans q2.out
  have huB := huD
  have hzB := iD
  clear c30 c10
  have hraw := Nat.le_refl 0
  go_cut [33] from 34 to 47 (fun s33 wx => s33 = .bool false ∧ Grown w4 wx)
  case first =>
   refine wp_region_held_drew (S := (Grown w4)) (by kernel_rfl) hd0.out (fun hOn => ?_)
   generalize World.drew w4 = wd at *
   refine wpAnyH_take (i := 0) (v := ?_) (by simp only [List.getElem?_toArray, List.getElem?_cons_zero]; rfl) (by kernel_rfl) (by kernel_rfl) (by kernel_rfl) (by exact fun _ _ _ h => h) (Or.inl ⟨by rfl, ?_⟩) hOn ?_
   rotate_left
   focus (intro W hSW; go_simp; try with_reducible rfl)
   try simp only [Act.put, List.setIfInBounds_toArray, List.set_cons_zero, List.set_cons_succ]
   refine wpAnyH_take (i := 1) (v := ?_) (by simp only [List.getElem?_toArray, List.getElem?_cons_succ, List.getElem?_cons_zero]; rfl) (by kernel_rfl) (by kernel_rfl) (by kernel_rfl) (by exact fun _ _ _ h => h) (Or.inl ⟨by rfl, ?_⟩) hOn ?_
   rotate_left
   focus (intro W hSW; go_simp; try with_reducible rfl)
   try simp only [Act.put, List.setIfInBounds_toArray, List.set_cons_zero, List.set_cons_succ]
   refine wpAnyH_take (i := 2) (v := ?_) (by simp only [List.getElem?_toArray, List.getElem?_cons_succ, List.getElem?_cons_zero]; rfl) (by kernel_rfl) (by kernel_rfl) (by kernel_rfl) (by exact fun _ _ _ h => h) (Or.inl ⟨by rfl, ?_⟩) hOn ?_
   rotate_left
   focus (intro W hSW; go_simp; try with_reducible rfl)
   try simp only [Act.put, List.setIfInBounds_toArray, List.set_cons_zero, List.set_cons_succ]
   refine wpAnyH_take (i := 3) (v := ?_) (by simp only [List.getElem?_toArray, List.getElem?_cons_succ, List.getElem?_cons_zero]; rfl) (by kernel_rfl) (by kernel_rfl) (by kernel_rfl) (by exact fun _ _ _ h => h) (Or.inl ⟨by rfl, ?_⟩) hOn ?_
   rotate_left
   focus (intro W hSW; go_simp; try with_reducible rfl)
   try simp only [Act.put, List.setIfInBounds_toArray, List.set_cons_zero, List.set_cons_succ]
   refine wpAnyH_take (i := 4) (v := ?_) (by simp only [List.getElem?_toArray, List.getElem?_cons_succ, List.getElem?_cons_zero]; rfl) (by kernel_rfl) (by kernel_rfl) (by kernel_rfl) (by exact fun _ _ _ h => h) (Or.inl ⟨by rfl, ?_⟩) hOn ?_
   rotate_left
   focus (intro W hSW; go_simp; try with_reducible rfl)
   try simp only [Act.put, List.setIfInBounds_toArray, List.set_cons_zero, List.set_cons_succ]
   refine wpAnyH_take (i := 5) (v := ?_) (by simp only [List.getElem?_toArray, List.getElem?_cons_succ, List.getElem?_cons_zero]; rfl) (by kernel_rfl) (by kernel_rfl) (by kernel_rfl) (by exact fun _ _ _ h => h) (Or.inl ⟨by rfl, ?_⟩) hOn ?_
   rotate_left
   focus (intro W hSW; go_simp; try with_reducible rfl)
   try simp only [Act.put, List.setIfInBounds_toArray, List.set_cons_zero, List.set_cons_succ]
   refine wpAnyH_take (i := 6) (v := ?_) (by simp only [List.getElem?_toArray, List.getElem?_cons_succ, List.getElem?_cons_zero]; rfl) (by kernel_rfl) (by kernel_rfl) (by kernel_rfl) (by exact fun _ _ _ h => h) (Or.inl ⟨by rfl, ?_⟩) hOn ?_
   rotate_left
   focus (intro W hSW; go_simp; try with_reducible rfl)
   try simp only [Act.put, List.setIfInBounds_toArray, List.set_cons_zero, List.set_cons_succ]
   refine wpAnyH_take (i := 8) (v := ?_) (by simp only [List.getElem?_toArray, List.getElem?_cons_succ, List.getElem?_cons_zero]; rfl) (by kernel_rfl) (by kernel_rfl) (by kernel_rfl) (by exact fun _ _ _ h => h) (Or.inl ⟨by rfl, ?_⟩) hOn ?_
   rotate_left
   focus (intro W hSW; go_simp; try with_reducible rfl)
   try simp only [Act.put, List.setIfInBounds_toArray, List.set_cons_zero, List.set_cons_succ]
   refine wpAnyH_take (i := 9) (v := Value.agg _) (by simp only [List.getElem?_toArray, List.getElem?_cons_succ, List.getElem?_cons_zero]; rfl) (by kernel_rfl) (by kernel_rfl) (by kernel_rfl) (by exact fun _ _ _ h => h) (Or.inl ⟨by rfl, fun W hSW => yields_load_row _ _ rfl _ _ _ rfl (rlA W hSW) huA rfl hzA⟩) hOn ?_
   try simp only [Act.put, List.setIfInBounds_toArray, List.set_cons_zero, List.set_cons_succ]
   refine wpAnyH_take (i := 10) (v := Value.agg _) (by simp only [List.getElem?_toArray, List.getElem?_cons_succ, List.getElem?_cons_zero]; rfl) (by kernel_rfl) (by kernel_rfl) (by kernel_rfl) (by exact fun _ _ _ h => h) (Or.inl ⟨by rfl, fun W hSW => yields_load_row _ _ rfl _ _ _ rfl (rlB W hSW) huB rfl hzB⟩) hOn ?_
   try simp only [Act.put, List.setIfInBounds_toArray, List.set_cons_zero, List.set_cons_succ]
   refine wpAnyH_ready (rs := [7, 11]) (by kernel_rfl) (by simp) ?_
   refine AllReadyH.cons (by simp only [List.getElem?_toArray, List.getElem?_cons_succ, List.getElem?_cons_zero]; rfl) (fun Kz hKz => ?_) ?_
   rw [if_pos (by rfl)]
   (refine wp_load_mid 69 (.tmp 40) rfl b (o + i * 40) rfl x.list _ (r2.out _ hOn) huN rfl iX ?_)
   rw [← hXA.out]
   have hS := hOn
   refine hKz.out _ _ (by first | exact hS | exact Below.trans hOn (Below.mono hnew (Below.size hOn))) (fun hNext => ?_)
   clear hKz Kz hOn
   have hOn := hNext
   clear hNext
   try clear hnew
   try clear hS
   try simp only [Act.put]
   refine wpAnyH_ready (rs := [11]) (by kernel_rfl) (by simp) ?_
   refine AllReadyH.cons (by simp only [List.getElem?_toArray, List.getElem?_cons_succ, List.getElem?_cons_zero]; rfl) (fun Kz hKz => ?_) AllReadyH.nil
   rw [if_pos (by rfl)]
   (refine wpK_buildV 69 [(0, .tmp 42), (1, .tmp 43), (2, .tmp 44), (3, .const (.bool false))] rfl [(0, .string s), (1, .agg PP), (2, .agg DD), (3, .bool false)] rfl _ (hbd.out _) ?_)
   have hS := hOn
   refine hKz.out _ _ (by first | exact hS | exact Below.trans hOn (Below.mono hnew (Below.size hOn))) (fun hNext => ?_)
   clear hKz Kz hOn
   have hOn := hNext
   clear hNext
   try clear hnew
   try clear hS
   try simp only [Act.put]
   refine wpAnyH_take (i := 12) (v := ?_) (by simp only [List.getElem?_toArray, List.getElem?_cons_succ, List.getElem?_cons_zero]; rfl) (by kernel_rfl) (by kernel_rfl) (by kernel_rfl) (by exact fun _ _ _ h => h) (Or.inl ⟨by rfl, ?_⟩) hOn ?_
   rotate_left
   focus (intro W hSW; go_simp; try with_reducible rfl)
   try simp only [Act.put, List.setIfInBounds_toArray, List.set_cons_zero, List.set_cons_succ]
   refine wpAnyH_take (i := 13) (v := ?_) (by simp only [List.getElem?_toArray, List.getElem?_cons_succ, List.getElem?_cons_zero]; rfl) (by kernel_rfl) (by kernel_rfl) (by kernel_rfl) (by exact fun _ _ _ h => h) (Or.inl ⟨by rfl, ?_⟩) hOn ?_
   rotate_left
   focus (intro W hSW; go_simp; try with_reducible rfl)
   try simp only [Act.put, List.setIfInBounds_toArray, List.set_cons_zero, List.set_cons_succ]
   refine wpAnyH_take (i := 14) (v := ?_) (by simp only [List.getElem?_toArray, List.getElem?_cons_succ, List.getElem?_cons_zero]; rfl) (by kernel_rfl) (by kernel_rfl) (by kernel_rfl) (by exact fun _ _ _ h => h) (Or.inl ⟨by rfl, ?_⟩) hOn ?_
   rotate_left
   focus (intro W hSW; go_simp; try with_reducible rfl)
   try simp only [Act.put, List.setIfInBounds_toArray, List.set_cons_zero, List.set_cons_succ]
   refine wpAnyH_done (by kernel_rfl) ?_ _
   rotate_left
   refine AllReadyH.cons (by simp only [List.getElem?_toArray, List.getElem?_cons_succ, List.getElem?_cons_zero]; rfl) (fun Kz hKz => ?_) AllReadyH.nil
   rw [if_pos (by rfl)]
   (refine wpK_buildV 69 [(0, .tmp 42), (1, .tmp 43), (2, .tmp 44), (3, .const (.bool false))] rfl [(0, .string s), (1, .agg PP), (2, .agg DD), (3, .bool false)] rfl _ (hbd.out _) ?_)
   have hS := hOn
   refine hKz.out _ _ (by first | exact hS | exact Below.trans hOn (Below.mono hnew (Below.size hOn))) (fun hNext => ?_)
   clear hKz Kz hOn
   have hOn := hNext
   clear hNext
   try clear hnew
   try clear hS
   try simp only [Act.put]
   refine wpAnyH_ready (rs := [7]) (by kernel_rfl) (by simp) ?_
   refine AllReadyH.cons (by simp only [List.getElem?_toArray, List.getElem?_cons_succ, List.getElem?_cons_zero]; rfl) (fun Kz hKz => ?_) AllReadyH.nil
   rw [if_pos (by rfl)]
   (refine wp_load_mid 69 (.tmp 40) rfl b (o + i * 40) rfl x.list _ (r2.out _ hOn) huN rfl iX ?_)
   rw [← hXA.out]
   have hS := hOn
   refine hKz.out _ _ (by first | exact hS | exact Below.trans hOn (Below.mono hnew (Below.size hOn))) (fun hNext => ?_)
   clear hKz Kz hOn
   have hOn := hNext
   clear hNext
   try clear hnew
   try clear hS
   try simp only [Act.put]
   refine wpAnyH_take (i := 12) (v := ?_) (by simp only [List.getElem?_toArray, List.getElem?_cons_succ, List.getElem?_cons_zero]; rfl) (by kernel_rfl) (by kernel_rfl) (by kernel_rfl) (by exact fun _ _ _ h => h) (Or.inl ⟨by rfl, ?_⟩) hOn ?_
   rotate_left
   focus (intro W hSW; go_simp; try with_reducible rfl)
   try simp only [Act.put, List.setIfInBounds_toArray, List.set_cons_zero, List.set_cons_succ]
   refine wpAnyH_take (i := 13) (v := ?_) (by simp only [List.getElem?_toArray, List.getElem?_cons_succ, List.getElem?_cons_zero]; rfl) (by kernel_rfl) (by kernel_rfl) (by kernel_rfl) (by exact fun _ _ _ h => h) (Or.inl ⟨by rfl, ?_⟩) hOn ?_
   rotate_left
   focus (intro W hSW; go_simp; try with_reducible rfl)
   try simp only [Act.put, List.setIfInBounds_toArray, List.set_cons_zero, List.set_cons_succ]
   refine wpAnyH_take (i := 14) (v := ?_) (by simp only [List.getElem?_toArray, List.getElem?_cons_succ, List.getElem?_cons_zero]; rfl) (by kernel_rfl) (by kernel_rfl) (by kernel_rfl) (by exact fun _ _ _ h => h) (Or.inl ⟨by rfl, ?_⟩) hOn ?_
   rotate_left
   focus (intro W hSW; go_simp; try with_reducible rfl)
   try simp only [Act.put, List.setIfInBounds_toArray, List.set_cons_zero, List.set_cons_succ]
   refine wpAnyH_done (by kernel_rfl) ?_ _
   all_goals
    go_wp2_with fail
    go_meet
    exact ⟨rfl, hOn⟩
  case rest =>
    obtain ⟨rfl, hOn⟩ := hcut
    generalize wc = wd at *
    have hB5 := Lib.hid (hB4.out.trans (hOn.mono hB4.out.size))
    have z0 := Lib.hid ((hOn.block _ (block_lt q0.out)).trans q0.out)
    have z4 := Lib.hid ((hOn.block _ (block_lt q4.out)).trans q4.out)
    have c6 := kcS _ hOn
    clear rlA rlB kcM kcS hld r2 hraw
    go_wp2_with fail
    with_reducible refine (hlb.out _).mono ?_
    rintro x w6 ⟨rfl, hb6⟩
    have hBz := Lib.hid (hB5.out.trans (hb6.mono hB5.out.size))
    replace z0 := Lib.hid ((hb6.block _ (block_lt z0.out)).trans z0.out)
    replace z4 := Lib.hid ((hb6.block _ (block_lt z4.out)).trans z4.out)
    have c00 : w6.cell? ⟨w.heap.size, 0, none⟩ = some (.slice (some ⟨b, o, none⟩) N cn) := by rw [cell_of_block z0.out]; exact hC0.out
    clear hb6
    go_wp2_with fail
    generalize w6 = wz at *
    clear c00
    have hgz := hge.out wz hBz.out
    have hd1 : Hid (Only (fun k => k = w.heap.size + 4) wz wz.drew) := Lib.hid ((Only.refl _ _).drew)
    have rlC : ∀ W : World, Only (fun k => k = w.heap.size + 4) wz W → W.heap[w.heap.size]? = some (.cells CM 28 (0, 0)) := fun W hW => hW.heap z0.out (by omega)
    have huC := huM
    have hzC := iM
    have hcW : ∀ W : World, Only (fun k => k = w.heap.size + 4) wz W → W.cell? ⟨2, 0, none⟩ = some (.iface 137 (.pointer (some (ea 9)))) := fun W hW => (World.cell?_of_block (a := ⟨2, 0, none⟩) (hW.block _ (World.block_lt_of_cell? wz _ hgz) (by simp only at hgl ⊢; omega))).trans hgz
    replace z4 : Hid (wz.drew.heap[w.heap.size + 4]? = some (.cells #[.slice none 0 0, .slice none 0 0] 28 (0, 0))) := Lib.hid z4.out
    clear hgz
    refine wp_region_held_drew (S := (Only (fun k => k = w.heap.size + 4) wz)) (by kernel_rfl) hd1.out (fun hOn => ?_)
    generalize World.drew wz = wd at *
    refine wpAnyH_take (i := 0) (v := Value.agg _) (by simp only [List.getElem?_toArray, List.getElem?_cons_zero]; rfl) (by kernel_rfl) (by kernel_rfl) (by kernel_rfl) (by exact fun _ _ _ h => h) (Or.inl ⟨by rfl, fun W hSW => yields_load_row _ _ rfl _ _ _ rfl (rlC W hSW) huC rfl hzC⟩) hOn ?_
    try simp only [Act.put, List.setIfInBounds_toArray, List.set_cons_zero, List.set_cons_succ]
    refine wpAnyH_take (i := 1) (v := ?_) (by simp only [List.getElem?_toArray, List.getElem?_cons_succ, List.getElem?_cons_zero]; rfl) (by kernel_rfl) (by kernel_rfl) (by kernel_rfl) (by exact fun _ _ _ h => h) (Or.inl ⟨by rfl, ?_⟩) hOn ?_
    rotate_left
    focus (intro W hSW; go_simp; try with_reducible rfl)
    try simp only [Act.put, List.setIfInBounds_toArray, List.set_cons_zero, List.set_cons_succ]
    refine wpAnyH_ready (rs := [2]) (by kernel_rfl) (by simp) ?_
    refine AllReadyH.cons (by simp only [List.getElem?_toArray, List.getElem?_cons_succ, List.getElem?_cons_zero]; rfl) (fun Kz hKz => ?_) AllReadyH.nil
    rw [if_pos (by rfl)]
    (with_reducible refine wp_store_rowK 28 (.tmp 10) (.tmp 59) rfl (w.heap.size + 4) #[.slice none 0 0, .slice none 0 0] CM rfl rfl z4 iM hss h1M ?_)
    intro w9 hU9
    have hS := hOn.trans (Only.ofUpd (D := fun k => k = w.heap.size + 4) hU9.out rfl) (fun _ _ e => e)
    have hres := Lib.hid hU9.out.here
    refine hKz.out _ _ (by first | exact hS | exact Below.trans hOn (Below.mono hnew (Below.size hOn))) (fun hNext => ?_)
    clear hKz Kz hOn
    have hOn := hNext
    clear hNext
    try clear hnew
    try clear hS
    try simp only [Act.put]
    refine wpAnyH_take (i := 3) (v := ?_) (by simp only [List.getElem?_toArray, List.getElem?_cons_succ, List.getElem?_cons_zero]; rfl) (by kernel_rfl) (by kernel_rfl) (by kernel_rfl) (by exact fun _ _ _ h => h) (Or.inl ⟨by rfl, ?_⟩) hOn ?_
    rotate_left
    focus (intro W hSW; go_simp; try with_reducible rfl)
    try simp only [Act.put, List.setIfInBounds_toArray, List.set_cons_zero, List.set_cons_succ]
    refine wpAnyH_take (i := 4) (v := ?_) (by simp only [List.getElem?_toArray, List.getElem?_cons_succ, List.getElem?_cons_zero]; rfl) (by kernel_rfl) (by kernel_rfl) (by kernel_rfl) (by exact fun _ _ _ h => h) (Or.inl ⟨by rfl, ?_⟩) hOn ?_
    rotate_left
    focus (intro W hSW; go_simp; try with_reducible rfl)
    try simp only [Act.put, List.setIfInBounds_toArray, List.set_cons_zero, List.set_cons_succ]
    refine wpAnyH_done (by kernel_rfl) ?_ _
    all_goals
      go_wp2_with fail
      refine ret_cell_tmp2 (c := CM) rfl rfl huM rfl iM hres.out ?_
      exact hpost.out _ (hBz.out.trans (hOn.below (by have := hBz.out.size; omega) (fun k e => by omega)))
end Go.Proofs.YtndgacjfkoliaaaDoor
