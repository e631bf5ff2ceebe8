/- The walk over model.Put, where a new name is put. -/
import Derived.Test.YtndgacjfkoliaaaDoorF28PlaysSaid34
import Derived.Test.YtndgacjfkoliaaaDoorF9PlaysSaid34
import Derived.Test.YtndgacjfkoliaaaDoorF12PlaysSaid34
import Derived.Test.YtndgacjfkoliaaaDoorF4PlaysSaid34
import Derived.Deep.CutRange
import Derived.Deep.QuietTactic
namespace Go.Proofs.YtndgacjfkoliaaaDoor
open Go.RowKit

theorem alloc_keep {w : World} {b : Nat} {o : Obj} (h : w.heap[b]? = some o) (o' : Obj) : (w.alloc o').heap[b]? = some o := (((Below.refl _ _).alloc (Nat.le_refl _) _).block _ (block_lt h)).trans h
theorem alloc_at {w : World} {n : Nat} (hn : n = w.heap.size) (c : Array Value) (t : TypeId) : (w.alloc (.cells c t)).heap[n]? = some (.cells c t (0, 0)) := by rw [hn]; exact heap_alloc_new w _
theorem five_allocs (w : World) (c0 c1 c2 c3 c4 : Array Value) (t0 t1 t2 t3 t4 : TypeId) (W : World) (hW : W = ((((w.alloc (.cells c0 t0)).alloc (.cells c1 t1)).alloc (.cells c2 t2)).alloc (.cells c3 t3)).alloc (.cells c4 t4)) :
    W.heap[w.heap.size]? = some (.cells c0 t0 (0, 0)) ∧ W.heap[w.heap.size + 1]? = some (.cells c1 t1 (0, 0)) ∧ W.heap[w.heap.size + 2]? = some (.cells c2 t2 (0, 0)) ∧ W.heap[w.heap.size + 3]? = some (.cells c3 t3 (0, 0)) ∧ W.heap[w.heap.size + 4]? = some (.cells c4 t4 (0, 0)) ∧ W.heap.size = w.heap.size + 5 ∧ Below w.heap.size w W := by
  subst hW
  refine ⟨?_, ?_, ?_, ?_, ?_, by simp, ?_⟩
  · exact alloc_keep (alloc_keep (alloc_keep (alloc_keep (alloc_at rfl _ _) _) _) _) _
  · exact alloc_keep (alloc_keep (alloc_keep (alloc_at (by simp) _ _) _) _) _
  · exact alloc_keep (alloc_keep (alloc_at (by simp) _ _) _) _
  · exact alloc_keep (alloc_at (by simp) _ _) _
  · exact alloc_at (by simp) _ _
  · exact (((((Below.refl _ _).alloc (Nat.le_refl _) _).alloc (by simp) _).alloc (by simp; omega) _).alloc (by simp; omega) _).alloc (by simp; omega) _
def PutPost (w : World) (m : Md) (n : Nat) (x : Ending) (w' : World) : Prop := ∃ vm, x = .returned (.tuple #[vm, .int .i64 (n : Int), .nilIface]) ∧ ArgM w' vm m ∧ Below w.heap.size w w'
set_option maxRecDepth 100000 in
set_option maxHeartbeats 2000000 in
theorem put_new (va : Value) (m : Md) (w : World) (ha : ArgM w va m) (l1 : m.ns.length < 4) (l2 : m.vs.length ≤ 1000) (s : ByteArray) (f : List UInt8) (p : P6) (hs : s.size ≤ 1000000) (hf : f.length = 32) (hp : p.Ok) (hpo : ParOk p.s p.n p.k p.d p.t p.r) (hfi : findS m.ns s = -1) (hla : labB s.data.toList = true) (zp : Nat → Addr) (hPE : ParErrs w zp) :
    Calls Tryd.prog 14 #[va, .string s, .int .i64 p.s, .agg (cB f).toArray, .agg p.list.toArray] w (PutPost w ⟨m.ns ++ [⟨s, p, f, false⟩], m.vs⟩ m.ns.length) := by
  have ha0 := ha
  obtain ⟨⟨an, cn, av, cv, rfl, hN, hN1, hN2, hV, hV1, hV2⟩, okN, okV⟩ := ha
  obtain ⟨PP, hPP⟩ : ∃ PP, PP = p.list.toArray := ⟨_, rfl⟩
  obtain ⟨DD, hDD⟩ : ∃ DD, DD = (cB f).toArray := ⟨_, rfl⟩
  obtain ⟨w2, hw2⟩ : ∃ w2, w2 = ((((w.alloc (.cells #[.slice an m.ns.length cn, .slice av m.vs.length cv] 28)).alloc (.cells #[.string s] 9)).alloc (.cells DD 53)).alloc (.cells PP 34)).alloc (.cells #[.slice none 0 0, .slice none 0 0] 28) := ⟨_, rfl⟩
  obtain ⟨b0, b1, b2, b3, b4, hs2, hB⟩ := five_allocs w _ _ _ _ _ _ _ _ _ _ w2 hw2
  have hck : ∀ W, Below w.heap.size w W → Calls Tryd.prog 27 #[.agg PP] W fun e w' => e = .returned .nilIface ∧ Below W.heap.size W w' := fun W hW => by rw [hPP]; exact check_ok p.s p.n p.k p.d p.t p.r hpo zp W (hPE.below hW)
  have hix : ∀ W, Below w2.heap.size w2 W → Calls Tryd.prog 28 #[.slice an m.ns.length cn, .func (.func 29) #[] #[.pointer (some ⟨w.heap.size + 1, 0, none⟩)]] W fun r w' => r = .returned (.int .i64 (-1)) ∧ Below W.heap.size W w' := fun W hW => by
    have hb : W.heap[w.heap.size + 1]? = some (.cells #[.string s] 9 (0, 0)) := (hW.block _ (block_lt b1)).trans b1
    have := indexN_any an cn m.ns okN W (hN.below (hB.trans (hW.mono hB.size)) (Nat.le_refl _)) (by omega) (w.heap.size + 1) s (by rw [cell_of_block hb]; rfl)
    rwa [hfi] at this
  have hlb : ∀ W, Calls Tryd.prog 30 #[.string s] W fun e w' => e = .returned (.bool true) ∧ Below W.heap.size W w' := fun W => by
    have := label_any s W (by omega)
    rwa [hla] at this
  have hap : ∀ W, Below w.heap.size w W → Calls Tryd.prog 31 #[.agg #[.slice an m.ns.length cn, .slice av m.vs.length cv]] W (ApartPost W m) := fun W hW => apart_any _ m W (ha0.below hW (Nat.le_refl _)) (by omega) l2
  have huM : Tryd.prog.underlying 28 = _ := Tryd.underlying28
  have huP : Tryd.prog.underlying 34 = _ := Tryd.underlying34
  have huD : Tryd.prog.underlying 53 = _ := Tryd.underlying53
  have iP : (Tryd.prog.info? 34).map (·.size) = some PP.size := by rw [hPP]; kernel_rfl
  have iD : (Tryd.prog.info? 53).map (·.size) = some DD.size := by rw [hDD, List.size_toArray, cB_length, hf]; kernel_rfl
  have hP0 : PP[0]? = some (.int .i64 p.s) := by rw [hPP]; rfl
  obtain ⟨N, hNl⟩ : ∃ N, N = m.ns.length := ⟨_, rfl⟩
  obtain ⟨V, hVl⟩ : ∃ V, V = m.vs.length := ⟨_, rfl⟩
  rw [← hNl, ← hVl] at b0 hw2 hap
  rw [← hNl] at hix l1
  rw [← hVl] at l2
  rw [← hNl, ← hVl, ← hPP, ← hDD]
  have hlN : (N : Int) < 4 := by omega
  obtain ⟨nsz, hnsz⟩ : ∃ nsz, nsz = p.s := ⟨_, rfl⟩
  rw [← hnsz] at hP0 ⊢
  replace hnsz := Lib.hid hnsz
  replace hck := Lib.hid hck
  replace hix := Lib.hid hix
  replace hlb := Lib.hid hlb
  replace hap := Lib.hid hap
  replace hNl := Lib.hid hNl
  replace hVl := Lib.hid hVl
  replace hw2 := Lib.hid hw2
  replace b0 := Lib.hid b0
  replace b1 := Lib.hid b1
  replace b2 := Lib.hid b2
  replace b3 := Lib.hid b3
  replace b4 := Lib.hid b4
  replace hB := Lib.hid hB
  replace hs2 := Lib.hid hs2
  replace hPP := Lib.hid hPP
  replace hDD := Lib.hid hDD
  replace hpo := Lib.hid hpo
  replace hp := Lib.hid hp
  replace hPE := Lib.hid hPE
  clear hN hV ha0 okN okV hN1 hN2 hV1 hV2 hfi hla
  go_enter Tryd.func14, Tryd.ntmps14
  go_upto_region 1 with fail
  rw [← hw2.out]
  clear hw2
  go_wp2_with (refine wpList_load_row rfl 34 (.tmp 9) rfl (w.heap.size + 3) PP _ rfl b3 huP rfl iP ?_)
  with_reducible refine (hck.out w2 hB.out).mono ?_
  rintro x w3 ⟨rfl, hb3⟩
  have hB3 := Lib.hid (hB.out.trans (hb3.mono hB.out.size))
  have k0 := (hb3.block _ (block_lt b0.out)).trans b0.out
  have k1 := (hb3.block _ (block_lt b1.out)).trans b1.out
  have c0 : w3.cell? ⟨w.heap.size, 0, none⟩ = some (.slice an N cn) := by rw [cell_of_block k0]; rfl
  have hix3 := Lib.hid (hix.out w3 hb3)
  replace k0 := Lib.hid k0
  replace k1 := Lib.hid k1
  clear hck hix
  go_wp2_with fail
  with_reducible refine hix3.out.mono ?_
  clear hix3
  rintro x w4 ⟨rfl, hb4⟩
  have hB4 := Lib.hid (hB3.out.trans (hb4.mono hB3.out.size))
  have hB24 := Lib.hid (hb3.trans (hb4.mono hb3.size))
  have hc : ∀ j, (w.heap.size + j < w2.heap.size) → w4.heap[w.heap.size + j]? = w2.heap[w.heap.size + j]? := fun j hj => hB24.out.block _ hj
  have q3 := (hc 3 (by have := hs2.out; omega)).trans b3.out
  have q1 := (hc 1 (by have := hs2.out; omega)).trans b1.out
  have q0 := (hc 0 (by have := hs2.out; omega)).trans b0.out
  have c30 : w4.cell? ⟨w.heap.size + 3, 0, none⟩ = some (.int .i64 nsz) := by rw [cell_of_block q3]; exact hP0
  have c10 : w4.cell? ⟨w.heap.size + 1, 0, none⟩ = some (.string s) := by rw [cell_of_block q1]; rfl
  clear hb3 hb4 hc k0 k1 c0
  replace q0 := Lib.hid q0
  replace q1 := Lib.hid q1
  replace q3 := Lib.hid q3
  go_wp2_with fail
  go_quiet (fail)
  go_wp2_with fail
  have hB5 := Lib.hid (hB4.out.trans (Drawn.below ⟨nq, rfl⟩ w.heap.size))
  have hB25 := Lib.hid (hB24.out.trans (Drawn.below ⟨nq, rfl⟩ w2.heap.size))
  generalize w4.drewN nq = w5 at *
  with_reducible refine (hlb.out w5).mono ?_
  clear hlb q0 q1 q3 c30 c10 hB4 hB24
  rintro x w6 ⟨rfl, hb6⟩
  have hB6 := Lib.hid (hB5.out.trans (hb6.mono hB5.out.size))
  have hB26 : Below w2.heap.size w2 w6 := hB25.out.trans (hb6.mono hB25.out.size)
  have p0 := Lib.hid ((hB26.block _ (block_lt b0.out)).trans b0.out)
  have p1 := Lib.hid ((hB26.block _ (block_lt b1.out)).trans b1.out)
  have p2 := Lib.hid ((hB26.block _ (block_lt b2.out)).trans b2.out)
  have p3 := Lib.hid ((hB26.block _ (block_lt b3.out)).trans b3.out)
  have p4 := Lib.hid ((hB26.block _ (block_lt b4.out)).trans b4.out)
  have hs6 : w.heap.size + 5 ≤ w6.heap.size := by have := hs2.out; have := hB26.size; omega
  have c00 : w6.cell? ⟨w.heap.size, 0, none⟩ = some (.slice an N cn) := by rw [cell_of_block p0.out]; rfl
  have c01 : w6.cell? ⟨w.heap.size, 1, none⟩ = some (.slice av V cv) := by rw [cell_of_block p0.out]; rfl
  clear hb6 hB26 b0 b1 b2 b3 b4 hB5 hB25
  replace hs6 := Lib.hid hs6
  go_wp2_with fail
  with_reducible refine (hap.out w6 hB6.out).mono ?_
  clear hap c00 c01
  rintro x w7 ⟨v, v', rfl, hrN, hrV, hav, hb7⟩
  obtain ⟨x4, c4, hv4, _⟩ := hrN.form
  obtain ⟨x5, c5, hv5, _⟩ := hrV.form
  subst hv4 hv5
  have hltV := Lib.hid (fun k (hk : (Value.slice x5 m.vs.length c5).ownBlock = some k) => hrV.ownLt k hk)
  have hltN := Lib.hid (fun k (hk : (Value.slice x4 m.ns.length c4).ownBlock = some k) => hrN.ownLt k hk)
  have hB7 := Lib.hid (hB6.out.trans (hb7.mono hB6.out.size))
  have hs7 := Lib.hid hb7.size
  have hG8 : Below w7.heap.size w7 (w7.alloc (.cells #[.slice x4 m.ns.length c4, .slice x5 m.vs.length c5] 28)) := (Below.refl _ _).alloc (Nat.le_refl _) _
  have hat8 := heap_alloc_new w7 (.cells #[.slice x4 m.ns.length c4, .slice x5 m.vs.length c5] 28 (0, 0))
  obtain ⟨w8, hw8⟩ : ∃ w8, w8 = w7.alloc (.cells #[.slice x4 m.ns.length c4, .slice x5 m.vs.length c5] 28) := ⟨_, rfl⟩
  rw [← hw8] at hG8
  have hat8 : w8.heap[w7.heap.size]? = some (.cells #[.slice x4 m.ns.length c4, .slice x5 m.vs.length c5] 28 (0, 0)) := by rw [hw8]; exact hat8
  have hs8 : w8.heap.size = w7.heap.size + 1 := by rw [hw8]; simp
  have hb68 : Below w6.heap.size w6 w8 := hb7.trans (hG8.mono hb7.size)
  have o0 := Lib.hid ((hb68.block _ (block_lt p0.out)).trans p0.out)
  have o1 := (hb68.block _ (block_lt p1.out)).trans p1.out
  have o2 : Hid (w8.heap[w.heap.size + 2]? = some (.cells DD 53 (0, 0))) := Lib.hid ((hb68.block _ (block_lt p2.out)).trans p2.out)
  have o3 : Hid (w8.heap[w.heap.size + 3]? = some (.cells PP 34 (0, 0))) := Lib.hid ((hb68.block _ (block_lt p3.out)).trans p3.out)
  have o4 := Lib.hid ((hb68.block _ (block_lt p4.out)).trans p4.out)
  have c81 : w8.cell? ⟨w.heap.size + 1, 0, none⟩ = some (.string s) := by rw [cell_of_block o1]; rfl
  have c80 : w8.cell? ⟨w7.heap.size, 0, none⟩ = some (.slice x4 m.ns.length c4) := by rw [cell_of_block hat8]; rfl
  have hrN8 := Lib.hid (hrN.below liesRN hG8)
  have hrV8 := Lib.hid (hrV.below liesRV hG8)
  obtain ⟨XX, hXX⟩ : ∃ XX, XX = (⟨s, p, f, false⟩ : Nm).list.toArray := ⟨_, rfl⟩
  have hXs : XX.size = 40 := by rw [hXX]; exact Nm.size (x := ⟨s, p, f, false⟩) hf
  have hbd := fun W => build_nmG ⟨s, p, f, false⟩ hf W
  simp only at hbd
  rw [← hPP.out, ← hDD.out, ← hXX] at hbd
  have hsl := fun W => slice_one (P := Tryd.prog) (t := 25) Tryd.underlying25 infoNmG (by decide) (by decide) XX hXs W
  have hyN := Lib.hid (show RN w8 (fun _ => False) ⟨s, p, f, false⟩ XX.toList from ⟨by rw [hXX], ⟨by unfold maxLen; simp only; omega, hp.out, hf⟩⟩)
  have hF0 := Lib.hid (show ∀ k : Nat, (fun _ : Nat => False) k → (fun _ : Nat => False) k from fun _ h => h)
  have hA0 := Lib.hid (show ∀ k, (Value.slice x4 m.ns.length c4).ownBlock = some k → ¬ (fun _ : Nat => False) k from fun _ _ h => h)
  have hL0 := Lib.hid (show ∀ k, (fun _ : Nat => False) k → k < w8.heap.size from fun _ h => h.elim)
  have hinfoN := Lib.hid infoNmG
  have hbs8 : w6.heap.size ≤ w8.heap.size := hb68.size
  have hln : m.ns.length ≤ 1000000 := by have := hNl.out; omega
  replace hat8 := Lib.hid hat8
  replace hbd := Lib.hid hbd
  replace hsl := Lib.hid hsl
  replace hw8 := Lib.hid hw8
  replace hG8 := Lib.hid hG8
  replace hs8 := Lib.hid hs8
  replace hXX := Lib.hid hXX
  clear hb7 hrN hrV hb68 p0 p1 p2 p3 p4 o1
  go_upto_region 16 with fail
  rw [← hw8.out]
  go_wp2_with (first
    | (refine wpList_load_row rfl 34 (.tmp 9) rfl (w.heap.size + 3) PP _ rfl o3 huP rfl iP ?_; simp only [Act.put, List.setIfInBounds_toArray, List.set_cons_zero, List.set_cons_succ])
    | (refine wpList_load_row rfl 53 (.tmp 8) rfl (w.heap.size + 2) DD _ rfl o2 huD rfl iD ?_; simp only [Act.put, List.setIfInBounds_toArray, List.set_cons_zero, List.set_cons_succ])
    | (refine wpList_buildV rfl 69 [(0, .tmp 72), (1, .tmp 73), (2, .tmp 74), (3, .const (.bool false))] rfl [(0, .string s), (1, .agg PP), (2, .agg DD), (3, .bool false)] rfl _ (hbd.out _) ?_; simp only [Act.put, List.setIfInBounds_toArray, List.set_cons_zero, List.set_cons_succ])
    | (refine wpList_buildS rfl 25 1 [(0, .tmp 75)] rfl [(0, .agg XX)] rfl _ _ (hsl.out _) ?_; simp only [Act.put, List.setIfInBounds_toArray, List.set_cons_zero, List.set_cons_succ])
    | (at_builtin; refine wpList_appRows (P := Tryd.prog) (R := RN) (e := 69) (size := 40) (base := w6.heap.size) (F := fun _ => False) (F' := fun _ => False) rfl liesRN (.tmp 71) (.tmp 76) 25 rfl Tryd.underlying25 104 hinfoN.out (by decide) rfl hrN8 ⟨s, p, f, false⟩ XX hyN hF0 hA0 hL0 rfl hln (by decide) hbs8 ?_; intro v9 w9 hr9 hO9 hM9; obtain ⟨a9, n9, c9, hv9⟩ : ∃ a n c, v9 = .slice a n c := (by obtain ⟨a, c, e, _⟩ := hr9.out.form; exact ⟨a, _, c, e⟩); subst hv9; have h9 := hO9.out.heap hat8.out (fun e => by have := (hltN.out _ e).2; omega); have c39 := cell_of_block h9 0; have f39 := free_of_block h9 0; have hU9 := Lib.hid ((Upd.refl h9).setCell (j := 0) (.slice a9 n9 c9)); replace h9 := Lib.hid h9))
  have hs7o := hs7.out
  have hs6o := hs6.out
  have h9X := hO9.out.heap o4.out (fun e => by have := (hltN.out _ e).1; omega)
  have aX := (hU9.out.block _ (by omega)).trans h9X
  have h90 := hO9.out.heap o0.out (fun e => by have := (hltN.out _ e).1; omega)
  have h90X := (hU9.out.block _ (by omega)).trans h90
  have hOX : Only (fun k => k = w7.heap.size) w9 _ := Only.ofUpd hU9.out rfl
  have hrVX := (hrV8.out.only liesRV hO9.out (fun k hk => hk.elim) (fun k hk e => hav k e hk)).only liesRV hOX (fun k hk => hk.elim) (fun k hk e => by have := (hltV.out k hk).2; omega)
  have hrNX := hr9.out.only liesRN hOX (fun k hk => hk.elim) (fun k hk e => by
    rcases hM9.out k hk with h | h
    · have := (hltN.out k h).2; omega
    · have := hs8.out; omega)
  have hBX := ((hB7.out.trans (hG8.out.mono hB7.out.size)).trans (hO9.out.below (B := w.heap.size) (by have := hG8.out.size; have := hB7.out.size; omega) (fun k hk => by have := (hltN.out k hk).1; omega))).trans (hU9.out.below (by omega))
  have hatX := hU9.out.here
  obtain ⟨CM, hCM⟩ : ∃ CM : Array Value, CM = #[.slice a9 n9 c9, .slice x5 m.vs.length c5] := ⟨_, rfl⟩
  have hatX2 : (w9.setCell ⟨w7.heap.size, 0, none⟩ (.slice a9 n9 c9)).heap[w7.heap.size]? = some (.cells CM 28 (0, 0)) := by rw [hCM]; exact hatX
  obtain ⟨wX, hwX⟩ : ∃ wX, wX = w9.setCell ⟨w7.heap.size, 0, none⟩ (.slice a9 n9 c9) := ⟨_, rfl⟩
  rw [← hwX] at aX h90X hrNX hrVX hBX hatX2
  rw [← hwX]
  have hd0 : Hid (Only (fun k => k = w.heap.size + 4) wX wX.drew) := Lib.hid ((Only.refl _ _).drew)
  have rlA : ∀ W : World, Only (fun k => k = w.heap.size + 4) wX W → W.heap[w7.heap.size]? = some (.cells CM 28 (0, 0)) := fun W hW => hW.heap hatX2 (by omega)
  have cX : wX.cell? ⟨w.heap.size, 0, none⟩ = some (.slice an N cn) := by rw [cell_of_block h90X]; rfl
  have hcW : ∀ W : World, Only (fun k => k = w.heap.size + 4) wX W → W.cell? ⟨w.heap.size, 0, none⟩ = some (.slice an N cn) := fun W hW => (World.cell?_of_block (a := ⟨w.heap.size, 0, none⟩) (hW.block w.heap.size (block_lt h90X) (by omega))).trans cX
  have huA : Tryd.prog.underlying 28 = _ := Tryd.underlying28
  have hzA : (Tryd.prog.info? 28).map (·.size) = some CM.size := by rw [hCM]; kernel_rfl
  have h1M : CM.all (·.oneCell') = true := by rw [hCM]; simp [Value.oneCell']
  have hss : (#[.slice none 0 0, .slice none 0 0] : Array Value).size = CM.size := by rw [hCM]; rfl
  replace aX : Hid (wX.drew.heap[w.heap.size + 4]? = some (.cells #[.slice none 0 0, .slice none 0 0] 28 (0, 0))) := Lib.hid aX
  replace hrNX := Lib.hid hrNX
  replace hrVX := Lib.hid hrVX
  replace hBX := Lib.hid hBX
  replace hwX := Lib.hid hwX
  replace hCM := Lib.hid hCM
  replace hatX2 := Lib.hid hatX2
  clear hatX hOX cX h90 h90X h9X hs7o hs6o hU9 c39 f39 c81 c80
  refine wp_region_held_drew (S := (Only (fun k => k = w.heap.size + 4) wX)) (by kernel_rfl) hd0.out (fun hOn => ?_)
  generalize World.drew wX = wd at *
  refine wpAnyH_take (i := 0) (v := Value.agg _) (by simp only [List.getElem?_toArray, List.getElem?_cons_zero]; rfl) (by kernel_rfl) (by kernel_rfl) (by kernel_rfl) (by exact fun _ _ _ h => h) (Or.inl ⟨by rfl, fun W hSW => yields_load_row _ _ rfl _ _ _ rfl (rlA W hSW) huA rfl hzA⟩) hOn ?_
  try simp only [Act.put, List.setIfInBounds_toArray, List.set_cons_zero, List.set_cons_succ]
  refine wpAnyH_take (i := 1) (v := ?_) (by simp only [List.getElem?_toArray, List.getElem?_cons_succ, List.getElem?_cons_zero]; rfl) (by kernel_rfl) (by kernel_rfl) (by kernel_rfl) (by exact fun _ _ _ h => h) (Or.inl ⟨by rfl, ?_⟩) hOn ?_
  rotate_left
  focus (intro W hSW; go_simp; try with_reducible rfl)
  try simp only [Act.put, List.setIfInBounds_toArray, List.set_cons_zero, List.set_cons_succ]
  refine wpAnyH_take (i := 2) (v := ?_) (by simp only [List.getElem?_toArray, List.getElem?_cons_succ, List.getElem?_cons_zero]; rfl) (by kernel_rfl) (by kernel_rfl) (by kernel_rfl) (by exact fun _ _ _ h => h) (Or.inl ⟨by rfl, ?_⟩) hOn ?_
  rotate_left
  focus (intro W hSW; go_simp; try with_reducible rfl)
  try simp only [Act.put, List.setIfInBounds_toArray, List.set_cons_zero, List.set_cons_succ]
  refine wpAnyH_take (i := 3) (v := ?_) (by simp only [List.getElem?_toArray, List.getElem?_cons_succ, List.getElem?_cons_zero]; rfl) (by kernel_rfl) (by kernel_rfl) (by kernel_rfl) (by exact fun _ _ _ h => h) (Or.inl ⟨by rfl, ?_⟩) hOn ?_
  rotate_left
  focus (intro W hSW; go_simp; try with_reducible rfl)
  try simp only [Act.put, List.setIfInBounds_toArray, List.set_cons_zero, List.set_cons_succ]
  refine wpAnyH_ready (rs := [4]) (by kernel_rfl) (by simp) ?_
  refine AllReadyH.cons (by simp only [List.getElem?_toArray, List.getElem?_cons_succ, List.getElem?_cons_zero]; rfl) (fun Kz hKz => ?_) AllReadyH.nil
  rw [if_pos (by rfl)]
  (with_reducible refine wp_store_rowK 28 (.tmp 10) (.tmp 79) rfl (w.heap.size + 4) #[.slice none 0 0, .slice none 0 0] CM rfl rfl aX hzA hss h1M ?_)
  intro w10 hU10
  have hS := hOn.trans (Only.ofUpd (D := fun k => k = w.heap.size + 4) hU10.out rfl) (fun _ _ e => e)
  have hres := Lib.hid hU10.out.here
  refine hKz.out _ _ (by first | exact hS | exact Below.trans hOn (Below.mono hnew (Below.size hOn))) (fun hNext => ?_)
  clear hKz Kz hOn
  have hOn := hNext
  clear hNext
  try clear hnew
  try clear hS
  try simp only [Act.put]
  refine wpAnyH_take (i := 5) (v := ?_) (by simp only [List.getElem?_toArray, List.getElem?_cons_succ, List.getElem?_cons_zero]; rfl) (by kernel_rfl) (by kernel_rfl) (by kernel_rfl) (by exact fun _ _ _ h => h) (Or.inl ⟨by rfl, ?_⟩) hOn ?_
  rotate_left
  focus (intro W hSW; go_simp; try with_reducible rfl)
  try simp only [Act.put, List.setIfInBounds_toArray, List.set_cons_zero, List.set_cons_succ]
  refine wpAnyH_take (i := 6) (v := ?_) (by simp only [List.getElem?_toArray, List.getElem?_cons_succ, List.getElem?_cons_zero]; rfl) (by kernel_rfl) (by kernel_rfl) (by kernel_rfl) (by exact fun _ _ _ h => h) (Or.inl ⟨by rfl, ?_⟩) hOn ?_
  rotate_left
  focus (intro W hSW; go_simp; try with_reducible rfl)
  try simp only [Act.put, List.setIfInBounds_toArray, List.set_cons_zero, List.set_cons_succ]
  refine wpAnyH_done (by kernel_rfl) ?_ _
  all_goals
    go_wp2_with fail
    have hs7o := hs7.out
    have hs6o := hs6.out
    rw [hCM.out] at hres
    refine ret_cell_tmp2 (c := #[.slice a9 n9 c9, .slice x5 m.vs.length c5]) rfl rfl huA rfl (by kernel_rfl) hres.out ?_
    refine ⟨_, rfl, argM_of (hrNX.out.only liesRN hOn (fun k hk => hk.elim) (fun k hk e => by have := (hrNX.out.ownLt k hk).1; omega)) (hrVX.out.only liesRV hOn (fun k hk => hk.elim) (fun k hk e => by have := (hrVX.out.ownLt k hk).1; omega)), hBX.out.trans (hOn.below (by have := hBX.out.size; omega) (fun k e => by omega))⟩
end Go.Proofs.YtndgacjfkoliaaaDoor
