/- baileeref34.Put where the parameters or the size are wrong. Printed by genrput2.py. -/
import Derived.Test.YtndgacjfkoliaaaDoorF36PlaysSaid34
namespace Go.Proofs.YtndgacjfkoliaaaDoor
open Go.RowKit
set_option linter.unusedSimpArgs false
set_option linter.unusedVariables false

set_option maxRecDepth 100000 in
set_option maxHeartbeats 4000000 in
theorem rput_chk (va : Value) (m : Md) (w : World) (ha : ArgM w va m) (l1 : m.ns.length ≤ 4) (l2 : m.vs.length ≤ 1000) (s : ByteArray) (f : List UInt8) (p : P6) (hs : s.size ≤ 1000000) (hf : f.length = 32) (hp : p.Ok) (size : Int) (F : ByteArray) (VV : Int) (i : Nat) (hpo : badAt p.s p.n p.k p.d p.t p.r = some (F, VV, i)) :
    Calls Tryd.prog 17 #[va, .string s, .int .i64 size, .agg (cB f).toArray, .agg p.list.toArray] w (RNPost m 0 (i + 1) w) := by
  have ha0 := ha
  obtain ⟨⟨an, cn, av, cv, e0, hN, -, -, hV, -, -⟩, okN, okV⟩ := ha
  obtain ⟨PP, hPP⟩ : ∃ PP, PP = p.list.toArray := ⟨_, rfl⟩
  obtain ⟨DD, hDD⟩ : ∃ DD, DD = (cB f).toArray := ⟨_, rfl⟩
  obtain ⟨N, hNl⟩ : ∃ N, N = m.ns.length := ⟨_, rfl⟩
  obtain ⟨V, hVl⟩ : ∃ V, V = m.vs.length := ⟨_, rfl⟩
  rw [← hNl, ← hVl] at e0
  obtain ⟨CM, hCM⟩ : ∃ CM : Array Value, CM = #[.slice an N cn, .slice av V cv] := ⟨_, rfl⟩
  rw [← hCM] at e0
  subst e0
  obtain ⟨w2, hw2⟩ : ∃ w2, w2 = (((w.alloc (.cells CM 32)).alloc (.cells DD 35)).alloc (.cells PP 59)).alloc (.cells #[.slice none 0 0, .slice none 0 0] 32) := ⟨_, rfl⟩
  obtain ⟨b0, b1, b2, b3, hs2, hB⟩ := four_allocs w _ _ _ _ _ _ _ _ w2 hw2
  have hck : ∀ W, Calls Tryd.prog 32 #[.agg PP] W fun e w' => e = .returned (.tuple #[.string F, .int .i64 VV, .int .i64 ((i + 1 : Nat) : Int)]) ∧ Below W.heap.size W w' := fun W => by
    rw [hPP]
    have := rcheck_any p.s p.n p.k p.d p.t p.r W
    rw [hpo] at this
    exact this
  have hlb : ∀ W, Calls Tryd.prog 33 #[.string s] W fun e w' => e = .returned (.bool (labB s.data.toList)) ∧ W = w' := fun W => rLabel_any s W (Nat.le_trans hs (by decide))
  have hcp : ∀ W, Below w.heap.size w W → Calls Tryd.prog 34 #[.agg CM] W (CopiedPost W m) := fun W hW => copied_any _ m W (ha0.below hW (Nat.le_refl _)) (by omega) l2
  have huM : Tryd.prog.underlying 32 = _ := Tryd.underlying32
  have huP : Tryd.prog.underlying 59 = _ := Tryd.underlying59
  have huD : Tryd.prog.underlying 35 = _ := Tryd.underlying35
  have huN : Tryd.prog.underlying 67 = _ := Tryd.underlying67
  have iM : (Tryd.prog.info? 32).map (·.size) = some CM.size := by rw [hCM]; kernel_rfl
  have h1M : CM.all (·.oneCell') = true := by rw [hCM]; simp [Value.oneCell']
  have hss : (#[.slice none 0 0, .slice none 0 0] : Array Value).size = CM.size := by rw [hCM]; rfl
  have iP : (Tryd.prog.info? 59).map (·.size) = some PP.size := by rw [hPP]; kernel_rfl
  have iPl : (Tryd.prog.info? 59).map (·.size) = some p.list.length := by kernel_rfl
  have iD : (Tryd.prog.info? 35).map (·.size) = some DD.size := by rw [hDD, List.size_toArray, cB_length, hf]; kernel_rfl
  have iDl : (Tryd.prog.info? 35).map (·.size) = some (cB f).length := by rw [cB_length, hf]; kernel_rfl
  have hP0 : PP[0]? = some (.int .i64 p.s) := by rw [hPP]; rfl
  have hC0 : CM[0]? = some (.slice an N cn) := by rw [hCM]; rfl
  have hpost : Hid (∀ (k : Int) (n : Nat) W, Below w.heap.size w W → RNPost m k n w (.returned (.tuple #[.agg CM, .int .i64 k, .int .i64 (n : Int)])) W) := Lib.hid (fun k n W h => ⟨_, rfl, ha0.below h (Nat.le_refl _), h⟩)
  rw [← hPP, ← hDD]
  have hNb : N ≤ 4 := by rw [hNl]; exact l1
  have c20 : w2.cell? ⟨w.heap.size + 2, 0, none⟩ = some (.int .i64 p.s) := by rw [cell_of_block b2]; exact hP0
  replace hck := Lib.hid hck
  replace hlb := Lib.hid hlb
  replace hcp := Lib.hid hcp
  replace hNl := Lib.hid hNl
  replace hVl := Lib.hid hVl
  replace hw2 := Lib.hid hw2
  replace b0 := Lib.hid b0
  replace b1 := Lib.hid b1
  replace b2 := Lib.hid b2
  replace b3 := Lib.hid b3
  replace hB := Lib.hid hB
  replace hs2 := Lib.hid hs2
  replace hPP := Lib.hid hPP
  replace hDD := Lib.hid hDD
  replace hCM := Lib.hid hCM
  replace hP0 := Lib.hid hP0
  replace hC0 := Lib.hid hC0
  replace hN := Lib.hid hN
  replace okN := Lib.hid okN
  replace hs := Lib.hid hs
  replace hf := Lib.hid hf
  replace hp := Lib.hid hp
  replace l1 := Lib.hid l1
  clear hV okV ha0 hpo l2
  have hi1 : (((i + 1 : Nat) : Int) != 0) = true := by simp; omega
  obtain ⟨ii, hii⟩ : ∃ ii : Int, ii = ((i + 1 : Nat) : Int) := ⟨_, rfl⟩
  rw [← hii] at hck hi1
  replace hii := Lib.hid hii
  go_enter Tryd.func17, Tryd.ntmps17
  go_upto_region 1 with fail
  rw [← hw2.out]
  clear hw2
  go_wp2_with (refine wpList_load_row rfl 59 (.tmp 9) rfl (w.heap.size + 2) PP _ rfl b2 huP rfl iP ?_)
  with_reducible refine (hck.out w2).mono ?_
  rintro e w3 ⟨rfl, hb3⟩
  have hB3 := Lib.hid (hB.out.trans (hb3.mono hB.out.size))
  have x0 := Lib.hid ((hb3.block _ (block_lt b0.out)).trans b0.out)
  have x1 := Lib.hid ((hb3.block _ (block_lt b1.out)).trans b1.out)
  have x2 := Lib.hid ((hb3.block _ (block_lt b2.out)).trans b2.out)
  have x3 := Lib.hid ((hb3.block _ (block_lt b3.out)).trans b3.out)
  have d20 := (hb3.cell (World.block_lt_of_cell? w2 _ c20)).trans c20
  have c00 : w3.cell? ⟨w.heap.size, 0, none⟩ = some (.slice an N cn) := by rw [cell_of_block x0.out]; exact hC0.out
  have hsz3 : w.heap.size + 4 ≤ w3.heap.size := by have := hs2.out; have := hb3.size; omega
  replace hsz3 := Lib.hid hsz3
  have hN3 := Lib.hid (hN.out.below hB3.out (Nat.le_refl _))
  clear hck hb3 b0 b1 b2 b3 hB c20
  go_wp2_with (first
    | ((with_reducible show wpList _ _ _ (Oper.mk _ (Op.load 32 (.tmp 5)) _ _ _ _ :: _) _ _); refine wpList_load_row rfl 32 (.tmp 5) rfl w.heap.size CM _ rfl x0 huM rfl iM ?_; simp only [Act.put, List.setIfInBounds_toArray, List.set_cons_zero, List.set_cons_succ])
    | ((with_reducible show wpList _ _ _ (Oper.mk _ (Op.store 32 (.tmp 10) _) _ _ _ _ :: _) _ _); (refine wpList_store_row rfl 32 (.tmp 10) (.tmp 29) rfl (w.heap.size + 3) _ CM rfl rfl x3 iM hss h1M ?_); intro w9 hU9))
  refine ret_cell_tmp2 (c := CM) rfl rfl huM rfl iM hU9.out.here ?_
  rw [hii.out]
  exact hpost.out _ _ _ (hB3.out.trans (hU9.out.below (by omega)))

set_option maxRecDepth 100000 in
set_option maxHeartbeats 4000000 in
theorem rput_size (va : Value) (m : Md) (w : World) (ha : ArgM w va m) (l1 : m.ns.length ≤ 4) (l2 : m.vs.length ≤ 1000) (s : ByteArray) (f : List UInt8) (p : P6) (hs : s.size ≤ 1000000) (hf : f.length = 32) (hp : p.Ok) (size : Int) (hsz : size ≠ p.s) (hpo : badAt p.s p.n p.k p.d p.t p.r = none) :
    Calls Tryd.prog 17 #[va, .string s, .int .i64 size, .agg (cB f).toArray, .agg p.list.toArray] w (RNPost m 0 8 w) := by
  have ha0 := ha
  obtain ⟨⟨an, cn, av, cv, e0, hN, -, -, hV, -, -⟩, okN, okV⟩ := ha
  obtain ⟨PP, hPP⟩ : ∃ PP, PP = p.list.toArray := ⟨_, rfl⟩
  obtain ⟨DD, hDD⟩ : ∃ DD, DD = (cB f).toArray := ⟨_, rfl⟩
  obtain ⟨N, hNl⟩ : ∃ N, N = m.ns.length := ⟨_, rfl⟩
  obtain ⟨V, hVl⟩ : ∃ V, V = m.vs.length := ⟨_, rfl⟩
  rw [← hNl, ← hVl] at e0
  obtain ⟨CM, hCM⟩ : ∃ CM : Array Value, CM = #[.slice an N cn, .slice av V cv] := ⟨_, rfl⟩
  rw [← hCM] at e0
  subst e0
  obtain ⟨w2, hw2⟩ : ∃ w2, w2 = (((w.alloc (.cells CM 32)).alloc (.cells DD 35)).alloc (.cells PP 59)).alloc (.cells #[.slice none 0 0, .slice none 0 0] 32) := ⟨_, rfl⟩
  obtain ⟨b0, b1, b2, b3, hs2, hB⟩ := four_allocs w _ _ _ _ _ _ _ _ w2 hw2
  have hck : ∀ W, Calls Tryd.prog 32 #[.agg PP] W fun e w' => e = .returned (.tuple #[.string ⟨#[]⟩, .int .i64 0, .int .i64 0]) ∧ Below W.heap.size W w' := fun W => by
    rw [hPP]
    have := rcheck_any p.s p.n p.k p.d p.t p.r W
    rw [hpo] at this
    exact this
  have hlb : ∀ W, Calls Tryd.prog 33 #[.string s] W fun e w' => e = .returned (.bool (labB s.data.toList)) ∧ W = w' := fun W => rLabel_any s W (Nat.le_trans hs (by decide))
  have hcp : ∀ W, Below w.heap.size w W → Calls Tryd.prog 34 #[.agg CM] W (CopiedPost W m) := fun W hW => copied_any _ m W (ha0.below hW (Nat.le_refl _)) (by omega) l2
  have huM : Tryd.prog.underlying 32 = _ := Tryd.underlying32
  have huP : Tryd.prog.underlying 59 = _ := Tryd.underlying59
  have huD : Tryd.prog.underlying 35 = _ := Tryd.underlying35
  have huN : Tryd.prog.underlying 67 = _ := Tryd.underlying67
  have iM : (Tryd.prog.info? 32).map (·.size) = some CM.size := by rw [hCM]; kernel_rfl
  have h1M : CM.all (·.oneCell') = true := by rw [hCM]; simp [Value.oneCell']
  have hss : (#[.slice none 0 0, .slice none 0 0] : Array Value).size = CM.size := by rw [hCM]; rfl
  have iP : (Tryd.prog.info? 59).map (·.size) = some PP.size := by rw [hPP]; kernel_rfl
  have iPl : (Tryd.prog.info? 59).map (·.size) = some p.list.length := by kernel_rfl
  have iD : (Tryd.prog.info? 35).map (·.size) = some DD.size := by rw [hDD, List.size_toArray, cB_length, hf]; kernel_rfl
  have iDl : (Tryd.prog.info? 35).map (·.size) = some (cB f).length := by rw [cB_length, hf]; kernel_rfl
  have hP0 : PP[0]? = some (.int .i64 p.s) := by rw [hPP]; rfl
  have hC0 : CM[0]? = some (.slice an N cn) := by rw [hCM]; rfl
  have hpost : Hid (∀ (k : Int) (n : Nat) W, Below w.heap.size w W → RNPost m k n w (.returned (.tuple #[.agg CM, .int .i64 k, .int .i64 (n : Int)])) W) := Lib.hid (fun k n W h => ⟨_, rfl, ha0.below h (Nat.le_refl _), h⟩)
  rw [← hPP, ← hDD]
  have hNb : N ≤ 4 := by rw [hNl]; exact l1
  have c20 : w2.cell? ⟨w.heap.size + 2, 0, none⟩ = some (.int .i64 p.s) := by rw [cell_of_block b2]; exact hP0
  replace hck := Lib.hid hck
  replace hlb := Lib.hid hlb
  replace hcp := Lib.hid hcp
  replace hNl := Lib.hid hNl
  replace hVl := Lib.hid hVl
  replace hw2 := Lib.hid hw2
  replace b0 := Lib.hid b0
  replace b1 := Lib.hid b1
  replace b2 := Lib.hid b2
  replace b3 := Lib.hid b3
  replace hB := Lib.hid hB
  replace hs2 := Lib.hid hs2
  replace hPP := Lib.hid hPP
  replace hDD := Lib.hid hDD
  replace hCM := Lib.hid hCM
  replace hP0 := Lib.hid hP0
  replace hC0 := Lib.hid hC0
  replace hN := Lib.hid hN
  replace okN := Lib.hid okN
  replace hs := Lib.hid hs
  replace hf := Lib.hid hf
  replace hp := Lib.hid hp
  replace l1 := Lib.hid l1
  clear hV okV ha0 hpo l2
  have hsn : (size != p.s) = true := by simpa using hsz
  clear hsz
  go_enter Tryd.func17, Tryd.ntmps17
  go_upto_region 1 with fail
  rw [← hw2.out]
  clear hw2
  go_wp2_with (refine wpList_load_row rfl 59 (.tmp 9) rfl (w.heap.size + 2) PP _ rfl b2 huP rfl iP ?_)
  with_reducible refine (hck.out w2).mono ?_
  rintro e w3 ⟨rfl, hb3⟩
  have hB3 := Lib.hid (hB.out.trans (hb3.mono hB.out.size))
  have x0 := Lib.hid ((hb3.block _ (block_lt b0.out)).trans b0.out)
  have x1 := Lib.hid ((hb3.block _ (block_lt b1.out)).trans b1.out)
  have x2 := Lib.hid ((hb3.block _ (block_lt b2.out)).trans b2.out)
  have x3 := Lib.hid ((hb3.block _ (block_lt b3.out)).trans b3.out)
  have d20 := (hb3.cell (World.block_lt_of_cell? w2 _ c20)).trans c20
  have c00 : w3.cell? ⟨w.heap.size, 0, none⟩ = some (.slice an N cn) := by rw [cell_of_block x0.out]; exact hC0.out
  have hsz3 : w.heap.size + 4 ≤ w3.heap.size := by have := hs2.out; have := hb3.size; omega
  replace hsz3 := Lib.hid hsz3
  have hN3 := Lib.hid (hN.out.below hB3.out (Nat.le_refl _))
  clear hck hb3 b0 b1 b2 b3 hB c20
  go_wp2_with (first
    | ((with_reducible show wpList _ _ _ (Oper.mk _ (Op.load 32 (.tmp 5)) _ _ _ _ :: _) _ _); refine wpList_load_row rfl 32 (.tmp 5) rfl w.heap.size CM _ rfl x0 huM rfl iM ?_; simp only [Act.put, List.setIfInBounds_toArray, List.set_cons_zero, List.set_cons_succ])
    | ((with_reducible show wpList _ _ _ (Oper.mk _ (Op.store 32 (.tmp 10) _) _ _ _ _ :: _) _ _); (refine wpList_store_row rfl 32 (.tmp 10) (.tmp 35) rfl (w.heap.size + 3) _ CM rfl rfl x3 iM hss h1M ?_); intro w9 hU9))
  refine ret_cell_tmp2 (c := CM) rfl rfl huM rfl iM hU9.out.here ?_
  exact hpost.out _ _ _ (hB3.out.trans (hU9.out.below (by omega)))
end Go.Proofs.YtndgacjfkoliaaaDoor
