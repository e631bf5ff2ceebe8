/- BuildW, AppW, MapK, WriteD. -/
import Derived.Test.YtdgilgnaoifpcaaDoorDisk2
import Derived.Laws.Tables
import Derived.Great.BuildSlice
import Derived.Great.FillDense
import Derived.Deep.MidRow
import Derived.Maps.AppendAt
import Derived.Laws.CopyRow
import Derived.Test.YtdgilgnaoifpcaaDoorOnL
/- A write is built of its place and of its sector, whatever bytes. -/
namespace Go.Proofs.YtdgilgnaoifpcaaDoor
open Go.RowKit

theorem foldl_get (cs : List Value) (off : Nat) : ∀ (n : Nat) (b : Array Value) (k : Nat), ((cs.zipIdx n).foldl (fun acc x => acc.setIfInBounds (off + x.2) x.1) b)[k]? = if off + n ≤ k ∧ k < off + n + cs.length ∧ k < b.size then cs[k - (off + n)]? else b[k]? := by
  induction cs with
  | nil => intro n b k; rw [if_neg (by simp; omega)]; rfl
  | cons c cs ih =>
    intro n b k
    rw [List.zipIdx_cons, List.foldl_cons, ih (n + 1) _ k, Array.size_setIfInBounds, Array.getElem?_setIfInBounds]
    simp only [List.length_cons]
    by_cases h2 : off + (n + 1) ≤ k ∧ k < off + (n + 1) + cs.length ∧ k < b.size
    · rw [if_pos h2, if_pos (by omega), show k - (off + n) = (k - (off + (n + 1))) + 1 by omega, List.getElem?_cons_succ]
    · rw [if_neg h2]
      by_cases h1 : off + n = k
      · subst h1
        rw [if_pos rfl]
        by_cases h3 : off + n < b.size
        · rw [if_pos h3, if_pos ⟨Nat.le_refl _, by omega, h3⟩, Nat.sub_self]; rfl
        · rw [if_neg h3, if_neg (by omega), Array.getElem?_eq_none (by omega)]
      · rw [if_neg h1, if_neg (by omega)]

set_option maxRecDepth 100000 in
theorem build_write (i : Int) (S : Array Value) (hS : S.size = 64) (W : World) : (Instr.build 64 #[(0, .int .i64 i), (1, .agg S)]).run Tryd.prog W = .ok (.agg (#[.int .i64 i] ++ S)) W := by
  refine run_build W _ _ _ ?_
  obtain ⟨Z, hZ⟩ : ∃ Z : Array Value, Z = (cB (0 :: zSec)).toArray.setIfInBounds 0 (.int .i64 0) := ⟨_, rfl⟩
  have hb : ∀ parts, Tryd.prog.built 64 parts = Instr.fill (fun i => (#[(0, 1), (1, 64)] : Array (Nat × Nat))[i]?) ((cB (0 :: zSec)).toArray.setIfInBounds 0 (.int .i64 0)) parts := fun parts => by kernel_rfl
  rw [hb, ← hZ]
  have hZs : Z.size = 65 := by rw [hZ]; rfl
  clear hZ hb
  simp only [Instr.fill, Value.cells, List.size_toArray, List.length_cons, List.length_nil]
  have e0 : Array.foldl (fun cs x => cs.setIfInBounds (0 + x.snd) x.fst) Z #[Value.int IntKind.i64 i].zipIdx = Z.setIfInBounds 0 (.int .i64 i) := by simp [Array.zipIdx]
  show (if (decide (0 + 1 ≠ 1) || decide (0 + (0 + 1) > Z.size)) = true then none else if (decide (S.size ≠ 64) || decide (1 + S.size > (Array.foldl (fun cs x => cs.setIfInBounds (0 + x.snd) x.fst) Z #[Value.int IntKind.i64 i].zipIdx).size)) = true then none else some (Array.foldl (fun cs x => cs.setIfInBounds (1 + x.snd) x.fst) (Array.foldl (fun cs x => cs.setIfInBounds (0 + x.snd) x.fst) Z #[Value.int IntKind.i64 i].zipIdx) S.zipIdx)) = _
  rw [e0, if_neg (by simp [hZs]), if_neg (by simp [hZs, hS])]
  congr 1
  apply Array.ext_getElem?
  intro k
  rw [← Array.foldl_toList, Array.toList_zipIdx, foldl_get, Array.size_setIfInBounds, Array.getElem?_setIfInBounds, hZs, Array.length_toList, hS]
  rw [Array.getElem?_append]
  simp only [List.size_toArray, List.length_cons, List.length_nil]
  by_cases hk0 : k = 0
  · subst hk0
    rw [if_neg (by omega), if_pos rfl, if_pos (by omega), if_pos (by omega)]
    try rfl
  · by_cases hk : k < 65
    · rw [if_pos (by omega), if_neg (by omega), Array.getElem?_toList]
      try rfl
    · rw [if_neg (by omega), if_neg (by omega), if_neg (by omega), Array.getElem?_eq_none (by omega), Array.getElem?_eq_none (by omega)]
end Go.Proofs.YtdgilgnaoifpcaaDoor
/- append of one write to the writes that wait, as a step of a region that draws; a slice of one write. -/
namespace Go.Proofs.YtdgilgnaoifpcaaDoor
open Go.RowKit

theorem Tryd.infoWriteP : (Tryd.prog.info? 64).map (fun i => (i.zero.map (·.cells.size), i.size, i.bytes)) = some (some 65, 65, 72) := by kernel_rfl
theorem slice_write (R : Array Value) (hR : R.size = 65) (W : World) : (Instr.buildSlice 57 1 #[(0, .agg R)]).run Tryd.prog W = .ok (.slice (some ⟨W.heap.size, 0, none⟩) 1 1) (W.alloc (.cells R 64)) := by
  obtain ⟨ie, hie, h2⟩ := Option.map_eq_some_iff.1 Tryd.infoWriteP
  simp only [Prod.mk.injEq] at h2
  obtain ⟨hz, hs, hb⟩ := h2
  obtain ⟨z, hz1, hz2⟩ := Option.map_eq_some_iff.1 hz
  refine run_buildSlice W _ _ 1 _ R ie z Tryd.underlying57 hie hz1 (by rw [hs]; decide) (by rw [hs]; decide) ?_
  have h := Go.Great.fill_whole (s := 65) (by decide) [.agg R] ((Array.range (1 * ie.size)).map (z.cells[· % z.cells.size]!)) (by simp [Value.cells, hR]) (by simp [hs])
  simpa [hs, Value.cells] using h
section
variable {ops : Array Oper} {K : Act → World → Prop} {Q : Exit → Act → World → Prop} {o : Oper} {a : Act} {w : World}
/-- A build whose result a fact gives. -/
theorem wpK_build (t : TypeId) (x y : Operand) (ho : o.op = .build t #[(0, x), (1, y)]) (vx vy : Value) (hx : a.eval x = vx) (hy : a.eval y = vy) (R : Value) (h : ∀ W, (Instr.build t #[(0, vx), (1, vy)]).run Tryd.prog W = .ok R W) (hK : K (a.put o.dst R) w) : o.wp Tryd.prog a w K Q := by
  unfold Oper.wp execOp
  simp only [ho, Sem.run_bind, Sem.run_pure, Result.andThen_ok, List.map_toArray, List.map_cons, List.map_nil, hx, hy, h]
  exact hK
theorem wpK_buildSlice (t : TypeId) (len : Nat) (x : Operand) (ho : o.op = .buildSlice t len #[(0, x)]) (vx : Value) (hx : a.eval x = vx) (R : Value) (w' : World) (h : (Instr.buildSlice t len #[(0, vx)]).run Tryd.prog w = .ok R w') (hK : K (a.put o.dst R) w') : o.wp Tryd.prog a w K Q := by
  unfold Oper.wp execOp
  simp only [ho, Sem.run_bind, Sem.run_pure, Result.andThen_ok, List.map_toArray, List.map_cons, List.map_nil, hx, h]
  exact hK
theorem wpK_appW (s x : Operand) (ho : o.op = .call { callee := .builtin .append, args := #[s, x], argTypes := #[57, 57] })
    (base : Nat) (v : Value) (n : Nat) (xs : List Value) (hs : a.eval s = v) (hown : Hid (w.ownsRow base 64 65 v n xs))
    (g : Nat) (R : Array Value) (hR : R.size = 65) (h1 : ∀ u ∈ R.toList, u.oneCell' = true) (hx : a.eval x = .slice (some ⟨g, 0, none⟩) 1 1) (hg : Hid (w.heap[g]? = some (.cells R 64 (0, 0)))) (hl : n ≤ 1000000) (hbase : base ≤ w.heap.size)
    (h : ∀ v' w', Hid (w'.ownsRow base 64 65 v' (n + 1) (xs ++ R.toList)) → Hid (w.grownBy w' v.ownBlock) → (v'.ownBlock = v.ownBlock ∨ v'.ownBlock = some w.heap.size) → K (a.put o.dst v') w') : o.wp Tryd.prog a w K Q := by
  obtain ⟨ie, hie, h2⟩ := Option.map_eq_some_iff.1 Tryd.infoWriteP
  simp only [Prod.mk.injEq] at h2
  obtain ⟨hz, hsz, hby⟩ := h2
  obtain ⟨z, hz1, hz2⟩ := Option.map_eq_some_iff.1 hz
  obtain ⟨v', w', hr, k1, k2, _, k4⟩ := run_append_own_at (P := Tryd.prog) w base 57 o.type 64 ie z 65 ie.bytes Tryd.underlying57 hie hz1 hsz rfl hz2 (by decide) v n xs hown.out ⟨g, 0, none⟩ 1 1 R.toList (by simp [hR])
    (fun j u hu => by
      rw [Addr.add_mid, cell_of_block hg.out, Nat.zero_add, ← Array.getElem?_toList]
      exact hu) h1 (by unfold maxLen; omega) (by rw [hby]; omega) hbase
  unfold Oper.wp execOp
  simp only [ho, resolve, invoke, builtin, Sem.run_bind, Sem.run_pure, Result.andThen_ok, List.map_toArray, List.map_cons, List.map_nil, hs, hx, hr]
  exact h v' w' (Lib.hid k1) (Lib.hid k2) k4
end
end Go.Proofs.YtdgilgnaoifpcaaDoor
/- The map of sectors, a copy of bytes: as steps of a region that draws. -/
namespace Go.Proofs.YtdgilgnaoifpcaaDoor
open Go.RowKit Go.Maps
section
variable {ops : Array Oper} {K : Act → World → Prop} {Q : Exit → Act → World → Prop} {o : Oper} {a : Act} {w : World}
theorem wpK_look (m x : Operand) (hop : o.op = Op.lookup 56 m x false) (b n : Nat) (f : Int → List UInt8) (hm : a.eval m = .map (some b)) (h : Hid (SureMap w b n f))
    (i : Int) (hx : a.eval x = .int .i64 i) (h1 : -9223372036854775808 ≤ i) (h2 : i ≤ 9223372036854775807) (hK : K (a.put o.dst (secV (f i))) w) : o.wp Tryd.prog a w K Q := by
  obtain ⟨D, ho, hD, hl, hat⟩ := h.out
  obtain ⟨v, ps, hrun, hv⟩ := ho.lookup (int_keyed Tryd.underlying3) Tryd.underlying56 (zero_sector w) (secR_mk (by simp [zSec])) (key_int h1 h2)
  rw [hat i h1 h2] at hv
  obtain ⟨rfl, _⟩ := secR_inv hv
  unfold Oper.wp
  simp [execOp, hop, hm, hx, hrun, Result.andThen]
  exact hK
theorem yields_look (m x : Operand) (hop : o.op = Op.lookup 56 m x false) (b n : Nat) (f : Int → List UInt8) (hm : a.eval m = .map (some b)) (h : SureMap w b n f)
    (i : Int) (hx : a.eval x = .int .i64 i) (h1 : -9223372036854775808 ≤ i) (h2 : i ≤ 9223372036854775807) : (execOp a.eval o).run Tryd.prog w = .ok (.value (secV (f i))) w := by
  obtain ⟨D, ho, hD, hl, hat⟩ := h
  obtain ⟨v, ps, hrun, hv⟩ := ho.lookup (int_keyed Tryd.underlying3) Tryd.underlying56 (zero_sector w) (secR_mk (by simp [zSec])) (key_int h1 h2)
  rw [hat i h1 h2] at hv
  obtain ⟨rfl, _⟩ := secR_inv hv
  simp [execOp, hop, hm, hx, hrun, Result.andThen]
theorem wpK_put (m x v : Operand) (hop : o.op = Op.mapUpdate 56 m x v) (b n : Nat) (f : Int → List UInt8) (hm : a.eval m = .map (some b)) (h : Hid (SureMap w b n f)) (hn : n < maxLen)
    (i : Int) (hx : a.eval x = .int .i64 i) (h1 : -9223372036854775808 ≤ i) (h2 : i ≤ 9223372036854775807) (bs : List UInt8) (hv : a.eval v = secV bs) (hl : bs.length = 64)
    (hK : ∀ w', Hid (SureMap w' b (n + 1) (fun j => if j = i then bs else f j)) → Hid (w.grownBy w' (some b)) → K (a.put o.dst undef) w') : o.wp Tryd.prog a w K Q := by
  obtain ⟨D, ho, hD, hfl, hat⟩ := h.out
  obtain ⟨w', hrun, k1, k2⟩ := ho.update (int_keyed Tryd.underlying3) Tryd.underlying56 hn (key_int h1 h2) (secR_mk hl)
  unfold Oper.wp
  simp [execOp, hop, hm, hx, hv, hrun, Result.andThen]
  refine hK w' (Lib.hid ⟨_, k1, hD.put _ _, fun j => ?_, fun j j1 j2 => ?_⟩) (Lib.hid k2)
  · show (if j = i then bs else f j).length = 64
    split
    · exact hl
    · exact hfl j
  · show (D.put (.int .i64 i) (.lit (.string bs))).atKey (.int .i64 j) (.lit (.string zSec)) = .lit (.string (if j = i then bs else f j))
    by_cases hji : j = i
    · subst hji
      rw [if_pos rfl]
      exact atKey_put_same hD (by simp [WideAt.IsKeyLit]) _ _
    · rw [if_neg hji, atKey_put_other (by simpa using hji)]
      exact hat j j1 j2
theorem wpK_copy (d s : Operand) (ho : o.op = .call { callee := .builtin .copy, args := #[d, s], argTypes := #[36, 36] })
    (g dLen dCap : Nat) (p : Addr) (sLen sCap : Nat) (cur : Array Value) (t : TypeId) (cs : List Value) (hd : a.eval d = .slice (some ⟨g, 0, none⟩) dLen dCap) (hs : a.eval s = .slice (some p) sLen sCap)
    (hg : Hid (w.heap[g]? = some (.cells cur t (0, 0)))) (hn : cs.length = Nat.min sLen dLen) (hsrc : ∀ j v, cs[j]? = some v → w.cell? (p.add j) = some v) (hfit : cs.length ≤ cur.size) (h1 : ∀ v ∈ cs, v.oneCell' = true)
    (hK : ∀ w', Hid (Upd g (.cells (cs ++ cur.toList.drop cs.length).toArray t (0, 0)) w w') → K (a.put o.dst (goInt cs.length)) w') : o.wp Tryd.prog a w K Q := by
  have hu : Tryd.prog.underlying 36 = some (.slice 5) := Tryd.underlying36
  have hsz : (Tryd.prog.info? 5).map (·.size) = some 1 := by kernel_rfl
  have hr := fun ty => run_copy_row (P := Tryd.prog) w 36 36 ty 5 g 0 dLen dCap p sLen sCap cur t cs hu hsz hg.out hn hsrc (by omega) h1
  have hU := Upd.setRow (cs := (cur.toList.take 0 ++ cs ++ cur.toList.drop (0 + cs.length)).toArray) hg.out
  unfold Oper.wp execOp
  simp only [ho, resolve, invoke, builtin, Sem.run_bind, Sem.run_pure, Result.andThen_ok, List.map_toArray, List.map_cons, List.map_nil, hd, hs, hr]
  refine hK _ (Lib.hid ?_)
  simpa using hU
end
end Go.Proofs.YtdgilgnaoifpcaaDoor
/- Walks over disk: Write. -/
namespace Go.Proofs.YtdgilgnaoifpcaaDoor
open Go.RowKit

/-- The cells of the writes that wait. -/
def wcellsW (ws : List (Int × List UInt8)) : List Value := ws.flatMap fun p => .int .i64 p.1 :: cB p.2
theorem rangeAt_argB {w : World} {b off cap : Nat} {bs : List UInt8} (h : ArgB w (some ⟨b, off, none⟩) cap bs) : w.rangeAt b off (cB bs) := by
  intro j v hv
  have hj : j < bs.length := by
    have := (List.getElem?_eq_some_iff.1 hv).1
    rwa [cB_length] at this
  obtain ⟨b', o', e, hc⟩ := h.row j hj
  cases e
  rw [hc, ← hv]
  simp [cB, hj]
theorem rangeAt_only {w w' : World} {D : Nat → Prop} {b off : Nat} {cs : List Value} (h : w.rangeAt b off cs) (hO : Only D w w') (hd : ¬ D b) : w'.rangeAt b off cs := fun j v hv => by
  have hc := h j v hv
  exact (World.cell?_of_block (w := w) (w' := w') (a := ⟨b, off + j, none⟩) (hO.block b (World.block_lt_of_cell? w _ hc) hd)).trans hc

set_option maxRecDepth 100000 in
set_option maxHeartbeats 4000000 in
theorem dwrite_yes (base B mb : Nat) (n i : Int) (h0 : 0 ≤ i) (h1 : i < n) (T : TypeId) (v : Value) (ws : List (Int × List UInt8)) (armed : Bool) (l : Int) (har : armed = true → l ≠ 0) (hl : -1000000 ≤ l ∧ l ≤ 9223372036854775807) (w : World) (hat : w.heap[B]? = some (.cells (dcells n mb v armed l false) T (0, 0)))
    (hb : base ≤ w.heap.size) (hown : w.ownsRow base 64 65 v ws.length (wcellsW ws)) (hvB : ∀ k, v.ownBlock = some k → k ≠ B) (hws : ws.length ≤ 1000000)
    (bb off cap : Nat) (bs : List UInt8) (hbs : bs.length = 64) (ha : ArgB w (some ⟨bb, off, none⟩) cap bs) (hbB : bb ≠ B) (hvb : ∀ k, v.ownBlock = some k → k ≠ bb) :
    Calls Tryd.prog 8 #[.pointer (some ⟨B, 0, none⟩), .int .i64 i, .slice (some ⟨bb, off, none⟩) 64 cap] w fun x w' => x = .returned .nilIface ∧
      ∃ v', w'.heap[B]? = some (.cells (dcells n mb v' armed (l - 1) false) T (0, 0)) ∧ w'.ownsRow base 64 65 v' (ws.length + 1) (wcellsW (ws ++ [(i, bs)])) ∧ Only (fun k => k = B ∨ v.ownBlock = some k) w w' ∧ (∀ k, v'.ownBlock = some k → v.ownBlock = some k ∨ w.heap.size ≤ k) := by
  have hBl := block_lt hat
  have hc : w.cell? ⟨B, 0, none⟩ = some (.int .i64 n) := by rw [cell_of_block hat]; rfl
  have c3 : w.cell? ⟨B, 3, none⟩ = some (.bool armed) := by rw [cell_of_block hat]; rfl
  have c4 : w.cell? ⟨B, 4, none⟩ = some (.int .i64 l) := by rw [cell_of_block hat]; rfl
  have c5 : w.cell? ⟨B, 5, none⟩ = some (.bool false) := by rw [cell_of_block hat]; rfl
  have hth := Lib.hid (dthere_yes B n i h0 h1 w hc)
  have hde := Lib.hid (ddeed_go B armed l har hl w c3 c4 c5 (free_of_block hat _))
  have harr : ∀ W, (Instr.arrayAt 62 (.slice (some ⟨bb, off, none⟩) 64 cap)).run Tryd.prog W = .ok (.pointer (some ⟨bb, off, none⟩)) W := fun W => by kernel_rfl
  obtain ⟨S, hSd⟩ : ∃ S, S = (cB bs).toArray := ⟨_, rfl⟩
  have hSs : S.size = 64 := by rw [hSd]; simp [cB_length, hbs]
  have hbuild := build_write i S hSs
  obtain ⟨R, hRd⟩ : ∃ R, R = #[Value.int .i64 i] ++ S := ⟨_, rfl⟩
  have hRs : R.size = 65 := by rw [hRd]; simp [hSs]
  rw [← hRd] at hbuild
  have hslice := slice_write R hRs
  have hraw := True.intro
  have hR1 : ∀ u ∈ R.toList, u.oneCell' = true := by
    rw [hRd, hSd]
    intro u hu
    simp only [Array.toList_append, List.mem_append, List.mem_singleton] at hu
    rcases hu with rfl | hu
    · rfl
    · exact cB_one _ u hu
  obtain ⟨w1, hw1⟩ : ∃ w1, w1 = w.setCell ⟨B, 4, none⟩ (.int .i64 (l - 1)) := ⟨_, rfl⟩
  have hU1 := (Upd.refl hat).setCell (j := 4) (.int .i64 (l - 1))
  rw [← hw1] at hU1
  have hO1 : Only (fun k => k = B) w w1 := Only.ofUpd hU1 rfl
  have hrg : w1.rangeAt bb off (cB bs) := rangeAt_only (rangeAt_argB ha) hO1 hbB
  have hown1 := hO1.owns hown hvB
  have hs1 := hO1.size
  have hat1 := hU1.here
  obtain ⟨va, vc, hv⟩ : ∃ a c, v = .slice a ws.length c := by
    rcases hown.2 with ⟨e1, h2⟩ | ⟨g, c, cur, e1, _⟩
    · exact ⟨none, 0, by rw [e1, h2]⟩
    · exact ⟨_, c, e1⟩
  have hu : Tryd.prog.underlying 62 = some (.array 64 5) := Tryd.underlying62
  have hsi : (Tryd.prog.info? 62).map (·.size) = some (cB bs).length := by rw [cB_length, hbs]; kernel_rfl
  have hc2 : w1.cell? ⟨B, 2, none⟩ = some (.slice va ws.length vc) := by rw [cell_of_block hat1, ← hv]; rfl
  have hxs : wcellsW (ws ++ [(i, bs)]) = wcellsW ws ++ R.toList := by rw [hRd, hSd]; simp [wcellsW]
  rw [hv] at hown1 hvb hvB
  replace hown1 := Lib.hid hown1
  replace hat1 := Lib.hid hat1
  replace hO1 := Lib.hid hO1
  replace hU1 := Lib.hid hU1
  replace hw1 := Lib.hid hw1
  replace hSd := Lib.hid hSd
  replace hRd := Lib.hid hRd
  replace hxs := Lib.hid hxs
  replace hvb := Lib.hid hvb
  replace hvB := Lib.hid hvB
  replace hv := Lib.hid hv
  replace hsi := Lib.hid hsi
  replace hR1 := Lib.hid hR1
  have hSd0 : Hid (w1.drew.rangeAt bb off (cB bs)) := hrg
  have hownd : Hid (w1.drew.ownsRow base 64 65 (.slice va ws.length vc) ws.length (wcellsW ws)) := hown1
  have hatd : Hid (w1.drew.heap[B]? = some (.cells ((dcells n mb v armed l false).setIfInBounds 4 (.int .i64 (l - 1))) T (0, 0))) := hat1
  have hsd : w1.heap.size ≤ w1.drew.heap.size := Nat.le_refl _
  have hcd : w1.drew.cell? ⟨B, 2, none⟩ = some (.slice va ws.length vc) := hc2
  have hgw : Hid (Only (fun k => k = B) w w1.drew) := Lib.hid (hO1.out.drew)
  replace hrg := Lib.hid hrg
  clear hown ha c3 c4 c5 hat
  go_enter Tryd.func8, Tryd.ntmps8
  go_wp2_with fail
  with_reducible refine hth.out.mono ?_
  rintro x w2 ⟨rfl, hq⟩
  obtain rfl := hq
  clear hth
  go_wp2_with fail
  with_reducible refine hde.out.mono ?_
  rintro x w2 ⟨rfl, hq⟩
  obtain rfl : w1 = w2 := hw1.out.trans hq.symm
  clear hq hde hc hw1
  go_wp2_with fail
  refine wp_region_held_drew (S := (fun W' : World => W'.rangeAt bb off (cB bs))) (by kernel_rfl) hSd0.out (fun hOn => ?_)
  generalize World.drew w1 = wd at *
  refine wpAnyH_take (i := 0) (v := ?_) (by simp only [List.getElem?_toArray, List.getElem?_cons_zero]; rfl) (by kernel_rfl) (by kernel_rfl) (by kernel_rfl) (by exact fun _ _ _ h => h) (Or.inl ⟨by rfl, ?_⟩) hOn ?_
  rotate_left
  focus (intro W hSW; go_simp; try with_reducible rfl)
  try simp only [Act.put, List.setIfInBounds_toArray, List.set_cons_zero, List.set_cons_succ]
  refine wpAnyH_take (i := 1) (v := ?_) (by simp only [List.getElem?_toArray, List.getElem?_cons_succ, List.getElem?_cons_zero]; rfl) (by kernel_rfl) (by kernel_rfl) (by kernel_rfl) (by exact fun _ _ _ h => h) (Or.inl ⟨by rfl, ?_⟩) hOn ?_
  rotate_left
  focus (intro W hSW; go_simp; try with_reducible rfl)
  try simp only [Act.put, List.setIfInBounds_toArray, List.set_cons_zero, List.set_cons_succ]
  refine wpAnyH_take (i := 2) (v := ?_) (by simp only [List.getElem?_toArray, List.getElem?_cons_succ, List.getElem?_cons_zero]; rfl) (by kernel_rfl) (by kernel_rfl) (by kernel_rfl) (by exact fun _ _ _ h => h) (Or.inl ⟨by rfl, ?_⟩) hOn ?_
  rotate_left
  focus (intro W hSW; go_simp; try with_reducible rfl)
  try simp only [Act.put, List.setIfInBounds_toArray, List.set_cons_zero, List.set_cons_succ]
  refine wpAnyH_take (i := 3) (v := ?_) (by simp only [List.getElem?_toArray, List.getElem?_cons_succ, List.getElem?_cons_zero]; rfl) (by kernel_rfl) (by kernel_rfl) (by kernel_rfl) (by exact fun _ _ _ h => h) (Or.inl ⟨by rfl, ?_⟩) hOn ?_
  rotate_left
  focus (intro W hSW; go_simp; try with_reducible rfl)
  try simp only [Act.put, List.setIfInBounds_toArray, List.set_cons_zero, List.set_cons_succ]
  refine wpAnyH_take (i := 5) (v := ?_) (by simp only [List.getElem?_toArray, List.getElem?_cons_succ, List.getElem?_cons_zero]; rfl) (by kernel_rfl) (by kernel_rfl) (by kernel_rfl) (by exact fun _ _ _ h => h) (Or.inl ⟨by rfl, ?_⟩) hOn ?_
  rotate_left
  focus (intro W hSW; go_simp; try with_reducible rfl)
  try simp only [Act.put, List.setIfInBounds_toArray, List.set_cons_zero, List.set_cons_succ]
  refine wpAnyH_take (i := 6) (v := ?_) (by simp only [List.getElem?_toArray, List.getElem?_cons_succ, List.getElem?_cons_zero]; rfl) (by kernel_rfl) (by kernel_rfl) (by kernel_rfl) (by exact fun _ _ _ h => h) (Or.inl ⟨by rfl, ?_⟩) hOn ?_
  rotate_left
  focus (intro W hSW; go_simp; try with_reducible rfl)
  try simp only [Act.put, List.setIfInBounds_toArray, List.set_cons_zero, List.set_cons_succ]
  refine wpAnyH_ready (rs := [4, 7]) (by kernel_rfl) (by simp) ?_
  refine AllReadyH.cons (by simp only [List.getElem?_toArray, List.getElem?_cons_succ, List.getElem?_cons_zero]; rfl) (fun Kz hKz => ?_) ?_
  go_simp
  focus (try go_wp2_with fail)
  refine hKz.out _ _ (by first | exact hOn | exact Grown.alloc hOn _ | exact Below.alloc hOn (Below.size hOn) _ | exact Grown.alloc (Grown.refl _) _) (fun hNext => ?_)
  clear hKz Kz hOn
  have hOn := hNext
  clear hNext
  try simp only [Act.put, List.setIfInBounds_toArray, List.set_cons_zero, List.set_cons_succ]
  refine wpAnyH_ready (rs := [7]) (by kernel_rfl) (by simp) ?_
  refine AllReadyH.cons (by simp only [List.getElem?_toArray, List.getElem?_cons_succ, List.getElem?_cons_zero]; rfl) (fun Kz hKz => ?_) AllReadyH.nil
  go_simp
  focus (try go_wp2_with fail)
  refine hKz.out _ _ (by first | exact hOn | exact Grown.alloc hOn _ | exact Below.alloc hOn (Below.size hOn) _ | exact Grown.alloc (Grown.refl _) _) (fun hNext => ?_)
  clear hKz Kz hOn
  have hOn := hNext
  clear hNext
  try simp only [Act.put, List.setIfInBounds_toArray, List.set_cons_zero, List.set_cons_succ]
  refine wpAnyH_ready (rs := [8]) (by kernel_rfl) (by simp) ?_
  refine AllReadyH.cons (by simp only [List.getElem?_toArray, List.getElem?_cons_succ, List.getElem?_cons_zero]; rfl) (fun Kz hKz => ?_) AllReadyH.nil
  rw [if_pos (by rfl)]
  (refine wp_load_mid 62 (.tmp 31) rfl bb off rfl (cB bs) _ hOn hu rfl hsi.out ?_)
  have hS := hOn
  rw [← hSd.out]
  refine hKz.out _ _ (by first | exact hS | exact Below.trans hOn (Below.mono hnew (Below.size hOn))) (fun hNext => ?_)
  clear hKz Kz hOn
  have hOn := hNext
  clear hNext
  try clear hnew
  try clear hS
  try simp only [Act.put]
  refine wpAnyH_ready (rs := [9]) (by kernel_rfl) (by simp) ?_
  refine AllReadyH.cons (by simp only [List.getElem?_toArray, List.getElem?_cons_succ, List.getElem?_cons_zero]; rfl) (fun Kz hKz => ?_) AllReadyH.nil
  rw [if_pos (by rfl)]
  (refine wpK_build _ (.tmp 29) (.tmp 32) rfl (.int .i64 i) (.agg S) rfl rfl _ hbuild ?_)
  have hS := hOn
  refine hKz.out _ _ (by first | exact hS | exact Below.trans hOn (Below.mono hnew (Below.size hOn))) (fun hNext => ?_)
  clear hKz Kz hOn
  have hOn := hNext
  clear hNext
  try clear hnew
  try clear hS
  try simp only [Act.put]
  refine wpAnyH_ready (rs := [10]) (by kernel_rfl) (by simp) ?_
  refine AllReadyH.cons (by simp only [List.getElem?_toArray, List.getElem?_cons_succ, List.getElem?_cons_zero]; rfl) (fun Kz hKz => ?_) AllReadyH.nil
  rw [if_pos (by rfl)]
  (refine wpK_buildSlice _ _ (.tmp 33) rfl (.agg R) rfl _ _ (hslice _) ?_)
  (with_reducible refine made_step (t := 64) ?_)
  intro w5 hx5 hnew
  have hS := rangeAt_only hOn (Only.ofBelow (D := fun _ => False) hnew) (fun h => h)
  have hown5 := Lib.hid ((Only.ofBelow (D := fun _ => False) hnew).owns hownd.out (fun _ _ h => h))
  have hat5 := Lib.hid ((hnew.block B (by omega)).trans hatd.out)
  have hs5 := hnew.size
  have hO5 := Lib.hid (hgw.out.trans (Only.ofBelow (D := fun k => k = B) hnew) (fun _ _ h => h))
  have hcd5 : w5.cell? ⟨B, 2, none⟩ = some (.slice va ws.length vc) := (hnew.cell (p := ⟨B, 2, none⟩) (by show B < _; omega)).trans hcd
  refine hKz.out _ _ (by first | exact hS | exact Below.trans hOn (Below.mono hnew (Below.size hOn))) (fun hNext => ?_)
  clear hKz Kz hOn
  have hOn := hNext
  clear hNext
  try clear hnew
  try clear hS
  try simp only [Act.put]
  refine wpAnyH_ready (rs := [11]) (by kernel_rfl) (by simp) ?_
  refine AllReadyH.cons (by simp only [List.getElem?_toArray, List.getElem?_cons_succ, List.getElem?_cons_zero]; rfl) (fun Kz hKz => ?_) AllReadyH.nil
  rw [if_pos (by rfl)]
  (refine wpK_appW (.tmp 28) (.tmp 34) rfl base _ ws.length (wcellsW ws) rfl hown5 _ R hRs hR1.out rfl hx5 hws (by omega) ?_)
  intro v6 w6 ho6 hg6 hk6
  have hk6 := Lib.hid hk6
  have hS := rangeAt_only hOn (Only.ofGrown (D := fun k => (Value.slice va ws.length vc).ownBlock = some k) hg6.out (fun k hk => hk)) (fun h => hvb.out bb h rfl)
  have hat6 := Lib.hid ((hg6.out.block B (by omega) (fun e => hvB.out B e.symm rfl)).trans hat5.out)
  have hO6 := Lib.hid ((hO5.out.mono (E := fun k => k = B ∨ (Value.slice va ws.length vc).ownBlock = some k) (fun _ _ h => .inl h)).trans (Only.ofGrown (D := fun k => (Value.slice va ws.length vc).ownBlock = some k) hg6.out (fun k hk => hk)) (fun _ _ h => .inr h))
  have hcd6 : w6.cell? ⟨B, 2, none⟩ = some (.slice va ws.length vc) := (by rw [cell_of_block hat6.out, ← hv.out]; rfl)
  have hf6 : w6.frozen? ⟨B, 2, none⟩ = false := free_of_block hat6.out _
  obtain ⟨g6, c6, hv6⟩ : ∃ g c, v6 = .slice (some ⟨g, 0, none⟩) (ws.length + 1) c := (by rcases ho6.out.2 with ⟨_, h2⟩ | ⟨g, c, cur, e1, _⟩ <;> first | omega | exact ⟨g, c, e1⟩)
  subst hv6
  refine hKz.out _ _ (by first | exact hS | exact Below.trans hOn (Below.mono hnew (Below.size hOn))) (fun hNext => ?_)
  clear hKz Kz hOn
  have hOn := hNext
  clear hNext
  try clear hnew
  try clear hS
  try simp only [Act.put]
  refine wpAnyH_take (i := 12) (v := ?_) (by simp only [List.getElem?_toArray, List.getElem?_cons_succ, List.getElem?_cons_zero]; rfl) (by kernel_rfl) (by kernel_rfl) (by kernel_rfl) (by exact fun _ _ _ h => h) (Or.inl ⟨by rfl, ?_⟩) hOn ?_
  rotate_left
  focus (intro W hSW; go_simp; try with_reducible rfl)
  try simp only [Act.put, List.setIfInBounds_toArray, List.set_cons_zero, List.set_cons_succ]
  refine wpAnyH_take (i := 13) (v := ?_) (by simp only [List.getElem?_toArray, List.getElem?_cons_succ, List.getElem?_cons_zero]; rfl) (by kernel_rfl) (by kernel_rfl) (by kernel_rfl) (by exact fun _ _ _ h => h) (Or.inl ⟨by rfl, ?_⟩) hOn ?_
  rotate_left
  focus (intro W hSW; go_simp; try with_reducible rfl)
  try simp only [Act.put, List.setIfInBounds_toArray, List.set_cons_zero, List.set_cons_succ]
  refine wpAnyH_ready (rs := [14]) (by kernel_rfl) (by simp) ?_
  refine AllReadyH.cons (by simp only [List.getElem?_toArray, List.getElem?_cons_succ, List.getElem?_cons_zero]; rfl) (fun Kz hKz => ?_) AllReadyH.nil
  go_simp
  have hU7 := (Upd.refl hat6.out).setCell (j := 2) (.slice (some ⟨g6, 0, none⟩) (ws.length + 1) c6)
  have hS := rangeAt_only hOn (Only.ofUpd hU7 rfl : Only (fun k => k = B) _ _) hbB
  replace hU7 := Lib.hid hU7
  refine hKz.out _ _ (by first | exact hS | exact Below.trans hOn (Below.mono hnew (Below.size hOn))) (fun hNext => ?_)
  clear hKz Kz hOn
  have hOn := hNext
  clear hNext
  try clear hnew
  try clear hS
  try simp only [Act.put]
  refine wpAnyH_done (by kernel_rfl) ?_ _
  rotate_left
  refine AllReadyH.cons (by simp only [List.getElem?_toArray, List.getElem?_cons_succ, List.getElem?_cons_zero]; rfl) (fun Kz hKz => ?_) AllReadyH.nil
  go_simp
  focus (try go_wp2_with fail)
  refine hKz.out _ _ (by first | exact hOn | exact Grown.alloc hOn _ | exact Below.alloc hOn (Below.size hOn) _ | exact Grown.alloc (Grown.refl _) _) (fun hNext => ?_)
  clear hKz Kz hOn
  have hOn := hNext
  clear hNext
  try simp only [Act.put, List.setIfInBounds_toArray, List.set_cons_zero, List.set_cons_succ]
  refine wpAnyH_ready (rs := [4, 8]) (by kernel_rfl) (by simp) ?_
  refine AllReadyH.cons (by simp only [List.getElem?_toArray, List.getElem?_cons_succ, List.getElem?_cons_zero]; rfl) (fun Kz hKz => ?_) ?_
  go_simp
  focus (try go_wp2_with fail)
  refine hKz.out _ _ (by first | exact hOn | exact Grown.alloc hOn _ | exact Below.alloc hOn (Below.size hOn) _ | exact Grown.alloc (Grown.refl _) _) (fun hNext => ?_)
  clear hKz Kz hOn
  have hOn := hNext
  clear hNext
  try simp only [Act.put, List.setIfInBounds_toArray, List.set_cons_zero, List.set_cons_succ]
  refine wpAnyH_ready (rs := [8]) (by kernel_rfl) (by simp) ?_
  refine AllReadyH.cons (by simp only [List.getElem?_toArray, List.getElem?_cons_succ, List.getElem?_cons_zero]; rfl) (fun Kz hKz => ?_) AllReadyH.nil
  rw [if_pos (by rfl)]
  (refine wp_load_mid 62 (.tmp 31) rfl bb off rfl (cB bs) _ hOn hu rfl hsi.out ?_)
  have hS := hOn
  rw [← hSd.out]
  refine hKz.out _ _ (by first | exact hS | exact Below.trans hOn (Below.mono hnew (Below.size hOn))) (fun hNext => ?_)
  clear hKz Kz hOn
  have hOn := hNext
  clear hNext
  try clear hnew
  try clear hS
  try simp only [Act.put]
  refine wpAnyH_ready (rs := [9]) (by kernel_rfl) (by simp) ?_
  refine AllReadyH.cons (by simp only [List.getElem?_toArray, List.getElem?_cons_succ, List.getElem?_cons_zero]; rfl) (fun Kz hKz => ?_) AllReadyH.nil
  rw [if_pos (by rfl)]
  (refine wpK_build _ (.tmp 29) (.tmp 32) rfl (.int .i64 i) (.agg S) rfl rfl _ hbuild ?_)
  have hS := hOn
  refine hKz.out _ _ (by first | exact hS | exact Below.trans hOn (Below.mono hnew (Below.size hOn))) (fun hNext => ?_)
  clear hKz Kz hOn
  have hOn := hNext
  clear hNext
  try clear hnew
  try clear hS
  try simp only [Act.put]
  refine wpAnyH_ready (rs := [10]) (by kernel_rfl) (by simp) ?_
  refine AllReadyH.cons (by simp only [List.getElem?_toArray, List.getElem?_cons_succ, List.getElem?_cons_zero]; rfl) (fun Kz hKz => ?_) AllReadyH.nil
  rw [if_pos (by rfl)]
  (refine wpK_buildSlice _ _ (.tmp 33) rfl (.agg R) rfl _ _ (hslice _) ?_)
  (with_reducible refine made_step (t := 64) ?_)
  intro w5 hx5 hnew
  have hS := rangeAt_only hOn (Only.ofBelow (D := fun _ => False) hnew) (fun h => h)
  have hown5 := Lib.hid ((Only.ofBelow (D := fun _ => False) hnew).owns hownd.out (fun _ _ h => h))
  have hat5 := Lib.hid ((hnew.block B (by omega)).trans hatd.out)
  have hs5 := hnew.size
  have hO5 := Lib.hid (hgw.out.trans (Only.ofBelow (D := fun k => k = B) hnew) (fun _ _ h => h))
  have hcd5 : w5.cell? ⟨B, 2, none⟩ = some (.slice va ws.length vc) := (hnew.cell (p := ⟨B, 2, none⟩) (by show B < _; omega)).trans hcd
  refine hKz.out _ _ (by first | exact hS | exact Below.trans hOn (Below.mono hnew (Below.size hOn))) (fun hNext => ?_)
  clear hKz Kz hOn
  have hOn := hNext
  clear hNext
  try clear hnew
  try clear hS
  try simp only [Act.put]
  refine wpAnyH_ready (rs := [11]) (by kernel_rfl) (by simp) ?_
  refine AllReadyH.cons (by simp only [List.getElem?_toArray, List.getElem?_cons_succ, List.getElem?_cons_zero]; rfl) (fun Kz hKz => ?_) AllReadyH.nil
  rw [if_pos (by rfl)]
  (refine wpK_appW (.tmp 28) (.tmp 34) rfl base _ ws.length (wcellsW ws) rfl hown5 _ R hRs hR1.out rfl hx5 hws (by omega) ?_)
  intro v6 w6 ho6 hg6 hk6
  have hk6 := Lib.hid hk6
  have hS := rangeAt_only hOn (Only.ofGrown (D := fun k => (Value.slice va ws.length vc).ownBlock = some k) hg6.out (fun k hk => hk)) (fun h => hvb.out bb h rfl)
  have hat6 := Lib.hid ((hg6.out.block B (by omega) (fun e => hvB.out B e.symm rfl)).trans hat5.out)
  have hO6 := Lib.hid ((hO5.out.mono (E := fun k => k = B ∨ (Value.slice va ws.length vc).ownBlock = some k) (fun _ _ h => .inl h)).trans (Only.ofGrown (D := fun k => (Value.slice va ws.length vc).ownBlock = some k) hg6.out (fun k hk => hk)) (fun _ _ h => .inr h))
  have hcd6 : w6.cell? ⟨B, 2, none⟩ = some (.slice va ws.length vc) := (by rw [cell_of_block hat6.out, ← hv.out]; rfl)
  have hf6 : w6.frozen? ⟨B, 2, none⟩ = false := free_of_block hat6.out _
  obtain ⟨g6, c6, hv6⟩ : ∃ g c, v6 = .slice (some ⟨g, 0, none⟩) (ws.length + 1) c := (by rcases ho6.out.2 with ⟨_, h2⟩ | ⟨g, c, cur, e1, _⟩ <;> first | omega | exact ⟨g, c, e1⟩)
  subst hv6
  refine hKz.out _ _ (by first | exact hS | exact Below.trans hOn (Below.mono hnew (Below.size hOn))) (fun hNext => ?_)
  clear hKz Kz hOn
  have hOn := hNext
  clear hNext
  try clear hnew
  try clear hS
  try simp only [Act.put]
  refine wpAnyH_take (i := 12) (v := ?_) (by simp only [List.getElem?_toArray, List.getElem?_cons_succ, List.getElem?_cons_zero]; rfl) (by kernel_rfl) (by kernel_rfl) (by kernel_rfl) (by exact fun _ _ _ h => h) (Or.inl ⟨by rfl, ?_⟩) hOn ?_
  rotate_left
  focus (intro W hSW; go_simp; try with_reducible rfl)
  try simp only [Act.put, List.setIfInBounds_toArray, List.set_cons_zero, List.set_cons_succ]
  refine wpAnyH_take (i := 13) (v := ?_) (by simp only [List.getElem?_toArray, List.getElem?_cons_succ, List.getElem?_cons_zero]; rfl) (by kernel_rfl) (by kernel_rfl) (by kernel_rfl) (by exact fun _ _ _ h => h) (Or.inl ⟨by rfl, ?_⟩) hOn ?_
  rotate_left
  focus (intro W hSW; go_simp; try with_reducible rfl)
  try simp only [Act.put, List.setIfInBounds_toArray, List.set_cons_zero, List.set_cons_succ]
  refine wpAnyH_ready (rs := [14]) (by kernel_rfl) (by simp) ?_
  refine AllReadyH.cons (by simp only [List.getElem?_toArray, List.getElem?_cons_succ, List.getElem?_cons_zero]; rfl) (fun Kz hKz => ?_) AllReadyH.nil
  go_simp
  have hU7 := (Upd.refl hat6.out).setCell (j := 2) (.slice (some ⟨g6, 0, none⟩) (ws.length + 1) c6)
  have hS := rangeAt_only hOn (Only.ofUpd hU7 rfl : Only (fun k => k = B) _ _) hbB
  replace hU7 := Lib.hid hU7
  refine hKz.out _ _ (by first | exact hS | exact Below.trans hOn (Below.mono hnew (Below.size hOn))) (fun hNext => ?_)
  clear hKz Kz hOn
  have hOn := hNext
  clear hNext
  try clear hnew
  try clear hS
  try simp only [Act.put]
  refine wpAnyH_done (by kernel_rfl) ?_ _
  rotate_left
  refine AllReadyH.cons (by simp only [List.getElem?_toArray, List.getElem?_cons_succ, List.getElem?_cons_zero]; rfl) (fun Kz hKz => ?_) AllReadyH.nil
  rw [if_pos (by rfl)]
  (refine wp_load_mid 62 (.tmp 31) rfl bb off rfl (cB bs) _ hOn hu rfl hsi.out ?_)
  have hS := hOn
  rw [← hSd.out]
  refine hKz.out _ _ (by first | exact hS | exact Below.trans hOn (Below.mono hnew (Below.size hOn))) (fun hNext => ?_)
  clear hKz Kz hOn
  have hOn := hNext
  clear hNext
  try clear hnew
  try clear hS
  try simp only [Act.put]
  refine wpAnyH_ready (rs := [4, 9]) (by kernel_rfl) (by simp) ?_
  refine AllReadyH.cons (by simp only [List.getElem?_toArray, List.getElem?_cons_succ, List.getElem?_cons_zero]; rfl) (fun Kz hKz => ?_) ?_
  go_simp
  focus (try go_wp2_with fail)
  refine hKz.out _ _ (by first | exact hOn | exact Grown.alloc hOn _ | exact Below.alloc hOn (Below.size hOn) _ | exact Grown.alloc (Grown.refl _) _) (fun hNext => ?_)
  clear hKz Kz hOn
  have hOn := hNext
  clear hNext
  try simp only [Act.put, List.setIfInBounds_toArray, List.set_cons_zero, List.set_cons_succ]
  refine wpAnyH_ready (rs := [9]) (by kernel_rfl) (by simp) ?_
  refine AllReadyH.cons (by simp only [List.getElem?_toArray, List.getElem?_cons_succ, List.getElem?_cons_zero]; rfl) (fun Kz hKz => ?_) AllReadyH.nil
  rw [if_pos (by rfl)]
  (refine wpK_build _ (.tmp 29) (.tmp 32) rfl (.int .i64 i) (.agg S) rfl rfl _ hbuild ?_)
  have hS := hOn
  refine hKz.out _ _ (by first | exact hS | exact Below.trans hOn (Below.mono hnew (Below.size hOn))) (fun hNext => ?_)
  clear hKz Kz hOn
  have hOn := hNext
  clear hNext
  try clear hnew
  try clear hS
  try simp only [Act.put]
  refine wpAnyH_ready (rs := [10]) (by kernel_rfl) (by simp) ?_
  refine AllReadyH.cons (by simp only [List.getElem?_toArray, List.getElem?_cons_succ, List.getElem?_cons_zero]; rfl) (fun Kz hKz => ?_) AllReadyH.nil
  rw [if_pos (by rfl)]
  (refine wpK_buildSlice _ _ (.tmp 33) rfl (.agg R) rfl _ _ (hslice _) ?_)
  (with_reducible refine made_step (t := 64) ?_)
  intro w5 hx5 hnew
  have hS := rangeAt_only hOn (Only.ofBelow (D := fun _ => False) hnew) (fun h => h)
  have hown5 := Lib.hid ((Only.ofBelow (D := fun _ => False) hnew).owns hownd.out (fun _ _ h => h))
  have hat5 := Lib.hid ((hnew.block B (by omega)).trans hatd.out)
  have hs5 := hnew.size
  have hO5 := Lib.hid (hgw.out.trans (Only.ofBelow (D := fun k => k = B) hnew) (fun _ _ h => h))
  have hcd5 : w5.cell? ⟨B, 2, none⟩ = some (.slice va ws.length vc) := (hnew.cell (p := ⟨B, 2, none⟩) (by show B < _; omega)).trans hcd
  refine hKz.out _ _ (by first | exact hS | exact Below.trans hOn (Below.mono hnew (Below.size hOn))) (fun hNext => ?_)
  clear hKz Kz hOn
  have hOn := hNext
  clear hNext
  try clear hnew
  try clear hS
  try simp only [Act.put]
  refine wpAnyH_ready (rs := [11]) (by kernel_rfl) (by simp) ?_
  refine AllReadyH.cons (by simp only [List.getElem?_toArray, List.getElem?_cons_succ, List.getElem?_cons_zero]; rfl) (fun Kz hKz => ?_) AllReadyH.nil
  rw [if_pos (by rfl)]
  (refine wpK_appW (.tmp 28) (.tmp 34) rfl base _ ws.length (wcellsW ws) rfl hown5 _ R hRs hR1.out rfl hx5 hws (by omega) ?_)
  intro v6 w6 ho6 hg6 hk6
  have hk6 := Lib.hid hk6
  have hS := rangeAt_only hOn (Only.ofGrown (D := fun k => (Value.slice va ws.length vc).ownBlock = some k) hg6.out (fun k hk => hk)) (fun h => hvb.out bb h rfl)
  have hat6 := Lib.hid ((hg6.out.block B (by omega) (fun e => hvB.out B e.symm rfl)).trans hat5.out)
  have hO6 := Lib.hid ((hO5.out.mono (E := fun k => k = B ∨ (Value.slice va ws.length vc).ownBlock = some k) (fun _ _ h => .inl h)).trans (Only.ofGrown (D := fun k => (Value.slice va ws.length vc).ownBlock = some k) hg6.out (fun k hk => hk)) (fun _ _ h => .inr h))
  have hcd6 : w6.cell? ⟨B, 2, none⟩ = some (.slice va ws.length vc) := (by rw [cell_of_block hat6.out, ← hv.out]; rfl)
  have hf6 : w6.frozen? ⟨B, 2, none⟩ = false := free_of_block hat6.out _
  obtain ⟨g6, c6, hv6⟩ : ∃ g c, v6 = .slice (some ⟨g, 0, none⟩) (ws.length + 1) c := (by rcases ho6.out.2 with ⟨_, h2⟩ | ⟨g, c, cur, e1, _⟩ <;> first | omega | exact ⟨g, c, e1⟩)
  subst hv6
  refine hKz.out _ _ (by first | exact hS | exact Below.trans hOn (Below.mono hnew (Below.size hOn))) (fun hNext => ?_)
  clear hKz Kz hOn
  have hOn := hNext
  clear hNext
  try clear hnew
  try clear hS
  try simp only [Act.put]
  refine wpAnyH_take (i := 12) (v := ?_) (by simp only [List.getElem?_toArray, List.getElem?_cons_succ, List.getElem?_cons_zero]; rfl) (by kernel_rfl) (by kernel_rfl) (by kernel_rfl) (by exact fun _ _ _ h => h) (Or.inl ⟨by rfl, ?_⟩) hOn ?_
  rotate_left
  focus (intro W hSW; go_simp; try with_reducible rfl)
  try simp only [Act.put, List.setIfInBounds_toArray, List.set_cons_zero, List.set_cons_succ]
  refine wpAnyH_take (i := 13) (v := ?_) (by simp only [List.getElem?_toArray, List.getElem?_cons_succ, List.getElem?_cons_zero]; rfl) (by kernel_rfl) (by kernel_rfl) (by kernel_rfl) (by exact fun _ _ _ h => h) (Or.inl ⟨by rfl, ?_⟩) hOn ?_
  rotate_left
  focus (intro W hSW; go_simp; try with_reducible rfl)
  try simp only [Act.put, List.setIfInBounds_toArray, List.set_cons_zero, List.set_cons_succ]
  refine wpAnyH_ready (rs := [14]) (by kernel_rfl) (by simp) ?_
  refine AllReadyH.cons (by simp only [List.getElem?_toArray, List.getElem?_cons_succ, List.getElem?_cons_zero]; rfl) (fun Kz hKz => ?_) AllReadyH.nil
  go_simp
  have hU7 := (Upd.refl hat6.out).setCell (j := 2) (.slice (some ⟨g6, 0, none⟩) (ws.length + 1) c6)
  have hS := rangeAt_only hOn (Only.ofUpd hU7 rfl : Only (fun k => k = B) _ _) hbB
  replace hU7 := Lib.hid hU7
  refine hKz.out _ _ (by first | exact hS | exact Below.trans hOn (Below.mono hnew (Below.size hOn))) (fun hNext => ?_)
  clear hKz Kz hOn
  have hOn := hNext
  clear hNext
  try clear hnew
  try clear hS
  try simp only [Act.put]
  refine wpAnyH_done (by kernel_rfl) ?_ _
  rotate_left
  refine AllReadyH.cons (by simp only [List.getElem?_toArray, List.getElem?_cons_succ, List.getElem?_cons_zero]; rfl) (fun Kz hKz => ?_) AllReadyH.nil
  rw [if_pos (by rfl)]
  (refine wpK_build _ (.tmp 29) (.tmp 32) rfl (.int .i64 i) (.agg S) rfl rfl _ hbuild ?_)
  have hS := hOn
  refine hKz.out _ _ (by first | exact hS | exact Below.trans hOn (Below.mono hnew (Below.size hOn))) (fun hNext => ?_)
  clear hKz Kz hOn
  have hOn := hNext
  clear hNext
  try clear hnew
  try clear hS
  try simp only [Act.put]
  refine wpAnyH_ready (rs := [4, 10]) (by kernel_rfl) (by simp) ?_
  refine AllReadyH.cons (by simp only [List.getElem?_toArray, List.getElem?_cons_succ, List.getElem?_cons_zero]; rfl) (fun Kz hKz => ?_) ?_
  go_simp
  focus (try go_wp2_with fail)
  refine hKz.out _ _ (by first | exact hOn | exact Grown.alloc hOn _ | exact Below.alloc hOn (Below.size hOn) _ | exact Grown.alloc (Grown.refl _) _) (fun hNext => ?_)
  clear hKz Kz hOn
  have hOn := hNext
  clear hNext
  try simp only [Act.put, List.setIfInBounds_toArray, List.set_cons_zero, List.set_cons_succ]
  refine wpAnyH_ready (rs := [10]) (by kernel_rfl) (by simp) ?_
  refine AllReadyH.cons (by simp only [List.getElem?_toArray, List.getElem?_cons_succ, List.getElem?_cons_zero]; rfl) (fun Kz hKz => ?_) AllReadyH.nil
  rw [if_pos (by rfl)]
  (refine wpK_buildSlice _ _ (.tmp 33) rfl (.agg R) rfl _ _ (hslice _) ?_)
  (with_reducible refine made_step (t := 64) ?_)
  intro w5 hx5 hnew
  have hS := rangeAt_only hOn (Only.ofBelow (D := fun _ => False) hnew) (fun h => h)
  have hown5 := Lib.hid ((Only.ofBelow (D := fun _ => False) hnew).owns hownd.out (fun _ _ h => h))
  have hat5 := Lib.hid ((hnew.block B (by omega)).trans hatd.out)
  have hs5 := hnew.size
  have hO5 := Lib.hid (hgw.out.trans (Only.ofBelow (D := fun k => k = B) hnew) (fun _ _ h => h))
  have hcd5 : w5.cell? ⟨B, 2, none⟩ = some (.slice va ws.length vc) := (hnew.cell (p := ⟨B, 2, none⟩) (by show B < _; omega)).trans hcd
  refine hKz.out _ _ (by first | exact hS | exact Below.trans hOn (Below.mono hnew (Below.size hOn))) (fun hNext => ?_)
  clear hKz Kz hOn
  have hOn := hNext
  clear hNext
  try clear hnew
  try clear hS
  try simp only [Act.put]
  refine wpAnyH_ready (rs := [11]) (by kernel_rfl) (by simp) ?_
  refine AllReadyH.cons (by simp only [List.getElem?_toArray, List.getElem?_cons_succ, List.getElem?_cons_zero]; rfl) (fun Kz hKz => ?_) AllReadyH.nil
  rw [if_pos (by rfl)]
  (refine wpK_appW (.tmp 28) (.tmp 34) rfl base _ ws.length (wcellsW ws) rfl hown5 _ R hRs hR1.out rfl hx5 hws (by omega) ?_)
  intro v6 w6 ho6 hg6 hk6
  have hk6 := Lib.hid hk6
  have hS := rangeAt_only hOn (Only.ofGrown (D := fun k => (Value.slice va ws.length vc).ownBlock = some k) hg6.out (fun k hk => hk)) (fun h => hvb.out bb h rfl)
  have hat6 := Lib.hid ((hg6.out.block B (by omega) (fun e => hvB.out B e.symm rfl)).trans hat5.out)
  have hO6 := Lib.hid ((hO5.out.mono (E := fun k => k = B ∨ (Value.slice va ws.length vc).ownBlock = some k) (fun _ _ h => .inl h)).trans (Only.ofGrown (D := fun k => (Value.slice va ws.length vc).ownBlock = some k) hg6.out (fun k hk => hk)) (fun _ _ h => .inr h))
  have hcd6 : w6.cell? ⟨B, 2, none⟩ = some (.slice va ws.length vc) := (by rw [cell_of_block hat6.out, ← hv.out]; rfl)
  have hf6 : w6.frozen? ⟨B, 2, none⟩ = false := free_of_block hat6.out _
  obtain ⟨g6, c6, hv6⟩ : ∃ g c, v6 = .slice (some ⟨g, 0, none⟩) (ws.length + 1) c := (by rcases ho6.out.2 with ⟨_, h2⟩ | ⟨g, c, cur, e1, _⟩ <;> first | omega | exact ⟨g, c, e1⟩)
  subst hv6
  refine hKz.out _ _ (by first | exact hS | exact Below.trans hOn (Below.mono hnew (Below.size hOn))) (fun hNext => ?_)
  clear hKz Kz hOn
  have hOn := hNext
  clear hNext
  try clear hnew
  try clear hS
  try simp only [Act.put]
  refine wpAnyH_take (i := 12) (v := ?_) (by simp only [List.getElem?_toArray, List.getElem?_cons_succ, List.getElem?_cons_zero]; rfl) (by kernel_rfl) (by kernel_rfl) (by kernel_rfl) (by exact fun _ _ _ h => h) (Or.inl ⟨by rfl, ?_⟩) hOn ?_
  rotate_left
  focus (intro W hSW; go_simp; try with_reducible rfl)
  try simp only [Act.put, List.setIfInBounds_toArray, List.set_cons_zero, List.set_cons_succ]
  refine wpAnyH_take (i := 13) (v := ?_) (by simp only [List.getElem?_toArray, List.getElem?_cons_succ, List.getElem?_cons_zero]; rfl) (by kernel_rfl) (by kernel_rfl) (by kernel_rfl) (by exact fun _ _ _ h => h) (Or.inl ⟨by rfl, ?_⟩) hOn ?_
  rotate_left
  focus (intro W hSW; go_simp; try with_reducible rfl)
  try simp only [Act.put, List.setIfInBounds_toArray, List.set_cons_zero, List.set_cons_succ]
  refine wpAnyH_ready (rs := [14]) (by kernel_rfl) (by simp) ?_
  refine AllReadyH.cons (by simp only [List.getElem?_toArray, List.getElem?_cons_succ, List.getElem?_cons_zero]; rfl) (fun Kz hKz => ?_) AllReadyH.nil
  go_simp
  have hU7 := (Upd.refl hat6.out).setCell (j := 2) (.slice (some ⟨g6, 0, none⟩) (ws.length + 1) c6)
  have hS := rangeAt_only hOn (Only.ofUpd hU7 rfl : Only (fun k => k = B) _ _) hbB
  replace hU7 := Lib.hid hU7
  refine hKz.out _ _ (by first | exact hS | exact Below.trans hOn (Below.mono hnew (Below.size hOn))) (fun hNext => ?_)
  clear hKz Kz hOn
  have hOn := hNext
  clear hNext
  try clear hnew
  try clear hS
  try simp only [Act.put]
  refine wpAnyH_done (by kernel_rfl) ?_ _
  rotate_left
  refine AllReadyH.cons (by simp only [List.getElem?_toArray, List.getElem?_cons_succ, List.getElem?_cons_zero]; rfl) (fun Kz hKz => ?_) AllReadyH.nil
  rw [if_pos (by rfl)]
  (refine wpK_buildSlice _ _ (.tmp 33) rfl (.agg R) rfl _ _ (hslice _) ?_)
  (with_reducible refine made_step (t := 64) ?_)
  intro w5 hx5 hnew
  have hS := rangeAt_only hOn (Only.ofBelow (D := fun _ => False) hnew) (fun h => h)
  have hown5 := Lib.hid ((Only.ofBelow (D := fun _ => False) hnew).owns hownd.out (fun _ _ h => h))
  have hat5 := Lib.hid ((hnew.block B (by omega)).trans hatd.out)
  have hs5 := hnew.size
  have hO5 := Lib.hid (hgw.out.trans (Only.ofBelow (D := fun k => k = B) hnew) (fun _ _ h => h))
  have hcd5 : w5.cell? ⟨B, 2, none⟩ = some (.slice va ws.length vc) := (hnew.cell (p := ⟨B, 2, none⟩) (by show B < _; omega)).trans hcd
  refine hKz.out _ _ (by first | exact hS | exact Below.trans hOn (Below.mono hnew (Below.size hOn))) (fun hNext => ?_)
  clear hKz Kz hOn
  have hOn := hNext
  clear hNext
  try clear hnew
  try clear hS
  try simp only [Act.put]
  refine wpAnyH_ready (rs := [4]) (by kernel_rfl) (by simp) ?_
  refine AllReadyH.cons (by simp only [List.getElem?_toArray, List.getElem?_cons_succ, List.getElem?_cons_zero]; rfl) (fun Kz hKz => ?_) AllReadyH.nil
  go_simp
  focus (try go_wp2_with fail)
  refine hKz.out _ _ (by first | exact hOn | exact Grown.alloc hOn _ | exact Below.alloc hOn (Below.size hOn) _ | exact Grown.alloc (Grown.refl _) _) (fun hNext => ?_)
  clear hKz Kz hOn
  have hOn := hNext
  clear hNext
  try simp only [Act.put, List.setIfInBounds_toArray, List.set_cons_zero, List.set_cons_succ]
  refine wpAnyH_ready (rs := [11]) (by kernel_rfl) (by simp) ?_
  refine AllReadyH.cons (by simp only [List.getElem?_toArray, List.getElem?_cons_succ, List.getElem?_cons_zero]; rfl) (fun Kz hKz => ?_) AllReadyH.nil
  rw [if_pos (by rfl)]
  (refine wpK_appW (.tmp 28) (.tmp 34) rfl base _ ws.length (wcellsW ws) rfl hown5 _ R hRs hR1.out rfl hx5 hws (by omega) ?_)
  intro v6 w6 ho6 hg6 hk6
  have hk6 := Lib.hid hk6
  have hS := rangeAt_only hOn (Only.ofGrown (D := fun k => (Value.slice va ws.length vc).ownBlock = some k) hg6.out (fun k hk => hk)) (fun h => hvb.out bb h rfl)
  have hat6 := Lib.hid ((hg6.out.block B (by omega) (fun e => hvB.out B e.symm rfl)).trans hat5.out)
  have hO6 := Lib.hid ((hO5.out.mono (E := fun k => k = B ∨ (Value.slice va ws.length vc).ownBlock = some k) (fun _ _ h => .inl h)).trans (Only.ofGrown (D := fun k => (Value.slice va ws.length vc).ownBlock = some k) hg6.out (fun k hk => hk)) (fun _ _ h => .inr h))
  have hcd6 : w6.cell? ⟨B, 2, none⟩ = some (.slice va ws.length vc) := (by rw [cell_of_block hat6.out, ← hv.out]; rfl)
  have hf6 : w6.frozen? ⟨B, 2, none⟩ = false := free_of_block hat6.out _
  obtain ⟨g6, c6, hv6⟩ : ∃ g c, v6 = .slice (some ⟨g, 0, none⟩) (ws.length + 1) c := (by rcases ho6.out.2 with ⟨_, h2⟩ | ⟨g, c, cur, e1, _⟩ <;> first | omega | exact ⟨g, c, e1⟩)
  subst hv6
  refine hKz.out _ _ (by first | exact hS | exact Below.trans hOn (Below.mono hnew (Below.size hOn))) (fun hNext => ?_)
  clear hKz Kz hOn
  have hOn := hNext
  clear hNext
  try clear hnew
  try clear hS
  try simp only [Act.put]
  refine wpAnyH_take (i := 12) (v := ?_) (by simp only [List.getElem?_toArray, List.getElem?_cons_succ, List.getElem?_cons_zero]; rfl) (by kernel_rfl) (by kernel_rfl) (by kernel_rfl) (by exact fun _ _ _ h => h) (Or.inl ⟨by rfl, ?_⟩) hOn ?_
  rotate_left
  focus (intro W hSW; go_simp; try with_reducible rfl)
  try simp only [Act.put, List.setIfInBounds_toArray, List.set_cons_zero, List.set_cons_succ]
  refine wpAnyH_take (i := 13) (v := ?_) (by simp only [List.getElem?_toArray, List.getElem?_cons_succ, List.getElem?_cons_zero]; rfl) (by kernel_rfl) (by kernel_rfl) (by kernel_rfl) (by exact fun _ _ _ h => h) (Or.inl ⟨by rfl, ?_⟩) hOn ?_
  rotate_left
  focus (intro W hSW; go_simp; try with_reducible rfl)
  try simp only [Act.put, List.setIfInBounds_toArray, List.set_cons_zero, List.set_cons_succ]
  refine wpAnyH_ready (rs := [14]) (by kernel_rfl) (by simp) ?_
  refine AllReadyH.cons (by simp only [List.getElem?_toArray, List.getElem?_cons_succ, List.getElem?_cons_zero]; rfl) (fun Kz hKz => ?_) AllReadyH.nil
  go_simp
  have hU7 := (Upd.refl hat6.out).setCell (j := 2) (.slice (some ⟨g6, 0, none⟩) (ws.length + 1) c6)
  have hS := rangeAt_only hOn (Only.ofUpd hU7 rfl : Only (fun k => k = B) _ _) hbB
  replace hU7 := Lib.hid hU7
  refine hKz.out _ _ (by first | exact hS | exact Below.trans hOn (Below.mono hnew (Below.size hOn))) (fun hNext => ?_)
  clear hKz Kz hOn
  have hOn := hNext
  clear hNext
  try clear hnew
  try clear hS
  try simp only [Act.put]
  refine wpAnyH_done (by kernel_rfl) ?_ _
  all_goals
    go_wp2_with fail
    go_ret
    refine ⟨rfl, _, hU7.out.here, ?_, ?_, ?_⟩
    · rw [hxs.out]
      exact (Only.ofUpd hU7.out rfl : Only (fun k => k = B) _ _).owns ho6.out (fun k hk e => by
        subst e
        rcases hk6.out with h | h
        · exact hvB.out k (h.symm.trans hk) rfl
        · rw [hk] at h; injection h with h; omega)
    · rw [hv.out]
      exact hO6.out.trans (Only.ofUpd hU7.out rfl : Only (fun k => k = B) _ _) (fun _ _ h => .inl h)
    · intro k hk
      rw [hv.out]
      rcases hk6.out with h | h
      · exact .inl (h.symm.trans hk)
      · rw [hk] at h; injection h with h; exact .inr (by omega)
end Go.Proofs.YtdgilgnaoifpcaaDoor
