/- The map of sectors, a copy of bytes: as steps of a region that draws. -/
import Derived.Test.YtdgilgnaoifpcaaDoorAppW
import Derived.Laws.CopyRow
namespace Go.Proofs.YtdgilgnaoifpcaaDoor
open Go.RowKit Go.Maps
section
variable {ops : Array Oper} {K : Act → World → Prop} {Q : Exit → Act → World → Prop} {o : Oper} {a : Act} {w : World}
theorem wpK_look (m x : Operand) (hop : o.op = Op.lookup 56 m x false) (b n : Nat) (f : Int → List UInt8) (hm : a.eval m = .map (some b)) (h : Hid (SureMap w b n f))
    (i : Int) (hx : a.eval x = .int .i64 i) (h1 : -9223372036854775808 ≤ i) (h2 : i ≤ 9223372036854775807) (hK : K (a.put o.dst (secV (f i))) w) : o.wp Tryd.prog a w K Q := by
  obtain ⟨D, ho, hD, hl, hat⟩ := h.out
  obtain ⟨v, ps, hrun, hv⟩ := ho.lookup (int_keyed Tryd.underlying3) Tryd.underlying56 (zero_sector w) (secR_mk (by simp [zero64])) (key_int h1 h2)
  rw [hat i h1 h2] at hv
  obtain ⟨rfl, _⟩ := secR_inv hv
  unfold Oper.wp
  simp [execOp, hop, hm, hx, hrun, Result.andThen]
  exact hK
theorem yields_look (m x : Operand) (hop : o.op = Op.lookup 56 m x false) (b n : Nat) (f : Int → List UInt8) (hm : a.eval m = .map (some b)) (h : SureMap w b n f)
    (i : Int) (hx : a.eval x = .int .i64 i) (h1 : -9223372036854775808 ≤ i) (h2 : i ≤ 9223372036854775807) : (execOp a.eval o).run Tryd.prog w = .ok (.value (secV (f i))) w := by
  obtain ⟨D, ho, hD, hl, hat⟩ := h
  obtain ⟨v, ps, hrun, hv⟩ := ho.lookup (int_keyed Tryd.underlying3) Tryd.underlying56 (zero_sector w) (secR_mk (by simp [zero64])) (key_int h1 h2)
  rw [hat i h1 h2] at hv
  obtain ⟨rfl, _⟩ := secR_inv hv
  simp [execOp, hop, hm, hx, hrun, Result.andThen]
theorem wpK_put (m x v : Operand) (hop : o.op = Op.mapUpdate 56 m x v) (b n : Nat) (f : Int → List UInt8) (hm : a.eval m = .map (some b)) (h : Hid (SureMap w b n f)) (hn : n < maxLen)
    (i : Int) (hx : a.eval x = .int .i64 i) (h1 : -9223372036854775808 ≤ i) (h2 : i ≤ 9223372036854775807) (bs : List UInt8) (hv : a.eval v = secV bs) (hl : bs.length = 64)
    (hK : ∀ w', Hid (SureMap w' b (n + 1) (fun j => if j = i then bs else f j)) → Hid (w.grownBy w' (some b)) → K (a.put o.dst undef) w') : o.wp Tryd.prog a w K Q := by
  obtain ⟨D, ho, hD, hfl, hat⟩ := h.out
  obtain ⟨w', hrun, k1, k2⟩ := ho.update (int_keyed Tryd.underlying3) Tryd.underlying56 hn (key_int h1 h2) (secR_mk hl)
  unfold Oper.wp
  simp [execOp, hop, hm, hx, hv, hrun, Result.andThen]
  refine hK w' (Lib.hid ⟨_, k1, hD.put _ _, fun j => ?_, fun j j1 j2 => ?_⟩) (Lib.hid k2)
  · show (if j = i then bs else f j).length = 64
    split
    · exact hl
    · exact hfl j
  · show (D.put (.int .i64 i) (.lit (.string bs))).atKey (.int .i64 j) (.lit (.string zero64)) = .lit (.string (if j = i then bs else f j))
    by_cases hji : j = i
    · subst hji
      rw [if_pos rfl]
      exact atKey_put_same hD (by simp [WideAt.IsKeyLit]) _ _
    · rw [if_neg hji, atKey_put_other (by simpa using hji)]
      exact hat j j1 j2
theorem wpK_copy (d s : Operand) (ho : o.op = .call { callee := .builtin .copy, args := #[d, s], argTypes := #[36, 36] })
    (g dLen dCap : Nat) (p : Addr) (sLen sCap : Nat) (cur : Array Value) (t : TypeId) (cs : List Value) (hd : a.eval d = .slice (some ⟨g, 0, none⟩) dLen dCap) (hs : a.eval s = .slice (some p) sLen sCap)
    (hg : Hid (w.heap[g]? = some (.cells cur t (0, 0)))) (hn : cs.length = Nat.min sLen dLen) (hsrc : ∀ j v, cs[j]? = some v → w.cell? (p.add j) = some v) (hfit : cs.length ≤ cur.size) (h1 : ∀ v ∈ cs, v.oneCell' = true)
    (hK : ∀ w', Hid (Upd g (.cells (cs ++ cur.toList.drop cs.length).toArray t (0, 0)) w w') → K (a.put o.dst (goInt cs.length)) w') : o.wp Tryd.prog a w K Q := by
  have hu : Tryd.prog.underlying 36 = some (.slice 5) := Tryd.underlying36
  have hsz : (Tryd.prog.info? 5).map (·.size) = some 1 := by kernel_rfl
  have hr := fun ty => run_copy_row (P := Tryd.prog) w 36 36 ty 5 g 0 dLen dCap p sLen sCap cur t cs hu hsz hg.out hn hsrc (by omega) h1
  have hU := Upd.setRow (cs := (cur.toList.take 0 ++ cs ++ cur.toList.drop (0 + cs.length)).toArray) hg.out
  unfold Oper.wp execOp
  simp only [ho, resolve, invoke, builtin, Sem.run_bind, Sem.run_pure, Result.andThen_ok, List.map_toArray, List.map_cons, List.map_nil, hd, hs, hr]
  refine hK _ (Lib.hid ?_)
  simpa using hU
end
end Go.Proofs.YtdgilgnaoifpcaaDoor
