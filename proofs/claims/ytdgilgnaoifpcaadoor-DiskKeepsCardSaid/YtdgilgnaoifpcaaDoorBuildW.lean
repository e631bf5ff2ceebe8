/- A write is built of its place and of its sector, whatever bytes. -/
import Derived.Test.YtdgilgnaoifpcaaDoorDisk2
import Derived.Laws.Tables
namespace Go.Proofs.YtdgilgnaoifpcaaDoor
open Go.RowKit

theorem foldl_get (cs : List Value) (off : Nat) : ∀ (n : Nat) (b : Array Value) (k : Nat), ((cs.zipIdx n).foldl (fun acc x => acc.setIfInBounds (off + x.2) x.1) b)[k]? = if off + n ≤ k ∧ k < off + n + cs.length ∧ k < b.size then cs[k - (off + n)]? else b[k]? := by
  induction cs with
  | nil => intro n b k; rw [if_neg (by simp; omega)]; rfl
  | cons c cs ih =>
    intro n b k
    rw [List.zipIdx_cons, List.foldl_cons, ih (n + 1) _ k, Array.size_setIfInBounds, Array.getElem?_setIfInBounds]
    simp only [List.length_cons]
    by_cases h2 : off + (n + 1) ≤ k ∧ k < off + (n + 1) + cs.length ∧ k < b.size
    · rw [if_pos h2, if_pos (by omega), show k - (off + n) = (k - (off + (n + 1))) + 1 by omega, List.getElem?_cons_succ]
    · rw [if_neg h2]
      by_cases h1 : off + n = k
      · subst h1
        rw [if_pos rfl]
        by_cases h3 : off + n < b.size
        · rw [if_pos h3, if_pos ⟨Nat.le_refl _, by omega, h3⟩, Nat.sub_self]; rfl
        · rw [if_neg h3, if_neg (by omega), Array.getElem?_eq_none (by omega)]
      · rw [if_neg h1, if_neg (by omega)]

set_option maxRecDepth 100000 in
theorem build_write (i : Int) (S : Array Value) (hS : S.size = 64) (W : World) : (Instr.build 64 #[(0, .int .i64 i), (1, .agg S)]).run Tryd.prog W = .ok (.agg (#[.int .i64 i] ++ S)) W := by
  refine run_build W _ _ _ ?_
  obtain ⟨Z, hZ⟩ : ∃ Z : Array Value, Z = (cB (0 :: zero64)).toArray.setIfInBounds 0 (.int .i64 0) := ⟨_, rfl⟩
  have hb : ∀ parts, Tryd.prog.built 64 parts = Instr.fill (fun i => (#[(0, 1), (1, 64)] : Array (Nat × Nat))[i]?) ((cB (0 :: zero64)).toArray.setIfInBounds 0 (.int .i64 0)) parts := fun parts => by kernel_rfl
  rw [hb, ← hZ]
  have hZs : Z.size = 65 := by rw [hZ]; rfl
  clear hZ hb
  simp only [Instr.fill, Value.cells, List.size_toArray, List.length_cons, List.length_nil]
  have e0 : Array.foldl (fun cs x => cs.setIfInBounds (0 + x.snd) x.fst) Z #[Value.int IntKind.i64 i].zipIdx = Z.setIfInBounds 0 (.int .i64 i) := by simp [Array.zipIdx]
  show (if (decide (0 + 1 ≠ 1) || decide (0 + (0 + 1) > Z.size)) = true then none else if (decide (S.size ≠ 64) || decide (1 + S.size > (Array.foldl (fun cs x => cs.setIfInBounds (0 + x.snd) x.fst) Z #[Value.int IntKind.i64 i].zipIdx).size)) = true then none else some (Array.foldl (fun cs x => cs.setIfInBounds (1 + x.snd) x.fst) (Array.foldl (fun cs x => cs.setIfInBounds (0 + x.snd) x.fst) Z #[Value.int IntKind.i64 i].zipIdx) S.zipIdx)) = _
  rw [e0, if_neg (by simp [hZs]), if_neg (by simp [hZs, hS])]
  congr 1
  apply Array.ext_getElem?
  intro k
  rw [← Array.foldl_toList, Array.toList_zipIdx, foldl_get, Array.size_setIfInBounds, Array.getElem?_setIfInBounds, hZs, Array.length_toList, hS]
  rw [Array.getElem?_append]
  simp only [List.size_toArray, List.length_cons, List.length_nil]
  by_cases hk0 : k = 0
  · subst hk0
    rw [if_neg (by omega), if_pos rfl, if_pos (by omega), if_pos (by omega)]
    try rfl
  · by_cases hk : k < 65
    · rw [if_pos (by omega), if_neg (by omega), Array.getElem?_toList]
      try rfl
    · rw [if_neg (by omega), if_neg (by omega), if_neg (by omega), Array.getElem?_eq_none (by omega), Array.getElem?_eq_none (by omega)]
end Go.Proofs.YtdgilgnaoifpcaaDoor
