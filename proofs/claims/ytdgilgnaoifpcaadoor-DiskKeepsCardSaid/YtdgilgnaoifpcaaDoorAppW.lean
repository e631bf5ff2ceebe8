/- append of one write to the writes that wait, as a step of a region that draws; a slice of one write. -/
import Derived.Test.YtdgilgnaoifpcaaDoorBuildW
import Derived.Great.BuildSlice
import Derived.Great.FillDense
import Derived.Deep.MidRow
import Derived.Maps.AppendAt
namespace Go.Proofs.YtdgilgnaoifpcaaDoor
open Go.RowKit

theorem Tryd.infoWriteP : (Tryd.prog.info? 64).map (fun i => (i.zero.map (·.cells.size), i.size, i.bytes)) = some (some 65, 65, 72) := by kernel_rfl
theorem slice_write (R : Array Value) (hR : R.size = 65) (W : World) : (Instr.buildSlice 57 1 #[(0, .agg R)]).run Tryd.prog W = .ok (.slice (some ⟨W.heap.size, 0, none⟩) 1 1) (W.alloc (.cells R 64)) := by
  obtain ⟨ie, hie, h2⟩ := Option.map_eq_some_iff.1 Tryd.infoWriteP
  simp only [Prod.mk.injEq] at h2
  obtain ⟨hz, hs, hb⟩ := h2
  obtain ⟨z, hz1, hz2⟩ := Option.map_eq_some_iff.1 hz
  refine run_buildSlice W _ _ 1 _ R ie z Tryd.underlying57 hie hz1 (by rw [hs]; decide) (by rw [hs]; decide) ?_
  have h := Go.Great.fill_whole (s := 65) (by decide) [.agg R] ((Array.range (1 * ie.size)).map (z.cells[· % z.cells.size]!)) (by simp [Value.cells, hR]) (by simp [hs])
  simpa [hs, Value.cells] using h
section
variable {ops : Array Oper} {K : Act → World → Prop} {Q : Exit → Act → World → Prop} {o : Oper} {a : Act} {w : World}
/-- A build whose result a fact gives. -/
theorem wpK_build (t : TypeId) (x y : Operand) (ho : o.op = .build t #[(0, x), (1, y)]) (vx vy : Value) (hx : a.eval x = vx) (hy : a.eval y = vy) (R : Value) (h : ∀ W, (Instr.build t #[(0, vx), (1, vy)]).run Tryd.prog W = .ok R W) (hK : K (a.put o.dst R) w) : o.wp Tryd.prog a w K Q := by
  unfold Oper.wp execOp
  simp only [ho, Sem.run_bind, Sem.run_pure, Result.andThen_ok, List.map_toArray, List.map_cons, List.map_nil, hx, hy, h]
  exact hK
theorem wpK_buildSlice (t : TypeId) (len : Nat) (x : Operand) (ho : o.op = .buildSlice t len #[(0, x)]) (vx : Value) (hx : a.eval x = vx) (R : Value) (w' : World) (h : (Instr.buildSlice t len #[(0, vx)]).run Tryd.prog w = .ok R w') (hK : K (a.put o.dst R) w') : o.wp Tryd.prog a w K Q := by
  unfold Oper.wp execOp
  simp only [ho, Sem.run_bind, Sem.run_pure, Result.andThen_ok, List.map_toArray, List.map_cons, List.map_nil, hx, h]
  exact hK
theorem wpK_appW (s x : Operand) (ho : o.op = .call { callee := .builtin .append, args := #[s, x], argTypes := #[57, 57] })
    (base : Nat) (v : Value) (n : Nat) (xs : List Value) (hs : a.eval s = v) (hown : Hid (w.ownsRow base 64 65 v n xs))
    (g : Nat) (R : Array Value) (hR : R.size = 65) (h1 : ∀ u ∈ R.toList, u.oneCell' = true) (hx : a.eval x = .slice (some ⟨g, 0, none⟩) 1 1) (hg : Hid (w.heap[g]? = some (.cells R 64 (0, 0)))) (hl : n ≤ 1000000) (hbase : base ≤ w.heap.size)
    (h : ∀ v' w', Hid (w'.ownsRow base 64 65 v' (n + 1) (xs ++ R.toList)) → Hid (w.grownBy w' v.ownBlock) → (v'.ownBlock = v.ownBlock ∨ v'.ownBlock = some w.heap.size) → K (a.put o.dst v') w') : o.wp Tryd.prog a w K Q := by
  obtain ⟨ie, hie, h2⟩ := Option.map_eq_some_iff.1 Tryd.infoWriteP
  simp only [Prod.mk.injEq] at h2
  obtain ⟨hz, hsz, hby⟩ := h2
  obtain ⟨z, hz1, hz2⟩ := Option.map_eq_some_iff.1 hz
  obtain ⟨v', w', hr, k1, k2, _, k4⟩ := run_append_own_at (P := Tryd.prog) w base 57 o.type 64 ie z 65 ie.bytes Tryd.underlying57 hie hz1 hsz rfl hz2 (by decide) v n xs hown.out ⟨g, 0, none⟩ 1 1 R.toList (by simp [hR])
    (fun j u hu => by
      rw [Addr.add_mid, cell_of_block hg.out, Nat.zero_add, ← Array.getElem?_toList]
      exact hu) h1 (by unfold maxLen; omega) (by rw [hby]; omega) hbase
  unfold Oper.wp execOp
  simp only [ho, resolve, invoke, builtin, Sem.run_bind, Sem.run_pure, Result.andThen_ok, List.map_toArray, List.map_cons, List.map_nil, hs, hx, hr]
  exact h v' w' (Lib.hid k1) (Lib.hid k2) k4
end
end Go.Proofs.YtdgilgnaoifpcaaDoor
