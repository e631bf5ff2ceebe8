/- A whole struct or array out of and into a block that is known. -/
import Derived.Test.YtdgilgnaoifpcaaDoorRetRow
namespace Go.Proofs.YtdgilgnaoifpcaaDoor
open Go.RowKit
theorem Upd.setRow {b : Nat} {old cs : Array Value} {t : TypeId} {fz : Nat × Nat} {w : World} (hg : w.heap[b]? = some (.cells old t fz)) : Upd b (.cells cs t fz) w (w.setRow b cs) := by
  refine ⟨rfl, rfl, rfl, by simp [World.setRow], fun k hk => ?_, setRow_heap w b old cs t fz hg⟩
  simp only [World.setRow, Array.getElem?_modify]
  rw [if_neg (fun e => hk e.symm)]
section
variable {P : Program} {ops : Array Oper} {rest : List Oper} {o : Oper} {a : Act} {w : World} {Q : Exit → Act → World → Prop}
theorem wpList_store_row (hgd : o.guard = none) (ty : TypeId) (x y : Operand) (ho : o.op = .store ty x y) (g : Nat) (c c' : Array Value)
    (hx : a.eval x = .pointer (some ⟨g, 0, none⟩)) (hy : a.eval y = .agg c') (hg : Hid (w.heap[g]? = some (.cells c ty (0, 0)))) (hi : (P.info? ty).map (·.size) = some c'.size) (hs : c.size = c'.size) (h1 : c'.all (·.oneCell') = true)
    (h : ∀ w', Hid (Upd g (.cells c' ty (0, 0)) w w') → wpList P ops Q rest (a.put o.dst undef) w') : wpList P ops Q (o :: rest) a w := by
  refine wpList_plain hgd fun K hK => ?_
  have h2 := hK _ _ (h _ (Lib.hid (Upd.setRow (cs := c') hg.out)))
  unfold Oper.wp execOp
  simp only [ho, hx, hy, Instr.storeAt, Instr.sureAddr, Sem.run_bind, Sem.run_pure, Result.andThen_ok, run_storeVar_row w g ty ty c c' hg.out hi hs h1]
  exact h2
theorem wp_store_rowK {K : Act → World → Prop} (ty : TypeId) (x y : Operand) (ho : o.op = .store ty x y) (g : Nat) (c c' : Array Value)
    (hx : a.eval x = .pointer (some ⟨g, 0, none⟩)) (hy : a.eval y = .agg c') (hg : Hid (w.heap[g]? = some (.cells c ty (0, 0)))) (hi : (P.info? ty).map (·.size) = some c'.size) (hs : c.size = c'.size) (h1 : c'.all (·.oneCell') = true)
    (h : ∀ w', Hid (Upd g (.cells c' ty (0, 0)) w w') → K (a.put o.dst undef) w') : o.wp P a w K Q := by
  have h2 := h _ (Lib.hid (Upd.setRow (cs := c') hg.out))
  unfold Oper.wp execOp
  simp only [ho, hx, hy, Instr.storeAt, Instr.sureAddr, Sem.run_bind, Sem.run_pure, Result.andThen_ok, run_storeVar_row w g ty ty c c' hg.out hi hs h1]
  exact h2
theorem wpList_load_row (hgd : o.guard = none) (ty : TypeId) (x : Operand) (ho : o.op = .load ty x) (g : Nat) (c : Array Value) (d : TypeDesc)
    (hx : a.eval x = .pointer (some ⟨g, 0, none⟩)) (hg : Hid (w.heap[g]? = some (.cells c ty (0, 0)))) (hu : P.underlying ty = some d) (hd : (match d with | .struct _ | .array _ _ => true | _ => false) = true) (hi : (P.info? ty).map (·.size) = some c.size)
    (h : wpList P ops Q rest (a.put o.dst (.agg c)) w) : wpList P ops Q (o :: rest) a w := by
  refine wpList_plain hgd fun K hK => ?_
  have h2 := hK _ _ h
  unfold Oper.wp execOp
  simp only [ho, hx, Instr.loadAt, Instr.sureAddr, Sem.run_bind, Sem.run_pure, Result.andThen_ok, run_loadVar_row w g ty ty c (0, 0) d hg.out hu hd hi]
  exact h2
end
end Go.Proofs.YtdgilgnaoifpcaaDoor
