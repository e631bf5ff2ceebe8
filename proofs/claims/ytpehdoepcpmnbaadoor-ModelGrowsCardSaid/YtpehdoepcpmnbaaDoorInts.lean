/- Lists of ints that a call makes. -/
import Derived.Test.YtpehdoepcpmnbaaDoorMem
import Derived.Test.YtpehdoepcpmnbaaDoorRows
import Derived.Outline
namespace Go.Proofs.YtpehdoepcpmnbaaDoor
open Go.RowKit

/-- What the type int says. -/
theorem Tryd.infoIntP : (Tryd.prog.info? 3).map (fun i => (i.zero, i.size, i.bytes)) = some (some (.int .i64 0), 1, 8) := by kernel_rfl
/-- Ints of the call's own. -/
def OwnI (base : Nat) (w : World) (v : Value) (zs : List Int) : Prop := w.ownsRow base 3 1 v zs.length (cI zs)
theorem OwnI.nil (base : Nat) (w : World) : OwnI base w (.slice none 0 0) [] := ⟨rfl, .inl ⟨rfl, rfl⟩⟩
theorem OwnI.mono {base base' : Nat} {w : World} {v : Value} {bs : List Int} (h : OwnI base w v bs) (hb : base' ≤ base) : OwnI base' w v bs := by
  obtain ⟨h1, h2⟩ := h
  refine ⟨h1, ?_⟩
  rcases h2 with h2 | ⟨g, cap, cur, e1, e2, e3⟩
  · exact .inl h2
  · exact .inr ⟨g, cap, cur, e1, by omega, e3⟩
theorem OwnI.below {base B : Nat} {w w' : World} {v : Value} {bs : List Int} (h : OwnI base w v bs) (hb : Below B w w') (hB : w.heap.size ≤ B) : OwnI base w' v bs := by
  refine ⟨h.1, ?_⟩
  rcases h.2 with h2 | ⟨g, cap, cur, e1, e2, e3, e4⟩
  · exact .inl h2
  · exact .inr ⟨g, cap, cur, e1, e2, (hb.block g (by have := block_lt e3; omega)).trans e3, e4⟩
theorem OwnI.row {base : Nat} {w : World} {v : Value} {zs : List Int} (h : OwnI base w v zs) : ∃ a c, v = .slice a zs.length c ∧ zs.length ≤ c ∧ c ≤ maxLen ∧ (a = none → c = 0) ∧ RowI .i64 w a zs ∧ ∀ b o s, a = some ⟨b, o, s⟩ → base ≤ b ∧ b < w.heap.size := by
  obtain ⟨a, c, rfl, h1, h2, h3, h4, _, h5⟩ := owns_any h
  rw [cI_length] at h2
  exact ⟨a, c, by rw [cI_length], h2, h3, h1, h4.toI, h5⟩

section
variable {w : World} {ops : Array Oper} {rest : List Oper} {o : Oper} {a : Act} {Q : Exit → Act → World → Prop}
/-- 'append(s, x)' of one int. -/
theorem wpI_app1 (hgd : o.guard = none) (s x : Operand) (ho : o.op = .call { callee := .builtin .append, args := #[s, x], argTypes := #[142, 142] })
    (base : Nat) (v : Value) (bs : List Int) (hs : a.eval s = v) (hown : Hid (OwnI base w v bs))
    (u : Int) (hx : a.eval x = .slice (some ⟨w.heap.size, 0, none⟩) 1 1) (hl : bs.length ≤ 1000000) (hbase : base ≤ w.heap.size)
    (h : ∀ v' w', Hid (OwnI base w' v' (bs ++ [u])) → Hid (Below base w w') → wpList Tryd.prog ops Q rest (a.put o.dst v') w') :
    wpList Tryd.prog ops Q (o :: rest) a (w.alloc (.cells #[.int .i64 u] 3)) := by
  obtain ⟨i0, hi, hz0, hz1, hz2⟩ := info_parts Tryd.infoIntP
  refine wpList_append1 hgd s x 142 ho base 3 i0 (.int .i64 0) 8 Tryd.underlying142 hi hz0 hz1 hz2 rfl v bs.length (cI bs) hs (Lib.hid hown.out) (.int .i64 u) hx rfl (by unfold maxLen; omega) (by omega) hbase ?_
  intro v' w' h1 h2 _
  refine h v' w' (Lib.hid ?_) (Lib.hid ((Below.refl base w).grown h2.out hbase (fun k hk => (World.ownsRow.lt hown.out k hk).1)))
  unfold OwnI
  rw [cI_append, List.length_append]
  exact h1.out
end

end Go.Proofs.YtpehdoepcpmnbaaDoor
