/- append of one row to a list of rows, as a step of a region that draws. -/
import Derived.Test.YtejkajlbffkdnaaDoorWireL
import Derived.Deep.RegionLaw
namespace Go.Proofs.YtejkajlbffkdnaaDoor
open Go.RowKit
theorem stepW_app1 {ops : Array Oper} {K : Act → World → Prop} {Q : Exit → Act → World → Prop} {o : Oper} {a : Act} {w : World} {E : Prop} (hg : o.guard = none) (s x : Operand) (ho : o.op = .call { callee := .builtin .append, args := #[s, x], argTypes := #[42, 42] })
    (base : Nat) (v : Value) (n : Nat) (xs : List Value) (hs : a.eval s = v) (hown : Hid (w.ownsRow base 27 1 v n xs))
    (u : Value) (hu : u.oneCell' = true) (hx : a.eval x = .slice (some ⟨w.heap.size, 0, none⟩) 1 1) (hl : n ≤ 1000000) (hbase : base ≤ w.heap.size)
    (h : ∀ v' w', Hid (w'.ownsRow base 27 1 v' (n + 1) (xs ++ [u])) → Hid (w.grownBy w' v.ownBlock) → Hid (Moved w v v') → K (a.put o.dst v') w') :
    if Region.wanted o (yielded ops a.tmps) = true then Oper.wp Tryd.prog o a (w.alloc (.cells #[u] 27)) K Q else E := by
  have hw : Region.wanted o (yielded ops a.tmps) = true := by simp [Region.wanted, hg]
  rw [if_pos hw]
  obtain ⟨i0, hi, hz0, hz1, hz2⟩ := info_parts Tryd.infoRowW
  obtain ⟨v', w', hr, k1, k2, k3⟩ := run_append_where (P := Tryd.prog) (w.alloc (.cells #[u] 27)) base 42 o.type 27 i0 (.slice none 0 0) 24 Tryd.underlying42 hi hz0 hz1 hz2 rfl v n xs (World.ownsRow.alloc hown.out _) ⟨w.heap.size, 0, none⟩ 1 1 [u] rfl (cell_one_new _ _ _)
    (by intro y hy; simp at hy; subst hy; exact hu) (by unfold maxLen; omega) (by omega) (by simp; omega)
  unfold Oper.wp execOp
  simp only [ho, resolve, invoke, builtin, Sem.run_bind, Sem.run_pure, Result.andThen_ok, List.map_toArray, List.map_cons, List.map_nil, hs, hx, hr]
  exact h v' w' (Lib.hid k1) (Lib.hid (grownBy_over_alloc k2)) (Lib.hid fun k hk => (k3 k hk).imp id (fun h => by simp at h; omega))
/-- The same in a list of steps. -/
theorem wpW_app1 {w : World} {ops : Array Oper} {rest : List Oper} {o : Oper} {a : Act} {Q : Exit → Act → World → Prop} (hg : o.guard = none) (s x : Operand) (ho : o.op = .call { callee := .builtin .append, args := #[s, x], argTypes := #[42, 42] })
    (base : Nat) (v : Value) (n : Nat) (xs : List Value) (hs : a.eval s = v) (hown : Hid (w.ownsRow base 27 1 v n xs))
    (u : Value) (hu : u.oneCell' = true) (hx : a.eval x = .slice (some ⟨w.heap.size, 0, none⟩) 1 1) (hl : n ≤ 1000000) (hbase : base ≤ w.heap.size)
    (h : ∀ v' w', Hid (w'.ownsRow base 27 1 v' (n + 1) (xs ++ [u])) → Hid (w.grownBy w' v.ownBlock) → Hid (Moved w v v') → wpList Tryd.prog ops Q rest (a.put o.dst v') w') :
    wpList Tryd.prog ops Q (o :: rest) a (w.alloc (.cells #[u] 27)) := by
  obtain ⟨i0, hi, hz0, hz1, hz2⟩ := info_parts Tryd.infoRowW
  refine wpList_append_where hg s x 42 ho base 27 i0 (.slice none 0 0) 24 Tryd.underlying42 hi hz0 hz1 hz2 rfl v n xs hs (World.ownsRow.alloc hown.out _) ⟨w.heap.size, 0, none⟩ 1 1 [u] hx rfl (cell_one_new _ _ _)
    (by intro y hy; simp at hy; subst hy; exact hu) (by unfold maxLen; omega) (by omega) (by simp; omega) ?_
  intro v' w' k1 k2 k3
  exact h v' w' (Lib.hid k1) (Lib.hid (grownBy_over_alloc k2)) (Lib.hid fun k hk => (k3 k hk).imp id (fun h => by simp at h; omega))
theorem clone_pos (a : Option Addr) (cap : Nat) (bs : List UInt8) (w : World) (h : ArgB w a cap bs) (h0 : 0 < bs.length) (hr : bs.length ≤ 1000000) :
    Calls Tryd.prog 20 #[.slice a bs.length cap] w fun e w' => ∃ g c, e = .returned (.slice (some ⟨g, 0, none⟩) bs.length c) ∧ OwnB w.heap.size w' (.slice (some ⟨g, 0, none⟩) bs.length c) bs ∧ Below w.heap.size w w' :=
  (clone_any a cap bs w h hr).mono fun e w' ⟨v, he, ho, hb⟩ => by
    rcases ho.2 with ⟨_, h2⟩ | ⟨g, c, cur, e1, _⟩
    · omega
    · subst e1; exact ⟨g, c, he, ho, hb⟩
theorem owns_form {w : World} {base : Nat} {e : TypeId} {v : Value} {n : Nat} {xs : List Value} (h : w.ownsRow base e 1 v (n + 1) xs) : ∃ g c, v = .slice (some ⟨g, 0, none⟩) (n + 1) c := by
  rcases h.2 with ⟨_, h2⟩ | ⟨g, c, cur, e1, _⟩
  · omega
  · exact ⟨g, c, e1⟩

end Go.Proofs.YtejkajlbffkdnaaDoor
