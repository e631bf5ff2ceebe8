/- append of one row of bytes, as a step of a region that draws. -/
import Derived.Test.YtfmeheolcibfeaaDoorOwnBB
import Derived.Deep.RegionLaw
namespace Go.Proofs.YtfmeheolcibfeaaDoor
open Go.RowKit
theorem stepBB_app1 {ops : Array Oper} {K : Act → World → Prop} {Q : Exit → Act → World → Prop} {o : Oper} {a : Act} {w : World} {E : Prop} (hg : o.guard = none) (s x : Operand) (ho : o.op = .call { callee := .builtin .append, args := #[s, x], argTypes := #[60, 60] })
    (base : Nat) (v : Value) (ps : List (List UInt8)) (hs : a.eval s = v) (hown : Hid (OwnBB base w v ps))
    (ai : Option Addr) (ci : Nat) (bs : List UInt8) (L : Nat) (hL : Hid (bs.length = L)) (hb : Hid (ArgB w ai ci bs)) (hne : Hid (0 < bs.length → ∀ b o, ai = some ⟨b, o, none⟩ → v.ownBlock ≠ some b)) (hx : a.eval x = .slice (some ⟨w.heap.size, 0, none⟩) 1 1) (hl : ps.length ≤ 1000000) (hbase : base ≤ w.heap.size)
    (h : ∀ v' w', Hid (OwnBB base w' v' (ps ++ [bs])) → Hid (w.grownBy w' v.ownBlock) → K (a.put o.dst v') w') :
    if Region.wanted o (yielded ops a.tmps) = true then Oper.wp Tryd.prog o a (w.alloc (.cells #[.slice ai L ci] 22)) K Q else E := by
  have hw : Region.wanted o (yielded ops a.tmps) = true := by simp [Region.wanted, hg]
  rw [if_pos hw]
  have hL' := hL.out
  subst hL'
  obtain ⟨i0, hi, hz0, hz1, hz2⟩ := info_parts Tryd.infoRowP
  obtain ⟨xs, h1, h2⟩ := hown.out
  obtain ⟨v', w', hr, k1, k2, k3⟩ := run_append_where (P := Tryd.prog) (w.alloc (.cells #[.slice ai bs.length ci] 22)) base 60 o.type 22 i0 (.slice none 0 0) 24 Tryd.underlying60 hi hz0 hz1 hz2 rfl v ps.length xs (World.ownsRow.alloc h1 _) ⟨w.heap.size, 0, none⟩ 1 1 [.slice ai bs.length ci] rfl (cell_one_new _ _ _)
    (by intro y hy; simp at hy; subst hy; rfl) (by unfold maxLen; omega) (by omega) (by simp; omega)
  unfold Oper.wp execOp
  simp only [ho, resolve, invoke, builtin, Sem.run_bind, Sem.run_pure, Result.andThen_ok, List.map_toArray, List.map_cons, List.map_nil, hs, hx, hr]
  have hg2 := grownBy_over_alloc k2
  have hm : Moved w v v' := fun k hk => (k3 k hk).imp id (fun h => by simp at h; omega)
  refine h v' w' (Lib.hid ?_) (Lib.hid hg2)
  have hxl : xs.length = ps.length := by have := h1.1; omega
  have hap : ∀ (b o : Nat) (bs : List UInt8) c, ArgB w (some ⟨b, o, none⟩) c bs → 0 < bs.length → v.ownBlock ≠ some b → v'.ownBlock ≠ some b := by
    intro b o bs c ha hl hne e
    rcases hm b e with h | h
    · exact hne h
    · have := ha.lt hl; omega
  refine ⟨xs ++ [.slice ai bs.length ci], by rw [List.length_append]; exact k1, fun i hi => ?_⟩
  rw [List.length_append, List.length_singleton] at hi
  rcases Nat.lt_or_ge i ps.length with hlt | hge
  · obtain ⟨aj, cj, hx, ha, hn⟩ := h2 i hlt
    have hgd : (ps ++ [bs]).getD i [] = ps.getD i [] := by simp [List.getD_eq_getElem?_getD, List.getElem?_append_left hlt]
    rw [hgd]
    exact ⟨aj, cj, by rw [List.getElem?_append_left (by omega)]; exact hx, ha.kept hg2 hn, fun hl b o e => by subst e; exact hap b o _ _ ha hl (hn hl b o rfl)⟩
  · obtain rfl : i = ps.length := by omega
    have hgd : (ps ++ [bs]).getD ps.length [] = bs := by simp [List.getD_eq_getElem?_getD]
    rw [hgd]
    exact ⟨ai, ci, by rw [← hxl]; simp, hb.out.kept hg2 hne.out, fun hl b o e => by subst e; exact hap b o _ _ hb.out hl (hne.out hl b o rfl)⟩
/-- The same, where the draw stands outside. -/
theorem stepBB_app1d {ops : Array Oper} {K : Act → World → Prop} {Q : Exit → Act → World → Prop} {o : Oper} {a : Act} {w : World} {E : Prop} (hg : o.guard = none) (s x : Operand) (ho : o.op = .call { callee := .builtin .append, args := #[s, x], argTypes := #[60, 60] })
    (base : Nat) (v : Value) (ps : List (List UInt8)) (hs : a.eval s = v) (hown : Hid (OwnBB base w.drew v ps))
    (ai : Option Addr) (ci : Nat) (bs : List UInt8) (L : Nat) (hL : Hid (bs.length = L)) (hb : Hid (ArgB w.drew ai ci bs)) (hne : Hid (0 < bs.length → ∀ b o, ai = some ⟨b, o, none⟩ → v.ownBlock ≠ some b)) (hx : a.eval x = .slice (some ⟨w.heap.size, 0, none⟩) 1 1) (hl : ps.length ≤ 1000000) (hbase : base ≤ w.heap.size)
    (h : ∀ v' w', Hid (OwnBB base w' v' (ps ++ [bs])) → Hid (w.drew.grownBy w' v.ownBlock) → K (a.put o.dst v') w') :
    if Region.wanted o (yielded ops a.tmps) = true then Oper.wp Tryd.prog o a (w.alloc (.cells #[.slice ai L ci] 22)).drew K Q else E :=
  stepBB_app1 (w := w.drew) hg s x ho base v ps hs hown ai ci bs L hL hb hne hx hl hbase h
end Go.Proofs.YtfmeheolcibfeaaDoor
