/- Conv, OwnBB. -/
import Derived.Test.YtgkddegaiaeckaaDoorF2SafeSaid
import Derived.Test.YtgkddegaiaeckaaDoorOwnB
import Derived.Test.YtgkddegaiaeckaaDoorF15SafeSaid
import Derived.Test.YtgkddegaiaeckaaDoorF8SafeSaid
/- Texts out of bytes, cells and rows, in every world that has only grown since. -/
namespace Go.Proofs.YtgkddegaiaeckaaDoor
open Go.RowKit

theorem convB {w : World} {a : Option Addr} {c : Nat} {bs : List UInt8} (h : ArgB w a c bs) (n : Nat) (hn : bs.length = n) : (convert 22 9 (.slice a n c)).run Tryd.prog w = .ok (.string ⟨bs.toArray⟩) w := by
  subst hn
  exact conv_str bs Tryd.underlying22 Tryd.underlying5 Tryd.underlying9 h.row
theorem convE {w : World} {a : Option Addr} {c : Nat} {bs : List UInt8} (h : ArgB w a c bs) (n : Nat) (hn : bs.length = n) : ∀ W, Grown w W → (convert 22 9 (.slice a n c)).run Tryd.prog W = .ok (.string ⟨bs.toArray⟩) W :=
  fun _ hW => convB (h.below hW) n hn
theorem far_cell {w : World} {x : Addr} {v : Value} (h : w.cell? x = some v) : ∀ W, Grown w W → W.cell? x = some v := fun _ hW => (hW.cell (World.block_lt_of_cell? w _ h)).trans h

end Go.Proofs.YtgkddegaiaeckaaDoor
/- Rows of rows of bytes that a call makes: made, appended to, read. -/
namespace Go.Proofs.YtgkddegaiaeckaaDoor
open Go.RowKit

theorem Tryd.infoRowP : (Tryd.prog.info? 22).map (fun i => (i.zero, i.size, i.bytes)) = some (some (.slice none 0 0), 1, 24) := by kernel_rfl

theorem ArgB.kept {w w' : World} {a : Option Addr} {cap : Nat} {bs : List UInt8} {row : Option Nat} (h : ArgB w a cap bs) (hg : w.grownBy w' row) (hr : 0 < bs.length → ∀ b o, a = some ⟨b, o, none⟩ → row ≠ some b) : ArgB w' a cap bs := by
  refine ⟨h.len, h.most, h.nil, fun i hi => ?_⟩
  obtain ⟨b, o, e, hc⟩ := h.row i hi
  exact ⟨b, o, e, hg.cell hc (fun e2 => hr (by omega) b o e e2.symm)⟩
/-- The block of a row that is not empty was there. -/
theorem ArgB.lt {w : World} {b o cap : Nat} {bs : List UInt8} (h : ArgB w (some ⟨b, o, none⟩) cap bs) (hl : 0 < bs.length) : b < w.heap.size := by
  obtain ⟨b', o', e, hc⟩ := h.row 0 hl
  cases e
  exact World.block_lt_of_cell? w _ hc

/-- A row of rows of bytes of the call's own; its elements lie apart from it. -/
def OwnBB (base : Nat) (w : World) (v : Value) (ps : List (List UInt8)) : Prop :=
  ∃ xs, w.ownsRow base 22 1 v ps.length xs ∧ ∀ i, i < ps.length → ∃ ai ci, xs[i]? = some (.slice ai (ps.getD i []).length ci) ∧ ArgB w ai ci (ps.getD i []) ∧ (0 < (ps.getD i []).length → ∀ b o, ai = some ⟨b, o, none⟩ → v.ownBlock ≠ some b)
theorem OwnBB.nil (base : Nat) (w : World) : OwnBB base w (.slice none 0 0) [] := ⟨[], ⟨rfl, .inl ⟨rfl, rfl⟩⟩, fun i hi => absurd hi (Nat.not_lt_zero i)⟩
theorem OwnBB.made0 (w : World) (base : Nat) (hb : base ≤ w.heap.size) : OwnBB base (w.alloc (.cells #[] 22)) (.slice (some ⟨w.heap.size, 0, none⟩) 0 0) [] :=
  ⟨[], by simpa using World.ownsRow_made (base := base) (e := 22) (size := 1) w #[] 0 hb (by decide) (by simp), fun i hi => absurd hi (Nat.not_lt_zero i)⟩
theorem OwnBB.lt {base : Nat} {w : World} {v : Value} {ps : List (List UInt8)} (h : OwnBB base w v ps) : ∀ k, v.ownBlock = some k → base ≤ k ∧ k < w.heap.size := by
  obtain ⟨xs, h1, _⟩ := h
  exact fun k hk => World.ownsRow.lt h1 k hk
theorem OwnBB.mono {base base' : Nat} {w : World} {v : Value} {ps : List (List UInt8)} (h : OwnBB base w v ps) (hb : base' ≤ base) : OwnBB base' w v ps := by
  obtain ⟨xs, ⟨h1, h2⟩, h3⟩ := h
  refine ⟨xs, ⟨h1, ?_⟩, h3⟩
  rcases h2 with h2 | ⟨g, cap, cur, e1, e2, e3⟩
  · exact .inl h2
  · exact .inr ⟨g, cap, cur, e1, by omega, e3⟩
theorem OwnBB.below {base : Nat} {w w' : World} {v : Value} {ps : List (List UInt8)} (h : OwnBB base w v ps) (hb : Below w.heap.size w w') : OwnBB base w' v ps := by
  obtain ⟨xs, h1, h2⟩ := h
  refine ⟨xs, ?_, fun i hi => ?_⟩
  · obtain ⟨e1, h1⟩ := h1
    refine ⟨e1, ?_⟩
    rcases h1 with h1 | ⟨g, cap, cur, e, hg, hh, hr⟩
    · exact .inl h1
    · exact .inr ⟨g, cap, cur, e, hg, (hb.block _ (block_lt hh)).trans hh, hr⟩
  · obtain ⟨ai, ci, hx, ha, hn⟩ := h2 i hi
    exact ⟨ai, ci, hx, ha.below hb, hn⟩
theorem OwnBB.arg {base : Nat} {w : World} {v : Value} {ps : List (List UInt8)} (h : OwnBB base w v ps) : ∃ a c, v = .slice a ps.length c ∧ ArgBB w a c ps := by
  obtain ⟨xs, h1, h2⟩ := h
  rcases h1.2 with ⟨rfl, h0⟩ | ⟨g, cap, cur, rfl, hbg, hh, hnc, hcm, hcs, htake⟩
  · have : ps = [] := List.eq_nil_of_length_eq_zero h0
    subst this
    exact ⟨none, 0, rfl, Nat.le_refl _, Nat.zero_le _, fun _ => rfl, fun i hi => absurd hi (Nat.not_lt_zero i)⟩
  · refine ⟨_, cap, rfl, hnc, hcm, (fun e => by cases e), fun i hi => ?_⟩
    obtain ⟨ai, ci, hx, ha, _⟩ := h2 i hi
    refine ⟨g, 0, rfl, ai, ci, ?_, ha⟩
    have := h1.cells (g := g) rfl i _ hx
    have e1 : (⟨g, 0, none⟩ : Addr).add i = ⟨g, 0 + i, none⟩ := by unfold Addr.add; split <;> simp_all
    rw [← e1]
    exact this

section
variable {w : World} {ops : Array Oper} {rest : List Oper} {o : Oper} {a : Act} {Q : Exit → Act → World → Prop}
/-- 'append(s, x)' of one row of bytes. -/
theorem wpBB_app1 (hgd : o.guard = none) (s x : Operand) (ho : o.op = .call { callee := .builtin .append, args := #[s, x], argTypes := #[23, 23] })
    (base : Nat) (v : Value) (ps : List (List UInt8)) (hs : a.eval s = v) (hown : Hid (OwnBB base w v ps))
    (ai : Option Addr) (ci : Nat) (bs : List UInt8) (L : Nat) (hL : Hid (bs.length = L)) (hb : Hid (ArgB w ai ci bs)) (hne : Hid (0 < bs.length → ∀ b o, ai = some ⟨b, o, none⟩ → v.ownBlock ≠ some b)) (hx : a.eval x = .slice (some ⟨w.heap.size, 0, none⟩) 1 1) (hl : ps.length ≤ 1000000) (hbase : base ≤ w.heap.size)
    (h : ∀ v' w', Hid (OwnBB base w' v' (ps ++ [bs])) → Hid (w.grownBy w' v.ownBlock) → wpList Tryd.prog ops Q rest (a.put o.dst v') w') :
    wpList Tryd.prog ops Q (o :: rest) a (w.alloc (.cells #[.slice ai L ci] 22)) := by
  have hL' := hL.out
  subst hL'
  obtain ⟨i0, hi, hz0, hz1, hz2⟩ := info_parts Tryd.infoRowP
  obtain ⟨xs, h1, h2⟩ := hown.out
  refine wpList_append_where hgd s x 23 ho base 22 i0 (.slice none 0 0) 24 Tryd.underlying23 hi hz0 hz1 hz2 rfl v ps.length xs hs (World.ownsRow.alloc h1 _) ⟨w.heap.size, 0, none⟩ 1 1 [.slice ai bs.length ci] hx rfl (cell_one_new _ _ _)
    (by intro y hy; simp at hy; subst hy; rfl) (by unfold maxLen; omega) (by omega) (by simp; omega) ?_
  intro v' w' k1 k2 k3
  have hg := grownBy_over_alloc k2
  have hm : Moved w v v' := fun k hk => (k3 k hk).imp id (fun h => by simp at h; omega)
  refine h v' w' (Lib.hid ?_) (Lib.hid hg)
  have hxl : xs.length = ps.length := by have := h1.1; omega
  have hap : ∀ (b o : Nat) (bs : List UInt8) c, ArgB w (some ⟨b, o, none⟩) c bs → 0 < bs.length → v.ownBlock ≠ some b → v'.ownBlock ≠ some b := by
    intro b o bs c ha hl hne e
    rcases hm b e with h | h
    · exact hne h
    · have := ha.lt hl; omega
  refine ⟨xs ++ [.slice ai bs.length ci], by rw [List.length_append]; exact k1, fun i hi => ?_⟩
  rw [List.length_append, List.length_singleton] at hi
  rcases Nat.lt_or_ge i ps.length with hlt | hge
  · obtain ⟨aj, cj, hx, ha, hn⟩ := h2 i hlt
    have hgd : (ps ++ [bs]).getD i [] = ps.getD i [] := by simp [List.getD_eq_getElem?_getD, List.getElem?_append_left hlt]
    rw [hgd]
    exact ⟨aj, cj, by rw [List.getElem?_append_left (by omega)]; exact hx, ha.kept hg hn, fun hl b o e => by subst e; exact hap b o _ _ ha hl (hn hl b o rfl)⟩
  · obtain rfl : i = ps.length := by omega
    have hgd : (ps ++ [bs]).getD ps.length [] = bs := by simp [List.getD_eq_getElem?_getD]
    rw [hgd]
    exact ⟨ai, ci, by rw [← hxl]; simp, hb.out.kept hg hne.out, fun hl b o e => by subst e; exact hap b o _ _ hb.out hl (hne.out hl b o rfl)⟩
end

end Go.Proofs.YtgkddegaiaeckaaDoor
