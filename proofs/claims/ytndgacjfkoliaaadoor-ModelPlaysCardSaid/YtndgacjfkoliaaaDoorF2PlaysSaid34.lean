/- A row of things, each of so many cells, that may lead to other blocks (those of F): read, kept, appended to. Of whatever program. -/
import Derived.Test.YtndgacjfkoliaaaDoorF1PlaysSaid34
import Derived.Maps.AppendAt
import Derived.Deep.MidRow
namespace Go.Proofs.YtndgacjfkoliaaaDoor
open Go.RowKit

/-- How one element lies: its cells; F: the blocks that they lead to. -/
structure LiesOk {α : Type} (R : World → (Nat → Prop) → α → List Value → Prop) (size : Nat) : Prop where
  only : ∀ {w w' : World} {D F : Nat → Prop} {x : α} {cs : List Value}, R w F x cs → Only D w w' → (∀ k, F k → ¬ D k) → R w' F x cs
  more : ∀ {w : World} {F F' : Nat → Prop} {x : α} {cs : List Value}, R w F x cs → (∀ k, F k → F' k) → R w F' x cs
  len : ∀ {w : World} {F : Nat → Prop} {x : α} {cs : List Value}, R w F x cs → cs.length = size ∧ ∀ u ∈ cs, u.oneCell' = true
structure RowsOf {α : Type} (R : World → (Nat → Prop) → α → List Value → Prop) (e : TypeId) (size base : Nat) (w : World) (F : Nat → Prop) (v : Value) (ps : List α) : Prop where
  row : ∃ css : List (List Value), css.length = ps.length ∧ w.ownsRow base e size v ps.length css.flatten ∧ ∀ (i : Nat) (x : α) (cs : List Value), ps[i]? = some x → css[i]? = some cs → R w F x cs
  apart : ∀ k, v.ownBlock = some k → ¬ F k
  lt : ∀ k, F k → k < w.heap.size

theorem flat_at {css : List (List Value)} {size : Nat} (h : ∀ cs ∈ css, cs.length = size) : ∀ (i : Nat) (cs : List Value) (j : Nat) (u : Value), css[i]? = some cs → cs[j]? = some u → css.flatten[i * size + j]? = some u := by
  induction css with
  | nil => intro i cs j u h1; simp at h1
  | cons c css ih =>
    intro i cs j u h1 h2
    have hc := h c (List.mem_cons_self ..)
    cases i with
    | zero =>
      simp only [List.getElem?_cons_zero, Option.some.injEq] at h1
      subst h1
      have hj := (List.getElem?_eq_some_iff.1 h2).1
      rw [Nat.zero_mul, Nat.zero_add, List.flatten_cons, List.getElem?_append_left hj]
      exact h2
    | succ i =>
      simp only [List.getElem?_cons_succ] at h1
      rw [List.flatten_cons, List.getElem?_append_right (by rw [hc, Nat.succ_mul]; omega), hc, show (i + 1) * size + j - size = i * size + j by rw [Nat.succ_mul]; omega]
      exact ih (fun cs hcs => h cs (List.mem_cons_of_mem _ hcs)) i cs j u h1 h2

section
variable {α : Type} {R : World → (Nat → Prop) → α → List Value → Prop} {e : TypeId} {size base : Nat} {w w' : World} {F F' D : Nat → Prop} {v : Value} {ps : List α}
theorem RowsOf.only (hR : LiesOk R size) (h : RowsOf R e size base w F v ps) (hO : Only D w w') (hF : ∀ k, F k → ¬ D k) (hv : ∀ k, v.ownBlock = some k → ¬ D k) : RowsOf R e size base w' F v ps := by
  obtain ⟨⟨css, h1, h2, h3⟩, h4, h5⟩ := h
  exact ⟨⟨css, h1, hO.owns h2 hv, fun i x cs a b => hR.only (h3 i x cs a b) hO hF⟩, h4, fun k hk => Nat.lt_of_lt_of_le (h5 k hk) hO.size⟩
theorem RowsOf.below (hR : LiesOk R size) (h : RowsOf R e size base w F v ps) (hb : Below w.heap.size w w') : RowsOf R e size base w' F v ps := h.only hR (Only.ofBelow (D := fun _ => False) hb) (fun _ _ h => h) (fun _ _ h => h)
theorem RowsOf.mono {base' : Nat} (h : RowsOf R e size base w F v ps) (hb : base' ≤ base) : RowsOf R e size base' w F v ps := by
  obtain ⟨⟨css, h1, h2, h3⟩, h4, h5⟩ := h
  exact ⟨⟨css, h1, owns_mono h2 hb, h3⟩, h4, h5⟩
theorem RowsOf.more (hR : LiesOk R size) (h : RowsOf R e size base w F v ps) (hF : ∀ k, F k → F' k) (ha : ∀ k, v.ownBlock = some k → ¬ F' k) (hl : ∀ k, F' k → k < w.heap.size) : RowsOf R e size base w F' v ps := by
  obtain ⟨⟨css, h1, h2, h3⟩, h4, h5⟩ := h
  exact ⟨⟨css, h1, h2, fun i x cs a b => hR.more (h3 i x cs a b) hF⟩, ha, hl⟩
theorem RowsOf.ownLt (h : RowsOf R e size base w F v ps) : ∀ k, v.ownBlock = some k → base ≤ k ∧ k < w.heap.size := by
  obtain ⟨⟨css, h1, h2, h3⟩, h4, h5⟩ := h
  exact fun k hk => World.ownsRow.lt h2 k hk
theorem RowsOf.nil (base : Nat) (w : World) : RowsOf R e size base w (fun _ => False) (.slice none 0 0) ([] : List α) :=
  ⟨⟨[], rfl, ⟨by simp, .inl ⟨rfl, rfl⟩⟩, fun i x cs a => by simp at a⟩, (fun k hk => by cases hk), fun k h => False.elim h⟩
theorem RowsOf.made0 (w : World) (base : Nat) (hb : base ≤ w.heap.size) : RowsOf R e size base (w.alloc (.cells #[] e)) (fun _ => False) (.slice (some ⟨w.heap.size, 0, none⟩) 0 0) ([] : List α) :=
  ⟨⟨[], rfl, by simpa using World.ownsRow_made (base := base) (e := e) (size := size) w #[] 0 hb (by decide) (by simp), fun i x cs a => by simp at a⟩, fun k _ h => h, fun k h => False.elim h⟩
/-- Its form, and one element. -/
theorem RowsOf.form (h : RowsOf R e size base w F v ps) : ∃ a c, v = .slice a ps.length c ∧ (a = none → c = 0 ∧ ps.length = 0) ∧ ps.length ≤ c ∧ c ≤ maxLen ∧ ∀ b o s, a = some ⟨b, o, s⟩ → o = 0 ∧ s = none ∧ base ≤ b ∧ b < w.heap.size := by
  obtain ⟨⟨css, h1, h2, h3⟩, h4, h5⟩ := h
  rcases h2.2 with ⟨rfl, h0⟩ | ⟨g, cap, cur, rfl, hb, hh, hn, hc, _⟩
  · exact ⟨none, 0, by rw [h0], fun _ => ⟨rfl, h0⟩, by omega, Nat.zero_le _, fun _ _ _ e => by cases e⟩
  · exact ⟨_, cap, rfl, (fun e => by cases e), hn, hc, fun b o s e => by cases e; exact ⟨rfl, rfl, hb, block_lt hh⟩⟩
theorem RowsOf.elem (hR : LiesOk R size) (h : RowsOf R e size base w F v ps) (i : Nat) (x : α) (hx : ps[i]? = some x) : ∃ g c cs, v = .slice (some ⟨g, 0, none⟩) ps.length c ∧ R w F x cs ∧ w.rangeAt g (i * size) cs := by
  obtain ⟨⟨css, h1, h2, h3⟩, h4, h5⟩ := h
  have hi := (List.getElem?_eq_some_iff.1 hx).1
  obtain ⟨cs, hcs⟩ : ∃ cs, css[i]? = some cs := ⟨_, List.getElem?_eq_getElem (by omega)⟩
  have hall : ∀ cs ∈ css, cs.length = size := by
    intro cs hm
    obtain ⟨j, hj⟩ := List.mem_iff_getElem?.1 hm
    have hj2 := (List.getElem?_eq_some_iff.1 hj).1
    exact (hR.len (h3 j _ cs (List.getElem?_eq_getElem (by omega)) hj)).1
  rcases h2.2 with ⟨_, h0⟩ | ⟨g, cap, cur, rfl, hb, hh, hn, hc, hsz, htk⟩
  · omega
  · refine ⟨g, cap, cs, rfl, h3 i x cs hx hcs, fun j u hu => ?_⟩
    have := flat_at hall i cs j u hcs hu
    rw [← htk, List.getElem?_take] at this
    split at this
    · rw [cell_of_block hh, ← Array.getElem?_toList]; exact this
    · cases this
end

section
variable {α : Type} {R : World → (Nat → Prop) → α → List Value → Prop} {e : TypeId} {size base : Nat} {w : World} {F F' : Nat → Prop} {v : Value} {ps : List α} {P : Program}
/-- 'append(s, x)': the element was boxed first, in a new block. -/
theorem RowsOf.app1 (hR : LiesOk R size) (h : RowsOf R e size base w F v ps) (t ty : TypeId) (i : TypeInfo) (z : Value) (bytes : Nat) (ht : P.underlying t = some (.slice e)) (hi : P.info? e = some i) (hz : i.zero = some z) (hsize : i.size = size) (hby : i.bytes = bytes) (hzs : z.cells.size = size) (hsz : 0 < size)
    (x : α) (cs : List Value) (hx : R w F' x cs) (hF : ∀ k, F k → F' k) (ha : ∀ k, v.ownBlock = some k → ¬ F' k) (hl : ∀ k, F' k → k < w.heap.size) (g : Nat) (C : Array Value) (hC : C.toList = cs) (hg : w.heap[g]? = some (.cells C e (0, 0))) (h63 : ps.length + 1 ≤ maxLen) (hbytes : (ps.length + 1) * bytes ≤ 140737488355328) (hbase : base ≤ w.heap.size) :
    ∃ v' w', (Builtin.append_ #[t, t] ty #[v, .slice (some ⟨g, 0, none⟩) 1 1]).run P w = .ok v' w' ∧ RowsOf R e size base w' F' v' (ps ++ [x]) ∧ Only (fun k => v.ownBlock = some k) w w' ∧ Moved w v v' := by
  obtain ⟨⟨css, h1, h2, h3⟩, h4, h5⟩ := h
  obtain ⟨hlen, hone⟩ := hR.len hx
  obtain ⟨v', w', hr, k1, k2, _, k4⟩ := run_append_own_at (P := P) w base t ty e i z size bytes ht hi hz hsize hby hzs hsz v ps.length css.flatten h2 ⟨g, 0, none⟩ 1 1 cs (by rw [hlen, Nat.one_mul])
    (fun j u hu => by
      have e1 : (⟨g, 0, none⟩ : Addr).add j = ⟨g, 0 + j, none⟩ := by unfold Addr.add; split <;> simp_all
      rw [e1, cell_of_block hg, Nat.zero_add, ← Array.getElem?_toList, hC]
      exact hu) hone h63 hbytes hbase
  have hO : Only (fun k => v.ownBlock = some k) w w' := Only.ofGrown k2 (fun k hk => hk)
  have hM : Moved w v v' := fun k hk => by
    rcases k4 with k4 | k4
    · exact .inl (k4 ▸ hk)
    · rw [k4] at hk; cases hk; exact .inr (Nat.le_refl _)
  refine ⟨v', w', hr, ⟨⟨css ++ [cs], by simp [h1], by simpa using k1, fun j y ds hy hd => ?_⟩, fun k hk hk2 => ?_, fun k hk => Nat.lt_of_lt_of_le (hl k hk) hO.size⟩, hO, hM⟩
  · rcases Nat.lt_or_ge j ps.length with hj | hj
    · rw [List.getElem?_append_left hj] at hy
      rw [List.getElem?_append_left (by omega)] at hd
      exact hR.only (hR.more (h3 j y ds hy hd) hF) hO (fun k hk e => ha k e hk)
    · have hj2 := (List.getElem?_eq_some_iff.1 hy).1
      simp only [List.length_append, List.length_singleton] at hj2
      obtain rfl : j = ps.length := by omega
      have e1 : y = x := by simpa using hy.symm
      have e2 : ds = cs := by rw [← h1] at hd; simpa using hd.symm
      subst e1 e2
      exact hR.only hx hO (fun k hk e => ha k e hk)
  · rcases hM k hk with hk3 | hk3
    · exact ha k hk3 hk2
    · have := hl k hk2; omega
end

section
variable {α : Type} {R : World → (Nat → Prop) → α → List Value → Prop} {e : TypeId} {size base : Nat} {w : World} {F F' : Nat → Prop} {v : Value} {ps : List α} {P : Program} {ops : Array Oper} {rest : List Oper} {o : Oper} {a : Act} {Q : Exit → Act → World → Prop} {K : Act → World → Prop}
/-- The same in a walk, the box just laid. -/
theorem wpK_appRows (hR : LiesOk R size) (s x : Operand) (t : TypeId) (ho : o.op = .call { callee := .builtin .append, args := #[s, x], argTypes := #[t, t] })
    (ht : P.underlying t = some (.slice e)) (bytes : Nat) (hi : (P.info? e).map (fun i => (i.zero.map (·.cells.size), i.size, i.bytes)) = some (some size, size, bytes)) (hsz : 0 < size)
    (hs : a.eval s = v) (h : Hid (RowsOf R e size base w F v ps)) (y : α) (C : Array Value) (hy : Hid (R w F' y C.toList)) (hF : Hid (∀ k, F k → F' k)) (ha : Hid (∀ k, v.ownBlock = some k → ¬ F' k)) (hl : Hid (∀ k, F' k → k < w.heap.size))
    (hx : a.eval x = .slice (some ⟨w.heap.size, 0, none⟩) 1 1) (h63 : ps.length ≤ 1000000) (hb8 : bytes ≤ 10000) (hbase : base ≤ w.heap.size)
    (hK : ∀ v' w', Hid (RowsOf R e size base w' F' v' (ps ++ [y])) → Hid (Only (fun k => v.ownBlock = some k) w w') → Hid (Moved w v v') → K (a.put o.dst v') w') : o.wp P a (w.alloc (.cells C e)) K Q := by
  obtain ⟨ie, hie, h2⟩ := Option.map_eq_some_iff.1 hi
  simp only [Prod.mk.injEq] at h2
  obtain ⟨hz, hs1, hby⟩ := h2
  obtain ⟨z, hz1, hz2⟩ := Option.map_eq_some_iff.1 hz
  have hG : Below w.heap.size w (w.alloc (.cells C e)) := (Below.refl _ _).alloc (Nat.le_refl _) _
  have hO1 : Only (fun _ => False) w (w.alloc (.cells C e)) := Only.ofBelow hG
  obtain ⟨v', w', hr, k1, k2, k3⟩ := (h.out.below hR hG).app1 (P := P) hR t o.type ie z bytes ht hie hz1 hs1 hby hz2 hsz y C.toList (hR.only hy.out hO1 (fun _ _ h => h)) hF.out ha.out (fun k hk => Nat.lt_of_lt_of_le (hl.out k hk) hG.size) w.heap.size C rfl (heap_alloc_new w _) (by unfold maxLen; omega)
    (Nat.le_trans (Nat.mul_le_mul (Nat.succ_le_succ h63) hb8) (by decide)) (Nat.le_trans hbase hG.size)
  unfold Oper.wp execOp
  simp only [ho, resolve, invoke, builtin, Sem.run_bind, Sem.run_pure, Result.andThen_ok, List.map_toArray, List.map_cons, List.map_nil, hs, hx, hr]
  exact hK v' w' (Lib.hid k1) (Lib.hid ((hO1.mono (fun _ _ h => False.elim h)).trans k2 (fun _ _ h => h))) (Lib.hid fun k hk => (k3 k hk).imp id (fun h => Nat.le_trans hG.size h))
theorem wpList_appRows (hgd : o.guard = none) (hR : LiesOk R size) (s x : Operand) (t : TypeId) (ho : o.op = .call { callee := .builtin .append, args := #[s, x], argTypes := #[t, t] })
    (ht : P.underlying t = some (.slice e)) (bytes : Nat) (hi : (P.info? e).map (fun i => (i.zero.map (·.cells.size), i.size, i.bytes)) = some (some size, size, bytes)) (hsz : 0 < size)
    (hs : a.eval s = v) (h : Hid (RowsOf R e size base w F v ps)) (y : α) (C : Array Value) (hy : Hid (R w F' y C.toList)) (hF : Hid (∀ k, F k → F' k)) (ha : Hid (∀ k, v.ownBlock = some k → ¬ F' k)) (hl : Hid (∀ k, F' k → k < w.heap.size))
    (hx : a.eval x = .slice (some ⟨w.heap.size, 0, none⟩) 1 1) (h63 : ps.length ≤ 1000000) (hb8 : bytes ≤ 10000) (hbase : base ≤ w.heap.size)
    (hK : ∀ v' w', Hid (RowsOf R e size base w' F' v' (ps ++ [y])) → Hid (Only (fun k => v.ownBlock = some k) w w') → Hid (Moved w v v') → wpList P ops Q rest (a.put o.dst v') w') : wpList P ops Q (o :: rest) a (w.alloc (.cells C e)) := by
  refine wpList_plain hgd fun K' hK' => ?_
  exact wpK_appRows hR s x t ho ht bytes hi hsz hs h y C hy hF ha hl hx h63 hb8 hbase (fun v' w' a b c => hK' _ _ (hK v' w' a b c))
end

/-! RowsOf of bytes as elements. -/
end Go.Proofs.YtndgacjfkoliaaaDoor
