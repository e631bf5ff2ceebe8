/- RowsCp, RowApp. -/
import Derived.Test.YtndgacjfkoliaaaDoorF2PlaysSaid34
import Derived.Laws.AppendOwnNone
import Derived.Laws.OwnMore
import Derived.Test.YtndgacjfkoliaaaDoorF7PlaysSaid34
import Derived.Test.YtndgacjfkoliaaaDoorF3PlaysSaid34
/- Rows of things that lead elsewhere: the whole row appended to an empty one; one more whose box lies anywhere; one changed. Of whatever program. -/
namespace Go.Proofs.YtndgacjfkoliaaaDoor
open Go.RowKit

section
variable {α : Type} {R : World → (Nat → Prop) → α → List Value → Prop} {e : TypeId} {size base : Nat} {w : World} {F F' : Nat → Prop} {v : Value} {ps : List α} {P : Program} {ops : Array Oper} {rest : List Oper} {o : Oper} {a : Act} {Q : Exit → Act → World → Prop} {K : Act → World → Prop}
theorem owns_empty {w : World} {g base size : Nat} {e : TypeId} (h : w.heap[g]? = some (.cells #[] e (0, 0))) (hb : base ≤ g) : w.ownsRow base e size (.slice (some ⟨g, 0, none⟩) 0 0) 0 [] :=
  ⟨by simp, .inr ⟨g, 0, #[], rfl, hb, h, Nat.le_refl _, Nat.zero_le _, by simp, by simp⟩⟩
/-- 'append(empty, row...)'. -/
theorem wpList_appRowsAll {base' g : Nat} (hgd : o.guard = none) (hR : LiesOk R size) (s x : Operand) (t : TypeId) (ho : o.op = .call { callee := .builtin .append, args := #[s, x], argTypes := #[t, t] })
    (ht : P.underlying t = some (.slice e)) (bytes : Nat) (hi : (P.info? e).map (fun i => (i.zero.map (·.cells.size), i.size, i.bytes)) = some (some size, size, bytes)) (hsz : 0 < size)
    (hx : a.eval x = v) (h : Hid (RowsOf R e size base w F v ps)) (hs : a.eval s = .slice (some ⟨g, 0, none⟩) 0 0) (hg : Hid (w.heap[g]? = some (.cells #[] e (0, 0)))) (hbg : base' ≤ g) (hFg : Hid (¬ F g)) (hl : ps.length ≤ 1000000) (hb8 : bytes ≤ 10000)
    (hK : ∀ v' w', Hid (RowsOf R e size base' w' F v' ps) → Hid (Only (fun k => k = g) w w') → Hid (∀ k, v'.ownBlock = some k → k = g ∨ k = w.heap.size) → wpList P ops Q rest (a.put o.dst v') w') : wpList P ops Q (o :: rest) a w := by
  obtain ⟨ie, hie, h2⟩ := Option.map_eq_some_iff.1 hi
  simp only [Prod.mk.injEq] at h2
  obtain ⟨hz, hs1, hby⟩ := h2
  obtain ⟨z, hz1, hz2⟩ := Option.map_eq_some_iff.1 hz
  have hgl := block_lt hg.out
  have hown := owns_empty (size := size) hg.out hbg
  obtain ⟨⟨css, k1, k2, k3⟩, k4, k5⟩ := h.out
  rcases k2.2 with ⟨rfl, h0⟩ | ⟨g0, cap, cur, rfl, hb0, hh, hn, hc, hcs, htk⟩
  · have hps : ps = [] := List.eq_nil_of_length_eq_zero h0
    subst hps
    refine wpList_append_own_none hgd s x t ho base' e ie size ht hie _ _ _ hs hown hx ?_
    refine hK _ _ (Lib.hid ⟨⟨[], rfl, by simpa using hown, fun i x cs hq => by simp at hq⟩, fun k hk => ?_, k5⟩) (Lib.hid (Only.refl _ _)) (Lib.hid fun k hk => ?_)
    · obtain rfl : g = k := by simpa [Value.ownBlock] using hk
      exact hFg.out
    · exact .inl (by simpa [Value.ownBlock] using hk.symm)
  · have hlen : css.flatten.length = ps.length * size := k2.1
    have hone : ∀ u ∈ css.flatten, u.oneCell' = true := by
      intro u hu
      obtain ⟨cs, hcs2, hu2⟩ := List.mem_flatten.1 hu
      obtain ⟨j, hj⟩ := List.mem_iff_getElem?.1 hcs2
      have hj2 := (List.getElem?_eq_some_iff.1 hj).1
      exact (hR.len (k3 j _ cs (List.getElem?_eq_getElem (by omega)) hj)).2 u hu2
    refine wpList_append_own_at (w := w) hgd s x t ho base' e ie z size bytes ht hie hz1 hs1 hby hz2 hsz _ 0 [] hs hown ⟨g0, 0, none⟩ ps.length cap css.flatten hx hlen (k2.cells (g := g0) rfl) hone (by unfold maxLen; omega)
      (by rw [Nat.zero_add]; exact Nat.le_trans (Nat.mul_le_mul hl hb8) (by decide)) (by omega) ?_
    intro v' w' m1 m2 _ m4
    rw [Nat.zero_add, List.nil_append] at m1
    have hO : Only (fun k => k = g) w w' := Only.ofGrown m2 (fun k hk => by simpa [Value.ownBlock] using hk.symm)
    have hv : ∀ k, v'.ownBlock = some k → k = g ∨ k = w.heap.size := fun k hk => by
      rcases m4 with m4 | m4
      · rw [m4] at hk; exact .inl (by simpa [Value.ownBlock] using hk.symm)
      · rw [m4] at hk; exact .inr (by simpa using hk.symm)
    refine hK _ _ (Lib.hid ⟨⟨css, k1, m1, fun i x cs hq hd => hR.only (k3 i x cs hq hd) hO (fun k hk e => hFg.out (e ▸ hk))⟩, fun k hk hF => ?_, fun k hk => Nat.lt_of_lt_of_le (k5 k hk) hO.size⟩) (Lib.hid hO) (Lib.hid hv)
    rcases hv k hk with rfl | rfl
    · exact hFg.out hF
    · exact Nat.lt_irrefl _ (k5 _ hF)
/-- 'append(s, x)', the box of x anywhere. -/
theorem wpK_appRowsAt (hR : LiesOk R size) (s x : Operand) (t : TypeId) (ho : o.op = .call { callee := .builtin .append, args := #[s, x], argTypes := #[t, t] })
    (ht : P.underlying t = some (.slice e)) (bytes : Nat) (hi : (P.info? e).map (fun i => (i.zero.map (·.cells.size), i.size, i.bytes)) = some (some size, size, bytes)) (hsz : 0 < size)
    (hs : a.eval s = v) (h : Hid (RowsOf R e size base w F v ps)) (y : α) (g : Nat) (C : Array Value) (hy : Hid (R w F' y C.toList)) (hF : Hid (∀ k, F k → F' k)) (ha : Hid (∀ k, v.ownBlock = some k → ¬ F' k)) (hl : Hid (∀ k, F' k → k < w.heap.size))
    (hx : a.eval x = .slice (some ⟨g, 0, none⟩) 1 1) (hg : Hid (w.heap[g]? = some (.cells C e (0, 0)))) (h63 : ps.length ≤ 1000000) (hb8 : bytes ≤ 10000) (hbase : base ≤ w.heap.size)
    (hK : ∀ v' w', Hid (RowsOf R e size base w' F' v' (ps ++ [y])) → Hid (Only (fun k => v.ownBlock = some k) w w') → Hid (Moved w v v') → K (a.put o.dst v') w') : o.wp P a w K Q := by
  obtain ⟨ie, hie, h2⟩ := Option.map_eq_some_iff.1 hi
  simp only [Prod.mk.injEq] at h2
  obtain ⟨hz, hs1, hby⟩ := h2
  obtain ⟨z, hz1, hz2⟩ := Option.map_eq_some_iff.1 hz
  obtain ⟨v', w', hr, k1, k2, k3⟩ := h.out.app1 (P := P) hR t o.type ie z bytes ht hie hz1 hs1 hby hz2 hsz y C.toList hy.out hF.out ha.out hl.out g C rfl hg.out (by unfold maxLen; omega)
    (Nat.le_trans (Nat.mul_le_mul (Nat.succ_le_succ h63) hb8) (by decide)) hbase
  unfold Oper.wp execOp
  simp only [ho, resolve, invoke, builtin, Sem.run_bind, Sem.run_pure, Result.andThen_ok, List.map_toArray, List.map_cons, List.map_nil, hs, hx, hr]
  exact hK v' w' (Lib.hid k1) (Lib.hid k2) (Lib.hid k3)
theorem wpList_appRowsAt (hgd : o.guard = none) (hR : LiesOk R size) (s x : Operand) (t : TypeId) (ho : o.op = .call { callee := .builtin .append, args := #[s, x], argTypes := #[t, t] })
    (ht : P.underlying t = some (.slice e)) (bytes : Nat) (hi : (P.info? e).map (fun i => (i.zero.map (·.cells.size), i.size, i.bytes)) = some (some size, size, bytes)) (hsz : 0 < size)
    (hs : a.eval s = v) (h : Hid (RowsOf R e size base w F v ps)) (y : α) (g : Nat) (C : Array Value) (hy : Hid (R w F' y C.toList)) (hF : Hid (∀ k, F k → F' k)) (ha : Hid (∀ k, v.ownBlock = some k → ¬ F' k)) (hl : Hid (∀ k, F' k → k < w.heap.size))
    (hx : a.eval x = .slice (some ⟨g, 0, none⟩) 1 1) (hg : Hid (w.heap[g]? = some (.cells C e (0, 0)))) (h63 : ps.length ≤ 1000000) (hb8 : bytes ≤ 10000) (hbase : base ≤ w.heap.size)
    (hK : ∀ v' w', Hid (RowsOf R e size base w' F' v' (ps ++ [y])) → Hid (Only (fun k => v.ownBlock = some k) w w') → Hid (Moved w v v') → wpList P ops Q rest (a.put o.dst v') w') : wpList P ops Q (o :: rest) a w := by
  refine wpList_plain hgd fun K' hK' => ?_
  exact wpK_appRowsAt hR s x t ho ht bytes hi hsz hs h y g C hy hF ha hl hx hg h63 hb8 hbase (fun v' w' a b c => hK' _ _ (hK v' w' a b c))
theorem flatten_set1 : ∀ (css : List (List Value)), (∀ cs ∈ css, cs.length = 1) → ∀ (i : Nat) (u : Value), css.flatten.set i u = (css.set i [u]).flatten
  | [], _, _, _ => rfl
  | c :: css, h, i, u => by
    have hc := h c (List.mem_cons_self ..)
    cases i with
    | zero =>
      rw [List.flatten_cons, List.set_append_left _ _ (by omega), List.set_cons_zero, List.flatten_cons]
      congr 1
      match c, hc with
      | [x], _ => rfl
    | succ i =>
      rw [List.flatten_cons, List.set_append_right _ _ (by omega), hc, Nat.add_sub_cancel, List.set_cons_succ, List.flatten_cons, flatten_set1 css (fun cs hcs => h cs (List.mem_cons_of_mem _ hcs)) i u]
/-- One cell of a row of things of one cell is stored. -/
theorem RowsOf.set1 {g n c : Nat} (hR : LiesOk R 1) (h : RowsOf R e 1 base w F (.slice (some ⟨g, 0, none⟩) n c) ps) (i : Nat) (x : α) (u : Value) (hx : R w F' x [u]) (hF : ∀ k, F k → F' k) (hg : ¬ F' g) (hl : ∀ k, F' k → k < w.heap.size) :
    RowsOf R e 1 base (w.setCell ⟨g, i, none⟩ u) F' (.slice (some ⟨g, 0, none⟩) n c) (ps.set i x) := by
  obtain ⟨⟨css, h1, h2, h3⟩, h4, h5⟩ := h
  have hO : Only (fun k => k = g) w (w.setCell ⟨g, i, none⟩ u) := (Only.refl _ w).setCell ⟨g, i, none⟩ u (fun _ => rfl)
  have hn : n = ps.length := by
    rcases h2.2 with ⟨e1, _⟩ | ⟨g0, cap, cur, e1, _⟩
    · cases e1
    · cases e1; rfl
  have hone : ∀ cs ∈ css, cs.length = 1 := by
    intro cs hcs
    obtain ⟨j, hj⟩ := List.mem_iff_getElem?.1 hcs
    have hj2 := (List.getElem?_eq_some_iff.1 hj).1
    exact (hR.len (h3 j _ cs (List.getElem?_eq_getElem (by omega)) hj)).1
  subst hn
  have h6 := (World.ownsRow.stored h2 i u).1
  rw [flatten_set1 css hone i u] at h6
  refine ⟨⟨css.set i [u], by simp [h1], by rw [List.length_set]; exact h6, fun j y cs hy hc => ?_⟩, fun k hk => ?_, fun k hk => Nat.lt_of_lt_of_le (hl k hk) hO.size⟩
  · rw [List.getElem?_set] at hy hc
    by_cases hij : i = j
    · subst hij
      simp only [if_true] at hy hc
      split at hy
      · rw [if_pos (by omega)] at hc
        cases hy; cases hc
        exact hR.only hx hO (fun k hk e => hg (e ▸ hk))
      · cases hy
    · rw [if_neg hij] at hy hc
      exact hR.only (hR.more (h3 j y cs hy hc) hF) hO (fun k hk e => hg (e ▸ hk))
  · obtain rfl : g = k := by simpa [Value.ownBlock] using hk
    exact hg
end
end Go.Proofs.YtndgacjfkoliaaaDoor
/- 'append(empty, row...)' where the row is one that only is read (RowAt). Of whatever program. -/
namespace Go.Proofs.YtndgacjfkoliaaaDoor
open Go.RowKit

section
variable {α : Type} {en : α → List Value} {e : TypeId} {size base : Nat} {w : World} {P : Program} {ops : Array Oper} {rest : List Oper} {o : Oper} {a : Act} {Q : Exit → Act → World → Prop} {K : Act → World → Prop}
theorem run_appRowA {g : Nat} {xs : List α} {ad : Option Addr} {c : Nat} (t ty : TypeId) (ht : P.underlying t = some (.slice e)) (bytes : Nat) (hi : (P.info? e).map (fun i => (i.zero.map (·.cells.size), i.size, i.bytes)) = some (some size, size, bytes)) (hsz : 0 < size)
    (h : RowAt en size w ad xs) (hlen : ∀ y ∈ xs, (en y).length = size) (hone : ∀ y ∈ xs, ∀ u ∈ en y, u.oneCell' = true) (hg : w.heap[g]? = some (.cells #[] e (0, 0))) (hbg : base ≤ g) (hl : xs.length ≤ 1000000) (hb8 : bytes ≤ 10000) :
    ∃ v' w', (Builtin.append_ #[t, t] ty #[.slice (some ⟨g, 0, none⟩) 0 0, .slice ad xs.length c]).run P w = .ok v' w' ∧ w'.ownsRow base e size v' xs.length (xs.flatMap en) ∧ Only (fun k => k = g) w w' ∧ ∀ k, v'.ownBlock = some k → k = g ∨ k = w.heap.size := by
  obtain ⟨ie, hie, h2⟩ := Option.map_eq_some_iff.1 hi
  simp only [Prod.mk.injEq] at h2
  obtain ⟨hz, hs1, hby⟩ := h2
  obtain ⟨z, hz1, hz2⟩ := Option.map_eq_some_iff.1 hz
  have hgl := block_lt hg
  have hown := owns_empty (size := size) hg hbg
  cases ad with
  | none =>
    have hx0 : xs = [] := by
      cases xs with
      | nil => rfl
      | cons x xs => obtain ⟨b, o, e, _⟩ := h 0 (by simp); cases e
    subst hx0
    refine ⟨_, w, ?_, by simpa using hown, Only.refl _ _, fun k hk => .inl (by simpa [Value.ownBlock] using hk.symm)⟩
    simp [Builtin.append_, run_underlying ht, sizeOf, typeInfo, hie, Builtin.lenOf, Builtin.firstCells, storeCells]
  | some ad =>
    have hcells : ∀ j u, (xs.flatMap en)[j]? = some u → w.cell? (ad.add j) = some u := fun j u hu => by
      cases xs with
      | nil => simp at hu
      | cons x0 xt =>
        obtain ⟨b, o, e, _⟩ := h 0 (by simp)
        cases e
        rw [Addr.add_mid]
        exact flat_range hsz hlen (fun k hk => by obtain ⟨b', o', e', h'⟩ := h k hk; cases e'; exact h') j u hu
    obtain ⟨v', w', hr, m1, m2, _, m4⟩ := run_append_own_at (P := P) w base t ty e ie z size bytes ht hie hz1 hs1 hby hz2 hsz _ 0 [] hown ad xs.length c (xs.flatMap en) (flatMap_len xs hlen) hcells (fun u hu => by
      obtain ⟨y, hy, hu2⟩ := List.mem_flatMap.1 hu
      exact hone y hy u hu2) (by unfold maxLen; omega)
      (by rw [Nat.zero_add]; exact Nat.le_trans (Nat.mul_le_mul hl hb8) (by decide)) (by omega)
    rw [Nat.zero_add, List.nil_append] at m1
    refine ⟨v', w', hr, m1, Only.ofGrown m2 (fun k hk => by simpa [Value.ownBlock] using hk.symm), fun k hk => ?_⟩
    rcases m4 with m4 | m4
    · rw [m4] at hk; exact .inl (by simpa [Value.ownBlock] using hk.symm)
    · rw [m4] at hk; exact .inr (by simpa using hk.symm)
theorem wpK_appRowA {g : Nat} {xs : List α} {ad : Option Addr} {c N : Nat} (s x : Operand) (t : TypeId) (ho : o.op = .call { callee := .builtin .append, args := #[s, x], argTypes := #[t, t] })
    (ht : P.underlying t = some (.slice e)) (bytes : Nat) (hi : (P.info? e).map (fun i => (i.zero.map (·.cells.size), i.size, i.bytes)) = some (some size, size, bytes)) (hsz : 0 < size)
    (hx : a.eval x = .slice ad N c) (hN : xs.length = N) (h : Hid (RowAt en size w ad xs)) (hlen : Hid (∀ y ∈ xs, (en y).length = size)) (hone : Hid (∀ y ∈ xs, ∀ u ∈ en y, u.oneCell' = true))
    (hs : a.eval s = .slice (some ⟨g, 0, none⟩) 0 0) (hg : Hid (w.heap[g]? = some (.cells #[] e (0, 0)))) (hbg : base ≤ g) (hl : xs.length ≤ 1000000) (hb8 : bytes ≤ 10000)
    (hK : ∀ v' w', Hid (w'.ownsRow base e size v' xs.length (xs.flatMap en)) → Hid (Only (fun k => k = g) w w') → Hid (∀ k, v'.ownBlock = some k → k = g ∨ k = w.heap.size) → K (a.put o.dst v') w') : o.wp P a w K Q := by
  subst hN
  obtain ⟨v', w', hr, k1, k2, k3⟩ := run_appRowA (c := c) (base := base) t o.type ht bytes hi hsz h.out hlen.out hone.out hg.out hbg hl hb8
  unfold Oper.wp execOp
  simp only [ho, resolve, invoke, builtin, Sem.run_bind, Sem.run_pure, Result.andThen_ok, List.map_toArray, List.map_cons, List.map_nil, hs, hx, hr]
  exact hK v' w' (Lib.hid k1) (Lib.hid k2) (Lib.hid k3)
theorem wpList_appRowA {g : Nat} {xs : List α} {ad : Option Addr} {c N : Nat} (hgd : o.guard = none) (s x : Operand) (t : TypeId) (ho : o.op = .call { callee := .builtin .append, args := #[s, x], argTypes := #[t, t] })
    (ht : P.underlying t = some (.slice e)) (bytes : Nat) (hi : (P.info? e).map (fun i => (i.zero.map (·.cells.size), i.size, i.bytes)) = some (some size, size, bytes)) (hsz : 0 < size)
    (hx : a.eval x = .slice ad N c) (hN : xs.length = N) (h : Hid (RowAt en size w ad xs)) (hlen : Hid (∀ y ∈ xs, (en y).length = size)) (hone : Hid (∀ y ∈ xs, ∀ u ∈ en y, u.oneCell' = true))
    (hs : a.eval s = .slice (some ⟨g, 0, none⟩) 0 0) (hg : Hid (w.heap[g]? = some (.cells #[] e (0, 0)))) (hbg : base ≤ g) (hl : xs.length ≤ 1000000) (hb8 : bytes ≤ 10000)
    (hK : ∀ v' w', Hid (w'.ownsRow base e size v' xs.length (xs.flatMap en)) → Hid (Only (fun k => k = g) w w') → Hid (∀ k, v'.ownBlock = some k → k = g ∨ k = w.heap.size) → wpList P ops Q rest (a.put o.dst v') w') : wpList P ops Q (o :: rest) a w := by
  refine wpList_plain hgd fun K' hK' => ?_
  exact wpK_appRowA s x t ho ht bytes hi hsz hx hN h hlen hone hs hg hbg hl hb8 (fun v' w' a b c => hK' _ _ (hK v' w' a b c))
end
end Go.Proofs.YtndgacjfkoliaaaDoor
