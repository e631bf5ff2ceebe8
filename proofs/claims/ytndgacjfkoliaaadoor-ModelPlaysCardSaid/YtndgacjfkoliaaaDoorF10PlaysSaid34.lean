/- Ints, Sent. -/
import Derived.Test.YtndgacjfkoliaaaDoorMem
import Derived.Test.YtndgacjfkoliaaaDoorRows
import Derived.Outline
import Derived.Test.YtndgacjfkoliaaaDoorBase
import Derived.Stop.LaidErr
import Derived.LaidHandle
import Derived.LaidMore
/- Lists of ints that a call makes. -/
namespace Go.Proofs.YtndgacjfkoliaaaDoor
open Go.RowKit

/-- What the type int says. -/
theorem Tryd.infoIntP : (Tryd.prog.info? 3).map (fun i => (i.zero, i.size, i.bytes)) = some (some (.int .i64 0), 1, 8) := by kernel_rfl
/-- Ints of the call's own. -/
def OwnI (base : Nat) (w : World) (v : Value) (zs : List Int) : Prop := w.ownsRow base 3 1 v zs.length (cI zs)
theorem OwnI.nil (base : Nat) (w : World) : OwnI base w (.slice none 0 0) [] := ⟨rfl, .inl ⟨rfl, rfl⟩⟩
theorem OwnI.mono {base base' : Nat} {w : World} {v : Value} {bs : List Int} (h : OwnI base w v bs) (hb : base' ≤ base) : OwnI base' w v bs := by
  obtain ⟨h1, h2⟩ := h
  refine ⟨h1, ?_⟩
  rcases h2 with h2 | ⟨g, cap, cur, e1, e2, e3⟩
  · exact .inl h2
  · exact .inr ⟨g, cap, cur, e1, by omega, e3⟩
theorem OwnI.below {base B : Nat} {w w' : World} {v : Value} {bs : List Int} (h : OwnI base w v bs) (hb : Below B w w') (hB : w.heap.size ≤ B) : OwnI base w' v bs := by
  refine ⟨h.1, ?_⟩
  rcases h.2 with h2 | ⟨g, cap, cur, e1, e2, e3, e4⟩
  · exact .inl h2
  · exact .inr ⟨g, cap, cur, e1, e2, (hb.block g (by have := block_lt e3; omega)).trans e3, e4⟩
theorem OwnI.row {base : Nat} {w : World} {v : Value} {zs : List Int} (h : OwnI base w v zs) : ∃ a c, v = .slice a zs.length c ∧ zs.length ≤ c ∧ c ≤ maxLen ∧ (a = none → c = 0) ∧ RowI .i64 w a zs ∧ ∀ b o s, a = some ⟨b, o, s⟩ → base ≤ b ∧ b < w.heap.size := by
  obtain ⟨a, c, rfl, h1, h2, h3, h4, _, h5⟩ := owns_any h
  rw [cI_length] at h2
  exact ⟨a, c, by rw [cI_length], h2, h3, h1, h4.toI, h5⟩

section
variable {w : World} {ops : Array Oper} {rest : List Oper} {o : Oper} {a : Act} {Q : Exit → Act → World → Prop}
/-- 'append(s, x)' of one int. -/
theorem wpI_app1 (hgd : o.guard = none) (s x : Operand) (ho : o.op = .call { callee := .builtin .append, args := #[s, x], argTypes := #[102, 102] })
    (base : Nat) (v : Value) (bs : List Int) (hs : a.eval s = v) (hown : Hid (OwnI base w v bs))
    (u : Int) (hx : a.eval x = .slice (some ⟨w.heap.size, 0, none⟩) 1 1) (hl : bs.length ≤ 1000000) (hbase : base ≤ w.heap.size)
    (h : ∀ v' w', Hid (OwnI base w' v' (bs ++ [u])) → Hid (Below base w w') → wpList Tryd.prog ops Q rest (a.put o.dst v') w') :
    wpList Tryd.prog ops Q (o :: rest) a (w.alloc (.cells #[.int .i64 u] 3)) := by
  obtain ⟨i0, hi, hz0, hz1, hz2⟩ := info_parts Tryd.infoIntP
  refine wpList_append1 hgd s x 102 ho base 3 i0 (.int .i64 0) 8 Tryd.underlying102 hi hz0 hz1 hz2 rfl v bs.length (cI bs) hs (Lib.hid hown.out) (.int .i64 u) hx rfl (by unfold maxLen; omega) (by omega) hbase ?_
  intro v' w' h1 h2 _
  refine h v' w' (Lib.hid ?_) (Lib.hid ((Below.refl base w).grown h2.out hbase (fun k hk => (World.ownsRow.lt hown.out k hk).1)))
  unfold OwnI
  rw [cI_append, List.length_append]
  exact h1.out
end

end Go.Proofs.YtndgacjfkoliaaaDoor
/- What the rows' list gives at sentinels ('var ErrX = errors.New(..)'), as many as there are: of whatever program. -/
namespace Go.Proofs.YtndgacjfkoliaaaDoor
open Go.RowKit Go.ChangeShapes

/-- The datum of a sentinel. -/
def sentD (nm : String) (text : List UInt8) : DataW Unit := .iface nm (.ptr (.agg [.lit (.string text)]))

section
variable {P : Program} {nm : String} {W : World} {ti tp te ts : TypeId} {ms : Array (String × TypeId)} {f : Field}

theorem laid_sents (hi : P.underlying ti = some (.interface ms)) (hrow : ∀ u, P.typeName? 3 u = some nm → u = tp)
    (hp : P.underlying tp = some (.pointer te)) (he : P.underlying te = some (.struct #[f])) (hft : f.type = ts) (hfo : f.offset = 0) (hs : P.underlying ts = some .string) (hc : P.cellsOf te = 1) (hcs : P.cellsOf ts = 1)
    (R : List (String × DataW Unit)) : ∀ (L : List (String × List UInt8)) (gs : List Nat) (ps : List MemPlace), L.length = gs.length →
    (L.zip gs).all (fun x => decide (P.globalNamed x.1.1 = some x.2) && decide ((P.globals[x.2]?).map (·.type) = some ti)) = true →
    DataW.LaidVars P W (L.map (fun x => (x.1, sentD nm x.2)) ++ R) ps → ps.Nodup →
    (∀ b off, MemPlace.cell b off ∈ ps → (∃ c t, W.heap[b]? = some (.cells c t (0, 0))) ∧ ∀ u v, W.cell? ⟨b, off, none⟩ = some (.iface u v) → Value.okWide P W .any 0 u v) →
    ∃ als : List Addr, als.length = gs.length ∧ als.Nodup ∧ (∀ a ∈ als, MemPlace.cell a.block a.off ∈ ps ∧ a.spot = none ∧ ∃ c t, W.heap[a.block]? = some (.cells c t (0, 0))) ∧
      ∀ i, i < gs.length → ∃ a, als[i]? = some a ∧ W.cell? ⟨gs.getD i 0, 0, none⟩ = some (.iface tp (.pointer (some a))) := by
  intro L
  induction L with
  | nil =>
    intro gs ps hl _ _ _ _
    have : gs = [] := by cases gs <;> simp_all
    subst this
    exact ⟨[], rfl, List.nodup_nil, fun a h => (by cases h), fun i h => (by simp at h)⟩
  | cons x L ih =>
    intro gs ps hl hg hv hnd hrows
    cases gs with
    | nil => simp at hl
    | cons g gs =>
      simp only [List.zip_cons_cons, List.all_cons, Bool.and_eq_true, decide_eq_true_eq] at hg
      obtain ⟨⟨hg0, ht0⟩, hg'⟩ := hg
      simp only [List.map_cons, List.cons_append] at hv
      obtain ⟨g0, t0, cs0, f0, p0, q0, hg0', ht0', hv0, hd0, hr0, e0⟩ := hv
      obtain rfl := Option.some.inj (hg0.symm.trans hg0')
      obtain rfl := Option.some.inj (ht0.symm.trans ht0')
      subst e0
      obtain ⟨l0⟩ := cs0
      have ok0 : ∀ u v, l0 = [.iface u v] → Value.okWide P W .any 0 u v := fun u v e => by
        subst e
        exact (hrows g 0 (by simp [MemPlace.row])).2 u v (by simpa using World.var?_cell hg0' hv0 0)
      obtain ⟨a0, s0, rfl, hc0, hs0, hz0, rfl⟩ := errorString_of_trod hi hrow hp he hft hfo hs hc hcs hd0 ok0
      have hm0 : MemPlace.cell a0.block a0.off ∈ MemPlace.row ⟨g, 0, none⟩ [Value.iface tp (.pointer (some a0))].toArray.size ++ MemPlace.row a0 1 ++ q0 := by simp [MemPlace.row]
      have hsp0 : a0.spot = none := World.cell?_spot hc0
      obtain ⟨als, h1, h2, h3, h4⟩ := ih gs q0 (by simpa using hl) hg' hr0 (List.Nodup.sublist (List.sublist_append_right _ _) hnd) (fun b off hm => hrows b off (List.mem_append_right _ hm))
      refine ⟨a0 :: als, by simp [h1], ?_, ?_, ?_⟩
      · rw [List.nodup_cons]
        refine ⟨fun hm => ?_, h2⟩
        have hq := (h3 a0 hm).1
        rw [List.append_assoc, List.nodup_append] at hnd
        have hnd2 := (List.nodup_append.1 hnd.2.1).2.2
        exact hnd2 (MemPlace.cell a0.block a0.off) (by simp [MemPlace.row]) (MemPlace.cell a0.block a0.off) hq rfl
      · intro a ha
        rcases List.mem_cons.1 ha with rfl | ha
        · exact ⟨hm0, hsp0, (hrows _ _ hm0).1⟩
        · obtain ⟨k1, k2, k3⟩ := h3 a ha
          exact ⟨List.mem_append_right _ k1, k2, k3⟩
      · intro i hi'
        cases i with
        | zero => exact ⟨a0, rfl, by simpa using World.var?_cell hg0' hv0 0⟩
        | succ i =>
          obtain ⟨a, k1, k2⟩ := h4 i (by simpa using hi')
          exact ⟨a, by simpa using k1, by simpa using k2⟩
end

/-- THE SENTINELS AS A WALK WANTS THEM: the variable number gs[i] holds a pointer to an error of its own, a i. -/
structure Errs (tp : TypeId) (gs : List Nat) (w : World) (a : Nat → Addr) : Prop where
  var : ∀ i, i < gs.length → w.cell? ⟨gs.getD i 0, 0, none⟩ = some (.iface tp (.pointer (some (a i))))
  obj : ∀ i, i < gs.length → ∃ c t, w.heap[(a i).block]? = some (.cells c t (0, 0))
  inj : ∀ i j, i < gs.length → j < gs.length → a i = a j → gs.getD i 0 = gs.getD j 0
theorem Errs.inj' {tp : TypeId} {gs : List Nat} {w : World} {a : Nat → Addr} (h : Errs tp gs w a) (hn : gs.Nodup) (i j : Nat) (hi : i < gs.length) (hj : j < gs.length) (e : a i = a j) : i = j := by
  have h1 := h.inj i j hi hj e
  rw [List.getD_eq_getElem?_getD, List.getD_eq_getElem?_getD, List.getElem?_eq_getElem hi, List.getElem?_eq_getElem hj] at h1
  exact (List.getElem_inj hn).1 h1
/-- Another list of the same sentinels: one may stand twice. -/
theorem Errs.sub {tp : TypeId} {gs gs' : List Nat} {w : World} {a : Nat → Addr} (h : Errs tp gs w a) (pos : Nat → Nat) (hp : ∀ i, i < gs'.length → pos i < gs.length ∧ gs.getD (pos i) 0 = gs'.getD i 0) : Errs tp gs' w (fun i => a (pos i)) := by
  refine ⟨fun i hi => ?_, fun i hi => h.obj _ (hp i hi).1, fun i j hi hj e => ?_⟩
  · rw [← (hp i hi).2]
    exact h.var _ (hp i hi).1
  · rw [← (hp i hi).2, ← (hp j hj).2]
    exact h.inj _ _ (hp i hi).1 (hp j hj).1 e

theorem Errs.below {tp : TypeId} {gs : List Nat} {w w' : World} {a : Nat → Addr} (h : Errs tp gs w a) (hb : Below w.heap.size w w') : Errs tp gs w' a := by
  refine ⟨fun i hi => ?_, fun i hi => ?_, h.inj⟩
  · have h1 := h.var i hi
    exact (hb.cell (World.block_lt_of_cell? w _ h1)).trans h1
  · obtain ⟨c, t, h1⟩ := h.obj i hi
    exact ⟨c, t, (hb.block _ (block_lt h1)).trans h1⟩

theorem Errs.of_list {tp : TypeId} {gs : List Nat} {w : World} {als : List Addr} (h1 : als.length = gs.length) (h2 : als.Nodup) (h3 : ∀ a ∈ als, ∃ c t, w.heap[a.block]? = some (.cells c t (0, 0)))
    (h4 : ∀ i, i < gs.length → ∃ a, als[i]? = some a ∧ w.cell? ⟨gs.getD i 0, 0, none⟩ = some (.iface tp (.pointer (some a)))) : Errs tp gs w (fun i => als.getD i ⟨0, 0, none⟩) := by
  refine ⟨fun i hi => ?_, fun i hi => ?_, fun i j hi hj e => ?_⟩
  · obtain ⟨a, k1, k2⟩ := h4 i hi
    simpa [List.getD_eq_getElem?_getD, k1] using k2
  · obtain ⟨a, k1, k2⟩ := h4 i hi
    have := h3 a (List.mem_of_getElem? k1)
    simpa [List.getD_eq_getElem?_getD, k1] using this
  · have hi' : i < als.length := by omega
    have hj' : j < als.length := by omega
    simp [hi', hj'] at e
    have e2 := (List.getElem_inj h2).1 e
    rw [e2]

end Go.Proofs.YtndgacjfkoliaaaDoor
