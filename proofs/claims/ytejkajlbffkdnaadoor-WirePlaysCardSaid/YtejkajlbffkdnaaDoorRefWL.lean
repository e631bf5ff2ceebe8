/- The reference's wire in memory; append of cells as a step of a region that draws. -/
import Derived.Test.YtejkajlbffkdnaaDoorWireApp
import Derived.Test.YtejkajlbffkdnaaDoorWire2L
namespace Go.Proofs.YtejkajlbffkdnaaDoor
open Go.RowKit

def rcells (y z : Way) : Array Value := #[y.v, z.v, .int .i64 y.i, .int .i64 y.o, .int .i64 y.l, .int .i64 z.i, .int .i64 z.o, .int .i64 z.l]
/-- A row of the reference: its messages may be shared, nobody writes to them. -/
structure RowR (base : Nat) (w : World) (y : Way) : Prop where
  own : w.ownsRow base 27 1 y.v y.ms.length (y.ms.map encM)
  msg : ∀ m ∈ y.ms, 0 < m.bs.length ∧ m.bs.length ≤ 8000 ∧ OwnB base w (encM m) m.bs
structure RefW (base : Nat) (w : World) (M : Nat) (T : TypeId) (y z : Way) : Prop where
  at_ : w.heap[M]? = some (.cells (rcells y z) T (0, 0))
  ge : base ≤ M
  ok0 : RowR base w y
  ok1 : RowR base w z
  n0 : M ∉ y.blks
  n1 : M ∉ z.blks
def RefW.D (M : Nat) (y z : Way) (k : Nat) : Prop := k = M ∨ k ∈ y.blks ∨ k ∈ z.blks
theorem RowR.lt {base : Nat} {w : World} {y : Way} (h : RowR base w y) : ∀ k, k ∈ y.blks → base ≤ k ∧ k < w.heap.size := by
  intro k hk
  simp only [Way.blks, List.mem_append, Option.mem_toList, List.mem_map] at hk
  rcases hk with hk | ⟨m, hm, rfl⟩
  · exact World.ownsRow.lt h.own k hk
  · obtain ⟨_, _, ho⟩ := h.msg m hm
    exact World.ownsRow.lt ho m.b rfl
theorem RowR.only {base : Nat} {w w' : World} {y : Way} {D : Nat → Prop} (h : RowR base w y) (ho : Only D w w') (hd : ∀ k, k ∈ y.blks → ¬ D k) : RowR base w' y := by
  refine ⟨ho.owns h.own fun k hk => hd k ?_, fun m hm => ?_⟩
  · simp only [Way.blks, List.mem_append, Option.mem_toList]; exact .inl hk
  · obtain ⟨h1, h2, h3⟩ := h.msg m hm
    refine ⟨h1, h2, ho.owns h3 fun k hk => hd k ?_⟩
    simp only [Way.blks, List.mem_append, List.mem_map]
    exact .inr ⟨m, hm, by simpa [encM, Value.ownBlock] using hk⟩
theorem RefW.only {base : Nat} {w w' : World} {M : Nat} {T : TypeId} {y z : Way} {D : Nat → Prop} (h : RefW base w M T y z) (ho : Only D w w') (hd : ∀ k, RefW.D M y z k → ¬ D k) : RefW base w' M T y z :=
  ⟨ho.heap h.at_ (hd M (.inl rfl)), h.ge, h.ok0.only ho fun k hk => hd k (.inr (.inl hk)), h.ok1.only ho fun k hk => hd k (.inr (.inr hk)), h.n0, h.n1⟩
theorem RefW.lt {base : Nat} {w : World} {M : Nat} {T : TypeId} {y z : Way} (h : RefW base w M T y z) : ∀ k, RefW.D M y z k → base ≤ k ∧ k < w.heap.size := by
  rintro k (rfl | hk | hk)
  · exact ⟨h.ge, block_lt h.at_⟩
  · exact h.ok0.lt k hk
  · exact h.ok1.lt k hk
theorem RefW.c {base : Nat} {w : World} {M : Nat} {T : TypeId} {y z : Way} (h : RefW base w M T y z) (j : Nat) : w.cell? ⟨M, j, none⟩ = (rcells y z)[j]? := cell_of_block h.at_ j
theorem RefW.f {base : Nat} {w : World} {M : Nat} {T : TypeId} {y z : Way} (h : RefW base w M T y z) (j : Nat) : w.frozen? ⟨M, j, none⟩ = false := free_of_block h.at_ j
theorem RowR.form {base : Nat} {w : World} {y : Way} (h : RowR base w y) : ∃ a c, y.v = .slice a y.ms.length c ∧ y.ms.length ≤ c ∧ c ≤ maxLen ∧ (a = none → c = 0) ∧ At w a (y.ms.map encM) := by
  rcases h.own.2 with ⟨e, h0⟩ | ⟨g, cap, cur, e, _, _, h1, h2, _⟩
  · refine ⟨none, 0, by rw [e, h0], by omega, by decide, fun _ => rfl, fun i hi => ?_⟩
    simp only [List.length_map] at hi
    omega
  · have ho := h.own
    rw [e] at ho
    exact ⟨_, cap, e, h1, h2, (fun e => by cases e), owns_at ho⟩
theorem RowR.form1 {base : Nat} {w : World} {y : Way} (h : RowR base w y) (hne : 0 < y.ms.length) : ∃ g c, y.v = .slice (some ⟨g, 0, none⟩) y.ms.length c := by
  rcases h.own.2 with ⟨e, h0⟩ | ⟨g, cap, cur, e, _⟩
  · omega
  · exact ⟨g, cap, e⟩
theorem RowR.cell {base : Nat} {w : World} {y : Way} {g c : Nat} (h : RowR base w y) (hv : y.v = .slice (some ⟨g, 0, none⟩) y.ms.length c) (i : Nat) (hi : i < y.ms.length) : w.cell? ⟨g, i, none⟩ = some (encM y.ms[i]) := by
  have ho := h.own
  rw [hv] at ho
  rw [World.ownsRow.cellAt ho i (by simp; omega)]
  simp [hi]
theorem encM_one (ms : List Msg) : ∀ u ∈ ms.map encM, u.oneCell' = true := by
  intro u hu
  obtain ⟨_, _, rfl⟩ := List.mem_map.1 hu
  rfl

structure RStep (base : Nat) (w w' : World) (M : Nat) (T : TypeId) (y z y' z' : Way) : Prop where
  ref : RefW base w' M T y' z'
  only : Only (fun k => k = M) w w'
  new : ∀ k, RefW.D M y' z' k → RefW.D M y z k ∨ w.heap.size ≤ k
theorem RStep.drawn {base : Nat} {w w' : World} {M : Nat} {T : TypeId} {y z : Way} (h : RefW base w M T y z) (hd : Drawn w w') : RStep base w w' M T y z y z :=
  ⟨h.only (Only.ofDrawn (D := fun _ => False) hd) fun _ _ h => h, Only.ofDrawn hd, fun _ h => .inl h⟩
theorem RStep.trans {base : Nat} {w w1 w2 : World} {M : Nat} {T : TypeId} {y z y1 z1 y2 z2 : Way} (h1 : RStep base w w1 M T y z y1 z1) (h2 : RStep base w1 w2 M T y1 z1 y2 z2) : RStep base w w2 M T y z y2 z2 :=
  ⟨h2.ref, h1.only.trans h2.only fun _ _ h => h, fun k hk => by
    rcases h2.new k hk with h | h
    · exact h1.new k h
    · exact .inr (Nat.le_trans h1.only.size h)⟩
/-- A new row out of old and new messages. -/
theorem rrow_ok {base : Nat} {w w' : World} {M : Nat} {T : TypeId} {y z u : Way} (h : RefW base w M T y z) (hu : RowR base w u) (hn : M ∉ u.blks) (hb : base ≤ w.heap.size) (hO : Only (fun k => k = M) w w') {v' : Value} {ms' : List Msg}
    (ho : w'.ownsRow w.heap.size 27 1 v' ms'.length (ms'.map encM)) (hms : ∀ m ∈ ms', m ∈ u.ms ∨ (0 < m.bs.length ∧ m.bs.length ≤ 8000 ∧ OwnB w.heap.size w' (encM m) m.bs)) (i o l : Int) :
    RowR base w' ⟨i, o, l, v', ms'⟩ ∧ M ∉ (Way.mk i o l v' ms').blks ∧ ∀ k, k ∈ (Way.mk i o l v' ms').blks → k ∈ u.blks ∨ w.heap.size ≤ k := by
  have hM := block_lt h.at_
  have hk : ∀ k, k ∈ (Way.mk i o l v' ms').blks → k ∈ u.blks ∨ w.heap.size ≤ k := by
    intro k hk
    simp only [Way.blks, List.mem_append, Option.mem_toList, List.mem_map] at hk
    rcases hk with hk | ⟨m, hm, rfl⟩
    · exact .inr (World.ownsRow.lt ho k hk).1
    · rcases hms m hm with hm | ⟨_, _, hm⟩
      · exact .inl (mem_blks_m hm)
      · exact .inr (World.ownsRow.lt hm m.b rfl).1
  refine ⟨⟨owns_mono ho hb, fun m hm => ?_⟩, fun hM' => ?_, hk⟩
  · rcases hms m hm with hm | ⟨h1, h2, h3⟩
    · obtain ⟨h1, h2, h3⟩ := hu.msg m hm
      refine ⟨h1, h2, hO.owns h3 fun k hk e => hn (e ▸ ?_)⟩
      obtain rfl : m.b = k := by simpa [encM, Value.ownBlock] using hk
      exact mem_blks_m hm
    · exact ⟨h1, h2, owns_mono h3 hb⟩
  · rcases hk M hM' with h | h
    · exact hn h
    · omega
theorem RStep.of0 {base : Nat} {w w' : World} {M : Nat} {T : TypeId} {y z x : Way} (h : RefW base w M T y z) (hO : Only (fun k => k = M) w w') (hx : RowR base w' x ∧ M ∉ x.blks ∧ ∀ k, k ∈ x.blks → k ∈ y.blks ∨ w.heap.size ≤ k)
    (hat : w'.heap[M]? = some (.cells (rcells x z) T (0, 0))) : RStep base w w' M T y z x z := by
  obtain ⟨h1, h2, h3⟩ := hx
  refine ⟨⟨hat, h.ge, h1, h.ok1.only hO fun k hk e => h.n1 (e ▸ hk), h2, h.n1⟩, hO, ?_⟩
  rintro k (rfl | hk | hk)
  · exact .inl (.inl rfl)
  · rcases h3 k hk with h | h
    · exact .inl (.inr (.inl h))
    · exact .inr h
  · exact .inl (.inr (.inr hk))
theorem RStep.of1 {base : Nat} {w w' : World} {M : Nat} {T : TypeId} {y z x : Way} (h : RefW base w M T y z) (hO : Only (fun k => k = M) w w') (hx : RowR base w' x ∧ M ∉ x.blks ∧ ∀ k, k ∈ x.blks → k ∈ z.blks ∨ w.heap.size ≤ k)
    (hat : w'.heap[M]? = some (.cells (rcells y x) T (0, 0))) : RStep base w w' M T y z y x := by
  obtain ⟨h1, h2, h3⟩ := hx
  refine ⟨⟨hat, h.ge, h.ok0.only hO fun k hk e => h.n0 (e ▸ hk), h1, h.n0, h2⟩, hO, ?_⟩
  rintro k (rfl | hk | hk)
  · exact .inl (.inl rfl)
  · exact .inl (.inr (.inl hk))
  · rcases h3 k hk with h | h
    · exact .inl (.inr (.inr h))
    · exact .inr h
/-- The same row with other numbers. -/
theorem rnums_ok {base : Nat} {w w' : World} {M : Nat} {u : Way} (hu : RowR base w u) (hn : M ∉ u.blks) (hO : Only (fun k => k = M) w w') (i o l : Int) :
    RowR base w' ⟨i, o, l, u.v, u.ms⟩ ∧ M ∉ (Way.mk i o l u.v u.ms).blks ∧ ∀ k, k ∈ (Way.mk i o l u.v u.ms).blks → k ∈ u.blks ∨ w.heap.size ≤ k := by
  have h2 := hu.only hO fun k hk e => hn (e ▸ hk)
  exact ⟨⟨h2.own, h2.msg⟩, hn, fun k hk => .inl hk⟩

/-- 'append(s, x...)' on a row of the call's own, of elements of one cell, as a step of a region that draws. -/
theorem stepOwn_app {P : Program} {ops : Array Oper} {K : Act → World → Prop} {Q : Exit → Act → World → Prop} {o : Oper} {a : Act} {w : World} {E : Prop} (hg : o.guard = none) (s x : Operand) (t : TypeId) (ho : o.op = .call { callee := .builtin .append, args := #[s, x], argTypes := #[t, t] })
    (base : Nat) (e : TypeId) (i : TypeInfo) (z : Value) (bytes : Nat) (ht : P.underlying t = some (.slice e)) (hi : P.info? e = some i) (hz : i.zero = some z) (hsize : i.size = 1) (hby : i.bytes = bytes) (hzs : z.cells.size = 1)
    (v : Value) (n : Nat) (xs : List Value) (hs : a.eval s = v) (hown : Hid (w.ownsRow base e 1 v n xs))
    (ao : Option Addr) (m c : Nat) (ys : List Value) (hx : a.eval x = .slice ao m c) (hm : Hid (ys.length = m)) (hsrc : Hid (At w ao ys)) (hnil : Hid (ao = none → c = 0)) (h1 : ∀ u ∈ ys, u.oneCell' = true)
    (h63 : n + m ≤ maxLen) (hbytes : (n + m) * bytes ≤ 140737488355328) (hbase : base ≤ w.heap.size)
    (h : ∀ v' w', Hid (w'.ownsRow base e 1 v' (n + m) (xs ++ ys)) → Hid (w.grownBy w' v.ownBlock) → Hid (Moved w v v') → K (a.put o.dst v') w') :
    if Region.wanted o (yielded ops a.tmps) = true then Oper.wp P o a w K Q else E := by
  have hw : Region.wanted o (yielded ops a.tmps) = true := by simp [Region.wanted, hg]
  rw [if_pos hw]
  cases ao with
  | some ad =>
    have had : ∀ j u, ys[j]? = some u → w.cell? (ad.add j) = some u := by
      intro j u hu
      have hj : j < ys.length := (List.getElem?_eq_some_iff.1 hu).1
      obtain ⟨b, off, e, _⟩ := hsrc.out j hj
      cases e
      refine getElem_add (fun i hi => ?_) j u hu
      obtain ⟨b', off', e', hc⟩ := hsrc.out i hi
      cases e'
      exact hc
    obtain ⟨v', w', hr, k1, k2, k3⟩ := run_append_where (P := P) w base t o.type e i z bytes ht hi hz hsize hby hzs v n xs hown.out ad m c ys hm.out had h1 h63 hbytes hbase
    unfold Oper.wp execOp
    simp only [ho, resolve, invoke, builtin, Sem.run_bind, Sem.run_pure, Result.andThen_ok, List.map_toArray, List.map_cons, List.map_nil, hs, hx, hr]
    exact h v' w' (Lib.hid k1) (Lib.hid k2) (Lib.hid k3)
  | none =>
    have hc := hnil.out rfl
    have hys : ys = [] := by
      cases ys with
      | nil => rfl
      | cons y ys =>
        obtain ⟨b, off, e, _⟩ := hsrc.out 0 (by simp)
        cases e
    have hm0 : m = 0 := by rw [← hm.out, hys]; rfl
    subst hys hm0 hc
    have hrun := run_append_owned_none (P := P) (w := w) base t o.type e i 1 ht hi v n xs hown.out
    unfold Oper.wp execOp
    simp only [ho, resolve, invoke, builtin, Sem.run_bind, Sem.run_pure, Result.andThen_ok, List.map_toArray, List.map_cons, List.map_nil, hs, hx, hrun]
    refine h v w (Lib.hid (by rw [List.append_nil]; exact hown.out)) (Lib.hid (World.grownBy.refl _ _)) (Lib.hid fun k hk => .inl hk)
theorem bytes_form {w : World} {base : Nat} {v : Value} {bs : List UInt8} (h : w.ownsRow base 5 1 v (0 + bs.length) ([] ++ cB bs)) (h0 : 0 < bs.length) : ∃ g c, v = .slice (some ⟨g, 0, none⟩) bs.length c ∧ OwnB base w (.slice (some ⟨g, 0, none⟩) bs.length c) bs := by
  rw [Nat.zero_add, List.nil_append] at h
  rcases h.2 with ⟨_, h2⟩ | ⟨g, c, cur, e1, _⟩
  · omega
  · subst e1; exact ⟨g, c, rfl, h⟩
theorem bytes_form2 {w : World} {base : Nat} {v : Value} {bs : List UInt8} (h : OwnB base w v ([] ++ bs)) (h0 : 0 < bs.length) : ∃ g c, v = .slice (some ⟨g, 0, none⟩) bs.length c ∧ OwnB base w (.slice (some ⟨g, 0, none⟩) bs.length c) bs := by
  rw [List.nil_append] at h
  rcases h.2 with ⟨_, h2⟩ | ⟨g, c, cur, e1, _⟩
  · omega
  · subst e1; exact ⟨g, c, rfl, h⟩
theorem owns_pos {w : World} {base : Nat} {e : TypeId} {v : Value} {n : Nat} {xs : List Value} (h : w.ownsRow base e 1 v n xs) (h0 : 0 < n) : ∃ g c, v = .slice (some ⟨g, 0, none⟩) n c := by
  rcases h.2 with ⟨_, h2⟩ | ⟨g, c, cur, e1, _⟩
  · omega
  · exact ⟨g, c, e1⟩
theorem apart_of {b1 b2 o1 o2 n1 n2 c1 c2 : Nat} (h : b1 ≠ b2) : Apart2 (.slice (some ⟨b1, o1, none⟩) n1 c1) (.slice (some ⟨b2, o2, none⟩) n2 c2) := fun k h1 h2 => by
  have e1 : b1 = k := by simpa [Value.ownBlock] using h1
  have e2 : b2 = k := by simpa [Value.ownBlock] using h2
  omega
theorem moved_ne {w : World} {b o n c x : Nat} {v : Value} (hm : Moved w (.slice (some ⟨b, o, none⟩) n c) v) (hne : b ≠ x) (hlt : x < w.heap.size) : ∀ k, v.ownBlock = some k → k ≠ x := fun k hk => by
  rcases hm k hk with e | e
  · have e1 : b = k := by simpa [Value.ownBlock] using e
    omega
  · omega
theorem moved_cases {w : World} {b o n c g n' c' : Nat} (hm : Moved w (.slice (some ⟨b, o, none⟩) n c) (.slice (some ⟨g, 0, none⟩) n' c')) : g = b ∨ w.heap.size ≤ g := by
  rcases hm g rfl with e | e
  · exact .inl (by simpa [Value.ownBlock] using e.symm)
  · exact .inr e
theorem owns_slice {w : World} {base : Nat} {e : TypeId} {v : Value} {n : Nat} {xs : List Value} (h : w.ownsRow base e 1 v n xs) : ∃ a c, v = .slice a n c := by
  rcases h.2 with ⟨e1, h2⟩ | ⟨g, c, cur, e1, _⟩
  · exact ⟨none, 0, by rw [e1, h2]⟩
  · exact ⟨_, c, e1⟩
theorem At.one {w : World} {b : Nat} {u : Value} (h : w.cell? ⟨b, 0, none⟩ = some u) : At w (some ⟨b, 0, none⟩) [u] := fun i hi => by
  obtain rfl : i = 0 := by simpa using hi
  exact ⟨b, 0, rfl, h⟩
/-- A row that a literal makes. -/
theorem lit_own (w : World) (e : TypeId) : (w.alloc (.cells #[] e)).ownsRow w.heap.size e 1 (.slice (some ⟨w.heap.size, 0, none⟩) 0 0) 0 [] := by
  simpa using World.ownsRow_made (base := w.heap.size) (e := e) (size := 1) w #[] 0 (Nat.le_refl _) (by decide) (by simp)
end Go.Proofs.YtejkajlbffkdnaaDoor
