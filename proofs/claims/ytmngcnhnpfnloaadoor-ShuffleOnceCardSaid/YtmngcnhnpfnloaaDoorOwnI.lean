/- Lists of ints that a call makes: append, literals; as steps of a list of operations and as operations of a region that draws. -/
import Derived.Test.YtmngcnhnpfnloaaDoorMem
import Derived.Laws.OwnMore
import Derived.Test.YtmngcnhnpfnloaaDoorRows
namespace Go.Proofs.YtmngcnhnpfnloaaDoor
open Go.RowKit

theorem Tryd.infoIntP : (Tryd.prog.info? 3).map (fun i => (i.zero, i.size, i.bytes)) = some (some (.int .i64 0), 1, 8) := by kernel_rfl

/-- Ints of the call's own. -/
def OwnI (base : Nat) (w : World) (v : Value) (zs : List Int) : Prop := w.ownsRow base 3 1 v zs.length (cI zs)
/-- Ints that can be read. -/
structure SrcI (w : World) (a : Option Addr) (cap : Nat) (zs : List Int) : Prop where
  len : zs.length ≤ cap
  most : cap ≤ maxLen
  nil : a = none → cap = 0
  row : RowI .i64 w a zs
theorem SrcI.below {w w' : World} {a : Option Addr} {cap : Nat} {zs : List Int} (h : SrcI w a cap zs) (hb : Below w.heap.size w w') : SrcI w' a cap zs := ⟨h.len, h.most, h.nil, h.row.below hb⟩
theorem ArgI.src {w : World} {a : Option Addr} {cap : Nat} {zs : List Int} (h : ArgI w a cap zs) : SrcI w a cap zs := ⟨h.len, h.most, h.nil, h.row⟩
theorem OwnI.src {base : Nat} {w : World} {v : Value} {zs : List Int} (h : OwnI base w v zs) : ∃ a c, v = .slice a zs.length c ∧ SrcI w a c zs ∧ ∀ b o s, a = some ⟨b, o, s⟩ → base ≤ b ∧ b < w.heap.size := by
  obtain ⟨a, c, rfl, h1, h2, h3, h4, _, h5⟩ := owns_any h
  rw [cI_length] at h2
  refine ⟨a, c, by rw [cI_length], ⟨h2, h3, h1, h4.toI⟩, h5⟩
theorem OwnI.nil (base : Nat) (w : World) : OwnI base w (.slice none 0 0) [] := ⟨rfl, .inl ⟨rfl, rfl⟩⟩
theorem OwnI.mono {base base' : Nat} {w : World} {v : Value} {zs : List Int} (h : OwnI base w v zs) (hb : base' ≤ base) : OwnI base' w v zs := by
  obtain ⟨h1, h2⟩ := h
  refine ⟨h1, ?_⟩
  rcases h2 with h2 | ⟨g, cap, cur, e1, e2, e3⟩
  · exact .inl h2
  · exact .inr ⟨g, cap, cur, e1, by omega, e3⟩
theorem OwnI.made0 (w : World) (base : Nat) (hb : base ≤ w.heap.size) : OwnI base (w.alloc (.cells #[] 3)) (.slice (some ⟨w.heap.size, 0, none⟩) 0 0) [] := by
  have h := World.ownsRow_made (base := base) (e := 3) (size := 1) w #[] 0 hb (by decide) (by simp)
  simpa [OwnI, cI] using h
theorem OwnI.below {base B : Nat} {w w' : World} {v : Value} {zs : List Int} (h : OwnI base w v zs) (hb : Below B w w') (hB : w.heap.size ≤ B) : OwnI base w' v zs := by
  refine ⟨h.1, ?_⟩
  rcases h.2 with h2 | ⟨g, cap, cur, e1, e2, e3, e4⟩
  · exact .inl h2
  · exact .inr ⟨g, cap, cur, e1, e2, (hb.block g (by have := block_lt e3; omega)).trans e3, e4⟩
theorem srcI_lit (w : World) (t : TypeId) (zs : List Int) (cs : Array Value) (h : cs = (cI zs).toArray) (hl : zs.length ≤ 1000000) : SrcI (w.alloc (.cells cs t)) (some ⟨w.heap.size, 0, none⟩) zs.length zs := by
  subst h
  refine ⟨Nat.le_refl _, (by unfold maxLen; omega), (fun e => by cases e), fun i hi => ⟨_, _, rfl, ?_⟩⟩
  rw [cell_of_block (heap_alloc_new w _)]
  simp [cI, hi]
theorem SrcI.take {w : World} {a : Option Addr} {cap : Nat} {zs : List Int} (h : SrcI w a cap zs) (n : Nat) : SrcI w a cap (zs.take n) :=
  ⟨by have := h.len; simp; omega, h.most, h.nil, At.toI (by rw [show cI (zs.take n) = (cI zs).take n from by simp [cI]]; exact (At.ofI h.row).take n)⟩
theorem SrcI.drop {w : World} {b off cap : Nat} {zs : List Int} (h : SrcI w (some ⟨b, off, none⟩) cap zs) (n : Nat) : SrcI w (some ⟨b, off + n, none⟩) (cap - n) (zs.drop n) := by
  refine ⟨by have := h.len; simp; omega, by have := h.most; omega, (fun e => by cases e), fun i hi => ?_⟩
  simp only [List.length_drop] at hi
  obtain ⟨b', off', e, hc⟩ := h.row (n + i) (by omega)
  cases e
  refine ⟨b, off + n, rfl, ?_⟩
  rw [Nat.add_assoc, hc]
  simp [List.getD_eq_getElem?_getD]

theorem SrcI.kept {w w' : World} {b off cap : Nat} {zs : List Int} {row : Option Nat} (h : SrcI w (some ⟨b, off, none⟩) cap zs) (hg : w.grownBy w' row) (hr : some b ≠ row) : SrcI w' (some ⟨b, off, none⟩) cap zs := by
  refine ⟨h.len, h.most, h.nil, fun i hi => ?_⟩
  obtain ⟨b', o', e, hc⟩ := h.row i hi
  cases e
  exact ⟨b, off, rfl, hg.cell hc hr⟩
theorem OwnI.form {base : Nat} {w : World} {v : Value} {zs : List Int} (h : OwnI base w v zs) (hz : zs ≠ []) : ∃ g cap, v = .slice (some ⟨g, 0, none⟩) zs.length cap := by
  rcases h.2 with ⟨rfl, h2⟩ | ⟨g, cap, cur, hv, _⟩
  · exact absurd (List.eq_nil_of_length_eq_zero h2) hz
  · exact ⟨g, cap, hv⟩

theorem SrcI.dropIn {w : World} {b cap : Nat} {zs : List Int} (h : SrcI w (some ⟨b, 0, none⟩) cap zs) (n : Nat) : SrcI w (some ⟨b, n, none⟩) (cap - n) (zs.drop n) := by
  have h1 := h.drop n
  rw [Nat.zero_add] at h1; exact h1
theorem SrcI.dropEnd {w : World} {b n : Nat} {zs : List Int} (h : SrcI w (some ⟨b, 0, none⟩) n zs) : SrcI w (some ⟨b, 0, none⟩) 0 (zs.drop n) := by
  have hl := h.len
  have : zs.drop n = [] := by simp; omega
  rw [this]
  exact ⟨Nat.le_refl _, Nat.zero_le _, (fun e => by cases e), fun i hi => by simp at hi⟩

section
variable {P : Program} {w : World} {o : Oper} {a : Act} {K : Act → World → Prop} {Q : Exit → Act → World → Prop}
/-- 'append(s, x...)' on a row that the call owns, of whatever slice: as one operation. -/
theorem wp_app (s x : Operand) (t : TypeId)
    (ho : o.op = .call { callee := .builtin .append, args := #[s, x], argTypes := #[t, t] })
    (base : Nat) (e : TypeId) (i : TypeInfo) (z : Value) (bytes : Nat) (ht : P.underlying t = some (.slice e)) (hi : P.info? e = some i) (hz : i.zero = some z)
    (hsize : i.size = 1) (hby : i.bytes = bytes) (hzs : z.cells.size = 1)
    (v : Value) (n : Nat) (xs : List Value) (hs : a.eval s = v) (hown : Hid (w.ownsRow base e 1 v n xs))
    (ao : Option Addr) (m c : Nat) (ys : List Value) (hx : a.eval x = .slice ao m c) (hm : Hid (ys.length = m)) (hsrc : Hid (At w ao ys)) (hnil : Hid (ao = none → c = 0)) (h1 : ∀ u ∈ ys, u.oneCell' = true)
    (h63 : n + m ≤ maxLen) (hbytes : (n + m) * bytes ≤ 140737488355328) (hbase : base ≤ w.heap.size)
    (h : ∀ v' w', Hid (w'.ownsRow base e 1 v' (n + m) (xs ++ ys)) → Hid (w.grownBy w' v.ownBlock) → K (a.put o.dst v') w') :
    o.wp P a w K Q := by
  cases ao with
  | some ad =>
    have had : ∀ j u, ys[j]? = some u → w.cell? (ad.add j) = some u := by
      intro j u hu
      have hj : j < ys.length := (List.getElem?_eq_some_iff.1 hu).1
      obtain ⟨b, off, e, _⟩ := hsrc.out j hj
      cases e
      refine getElem_add (fun i hi => ?_) j u hu
      obtain ⟨b', off', e', hc⟩ := hsrc.out i hi
      cases e'
      exact hc
    exact wp_append_own w s x t ho base e i z 1 bytes ht hi hz hsize hby hzs (by omega) v n xs hs hown.out ad m c ys hx (by rw [hm.out]; omega) had h1 h63 hbytes hbase fun v' w' h2 h3 _ => h v' w' h2 h3
  | none =>
    have hc := hnil.out rfl
    have hys : ys = [] := by
      cases ys with
      | nil => rfl
      | cons y ys =>
        obtain ⟨b, off, e, _⟩ := hsrc.out 0 (by simp)
        cases e
    have hm0 : m = 0 := by rw [← hm.out, hys]; rfl
    subst hys hm0 hc
    have hrun := run_append_owned_none (P := P) (w := w) base t o.type e i 1 ht hi v n xs hown.out
    unfold Oper.wp
    simp [execOp, ho, resolve, invoke, builtin, hs, hx, hrun, Result.andThen]
    exact h _ _ (by rw [List.append_nil]; exact hown) (World.grownBy.refl _ _)
end

section
variable {w : World} {ops : Array Oper} {rest : List Oper} {o : Oper} {a : Act} {Q : Exit → Act → World → Prop} {K : Act → World → Prop}
/-- 'append(s, x)' of one int. -/
theorem wpI_app1 (hgd : o.guard = none) (s x : Operand) (ho : o.op = .call { callee := .builtin .append, args := #[s, x], argTypes := #[33, 33] })
    (base : Nat) (v : Value) (bs : List Int) (hs : a.eval s = v) (hown : Hid (OwnI base w v bs))
    (u : Int) (hx : a.eval x = .slice (some ⟨w.heap.size, 0, none⟩) 1 1) (hl : bs.length ≤ 1000000) (hbase : base ≤ w.heap.size)
    (h : ∀ v' w', Hid (OwnI base w' v' (bs ++ [u])) → Hid (Below base w w') → wpList Tryd.prog ops Q rest (a.put o.dst v') w') :
    wpList Tryd.prog ops Q (o :: rest) a (w.alloc (.cells #[.int .i64 u] 3)) := by
  obtain ⟨i0, hi, hz0, hz1, hz2⟩ := info_parts Tryd.infoIntP
  refine wpList_append1 hgd s x 33 ho base 3 i0 (.int .i64 0) 8 Tryd.underlying33 hi hz0 hz1 hz2 rfl v bs.length (cI bs) hs (Lib.hid hown.out) (.int .i64 u) hx rfl (by unfold maxLen; omega) (by omega) hbase ?_
  intro v' w' h1 h2 _
  refine h v' w' (Lib.hid ?_) (Lib.hid ((Below.refl base w).grown h2.out hbase (fun k hk => (World.ownsRow.lt hown.out k hk).1)))
  unfold OwnI
  rw [cI_append, List.length_append]
  exact h1.out
/-- 'append(s, x...)' of ints. -/
theorem wpI_app (hgd : o.guard = none) (s x : Operand) (ho : o.op = .call { callee := .builtin .append, args := #[s, x], argTypes := #[33, 33] })
    (base : Nat) (v : Value) (bs : List Int) (hs : a.eval s = v) (hown : Hid (OwnI base w v bs))
    (ao : Option Addr) (c : Nat) (ys : List Int) (m : Nat) (hx : a.eval x = .slice ao m c) (hm : Hid (ys.length = m)) (hy : Hid (SrcI w ao c ys)) (hl : bs.length ≤ 1000000) (hl2 : m ≤ 1000000) (hbase : base ≤ w.heap.size)
    (h : ∀ v' w', Hid (OwnI base w' v' (bs ++ ys)) → Hid (Below base w w') → wpList Tryd.prog ops Q rest (a.put o.dst v') w') :
    wpList Tryd.prog ops Q (o :: rest) a w := by
  obtain ⟨i0, hi, hz0, hz1, hz2⟩ := info_parts Tryd.infoIntP
  refine wpList_app hgd s x 33 ho base 3 i0 (.int .i64 0) 8 Tryd.underlying33 hi hz0 hz1 hz2 rfl v bs.length (cI bs) hs (Lib.hid hown.out) ao m c (cI ys) hx (Lib.hid (by rw [cI_length]; exact hm.out)) (Lib.hid (At.ofI hy.out.row)) (Lib.hid hy.out.nil) (cI_one ys) (by unfold maxLen; omega) (by omega) hbase ?_
  intro v' w' h1 h2
  refine h v' w' (Lib.hid ?_) (Lib.hid ((Below.refl base w).grown h2.out hbase (fun k hk => (World.ownsRow.lt hown.out k hk).1)))
  unfold OwnI
  rw [cI_append, List.length_append, hm.out]
  exact h1.out
/-- The same, in a region that draws. -/
theorem opI_app (s x : Operand) (ho : o.op = .call { callee := .builtin .append, args := #[s, x], argTypes := #[33, 33] })
    (base : Nat) (v : Value) (bs : List Int) (hs : a.eval s = v) (hown : Hid (OwnI base w v bs))
    (ao : Option Addr) (c : Nat) (ys : List Int) (m : Nat) (hx : a.eval x = .slice ao m c) (hm : Hid (ys.length = m)) (hy : Hid (SrcI w ao c ys)) (hl : bs.length ≤ 1000000) (hl2 : m ≤ 1000000) (hbase : base ≤ w.heap.size)
    (h : ∀ v' w', Hid (OwnI base w' v' (bs ++ ys)) → Hid (Below base w w') → Hid (w.grownBy w' v.ownBlock) → K (a.put o.dst v') w') :
    o.wp Tryd.prog a w K Q := by
  obtain ⟨i0, hi, hz0, hz1, hz2⟩ := info_parts Tryd.infoIntP
  refine wp_app s x 33 ho base 3 i0 (.int .i64 0) 8 Tryd.underlying33 hi hz0 hz1 hz2 rfl v bs.length (cI bs) hs (Lib.hid hown.out) ao m c (cI ys) hx (Lib.hid (by rw [cI_length]; exact hm.out)) (Lib.hid (At.ofI hy.out.row)) (Lib.hid hy.out.nil) (cI_one ys) (by unfold maxLen; omega) (by omega) hbase ?_
  intro v' w' h1 h2
  refine h v' w' (Lib.hid ?_) (Lib.hid ((Below.refl base w).grown h2.out hbase (fun k hk => (World.ownsRow.lt hown.out k hk).1))) h2
  unfold OwnI
  rw [cI_append, List.length_append, hm.out]
  exact h1.out
end

end Go.Proofs.YtmngcnhnpfnloaaDoor
