/- Moved, OwnW. -/
import Derived.Test.YtahnicbokdbjdaaDoorF1ParsSaid20
import Derived.Test.YtahnicbokdbjdaaDoorF2ParsSaid20
/- Where a row lies behind an append: as before, or in a new block. Of whatever program. -/
namespace Go.Proofs.YtahnicbokdbjdaaDoor
open Go.RowKit

/-- The row lies where it lay, or in a block that is new since w. -/
def Moved (w : World) (v v' : Value) : Prop := ∀ k, v'.ownBlock = some k → v.ownBlock = some k ∨ w.heap.size ≤ k
theorem Moved.trans {w w1 : World} {v v1 v2 : Value} (h : Moved w v v1) (h' : Moved w1 v1 v2) (hs : w.heap.size ≤ w1.heap.size) : Moved w v v2 := by
  intro k hk
  rcases h' k hk with h1 | h1
  · exact h k h1
  · exact .inr (by omega)
end Go.Proofs.YtahnicbokdbjdaaDoor
/- 'append' on a row of the call's own, and where the row lies behind it: as before, or in a new block. So two rows stay apart. Of whatever program. -/
namespace Go.Proofs.YtahnicbokdbjdaaDoor
open Go.RowKit

/-- Two rows lie apart. -/
def Apart2 (v u : Value) : Prop := ∀ k, v.ownBlock = some k → u.ownBlock ≠ some k
theorem Apart2.symm {v u : Value} (h : Apart2 v u) : Apart2 u v := fun k h1 h2 => h k h2 h1
theorem Apart2.moved {w : World} {v v' u : Value} (h : Apart2 v u) (hm : Moved w v v') (hu : ∀ k, u.ownBlock = some k → k < w.heap.size) : Apart2 v' u := by
  intro k h1 h2
  rcases hm k h1 with h3 | h3
  · exact h k h3 h2
  · have := hu k h2; omega
theorem ownsRow_other {w w' : World} {base : Nat} {e : TypeId} {n : Nat} {u v : Value} {xs : List Value} (h : w.ownsRow base e 1 u n xs) (hg : w.grownBy w' v.ownBlock) (ha : Apart2 v u) : w'.ownsRow base e 1 u n xs := by
  refine h.kept hg ?_
  cases hu : u.ownBlock with
  | none => exact .inl rfl
  | some k => exact .inr fun e => ha k e.symm hu

section
variable {P : Program} {w : World} {ops : Array Oper} {rest : List Oper} {o : Oper} {a : Act} {Q : Exit → Act → World → Prop}
theorem run_append_where (w : World) (base : Nat) (t ty e : TypeId) (i : TypeInfo) (z : Value) (bytes : Nat) (ht : P.underlying t = some (.slice e)) (hi : P.info? e = some i) (hz : i.zero = some z)
    (hsize : i.size = 1) (hby : i.bytes = bytes) (hzs : z.cells.size = 1)
    (v : Value) (n : Nat) (xs : List Value) (hown : w.ownsRow base e 1 v n xs)
    (ad : Addr) (m c : Nat) (news : List Value) (hl : news.length = m) (hnews : ∀ j u, news[j]? = some u → w.cell? (ad.add j) = some u) (h1 : ∀ u ∈ news, u.oneCell' = true)
    (h63 : n + m ≤ maxLen) (hbytes : (n + m) * bytes ≤ 140737488355328) (hbase : base ≤ w.heap.size) :
    ∃ v' w', (Builtin.append_ #[t, t] ty #[v, .slice (some ad) m c]).run P w = .ok v' w' ∧ w'.ownsRow base e 1 v' (n + m) (xs ++ news) ∧ w.grownBy w' v.ownBlock ∧ Moved w v v' := by
  subst hby
  obtain ⟨v', w', hr, h2, h3, _⟩ := run_append_own (P := P) w base t ty e i z 1 i.bytes ht hi hz hsize rfl hzs (by omega) v n xs hown ad m c news (by rw [hl, Nat.mul_one]) hnews h1 h63 hbytes hbase
  refine ⟨v', w', hr, h2, h3, ?_⟩
  have hlm : news.length = m * i.size := by rw [hl, hsize, Nat.mul_one]
  have hm63 : n + m ≤ 9223372036854775807 := by unfold maxLen at h63; omega
  rcases hown.2 with ⟨rfl, rfl⟩ | ⟨g, cap, cur, rfl, hbg, hg, hnc, hcm, hcs, htake⟩
  · by_cases hm : m = 0
    · subst hm
      have hv := h2.2
      rcases hv with ⟨rfl, _⟩ | ⟨g, cap, cur, rfl, hbg, hg, _⟩
      · intro k hk; simp [Value.ownBlock] at hk
      · have hn : news = [] := List.eq_nil_of_length_eq_zero hl
        subst hn
        exfalso
        have : (Builtin.append_ #[t, t] ty #[.slice none 0 0, .slice (some ad) 0 c]).run P w = .ok (.slice none 0 0) w := by
          simp [Builtin.append_, run_underlying ht, sizeOf, typeInfo, hi, Builtin.lenOf, Builtin.firstCells, loadCells, loadCellsFrom]
        rw [this] at hr
        cases hr
    · have hr2 := run_append_nil (P := P) w t ty e i z ht hi hz ad m c news hlm hnews (by omega) (by omega) (by have hb := hbytes; simp only [Nat.zero_add] at hb; omega)
      rw [hr] at hr2
      injection hr2 with e1 e2
      subst e1
      intro k hk
      simp [Value.ownBlock] at hk
      exact .inr (by omega)
  · by_cases hroom : n + m ≤ cap
    · have hcs1 : cur.size = cap := by simpa using hcs
      have hr2 := run_append_room (P := P) w t ty e i ht hi g n cap cur hg ad m c news hlm hnews h1 hroom (by rw [hsize, hl, Nat.mul_one, hcs1]; exact hroom)
      rw [hr] at hr2
      injection hr2 with e1 e2
      subst e1
      intro k hk
      exact .inl hk
    · have holds : ∀ j u, xs[j]? = some u → w.cell? ((⟨g, 0, none⟩ : Addr).add j) = some u := hown.cells (g := g) rfl
      have hxl : xs.length = n * i.size := by rw [hown.1, hsize]
      have hr2 := run_append_grow (P := P) w t ty e i z ht hi hz ⟨g, 0, none⟩ n cap xs hxl holds ad m c news hlm hnews (by omega) (by omega) (growslice_fits (by omega) hbytes)
      rw [hr] at hr2
      injection hr2 with e1 e2
      subst e1
      intro k hk
      simp [Value.ownBlock] at hk
      exact .inr (by omega)
theorem wpList_append_where (hgd : o.guard = none) (s x : Operand) (t : TypeId)
    (ho : o.op = .call { callee := .builtin .append, args := #[s, x], argTypes := #[t, t] })
    (base : Nat) (e : TypeId) (i : TypeInfo) (z : Value) (bytes : Nat) (ht : P.underlying t = some (.slice e)) (hi : P.info? e = some i) (hz : i.zero = some z)
    (hsize : i.size = 1) (hby : i.bytes = bytes) (hzs : z.cells.size = 1)
    (v : Value) (n : Nat) (xs : List Value) (hs : a.eval s = v) (hown : w.ownsRow base e 1 v n xs)
    (ad : Addr) (m c : Nat) (news : List Value) (hx : a.eval x = .slice (some ad) m c) (hl : news.length = m) (hnews : ∀ j u, news[j]? = some u → w.cell? (ad.add j) = some u) (h1 : ∀ u ∈ news, u.oneCell' = true)
    (h63 : n + m ≤ maxLen) (hbytes : (n + m) * bytes ≤ 140737488355328) (hbase : base ≤ w.heap.size)
    (h : ∀ v' w', w'.ownsRow base e 1 v' (n + m) (xs ++ news) → w.grownBy w' v.ownBlock → Moved w v v' → wpList P ops Q rest (a.put o.dst v') w') : wpList P ops Q (o :: rest) a w := by
  refine wpList_plain hgd fun K hK => ?_
  obtain ⟨v', w', hr, h2, h3, h4⟩ := run_append_where (P := P) w base t o.type e i z bytes ht hi hz hsize hby hzs v n xs hown ad m c news hl hnews h1 h63 hbytes hbase
  unfold Oper.wp execOp
  simp only [ho, resolve, invoke, builtin, Sem.run_bind, Sem.run_pure, Result.andThen_ok, List.map_toArray, List.map_cons, List.map_nil, hs, hx, hr]
  exact hK _ _ (h v' w' h2 h3 h4)
end

section
variable {w : World} {ops : Array Oper} {rest : List Oper} {o : Oper} {a : Act} {Q : Exit → Act → World → Prop}
/-- 'append(s, x)' of one byte. -/
theorem wpB_app1w (hgd : o.guard = none) (s x : Operand) (ho : o.op = .call { callee := .builtin .append, args := #[s, x], argTypes := #[36, 36] })
    (base : Nat) (v : Value) (bs : List UInt8) (hs : a.eval s = v) (hown : Hid (OwnB base w v bs))
    (u : UInt8) (z : Int) (hzu : z = (u.toNat : Int)) (hx : a.eval x = .slice (some ⟨w.heap.size, 0, none⟩) 1 1) (hl : bs.length ≤ 1000000) (hbase : base ≤ w.heap.size)
    (h : ∀ v' w', Hid (OwnB base w' v' (bs ++ [u])) → Hid (w.grownBy w' v.ownBlock) → Hid (Moved w v v') → wpList Tryd.prog ops Q rest (a.put o.dst v') w') :
    wpList Tryd.prog ops Q (o :: rest) a (w.alloc (.cells #[.int .u8 z] 5)) := by
  subst hzu
  obtain ⟨i0, hi, hz0, hz1, hz2⟩ := info_parts Tryd.infoByteP
  refine wpList_append_where hgd s x 36 ho base 5 i0 (.int .u8 0) 1 Tryd.underlying36 hi hz0 hz1 hz2 rfl v bs.length (cB bs) hs (World.ownsRow.alloc hown.out _) ⟨w.heap.size, 0, none⟩ 1 1 [.int .u8 (u.toNat : Int)] hx rfl (cell_one_new _ _ _)
    (by intro y hy; simp at hy; subst hy; rfl) (by unfold maxLen; omega) (by omega) (by simp; omega) ?_
  intro v' w' h1 h2 h3
  refine h v' w' (Lib.hid ?_) (Lib.hid (grownBy_over_alloc h2)) (Lib.hid fun k hk => (h3 k hk).imp id (fun h => by simp at h; omega))
  unfold OwnB
  rw [List.length_append]
  simpa [cB_append, cB] using h1
end
/-- 'append(s, x...)' of bytes, as a step of a region that draws. -/
theorem wpK_appB {K : Act → World → Prop} {Q : Exit → Act → World → Prop} {o : Oper} {a : Act} {w : World} (s x : Operand) (ho : o.op = .call { callee := .builtin .append, args := #[s, x], argTypes := #[36, 36] })
    (base : Nat) (v : Value) (bs : List UInt8) (hs : a.eval s = v) (hown : Hid (OwnB base w v bs))
    (ad : Addr) (c : Nat) (ys : List UInt8) (m : Nat) (hx : a.eval x = .slice (some ad) m c) (hm : Hid (ys.length = m)) (hy : Hid (ArgB w (some ad) c ys)) (hl : bs.length ≤ 1000000) (hl2 : m ≤ 1000000) (hbase : base ≤ w.heap.size)
    (h : ∀ v' w', Hid (OwnB base w' v' (bs ++ ys)) → Hid (w.grownBy w' v.ownBlock) → Hid (Moved w v v') → K (a.put o.dst v') w') : o.wp Tryd.prog a w K Q := by
  obtain ⟨i0, hi, hz0, hz1, hz2⟩ := info_parts Tryd.infoByteP
  have had : ∀ j u, (cB ys)[j]? = some u → w.cell? (ad.add j) = some u := by
    intro j u hu
    have hj : j < (cB ys).length := (List.getElem?_eq_some_iff.1 hu).1
    have hat := At.ofB hy.out.row
    obtain ⟨b, off, e, _⟩ := hat j hj
    cases e
    refine getElem_add (fun i hi => ?_) j u hu
    obtain ⟨b', off', e', hc⟩ := hat i hi
    cases e'
    exact hc
  obtain ⟨v', w', hr, h2, h3, h4⟩ := run_append_where (P := Tryd.prog) w base 36 o.type 5 i0 (.int .u8 0) 1 Tryd.underlying36 hi hz0 hz1 hz2 rfl v bs.length (cB bs) hown.out ad m c (cB ys) (by rw [cB_length]; exact hm.out) had (cB_one ys) (by unfold maxLen; omega) (by omega) hbase
  unfold Oper.wp execOp
  simp only [ho, resolve, invoke, builtin, Sem.run_bind, Sem.run_pure, Result.andThen_ok, List.map_toArray, List.map_cons, List.map_nil, hs, hx, hr]
  refine h v' w' (Lib.hid ?_) (Lib.hid h3) (Lib.hid h4)
  unfold OwnB
  rw [cB_append, List.length_append, hm.out]
  exact h2
theorem OwnB.other {base : Nat} {w w' : World} {u v : Value} {bs : List UInt8} (h : OwnB base w u bs) (hg : w.grownBy w' v.ownBlock) (ha : Apart2 v u) : OwnB base w' u bs := ownsRow_other h hg ha
theorem OwnB.lt {base : Nat} {w : World} {u : Value} {bs : List UInt8} (h : OwnB base w u bs) : ∀ k, u.ownBlock = some k → k < w.heap.size := fun k hk => (World.ownsRow.lt h k hk).2

end Go.Proofs.YtahnicbokdbjdaaDoor
