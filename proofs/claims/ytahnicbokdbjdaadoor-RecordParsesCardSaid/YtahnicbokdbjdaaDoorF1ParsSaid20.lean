/- Base, Mem. -/
import Derived.WalkKit
import Derived.WalkSpells
import Derived.WalkLawsBesides
import Derived.WalkSmall
import Derived.BigQuiet
import Derived.Lib.Hide
import Derived.Carry
import Derived.ProofKit
import Derived.OpenShut
import Derived.Laws.AppendOwnNone
import Derived.Laws.BytesString
import Derived.Laws.BitsAllLaws
import Derived.Deep.QuietTactic
/- General laws on worlds: of whatever program. -/
namespace Go.Proofs.YtahnicbokdbjdaaDoor
open Go.RowKit

/-- The world w' is w with block b holding o; nothing else has turned, but for draws. -/
structure Upd (b : Nat) (o : Obj) (w w' : World) : Prop where
  os : w'.os = w.os
  tape : w'.tape = w.tape
  output : w'.output = w.output
  size : w'.heap.size = w.heap.size
  block : ∀ k, k ≠ b → w'.heap[k]? = w.heap[k]?
  here : w'.heap[b]? = some o

theorem Upd.refl {b : Nat} {o : Obj} {w : World} (h : w.heap[b]? = some o) : Upd b o w w := ⟨rfl, rfl, rfl, rfl, fun _ _ => rfl, h⟩

theorem Upd.below {b B : Nat} {o : Obj} {w w' : World} (h : Upd b o w w') (hb : B ≤ b) : Below B w w' :=
  ⟨h.os, h.tape, h.output, by rw [h.size]; exact Nat.le_refl _, fun k hk => h.block k (by omega)⟩

theorem Upd.trans {b : Nat} {o o' : Obj} {w w1 w2 : World} (h : Upd b o w w1) (h' : Upd b o' w1 w2) : Upd b o' w w2 :=
  ⟨h'.os.trans h.os, h'.tape.trans h.tape, h'.output.trans h.output, h'.size.trans h.size, fun k hk => (h'.block k hk).trans (h.block k hk), h'.here⟩

theorem Upd.drewN {b : Nat} {o : Obj} {w w' : World} (h : Upd b o w w') (n : Nat) : Upd b o w (w'.drewN n) :=
  ⟨h.os, h.tape, h.output, h.size, h.block, h.here⟩
theorem Upd.drew {b : Nat} {o : Obj} {w w' : World} (h : Upd b o w w') : Upd b o w w'.drew :=
  ⟨h.os, h.tape, h.output, h.size, h.block, h.here⟩

/-- A store into the block. -/
theorem Upd.setCell {b j : Nat} {cs : Array Value} {t : TypeId} {fz : Nat × Nat} {w w' : World} (h : Upd b (.cells cs t fz) w w') (v : Value) :
    Upd b (.cells (cs.setIfInBounds j v) t fz) w (w'.setCell ⟨b, j, none⟩ v) := by
  refine ⟨h.os, h.tape, h.output, ?_, ?_, ?_⟩
  · simp [World.setCell, h.size]
  · intro k hk
    rw [Below.heap_setCell _ _ _ _ (by simpa using hk)]
    exact h.block k hk
  · have hh := h.here
    simp only [World.setCell, Array.getElem?_modify, if_true]
    rw [hh]; rfl

theorem Upd.to {b : Nat} {o o' : Obj} {w w' : World} (h : Upd b o w w') (e : o = o') : Upd b o' w w' := e ▸ h

/-- The same world but for draws. -/
theorem below_like {B : Nat} {w a b : World} (h : Below B w a) (h1 : b.heap = a.heap) (h2 : b.os = a.os) (h3 : b.tape = a.tape) (h4 : b.output = a.output) : Below B w b :=
  ⟨h2.trans h.os, h3.trans h.tape, h4.trans h.output, by rw [h1]; exact h.size, by rw [h1]; exact h.block⟩

/-- What is known of a block, cell by cell. -/
theorem cell_of_block {w : World} {b : Nat} {cs : Array Value} {t : TypeId} {fz : Nat × Nat} (h : w.heap[b]? = some (.cells cs t fz)) (j : Nat) : w.cell? ⟨b, j, none⟩ = cs[j]? := by
  simp [World.cell?, h]
theorem free_of_block {w : World} {b : Nat} {cs : Array Value} {t : TypeId} (h : w.heap[b]? = some (.cells cs t (0, 0))) (j : Nat) : w.frozen? ⟨b, j, none⟩ = false := by
  simp [World.frozen?, h]
theorem block_lt {w : World} {b : Nat} {o : Obj} (h : w.heap[b]? = some o) : b < w.heap.size := by
  rcases Nat.lt_or_ge b w.heap.size with h' | h'
  · exact h'
  · simp [Array.getElem?_eq_none h'] at h

/-- A block of three cells. -/
theorem cells3 {w : World} {b : Nat} {x y z : Value} {t : TypeId} (h : w.heap[b]? = some (.cells #[x, y, z] t (0, 0))) :
    (w.cell? ⟨b, 0, none⟩ = some x ∧ w.cell? ⟨b, 1, none⟩ = some y ∧ w.cell? ⟨b, 2, none⟩ = some z) ∧
    (w.frozen? ⟨b, 0, none⟩ = false ∧ w.frozen? ⟨b, 1, none⟩ = false ∧ w.frozen? ⟨b, 2, none⟩ = false) := by
  simp [World.cell?, World.frozen?, h]

theorem grownBy_over_alloc {w w' : World} {o : Obj} {row : Option Nat} (h : (w.alloc o).grownBy w' row) : w.grownBy w' row :=
  ⟨h.os, h.tape, h.output, Nat.le_trans (by simp) h.size, fun k hk hr => (h.block k (by simp; omega) hr).trans (Below.heap_alloc _ _ _ hk)⟩

/-- 'append(s, x)' of one element of one cell, on a row that the call owns: the box of x is laid first. -/
theorem wpList_append1 {P : Program} {w : World} {ops : Array Oper} {rest : List Oper} {o : Oper} {a : Act} {Q : Exit → Act → World → Prop} (hgd : o.guard = none) (s x : Operand) (t : TypeId)
    (ho : o.op = .call { callee := .builtin .append, args := #[s, x], argTypes := #[t, t] })
    (base : Nat) (e : TypeId) (i : TypeInfo) (z : Value) (bytes : Nat) (ht : P.underlying t = some (.slice e)) (hi : P.info? e = some i) (hz : i.zero = some z)
    (hsize : i.size = 1) (hby : i.bytes = bytes) (hzs : z.cells.size = 1)
    (v : Value) (n : Nat) (xs : List Value) (hs : a.eval s = v) (hown : Hid (w.ownsRow base e 1 v n xs))
    (u : Value) (hx : a.eval x = .slice (some ⟨w.heap.size, 0, none⟩) 1 1) (h1 : u.oneCell' = true)
    (h63 : n + 1 ≤ maxLen) (hbytes : (n + 1) * bytes ≤ 140737488355328) (hbase : base ≤ w.heap.size)
    (h : ∀ v' w', Hid (w'.ownsRow base e 1 v' (n + 1) (xs ++ [u])) → Hid (w.grownBy w' v.ownBlock) → Hid (v' ≠ .slice none 0 0) → wpList P ops Q rest (a.put o.dst v') w') :
    wpList P ops Q (o :: rest) a (w.alloc (.cells #[u] e)) :=
  wpList_append_own _ hgd s x t ho base e i z 1 bytes ht hi hz hsize hby hzs (by omega) v n xs hs (World.ownsRow.alloc hown.out _) ⟨w.heap.size, 0, none⟩ 1 1 [u] hx rfl (cell_one_new _ _ _)
    (by intro y hy; simp at hy; subst hy; exact h1) h63 hbytes (by simp; omega) fun v' w' h2 h3 h4 => h v' w' h2 (grownBy_over_alloc h3) (fun e => by have := h4.1 e; omega)

/-- WHAT A SLICE OF INTEGERS READS AS: 'a' leads to a row whose first cells are zs (where there are none, a may be anything). -/
def RowI (k : IntKind) (w : World) (a : Option Addr) (zs : List Int) : Prop :=
  ∀ i, i < zs.length → ∃ b off, a = some ⟨b, off, none⟩ ∧ w.cell? ⟨b, off + i, none⟩ = some (.int k (zs.getD i 0))
/-- The same of bytes. -/
def RowB (w : World) (a : Option Addr) (bs : List UInt8) : Prop :=
  ∀ i, i < bs.length → ∃ b off, a = some ⟨b, off, none⟩ ∧ w.cell? ⟨b, off + i, none⟩ = some (.int .u8 ((bs.getD i 0).toNat : Int))

theorem RowI.lt {k : IntKind} {w : World} {b off : Nat} {zs : List Int} (h : RowI k w (some ⟨b, off, none⟩) zs) {i : Nat} (hi : i < zs.length) : b < w.heap.size := by
  obtain ⟨b', off', e, hc⟩ := h i hi
  cases e
  exact World.block_lt_of_cell? w _ hc
theorem RowB.lt {w : World} {b off : Nat} {bs : List UInt8} (h : RowB w (some ⟨b, off, none⟩) bs) {i : Nat} (hi : i < bs.length) : b < w.heap.size := by
  obtain ⟨b', off', e, hc⟩ := h i hi
  cases e
  exact World.block_lt_of_cell? w _ hc
theorem RowI.below {k : IntKind} {w w' : World} {a : Option Addr} {zs : List Int} (h : RowI k w a zs) (hb : Below w.heap.size w w') : RowI k w' a zs := by
  intro i hi
  obtain ⟨b, off, rfl, hc⟩ := h i hi
  exact ⟨b, off, rfl, (hb.cell (World.block_lt_of_cell? w _ hc)).trans hc⟩
theorem RowB.below {w w' : World} {a : Option Addr} {bs : List UInt8} (h : RowB w a bs) (hb : Below w.heap.size w w') : RowB w' a bs := by
  intro i hi
  obtain ⟨b, off, rfl, hc⟩ := h i hi
  exact ⟨b, off, rfl, (hb.cell (World.block_lt_of_cell? w _ hc)).trans hc⟩

section
open Go.ChangeShapes
variable {H : Type} {enc : TypeId × Value → H} {P : Program} {w : World}

/-- A slice of integers that came in. -/
theorem open_rowI {t e : TypeId} {k : IntKind} {v : Value} {d : DataW H} {p : List MemPlace} (ht : P.underlying t = some (.slice e)) (he : P.underlying e = some (.int k)) (hc : P.cellsOf e = 1)
    (hv : ∃ a len cap, v = .slice a len cap)
    (h : DataW.Trod enc P w 0 (fun _ => true) true t v d p) : ∃ a cap zs, v = .slice a zs.length cap ∧ zs.length ≤ cap ∧ cap ≤ maxLen ∧ RowI k w a zs ∧ ∀ n ∈ zs, (Lit.int k n).wf = true := by
  obtain ⟨a0, len, cap, rfl⟩ := hv
  obtain ⟨fuel, hf⟩ := h
  rcases open_ints ht he hc hf with ⟨hcs, _⟩ | ⟨x, l, c, zs, hcs, _, hl, hm, hz, _, hcell, hwz⟩
  · simp [Value.cells] at hcs
    obtain ⟨rfl, rfl, rfl⟩ := hcs
    exact ⟨none, 0, [], rfl, Nat.le_refl _, Nat.zero_le _, fun i hi => by simp at hi, fun n hn => by cases hn⟩
  · simp [Value.cells] at hcs
    obtain ⟨rfl, rfl, rfl⟩ := hcs
    simp at hz
    refine ⟨some x, cap, zs.take len, by simp [hz, Nat.min_eq_left hl], by simp [hz, Nat.min_eq_left hl, hl], hm, ?_, fun n hn => hwz n (List.mem_of_mem_take hn)⟩
    intro i hi
    have hi' : i < len ∧ i < zs.length := by simpa [List.length_take, Nat.lt_min] using hi
    have h0 := hcell 0 (by omega)
    have hx := hcell i hi'.2
    obtain ⟨b, off, spot⟩ := x
    have hspot : spot = none := by simpa [Addr.add] using World.cell?_spot h0
    subst hspot
    refine ⟨b, off, rfl, ?_⟩
    have e1 : (⟨b, off, none⟩ : Addr).add i = ⟨b, off + i, none⟩ := by unfold Addr.add; split <;> simp_all
    rw [e1] at hx
    rw [hx]
    simp [List.getD_eq_getElem?_getD, hi'.1]

theorem u8_of_wf {n : Int} (h : (Lit.int .u8 n).wf = true) : ((UInt8.ofNat n.toNat).toNat : Int) = n := by
  have hx : 0 ≤ n ∧ n ≤ 255 := by simpa [Lit.wf, IntKind.min, IntKind.max, IntKind.signed, IntKind.bits] using h
  simp
  omega

/-- A slice of bytes that came in. -/
theorem open_rowB {t e : TypeId} {v : Value} {d : DataW H} {p : List MemPlace} (ht : P.underlying t = some (.slice e)) (he : P.underlying e = some (.int .u8)) (hc : P.cellsOf e = 1)
    (hv : ∃ a len cap, v = .slice a len cap)
    (h : DataW.Trod enc P w 0 (fun _ => true) true t v d p) : ∃ a cap bs, v = .slice a (List.length bs) cap ∧ bs.length ≤ cap ∧ cap ≤ maxLen ∧ RowB w a bs := by
  obtain ⟨a, cap, zs, rfl, hl, hm, hr, hw⟩ := open_rowI ht he hc hv h
  refine ⟨a, cap, zs.map fun n => UInt8.ofNat n.toNat, by simp, by simpa using hl, hm, ?_⟩
  intro i hi
  have hi' : i < zs.length := by simpa using hi
  obtain ⟨b, off, rfl, hx⟩ := hr i hi'
  refine ⟨b, off, rfl, ?_⟩
  rw [hx]
  have h1 := u8_of_wf (hw (zs[i]) (List.getElem_mem hi'))
  rw [show (List.map (fun n => UInt8.ofNat n.toNat) zs).getD i 0 = UInt8.ofNat zs[i].toNat from by simp [hi'], h1, show zs.getD i 0 = zs[i] from by simp [hi']]
end

end Go.Proofs.YtahnicbokdbjdaaDoor
/- Laws on slices of elements of one cell: what the walks of this work are fed with. Of whatever program. -/
namespace Go.Proofs.YtahnicbokdbjdaaDoor
open Go.RowKit

/-- The address 'ao' leads to the cells ys (where there are none it may be anything). -/
def At (w : World) (ao : Option Addr) (ys : List Value) : Prop :=
  ∀ i, i < ys.length → ∃ b off, ao = some ⟨b, off, none⟩ ∧ w.cell? ⟨b, off + i, none⟩ = ys[i]?
/-- Bytes, ints as cells. -/
def cB (bs : List UInt8) : List Value := bs.map fun x => .int .u8 (x.toNat : Int)
def cI (zs : List Int) : List Value := zs.map fun x => .int .i64 x
theorem cB_length (bs : List UInt8) : (cB bs).length = bs.length := by simp [cB]
theorem cI_length (zs : List Int) : (cI zs).length = zs.length := by simp [cI]
theorem cB_append (a b : List UInt8) : cB (a ++ b) = cB a ++ cB b := by simp [cB]
theorem cI_append (a b : List Int) : cI (a ++ b) = cI a ++ cI b := by simp [cI]
theorem cB_one (bs : List UInt8) : ∀ u ∈ cB bs, u.oneCell' = true := by intro u hu; simp only [cB, List.mem_map] at hu; obtain ⟨_, _, rfl⟩ := hu; rfl
theorem cI_one (zs : List Int) : ∀ u ∈ cI zs, u.oneCell' = true := by intro u hu; simp only [cI, List.mem_map] at hu; obtain ⟨_, _, rfl⟩ := hu; rfl

theorem At.below {w w' : World} {ao : Option Addr} {ys : List Value} (h : At w ao ys) (hb : Below w.heap.size w w') : At w' ao ys := by
  intro i hi
  obtain ⟨b, off, rfl, hc⟩ := h i hi
  refine ⟨b, off, rfl, ?_⟩
  rw [List.getElem?_eq_getElem hi] at hc ⊢
  exact (hb.cell (World.block_lt_of_cell? w _ hc)).trans hc
theorem At.ofB {w : World} {ao : Option Addr} {bs : List UInt8} (h : RowB w ao bs) : At w ao (cB bs) := by
  intro i hi
  rw [cB_length] at hi
  obtain ⟨b, off, rfl, hc⟩ := h i hi
  exact ⟨b, off, rfl, by rw [hc]; simp [cB, hi]⟩
theorem At.ofI {w : World} {ao : Option Addr} {zs : List Int} (h : RowI .i64 w ao zs) : At w ao (cI zs) := by
  intro i hi
  rw [cI_length] at hi
  obtain ⟨b, off, rfl, hc⟩ := h i hi
  exact ⟨b, off, rfl, by rw [hc]; simp [cI, hi]⟩
theorem At.toB {w : World} {ao : Option Addr} {bs : List UInt8} (h : At w ao (cB bs)) : RowB w ao bs := by
  intro i hi
  obtain ⟨b, off, rfl, hc⟩ := h i (by rw [cB_length]; exact hi)
  exact ⟨b, off, rfl, by rw [hc]; simp [cB, hi]⟩
theorem At.toI {w : World} {ao : Option Addr} {zs : List Int} (h : At w ao (cI zs)) : RowI .i64 w ao zs := by
  intro i hi
  obtain ⟨b, off, rfl, hc⟩ := h i (by rw [cI_length]; exact hi)
  exact ⟨b, off, rfl, by rw [hc]; simp [cI, hi]⟩
theorem At.take {w : World} {ao : Option Addr} {ys : List Value} (h : At w ao ys) (n : Nat) : At w ao (ys.take n) := by
  intro i hi
  have hi' : i < n ∧ i < ys.length := by simpa [Nat.lt_min] using hi
  obtain ⟨b, off, rfl, hc⟩ := h i hi'.2
  exact ⟨b, off, rfl, by rw [hc]; simp [hi'.1]⟩

/-- What a row of the call's own reads as. -/
theorem owns_at {w : World} {base : Nat} {e : TypeId} {g n cap : Nat} {xs : List Value} (h : w.ownsRow base e 1 (.slice (some ⟨g, 0, none⟩) n cap) n xs) : At w (some ⟨g, 0, none⟩) xs := by
  intro i hi
  obtain ⟨hx, h2⟩ := h
  rcases h2 with ⟨h2, _⟩ | ⟨g', cap', cur, hv, hb, hg, hn, hcap, hcur, htake⟩
  · cases h2
  · cases hv
    refine ⟨g, 0, rfl, ?_⟩
    rw [cell_of_block hg, ← htake]
    have : i < n := by omega
    simp [this]
theorem owns_any {w : World} {base : Nat} {e : TypeId} {v : Value} {n : Nat} {xs : List Value} (h : w.ownsRow base e 1 v n xs) :
    ∃ a c, v = .slice a xs.length c ∧ (a = none → c = 0) ∧ xs.length ≤ c ∧ c ≤ maxLen ∧ At w a xs ∧ xs.length = n ∧ ∀ b o s, a = some ⟨b, o, s⟩ → base ≤ b ∧ b < w.heap.size := by
  have hx := h.1
  rcases h.2 with ⟨rfl, rfl⟩ | ⟨g, cap, cur, rfl, hb, hg, hn, hcap, hcur, htake⟩
  · have : xs = [] := List.eq_nil_of_length_eq_zero (by simpa using hx)
    subst this
    exact ⟨none, 0, rfl, fun _ => rfl, Nat.le_refl _, Nat.zero_le _, fun i hi => by simp at hi, rfl, fun _ _ _ h => by cases h⟩
  · have hl : xs.length = n := by omega
    refine ⟨some ⟨g, 0, none⟩, cap, by rw [hl], fun h => (by cases h), by omega, hcap, owns_at h, hl, fun b o s h => ?_⟩
    cases h
    exact ⟨hb, block_lt hg⟩

theorem getElem_add {w : World} {b off : Nat} {ys : List Value} (h : ∀ i, i < ys.length → w.cell? ⟨b, off + i, none⟩ = ys[i]?) : ∀ j u, ys[j]? = some u → w.cell? ((⟨b, off, none⟩ : Addr).add j) = some u := by
  intro j u hu
  have hj : j < ys.length := (List.getElem?_eq_some_iff.1 hu).1
  have e1 : (⟨b, off, none⟩ : Addr).add j = ⟨b, off + j, none⟩ := by unfold Addr.add; split <;> simp_all
  rw [e1, h j hj, hu]

section
variable {P : Program} {w : World} {ops : Array Oper} {rest : List Oper} {o : Oper} {a : Act} {Q : Exit → Act → World → Prop}

/-- 'append(s, x...)' on a row that the call owns, of whatever slice. -/
theorem wpList_app (hgd : o.guard = none) (s x : Operand) (t : TypeId)
    (ho : o.op = .call { callee := .builtin .append, args := #[s, x], argTypes := #[t, t] })
    (base : Nat) (e : TypeId) (i : TypeInfo) (z : Value) (bytes : Nat) (ht : P.underlying t = some (.slice e)) (hi : P.info? e = some i) (hz : i.zero = some z)
    (hsize : i.size = 1) (hby : i.bytes = bytes) (hzs : z.cells.size = 1)
    (v : Value) (n : Nat) (xs : List Value) (hs : a.eval s = v) (hown : Hid (w.ownsRow base e 1 v n xs))
    (ao : Option Addr) (m c : Nat) (ys : List Value) (hx : a.eval x = .slice ao m c) (hm : Hid (ys.length = m)) (hsrc : Hid (At w ao ys)) (hnil : Hid (ao = none → c = 0)) (h1 : ∀ u ∈ ys, u.oneCell' = true)
    (h63 : n + m ≤ maxLen) (hbytes : (n + m) * bytes ≤ 140737488355328) (hbase : base ≤ w.heap.size)
    (h : ∀ v' w', Hid (w'.ownsRow base e 1 v' (n + m) (xs ++ ys)) → Hid (w.grownBy w' v.ownBlock) → wpList P ops Q rest (a.put o.dst v') w') :
    wpList P ops Q (o :: rest) a w := by
  cases ao with
  | some ad =>
    have had : ∀ j u, ys[j]? = some u → w.cell? (ad.add j) = some u := by
      intro j u hu
      have hj : j < ys.length := (List.getElem?_eq_some_iff.1 hu).1
      obtain ⟨b, off, e, _⟩ := hsrc.out j hj
      cases e
      refine getElem_add (fun i hi => ?_) j u hu
      obtain ⟨b', off', e', hc⟩ := hsrc.out i hi
      cases e'
      exact hc
    exact wpList_append_own _ hgd s x t ho base e i z 1 bytes ht hi hz hsize hby hzs (by omega) v n xs hs hown.out ad m c ys hx (by rw [hm.out]; omega) had h1 h63 hbytes hbase fun v' w' h2 h3 _ => h v' w' h2 h3
  | none =>
    have hc := hnil.out rfl
    have hys : ys = [] := by
      cases ys with
      | nil => rfl
      | cons y ys =>
        obtain ⟨b, off, e, _⟩ := hsrc.out 0 (by simp)
        cases e
    have hm0 : m = 0 := by rw [← hm.out, hys]; rfl
    subst hys hm0 hc
    exact wpList_append_own_none hgd s x t ho base e i 1 ht hi v n xs hs hown.out hx (h v w (by rw [List.append_nil]; exact hown) (World.grownBy.refl _ _))

/-- The same where there is room: the row stays. -/
theorem wpList_fits (hgd : o.guard = none) (s x : Operand) (t : TypeId)
    (ho : o.op = Op.call { callee := Callee.builtin Builtin.append, args := #[s, x], argTypes := #[t, t] })
    (base : Nat) (e : TypeId) (i : TypeInfo) (ht : P.underlying t = some (.slice e)) (hi : P.info? e = some i) (hsize : i.size = 1)
    (g k cap : Nat) (xs : List Value) (hs : a.eval s = .slice (some ⟨g, 0, none⟩) k cap) (hown : Hid (w.ownsRow base e 1 (.slice (some ⟨g, 0, none⟩) k cap) k xs))
    (ao : Option Addr) (m c : Nat) (ys : List Value) (hx : a.eval x = .slice ao m c) (hm : Hid (ys.length = m)) (hsrc : Hid (At w ao ys)) (hnil : Hid (ao = none → c = 0)) (h1 : ∀ u ∈ ys, u.oneCell' = true) (b1 : k + m ≤ cap)
    (h : ∀ w', Hid (w'.ownsRow base e 1 (.slice (some ⟨g, 0, none⟩) (k + m) cap) (k + m) (xs ++ ys)) → Hid (w.grownBy w' (some g)) → wpList P ops Q rest (a.put o.dst (.slice (some ⟨g, 0, none⟩) (k + m) cap)) w') :
    wpList P ops Q (o :: rest) a w := by
  refine wpList_append_fits_any w hgd s x t ho base e i 1 ht hi hsize g k cap xs hs hown.out ao m c ys hx (by rw [hm.out]; omega) (fun e => ?_) (fun ad had => ?_) h1 b1 (fun w' h2 h3 => h w' h2 h3)
  · refine ⟨?_, hnil.out e⟩
    rw [← hm.out]
    cases ys with
    | nil => rfl
    | cons y ys =>
      obtain ⟨b, off, e', _⟩ := hsrc.out 0 (by simp)
      rw [e] at e'; cases e'
  · intro j u hu
    have hj : j < ys.length := (List.getElem?_eq_some_iff.1 hu).1
    obtain ⟨b, off, e, _⟩ := hsrc.out j hj
    rw [had] at e
    cases e
    refine getElem_add (fun i hi => ?_) j u hu
    obtain ⟨b', off', e', hc⟩ := hsrc.out i hi
    rw [had] at e'
    cases e'
    exact hc
end

/-! ### string(b) -/
theorem foldl_bytes (bs : List UInt8) : ∀ s : ByteArray, (bs.map fun x => (x.toNat : Int)).foldl (fun r n => r.push (UInt8.ofNat n.toNat)) s = ⟨s.data ++ bs.toArray⟩ := by
  induction bs with
  | nil => intro s; simp
  | cons b bs ih =>
    intro s
    rw [List.map_cons, List.foldl_cons, ih]
    simp [ByteArray.push]

theorem loadCells_at {P : Program} {w : World} {b off : Nat} : ∀ (ys : List Value), (∀ i, i < ys.length → w.cell? ⟨b, off + i, none⟩ = ys[i]?) → (loadCells ⟨b, off, none⟩ ys.length).run P w = .ok ys.toArray w := by
  intro ys h
  have h1 := run_firstCells_some (P := P) w 1 ys.length ⟨b, off, none⟩ ys.length ys.length ys (by omega) (getElem_add h)
  simpa [Builtin.firstCells] using h1

/-- 'string(b)' of bytes. -/
theorem conv_str {P : Program} {w : World} {src dst e : TypeId} {ao : Option Addr} {c : Nat} (bs : List UInt8)
    (hs : P.underlying src = some (.slice e)) (he : P.underlying e = some (.int .u8)) (hd : P.underlying dst = some .string) (h : RowB w ao bs) :
    (convert src dst (.slice ao bs.length c)).run P w = .ok (.string ⟨bs.toArray⟩) w := by
  rw [run_convert_bytes_string w src dst e ao bs.length c hs he hd]
  cases ao with
  | none =>
    have : bs = [] := by
      cases bs with
      | nil => rfl
      | cons x xs =>
        obtain ⟨b, off, e, _⟩ := h 0 (by simp)
        cases e
    subst this
    rfl
  | some ad =>
    by_cases hb : bs = []
    · subst hb
      exact run_bytesToString (P := P) w ad 0 c [] (by rfl)
    · obtain ⟨b, off, e, _⟩ := h 0 (List.length_pos_iff.2 hb)
      cases e
      have hl := loadCells_at (P := P) (w := w) (b := b) (off := off) (cB bs) (fun i hi => by
        rw [cB_length] at hi
        obtain ⟨b', off', e', hc⟩ := h i hi
        cases e'
        rw [hc]; simp [cB, hi])
      rw [cB_length] at hl
      have := run_bytesToString (P := P) w ⟨b, off, none⟩ bs.length c (bs.map fun x => (x.toNat : Int)) (by simpa [cB, Function.comp_def] using hl)
      rw [this, foldl_bytes]
      simp [ByteArray.empty, ByteArray.emptyWithCapacity]
      rfl

theorem str_eq (a b : List UInt8) : ((⟨a.toArray⟩ : ByteArray) = ⟨b.toArray⟩) ↔ a = b := by
  constructor
  · intro h
    have := congrArg (fun s : ByteArray => s.data.toList) h
    simpa using this
  · intro h; rw [h]

/-- Some draws, and nothing else. -/
def Drawn (w w' : World) : Prop := ∃ n, w' = w.drewN n
theorem Drawn.refl (w : World) : Drawn w w := ⟨0, rfl⟩
theorem Drawn.trans {a b c : World} (h : Drawn a b) (h' : Drawn b c) : Drawn a c := by
  obtain ⟨n, rfl⟩ := h
  obtain ⟨m, rfl⟩ := h'
  exact ⟨n + m, by rw [World.drewN_drewN]⟩
theorem Drawn.more {a b : World} (h : Drawn a b) (n : Nat) : Drawn a (b.drewN n) := h.trans ⟨n, rfl⟩
theorem Drawn.heap {a b : World} (h : Drawn a b) : b.heap = a.heap := by obtain ⟨n, rfl⟩ := h; rfl
theorem Drawn.below {a b : World} (h : Drawn a b) (B : Nat) : Below B a b := by obtain ⟨n, rfl⟩ := h; exact below_drewN (Below.refl _ _) n
theorem Drawn.cell {a b : World} (h : Drawn a b) (x : Addr) : b.cell? x = a.cell? x := by obtain ⟨n, rfl⟩ := h; rfl
theorem Drawn.rowB {a b : World} (h : Drawn a b) {x : Option Addr} {bs : List UInt8} (hr : RowB a x bs) : RowB b x bs := by obtain ⟨n, rfl⟩ := h; exact hr
theorem Drawn.at {a b : World} (h : Drawn a b) {x : Option Addr} {ys : List Value} (hr : At a x ys) : At b x ys := by obtain ⟨n, rfl⟩ := h; exact hr

/-- A callee's contract in the form that a quiet region asks. -/
theorem quiet_eq {P : Program} {f : FuncId} {args : Array Value} {w : World} {n : Nat} {v : Value}
    (h : Calls P f args (w.drewN n) fun e w' => e = .returned v ∧ w.drewN n = w') : Calls P f args (w.drewN n) fun e w'' => e = .returned v ∧ ∃ m, w'' = w.drewN m :=
  h.mono fun _ _ ⟨he, hm⟩ => ⟨he, n, hm.symm⟩

/-- Bytes, ints that came in. -/
structure ArgB (w : World) (a : Option Addr) (cap : Nat) (bs : List UInt8) : Prop where
  len : bs.length ≤ cap
  most : cap ≤ maxLen
  nil : a = none → cap = 0
  row : RowB w a bs
structure ArgI (w : World) (a : Option Addr) (cap : Nat) (zs : List Int) : Prop where
  len : zs.length ≤ cap
  most : cap ≤ maxLen
  nil : a = none → cap = 0
  row : RowI .i64 w a zs
  wf : ∀ n ∈ zs, (Lit.int .i64 n).wf = true
theorem ArgB.below {w w' : World} {a : Option Addr} {cap : Nat} {bs : List UInt8} (h : ArgB w a cap bs) (hb : Below w.heap.size w w') : ArgB w' a cap bs := ⟨h.len, h.most, h.nil, h.row.below hb⟩
theorem ArgI.below {w w' : World} {a : Option Addr} {cap : Nat} {bs : List Int} (h : ArgI w a cap bs) (hb : Below w.heap.size w w') : ArgI w' a cap bs := ⟨h.len, h.most, h.nil, h.row.below hb, h.wf⟩

section
open Go.ChangeShapes
variable {H : Type} {enc : TypeId × Value → H} {P : Program} {w : World}
theorem nil_of_trod {t e : TypeId} {k : IntKind} {a : Option Addr} {len cap : Nat} {d : DataW H} {p : List MemPlace} (ht : P.underlying t = some (.slice e)) (he : P.underlying e = some (.int k)) (hc : P.cellsOf e = 1)
    (h : DataW.Trod enc P w 0 (fun _ => true) true t (.slice a len cap) d p) : a = none → cap = 0 := by
  intro e
  subst e
  obtain ⟨fuel, hf⟩ := h
  rcases open_ints ht he hc hf with ⟨hcs, _⟩ | ⟨x, l, c, zs, hcs, _⟩
  · simp [Value.cells] at hcs
    exact hcs.2
  · simp [Value.cells] at hcs
theorem open_argB {t e : TypeId} {v : Value} {d : DataW H} {p : List MemPlace} (ht : P.underlying t = some (.slice e)) (he : P.underlying e = some (.int .u8)) (hc : P.cellsOf e = 1)
    (hv : ∃ a len cap, v = .slice a len cap) (h : DataW.Trod enc P w 0 (fun _ => true) true t v d p) : ∃ a cap bs, v = .slice a (List.length bs) cap ∧ ArgB w a cap bs := by
  obtain ⟨a, cap, bs, rfl, hl, hm, hr⟩ := open_rowB ht he hc hv h
  exact ⟨a, cap, bs, rfl, hl, hm, nil_of_trod ht he hc h, hr⟩
theorem open_argI {t e : TypeId} {v : Value} {d : DataW H} {p : List MemPlace} (ht : P.underlying t = some (.slice e)) (he : P.underlying e = some (.int .i64)) (hc : P.cellsOf e = 1)
    (hv : ∃ a len cap, v = .slice a len cap) (h : DataW.Trod enc P w 0 (fun _ => true) true t v d p) : ∃ a cap zs, v = .slice a (List.length zs) cap ∧ ArgI w a cap zs := by
  obtain ⟨a, cap, zs, rfl, hl, hm, hr, hw⟩ := open_rowI ht he hc hv h
  exact ⟨a, cap, zs, rfl, hl, hm, nil_of_trod ht he hc h, hr, hw⟩
end

end Go.Proofs.YtahnicbokdbjdaaDoor
