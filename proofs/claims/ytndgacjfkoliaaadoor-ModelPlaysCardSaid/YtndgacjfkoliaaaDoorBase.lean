/- General laws on worlds: of whatever program. -/
import Derived.WalkKit
import Derived.WalkSpells
import Derived.WalkLawsBesides
import Derived.WalkSmall
import Derived.BigQuiet
import Derived.Lib.Hide
import Derived.Carry
import Derived.ProofKit
import Derived.OpenShut
namespace Go.Proofs.YtndgacjfkoliaaaDoor
open Go.RowKit

/-- The world w' is w with block b holding o; nothing else has turned, but for draws. -/
structure Upd (b : Nat) (o : Obj) (w w' : World) : Prop where
  os : w'.os = w.os
  tape : w'.tape = w.tape
  output : w'.output = w.output
  size : w'.heap.size = w.heap.size
  block : ∀ k, k ≠ b → w'.heap[k]? = w.heap[k]?
  here : w'.heap[b]? = some o

theorem Upd.refl {b : Nat} {o : Obj} {w : World} (h : w.heap[b]? = some o) : Upd b o w w := ⟨rfl, rfl, rfl, rfl, fun _ _ => rfl, h⟩

theorem Upd.below {b B : Nat} {o : Obj} {w w' : World} (h : Upd b o w w') (hb : B ≤ b) : Below B w w' :=
  ⟨h.os, h.tape, h.output, by rw [h.size]; exact Nat.le_refl _, fun k hk => h.block k (by omega)⟩

theorem Upd.trans {b : Nat} {o o' : Obj} {w w1 w2 : World} (h : Upd b o w w1) (h' : Upd b o' w1 w2) : Upd b o' w w2 :=
  ⟨h'.os.trans h.os, h'.tape.trans h.tape, h'.output.trans h.output, h'.size.trans h.size, fun k hk => (h'.block k hk).trans (h.block k hk), h'.here⟩

theorem Upd.drewN {b : Nat} {o : Obj} {w w' : World} (h : Upd b o w w') (n : Nat) : Upd b o w (w'.drewN n) :=
  ⟨h.os, h.tape, h.output, h.size, h.block, h.here⟩
theorem Upd.drew {b : Nat} {o : Obj} {w w' : World} (h : Upd b o w w') : Upd b o w w'.drew :=
  ⟨h.os, h.tape, h.output, h.size, h.block, h.here⟩

/-- A store into the block. -/
theorem Upd.setCell {b j : Nat} {cs : Array Value} {t : TypeId} {fz : Nat × Nat} {w w' : World} (h : Upd b (.cells cs t fz) w w') (v : Value) :
    Upd b (.cells (cs.setIfInBounds j v) t fz) w (w'.setCell ⟨b, j, none⟩ v) := by
  refine ⟨h.os, h.tape, h.output, ?_, ?_, ?_⟩
  · simp [World.setCell, h.size]
  · intro k hk
    rw [Below.heap_setCell _ _ _ _ (by simpa using hk)]
    exact h.block k hk
  · have hh := h.here
    simp only [World.setCell, Array.getElem?_modify, if_true]
    rw [hh]; rfl

theorem Upd.to {b : Nat} {o o' : Obj} {w w' : World} (h : Upd b o w w') (e : o = o') : Upd b o' w w' := e ▸ h

/-- The same world but for draws. -/
theorem below_like {B : Nat} {w a b : World} (h : Below B w a) (h1 : b.heap = a.heap) (h2 : b.os = a.os) (h3 : b.tape = a.tape) (h4 : b.output = a.output) : Below B w b :=
  ⟨h2.trans h.os, h3.trans h.tape, h4.trans h.output, by rw [h1]; exact h.size, by rw [h1]; exact h.block⟩

/-- What is known of a block, cell by cell. -/
theorem cell_of_block {w : World} {b : Nat} {cs : Array Value} {t : TypeId} {fz : Nat × Nat} (h : w.heap[b]? = some (.cells cs t fz)) (j : Nat) : w.cell? ⟨b, j, none⟩ = cs[j]? := by
  simp [World.cell?, h]
theorem free_of_block {w : World} {b : Nat} {cs : Array Value} {t : TypeId} (h : w.heap[b]? = some (.cells cs t (0, 0))) (j : Nat) : w.frozen? ⟨b, j, none⟩ = false := by
  simp [World.frozen?, h]
theorem block_lt {w : World} {b : Nat} {o : Obj} (h : w.heap[b]? = some o) : b < w.heap.size := by
  rcases Nat.lt_or_ge b w.heap.size with h' | h'
  · exact h'
  · simp [Array.getElem?_eq_none h'] at h

/-- A block of three cells. -/
theorem cells3 {w : World} {b : Nat} {x y z : Value} {t : TypeId} (h : w.heap[b]? = some (.cells #[x, y, z] t (0, 0))) :
    (w.cell? ⟨b, 0, none⟩ = some x ∧ w.cell? ⟨b, 1, none⟩ = some y ∧ w.cell? ⟨b, 2, none⟩ = some z) ∧
    (w.frozen? ⟨b, 0, none⟩ = false ∧ w.frozen? ⟨b, 1, none⟩ = false ∧ w.frozen? ⟨b, 2, none⟩ = false) := by
  simp [World.cell?, World.frozen?, h]

theorem grownBy_over_alloc {w w' : World} {o : Obj} {row : Option Nat} (h : (w.alloc o).grownBy w' row) : w.grownBy w' row :=
  ⟨h.os, h.tape, h.output, Nat.le_trans (by simp) h.size, fun k hk hr => (h.block k (by simp; omega) hr).trans (Below.heap_alloc _ _ _ hk)⟩

/-- 'append(s, x)' of one element of one cell, on a row that the call owns: the box of x is laid first. -/
theorem wpList_append1 {P : Program} {w : World} {ops : Array Oper} {rest : List Oper} {o : Oper} {a : Act} {Q : Exit → Act → World → Prop} (hgd : o.guard = none) (s x : Operand) (t : TypeId)
    (ho : o.op = .call { callee := .builtin .append, args := #[s, x], argTypes := #[t, t] })
    (base : Nat) (e : TypeId) (i : TypeInfo) (z : Value) (bytes : Nat) (ht : P.underlying t = some (.slice e)) (hi : P.info? e = some i) (hz : i.zero = some z)
    (hsize : i.size = 1) (hby : i.bytes = bytes) (hzs : z.cells.size = 1)
    (v : Value) (n : Nat) (xs : List Value) (hs : a.eval s = v) (hown : Hid (w.ownsRow base e 1 v n xs))
    (u : Value) (hx : a.eval x = .slice (some ⟨w.heap.size, 0, none⟩) 1 1) (h1 : u.oneCell' = true)
    (h63 : n + 1 ≤ maxLen) (hbytes : (n + 1) * bytes ≤ 140737488355328) (hbase : base ≤ w.heap.size)
    (h : ∀ v' w', Hid (w'.ownsRow base e 1 v' (n + 1) (xs ++ [u])) → Hid (w.grownBy w' v.ownBlock) → Hid (v' ≠ .slice none 0 0) → wpList P ops Q rest (a.put o.dst v') w') :
    wpList P ops Q (o :: rest) a (w.alloc (.cells #[u] e)) :=
  wpList_append_own _ hgd s x t ho base e i z 1 bytes ht hi hz hsize hby hzs (by omega) v n xs hs (World.ownsRow.alloc hown.out _) ⟨w.heap.size, 0, none⟩ 1 1 [u] hx rfl (cell_one_new _ _ _)
    (by intro y hy; simp at hy; subst hy; exact h1) h63 hbytes (by simp; omega) fun v' w' h2 h3 h4 => h v' w' h2 (grownBy_over_alloc h3) (fun e => by have := h4.1 e; omega)

/-- WHAT A SLICE OF INTEGERS READS AS: 'a' leads to a row whose first cells are zs (where there are none, a may be anything). -/
def RowI (k : IntKind) (w : World) (a : Option Addr) (zs : List Int) : Prop :=
  ∀ i, i < zs.length → ∃ b off, a = some ⟨b, off, none⟩ ∧ w.cell? ⟨b, off + i, none⟩ = some (.int k (zs.getD i 0))
/-- The same of bytes. -/
def RowB (w : World) (a : Option Addr) (bs : List UInt8) : Prop :=
  ∀ i, i < bs.length → ∃ b off, a = some ⟨b, off, none⟩ ∧ w.cell? ⟨b, off + i, none⟩ = some (.int .u8 ((bs.getD i 0).toNat : Int))

theorem RowI.lt {k : IntKind} {w : World} {b off : Nat} {zs : List Int} (h : RowI k w (some ⟨b, off, none⟩) zs) {i : Nat} (hi : i < zs.length) : b < w.heap.size := by
  obtain ⟨b', off', e, hc⟩ := h i hi
  cases e
  exact World.block_lt_of_cell? w _ hc
theorem RowB.lt {w : World} {b off : Nat} {bs : List UInt8} (h : RowB w (some ⟨b, off, none⟩) bs) {i : Nat} (hi : i < bs.length) : b < w.heap.size := by
  obtain ⟨b', off', e, hc⟩ := h i hi
  cases e
  exact World.block_lt_of_cell? w _ hc
theorem RowI.below {k : IntKind} {w w' : World} {a : Option Addr} {zs : List Int} (h : RowI k w a zs) (hb : Below w.heap.size w w') : RowI k w' a zs := by
  intro i hi
  obtain ⟨b, off, rfl, hc⟩ := h i hi
  exact ⟨b, off, rfl, (hb.cell (World.block_lt_of_cell? w _ hc)).trans hc⟩
theorem RowB.below {w w' : World} {a : Option Addr} {bs : List UInt8} (h : RowB w a bs) (hb : Below w.heap.size w w') : RowB w' a bs := by
  intro i hi
  obtain ⟨b, off, rfl, hc⟩ := h i hi
  exact ⟨b, off, rfl, (hb.cell (World.block_lt_of_cell? w _ hc)).trans hc⟩

section
open Go.ChangeShapes
variable {H : Type} {enc : TypeId × Value → H} {P : Program} {w : World}

/-- A slice of integers that came in. -/
theorem open_rowI {t e : TypeId} {k : IntKind} {v : Value} {d : DataW H} {p : List MemPlace} (ht : P.underlying t = some (.slice e)) (he : P.underlying e = some (.int k)) (hc : P.cellsOf e = 1)
    (hv : ∃ a len cap, v = .slice a len cap)
    (h : DataW.Trod enc P w 0 (fun _ => true) true t v d p) : ∃ a cap zs, v = .slice a zs.length cap ∧ zs.length ≤ cap ∧ cap ≤ maxLen ∧ RowI k w a zs ∧ ∀ n ∈ zs, (Lit.int k n).wf = true := by
  obtain ⟨a0, len, cap, rfl⟩ := hv
  obtain ⟨fuel, hf⟩ := h
  rcases open_ints ht he hc hf with ⟨hcs, _⟩ | ⟨x, l, c, zs, hcs, _, hl, hm, hz, _, hcell, hwz⟩
  · simp [Value.cells] at hcs
    obtain ⟨rfl, rfl, rfl⟩ := hcs
    exact ⟨none, 0, [], rfl, Nat.le_refl _, Nat.zero_le _, fun i hi => by simp at hi, fun n hn => by cases hn⟩
  · simp [Value.cells] at hcs
    obtain ⟨rfl, rfl, rfl⟩ := hcs
    simp at hz
    refine ⟨some x, cap, zs.take len, by simp [hz, Nat.min_eq_left hl], by simp [hz, Nat.min_eq_left hl, hl], hm, ?_, fun n hn => hwz n (List.mem_of_mem_take hn)⟩
    intro i hi
    have hi' : i < len ∧ i < zs.length := by simpa [List.length_take, Nat.lt_min] using hi
    have h0 := hcell 0 (by omega)
    have hx := hcell i hi'.2
    obtain ⟨b, off, spot⟩ := x
    have hspot : spot = none := by simpa [Addr.add] using World.cell?_spot h0
    subst hspot
    refine ⟨b, off, rfl, ?_⟩
    have e1 : (⟨b, off, none⟩ : Addr).add i = ⟨b, off + i, none⟩ := by unfold Addr.add; split <;> simp_all
    rw [e1] at hx
    rw [hx]
    simp [List.getD_eq_getElem?_getD, hi'.1]

theorem u8_of_wf {n : Int} (h : (Lit.int .u8 n).wf = true) : ((UInt8.ofNat n.toNat).toNat : Int) = n := by
  have hx : 0 ≤ n ∧ n ≤ 255 := by simpa [Lit.wf, IntKind.min, IntKind.max, IntKind.signed, IntKind.bits] using h
  simp
  omega

/-- A slice of bytes that came in. -/
theorem open_rowB {t e : TypeId} {v : Value} {d : DataW H} {p : List MemPlace} (ht : P.underlying t = some (.slice e)) (he : P.underlying e = some (.int .u8)) (hc : P.cellsOf e = 1)
    (hv : ∃ a len cap, v = .slice a len cap)
    (h : DataW.Trod enc P w 0 (fun _ => true) true t v d p) : ∃ a cap bs, v = .slice a (List.length bs) cap ∧ bs.length ≤ cap ∧ cap ≤ maxLen ∧ RowB w a bs := by
  obtain ⟨a, cap, zs, rfl, hl, hm, hr, hw⟩ := open_rowI ht he hc hv h
  refine ⟨a, cap, zs.map fun n => UInt8.ofNat n.toNat, by simp, by simpa using hl, hm, ?_⟩
  intro i hi
  have hi' : i < zs.length := by simpa using hi
  obtain ⟨b, off, rfl, hx⟩ := hr i hi'
  refine ⟨b, off, rfl, ?_⟩
  rw [hx]
  have h1 := u8_of_wf (hw (zs[i]) (List.getElem_mem hi'))
  rw [show (List.map (fun n => UInt8.ofNat n.toNat) zs).getD i 0 = UInt8.ofNat zs[i].toNat from by simp [hi'], h1, show zs.getD i 0 = zs[i] from by simp [hi']]
end

end Go.Proofs.YtndgacjfkoliaaaDoor
