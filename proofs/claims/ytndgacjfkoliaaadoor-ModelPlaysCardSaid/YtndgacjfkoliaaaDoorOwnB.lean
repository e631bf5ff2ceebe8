/- Rows of bytes that a call makes: made, cloned, appended to, read, stored to. -/
import Derived.Test.YtndgacjfkoliaaaDoorBase
import Derived.Test.YtndgacjfkoliaaaDoorMem
import Derived.Lib.LazyBuf
import Derived.Test.YtndgacjfkoliaaaDoorRows
import Derived.Outline
namespace Go.Proofs.YtndgacjfkoliaaaDoor
open Go.RowKit

/-- The coefficient at a place. -/
def cf (p : List UInt8) (i : Nat) : UInt8 := p.getD i 0
theorem cf_lt {p : List UInt8} {i : Nat} (h : i < p.length) : cf p i = p[i] := by simp [cf, h]
theorem cf_ge {p : List UInt8} {i : Nat} (h : p.length ≤ i) : cf p i = 0 := by simp [cf, h]
theorem cf_cons_zero (b : UInt8) (p : List UInt8) : cf (b :: p) 0 = b := rfl
theorem cf_cons_succ (b : UInt8) (p : List UInt8) (i : Nat) : cf (b :: p) (i + 1) = cf p i := by simp [cf]
theorem cf_ext {p q : List UInt8} (hl : p.length = q.length) (h : ∀ i, cf p i = cf q i) : p = q := by
  apply List.ext_getElem hl
  intro i h1 h2
  have := h i
  rwa [cf_lt h1, cf_lt h2] at this
theorem cf_append (p q : List UInt8) (i : Nat) : cf (p ++ q) i = if i < p.length then cf p i else cf q (i - p.length) := by
  unfold cf
  by_cases h : i < p.length
  · simp [h, List.getElem?_append_left]
  · rw [if_neg h]
    simp [List.getD_eq_getElem?_getD, List.getElem?_append_right (Nat.le_of_not_lt h)]
theorem cf_take (p : List UInt8) (n i : Nat) : cf (p.take n) i = if i < n then cf p i else 0 := by
  unfold cf
  by_cases h : i < n
  · simp [h, List.getD_eq_getElem?_getD]
  · rw [if_neg h, List.getD_eq_getElem?_getD, List.getElem?_eq_none (by simp; omega)]; rfl
theorem cf_drop (p : List UInt8) (n i : Nat) : cf (p.drop n) i = cf p (n + i) := by simp [cf]
/-- n coefficients. -/
def tab (n : Nat) (f : Nat → UInt8) : List UInt8 := (List.range n).map f
theorem tab_length (n : Nat) (f : Nat → UInt8) : (tab n f).length = n := by simp [tab]
theorem tab_succ (n : Nat) (f : Nat → UInt8) : tab (n + 1) f = tab n f ++ [f n] := by simp [tab, List.range_succ]
theorem cf_tab (n : Nat) (f : Nat → UInt8) (i : Nat) : cf (tab n f) i = if i < n then f i else 0 := by
  unfold cf tab
  by_cases h : i < n
  · simp [h]
  · simp [h]
theorem tab_cf (p : List UInt8) : tab p.length (cf p) = p := by
  apply cf_ext (tab_length _ _)
  intro i
  rw [cf_tab]
  by_cases h : i < p.length
  · rw [if_pos h]
  · rw [if_neg h, cf_ge (Nat.le_of_not_lt h)]
theorem tab_congr {n : Nat} {f g : Nat → UInt8} (h : ∀ i, i < n → f i = g i) : tab n f = tab n g := by
  apply cf_ext (by simp [tab_length])
  intro i
  rw [cf_tab, cf_tab]
  by_cases hi : i < n
  · rw [if_pos hi, if_pos hi, h i hi]
  · rw [if_neg hi, if_neg hi]

theorem tab_set (n : Nat) (f : Nat → UInt8) (i : Nat) (x : UInt8) : (tab n f).set i x = tab n fun j => if j = i then x else f j := by
  apply cf_ext (by simp [tab_length])
  intro j
  by_cases hj : j < n
  · rw [cf_tab, if_pos hj]
    unfold cf
    rw [List.getD_eq_getElem?_getD, List.getElem?_set]
    by_cases h : i = j
    · subst h
      rw [if_pos rfl, if_pos (by rw [tab_length]; exact hj), if_pos rfl]; rfl
    · rw [if_neg h, if_neg (fun e => h e.symm), ← List.getD_eq_getElem?_getD]
      have := cf_tab n f j
      rw [if_pos hj] at this
      exact this
  · rw [cf_ge (by simp [tab_length]; omega), cf_ge (by simp [tab_length]; omega)]
theorem tab_zero (n : Nat) : tab n (fun _ => 0) = List.replicate n 0 := by
  apply List.ext_getElem (by simp [tab])
  intro i h1 h2
  simp [tab]
/-- One store. -/

theorem Tryd.infoByteP : (Tryd.prog.info? 5).map (fun i => (i.zero, i.size, i.bytes)) = some (some (.int .u8 0), 1, 1) := by kernel_rfl

/-- Bytes of the call's own. -/
def OwnB (base : Nat) (w : World) (v : Value) (bs : List UInt8) : Prop := w.ownsRow base 5 1 v bs.length (cB bs)
theorem OwnB.arg {base : Nat} {w : World} {v : Value} {bs : List UInt8} (h : OwnB base w v bs) : ∃ a c, v = .slice a bs.length c ∧ ArgB w a c bs ∧ ∀ b o s, a = some ⟨b, o, s⟩ → base ≤ b ∧ b < w.heap.size := by
  obtain ⟨a, c, rfl, h1, h2, h3, h4, _, h5⟩ := owns_any h
  rw [cB_length] at h2
  refine ⟨a, c, by rw [cB_length], ⟨h2, h3, h1, h4.toB⟩, h5⟩
theorem OwnB.nil (base : Nat) (w : World) : OwnB base w (.slice none 0 0) [] := ⟨rfl, .inl ⟨rfl, rfl⟩⟩

theorem OwnB.mono {base base' : Nat} {w : World} {v : Value} {bs : List UInt8} (h : OwnB base w v bs) (hb : base' ≤ base) : OwnB base' w v bs := by
  obtain ⟨h1, h2⟩ := h
  refine ⟨h1, ?_⟩
  rcases h2 with h2 | ⟨g, cap, cur, e1, e2, e3⟩
  · exact .inl h2
  · exact .inr ⟨g, cap, cur, e1, by omega, e3⟩
theorem owns_made0 (w : World) (base : Nat) (hb : base ≤ w.heap.size) : OwnB base (w.alloc (.cells #[] 5)) (.slice (some ⟨w.heap.size, 0, none⟩) 0 0) [] := by
  have h := World.ownsRow_made (base := base) (e := 5) (size := 1) w #[] 0 hb (by decide) (by simp)
  simpa [OwnB, cB] using h

section
variable {w : World} {ops : Array Oper} {rest : List Oper} {o : Oper} {a : Act} {Q : Exit → Act → World → Prop}
end

/-- A literal. -/
theorem argB_lit (w : World) (t : TypeId) (bs : List UInt8) (cs : Array Value) (h : cs = (cB bs).toArray) (hl : bs.length ≤ 1000000) : ArgB (w.alloc (.cells cs t)) (some ⟨w.heap.size, 0, none⟩) bs.length bs := by
  subst h
  refine ⟨Nat.le_refl _, (by unfold maxLen; omega), (fun e => by cases e), fun i hi => ⟨_, _, rfl, ?_⟩⟩
  rw [cell_of_block (heap_alloc_new w _)]
  simp [cB, hi]
theorem own_lit (w : World) (bs : List UInt8) (cs : Array Value) (h : cs = (cB bs).toArray) (hl : bs.length ≤ 1000000) : OwnB w.heap.size (w.alloc (.cells cs 5)) (.slice (some ⟨w.heap.size, 0, none⟩) bs.length bs.length) bs := by
  subst h
  have := World.ownsRow_lit (base := w.heap.size) (e := 5) (size := 1) w (cB bs).toArray bs.length (Nat.le_refl _) (by unfold maxLen; omega) (by simp [cB_length])
  unfold OwnB
  simpa using this
theorem OwnB.below {base B : Nat} {w w' : World} {v : Value} {bs : List UInt8} (h : OwnB base w v bs) (hb : Below B w w') (hB : w.heap.size ≤ B) : OwnB base w' v bs := by
  refine ⟨h.1, ?_⟩
  rcases h.2 with h2 | ⟨g, cap, cur, e1, e2, e3, e4⟩
  · exact .inl h2
  · exact .inr ⟨g, cap, cur, e1, e2, (hb.block g (by have := block_lt e3; omega)).trans e3, e4⟩

theorem OwnB.cell {base g n cap : Nat} {w : World} {bs : List UInt8} (h : OwnB base w (.slice (some ⟨g, 0, none⟩) n cap) bs) (hn : n = bs.length) {j : Nat} (hj : j < n) : w.cell? ⟨g, j, none⟩ = some (.int .u8 ((cf bs j).toNat : Int)) := by
  subst hn
  have := World.ownsRow.cellAt h j (by omega)
  rw [this]
  simp [cB, cf, hj]
theorem OwnB.free {base g n cap : Nat} {w : World} {bs : List UInt8} (h : OwnB base w (.slice (some ⟨g, 0, none⟩) n cap) bs) (hn : n = bs.length) (j : Nat) : w.frozen? ⟨g, j, none⟩ = false := by
  subst hn
  exact World.ownsRow.frozenAt h j
theorem OwnB.set {base g n cap : Nat} {w : World} {bs : List UInt8} (h : OwnB base w (.slice (some ⟨g, 0, none⟩) n cap) bs) (hn : n = bs.length) (j : Nat) (x : UInt8) : OwnB base (w.setCell ⟨g, j, none⟩ (.int .u8 (x.toNat : Int))) (.slice (some ⟨g, 0, none⟩) n cap) (bs.set j x) := by
  subst hn
  have := (World.ownsRow.stored h j (.int .u8 (x.toNat : Int))).1
  unfold OwnB
  rw [List.length_set, show cB (bs.set j x) = (cB bs).set j (.int .u8 (x.toNat : Int)) from by simp [cB, List.map_set]]
  exact this
theorem OwnB.made {base g n cap : Nat} {w : World} (h : w.ownsRow base 5 1 (.slice (some ⟨g, 0, none⟩) n cap) n (madeCells #[Value.int .u8 0] n).toList) : OwnB base w (.slice (some ⟨g, 0, none⟩) n cap) (tab n fun _ => 0) := by
  unfold OwnB
  rw [tab_length, tab_zero]
  rw [show cB (List.replicate n 0) = (madeCells #[Value.int .u8 0] n).toList from by rw [toList_madeCells_one]; simp [cB]]
  exact h


theorem OwnB.form {base : Nat} {w : World} {v : Value} {bs : List UInt8} (h : OwnB base w v bs) (hn : 0 < bs.length) : ∃ g c, v = .slice (some ⟨g, 0, none⟩) bs.length c ∧ base ≤ g := by
  rcases h.2 with ⟨_, hx⟩ | ⟨g, cap, cur, e1, e2, _⟩
  · rw [hx] at hn; exact absurd hn (by omega)
  · exact ⟨g, cap, e1, e2⟩

end Go.Proofs.YtndgacjfkoliaaaDoor
