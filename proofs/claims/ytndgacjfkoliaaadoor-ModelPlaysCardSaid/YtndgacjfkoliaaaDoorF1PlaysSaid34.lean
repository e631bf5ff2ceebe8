/- Moved, Only. -/
import Derived.Test.YtndgacjfkoliaaaDoorMem
import Derived.Test.YtndgacjfkoliaaaDoorBase
/- Where a row lies behind an append: as before, or in a new block. Of whatever program. -/
namespace Go.Proofs.YtndgacjfkoliaaaDoor
open Go.RowKit

/-- The row lies where it lay, or in a block that is new since w. -/
def Moved (w : World) (v v' : Value) : Prop := ∀ k, v'.ownBlock = some k → v.ownBlock = some k ∨ w.heap.size ≤ k
theorem Moved.trans {w w1 : World} {v v1 v2 : Value} (h : Moved w v v1) (h' : Moved w1 v1 v2) (hs : w.heap.size ≤ w1.heap.size) : Moved w v v2 := by
  intro k hk
  rcases h' k hk with h1 | h1
  · exact h k h1
  · exact .inr (by omega)
end Go.Proofs.YtndgacjfkoliaaaDoor
/- A frame: only some blocks changed. Of whatever program. -/
namespace Go.Proofs.YtndgacjfkoliaaaDoor
open Go.RowKit

/-- Of the blocks that were there only those of D may have changed. -/
structure Only (D : Nat → Prop) (w w' : World) : Prop where
  os : w'.os = w.os
  tape : w'.tape = w.tape
  output : w'.output = w.output
  size : w.heap.size ≤ w'.heap.size
  block : ∀ k, k < w.heap.size → ¬ D k → w'.heap[k]? = w.heap[k]?
theorem Only.refl (D : Nat → Prop) (w : World) : Only D w w := ⟨rfl, rfl, rfl, Nat.le_refl _, fun _ _ _ => rfl⟩
theorem Only.mono {D E : Nat → Prop} {w w' : World} (h : Only D w w') (hd : ∀ k, k < w.heap.size → D k → E k) : Only E w w' :=
  ⟨h.os, h.tape, h.output, h.size, fun k hk hn => h.block k hk fun hD => hn (hd k hk hD)⟩
theorem Only.trans {D E : Nat → Prop} {a b c : World} (h : Only D a b) (h' : Only E b c) (hd : ∀ k, k < a.heap.size → E k → D k) : Only D a c :=
  ⟨h'.os.trans h.os, h'.tape.trans h.tape, h'.output.trans h.output, Nat.le_trans h.size h'.size, fun k hk hn => (h'.block k (Nat.lt_of_lt_of_le hk h.size) fun hE => hn (hd k hk hE)).trans (h.block k hk hn)⟩
theorem Only.ofBelow {D : Nat → Prop} {w w' : World} (h : Below w.heap.size w w') : Only D w w' :=
  ⟨h.os, h.tape, h.output, h.size, fun k hk _ => h.block k hk⟩
theorem Only.ofGrown {D : Nat → Prop} {w w' : World} {row : Option Nat} (h : w.grownBy w' row) (hd : ∀ k, row = some k → D k) : Only D w w' :=
  ⟨h.os, h.tape, h.output, h.size, fun k hk hn => h.block k hk fun e => hn (hd k e.symm)⟩
theorem Only.ofUpd {D : Nat → Prop} {b : Nat} {o : Obj} {w w' : World} (h : Upd b o w w') (hd : D b) : Only D w w' :=
  ⟨h.os, h.tape, h.output, Nat.le_of_eq h.size.symm, fun k _ hn => h.block k fun e => hn (e ▸ hd)⟩
theorem Only.ofDrawn {D : Nat → Prop} {w w' : World} (h : Drawn w w') : Only D w w' := Only.ofBelow (h.below _)
theorem Only.drew {D : Nat → Prop} {w w' : World} (h : Only D w w') : Only D w w'.drew := ⟨h.os, h.tape, h.output, h.size, h.block⟩
theorem Only.drewN {D : Nat → Prop} {w w' : World} (h : Only D w w') (n : Nat) : Only D w (w'.drewN n) := h.trans (Only.ofDrawn (D := D) ⟨n, rfl⟩) fun _ _ h => h
theorem Only.alloc {D : Nat → Prop} {w w' : World} (h : Only D w w') (o : Obj) : Only D w (w'.alloc o) :=
  h.trans (Only.ofBelow (D := D) (Below.alloc (Below.refl _ _) (Nat.le_refl _) o)) fun _ _ h => h
theorem Only.setCell {D : Nat → Prop} {w w' : World} (h : Only D w w') (a : Addr) (u : Value) (hd : a.block < w.heap.size → D a.block) : Only D w (w'.setCell a u) :=
  ⟨h.os, h.tape, h.output, by simpa [World.setCell] using h.size, fun k hk hn => (Below.heap_setCell _ _ _ _ (by rintro rfl; exact hn (hd hk))).trans (h.block k hk hn)⟩
/-- Where all that may change lies from B on. -/
theorem Only.below {D : Nat → Prop} {w w' : World} {B : Nat} (h : Only D w w') (hB : B ≤ w.heap.size) (hd : ∀ k, D k → B ≤ k) : Below B w w' :=
  ⟨h.os, h.tape, h.output, h.size, fun k hk => h.block k (by omega) fun hD => by have := hd k hD; omega⟩
theorem Only.owns {D : Nat → Prop} {w w' : World} {base : Nat} {e : TypeId} {s n : Nat} {v : Value} {xs : List Value} (h : Only D w w') (ho : w.ownsRow base e s v n xs) (hd : ∀ k, v.ownBlock = some k → ¬ D k) : w'.ownsRow base e s v n xs := by
  refine ⟨ho.1, ?_⟩
  rcases ho.2 with h2 | ⟨g, cap, cur, e1, e2, e3, e4⟩
  · exact .inl h2
  · subst e1
    exact .inr ⟨g, cap, cur, rfl, e2, (h.block g (block_lt e3) (hd g rfl)).trans e3, e4⟩
theorem Only.heap {D : Nat → Prop} {w w' : World} {b : Nat} {o : Obj} (h : Only D w w') (hb : w.heap[b]? = some o) (hd : ¬ D b) : w'.heap[b]? = some o := (h.block b (block_lt hb) hd).trans hb
theorem Only.argB {D : Nat → Prop} {w w' : World} {a : Option Addr} {cap : Nat} {bs : List UInt8} (h : Only D w w') (ha : ArgB w a cap bs) (hd : ∀ b o, a = some ⟨b, o, none⟩ → ¬ D b) : ArgB w' a cap bs := by
  refine ⟨ha.len, ha.most, ha.nil, fun i hi => ?_⟩
  obtain ⟨b, o, rfl, hc⟩ := ha.row i hi
  have hlt : b < w.heap.size := World.block_lt_of_cell? w _ hc
  exact ⟨b, o, rfl, (World.cell?_of_block (w := w) (w' := w') (a := ⟨b, o + i, none⟩) (h.block b hlt (hd b o rfl))).trans hc⟩
theorem owns_mono {w : World} {base base' : Nat} {e : TypeId} {s n : Nat} {v : Value} {xs : List Value} (ho : w.ownsRow base e s v n xs) (hb : base' ≤ base) : w.ownsRow base' e s v n xs := by
  refine ⟨ho.1, ?_⟩
  rcases ho.2 with h2 | ⟨g, cap, cur, e1, e2, e3⟩
  · exact .inl h2
  · exact .inr ⟨g, cap, cur, e1, by omega, e3⟩

end Go.Proofs.YtndgacjfkoliaaaDoor
