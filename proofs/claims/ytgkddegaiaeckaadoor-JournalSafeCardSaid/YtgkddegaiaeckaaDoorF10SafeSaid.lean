/- BitsN, Only. -/
import Derived.Laws.BitsAllLaws
import Derived.IntWalk
import Derived.Test.YtgkddegaiaeckaaDoorBase
import Derived.Test.YtgkddegaiaeckaaDoorMem
/- The operations on bits at int, on numbers that are not below nought: as on Nat. -/
namespace Go.Proofs.YtgkddegaiaeckaaDoor
open Go.RowKit

theorem i64_of (n : Nat) (h : n < 9223372036854775808) : IntKind.i64.wrap (n : Int) = (n : Int) := IntWalk.i64_in (n : Int) (by omega)
theorem i64_xor_nat (a b : Nat) (ha : a < 9223372036854775808) (hb : b < 9223372036854775808) : bits .xor .i64 (a : Int) (b : Int) = ((a ^^^ b : Nat) : Int) := by
  have hx : a ^^^ b < 2 ^ 63 := Nat.xor_lt_two_pow (by omega) (by omega)
  show IntKind.i64.wrap ((BitVec.ofInt 64 (a : Int) ^^^ BitVec.ofInt 64 (b : Int)).toNat : Int) = _
  rw [BitVec.toNat_xor, ofInt_u64 a (by omega), ofInt_u64 b (by omega)]
  exact i64_of _ (by omega)
theorem i64_or_nat (a b : Nat) (ha : a < 9223372036854775808) (hb : b < 9223372036854775808) : bits .or .i64 (a : Int) (b : Int) = ((a ||| b : Nat) : Int) := by
  have hx : a ||| b < 2 ^ 63 := Nat.or_lt_two_pow (by omega) (by omega)
  show IntKind.i64.wrap ((BitVec.ofInt 64 (a : Int) ||| BitVec.ofInt 64 (b : Int)).toNat : Int) = _
  rw [BitVec.toNat_or, ofInt_u64 a (by omega), ofInt_u64 b (by omega)]
  exact i64_of _ (by omega)
theorem i64_and_nat (a b : Nat) (ha : a < 9223372036854775808) (hb : b < 9223372036854775808) : bits .and .i64 (a : Int) (b : Int) = ((a &&& b : Nat) : Int) := by
  have hx : a &&& b < 2 ^ 63 := Nat.and_lt_two_pow _ (by omega)
  show IntKind.i64.wrap ((BitVec.ofInt 64 (a : Int) &&& BitVec.ofInt 64 (b : Int)).toNat : Int) = _
  rw [BitVec.toNat_and, ofInt_u64 a (by omega), ofInt_u64 b (by omega)]
  exact i64_of _ (by omega)
/-- The low bits of a number. -/
theorem i64_low (x k : Nat) (hx : x < 9223372036854775808) (hk : k ≤ 20) : bits .and .i64 (x : Int) (wrap64 (wrap64 ((2 : Int) ^ k) - 1)) = ((x % 2 ^ k : Nat) : Int) := by
  have hp := Nat.two_pow_pos k
  have hp2 : 2 ^ k ≤ 2 ^ 20 := Nat.pow_le_pow_right (by omega) hk
  have e : (2 : Int) ^ k = ((2 ^ k : Nat) : Int) := by simp
  have hm := i64_and_nat x (2 ^ k - 1) hx (by omega)
  rw [Nat.and_two_pow_sub_one_eq_mod] at hm
  rw [← hm, e]
  obtain ⟨y, hy⟩ : ∃ y, y = 2 ^ k := ⟨_, rfl⟩
  rw [← hy] at hp hp2 ⊢
  rw [IntWalk.wrap64_in (y : Int) (by omega), IntWalk.wrap64_in ((y : Int) - 1) (by omega), show (y : Int) - 1 = ((y - 1 : Nat) : Int) from by omega]
/-- Two halves joined. -/
theorem i64_join (a b k : Nat) (ha : a < 1048576) (hk : k ≤ 20) (hb : b < 2 ^ k) : bits .or .i64 (wrap64 ((a : Int) * (2 : Int) ^ k)) (b : Int) = ((a * 2 ^ k + b : Nat) : Int) := by
  have hp2 : 2 ^ k ≤ 2 ^ 20 := Nat.pow_le_pow_right (by omega) hk
  have hm : a * 2 ^ k < 1048576 * 2 ^ 20 := Nat.lt_of_le_of_lt (Nat.mul_le_mul_left _ hp2) (Nat.mul_lt_mul_of_pos_right ha (by decide))
  have e : (a : Int) * (2 : Int) ^ k = ((a * 2 ^ k : Nat) : Int) := by simp
  have h2 := Nat.shiftLeft_add_eq_or_of_lt hb a
  rw [Nat.shiftLeft_eq] at h2
  rw [e, h2]
  obtain ⟨y, hy⟩ : ∃ y, y = a * 2 ^ k := ⟨_, rfl⟩
  rw [← hy] at hm ⊢
  rw [IntWalk.wrap64_in (y : Int) (by omega)]
  exact i64_or_nat y b (by omega) (by omega)

end Go.Proofs.YtgkddegaiaeckaaDoor
/- A frame: only some blocks changed. Of whatever program. -/
namespace Go.Proofs.YtgkddegaiaeckaaDoor
open Go.RowKit

/-- Of the blocks that were there only those of D may have changed. -/
structure Only (D : Nat → Prop) (w w' : World) : Prop where
  os : w'.os = w.os
  tape : w'.tape = w.tape
  output : w'.output = w.output
  size : w.heap.size ≤ w'.heap.size
  block : ∀ k, k < w.heap.size → ¬ D k → w'.heap[k]? = w.heap[k]?
theorem Only.refl (D : Nat → Prop) (w : World) : Only D w w := ⟨rfl, rfl, rfl, Nat.le_refl _, fun _ _ _ => rfl⟩
theorem Only.mono {D E : Nat → Prop} {w w' : World} (h : Only D w w') (hd : ∀ k, k < w.heap.size → D k → E k) : Only E w w' :=
  ⟨h.os, h.tape, h.output, h.size, fun k hk hn => h.block k hk fun hD => hn (hd k hk hD)⟩
theorem Only.trans {D E : Nat → Prop} {a b c : World} (h : Only D a b) (h' : Only E b c) (hd : ∀ k, k < a.heap.size → E k → D k) : Only D a c :=
  ⟨h'.os.trans h.os, h'.tape.trans h.tape, h'.output.trans h.output, Nat.le_trans h.size h'.size, fun k hk hn => (h'.block k (Nat.lt_of_lt_of_le hk h.size) fun hE => hn (hd k hk hE)).trans (h.block k hk hn)⟩
theorem Only.ofBelow {D : Nat → Prop} {w w' : World} (h : Below w.heap.size w w') : Only D w w' :=
  ⟨h.os, h.tape, h.output, h.size, fun k hk _ => h.block k hk⟩
theorem Only.ofGrown {D : Nat → Prop} {w w' : World} {row : Option Nat} (h : w.grownBy w' row) (hd : ∀ k, row = some k → D k) : Only D w w' :=
  ⟨h.os, h.tape, h.output, h.size, fun k hk hn => h.block k hk fun e => hn (hd k e.symm)⟩
theorem Only.ofUpd {D : Nat → Prop} {b : Nat} {o : Obj} {w w' : World} (h : Upd b o w w') (hd : D b) : Only D w w' :=
  ⟨h.os, h.tape, h.output, Nat.le_of_eq h.size.symm, fun k hk hn => h.block k fun e => hn (e ▸ hd)⟩
theorem Only.ofDrawn {D : Nat → Prop} {w w' : World} (h : Drawn w w') : Only D w w' := Only.ofBelow (h.below _)
theorem Only.drew {D : Nat → Prop} {w w' : World} (h : Only D w w') : Only D w w'.drew := ⟨h.os, h.tape, h.output, h.size, h.block⟩
theorem Only.drewN {D : Nat → Prop} {w w' : World} (h : Only D w w') (n : Nat) : Only D w (w'.drewN n) := h.trans (Only.ofDrawn (D := D) ⟨n, rfl⟩) fun _ _ h => h
theorem Only.alloc {D : Nat → Prop} {w w' : World} (h : Only D w w') (o : Obj) : Only D w (w'.alloc o) :=
  h.trans (Only.ofBelow (D := D) (Below.alloc (Below.refl _ _) (Nat.le_refl _) o)) fun _ _ h => h
theorem Only.setCell {D : Nat → Prop} {w w' : World} (h : Only D w w') (a : Addr) (u : Value) (hd : a.block < w.heap.size → D a.block) : Only D w (w'.setCell a u) :=
  ⟨h.os, h.tape, h.output, by simpa [World.setCell] using h.size, fun k hk hn => (Below.heap_setCell _ _ _ _ (by rintro rfl; exact hn (hd hk))).trans (h.block k hk hn)⟩
/-- Where all that may change lies from B on. -/
theorem Only.below {D : Nat → Prop} {w w' : World} {B : Nat} (h : Only D w w') (hB : B ≤ w.heap.size) (hd : ∀ k, D k → B ≤ k) : Below B w w' :=
  ⟨h.os, h.tape, h.output, h.size, fun k hk => h.block k (by omega) fun hD => by have := hd k hD; omega⟩
theorem Only.owns {D : Nat → Prop} {w w' : World} {base : Nat} {e : TypeId} {s n : Nat} {v : Value} {xs : List Value} (h : Only D w w') (ho : w.ownsRow base e s v n xs) (hd : ∀ k, v.ownBlock = some k → ¬ D k) : w'.ownsRow base e s v n xs := by
  refine ⟨ho.1, ?_⟩
  rcases ho.2 with h2 | ⟨g, cap, cur, e1, e2, e3, e4⟩
  · exact .inl h2
  · subst e1
    exact .inr ⟨g, cap, cur, rfl, e2, (h.block g (block_lt e3) (hd g rfl)).trans e3, e4⟩
theorem Only.heap {D : Nat → Prop} {w w' : World} {b : Nat} {o : Obj} (h : Only D w w') (hb : w.heap[b]? = some o) (hd : ¬ D b) : w'.heap[b]? = some o := (h.block b (block_lt hb) hd).trans hb
theorem Only.argB {D : Nat → Prop} {w w' : World} {a : Option Addr} {cap : Nat} {bs : List UInt8} (h : Only D w w') (ha : ArgB w a cap bs) (hd : ∀ b o, a = some ⟨b, o, none⟩ → ¬ D b) : ArgB w' a cap bs := by
  refine ⟨ha.len, ha.most, ha.nil, fun i hi => ?_⟩
  obtain ⟨b, o, rfl, hc⟩ := ha.row i hi
  have hlt : b < w.heap.size := World.block_lt_of_cell? w _ hc
  exact ⟨b, o, rfl, (World.cell?_of_block (w := w) (w' := w') (a := ⟨b, o + i, none⟩) (h.block b hlt (hd b o rfl))).trans hc⟩
theorem owns_mono {w : World} {base base' : Nat} {e : TypeId} {s n : Nat} {v : Value} {xs : List Value} (ho : w.ownsRow base e s v n xs) (hb : base' ≤ base) : w.ownsRow base' e s v n xs := by
  refine ⟨ho.1, ?_⟩
  rcases ho.2 with h2 | ⟨g, cap, cur, e1, e2, e3⟩
  · exact .inl h2
  · exact .inr ⟨g, cap, cur, e1, by omega, e3⟩

end Go.Proofs.YtgkddegaiaeckaaDoor
