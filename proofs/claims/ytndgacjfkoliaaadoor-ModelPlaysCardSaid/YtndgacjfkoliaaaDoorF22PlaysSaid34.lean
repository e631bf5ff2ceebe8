/- RecOne, Chk, YieldRow, MPost. -/
import Derived.Test.YtndgacjfkoliaaaDoorF20PlaysSaid34
import Derived.Test.YtndgacjfkoliaaaDoorF21PlaysSaid34
import Derived.Test.YtndgacjfkoliaaaDoorF16PlaysSaid34
import Derived.Test.YtndgacjfkoliaaaDoorF9PlaysSaid34
import Derived.Test.YtndgacjfkoliaaaDoorF4PlaysSaid34
import Derived.Test.YtndgacjfkoliaaaDoorF19PlaysSaid34
import Derived.Test.YtndgacjfkoliaaaDoorF17PlaysSaid34
/- record.bare for every record, in plain words. -/
namespace Go.Proofs.YtndgacjfkoliaaaDoor
open Go.RowKit

def zA6 : Array Value := #[Value.int IntKind.i64 0, Value.int IntKind.i64 0, Value.int IntKind.i64 0, Value.int IntKind.i64 0, Value.int IntKind.i64 0, Value.int IntKind.i64 0]
def zA32 : Array Value := #[Value.int IntKind.u8 0, Value.int IntKind.u8 0, Value.int IntKind.u8 0, Value.int IntKind.u8 0, Value.int IntKind.u8 0, Value.int IntKind.u8 0, Value.int IntKind.u8 0, Value.int IntKind.u8 0, Value.int IntKind.u8 0, Value.int IntKind.u8 0, Value.int IntKind.u8 0, Value.int IntKind.u8 0, Value.int IntKind.u8 0, Value.int IntKind.u8 0, Value.int IntKind.u8 0, Value.int IntKind.u8 0, Value.int IntKind.u8 0, Value.int IntKind.u8 0, Value.int IntKind.u8 0, Value.int IntKind.u8 0, Value.int IntKind.u8 0, Value.int IntKind.u8 0, Value.int IntKind.u8 0, Value.int IntKind.u8 0, Value.int IntKind.u8 0, Value.int IntKind.u8 0, Value.int IntKind.u8 0, Value.int IntKind.u8 0, Value.int IntKind.u8 0, Value.int IntKind.u8 0, Value.int IntKind.u8 0, Value.int IntKind.u8 0]
theorem zeroPar : zA6.toList = P6.zero.list := rfl
theorem zeroDig : zA32.toList = cB z32 := by rfl
def Rc.bare (x : Rc) : Rc :=
  if x.kind = 1 then { x with obj := 0, tick := 0, name := ⟨#[]⟩, p := P6.zero, root := z32, file := z32, kind := 0 }
  else if x.kind = 2 then { x with obj := 0, tick := 0, way := 0, index := 0, id := 0, kind := 0 }
  else if x.kind = 3 then { x with obj := 0, tick := 0, verdict := 0, id := 0, kind := 0 }
  else { x with obj := 0, tick := 0, kind := 0 }
theorem Rc.size {x : Rc} (h : x.Ok) : x.list.toArray.size = 78 := by rw [List.size_toArray, Rc.len h.root h.file]
theorem Rc.at0 (x : Rc) : ∀ h, x.list.toArray[0]'h = .int .i64 x.kind := fun _ => by simp [Rc.list]
theorem Rc.at1 (x : Rc) : ∀ h, x.list.toArray[1]'h = .int .i64 x.obj := fun _ => by simp [Rc.list]
theorem Rc.at2 (x : Rc) : ∀ h, x.list.toArray[2]'h = .int .i64 x.id := fun _ => by simp [Rc.list]
theorem Rc.at3 (x : Rc) : ∀ h, x.list.toArray[3]'h = .string x.name := fun _ => by simp [Rc.list]
theorem arr_at {l : List Value} {i : Nat} {v : Value} (h : l[i]? = some v) : ∀ h', l.toArray[i]'h' = v := fun h' => by
  have h2 : i < l.length := by simpa using h'
  rw [List.getElem?_eq_getElem h2, Option.some.injEq] at h
  simpa using h
theorem Rc.at74 {x : Rc} (h : x.Ok) : ∀ h', x.list.toArray[74]'h' = .int .i64 x.way := arr_at (Rc.c74 h.root h.file)
theorem Rc.at75 {x : Rc} (h : x.Ok) : ∀ h', x.list.toArray[75]'h' = .int .i64 x.index := arr_at (Rc.c75 h.root h.file)
theorem Rc.at76 {x : Rc} (h : x.Ok) : ∀ h', x.list.toArray[76]'h' = .int .i64 x.verdict := arr_at (Rc.c76 h.root h.file)
theorem Rc.at77 {x : Rc} (h : x.Ok) : ∀ h', x.list.toArray[77]'h' = .int .i64 x.tick := arr_at (Rc.c77 h.root h.file)
theorem z32_len : z32.length = 32 := by decide

theorem Rc.bare_ok {x : Rc} (h : x.Ok) : (x.bare).Ok := by
  obtain ⟨a1, a2, a3, a4, a5, a6, a7, a8, a9, a10, a11⟩ := h
  have z : inI 0 := by decide
  have zs : (⟨#[]⟩ : ByteArray).size ≤ maxLen := by decide
  have zp : P6.zero.Ok := ⟨by decide, by decide, by decide, by decide, by decide, by decide⟩
  unfold Rc.bare
  split
  · exact ⟨z, z, a3, zs, zp, z32_len, z32_len, a8, a9, a10, z⟩
  · split
    · exact ⟨z, z, z, a4, a5, a6, a7, z, z, a10, z⟩
    · split
      · exact ⟨z, z, z, a4, a5, a6, a7, a8, a9, z, z⟩
      · exact ⟨z, z, a3, a4, a5, a6, a7, a8, a9, a10, z⟩
/-- Its numbers are in their bounds. -/
def Rc.nums (x : Rc) : Bool := numsB x.kind x.obj x.id x.way x.index x.verdict x.tick
end Go.Proofs.YtndgacjfkoliaaaDoor
/- record.Check for every record: which error. -/
namespace Go.Proofs.YtndgacjfkoliaaaDoor
open Go.RowKit

/-- A value of type error, and its number (0: nil). -/
def ErrIs (ea : Nat → Addr) (w : World) (v : Value) (n : Nat) : Prop :=
  (n = 0 ∧ v = .nilIface) ∨ (∃ i, i < 20 ∧ n = i + 1 ∧ v = .iface 137 (.pointer (some (ea i)))) ∨
  ∃ i g F V, i < 20 ∧ n = i + 1 ∧ v = .iface 90 (.pointer (some ⟨g, 0, none⟩)) ∧ w.heap[g]? = some (.cells #[.string F, .int .i64 V, .iface 137 (.pointer (some (ea i)))] 92 (0, 0))
theorem ErrIs.below {ea : Nat → Addr} {w w' : World} {v : Value} {n : Nat} (h : ErrIs ea w v n) (hb : Below w.heap.size w w') : ErrIs ea w' v n := by
  rcases h with h | h | ⟨i, g, F, V, h1, h2, h3, h4⟩
  · exact .inl h
  · exact .inr (.inl h)
  · exact .inr (.inr ⟨i, g, F, V, h1, h2, h3, (hb.block _ (block_lt h4)).trans h4⟩)
theorem num_is {ea : Nat → Addr} {w : World} {v : Value} {n : Nat} (h : ErrIs ea w v n) (H : Errs 137 errGs w ea) : Calls Tryd.prog 18 #[v] w fun e w' => e = .returned (.int .i64 (n : Int)) ∧ Below w.heap.size w w' := by
  rcases h with ⟨rfl, rfl⟩ | ⟨i, h1, rfl, rfl⟩ | ⟨i, g, F, V, h1, rfl, rfl, h4⟩
  · refine (num_nil w).mono ?_
    rintro e w' ⟨rfl, rfl⟩
    exact ⟨rfl, Below.refl _ _⟩
  · exact num_err i h1 ea w H
  · exact num_wrap g F V i h1 ea w H h4
theorem ErrIs.lt {ea : Nat → Addr} {w : World} {v : Value} {n : Nat} (h : ErrIs ea w v n) : n ≤ 20 := by
  rcases h with ⟨rfl, rfl⟩ | ⟨i, h1, rfl, rfl⟩ | ⟨i, g, F, V, h1, rfl, rfl, h4⟩ <;> omega
/-- 'err != nil'. -/
theorem ErrIs.neq {ea : Nat → Addr} {w : World} {v : Value} {n : Nat} (h : ErrIs ea w v n) (W : World) : (binOp .neq 50 v .nilIface).run Tryd.prog W = .ok (.bool (n != 0)) W := by
  rcases h with ⟨rfl, rfl⟩ | ⟨i, h1, rfl, rfl⟩ | ⟨i, g, F, V, h1, rfl, rfl, h4⟩
  · show _ = _
    kernel_rfl
  · show _ = _
    kernel_rfl
  · show _ = _
    kernel_rfl
theorem ErrIs.guard {ea : Nat → Addr} {w : World} {v : Value} {n : Nat} (h : ErrIs ea w v n) (W : World) (i : Nat) : Sem.run Tryd.prog (eqGuard .neq 50 (.tmp i) (.const .nilIface) v .nilIface) W = .ok () W := by
  rcases h with ⟨rfl, rfl⟩ | ⟨i, h1, rfl, rfl⟩ | ⟨i, g, F, V, h1, rfl, rfl, h4⟩
  · show _ = _
    kernel_rfl
  · show _ = _
    kernel_rfl
  · show _ = _
    kernel_rfl

def Rc.chk (x : Rc) : Nat :=
  if x.kind < 1 ∨ 4 < x.kind then 7 else if x.nums = false then 1
  else if x.kind = 1 then (if labB x.name.data.toList = false then 6 else match badAt x.p.s x.p.n x.p.k x.p.d x.p.t x.p.r with
    | some (_, _, i) => i + 1
    | none => if x.bare = Rc.zero then 0 else 4)
  else if x.bare = Rc.zero then 0 else 4
def ChkPost (ea : Nat → Addr) (x : Rc) (w : World) (e : Ending) (w' : World) : Prop := ∃ v, e = .returned v ∧ ErrIs ea w' v x.chk ∧ Below w.heap.size w w'
theorem parCheck_any (p : P6) (hp : p.Ok) (ea : Nat → Addr) (w : World) (H : Errs 137 errGs w ea) :
    Calls Tryd.prog 27 #[.agg p.list.toArray] w fun e w' => ∃ v, e = .returned v ∧ ErrIs ea w' v (match badAt p.s p.n p.k p.d p.t p.r with | some (_, _, i) => i + 1 | none => 0) ∧ Below w.heap.size w w' := by
  cases hb : badAt p.s p.n p.k p.d p.t p.r with
  | none =>
    refine (check_ok p.s p.n p.k p.d p.t p.r (badAt_ok hb) (pz ea) w (par_of H)).mono ?_
    rintro e w' ⟨rfl, h⟩
    exact ⟨_, rfl, .inl ⟨rfl, rfl⟩, h⟩
  | some q =>
    obtain ⟨F, V, i⟩ := q
    refine (check_wrong p.s p.n p.k p.d p.t p.r F V i hb hp.2.1 ea w H).mono ?_
    rintro e w' ⟨g, rfl, _, h2, h3⟩
    exact ⟨_, rfl, .inr (.inr ⟨i, g, F, V, badAt_lt hb, rfl, rfl, h2⟩), h3⟩
theorem chkErrs {ea : Nat → Addr} {w : World} (H : Errs 137 errGs w ea) : ∀ W, Below w.heap.size w W →
    W.cell? ⟨6, 0, none⟩ = some (.iface 137 (.pointer (some (ea 6)))) ∧ W.cell? ⟨8, 0, none⟩ = some (.iface 137 (.pointer (some (ea 0)))) ∧
    W.cell? ⟨1, 0, none⟩ = some (.iface 137 (.pointer (some (ea 5)))) ∧ W.cell? ⟨11, 0, none⟩ = some (.iface 137 (.pointer (some (ea 3)))) := fun W hW => by
  obtain ⟨g0, g1, g2, g3, g4, g5, g6, _⟩ := num_cells (H.below hW)
  exact ⟨g6, g0, g5, g3⟩

end Go.Proofs.YtndgacjfkoliaaaDoor
/- A load of a whole struct or array, as a step of a region that may be taken first (for base/XOn's rlA, huA, hzA). -/
namespace Go.Proofs.YtndgacjfkoliaaaDoor
open Go.RowKit
section
variable {P : Program} {o : Oper} {a : Act} {w : World}
theorem yields_load_row (ty : TypeId) (x : Operand) (ho : o.op = .load ty x) (g : Nat) (c : Array Value) (d : TypeDesc)
    (hx : a.eval x = .pointer (some ⟨g, 0, none⟩)) (hg : w.heap[g]? = some (.cells c ty (0, 0))) (hu : P.underlying ty = some d) (hd : (match d with | .struct _ | .array _ _ => true | _ => false) = true) (hi : (P.info? ty).map (·.size) = some c.size) :
    (execOp a.eval o).run P w = .ok (.value (.agg c)) w := by
  unfold execOp
  simp only [ho, hx, Instr.loadAt, Instr.sureAddr, Sem.run_bind, Sem.run_pure, Result.andThen_ok, run_loadVar_row w g ty ty c (0, 0) d hg hu hd hi]
end
end Go.Proofs.YtndgacjfkoliaaaDoor
/- What the model's functions leave. Printed by genmex.py. -/
namespace Go.Proofs.YtndgacjfkoliaaaDoor
open Go.RowKit
set_option linter.unusedSimpArgs false
set_option linter.unusedVariables false

def pChk (p : P6) : Nat := match badAt p.s p.n p.k p.d p.t p.r with | some (_, _, i) => i + 1 | none => 0
theorem parCheckM (p : P6) (hp : p.Ok) (ea : Nat → Addr) (w : World) (H : Errs 137 errGs w ea) :
    Calls Tryd.prog 27 #[.agg p.list.toArray] w fun e w' => ∃ v, e = .returned v ∧ ErrIs ea w' v (pChk p) ∧ Below w.heap.size w w' := parCheck_any p hp ea w H
theorem boxes2 (w : World) (C D : Array Value) (t u : TypeId) (W : World) (hW : W = (w.alloc (.cells C t)).alloc (.cells D u)) :
    W.heap[w.heap.size]? = some (.cells C t (0, 0)) ∧ W.heap[w.heap.size + 1]? = some (.cells D u (0, 0)) ∧ W.heap.size = w.heap.size + 2 ∧ Below w.heap.size w W := by
  have h1 := heap_alloc_new w (.cells C t (0, 0))
  have h2 := heap_alloc_new (w.alloc (.cells C t)) (.cells D u (0, 0))
  rw [World.size_alloc] at h2
  subst hW
  exact ⟨(((Below.refl _ _).alloc (Nat.le_refl _) _).block _ (block_lt h1)).trans h1, h2, by simp [World.size_alloc], ((Below.refl _ _).alloc (Nat.le_refl _) _).alloc (by simp [World.size_alloc]) _⟩
def KPost (ea : Nat → Addr) (m : Md) (n : Nat) (w : World) (e : Ending) (w' : World) : Prop := ∃ vm v, e = .returned (.tuple #[vm, v]) ∧ ArgM w' vm m ∧ ErrIs ea w' v n ∧ Below w.heap.size w w'
def NPost (ea : Nat → Addr) (m : Md) (k : Int) (n : Nat) (w : World) (e : Ending) (w' : World) : Prop := ∃ vm v, e = .returned (.tuple #[vm, .int .i64 k, v]) ∧ ArgM w' vm m ∧ ErrIs ea w' v n ∧ Below w.heap.size w w'
def RKPost (m : Md) (n : Nat) (w : World) (e : Ending) (w' : World) : Prop := ∃ vm, e = .returned (.tuple #[vm, .int .i64 (n : Int)]) ∧ ArgM w' vm m ∧ Below w.heap.size w w'
def RNPost (m : Md) (k : Int) (n : Nat) (w : World) (e : Ending) (w' : World) : Prop := ∃ vm, e = .returned (.tuple #[vm, .int .i64 k, .int .i64 (n : Int)]) ∧ ArgM w' vm m ∧ Below w.heap.size w w'

end Go.Proofs.YtndgacjfkoliaaaDoor
