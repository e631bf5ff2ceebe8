/- What the walks of a state's follow-functions share: plain functions, the record's cells, an item's next. -/
import Derived.Test.YtpehdoepcpmnbaaDoorF14ModelOfSaid
import Derived.Test.YtpehdoepcpmnbaaDoorF28ModelOfSaid
import Derived.BigQuiet
namespace Go.Proofs.YtpehdoepcpmnbaaDoor
open Go.RowKit
set_option linter.unusedVariables false

theorem It.default_ok : (default : It).Ok := ⟨by decide, by decide, ⟨by decide, by decide, by decide, by decide, by decide, by decide⟩, rfl, rfl, by decide, by decide, by decide⟩
theorem namedS_ok {ns : List It} (h : ∀ x ∈ ns, x.Ok) (s : ByteArray) : (namedS ns s).1.Ok := by
  unfold namedS
  cases hf : ns.findIdx? (fun x => decide (x.s = s)) with
  | none => exact It.default_ok
  | some i =>
    have hi : i < ns.length := (List.findIdx?_eq_some_iff_getElem.1 hf).1
    simp only [List.getD_eq_getElem?_getD, List.getElem?_eq_getElem hi, Option.getD_some]
    exact h _ (List.getElem_mem hi)
theorem Rc.kept0 (x : Rc) (hx : x.Ok) (T : TypeId) (W : World) (b : Nat) (h : W.heap[b]? = some (.cells x.list.toArray T (0, 0))) :
    W.cell? ⟨b, 0, none⟩ = some (.int .i64 x.kind) ∧ W.cell? ⟨b, 1, none⟩ = some (.int .i64 x.obj) ∧ W.cell? ⟨b, 2, none⟩ = some (.int .i64 x.id) ∧ W.cell? ⟨b, 3, none⟩ = some (.string x.name) ∧
    W.cell? ⟨b, 74, none⟩ = some (.int .i64 x.way) ∧ W.cell? ⟨b, 75, none⟩ = some (.int .i64 x.index) ∧ W.cell? ⟨b, 76, none⟩ = some (.int .i64 x.verdict) ∧ W.cell? ⟨b, 77, none⟩ = some (.int .i64 x.tick) := by
  refine ⟨?_, ?_, ?_, ?_, ?_, ?_, ?_, ?_⟩
  all_goals rw [cell_of_block h, List.getElem?_toArray]
  · exact x.c0
  · exact x.c1
  · exact x.c2
  · exact x.c3
  · exact Rc.c74 hx.root hx.file
  · exact Rc.c75 hx.root hx.file
  · exact Rc.c76 hx.root hx.file
  · exact Rc.c77 hx.root hx.file
theorem argS_nil (w : World) : ArgS w (.agg #[.slice none 0 0, .slice none 0 0]) ⟨[], []⟩ :=
  ⟨⟨none, 0, none, 0, rfl, fun i h => absurd h (Nat.not_lt_zero _), Nat.le_refl _, Nat.zero_le _, fun i h => absurd h (Nat.not_lt_zero _), Nat.le_refl _, Nat.zero_le _⟩, fun x hx => (List.not_mem_nil hx).elim, fun x hx => (List.not_mem_nil hx).elim⟩
/-- A state's rows lie in blocks from B on. -/
def FreshS (B : Nat) (v : Value) : Prop := ∀ a n c a' n' c', v = .agg #[.slice a n c, .slice a' n' c'] → (∀ b o s, a = some ⟨b, o, s⟩ → B ≤ b) ∧ (∀ b o s, a' = some ⟨b, o, s⟩ → B ≤ b)
theorem FreshS.mono {B B' : Nat} {v : Value} (h : FreshS B v) (hb : B' ≤ B) : FreshS B' v := fun a n c a' n' c' e => by
  obtain ⟨h1, h2⟩ := h a n c a' n' c' e
  exact ⟨fun b o s e => Nat.le_trans hb (h1 b o s e), fun b o s e => Nat.le_trans hb (h2 b o s e)⟩
theorem freshS_nil (B : Nat) : FreshS B (.agg #[.slice none 0 0, .slice none 0 0]) := fun a n c a' n' c' q => by
  cases q
  exact ⟨fun b o s q => (by cases q), fun b o s q => (by cases q)⟩
theorem freshS_of {α β : Type} {R : World → (Nat → Prop) → α → List Value → Prop} {R' : World → (Nat → Prop) → β → List Value → Prop} {base base' B size size' : Nat} {w : World} {v v' : Value} {e e' : TypeId} {F F' : Nat → Prop} {ns : List α} {vs : List β} (h : RowsOf R e size base w F v ns) (h' : RowsOf R' e' size' base' w F' v' vs) (hb : B ≤ base) (hb' : B ≤ base') : FreshS B (.agg #[v, v']) := by
  obtain ⟨a0, c0, rfl, _, _, _, f0⟩ := h.form
  obtain ⟨a1, c1, rfl, _, _, _, f1⟩ := h'.form
  intro a n c a' n' c' q
  cases q
  exact ⟨fun b o s q => Nat.le_trans hb (f0 b o s q).2.2.1, fun b o s q => Nat.le_trans hb' (f1 b o s q).2.2.1⟩
theorem rangeAt_upd {w w' : World} {b c o : Nat} {ob : Obj} {cs : List Value} (h : w.rangeAt b o cs) (hU : Upd c ob w w') (hn : b ≠ c) : w'.rangeAt b o cs := fun j v hv =>
  (World.cell?_of_block (a := ⟨b, o + j, none⟩) (hU.block b hn)).trans (h j v hv)
theorem ArgS.upd {w w' : World} {v : Value} {m : St} {B b : Nat} {ob : Obj} (h : ArgS w v m) (hf : FreshS B v) (hU : Upd b ob w w') (hb : b < B) : ArgS w' v m := by
  obtain ⟨⟨a, c, a', c', e, h1, h2, h3, h4, h5, h6⟩, h7, h8⟩ := h
  obtain ⟨f1, f2⟩ := hf _ _ _ _ _ _ e
  refine ⟨⟨a, c, a', c', e, fun k hk => ?_, h2, h3, fun k hk => ?_, h5, h6⟩, h7, h8⟩
  · obtain ⟨b1, o1, e1, hr⟩ := h1 k hk
    exact ⟨b1, o1, e1, rangeAt_upd hr hU (by have := f1 b1 o1 none e1; omega)⟩
  · obtain ⟨b1, o1, e1, hr⟩ := h4 k hk
    exact ⟨b1, o1, e1, rangeAt_upd hr hU (by have := f2 b1 o1 none e1; omega)⟩
theorem ErrIs.updS {ea : Nat → Addr} {w w' : World} {v : Value} {n b : Nat} {o : Obj} {C : Array Value} {t : TypeId} {z : Nat × Nat} (h : ErrIs ea w v n) (hU : Upd b o w w') (hb : w.heap[b]? = some (.cells C t z)) (ht : t ≠ 128) : ErrIs ea w' v n := by
  rcases h with h | h | ⟨i, g, F, V, h1, h2, h3, h4⟩
  · exact .inl h
  · exact .inr (.inl h)
  · refine .inr (.inr ⟨i, g, F, V, h1, h2, h3, (hU.block g fun e => ?_).trans h4⟩)
    rw [e, hb] at h4
    injection h4 with h4
    injection h4 with _ h5 _
    exact ht h5
/-- What a follow-function hands back: a state, an error. -/
def FolPost (ea : Nat → Addr) (m : St) (n : Nat) (w : World) (e : Ending) (w' : World) : Prop := ∃ vm v, e = .returned (.tuple #[vm, v]) ∧ ArgS w' vm m ∧ ErrIs ea w' v n ∧ Below w.heap.size w w' ∧ FreshS w.heap.size vm
/-- The index of the next challenge of a way, and whether there is one. -/
def nextI (x : It) (way : Int) : Int × Bool := if way = 2 then (x.u, decide (x.u < x.p.n)) else (x.r, true)
/-- An object of a record. -/
def Rc.it (x : Rc) : It := ⟨x.obj, x.name, x.p, x.root, x.file, x.tick, false, 0, 0⟩
def objectM (m : St) (x : Rc) : St × Nat :=
  if (namedS m.its x.name).2 = true then (⟨[], []⟩, 10) else if 4 ≤ m.its.length then (⟨[], []⟩, 12) else if x.obj ≠ (m.its.length : Int) then (⟨[], []⟩, 4) else (⟨m.its ++ [x.it], m.ens⟩, 0)
def keptM (m : St) (x : Rc) : St × Nat :=
  if x.obj < 0 ∨ (m.its.length : Int) ≤ x.obj then (⟨[], []⟩, 11) else if (m.its.getD x.obj.toNat default).k = true then (⟨[], []⟩, 13)
  else (⟨m.its.set x.obj.toNat { m.its.getD x.obj.toNat default with k := true }, m.ens⟩, 0)
def usedI (x : It) (way : Int) : It := if way = 2 then { x with u := x.u + 1 } else { x with r := x.r + 1 }
def askedM (m : St) (x : Rc) : St × Nat :=
  if x.obj < 0 ∨ (m.its.length : Int) ≤ x.obj then (⟨[], []⟩, 11) else if (m.its.getD x.obj.toNat default).k = false then (⟨[], []⟩, 13)
  else if (nextI (m.its.getD x.obj.toNat default) x.way).2 = false then (⟨[], []⟩, 18)
  else if x.id ≠ (m.ens.length : Int) ∨ x.index ≠ (nextI (m.its.getD x.obj.toNat default) x.way).1 then (⟨[], []⟩, 4)
  else (⟨m.its.set x.obj.toNat (usedI (m.its.getD x.obj.toNat default) x.way), m.ens ++ [⟨x.id, x.obj, x.way, x.index, x.tick, 0, 0⟩]⟩, 0)
def judgedM (m : St) (x : Rc) : St × Nat :=
  if x.id < 0 ∨ (m.ens.length : Int) ≤ x.id then (⟨[], []⟩, 11) else if (m.ens.getD x.id.toNat default).o ≠ x.obj then (⟨[], []⟩, 11)
  else if (m.ens.getD x.id.toNat default).v ≠ 0 then (⟨[], []⟩, 13)
  else (⟨m.its, m.ens.set x.id.toNat { m.ens.getD x.id.toNat default with v := x.verdict, a := x.tick }⟩, 0)
def followM (m : St) (x : Rc) : St × Nat :=
  if x.chk ≠ 0 then (⟨[], []⟩, x.chk) else if x.kind = 1 then objectM m x else if x.kind = 2 then askedM m x else if x.kind = 4 then keptM m x else judgedM m x
set_option maxRecDepth 100000 in
theorem next_any (x : It) (hx : x.Ok) (way : Int) (w : World) : Calls Tryd.prog 53 #[.agg x.list.toArray, .int .i64 way] w fun e w' => e = .returned (.tuple #[.int .i64 (nextI x way).1, .bool (nextI x way).2]) ∧ Below w.heap.size w w' := by
  have hk : ∀ W : World, W.heap[w.heap.size]? = some (.cells x.list.toArray 93 (0, 0)) → W.cell? ⟨w.heap.size, 3, none⟩ = some (.int .i64 x.p.n) ∧ W.cell? ⟨w.heap.size, 74, none⟩ = some (.int .i64 x.u) ∧ W.cell? ⟨w.heap.size, 75, none⟩ = some (.int .i64 x.r) := fun W h => by
    rw [cell_of_block h, cell_of_block h, cell_of_block h, List.getElem?_toArray, List.getElem?_toArray, List.getElem?_toArray]
    exact ⟨It.c3 x, It.c74 hx, It.c75 hx⟩
  obtain ⟨k3, k74, k75⟩ := hk _ (heap_alloc_new w (.cells x.list.toArray 93))
  have hb := Lib.hid (show Below w.heap.size w (w.alloc (.cells x.list.toArray 93)) from (Below.refl _ _).alloc (Nat.le_refl _) _)
  clear hk
  unfold nextI
  generalize x.list.toArray = R at *
  generalize x.u = u at *
  generalize x.r = r at *
  generalize x.p.n = n at *
  by_cases hw : way = 2
  · rw [if_pos hw]
    subst hw
    go_enter Tryd.func53, Tryd.ntmps53
    go_wp2_with fail
    go_quiet (fail)
    go_wp2_with fail
    go_ret2
    exact ⟨rfl, hb.out.os, hb.out.tape, hb.out.output, hb.out.size, hb.out.block⟩
  · rw [if_neg hw]
    have hw2 : (way == 2) = false := by simpa using hw
    clear hw
    go_enter Tryd.func53, Tryd.ntmps53
    go_wp2_with fail
    go_ret2
    exact ⟨rfl, hb.out⟩
end Go.Proofs.YtpehdoepcpmnbaaDoor
