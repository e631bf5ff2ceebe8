/- ledger.Item, ledger.Entry and the document's, in plain words: how they lie in memory. A state. -/
import Derived.Test.YtpehdoepcpmnbaaDoorKeyL
import Derived.Test.YtpehdoepcpmnbaaDoorChecked
import Derived.Test.YtpehdoepcpmnbaaDoorF2ModelOfSaid
import Derived.Test.YtpehdoepcpmnbaaDoorF3ModelOfSaid
namespace Go.Proofs.YtpehdoepcpmnbaaDoor
open Go.RowKit
set_option linter.unusedVariables false

structure It where
  n : Int
  s : ByteArray
  p : P6
  root : List UInt8
  file : List UInt8
  t : Int
  k : Bool
  u : Int
  r : Int
deriving DecidableEq
instance : Inhabited It := ⟨⟨0, ByteArray.empty, ⟨0, 0, 0, 0, 0, 0⟩, List.replicate 32 0, List.replicate 32 0, 0, false, 0, 0⟩⟩
def It.list (x : It) : List Value := [.int .i64 x.n, .string x.s] ++ (x.p.list ++ (cB x.root ++ (cB x.file ++ [.int .i64 x.t, .bool x.k, .int .i64 x.u, .int .i64 x.r])))
def It.lits (x : It) : List Lit := [.int .i64 x.n, .string x.s.data.toList] ++ (x.p.lits ++ (lits8 x.root ++ (lits8 x.file ++ [.int .i64 x.t, .bool x.k, .int .i64 x.u, .int .i64 x.r])))
structure It.Ok (x : It) : Prop where
  n : inI x.n
  s : x.s.size ≤ maxLen
  p : x.p.Ok
  root : x.root.length = 32
  file : x.file.length = 32
  t : inI x.t
  u : inI x.u
  r : inI x.r
theorem It.len {x : It} (h1 : x.root.length = 32) (h2 : x.file.length = 32) : x.list.length = 76 := by
  simp [It.list, P6.list_length, cB_length, h1, h2]
theorem It.list_length {x : It} (h : x.Ok) : x.list.length = 76 := It.len h.root h.file
theorem It.list_one (x : It) : ∀ u ∈ x.list, u.oneCell' = true := by
  intro u hu
  simp only [It.list, List.mem_append, List.mem_cons, List.not_mem_nil, or_false] at hu
  rcases hu with (rfl | rfl) | hu | hu | hu | rfl | rfl | rfl | rfl
  · rfl
  · rfl
  · exact P6.list_one _ u hu
  · exact cB_one _ u hu
  · exact cB_one _ u hu
  · rfl
  · rfl
  · rfl
  · rfl
theorem It.all_one (x : It) : x.list.toArray.all (·.oneCell') = true := Go.Proofs.YtpehdoepcpmnbaaDoor.all_one x.list_one
theorem It.size {x : It} (h : x.Ok) : x.list.toArray.size = 76 := by rw [List.size_toArray, It.list_length h]
theorem It.parts (x : It) : x.list = ([.int .i64 x.n, .string x.s] ++ x.p.list ++ cB x.root ++ cB x.file) ++ [.int .i64 x.t, .bool x.k, .int .i64 x.u, .int .i64 x.r] := by simp [It.list]
theorem It.head72 {x : It} (h1 : x.root.length = 32) (h2 : x.file.length = 32) : ([.int .i64 x.n, .string x.s] ++ x.p.list ++ cB x.root ++ cB x.file : List Value).length = 72 := by simp [P6.list_length, cB_length, h1, h2]
theorem It.c0 (x : It) : x.list[0]? = some (.int .i64 x.n) := rfl
theorem It.c1 (x : It) : x.list[1]? = some (.string x.s) := rfl
theorem It.c3 (x : It) : x.list[3]? = some (.int .i64 x.p.n) := rfl
theorem It.c72 {x : It} (h : x.Ok) : x.list[72]? = some (.int .i64 x.t) := by
  rw [It.parts, List.getElem?_append_right (by rw [It.head72 h.root h.file]; omega), It.head72 h.root h.file]; rfl
theorem It.c73 {x : It} (h : x.Ok) : x.list[73]? = some (.bool x.k) := by
  rw [It.parts, List.getElem?_append_right (by rw [It.head72 h.root h.file]; omega), It.head72 h.root h.file]; rfl
theorem It.c74 {x : It} (h : x.Ok) : x.list[74]? = some (.int .i64 x.u) := by
  rw [It.parts, List.getElem?_append_right (by rw [It.head72 h.root h.file]; omega), It.head72 h.root h.file]; rfl
theorem It.c75 {x : It} (h : x.Ok) : x.list[75]? = some (.int .i64 x.r) := by
  rw [It.parts, List.getElem?_append_right (by rw [It.head72 h.root h.file]; omega), It.head72 h.root h.file]; rfl
theorem It.sub_p (x : It) : (x.list.drop 2).take 6 = x.p.list := by
  have e : x.list = [.int .i64 x.n, .string x.s] ++ (x.p.list ++ (cB x.root ++ (cB x.file ++ [.int .i64 x.t, .bool x.k, .int .i64 x.u, .int .i64 x.r]))) := rfl
  rw [e]
  exact mid_eq rfl rfl
theorem It.sub_root {x : It} (h : x.Ok) : (x.list.drop 8).take 32 = cB x.root := by
  have e : x.list = ([.int .i64 x.n, .string x.s] ++ x.p.list) ++ (cB x.root ++ (cB x.file ++ [.int .i64 x.t, .bool x.k, .int .i64 x.u, .int .i64 x.r])) := by simp [It.list]
  rw [e]
  exact mid_eq rfl (by rw [cB_length, h.root])
theorem It.sub_file {x : It} (h : x.Ok) : (x.list.drop 40).take 32 = cB x.file := by
  have e : x.list = ([.int .i64 x.n, .string x.s] ++ x.p.list ++ cB x.root) ++ (cB x.file ++ [.int .i64 x.t, .bool x.k, .int .i64 x.u, .int .i64 x.r]) := by simp [It.list]
  rw [e]
  exact mid_eq (by simp [P6.list_length, cB_length, h.root]) (by rw [cB_length, h.file])
/-- An entry. -/
structure En where
  id : Int
  o : Int
  w : Int
  i : Int
  t : Int
  v : Int
  a : Int
deriving DecidableEq
instance : Inhabited En := ⟨⟨0, 0, 0, 0, 0, 0, 0⟩⟩
def En.list (x : En) : List Value := [.int .i64 x.id, .int .i64 x.o, .int .i64 x.w, .int .i64 x.i, .int .i64 x.t, .int .i64 x.v, .int .i64 x.a]
def En.lits (x : En) : List Lit := [.int .i64 x.id, .int .i64 x.o, .int .i64 x.w, .int .i64 x.i, .int .i64 x.t, .int .i64 x.v, .int .i64 x.a]
def En.Ok (x : En) : Prop := inI x.id ∧ inI x.o ∧ inI x.w ∧ inI x.i ∧ inI x.t ∧ inI x.v ∧ inI x.a
theorem En.list_one (x : En) : ∀ u ∈ x.list, u.oneCell' = true := by
  intro u hu
  simp only [En.list, List.mem_cons, List.not_mem_nil, or_false] at hu
  rcases hu with rfl | rfl | rfl | rfl | rfl | rfl | rfl <;> rfl
/-- Rows of them. -/
def RI (_ : World) (_ : Nat → Prop) (x : It) (cs : List Value) : Prop := cs = x.list ∧ x.Ok
theorem liesRI : LiesOk RI 76 := ⟨fun h _ _ => h, fun h _ => h, fun h => by rw [h.1]; exact ⟨It.list_length h.2, It.list_one _⟩⟩
def RE (_ : World) (_ : Nat → Prop) (x : En) (cs : List Value) : Prop := cs = x.list ∧ x.Ok
theorem liesRE : LiesOk RE 7 := ⟨fun h _ _ => h, fun h _ => h, fun h => by rw [h.1]; exact ⟨rfl, En.list_one _⟩⟩
theorem rowsI_at {base : Nat} {w : World} {e : TypeId} {F : Nat → Prop} {v : Value} {xs : List It} (h : RowsOf RI e 76 base w F v xs) : ∃ a c, v = .slice a xs.length c ∧ RowAt It.list 76 w a xs ∧ xs.length ≤ c ∧ c ≤ maxLen ∧ (∀ x ∈ xs, x.Ok) := by
  obtain ⟨a, c, e1, e2, e3, e4, e5⟩ := h.form
  refine ⟨a, c, e1, fun k hk => ?_, e3, e4, fun x hx => ?_⟩
  · obtain ⟨g, c', cs, e6, ⟨rfl, _⟩, h7⟩ := h.elem liesRI k _ (List.getElem?_eq_getElem hk)
    rw [e1] at e6
    cases e6
    exact ⟨g, 0, rfl, by rw [Nat.zero_add]; exact h7⟩
  · obtain ⟨k, hk, rfl⟩ := List.getElem_of_mem hx
    obtain ⟨g, c', cs, e6, ⟨_, h8⟩, h7⟩ := h.elem liesRI k _ (List.getElem?_eq_getElem hk)
    exact h8
theorem rowsE_at {base : Nat} {w : World} {e : TypeId} {F : Nat → Prop} {v : Value} {xs : List En} (h : RowsOf RE e 7 base w F v xs) : ∃ a c, v = .slice a xs.length c ∧ RowAt En.list 7 w a xs ∧ xs.length ≤ c ∧ c ≤ maxLen ∧ (∀ x ∈ xs, x.Ok) := by
  obtain ⟨a, c, e1, e2, e3, e4, e5⟩ := h.form
  refine ⟨a, c, e1, fun k hk => ?_, e3, e4, fun x hx => ?_⟩
  · obtain ⟨g, c', cs, e6, ⟨rfl, _⟩, h7⟩ := h.elem liesRE k _ (List.getElem?_eq_getElem hk)
    rw [e1] at e6
    cases e6
    exact ⟨g, 0, rfl, by rw [Nat.zero_add]; exact h7⟩
  · obtain ⟨k, hk, rfl⟩ := List.getElem_of_mem hx
    obtain ⟨g, c', cs, e6, ⟨_, h8⟩, h7⟩ := h.elem liesRE k _ (List.getElem?_eq_getElem hk)
    exact h8
/-- A state, and how it comes in. -/
structure St where
  its : List It
  ens : List En
structure ArgS (w : World) (v : Value) (m : St) : Prop where
  form : ∃ a c a' c', v = .agg #[.slice a m.its.length c, .slice a' m.ens.length c'] ∧ RowAt It.list 76 w a m.its ∧ m.its.length ≤ c ∧ c ≤ maxLen ∧ RowAt En.list 7 w a' m.ens ∧ m.ens.length ≤ c' ∧ c' ≤ maxLen
  okN : ∀ x ∈ m.its, x.Ok
  okV : ∀ x ∈ m.ens, x.Ok
theorem ArgS.below {B : Nat} {w w' : World} {v : Value} {m : St} (h : ArgS w v m) (hb : Below B w w') (hB : w.heap.size ≤ B) : ArgS w' v m := by
  obtain ⟨⟨a, c, a', c', e, h1, h2, h3, h4, h5, h6⟩, h7, h8⟩ := h
  exact ⟨⟨a, c, a', c', e, h1.below hb hB, h2, h3, h4.below hb hB, h5, h6⟩, h7, h8⟩
theorem infoItG : (Tryd.prog.info? 93).map (fun i => (i.zero.map (·.cells.size), i.size, i.bytes)) = some (some 76, 76, 168) := by kernel_rfl
theorem infoEnG : (Tryd.prog.info? 95).map (fun i => (i.zero.map (·.cells.size), i.size, i.bytes)) = some (some 7, 7, 56) := by kernel_rfl
theorem infoItR : (Tryd.prog.info? 97).map (fun i => (i.zero.map (·.cells.size), i.size, i.bytes)) = some (some 76, 76, 168) := by kernel_rfl
theorem infoEnR : (Tryd.prog.info? 98).map (fun i => (i.zero.map (·.cells.size), i.size, i.bytes)) = some (some 7, 7, 56) := by kernel_rfl
end Go.Proofs.YtpehdoepcpmnbaaDoor
