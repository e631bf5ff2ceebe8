/- record.Record and the document's, in plain words: how they lie in memory, '==' of two, their fields changed. -/
import Derived.Test.YtndgacjfkoliaaaDoorKeyL
import Derived.Test.YtndgacjfkoliaaaDoorF20PlaysSaid34
import Derived.Test.YtndgacjfkoliaaaDoorChecked
import Derived.MapViews
namespace Go.Proofs.YtndgacjfkoliaaaDoor
open Go.RowKit

structure Rc where
  kind : Int
  obj : Int
  id : Int
  name : ByteArray
  p : P6
  root : List UInt8
  file : List UInt8
  way : Int
  index : Int
  verdict : Int
  tick : Int
deriving DecidableEq
def z32 : List UInt8 := List.replicate 32 0
def P6.zero : P6 := ⟨0, 0, 0, 0, 0, 0⟩
def Rc.zero : Rc := ⟨0, 0, 0, ⟨#[]⟩, P6.zero, z32, z32, 0, 0, 0, 0⟩
def Rc.list (x : Rc) : List Value := [.int .i64 x.kind, .int .i64 x.obj, .int .i64 x.id, .string x.name] ++ (x.p.list ++ (cB x.root ++ (cB x.file ++ [.int .i64 x.way, .int .i64 x.index, .int .i64 x.verdict, .int .i64 x.tick])))
def Rc.lits (x : Rc) : List Lit := [.int .i64 x.kind, .int .i64 x.obj, .int .i64 x.id, .string x.name.data.toList] ++ (x.p.lits ++ (lits8 x.root ++ (lits8 x.file ++ [.int .i64 x.way, .int .i64 x.index, .int .i64 x.verdict, .int .i64 x.tick])))
structure Rc.Ok (x : Rc) : Prop where
  kind : inI x.kind
  obj : inI x.obj
  id : inI x.id
  name : x.name.size ≤ maxLen
  p : x.p.Ok
  root : x.root.length = 32
  file : x.file.length = 32
  way : inI x.way
  index : inI x.index
  verdict : inI x.verdict
  tick : inI x.tick
theorem Rc.zero_ok : Rc.zero.Ok := ⟨by decide, by decide, by decide, by decide, ⟨by decide, by decide, by decide, by decide, by decide, by decide⟩, by decide, by decide, by decide, by decide, by decide, by decide⟩
theorem P6.len (p : P6) : p.list.length = 6 := rfl
theorem Rc.len {x : Rc} (h1 : x.root.length = 32) (h2 : x.file.length = 32) : x.list.length = 78 := by
  simp [Rc.list, P6.len, cB_length, h1, h2]
theorem P6.one (p : P6) : ∀ u ∈ p.list, u.oneCell' = true := by
  intro u hu
  simp only [P6.list, List.mem_cons, List.not_mem_nil, or_false] at hu
  rcases hu with rfl | rfl | rfl | rfl | rfl | rfl <;> rfl
theorem Rc.one (x : Rc) : ∀ u ∈ x.list, u.oneCell' = true := by
  intro u hu
  simp only [Rc.list, List.mem_append, List.mem_cons, List.not_mem_nil, or_false] at hu
  rcases hu with (rfl | rfl | rfl | rfl) | hu | hu | hu | (rfl | rfl | rfl | rfl)
  all_goals first | rfl | exact P6.one _ u hu | exact cB_one _ u hu
theorem arr_one {l : List Value} (h : ∀ u ∈ l, u.oneCell' = true) : l.toArray.all (·.oneCell') = true := by
  rw [Array.all_eq_true']
  intro u hu
  exact h u (by simpa using hu)
theorem Rc.all_one (x : Rc) : x.list.toArray.all (·.oneCell') = true := arr_one x.one
/-- The record's three parts. -/
theorem Rc.parts (x : Rc) : x.list = ([.int .i64 x.kind, .int .i64 x.obj, .int .i64 x.id, .string x.name] ++ x.p.list ++ cB x.root ++ cB x.file) ++ [.int .i64 x.way, .int .i64 x.index, .int .i64 x.verdict, .int .i64 x.tick] := by simp [Rc.list]
theorem Rc.head74 {x : Rc} (h1 : x.root.length = 32) (h2 : x.file.length = 32) : ([.int .i64 x.kind, .int .i64 x.obj, .int .i64 x.id, .string x.name] ++ x.p.list ++ cB x.root ++ cB x.file : List Value).length = 74 := by simp [P6.len, cB_length, h1, h2]
theorem Rc.c0 (x : Rc) : x.list[0]? = some (.int .i64 x.kind) := rfl
theorem Rc.c1 (x : Rc) : x.list[1]? = some (.int .i64 x.obj) := rfl
theorem Rc.c2 (x : Rc) : x.list[2]? = some (.int .i64 x.id) := rfl
theorem Rc.c3 (x : Rc) : x.list[3]? = some (.string x.name) := rfl
theorem Rc.c74 {x : Rc} (h1 : x.root.length = 32) (h2 : x.file.length = 32) : x.list[74]? = some (.int .i64 x.way) := by
  rw [Rc.parts, List.getElem?_append_right (by rw [Rc.head74 h1 h2]; decide), Rc.head74 h1 h2]; rfl
theorem Rc.c75 {x : Rc} (h1 : x.root.length = 32) (h2 : x.file.length = 32) : x.list[75]? = some (.int .i64 x.index) := by
  rw [Rc.parts, List.getElem?_append_right (by rw [Rc.head74 h1 h2]; decide), Rc.head74 h1 h2]; rfl
theorem Rc.c76 {x : Rc} (h1 : x.root.length = 32) (h2 : x.file.length = 32) : x.list[76]? = some (.int .i64 x.verdict) := by
  rw [Rc.parts, List.getElem?_append_right (by rw [Rc.head74 h1 h2]; decide), Rc.head74 h1 h2]; rfl
theorem Rc.c77 {x : Rc} (h1 : x.root.length = 32) (h2 : x.file.length = 32) : x.list[77]? = some (.int .i64 x.tick) := by
  rw [Rc.parts, List.getElem?_append_right (by rw [Rc.head74 h1 h2]; decide), Rc.head74 h1 h2]; rfl
theorem Rc.sub_p (x : Rc) : (x.list.drop 4).take 6 = x.p.list := mid_eq rfl rfl
theorem Rc.sub_root {x : Rc} (h1 : x.root.length = 32) : (x.list.drop 10).take 32 = cB x.root := by
  have e : x.list = ([.int .i64 x.kind, .int .i64 x.obj, .int .i64 x.id, .string x.name] ++ x.p.list) ++ (cB x.root ++ (cB x.file ++ [.int .i64 x.way, .int .i64 x.index, .int .i64 x.verdict, .int .i64 x.tick])) := by simp [Rc.list]
  rw [e]
  exact mid_eq rfl (by rw [cB_length, h1])
theorem Rc.sub_file {x : Rc} (h1 : x.root.length = 32) (h2 : x.file.length = 32) : (x.list.drop 42).take 32 = cB x.file := by
  have e : x.list = ([.int .i64 x.kind, .int .i64 x.obj, .int .i64 x.id, .string x.name] ++ x.p.list ++ cB x.root) ++ (cB x.file ++ [.int .i64 x.way, .int .i64 x.index, .int .i64 x.verdict, .int .i64 x.tick]) := by simp [Rc.list]
  rw [e]
  exact mid_eq (by simp [P6.len, cB_length, h1]) (by rw [cB_length, h2])
/-- A field is stored. -/
theorem Rc.set0 (x : Rc) (n : Int) : x.list.toArray.setIfInBounds 0 (.int .i64 n) = ({ x with kind := n } : Rc).list.toArray := by simp [Rc.list]
theorem Rc.set1 (x : Rc) (n : Int) : x.list.toArray.setIfInBounds 1 (.int .i64 n) = ({ x with obj := n } : Rc).list.toArray := by simp [Rc.list]
theorem Rc.set2 (x : Rc) (n : Int) : x.list.toArray.setIfInBounds 2 (.int .i64 n) = ({ x with id := n } : Rc).list.toArray := by simp [Rc.list]
theorem Rc.set3 (x : Rc) (s : ByteArray) : x.list.toArray.setIfInBounds 3 (.string s) = ({ x with name := s } : Rc).list.toArray := by simp [Rc.list]
theorem set_behind {A B : List Value} {n k : Nat} (h : A.length = n) (u : Value) : ((A ++ B).toArray.setIfInBounds (n + k) u) = (A ++ B.set k u).toArray := by
  rw [List.setIfInBounds_toArray, List.set_append_right _ _ (by omega), h, Nat.add_sub_cancel_left]
theorem Rc.set74 {x : Rc} (h1 : x.root.length = 32) (h2 : x.file.length = 32) (n : Int) : x.list.toArray.setIfInBounds 74 (.int .i64 n) = ({ x with way := n } : Rc).list.toArray := by
  rw [Rc.parts, Rc.parts, show (74 : Nat) = 74 + 0 from rfl, set_behind (Rc.head74 h1 h2)]; rfl
theorem Rc.set75 {x : Rc} (h1 : x.root.length = 32) (h2 : x.file.length = 32) (n : Int) : x.list.toArray.setIfInBounds 75 (.int .i64 n) = ({ x with index := n } : Rc).list.toArray := by
  rw [Rc.parts, Rc.parts, show (75 : Nat) = 74 + 1 from rfl, set_behind (Rc.head74 h1 h2)]; rfl
theorem Rc.set76 {x : Rc} (h1 : x.root.length = 32) (h2 : x.file.length = 32) (n : Int) : x.list.toArray.setIfInBounds 76 (.int .i64 n) = ({ x with verdict := n } : Rc).list.toArray := by
  rw [Rc.parts, Rc.parts, show (76 : Nat) = 74 + 2 from rfl, set_behind (Rc.head74 h1 h2)]; rfl
theorem Rc.set77 {x : Rc} (h1 : x.root.length = 32) (h2 : x.file.length = 32) (n : Int) : x.list.toArray.setIfInBounds 77 (.int .i64 n) = ({ x with tick := n } : Rc).list.toArray := by
  rw [Rc.parts, Rc.parts, show (77 : Nat) = 74 + 3 from rfl, set_behind (Rc.head74 h1 h2)]; rfl
theorem patch_mid {A B C D : List Value} {n : Nat} (h : A.length = n) (hb : B.length = D.length) : patch (A ++ (B ++ C)).toArray n D = (A ++ (D ++ C)).toArray := by
  unfold patch
  subst h
  rw [List.toList_toArray, List.take_left, ← hb, ← List.drop_drop, List.drop_left, List.drop_left]
theorem Rc.patch_p (x : Rc) (p : P6) : patch x.list.toArray 4 p.list = ({ x with p := p } : Rc).list.toArray := patch_mid rfl rfl
theorem Rc.patch_root {x : Rc} (h1 : x.root.length = 32) {r : List UInt8} (hr : r.length = 32) : patch x.list.toArray 10 (cB r) = ({ x with root := r } : Rc).list.toArray := by
  have e : ∀ x : Rc, x.list = ([.int .i64 x.kind, .int .i64 x.obj, .int .i64 x.id, .string x.name] ++ x.p.list) ++ (cB x.root ++ (cB x.file ++ [.int .i64 x.way, .int .i64 x.index, .int .i64 x.verdict, .int .i64 x.tick])) := fun x => by simp [Rc.list]
  rw [e x, e]
  exact patch_mid (n := 10) rfl (by rw [cB_length, cB_length, h1, hr])
theorem Rc.patch_file {x : Rc} (h1 : x.root.length = 32) (h2 : x.file.length = 32) {r : List UInt8} (hr : r.length = 32) : patch x.list.toArray 42 (cB r) = ({ x with file := r } : Rc).list.toArray := by
  have e : ∀ x : Rc, x.list = ([.int .i64 x.kind, .int .i64 x.obj, .int .i64 x.id, .string x.name] ++ x.p.list ++ cB x.root) ++ (cB x.file ++ [.int .i64 x.way, .int .i64 x.index, .int .i64 x.verdict, .int .i64 x.tick]) := fun x => by simp [Rc.list]
  rw [e x, e]
  exact patch_mid (n := 42) (by simp [P6.len, cB_length, h1]) (by rw [cB_length, cB_length, h2, hr])
theorem bytes_inj {a b : ByteArray} (h : a.data.toList = b.data.toList) : a = b := by
  cases a; cases b
  simp only [ByteArray.mk.injEq]
  exact Array.ext' h
theorem Rc.lits_inj {x y : Rc} (hx : x.root.length = 32) (hx2 : x.file.length = 32) (hy : y.root.length = 32) (hy2 : y.file.length = 32) (h : x.lits = y.lits) : x = y := by
  unfold Rc.lits at h
  obtain ⟨h1, h2⟩ := List.append_inj h rfl
  obtain ⟨h3, h4⟩ := List.append_inj h2 rfl
  obtain ⟨h5, h6⟩ := List.append_inj h4 (by simp [lits8, hx, hy])
  obtain ⟨h7, h8⟩ := List.append_inj h6 (by simp [lits8, hx2, hy2])
  simp only [List.cons.injEq, Lit.string.injEq, Lit.int.injEq, true_and, and_true] at h1 h8
  obtain ⟨a1, a2, a3, a4⟩ := h1
  obtain ⟨b1, b2, b3, b4⟩ := h8
  have e1 := bytes_inj a4
  have e2 := P6.lits_inj h3
  have e3 := lits8_inj h5
  have e4 := lits8_inj h7
  cases x; cases y
  simp only at *
  subst e1 e2 e3 e4 a1 a2 a3 b1 b2 b3 b4
  rfl
section
variable {P : Program}
theorem keyLits_rc {t ts tp td i64 : TypeId} {fs : Array Field} (ht : P.underlying t = some (.struct fs)) (hq : fs.toList.map (fun f => (f.type, f.offset)) = [(i64, 0), (i64, 1), (i64, 2), (ts, 3), (tp, 4), (td, 10), (td, 42), (i64, 74), (i64, 75), (i64, 76), (i64, 77)]) (hn : fs.all (·.name != "_") = true)
    (hi : P.underlying i64 = some (.int .i64)) (hs : P.underlying ts = some .string) (hp : ∀ p : P6, p.Ok → ∀ d, P.keyLits (d + 2) tp p.list = some p.lits) (hd : ∀ f : List UInt8, f.length = 32 → ∀ d, P.keyLits (d + 2) td (cB f) = some (lits8 f))
    (ci : P.cellsOf i64 = 1) (cs : P.cellsOf ts = 1) (cp : P.cellsOf tp = 6) (cd : P.cellsOf td = 32) (ct : P.cellsOf t = 78) (x : Rc) (h : x.Ok) (d : Nat) : P.keyLits (d + 3) t x.list = some x.lits := by
  have s1 : ∀ {o : Nat} {v : Value}, x.list[o]? = some v → (x.list.drop o).take 1 = [v] := fun {o v} hv => by
    have hlt := (List.getElem?_eq_some_iff.1 hv).1
    rw [List.drop_eq_getElem_cons hlt]
    rw [List.getElem?_eq_getElem hlt, Option.some.injEq] at hv
    rw [hv]; rfl
  have e1 : ∀ n : Int, inI n → P.keyLits (d + 2) i64 [.int .i64 n] = some [.int .i64 n] := fun n h => keyLits_i64 hi (inI_wf h)
  have e := keyLits_mk (d := d + 2) (cs := x.list) (ls := [[.int .i64 x.kind], [.int .i64 x.obj], [.int .i64 x.id], [.string x.name.data.toList], x.p.lits, lits8 x.root, lits8 x.file, [.int .i64 x.way], [.int .i64 x.index], [.int .i64 x.verdict], [.int .i64 x.tick]]) ht hq hn (by rw [ct, Rc.len h.root h.file]) (by
    simp only [List.mapM_cons, List.mapM_nil, ci, cs, cp, cd, s1 x.c0, s1 x.c1, s1 x.c2, s1 x.c3, s1 (Rc.c74 h.root h.file), s1 (Rc.c75 h.root h.file), s1 (Rc.c76 h.root h.file), s1 (Rc.c77 h.root h.file), Rc.sub_p, Rc.sub_root h.root, Rc.sub_file h.root h.file, hp x.p h.p d, hd x.root h.root d, hd x.file h.file d, keyLits_str hs h.name, e1 _ h.kind, e1 _ h.obj, e1 _ h.id, e1 _ h.way, e1 _ h.index, e1 _ h.verdict, e1 _ h.tick, Option.bind_eq_bind, Option.bind_some, Option.pure_def])
  rw [e]
  simp [Rc.lits]
theorem rc_of_keyLits {d : Nat} {t ts tp td i64 : TypeId} {f0 f1 f2 f3 f4 f5 f6 f7 f8 f9 f10 : Field} {cs : List Value} {l : List Lit} (ht : P.underlying t = some (.struct #[f0, f1, f2, f3, f4, f5, f6, f7, f8, f9, f10])) (hq : [f0, f1, f2, f3, f4, f5, f6, f7, f8, f9, f10].map (fun f => (f.type, f.offset)) = [(i64, 0), (i64, 1), (i64, 2), (ts, 3), (tp, 4), (td, 10), (td, 42), (i64, 74), (i64, 75), (i64, 76), (i64, 77)])
    (hi : P.underlying i64 = some (.int .i64)) (hs : P.underlying ts = some .string) (hp : ∀ cs l, P.keyLits (d + 1) tp cs = some l → ∃ p : P6, cs = p.list ∧ p.Ok) (hd : ∀ cs l, P.keyLits (d + 1) td cs = some l → ∃ f : List UInt8, cs = cB f ∧ f.length = 32)
    (ci : P.cellsOf i64 = 1) (cns : P.cellsOf ts = 1) (cp : P.cellsOf tp = 6) (cd : P.cellsOf td = 32) (ct : P.cellsOf t = 78) (h : P.keyLits (d + 2) t cs = some l) : ∃ x : Rc, cs = x.list ∧ x.Ok := by
  obtain ⟨hl, hf⟩ := keyLits_struct ht h
  rw [ct] at hl
  simp only [List.map_cons, List.map_nil, List.cons.injEq, Prod.mk.injEq, and_true] at hq
  obtain ⟨⟨a0, b0⟩, ⟨a1, b1⟩, ⟨a2, b2⟩, ⟨a3, b3⟩, ⟨a4, b4⟩, ⟨a5, b5⟩, ⟨a6, b6⟩, ⟨a7, b7⟩, ⟨a8, b8⟩, ⟨a9, b9⟩, ⟨a10, b10⟩⟩ := hq
  have cell : ∀ (o : Nat) (f : Field) (i : Nat), (#[f0, f1, f2, f3, f4, f5, f6, f7, f8, f9, f10] : Array Field)[i]? = some f → f.type = i64 → f.offset = o → ∃ n, (cs.drop o).take 1 = [.int .i64 n] ∧ inI n := fun o f i hg ht' ho => by
    obtain ⟨lf, h1⟩ := hf i f hg
    rw [ht', ho, ci] at h1
    obtain ⟨n, e1, e2⟩ := keyLits_int' hi h1
    refine ⟨n, e1, ?_⟩
    rw [e1] at h1
    unfold Program.keyLits at h1
    simp only [hi] at h1
    split at h1
    · next hh => exact wf_inI hh.2
    · cases h1
  obtain ⟨n0, e0, w0⟩ := cell 0 f0 0 rfl a0 b0
  obtain ⟨n1, e1, w1⟩ := cell 1 f1 1 rfl a1 b1
  obtain ⟨n2, e2, w2⟩ := cell 2 f2 2 rfl a2 b2
  obtain ⟨l3, h3⟩ := hf 3 f3 rfl
  obtain ⟨l4, h4⟩ := hf 4 f4 rfl
  obtain ⟨l5, h5⟩ := hf 5 f5 rfl
  obtain ⟨l6, h6⟩ := hf 6 f6 rfl
  rw [a3, b3, cns] at h3
  rw [a4, b4, cp] at h4
  rw [a5, b5, cd] at h5
  rw [a6, b6, cd] at h6
  obtain ⟨n7, e7, w7⟩ := cell 74 f7 7 rfl a7 b7
  obtain ⟨n8, e8, w8⟩ := cell 75 f8 8 rfl a8 b8
  obtain ⟨n9, e9, w9⟩ := cell 76 f9 9 rfl a9 b9
  obtain ⟨n10, e10, w10⟩ := cell 77 f10 10 rfl a10 b10
  obtain ⟨s, e3, _⟩ := keyLits_string' hs h3
  obtain ⟨p, e4, w4⟩ := hp _ _ h4
  obtain ⟨r, e5, w5⟩ := hd _ _ h5
  obtain ⟨f, e6, w6⟩ := hd _ _ h6
  have ws : s.size ≤ maxLen := by
    rw [e3] at h3
    unfold Program.keyLits at h3
    simp only [hs] at h3
    split at h3
    · next hh => exact hh
    · cases h3
  refine ⟨⟨n0, n1, n2, s, p, r, f, n7, n8, n9, n10⟩, ?_, w0, w1, w2, ws, w4, w5, w6, w7, w8, w9, w10⟩
  have e := split_eq e0
  rw [List.drop_zero, split_eq e1, split_eq e2, split_eq e3, split_eq e4, split_eq e5, split_eq e6, split_eq e7, split_eq e8, split_eq e9, split_eq e10, List.drop_of_length_le (i := 77 + 1) (by omega)] at e
  rw [e]
  simp [Rc.list]
end

/-- What the program's types say. -/
theorem lits_p15 (p : P6) (h : p.Ok) (d : Nat) : Tryd.prog.keyLits (d + 2) 34 p.list = some p.lits := keyLits_six Tryd.underlying34 rfl (by kernel_rfl) Tryd.underlying3 (by kernel_rfl) (by kernel_rfl) p h d
theorem lits_p15R (p : P6) (h : p.Ok) (d : Nat) : Tryd.prog.keyLits (d + 2) 59 p.list = some p.lits := keyLits_six Tryd.underlying59 rfl (by kernel_rfl) Tryd.underlying3 (by kernel_rfl) (by kernel_rfl) p h d
theorem lits_dg (f : List UInt8) (h : f.length = 32) (d : Nat) : Tryd.prog.keyLits (d + 2) 53 (cB f) = some (lits8 f) := keyLits_bytes Tryd.underlying53 Tryd.underlying5 (by kernel_rfl) (by kernel_rfl) f h
theorem lits_dgR (f : List UInt8) (h : f.length = 32) (d : Nat) : Tryd.prog.keyLits (d + 2) 35 (cB f) = some (lits8 f) := keyLits_bytes Tryd.underlying35 Tryd.underlying5 (by kernel_rfl) (by kernel_rfl) f h
theorem neq_p15R (x y : P6) (hx : x.Ok) (hy : y.Ok) (w : World) : (binOp .neq 59 (.agg x.list.toArray) (.agg y.list.toArray)).run Tryd.prog w = .ok (.bool (!decide (x = y))) w := by
  obtain ⟨r, h1, h2, h3⟩ := agg_eql (P := Tryd.prog) (w := w) (xs := x.list.toArray) (ys := y.list.toArray) (t := 59) (by kernel_rfl) (lits_p15R x hx 4) (lits_p15R y hy 4) (formed_agg (xs := x.list.toArray) Tryd.underlying59 rfl (by kernel_rfl)) (formed_agg (xs := y.list.toArray) Tryd.underlying59 rfl (by kernel_rfl))
  have : r = decide (x = y) := by rw [Bool.eq_iff_iff, h1, decide_eq_true_iff]; exact ⟨P6.lits_inj, fun e => by rw [e]⟩
  rw [h3, this]
theorem neq_d32R (x y : List UInt8) (hx : x.length = 32) (hy : y.length = 32) (w : World) : (binOp .neq 35 (.agg (cB x).toArray) (.agg (cB y).toArray)).run Tryd.prog w = .ok (.bool (!decide (x = y))) w := by
  obtain ⟨r, h1, h2, h3⟩ := agg_eql (P := Tryd.prog) (w := w) (xs := (cB x).toArray) (ys := (cB y).toArray) (t := 35) (by kernel_rfl) (lits_dgR x hx 4) (lits_dgR y hy 4) (formed_agg (xs := (cB x).toArray) Tryd.underlying35 rfl (by rw [List.size_toArray, cB_length, hx]; kernel_rfl)) (formed_agg (xs := (cB y).toArray) Tryd.underlying35 rfl (by rw [List.size_toArray, cB_length, hy]; kernel_rfl))
  have : r = decide (x = y) := by rw [Bool.eq_iff_iff, h1, decide_eq_true_iff]; exact ⟨lits8_inj, fun e => by rw [e]⟩
  rw [h3, this]
section
open Go.ChangeShapes Go.WideShapes Go.Deep
variable {H : Type} {enc : TypeId × Value → H} {w : World}
end
end Go.Proofs.YtndgacjfkoliaaaDoor
