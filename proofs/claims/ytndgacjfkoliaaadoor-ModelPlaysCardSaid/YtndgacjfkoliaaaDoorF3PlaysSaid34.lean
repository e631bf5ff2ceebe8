/- model.Named, model.Verdict and the document's, in plain words: how they lie in memory, '==' of two. -/
import Derived.Test.YtndgacjfkoliaaaDoorKeyL
import Derived.Test.YtndgacjfkoliaaaDoorChecked
import Derived.Test.YtndgacjfkoliaaaDoorF2PlaysSaid34
namespace Go.Proofs.YtndgacjfkoliaaaDoor
open Go.RowKit

structure Nm where
  s : ByteArray
  p : P6
  f : List UInt8
  k : Bool
deriving DecidableEq
instance : Inhabited Nm := ⟨⟨ByteArray.empty, ⟨0, 0, 0, 0, 0, 0⟩, List.replicate 32 0, false⟩⟩
def Nm.list (x : Nm) : List Value := [.string x.s] ++ (x.p.list ++ (cB x.f ++ [.bool x.k]))
def Nm.lits (x : Nm) : List Lit := [.string x.s.data.toList] ++ (x.p.lits ++ (lits8 x.f ++ [.bool x.k]))
structure Nm.Ok (x : Nm) : Prop where
  s : x.s.size ≤ maxLen
  p : x.p.Ok
  f : x.f.length = 32
theorem P6.list_length (p : P6) : p.list.length = 6 := rfl
theorem Nm.list_length {x : Nm} (h : x.f.length = 32) : x.list.length = 40 := by
  simp [Nm.list, P6.list_length, cB_length, h]
theorem P6.list_one (p : P6) : ∀ u ∈ p.list, u.oneCell' = true := by
  intro u hu
  simp only [P6.list, List.mem_cons, List.not_mem_nil, or_false] at hu
  rcases hu with rfl | rfl | rfl | rfl | rfl | rfl <;> rfl
theorem Nm.list_one (x : Nm) : ∀ u ∈ x.list, u.oneCell' = true := by
  intro u hu
  simp only [Nm.list, List.mem_append, List.mem_singleton] at hu
  rcases hu with rfl | hu | hu | rfl
  · rfl
  · exact P6.list_one _ u hu
  · exact cB_one _ u hu
  · rfl
theorem all_one {l : List Value} (h : ∀ u ∈ l, u.oneCell' = true) : l.toArray.all (·.oneCell') = true := by
  rw [Array.all_eq_true']
  intro u hu
  exact h u (by simpa using hu)
theorem Nm.all_one (x : Nm) : x.list.toArray.all (·.oneCell') = true := Go.Proofs.YtndgacjfkoliaaaDoor.all_one x.list_one
theorem Nm.c0 (x : Nm) : x.list[0]? = some (.string x.s) := rfl
theorem Nm.c39 {x : Nm} (h : x.f.length = 32) : x.list[39]? = some (.bool x.k) := by
  have hl : ([.string x.s] ++ x.p.list ++ cB x.f : List Value).length = 39 := by simp [P6.list_length, cB_length, h]
  have e : x.list = ([.string x.s] ++ x.p.list ++ cB x.f) ++ [.bool x.k] := by simp [Nm.list]
  rw [e, List.getElem?_append_right (by omega), hl]
  rfl
theorem Nm.sub_p (x : Nm) : (x.list.drop 1).take 6 = x.p.list := mid_eq rfl rfl
theorem Nm.sub_f {x : Nm} (h : x.f.length = 32) : (x.list.drop 7).take 32 = cB x.f := by
  have e : x.list = ([.string x.s] ++ x.p.list) ++ (cB x.f ++ [.bool x.k]) := by simp [Nm.list]
  rw [e]
  exact mid_eq rfl (by rw [cB_length, h])
theorem Nm.sub_k {x : Nm} (h : x.f.length = 32) : (x.list.drop 39).take 1 = [.bool x.k] := by
  have e : x.list = ([.string x.s] ++ x.p.list ++ cB x.f) ++ ([.bool x.k] ++ []) := by simp [Nm.list]
  rw [e]
  exact mid_eq (by simp [P6.list_length, cB_length, h]) rfl
theorem Nm.lits_inj {x y : Nm} (hx : x.f.length = 32) (hy : y.f.length = 32) (h : x.lits = y.lits) : x = y := by
  unfold Nm.lits at h
  obtain ⟨h1, h2⟩ := List.append_inj h rfl
  obtain ⟨h3, h4⟩ := List.append_inj h2 rfl
  obtain ⟨h5, h6⟩ := List.append_inj h4 (by simp [lits8, hx, hy])
  have e1 : x.s = y.s := by
    simp only [List.cons.injEq, Lit.string.injEq, and_true] at h1
    have : x.s.data = y.s.data := by simpa using h1
    cases hs : x.s; cases ht : y.s
    rw [hs, ht] at this
    exact congrArg _ this
  have e2 := P6.lits_inj h3
  have e3 := lits8_inj h5
  have e4 : x.k = y.k := by simpa using h6
  cases x; cases y
  simp only at e1 e2 e3 e4
  subst e1 e2 e3 e4
  rfl
section
variable {P : Program}
theorem keyLits_nm {t ts tp td tb : TypeId} {fs : Array Field} (ht : P.underlying t = some (.struct fs)) (hq : fs.toList.map (fun f => (f.type, f.offset)) = [(ts, 0), (tp, 1), (td, 7), (tb, 39)]) (hn : fs.all (·.name != "_") = true)
    (hs : P.underlying ts = some .string) (hp : ∀ p : P6, p.Ok → ∀ d, P.keyLits (d + 2) tp p.list = some p.lits) (hd : ∀ f : List UInt8, f.length = 32 → ∀ d, P.keyLits (d + 2) td (cB f) = some (lits8 f)) (hb : P.underlying tb = some .bool)
    (cs : P.cellsOf ts = 1) (cp : P.cellsOf tp = 6) (cd : P.cellsOf td = 32) (cb : P.cellsOf tb = 1) (ct : P.cellsOf t = 40) (x : Nm) (h : x.Ok) (d : Nat) : P.keyLits (d + 3) t x.list = some x.lits := by
  have e := keyLits_mk (d := d + 2) (cs := x.list) (ls := [[.string x.s.data.toList], x.p.lits, lits8 x.f, [.bool x.k]]) ht hq hn (by rw [ct, Nm.list_length h.f]) (by
    simp only [List.mapM_cons, List.mapM_nil, cs, cp, cd, cb, Nm.sub_p, Nm.sub_f h.f, Nm.sub_k h.f, hp x.p h.p d, hd x.f h.f d, keyLits_boo hb, show (x.list.drop 0).take 1 = [.string x.s] from rfl, keyLits_str hs h.s, Option.bind_eq_bind, Option.bind_some, Option.pure_def])
  rw [e]
  simp [Nm.lits]
theorem nm_of_keyLits {d : Nat} {t ts tp td tb : TypeId} {f0 f1 f2 f3 : Field} {cs : List Value} {l : List Lit} (ht : P.underlying t = some (.struct #[f0, f1, f2, f3])) (hq : [f0, f1, f2, f3].map (fun f => (f.type, f.offset)) = [(ts, 0), (tp, 1), (td, 7), (tb, 39)])
    (hs : P.underlying ts = some .string) (hp : ∀ cs l, P.keyLits (d + 1) tp cs = some l → ∃ p : P6, cs = p.list ∧ p.Ok) (hd : ∀ cs l, P.keyLits (d + 1) td cs = some l → ∃ f : List UInt8, cs = cB f ∧ f.length = 32) (hb : P.underlying tb = some .bool)
    (cns : P.cellsOf ts = 1) (cp : P.cellsOf tp = 6) (cd : P.cellsOf td = 32) (cb : P.cellsOf tb = 1) (ct : P.cellsOf t = 40) (h : P.keyLits (d + 2) t cs = some l) : ∃ x : Nm, cs = x.list ∧ x.Ok := by
  obtain ⟨hl, hf⟩ := keyLits_struct ht h
  rw [ct] at hl
  simp only [List.map_cons, List.map_nil, List.cons.injEq, Prod.mk.injEq, and_true] at hq
  obtain ⟨⟨a0, b0⟩, ⟨a1, b1⟩, ⟨a2, b2⟩, ⟨a3, b3⟩⟩ := hq
  obtain ⟨l0, h0⟩ := hf 0 f0 rfl
  obtain ⟨l1, h1⟩ := hf 1 f1 rfl
  obtain ⟨l2, h2⟩ := hf 2 f2 rfl
  obtain ⟨l3, h3⟩ := hf 3 f3 rfl
  rw [a0, b0, cns] at h0
  rw [a1, b1, cp] at h1
  rw [a2, b2, cd] at h2
  rw [a3, b3, cb] at h3
  obtain ⟨s, e0, _⟩ := keyLits_string' hs h0
  obtain ⟨p, e1, w1⟩ := hp _ _ h1
  obtain ⟨f, e2, w2⟩ := hd _ _ h2
  obtain ⟨k, e3, _⟩ := keyLits_bool' hb h3
  have ws : s.size ≤ maxLen := by
    rw [e0] at h0
    unfold Program.keyLits at h0
    simp only [hs] at h0
    split at h0
    · next hh => exact hh
    · cases h0
  refine ⟨⟨s, p, f, k⟩, ?_, ws, w1, w2⟩
  have e := split_eq e0
  rw [List.drop_zero, split_eq e1, split_eq e2, split_eq e3, List.drop_of_length_le (i := 39 + 1) (by omega)] at e
  rw [e]
  simp [Nm.list]
end

/-- A verdict. -/
structure Vd where
  o : Int
  w : Int
  v : Int
deriving DecidableEq
instance : Inhabited Vd := ⟨⟨0, 0, 0⟩⟩
def Vd.list (x : Vd) : List Value := [.int .i64 x.o, .int .i64 x.w, .int .i64 x.v]
def Vd.lits (x : Vd) : List Lit := [.int .i64 x.o, .int .i64 x.w, .int .i64 x.v]
def Vd.Ok (x : Vd) : Prop := inI x.o ∧ inI x.w ∧ inI x.v
theorem Vd.lits_inj {x y : Vd} (h : x.lits = y.lits) : x = y := by
  cases x; cases y
  simpa [Vd.lits] using h
theorem Vd.list_one (x : Vd) : ∀ u ∈ x.list, u.oneCell' = true := by
  intro u hu
  simp only [Vd.list, List.mem_cons, List.not_mem_nil, or_false] at hu
  rcases hu with rfl | rfl | rfl <;> rfl
section
variable {P : Program}
theorem keyLits_vd {t i64 : TypeId} {fs : Array Field} (ht : P.underlying t = some (.struct fs)) (hq : fs.toList.map (fun f => (f.type, f.offset)) = [(i64, 0), (i64, 1), (i64, 2)]) (hn : fs.all (·.name != "_") = true) (hi : P.underlying i64 = some (.int .i64)) (ci : P.cellsOf i64 = 1) (ct : P.cellsOf t = 3)
    (x : Vd) (hp : x.Ok) (d : Nat) : P.keyLits (d + 2) t x.list = some x.lits := by
  obtain ⟨h1, h2, h3⟩ := hp
  have e := fun (n : Int) (h : inI n) => keyLits_i64 (d := d) hi (inI_wf h)
  refine keyLits_mk (ls := [[.int .i64 x.o], [.int .i64 x.w], [.int .i64 x.v]]) ht hq hn (by rw [ct]; rfl) ?_
  simp only [List.mapM_cons, List.mapM_nil, ci, Vd.list, List.drop_zero, List.drop_succ_cons, List.take_succ_cons, List.take_zero, e _ h1, e _ h2, e _ h3, Option.bind_eq_bind, Option.bind_some, Option.pure_def]
theorem vd_of_keyLits {d : Nat} {t i64 : TypeId} {f0 f1 f2 : Field} {cs : List Value} {l : List Lit} (ht : P.underlying t = some (.struct #[f0, f1, f2])) (hq : [f0, f1, f2].map (fun f => (f.type, f.offset)) = [(i64, 0), (i64, 1), (i64, 2)]) (hi : P.underlying i64 = some (.int .i64)) (ci : P.cellsOf i64 = 1) (ct : P.cellsOf t = 3)
    (h : P.keyLits (d + 1) t cs = some l) : ∃ x : Vd, cs = x.list ∧ x.Ok := by
  obtain ⟨hl, hf⟩ := keyLits_struct ht h
  rw [ct] at hl
  simp only [List.map_cons, List.map_nil, List.cons.injEq, Prod.mk.injEq, and_true] at hq
  obtain ⟨⟨a0, b0⟩, ⟨a1, b1⟩, ⟨a2, b2⟩⟩ := hq
  have cell : ∀ (o : Nat) (f : Field) (i : Nat), (#[f0, f1, f2] : Array Field)[i]? = some f → f.type = i64 → f.offset = o → ∃ n, (cs.drop o).take 1 = [.int .i64 n] ∧ inI n := fun o f i hg ht' ho => by
    obtain ⟨lf, h1⟩ := hf i f hg
    rw [ht', ho, ci] at h1
    obtain ⟨n, e1, e2⟩ := keyLits_int' hi h1
    refine ⟨n, e1, ?_⟩
    rw [e1] at h1
    cases d with
    | zero => simp [Program.keyLits] at h1
    | succ d =>
      unfold Program.keyLits at h1
      simp only [hi] at h1
      split at h1
      · next hh => exact wf_inI hh.2
      · cases h1
  obtain ⟨n0, e0, w0⟩ := cell 0 f0 0 rfl a0 b0
  obtain ⟨n1, e1, w1⟩ := cell 1 f1 1 rfl a1 b1
  obtain ⟨n2, e2, w2⟩ := cell 2 f2 2 rfl a2 b2
  refine ⟨⟨n0, n1, n2⟩, ?_, w0, w1, w2⟩
  have h0 := split_eq e0
  rw [List.drop_zero, split_eq e1, split_eq e2, List.drop_of_length_le (i := 2 + 1) (by omega)] at h0
  exact h0
end

/-- What the program's types say. -/
theorem lits_parG (p : P6) (h : p.Ok) (d : Nat) : Tryd.prog.keyLits (d + 2) 34 p.list = some p.lits := keyLits_six Tryd.underlying34 rfl (by kernel_rfl) Tryd.underlying3 (by kernel_rfl) (by kernel_rfl) p h d
theorem lits_parR (p : P6) (h : p.Ok) (d : Nat) : Tryd.prog.keyLits (d + 2) 59 p.list = some p.lits := keyLits_six Tryd.underlying59 rfl (by kernel_rfl) Tryd.underlying3 (by kernel_rfl) (by kernel_rfl) p h d
theorem lits_dig (f : List UInt8) (h : f.length = 32) (d : Nat) : Tryd.prog.keyLits (d + 2) 53 (cB f) = some (lits8 f) := keyLits_bytes Tryd.underlying53 Tryd.underlying5 (by kernel_rfl) (by kernel_rfl) f h
theorem lits_d32 (f : List UInt8) (h : f.length = 32) (d : Nat) : Tryd.prog.keyLits (d + 2) 35 (cB f) = some (lits8 f) := keyLits_bytes Tryd.underlying35 Tryd.underlying5 (by kernel_rfl) (by kernel_rfl) f h
theorem lits_nmG (x : Nm) (h : x.Ok) (d : Nat) : Tryd.prog.keyLits (d + 3) 69 x.list = some x.lits := keyLits_nm Tryd.underlying69 rfl (by kernel_rfl) Tryd.underlying9 lits_parG lits_dig Tryd.underlying4 (by kernel_rfl) (by kernel_rfl) (by kernel_rfl) (by kernel_rfl) (by kernel_rfl) x h d
theorem lits_nmR (x : Nm) (h : x.Ok) (d : Nat) : Tryd.prog.keyLits (d + 3) 67 x.list = some x.lits := keyLits_nm Tryd.underlying67 rfl (by kernel_rfl) Tryd.underlying9 lits_parR lits_d32 Tryd.underlying4 (by kernel_rfl) (by kernel_rfl) (by kernel_rfl) (by kernel_rfl) (by kernel_rfl) x h d
theorem lits_vdG (x : Vd) (h : x.Ok) (d : Nat) : Tryd.prog.keyLits (d + 2) 70 x.list = some x.lits := keyLits_vd Tryd.underlying70 rfl (by kernel_rfl) Tryd.underlying3 (by kernel_rfl) (by kernel_rfl) x h d
theorem lits_vdR (x : Vd) (h : x.Ok) (d : Nat) : Tryd.prog.keyLits (d + 2) 46 x.list = some x.lits := keyLits_vd Tryd.underlying46 rfl (by kernel_rfl) Tryd.underlying3 (by kernel_rfl) (by kernel_rfl) x h d
theorem neq_nmG (x y : Nm) (hx : x.Ok) (hy : y.Ok) (w : World) : (binOp .neq 69 (.agg x.list.toArray) (.agg y.list.toArray)).run Tryd.prog w = .ok (.bool (!decide (x = y))) w ∧ (binOp .eql 69 (.agg x.list.toArray) (.agg y.list.toArray)).run Tryd.prog w = .ok (.bool (decide (x = y))) w := by
  obtain ⟨r, h1, h2, h3⟩ := agg_eql (P := Tryd.prog) (w := w) (xs := x.list.toArray) (ys := y.list.toArray) (t := 69) (by kernel_rfl) (lits_nmG x hx 3) (lits_nmG y hy 3) (formed_agg (xs := x.list.toArray) Tryd.underlying69 rfl (by rw [List.size_toArray, Nm.list_length hx.f]; kernel_rfl)) (formed_agg (xs := y.list.toArray) Tryd.underlying69 rfl (by rw [List.size_toArray, Nm.list_length hy.f]; kernel_rfl))
  have : r = decide (x = y) := by rw [Bool.eq_iff_iff, h1, decide_eq_true_iff]; exact ⟨Nm.lits_inj hx.f hy.f, fun e => by rw [e]⟩
  rw [h2, h3, this]
  exact ⟨rfl, rfl⟩
theorem neq_nmR (x y : Nm) (hx : x.Ok) (hy : y.Ok) (w : World) : (binOp .neq 67 (.agg x.list.toArray) (.agg y.list.toArray)).run Tryd.prog w = .ok (.bool (!decide (x = y))) w := by
  obtain ⟨r, h1, h2, h3⟩ := agg_eql (P := Tryd.prog) (w := w) (xs := x.list.toArray) (ys := y.list.toArray) (t := 67) (by kernel_rfl) (lits_nmR x hx 3) (lits_nmR y hy 3) (formed_agg (xs := x.list.toArray) Tryd.underlying67 rfl (by rw [List.size_toArray, Nm.list_length hx.f]; kernel_rfl)) (formed_agg (xs := y.list.toArray) Tryd.underlying67 rfl (by rw [List.size_toArray, Nm.list_length hy.f]; kernel_rfl))
  have : r = decide (x = y) := by rw [Bool.eq_iff_iff, h1, decide_eq_true_iff]; exact ⟨Nm.lits_inj hx.f hy.f, fun e => by rw [e]⟩
  rw [h3, this]
theorem neq_vdG (x y : Vd) (hx : x.Ok) (hy : y.Ok) (w : World) : (binOp .neq 70 (.agg x.list.toArray) (.agg y.list.toArray)).run Tryd.prog w = .ok (.bool (!decide (x = y))) w := by
  obtain ⟨r, h1, h2, h3⟩ := agg_eql (P := Tryd.prog) (w := w) (xs := x.list.toArray) (ys := y.list.toArray) (t := 70) (by kernel_rfl) (lits_vdG x hx 4) (lits_vdG y hy 4) (formed_agg (xs := x.list.toArray) Tryd.underlying70 rfl (by kernel_rfl)) (formed_agg (xs := y.list.toArray) Tryd.underlying70 rfl (by kernel_rfl))
  have : r = decide (x = y) := by rw [Bool.eq_iff_iff, h1, decide_eq_true_iff]; exact ⟨Vd.lits_inj, fun e => by rw [e]⟩
  rw [h3, this]
theorem neq_vdR (x y : Vd) (hx : x.Ok) (hy : y.Ok) (w : World) : (binOp .neq 46 (.agg x.list.toArray) (.agg y.list.toArray)).run Tryd.prog w = .ok (.bool (!decide (x = y))) w := by
  obtain ⟨r, h1, h2, h3⟩ := agg_eql (P := Tryd.prog) (w := w) (xs := x.list.toArray) (ys := y.list.toArray) (t := 46) (by kernel_rfl) (lits_vdR x hx 4) (lits_vdR y hy 4) (formed_agg (xs := x.list.toArray) Tryd.underlying46 rfl (by kernel_rfl)) (formed_agg (xs := y.list.toArray) Tryd.underlying46 rfl (by kernel_rfl))
  have : r = decide (x = y) := by rw [Bool.eq_iff_iff, h1, decide_eq_true_iff]; exact ⟨Vd.lits_inj, fun e => by rw [e]⟩
  rw [h3, this]
theorem eql_parR (x y : P6) (hx : x.Ok) (hy : y.Ok) (w : World) : (binOp .eql 59 (.agg x.list.toArray) (.agg y.list.toArray)).run Tryd.prog w = .ok (.bool (decide (x = y))) w := by
  obtain ⟨r, h1, h2, h3⟩ := agg_eql (P := Tryd.prog) (w := w) (xs := x.list.toArray) (ys := y.list.toArray) (t := 59) (by kernel_rfl) (lits_parR x hx 4) (lits_parR y hy 4) (formed_agg (xs := x.list.toArray) Tryd.underlying59 rfl (by kernel_rfl)) (formed_agg (xs := y.list.toArray) Tryd.underlying59 rfl (by kernel_rfl))
  have : r = decide (x = y) := by rw [Bool.eq_iff_iff, h1, decide_eq_true_iff]; exact ⟨P6.lits_inj, fun e => by rw [e]⟩
  rw [h2, this]
theorem eql_d32 (x y : List UInt8) (hx : x.length = 32) (hy : y.length = 32) (w : World) : (binOp .eql 35 (.agg (cB x).toArray) (.agg (cB y).toArray)).run Tryd.prog w = .ok (.bool (decide (x = y))) w := by
  obtain ⟨r, h1, h2, h3⟩ := agg_eql (P := Tryd.prog) (w := w) (xs := (cB x).toArray) (ys := (cB y).toArray) (t := 35) (by kernel_rfl) (lits_d32 x hx 4) (lits_d32 y hy 4) (formed_agg (xs := (cB x).toArray) Tryd.underlying35 rfl (by rw [List.size_toArray, cB_length, hx]; kernel_rfl)) (formed_agg (xs := (cB y).toArray) Tryd.underlying35 rfl (by rw [List.size_toArray, cB_length, hy]; kernel_rfl))
  have : r = decide (x = y) := by rw [Bool.eq_iff_iff, h1, decide_eq_true_iff]; exact ⟨lits8_inj, fun e => by rw [e]⟩
  rw [h2, this]

/-- Rows of them. -/
def RN (_ : World) (_ : Nat → Prop) (x : Nm) (cs : List Value) : Prop := cs = x.list ∧ x.Ok
theorem liesRN : LiesOk RN 40 := ⟨fun h _ _ => h, fun h _ => h, fun h => by rw [h.1]; exact ⟨Nm.list_length h.2.f, Nm.list_one _⟩⟩
def RV (_ : World) (_ : Nat → Prop) (x : Vd) (cs : List Value) : Prop := cs = x.list ∧ x.Ok
theorem liesRV : LiesOk RV 3 := ⟨fun h _ _ => h, fun h _ => h, fun h => by rw [h.1]; exact ⟨rfl, Vd.list_one _⟩⟩
/-- A row that may be read. -/
def RowAt {α : Type} (enc : α → List Value) (size : Nat) (w : World) (a : Option Addr) (xs : List α) : Prop := ∀ k (h : k < xs.length), ∃ b o, a = some ⟨b, o, none⟩ ∧ w.rangeAt b (o + k * size) (enc xs[k])
theorem rangeAt_below {w w' : World} {B b o : Nat} {cs : List Value} (h : w.rangeAt b o cs) (hb : Below B w w') (hB : w.heap.size ≤ B) : w'.rangeAt b o cs := fun j v hv => by
  have h1 := h j v hv
  have h2 := World.block_lt_of_cell? w _ h1
  exact (hb.cell (p := ⟨b, o + j, none⟩) (Nat.lt_of_lt_of_le h2 hB)).trans h1
theorem RowAt.below {α : Type} {enc : α → List Value} {size B : Nat} {w w' : World} {a : Option Addr} {xs : List α} (h : RowAt enc size w a xs) (hb : Below B w w') (hB : w.heap.size ≤ B) : RowAt enc size w' a xs := fun k hk => by
  obtain ⟨b, o, e, hr⟩ := h k hk
  exact ⟨b, o, e, rangeAt_below hr hb hB⟩
theorem rowsN_at {base : Nat} {w : World} {e : TypeId} {F : Nat → Prop} {v : Value} {xs : List Nm} (h : RowsOf RN e 40 base w F v xs) : ∃ a c, v = .slice a xs.length c ∧ RowAt Nm.list 40 w a xs ∧ xs.length ≤ c ∧ c ≤ maxLen ∧ (∀ x ∈ xs, x.Ok) := by
  obtain ⟨a, c, e1, e2, e3, e4, e5⟩ := h.form
  refine ⟨a, c, e1, fun k hk => ?_, e3, e4, fun x hx => ?_⟩
  · obtain ⟨g, c', cs, e6, ⟨rfl, _⟩, h7⟩ := h.elem liesRN k _ (List.getElem?_eq_getElem hk)
    rw [e1] at e6
    cases e6
    exact ⟨g, 0, rfl, by rw [Nat.zero_add]; exact h7⟩
  · obtain ⟨k, hk, rfl⟩ := List.getElem_of_mem hx
    obtain ⟨g, c', cs, e6, ⟨_, h8⟩, h7⟩ := h.elem liesRN k _ (List.getElem?_eq_getElem hk)
    exact h8
theorem rowsV_at {base : Nat} {w : World} {e : TypeId} {F : Nat → Prop} {v : Value} {xs : List Vd} (h : RowsOf RV e 3 base w F v xs) : ∃ a c, v = .slice a xs.length c ∧ RowAt Vd.list 3 w a xs ∧ xs.length ≤ c ∧ c ≤ maxLen ∧ (∀ x ∈ xs, x.Ok) := by
  obtain ⟨a, c, e1, e2, e3, e4, e5⟩ := h.form
  refine ⟨a, c, e1, fun k hk => ?_, e3, e4, fun x hx => ?_⟩
  · obtain ⟨g, c', cs, e6, ⟨rfl, _⟩, h7⟩ := h.elem liesRV k _ (List.getElem?_eq_getElem hk)
    rw [e1] at e6
    cases e6
    exact ⟨g, 0, rfl, by rw [Nat.zero_add]; exact h7⟩
  · obtain ⟨k, hk, rfl⟩ := List.getElem_of_mem hx
    obtain ⟨g, c', cs, e6, ⟨_, h8⟩, h7⟩ := h.elem liesRV k _ (List.getElem?_eq_getElem hk)
    exact h8
/-- A model, and how it comes in. -/
structure Md where
  ns : List Nm
  vs : List Vd
structure ArgM (w : World) (v : Value) (m : Md) : Prop where
  form : ∃ a c a' c', v = .agg #[.slice a m.ns.length c, .slice a' m.vs.length c'] ∧ RowAt Nm.list 40 w a m.ns ∧ m.ns.length ≤ c ∧ c ≤ maxLen ∧ RowAt Vd.list 3 w a' m.vs ∧ m.vs.length ≤ c' ∧ c' ≤ maxLen
  okN : ∀ x ∈ m.ns, x.Ok
  okV : ∀ x ∈ m.vs, x.Ok
theorem ArgM.below {B : Nat} {w w' : World} {v : Value} {m : Md} (h : ArgM w v m) (hb : Below B w w') (hB : w.heap.size ≤ B) : ArgM w' v m := by
  obtain ⟨⟨a, c, a', c', e, h1, h2, h3, h4, h5, h6⟩, h7, h8⟩ := h
  exact ⟨⟨a, c, a', c', e, h1.below hb hB, h2, h3, h4.below hb hB, h5, h6⟩, h7, h8⟩
end Go.Proofs.YtndgacjfkoliaaaDoor
