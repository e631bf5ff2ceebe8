/- MPlain, RetTmp. -/
import Derived.Test.YtndgacjfkoliaaaDoorF5PlaysSaid34
import Derived.Test.YtndgacjfkoliaaaDoorF9PlaysSaid34
import Derived.Test.YtndgacjfkoliaaaDoorF16PlaysSaid34
import Derived.Test.YtndgacjfkoliaaaDoorF4PlaysSaid34
/- What the model's functions answer, in plain words; that models grow. -/
namespace Go.Proofs.YtndgacjfkoliaaaDoor
open Go.RowKit
set_option linter.unusedSimpArgs false
set_option linter.unusedVariables false

def mIdx (m : Md) (s : ByteArray) : Option Nat := m.ns.findIdx? (fun x => decide (x.s = s))
def mPut (m : Md) (s : ByteArray) (size : Int) (f : List UInt8) (p : P6) : Md × Int × Nat :=
  match badAt p.s p.n p.k p.d p.t p.r with
  | some (_, _, i) => (m, 0, i + 1)
  | none => if size ≠ p.s then (m, 0, 8) else match mIdx m s with
    | some i => if m.ns.getD i default = ⟨s, p, f, false⟩ then (m, (i : Int), 0) else if labB s.data.toList = false then (m, 0, 6) else (m, 0, 10)
    | none => if labB s.data.toList = false then (m, 0, 6) else if 4 ≤ m.ns.length then (m, 0, 12) else (⟨m.ns ++ [⟨s, p, f, false⟩], m.vs⟩, (m.ns.length : Int), 0)
def mKept (m : Md) (n : Int) : Md × Nat :=
  if n < 0 ∨ (m.ns.length : Int) ≤ n then (m, 11) else if (m.ns.getD n.toNat default).k = true then (m, 13) else (⟨m.ns.set n.toNat { m.ns.getD n.toNat default with k := true }, m.vs⟩, 0)
def mCnt (vs : List Vd) (o w : Int) : Nat := vs.countP (fun x => decide (x.o = o) && decide (x.w = w))
def mVer (vs : List Vd) (o v : Int) : Nat := vs.countP (fun x => decide (x.o = o) && decide (x.v = v))
def mLeft (m : Md) (n : Int) : Int :=
  if n < 0 ∨ (m.ns.length : Int) ≤ n then 0 else max ((m.ns.getD n.toNat default).p.n - (mCnt m.vs n 2 : Nat)) 0
def mAsked (m : Md) (n way : Int) : Md × Int × Nat :=
  if way ≠ 1 ∧ way ≠ 2 then (m, 0, 7) else if n < 0 ∨ (m.ns.length : Int) ≤ n then (m, 0, 11) else if (m.ns.getD n.toNat default).k = false then (m, 0, 13)
  else if way = 2 ∧ mLeft m n = 0 then (m, 0, 18) else (⟨m.ns, m.vs ++ [⟨n, way, 0⟩]⟩, (m.vs.length : Int), 0)
def mJudged (m : Md) (id v : Int) : Md × Nat :=
  if id < 0 ∨ (m.vs.length : Int) ≤ id then (m, 11) else if (m.vs.getD id.toNat default).v ≠ 0 then (m, 13) else if v < 1 ∨ 3 < v then (m, 1) else (⟨m.ns, m.vs.set id.toNat { m.vs.getD id.toNat default with v := v }⟩, 0)
/-- What is true of every model that comes up. -/
structure MI (k : Nat) (m : Md) : Prop where
  nd : (m.ns.map (fun x => x.s)).Nodup
  nl : m.ns.length ≤ 4
  vl : m.vs.length ≤ k
  par : ∀ x ∈ m.ns, badAt x.p.s x.p.n x.p.k x.p.d x.p.t x.p.r = none
theorem MI.mono {k k' : Nat} {m : Md} (h : MI k m) (hk : k ≤ k') : MI k' m := ⟨h.nd, h.nl, Nat.le_trans h.vl hk, h.par⟩
theorem mi_nil (k : Nat) : MI k ⟨[], []⟩ := ⟨List.nodup_nil, Nat.zero_le _, Nat.zero_le _, fun x hx => (List.not_mem_nil hx).elim⟩
theorem mgN (x y : Nm) (h1 : x.s = y.s) (h2 : x.p = y.p) (h3 : x.f = y.f) (h4 : x.k = true → y.k = true) : growN x y = true := by
  obtain ⟨s, p, f, k⟩ := x
  obtain ⟨s', p', f', k'⟩ := y
  unfold growN
  cases h1; cases h2; cases h3
  cases k <;> cases k' <;> simp_all
theorem mgV (x y : Vd) (h1 : x.o = y.o) (h2 : x.w = y.w) (h3 : x.v = y.v ∨ x.v = 0) : growV x y = true := by
  obtain ⟨o, wy, v⟩ := x
  obtain ⟨o', wy', v'⟩ := y
  unfold growV
  cases h1; cases h2
  rcases h3 with h | h
  · cases h
    by_cases hv : v = 0 <;> simp [hv]
  · cases h
    simp
theorem mg_of {m m' : Md} (h1 : m.ns.length ≤ m'.ns.length) (h2 : m.vs.length ≤ m'.vs.length) (h3 : ∀ i, i < m.ns.length → growN (m.ns.getD i default) (m'.ns.getD i default) = true) (h4 : ∀ i, i < m.vs.length → growV (m.vs.getD i default) (m'.vs.getD i default) = true) : growsM m m' = true := by
  unfold growsM
  rw [growL_all h3, growL_all h4, decide_eq_true h1, decide_eq_true h2]
  rfl
theorem mg_self (m : Md) : growsM m m = true := mg_of (Nat.le_refl _) (Nat.le_refl _) (fun i _ => mgN _ _ rfl rfl rfl id) (fun i _ => mgV _ _ rfl rfl (.inl rfl))
theorem getD_app {α : Type} (xs ys : List α) (d : α) (i : Nat) (hi : i < xs.length) : (xs ++ ys).getD i d = xs.getD i d := by
  simp only [List.getD_eq_getElem?_getD]
  rw [List.getElem?_append_left hi]
theorem getD_setM {α : Type} (xs : List α) (d y : α) (i n : Nat) : (xs.set n y).getD i d = if n = i ∧ i < xs.length then y else xs.getD i d := by
  simp only [List.getD_eq_getElem?_getD, List.getElem?_set]
  by_cases h : n = i
  · subst h
    by_cases h2 : n < xs.length
    · simp [h2]
    · simp [h2]
  · simp [h]
theorem mPut_ok {k : Nat} {m : Md} (h : MI k m) (s : ByteArray) (size : Int) (f : List UInt8) (p : P6) : MI k (mPut m s size f p).1 ∧ growsM m (mPut m s size f p).1 = true := by
  unfold mPut
  split
  · exact ⟨h, mg_self m⟩
  · rename_i hb
    split
    · exact ⟨h, mg_self m⟩
    · split
      · split
        · exact ⟨h, mg_self m⟩
        · split
          · exact ⟨h, mg_self m⟩
          · exact ⟨h, mg_self m⟩
      · rename_i hf
        split
        · exact ⟨h, mg_self m⟩
        · split
          · exact ⟨h, mg_self m⟩
          · refine ⟨⟨?_, by simp; omega, h.vl, fun x hx => ?_⟩, mg_of (by simp) (Nat.le_refl _) (fun i hi => ?_) (fun i _ => mgV _ _ rfl rfl (.inl rfl))⟩
            · rw [List.map_append, List.nodup_append]
              refine ⟨h.nd, by simp, fun a ha b hb2 => ?_⟩
              simp only [List.map_cons, List.map_nil, List.mem_singleton] at hb2
              obtain ⟨x, hx, rfl⟩ := List.mem_map.1 ha
              have := List.findIdx?_eq_none_iff.1 hf x hx
              rw [hb2]
              simpa using this
            · rcases List.mem_append.1 hx with hx | hx
              · exact h.par x hx
              · rw [List.mem_singleton] at hx
                rw [hx]
                exact hb
            · show growN _ ((m.ns ++ _).getD i default) = true
              rw [getD_app _ _ _ _ hi]
              exact mgN _ _ rfl rfl rfl id
theorem mKept_ok {k : Nat} {m : Md} (h : MI k m) (n : Int) : MI k (mKept m n).1 ∧ growsM m (mKept m n).1 = true := by
  unfold mKept
  split
  · exact ⟨h, mg_self m⟩
  · split
    · exact ⟨h, mg_self m⟩
    · rename_i h1 h2
      have hn : n.toNat < m.ns.length := by omega
      refine ⟨⟨?_, by simpa using h.nl, h.vl, fun x hx => ?_⟩, mg_of (by simp) (Nat.le_refl _) (fun i hi => ?_) (fun i _ => mgV _ _ rfl rfl (.inl rfl))⟩
      · have e : (m.ns.set n.toNat { m.ns.getD n.toNat default with k := true }).map (fun x => x.s) = m.ns.map (fun x => x.s) := by
          refine List.ext_getElem (by simp) (fun j h3 h4 => ?_)
          rw [List.getElem_map, List.getElem_map, List.getElem_set]
          split
          · rename_i e
            subst e
            simp [List.getD_eq_getElem?_getD, List.getElem?_eq_getElem hn]
          · rfl
        show (List.map _ (m.ns.set _ _)).Nodup
        rw [e]
        exact h.nd
      · rcases List.mem_or_eq_of_mem_set hx with hx | hx
        · exact h.par x hx
        · rw [hx]
          have : m.ns.getD n.toNat default ∈ m.ns := by
            rw [List.getD_eq_getElem?_getD, List.getElem?_eq_getElem hn]
            exact List.getElem_mem hn
          exact h.par (m.ns.getD n.toNat default) this
      · show growN _ ((m.ns.set _ _).getD i default) = true
        rw [getD_setM]
        split
        · rename_i e
          obtain ⟨rfl, _⟩ := e
          exact mgN _ _ rfl rfl rfl (fun _ => rfl)
        · exact mgN _ _ rfl rfl rfl id
theorem mAsked_ok {k : Nat} {m : Md} (h : MI k m) (n way : Int) : MI (k + 1) (mAsked m n way).1 ∧ growsM m (mAsked m n way).1 = true := by
  unfold mAsked
  split
  · exact ⟨h.mono (Nat.le_succ _), mg_self m⟩
  · split
    · exact ⟨h.mono (Nat.le_succ _), mg_self m⟩
    · split
      · exact ⟨h.mono (Nat.le_succ _), mg_self m⟩
      · split
        · exact ⟨h.mono (Nat.le_succ _), mg_self m⟩
        · refine ⟨⟨h.nd, h.nl, by have := h.vl; simp; omega, h.par⟩, mg_of (Nat.le_refl _) (by simp) (fun i _ => mgN _ _ rfl rfl rfl id) (fun i hi => ?_)⟩
          show growV _ ((m.vs ++ _).getD i default) = true
          rw [getD_app _ _ _ _ hi]
          exact mgV _ _ rfl rfl (.inl rfl)
theorem mJudged_ok {k : Nat} {m : Md} (h : MI k m) (id v : Int) : MI k (mJudged m id v).1 ∧ growsM m (mJudged m id v).1 = true := by
  unfold mJudged
  split
  · exact ⟨h, mg_self m⟩
  · split
    · exact ⟨h, mg_self m⟩
    · split
      · exact ⟨h, mg_self m⟩
      · rename_i h1 h2 h3
        refine ⟨⟨h.nd, h.nl, by simpa using h.vl, h.par⟩, mg_of (Nat.le_refl _) (by simp) (fun i _ => mgN _ _ rfl rfl rfl (fun h => h)) (fun i hi => ?_)⟩
        show growV _ ((m.vs.set _ _).getD i default) = true
        rw [getD_setM]
        split
        · rename_i e
          obtain ⟨rfl, _⟩ := e
          exact mgV _ _ rfl rfl (.inr (by simpa using h2))
        · exact mgV _ _ rfl rfl (.inl rfl)
end Go.Proofs.YtndgacjfkoliaaaDoor
/- Two results: a struct or an array that lies in a block, and one that lies in a slot. -/
namespace Go.Proofs.YtndgacjfkoliaaaDoor
open Go.RowKit
section
variable {P : Program} {fn : Func} {R : Ending → World → Prop} {p q : Tmp} {ty : TypeId}
theorem results_cell_tmpB (h : fn.results = #[.cell p ty, .tmp q]) (tmps : Array Value) (w : World) :
    (results fn tmps).run P w = ((asAddr (tmps.getD p undef)).run P w).andThen fun a w₁ => ((loadVar ty a).run P w₁).andThen fun v w₂ => .ok (.tuple #[v, tmps.getD q undef]) w₂ := by
  simp [results, h, Sem.run_bind, Result.andThen]
theorem ret_cell_tmpB {tmps : Array Value} {W : World} {b : Nat} {c : Array Value} {d : TypeDesc} (h : fn.results = #[.cell p ty, .tmp q])
    (hp : tmps.getD p undef = .pointer (some ⟨b, 0, none⟩)) (hu : P.underlying ty = some d) (hd : (match d with | .struct _ | .array _ _ => true | _ => false) = true) (hi : (P.info? ty).map (·.size) = some c.size) (hh : W.heap[b]? = some (.cells c ty (0, 0))) (hR : R (.returned (.tuple #[.agg c, tmps.getD q undef])) W) :
    bodyPost P fn R .ret ⟨tmps, []⟩ W := by
  refine bodyPost_ret (v := .tuple #[.agg c, tmps.getD q undef]) ?_ rfl hR
  rw [results_cell_tmpB h, hp]
  simp [asAddr, Result.andThen, run_loadVar_row W b ty ty c (0, 0) d hh hu hd hi]
end
/-- A sentinel lies in its variable. -/
def SentAt (g : Nat) (w : World) (z : Addr) : Prop := w.cell? ⟨g, 0, none⟩ = some (.iface 137 (.pointer (some z)))
theorem SentAt.below {g : Nat} {w w' : World} {z : Addr} (h : SentAt g w z) (hb : Below w.heap.size w w') : SentAt g w' z := (hb.cell (World.block_lt_of_cell? w _ h)).trans h
theorem SentAt.far {g : Nat} {w : World} {z : Addr} (h : SentAt g w z) : ∀ W, Below w.heap.size w W → W.cell? ⟨g, 0, none⟩ = some (.iface 137 (.pointer (some z))) := fun _ hW => h.below hW
end Go.Proofs.YtndgacjfkoliaaaDoor
