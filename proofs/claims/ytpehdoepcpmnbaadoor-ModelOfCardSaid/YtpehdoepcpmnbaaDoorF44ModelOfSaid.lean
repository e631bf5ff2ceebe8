/- OpenM, OpenRcs. -/
import Derived.Test.YtpehdoepcpmnbaaDoorF3ModelOfSaid
import Derived.Test.YtpehdoepcpmnbaaDoorF18ModelOfSaid
import Derived.MapViews
import Derived.Test.YtpehdoepcpmnbaaDoorF19ModelOfSaid
/- A model that comes in by value. -/
namespace Go.Proofs.YtpehdoepcpmnbaaDoor
open Go.RowKit Go.ChangeShapes Go.WideShapes Go.Deep

section
variable {H : Type} {enc : TypeId × Value → H} {P : Program} {w : World}
theorem open_rows {α : Type} [Inhabited α] {en : α → List Value} {Ok : α → Prop} {size : Nat} {t e : TypeId} {n o : Nat} {cs : List Value} {y : DataW H × List MemPlace} (ht : P.underlying t = some (.slice e)) (hce : P.cellsOf t = 1) (hC : P.cellsOf e = size) (h0 : 0 < size) (hlen : ∀ x, Ok x → (en x).length = size)
    (hel : ∀ n cs' y, DataW.trod enc P w 0 (fun _ => true) true n e cs' = some y → ∃ x, cs' = en x ∧ Ok x) (h : DataW.trod enc P w 0 (fun _ => true) true n t ((cs.drop o).take (P.cellsOf t)) = some y) :
    ∃ a c xs, cs[o]? = some (.slice a (List.length xs) c) ∧ RowAt en size w a xs ∧ xs.length ≤ c ∧ c ≤ maxLen ∧ ∀ x ∈ xs, Ok x := by
  rw [hce] at h
  rcases open_slice ht h with ⟨hcs, _⟩ | ⟨a, len, cap, m, n', D, Pl, hcs, _, hl, hx, hm, _, hrow⟩
  · have hc0 : cs[o]? = some (.slice none 0 0) := by
      have := congrArg (·[0]?) hcs
      simpa [List.getElem?_take, List.getElem?_drop] using this
    exact ⟨none, 0, [], hc0, fun k hk => absurd hk (Nat.not_lt_zero k), Nat.le_refl _, Nat.zero_le _, fun x hx => (List.not_mem_nil hx).elim⟩
  · have hc0 : cs[o]? = some (.slice (some a) len cap) := by
      have := congrArg (·[0]?) hcs
      simpa [List.getElem?_take, List.getElem?_drop] using this
    have hm' : m = cap := by simpa using hm
    have each : ∀ k, k < len → ∃ b o' x, some a = some (⟨b, o', none⟩ : Addr) ∧ w.rangeAt b (o' + k * size) (en x) ∧ Ok x := by
      intro k hk
      obtain ⟨cs', hcell, htr⟩ := hrow k (by omega)
      rw [hC] at hcell
      obtain ⟨_, hcl, hat⟩ := World.cells?_some hcell
      obtain ⟨x, rfl, hok⟩ := hel _ _ _ htr
      have hln := hlen x hok
      have hcell : ∀ j u, (en x)[j]? = some u → w.cell? ((a.add (k * size)).add j) = some u := fun j u hj => by
        have hj7 : j < size := by have := (List.getElem?_eq_some_iff.1 hj).1; omega
        rw [hat j hj7]; exact hj
      obtain ⟨b, o', spot⟩ := a
      have hspot : spot = none := by
        obtain ⟨cs2, hcell2, htr2⟩ := hrow 0 (by omega)
        rw [hC] at hcell2
        obtain ⟨_, _, hat2⟩ := World.cells?_some hcell2
        obtain ⟨x2, rfl, hok2⟩ := hel _ _ _ htr2
        have h7 := hat2 0 h0
        have hln2 := hlen x2 hok2
        rw [List.getElem?_eq_getElem (by omega)] at h7
        simpa [Addr.add] using World.cell?_spot h7
      subst hspot
      have hadd1 : ∀ o j, (⟨b, o, none⟩ : Addr).add j = ⟨b, o + j, none⟩ := fun o j => by unfold Addr.add; split <;> simp_all
      have hadd : ∀ j, ((⟨b, o', none⟩ : Addr).add (k * size)).add j = ⟨b, o' + k * size + j, none⟩ := fun j => by rw [hadd1, hadd1]
      exact ⟨b, o', x, rfl, fun j u hj => (hadd j) ▸ hcell j u hj, hok⟩
    have hch : ∃ X : Nat → α, ∀ k, k < len → ∃ b o', some a = some (⟨b, o', none⟩ : Addr) ∧ w.rangeAt b (o' + k * size) (en (X k)) ∧ Ok (X k) := by
      refine ⟨fun k => if hk : k < len then (each k hk).choose_spec.choose_spec.choose else default, fun k hk => ?_⟩
      simp only [hk, dif_pos]
      exact ⟨_, _, (each k hk).choose_spec.choose_spec.choose_spec⟩
    obtain ⟨X, hX⟩ := hch
    refine ⟨some a, cap, (List.range len).map X, by simp [hc0], fun k hk => ?_, by simpa using hl, hx, fun x hx => ?_⟩
    · have hk' : k < len := by simpa using hk
      obtain ⟨b, o', e1, e2, _⟩ := hX k hk'
      exact ⟨b, o', e1, by simpa using e2⟩
    · obtain ⟨k, hk, rfl⟩ := List.mem_map.1 hx
      obtain ⟨_, _, _, _, e3⟩ := hX k (by simpa using hk)
      exact e3
set_option maxRecDepth 100000 in
theorem open_model {r : Reach} {b0 : Nat} {v : Value} {d : DataW H} {p : List MemPlace} (hv : Value.okWide Tryd.prog w r b0 25 v) (h : DataW.Trod enc Tryd.prog w 0 (fun _ => true) true 25 v d p) : ∃ m, ArgM w v m := by
  obtain ⟨cs, rfl, hsz⟩ := okWide_struct Tryd.underlying25 hv
  obtain ⟨fuel, hf⟩ := h
  have hsz2 : cs.size = 2 := by rw [hsz]; kernel_rfl
  obtain ⟨n0, y0, r0⟩ := cTrod_field Tryd.underlying25 hf 0 _ rfl
  obtain ⟨n1, y1, r1⟩ := cTrod_field Tryd.underlying25 hf 1 _ rfl
  obtain ⟨a, c, xs, c0, hx, hx1, hx2, hxo⟩ := open_rows (en := Nm.list) (Ok := Nm.Ok) (size := 40) (t := 22) Tryd.underlying22 (by kernel_rfl) (by kernel_rfl) (by decide) (fun x hx => Nm.list_length hx.f) (fun n cs' y hy => by
    have hk := (Go.keyLits_of_trod 6 78 (by kernel_rfl) _ _ _ hy).1
    exact nm_of_keyLits (d := 4) (ts := 9) (tp := 42) (td := 57) (tb := 4) Tryd.underlying78 rfl Tryd.underlying9 (fun cs l hl => six_of_keyLits Tryd.underlying42 rfl Tryd.underlying3 (by kernel_rfl) (by kernel_rfl) hl) (fun cs l hl => bytes_of_keyLits Tryd.underlying57 Tryd.underlying5 (by kernel_rfl) (by kernel_rfl) hl) Tryd.underlying4 (by kernel_rfl) (by kernel_rfl) (by kernel_rfl) (by kernel_rfl) (by kernel_rfl) hk) r0
  obtain ⟨a', c', ys, c1, hy, hy1, hy2, hyo⟩ := open_rows (en := Vd.list) (Ok := Vd.Ok) (size := 3) (t := 23) Tryd.underlying23 (by kernel_rfl) (by kernel_rfl) (by decide) (fun x _ => rfl) (fun n cs' y hy => by
    have hk := (Go.keyLits_of_trod 6 79 (by kernel_rfl) _ _ _ hy).1
    exact vd_of_keyLits (d := 5) (i64 := 3) Tryd.underlying79 rfl Tryd.underlying3 (by kernel_rfl) (by kernel_rfl) hk) r1
  refine ⟨⟨xs, ys⟩, ⟨a, c, a', c', ?_, hx, hx1, hx2, hy, hy1, hy2⟩, hxo, hyo⟩
  simp only [Value.cells] at c0 c1
  congr 1
  apply Array.ext_getElem?
  intro i
  rcases (show i = 0 ∨ i = 1 ∨ 2 ≤ i from by omega) with rfl | rfl | hi
  · simpa using c0
  · simpa using c1
  · rw [Array.getElem?_eq_none (by omega), Array.getElem?_eq_none (by simpa using hi)]
end
end Go.Proofs.YtpehdoepcpmnbaaDoor
/- A row of records that comes in. -/
namespace Go.Proofs.YtpehdoepcpmnbaaDoor
open Go.RowKit Go.ChangeShapes Go.WideShapes Go.Deep
set_option linter.unusedVariables false

section
variable {H : Type} {enc : TypeId × Value → H} {w : World}
set_option maxRecDepth 100000 in
theorem open_rcs {r : Reach} {b0 : Nat} {v : Value} {d : DataW H} {p : List MemPlace} (hv : Value.okWide Tryd.prog w r b0 52 v) (h : DataW.Trod enc Tryd.prog w 0 (fun _ => true) true 52 v d p) :
    ∃ a c xs, v = .slice a (List.length xs) c ∧ RowAt Rc.list 78 w a xs ∧ ∀ x ∈ xs, x.Ok := by
  obtain ⟨a0, l0, c0, rfl⟩ := okWide_slice Tryd.underlying52 hv
  obtain ⟨fuel, hf⟩ := h
  haveI : Inhabited Rc := ⟨Rc.zero⟩
  have hc1 : Tryd.prog.cellsOf 52 = 1 := by kernel_rfl
  obtain ⟨a, c, xs, e0, hx, _, _, hok⟩ := open_rows (en := Rc.list) (Ok := Rc.Ok) (size := 78) (t := 52) (o := 0) (cs := [.slice a0 l0 c0]) Tryd.underlying52 hc1 (by kernel_rfl) (by decide) (fun x hx => Rc.len hx.root hx.file) (fun n cs' y hy => by
    have hk := (Go.keyLits_of_trod 6 59 (by kernel_rfl) _ _ _ hy).1
    exact rc_of_keyLits (d := 4) (i64 := 3) (ts := 9) (tp := 42) (td := 57) Tryd.underlying59 rfl Tryd.underlying3 Tryd.underlying9 (fun cs l hl => six_of_keyLits Tryd.underlying42 rfl Tryd.underlying3 (by kernel_rfl) (by kernel_rfl) hl) (fun cs l hl => bytes_of_keyLits Tryd.underlying57 Tryd.underlying5 (by kernel_rfl) (by kernel_rfl) hl) (by kernel_rfl) (by kernel_rfl) (by kernel_rfl) (by kernel_rfl) (by kernel_rfl) hk) (by rw [hc1]; exact hf)
  refine ⟨a, c, xs, ?_, hx, hok⟩
  simpa using e0
end
end Go.Proofs.YtpehdoepcpmnbaaDoor
