/- OpenM, Ac. -/
import Derived.Test.YtndgacjfkoliaaaDoorF3PlaysSaid34
import Derived.Test.YtndgacjfkoliaaaDoorF20PlaysSaid34
import Derived.MapViews
/- A model that comes in by value. -/
namespace Go.Proofs.YtndgacjfkoliaaaDoor
open Go.RowKit Go.ChangeShapes Go.WideShapes Go.Deep

section
variable {H : Type} {enc : TypeId × Value → H} {P : Program} {w : World}
theorem open_rows {α : Type} [Inhabited α] {en : α → List Value} {Ok : α → Prop} {size : Nat} {t e : TypeId} {n o : Nat} {cs : List Value} {y : DataW H × List MemPlace} (ht : P.underlying t = some (.slice e)) (hce : P.cellsOf t = 1) (hC : P.cellsOf e = size) (h0 : 0 < size) (hlen : ∀ x, Ok x → (en x).length = size)
    (hel : ∀ n cs' y, DataW.trod enc P w 0 (fun _ => true) true n e cs' = some y → ∃ x, cs' = en x ∧ Ok x) (h : DataW.trod enc P w 0 (fun _ => true) true n t ((cs.drop o).take (P.cellsOf t)) = some y) :
    ∃ a c xs, cs[o]? = some (.slice a (List.length xs) c) ∧ RowAt en size w a xs ∧ xs.length ≤ c ∧ c ≤ maxLen ∧ ∀ x ∈ xs, Ok x := by
  rw [hce] at h
  rcases open_slice ht h with ⟨hcs, _⟩ | ⟨a, len, cap, m, n', D, Pl, hcs, _, hl, hx, hm, _, hrow⟩
  · have hc0 : cs[o]? = some (.slice none 0 0) := by
      have := congrArg (·[0]?) hcs
      simpa [List.getElem?_take, List.getElem?_drop] using this
    exact ⟨none, 0, [], hc0, fun k hk => absurd hk (Nat.not_lt_zero k), Nat.le_refl _, Nat.zero_le _, fun x hx => (List.not_mem_nil hx).elim⟩
  · have hc0 : cs[o]? = some (.slice (some a) len cap) := by
      have := congrArg (·[0]?) hcs
      simpa [List.getElem?_take, List.getElem?_drop] using this
    have hm' : m = cap := by simpa using hm
    have each : ∀ k, k < len → ∃ b o' x, some a = some (⟨b, o', none⟩ : Addr) ∧ w.rangeAt b (o' + k * size) (en x) ∧ Ok x := by
      intro k hk
      obtain ⟨cs', hcell, htr⟩ := hrow k (by omega)
      rw [hC] at hcell
      obtain ⟨_, hcl, hat⟩ := World.cells?_some hcell
      obtain ⟨x, rfl, hok⟩ := hel _ _ _ htr
      have hln := hlen x hok
      have hcell : ∀ j u, (en x)[j]? = some u → w.cell? ((a.add (k * size)).add j) = some u := fun j u hj => by
        have hj7 : j < size := by have := (List.getElem?_eq_some_iff.1 hj).1; omega
        rw [hat j hj7]; exact hj
      obtain ⟨b, o', spot⟩ := a
      have hspot : spot = none := by
        obtain ⟨cs2, hcell2, htr2⟩ := hrow 0 (by omega)
        rw [hC] at hcell2
        obtain ⟨_, _, hat2⟩ := World.cells?_some hcell2
        obtain ⟨x2, rfl, hok2⟩ := hel _ _ _ htr2
        have h7 := hat2 0 h0
        have hln2 := hlen x2 hok2
        rw [List.getElem?_eq_getElem (by omega)] at h7
        simpa [Addr.add] using World.cell?_spot h7
      subst hspot
      have hadd1 : ∀ o j, (⟨b, o, none⟩ : Addr).add j = ⟨b, o + j, none⟩ := fun o j => by unfold Addr.add; split <;> simp_all
      have hadd : ∀ j, ((⟨b, o', none⟩ : Addr).add (k * size)).add j = ⟨b, o' + k * size + j, none⟩ := fun j => by rw [hadd1, hadd1]
      exact ⟨b, o', x, rfl, fun j u hj => (hadd j) ▸ hcell j u hj, hok⟩
    have hch : ∃ X : Nat → α, ∀ k, k < len → ∃ b o', some a = some (⟨b, o', none⟩ : Addr) ∧ w.rangeAt b (o' + k * size) (en (X k)) ∧ Ok (X k) := by
      refine ⟨fun k => if hk : k < len then (each k hk).choose_spec.choose_spec.choose else default, fun k hk => ?_⟩
      simp only [hk, dif_pos]
      exact ⟨_, _, (each k hk).choose_spec.choose_spec.choose_spec⟩
    obtain ⟨X, hX⟩ := hch
    refine ⟨some a, cap, (List.range len).map X, by simp [hc0], fun k hk => ?_, by simpa using hl, hx, fun x hx => ?_⟩
    · have hk' : k < len := by simpa using hk
      obtain ⟨b, o', e1, e2, _⟩ := hX k hk'
      exact ⟨b, o', e1, by simpa using e2⟩
    · obtain ⟨k, hk, rfl⟩ := List.mem_map.1 hx
      obtain ⟨_, _, _, _, e3⟩ := hX k (by simpa using hk)
      exact e3
set_option maxRecDepth 100000 in
theorem open_model {r : Reach} {b0 : Nat} {v : Value} {d : DataW H} {p : List MemPlace} (hv : Value.okWide Tryd.prog w r b0 28 v) (h : DataW.Trod enc Tryd.prog w 0 (fun _ => true) true 28 v d p) : ∃ m, ArgM w v m := by
  obtain ⟨cs, rfl, hsz⟩ := okWide_struct Tryd.underlying28 hv
  obtain ⟨fuel, hf⟩ := h
  have hsz2 : cs.size = 2 := by rw [hsz]; kernel_rfl
  obtain ⟨n0, y0, r0⟩ := cTrod_field Tryd.underlying28 hf 0 _ rfl
  obtain ⟨n1, y1, r1⟩ := cTrod_field Tryd.underlying28 hf 1 _ rfl
  obtain ⟨a, c, xs, c0, hx, hx1, hx2, hxo⟩ := open_rows (en := Nm.list) (Ok := Nm.Ok) (size := 40) (t := 25) Tryd.underlying25 (by kernel_rfl) (by kernel_rfl) (by decide) (fun x hx => Nm.list_length hx.f) (fun n cs' y hy => by
    have hk := (Go.keyLits_of_trod 6 69 (by kernel_rfl) _ _ _ hy).1
    exact nm_of_keyLits (d := 4) (ts := 9) (tp := 34) (td := 53) (tb := 4) Tryd.underlying69 rfl Tryd.underlying9 (fun cs l hl => six_of_keyLits Tryd.underlying34 rfl Tryd.underlying3 (by kernel_rfl) (by kernel_rfl) hl) (fun cs l hl => bytes_of_keyLits Tryd.underlying53 Tryd.underlying5 (by kernel_rfl) (by kernel_rfl) hl) Tryd.underlying4 (by kernel_rfl) (by kernel_rfl) (by kernel_rfl) (by kernel_rfl) (by kernel_rfl) hk) r0
  obtain ⟨a', c', ys, c1, hy, hy1, hy2, hyo⟩ := open_rows (en := Vd.list) (Ok := Vd.Ok) (size := 3) (t := 26) Tryd.underlying26 (by kernel_rfl) (by kernel_rfl) (by decide) (fun x _ => rfl) (fun n cs' y hy => by
    have hk := (Go.keyLits_of_trod 6 70 (by kernel_rfl) _ _ _ hy).1
    exact vd_of_keyLits (d := 5) (i64 := 3) Tryd.underlying70 rfl Tryd.underlying3 (by kernel_rfl) (by kernel_rfl) hk) r1
  refine ⟨⟨xs, ys⟩, ⟨a, c, a', c', ?_, hx, hx1, hx2, hy, hy1, hy2⟩, hxo, hyo⟩
  simp only [Value.cells] at c0 c1
  congr 1
  apply Array.ext_getElem?
  intro i
  rcases (show i = 0 ∨ i = 1 ∨ 2 ≤ i from by omega) with rfl | rfl | hi
  · simpa using c0
  · simpa using c1
  · rw [Array.getElem?_eq_none (by omega), Array.getElem?_eq_none (by simpa using hi)]
end
end Go.Proofs.YtndgacjfkoliaaaDoor
/- An act on a model (baileelaw34.Act), and a row of them that comes in. -/
namespace Go.Proofs.YtndgacjfkoliaaaDoor
open Go.RowKit Go.ChangeShapes Go.WideShapes Go.Deep
set_option linter.unusedSimpArgs false
set_option linter.unusedVariables false

structure Ac where
  k : Int
  n : Int
  w : Int
  z : Int
  s : ByteArray
  p : P6
  f : List UInt8
instance : Inhabited Ac := ⟨⟨0, 0, 0, 0, ByteArray.empty, ⟨0, 0, 0, 0, 0, 0⟩, List.replicate 32 0⟩⟩
def Ac.list (x : Ac) : List Value := [.int .i64 x.k, .int .i64 x.n, .int .i64 x.w, .int .i64 x.z, .string x.s] ++ (x.p.list ++ cB x.f)
structure Ac.Ok (x : Ac) : Prop where
  k : inI x.k
  n : inI x.n
  w : inI x.w
  z : inI x.z
  s : x.s.size ≤ maxLen
  p : x.p.Ok
  f : x.f.length = 32
theorem Ac.plen (p : P6) : p.list.length = 6 := rfl
theorem Ac.len {x : Ac} (h : x.f.length = 32) : x.list.length = 43 := by simp [Ac.list, Ac.plen, cB_length, h]
theorem Ac.size {x : Ac} (h : x.Ok) : x.list.toArray.size = 43 := by rw [List.size_toArray, Ac.len h.f]
theorem Ac.one (x : Ac) : ∀ u ∈ x.list, u.oneCell' = true := by
  intro u hu
  simp only [Ac.list, List.mem_append, List.mem_cons, List.not_mem_nil, or_false] at hu
  rcases hu with (rfl | rfl | rfl | rfl | rfl) | h | h
  · rfl
  · rfl
  · rfl
  · rfl
  · rfl
  · simp only [P6.list, List.mem_cons, List.not_mem_nil, or_false] at h
    rcases h with rfl | rfl | rfl | rfl | rfl | rfl <;> rfl
  · exact cB_one _ u h
theorem Ac.all_one (x : Ac) : x.list.toArray.all (·.oneCell') = true := by
  rw [Array.all_eq_true]
  intro i hi
  exact Ac.one x _ (by simp)
theorem Ac.sub_p (x : Ac) : (x.list.drop 5).take 6 = x.p.list := by
  have e : x.list = [.int .i64 x.k, .int .i64 x.n, .int .i64 x.w, .int .i64 x.z, .string x.s] ++ (x.p.list ++ cB x.f) := rfl
  rw [e, List.drop_append_of_le_length (by simp), List.drop_of_length_le (by simp), List.nil_append]
  exact List.take_left' (Ac.plen _)
theorem Ac.sub_f {x : Ac} (h : x.f.length = 32) : (x.list.drop 11).take 32 = cB x.f := by
  have e : x.list = ([.int .i64 x.k, .int .i64 x.n, .int .i64 x.w, .int .i64 x.z, .string x.s] ++ x.p.list) ++ cB x.f := by simp [Ac.list]
  rw [e, List.drop_left' (by simp [Ac.plen]), List.take_of_length_le (by rw [cB_length, h]; exact Nat.le_refl _)]
section
variable {P : Program}
theorem ac_of_keyLits {d : Nat} {t ts tp td i64 : TypeId} {f0 f1 f2 f3 f4 f5 f6 : Field} {cs : List Value} {l : List Lit} (ht : P.underlying t = some (.struct #[f0, f1, f2, f3, f4, f5, f6])) (hq : [f0, f1, f2, f3, f4, f5, f6].map (fun f => (f.type, f.offset)) = [(i64, 0), (i64, 1), (i64, 2), (i64, 3), (ts, 4), (tp, 5), (td, 11)])
    (hi : P.underlying i64 = some (.int .i64)) (hs : P.underlying ts = some .string) (hp : ∀ cs l, P.keyLits (d + 1) tp cs = some l → ∃ p : P6, cs = p.list ∧ p.Ok) (hd : ∀ cs l, P.keyLits (d + 1) td cs = some l → ∃ f : List UInt8, cs = cB f ∧ f.length = 32)
    (ci : P.cellsOf i64 = 1) (cns : P.cellsOf ts = 1) (cp : P.cellsOf tp = 6) (cd : P.cellsOf td = 32) (ct : P.cellsOf t = 43) (h : P.keyLits (d + 2) t cs = some l) : ∃ x : Ac, cs = x.list ∧ x.Ok := by
  obtain ⟨hl, hf⟩ := keyLits_struct ht h
  rw [ct] at hl
  simp only [List.map_cons, List.map_nil, List.cons.injEq, Prod.mk.injEq, and_true] at hq
  obtain ⟨⟨a0, b0⟩, ⟨a1, b1⟩, ⟨a2, b2⟩, ⟨a3, b3⟩, ⟨a4, b4⟩, ⟨a5, b5⟩, ⟨a6, b6⟩⟩ := hq
  have cell : ∀ (o : Nat) (f : Field) (i : Nat), (#[f0, f1, f2, f3, f4, f5, f6] : Array Field)[i]? = some f → f.type = i64 → f.offset = o → ∃ n, (cs.drop o).take 1 = [.int .i64 n] ∧ inI n := fun o f i hg ht' ho => by
    obtain ⟨lf, h1⟩ := hf i f hg
    rw [ht', ho, ci] at h1
    obtain ⟨n, e1, e2⟩ := keyLits_int' hi h1
    refine ⟨n, e1, ?_⟩
    rw [e1] at h1
    unfold Program.keyLits at h1
    simp only [hi] at h1
    split at h1
    · next hh => exact wf_inI hh.2
    · cases h1
  obtain ⟨n0, e0, w0⟩ := cell 0 f0 0 rfl a0 b0
  obtain ⟨n1, e1, w1⟩ := cell 1 f1 1 rfl a1 b1
  obtain ⟨n2, e2, w2⟩ := cell 2 f2 2 rfl a2 b2
  obtain ⟨n3, e3, w3⟩ := cell 3 f3 3 rfl a3 b3
  obtain ⟨l4, h4⟩ := hf 4 f4 rfl
  obtain ⟨l5, h5⟩ := hf 5 f5 rfl
  obtain ⟨l6, h6⟩ := hf 6 f6 rfl
  rw [a4, b4, cns] at h4
  rw [a5, b5, cp] at h5
  rw [a6, b6, cd] at h6
  obtain ⟨s, e4, _⟩ := keyLits_string' hs h4
  obtain ⟨p, e5, w5⟩ := hp _ _ h5
  obtain ⟨f, e6, w6⟩ := hd _ _ h6
  have ws : s.size ≤ maxLen := by
    rw [e4] at h4
    unfold Program.keyLits at h4
    simp only [hs] at h4
    split at h4
    · next hh => exact hh
    · cases h4
  refine ⟨⟨n0, n1, n2, n3, s, p, f⟩, ?_, w0, w1, w2, w3, ws, w5, w6⟩
  have e := split_eq e0
  rw [List.drop_zero, split_eq e1, split_eq e2, split_eq e3, split_eq e4, split_eq e5, split_eq e6, List.drop_of_length_le (i := 11 + 32) (by omega)] at e
  rw [e]
  simp [Ac.list]
end
section
variable {H : Type} {enc : TypeId × Value → H} {w : World}
set_option maxRecDepth 100000 in
theorem open_acs {r : Reach} {b0 : Nat} {v : Value} {d : DataW H} {p : List MemPlace} (hv : Value.okWide Tryd.prog w r b0 22 v) (h : DataW.Trod enc Tryd.prog w 0 (fun _ => true) true 22 v d p) :
    ∃ a c xs, v = .slice a (List.length xs) c ∧ RowAt Ac.list 43 w a xs ∧ ∀ x ∈ xs, x.Ok := by
  obtain ⟨a0, l0, c0, rfl⟩ := okWide_slice Tryd.underlying22 hv
  obtain ⟨fuel, hf⟩ := h
  have hc1 : Tryd.prog.cellsOf 22 = 1 := by kernel_rfl
  obtain ⟨a, c, xs, e0, hx, _, _, hok⟩ := open_rows (en := Ac.list) (Ok := Ac.Ok) (size := 43) (t := 22) (o := 0) (cs := [.slice a0 l0 c0]) Tryd.underlying22 hc1 (by kernel_rfl) (by decide) (fun x hx => Ac.len hx.f) (fun n cs' y hy => by
    have hk := (Go.keyLits_of_trod 6 37 (by kernel_rfl) _ _ _ hy).1
    exact ac_of_keyLits (d := 4) (i64 := 3) (ts := 9) (tp := 34) (td := 35) Tryd.underlying37 rfl Tryd.underlying3 Tryd.underlying9 (fun cs l hl => six_of_keyLits Tryd.underlying34 rfl Tryd.underlying3 (by kernel_rfl) (by kernel_rfl) hl) (fun cs l hl => bytes_of_keyLits Tryd.underlying35 Tryd.underlying5 (by kernel_rfl) (by kernel_rfl) hl) (by kernel_rfl) (by kernel_rfl) (by kernel_rfl) (by kernel_rfl) (by kernel_rfl) hk) (by rw [hc1]; exact hf)
  refine ⟨a, c, xs, ?_, hx, hok⟩
  simpa using e0
end
end Go.Proofs.YtndgacjfkoliaaaDoor
