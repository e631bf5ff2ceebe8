/- Acts on a disk that come in: a slice of structs of seven numbers, three of them a struct; such a struct by value. -/
import Derived.Test.YtdgilgnaoifpcaaDoorKeepsL
import Derived.Test.YtdgilgnaoifpcaaDoorOpen6
import Derived.Deep.Slices
import Derived.Deep.Fields
import Derived.ChangeSame
namespace Go.Proofs.YtdgilgnaoifpcaaDoor
open Go.RowKit Go.ChangeShapes Go.WideShapes Go.Deep
section
variable {H : Type} {enc : TypeId × Value → H} {P : Program} {w : World} {base : Nat} {spare : Nat → Bool} {held : Bool}
theorem trod_field {t : TypeId} {fs : Array Field} {fuel : Nat} {cs : List Value} {x : DataW H × List MemPlace} (hs : P.underlying t = some (.struct fs)) (h : DataW.trod enc P w base spare held fuel t cs = some x) (j : Nat) (f : Field) (hj : fs[j]? = some f) : ∃ n y, DataW.trod enc P w base spare held n f.type ((cs.drop f.offset).take (P.cellsOf f.type)) = some y := by
  obtain ⟨xs, n, _, _, hl, hlen, hf⟩ := DataW.trod_struct hs h
  have hq := hf j f hj
  have hi : j < xs.length := by rw [hlen]; exact (Array.getElem?_eq_some_iff.1 hj).1
  rw [List.getElem?_eq_getElem hi] at hq
  exact ⟨n, _, hq⟩
theorem int_cell {e : TypeId} {k : IntKind} {n o : Nat} {cs : List Value} {y : DataW H × List MemPlace} (he : P.underlying e = some (.int k)) (hce : P.cellsOf e = 1) (h : DataW.trod enc P w base spare held n e ((cs.drop o).take (P.cellsOf e)) = some y) : ∃ z, cs[o]? = some (.int k z) ∧ (Lit.int k z).wf = true := by
  rw [hce] at h
  obtain ⟨z, hc, _, hw⟩ := DataW.trod_int he h
  refine ⟨z, ?_, hw⟩
  have := congrArg (·[0]?) hc
  simpa [Value.cells, List.getElem?_take, List.getElem?_drop] using this
theorem sub_cell {cs : List Value} {o s j : Nat} {u : Value} (h : ((cs.drop o).take s)[j]? = some u) : cs[o + j]? = some u := by
  rw [List.getElem?_take] at h
  split at h
  · rwa [List.getElem?_drop] at h
  · cases h
theorem wf64 {z : Int} (h : (Lit.int .i64 z).wf = true) : inI64 z := by simpa [inI64, Lit.wf, IntKind.min, IntKind.max, IntKind.signed, IntKind.bits] using h
theorem wfU64 {z : Int} (h : (Lit.int .u64 z).wf = true) : z = (z.toNat : Int) ∧ z.toNat < 18446744073709551616 := by
  have hx : 0 ≤ z ∧ z ≤ 18446744073709551615 := by simpa [Lit.wf, IntKind.min, IntKind.max, IntKind.signed, IntKind.bits] using h
  omega
/-- A crash in cells. -/
theorem crash_cells {tc i64 u64 : TypeId} {g0 g1 g2 : Field} {n : Nat} {cs : List Value} {y : DataW H × List MemPlace} (hc : P.underlying tc = some (.struct #[g0, g1, g2])) (ht : g0.type = i64 ∧ g1.type = i64 ∧ g2.type = u64) (ho : g0.offset = 0 ∧ g1.offset = 1 ∧ g2.offset = 2)
    (hi : P.underlying i64 = some (.int .i64)) (hu : P.underlying u64 = some (.int .u64)) (ci : P.cellsOf i64 = 1) (cu : P.cellsOf u64 = 1) (h : DataW.trod enc P w base spare held n tc cs = some y) :
    ∃ (kept torn : Int) (s : Nat), cs[0]? = some (.int .i64 kept) ∧ cs[1]? = some (.int .i64 torn) ∧ cs[2]? = some (.int .u64 (s : Int)) ∧ inI64 kept ∧ inI64 torn ∧ s < 18446744073709551616 := by
  obtain ⟨n0, y0, r0⟩ := trod_field hc h 0 g0 rfl
  obtain ⟨n1, y1, r1⟩ := trod_field hc h 1 g1 rfl
  obtain ⟨n2, y2, r2⟩ := trod_field hc h 2 g2 rfl
  rw [ht.1, ho.1] at r0
  rw [ht.2.1, ho.2.1] at r1
  rw [ht.2.2, ho.2.2] at r2
  obtain ⟨z0, c0, w0⟩ := int_cell hi ci r0
  obtain ⟨z1, c1, w1⟩ := int_cell hi ci r1
  obtain ⟨z2, c2, w2⟩ := int_cell hu cu r2
  obtain ⟨e2, l2⟩ := wfU64 w2
  exact ⟨z0, z1, z2.toNat, c0, c1, by rw [← e2]; exact c2, wf64 w0, wf64 w1, l2⟩
end
section
variable {H : Type} {enc : TypeId × Value → H} {P : Program} {w : World} {base : Nat} {spare : Nat → Bool} {held : Bool}
theorem open_crash {r : Reach} {b0 : Nat} {tc i64 u64 : TypeId} {g0 g1 g2 : Field} {v : Value} {d : DataW H} {p : List MemPlace} (hc : P.underlying tc = some (.struct #[g0, g1, g2])) (ht : g0.type = i64 ∧ g1.type = i64 ∧ g2.type = u64) (ho : g0.offset = 0 ∧ g1.offset = 1 ∧ g2.offset = 2)
    (hi : P.underlying i64 = some (.int .i64)) (hu : P.underlying u64 = some (.int .u64)) (ci : P.cellsOf i64 = 1) (cu : P.cellsOf u64 = 1) (hC : P.cellsOf tc = 3) (hv : Value.okWide P w r b0 tc v) (h : DataW.Trod enc P w base spare held tc v d p) :
    ∃ (kept torn : Int) (s : Nat), v = .agg #[.int .i64 kept, .int .i64 torn, .int .u64 (s : Int)] ∧ inI64 kept ∧ inI64 torn ∧ s < 18446744073709551616 := by
  obtain ⟨cs, rfl, hsz⟩ := okWide_struct hc hv
  obtain ⟨fuel, hf⟩ := h
  obtain ⟨kept, torn, s, c0, c1, c2, k⟩ := crash_cells hc ht ho hi hu ci cu hf
  simp only [Value.cells] at c0 c1 c2
  refine ⟨kept, torn, s, ?_, k⟩
  congr 1
  apply Array.ext_getElem?
  intro i
  rcases (show i = 0 ∨ i = 1 ∨ i = 2 ∨ 3 ≤ i from by omega) with rfl | rfl | rfl | hi
  · simpa using c0
  · simpa using c1
  · simpa using c2
  · rw [Array.getElem?_eq_none (by omega), Array.getElem?_eq_none (by simpa using hi)]
theorem open_actsD {t e tc i64 u64 : TypeId} {f0 f1 f2 f3 f4 g0 g1 g2 : Field} {v : Value} {d : DataW H} {p : List MemPlace} (ht : P.underlying t = some (.slice e)) (he : P.underlying e = some (.struct #[f0, f1, f2, f3, f4])) (hft : f0.type = i64 ∧ f1.type = i64 ∧ f2.type = i64 ∧ f3.type = tc ∧ f4.type = i64) (hfo : f0.offset = 0 ∧ f1.offset = 1 ∧ f2.offset = 2 ∧ f3.offset = 3 ∧ f4.offset = 6)
    (hc : P.underlying tc = some (.struct #[g0, g1, g2])) (hgt : g0.type = i64 ∧ g1.type = i64 ∧ g2.type = u64) (hgo : g0.offset = 0 ∧ g1.offset = 1 ∧ g2.offset = 2)
    (hi : P.underlying i64 = some (.int .i64)) (hu : P.underlying u64 = some (.int .u64)) (ci : P.cellsOf i64 = 1) (cu : P.cellsOf u64 = 1) (hC : P.cellsOf e = 7)
    (hv : ∃ a len cap, v = .slice a len cap) (h : DataW.Trod enc P w 0 (fun _ => true) true t v d p) : ∃ a cap xs, v = .slice a (List.length xs) cap ∧ ArgA w a xs := by
  obtain ⟨a0, len0, cap0, rfl⟩ := hv
  obtain ⟨fuel, hf⟩ := h
  rcases open_slice ht hf with ⟨hcs, _⟩ | ⟨a, len, cap, m, n, D, Pl, hcs, _, hl, _, hm, _, hrow⟩
  · simp [Value.cells] at hcs
    obtain ⟨rfl, rfl, rfl⟩ := hcs
    exact ⟨none, 0, [], rfl, ⟨fun k hk => absurd hk (Nat.not_lt_zero k)⟩⟩
  · simp [Value.cells] at hcs
    obtain ⟨rfl, rfl, rfl⟩ := hcs
    have hm' : m = cap0 := by simpa using hm
    have each : ∀ k, k < len0 → ∃ b o x, some a = some (⟨b, o, none⟩ : Addr) ∧ ActAt w b (o + k * 7) x := by
      intro k hk
      obtain ⟨cs, hcell, htr⟩ := hrow k (by omega)
      rw [hC] at hcell
      obtain ⟨_, hcl, hat⟩ := World.cells?_some hcell
      obtain ⟨n0, y0, r0⟩ := trod_field he htr 0 f0 rfl
      obtain ⟨n1, y1, r1⟩ := trod_field he htr 1 f1 rfl
      obtain ⟨n2, y2, r2⟩ := trod_field he htr 2 f2 rfl
      obtain ⟨n3, y3, r3⟩ := trod_field he htr 3 f3 rfl
      obtain ⟨n4, y4, r4⟩ := trod_field he htr 4 f4 rfl
      rw [hft.1, hfo.1] at r0
      rw [hft.2.1, hfo.2.1] at r1
      rw [hft.2.2.1, hfo.2.2.1] at r2
      rw [hft.2.2.2.1, hfo.2.2.2.1] at r3
      rw [hft.2.2.2.2, hfo.2.2.2.2] at r4
      obtain ⟨z0, c0, w0⟩ := int_cell hi ci r0
      obtain ⟨z1, c1, w1⟩ := int_cell hi ci r1
      obtain ⟨z2, c2, w2⟩ := int_cell hi ci r2
      obtain ⟨z6, c6, w6⟩ := int_cell hi ci r4
      obtain ⟨kept, torn, s, c3, c4, c5, k3, k4, k5⟩ := crash_cells hc hgt hgo hi hu ci cu r3
      replace c3 := sub_cell c3
      replace c4 := sub_cell c4
      replace c5 := sub_cell c5
      have hcell : ∀ j u, cs[j]? = some u → w.cell? ((a.add (k * 7)).add j) = some u := fun j u hj => by
        have hj7 : j < 7 := by have := (List.getElem?_eq_some_iff.1 hj).1; omega
        rw [hat j hj7]; exact hj
      obtain ⟨b, o, spot⟩ := a
      have hspot : spot = none := by
        obtain ⟨cs2, hcell2, htr2⟩ := hrow 0 (by omega)
        rw [hC] at hcell2
        obtain ⟨_, _, hat2⟩ := World.cells?_some hcell2
        have h7 := hat2 0 (by decide)
        obtain ⟨_, _, r20⟩ := trod_field he htr2 0 f0 rfl
        rw [hft.1, hfo.1] at r20
        obtain ⟨_, c20, _⟩ := int_cell hi ci r20
        rw [c20] at h7
        simpa [Addr.add] using World.cell?_spot h7
      subst hspot
      have hadd1 : ∀ o j, (⟨b, o, none⟩ : Addr).add j = ⟨b, o + j, none⟩ := fun o j => by unfold Addr.add; split <;> simp_all
      have hadd : ∀ j, ((⟨b, o, none⟩ : Addr).add (k * 7)).add j = ⟨b, o + k * 7 + j, none⟩ := fun j => by rw [hadd1, hadd1]
      have cc := fun j u hj => (hadd j) ▸ hcell j u hj
      exact ⟨b, o, ⟨z0, z1, z2, kept, torn, s, z6⟩, rfl, cc 0 _ c0, cc 1 _ c1, cc 2 _ c2, cc 3 _ c3, cc 4 _ c4, cc 5 _ c5, cc 6 _ c6, ⟨wf64 w0, wf64 w1, wf64 w2, k3, k4, k5, wf64 w6⟩⟩
    have hch : ∃ X : Nat → ActD, ∀ k, k < len0 → ∃ b o, some a = some (⟨b, o, none⟩ : Addr) ∧ ActAt w b (o + k * 7) (X k) := by
      refine ⟨fun k => if hk : k < len0 then (each k hk).choose_spec.choose_spec.choose else default, fun k hk => ?_⟩
      simp only [hk, dif_pos]
      exact ⟨_, _, (each k hk).choose_spec.choose_spec.choose_spec⟩
    obtain ⟨X, hX⟩ := hch
    refine ⟨some a, cap0, (List.range len0).map X, by simp, ⟨fun k hk => ?_⟩⟩
    have hk' : k < len0 := by simpa using hk
    obtain ⟨b, o, e, h1⟩ := hX k hk'
    exact ⟨b, o, e, by simpa using h1⟩
end
end Go.Proofs.YtdgilgnaoifpcaaDoor
