/- Acts that come in: a slice of structs of five numbers and a row of bytes, read out of memory. -/
import Derived.Test.YtejkajlbffkdnaaDoorActs
import Derived.Test.YtejkajlbffkdnaaDoorOpen5B
import Derived.Deep.Slices
import Derived.Deep.Fields
import Derived.ChangeSame
namespace Go.Proofs.YtejkajlbffkdnaaDoor
open Go.RowKit Go.ChangeShapes Go.WideShapes Go.Deep
section
variable {H : Type} {enc : TypeId × Value → H} {P : Program} {w : World} {base : Nat} {spare : Nat → Bool} {held : Bool}
theorem open_slice_fields {t e : TypeId} {fs : Array Field} {fuel : Nat} {cs : List Value} {x : DataW H × List MemPlace} (ht : P.underlying t = some (.slice e)) (he : P.underlying e = some (.struct fs))
    (hone : oneCellFields P fs = true) (hC : P.cellsOf e = fs.size) (h : DataW.trod enc P w base spare held fuel t cs = some x) :
    (cs = [.slice none 0 0] ∧ x = (.nil, [])) ∨
    ∃ (a : Addr) (len cap m : Nat) (D : Nat → DataW H) (Pl : Nat → List MemPlace), cs = [.slice (some a) len cap] ∧ base ≤ a.block ∧ len ≤ cap ∧ cap ≤ maxLen ∧ m = (if spare a.block then cap else len) ∧
      x = (.slice ((List.range len).map D) ((List.range (m - len)).map fun j => D (len + j)), MemPlace.row a (m * fs.size) ++ (List.range m).flatMap Pl) ∧
      ∀ i, i < m → ∃ (ys : List (DataW H × List MemPlace)) (n : Nat), D i = .agg (ys.map (·.1)) ∧ Pl i = ys.flatMap (·.2) ∧ ys.length = fs.size ∧
        ∀ (j : Nat) (f : Field), fs[j]? = some f → ∃ (v : Value) (y : DataW H × List MemPlace), w.cell? (a.add (i * fs.size + j)) = some v ∧ ys[j]? = some y ∧ DataW.trod enc P w base spare held n f.type [v] = some y := by
  rcases open_slice ht h with h0 | ⟨a, len, cap, m, n, D, Pl, hcs, hb, hl, hm, hmm, hx, hi⟩
  · exact .inl h0
  · refine .inr ⟨a, len, cap, m, D, Pl, hcs, hb, hl, hm, hmm, by rw [hC] at hx; exact hx, fun i him => ?_⟩
    obtain ⟨cs', hc, ht'⟩ := hi i him
    rw [hC] at hc
    obtain ⟨ys, n', hn', hy, hlen, hyl, hf⟩ := DataW.trod_struct he ht'
    obtain ⟨_, hcl, hat⟩ := World.cells?_some hc
    simp only [Prod.mk.injEq] at hy
    refine ⟨ys, n', hy.1, hy.2, hyl, fun j f hj => ?_⟩
    obtain ⟨ho, hk⟩ := hone_of hone j f hj
    have hjl : j < fs.size := (Array.getElem?_eq_some_iff.1 hj).1
    have hcell := hat j hjl
    have h1 := hf j f hj
    rw [ho, hk] at h1
    have hone' : (cs'.drop j).take 1 = [cs'[j]'(by omega)] := by
      rw [List.drop_eq_getElem_cons (by omega)]
      rfl
    rw [hone'] at h1
    have hys : ys[j]? = some (ys[j]'(by omega)) := List.getElem?_eq_getElem (by omega)
    refine ⟨_, _, ?_, hys, h1.trans hys⟩
    rw [← Go.Deep.add_add, hcell]
    exact List.getElem?_eq_getElem (by omega)
end
section
variable {H : Type} {enc : TypeId × Value → H} {P : Program} {w : World}
theorem u8_back {n : Int} (h : (Lit.int .u8 n).wf = true) : n = ((UInt8.ofNat n.toNat).toNat : Int) := (u8_of_wf h).symm
theorem open_acts {t e i8 i64 sl : TypeId} {fs : Array Field} {v : Value} {d : DataW H} {p : List MemPlace} (ht : P.underlying t = some (.slice e)) (he : P.underlying e = some (.struct fs)) (hfs : fs.map (·.type) = #[i64, i64, i64, i64, i8, sl])
    (h64 : P.underlying i64 = some (.int .i64)) (h8 : P.underlying i8 = some (.int .u8)) (hsl : P.underlying sl = some (.slice i8)) (hc8 : P.cellsOf i8 = 1) (hone : oneCellFields P fs = true) (hC : P.cellsOf e = fs.size)
    (hv : ∃ a len cap, v = .slice a len cap) (h : DataW.Trod enc P w 0 (fun _ => true) true t v d p) : ∃ a cap xs, v = .slice a (List.length xs) cap ∧ ArgA w a xs := by
  obtain ⟨a0, len0, cap0, rfl⟩ := hv
  obtain ⟨fuel, hf⟩ := h
  have h6 : fs.size = 6 := by have := congrArg Array.size hfs; simpa using this
  have hty : ∀ j, j < 6 → ∃ f, fs[j]? = some f ∧ (#[i64, i64, i64, i64, i8, sl] : Array TypeId)[j]? = some f.type := fun j hj => by
    refine ⟨fs[j]'(by omega), Array.getElem?_eq_getElem (by omega), ?_⟩
    rw [← hfs]; simp [h6, hj]
  rcases open_slice_fields ht he hone hC hf with ⟨hcs, _⟩ | ⟨a, len, cap, m, D, Pl, hcs, _, hl, _, hm, _, hrow⟩
  · simp [Value.cells] at hcs
    obtain ⟨rfl, rfl, rfl⟩ := hcs
    exact ⟨none, 0, [], rfl, ⟨fun k hk => absurd hk (Nat.not_lt_zero k)⟩⟩
  · simp [Value.cells] at hcs
    obtain ⟨rfl, rfl, rfl⟩ := hcs
    have hm' : m = cap0 := by simpa using hm
    have each : ∀ k, k < len0 → ∃ b o x, some a = some (⟨b, o, none⟩ : Addr) ∧ ActAt w b (o + k * 6) x := by
      intro k hk
      obtain ⟨ys, n, _, _, _, hcell⟩ := hrow k (by omega)
      obtain ⟨f0, g0, t0⟩ := hty 0 (by omega)
      obtain ⟨f1, g1, t1⟩ := hty 1 (by omega)
      obtain ⟨f2, g2, t2⟩ := hty 2 (by omega)
      obtain ⟨f3, g3, t3⟩ := hty 3 (by omega)
      obtain ⟨f4, g4, t4⟩ := hty 4 (by omega)
      obtain ⟨f5, g5, t5⟩ := hty 5 (by omega)
      have e0 : i64 = f0.type := by simpa using t0
      have e1 : i64 = f1.type := by simpa using t1
      have e2 : i64 = f2.type := by simpa using t2
      have e3 : i64 = f3.type := by simpa using t3
      have e4 : i8 = f4.type := by simpa using t4
      have e5 : sl = f5.type := by simpa using t5
      obtain ⟨v0, y0, c0, _, r0⟩ := hcell 0 f0 g0
      obtain ⟨v1, y1, c1, _, r1⟩ := hcell 1 f1 g1
      obtain ⟨v2, y2, c2, _, r2⟩ := hcell 2 f2 g2
      obtain ⟨v3, y3, c3, _, r3⟩ := hcell 3 f3 g3
      obtain ⟨v4, y4, c4, _, r4⟩ := hcell 4 f4 g4
      obtain ⟨v5, y5, c5, _, r5⟩ := hcell 5 f5 g5
      rw [← e0] at r0; rw [← e1] at r1; rw [← e2] at r2; rw [← e3] at r3; rw [← e4] at r4; rw [← e5] at r5
      obtain ⟨n0, q0, _, _⟩ := DataW.trod_int h64 r0
      obtain ⟨n1, q1, _, _⟩ := DataW.trod_int h64 r1
      obtain ⟨n2, q2, _, _⟩ := DataW.trod_int h64 r2
      obtain ⟨n3, q3, _, _⟩ := DataW.trod_int h64 r3
      obtain ⟨n4, q4, _, hw4⟩ := DataW.trod_int h8 r4
      obtain ⟨ab, cb, bs, q5, hab⟩ := argB_of_trod (d := y5.1) (p := y5.2) hsl h8 hc8 r5
      cases q0; cases q1; cases q2; cases q3; cases q4; cases q5
      obtain ⟨b, o, spot⟩ := a
      have hspot : spot = none := by
        obtain ⟨ys', n', _, _, _, hcell'⟩ := hrow 0 (by omega)
        obtain ⟨v', y', c', _⟩ := hcell' 0 f0 g0
        simpa [Addr.add] using World.cell?_spot c'
      subst hspot
      have hadd : ∀ j, (⟨b, o, none⟩ : Addr).add (k * fs.size + j) = ⟨b, o + k * 6 + j, none⟩ := fun j => by
        rw [h6]; unfold Addr.add; split <;> simp_all <;> omega
      rw [hadd] at c0 c1 c2 c3 c4 c5
      exact ⟨b, o, ⟨n0, n1, n2, n3, UInt8.ofNat n4.toNat, ab, cb, bs⟩, rfl, c0, c1, c2, c3, by rw [c4, ← u8_back hw4], c5, hab⟩
    have hch : ∃ X : Nat → ActV, ∀ k, k < len0 → ∃ b o, some a = some (⟨b, o, none⟩ : Addr) ∧ ActAt w b (o + k * 6) (X k) := by
      refine ⟨fun k => if hk : k < len0 then (each k hk).choose_spec.choose_spec.choose else default, fun k hk => ?_⟩
      simp only [hk, dif_pos]
      exact ⟨_, _, (each k hk).choose_spec.choose_spec.choose_spec⟩
    obtain ⟨X, hX⟩ := hch
    refine ⟨some a, cap0, (List.range len0).map X, by simp, ⟨fun k hk => ?_⟩⟩
    have hk' : k < len0 := by simpa using hk
    obtain ⟨b, o, e, h1⟩ := hX k hk'
    exact ⟨b, o, e, by simpa using h1⟩
end
end Go.Proofs.YtejkajlbffkdnaaDoor
