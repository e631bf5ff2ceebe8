/- Acts on a journal that come in: a slice of structs of two numbers, a row of bytes and a crash; the walk over Long. -/
import Derived.Test.YtgkddegaiaeckaaDoorF30SafeSaid
import Derived.Test.YtgkddegaiaeckaaDoorF40SafeSaid
namespace Go.Proofs.YtgkddegaiaeckaaDoor
open Go.RowKit Go.ChangeShapes Go.WideShapes Go.Deep

structure ActJ where
  kind : Int
  n : Int
  a : Option Addr
  c : Nat
  r : List UInt8
  kept : Int
  torn : Int
  scat : Nat
instance : Inhabited ActJ := ⟨⟨0, 0, none, 0, [], 0, 0, 0⟩⟩
abbrev in64 (x : Int) : Prop := -9223372036854775808 ≤ x ∧ x ≤ 9223372036854775807
structure ActJAt (w : World) (b o : Nat) (x : ActJ) : Prop where
  c0 : w.cell? ⟨b, o, none⟩ = some (.int .i64 x.kind)
  c1 : w.cell? ⟨b, o + 1, none⟩ = some (.int .i64 x.n)
  c2 : w.cell? ⟨b, o + 2, none⟩ = some (.slice x.a x.r.length x.c)
  c3 : w.cell? ⟨b, o + 3, none⟩ = some (.int .i64 x.kept)
  c4 : w.cell? ⟨b, o + 4, none⟩ = some (.int .i64 x.torn)
  c5 : w.cell? ⟨b, o + 5, none⟩ = some (.int .u64 (x.scat : Int))
  arg : ArgB w x.a x.c x.r
  kind : in64 x.kind
  n : in64 x.n
  kept : in64 x.kept
  torn : in64 x.torn
  scat : x.scat < 18446744073709551616
theorem ActJAt.below {w w' : World} {b o : Nat} {x : ActJ} (h : ActJAt w b o x) (hb : Below w.heap.size w w') : ActJAt w' b o x := by
  have hlt := World.block_lt_of_cell? w _ h.c0
  simp only at hlt
  exact ⟨(hb.cell (p := ⟨b, _, none⟩) hlt).trans h.c0, (hb.cell (p := ⟨b, _, none⟩) hlt).trans h.c1, (hb.cell (p := ⟨b, _, none⟩) hlt).trans h.c2, (hb.cell (p := ⟨b, _, none⟩) hlt).trans h.c3, (hb.cell (p := ⟨b, _, none⟩) hlt).trans h.c4, (hb.cell (p := ⟨b, _, none⟩) hlt).trans h.c5, h.arg.below hb, h.kind, h.n, h.kept, h.torn, h.scat⟩
structure ArgJ (w : World) (a : Option Addr) (xs : List ActJ) : Prop where
  row : ∀ k (h : k < xs.length), ∃ b o, a = some ⟨b, o, none⟩ ∧ ActJAt w b (o + k * 6) xs[k]
theorem ArgJ.below {w w' : World} {a : Option Addr} {xs : List ActJ} (h : ArgJ w a xs) (hb : Below w.heap.size w w') : ArgJ w' a xs :=
  ⟨fun k hk => by obtain ⟨b, o, e, h1⟩ := h.row k hk; exact ⟨b, o, e, h1.below hb⟩⟩

section
variable {H : Type} {enc : TypeId × Value → H} {P : Program} {w : World}
/-- A crash in cells. -/
theorem cCrash_cells {base : Nat} {spare : Nat → Bool} {held : Bool} {tc i64 u64 : TypeId} {g0 g1 g2 : Field} {n : Nat} {cs : List Value} {y : DataW H × List MemPlace} (hc : P.underlying tc = some (.struct #[g0, g1, g2])) (ht : g0.type = i64 ∧ g1.type = i64 ∧ g2.type = u64) (ho : g0.offset = 0 ∧ g1.offset = 1 ∧ g2.offset = 2)
    (hi : P.underlying i64 = some (.int .i64)) (hu : P.underlying u64 = some (.int .u64)) (ci : P.cellsOf i64 = 1) (cu : P.cellsOf u64 = 1) (h : DataW.trod enc P w base spare held n tc cs = some y) :
    ∃ (kept torn : Int) (s : Nat), cs[0]? = some (.int .i64 kept) ∧ cs[1]? = some (.int .i64 torn) ∧ cs[2]? = some (.int .u64 (s : Int)) ∧ in64 kept ∧ in64 torn ∧ s < 18446744073709551616 := by
  obtain ⟨n0, y0, r0⟩ := cTrod_field hc h 0 g0 rfl
  obtain ⟨n1, y1, r1⟩ := cTrod_field hc h 1 g1 rfl
  obtain ⟨n2, y2, r2⟩ := cTrod_field hc h 2 g2 rfl
  rw [ht.1, ho.1] at r0
  rw [ht.2.1, ho.2.1] at r1
  rw [ht.2.2, ho.2.2] at r2
  obtain ⟨z0, c0, w0⟩ := cInt_cell hi ci r0
  obtain ⟨z1, c1, w1⟩ := cInt_cell hi ci r1
  obtain ⟨z2, c2, w2⟩ := cInt_cell hu cu r2
  obtain ⟨e2, l2⟩ := cWfU64 w2
  exact ⟨z0, z1, z2.toNat, c0, c1, by rw [← e2]; exact c2, cWf64 w0, cWf64 w1, l2⟩
theorem open_crashJ {r : Reach} {b0 base : Nat} {spare : Nat → Bool} {held : Bool} {tc i64 u64 : TypeId} {g0 g1 g2 : Field} {v : Value} {d : DataW H} {p : List MemPlace} (hc : P.underlying tc = some (.struct #[g0, g1, g2])) (ht : g0.type = i64 ∧ g1.type = i64 ∧ g2.type = u64) (ho : g0.offset = 0 ∧ g1.offset = 1 ∧ g2.offset = 2)
    (hi : P.underlying i64 = some (.int .i64)) (hu : P.underlying u64 = some (.int .u64)) (ci : P.cellsOf i64 = 1) (cu : P.cellsOf u64 = 1) (hC : P.cellsOf tc = 3) (hv : Value.okWide P w r b0 tc v) (h : DataW.Trod enc P w base spare held tc v d p) :
    ∃ (kept torn : Int) (s : Nat), v = .agg #[.int .i64 kept, .int .i64 torn, .int .u64 (s : Int)] ∧ in64 kept ∧ in64 torn ∧ s < 18446744073709551616 := by
  obtain ⟨cs, rfl, hsz⟩ := okWide_struct hc hv
  obtain ⟨fuel, hf⟩ := h
  obtain ⟨kept, torn, s, c0, c1, c2, k⟩ := cCrash_cells hc ht ho hi hu ci cu hf
  simp only [Value.cells] at c0 c1 c2
  refine ⟨kept, torn, s, ?_, k⟩
  congr 1
  apply Array.ext_getElem?
  intro i
  rcases (show i = 0 ∨ i = 1 ∨ i = 2 ∨ 3 ≤ i from by omega) with rfl | rfl | rfl | hi
  · simpa using c0
  · simpa using c1
  · simpa using c2
  · rw [Array.getElem?_eq_none (by omega), Array.getElem?_eq_none (by simpa using hi)]
theorem open_actsJ {t e tc i64 u64 sl u8 : TypeId} {f0 f1 f2 f3 g0 g1 g2 : Field} {v : Value} {d : DataW H} {p : List MemPlace} (ht : P.underlying t = some (.slice e)) (he : P.underlying e = some (.struct #[f0, f1, f2, f3])) (hft : f0.type = i64 ∧ f1.type = i64 ∧ f2.type = sl ∧ f3.type = tc) (hfo : f0.offset = 0 ∧ f1.offset = 1 ∧ f2.offset = 2 ∧ f3.offset = 3)
    (hc : P.underlying tc = some (.struct #[g0, g1, g2])) (hgt : g0.type = i64 ∧ g1.type = i64 ∧ g2.type = u64) (hgo : g0.offset = 0 ∧ g1.offset = 1 ∧ g2.offset = 2)
    (hi : P.underlying i64 = some (.int .i64)) (hu : P.underlying u64 = some (.int .u64)) (hs : P.underlying sl = some (.slice u8)) (h8 : P.underlying u8 = some (.int .u8)) (ci : P.cellsOf i64 = 1) (cu : P.cellsOf u64 = 1) (c8 : P.cellsOf u8 = 1) (cs8 : P.cellsOf sl = 1) (hC : P.cellsOf e = 6)
    (hv : ∃ a len cap, v = .slice a len cap) (h : DataW.Trod enc P w 0 (fun _ => true) true t v d p) : ∃ a cap xs, v = .slice a (List.length xs) cap ∧ ArgJ w a xs := by
  obtain ⟨a0, len0, cap0, rfl⟩ := hv
  obtain ⟨fuel, hf⟩ := h
  rcases open_slice ht hf with ⟨hcs, _⟩ | ⟨a, len, cap, m, n, D, Pl, hcs, _, hl, _, hm, _, hrow⟩
  · simp [Value.cells] at hcs
    obtain ⟨rfl, rfl, rfl⟩ := hcs
    exact ⟨none, 0, [], rfl, ⟨fun k hk => absurd hk (Nat.not_lt_zero k)⟩⟩
  · simp [Value.cells] at hcs
    obtain ⟨rfl, rfl, rfl⟩ := hcs
    have hm' : m = cap0 := by simpa using hm
    have each : ∀ k, k < len0 → ∃ b o x, some a = some (⟨b, o, none⟩ : Addr) ∧ ActJAt w b (o + k * 6) x := by
      intro k hk
      obtain ⟨cs, hcell, htr⟩ := hrow k (by omega)
      rw [hC] at hcell
      obtain ⟨_, hcl, hat⟩ := World.cells?_some hcell
      obtain ⟨n0, y0, r0⟩ := cTrod_field he htr 0 f0 rfl
      obtain ⟨n1, y1, r1⟩ := cTrod_field he htr 1 f1 rfl
      obtain ⟨n2, y2, r2⟩ := cTrod_field he htr 2 f2 rfl
      obtain ⟨n3, y3, r3⟩ := cTrod_field he htr 3 f3 rfl
      rw [hft.1, hfo.1] at r0
      rw [hft.2.1, hfo.2.1] at r1
      rw [hft.2.2.1, hfo.2.2.1] at r2
      rw [hft.2.2.2, hfo.2.2.2] at r3
      obtain ⟨z0, c0, w0⟩ := cInt_cell hi ci r0
      obtain ⟨z1, c1, w1⟩ := cInt_cell hi ci r1
      obtain ⟨za, zc, zr, c2, harg⟩ := cRow_cell hs h8 c8 cs8 r2
      obtain ⟨kept, torn, s, c3, c4, c5, k3, k4, k5⟩ := cCrash_cells hc hgt hgo hi hu ci cu r3
      replace c3 := cSub_cell c3
      replace c4 := cSub_cell c4
      replace c5 := cSub_cell c5
      have hcell : ∀ j u, cs[j]? = some u → w.cell? ((a.add (k * 6)).add j) = some u := fun j u hj => by
        have hj7 : j < 6 := by have := (List.getElem?_eq_some_iff.1 hj).1; omega
        rw [hat j hj7]; exact hj
      obtain ⟨b, o, spot⟩ := a
      have hspot : spot = none := by
        obtain ⟨cs2, hcell2, htr2⟩ := hrow 0 (by omega)
        rw [hC] at hcell2
        obtain ⟨_, _, hat2⟩ := World.cells?_some hcell2
        have h7 := hat2 0 (by decide)
        obtain ⟨_, _, r20⟩ := cTrod_field he htr2 0 f0 rfl
        rw [hft.1, hfo.1] at r20
        obtain ⟨_, c20, _⟩ := cInt_cell hi ci r20
        rw [c20] at h7
        simpa [Addr.add] using World.cell?_spot h7
      subst hspot
      have hadd1 : ∀ o j, (⟨b, o, none⟩ : Addr).add j = ⟨b, o + j, none⟩ := fun o j => by unfold Addr.add; split <;> simp_all
      have hadd : ∀ j, ((⟨b, o, none⟩ : Addr).add (k * 6)).add j = ⟨b, o + k * 6 + j, none⟩ := fun j => by rw [hadd1, hadd1]
      have cc := fun j u hj => (hadd j) ▸ hcell j u hj
      exact ⟨b, o, ⟨z0, z1, za, zc, zr, kept, torn, s⟩, rfl, cc 0 _ c0, cc 1 _ c1, cc 2 _ c2, cc 3 _ c3, cc 4 _ c4, cc 5 _ c5, harg, cWf64 w0, cWf64 w1, k3, k4, k5⟩
    have hch : ∃ X : Nat → ActJ, ∀ k, k < len0 → ∃ b o, some a = some (⟨b, o, none⟩ : Addr) ∧ ActJAt w b (o + k * 6) (X k) := by
      refine ⟨fun k => if hk : k < len0 then (each k hk).choose_spec.choose_spec.choose else default, fun k hk => ?_⟩
      simp only [hk, dif_pos]
      exact ⟨_, _, (each k hk).choose_spec.choose_spec.choose_spec⟩
    obtain ⟨X, hX⟩ := hch
    refine ⟨some a, cap0, (List.range len0).map X, by simp, ⟨fun k hk => ?_⟩⟩
    have hk' : k < len0 := by simpa using hk
    obtain ⟨b, o, e, h1⟩ := hX k hk'
    exact ⟨b, o, e, by simpa using h1⟩
end

/-- What Long says: false where there are few acts, and short ones. -/
def LongPost (w : World) (most : Nat) (xs : List ActJ) (e : Ending) (w' : World) : Prop := ∃ r, e = .returned (.bool r) ∧ (r = false → xs.length ≤ most ∧ ∀ x ∈ xs, x.r.length ≤ 500) ∧ Below w.heap.size w w'
set_option maxRecDepth 100000 in
set_option maxHeartbeats 1000000 in
theorem long19_any (a : Option Addr) (c : Nat) (xs : List ActJ) (most : Nat) (hmost : most ≤ 1000) (w : World) (h : ArgJ w a xs) :
    Calls Tryd.prog 12 #[.slice a xs.length c, .int .i64 (most : Int)] w (LongPost w most xs) := by
  by_cases hl : most < xs.length
  · have hl2 : (most : Int) < xs.length := by omega
    go_enter Tryd.func12, Tryd.ntmps12
    go_wp2_with fail
    go_ret
    exact ⟨true, rfl, (fun h => by cases h), Below.refl _ _⟩
  · have hl2 : ¬ ((most : Int) < xs.length) := by omega
    replace h := Lib.hid h
    obtain ⟨L, hL⟩ : ∃ L, L = xs.length := ⟨_, rfl⟩
    rw [← hL] at hl hl2 ⊢
    replace hL := Lib.hid hL
    go_enter Tryd.func12, Tryd.ntmps12
    go_wp2_with fail
    refine wp_loopF [(false, 4), (true, 1), (false, 1), (true, 1), (false, 6), (true, 9)] _ [] (fun U wr => ∃ k : Nat, k ≤ L ∧ U 13 = .int .i64 (k : Nat) ∧ Below w.heap.size w wr ∧ ∀ j (hj : j < xs.length), j < k → xs[j].r.length ≤ 500)
      (fun U _ => L - (intOf (U 13)).toNat) ?_ ?_
    · simp only [List.getD_cons_zero, List.getD_cons_succ]
      exact ⟨0, Nat.zero_le _, rfl, Below.refl _ _, fun j _ hj => absurd hj (Nat.not_lt_zero _)⟩
    · intro U wr hrel KK hback l' hl'
      obtain ⟨k, hk, h13, hbel, hle⟩ := hrel
      simp only [fillS, popSeg, cond_true, cond_false, Nat.reduceAdd, h13] at hl'
      subst hl'
      replace h13 := Lib.hid h13
      replace hle := Lib.hid hle
      have hsz := hbel.size
      by_cases hlt : k < L
      · have hlt2 : (k : Int) < (L : Int) := by omega
        have hkl : k < xs.length := by rw [← hL.out]; exact hlt
        obtain ⟨b, o, rfl, hat⟩ := (h.out.below hbel).row k hkl
        obtain ⟨d0, d1, d2, d3, d4, d5, _, _, _, _, _, _⟩ := hat
        obtain ⟨R, hR⟩ : ∃ R, R = (xs[k]'hkl).r.length := ⟨_, rfl⟩
        rw [← hR] at d2
        replace hR := Lib.hid hR
        obtain ⟨x, hx⟩ : ∃ x, x = xs[k]'hkl := ⟨_, rfl⟩
        rw [← hx] at d0 d1 d2 d3 d4 d5
        replace hx := Lib.hid hx
        by_cases h5 : 500 < R
        · have h5' : (500 : Int) < (R : Int) := by omega
          go_wp2_with fail
          go_ret
          exact ⟨true, rfl, (fun h => by cases h), (hbel.alloc hsz _)⟩
        · have h5' : ¬ ((500 : Int) < (R : Int)) := by omega
          have hb2 := Lib.hid (hbel.alloc hsz (.cells #[.int .i64 x.kind, .int .i64 x.n, .slice x.a R x.c, .int .i64 x.kept, .int .i64 x.torn, .int .u64 (x.scat : Int)] 49))
          go_wp2_with fail
          refine hback.out _ _ (by kernel_rfl) ?_ ?_
          · simp only [List.getD_cons_zero, List.getD_cons_succ]
            refine ⟨k + 1, by omega, by go_num, hb2.out, fun j hj hjk => ?_⟩
            by_cases hjk2 : j < k
            · exact hle.out j hj hjk2
            · obtain rfl : j = k := by omega
              rw [← hR.out]; omega
          · have h13 := h13.out
            simp only [List.getD_cons_zero, List.getD_cons_succ, h13, intOf]
            omega
      · obtain rfl : k = L := by omega
        replace hbel := Lib.hid hbel
        go_wp2_with fail
        go_ret
        exact ⟨false, rfl, fun _ => ⟨by rw [← hL.out]; omega, fun x hx => by obtain ⟨j, hj, rfl⟩ := List.getElem_of_mem hx; exact hle.out j hj (by rw [hL.out]; exact hj)⟩, hbel.out⟩
end Go.Proofs.YtgkddegaiaeckaaDoor
