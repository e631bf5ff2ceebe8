/- SameM, Alive34. -/
import Derived.Test.YtndgacjfkoliaaaDoorF41PlaysSaid34
import Derived.Test.YtndgacjfkoliaaaDoorF42PlaysSaid34
import Derived.Test.YtndgacjfkoliaaaDoorF22PlaysSaid34
import Derived.Test.YtndgacjfkoliaaaDoorF29PlaysSaid34
/- model.Same. -/
namespace Go.Proofs.YtndgacjfkoliaaaDoor
open Go.RowKit
set_option linter.unusedSimpArgs false
set_option linter.unusedVariables false

set_option maxRecDepth 100000 in
set_option maxHeartbeats 1000000 in
theorem sameM_any (va vb : Value) (m m' : Md) (w : World) (ha : ArgM w va m) (hb : ArgM w vb m') (l1 : m.ns.length ≤ 1000) (l2 : m.vs.length ≤ 1000) :
    Calls Tryd.prog 10 #[va, vb] w fun x w' => x = .returned (.bool (same34B m m')) ∧ Below w.heap.size w w' := by
  obtain ⟨⟨an, cn, av, cv, rfl, hN, hN1, hN2, hV, hV1, hV2⟩, okN, okV⟩ := ha
  obtain ⟨⟨bn, dn, bv, dv, rfl, hM, hM1, hM2, hW, hW1, hW2⟩, okM, okW⟩ := hb
  have h1 := fun W (h : Below w.heap.size w W) => equalN_any an bn cn dn m.ns m'.ns okN okM W (hN.below h (Nat.le_refl _)) (hM.below h (Nat.le_refl _)) (by omega)
  have h2 := fun W (h : Below w.heap.size w W) => equalV_any av bv cv dv m.vs m'.vs okV okW W (hV.below h (Nat.le_refl _)) (hW.below h (Nat.le_refl _)) (by omega)
  have he : same34B m m' = (decide (m.ns = m'.ns) && decide (m.vs = m'.vs)) := rfl
  rw [he]
  generalize decide (m.ns = m'.ns) = r1 at *
  generalize decide (m.vs = m'.vs) = r2 at *
  generalize m.ns.length = n1 at *
  generalize m.vs.length = n2 at *
  generalize m'.ns.length = n3 at *
  generalize m'.vs.length = n4 at *
  obtain ⟨a1, a2, hs2, hB⟩ := boxes2 w #[.slice an n1 cn, .slice av n2 cv] #[.slice bn n3 dn, .slice bv n4 dv] 28 28 _ rfl
  obtain ⟨w2, hw2⟩ : ∃ w2, w2 = ((w.alloc (.cells #[.slice an n1 cn, .slice av n2 cv] 28)).alloc (.cells #[.slice bn n3 dn, .slice bv n4 dv] 28)) := ⟨_, rfl⟩
  rw [← hw2] at a1 a2 hs2 hB
  have c10 := cell_of_block a1 0
  have c20 := cell_of_block a2 0
  simp only [List.getElem?_toArray, List.getElem?_cons_zero] at c10 c20
  replace hw2 := Lib.hid hw2
  replace h1 := Lib.hid h1
  replace h2 := Lib.hid h2
  replace a1 := Lib.hid a1
  replace a2 := Lib.hid a2
  replace hB := Lib.hid hB
  replace hs2 := Lib.hid hs2
  clear he hN hV hM hW hN1 hN2 hV1 hV2 hM1 hM2 hW1 hW2 okN okV okM okW l1 l2
  go_enter Tryd.func10, Tryd.ntmps10
  go_wp2_with fail
  rw [← hw2.out]
  go_wp2_with fail
  with_reducible refine (h1.out w2 hB.out).mono ?_
  rintro e w3 ⟨rfl, hb⟩
  have b1 := (hb.block _ (block_lt a1.out)).trans a1.out
  have b2 := (hb.block _ (block_lt a2.out)).trans a2.out
  have f0 := cell_of_block b1 1
  have f1 := cell_of_block b2 1
  simp only [List.getElem?_toArray, List.getElem?_cons_succ, List.getElem?_cons_zero] at f0 f1
  have hB3 := Lib.hid (hB.out.trans (hb.mono hB.out.size))
  clear b1 b2 hb c10 c20
  cases r1 with
  | false =>
    go_wp2_with fail
    go_ret
    exact ⟨rfl, hB3.out⟩
  | true =>
    go_wp2_with fail
    with_reducible refine (h2.out w3 hB3.out).mono ?_
    rintro e w4 ⟨rfl, hb⟩
    have hB4 := Lib.hid (hB3.out.trans (hb.mono hB3.out.size))
    go_wp2_with fail
    go_ret
    exact ⟨by simp, hB4.out⟩
end Go.Proofs.YtndgacjfkoliaaaDoor
/- The chapter's example. -/
namespace Go.Proofs.YtndgacjfkoliaaaDoor
open Go.RowKit
set_option linter.unusedSimpArgs false
set_option linter.unusedVariables false

def nmA : Nm := ⟨⟨#[97]⟩, ⟨0, 0, 1, 1, 1, 0⟩, List.replicate 32 0, false⟩
def nmB : Nm := ⟨⟨#[97]⟩, ⟨0, 0, 1, 1, 1, 0⟩, List.replicate 32 0, true⟩
theorem argM_nil (w : World) : ArgM w (.agg #[.slice none 0 0, .slice none 0 0]) ⟨[], []⟩ :=
  ⟨⟨none, 0, none, 0, rfl, fun i h => absurd h (Nat.not_lt_zero _), Nat.le_refl _, Nat.zero_le _, fun i h => absurd h (Nat.not_lt_zero _), Nat.le_refl _, Nat.zero_le _⟩, fun x hx => (List.not_mem_nil hx).elim, fun x hx => (List.not_mem_nil hx).elim⟩
theorem putA (w : World) (zp : Nat → Addr) (hPE : ParErrs w zp) : Calls Tryd.prog 14 #[.agg #[.slice none 0 0, .slice none 0 0], .string ⟨#[97]⟩, .int .i64 0, .agg #[.int .u8 0, .int .u8 0, .int .u8 0, .int .u8 0, .int .u8 0, .int .u8 0, .int .u8 0, .int .u8 0, .int .u8 0, .int .u8 0, .int .u8 0, .int .u8 0, .int .u8 0, .int .u8 0, .int .u8 0, .int .u8 0, .int .u8 0, .int .u8 0, .int .u8 0, .int .u8 0, .int .u8 0, .int .u8 0, .int .u8 0, .int .u8 0, .int .u8 0, .int .u8 0, .int .u8 0, .int .u8 0, .int .u8 0, .int .u8 0, .int .u8 0, .int .u8 0], .agg #[.int .i64 0, .int .i64 0, .int .i64 1, .int .i64 1, .int .i64 1, .int .i64 0]] w (PutPost w ⟨[nmA], []⟩ 0) :=
  put_new _ ⟨[], []⟩ w (argM_nil w) (by decide) (by decide) ⟨#[97]⟩ (List.replicate 32 0) ⟨0, 0, 1, 1, 1, 0⟩ (by decide) (by decide) (by unfold P6.Ok; simp only; decide) (by unfold ParOk; simp only; decide) rfl (by kernel_rfl) zp hPE
set_option maxRecDepth 100000 in
set_option maxHeartbeats 1000000 in
theorem alive34_any (w : World) (zp : Nat → Addr) (hPE : ParErrs w zp) (z : Addr) (hz : SentAt 5 w z) : Calls Tryd.prog 4 #[] w fun x w' => x = .returned (.bool true) ∧ Below w.heap.size w w' := by
  have hp := fun (W : World) (hW : Below w.heap.size w W) => putA W zp (hPE.below hW)
  have hk : ∀ (W : World) va (_ : ArgM W va ⟨[nmA], []⟩), Calls Tryd.prog 15 #[va, .int .i64 0] W (KeptPost W ⟨[nmB], []⟩) := fun W va ha => kept_good va ⟨[nmA], []⟩ W ha (by decide) (by decide) 0 (by decide) rfl
  have hq : ∀ (W : World) va (_ : ArgM W va ⟨[nmB], []⟩), Calls Tryd.prog 16 #[va, .int .i64 0, .int .i64 1] W (AskedPost W ⟨[nmB], [⟨0, 1, 0⟩]⟩ 0) := fun W va ha => asked_one va ⟨[nmB], []⟩ W ha (by decide) (by decide) 0 (by decide) rfl
  have hs : ∀ (W : World) (_ : Below w.heap.size w W) va (_ : ArgM W va ⟨[nmA], []⟩), Calls Tryd.prog 16 #[va, .int .i64 0, .int .i64 1] W (AskedErr W va z) := fun W hW va ha => askedM_state va ⟨[nmA], []⟩ W ha (by decide) (by decide) 0 (by decide) rfl z (hz.below hW)
  replace hp := Lib.hid hp
  replace hk := Lib.hid hk
  replace hq := Lib.hid hq
  replace hs := Lib.hid hs
  clear hPE hz
  go_enter Tryd.func4, Tryd.ntmps4
  go_wp2_with fail
  have hB0 : Below w.heap.size w (w.alloc (.cells #[.int .i64 0, .int .i64 0, .int .i64 1, .int .i64 1, .int .i64 1, .int .i64 0] 34)) := (Below.refl _ _).alloc (Nat.le_refl _) _
  with_reducible refine (hp.out _ hB0).mono ?_
  rintro x w1 ⟨v1, rfl, ha1, hb1⟩
  have hB1 := hB0.trans (hb1.mono hB0.size)
  replace ha1 := Lib.hid ha1
  obtain ⟨⟨an, cn, av, cv, hv1, _⟩, _, _⟩ := ha1.out
  subst hv1
  simp only [List.length_cons, List.length_nil] at *
  have hc2 := heap_alloc_new w1 (.cells #[.slice an 1 cn, .slice av 0 cv] 28 (0, 0))
  have hb2 : Below w1.heap.size w1 (w1.alloc (.cells #[.slice an 1 cn, .slice av 0 cv] 28)) := (Below.refl _ _).alloc (Nat.le_refl _) _
  have hB2 := hB1.trans (hb2.mono hB1.size)
  have ha2 := ha1.out.below hb2 (Nat.le_refl _)
  clear hp hB0 hb1 hB1
  go_wp2_with fail
  with_reducible refine (hk.out _ _ ha2).mono ?_
  rintro x w3 ⟨v3, rfl, ha3, hb3⟩
  have hc3 := (hb3.block _ (block_lt hc2)).trans hc2
  have hB3 := hB2.trans (hb3.mono hB2.size)
  have ha23 := ha2.below hb3 (Nat.le_refl _)
  replace ha3 := Lib.hid ha3
  obtain ⟨⟨an3, cn3, av3, cv3, hv3, _⟩, _, _⟩ := ha3.out
  subst hv3
  simp only [List.length_cons, List.length_nil] at *
  have hc4 := heap_alloc_new w3 (.cells #[.slice an3 1 cn3, .slice av3 0 cv3] 28 (0, 0))
  have hb4 : Below w3.heap.size w3 (w3.alloc (.cells #[.slice an3 1 cn3, .slice av3 0 cv3] 28)) := (Below.refl _ _).alloc (Nat.le_refl _) _
  have hB4 := hB3.trans (hb4.mono hB3.size)
  have ha4 := ha3.out.below hb4 (Nat.le_refl _)
  have ha24 := ha23.below hb4 (Nat.le_refl _)
  have hc24 := (hb4.block _ (block_lt hc3)).trans hc3
  clear hk hc2 hb2 hB2 ha2 hb3 hc3 hB3 ha23 ha3 hb4
  go_wp2_with fail
  with_reducible refine (hq.out _ _ ha4).mono ?_
  rintro x w5 ⟨v5, rfl, ha5, hb5⟩
  have hB5 := hB4.trans (hb5.mono hB4.size)
  have hc25 := (hb5.block _ (block_lt hc24)).trans hc24
  have hc45 := (hb5.block _ (block_lt hc4)).trans hc4
  have ha25 := ha24.below hb5 (Nat.le_refl _)
  replace ha5 := Lib.hid ha5
  obtain ⟨⟨an5, cn5, av5, cv5, hv5, _⟩, _, _⟩ := ha5.out
  subst hv5
  simp only [List.length_cons, List.length_nil] at *
  have hb6 : Below w5.heap.size w5 (w5.alloc (.cells #[.slice an5 1 cn5, .slice av5 1 cv5] 28)) := (Below.refl _ _).alloc (Nat.le_refl _) _
  have hB6 := hB5.trans (hb6.mono hB5.size)
  have ha26 := ha25.below hb6 (Nat.le_refl _)
  have hc26 := (hb6.block _ (block_lt hc25)).trans hc25
  have hc46 := (hb6.block _ (block_lt hc45)).trans hc45
  have k260 : (w5.alloc (.cells #[.slice an5 1 cn5, .slice av5 1 cv5] 28)).cell? ⟨w1.heap.size, 0, none⟩ = some (.slice an 1 cn) := by rw [cell_of_block hc26]; rfl
  have k261 : (w5.alloc (.cells #[.slice an5 1 cn5, .slice av5 1 cv5] 28)).cell? ⟨w1.heap.size, 1, none⟩ = some (.slice av 0 cv) := by rw [cell_of_block hc26]; rfl
  clear hq hc4 hB4 ha4 ha24 hc24 hb5 hB5 hc25 hc45 ha25 ha5 hb6
  go_wp2_with fail
  with_reducible refine (hs.out _ hB6 _ ha26).mono ?_
  rintro x w7 ⟨rfl, hb7⟩
  have hB7 := hB6.trans (hb7.mono hB6.size)
  have hc47 := (hb7.block _ (block_lt hc46)).trans hc46
  have k47 := cell_of_block hc47 0
  have hb8 : Below w7.heap.size w7 (w7.alloc (.cells #[.slice an 1 cn, .slice av 0 cv] 28)) := (Below.refl _ _).alloc (Nat.le_refl _) _
  have k48 : (w7.alloc (.cells #[.slice an 1 cn, .slice av 0 cv] 28)).cell? ⟨w3.heap.size, 0, none⟩ = some (.slice an3 1 cn3) := by rw [cell_of_block ((hb8.block _ (block_lt hc47)).trans hc47)]; rfl
  have hB8 := hB7.trans (hb8.mono hB7.size)
  clear hs hB6 ha26 k260 k261 hc26 hc46 hb7 hB7 hc47 hb8
  go_wp2_with fail
  go_ret
  exact ⟨rfl, hB8⟩
end Go.Proofs.YtndgacjfkoliaaaDoor
