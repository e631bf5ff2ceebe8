/- The walk over ParamsChecks. -/
import Derived.Test.YtebfjpagecakjaaDoorParOps2
import Derived.Test.YtebfjpagecakjaaDoorOnL
namespace Go.Proofs.YtebfjpagecakjaaDoor
open Go.RowKit


theorem convB {w : World} {a : Option Addr} {c : Nat} {bs : List UInt8} (h : ArgB w a c bs) (n : Nat) (hn : bs.length = n) : (convert 30 9 (.slice a n c)).run Tryd.prog w = .ok (.string ⟨bs.toArray⟩) w := by
  subst hn
  exact conv_str bs Tryd.underlying30 Tryd.underlying5 Tryd.underlying9 h.row
theorem convE {w : World} {a : Option Addr} {c : Nat} {bs : List UInt8} (h : ArgB w a c bs) (n : Nat) (hn : bs.length = n) : ∀ W, Grown w W → (convert 30 9 (.slice a n c)).run Tryd.prog W = .ok (.string ⟨bs.toArray⟩) W :=
  fun _ hW => convB (h.below hW) n hn
theorem farBox {w : World} {g : Nat} {a b c d e f : Value} {t : TypeId} (h : w.heap[g]? = some (.cells #[a, b, c, d, e, f] t (0, 0))) :
    (∀ W, Grown w W → W.cell? ⟨g, 0, none⟩ = some a) ∧ (∀ W, Grown w W → W.cell? ⟨g, 1, none⟩ = some b) ∧ (∀ W, Grown w W → W.cell? ⟨g, 2, none⟩ = some c) ∧ (∀ W, Grown w W → W.cell? ⟨g, 3, none⟩ = some d) ∧ (∀ W, Grown w W → W.cell? ⟨g, 4, none⟩ = some e) ∧ (∀ W, Grown w W → W.cell? ⟨g, 5, none⟩ = some f) := by
  have q : ∀ W, Grown w W → W.heap[g]? = some (.cells #[a, b, c, d, e, f] t (0, 0)) := fun W hW => (hW.block g (block_lt h)).trans h
  exact ⟨fun W hW => cell_of_block (q W hW) 0, fun W hW => cell_of_block (q W hW) 1, fun W hW => cell_of_block (q W hW) 2, fun W hW => cell_of_block (q W hW) 3, fun W hW => cell_of_block (q W hW) 4, fun W hW => cell_of_block (q W hW) 5⟩
theorem box6g {w' : World} {g : Nat} {a b c d e f : Value} {t : TypeId} (h : w'.heap[g]? = some (.cells #[a, b, c, d, e, f] t (0, 0))) :
    w'.cell? ⟨g, 0, none⟩ = some a ∧ w'.cell? ⟨g, 1, none⟩ = some b ∧ w'.cell? ⟨g, 2, none⟩ = some c ∧ w'.cell? ⟨g, 3, none⟩ = some d ∧ w'.cell? ⟨g, 4, none⟩ = some e ∧ w'.cell? ⟨g, 5, none⟩ = some f := by
  simp [cell_of_block h]
theorem wrong_at {base : Nat} {w : World} {F : ByteArray} {V : Int} {x : Addr} {g : Nat} (h : WrongAns base w F V x g) : w.heap[g]? = some (.cells #[.string F, .int .i64 V, .iface 123 (.pointer (some x))] 59 (0, 0)) := h.2
theorem bytesL_length (s n k d t r : Int) : (bytesL s n k d t r).length = 9 := rfl

section
variable (s n k d t r : Int) (F : ByteArray) (V : Int) (i : Nat) (ea : Nat → Addr) (w : World)
theorem rcheck_wrong (h : badAt s n k d t r = some (F, V, i)) : Calls Tryd.prog 17 #[.agg #[.int .i64 s, .int .i64 n, .int .i64 k, .int .i64 d, .int .i64 t, .int .i64 r]] w fun e w' => e = .returned (.tuple #[.string F, .int .i64 V, .int .i64 ((i + 1 : Nat) : Int)]) ∧ Below w.heap.size w w' := by
  have := rcheck_any s n k d t r w
  rw [h] at this
  exact this
theorem rcheck_right (h : badAt s n k d t r = none) : Calls Tryd.prog 17 #[.agg #[.int .i64 s, .int .i64 n, .int .i64 k, .int .i64 d, .int .i64 t, .int .i64 r]] w fun e w' => e = .returned (.tuple #[.string ⟨#[]⟩, .int .i64 0, .int .i64 0]) ∧ Below w.heap.size w w' := by
  have := rcheck_any s n k d t r w
  rw [h] at this
  exact this
theorem num_wrong (g : Nat) (base : Nat) (hi : i < 20) (H : Errs 123 errGs w ea) (hg : WrongAns base w F V (ea i) g) :
    Calls Tryd.prog 13 #[.iface 56 (.pointer (some ⟨g, 0, none⟩))] w fun e w' => e = .returned (.int .i64 ((i + 1 : Nat) : Int)) ∧ Below w.heap.size w w' := num_wrap g F V i hi ea w H hg.2

set_option maxRecDepth 10000 in
set_option maxHeartbeats 8000000 in
theorem checks_wrong (h : badAt s n k d t r = some (F, V, i)) (hn : -9223372036854775808 ≤ n ∧ n ≤ 9223372036854775807) (H : Errs 123 errGs w ea) (hT : TypeVar w) :
    Calls Tryd.prog 5 #[.agg #[.int .i64 s, .int .i64 n, .int .i64 k, .int .i64 d, .int .i64 t, .int .i64 r]] w fun e w' => e = .returned (.bool true) ∧ Below w.heap.size w w' := by
  have hi := badAt_lt h
  have hb0 := Lib.hid ((Below.refl w.heap.size w).alloc (Nat.le_refl _) (.cells #[.int .i64 s, .int .i64 n, .int .i64 k, .int .i64 d, .int .i64 t, .int .i64 r] 24))
  have hp := Lib.hid (heap_alloc_new w (.cells #[.int .i64 s, .int .i64 n, .int .i64 k, .int .i64 d, .int .i64 t, .int .i64 r] 24))
  replace H := Lib.hid (H.below hb0.out)
  replace hT := Lib.hid (hT.below hb0.out)
  have hal := Lib.hid (alive15_any (pz ea) _ (par_of H.out) hT.out)
  have crk := Lib.hid (fun W => rcheck_wrong s n k d t r F V i W h)
  have cck := Lib.hid (fun W (H : Errs 123 errGs W ea) => check_wrong s n k d t r F V i h hn ea W H)
  have cst := Lib.hid (fun W (H : Errs 123 errGs W ea) => stored_wrong s n k d t r F V i ea W h hn H)
  have cpl := Lib.hid (fun W (H : Errs 123 errGs W ea) => plain_wrong s n k d t r F V i ea W h hn H)
  have cby := Lib.hid (fun W (H : Errs 123 errGs W ea) => bytes_wrong s n k d t r F V i ea W h hn H)
  have cwi := Lib.hid (fun W (H : Errs 123 errGs W ea) => window_wrong s n k d t r F V i ea W h hn H)
  have cbu := Lib.hid (fun W (H : Errs 123 errGs W ea) => budget_wrong s n k d t r F V i ea W h hn H)
  have cnu := Lib.hid (fun W g base (H : Errs 123 errGs W ea) (hg : WrongAns base W F V (ea i) g) => num_wrong F V i ea W g base hi H hg)
  obtain ⟨I, hI, hI2, hI3⟩ : ∃ I : Int, ((i + 1 : Nat) : Int) = I ∧ (I != 0) = true ∧ (I == 0) = false := ⟨_, rfl, by rw [bne_iff_ne]; omega, by rw [beq_eq_false_iff_ne]; omega⟩
  rw [hI] at crk cnu
  clear h hn hI
  generalize ea i = x at *
  go_enter Tryd.func5, Tryd.ntmps5
  go_wp2_with fail
  with_reducible refine hal.out.mono ?_
  rintro e w1 ⟨rfl, hb⟩
  have hlt := block_lt hp.out
  have hpa := Lib.hid ((hb.block _ hlt).trans hp.out)
  have hb2 := hb.alloc hb.size (.cells #[.int .i64 s, .int .i64 n, .int .i64 k, .int .i64 d, .int .i64 t, .int .i64 r] 34)
  replace H := Lib.hid (H.out.below hb2)
  replace hT := Lib.hid (hT.out.below hb2)
  replace hp := Lib.hid ((hb2.block _ hlt).trans hp.out)
  have hq := Lib.hid (heap_alloc_new w1 (.cells #[.int .i64 s, .int .i64 n, .int .i64 k, .int .i64 d, .int .i64 t, .int .i64 r] 34))
  replace hb0 := Lib.hid (hb0.out.trans (hb2.mono hb0.out.size))
  clear hb hb2 hal hlt
  go_wp2_with (first | (refine wpList_load_row rfl 24 (.tmp 1) rfl w.heap.size #[.int .i64 s, .int .i64 n, .int .i64 k, .int .i64 d, .int .i64 t, .int .i64 r] _ rfl hpa Tryd.underlying24 rfl (by kernel_rfl) ?_) | (refine wpList_load_row rfl 34 (.tmp 3) rfl w1.heap.size #[.int .i64 s, .int .i64 n, .int .i64 k, .int .i64 d, .int .i64 t, .int .i64 r] _ rfl hq Tryd.underlying34 rfl (by kernel_rfl) ?_))
  with_reducible refine (crk.out _).mono ?_
  rintro e w2 ⟨rfl, hb⟩
  have hl1 := block_lt hp.out
  have hl2 := block_lt hq.out
  replace H := Lib.hid (H.out.below hb)
  replace hp := Lib.hid ((hb.block _ hl1).trans hp.out)
  replace hq := Lib.hid ((hb.block _ hl2).trans hq.out)
  replace hb0 := Lib.hid (hb0.out.trans (hb.mono hb0.out.size))
  replace hT := Lib.hid (hT.out.below hb)
  clear hb hl1 hl2
  clear hpa
  go_wp2_with (first | (refine wpList_load_row rfl 24 (.tmp 1) rfl w.heap.size #[.int .i64 s, .int .i64 n, .int .i64 k, .int .i64 d, .int .i64 t, .int .i64 r] _ rfl hp Tryd.underlying24 rfl (by kernel_rfl) ?_) | (refine wpList_load_row rfl 34 (.tmp 3) rfl w1.heap.size #[.int .i64 s, .int .i64 n, .int .i64 k, .int .i64 d, .int .i64 t, .int .i64 r] _ rfl hq Tryd.underlying34 rfl (by kernel_rfl) ?_))
  with_reducible refine (cck.out _ H.out).mono ?_
  rintro e w3 ⟨g, rfl, hg1, hg, hb⟩
  replace hg := Lib.hid (show WrongAns w2.heap.size w3 F V x g from ⟨hg1, hg⟩)
  have hl1 := block_lt hp.out
  have hl2 := block_lt hq.out
  replace H := Lib.hid (H.out.below hb)
  replace hp := Lib.hid ((hb.block _ hl1).trans hp.out)
  replace hq := Lib.hid ((hb.block _ hl2).trans hq.out)
  replace hb0 := Lib.hid (hb0.out.trans (hb.mono hb0.out.size))
  replace hT := Lib.hid (hT.out.below hb)
  clear hb hl1 hl2
  clear hg1
  go_wp2_with fail
  with_reducible refine (field_hit g F V x _ hT.out (wrong_at hg.out)).mono ?_
  rintro e w4 ⟨rfl, hb⟩
  have hl1 := block_lt hp.out
  have hl2 := block_lt hq.out
  replace H := Lib.hid (H.out.below hb)
  replace hp := Lib.hid ((hb.block _ hl1).trans hp.out)
  replace hq := Lib.hid ((hb.block _ hl2).trans hq.out)
  replace hb0 := Lib.hid (hb0.out.trans (hb.mono hb0.out.size))
  replace hg := Lib.hid (hg.out.below hb)
  clear hb hl1 hl2
  clear hT
  go_wp2_with fail
  with_reducible refine (cnu.out _ g _ H.out hg.out).mono ?_
  rintro e w5 ⟨rfl, hb⟩
  have hl1 := block_lt hp.out
  have hl2 := block_lt hq.out
  replace H := Lib.hid (H.out.below hb)
  replace hp := Lib.hid ((hb.block _ hl1).trans hp.out)
  replace hq := Lib.hid ((hb.block _ hl2).trans hq.out)
  replace hb0 := Lib.hid (hb0.out.trans (hb.mono hb0.out.size))
  clear hb hl1 hl2
  clear hg
  go_wp2_with (first | (refine wpList_load_row rfl 24 (.tmp 1) rfl w.heap.size #[.int .i64 s, .int .i64 n, .int .i64 k, .int .i64 d, .int .i64 t, .int .i64 r] _ rfl hp Tryd.underlying24 rfl (by kernel_rfl) ?_) | (refine wpList_load_row rfl 34 (.tmp 3) rfl w1.heap.size #[.int .i64 s, .int .i64 n, .int .i64 k, .int .i64 d, .int .i64 t, .int .i64 r] _ rfl hq Tryd.underlying34 rfl (by kernel_rfl) ?_))
  with_reducible refine (cst.out _ H.out).mono ?_
  rintro e w6 ⟨g1, rfl, hg1, hb⟩
  replace hg1 := Lib.hid hg1
  have hl1 := block_lt hp.out
  have hl2 := block_lt hq.out
  replace H := Lib.hid (H.out.below hb)
  replace hp := Lib.hid ((hb.block _ hl1).trans hp.out)
  replace hq := Lib.hid ((hb.block _ hl2).trans hq.out)
  replace hb0 := Lib.hid (hb0.out.trans (hb.mono hb0.out.size))
  clear hb hl1 hl2
  go_wp2_with (first | (refine wpList_load_row rfl 24 (.tmp 1) rfl w.heap.size #[.int .i64 s, .int .i64 n, .int .i64 k, .int .i64 d, .int .i64 t, .int .i64 r] _ rfl hp Tryd.underlying24 rfl (by kernel_rfl) ?_) | (refine wpList_load_row rfl 34 (.tmp 3) rfl w1.heap.size #[.int .i64 s, .int .i64 n, .int .i64 k, .int .i64 d, .int .i64 t, .int .i64 r] _ rfl hq Tryd.underlying34 rfl (by kernel_rfl) ?_))
  with_reducible refine (cpl.out _ H.out).mono ?_
  rintro e w7 ⟨g2, rfl, hg2, hb⟩
  replace hg2 := Lib.hid hg2
  have hl1 := block_lt hp.out
  have hl2 := block_lt hq.out
  replace H := Lib.hid (H.out.below hb)
  replace hp := Lib.hid ((hb.block _ hl1).trans hp.out)
  replace hq := Lib.hid ((hb.block _ hl2).trans hq.out)
  replace hb0 := Lib.hid (hb0.out.trans (hb.mono hb0.out.size))
  replace hg1 := Lib.hid (hg1.out.below hb)
  clear hb hl1 hl2
  go_wp2_with (first | (refine wpList_load_row rfl 24 (.tmp 1) rfl w.heap.size #[.int .i64 s, .int .i64 n, .int .i64 k, .int .i64 d, .int .i64 t, .int .i64 r] _ rfl hp Tryd.underlying24 rfl (by kernel_rfl) ?_) | (refine wpList_load_row rfl 34 (.tmp 3) rfl w1.heap.size #[.int .i64 s, .int .i64 n, .int .i64 k, .int .i64 d, .int .i64 t, .int .i64 r] _ rfl hq Tryd.underlying34 rfl (by kernel_rfl) ?_))
  with_reducible refine (cby.out _ H.out).mono ?_
  rintro e w8 ⟨g3, rfl, hg3, hb⟩
  replace hg3 := Lib.hid hg3
  have hl1 := block_lt hp.out
  have hl2 := block_lt hq.out
  replace H := Lib.hid (H.out.below hb)
  replace hp := Lib.hid ((hb.block _ hl1).trans hp.out)
  replace hq := Lib.hid ((hb.block _ hl2).trans hq.out)
  replace hb0 := Lib.hid (hb0.out.trans (hb.mono hb0.out.size))
  replace hg1 := Lib.hid (hg1.out.below hb)
  replace hg2 := Lib.hid (hg2.out.below hb)
  clear hb hl1 hl2
  go_wp2_with fail
  with_reducible refine (cnu.out _ g1 _ H.out hg1.out).mono ?_
  rintro e w9 ⟨rfl, hb⟩
  have hl1 := block_lt hp.out
  have hl2 := block_lt hq.out
  replace H := Lib.hid (H.out.below hb)
  replace hp := Lib.hid ((hb.block _ hl1).trans hp.out)
  replace hq := Lib.hid ((hb.block _ hl2).trans hq.out)
  replace hb0 := Lib.hid (hb0.out.trans (hb.mono hb0.out.size))
  replace hg2 := Lib.hid (hg2.out.below hb)
  replace hg3 := Lib.hid (hg3.out.below hb)
  clear hb hl1 hl2
  go_wp2_with fail
  with_reducible refine (cnu.out _ g2 _ H.out hg2.out).mono ?_
  rintro e w10 ⟨rfl, hb⟩
  have hl1 := block_lt hp.out
  have hl2 := block_lt hq.out
  replace H := Lib.hid (H.out.below hb)
  replace hp := Lib.hid ((hb.block _ hl1).trans hp.out)
  replace hq := Lib.hid ((hb.block _ hl2).trans hq.out)
  replace hb0 := Lib.hid (hb0.out.trans (hb.mono hb0.out.size))
  replace hg3 := Lib.hid (hg3.out.below hb)
  clear hb hl1 hl2
  go_wp2_with fail
  with_reducible refine (cnu.out _ g3 _ H.out hg3.out).mono ?_
  rintro e w11 ⟨rfl, hb⟩
  have hl1 := block_lt hp.out
  have hl2 := block_lt hq.out
  replace H := Lib.hid (H.out.below hb)
  replace hp := Lib.hid ((hb.block _ hl1).trans hp.out)
  replace hq := Lib.hid ((hb.block _ hl2).trans hq.out)
  replace hb0 := Lib.hid (hb0.out.trans (hb.mono hb0.out.size))
  clear hb hl1 hl2
  obtain ⟨c0, c1, c2, c3, c4, c5⟩ := box6g hp.out
  go_wp2_with fail
  with_reducible refine (cwi.out _ H.out).mono ?_
  rintro e w12 ⟨rfl, hb⟩
  clear c0 c1 c2 c3 c4 c5
  have hl1 := block_lt hp.out
  have hl2 := block_lt hq.out
  replace H := Lib.hid (H.out.below hb)
  replace hp := Lib.hid ((hb.block _ hl1).trans hp.out)
  replace hq := Lib.hid ((hb.block _ hl2).trans hq.out)
  replace hb0 := Lib.hid (hb0.out.trans (hb.mono hb0.out.size))
  clear hb hl1 hl2
  obtain ⟨c0, c1, c2, c3, c4, c5⟩ := box6g hp.out
  go_wp2_with fail
  with_reducible refine (cbu.out _ H.out).mono ?_
  rintro e w13 ⟨rfl, hb⟩
  clear c0 c1 c2 c3 c4 c5
  have hl1 := block_lt hp.out
  have hl2 := block_lt hq.out
  replace H := Lib.hid (H.out.below hb)
  replace hp := Lib.hid ((hb.block _ hl1).trans hp.out)
  replace hq := Lib.hid ((hb.block _ hl2).trans hq.out)
  replace hb0 := Lib.hid (hb0.out.trans (hb.mono hb0.out.size))
  clear hb hl1 hl2
  go_wp2_with fail
  go_ret
  exact ⟨rfl, hb0.out⟩

set_option maxRecDepth 10000 in
set_option maxHeartbeats 16000000 in
theorem checks_right (h : badAt s n k d t r = none) (H : Errs 123 errGs w ea) (hT : TypeVar w) :
    Calls Tryd.prog 5 #[.agg #[.int .i64 s, .int .i64 n, .int .i64 k, .int .i64 d, .int .i64 t, .int .i64 r]] w fun e w' => e = .returned (.bool true) ∧ Below w.heap.size w w' := by
  have hok := badAt_ok h
  obtain ⟨hs, hn, hk, hd, ht, hr⟩ := id hok
  have hTb := total_bd s hs
  have hm : 0 ≤ t * (1 + r) ∧ t * (1 + r) ≤ 60000 := by
    have h1 : 0 ≤ t * (1 + r) := Int.mul_nonneg (by omega) (by omega)
    have h2 : t * (1 + r) ≤ t * 6 := Int.mul_le_mul_of_nonneg_left (by omega) (by omega)
    omega
  have hw1 : IntKind.i64.wrap (t * (1 + r)) = t * (1 + r) := IntWalk.i64_in _ (by omega)
  have hw2 : IntKind.i64.wrap (d + t * (1 + r)) = d + t * (1 + r) := IntWalk.i64_in _ (by omega)
  have hw3 : IntKind.i64.wrap (1 + r) = 1 + r := IntWalk.i64_in _ (by omega)
  clear hm
  have hb0 := Lib.hid ((Below.refl w.heap.size w).alloc (Nat.le_refl _) (.cells #[.int .i64 s, .int .i64 n, .int .i64 k, .int .i64 d, .int .i64 t, .int .i64 r] 24))
  have hp := Lib.hid (heap_alloc_new w (.cells #[.int .i64 s, .int .i64 n, .int .i64 k, .int .i64 d, .int .i64 t, .int .i64 r] 24))
  replace H := Lib.hid (par_of (H.below hb0.out))
  replace hT := Lib.hid (hT.below hb0.out)
  have hal := Lib.hid (alive15_any (pz ea) _ H.out hT.out)
  have crk := Lib.hid (fun W => rcheck_right s n k d t r W h)
  have cck := Lib.hid (fun W (H : ParErrs W (pz ea)) => check_lit s n k d t r hok (pz ea) W H)
  have cst := Lib.hid (fun W (H : ParErrs W (pz ea)) => stored_ok s n k d t r hok (pz ea) W H)
  have cpl := Lib.hid (fun W (H : ParErrs W (pz ea)) => plain_ok s n k d t r hok (pz ea) W H)
  have cby := Lib.hid (fun W (H : ParErrs W (pz ea)) => bytes_ok s n k d t r W hok (pz ea) H)
  have cwi := Lib.hid (fun W (H : ParErrs W (pz ea)) => window_ok s n k d t r W hok (pz ea) H)
  have cbu := Lib.hid (fun W (H : ParErrs W (pz ea)) => budget_ok s n k d t r W hok (pz ea) H)
  have crs := Lib.hid (fun W => rstored_any s n k d t r W hok)
  have crb := Lib.hid (fun W => rbytes_any s n k d t r W hok)
  have crt := Lib.hid (fun W => rtotal_some s hs W)
  clear h hok
  generalize totalOf s = T at *
  go_enter Tryd.func5, Tryd.ntmps5
  go_wp2_with fail
  with_reducible refine hal.out.mono ?_
  rintro e w1 ⟨rfl, hb⟩
  have hlt := block_lt hp.out
  have hpa := Lib.hid ((hb.block _ hlt).trans hp.out)
  have hb2 := hb.alloc hb.size (.cells #[.int .i64 s, .int .i64 n, .int .i64 k, .int .i64 d, .int .i64 t, .int .i64 r] 34)
  replace H := Lib.hid (H.out.below hb2)
  clear hT
  replace hp := Lib.hid ((hb2.block _ hlt).trans hp.out)
  have hq := Lib.hid (heap_alloc_new w1 (.cells #[.int .i64 s, .int .i64 n, .int .i64 k, .int .i64 d, .int .i64 t, .int .i64 r] 34))
  replace hb0 := Lib.hid (hb0.out.trans (hb2.mono hb0.out.size))
  clear hb hb2 hal hlt
  go_wp2_with (first | (refine wpList_load_row rfl 24 (.tmp 1) rfl w.heap.size #[.int .i64 s, .int .i64 n, .int .i64 k, .int .i64 d, .int .i64 t, .int .i64 r] _ rfl hpa Tryd.underlying24 rfl (by kernel_rfl) ?_) | (refine wpList_load_row rfl 34 (.tmp 3) rfl w1.heap.size #[.int .i64 s, .int .i64 n, .int .i64 k, .int .i64 d, .int .i64 t, .int .i64 r] _ rfl hq Tryd.underlying34 rfl (by kernel_rfl) ?_))
  with_reducible refine (crk.out _).mono ?_
  rintro e w2 ⟨rfl, hb⟩
  have hl1 := block_lt hp.out
  have hl2 := block_lt hq.out
  replace H := Lib.hid (H.out.below hb)
  replace hp := Lib.hid ((hb.block _ hl1).trans hp.out)
  replace hq := Lib.hid ((hb.block _ hl2).trans hq.out)
  replace hb0 := Lib.hid (hb0.out.trans (hb.mono hb0.out.size))
  clear hb hl1 hl2
  clear hpa
  go_wp2_with (first | (refine wpList_load_row rfl 24 (.tmp 1) rfl w.heap.size #[.int .i64 s, .int .i64 n, .int .i64 k, .int .i64 d, .int .i64 t, .int .i64 r] _ rfl hp Tryd.underlying24 rfl (by kernel_rfl) ?_) | (refine wpList_load_row rfl 34 (.tmp 3) rfl w1.heap.size #[.int .i64 s, .int .i64 n, .int .i64 k, .int .i64 d, .int .i64 t, .int .i64 r] _ rfl hq Tryd.underlying34 rfl (by kernel_rfl) ?_))
  with_reducible refine (cck.out _ H.out).mono ?_
  rintro e w3 ⟨rfl, hb⟩
  have hl1 := block_lt hp.out
  have hl2 := block_lt hq.out
  replace H := Lib.hid (H.out.below hb)
  replace hp := Lib.hid ((hb.block _ hl1).trans hp.out)
  replace hq := Lib.hid ((hb.block _ hl2).trans hq.out)
  replace hb0 := Lib.hid (hb0.out.trans (hb.mono hb0.out.size))
  clear hb hl1 hl2
  go_wp2_with fail
  with_reducible refine (field_nil _).mono ?_
  rintro e w4 ⟨rfl, hb⟩
  have hl1 := block_lt hp.out
  have hl2 := block_lt hq.out
  replace H := Lib.hid (H.out.below hb)
  replace hp := Lib.hid ((hb.block _ hl1).trans hp.out)
  replace hq := Lib.hid ((hb.block _ hl2).trans hq.out)
  replace hb0 := Lib.hid (hb0.out.trans (hb.mono hb0.out.size))
  clear hb hl1 hl2
  go_wp2_with fail
  with_reducible refine (num_nil _).mono ?_
  rintro e w5 ⟨rfl, rfl⟩
  go_wp2_with (first | (refine wpList_load_row rfl 24 (.tmp 1) rfl w.heap.size #[.int .i64 s, .int .i64 n, .int .i64 k, .int .i64 d, .int .i64 t, .int .i64 r] _ rfl hp Tryd.underlying24 rfl (by kernel_rfl) ?_) | (refine wpList_load_row rfl 34 (.tmp 3) rfl w1.heap.size #[.int .i64 s, .int .i64 n, .int .i64 k, .int .i64 d, .int .i64 t, .int .i64 r] _ rfl hq Tryd.underlying34 rfl (by kernel_rfl) ?_))
  with_reducible refine (cst.out _ H.out).mono ?_
  rintro e w6 ⟨rfl, hb⟩
  have hl1 := block_lt hp.out
  have hl2 := block_lt hq.out
  replace H := Lib.hid (H.out.below hb)
  replace hp := Lib.hid ((hb.block _ hl1).trans hp.out)
  replace hq := Lib.hid ((hb.block _ hl2).trans hq.out)
  replace hb0 := Lib.hid (hb0.out.trans (hb.mono hb0.out.size))
  clear hb hl1 hl2
  go_wp2_with (first | (refine wpList_load_row rfl 24 (.tmp 1) rfl w.heap.size #[.int .i64 s, .int .i64 n, .int .i64 k, .int .i64 d, .int .i64 t, .int .i64 r] _ rfl hp Tryd.underlying24 rfl (by kernel_rfl) ?_) | (refine wpList_load_row rfl 34 (.tmp 3) rfl w1.heap.size #[.int .i64 s, .int .i64 n, .int .i64 k, .int .i64 d, .int .i64 t, .int .i64 r] _ rfl hq Tryd.underlying34 rfl (by kernel_rfl) ?_))
  with_reducible refine (cpl.out _ H.out).mono ?_
  rintro e w7 ⟨rfl, hb⟩
  have hl1 := block_lt hp.out
  have hl2 := block_lt hq.out
  replace H := Lib.hid (H.out.below hb)
  replace hp := Lib.hid ((hb.block _ hl1).trans hp.out)
  replace hq := Lib.hid ((hb.block _ hl2).trans hq.out)
  replace hb0 := Lib.hid (hb0.out.trans (hb.mono hb0.out.size))
  clear hb hl1 hl2
  go_wp2_with (first | (refine wpList_load_row rfl 24 (.tmp 1) rfl w.heap.size #[.int .i64 s, .int .i64 n, .int .i64 k, .int .i64 d, .int .i64 t, .int .i64 r] _ rfl hp Tryd.underlying24 rfl (by kernel_rfl) ?_) | (refine wpList_load_row rfl 34 (.tmp 3) rfl w1.heap.size #[.int .i64 s, .int .i64 n, .int .i64 k, .int .i64 d, .int .i64 t, .int .i64 r] _ rfl hq Tryd.underlying34 rfl (by kernel_rfl) ?_))
  with_reducible refine (cby.out _ H.out).mono ?_
  rintro e w8 ⟨b8a, rfl, hA, hb⟩
  replace hA := Lib.hid hA
  have hl1 := block_lt hp.out
  have hl2 := block_lt hq.out
  replace H := Lib.hid (H.out.below hb)
  replace hp := Lib.hid ((hb.block _ hl1).trans hp.out)
  replace hq := Lib.hid ((hb.block _ hl2).trans hq.out)
  replace hb0 := Lib.hid (hb0.out.trans (hb.mono hb0.out.size))
  clear hb hl1 hl2
  obtain ⟨c0, c1, c2, c3, c4, c5⟩ := box6g hp.out
  go_wp2_with fail
  with_reducible refine (crt.out _).mono ?_
  rintro e w9 ⟨rfl, hb⟩
  clear c0 c1 c2 c3 c4 c5
  have hl1 := block_lt hp.out
  have hl2 := block_lt hq.out
  replace H := Lib.hid (H.out.below hb)
  replace hp := Lib.hid ((hb.block _ hl1).trans hp.out)
  replace hq := Lib.hid ((hb.block _ hl2).trans hq.out)
  replace hb0 := Lib.hid (hb0.out.trans (hb.mono hb0.out.size))
  replace hA := Lib.hid (hA.out.below hb)
  clear hb hl1 hl2
  go_wp2_with fail
  obtain ⟨f0, f1, f2, f3, f4, f5⟩ := farBox hp.out
  obtain ⟨q0, q1, q2, q3, q4, q5⟩ := farBox hq.out
  have kA := convE hA.out 9 (bytesL_length s n k d t r)
  refine wp_region_on (by kernel_rfl) (fun hOn => ?_)
  refine wpAnyH_take (i := 0) (v := ?_) (by simp only [List.getElem?_toArray, List.getElem?_cons_zero]; rfl) (by kernel_rfl) (by kernel_rfl) (by kernel_rfl) (by exact fun _ _ _ h => h) (Or.inl ⟨by rfl, ?_⟩) hOn ?_
  rotate_left
  focus (intro W hSW; go_simp; try with_reducible rfl)
  try simp only [Act.put, List.setIfInBounds_toArray, List.set_cons_zero, List.set_cons_succ]
  refine wpAnyH_take (i := 1) (v := ?_) (by simp only [List.getElem?_toArray, List.getElem?_cons_succ, List.getElem?_cons_zero]; rfl) (by kernel_rfl) (by kernel_rfl) (by kernel_rfl) (by exact fun _ _ _ h => h) (Or.inl ⟨by rfl, ?_⟩) hOn ?_
  rotate_left
  focus (intro W hSW; go_simp; try with_reducible rfl)
  try simp only [Act.put, List.setIfInBounds_toArray, List.set_cons_zero, List.set_cons_succ]
  refine wpAnyH_take (i := 2) (v := ?_) (by simp only [List.getElem?_toArray, List.getElem?_cons_succ, List.getElem?_cons_zero]; rfl) (by kernel_rfl) (by kernel_rfl) (by kernel_rfl) (by exact fun _ _ _ h => h) (Or.inl ⟨by rfl, ?_⟩) hOn ?_
  rotate_left
  focus (intro W hSW; go_simp; try with_reducible rfl)
  try simp only [Act.put, List.setIfInBounds_toArray, List.set_cons_zero, List.set_cons_succ]
  refine wpAnyH_take (i := 3) (v := ?_) (by simp only [List.getElem?_toArray, List.getElem?_cons_succ, List.getElem?_cons_zero]; rfl) (by kernel_rfl) (by kernel_rfl) (by kernel_rfl) (by exact fun _ _ _ h => h) (Or.inl ⟨by rfl, ?_⟩) hOn ?_
  rotate_left
  focus (intro W hSW; go_simp; try with_reducible rfl)
  try simp only [Act.put, List.setIfInBounds_toArray, List.set_cons_zero, List.set_cons_succ]
  refine wpAnyH_take (i := 4) (v := ?_) (by simp only [List.getElem?_toArray, List.getElem?_cons_succ, List.getElem?_cons_zero]; rfl) (by kernel_rfl) (by kernel_rfl) (by kernel_rfl) (by exact fun _ _ _ h => h) (Or.inl ⟨by rfl, ?_⟩) hOn ?_
  rotate_left
  focus (intro W hSW; go_simp; try with_reducible rfl)
  try simp only [Act.put, List.setIfInBounds_toArray, List.set_cons_zero, List.set_cons_succ]
  refine wpAnyH_take (i := 5) (v := ?_) (by simp only [List.getElem?_toArray, List.getElem?_cons_succ, List.getElem?_cons_zero]; rfl) (by kernel_rfl) (by kernel_rfl) (by kernel_rfl) (by exact fun _ _ _ h => h) (Or.inl ⟨by rfl, ?_⟩) hOn ?_
  rotate_left
  focus (intro W hSW; go_simp; try with_reducible rfl)
  try simp only [Act.put, List.setIfInBounds_toArray, List.set_cons_zero, List.set_cons_succ]
  refine wpAnyH_take (i := 6) (v := ?_) (by simp only [List.getElem?_toArray, List.getElem?_cons_succ, List.getElem?_cons_zero]; rfl) (by kernel_rfl) (by kernel_rfl) (by kernel_rfl) (by exact fun _ _ _ h => h) (Or.inl ⟨by rfl, ?_⟩) hOn ?_
  rotate_left
  focus (intro W hSW; go_simp; try with_reducible rfl)
  try simp only [Act.put, List.setIfInBounds_toArray, List.set_cons_zero, List.set_cons_succ]
  refine wpAnyH_take (i := 7) (v := ?_) (by simp only [List.getElem?_toArray, List.getElem?_cons_succ, List.getElem?_cons_zero]; rfl) (by kernel_rfl) (by kernel_rfl) (by kernel_rfl) (by exact fun _ _ _ h => h) (Or.inl ⟨by rfl, ?_⟩) hOn ?_
  rotate_left
  focus (intro W hSW; go_simp; try with_reducible rfl)
  try simp only [Act.put, List.setIfInBounds_toArray, List.set_cons_zero, List.set_cons_succ]
  refine wpAnyH_take (i := 8) (v := ?_) (by simp only [List.getElem?_toArray, List.getElem?_cons_succ, List.getElem?_cons_zero]; rfl) (by kernel_rfl) (by kernel_rfl) (by kernel_rfl) (by exact fun _ _ _ h => h) (Or.inl ⟨by rfl, ?_⟩) hOn ?_
  rotate_left
  focus (intro W hSW; go_simp; try with_reducible rfl)
  try simp only [Act.put, List.setIfInBounds_toArray, List.set_cons_zero, List.set_cons_succ]
  refine wpAnyH_take (i := 9) (v := ?_) (by simp only [List.getElem?_toArray, List.getElem?_cons_succ, List.getElem?_cons_zero]; rfl) (by kernel_rfl) (by kernel_rfl) (by kernel_rfl) (by exact fun _ _ _ h => h) (Or.inl ⟨by rfl, ?_⟩) hOn ?_
  rotate_left
  focus (intro W hSW; go_simp; try with_reducible rfl)
  try simp only [Act.put, List.setIfInBounds_toArray, List.set_cons_zero, List.set_cons_succ]
  refine wpAnyH_take (i := 10) (v := ?_) (by simp only [List.getElem?_toArray, List.getElem?_cons_succ, List.getElem?_cons_zero]; rfl) (by kernel_rfl) (by kernel_rfl) (by kernel_rfl) (by exact fun _ _ _ h => h) (Or.inl ⟨by rfl, ?_⟩) hOn ?_
  rotate_left
  focus (intro W hSW; go_simp; try with_reducible rfl)
  try simp only [Act.put, List.setIfInBounds_toArray, List.set_cons_zero, List.set_cons_succ]
  refine wpAnyH_take (i := 11) (v := ?_) (by simp only [List.getElem?_toArray, List.getElem?_cons_succ, List.getElem?_cons_zero]; rfl) (by kernel_rfl) (by kernel_rfl) (by kernel_rfl) (by exact fun _ _ _ h => h) (Or.inl ⟨by rfl, ?_⟩) hOn ?_
  rotate_left
  focus (intro W hSW; go_simp; try with_reducible rfl)
  try simp only [Act.put, List.setIfInBounds_toArray, List.set_cons_zero, List.set_cons_succ]
  refine wpAnyH_take (i := 12) (v := ?_) (by simp only [List.getElem?_toArray, List.getElem?_cons_succ, List.getElem?_cons_zero]; rfl) (by kernel_rfl) (by kernel_rfl) (by kernel_rfl) (by exact fun _ _ _ h => h) (Or.inl ⟨by rfl, ?_⟩) hOn ?_
  rotate_left
  focus (intro W hSW; go_simp; try with_reducible rfl)
  try simp only [Act.put, List.setIfInBounds_toArray, List.set_cons_zero, List.set_cons_succ]
  refine wpAnyH_ready (rs := [13]) (by kernel_rfl) (by simp) ?_
  refine AllReadyH.cons (by simp only [List.getElem?_toArray, List.getElem?_cons_succ, List.getElem?_cons_zero]; rfl) (fun K hK => ?_) AllReadyH.nil
  go_simp
  refine (crs.out _).mono ?_
  rintro e w10 ⟨rfl, hnew⟩
  have hw := Lib.hid (Below.trans hOn (hnew.mono hOn.size))
  replace H := Lib.hid (H.out.below hw.out)
  replace hA := Lib.hid (hA.out.below hw.out)
  replace hp := Lib.hid ((hw.out.block _ (block_lt hp.out)).trans hp.out)
  replace hq := Lib.hid ((hw.out.block _ (block_lt hq.out)).trans hq.out)
  replace hb0 := Lib.hid (hb0.out.trans (hw.out.mono hb0.out.size))
  clear f0 f1 f2 f3 f4 f5 q0 q1 q2 q3 q4 q5 kA
  obtain ⟨f0, f1, f2, f3, f4, f5⟩ := farBox hp.out
  obtain ⟨q0, q1, q2, q3, q4, q5⟩ := farBox hq.out
  have kA := convE hA.out 9 (bytesL_length s n k d t r)
  clear hw
  go_wp2_with fail
  refine hK.out _ _ (Grown.trans hOn hnew) (fun hNext => ?_)
  clear hK K hOn
  refine wpAnyH_onward hNext (fun hOn => ?_)
  clear hNext hnew
  try simp only [Act.put, List.setIfInBounds_toArray, List.set_cons_zero, List.set_cons_succ]
  refine wpAnyH_take (i := 14) (v := ?_) (by simp only [List.getElem?_toArray, List.getElem?_cons_succ, List.getElem?_cons_zero]; rfl) (by kernel_rfl) (by kernel_rfl) (by kernel_rfl) (by exact fun _ _ _ h => h) (Or.inl ⟨by rfl, ?_⟩) hOn ?_
  rotate_left
  focus (intro W hSW; go_simp; try with_reducible rfl)
  try simp only [Act.put, List.setIfInBounds_toArray, List.set_cons_zero, List.set_cons_succ]
  refine wpAnyH_take (i := 15) (v := ?_) (by simp only [List.getElem?_toArray, List.getElem?_cons_succ, List.getElem?_cons_zero]; rfl) (by kernel_rfl) (by kernel_rfl) (by kernel_rfl) (by exact fun _ _ _ h => h) (Or.inl ⟨by rfl, ?_⟩) hOn ?_
  rotate_left
  focus (intro W hSW; go_simp; try with_reducible rfl)
  try simp only [Act.put, List.setIfInBounds_toArray, List.set_cons_zero, List.set_cons_succ]
  refine wpAnyH_take (i := 16) (v := ?_) (by simp only [List.getElem?_toArray, List.getElem?_cons_succ, List.getElem?_cons_zero]; rfl) (by kernel_rfl) (by kernel_rfl) (by kernel_rfl) (by exact fun _ _ _ h => h) (Or.inl ⟨by rfl, ?_⟩) hOn ?_
  rotate_left
  focus (intro W hSW; go_simp; try with_reducible rfl)
  try simp only [Act.put, List.setIfInBounds_toArray, List.set_cons_zero, List.set_cons_succ]
  refine wpAnyH_take (i := 17) (v := ?_) (by simp only [List.getElem?_toArray, List.getElem?_cons_succ, List.getElem?_cons_zero]; rfl) (by kernel_rfl) (by kernel_rfl) (by kernel_rfl) (by exact fun _ _ _ h => h) (Or.inl ⟨by rfl, ?_⟩) hOn ?_
  rotate_left
  focus (intro W hSW; go_simp; try with_reducible rfl)
  try simp only [Act.put, List.setIfInBounds_toArray, List.set_cons_zero, List.set_cons_succ]
  refine wpAnyH_take (i := 18) (v := ?_) (by simp only [List.getElem?_toArray, List.getElem?_cons_succ, List.getElem?_cons_zero]; rfl) (by kernel_rfl) (by kernel_rfl) (by kernel_rfl) (by exact fun _ _ _ h => h) (Or.inl ⟨by rfl, ?_⟩) hOn ?_
  rotate_left
  focus (intro W hSW; go_simp; try with_reducible rfl)
  try simp only [Act.put, List.setIfInBounds_toArray, List.set_cons_zero, List.set_cons_succ]
  refine wpAnyH_take (i := 19) (v := ?_) (by simp only [List.getElem?_toArray, List.getElem?_cons_succ, List.getElem?_cons_zero]; rfl) (by kernel_rfl) (by kernel_rfl) (by kernel_rfl) (by exact fun _ _ _ h => h) (Or.inl ⟨by rfl, ?_⟩) hOn ?_
  rotate_left
  focus (intro W hSW; go_simp; try with_reducible rfl)
  try simp only [Act.put, List.setIfInBounds_toArray, List.set_cons_zero, List.set_cons_succ]
  refine wpAnyH_take (i := 20) (v := ?_) (by simp only [List.getElem?_toArray, List.getElem?_cons_succ, List.getElem?_cons_zero]; rfl) (by kernel_rfl) (by kernel_rfl) (by kernel_rfl) (by exact fun _ _ _ h => h) (Or.inl ⟨by rfl, ?_⟩) hOn ?_
  rotate_left
  focus (intro W hSW; go_simp; try with_reducible rfl)
  try simp only [Act.put, List.setIfInBounds_toArray, List.set_cons_zero, List.set_cons_succ]
  refine wpAnyH_take (i := 21) (v := ?_) (by simp only [List.getElem?_toArray, List.getElem?_cons_succ, List.getElem?_cons_zero]; rfl) (by kernel_rfl) (by kernel_rfl) (by kernel_rfl) (by exact fun _ _ _ h => h) (Or.inl ⟨by rfl, ?_⟩) hOn ?_
  rotate_left
  focus (intro W hSW; go_simp; try with_reducible rfl)
  try simp only [Act.put, List.setIfInBounds_toArray, List.set_cons_zero, List.set_cons_succ]
  refine wpAnyH_take (i := 22) (v := ?_) (by simp only [List.getElem?_toArray, List.getElem?_cons_succ, List.getElem?_cons_zero]; rfl) (by kernel_rfl) (by kernel_rfl) (by kernel_rfl) (by exact fun _ _ _ h => h) (Or.inl ⟨by rfl, ?_⟩) hOn ?_
  rotate_left
  focus (intro W hSW; go_simp; try with_reducible rfl)
  try simp only [Act.put, List.setIfInBounds_toArray, List.set_cons_zero, List.set_cons_succ]
  refine wpAnyH_take (i := 23) (v := ?_) (by simp only [List.getElem?_toArray, List.getElem?_cons_succ, List.getElem?_cons_zero]; rfl) (by kernel_rfl) (by kernel_rfl) (by kernel_rfl) (by exact fun _ _ _ h => h) (Or.inl ⟨by rfl, ?_⟩) hOn ?_
  rotate_left
  focus (intro W hSW; go_simp; try with_reducible rfl)
  try simp only [Act.put, List.setIfInBounds_toArray, List.set_cons_zero, List.set_cons_succ]
  refine wpAnyH_take (i := 24) (v := ?_) (by simp only [List.getElem?_toArray, List.getElem?_cons_succ, List.getElem?_cons_zero]; rfl) (by kernel_rfl) (by kernel_rfl) (by kernel_rfl) (by exact fun _ _ _ h => h) (Or.inl ⟨by rfl, ?_⟩) hOn ?_
  rotate_left
  focus (intro W hSW; go_simp; try with_reducible rfl)
  try simp only [Act.put, List.setIfInBounds_toArray, List.set_cons_zero, List.set_cons_succ]
  refine wpAnyH_ready (rs := [25]) (by kernel_rfl) (by simp) ?_
  refine AllReadyH.cons (by simp only [List.getElem?_toArray, List.getElem?_cons_succ, List.getElem?_cons_zero]; rfl) (fun K hK => ?_) AllReadyH.nil
  go_simp
  refine (crb.out _).mono ?_
  rintro e w11 ⟨b9a, rfl, hB, hnew⟩
  have hw := Lib.hid (Below.trans hOn (hnew.mono hOn.size))
  replace H := Lib.hid (H.out.below hw.out)
  replace hA := Lib.hid (hA.out.below hw.out)
  replace hp := Lib.hid ((hw.out.block _ (block_lt hp.out)).trans hp.out)
  replace hq := Lib.hid ((hw.out.block _ (block_lt hq.out)).trans hq.out)
  replace hb0 := Lib.hid (hb0.out.trans (hw.out.mono hb0.out.size))
  clear f0 f1 f2 f3 f4 f5 q0 q1 q2 q3 q4 q5 kA
  obtain ⟨f0, f1, f2, f3, f4, f5⟩ := farBox hp.out
  obtain ⟨q0, q1, q2, q3, q4, q5⟩ := farBox hq.out
  have kA := convE hA.out 9 (bytesL_length s n k d t r)
  have kB := convE hB 9 (bytesL_length s n k d t r)
  clear hw
  go_wp2_with fail
  refine hK.out _ _ (Grown.trans hOn hnew) (fun hNext => ?_)
  clear hK K hOn
  refine wpAnyH_onward hNext (fun hOn => ?_)
  clear hNext hnew
  try simp only [Act.put, List.setIfInBounds_toArray, List.set_cons_zero, List.set_cons_succ]
  refine wpAnyH_take (i := 26) (v := ?_) (by simp only [List.getElem?_toArray, List.getElem?_cons_succ, List.getElem?_cons_zero]; rfl) (by kernel_rfl) (by kernel_rfl) (by kernel_rfl) (by exact fun _ _ _ h => h) (Or.inl ⟨by rfl, ?_⟩) hOn ?_
  rotate_left
  focus (intro W hSW; go_simp; try with_reducible rfl)
  try simp only [Act.put, List.setIfInBounds_toArray, List.set_cons_zero, List.set_cons_succ]
  refine wpAnyH_take (i := 27) (v := ?_) (by simp only [List.getElem?_toArray, List.getElem?_cons_succ, List.getElem?_cons_zero]; rfl) (by kernel_rfl) (by kernel_rfl) (by kernel_rfl) (by exact fun _ _ _ h => h) (Or.inl ⟨by rfl, ?_⟩) hOn ?_
  rotate_left
  focus (intro W hSW; go_simp; try with_reducible rfl)
  try simp only [Act.put, List.setIfInBounds_toArray, List.set_cons_zero, List.set_cons_succ]
  refine wpAnyH_take (i := 28) (v := ?_) (by simp only [List.getElem?_toArray, List.getElem?_cons_succ, List.getElem?_cons_zero]; rfl) (by kernel_rfl) (by kernel_rfl) (by kernel_rfl) (by exact fun _ _ _ h => h) (Or.inl ⟨by rfl, ?_⟩) hOn ?_
  rotate_left
  focus (intro W hSW; go_simp; try with_reducible rfl)
  try simp only [Act.put, List.setIfInBounds_toArray, List.set_cons_zero, List.set_cons_succ]
  refine wpAnyH_take (i := 29) (v := ?_) (by simp only [List.getElem?_toArray, List.getElem?_cons_succ, List.getElem?_cons_zero]; rfl) (by kernel_rfl) (by kernel_rfl) (by kernel_rfl) (by exact fun _ _ _ h => h) (Or.inl ⟨by rfl, ?_⟩) hOn ?_
  rotate_left
  focus (intro W hSW; go_simp; try with_reducible rfl)
  try simp only [Act.put, List.setIfInBounds_toArray, List.set_cons_zero, List.set_cons_succ]
  refine wpAnyH_take (i := 30) (v := ?_) (by simp only [List.getElem?_toArray, List.getElem?_cons_succ, List.getElem?_cons_zero]; rfl) (by kernel_rfl) (by kernel_rfl) (by kernel_rfl) (by exact fun _ _ _ h => h) (Or.inl ⟨by rfl, ?_⟩) hOn ?_
  rotate_left
  focus (intro W hSW; go_simp; try with_reducible rfl)
  try simp only [Act.put, List.setIfInBounds_toArray, List.set_cons_zero, List.set_cons_succ]
  refine wpAnyH_take (i := 32) (v := ?_) (by simp only [List.getElem?_toArray, List.getElem?_cons_succ, List.getElem?_cons_zero]; rfl) (by kernel_rfl) (by kernel_rfl) (by kernel_rfl) (by exact fun _ _ _ h => h) (Or.inl ⟨by rfl, ?_⟩) hOn ?_
  rotate_left
  focus (intro W hSW; go_simp; try with_reducible rfl)
  try simp only [Act.put, List.setIfInBounds_toArray, List.set_cons_zero, List.set_cons_succ]
  refine wpAnyH_take (i := 33) (v := ?_) (by simp only [List.getElem?_toArray, List.getElem?_cons_succ, List.getElem?_cons_zero]; rfl) (by kernel_rfl) (by kernel_rfl) (by kernel_rfl) (by exact fun _ _ _ h => h) (Or.inl ⟨by rfl, ?_⟩) hOn ?_
  rotate_left
  focus (intro W hSW; go_simp; try with_reducible rfl)
  try simp only [Act.put, List.setIfInBounds_toArray, List.set_cons_zero, List.set_cons_succ]
  refine wpAnyH_take (i := 34) (v := ?_) (by simp only [List.getElem?_toArray, List.getElem?_cons_succ, List.getElem?_cons_zero]; rfl) (by kernel_rfl) (by kernel_rfl) (by kernel_rfl) (by exact fun _ _ _ h => h) (Or.inl ⟨by rfl, ?_⟩) hOn ?_
  rotate_left
  focus (intro W hSW; go_simp; try with_reducible rfl)
  try simp only [Act.put, List.setIfInBounds_toArray, List.set_cons_zero, List.set_cons_succ]
  refine wpAnyH_take (i := 35) (v := ?_) (by simp only [List.getElem?_toArray, List.getElem?_cons_succ, List.getElem?_cons_zero]; rfl) (by kernel_rfl) (by kernel_rfl) (by kernel_rfl) (by exact fun _ _ _ h => h) (Or.inl ⟨by rfl, ?_⟩) hOn ?_
  rotate_left
  focus (intro W hSW; go_simp; try with_reducible rfl)
  try simp only [Act.put, List.setIfInBounds_toArray, List.set_cons_zero, List.set_cons_succ]
  refine wpAnyH_take (i := 36) (v := ?_) (by simp only [List.getElem?_toArray, List.getElem?_cons_succ, List.getElem?_cons_zero]; rfl) (by kernel_rfl) (by kernel_rfl) (by kernel_rfl) (by exact fun _ _ _ h => h) (Or.inl ⟨by rfl, ?_⟩) hOn ?_
  rotate_left
  focus (intro W hSW; go_simp; try with_reducible rfl)
  try simp only [Act.put, List.setIfInBounds_toArray, List.set_cons_zero, List.set_cons_succ]
  refine wpAnyH_take (i := 37) (v := ?_) (by simp only [List.getElem?_toArray, List.getElem?_cons_succ, List.getElem?_cons_zero]; rfl) (by kernel_rfl) (by kernel_rfl) (by kernel_rfl) (by exact fun _ _ _ h => h) (Or.inl ⟨by rfl, ?_⟩) hOn ?_
  rotate_left
  focus (intro W hSW; go_simp; try with_reducible rfl)
  try simp only [Act.put, List.setIfInBounds_toArray, List.set_cons_zero, List.set_cons_succ]
  refine wpAnyH_take (i := 38) (v := ?_) (by simp only [List.getElem?_toArray, List.getElem?_cons_succ, List.getElem?_cons_zero]; rfl) (by kernel_rfl) (by kernel_rfl) (by kernel_rfl) (by exact fun _ _ _ h => h) (Or.inl ⟨by rfl, ?_⟩) hOn ?_
  rotate_left
  focus (intro W hSW; go_simp; try with_reducible rfl)
  try simp only [Act.put, List.setIfInBounds_toArray, List.set_cons_zero, List.set_cons_succ]
  refine wpAnyH_take (i := 39) (v := ?_) (by simp only [List.getElem?_toArray, List.getElem?_cons_succ, List.getElem?_cons_zero]; rfl) (by kernel_rfl) (by kernel_rfl) (by kernel_rfl) (by exact fun _ _ _ h => h) (Or.inl ⟨by rfl, ?_⟩) hOn ?_
  rotate_left
  focus (intro W hSW; go_simp; try with_reducible rfl)
  try simp only [Act.put, List.setIfInBounds_toArray, List.set_cons_zero, List.set_cons_succ]
  refine wpAnyH_take (i := 40) (v := ?_) (by simp only [List.getElem?_toArray, List.getElem?_cons_succ, List.getElem?_cons_zero]; rfl) (by kernel_rfl) (by kernel_rfl) (by kernel_rfl) (by exact fun _ _ _ h => h) (Or.inl ⟨by rfl, ?_⟩) hOn ?_
  rotate_left
  focus (intro W hSW; go_simp; try with_reducible rfl)
  try simp only [Act.put, List.setIfInBounds_toArray, List.set_cons_zero, List.set_cons_succ]
  refine wpAnyH_ready (rs := [31]) (by kernel_rfl) (by simp) ?_
  refine AllReadyH.cons (by simp only [List.getElem?_toArray, List.getElem?_cons_succ, List.getElem?_cons_zero]; rfl) (fun K hK => ?_) AllReadyH.nil
  go_simp
  refine (cwi.out _ (H.out.below hOn)).mono ?_
  rintro e w12 ⟨rfl, hnew⟩
  have hw := Lib.hid (Below.trans hOn (hnew.mono hOn.size))
  replace H := Lib.hid (H.out.below hw.out)
  replace hp := Lib.hid ((hw.out.block _ (block_lt hp.out)).trans hp.out)
  replace hb0 := Lib.hid (hb0.out.trans (hw.out.mono hb0.out.size))
  clear f0 f1 f2 f3 f4 f5
  obtain ⟨f0, f1, f2, f3, f4, f5⟩ := farBox hp.out
  clear hw
  go_wp2_with fail
  refine hK.out _ _ (Grown.trans hOn hnew) (fun hNext => ?_)
  clear hK K hOn
  refine wpAnyH_onward hNext (fun hOn => ?_)
  clear hNext hnew
  try simp only [Act.put, List.setIfInBounds_toArray, List.set_cons_zero, List.set_cons_succ]
  refine wpAnyH_take (i := 41) (v := ?_) (by simp only [List.getElem?_toArray, List.getElem?_cons_succ, List.getElem?_cons_zero]; rfl) (by kernel_rfl) (by kernel_rfl) (by kernel_rfl) (by exact fun _ _ _ h => h) (Or.inl ⟨by rfl, ?_⟩) hOn ?_
  rotate_left
  focus (intro W hSW; go_simp; try with_reducible rfl)
  try simp only [Act.put, List.setIfInBounds_toArray, List.set_cons_zero, List.set_cons_succ]
  refine wpAnyH_take (i := 42) (v := ?_) (by simp only [List.getElem?_toArray, List.getElem?_cons_succ, List.getElem?_cons_zero]; rfl) (by kernel_rfl) (by kernel_rfl) (by kernel_rfl) (by exact fun _ _ _ h => h) (Or.inl ⟨by rfl, ?_⟩) hOn ?_
  rotate_left
  focus (intro W hSW; go_simp; try with_reducible rfl)
  try simp only [Act.put, List.setIfInBounds_toArray, List.set_cons_zero, List.set_cons_succ]
  refine wpAnyH_take (i := 43) (v := ?_) (by simp only [List.getElem?_toArray, List.getElem?_cons_succ, List.getElem?_cons_zero]; rfl) (by kernel_rfl) (by kernel_rfl) (by kernel_rfl) (by exact fun _ _ _ h => h) (Or.inl ⟨by rfl, ?_⟩) hOn ?_
  rotate_left
  focus (intro W hSW; go_simp; try with_reducible rfl)
  try simp only [Act.put, List.setIfInBounds_toArray, List.set_cons_zero, List.set_cons_succ]
  refine wpAnyH_take (i := 44) (v := ?_) (by simp only [List.getElem?_toArray, List.getElem?_cons_succ, List.getElem?_cons_zero]; rfl) (by kernel_rfl) (by kernel_rfl) (by kernel_rfl) (by exact fun _ _ _ h => h) (Or.inl ⟨by rfl, ?_⟩) hOn ?_
  rotate_left
  focus (intro W hSW; go_simp; try with_reducible rfl)
  try simp only [Act.put, List.setIfInBounds_toArray, List.set_cons_zero, List.set_cons_succ]
  refine wpAnyH_take (i := 46) (v := ?_) (by simp only [List.getElem?_toArray, List.getElem?_cons_succ, List.getElem?_cons_zero]; rfl) (by kernel_rfl) (by kernel_rfl) (by kernel_rfl) (by exact fun _ _ _ h => h) (Or.inl ⟨by rfl, ?_⟩) hOn ?_
  rotate_left
  focus (intro W hSW; go_simp; try with_reducible rfl)
  try simp only [Act.put, List.setIfInBounds_toArray, List.set_cons_zero, List.set_cons_succ]
  refine wpAnyH_take (i := 47) (v := ?_) (by simp only [List.getElem?_toArray, List.getElem?_cons_succ, List.getElem?_cons_zero]; rfl) (by kernel_rfl) (by kernel_rfl) (by kernel_rfl) (by exact fun _ _ _ h => h) (Or.inl ⟨by rfl, ?_⟩) hOn ?_
  rotate_left
  focus (intro W hSW; go_simp; try with_reducible rfl)
  try simp only [Act.put, List.setIfInBounds_toArray, List.set_cons_zero, List.set_cons_succ]
  refine wpAnyH_ready (rs := [45]) (by kernel_rfl) (by simp) ?_
  refine AllReadyH.cons (by simp only [List.getElem?_toArray, List.getElem?_cons_succ, List.getElem?_cons_zero]; rfl) (fun K hK => ?_) AllReadyH.nil
  go_simp
  refine (cbu.out _ (H.out.below hOn)).mono ?_
  rintro e w13 ⟨rfl, hnew⟩
  have hw := Lib.hid (Below.trans hOn (hnew.mono hOn.size))
  replace hp := Lib.hid ((hw.out.block _ (block_lt hp.out)).trans hp.out)
  replace hb0 := Lib.hid (hb0.out.trans (hw.out.mono hb0.out.size))
  clear f0 f1 f2 f3 f4 f5
  obtain ⟨f0, f1, f2, f3, f4, f5⟩ := farBox hp.out
  clear hw
  go_wp2_with fail
  refine hK.out _ _ (Grown.trans hOn hnew) (fun hNext => ?_)
  clear hK K hOn
  refine wpAnyH_onward hNext (fun hOn => ?_)
  clear hNext hnew
  try simp only [Act.put, List.setIfInBounds_toArray, List.set_cons_zero, List.set_cons_succ]
  refine wpAnyH_take (i := 48) (v := ?_) (by simp only [List.getElem?_toArray, List.getElem?_cons_succ, List.getElem?_cons_zero]; rfl) (by kernel_rfl) (by kernel_rfl) (by kernel_rfl) (by exact fun _ _ _ h => h) (Or.inl ⟨by rfl, ?_⟩) hOn ?_
  rotate_left
  focus (intro W hSW; go_simp; try with_reducible rfl)
  try simp only [Act.put, List.setIfInBounds_toArray, List.set_cons_zero, List.set_cons_succ]
  refine wpAnyH_take (i := 49) (v := ?_) (by simp only [List.getElem?_toArray, List.getElem?_cons_succ, List.getElem?_cons_zero]; rfl) (by kernel_rfl) (by kernel_rfl) (by kernel_rfl) (by exact fun _ _ _ h => h) (Or.inl ⟨by rfl, ?_⟩) hOn ?_
  rotate_left
  focus (intro W hSW; go_simp; try with_reducible rfl)
  try simp only [Act.put, List.setIfInBounds_toArray, List.set_cons_zero, List.set_cons_succ]
  refine wpAnyH_take (i := 50) (v := ?_) (by simp only [List.getElem?_toArray, List.getElem?_cons_succ, List.getElem?_cons_zero]; rfl) (by kernel_rfl) (by kernel_rfl) (by kernel_rfl) (by exact fun _ _ _ h => h) (Or.inl ⟨by rfl, ?_⟩) hOn ?_
  rotate_left
  focus (intro W hSW; go_simp; try with_reducible rfl)
  try simp only [Act.put, List.setIfInBounds_toArray, List.set_cons_zero, List.set_cons_succ]
  refine wpAnyH_done (by kernel_rfl) ?_ _
  all_goals
    go_wp2_with fail
    go_ret
    exact ⟨rfl, hb0.out⟩

theorem checks_walk (_ : (Lit.int .i64 s).wf = true) (hn : (Lit.int .i64 n).wf = true) (_ : (Lit.int .i64 k).wf = true) (_ : (Lit.int .i64 d).wf = true) (_ : (Lit.int .i64 t).wf = true) (_ : (Lit.int .i64 r).wf = true) (H : Errs 123 errGs w ea) (hT : TypeVar w) :
    Calls Tryd.prog 5 #[.agg #[.int .i64 s, .int .i64 n, .int .i64 k, .int .i64 d, .int .i64 t, .int .i64 r]] w fun e w' => e = .returned (.bool true) ∧ Below w.heap.size w w' := by
  have hnl : -9223372036854775808 ≤ n ∧ n ≤ 9223372036854775807 := by simpa [Lit.wf, IntKind.min, IntKind.max, IntKind.signed, IntKind.bits] using hn
  cases h : badAt s n k d t r with
  | none => exact checks_right s n k d t r ea w h H hT
  | some x =>
    obtain ⟨F, V, i⟩ := x
    exact checks_wrong s n k d t r F V i ea w h hnl H hT
end
end Go.Proofs.YtebfjpagecakjaaDoor
