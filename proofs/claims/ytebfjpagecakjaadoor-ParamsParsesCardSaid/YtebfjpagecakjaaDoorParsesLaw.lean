/- The walk over ParamsParses. -/
import Derived.Test.YtebfjpagecakjaaDoorParse
import Derived.Test.YtebfjpagecakjaaDoorRParse
import Derived.Test.YtebfjpagecakjaaDoorEnum
namespace Go.Proofs.YtebfjpagecakjaaDoor
open Go.RowKit


/-- The byte at a place; the two bytes of a number. -/
def by1 (bs : List UInt8) (i : Nat) : Int := ((bs.getD i 0).toNat : Int)
def by2 (bs : List UInt8) (i : Nat) : Int := by1 bs i * 256 + by1 bs (i + 1)
def badOf (bs : List UInt8) : Option (ByteArray × Int × Nat) := badAt (by2 bs 0) (by1 bs 2) (by1 bs 3) (by2 bs 4) (by2 bs 6) (by1 bs 8)
/-- What Parse answers: the six numbers, the error's number. -/
def p6 (bs : List UInt8) (j : Nat) : Int := if bs.length = 9 ∧ badOf bs = none then [by2 bs 0, by1 bs 2, by1 bs 3, by2 bs 4, by2 bs 6, by1 bs 8].getD j 0 else 0
def nOf (bs : List UInt8) : Int := if bs.length = 9 then (match badOf bs with | some (_, _, i) => ((i + 1 : Nat) : Int) | none => 0) else 8
theorem p6_zero {bs : List UInt8} (h : ¬ (bs.length = 9 ∧ badOf bs = none)) (j : Nat) : p6 bs j = 0 := by unfold p6; rw [if_neg h]

theorem p6_val {bs : List UInt8} (h : bs.length = 9 ∧ badOf bs = none) (j : Nat) : p6 bs j = [by2 bs 0, by1 bs 2, by1 bs 3, by2 bs 4, by2 bs 6, by1 bs 8].getD j 0 := by unfold p6; rw [if_pos h]

/-- Num answers so of this error. -/
def ErrIs (w : World) (ea : Nat → Addr) (y : Value) (n : Int) : Prop := ∀ W, Grown w W → Errs 123 errGs W ea → Calls Tryd.prog 13 #[y] W fun e w' => e = .returned (.int .i64 n) ∧ Below W.heap.size W w'
theorem ErrIs.below {w W : World} {ea : Nat → Addr} {y : Value} {n : Int} (h : ErrIs w ea y n) (hb : Grown w W) : ErrIs W ea y n := fun W' hW => h W' (Grown.trans hb hW)

theorem arg_cell {w : World} {a : Option Addr} {c : Nat} {bs : List UInt8} (h : ArgB w a c bs) (hl : 0 < bs.length) : ∃ b off, a = some ⟨b, off, none⟩ ∧ ∀ i, i < bs.length → w.cell? ⟨b, off + i, none⟩ = some (.int .u8 ((bs.getD i 0).toNat : Int)) := by
  obtain ⟨b, off, rfl, _⟩ := h.row 0 hl
  refine ⟨b, off, rfl, fun i hi => ?_⟩
  obtain ⟨b', off', e, hc⟩ := h.row i hi
  cases e
  exact hc

theorem parse_spec (a : Option Addr) (c : Nat) (bs : List UInt8) (ea : Nat → Addr) (w : World) (h : ArgB w a c bs) (H : Errs 123 errGs w ea) :
    Calls Tryd.prog 11 #[.slice a bs.length c] w fun e w' => ∃ y, e = .returned (.tuple #[.agg #[.int .i64 (p6 bs 0), .int .i64 (p6 bs 1), .int .i64 (p6 bs 2), .int .i64 (p6 bs 3), .int .i64 (p6 bs 4), .int .i64 (p6 bs 5)], y]) ∧ ErrIs w' ea y (nOf bs) ∧ Below w.heap.size w w' := by
  by_cases hl : bs.length = 9
  · obtain ⟨b, off, rfl, hc⟩ := arg_cell h (by omega)
    have hcap := h.len
    have c0 := hc 0 (by omega)
    cases hB : badOf bs with
    | none =>
      have := parse_right b off c (bs.getD 0 0) (bs.getD 1 0) (bs.getD 2 0) (bs.getD 3 0) (bs.getD 4 0) (bs.getD 5 0) (bs.getD 6 0) (bs.getD 7 0) (bs.getD 8 0) (by omega) w hB (pz ea) (par_of H) (hc 0 (by omega)) (hc 1 (by omega)) (hc 2 (by omega)) (hc 3 (by omega)) (hc 4 (by omega)) (hc 5 (by omega)) (hc 6 (by omega)) (hc 7 (by omega)) (hc 8 (by omega))
      rw [hl]
      refine Calls.mono this ?_
      rintro e w' ⟨rfl, hb⟩
      refine ⟨.nilIface, ?_, ?_, hb⟩
      · simp only [p6_val ⟨hl, hB⟩]
        rfl
      · unfold nOf
        rw [if_pos hl, hB]
        exact fun W _ _ => (num_nil W).mono fun e w' h => ⟨h.1, h.2 ▸ Below.refl _ _⟩
    | some x =>
      obtain ⟨F, V, i⟩ := x
      have := parse_wrong b off c (bs.getD 0 0) (bs.getD 1 0) (bs.getD 2 0) (bs.getD 3 0) (bs.getD 4 0) (bs.getD 5 0) (bs.getD 6 0) (bs.getD 7 0) (bs.getD 8 0) (by omega) w F V i hB ea H (hc 0 (by omega)) (hc 1 (by omega)) (hc 2 (by omega)) (hc 3 (by omega)) (hc 4 (by omega)) (hc 5 (by omega)) (hc 6 (by omega)) (hc 7 (by omega)) (hc 8 (by omega))
      rw [hl]
      refine Calls.mono this ?_
      rintro e w' ⟨g, rfl, hg, hb⟩
      have hz : ¬ (bs.length = 9 ∧ badOf bs = none) := fun q => by rw [hB] at q; cases q.2
      refine ⟨.iface 56 (.pointer (some ⟨g, 0, none⟩)), ?_, ?_, hb⟩
      · simp only [p6_zero hz]
      · unfold nOf
        rw [if_pos hl, hB]
        exact fun W hW HW => num_wrap g F V i (badAt_lt hB) ea W HW ((hW.block g (block_lt hg.2)).trans hg.2)
  · have := parse_len a bs.length c hl (ea 7) w (H.var 7 (by decide))
    refine Calls.mono this ?_
    rintro e w' ⟨rfl, hb⟩
    have hz : ¬ (bs.length = 9 ∧ badOf bs = none) := fun q => hl q.1
    refine ⟨.iface 123 (.pointer (some (ea 7))), ?_, ?_, hb⟩
    · simp only [p6_zero hz]
    · unfold nOf
      rw [if_neg hl]
      exact fun W _ HW => num_err 7 (by omega) ea W HW

theorem rparse_spec (a : Option Addr) (c : Nat) (bs : List UInt8) (w : World) (h : ArgB w a c bs) :
    Calls Tryd.prog 12 #[.slice a bs.length c] w fun e w' => e = .returned (.tuple #[.agg #[.int .i64 (p6 bs 0), .int .i64 (p6 bs 1), .int .i64 (p6 bs 2), .int .i64 (p6 bs 3), .int .i64 (p6 bs 4), .int .i64 (p6 bs 5)], .int .i64 (nOf bs)]) ∧ Below w.heap.size w w' := by
  by_cases hl : bs.length = 9
  · obtain ⟨b, off, rfl, hc⟩ := arg_cell h (by omega)
    have hcap := h.len
    have c0 := hc 0 (by omega)
    have := rparse_nine b off c (bs.getD 0 0) (bs.getD 1 0) (bs.getD 2 0) (bs.getD 3 0) (bs.getD 4 0) (bs.getD 5 0) (bs.getD 6 0) (bs.getD 7 0) (bs.getD 8 0) (by omega) w (badOf bs) rfl (hc 0 (by omega)) (hc 1 (by omega)) (hc 2 (by omega)) (hc 3 (by omega)) (hc 4 (by omega)) (hc 5 (by omega)) (hc 6 (by omega)) (hc 7 (by omega)) (hc 8 (by omega))
    rw [hl]
    refine Calls.mono this ?_
    rintro e w' ⟨rfl, hb⟩
    refine ⟨?_, hb⟩
    cases hB : badOf bs with
    | none =>
      simp only [p6_val ⟨hl, hB⟩]
      unfold nOf
      rw [if_pos hl, hB]
      rfl
    | some x =>
      obtain ⟨F, V, i⟩ := x
      have hz : ¬ (bs.length = 9 ∧ badOf bs = none) := fun q => by rw [hB] at q; cases q.2
      simp only [p6_zero hz]
      unfold nOf
      rw [if_pos hl, hB]
      rfl
  · have := rparse_len a bs.length c hl w
    refine Calls.mono this ?_
    rintro e w' ⟨rfl, hb⟩
    have hz : ¬ (bs.length = 9 ∧ badOf bs = none) := fun q => hl q.1
    refine ⟨?_, hb⟩
    simp only [p6_zero hz]
    unfold nOf
    rw [if_neg hl]

/-- Parse of right parameters' bytes. -/
theorem parse_back (s n k d t r : Int) (h : badAt s n k d t r = none) (b : Nat) (w : World) (hA : ArgB w (some ⟨b, 0, none⟩) 9 (bytesL s n k d t r)) (ea : Nat → Addr) (H : Errs 123 errGs w ea) :
    Calls Tryd.prog 11 #[.slice (some ⟨b, 0, none⟩) 9 9] w fun e w' => e = .returned (.tuple #[.agg #[.int .i64 s, .int .i64 n, .int .i64 k, .int .i64 d, .int .i64 t, .int .i64 r], .nilIface]) ∧ Below w.heap.size w w' := by
  obtain ⟨hs, hn, hk, hd, ht, hr⟩ := badAt_ok h
  obtain ⟨b', off, e, hc⟩ := arg_cell hA (by simp [bytesL])
  cases e
  have v1 : ((b8 (s / 256)).toNat : Int) * 256 + (b8 s).toNat = s := by rw [b8_val (s / 256) (by omega), b8_mod s]; omega
  have v2 : ((b8 (d / 256)).toNat : Int) * 256 + (b8 d).toNat = d := by rw [b8_val (d / 256) (by omega), b8_mod d]; omega
  have v3 : ((b8 (t / 256)).toNat : Int) * 256 + (b8 t).toNat = t := by rw [b8_val (t / 256) (by omega), b8_mod t]; omega
  have v4 := b8_val n (by omega)
  have v5 := b8_val k (by omega)
  have v6 := b8_val r (by omega)
  have hh : badAt (((b8 (s / 256)).toNat : Int) * 256 + (b8 s).toNat) ((b8 n).toNat : Int) ((b8 k).toNat : Int) (((b8 (d / 256)).toNat : Int) * 256 + (b8 d).toNat) (((b8 (t / 256)).toNat : Int) * 256 + (b8 t).toNat) ((b8 r).toNat : Int) = none := by rw [v1, v2, v3, v4, v5, v6]; exact h
  have := parse_right b 0 9 (b8 (s / 256)) (b8 s) (b8 n) (b8 k) (b8 (d / 256)) (b8 d) (b8 (t / 256)) (b8 t) (b8 r) (by omega) w hh (pz ea) (par_of H) (hc 0 (by simp [bytesL])) (hc 1 (by simp [bytesL])) (hc 2 (by simp [bytesL])) (hc 3 (by simp [bytesL])) (hc 4 (by simp [bytesL])) (hc 5 (by simp [bytesL])) (hc 6 (by simp [bytesL])) (hc 7 (by simp [bytesL])) (hc 8 (by simp [bytesL]))
  rw [v1, v2, v3, v4, v5, v6] at this
  exact this

theorem box6g2 {w' : World} {g : Nat} {a b c d e f : Value} {t : TypeId} (h : w'.heap[g]? = some (.cells #[a, b, c, d, e, f] t (0, 0))) :
    w'.cell? ⟨g, 0, none⟩ = some a ∧ w'.cell? ⟨g, 1, none⟩ = some b ∧ w'.cell? ⟨g, 2, none⟩ = some c ∧ w'.cell? ⟨g, 3, none⟩ = some d ∧ w'.cell? ⟨g, 4, none⟩ = some e ∧ w'.cell? ⟨g, 5, none⟩ = some f := by
  simp [cell_of_block h]
theorem marks_arg {w : World} {g : Nat} {bs : List UInt8} (h : At w (some ⟨g, 0, none⟩) (cB (bs ++ marksB))) (hl : bs.length ≤ 1000000) : ArgB w (some ⟨g, 0, none⟩) (bs.length + 6) bs :=
  ⟨by omega, by unfold maxLen; omega, (fun e => by cases e), marks_row h⟩

set_option maxRecDepth 10000 in
set_option maxHeartbeats 8000000 in
theorem parses_walk_in (a : Option Addr) (ca : Nat) (xs : List UInt8) (s n k d t r : Int) (ea : Nat → Addr) (w : World) (hx : ArgB w a ca xs) (H : Errs 123 errGs w ea) (hT : TypeVar w) :
    Calls Tryd.prog 4 #[.slice a xs.length ca, .agg #[.int .i64 s, .int .i64 n, .int .i64 k, .int .i64 d, .int .i64 t, .int .i64 r]] w fun e w' => e = .returned (.bool true) ∧ Below w.heap.size w w' := by
  have hb0 := Lib.hid ((Below.refl w.heap.size w).alloc (Nat.le_refl _) (.cells #[.int .i64 s, .int .i64 n, .int .i64 k, .int .i64 d, .int .i64 t, .int .i64 r] 24))
  have hp := Lib.hid (heap_alloc_new w (.cells #[.int .i64 s, .int .i64 n, .int .i64 k, .int .i64 d, .int .i64 t, .int .i64 r] 24))
  have hlx : xs.length ≤ maxLen := Nat.le_trans hx.len hx.most
  replace hx := Lib.hid (hx.below hb0.out)
  replace H := Lib.hid (H.below hb0.out)
  replace hT := Lib.hid (hT.below hb0.out)
  have hal := Lib.hid (alive15_any (pz ea) _ (par_of H.out) hT.out)
  clear hT
  rcases (show 60 < xs.length ∨ xs.length ≤ 60 from by omega) with h60 | h60
  · go_enter Tryd.func4, Tryd.ntmps4
    go_wp2_with fail
    with_reducible refine hal.out.mono ?_
    rintro e w1 ⟨rfl, hb⟩
    replace hb0 := Lib.hid (hb0.out.trans (hb.mono hb0.out.size))
    clear hb hal
    go_wp2_with fail
    go_ret
    exact ⟨rfl, hb0.out⟩
  obtain ⟨v0, e0⟩ : ∃ v, p6 xs 0 = v := ⟨_, rfl⟩
  obtain ⟨v1, e1⟩ : ∃ v, p6 xs 1 = v := ⟨_, rfl⟩
  obtain ⟨v2, e2⟩ : ∃ v, p6 xs 2 = v := ⟨_, rfl⟩
  obtain ⟨v3, e3⟩ : ∃ v, p6 xs 3 = v := ⟨_, rfl⟩
  obtain ⟨v4, e4⟩ : ∃ v, p6 xs 4 = v := ⟨_, rfl⟩
  obtain ⟨v5, e5⟩ : ∃ v, p6 xs 5 = v := ⟨_, rfl⟩
  obtain ⟨N, eN⟩ : ∃ N, nOf xs = N := ⟨_, rfl⟩
  have cps := fun W a c h H => parse_spec a c xs ea W h H
  have crp := fun W a c h => rparse_spec a c xs W h
  rw [e0, e1, e2, e3, e4, e5, eN] at cps crp
  clear e0 e1 e2 e3 e4 e5 eN
  replace cps := Lib.hid cps
  replace crp := Lib.hid crp
  go_enter Tryd.func4, Tryd.ntmps4
  go_wp2_with fail
  with_reducible refine hal.out.mono ?_
  rintro e w1 ⟨rfl, hb⟩
  have hl1 := block_lt hp.out
  replace H := Lib.hid (H.out.below hb)
  replace hx := Lib.hid (hx.out.below hb)
  replace hp := Lib.hid ((hb.block _ hl1).trans hp.out)
  replace hb0 := Lib.hid (hb0.out.trans (hb.mono hb0.out.size))
  clear hb hal hl1
  go_wp2_with fail
  refine (bytes_any a ca xs _ hx.out (by omega)).mono ?_
  rintro e w2 ⟨g, hg, rfl, hgl, hM, hb⟩
  have hl1 := block_lt hp.out
  replace H := Lib.hid (H.out.below hb)
  replace hx := Lib.hid (hx.out.below hb)
  replace hp := Lib.hid ((hb.block _ hl1).trans hp.out)
  replace hb0 := Lib.hid (hb0.out.trans (hb.mono hb0.out.size))
  replace hM := Lib.hid hM
  clear hb hl1
  go_wp2_with fail
  refine (cps.out _ _ _ (marks_arg hM.out (by omega)) H.out).mono ?_
  rintro e w3 ⟨y, rfl, hy, hb⟩
  have hl1 := block_lt hp.out
  have hb2 := hb.alloc hb.size (.cells #[.int .i64 v0, .int .i64 v1, .int .i64 v2, .int .i64 v3, .int .i64 v4, .int .i64 v5] 24)
  replace H := Lib.hid (H.out.below hb2)
  replace hx := Lib.hid (hx.out.below hb2)
  replace hp := Lib.hid ((hb2.block _ hl1).trans hp.out)
  replace hM := Lib.hid (hM.out.below hb2)
  have hA := Lib.hid (heap_alloc_new w3 (.cells #[.int .i64 v0, .int .i64 v1, .int .i64 v2, .int .i64 v3, .int .i64 v4, .int .i64 v5] 24))
  replace hy := Lib.hid (hy.below ((Grown.refl w3).alloc (.cells #[.int .i64 v0, .int .i64 v1, .int .i64 v2, .int .i64 v3, .int .i64 v4, .int .i64 v5] 24)))
  replace hb0 := Lib.hid (hb0.out.trans (hb2.mono hb0.out.size))
  clear hb hb2 hl1
  go_wp2_with fail
  refine (crp.out _ _ _ hx.out).mono ?_
  rintro e w4 ⟨rfl, hb⟩
  have hl1 := block_lt hp.out
  have hl2 := block_lt hA.out
  have hb2 := hb.alloc hb.size (.cells #[.int .i64 v0, .int .i64 v1, .int .i64 v2, .int .i64 v3, .int .i64 v4, .int .i64 v5] 34)
  replace H := Lib.hid (H.out.below hb2)
  replace hx := Lib.hid (hx.out.below hb2)
  replace hp := Lib.hid ((hb2.block _ hl1).trans hp.out)
  replace hA := Lib.hid ((hb2.block _ hl2).trans hA.out)
  replace hM := Lib.hid (hM.out.below hb2)
  have hR := Lib.hid (heap_alloc_new w4 (.cells #[.int .i64 v0, .int .i64 v1, .int .i64 v2, .int .i64 v3, .int .i64 v4, .int .i64 v5] 34))
  replace hy := Lib.hid (hy.out.below hb2)
  replace hb0 := Lib.hid (hb0.out.trans (hb2.mono hb0.out.size))
  clear hb hb2 hl1 hl2
  go_wp2_with fail
  refine (hy.out _ (Grown.refl _) H.out).mono ?_
  rintro e w5 ⟨rfl, hb⟩
  have hl1 := block_lt hp.out
  have hl2 := block_lt hA.out
  have hl3 := block_lt hR.out
  replace H := Lib.hid (H.out.below hb)
  replace hx := Lib.hid (hx.out.below hb)
  replace hp := Lib.hid ((hb.block _ hl1).trans hp.out)
  replace hA := Lib.hid ((hb.block _ hl2).trans hA.out)
  replace hR := Lib.hid ((hb.block _ hl3).trans hR.out)
  replace hM := Lib.hid (hM.out.below hb)
  replace hb0 := Lib.hid (hb0.out.trans (hb.mono hb0.out.size))
  clear hb hl1 hl2 hl3 hy
  obtain ⟨c0, c1, c2, c3, c4, c5⟩ := box6g2 hA.out
  obtain ⟨d0, d1, d2, d3, d4, d5⟩ := box6g2 hR.out
  go_wp2_with fail
  clear c0 c1 c2 c3 c4 c5 d0 d1 d2 d3 d4 d5
  refine (kept_any g a ca xs _ (by omega) hM.out hx.out).mono ?_
  rintro e w6 ⟨rfl, hd⟩
  have hb := hd.below w5.heap.size
  have hl1 := block_lt hp.out
  replace H := Lib.hid (H.out.below hb)
  replace hp := Lib.hid ((hb.block _ hl1).trans hp.out)
  replace hb0 := Lib.hid (hb0.out.trans (hb.mono hb0.out.size))
  clear hb hd hl1 hA hR hM hx
  cases hB : badAt s n k d t r with
  | some x =>
    have crr := rright_any s n k d t r w6
    rw [hB] at crr
    replace crr := Lib.hid crr
    clear hB
    go_wp2_with (refine wpList_load_row rfl 24 (.tmp 3) rfl w.heap.size #[.int .i64 s, .int .i64 n, .int .i64 k, .int .i64 d, .int .i64 t, .int .i64 r] _ rfl hp Tryd.underlying24 rfl (by kernel_rfl) ?_)
    refine crr.out.mono ?_
    rintro e w7 ⟨rfl, hb⟩
    replace hb0 := Lib.hid (hb0.out.trans (hb.mono hb0.out.size))
    clear hb
    go_wp2_with fail
    go_ret
    exact ⟨rfl, hb0.out⟩
  | none =>
    have crr := rright_any s n k d t r w6
    rw [hB] at crr
    replace crr := Lib.hid crr
    have cby := Lib.hid (fun W (H : ParErrs W (pz ea)) => bytes_ok s n k d t r W (badAt_ok hB) (pz ea) H)
    have cpb := Lib.hid (fun b W (hA : ArgB W (some ⟨b, 0, none⟩) 9 (bytesL s n k d t r)) (H : Errs 123 errGs W ea) => parse_back s n k d t r hB b W hA ea H)
    clear hB
    go_wp2_with (refine wpList_load_row rfl 24 (.tmp 3) rfl w.heap.size #[.int .i64 s, .int .i64 n, .int .i64 k, .int .i64 d, .int .i64 t, .int .i64 r] _ rfl hp Tryd.underlying24 rfl (by kernel_rfl) ?_)
    refine crr.out.mono ?_
    rintro e w7 ⟨rfl, hb⟩
    have hl1 := block_lt hp.out
    replace H := Lib.hid (H.out.below hb)
    replace hp := Lib.hid ((hb.block _ hl1).trans hp.out)
    replace hb0 := Lib.hid (hb0.out.trans (hb.mono hb0.out.size))
    clear hb hl1 crr
    go_wp2_with (refine wpList_load_row rfl 24 (.tmp 3) rfl w.heap.size #[.int .i64 s, .int .i64 n, .int .i64 k, .int .i64 d, .int .i64 t, .int .i64 r] _ rfl hp Tryd.underlying24 rfl (by kernel_rfl) ?_)
    with_reducible refine (cby.out _ (par_of H.out)).mono ?_
    rintro e w8 ⟨b8a, rfl, hA, hb⟩
    have hl1 := block_lt hp.out
    replace H := Lib.hid (H.out.below hb)
    replace hp := Lib.hid ((hb.block _ hl1).trans hp.out)
    replace hb0 := Lib.hid (hb0.out.trans (hb.mono hb0.out.size))
    replace hA := Lib.hid hA
    clear hb hl1
    go_wp2_with fail
    with_reducible refine (cpb.out _ _ hA.out H.out).mono ?_
    rintro e w9 ⟨rfl, hb⟩
    have hl1 := block_lt hp.out
    have hb2 := hb.alloc hb.size (.cells #[.int .i64 s, .int .i64 n, .int .i64 k, .int .i64 d, .int .i64 t, .int .i64 r] 24)
    replace hp := Lib.hid ((hb2.block _ hl1).trans hp.out)
    replace hb0 := Lib.hid (hb0.out.trans (hb2.mono hb0.out.size))
    clear hb hb2 hl1
    obtain ⟨c0, c1, c2, c3, c4, c5⟩ := box6g2 hp.out
    go_wp2_with fail
    go_ret
    exact ⟨rfl, hb0.out⟩

theorem parses_walk (a : Option Addr) (ca : Nat) (xs : List UInt8) (s n k d t r : Int) (ea : Nat → Addr) (w : World) (hx : ArgB w a ca xs) (_ : (Lit.int .i64 s).wf = true) (_ : (Lit.int .i64 n).wf = true) (_ : (Lit.int .i64 k).wf = true) (_ : (Lit.int .i64 d).wf = true) (_ : (Lit.int .i64 t).wf = true) (_ : (Lit.int .i64 r).wf = true) (H : Errs 123 errGs w ea) (hT : TypeVar w) :
    Calls Tryd.prog 4 #[.slice a xs.length ca, .agg #[.int .i64 s, .int .i64 n, .int .i64 k, .int .i64 d, .int .i64 t, .int .i64 r]] w fun e w' => e = .returned (.bool true) ∧ Below w.heap.size w w' :=
  parses_walk_in a ca xs s n k d t r ea w hx H hT

end Go.Proofs.YtebfjpagecakjaaDoor
