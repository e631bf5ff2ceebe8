/- The walk over baileelaw10.StreamBlocks: for whatever arguments it returns true and leaves what was there as it was. -/
import Derived.Test.YtkenakcipdkdbaaDoorChoose
import Derived.Test.YtkenakcipdkdbaaDoorMaskR
import Derived.Test.YtkenakcipdkdbaaDoorEnum
import Derived.Test.YtkenakcipdkdbaaDoorNum
namespace Go.Proofs.YtkenakcipdkdbaaDoor
open Go.RowKit

/-- What the stream's laws find. -/
structure StrW (z : Nat → Addr) (w : World) : Prop where
  K : ShaK w
  F : ShaF w
  rK : RefK w
  rF : RefF w
  er : Errs 108 errGs w z
theorem StrW.below {z : Nat → Addr} {w w' : World} (h : StrW z w) (hb : Below w.heap.size w w') : StrW z w' := ⟨h.K.below hb, h.F.below hb, h.rK.below hb, h.rF.below hb, h.er.below hb⟩
theorem StrW.range {z : Nat → Addr} {w : World} (h : StrW z w) : SentAt gRange w (z 0) := (num_cells h.er).1
theorem StrW.size {z : Nat → Addr} {w : World} (h : StrW z w) : SentAt gSize w (z 7) := by
  obtain ⟨g0, g1, g2, g3, g4, g5, g6, g7, g8, g9, g10, g11, g12, g13, g14, g15, g16, g17, g18, g19⟩ := num_cells h.er
  exact g7
theorem argB_nil0' (w : World) : ArgB w none 0 [] := argB_nil0 w
theorem marks_argS {W : World} {g : Nat} {xs : List UInt8} (h : At W (some ⟨g, 0, none⟩) (cB (xs ++ marksB))) (hl : xs.length ≤ 1000000) : ArgB W (some ⟨g, 0, none⟩) (xs.length + 6) xs :=
  ⟨by omega, by unfold maxLen; omega, (fun e => by cases e), marks_row h⟩

/-- What Block, Number, the two Masks give. -/
def bX (key : List UInt8) (n : Int) : List UInt8 := if cntd n then blockB key n else []
def bE (z : Nat → Addr) (n : Int) : Value := if cntd n then .nilIface else .iface 108 (.pointer (some (z 0)))
def bBad (n : Int) : Int := if cntd n then 0 else 1
def bN (key : List UInt8) (n : Int) : Int := if cntd n then ((beNat (blockB key n) 8 : Nat) : Int) else 0
def mBad (n : Int) (bs : List UInt8) : Int := if bs.length = 8 then bBad n else 8
def mE (z : Nat → Addr) (n : Int) (bs : List UInt8) : Value := if bs.length = 8 then bE z n else .iface 108 (.pointer (some (z 7)))
def mX (key : List UInt8) (n : Int) (bs : List UInt8) : List UInt8 := if bs.length = 8 ∧ cntd n = true then maskB (blockB key n) bs else []
theorem bX_length (key : List UInt8) (n : Int) : (bX key n).length ≤ 8 := by unfold bX; split <;> simp [blockB_length]
theorem mX_length (key : List UInt8) (n : Int) (bs : List UInt8) : (mX key n bs).length ≤ 8 := by unfold mX; split <;> simp [maskB_length]

theorem sBlock_any (ak : Option Addr) (ck : Nat) (key : List UInt8) (n : Int) (z : Nat → Addr) (w : World) (hk : ArgB w ak ck key) (hkl : key.length ≤ 10000) (hW : StrW z w) :
    Calls Tryd.prog 12 #[.slice ak key.length ck, .int .i64 n] w fun e w' => ∃ a c, e = .returned (.tuple #[.slice a (bX key n).length c, bE z n]) ∧ ArgB w' a c (bX key n) ∧ Below w.heap.size w w' := by
  unfold bX bE
  cases hn : cntd n
  · refine (sBlock_bad _ n w (z 0) hW.range hn).mono ?_
    rintro e w' ⟨rfl, hb⟩
    exact ⟨none, 0, rfl, argB_nil0 _, hb⟩
  · refine (sBlock_ok ak ck key n w hk hkl hn hW.K hW.F).mono ?_
    rintro e w' ⟨v, rfl, ho, hb⟩
    obtain ⟨a, c, rfl, h, _⟩ := ho.arg
    exact ⟨a, c, rfl, h, hb⟩
theorem sNumber_any (ak : Option Addr) (ck : Nat) (key : List UInt8) (n : Int) (z : Nat → Addr) (w : World) (hk : ArgB w ak ck key) (hkl : key.length ≤ 10000) (hW : StrW z w) :
    Calls Tryd.prog 13 #[.slice ak key.length ck, .int .i64 n] w fun e w' => e = .returned (.tuple #[.int .u64 (bN key n), bE z n]) ∧ Below w.heap.size w w' := by
  unfold bN bE
  cases hn : cntd n
  · exact sNumber_bad _ n w (z 0) hW.range hn
  · exact sNumber_ok ak ck key n w hk hkl hn hW.K hW.F
theorem sMask_any (ak : Option Addr) (ck : Nat) (key : List UInt8) (n : Int) (a : Option Addr) (ca : Nat) (bs : List UInt8) (z : Nat → Addr) (w : World) (hk : ArgB w ak ck key) (hkl : key.length ≤ 10000) (hb : ArgB w a ca bs) (hW : StrW z w) :
    Calls Tryd.prog 14 #[.slice ak key.length ck, .int .i64 n, .slice a bs.length ca] w fun e w' => ∃ a c, e = .returned (.tuple #[.slice a (mX key n bs).length c, mE z n bs]) ∧ ArgB w' a c (mX key n bs) ∧ Below w.heap.size w w' := by
  unfold mX mE bE
  by_cases hl : bs.length = 8
  · rw [if_pos hl]
    cases hn : cntd n
    · rw [if_neg (by simp), hl]
      refine (sMask_range _ n a ca w (z 0) hW.range hn).mono ?_
      rintro e w' ⟨rfl, hb⟩
      exact ⟨none, 0, rfl, argB_nil0 _, hb⟩
    · rw [if_pos ⟨hl, rfl⟩]
      refine (sMask_ok ak ck key n a ca bs w hk hkl hn hb hl hW.K hW.F).mono ?_
      rintro e w' ⟨v, rfl, ho, hb⟩
      obtain ⟨a, c, rfl, h, _⟩ := ho.arg
      exact ⟨a, c, rfl, h, hb⟩
  · rw [if_neg hl, if_neg (fun h => hl h.1)]
    refine (sMask_size _ n a bs.length ca w (z 7) hW.size hl).mono ?_
    rintro e w' ⟨rfl, hb⟩
    exact ⟨none, 0, rfl, argB_nil0 _, hb⟩
theorem rBlock_any (ak : Option Addr) (ck : Nat) (key : List UInt8) (n : Int) (z : Nat → Addr) (w : World) (hk : ArgB w ak ck key) (hkl : key.length ≤ 10000) (hW : StrW z w) :
    Calls Tryd.prog 15 #[.slice ak key.length ck, .int .i64 n] w fun e w' => ∃ a c, e = .returned (.tuple #[.slice a (bX key n).length c, .int .i64 (bBad n)]) ∧ ArgB w' a c (bX key n) ∧ Below w.heap.size w w' := by
  unfold bX bBad
  cases hn : cntd n
  · refine (refBlock_bad _ n w hn).mono ?_
    rintro e w' ⟨rfl, rfl⟩
    exact ⟨none, 0, rfl, argB_nil0 _, Below.refl _ _⟩
  · refine (refBlock_ok ak ck key n w hk hkl hn hW.rK hW.rF).mono ?_
    rintro e w' ⟨v, rfl, ho, hb⟩
    obtain ⟨a, c, rfl, h, _⟩ := ho.arg
    exact ⟨a, c, rfl, h, hb⟩
theorem rMask_any (ak : Option Addr) (ck : Nat) (key : List UInt8) (n : Int) (a : Option Addr) (ca : Nat) (bs : List UInt8) (z : Nat → Addr) (w : World) (hk : ArgB w ak ck key) (hkl : key.length ≤ 10000) (hb : ArgB w a ca bs) (hW : StrW z w) :
    Calls Tryd.prog 9 #[.slice ak key.length ck, .int .i64 n, .slice a bs.length ca] w fun e w' => ∃ v, e = .returned (.tuple #[v, .int .i64 (mBad n bs)]) ∧ OwnB w.heap.size w' v (mX key n bs) ∧ Below w.heap.size w w' := by
  unfold mX mBad bBad
  by_cases hl : bs.length = 8
  · rw [if_pos hl]
    cases hn : cntd n
    · rw [if_neg (by simp), hl]
      refine (refMask_bad _ n a ca w hn).mono ?_
      rintro e w' ⟨rfl, rfl⟩
      exact ⟨_, rfl, OwnB.nil _ _, Below.refl _ _⟩
    · rw [if_pos (show bs.length = 8 ∧ true = true from ⟨hl, rfl⟩), hl]
      refine (refMask_ok ak ck key n a ca bs w hk hkl hn hb hl hW.rK hW.rF).mono ?_
      rintro e w' ⟨v, rfl, ho, hb⟩
      exact ⟨_, rfl, ho, hb⟩
  · rw [if_neg hl, if_neg (fun h => hl h.1)]
    refine (refMask_size _ n a bs.length ca w hl).mono ?_
    rintro e w' ⟨rfl, rfl⟩
    exact ⟨_, rfl, OwnB.nil _ _, Below.refl _ _⟩
theorem bE_num (z : Nat → Addr) (n : Int) (w : World) (hW : StrW z w) : Calls Tryd.prog 10 #[bE z n] w fun e w' => e = .returned (.int .i64 (bBad n)) ∧ Below w.heap.size w w' := by
  unfold bE bBad
  cases cntd n
  · exact num_err 0 (by omega) z w hW.er
  · refine (num_nil w).mono ?_
    rintro e w' ⟨rfl, rfl⟩
    exact ⟨rfl, Below.refl _ _⟩
theorem mE_num (z : Nat → Addr) (n : Int) (bs : List UInt8) (w : World) (hW : StrW z w) : Calls Tryd.prog 10 #[mE z n bs] w fun e w' => e = .returned (.int .i64 (mBad n bs)) ∧ Below w.heap.size w w' := by
  unfold mE mBad
  by_cases hl : bs.length = 8
  · rw [if_pos hl, if_pos hl]
    exact bE_num z n w hW
  · rw [if_neg hl, if_neg hl]
    exact num_err 7 (by omega) z w hW.er

set_option maxRecDepth 10000 in
set_option maxHeartbeats 4000000 in
theorem blocks_walk (a1 : Option Addr) (c1 : Nat) (key : List UInt8) (n : Int) (a2 : Option Addr) (c2 : Nat) (bs : List UInt8) (z : Nat → Addr) (w : World) (h1 : ArgB w a1 c1 key) (h2 : ArgB w a2 c2 bs) (hW : StrW z w) :
    Calls Tryd.prog 5 #[.slice a1 key.length c1, .int .i64 n, .slice a2 bs.length c2] w fun e w' => e = .returned (.bool true) ∧ Below w.heap.size w w' := by
  have hal := Lib.hid (alive10_any w hW.K hW.F)
  have hx1 : key.length ≤ 9223372036854775807 := by have := h1.len; have := h1.most; unfold maxLen at *; omega
  have hx2 : bs.length ≤ 9223372036854775807 := by have := h2.len; have := h2.most; unfold maxLen at *; omega
  by_cases hbig : 200 < key.length ∨ 40 < bs.length
  · have hd : ∃ b1 b2 : Bool, decide (200 < (key.length : Int)) = b1 ∧ decide (40 < (bs.length : Int)) = b2 ∧ (b1 || b2) = true := by
      refine ⟨_, _, rfl, rfl, ?_⟩
      simp only [Bool.or_eq_true, decide_eq_true_eq]
      omega
    obtain ⟨b1, b2, e1, e2, e4⟩ := hd
    cases b1 <;> cases b2 <;> simp at e4
    all_goals
      go_enter Tryd.func5, Tryd.ntmps5
      go_wp2_with fail
      with_reducible refine hal.out.mono ?_
      rintro e w1 ⟨rfl, hb1⟩
      replace hb1 := Lib.hid hb1
      go_wp2_with fail
      go_ret
      exact ⟨rfl, hb1.out⟩
  · have hk : ¬ 200 < (key.length : Int) := by omega
    have hm : ¬ 40 < (bs.length : Int) := by omega
    have hk2 : key.length ≤ 200 := by omega
    have hm2 : bs.length ≤ 40 := by omega
    clear hbig
    go_enter Tryd.func5, Tryd.ntmps5
    go_wp2_with fail
    with_reducible refine hal.out.mono ?_
    rintro e w1 ⟨rfl, hb1⟩
    replace h1 := Lib.hid (h1.below hb1); replace h2 := Lib.hid (h2.below hb1); replace hW := Lib.hid (hW.below hb1)
    replace hb1 := Lib.hid hb1
    clear hal
    go_wp2_with fail
    with_reducible refine (bytes_any a2 c2 bs _ h2.out (by omega)).mono ?_
    rintro e w2 ⟨g, _, rfl, _, hAt, hnew⟩
    replace h1 := Lib.hid (h1.out.below hnew); replace h2 := Lib.hid (h2.out.below hnew); replace hW := Lib.hid (hW.out.below hnew)
    replace hb1 := Lib.hid (hb1.out.trans (hnew.mono hb1.out.size))
    have hin := Lib.hid (marks_argS hAt (by omega))
    replace hAt := Lib.hid hAt
    clear hnew
    go_wp2_with fail
    with_reducible refine (sBlock_any a1 c1 key n z _ h1.out (by omega) hW.out).mono ?_
    rintro e w3 ⟨a3, c3, rfl, h3, hnew⟩
    replace h1 := Lib.hid (h1.out.below hnew); replace h2 := Lib.hid (h2.out.below hnew); replace hW := Lib.hid (hW.out.below hnew); replace hin := Lib.hid (hin.out.below hnew); replace hAt := Lib.hid (hAt.out.below hnew)
    replace h3 := Lib.hid h3
    replace hb1 := Lib.hid (hb1.out.trans (hnew.mono hb1.out.size))
    clear hnew
    go_wp2_with fail
    with_reducible refine (sNumber_any a1 c1 key n z _ h1.out (by omega) hW.out).mono ?_
    rintro e w4 ⟨rfl, hnew⟩
    replace h1 := Lib.hid (h1.out.below hnew); replace h2 := Lib.hid (h2.out.below hnew); replace hW := Lib.hid (hW.out.below hnew); replace hin := Lib.hid (hin.out.below hnew); replace hAt := Lib.hid (hAt.out.below hnew); replace h3 := Lib.hid (h3.out.below hnew)
    replace hb1 := Lib.hid (hb1.out.trans (hnew.mono hb1.out.size))
    clear hnew
    go_wp2_with fail
    with_reducible refine (sMask_any a1 c1 key n _ _ bs z _ h1.out (by omega) hin.out hW.out).mono ?_
    rintro e w5 ⟨a5, c5, rfl, h5, hnew⟩
    replace h1 := Lib.hid (h1.out.below hnew); replace h2 := Lib.hid (h2.out.below hnew); replace hW := Lib.hid (hW.out.below hnew); replace hin := Lib.hid (hin.out.below hnew); replace hAt := Lib.hid (hAt.out.below hnew); replace h3 := Lib.hid (h3.out.below hnew)
    replace h5 := Lib.hid h5
    replace hb1 := Lib.hid (hb1.out.trans (hnew.mono hb1.out.size))
    clear hnew
    go_wp2_with fail
    with_reducible refine (rBlock_any a1 c1 key n z _ h1.out (by omega) hW.out).mono ?_
    rintro e w6 ⟨a6, c6, rfl, h6, hnew⟩
    replace h1 := Lib.hid (h1.out.below hnew); replace h2 := Lib.hid (h2.out.below hnew); replace hW := Lib.hid (hW.out.below hnew); replace hin := Lib.hid (hin.out.below hnew); replace hAt := Lib.hid (hAt.out.below hnew); replace h3 := Lib.hid (h3.out.below hnew); replace h5 := Lib.hid (h5.out.below hnew)
    replace h6 := Lib.hid h6
    replace hb1 := Lib.hid (hb1.out.trans (hnew.mono hb1.out.size))
    clear hnew
    go_wp2_with fail
    with_reducible refine (rMask_any a1 c1 key n a2 c2 bs z _ h1.out (by omega) h2.out hW.out).mono ?_
    rintro e w7 ⟨v7, rfl, h7, hnew⟩
    obtain ⟨a7, c7, rfl, h7a, _⟩ := h7.arg
    replace h7 := h7a
    clear h7a
    replace h1 := Lib.hid (h1.out.below hnew); replace h2 := Lib.hid (h2.out.below hnew); replace hW := Lib.hid (hW.out.below hnew); replace hin := Lib.hid (hin.out.below hnew); replace hAt := Lib.hid (hAt.out.below hnew); replace h3 := Lib.hid (h3.out.below hnew); replace h5 := Lib.hid (h5.out.below hnew); replace h6 := Lib.hid (h6.out.below hnew)
    replace h7 := Lib.hid h7
    replace hb1 := Lib.hid (hb1.out.trans (hnew.mono hb1.out.size))
    clear hnew
    have hXl := bX_length key n
    have hMl := mX_length key n bs
    have hXX := str_eq (bX key n) (bX key n)
    have hMM := str_eq (mX key n bs) (mX key n bs)
    have hEn := Lib.hid (fun W A => bE_num z n W A)
    have hMn := Lib.hid (fun W A => mE_num z n bs W A)
    have htail := Lib.hid (show (bBad n ≠ 0 ∧ bN key n = 0) ∨ (bBad n = 0 ∧ (∀ W, ArgB W a1 c1 key → StrW z W → Calls Tryd.prog 17 #[.slice a1 key.length c1, .int .i64 n] W fun e w' => e = .returned (.int .u64 (bN key n)) ∧ Below W.heap.size W w') ∧ (mBad n bs ≠ 0 ∨ (mBad n bs = 0 ∧ ∀ W a c, ArgB W a1 c1 key → StrW z W → ArgB W a c (mX key n bs) → Calls Tryd.prog 14 #[.slice a1 key.length c1, .int .i64 n, .slice a (mX key n bs).length c] W fun e w' => ∃ a c, e = .returned (.tuple #[.slice a bs.length c, .nilIface]) ∧ ArgB w' a c bs ∧ Below W.heap.size W w'))) from by
      unfold bBad bN
      cases hn : cntd n
      · exact .inl ⟨by decide, rfl⟩
      · refine .inr ⟨rfl, fun W A B => refNumber_any a1 c1 key n W A (by omega) hn B.rK B.rF, ?_⟩
        unfold mBad bBad
        rw [hn]
        by_cases hl : bs.length = 8
        · refine .inr ⟨by rw [if_pos hl]; rfl, fun W a c A B C => ?_⟩
          have hmx : mX key n bs = maskB (blockB key n) bs := by unfold mX; rw [if_pos ⟨hl, hn⟩]
          rw [hmx] at C ⊢
          refine (sMask_ok a1 c1 key n a c (maskB (blockB key n) bs) W A (by omega) hn C (maskB_length _ _) B.K B.F).mono ?_
          rintro e w' ⟨v, rfl, ho, hb⟩
          rw [maskB_twice _ _ hl] at ho
          obtain ⟨a', c', rfl, h, _⟩ := ho.arg
          exact ⟨a', c', rfl, h, hb⟩
        · exact .inl (by rw [if_neg hl]; decide))
    generalize bX key n = X at *
    generalize mX key n bs = M at *
    generalize bN key n = N at *
    generalize mBad n bs = mb at *
    generalize mE z n bs = E3 at *
    generalize bBad n = bb at *
    generalize bE z n = E1 at *
    go_wp2_with fail
    with_reducible refine (hEn.out _ hW.out).mono ?_
    rintro e w8 ⟨rfl, hnew⟩
    replace h1 := Lib.hid (h1.out.below hnew); replace h2 := Lib.hid (h2.out.below hnew); replace hW := Lib.hid (hW.out.below hnew); replace hin := Lib.hid (hin.out.below hnew); replace hAt := Lib.hid (hAt.out.below hnew); replace h3 := Lib.hid (h3.out.below hnew); replace h5 := Lib.hid (h5.out.below hnew); replace h6 := Lib.hid (h6.out.below hnew); replace h7 := Lib.hid (h7.out.below hnew)
    replace hb1 := Lib.hid (hb1.out.trans (hnew.mono hb1.out.size))
    clear hnew
    go_wp2_with fail
    with_reducible refine (hEn.out _ hW.out).mono ?_
    rintro e w9 ⟨rfl, hnew⟩
    replace h1 := Lib.hid (h1.out.below hnew); replace h2 := Lib.hid (h2.out.below hnew); replace hW := Lib.hid (hW.out.below hnew); replace hin := Lib.hid (hin.out.below hnew); replace hAt := Lib.hid (hAt.out.below hnew); replace h3 := Lib.hid (h3.out.below hnew); replace h5 := Lib.hid (h5.out.below hnew); replace h6 := Lib.hid (h6.out.below hnew); replace h7 := Lib.hid (h7.out.below hnew)
    replace hb1 := Lib.hid (hb1.out.trans (hnew.mono hb1.out.size))
    clear hnew
    have k3 := convB h3.out _ rfl
    have k6 := convB h6.out _ rfl
    go_wp2_with fail
    with_reducible refine (hMn.out _ hW.out).mono ?_
    rintro e w10 ⟨rfl, hnew⟩
    replace h1 := Lib.hid (h1.out.below hnew); replace h2 := Lib.hid (h2.out.below hnew); replace hW := Lib.hid (hW.out.below hnew); replace hin := Lib.hid (hin.out.below hnew); replace hAt := Lib.hid (hAt.out.below hnew); replace h3 := Lib.hid (h3.out.below hnew); replace h5 := Lib.hid (h5.out.below hnew); replace h6 := Lib.hid (h6.out.below hnew); replace h7 := Lib.hid (h7.out.below hnew)
    replace hb1 := Lib.hid (hb1.out.trans (hnew.mono hb1.out.size))
    clear hnew k3 k6
    have k5 := convB h5.out _ rfl
    have k7 := convB h7.out _ rfl
    go_wp2_with fail
    with_reducible refine (kept_any g a2 c2 bs _ (by omega) hAt.out h2.out).mono ?_
    rintro e w11 ⟨rfl, hd⟩
    have hnew : Grown w10 w11 := hd.below _
    replace h1 := Lib.hid (h1.out.below hnew); replace h2 := Lib.hid (h2.out.below hnew); replace hW := Lib.hid (hW.out.below hnew); replace h5 := Lib.hid (h5.out.below hnew)
    replace hb1 := Lib.hid (hb1.out.trans (hnew.mono hb1.out.size))
    clear hnew hd k5 k7 hin hAt h3 h6 h7
    rcases htail.out with ⟨hb0, rfl⟩ | ⟨rfl, hnum, hlast⟩
    · have ht : (bb != 0) = true := by simpa using hb0
      replace hb0 := Lib.hid hb0
      clear htail
      go_wp2_with fail
      go_ret
      exact ⟨rfl, hb1.out⟩
    · replace hlast := Lib.hid hlast
      have hn0 := Lib.hid (hnum _ h1.out hW.out)
      clear htail hnum hEn
      go_wp2_with fail
      with_reducible refine hn0.out.mono ?_
      rintro e w12 ⟨rfl, hnew⟩
      replace h1 := Lib.hid (h1.out.below hnew); replace h2 := Lib.hid (h2.out.below hnew); replace hW := Lib.hid (hW.out.below hnew); replace h5 := Lib.hid (h5.out.below hnew)
      replace hb1 := Lib.hid (hb1.out.trans (hnew.mono hb1.out.size))
      clear hnew hn0
      rcases hlast.out with hm0 | ⟨rfl, hms⟩
      · have ht : (mb != 0) = true := by simpa using hm0
        replace hm0 := Lib.hid hm0
        clear hlast
        go_wp2_with fail
        go_ret
        exact ⟨rfl, hb1.out⟩
      · have hmk := Lib.hid (hms _ _ _ h1.out hW.out h5.out)
        clear hms hlast hMn
        go_wp2_with fail
        with_reducible refine hmk.out.mono ?_
        rintro e w13 ⟨a13, c13, rfl, h13, hnew⟩
        replace h2 := Lib.hid (h2.out.below hnew)
        replace hb1 := Lib.hid (hb1.out.trans (hnew.mono hb1.out.size))
        clear hnew hmk
        have hBB := str_eq bs bs
        have k2 := convB h2.out _ rfl
        have k13 := convB h13 _ rfl
        replace h13 := Lib.hid h13
        go_wp2_with fail
        go_ret
        exact ⟨rfl, hb1.out⟩

theorem blocks_law (a1 : Option Addr) (c1 : Nat) (key : List UInt8) (n : Int) (a2 : Option Addr) (c2 : Nat) (bs : List UInt8) (w : World) (h1 : ArgB w a1 c1 key) (_ : (Lit.int IntKind.i64 n).wf = true) (h2 : ArgB w a2 c2 bs)
    (z : Nat → Addr) (er : Errs 108 errGs w z) (hK : ShaK w) (hF : ShaF w) (hRK : RefK w) (hRF : RefF w) :
    Calls Tryd.prog 5 #[.slice a1 key.length c1, .int .i64 n, .slice a2 bs.length c2] w fun e w' => e = .returned (.bool true) ∧ Below w.heap.size w w' :=
  blocks_walk a1 c1 key n a2 c2 bs z w h1 h2 ⟨hK, hF, hRK, hRF, er⟩

end Go.Proofs.YtkenakcipdkdbaaDoor
