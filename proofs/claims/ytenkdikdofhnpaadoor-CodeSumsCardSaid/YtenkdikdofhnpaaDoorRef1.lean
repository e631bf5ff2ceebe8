/- The walk over baileeref01.Mul. -/
import Derived.Test.YtenkdikdofhnpaaDoorField
import Derived.Test.YtenkdikdofhnpaaDoorGfRef
namespace Go.Proofs.YtenkdikdofhnpaaDoor
open Go.RowKit

theorem xor_i64 (x y : Nat) (hx : x < 65536) (hy : y < 65536) : bits BinOp.xor IntKind.i64 (x : Int) (y : Int) = ((x ^^^ y : Nat) : Int) :=
  by
  have e1 : (BitVec.ofInt 64 (x : Int)).toNat = x := by rw [BitVec.ofInt_natCast, BitVec.toNat_ofNat]; exact Nat.mod_eq_of_lt (by omega)
  have e2 : (BitVec.ofInt 64 (y : Int)).toNat = y := by rw [BitVec.ofInt_natCast, BitVec.toNat_ofNat]; exact Nat.mod_eq_of_lt (by omega)
  have h1 : x ^^^ y < 2 ^ 16 := Nat.xor_lt_two_pow hx hy
  show IntKind.i64.wrap ((BitVec.ofInt 64 (x : Int) ^^^ BitVec.ofInt 64 (y : Int)).toNat : Int) = _
  rw [BitVec.toNat_xor, e1, e2, IntKind.wrap_i64]
  omega
theorem bit_go (p i : Nat) : (((p : Int) / 2 ^ i).tmod 2 == 1) = p.testBit i := by
  rw [Int.tmod_eq_emod_of_nonneg (Int.ediv_nonneg (by omega) (Int.pow_nonneg (by omega)))]
  have e : ((p : Int) / 2 ^ i) = ((p / 2 ^ i : Nat) : Int) := by rw [Int.natCast_ediv]; norm_cast
  rw [e, Nat.testBit_eq_decide_div_mod_eq, Bool.eq_iff_iff]
  simp
  omega
theorem shl_go (a k : Nat) (h : Gf.shlN a k < 65536) : wrap64 ((a : Int) * 2 ^ k) = ((Gf.shlN a k : Nat) : Int) := by
  have e : ((a : Int) * 2 ^ k) = ((Gf.shlN a k : Nat) : Int) := by unfold Gf.shlN; rw [Nat.shiftLeft_eq]; push_cast; rfl
  rw [e]
  exact IntWalk.wrap64_in _ (by omega)

set_option maxHeartbeats 1000000 in
theorem refmul_any (a b : UInt8) (w : World) : Calls Tryd.prog 34 #[.int .u8 (a.toNat : Int), .int .u8 (b.toNat : Int)] w fun e w' => e = .returned (.int .u8 ((Gf.mul a b).toNat : Int)) ∧ w = w' := by
  have ha := a.toNat_lt
  have hb := b.toNat_lt
  go_enter Tryd.func34, Tryd.ntmps34
  go_wp2_with fail
  go_loop [5, 6] (fun p i => ∃ k : Nat, k ≤ 8 ∧ i = .int .i64 k ∧ p = .int .i64 (Gf.clm k a.toNat b.toNat : Int)) (fun _ i => 8 - (intOf i).toNat)
  case atStart => exact ⟨0, Nat.zero_le _, rfl, rfl⟩
  case round =>
    obtain ⟨k, hk, rfl, rfl⟩ := hrel
    have hp := Gf.clm_lt k a.toNat b.toNat ha hk
    by_cases hlt : k < 8
    · have hbit := bit_go b.toNat k
      have hbd := Gf.shlN_lt a.toNat k ha hlt
      have hs := shl_go a.toNat k hbd
      cases hbb : b.toNat.testBit k
      · rw [hbb] at hbit
        have hrec : Gf.clm (k + 1) a.toNat b.toNat = Gf.clm k a.toNat b.toNat := by simp [Gf.clm, hbb, Gf.selN]
        replace hrec := Lib.hid hrec
        clear hs
        go_wp2_with fail
        exact ⟨⟨k + 1, by omega, by go_num, by rw [hrec.out]⟩, by simp [intOf]; omega⟩
      · rw [hbb] at hbit
        have hrec : Gf.clm (k + 1) a.toNat b.toNat = Gf.clm k a.toNat b.toNat ^^^ Gf.shlN a.toNat k := by simp [Gf.clm, hbb, Gf.selN]
        replace hrec := Lib.hid hrec
        go_wp2_with fail
        rw [xor_i64 _ _ hp hbd]
        exact ⟨⟨k + 1, by omega, by go_num, by rw [hrec.out]⟩, by simp [intOf]; omega⟩
    · obtain rfl : k = 8 := by omega
      go_wp2_with fail
      go_loop [5, 7] (fun p i => ∃ m : Nat, 7 ≤ m ∧ m ≤ 14 ∧ i = .int .i64 m ∧ p = .int .i64 (Gf.red (14 - m) (Gf.clm 8 a.toNat b.toNat) : Int)) (fun _ i => (intOf i).toNat)
      case atStart => exact ⟨14, by omega, Nat.le_refl _, rfl, rfl⟩
      case round =>
        obtain ⟨m, hm, hm2, rfl, rfl⟩ := hrel
        have hr := Gf.red_lt (14 - m) _ hp
        by_cases hlt : 8 ≤ m
        · obtain ⟨p, hpe⟩ : ∃ p, p = Gf.red (14 - m) (Gf.clm 8 a.toNat b.toNat) := ⟨_, rfl⟩
          have hrec : Gf.red (14 - (m - 1)) (Gf.clm 8 a.toNat b.toNat) = Gf.redS p m := by
            rw [show 14 - (m - 1) = (14 - m) + 1 from by omega, Gf.red, show 14 - (14 - m) = m from by omega, hpe]
          replace hrec := Lib.hid hrec
          rw [← hpe] at hr ⊢
          clear hpe
          have hbit := bit_go p m
          have hbd := Gf.shl285_lt (m - 8) (by omega)
          have hs : wrap64 ((285 : Int) * 2 ^ (m - 8)) = ((Gf.shlN 285 (m - 8) : Nat) : Int) := shl_go 285 (m - 8) hbd
          have hm1 : (m : Int) - 1 = ((m - 1 : Nat) : Int) := by omega
          replace hm1 := Lib.hid hm1
          cases hbb : p.testBit m
          · rw [hbb] at hbit
            have hred : Gf.redS p m = p := by simp [Gf.redS, hbb, Gf.selN]
            replace hred := Lib.hid hred
            clear hs
            go_wp2_with fail
            exact ⟨⟨m - 1, by omega, by omega, by rw [hm1.out], by rw [hrec.out, hred.out]⟩, by simp only [intOf]; omega⟩
          · rw [hbb] at hbit
            have hred : Gf.redS p m = p ^^^ Gf.shlN 285 (m - 8) := by simp [Gf.redS, hbb, Gf.selN]
            replace hred := Lib.hid hred
            go_wp2_with fail
            rw [xor_i64 _ _ hr hbd]
            exact ⟨⟨m - 1, by omega, by omega, by rw [hm1.out], by rw [hrec.out, hred.out]⟩, by simp only [intOf]; omega⟩
        · obtain rfl : m = 7 := by omega
          have hfin : ((Gf.red 7 (Gf.clm 8 a.toNat b.toNat) % 256 : Nat) : Int) = ((Gf.mul a b).toNat : Int) := by
            rw [← Gf.refmul_eq, Gf.refmul]
            simp
          replace hfin := Lib.hid hfin
          go_wp2_with fail
          go_ret
          refine ⟨?_, rfl⟩
          exact ret_u8 (by have h := hfin.out; show ((Gf.red 7 (Gf.clm 8 a.toNat b.toNat) : Nat) : Int) % 256 = _; omega)

end Go.Proofs.YtenkdikdofhnpaaDoor
