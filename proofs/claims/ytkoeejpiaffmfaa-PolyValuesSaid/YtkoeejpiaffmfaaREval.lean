/- Walks over the reference's Eval. -/
import Derived.Test.YtkoeejpiaffmfaaPolyApp
import Derived.Test.YtkoeejpiaffmfaaRef1
namespace Go.Proofs.Ytkoeejpiaffmfaa
open Go.RowKit

theorem xpow_step (p : List UInt8) (x : UInt8) (k : Nat) : fev (k + 1) (cf p) x = Gf.add (fev k (cf p) x) (Gf.mul (cf p k) (xpow x k)) := rfl

set_option maxHeartbeats 1000000 in
theorem reval_any (a : Option Addr) (cap : Nat) (bs : List UInt8) (x : UInt8) (w : World) (h : RowB w a bs) (hr : bs.length ≤ 1000000) :
    Calls Try.prog 26 #[.slice a bs.length cap, .int .u8 (x.toNat : Int)] w fun e w' => e = .returned (.int .u8 ((peval bs x).toNat : Int)) ∧ w = w' := by
  replace h := Lib.hid h
  go_enter Try.func26, Try.ntmps26
  go_wp2_with fail
  go_loop [5, 6, 11] (fun o p j => ∃ k : Nat, k ≤ bs.length ∧ j = .int .i64 k ∧ o = .int .u8 ((fev k (cf bs) x).toNat : Int) ∧ p = .int .u8 ((xpow x k).toNat : Int)) (fun _ _ j => bs.length - (intOf j).toNat)
  case atStart => exact ⟨0, Nat.zero_le _, rfl, rfl, rfl⟩
  case round =>
    obtain ⟨k, hk, rfl, rfl, rfl⟩ := hrel
    by_cases hlt : k < bs.length
    · obtain ⟨b, off, rfl, hc⟩ := h.out k hlt
      rw [show bs.getD k 0 = cf bs k from rfl] at hc
      have hs := Lib.hid (xpow_step bs x k)
      have hp := Lib.hid (show xpow x (k + 1) = Gf.mul (xpow x k) x from rfl)
      generalize cf bs k = c at *
      generalize fev k (cf bs) x = o at *
      generalize xpow x k = q at *
      go_wp2_with fail
      refine (refmul_any c q _).mono ?_
      rintro e w1 ⟨rfl, rfl⟩
      go_wp2_with fail
      refine (refmul_any q x _).mono ?_
      rintro e w1 ⟨rfl, rfl⟩
      go_wp2_with fail
      rw [xor_u8]
      exact ⟨⟨k + 1, by omega, by go_num, by rw [hs.out], by rw [hp.out]⟩, by simp [intOf]; omega⟩
    · obtain rfl : k = bs.length := by omega
      have hs := Lib.hid (peval_fev bs x bs.length (Nat.le_refl _))
      rw [← hs.out]
      go_wp2_with fail
      go_ret
      exact ⟨rfl, rfl⟩

end Go.Proofs.Ytkoeejpiaffmfaa
