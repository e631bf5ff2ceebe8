/- The walk over PolyRoots. -/
import Derived.Test.YtkoeejpiaffmfaaRoots
import Derived.Test.YtkoeejpiaffmfaaPolyRef
import Derived.Test.YtkoeejpiaffmfaaPolyEv
namespace Go.Proofs.Ytkoeejpiaffmfaa
open Go.RowKit

def rootsVal (ls : List UInt8) (x : UInt8) : UInt8 := ls.foldl (fun v k => Gf.mul v (Gf.add x k)) 1
def invsVal (ls : List UInt8) (x : UInt8) : UInt8 := ls.foldl (fun v k => Gf.mul v (Gf.add 1 (Gf.mul k x))) 1
theorem peval_one (x : UInt8) : peval [1] x = 1 := by rw [peval_cons, peval_nil, Gf.mul_zero_left, Gf.zero_add]
theorem peval_fold (f : UInt8 → List UInt8) (x : UInt8) (g : UInt8 → UInt8) (hg : ∀ r, peval (f r) x = g r) : ∀ (ls : List UInt8) (o : List UInt8), peval (ls.foldl (fun out r => pmul out (f r)) o) x = ls.foldl (fun v k => Gf.mul v (g k)) (peval o x) := by
  intro ls
  induction ls with
  | nil => intro o; rfl
  | cons r ls ih => intro o; simp only [List.foldl_cons]; rw [ih, peval_pmul, hg]
theorem rootsVal_eq (ls : List UInt8) (x : UInt8) : peval (rootsOf ls) x = rootsVal ls x := by
  have := peval_fold (fun r => [r, 1]) x (fun k => Gf.add x k) (fun r => by rw [peval_cons, peval_one, Gf.one_mul]) ls [1]
  rw [peval_one] at this
  exact this
theorem invsVal_eq (ls : List UInt8) (x : UInt8) : peval (invsOf ls) x = invsVal ls x := by
  have := peval_fold (fun r => [1, r]) x (fun k => Gf.add 1 (Gf.mul k x)) (fun r => by rw [peval_cons, peval_cons, peval_nil, Gf.mul_zero_left, Gf.zero_add, Gf.add_comm]) ls [1]
  rw [peval_one] at this
  exact this
theorem rootsVal_take {ls : List UInt8} {k : Nat} (x : UInt8) (h : k < ls.length) : rootsVal (ls.take (k + 1)) x = Gf.mul (rootsVal (ls.take k) x) (Gf.add x (cf ls k)) := by
  rw [take_snoc h]; simp [rootsVal]
theorem invsVal_take {ls : List UInt8} {k : Nat} (x : UInt8) (h : k < ls.length) : invsVal (ls.take (k + 1)) x = Gf.mul (invsVal (ls.take k) x) (Gf.add 1 (Gf.mul (cf ls k) x)) := by
  rw [take_snoc h]; simp [invsVal]
theorem one_xor (y : UInt8) : bits BinOp.xor IntKind.u8 1 (y.toNat : Int) = ((Gf.add 1 y).toNat : Int) := xor_u8 1 y

set_option maxRecDepth 10000 in
set_option maxHeartbeats 4000000 in
theorem roots_walk8 (a : Option Addr) (cap : Nat) (ls : List UInt8) (x : UInt8) (w : World) (h : ArgB w a cap ls) :
    Calls Try.prog 3 #[.slice a ls.length cap, .int .u8 (x.toNat : Int)] w fun e w' => e = .returned (.bool true) ∧ Below w.heap.size w w' := by
  have hla : ls.length ≤ maxLen := Nat.le_trans h.len h.most
  replace h := Lib.hid h
  rcases Nat.lt_or_ge 40 ls.length with h1 | h1
  · go_enter Try.func3, Try.ntmps3
    go_wp2_with fail
    refine (alive2_any _).mono ?_
    rintro e w1 ⟨rfl, hb1⟩
    go_wp2_with fail
    go_ret
    exact ⟨rfl, hb1⟩
  go_enter Try.func3, Try.ntmps3
  go_wp2_with fail
  refine (alive2_any _).mono ?_
  rintro e w1 ⟨rfl, hb1⟩
  replace hb1 := Lib.hid hb1
  have ha1 := Lib.hid (h.out.below hb1.out)
  go_wp2_with fail
  refine (roots_any a cap ls _ ha1.out (by omega)).mono ?_
  rintro e w2 ⟨v1, rfl, ho1, hb2⟩
  have ha2 := Lib.hid (ha1.out.below hb2)
  obtain ⟨a1, c1, rfl, hR, _⟩ := ho1.arg
  replace hb2 := Lib.hid (hb1.out.trans (hb2.mono hb1.out.size))
  have hlR := Nat.le_trans (rootsOf_length ls) (show 1 + 2 * ls.length ≤ 81 by omega)
  have hlI := Nat.le_trans (invsOf_length ls) (show 1 + 2 * ls.length ≤ 81 by omega)
  replace hR := Lib.hid hR
  clear ho1 hb1 ha1
  go_wp2_with fail
  refine (invs_any a cap ls _ ha2.out (by omega)).mono ?_
  rintro e w3 ⟨v2, rfl, ho2, hb3⟩
  replace ha2 := Lib.hid (ha2.out.below hb3)
  obtain ⟨a2, c2, rfl, hI, _⟩ := ho2.arg
  replace hR := Lib.hid (hR.out.below hb3)
  replace hI := Lib.hid hI
  replace hb3 := Lib.hid (hb2.out.trans (hb3.mono hb2.out.size))
  clear ho2 hb2
  go_wp2_with fail
  have hsz3 := hb3.out.size
  have hl1 := own_lit w3 [1] #[.int .u8 1] rfl (by simp)
  have hl2 := own_lit (w3.alloc (.cells #[.int .u8 1] 5)) [1] #[.int .u8 1] rfl (by simp)
  have hB3 := Lib.hid (((Below.refl w3.heap.size w3).alloc (Nat.le_refl _) (.cells #[.int .u8 1] 5)).alloc (by simp) (.cells #[.int .u8 1] 5))
  replace hl1 := Lib.hid (hl1.below ((Below.refl _ _).alloc (Nat.le_refl _) (.cells #[.int .u8 1] 5)) (Nat.le_refl _))
  rw [World.size_alloc] at hl2
  replace hl2 := Lib.hid (hl2.mono (Nat.le_succ _))
  go_loopw [7, 8, 9, 10, 26] (fun u v y z j wr => ∃ k : Nat, k ≤ ls.length ∧ j = .int .i64 k ∧ OwnB w3.heap.size wr u (rootsOf (ls.take k)) ∧ OwnB w3.heap.size wr v (invsOf (ls.take k)) ∧ y = .int .u8 ((rootsVal (ls.take k) x).toNat : Int) ∧ z = .int .u8 ((invsVal (ls.take k) x).toNat : Int) ∧ Below w3.heap.size w3 wr)
    (fun _ _ _ _ j _ => ls.length - (intOf j).toNat)
  case atStart => exact ⟨0, Nat.zero_le _, rfl, hl1.out, hl2.out, rfl, rfl, hB3.out⟩
  case round =>
    clear hl1 hl2 hB3
    obtain ⟨k, hk, rfl, hu, hv, rfl, rfl, hbel⟩ := hrel
    have hsz := hbel.size
    replace hbel := Lib.hid hbel
    by_cases hlt : k < ls.length
    · obtain ⟨b, off, rfl, hc⟩ := (ha2.out.below hbel.out).row k hlt
      rw [show ls.getD k 0 = cf ls k from rfl] at hc
      have hs1 := Lib.hid (rootsOf_take hlt)
      have hs2 := Lib.hid (invsOf_take hlt)
      have hs3 := Lib.hid (rootsVal_take x hlt)
      have hs4 := Lib.hid (invsVal_take x hlt)
      have hL1 : (rootsOf (ls.take k)).length ≤ 400000 := by have := rootsOf_length (ls.take k); simp at this; omega
      have hL2 : (invsOf (ls.take k)).length ≤ 400000 := by have := invsOf_length (ls.take k); simp at this; omega
      generalize cf ls k = r at *
      obtain ⟨ao, co, rfl, harg, _⟩ := hu.arg
      obtain ⟨ao2, co2, rfl, harg2, _⟩ := hv.arg
      have hlit := argB_lit wr 5 [r, 1] #[.int .u8 (r.toNat : Int), .int .u8 1] rfl (by simp)
      have hbl1 := (Below.refl wr.heap.size wr).alloc (Nat.le_refl _) (.cells #[.int .u8 (r.toNat : Int), .int .u8 1] 5)
      replace harg := harg.below hbl1
      replace harg2 := Lib.hid (harg2.below hbl1)
      have hb1 := Lib.hid (hbel.out.alloc hsz (.cells #[.int .u8 (r.toNat : Int), .int .u8 1] 5))
      have hcall := Lib.hid (rmul_any _ _ _ _ _ _ _ harg hlit hL1 (by simp))
      clear hu hv harg hlit hbl1
      generalize rootsOf (ls.take k) = R at *
      generalize rootsVal (ls.take k) x = rv at *
      go_wp2_with fail
      refine hcall.out.mono ?_
      rintro e w4 ⟨v4, rfl, ho4, hb4⟩
      replace harg2 := harg2.out.below hb4
      replace ho4 := Lib.hid (ho4.mono hb1.out.size)
      replace hb4 := Lib.hid (hb1.out.trans (hb4.mono hb1.out.size))
      clear hcall hb1
      have hlit := argB_lit w4 5 [1, r] #[.int .u8 1, .int .u8 (r.toNat : Int)] rfl (by simp)
      have hbl1 := (Below.refl w4.heap.size w4).alloc (Nat.le_refl _) (.cells #[.int .u8 1, .int .u8 (r.toNat : Int)] 5)
      replace harg2 := harg2.below hbl1
      have hsz4 := hb4.out.size
      have hb5 := Lib.hid (hb4.out.alloc hsz4 (.cells #[.int .u8 1, .int .u8 (r.toNat : Int)] 5))
      replace ho4 := Lib.hid (ho4.out.below hbl1 (Nat.le_refl _))
      have hcall := Lib.hid (rmul_any _ _ _ _ _ _ _ harg2 hlit hL2 (by simp))
      clear harg2 hlit hbl1 hb4
      generalize invsOf (ls.take k) = I at *
      generalize invsVal (ls.take k) x = iv at *
      go_wp2_with fail
      refine hcall.out.mono ?_
      rintro e w5 ⟨v5, rfl, ho5, hb6⟩
      replace ho4 := Lib.hid (ho4.out.below hb6 (Nat.le_refl _))
      replace ho5 := Lib.hid (ho5.mono hb5.out.size)
      replace hb6 := Lib.hid (hb5.out.trans (hb6.mono hb5.out.size))
      clear hcall hb5
      go_wp2_with fail
      rw [xor_u8]
      refine (refmul_any rv (Gf.add x r) _).mono ?_
      rintro e w6 ⟨rfl, rfl⟩
      go_wp2_with fail
      refine (refmul_any r x _).mono ?_
      rintro e w6 ⟨rfl, rfl⟩
      go_wp2_with fail
      rw [one_xor]
      refine (refmul_any iv (Gf.add 1 (Gf.mul r x)) _).mono ?_
      rintro e w6 ⟨rfl, rfl⟩
      go_wp2_with fail
      go_roundw
      case rel => exact ⟨k + 1, by omega, by go_num, by rw [hs1.out]; exact ho4.out, by rw [hs2.out]; exact ho5.out, by rw [hs3.out], by rw [hs4.out], hb6.out⟩
      case measure => simp [intOf]; omega
    · obtain rfl : k = ls.length := by omega
      rw [List.take_length] at hu hv
      rw [List.take_length, ← rootsVal_eq, ← invsVal_eq]
      obtain ⟨a3, c3, rfl, hU, _⟩ := hu.arg
      obtain ⟨a4, c4, rfl, hV, _⟩ := hv.arg
      replace hR := hR.out.below hbel.out
      replace hI := hI.out.below hbel.out
      have k1 := conv_str (P := Try.prog) (src := 22) (dst := 9) (c := c1) _ Try.underlying22 Try.underlying5 Try.underlying9 hR.row
      have k2 := conv_str (P := Try.prog) (src := 22) (dst := 9) (c := c2) _ Try.underlying22 Try.underlying5 Try.underlying9 hI.row
      have k3 := conv_str (P := Try.prog) (src := 22) (dst := 9) (c := c3) _ Try.underlying22 Try.underlying5 Try.underlying9 hU.row
      have k4 := conv_str (P := Try.prog) (src := 22) (dst := 9) (c := c4) _ Try.underlying22 Try.underlying5 Try.underlying9 hV.row
      have hb9 := Lib.hid (hb3.out.trans (hbel.out.mono hsz3))
      replace hR := Lib.hid hR
      replace hI := Lib.hid hI
      clear hu hv hU hV
      generalize rootsOf ls = R at *
      generalize invsOf ls = I at *
      go_wp2_with fail
      refine (eval_any _ _ R x _ hR.out.row (by omega)).mono ?_
      rintro e w6 ⟨rfl, hb6⟩
      replace hI := Lib.hid (hI.out.below hb6)
      replace hb6 := Lib.hid (hb9.out.trans (hb6.mono hb9.out.size))
      go_wp2_with fail
      refine (eval_any _ _ I x _ hI.out.row (by omega)).mono ?_
      rintro e w7 ⟨rfl, hb7⟩
      replace hb7 := Lib.hid (hb6.out.trans (hb7.mono hb6.out.size))
      go_wp2_with fail
      go_ret
      exact ⟨rfl, hb7.out⟩

theorem roots_walk (a : Option Addr) (cap : Nat) (ls : List UInt8) (x : Int) (w : World) (h : ArgB w a cap ls) (hx : (Lit.int .u8 x).wf = true) :
    Calls Try.prog 3 #[.slice a ls.length cap, .int .u8 x] w fun e w' => e = .returned (.bool true) ∧ Below w.heap.size w w' := by
  have := roots_walk8 a cap ls (UInt8.ofNat x.toNat) w h
  rw [u8_of_wf hx] at this
  exact this

end Go.Proofs.Ytkoeejpiaffmfaa
