/- Walks over the reference's Mul. -/
import Derived.Test.YtenkdikdofhnpaaDoorPolyApp
import Derived.Test.YtenkdikdofhnpaaDoorRef1
import Derived.IntWalk
namespace Go.Proofs.YtenkdikdofhnpaaDoor
open Go.RowKit

theorem u8_bne {a : UInt8} (h : a ≠ 0) : ((a.toNat : Int) != 0) = true := by rw [bne, u8_ne h]; rfl

set_option maxRecDepth 10000 in
set_option maxHeartbeats 2000000 in
theorem rmul_any (a : Option Addr) (ca : Nat) (xs : List UInt8) (b : Option Addr) (cb : Nat) (ys : List UInt8) (w : World) (ha : ArgB w a ca xs) (hb : ArgB w b cb ys) (hx : xs.length ≤ 400000) (hy : ys.length ≤ 400000) :
    Calls Tryd.prog 19 #[.slice a xs.length ca, .slice b ys.length cb] w fun e w' => ∃ v, e = .returned v ∧ OwnB w.heap.size w' v (pmul xs ys) ∧ Below w.heap.size w w' := by
  replace ha := Lib.hid ha
  replace hb := Lib.hid hb
  go_enter Tryd.func19, Tryd.ntmps19
  go_wp2_with fail
  have hown0 := Lib.hid (owns_made0 w w.heap.size (Nat.le_refl _))
  have hb0 := Lib.hid ((Below.refl w.heap.size w).alloc (Nat.le_refl _) (.cells #[] 5))
  go_loopw [5, 6] (fun v j wr => ∃ k : Nat, k ≤ xs.length + ys.length ∧ j = .int .i64 k ∧ OwnB w.heap.size wr v (tab k (conv xs ys)) ∧ Below w.heap.size w wr)
    (fun _ j _ => xs.length + ys.length - (intOf j).toNat)
  case atStart => exact ⟨0, Nat.zero_le _, rfl, hown0.out, hb0.out⟩
  case round =>
    clear hown0 hb0
    obtain ⟨k, hk, rfl, hown, hbel⟩ := hrel
    have hsz := hbel.size
    replace hown := Lib.hid hown
    replace hbel := Lib.hid hbel
    have ha1 := Lib.hid (ha.out.below hbel.out)
    have hb1 := Lib.hid (hb.out.below hbel.out)
    by_cases hlt : k < xs.length + ys.length
    · have hlt2 : (k : Int) < (xs.length : Int) + ys.length := by omega
      go_wp2_with fail
      generalize wr = W1 at *
      go_loopw [7, 8] (fun c j wq => ∃ i : Nat, i ≤ k + 1 ∧ j = .int .i64 i ∧ c = .int .u8 ((xsum i fun t => Gf.mul (cf xs t) (cf ys (k - t))).toNat : Int) ∧ Drawn W1 wq) (fun _ j _ => k + 1 - (intOf j).toNat)
      case atStart => exact ⟨0, Nat.zero_le _, rfl, rfl, Drawn.refl _⟩
      case round =>
        obtain ⟨i, hik, rfl, rfl, hd⟩ := hrel
        have hs : xsum (i + 1) (fun t => Gf.mul (cf xs t) (cf ys (k - t))) = Gf.add (xsum i fun t => Gf.mul (cf xs t) (cf ys (k - t))) (Gf.mul (cf xs i) (cf ys (k - i))) := rfl
        by_cases hle : i ≤ k
        · have hra := hd.rowB ha1.out.row
          have hrb := hd.rowB hb1.out.row
          by_cases hX : cf xs i = 0
          · rw [hX, Gf.mul_zero_left, Gf.add_zero] at hs
            replace hs := Lib.hid hs
            replace hX := Lib.hid hX
            replace hra := Lib.hid hra
            replace hrb := Lib.hid hrb
            replace hd := Lib.hid hd
            generalize (xsum i fun t => Gf.mul (cf xs t) (cf ys (k - t))) = c at *
            go_wp2_with fail
            refine (at_any a ca xs i _ hra.out).mono ?_
            rintro e w2 ⟨rfl, rfl⟩
            rw [hX.out]
            go_wp2_with fail
            go_roundw
            case rel => exact ⟨i + 1, by omega, by go_num, by rw [hs.out], hd.out⟩
            case measure => simp [intOf]; omega
          · by_cases hY : cf ys (k - i) = 0
            · rw [hY, Gf.mul_zero, Gf.add_zero] at hs
              have hx' := u8_bne hX
              replace hs := Lib.hid hs
              replace hY := Lib.hid hY
              replace hra := Lib.hid hra
              replace hrb := Lib.hid hrb
              replace hd := Lib.hid hd
              clear hX
              generalize (xsum i fun t => Gf.mul (cf xs t) (cf ys (k - t))) = c at *
              go_wp2_with fail
              refine (at_any a ca xs i _ hra.out).mono ?_
              rintro e w2 ⟨rfl, rfl⟩
              go_wp2_with fail
              refine (at_int b cb ys ((k : Int) - i) (k - i) (by omega) _ hrb.out).mono ?_
              rintro e w2 ⟨rfl, rfl⟩
              rw [hY.out]
              go_wp2_with fail
              go_roundw
              case rel => exact ⟨i + 1, by omega, by go_num, by rw [hs.out], hd.out⟩
              case measure => simp [intOf]; omega
            · have hx' := u8_bne hX
              have hy' := u8_bne hY
              have hxl : i < xs.length := Classical.byContradiction fun e => hX (cf_ge (Nat.le_of_not_lt e))
              have hyl : k - i < ys.length := Classical.byContradiction fun e => hY (cf_ge (Nat.le_of_not_lt e))
              obtain ⟨xb, xo, rfl, cx⟩ := hra i hxl
              obtain ⟨yb, yo, rfl, cy⟩ := hrb (k - i) hyl
              rw [show xs.getD i 0 = cf xs i from rfl] at cx
              rw [show ys.getD (k - i) 0 = cf ys (k - i) from rfl] at cy
              replace hs := Lib.hid hs
              replace hra := Lib.hid hra
              replace hrb := Lib.hid hrb
              replace hd := Lib.hid hd
              clear hX hY
              have hX := Lib.hid (rfl : cf xs i = cf xs i)
              have hat1 := Lib.hid (at_any _ ca xs i _ hra.out)
              have hat2 := Lib.hid (at_int _ cb ys ((k : Int) - i) (k - i) (by omega) _ hrb.out)
              generalize (xsum i fun t => Gf.mul (cf xs t) (cf ys (k - t))) = c at *
              generalize cf xs i = x at *
              generalize cf ys (k - i) = y at *
              go_wp2_with fail
              refine hat1.out.mono ?_
              rintro e w2 ⟨rfl, rfl⟩
              go_wp2_with fail
              refine hat2.out.mono ?_
              rintro e w2 ⟨rfl, rfl⟩
              go_wp2_with fail
              have hk2 : (0 : Int) ≤ (k : Int) - i := by omega
              have hk3 : ((k : Int) - i).toNat = k - i := by omega
              have hk4 : (k : Int) - i < ys.length := by omega
              have hk5 := IntWalk.i64_in ((k : Int) - i) (by omega)
              go_quiet ((go_at_call 34; exact quiet_eq (refmul_any _ _ _)))
              clear hk5 hk2 hk3 hk4
              go_wp2_with fail
              go_roundw
              case rel => exact ⟨i + 1, by omega, by go_num, by rw [xor_u8, hs.out], hd.out.more _⟩
              case measure => simp [intOf]; omega
        · obtain rfl : i = k + 1 := by omega
          have hc : conv xs ys k = xsum (k + 1) fun t => Gf.mul (cf xs t) (cf ys (k - t)) := rfl
          rw [← hc]
          have hown2 : OwnB w.heap.size wr u5 (tab k (conv xs ys)) := hown.out.below (hd.below W1.heap.size) (Nat.le_refl _)
          have hbel2 := Lib.hid (hbel.out.trans (hd.below w.heap.size))
          have hsz2 := hbel2.out.size
          replace hown2 := Lib.hid hown2
          have htl := Lib.hid (tab_length k (conv xs ys))
          have hts := Lib.hid (tab_succ k (conv xs ys))
          clear hs hc
          generalize conv xs ys k = c at *
          have hl1 : (tab k (conv xs ys)).length ≤ 1000000 := by rw [htl.out]; omega
          go_wp2_with (at_builtin; go_must (refine wpB_app1 rfl (.tmp 49) (.tmp 51) rfl w.heap.size u5 (tab k (conv xs ys)) rfl hown2 c rfl hl1 hsz2 ?_))
          intro v' w3 ho3 hb3
          go_wp2_with fail
          go_roundw
          case rel => exact ⟨k + 1, by omega, by go_num, by rw [hts.out]; exact ho3.out, hbel2.out.trans hb3.out⟩
          case measure => simp [intOf]; omega
    · obtain rfl : k = xs.length + ys.length := by omega
      obtain ⟨ao, co, rfl, harg, _⟩ := hown.out.arg
      have hc := rtrim_any _ _ _ _ harg (by rw [tab_length]; omega)
      have htl := tab_length (xs.length + ys.length) (conv xs ys)
      have hlt2 : ¬ ((xs.length + ys.length : Nat) : Int) < (xs.length : Int) + ys.length := by omega
      rw [htl] at hc ⊢
      replace hc := Lib.hid hc
      clear harg htl
      go_wp2_with fail
      refine hc.out.mono ?_
      rintro e w3 ⟨v, rfl, ho, hb3⟩
      replace ho := Lib.hid (ho.mono hsz)
      have hb4 := Lib.hid (hbel.out.trans (hb3.mono hsz))
      go_wp2_with fail
      go_ret
      exact ⟨_, rfl, ho.out, hb4.out⟩

end Go.Proofs.YtenkdikdofhnpaaDoor
