/- The walks over baileeref11.Bits, Step. -/
import Derived.Test.YtmngcnhnpfnloaaDoorWalk
import Derived.Test.YtmngcnhnpfnloaaDoorTagR
import Derived.Test.YtmngcnhnpfnloaaDoorStreamR
namespace Go.Proofs.YtmngcnhnpfnloaaDoor
open Go.RowKit

set_option maxHeartbeats 1000000 in
theorem rBits_any (n : Nat) (w : World) (h1 : 1 ≤ n) (h2 : n ≤ 1048576) :
    Calls Tryd.prog 17 #[.int .i64 (n : Int)] w fun e w' => e = .returned (.int .i64 ((bitsN n : Nat) : Int)) ∧ w = w' := by
  obtain ⟨hB1, hB2, hB3⟩ := bitsN_all h2
  have hmin := Lib.hid (fun j a b => bitsN_min (n := n) (j := j) a b)
  have hn1 : (1 : Int) ≤ n := by omega
  have hn2 : (n : Int) ≤ 1048576 := by omega
  replace hB3 := Lib.hid hB3
  generalize bitsN n = B at *
  go_enter Tryd.func17, Tryd.ntmps17
  go_wp2_with fail
  go_loop [3, 4] (fun v u => ∃ k : Nat, 1 ≤ k ∧ k ≤ B ∧ v = .int .i64 k ∧ u = .int .i64 ((2 ^ (2 * k) : Nat) : Int)) (fun v _ => B - (intOf v).toNat)
  case atStart => exact ⟨1, Nat.le_refl _, hB1, rfl, rfl⟩
  case round =>
    obtain ⟨k, hk1, hk2, rfl, rfl⟩ := hrel
    have hk1i : (1 : Int) ≤ k := by omega
    have hk2i : (k : Int) ≤ 10 := by omega
    have hp2 : 2 ^ (2 * k) ≤ 2 ^ 20 := Nat.pow_le_pow_right (by omega) (by omega)
    have hsu := Lib.hid (show 2 ^ (2 * (k + 1)) = 2 ^ (2 * k) * 4 from by rw [Nat.mul_add, Nat.pow_add])
    by_cases hlt : k < B
    · have hm := hmin.out k hk1 hlt
      have hd : decide (2 ^ (2 * k) < n) = true := by simpa using hm
      have hp3 : ((2 ^ (2 * k) : Nat) : Int) ≤ 1048576 := by omega
      replace hm := Lib.hid hm
      replace hp2 := Lib.hid hp2
      generalize 2 ^ (2 * k) = P at *
      go_wp2_with fail
      exact ⟨⟨k + 1, by omega, by omega, by go_num, by rw [hsu.out]; go_num⟩, by simp [intOf]; omega⟩
    · obtain rfl : k = B := by omega
      have hm := hB3.out
      have hd : decide (2 ^ (2 * k) < n) = false := by simpa using hm
      have hp3 : ((2 ^ (2 * k) : Nat) : Int) ≤ 1048576 := by omega
      replace hm := Lib.hid hm
      replace hp2 := Lib.hid hp2
      generalize 2 ^ (2 * k) = P at *
      go_wp2_with fail
      go_ret
      exact ⟨rfl, rfl⟩

theorem div_wrap (x P : Nat) (hx : x < 1048576) : wrap64 ((x : Int) / (P : Int)) = ((x / P : Nat) : Int) := by
  obtain ⟨y, hy⟩ : ∃ y, y = x / P := ⟨_, rfl⟩
  rw [show (x : Int) / (P : Int) = (y : Int) from by rw [hy]; simp, ← hy]
  have hlt : y ≤ x := by rw [hy]; exact Nat.div_le_self _ _
  clear hy
  exact IntWalk.wrap64_in (y : Int) (by omega)
theorem rJoin (a b P : Nat) (hP2 : P ≤ 1024) (ha : a < 1024) (hb : b < P) : wrap64 (wrap64 ((a : Int) * (P : Int)) + (b : Int)) = ((a * P + b : Nat) : Int) := by
  have hm : a * P ≤ 1024 * 1024 := Nat.mul_le_mul (by omega) hP2
  rw [show (a : Int) * (P : Int) = ((a * P : Nat) : Int) from by simp]
  generalize a * P = y at *
  rw [IntWalk.wrap64_in (y : Int) (by omega), IntWalk.wrap64_in ((y : Int) + (b : Int)) (by omega)]
  omega
theorem rXor (x l P : Nat) (hP : 0 < P) (hP2 : P ≤ 1024) (hl : l < 1024) : bits .xor .i64 (l : Int) (wrap64 ((x : Int) % (P : Int))) = ((l ^^^ (x % P) : Nat) : Int) := by
  rw [mod_wrap x P hP hP2]
  have := Nat.mod_lt x hP
  exact i64_xor_nat l (x % P) (by omega) (by omega)

set_option maxRecDepth 10000 in
set_option maxHeartbeats 4000000 in
theorem rStep_any (ak : Option Addr) (ck : Nat) (key : List UInt8) (n x : Nat) (w : World) (hk : ArgB w ak ck key) (hkl : key.length ≤ 10000) (h1 : 1 ≤ n) (h2 : n ≤ 10) (hx : x < 2 ^ (2 * n)) (hK : RefK w) (hF : RefF w) :
    Calls Tryd.prog 14 #[.slice ak key.length ck, .int .i64 (n : Int), .int .i64 (x : Int)] w fun e w' => e = .returned (.int .i64 ((stepN (rnd key n) n x : Nat) : Int)) ∧ Below w.heap.size w w' := by
  have zr2 := zeroR_run
  have zn2 := zero32_ne
  have hx20 : x < 1048576 := Nat.lt_of_lt_of_le hx (Nat.pow_le_pow_right (by omega) (show 2 * n ≤ 20 by omega))
  have hst := Lib.hid (show stepN (rnd key n) n x = (net (rnd key n) (x / 2 ^ n) (x % 2 ^ n) 4).1 * 2 ^ n + (net (rnd key n) (x / 2 ^ n) (x % 2 ^ n) 4).2 from rfl)
  obtain ⟨hl0, hr0⟩ := halves_lt hx
  have hnl := Lib.hid (net_lt (rnd_lt key n) hl0 hr0)
  have hp2 := shl_bits n h2
  have hpp := Nat.two_pow_pos n
  have hpow := Lib.hid (fun i => show 2 ^ (i + 1) = 2 ^ i * 2 from rfl)
  have hpl := Lib.hid (fun i (h : i ≤ n) => show 2 ^ i ≤ 1024 from shl_bits i (by omega))
  have hrd := Lib.hid (fun k r => show rnd key n k r = beNat (rndB key k r) 8 % 2 ^ n from rfl)
  have h1i : (1 : Int) ≤ n := by omega
  have h2i : (n : Int) ≤ 10 := by omega
  have hxi : (x : Int) < 1048576 := by omega
  obtain ⟨i0, hi, hz0, hz1, hz2⟩ := info_parts Tryd.infoByteP
  have hq := Lib.hid (div_wrap x (2 ^ n) hx20)
  have hm := Lib.hid (show (x : Int) % ((2 ^ n : Nat) : Int) = ((x % 2 ^ n : Nat) : Int) from rfl)
  replace hk := Lib.hid hk; replace hK := Lib.hid hK; replace hF := Lib.hid hF; replace hx := Lib.hid hx; replace hl0 := Lib.hid hl0; replace hr0 := Lib.hid hr0
  go_enter Tryd.func14, Tryd.ntmps14
  go_wp2_with fail
  go_loop [7, 8] (fun v j => ∃ i : Nat, i ≤ n ∧ j = .int .i64 i ∧ v = .int .i64 ((2 ^ i : Nat) : Int)) (fun _ j => n - (intOf j).toNat)
  case atStart => exact ⟨0, Nat.zero_le _, rfl, rfl⟩
  case round =>
    obtain ⟨i, hin, rfl, rfl⟩ := hrel
    by_cases hlt : i < n
    · have hli : (i : Int) < n := by omega
      have hsu := Lib.hid (hpow.out i)
      have hle := hpl.out i hin
      have hlei : ((2 ^ i : Nat) : Int) ≤ 1024 := by omega
      replace hle := Lib.hid hle
      generalize 2 ^ i = P at *
      go_wp2_with fail
      exact ⟨⟨i + 1, by omega, by go_num, by rw [hsu.out]; go_num⟩, by simp [intOf]; omega⟩
    · obtain rfl : i = n := by omega
      have hP1 : (0 : Int) < ((2 ^ i : Nat) : Int) := by omega
      have hP2 : ((2 ^ i : Nat) : Int) ≤ 1024 := by omega
      have hP3 : (((2 ^ i : Nat) : Int) == 0) = false := beq_eq_false_iff_ne.2 (by omega)
      clear hpow hpl
      have hxr := Lib.hid (fun X l (hl : l < 1024) => rXor X l (2 ^ i) hpp hp2 hl)
      have hjo := Lib.hid (fun (a b : Nat) (ha : a < 1024) (hb : b < 2 ^ i) => show wrap64 (wrap64 ((a : Int) * ((2 ^ i : Nat) : Int)) + (b : Int)) = ((a * 2 ^ i + b : Nat) : Int) from rJoin a b (2 ^ i) hp2 ha hb)
      generalize x / 2 ^ i = l0 at *
      generalize x % 2 ^ i = r0 at *
      generalize 2 ^ i = P at *
      go_wp2_with fail
      go_quiet (fail)
      go_wp2_with fail
      go_loopw [9, 10, 11] (fun l r j wr => ∃ k : Nat, k ≤ 4 ∧ j = .int .i64 k ∧ l = .int .i64 (((net (rnd key i) l0 r0 k).1 : Nat) : Int) ∧ r = .int .i64 (((net (rnd key i) l0 r0 k).2 : Nat) : Int) ∧ Below w.heap.size w wr) (fun _ _ j _ => 4 - (intOf j).toNat)
      case atStart => exact ⟨0, Nat.zero_le _, rfl, by rw [hq.out]; rfl, by show Value.int _ _ = Value.int _ (r0 : Int); rw [hm.out], below_drewN (Below.refl _ _) _⟩
      case round =>
        obtain ⟨k, hk4, rfl, rfl, rfl, hB⟩ := hrel
        obtain ⟨hlk, hrk⟩ := hnl.out k
        by_cases hlt : k < 4
        · have hk4i : (k : Int) < 4 := by omega
          have hn8 : ((UInt8.ofNat k).toNat : Int) = (k : Int) := by rw [UInt8.toNat_ofNat']; omega
          have hn1 := Lib.hid (show (net (rnd key i) l0 r0 (k + 1)).1 = (net (rnd key i) l0 r0 k).2 from rfl)
          have hn2 := Lib.hid (show (net (rnd key i) l0 r0 (k + 1)).2 = (net (rnd key i) l0 r0 k).1 ^^^ rnd key i k (net (rnd key i) l0 r0 k).2 from rfl)
          have hrk2 := hrd.out k (net (rnd key i) l0 r0 k).2
          rw [hrk2] at hn2
          have hl1 : (net (rnd key i) l0 r0 k).1 < 1024 := Nat.lt_of_lt_of_le hlk hp2
          have hr1 : (net (rnd key i) l0 r0 k).2 < 1024 := Nat.lt_of_lt_of_le hrk hp2
          replace hrk2 := Lib.hid hrk2
          generalize (net (rnd key i) l0 r0 k).1 = l at *
          generalize (net (rnd key i) l0 r0 k).2 = r at *
          have hnum := Lib.hid (rnum_any (r : Int) (wr.alloc (.cells #[.int .u8 (k : Int)] 5)) (by omega) (by omega))
          have hown := own_lit wr [UInt8.ofNat k] #[.int .u8 (k : Int)] (by rw [← hn8]; rfl) (by simp)
          have hga := (Below.refl wr.heap.size wr).alloc (Nat.le_refl _) (.cells #[.int .u8 (k : Int)] 5)
          have hnl8 := Lib.hid (numB_length (r : Int))
          have sD := sizeR (hmac key ([UInt8.ofNat k] ++ numB r)) (hmac_length _ _)
          have s32 := z32 (hmac key ([UInt8.ofNat k] ++ numB r)) (hmac_length _ _)
          have sO := cB_all (hmac key ([UInt8.ofNat k] ++ numB r))
          have hlen := Lib.hid (rndB_length key k r)
          have harg := Lib.hid (fun (W : World) (g : Nat) (hh : W.heap[g]? = some (.cells (cB (hmac key ([UInt8.ofNat k] ++ numB r))).toArray 49 (0, 0))) => argB_takeN (argB_block (c := 32) hh (by rw [hmac_length]; omega) (by omega)) 8 (by rw [hmac_length]; omega))
          rw [show (hmac key ([UInt8.ofNat k] ++ numB r)).take 8 = rndB key k r from rfl] at harg
          have hof := Lib.hid (fun W (B : ArgB W ak ck key) am cm (C : ArgB W am cm ([UInt8.ofNat k] ++ numB r)) D E => rmacOf_any ak ck key am cm ([UInt8.ofNat k] ++ numB r) W B hkl C (by rw [List.length_append, numB_length]; simp) D E)
          have hl9 := Lib.hid (show ([UInt8.ofNat k] ++ numB r).length = 9 from by rw [List.length_append, numB_length]; rfl)
          obtain ⟨D, hD⟩ : ∃ D, D = (cB (hmac key ([UInt8.ofNat k] ++ numB r))).toArray := ⟨_, rfl⟩
          rw [← hD] at sD s32 sO harg hof
          replace hD := Lib.hid hD; replace hn8 := Lib.hid hn8; replace hB := Lib.hid hB; replace hga := Lib.hid hga; replace hown := Lib.hid hown; replace hlk := Lib.hid hlk; replace hrk := Lib.hid hrk
          generalize rndB key k r = T at *
          go_wp2_with fail
          with_reducible refine hnum.out.mono ?_
          rintro e w2 ⟨v2, rfl, ho2, hb2⟩
          obtain ⟨a2, c2, rfl, ha2, _⟩ := ho2.arg
          rw [hnl8.out]
          have hown2 := Lib.hid (hown.out.below hb2 (Nat.le_refl _))
          have hga2 := hga.out.trans (hb2.mono hga.out.size)
          have hsz2 := hga2.size
          replace hga2 := Lib.hid hga2
          replace ha2 := Lib.hid ha2
          clear ho2 hb2 hown hnum
          go_wp2_with (at_builtin; go_must (refine wpB_app rfl (.tmp 37) (.tmp 39) rfl wr.heap.size _ [UInt8.ofNat k] rfl hown2 a2 c2 (numB r) 8 rfl hnl8 ha2 (by simp) (by omega) hsz2 ?_))
          intro v3 w3 ho3 hd3
          obtain ⟨a3, c3, rfl, ha3⟩ : ∃ a3 c3, v3 = .slice a3 9 c3 ∧ ArgB w3 a3 c3 ([UInt8.ofNat k] ++ numB r) := by
            obtain ⟨a3, c3, e3, ha3, _⟩ := ho3.out.arg
            exact ⟨a3, c3, by rw [e3]; show Value.slice a3 (UInt8.ofNat k :: numB (r : Int)).length c3 = _; rw [show (UInt8.ofNat k :: numB (r : Int)).length = 9 from hl9.out], ha3⟩
          have hga3 := hga2.out.trans hd3.out
          have hB3 := hB.out.trans (hga3.mono hB.out.size)
          have hmc := Lib.hid (hof.out w3 (hk.out.below hB3) a3 c3 ha3 (hK.out.below hB3) (hF.out.below hB3))
          rw [hl9.out] at hmc
          replace hB3 := Lib.hid hB3
          clear ho3 hd3 ha3 hga3 hga2 hown2 hof
          go_wp2_with fail
          with_reducible refine hmc.out.mono ?_
          rintro e w4 ⟨rfl, hb4⟩
          have hB4 := hB3.out.trans (hb4.mono hB3.out.size)
          have ha := Lib.hid (harg.out _ _ (heap_alloc_new w4 (.cells D 49)))
          have hB5 := Lib.hid (hB4.alloc hB4.size (.cells D 49))
          clear hB4 hb4 hmc
          go_wp2_with (with_reducible refine wpList_store_new rfl 49 (.tmp 12) (.tmp 41) rfl zero32 D rfl rfl sD s32 sO ?_)
          go_loop [13, 15, 44] (fun x _ j => ∃ q : Nat, q ≤ 8 ∧ j = .int .i64 q ∧ x = .int .u64 ((beNat T q : Nat) : Int)) (fun _ _ j => 8 - (intOf j).toNat)
          case atStart => exact ⟨0, Nat.zero_le _, rfl, rfl⟩
          case round =>
            obtain ⟨q, hq8, rfl, rfl⟩ := hrel
            by_cases hqlt : q < 8
            · obtain ⟨b1, o1, hb1, hc⟩ := ha.out.row q (by rw [hlen.out]; exact hqlt)
              cases hb1
              rw [show T.getD q 0 = cf T q from rfl, Nat.zero_add] at hc
              have hk8 : (q : Int) < 8 := by omega
              have hx : beNat T q < 72057594037927936 := Nat.lt_of_lt_of_le (beNat_lt T q) (Nat.le_trans (Nat.pow_le_pow_right (by omega) (show q ≤ 7 by omega)) (by decide))
              have hor := Lib.hid (add_byte64w (beNat T q) (cf T q) hx)
              have hnx := Lib.hid (show beNat T (q + 1) = beNat T q * 256 + (cf T q).toNat from rfl)
              replace hx := Lib.hid hx
              generalize cf T q = c at *
              generalize beNat T q = X at *
              go_wp2_with fail
              exact ⟨⟨q + 1, by omega, by go_num, by rw [hor.out, hnx.out]⟩, by simp [intOf]; omega⟩
            · obtain rfl : q = 8 := by omega
              have hxo := Lib.hid (hxr.out (beNat T 8) l hl1)
              generalize beNat T 8 = X at *
              go_wp2_with fail
              exact ⟨⟨k + 1, by omega, by go_num, by rw [hn1.out], by rw [hn2.out, ← hxo.out], hB5.out⟩, by simp [intOf]; omega⟩
        · obtain rfl : k = 4 := by omega
          have hl1 : (net (rnd key i) l0 r0 4).1 < 1024 := Nat.lt_of_lt_of_le hlk hp2
          have hj := Lib.hid (hjo.out _ _ hl1 hrk)
          replace hB := Lib.hid hB; replace hlk := Lib.hid hlk; replace hrk := Lib.hid hrk
          generalize (net (rnd key i) l0 r0 4).1 = l at *
          generalize (net (rnd key i) l0 r0 4).2 = r at *
          go_wp2_with fail
          go_ret
          exact ⟨by rw [hst.out, ← hj.out]; rfl, hB.out⟩

set_option maxRecDepth 10000 in
set_option maxHeartbeats 1000000 in
theorem rTo_any (ak : Option Addr) (ck : Nat) (key : List UInt8) (n x : Nat) (w : World) (hk : ArgB w ak ck key) (hkl : key.length ≤ 10000) (h1 : 1 ≤ n) (h2 : n ≤ 1048576) (hx : x < n) (hK : RefK w) (hF : RefF w) :
    Calls Tryd.prog 18 #[.slice ak key.length ck, .int .i64 (n : Int), .int .i64 (x : Int)] w fun e w' => e = .returned (.int .i64 ((place (stepN (rnd key (bitsN n)) (bitsN n)) n (2 ^ (2 * bitsN n)) x : Nat) : Int)) ∧ Below w.heap.size w w' := by
  obtain ⟨hb1, hb2, hs⟩ := bitsN_all h2
  have hbt := Lib.hid (rBits_any n w h1 h2)
  obtain ⟨k, hF1, hkN⟩ := first_of (stepN_lt (rnd_lt key (bitsN n))) (back_step (rnd_lt key (bitsN n))) hs hx
  rw [place_at (2 ^ (2 * bitsN n)) x k hF1 hkN]
  have hil := Lib.hid (fun j => itr_lt (stepN_lt (rnd_lt key (bitsN n))) (show x < 2 ^ (2 * bitsN n) by omega) j)
  have hst := Lib.hid (fun X W A B C D => rStep_any ak ck key (bitsN n) X W A hkl hb1 hb2 B C D)
  have hsu := Lib.hid (fun j => show itr (stepN (rnd key (bitsN n)) (bitsN n)) (j + 1) x = stepN (rnd key (bitsN n)) (bitsN n) (itr (stepN (rnd key (bitsN n)) (bitsN n)) j x) from rfl)
  have h20 := Lib.hid (show 2 ^ (2 * bitsN n) ≤ 2 ^ 20 from Nat.pow_le_pow_right (by omega) (by omega))
  have hkp := hF1.pos
  have hk1 := Lib.hid hF1.here
  have hk2 := Lib.hid hF1.rest
  replace hk := Lib.hid hk; replace hK := Lib.hid hK; replace hF := Lib.hid hF; replace hF1 := Lib.hid hF1; replace hs := Lib.hid hs; replace hx := Lib.hid hx; replace hkN := Lib.hid hkN
  generalize stepN (rnd key (bitsN n)) (bitsN n) = f at *
  generalize bitsN n = B at *
  have h0 := Lib.hid (show itr f 1 x = f x from rfl)
  have hfirst := Lib.hid (hst.out x w hk.out (hil.out 0) hK.out hF.out)
  rw [← h0.out] at hfirst
  go_enter Tryd.func18, Tryd.ntmps18
  go_wp2_with fail
  with_reducible refine hbt.out.mono ?_
  rintro e w1 ⟨rfl, rfl⟩
  clear hbt
  go_wp2_with fail
  with_reducible refine hfirst.out.mono ?_
  rintro e w2 ⟨rfl, hB2⟩
  replace hB2 := Lib.hid hB2
  clear hfirst
  go_wp2_with fail
  go_loopg [8] k (fun g p wr => ∃ j : Nat, 1 ≤ j ∧ j ≤ k ∧ j + g = k + 1 ∧ p = .int .i64 ((itr f j x : Nat) : Int) ∧ Below w.heap.size w wr)
  case atStart => exact ⟨1, Nat.le_refl _, hkp, Nat.add_comm 1 k, rfl, hB2.out⟩
  case round =>
    obtain ⟨j, hj1, hj, hjg, rfl, hB⟩ := hrel
    have hlt := hil.out j
    have h2i : ((itr f j x : Nat) : Int) < 1048576 := by have := h20.out; omega
    by_cases he : j = k
    · subst he
      have hd : decide (n ≤ itr f j x) = false := by have := hk1.out; simp; omega
      replace hB := Lib.hid hB; replace hjg := Lib.hid hjg; replace hlt := Lib.hid hlt
      go_wp2_with fail
      go_ret
      exact ⟨rfl, hB.out⟩
    · have hh := hk2.out j hj1 (by omega)
      have hd : decide (n ≤ itr f j x) = true := by simp; omega
      have hc := Lib.hid (hst.out (itr f j x) wr (hk.out.below hB) hlt (hK.out.below hB) (hF.out.below hB))
      have hn := hsu.out j
      rw [← hn] at hc
      have hjk := Lib.hid (show 1 ≤ j + 1 ∧ j + 1 ≤ k by omega)
      obtain ⟨g', hg'⟩ : ∃ g', gk = g' + 1 := ⟨gk - 1, by omega⟩
      have hjg2 := Lib.hid (show j + 1 + g' = k + 1 by omega)
      replace hB := Lib.hid hB; replace hjg := Lib.hid hjg; replace he := Lib.hid he; replace hlt := Lib.hid hlt; replace hn := Lib.hid hn; replace hg' := Lib.hid hg'; replace hh := Lib.hid hh
      generalize hyy : itr f (j + 1) x = y at hc
      replace hyy := Lib.hid hyy
      generalize itr f j x = u at *
      go_wp2_with fail
      with_reducible refine hc.out.mono ?_
      rintro e w3 ⟨rfl, hB3⟩
      have hB4 := Lib.hid (hB.out.trans (hB3.mono hB.out.size))
      clear hB3 hc
      go_wp2_with fail
      go_roundg g'
      case measure => have := hg'.out; omega
      case rel => exact ⟨j + 1, hjk.out.1, hjk.out.2, hjg2.out, by rw [hyy.out], hB4.out⟩

end Go.Proofs.YtmngcnhnpfnloaaDoor
