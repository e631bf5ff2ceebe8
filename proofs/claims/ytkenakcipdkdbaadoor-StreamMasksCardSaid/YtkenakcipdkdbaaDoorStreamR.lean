/- The walks over baileeref10.Block, Number. -/
import Derived.Test.YtkenakcipdkdbaaDoorStream
import Derived.Test.YtkenakcipdkdbaaDoorTagR
namespace Go.Proofs.YtkenakcipdkdbaaDoor
open Go.RowKit

theorem refBlock_bad (a : Value) (n : Int) (w : World) (hn : cntd n = false) :
    Calls Tryd.prog 15 #[a, .int .i64 n] w fun e w' => e = .returned (.tuple #[.slice none 0 0, .int .i64 1]) ∧ w = w' := by
  by_cases h1 : n < 0
  · replace hn := Lib.hid hn
    go_enter Tryd.func15, Tryd.ntmps15
    go_wp2_with fail
    go_ret2
    exact ⟨rfl, rfl⟩
  · have h2 : 1099511627776 < n := by
      unfold cntd at hn
      simp only [decide_eq_false_iff_not] at hn
      omega
    replace hn := Lib.hid hn
    go_enter Tryd.func15, Tryd.ntmps15
    go_wp2_with fail
    go_ret2
    exact ⟨rfl, rfl⟩

set_option maxRecDepth 10000 in
set_option maxHeartbeats 1000000 in
theorem refBlock_ok (ak : Option Addr) (ck : Nat) (key : List UInt8) (n : Int) (w : World) (hk : ArgB w ak ck key) (hkl : key.length ≤ 10000) (hn : cntd n = true) (hK : RefK w) (hF : RefF w) :
    Calls Tryd.prog 15 #[.slice ak key.length ck, .int .i64 n] w fun e w' => ∃ v, e = .returned (.tuple #[v, .int .i64 0]) ∧ OwnB w.heap.size w' v (blockB key n) ∧ Below w.heap.size w w' := by
  have hnr : 0 ≤ n ∧ n ≤ 1099511627776 := by simpa [cntd] using hn
  have zr2 := zeroR_run
  have zn2 := zero32_ne
  have hnum := Lib.hid (rnum_any n w (by omega) (by omega))
  have sD := sizeR (hmac key (numB n)) (hmac_length _ _)
  have s32 := z32 (hmac key (numB n)) (hmac_length _ _)
  have sO := cB_all (hmac key (numB n))
  have hnb := Lib.hid (numB_length n)
  have hlen := Lib.hid (blockB_length key n)
  have harg := Lib.hid (fun (W : World) (g : Nat) (hh : W.heap[g]? = some (.cells (cB (hmac key (numB n))).toArray 60 (0, 0))) => argB_takeN (argB_block (c := 32) hh (by rw [hmac_length]; omega) (by omega)) 8 (by rw [hmac_length]; omega))
  rw [show (hmac key (numB n)).take 8 = blockB key n from rfl] at harg
  have hof := Lib.hid (fun W (B : ArgB W ak ck key) am cm (C : ArgB W am cm (numB n)) D E => rmacOf_any ak ck key am cm (numB n) W B hkl C (by rw [numB_length]; omega) D E)
  obtain ⟨D, hD⟩ : ∃ D, D = (cB (hmac key (numB n))).toArray := ⟨_, rfl⟩
  rw [← hD] at sD s32 sO harg hof
  replace hD := Lib.hid hD
  have h1 : 0 ≤ n := hnr.1
  have h2 : n ≤ 1099511627776 := hnr.2
  replace hk := Lib.hid hk; replace hK := Lib.hid hK; replace hF := Lib.hid hF; replace hn := Lib.hid hn
  clear hnr
  generalize blockB key n = T at *
  generalize numB n = nb at *
  go_enter Tryd.func15, Tryd.ntmps15
  go_wp2_with fail
  with_reducible refine hnum.out.mono ?_
  rintro e w0 ⟨v0, rfl, ho0, hb0⟩
  obtain ⟨a0, c0, rfl, ha0, _⟩ := ho0.arg
  have hm := Lib.hid (hof.out w0 (hk.out.below hb0) a0 c0 ha0 (hK.out.below hb0) (hF.out.below hb0))
  replace hb0 := Lib.hid hb0
  clear ho0 ha0 hnum
  go_wp2_with fail
  with_reducible refine hm.out.mono ?_
  rintro e w1 ⟨rfl, hb1'⟩
  have hb1 := hb0.out.trans (hb1'.mono hb0.out.size)
  have hs := hb1.size
  have hg2 := (Below.refl w1.heap.size w1).alloc (Nat.le_refl _) (.cells D 60)
  have hg3 := (Below.refl (w1.alloc (.cells D 60)).heap.size (w1.alloc (.cells D 60))).alloc (Nat.le_refl _) (.cells #[] 5)
  have ha := Lib.hid ((harg.out _ _ (heap_alloc_new w1 (.cells D 60))).below hg3)
  have hown := owns_made0 (w1.alloc (.cells D 60)) (w1.alloc (.cells D 60)).heap.size (Nat.le_refl _)
  have hsz3 := hg3.size
  rw [show (w1.alloc (.cells D 60)).heap.size = w1.heap.size + 1 from by simp] at hown hsz3 hg3
  have hb3 := Lib.hid (hb1.trans ((hg2.trans (hg3.mono (Nat.le_succ _))).mono hb1.size))
  replace hown := Lib.hid hown
  clear hg2 hg3 hb1 hb1' hm hof
  go_wp2_with (first | with_reducible refine wpList_store_new rfl 60 (.tmp 6) (.tmp 16) rfl zero32 D rfl rfl sD s32 sO ?_ | (at_builtin; refine wpB_app rfl (.tmp 17) (.tmp 18) rfl (w1.heap.size + 1) _ [] rfl hown (some ⟨w1.heap.size, 0, none⟩) 32 T 8 rfl hlen ha (by simp) (by omega) hsz3 ?_))
  intro v2 w2 ho2 hd2
  have ho3 := Lib.hid (OwnB.mono (base' := w.heap.size) (show OwnB (w1.heap.size + 1) w2 v2 T from by simpa using ho2.out) (by omega))
  have hb4 := Lib.hid (hb3.out.trans (hd2.out.mono (by omega)))
  clear ho2 hd2
  go_wp2_with fail
  go_ret2
  exact ⟨_, rfl, ho3.out, hb4.out⟩

theorem add_byte64w (x : Nat) (c : UInt8) (hx : x < 72057594037927936) : IntKind.u64.wrap (IntKind.u64.wrap ((x : Int) * 256) + IntKind.u64.wrap (c.toNat : Int)) = ((x * 256 + c.toNat : Nat) : Int) := by
  have hc := c.toNat_lt
  rw [IntWalk.u64_in ((x : Int) * 256) (by omega), IntWalk.u64_in (c.toNat : Int) (by omega), IntWalk.u64_in _ (by omega)]
  omega

set_option maxRecDepth 10000 in
set_option maxHeartbeats 1000000 in
theorem refNumber_any (ak : Option Addr) (ck : Nat) (key : List UInt8) (n : Int) (w : World) (hk : ArgB w ak ck key) (hkl : key.length ≤ 10000) (hn : cntd n = true) (hK : RefK w) (hF : RefF w) :
    Calls Tryd.prog 17 #[.slice ak key.length ck, .int .i64 n] w fun e w' => e = .returned (.int .u64 ((beNat (blockB key n) 8 : Nat) : Int)) ∧ Below w.heap.size w w' := by
  have hnr : 0 ≤ n ∧ n ≤ 1099511627776 := by simpa [cntd] using hn
  have zr2 := zeroR_run
  have zn2 := zero32_ne
  have hnum := Lib.hid (rnum_any n w (by omega) (by omega))
  have sD := sizeR (hmac key (numB n)) (hmac_length _ _)
  have s32 := z32 (hmac key (numB n)) (hmac_length _ _)
  have sO := cB_all (hmac key (numB n))
  have hlen := Lib.hid (blockB_length key n)
  have harg := Lib.hid (fun (W : World) (g : Nat) (hh : W.heap[g]? = some (.cells (cB (hmac key (numB n))).toArray 60 (0, 0))) => argB_takeN (argB_block (c := 32) hh (by rw [hmac_length]; omega) (by omega)) 8 (by rw [hmac_length]; omega))
  rw [show (hmac key (numB n)).take 8 = blockB key n from rfl] at harg
  have hof := Lib.hid (fun W (B : ArgB W ak ck key) am cm (C : ArgB W am cm (numB n)) D E => rmacOf_any ak ck key am cm (numB n) W B hkl C (by rw [numB_length]; omega) D E)
  have hnb := Lib.hid (numB_length n)
  obtain ⟨D, hD⟩ : ∃ D, D = (cB (hmac key (numB n))).toArray := ⟨_, rfl⟩
  rw [← hD] at sD s32 sO harg hof
  replace hD := Lib.hid hD
  replace hk := Lib.hid hk; replace hK := Lib.hid hK; replace hF := Lib.hid hF; replace hn := Lib.hid hn; replace hnr := Lib.hid hnr
  generalize blockB key n = T at *
  generalize numB n = nb at *
  go_enter Tryd.func17, Tryd.ntmps17
  go_wp2_with fail
  with_reducible refine hnum.out.mono ?_
  rintro e w0 ⟨v0, rfl, ho0, hb0⟩
  obtain ⟨a0, c0, rfl, ha0, _⟩ := ho0.arg
  have hm := Lib.hid (hof.out w0 (hk.out.below hb0) a0 c0 ha0 (hK.out.below hb0) (hF.out.below hb0))
  replace hb0 := Lib.hid hb0
  clear ho0 ha0 hnum
  go_wp2_with fail
  with_reducible refine hm.out.mono ?_
  rintro e w1 ⟨rfl, hb1'⟩
  have hb1 := hb0.out.trans (hb1'.mono hb0.out.size)
  have ha := Lib.hid (harg.out _ _ (heap_alloc_new w1 (.cells D 60)))
  have hb3 := Lib.hid (hb1.alloc hb1.size (.cells D 60))
  clear hb1 hb1' hm hof
  go_wp2_with (with_reducible refine wpList_store_new rfl 60 (.tmp 5) (.tmp 12) rfl zero32 D rfl rfl sD s32 sO ?_)
  go_loop [6, 8, 15] (fun x _ j => ∃ k : Nat, k ≤ 8 ∧ j = .int .i64 k ∧ x = .int .u64 ((beNat T k : Nat) : Int)) (fun _ _ j => 8 - (intOf j).toNat)
  case atStart => exact ⟨0, Nat.zero_le _, rfl, rfl⟩
  case round =>
    obtain ⟨k, hk, rfl, rfl⟩ := hrel
    by_cases hlt : k < 8
    · obtain ⟨b1, o1, hb1, hc⟩ := ha.out.row k (by rw [hlen.out]; exact hlt)
      cases hb1
      rw [show T.getD k 0 = cf T k from rfl, Nat.zero_add] at hc
      have hk8 : (k : Int) < 8 := by omega
      have hx : beNat T k < 72057594037927936 := Nat.lt_of_lt_of_le (beNat_lt T k) (Nat.le_trans (Nat.pow_le_pow_right (by omega) (show k ≤ 7 by omega)) (by decide))
      have hor := Lib.hid (add_byte64w (beNat T k) (cf T k) hx)
      have hnx := Lib.hid (show beNat T (k + 1) = beNat T k * 256 + (cf T k).toNat from rfl)
      replace hx := Lib.hid hx
      generalize cf T k = c at *
      generalize beNat T k = x at *
      go_wp2_with fail
      exact ⟨⟨k + 1, by omega, by go_num, by rw [hor.out, hnx.out]⟩, by simp [intOf]; omega⟩
    · obtain rfl : k = 8 := by omega
      go_wp2_with fail
      go_ret
      exact ⟨rfl, hb3.out⟩

end Go.Proofs.YtkenakcipdkdbaaDoor
