/- The walks over (stream.maker).number, (stream.maker).mask. -/
import Derived.Test.YtkenakcipdkdbaaDoorMaker
import Derived.LoopTactic
namespace Go.Proofs.YtkenakcipdkdbaaDoor
open Go.RowKit

/-- The number that bytes make, k of them taken. -/
def beNat (bs : List UInt8) : Nat → Nat
  | 0 => 0
  | k + 1 => beNat bs k * 256 + (cf bs k).toNat
theorem beNat_lt (bs : List UInt8) : ∀ k, beNat bs k < 256 ^ k
  | 0 => by simp [beNat]
  | k + 1 => by
    have := beNat_lt bs k
    have h2 := (cf bs k).toNat_lt
    rw [beNat, Nat.pow_succ]
    omega
theorem or_byte64 (x : Nat) (c : UInt8) (hx : x < 72057594037927936) : bits BinOp.or IntKind.u64 ((x : Int) * 256) (c.toNat : Int) = ((x * 256 + c.toNat : Nat) : Int) := by
  have hc := c.toNat_lt
  have h := u64_or_nat (x * 256) c.toNat (by omega) (by omega)
  rw [Int.natCast_mul, show ((256 : Nat) : Int) = 256 from rfl] at h
  rw [h]
  congr 1
  have h2 := Nat.shiftLeft_add_eq_or_of_lt (b := c.toNat) (i := 8) (by omega) x
  rw [Nat.shiftLeft_eq] at h2
  rw [show (256 : Nat) = 2 ^ 8 from rfl, ← h2]

theorem or_byte64w (x : Nat) (c : UInt8) (hx : x < 72057594037927936) : bits BinOp.or IntKind.u64 (IntKind.u64.wrap ((x : Int) * 256)) (IntKind.u64.wrap (c.toNat : Int)) = ((x * 256 + c.toNat : Nat) : Int) := by
  have hc := c.toNat_lt
  rw [IntWalk.u64_in _ (by omega), IntWalk.u64_in _ (by omega), or_byte64 x c hx]

set_option maxRecDepth 10000 in
set_option maxHeartbeats 1000000 in
theorem mkNumber_any (b : Nat) (key : List UInt8) (n : Int) (w : World) (hk : KeyAt w b key) (h1 : -9223372036854775808 ≤ n) (h2 : n ≤ 9223372036854775807) (hK : ShaK w) (hF : ShaF w) :
    Calls Tryd.prog 25 #[.agg #[.pointer (some ⟨b, 0, none⟩)], .int .i64 n] w fun e w' => e = .returned (.int .u64 ((beNat (blockB key n) 8 : Nat) : Int)) ∧ Below w.heap.size w w' := by
  have hw0 : Below w.heap.size w (w.alloc (.cells #[.pointer (some ⟨b, 0, none⟩)] 51)) := (Below.refl _ w).alloc (Nat.le_refl _) _
  have hbl := Lib.hid (mkBlock_any b key n _ (hk.below hw0) h1 h2 (hK.below hw0) (hF.below hw0))
  have hlen := Lib.hid (blockB_length key n)
  replace hw0 := Lib.hid hw0
  replace h1 := Lib.hid h1
  replace h2 := Lib.hid h2
  clear hk hK hF
  generalize blockB key n = T at *
  go_enter Tryd.func25, Tryd.ntmps25
  go_wp2_with fail
  with_reducible refine hbl.out.mono ?_
  rintro e w1 ⟨v, rfl, ho, hb1⟩
  obtain ⟨a1, c1, rfl, ha, _⟩ := ho.arg
  have hb2 := Lib.hid (hw0.out.trans (hb1.mono hw0.out.size))
  replace ha := Lib.hid ha
  rw [hlen.out]
  clear ho hb1 hbl
  go_wp2_with fail
  go_loop [5, 7, 12] (fun x _ j => ∃ k : Nat, k ≤ 8 ∧ j = .int .i64 k ∧ x = .int .u64 ((beNat T k : Nat) : Int)) (fun _ _ j => 8 - (intOf j).toNat)
  case atStart => exact ⟨0, Nat.zero_le _, rfl, rfl⟩
  case round =>
    obtain ⟨k, hk, rfl, rfl⟩ := hrel
    by_cases hlt : k < 8
    · obtain ⟨b1, o1, rfl, hc⟩ := ha.out.row k (by rw [hlen.out]; exact hlt)
      rw [show T.getD k 0 = cf T k from rfl] at hc
      have hk8 : (k : Int) < 8 := by omega
      have hx : beNat T k < 72057594037927936 := Nat.lt_of_lt_of_le (beNat_lt T k) (Nat.le_trans (Nat.pow_le_pow_right (by omega) (show k ≤ 7 by omega)) (by decide))
      have hor := Lib.hid (or_byte64w (beNat T k) (cf T k) hx)
      have hnx := Lib.hid (show beNat T (k + 1) = beNat T k * 256 + (cf T k).toNat from rfl)
      replace hx := Lib.hid hx
      generalize cf T k = c at *
      generalize beNat T k = x at *
      go_wp2_with fail
      exact ⟨⟨k + 1, by omega, by go_num, by rw [hor.out, hnx.out]⟩, by simp [intOf]; omega⟩
    · obtain rfl : k = 8 := by omega
      go_wp2_with fail
      go_ret
      exact ⟨rfl, hb2.out⟩

/-- A block masked. -/
def maskB (T bs : List UInt8) : List UInt8 := tab 8 fun i => cf T i ^^^ cf bs i
theorem maskB_length (T bs : List UInt8) : (maskB T bs).length = 8 := tab_length _ _
def maskTo (T bs : List UInt8) (k i : Nat) : UInt8 := if i < k then cf T i ^^^ cf bs i else cf T i
theorem maskTo_zero (T bs : List UInt8) (h : T.length = 8) : tab 8 (maskTo T bs 0) = T := by
  rw [show tab 8 (maskTo T bs 0) = tab 8 (cf T) from tab_congr fun i _ => by unfold maskTo; rw [if_neg (Nat.not_lt_zero i)], ← h, tab_cf]
theorem maskTo_set (T bs : List UInt8) (k : Nat) : (tab 8 (maskTo T bs k)).set k (cf T k ^^^ cf bs k) = tab 8 (maskTo T bs (k + 1)) := by
  rw [tab_set]
  refine tab_congr fun i _ => ?_
  unfold maskTo
  by_cases h : i = k
  · subst h; rw [if_pos rfl, if_pos (Nat.lt_succ_self i)]
  · rw [if_neg h]
    by_cases h2 : i < k
    · rw [if_pos h2, if_pos (by omega)]
    · rw [if_neg h2, if_neg (by omega)]
theorem maskTo_end (T bs : List UInt8) : tab 8 (maskTo T bs 8) = maskB T bs := tab_congr fun i hi => by unfold maskTo; rw [if_pos hi]
theorem maskB_twice (T bs : List UInt8) (h : bs.length = 8) : maskB T (maskB T bs) = bs := by
  refine cf_ext (by rw [maskB_length, h]) fun i => ?_
  unfold maskB
  rw [cf_tab, cf_tab]
  by_cases hi : i < 8
  · rw [if_pos hi, if_pos hi, ← UInt8.xor_assoc, UInt8.xor_self, UInt8.zero_xor]
  · rw [if_neg hi, cf_ge (by omega)]

set_option maxRecDepth 10000 in
set_option maxHeartbeats 1000000 in
theorem mkMask_any (b : Nat) (key : List UInt8) (n : Int) (a : Option Addr) (ca : Nat) (bs : List UInt8) (w : World) (hk : KeyAt w b key) (h1 : -9223372036854775808 ≤ n) (h2 : n ≤ 9223372036854775807) (hb : ArgB w a ca bs) (hl : bs.length = 8) (hK : ShaK w) (hF : ShaF w) :
    Calls Tryd.prog 21 #[.agg #[.pointer (some ⟨b, 0, none⟩)], .int .i64 n, .slice a 8 ca] w fun e w' => ∃ v, e = .returned v ∧ OwnB w.heap.size w' v (maskB (blockB key n) bs) ∧ Below w.heap.size w w' := by
  obtain ⟨X, hX⟩ : ∃ X, X = w.alloc (.cells #[.pointer (some ⟨b, 0, none⟩)] 51) := ⟨_, rfl⟩
  have hw0 : Below w.heap.size w X := by rw [hX]; exact (Below.refl _ w).alloc (Nat.le_refl _) _
  have hbl := Lib.hid (mkBlock_any b key n _ (hk.below hw0) h1 h2 (hK.below hw0) (hF.below hw0))
  have hlen := Lib.hid (blockB_length key n)
  have hca : 8 ≤ ca := by have := hb.len; omega
  replace hb := Lib.hid (hb.below hw0)
  replace hw0 := Lib.hid hw0
  replace h1 := Lib.hid h1
  replace h2 := Lib.hid h2
  replace hl := Lib.hid hl
  replace hX := Lib.hid hX
  clear hk hK hF
  generalize blockB key n = T at *
  have hend := Lib.hid (maskTo_end T bs)
  have hset := Lib.hid (maskTo_set T bs)
  have hz := Lib.hid (maskTo_zero T bs hlen.out)
  go_enter Tryd.func21, Tryd.ntmps21
  go_wp2_with fail
  rw [← hX.out]
  with_reducible refine hbl.out.mono ?_
  rintro e w1 ⟨v, rfl, ho, hb1⟩
  obtain ⟨g, c1, rfl, _⟩ := ho.form (by rw [hlen.out]; omega)
  rw [hlen.out] at ho ⊢
  have hgw := (World.ownsRow.lt ho g rfl).1
  have ho3 := Lib.hid (show OwnB X.heap.size w1 (.slice (some ⟨g, 0, none⟩) 8 c1) (tab 8 (maskTo T bs 0)) from by rw [hz.out]; exact ho)
  replace hb1 := Lib.hid hb1
  clear hbl ho
  go_wp2_with fail
  go_loopw [8, 9, 15] (fun _ _ j wr => ∃ k : Nat, k ≤ 8 ∧ j = .int .i64 k ∧ OwnB X.heap.size wr (.slice (some ⟨g, 0, none⟩) 8 c1) (tab 8 (maskTo T bs k)) ∧ Below X.heap.size X wr)
    (fun _ _ j _ => 8 - (intOf j).toNat)
  case atStart => exact ⟨0, Nat.zero_le _, rfl, ho3.out, hb1.out⟩
  case round =>
    clear ho3 hb1
    obtain ⟨k, hk, rfl, hO, hB⟩ := hrel
    by_cases hlt : k < 8
    · obtain ⟨b1, o1, rfl, cx⟩ := (hb.out.below hB).row k (by rw [hl.out]; exact hlt)
      rw [show bs.getD k 0 = cf bs k from rfl] at cx
      have hc := hO.cell (by rw [tab_length]) (j := k) hlt
      rw [cf_tab, if_pos hlt, show maskTo T bs k k = cf T k from by unfold maskTo; rw [if_neg (Nat.lt_irrefl k)]] at hc
      have hf := hO.free (by rw [tab_length]) k
      have hS := hO.set (by rw [tab_length]) k (cf T k ^^^ cf bs k)
      rw [hset.out] at hS
      have e1 := xor8 (cf T k) (cf bs k)
      have hb2 := Lib.hid (hB.setCell (p := ⟨g, k, none⟩) hgw (.int .u8 ((cf T k ^^^ cf bs k).toNat : Int)))
      have hk8 : (k : Int) < 8 := by omega
      replace hS := Lib.hid hS
      replace hO := Lib.hid hO
      replace hB := Lib.hid hB
      obtain ⟨y, hy⟩ : ∃ y, y = cf T k ^^^ cf bs k := ⟨_, rfl⟩
      rw [← hy] at e1 hS hb2
      replace hy := Lib.hid hy
      generalize cf T k = x at *
      generalize cf bs k = z at *
      go_wp2_with fail
      exact ⟨⟨k + 1, by omega, by go_num, hS.out, hb2.out⟩, by simp [intOf]; omega⟩
    · obtain rfl : k = 8 := by omega
      rw [hend.out] at hO
      have hO2 := Lib.hid (OwnB.mono (base' := w.heap.size) hO hw0.out.size)
      have hB2 := Lib.hid (hw0.out.trans (hB.mono hw0.out.size))
      clear hO hB
      go_wp2_with fail
      go_ret
      exact ⟨_, rfl, hO2.out, hB2.out⟩

end Go.Proofs.YtkenakcipdkdbaaDoor
