/- BitsN, NumB, Num20. -/
import Derived.Laws.BitsAllLaws
import Derived.IntWalk
import Derived.Test.YtahnicbokdbjdaaDoorOwnB
import Derived.Deep.LoopGhost
/- The operations on bits at int, on numbers that are not below nought: as on Nat. -/
namespace Go.Proofs.YtahnicbokdbjdaaDoor
open Go.RowKit

theorem i64_of (n : Nat) (h : n < 9223372036854775808) : IntKind.i64.wrap (n : Int) = (n : Int) := IntWalk.i64_in (n : Int) (by omega)
theorem i64_xor_nat (a b : Nat) (ha : a < 9223372036854775808) (hb : b < 9223372036854775808) : bits .xor .i64 (a : Int) (b : Int) = ((a ^^^ b : Nat) : Int) := by
  have hx : a ^^^ b < 2 ^ 63 := Nat.xor_lt_two_pow (by omega) (by omega)
  show IntKind.i64.wrap ((BitVec.ofInt 64 (a : Int) ^^^ BitVec.ofInt 64 (b : Int)).toNat : Int) = _
  rw [BitVec.toNat_xor, ofInt_u64 a (by omega), ofInt_u64 b (by omega)]
  exact i64_of _ (by omega)
theorem i64_or_nat (a b : Nat) (ha : a < 9223372036854775808) (hb : b < 9223372036854775808) : bits .or .i64 (a : Int) (b : Int) = ((a ||| b : Nat) : Int) := by
  have hx : a ||| b < 2 ^ 63 := Nat.or_lt_two_pow (by omega) (by omega)
  show IntKind.i64.wrap ((BitVec.ofInt 64 (a : Int) ||| BitVec.ofInt 64 (b : Int)).toNat : Int) = _
  rw [BitVec.toNat_or, ofInt_u64 a (by omega), ofInt_u64 b (by omega)]
  exact i64_of _ (by omega)
theorem i64_and_nat (a b : Nat) (ha : a < 9223372036854775808) (hb : b < 9223372036854775808) : bits .and .i64 (a : Int) (b : Int) = ((a &&& b : Nat) : Int) := by
  have hx : a &&& b < 2 ^ 63 := Nat.and_lt_two_pow _ (by omega)
  show IntKind.i64.wrap ((BitVec.ofInt 64 (a : Int) &&& BitVec.ofInt 64 (b : Int)).toNat : Int) = _
  rw [BitVec.toNat_and, ofInt_u64 a (by omega), ofInt_u64 b (by omega)]
  exact i64_of _ (by omega)
/-- The low bits of a number. -/
theorem i64_low (x k : Nat) (hx : x < 9223372036854775808) (hk : k ≤ 20) : bits .and .i64 (x : Int) (wrap64 (wrap64 ((2 : Int) ^ k) - 1)) = ((x % 2 ^ k : Nat) : Int) := by
  have hp := Nat.two_pow_pos k
  have hp2 : 2 ^ k ≤ 2 ^ 20 := Nat.pow_le_pow_right (by omega) hk
  have e : (2 : Int) ^ k = ((2 ^ k : Nat) : Int) := by simp
  have hm := i64_and_nat x (2 ^ k - 1) hx (by omega)
  rw [Nat.and_two_pow_sub_one_eq_mod] at hm
  rw [← hm, e]
  obtain ⟨y, hy⟩ : ∃ y, y = 2 ^ k := ⟨_, rfl⟩
  rw [← hy] at hp hp2 ⊢
  rw [IntWalk.wrap64_in (y : Int) (by omega), IntWalk.wrap64_in ((y : Int) - 1) (by omega), show (y : Int) - 1 = ((y - 1 : Nat) : Int) from by omega]
/-- Two halves joined. -/
theorem i64_join (a b k : Nat) (ha : a < 1048576) (hk : k ≤ 20) (hb : b < 2 ^ k) : bits .or .i64 (wrap64 ((a : Int) * (2 : Int) ^ k)) (b : Int) = ((a * 2 ^ k + b : Nat) : Int) := by
  have hp2 : 2 ^ k ≤ 2 ^ 20 := Nat.pow_le_pow_right (by omega) hk
  have hm : a * 2 ^ k < 1048576 * 2 ^ 20 := Nat.lt_of_le_of_lt (Nat.mul_le_mul_left _ hp2) (Nat.mul_lt_mul_of_pos_right ha (by decide))
  have e : (a : Int) * (2 : Int) ^ k = ((a * 2 ^ k : Nat) : Int) := by simp
  have h2 := Nat.shiftLeft_add_eq_or_of_lt hb a
  rw [Nat.shiftLeft_eq] at h2
  rw [e, h2]
  obtain ⟨y, hy⟩ : ∃ y, y = a * 2 ^ k := ⟨_, rfl⟩
  rw [← hy] at hm ⊢
  rw [IntWalk.wrap64_in (y : Int) (by omega)]
  exact i64_or_nat y b (by omega) (by omega)

end Go.Proofs.YtahnicbokdbjdaaDoor
/- A number as eight bytes: plainly. -/
namespace Go.Proofs.YtahnicbokdbjdaaDoor
open Go.RowKit

/-- A number as a word of 64 bits. -/
def numU (n : Int) : Nat := (n % 18446744073709551616).toNat
def numByte (n : Int) (j : Nat) : UInt8 := UInt8.ofNat (numU n / 2 ^ (8 * (7 - j)))
/-- A number as eight bytes, the high one first. -/
def numB (n : Int) : List UInt8 := (List.range 8).map (numByte n)
theorem numB_length (n : Int) : (numB n).length = 8 := by simp [numB]
theorem numU_lt (n : Int) : numU n < 18446744073709551616 := by unfold numU; omega
theorem numByte_shr (n : Int) (k : Nat) (hk : k < 8) : n / ((2 ^ (8 * (7 - k)) : Nat) : Int) % 256 = ((numByte n k).toNat : Int) := by
  unfold numByte
  rw [UInt8.toNat_ofNat']
  obtain ⟨m, hm⟩ : ∃ m : Int, n = (numU n : Int) + 18446744073709551616 * m := ⟨n / 18446744073709551616, by unfold numU; omega⟩
  generalize numU n = u at *
  rw [hm]
  have h : k = 0 ∨ k = 1 ∨ k = 2 ∨ k = 3 ∨ k = 4 ∨ k = 5 ∨ k = 6 ∨ k = 7 := by omega
  rcases h with rfl | rfl | rfl | rfl | rfl | rfl | rfl | rfl <;> simp <;> omega
/-- What is left of a word when r bytes were taken. -/
def numX (n : Int) (r : Nat) : Nat := numU n / 256 ^ r
theorem numX_zero (n : Int) : numX n 0 = numU n := by simp [numX]
theorem numX_succ (n : Int) (r : Nat) : numX n (r + 1) = numX n r / 256 := by
  unfold numX
  rw [Nat.pow_succ, Nat.div_div_eq_div_mul]
theorem numX_byte (n : Int) (r : Nat) (hr : r < 8) : ((numX n r : Nat) : Int) % 256 = ((numByte n (7 - r)).toNat : Int) := by
  unfold numX numByte
  rw [UInt8.toNat_ofNat', show 7 - (7 - r) = r from by omega, show (256 : Nat) = 2 ^ 8 from rfl, ← Nat.pow_mul]
  omega
theorem numX_lt (n : Int) (r : Nat) : numX n r < 18446744073709551616 := Nat.lt_of_le_of_lt (Nat.div_le_self _ _) (numU_lt n)
/-- The bytes from the end, r of them done. -/
def backTo (n : Int) (r j : Nat) : UInt8 := if 8 - r ≤ j then numByte n j else 0
theorem backTo_zero (n : Int) : tab 8 (backTo n 0) = tab 8 fun _ => 0 := tab_congr fun i hi => by unfold backTo; rw [if_neg (by omega)]
theorem backTo_set (n : Int) (r : Nat) (hr : r < 8) : (tab 8 (backTo n r)).set (7 - r) (numByte n (7 - r)) = tab 8 (backTo n (r + 1)) := by
  rw [tab_set]
  refine tab_congr fun i hi => ?_
  unfold backTo
  by_cases h : i = 7 - r
  · subst h; rw [if_pos rfl, if_pos (by omega)]
  · rw [if_neg h]
    by_cases h2 : 8 - r ≤ i
    · rw [if_pos h2, if_pos (by omega)]
    · rw [if_neg h2, if_neg (by omega)]
theorem backTo_end (n : Int) : tab 8 (backTo n 8) = numB n := tab_congr fun i _ => by unfold backTo; rw [if_pos (by omega)]
theorem numTo_succ (n : Int) (k : Nat) : (List.range (k + 1)).map (numByte n) = (List.range k).map (numByte n) ++ [numByte n k] := by simp [List.range_succ]

/-- The word that bytes make, the high one first. -/
def wordOf : List UInt8 → Nat → Nat
  | [], x => x
  | b :: bs, x => wordOf bs (x * 256 + b.toNat)

end Go.Proofs.YtahnicbokdbjdaaDoor
/- The walk over label.Number (n10/XNumber's, without sha). -/
namespace Go.Proofs.YtahnicbokdbjdaaDoor
open Go.RowKit

section
variable {w : World} {ops : Array Oper} {rest : List Oper} {o : Oper} {a : Act} {Q : Exit → Act → World → Prop}
theorem wpB_app1z (hgd : o.guard = none) (s x : Operand) (ho : o.op = .call { callee := .builtin .append, args := #[s, x], argTypes := #[36, 36] })
    (base : Nat) (v : Value) (bs : List UInt8) (hs : a.eval s = v) (hown : Hid (OwnB base w v bs))
    (u : UInt8) (z : Int) (hz : z = (u.toNat : Int)) (hx : a.eval x = .slice (some ⟨w.heap.size, 0, none⟩) 1 1) (hl : bs.length ≤ 1000000) (hbase : base ≤ w.heap.size)
    (h : ∀ v' w', Hid (OwnB base w' v' (bs ++ [u])) → Hid (Below base w w') → wpList Tryd.prog ops Q rest (a.put o.dst v') w') :
    wpList Tryd.prog ops Q (o :: rest) a (w.alloc (.cells #[.int .u8 z] 5)) := by
  subst hz
  exact wpB_app1 hgd s x ho base v bs hs hown u hx hl hbase h
end

set_option maxHeartbeats 1000000 in
theorem lnum_any (n : Int) (w : World) (h1 : -9223372036854775808 ≤ n) (h2 : n ≤ 9223372036854775807) :
    Calls Tryd.prog 18 #[.int .i64 n] w fun e w' => ∃ v, e = .returned v ∧ OwnB w.heap.size w' v (numB n) ∧ Below w.heap.size w w' := by
  have h0 := Lib.hid (OwnB.nil w.heap.size w)
  have hby := Lib.hid (numByte_shr n)
  have hsc := Lib.hid (numTo_succ n)
  have hend := Lib.hid (show (List.range 8).map (numByte n) = numB n from rfl)
  replace h1 := Lib.hid h1
  replace h2 := Lib.hid h2
  go_enter Tryd.func18, Tryd.ntmps18
  go_wp2_with fail
  go_loopw [3, 4] (fun v j wr => ∃ k : Nat, k ≤ 8 ∧ j = .int .i64 (7 - (k : Int)) ∧ OwnB w.heap.size wr v ((List.range k).map (numByte n)) ∧ Below w.heap.size w wr)
    (fun _ j _ => (intOf j + 8).toNat)
  case atStart => exact ⟨0, Nat.zero_le _, rfl, h0.out, Below.refl _ _⟩
  case round =>
    clear h0
    obtain ⟨k, hk, rfl, hown, hbel⟩ := hrel
    have hsz := hbel.size
    replace hown := Lib.hid hown
    replace hbel := Lib.hid hbel
    by_cases hlt : k < 8
    · have hll : ((List.range k).map (numByte n)).length ≤ 1000000 := by rw [List.length_map, List.length_range]; omega
      have hge : (0 : Int) ≤ 7 - (k : Int) := by omega
      have hb := Lib.hid (hby.out k hlt)
      have hs := Lib.hid (hsc.out k)
      generalize (List.range k).map (numByte n) = T at *
      go_wp2_with (at_builtin; go_must (refine wpB_app1z rfl (.tmp 9) (.tmp 15) rfl w.heap.size _ T rfl hown (numByte n k) _ ?hz rfl hll hsz ?_))
      case hz => exact hb.out
      intro v5 w5 ho5 hd5
      have hb5 := Lib.hid (hbel.out.trans hd5.out)
      go_wp2_with fail
      go_roundw
      case rel => exact ⟨k + 1, by omega, by go_num, by rw [hs.out]; exact ho5.out, hb5.out⟩
      case measure => simp [intOf]; omega
    · obtain rfl : k = 8 := by omega
      have hlt7 : ¬ (0 : Int) ≤ 7 - ((8 : Nat) : Int) := by omega
      go_wp2_with fail
      go_ret
      exact ⟨_, rfl, by rw [← hend.out]; exact hown.out, hbel.out⟩

end Go.Proofs.YtahnicbokdbjdaaDoor
