/- BitsN, NumB, Num20, RecH, LoadMid, Ints. -/
import Derived.Laws.BitsAllLaws
import Derived.IntWalk
import Derived.Test.YtahnicbokdbjdaaDoorF2ParsSaid20
import Derived.Deep.LoopGhost
import Derived.Test.YtahnicbokdbjdaaDoorF4ParsSaid20
import Derived.Deep.MidRow
import Derived.Test.YtahnicbokdbjdaaDoorF1ParsSaid20
import Derived.Test.YtahnicbokdbjdaaDoorRows
import Derived.Outline
/- The operations on bits at int, on numbers that are not below nought: as on Nat. -/
namespace Go.Proofs.YtahnicbokdbjdaaDoor
open Go.RowKit

theorem i64_of (n : Nat) (h : n < 9223372036854775808) : IntKind.i64.wrap (n : Int) = (n : Int) := IntWalk.i64_in (n : Int) (by omega)
theorem i64_xor_nat (a b : Nat) (ha : a < 9223372036854775808) (hb : b < 9223372036854775808) : bits .xor .i64 (a : Int) (b : Int) = ((a ^^^ b : Nat) : Int) := by
  have hx : a ^^^ b < 2 ^ 63 := Nat.xor_lt_two_pow (by omega) (by omega)
  show IntKind.i64.wrap ((BitVec.ofInt 64 (a : Int) ^^^ BitVec.ofInt 64 (b : Int)).toNat : Int) = _
  rw [BitVec.toNat_xor, ofInt_u64 a (by omega), ofInt_u64 b (by omega)]
  exact i64_of _ (by omega)
theorem i64_or_nat (a b : Nat) (ha : a < 9223372036854775808) (hb : b < 9223372036854775808) : bits .or .i64 (a : Int) (b : Int) = ((a ||| b : Nat) : Int) := by
  have hx : a ||| b < 2 ^ 63 := Nat.or_lt_two_pow (by omega) (by omega)
  show IntKind.i64.wrap ((BitVec.ofInt 64 (a : Int) ||| BitVec.ofInt 64 (b : Int)).toNat : Int) = _
  rw [BitVec.toNat_or, ofInt_u64 a (by omega), ofInt_u64 b (by omega)]
  exact i64_of _ (by omega)
theorem i64_and_nat (a b : Nat) (ha : a < 9223372036854775808) (hb : b < 9223372036854775808) : bits .and .i64 (a : Int) (b : Int) = ((a &&& b : Nat) : Int) := by
  have hx : a &&& b < 2 ^ 63 := Nat.and_lt_two_pow _ (by omega)
  show IntKind.i64.wrap ((BitVec.ofInt 64 (a : Int) &&& BitVec.ofInt 64 (b : Int)).toNat : Int) = _
  rw [BitVec.toNat_and, ofInt_u64 a (by omega), ofInt_u64 b (by omega)]
  exact i64_of _ (by omega)
/-- The low bits of a number. -/
theorem i64_low (x k : Nat) (hx : x < 9223372036854775808) (hk : k ≤ 20) : bits .and .i64 (x : Int) (wrap64 (wrap64 ((2 : Int) ^ k) - 1)) = ((x % 2 ^ k : Nat) : Int) := by
  have hp := Nat.two_pow_pos k
  have hp2 : 2 ^ k ≤ 2 ^ 20 := Nat.pow_le_pow_right (by omega) hk
  have e : (2 : Int) ^ k = ((2 ^ k : Nat) : Int) := by simp
  have hm := i64_and_nat x (2 ^ k - 1) hx (by omega)
  rw [Nat.and_two_pow_sub_one_eq_mod] at hm
  rw [← hm, e]
  obtain ⟨y, hy⟩ : ∃ y, y = 2 ^ k := ⟨_, rfl⟩
  rw [← hy] at hp hp2 ⊢
  rw [IntWalk.wrap64_in (y : Int) (by omega), IntWalk.wrap64_in ((y : Int) - 1) (by omega), show (y : Int) - 1 = ((y - 1 : Nat) : Int) from by omega]
/-- Two halves joined. -/
theorem i64_join (a b k : Nat) (ha : a < 1048576) (hk : k ≤ 20) (hb : b < 2 ^ k) : bits .or .i64 (wrap64 ((a : Int) * (2 : Int) ^ k)) (b : Int) = ((a * 2 ^ k + b : Nat) : Int) := by
  have hp2 : 2 ^ k ≤ 2 ^ 20 := Nat.pow_le_pow_right (by omega) hk
  have hm : a * 2 ^ k < 1048576 * 2 ^ 20 := Nat.lt_of_le_of_lt (Nat.mul_le_mul_left _ hp2) (Nat.mul_lt_mul_of_pos_right ha (by decide))
  have e : (a : Int) * (2 : Int) ^ k = ((a * 2 ^ k : Nat) : Int) := by simp
  have h2 := Nat.shiftLeft_add_eq_or_of_lt hb a
  rw [Nat.shiftLeft_eq] at h2
  rw [e, h2]
  obtain ⟨y, hy⟩ : ∃ y, y = a * 2 ^ k := ⟨_, rfl⟩
  rw [← hy] at hm ⊢
  rw [IntWalk.wrap64_in (y : Int) (by omega)]
  exact i64_or_nat y b (by omega) (by omega)

end Go.Proofs.YtahnicbokdbjdaaDoor
/- A number as eight bytes: plainly. -/
namespace Go.Proofs.YtahnicbokdbjdaaDoor
open Go.RowKit

/-- A number as a word of 64 bits. -/
def numU (n : Int) : Nat := (n % 18446744073709551616).toNat
def numByte (n : Int) (j : Nat) : UInt8 := UInt8.ofNat (numU n / 2 ^ (8 * (7 - j)))
/-- A number as eight bytes, the high one first. -/
def numB (n : Int) : List UInt8 := (List.range 8).map (numByte n)
theorem numB_length (n : Int) : (numB n).length = 8 := by simp [numB]
theorem numU_lt (n : Int) : numU n < 18446744073709551616 := by unfold numU; omega
theorem numByte_shr (n : Int) (k : Nat) (hk : k < 8) : n / ((2 ^ (8 * (7 - k)) : Nat) : Int) % 256 = ((numByte n k).toNat : Int) := by
  unfold numByte
  rw [UInt8.toNat_ofNat']
  obtain ⟨m, hm⟩ : ∃ m : Int, n = (numU n : Int) + 18446744073709551616 * m := ⟨n / 18446744073709551616, by unfold numU; omega⟩
  generalize numU n = u at *
  rw [hm]
  have h : k = 0 ∨ k = 1 ∨ k = 2 ∨ k = 3 ∨ k = 4 ∨ k = 5 ∨ k = 6 ∨ k = 7 := by omega
  rcases h with rfl | rfl | rfl | rfl | rfl | rfl | rfl | rfl <;> simp <;> omega
/-- What is left of a word when r bytes were taken. -/
def numX (n : Int) (r : Nat) : Nat := numU n / 256 ^ r
theorem numX_zero (n : Int) : numX n 0 = numU n := by simp [numX]
theorem numX_succ (n : Int) (r : Nat) : numX n (r + 1) = numX n r / 256 := by
  unfold numX
  rw [Nat.pow_succ, Nat.div_div_eq_div_mul]
theorem numX_byte (n : Int) (r : Nat) (hr : r < 8) : ((numX n r : Nat) : Int) % 256 = ((numByte n (7 - r)).toNat : Int) := by
  unfold numX numByte
  rw [UInt8.toNat_ofNat', show 7 - (7 - r) = r from by omega, show (256 : Nat) = 2 ^ 8 from rfl, ← Nat.pow_mul]
  omega
theorem numX_lt (n : Int) (r : Nat) : numX n r < 18446744073709551616 := Nat.lt_of_le_of_lt (Nat.div_le_self _ _) (numU_lt n)
/-- The bytes from the end, r of them done. -/
def backTo (n : Int) (r j : Nat) : UInt8 := if 8 - r ≤ j then numByte n j else 0
theorem backTo_zero (n : Int) : tab 8 (backTo n 0) = tab 8 fun _ => 0 := tab_congr fun i hi => by unfold backTo; rw [if_neg (by omega)]
theorem backTo_set (n : Int) (r : Nat) (hr : r < 8) : (tab 8 (backTo n r)).set (7 - r) (numByte n (7 - r)) = tab 8 (backTo n (r + 1)) := by
  rw [tab_set]
  refine tab_congr fun i hi => ?_
  unfold backTo
  by_cases h : i = 7 - r
  · subst h; rw [if_pos rfl, if_pos (by omega)]
  · rw [if_neg h]
    by_cases h2 : 8 - r ≤ i
    · rw [if_pos h2, if_pos (by omega)]
    · rw [if_neg h2, if_neg (by omega)]
theorem backTo_end (n : Int) : tab 8 (backTo n 8) = numB n := tab_congr fun i _ => by unfold backTo; rw [if_pos (by omega)]
theorem numTo_succ (n : Int) (k : Nat) : (List.range (k + 1)).map (numByte n) = (List.range k).map (numByte n) ++ [numByte n k] := by simp [List.range_succ]

/-- The word that bytes make, the high one first. -/
def wordOf : List UInt8 → Nat → Nat
  | [], x => x
  | b :: bs, x => wordOf bs (x * 256 + b.toNat)

end Go.Proofs.YtahnicbokdbjdaaDoor
/- The walk over label.Number (n10/XNumber's, without sha). -/
namespace Go.Proofs.YtahnicbokdbjdaaDoor
open Go.RowKit

section
variable {w : World} {ops : Array Oper} {rest : List Oper} {o : Oper} {a : Act} {Q : Exit → Act → World → Prop}
theorem wpB_app1z (hgd : o.guard = none) (s x : Operand) (ho : o.op = .call { callee := .builtin .append, args := #[s, x], argTypes := #[36, 36] })
    (base : Nat) (v : Value) (bs : List UInt8) (hs : a.eval s = v) (hown : Hid (OwnB base w v bs))
    (u : UInt8) (z : Int) (hz : z = (u.toNat : Int)) (hx : a.eval x = .slice (some ⟨w.heap.size, 0, none⟩) 1 1) (hl : bs.length ≤ 1000000) (hbase : base ≤ w.heap.size)
    (h : ∀ v' w', Hid (OwnB base w' v' (bs ++ [u])) → Hid (Below base w w') → wpList Tryd.prog ops Q rest (a.put o.dst v') w') :
    wpList Tryd.prog ops Q (o :: rest) a (w.alloc (.cells #[.int .u8 z] 5)) := by
  subst hz
  exact wpB_app1 hgd s x ho base v bs hs hown u hx hl hbase h
end

set_option maxHeartbeats 1000000 in
theorem lnum_any (n : Int) (w : World) (h1 : -9223372036854775808 ≤ n) (h2 : n ≤ 9223372036854775807) :
    Calls Tryd.prog 18 #[.int .i64 n] w fun e w' => ∃ v, e = .returned v ∧ OwnB w.heap.size w' v (numB n) ∧ Below w.heap.size w w' := by
  have h0 := Lib.hid (OwnB.nil w.heap.size w)
  have hby := Lib.hid (numByte_shr n)
  have hsc := Lib.hid (numTo_succ n)
  have hend := Lib.hid (show (List.range 8).map (numByte n) = numB n from rfl)
  replace h1 := Lib.hid h1
  replace h2 := Lib.hid h2
  go_enter Tryd.func18, Tryd.ntmps18
  go_wp2_with fail
  go_loopw [3, 4] (fun v j wr => ∃ k : Nat, k ≤ 8 ∧ j = .int .i64 (7 - (k : Int)) ∧ OwnB w.heap.size wr v ((List.range k).map (numByte n)) ∧ Below w.heap.size w wr)
    (fun _ j _ => (intOf j + 8).toNat)
  case atStart => exact ⟨0, Nat.zero_le _, rfl, h0.out, Below.refl _ _⟩
  case round =>
    clear h0
    obtain ⟨k, hk, rfl, hown, hbel⟩ := hrel
    have hsz := hbel.size
    replace hown := Lib.hid hown
    replace hbel := Lib.hid hbel
    by_cases hlt : k < 8
    · have hll : ((List.range k).map (numByte n)).length ≤ 1000000 := by rw [List.length_map, List.length_range]; omega
      have hge : (0 : Int) ≤ 7 - (k : Int) := by omega
      have hb := Lib.hid (hby.out k hlt)
      have hs := Lib.hid (hsc.out k)
      generalize (List.range k).map (numByte n) = T at *
      go_wp2_with (at_builtin; go_must (refine wpB_app1z rfl (.tmp 9) (.tmp 15) rfl w.heap.size _ T rfl hown (numByte n k) _ ?hz rfl hll hsz ?_))
      case hz => exact hb.out
      intro v5 w5 ho5 hd5
      have hb5 := Lib.hid (hbel.out.trans hd5.out)
      go_wp2_with fail
      go_roundw
      case rel => exact ⟨k + 1, by omega, by go_num, by rw [hs.out]; exact ho5.out, hb5.out⟩
      case measure => simp [intOf]; omega
    · obtain rfl : k = 8 := by omega
      have hlt7 : ¬ (0 : Int) ≤ 7 - ((8 : Nat) : Int) := by omega
      go_wp2_with fail
      go_ret
      exact ⟨_, rfl, by rw [← hend.out]; exact hown.out, hbel.out⟩

end Go.Proofs.YtahnicbokdbjdaaDoor
/- record.index; baileeref20.big, number. -/
namespace Go.Proofs.YtahnicbokdbjdaaDoor
open Go.RowKit

theorem big_any (x : Int) (w : World) : Calls Tryd.prog 37 #[.int .i64 x] w fun e w' => e = .returned (.bool (!inB x 0 1099511627776)) ∧ w = w' := by
  by_cases h1 : x < 0
  · have hn : inB x 0 1099511627776 = false := by unfold inB; simp; omega
    rw [hn]
    go_enter Tryd.func37, Tryd.ntmps37
    go_wp2_with fail
    go_ret
    exact ⟨rfl, rfl⟩
  · by_cases h2 : 1099511627776 < x
    · have hn : inB x 0 1099511627776 = false := by unfold inB; simp; omega
      rw [hn]
      have h3 : decide (1099511627776 < x) = true := by simpa using h2
      clear h2
      go_enter Tryd.func37, Tryd.ntmps37
      go_wp2_with fail
      go_ret
      exact ⟨rfl, rfl⟩
    · have hn : inB x 0 1099511627776 = true := by unfold inB; simp; omega
      rw [hn]
      go_enter Tryd.func37, Tryd.ntmps37
      go_wp2_with fail
      go_ret
      exact ⟨rfl, rfl⟩

/-- The number that bytes are, or -1. -/
def numR : List UInt8 → Int → Int
  | [], s => s
  | b :: r, s => if 2199023255552 < s then -1 else numR r (s * 256 + b.toNat)
theorem drop_cf (bs : List UInt8) (k : Nat) (h : k < bs.length) : bs.drop k = bs.getD k 0 :: bs.drop (k + 1) := by
  rw [List.drop_eq_getElem_cons h]
  congr 1
  simp [List.getD_eq_getElem?_getD, h]

set_option maxHeartbeats 1000000 in
theorem rnumber_any (a : Option Addr) (c : Nat) (bs : List UInt8) (w : World) (ha : ArgB w a c bs) (hl : bs.length ≤ 1000000) : Calls Tryd.prog 34 #[.slice a bs.length c] w fun e w' => e = .returned (.int .i64 (numR bs 0)) ∧ w = w' := by
  obtain ⟨L, hL⟩ : ∃ L, L = bs.length := ⟨_, rfl⟩
  rw [← hL]
  have hLm : L ≤ 1000000 := by omega
  replace hL := Lib.hid hL
  replace ha := Lib.hid ha
  go_enter Tryd.func34, Tryd.ntmps34
  go_wp2_with fail
  go_loop [3, 5, 8] (fun s _ j => ∃ (k : Nat) (S : Int), k ≤ L ∧ j = .int .i64 k ∧ s = .int .i64 S ∧ 0 ≤ S ∧ S ≤ 562949953421567 ∧ numR bs 0 = numR (bs.drop k) S) (fun _ _ j => L - (intOf j).toNat)
  case atStart => exact ⟨0, 0, Nat.zero_le _, rfl, rfl, by omega, by omega, by rw [List.drop_zero]⟩
  case round =>
    obtain ⟨k, S, hk, rfl, rfl, hS0, hS1, hrec⟩ := hrel
    by_cases hlt : k < L
    · have hkb : k < bs.length := by rw [← hL.out]; exact hlt
      obtain ⟨g, off, e0, hc⟩ := ha.out.row k hkb
      have hli : (k : Int) < L := by omega
      rw [drop_cf bs k hkb] at hrec
      subst e0
      generalize bs.getD k 0 = b at *
      by_cases hbig : 2199023255552 < S
      · have hd : decide (2199023255552 < S) = true := by simpa using hbig
        have hr : numR bs 0 = -1 := by rw [hrec]; unfold numR; rw [if_pos hbig]
        clear hrec hbig
        replace hr := Lib.hid hr
        go_wp2_with fail
        go_ret
        exact ⟨by rw [hr.out]; rfl, rfl⟩
      · have hr : numR bs 0 = numR (bs.drop (k + 1)) (S * 256 + b.toNat) := by rw [hrec]; conv => lhs; unfold numR; rw [if_neg hbig]
        have hb := b.toNat_lt
        have hw1 : IntKind.i64.wrap (S * 256) = S * 256 := IntWalk.i64_in _ (by omega)
        have hw2 : IntKind.i64.wrap (b.toNat : Int) = (b.toNat : Int) := IntWalk.i64_in _ (by omega)
        have hw3 : IntKind.i64.wrap (S * 256 + (b.toNat : Int)) = S * 256 + (b.toNat : Int) := IntWalk.i64_in _ (by omega)
        have hd : decide (2199023255552 < S) = false := by simpa using hbig
        have hbd := Lib.hid (show 0 ≤ S * 256 + (b.toNat : Int) ∧ S * 256 + (b.toNat : Int) ≤ 562949953421567 from by omega)
        clear hrec
        replace hr := Lib.hid hr
        go_wp2_with fail
        exact ⟨⟨k + 1, S * 256 + (b.toNat : Int), by omega, by go_num, by first | rfl | go_num, hbd.out.1, hbd.out.2, hr.out⟩, by simp [intOf]; omega⟩
    · obtain rfl : k = L := by omega
      have hr : numR bs 0 = S := by rw [hrec, hL.out, List.drop_length]; rfl
      clear hrec
      replace hr := Lib.hid hr
      go_wp2_with fail
      go_ret
      exact ⟨by rw [hr.out]; rfl, rfl⟩

theorem ArgB.tail4 {w : World} {b o c : Nat} {bs : List UInt8} (h : ArgB w (some ⟨b, o, none⟩) c bs) (hl : bs.length = 8) : ArgB w (some ⟨b, o + 4, none⟩) (c - 4) (bs.drop 4) := by
  refine ⟨by rw [List.length_drop]; have := h.len; omega, by have := h.most; omega, (fun e => by cases e), fun i hi => ?_⟩
  rw [List.length_drop] at hi
  obtain ⟨b', o', e, hc⟩ := h.row (4 + i) (by omega)
  cases e
  refine ⟨_, _, rfl, ?_⟩
  rw [show o + 4 + i = o + (4 + i) from by omega, hc]
  congr 2
  simp [List.getD_eq_getElem?_getD, List.getElem?_drop]
theorem index_any (n : Int) (w : World) (h1 : -9223372036854775808 ≤ n) (h2 : n ≤ 9223372036854775807) : Calls Tryd.prog 21 #[.int .i64 n] w fun e w' => ∃ a c, e = .returned (.slice a 4 c) ∧ ArgB w' a c ((numB n).drop 4) ∧ Below w.heap.size w w' := by
  have hln := Lib.hid (lnum_any n w h1 h2)
  go_enter Tryd.func21, Tryd.ntmps21
  go_wp2_with fail
  with_reducible refine hln.out.mono ?_
  rintro e w1 ⟨v, rfl, ho, hb⟩
  obtain ⟨g, c, e3, _⟩ := ho.form (by rw [numB_length]; omega)
  subst e3
  obtain ⟨a4, c4, e4, h3, _⟩ := ho.arg
  cases e4
  rw [numB_length]
  have hc8 : 8 ≤ c := by have := h3.len; rw [numB_length] at this; exact this
  have ht := Lib.hid (h3.tail4 (numB_length n))
  replace hb := Lib.hid hb
  clear ho h3 hln
  go_wp2_with fail
  go_ret
  exact ⟨_, _, rfl, ht.out, hb.out⟩

end Go.Proofs.YtahnicbokdbjdaaDoor
/- A part of a block is loaded whole under a guard that says yes; the array by an equation. -/
namespace Go.Proofs.YtahnicbokdbjdaaDoor
open Go.RowKit
section
variable {P : Program} {ops : Array Oper} {rest : List Oper} {op : Oper} {a : Act} {w : World} {Q : Exit → Act → World → Prop}
theorem wpList_load_midG (hw : Region.wanted op (yielded ops a.tmps) = true) (ty : TypeId) (x : Operand) (ho : op.op = .load ty x)
    (b o : Nat) (hx : a.eval x = .pointer (some ⟨b, o, none⟩)) (cs : List Value) (d : TypeDesc) (hc : w.rangeAt b o cs)
    (hu : P.underlying ty = some d) (hd : d.isRow = true) (hi : (P.info? ty).map (·.size) = some cs.length) (C : Array Value) (hC : Hid (C = cs.toArray))
    (h : wpList P ops Q rest (a.put op.dst (.agg C)) w) : wpList P ops Q (op :: rest) a w := by
  refine wpList_step fun K hK => ?_
  rw [if_pos hw]
  rw [hC.out] at h
  exact wp_load_mid ty x ho b o hx cs d hc hu hd hi (hK _ _ h)
theorem wpList_load_midA (hgd : op.guard = none) (ty : TypeId) (x : Operand) (ho : op.op = .load ty x)
    (b o : Nat) (hx : a.eval x = .pointer (some ⟨b, o, none⟩)) (cs : List Value) (d : TypeDesc) (hc : w.rangeAt b o cs)
    (hu : P.underlying ty = some d) (hd : d.isRow = true) (hi : (P.info? ty).map (·.size) = some cs.length) (C : Array Value) (hC : Hid (C = cs.toArray))
    (h : wpList P ops Q rest (a.put op.dst (.agg C)) w) : wpList P ops Q (op :: rest) a w := by
  rw [hC.out] at h
  exact wpList_load_mid hgd ty x ho b o hx cs d hc hu hd hi h
end
end Go.Proofs.YtahnicbokdbjdaaDoor
/- Lists of ints that a call makes. -/
namespace Go.Proofs.YtahnicbokdbjdaaDoor
open Go.RowKit

/-- What the type int says. -/
theorem Tryd.infoIntP : (Tryd.prog.info? 3).map (fun i => (i.zero, i.size, i.bytes)) = some (some (.int .i64 0), 1, 8) := by kernel_rfl
/-- Ints of the call's own. -/
def OwnI (base : Nat) (w : World) (v : Value) (zs : List Int) : Prop := w.ownsRow base 3 1 v zs.length (cI zs)
theorem OwnI.nil (base : Nat) (w : World) : OwnI base w (.slice none 0 0) [] := ⟨rfl, .inl ⟨rfl, rfl⟩⟩
theorem OwnI.mono {base base' : Nat} {w : World} {v : Value} {bs : List Int} (h : OwnI base w v bs) (hb : base' ≤ base) : OwnI base' w v bs := by
  obtain ⟨h1, h2⟩ := h
  refine ⟨h1, ?_⟩
  rcases h2 with h2 | ⟨g, cap, cur, e1, e2, e3⟩
  · exact .inl h2
  · exact .inr ⟨g, cap, cur, e1, by omega, e3⟩
theorem OwnI.below {base B : Nat} {w w' : World} {v : Value} {bs : List Int} (h : OwnI base w v bs) (hb : Below B w w') (hB : w.heap.size ≤ B) : OwnI base w' v bs := by
  refine ⟨h.1, ?_⟩
  rcases h.2 with h2 | ⟨g, cap, cur, e1, e2, e3, e4⟩
  · exact .inl h2
  · exact .inr ⟨g, cap, cur, e1, e2, (hb.block g (by have := block_lt e3; omega)).trans e3, e4⟩
theorem OwnI.row {base : Nat} {w : World} {v : Value} {zs : List Int} (h : OwnI base w v zs) : ∃ a c, v = .slice a zs.length c ∧ zs.length ≤ c ∧ c ≤ maxLen ∧ (a = none → c = 0) ∧ RowI .i64 w a zs ∧ ∀ b o s, a = some ⟨b, o, s⟩ → base ≤ b ∧ b < w.heap.size := by
  obtain ⟨a, c, rfl, h1, h2, h3, h4, _, h5⟩ := owns_any h
  rw [cI_length] at h2
  exact ⟨a, c, by rw [cI_length], h2, h3, h1, h4.toI, h5⟩

section
variable {w : World} {ops : Array Oper} {rest : List Oper} {o : Oper} {a : Act} {Q : Exit → Act → World → Prop}
/-- 'append(s, x)' of one int. -/
theorem wpI_app1 (hgd : o.guard = none) (s x : Operand) (ho : o.op = .call { callee := .builtin .append, args := #[s, x], argTypes := #[72, 72] })
    (base : Nat) (v : Value) (bs : List Int) (hs : a.eval s = v) (hown : Hid (OwnI base w v bs))
    (u : Int) (hx : a.eval x = .slice (some ⟨w.heap.size, 0, none⟩) 1 1) (hl : bs.length ≤ 1000000) (hbase : base ≤ w.heap.size)
    (h : ∀ v' w', Hid (OwnI base w' v' (bs ++ [u])) → Hid (Below base w w') → wpList Tryd.prog ops Q rest (a.put o.dst v') w') :
    wpList Tryd.prog ops Q (o :: rest) a (w.alloc (.cells #[.int .i64 u] 3)) := by
  obtain ⟨i0, hi, hz0, hz1, hz2⟩ := info_parts Tryd.infoIntP
  refine wpList_append1 hgd s x 72 ho base 3 i0 (.int .i64 0) 8 Tryd.underlying72 hi hz0 hz1 hz2 rfl v bs.length (cI bs) hs (Lib.hid hown.out) (.int .i64 u) hx rfl (by unfold maxLen; omega) (by omega) hbase ?_
  intro v' w' h1 h2 _
  refine h v' w' (Lib.hid ?_) (Lib.hid ((Below.refl base w).grown h2.out hbase (fun k hk => (World.ownsRow.lt hown.out k hk).1)))
  unfold OwnI
  rw [cI_append, List.length_append]
  exact h1.out
end

end Go.Proofs.YtahnicbokdbjdaaDoor
