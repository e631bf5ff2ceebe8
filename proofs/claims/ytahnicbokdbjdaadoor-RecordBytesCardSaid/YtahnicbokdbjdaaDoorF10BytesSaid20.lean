/- RecH, LoadMid, Ints. -/
import Derived.Test.YtahnicbokdbjdaaDoorF2BytesSaid20
import Derived.Test.YtahnicbokdbjdaaDoorF9BytesSaid20
import Derived.Deep.MidRow
import Derived.Test.YtahnicbokdbjdaaDoorBase
import Derived.Test.YtahnicbokdbjdaaDoorMem
import Derived.Test.YtahnicbokdbjdaaDoorRows
import Derived.Outline
/- record.index; baileeref20.big, number. -/
namespace Go.Proofs.YtahnicbokdbjdaaDoor
open Go.RowKit

theorem big_any (x : Int) (w : World) : Calls Tryd.prog 37 #[.int .i64 x] w fun e w' => e = .returned (.bool (!inB x 0 1099511627776)) ∧ w = w' := by
  by_cases h1 : x < 0
  · have hn : inB x 0 1099511627776 = false := by unfold inB; simp; omega
    rw [hn]
    go_enter Tryd.func37, Tryd.ntmps37
    go_wp2_with fail
    go_ret
    exact ⟨rfl, rfl⟩
  · by_cases h2 : 1099511627776 < x
    · have hn : inB x 0 1099511627776 = false := by unfold inB; simp; omega
      rw [hn]
      have h3 : decide (1099511627776 < x) = true := by simpa using h2
      clear h2
      go_enter Tryd.func37, Tryd.ntmps37
      go_wp2_with fail
      go_ret
      exact ⟨rfl, rfl⟩
    · have hn : inB x 0 1099511627776 = true := by unfold inB; simp; omega
      rw [hn]
      go_enter Tryd.func37, Tryd.ntmps37
      go_wp2_with fail
      go_ret
      exact ⟨rfl, rfl⟩

/-- The number that bytes are, or -1. -/
def numR : List UInt8 → Int → Int
  | [], s => s
  | b :: r, s => if 2199023255552 < s then -1 else numR r (s * 256 + b.toNat)
theorem drop_cf (bs : List UInt8) (k : Nat) (h : k < bs.length) : bs.drop k = bs.getD k 0 :: bs.drop (k + 1) := by
  rw [List.drop_eq_getElem_cons h]
  congr 1
  simp [List.getD_eq_getElem?_getD, h]

set_option maxHeartbeats 1000000 in
theorem rnumber_any (a : Option Addr) (c : Nat) (bs : List UInt8) (w : World) (ha : ArgB w a c bs) (hl : bs.length ≤ 1000000) : Calls Tryd.prog 34 #[.slice a bs.length c] w fun e w' => e = .returned (.int .i64 (numR bs 0)) ∧ w = w' := by
  obtain ⟨L, hL⟩ : ∃ L, L = bs.length := ⟨_, rfl⟩
  rw [← hL]
  have hLm : L ≤ 1000000 := by omega
  replace hL := Lib.hid hL
  replace ha := Lib.hid ha
  go_enter Tryd.func34, Tryd.ntmps34
  go_wp2_with fail
  go_loop [3, 5, 8] (fun s _ j => ∃ (k : Nat) (S : Int), k ≤ L ∧ j = .int .i64 k ∧ s = .int .i64 S ∧ 0 ≤ S ∧ S ≤ 562949953421567 ∧ numR bs 0 = numR (bs.drop k) S) (fun _ _ j => L - (intOf j).toNat)
  case atStart => exact ⟨0, 0, Nat.zero_le _, rfl, rfl, by omega, by omega, by rw [List.drop_zero]⟩
  case round =>
    obtain ⟨k, S, hk, rfl, rfl, hS0, hS1, hrec⟩ := hrel
    by_cases hlt : k < L
    · have hkb : k < bs.length := by rw [← hL.out]; exact hlt
      obtain ⟨g, off, e0, hc⟩ := ha.out.row k hkb
      have hli : (k : Int) < L := by omega
      rw [drop_cf bs k hkb] at hrec
      subst e0
      generalize bs.getD k 0 = b at *
      by_cases hbig : 2199023255552 < S
      · have hd : decide (2199023255552 < S) = true := by simpa using hbig
        have hr : numR bs 0 = -1 := by rw [hrec]; unfold numR; rw [if_pos hbig]
        clear hrec hbig
        replace hr := Lib.hid hr
        go_wp2_with fail
        go_ret
        exact ⟨by rw [hr.out]; rfl, rfl⟩
      · have hr : numR bs 0 = numR (bs.drop (k + 1)) (S * 256 + b.toNat) := by rw [hrec]; conv => lhs; unfold numR; rw [if_neg hbig]
        have hb := b.toNat_lt
        have hw1 : IntKind.i64.wrap (S * 256) = S * 256 := IntWalk.i64_in _ (by omega)
        have hw2 : IntKind.i64.wrap (b.toNat : Int) = (b.toNat : Int) := IntWalk.i64_in _ (by omega)
        have hw3 : IntKind.i64.wrap (S * 256 + (b.toNat : Int)) = S * 256 + (b.toNat : Int) := IntWalk.i64_in _ (by omega)
        have hd : decide (2199023255552 < S) = false := by simpa using hbig
        have hbd := Lib.hid (show 0 ≤ S * 256 + (b.toNat : Int) ∧ S * 256 + (b.toNat : Int) ≤ 562949953421567 from by omega)
        clear hrec
        replace hr := Lib.hid hr
        go_wp2_with fail
        exact ⟨⟨k + 1, S * 256 + (b.toNat : Int), by omega, by go_num, by first | rfl | go_num, hbd.out.1, hbd.out.2, hr.out⟩, by simp [intOf]; omega⟩
    · obtain rfl : k = L := by omega
      have hr : numR bs 0 = S := by rw [hrec, hL.out, List.drop_length]; rfl
      clear hrec
      replace hr := Lib.hid hr
      go_wp2_with fail
      go_ret
      exact ⟨by rw [hr.out]; rfl, rfl⟩

theorem ArgB.tail4 {w : World} {b o c : Nat} {bs : List UInt8} (h : ArgB w (some ⟨b, o, none⟩) c bs) (hl : bs.length = 8) : ArgB w (some ⟨b, o + 4, none⟩) (c - 4) (bs.drop 4) := by
  refine ⟨by rw [List.length_drop]; have := h.len; omega, by have := h.most; omega, (fun e => by cases e), fun i hi => ?_⟩
  rw [List.length_drop] at hi
  obtain ⟨b', o', e, hc⟩ := h.row (4 + i) (by omega)
  cases e
  refine ⟨_, _, rfl, ?_⟩
  rw [show o + 4 + i = o + (4 + i) from by omega, hc]
  congr 2
  simp [List.getD_eq_getElem?_getD, List.getElem?_drop]
theorem index_any (n : Int) (w : World) (h1 : -9223372036854775808 ≤ n) (h2 : n ≤ 9223372036854775807) : Calls Tryd.prog 21 #[.int .i64 n] w fun e w' => ∃ a c, e = .returned (.slice a 4 c) ∧ ArgB w' a c ((numB n).drop 4) ∧ Below w.heap.size w w' := by
  have hln := Lib.hid (lnum_any n w h1 h2)
  go_enter Tryd.func21, Tryd.ntmps21
  go_wp2_with fail
  with_reducible refine hln.out.mono ?_
  rintro e w1 ⟨v, rfl, ho, hb⟩
  obtain ⟨g, c, e3, _⟩ := ho.form (by rw [numB_length]; omega)
  subst e3
  obtain ⟨a4, c4, e4, h3, _⟩ := ho.arg
  cases e4
  rw [numB_length]
  have hc8 : 8 ≤ c := by have := h3.len; rw [numB_length] at this; exact this
  have ht := Lib.hid (h3.tail4 (numB_length n))
  replace hb := Lib.hid hb
  clear ho h3 hln
  go_wp2_with fail
  go_ret
  exact ⟨_, _, rfl, ht.out, hb.out⟩

end Go.Proofs.YtahnicbokdbjdaaDoor
/- A part of a block is loaded whole under a guard that says yes; the array by an equation. -/
namespace Go.Proofs.YtahnicbokdbjdaaDoor
open Go.RowKit
section
variable {P : Program} {ops : Array Oper} {rest : List Oper} {op : Oper} {a : Act} {w : World} {Q : Exit → Act → World → Prop}
theorem wpList_load_midG (hw : Region.wanted op (yielded ops a.tmps) = true) (ty : TypeId) (x : Operand) (ho : op.op = .load ty x)
    (b o : Nat) (hx : a.eval x = .pointer (some ⟨b, o, none⟩)) (cs : List Value) (d : TypeDesc) (hc : w.rangeAt b o cs)
    (hu : P.underlying ty = some d) (hd : d.isRow = true) (hi : (P.info? ty).map (·.size) = some cs.length) (C : Array Value) (hC : Hid (C = cs.toArray))
    (h : wpList P ops Q rest (a.put op.dst (.agg C)) w) : wpList P ops Q (op :: rest) a w := by
  refine wpList_step fun K hK => ?_
  rw [if_pos hw]
  rw [hC.out] at h
  exact wp_load_mid ty x ho b o hx cs d hc hu hd hi (hK _ _ h)
theorem wpList_load_midA (hgd : op.guard = none) (ty : TypeId) (x : Operand) (ho : op.op = .load ty x)
    (b o : Nat) (hx : a.eval x = .pointer (some ⟨b, o, none⟩)) (cs : List Value) (d : TypeDesc) (hc : w.rangeAt b o cs)
    (hu : P.underlying ty = some d) (hd : d.isRow = true) (hi : (P.info? ty).map (·.size) = some cs.length) (C : Array Value) (hC : Hid (C = cs.toArray))
    (h : wpList P ops Q rest (a.put op.dst (.agg C)) w) : wpList P ops Q (op :: rest) a w := by
  rw [hC.out] at h
  exact wpList_load_mid hgd ty x ho b o hx cs d hc hu hd hi h
end
end Go.Proofs.YtahnicbokdbjdaaDoor
/- Lists of ints that a call makes. -/
namespace Go.Proofs.YtahnicbokdbjdaaDoor
open Go.RowKit

/-- What the type int says. -/
theorem Tryd.infoIntP : (Tryd.prog.info? 3).map (fun i => (i.zero, i.size, i.bytes)) = some (some (.int .i64 0), 1, 8) := by kernel_rfl
/-- Ints of the call's own. -/
def OwnI (base : Nat) (w : World) (v : Value) (zs : List Int) : Prop := w.ownsRow base 3 1 v zs.length (cI zs)
theorem OwnI.nil (base : Nat) (w : World) : OwnI base w (.slice none 0 0) [] := ⟨rfl, .inl ⟨rfl, rfl⟩⟩
theorem OwnI.mono {base base' : Nat} {w : World} {v : Value} {bs : List Int} (h : OwnI base w v bs) (hb : base' ≤ base) : OwnI base' w v bs := by
  obtain ⟨h1, h2⟩ := h
  refine ⟨h1, ?_⟩
  rcases h2 with h2 | ⟨g, cap, cur, e1, e2, e3⟩
  · exact .inl h2
  · exact .inr ⟨g, cap, cur, e1, by omega, e3⟩
theorem OwnI.below {base B : Nat} {w w' : World} {v : Value} {bs : List Int} (h : OwnI base w v bs) (hb : Below B w w') (hB : w.heap.size ≤ B) : OwnI base w' v bs := by
  refine ⟨h.1, ?_⟩
  rcases h.2 with h2 | ⟨g, cap, cur, e1, e2, e3, e4⟩
  · exact .inl h2
  · exact .inr ⟨g, cap, cur, e1, e2, (hb.block g (by have := block_lt e3; omega)).trans e3, e4⟩
theorem OwnI.row {base : Nat} {w : World} {v : Value} {zs : List Int} (h : OwnI base w v zs) : ∃ a c, v = .slice a zs.length c ∧ zs.length ≤ c ∧ c ≤ maxLen ∧ (a = none → c = 0) ∧ RowI .i64 w a zs ∧ ∀ b o s, a = some ⟨b, o, s⟩ → base ≤ b ∧ b < w.heap.size := by
  obtain ⟨a, c, rfl, h1, h2, h3, h4, _, h5⟩ := owns_any h
  rw [cI_length] at h2
  exact ⟨a, c, by rw [cI_length], h2, h3, h1, h4.toI, h5⟩

section
variable {w : World} {ops : Array Oper} {rest : List Oper} {o : Oper} {a : Act} {Q : Exit → Act → World → Prop}
/-- 'append(s, x)' of one int. -/
theorem wpI_app1 (hgd : o.guard = none) (s x : Operand) (ho : o.op = .call { callee := .builtin .append, args := #[s, x], argTypes := #[72, 72] })
    (base : Nat) (v : Value) (bs : List Int) (hs : a.eval s = v) (hown : Hid (OwnI base w v bs))
    (u : Int) (hx : a.eval x = .slice (some ⟨w.heap.size, 0, none⟩) 1 1) (hl : bs.length ≤ 1000000) (hbase : base ≤ w.heap.size)
    (h : ∀ v' w', Hid (OwnI base w' v' (bs ++ [u])) → Hid (Below base w w') → wpList Tryd.prog ops Q rest (a.put o.dst v') w') :
    wpList Tryd.prog ops Q (o :: rest) a (w.alloc (.cells #[.int .i64 u] 3)) := by
  obtain ⟨i0, hi, hz0, hz1, hz2⟩ := info_parts Tryd.infoIntP
  refine wpList_append1 hgd s x 72 ho base 3 i0 (.int .i64 0) 8 Tryd.underlying72 hi hz0 hz1 hz2 rfl v bs.length (cI bs) hs (Lib.hid hown.out) (.int .i64 u) hx rfl (by unfold maxLen; omega) (by omega) hbase ?_
  intro v' w' h1 h2 _
  refine h v' w' (Lib.hid ?_) (Lib.hid ((Below.refl base w).grown h2.out hbase (fun k hk => (World.ownsRow.lt hown.out k hk).1)))
  unfold OwnI
  rw [cI_append, List.length_append]
  exact h1.out
end

end Go.Proofs.YtahnicbokdbjdaaDoor
