/- Walks over poly.Zeros. -/
import Derived.Test.YtkoeejpiaffmfaaDoorPolyEv
import Derived.Test.YtkoeejpiaffmfaaDoorPolyApp
namespace Go.Proofs.YtkoeejpiaffmfaaDoor
open Go.RowKit

def zk (p : List UInt8) (k : Nat) : List UInt8 := ((List.range k).map UInt8.ofNat).filter fun x => decide (peval p x = 0)
def zerosOf (p : List UInt8) : List UInt8 := zk p 256
theorem zk_length (p : List UInt8) (k : Nat) : (zk p k).length ≤ k := by
  unfold zk
  exact Nat.le_trans (List.length_filter_le _ _) (by simp)
theorem zk_yes {p : List UInt8} {k : Nat} (h : peval p (UInt8.ofNat k) = 0) : zk p (k + 1) = zk p k ++ [UInt8.ofNat k] := by
  simp [zk, List.range_succ, List.filter_append, h]
theorem zk_no {p : List UInt8} {k : Nat} (h : peval p (UInt8.ofNat k) ≠ 0) : zk p (k + 1) = zk p k := by
  simp [zk, List.range_succ, List.filter_append, h]
theorem zeros_mem (p : List UInt8) (x : UInt8) : x ∈ zerosOf p ↔ peval p x = 0 := by
  unfold zerosOf zk
  simp only [List.mem_filter, List.mem_map, List.mem_range, decide_eq_true_eq]
  constructor
  · exact fun h => h.2
  · exact fun h => ⟨⟨x.toNat, x.toNat_lt, by simp⟩, h⟩
theorem byte_of (k : Nat) (h : k < 256) : ((UInt8.ofNat k).toNat : Int) = k := by simp; omega


section
variable {w : World} {ops : Array Oper} {rest : List Oper} {o : Oper} {a : Act} {Q : Exit → Act → World → Prop}
theorem wpB_app1z (hgd : o.guard = none) (s x : Operand) (ho : o.op = .call { callee := .builtin .append, args := #[s, x], argTypes := #[22, 22] })
    (base : Nat) (v : Value) (bs : List UInt8) (hs : a.eval s = v) (hown : Hid (OwnB base w v bs))
    (u : UInt8) (z : Int) (hz : (u.toNat : Int) = z) (hx : a.eval x = .slice (some ⟨w.heap.size, 0, none⟩) 1 1) (hl : bs.length ≤ 1000000) (hbase : base ≤ w.heap.size)
    (h : ∀ v' w', Hid (OwnB base w' v' (bs ++ [u])) → Hid (Below base w w') → wpList Tryd.prog ops Q rest (a.put o.dst v') w') :
    wpList Tryd.prog ops Q (o :: rest) a (w.alloc (.cells #[.int .u8 z] 5)) := by
  subst hz
  exact wpB_app1 hgd s x ho base v bs hs hown u hx hl hbase h
end

set_option maxHeartbeats 1000000 in
set_option maxRecDepth 10000 in
theorem zeros_any (a : Option Addr) (cap : Nat) (bs : List UInt8) (w : World) (h : ArgB w a cap bs) (hr : bs.length ≤ 1000000) :
    Calls Tryd.prog 8 #[.slice a bs.length cap] w fun e w' => ∃ v, e = .returned v ∧ OwnB w.heap.size w' v (zerosOf bs) ∧ Below w.heap.size w w' := by
  replace h := Lib.hid h
  go_enter Tryd.func8, Tryd.ntmps8
  go_wp2_with fail
  go_loopw [3, 5] (fun v j wr => ∃ k : Nat, k ≤ 256 ∧ j = .int .i64 k ∧ OwnB w.heap.size wr v (zk bs k) ∧ Below w.heap.size w wr)
    (fun _ j _ => 256 - (intOf j).toNat)
  case atStart => exact ⟨0, Nat.zero_le _, rfl, OwnB.nil _ _, Below.refl _ _⟩
  case round =>
    obtain ⟨k, hk, rfl, hown, hbel⟩ := hrel
    by_cases hlt : k < 256
    · have hrow := (h.out.below hbel).row
      have hbk := byte_of k hlt
      have hev := eval_any a cap bs (UInt8.ofNat k) wr hrow hr
      rw [hbk] at hev
      have hzl := zk_length bs k
      have hlt2 : (k : Int) < 256 := by omega
      by_cases hz : peval bs (UInt8.ofNat k) = 0
      · have hs := zk_yes hz
        rw [hz] at hev
        replace hev := Lib.hid hev
        replace hs := Lib.hid hs
        replace hbel := Lib.hid hbel
        clear hrow hz
        go_wp2_with fail
        refine hev.out.mono ?_
        rintro e w2 ⟨rfl, hb2⟩
        have ho2 := Lib.hid (hown.below hb2 (Nat.le_refl _))
        have hb3 := Lib.hid (hbel.out.trans (hb2.mono hbel.out.size))
        have hz3 := hb3.out.size
        clear hown hb2 hev
        replace hbk := Lib.hid hbk
        go_wp2_with (at_builtin; go_must (refine wpB_app1z rfl (.tmp 13) (.tmp 16) rfl w.heap.size u3 (zk bs k) rfl ho2 (UInt8.ofNat k) (k : Int) hbk.out rfl (by omega) hz3 ?_))
        intro v' w3 ho3 hb4
        go_wp2_with fail
        go_roundw
        case rel => exact ⟨k + 1, by omega, by go_num, by rw [hs.out]; exact ho3.out, hb3.out.trans hb4.out⟩
        case measure => simp [intOf]; omega
      · have hs := zk_no hz
        have hz' : (((peval bs (UInt8.ofNat k)).toNat : Int) == 0) = false := u8_ne hz
        replace hev := Lib.hid hev
        replace hs := Lib.hid hs
        replace hbel := Lib.hid hbel
        clear hrow hz hbk
        generalize peval bs (UInt8.ofNat k) = x at *
        go_wp2_with fail
        refine hev.out.mono ?_
        rintro e w2 ⟨rfl, hb2⟩
        have ho2 := Lib.hid (hown.below hb2 (Nat.le_refl _))
        have hb3 := Lib.hid (hbel.out.trans (hb2.mono hbel.out.size))
        clear hown hb2 hev
        go_wp2_with fail
        go_roundw
        case rel => exact ⟨k + 1, by omega, by go_num, by rw [hs.out]; exact ho2.out, hb3.out⟩
        case measure => simp [intOf]; omega
    · obtain rfl : k = 256 := by omega
      replace hown := Lib.hid hown
      replace hbel := Lib.hid hbel
      go_wp2_with fail
      go_ret
      exact ⟨_, rfl, hown.out, hbel.out⟩

end Go.Proofs.YtkoeejpiaffmfaaDoor
