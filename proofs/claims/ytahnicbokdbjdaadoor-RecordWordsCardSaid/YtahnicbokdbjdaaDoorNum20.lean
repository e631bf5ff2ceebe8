/- The walk over label.Number (n10/XNumber's, without sha). -/
import Derived.Test.YtahnicbokdbjdaaDoorNumB
import Derived.Deep.LoopGhost
namespace Go.Proofs.YtahnicbokdbjdaaDoor
open Go.RowKit

section
variable {w : World} {ops : Array Oper} {rest : List Oper} {o : Oper} {a : Act} {Q : Exit → Act → World → Prop}
theorem wpB_app1z (hgd : o.guard = none) (s x : Operand) (ho : o.op = .call { callee := .builtin .append, args := #[s, x], argTypes := #[36, 36] })
    (base : Nat) (v : Value) (bs : List UInt8) (hs : a.eval s = v) (hown : Hid (OwnB base w v bs))
    (u : UInt8) (z : Int) (hz : z = (u.toNat : Int)) (hx : a.eval x = .slice (some ⟨w.heap.size, 0, none⟩) 1 1) (hl : bs.length ≤ 1000000) (hbase : base ≤ w.heap.size)
    (h : ∀ v' w', Hid (OwnB base w' v' (bs ++ [u])) → Hid (Below base w w') → wpList Tryd.prog ops Q rest (a.put o.dst v') w') :
    wpList Tryd.prog ops Q (o :: rest) a (w.alloc (.cells #[.int .u8 z] 5)) := by
  subst hz
  exact wpB_app1 hgd s x ho base v bs hs hown u hx hl hbase h
end

set_option maxHeartbeats 1000000 in
theorem lnum_any (n : Int) (w : World) (h1 : -9223372036854775808 ≤ n) (h2 : n ≤ 9223372036854775807) :
    Calls Tryd.prog 18 #[.int .i64 n] w fun e w' => ∃ v, e = .returned v ∧ OwnB w.heap.size w' v (numB n) ∧ Below w.heap.size w w' := by
  have h0 := Lib.hid (OwnB.nil w.heap.size w)
  have hby := Lib.hid (numByte_shr n)
  have hsc := Lib.hid (numTo_succ n)
  have hend := Lib.hid (show (List.range 8).map (numByte n) = numB n from rfl)
  replace h1 := Lib.hid h1
  replace h2 := Lib.hid h2
  go_enter Tryd.func18, Tryd.ntmps18
  go_wp2_with fail
  go_loopw [3, 4] (fun v j wr => ∃ k : Nat, k ≤ 8 ∧ j = .int .i64 (7 - (k : Int)) ∧ OwnB w.heap.size wr v ((List.range k).map (numByte n)) ∧ Below w.heap.size w wr)
    (fun _ j _ => (intOf j + 8).toNat)
  case atStart => exact ⟨0, Nat.zero_le _, rfl, h0.out, Below.refl _ _⟩
  case round =>
    clear h0
    obtain ⟨k, hk, rfl, hown, hbel⟩ := hrel
    have hsz := hbel.size
    replace hown := Lib.hid hown
    replace hbel := Lib.hid hbel
    by_cases hlt : k < 8
    · have hll : ((List.range k).map (numByte n)).length ≤ 1000000 := by rw [List.length_map, List.length_range]; omega
      have hge : (0 : Int) ≤ 7 - (k : Int) := by omega
      have hb := Lib.hid (hby.out k hlt)
      have hs := Lib.hid (hsc.out k)
      generalize (List.range k).map (numByte n) = T at *
      go_wp2_with (at_builtin; go_must (refine wpB_app1z rfl (.tmp 9) (.tmp 15) rfl w.heap.size _ T rfl hown (numByte n k) _ ?hz rfl hll hsz ?_))
      case hz => exact hb.out
      intro v5 w5 ho5 hd5
      have hb5 := Lib.hid (hbel.out.trans hd5.out)
      go_wp2_with fail
      go_roundw
      case rel => exact ⟨k + 1, by omega, by go_num, by rw [hs.out]; exact ho5.out, hb5.out⟩
      case measure => simp [intOf]; omega
    · obtain rfl : k = 8 := by omega
      have hlt7 : ¬ (0 : Int) ≤ 7 - ((8 : Nat) : Int) := by omega
      go_wp2_with fail
      go_ret
      exact ⟨_, rfl, by rw [← hend.out]; exact hown.out, hbel.out⟩

end Go.Proofs.YtahnicbokdbjdaaDoor
