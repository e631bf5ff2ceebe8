/- Walks over the small methods: Seen.Copy, Seen.Greatest; baileenum.SameInts; the reference's Greatest, Old, Has. -/
import Derived.Test.YtfagjlfnmkfjoaaWalks
import Derived.Test.YtfagjlfnmkfjoaaPlaysLaw
import Derived.Test.YtfagjlfnmkfjoaaMem
namespace Go.Proofs.Ytfagjlfnmkfjoaa
open Go.RowKit

set_option maxHeartbeats 1000000 in
theorem copy_any (any : Bool) (g : Int) (c : Nat) (b : Nat) (w : World) (hb : w.heap[b]? = some (seen any g c)) :
    Calls Try.prog 9 #[.pointer (some ⟨b, 0, none⟩)] w fun e w' => e = .returned (.pointer (some ⟨w.heap.size, 0, none⟩)) ∧ w' = w.alloc (seen any g c) := by
  obtain ⟨⟨h0, h1, h2⟩, _⟩ := cells3 hb
  clear hb
  go_enter Try.func9, Try.ntmps9
  go_wp2_with fail
  go_ret
  exact ⟨rfl, rfl⟩

set_option maxHeartbeats 1000000 in
theorem greatest_any (any : Bool) (g : Int) (c : Nat) (b : Nat) (w : World) (hb : w.heap[b]? = some (seen any g c)) :
    Calls Try.prog 11 #[.pointer (some ⟨b, 0, none⟩)] w fun e w' => e = .returned (.tuple #[.int .i64 g, .bool any]) ∧ Drawn w w' := by
  obtain ⟨⟨h0, h1, h2⟩, _⟩ := cells3 hb
  clear hb
  go_enter Try.func11, Try.ntmps11
  go_wp2_with fail
  go_quiet (fail)
  go_wp2
  go_ret2
  exact ⟨rfl, _, rfl⟩

set_option maxHeartbeats 1000000 in
theorem same_any (a b : Option Addr) (ca cb : Nat) (zs : List Int) (w : World) (ha : RowI .i64 w a zs) (hb : RowI .i64 w b zs) (hl : zs.length ≤ 1000000) :
    Calls Try.prog 17 #[.slice a zs.length ca, .slice b zs.length cb] w fun e w' => e = .returned (.bool true) ∧ Drawn w w' := by
  replace ha := Lib.hid ha
  replace hb := Lib.hid hb
  go_enter Try.func17, Try.ntmps17
  go_wp2_with fail
  go_loopw [5, 13] (fun _ j wr => ∃ k : Nat, k ≤ zs.length ∧ j = .int .i64 k ∧ Drawn w wr) (fun _ j _ => zs.length - (intOf j).toNat)
  case atStart => exact ⟨0, Nat.zero_le _, rfl, Drawn.refl _⟩
  case round =>
    obtain ⟨k, hk, rfl, hd⟩ := hrel
    by_cases hlt : k < zs.length
    · obtain ⟨b1, o1, rfl, c1⟩ := ha.out k hlt
      obtain ⟨b2, o2, rfl, c2⟩ := hb.out k hlt
      have d1 := (hd.cell ⟨b1, o1 + k, none⟩).trans c1
      have d2 := (hd.cell ⟨b2, o2 + k, none⟩).trans c2
      clear c1 c2
      replace hd := Lib.hid hd
      generalize zs.getD k 0 = x at *
      have k1 : (k : Int) < (zs.length : Int) := by omega
      have k2 : (0 : Int) ≤ (k : Int) := by omega
      go_wp2_with fail
      go_quiet (fail)
      go_wp2_with fail
      go_roundw
      case rel => exact ⟨k + 1, by omega, by go_num, hd.out.more _⟩
      case measure => simp [intOf]; omega
    · obtain rfl : k = zs.length := by omega
      go_wp2_with fail
      go_ret
      exact ⟨rfl, hd⟩

end Go.Proofs.Ytfagjlfnmkfjoaa
