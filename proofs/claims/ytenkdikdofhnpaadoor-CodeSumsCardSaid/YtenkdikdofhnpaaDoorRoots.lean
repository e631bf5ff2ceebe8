/- Walks over poly.Roots, Inverses; baileelaw02.alive. -/
import Derived.Test.YtenkdikdofhnpaaDoorPolyApp
namespace Go.Proofs.YtenkdikdofhnpaaDoor
open Go.RowKit

def rootsOf (ls : List UInt8) : List UInt8 := ls.foldl (fun out r => pmul out [r, 1]) [1]
def invsOf (ls : List UInt8) : List UInt8 := ls.foldl (fun out r => pmul out [1, r]) [1]
theorem take_snoc {ls : List UInt8} {k : Nat} (h : k < ls.length) : ls.take (k + 1) = ls.take k ++ [cf ls k] := by
  rw [List.take_succ_eq_append_getElem h, cf_lt h]
theorem rootsOf_take {ls : List UInt8} {k : Nat} (h : k < ls.length) : rootsOf (ls.take (k + 1)) = pmul (rootsOf (ls.take k)) [cf ls k, 1] := by
  rw [take_snoc h]; simp [rootsOf]
theorem invsOf_take {ls : List UInt8} {k : Nat} (h : k < ls.length) : invsOf (ls.take (k + 1)) = pmul (invsOf (ls.take k)) [1, cf ls k] := by
  rw [take_snoc h]; simp [invsOf]
theorem pmul_length (p q : List UInt8) : (pmul p q).length ≤ p.length + q.length := by
  rw [pmul, trim_length]
  exact Nat.le_trans (tlen_le _) (Nat.le_of_eq (tab_length _ _))
theorem fold_len (f : UInt8 → List UInt8) (hf : ∀ r, (f r).length = 2) : ∀ (ls : List UInt8) (o : List UInt8), (ls.foldl (fun out r => pmul out (f r)) o).length ≤ o.length + 2 * ls.length := by
  intro ls
  induction ls with
  | nil => intro o; simp
  | cons r ls ih =>
    intro o
    have h1 := ih (pmul o (f r))
    have h2 := pmul_length o (f r)
    have h3 := hf r
    simp only [List.foldl_cons, List.length_cons]
    omega
theorem rootsOf_length (ls : List UInt8) : (rootsOf ls).length ≤ 1 + 2 * ls.length := fold_len (fun r => [r, 1]) (fun _ => rfl) ls [1]
theorem invsOf_length (ls : List UInt8) : (invsOf ls).length ≤ 1 + 2 * ls.length := fold_len (fun r => [1, r]) (fun _ => rfl) ls [1]

set_option maxHeartbeats 1000000 in
theorem roots_any (a : Option Addr) (cap : Nat) (ls : List UInt8) (w : World) (h : ArgB w a cap ls) (hr : ls.length ≤ 1000) :
    Calls Tryd.prog 37 #[.slice a ls.length cap] w fun e w' => ∃ v, e = .returned v ∧ OwnB w.heap.size w' v (rootsOf ls) ∧ Below w.heap.size w w' := by
  replace h := Lib.hid h
  go_enter Tryd.func37, Tryd.ntmps37
  go_wp2_with fail
  have hown0 := Lib.hid (own_lit w [1] #[.int .u8 1] rfl (by decide))
  have hb0 := Lib.hid ((Below.refl w.heap.size w).alloc (Nat.le_refl _) (.cells #[.int .u8 1] 5))
  go_loopw [3, 9] (fun v j wr => ∃ k : Nat, k ≤ ls.length ∧ j = .int .i64 k ∧ OwnB w.heap.size wr v (rootsOf (ls.take k)) ∧ Below w.heap.size w wr)
    (fun _ j _ => ls.length - (intOf j).toNat)
  case atStart => exact ⟨0, Nat.zero_le _, rfl, hown0.out, hb0.out⟩
  case round =>
    clear hown0 hb0
    obtain ⟨k, hk, rfl, hown, hbel⟩ := hrel
    have hsz := hbel.size
    replace hbel := Lib.hid hbel
    by_cases hlt : k < ls.length
    · have h1 := Lib.hid (h.out.below hbel.out)
      obtain ⟨b, off, rfl, hc⟩ := h1.out.row k hlt
      rw [show ls.getD k 0 = cf ls k from rfl] at hc
      have hs := Lib.hid (rootsOf_take hlt)
      have hl1 : (rootsOf (ls.take k)).length ≤ 400000 := by have := rootsOf_length (ls.take k); simp at this; omega
      generalize cf ls k = r at *
      obtain ⟨ao, co, rfl, harg, _⟩ := hown.arg
      have hlit := argB_lit wr 5 [r, 1] #[.int .u8 (r.toNat : Int), .int .u8 1] rfl (by simp)
      have harg2 := harg.below ((Below.refl wr.heap.size wr).alloc (Nat.le_refl _) (.cells #[.int .u8 (r.toNat : Int), .int .u8 1] 5))
      have hb1 := Lib.hid (hbel.out.alloc hsz (.cells #[.int .u8 (r.toNat : Int), .int .u8 1] 5))
      have hcall := Lib.hid (pmul_any _ _ _ _ _ _ _ harg2 hlit hl1 (by simp))
      clear hown harg harg2 hlit
      generalize rootsOf (ls.take k) = P at *
      go_wp2_with fail
      refine hcall.out.mono ?_
      rintro e w2 ⟨v, rfl, ho, hb2⟩
      replace ho := Lib.hid (ho.mono hb1.out.size)
      replace hb2 := Lib.hid (hb1.out.trans (hb2.mono hb1.out.size))
      go_wp2_with fail
      go_roundw
      case rel => exact ⟨k + 1, by omega, by go_num, by rw [hs.out]; exact ho.out, hb2.out⟩
      case measure => simp [intOf]; omega
    · obtain rfl : k = ls.length := by omega
      rw [List.take_length] at hown
      replace hown := Lib.hid hown
      go_wp2_with fail
      go_ret
      exact ⟨_, rfl, hown.out, hbel.out⟩

theorem roots12 : rootsOf [1, 2] = [2, 3, 1] := by decide +kernel

end Go.Proofs.YtenkdikdofhnpaaDoor
