/- baileenum.Figures, Err; the methods of *journal.Fault. -/
import Derived.Test.YtgkddegaiaeckaaDoorFaultA
import Derived.Lib.ItoaNum
import Derived.Test.YtgkddegaiaeckaaDoorShelf
import Derived.Lib.AppendIntMem
import Derived.Lib.SmallJoins
import Derived.Test.YtgkddegaiaeckaaDoorOnL
/- baileenum.Figures: the figures of a number. -/
namespace Go.Proofs.YtgkddegaiaeckaaDoor
open Go.RowKit

theorem decDigits_more {x : Nat} (h : ¬ x < 10) : Lib.decDigits x = Lib.decDigits (x / 10) ++ [UInt8.ofNat (48 + x % 10)] := by
  rw [Lib.decDigits, dif_neg h]
theorem itoa_nat (x : Nat) : Lib.itoa (x : Int) = Lib.decDigits x := by
  unfold Lib.itoa
  rw [if_neg (by omega)]
  simp
theorem itoa_neg (x : Nat) (h : x ≠ 0) : Lib.itoa (-(x : Int)) = 45 :: Lib.decDigits x := by
  unfold Lib.itoa
  rw [if_pos (by omega)]
  simp
theorem nD_le : ∀ (k u : Nat), u < 10 ^ (k + 1) → Lib.nDigits u ≤ k + 1
  | 0, u, h => by rw [Lib.nDigits_small (by simpa using h)]; omega
  | k + 1, u, h => by
    by_cases hs : u < 10
    · rw [Lib.nDigits_small hs]; omega
    · rw [Lib.nDigits_big hs]
      have := nD_le k (u / 10) (by rw [Nat.pow_succ] at h; omega)
      omega
theorem itoa_len (n : Int) (h1 : -9223372036854775808 ≤ n) (h2 : n ≤ 9223372036854775807) : (Lib.itoa n).length ≤ 21 := by
  unfold Lib.itoa
  split
  · rw [List.length_cons, Lib.decDigits_length]
    have := nD_le 19 n.natAbs (by have : (10 : Nat) ^ (19 + 1) = 100000000000000000000 := by decide
                                  omega)
    omega
  · rw [Lib.decDigits_length]
    have := nD_le 19 n.toNat (by have : (10 : Nat) ^ (19 + 1) = 100000000000000000000 := by decide
                                 omega)
    omega
theorem bytes_app (a b : List UInt8) : (⟨a.toArray⟩ : ByteArray) ++ ⟨b.toArray⟩ = ⟨(a ++ b).toArray⟩ := by
  apply ByteArray.ext
  simp

set_option maxRecDepth 10000 in
set_option maxHeartbeats 4000000 in
theorem figures_pos (x : Nat) (hx : x ≤ 9223372036854775807) (w : World) (rec : ¬ x < 10 → Calls Tryd.prog 28 #[.int .i64 ((x / 10 : Nat) : Int)] w fun e w' => e = .returned (.string ⟨(Lib.itoa ((x / 10 : Nat) : Int)).toArray⟩) ∧ w = w') :
    Calls Tryd.prog 28 #[.int .i64 (x : Int)] w fun e w' => e = .returned (.string ⟨(Lib.itoa (x : Int)).toArray⟩) ∧ w = w' := by
  by_cases hs : x < 10
  · have e := Lib.decDigits_one hs
    rw [itoa_nat, e]
    clear rec e
    rcases (show x = 0 ∨ x = 1 ∨ x = 2 ∨ x = 3 ∨ x = 4 ∨ x = 5 ∨ x = 6 ∨ x = 7 ∨ x = 8 ∨ x = 9 from by omega) with rfl | rfl | rfl | rfl | rfl | rfl | rfl | rfl | rfl | rfl
    all_goals
      clear hx hs
      go_enter Tryd.func28, Tryd.ntmps28
      go_wp2_with fail
      go_ret
      exact ⟨by kernel_rfl, rfl⟩
  · have hm : ((x : Int).tmod 10) = ((x % 10 : Nat) : Int) := by rw [Int.tmod_eq_emod_of_nonneg (by omega)]; omega
    have hq : ((x : Int).tdiv 10) = ((x / 10 : Nat) : Int) := by rw [Int.tdiv_eq_ediv_of_nonneg (by omega)]; omega
    have hwq : IntKind.i64.wrap ((x / 10 : Nat) : Int) = ((x / 10 : Nat) : Int) := IntWalk.i64_in _ (by omega)
    have h2 : ¬ (x : Int) < 10 := by omega
    have h3 : 0 ≤ (x : Int) := by omega
    have h1 : (-10 : Int) < (x : Int) := by omega
    have hrec := rec hs
    rw [show ((x / 10 : Nat) : Int) = (x : Int) / 10 from by omega] at hrec
    replace hrec := Lib.hid hrec
    have e := decDigits_more hs
    have e2 : ∀ d, x % 10 = d → (⟨(Lib.itoa ((x : Int) / 10)).toArray⟩ : ByteArray) ++ ⟨#[UInt8.ofNat (48 + d)]⟩ = ⟨(Lib.itoa (x : Int)).toArray⟩ := by
      intro d hd
      rw [show (x : Int) / 10 = ((x / 10 : Nat) : Int) from by omega, itoa_nat, itoa_nat, e, ← hd]
      exact bytes_app _ [_]
    replace e2 := Lib.hid e2
    have hle : ¬ 9223372036854775807 < (Lib.itoa ((x : Int) / 10)).length + 1 := by have := itoa_len ((x : Int) / 10) (by omega) (by omega); omega
    clear rec e hs
    have hd9 : x % 10 < 10 := Nat.mod_lt _ (by decide)
    generalize hdd : x % 10 = d at *
    replace hdd := Lib.hid hdd
    rcases (show d = 0 ∨ d = 1 ∨ d = 2 ∨ d = 3 ∨ d = 4 ∨ d = 5 ∨ d = 6 ∨ d = 7 ∨ d = 8 ∨ d = 9 from by omega) with rfl | rfl | rfl | rfl | rfl | rfl | rfl | rfl | rfl | rfl
    all_goals
      clear hd9
      norm_cast at hm
      go_enter Tryd.func28, Tryd.ntmps28
      go_wp2_with fail
      with_reducible refine hrec.out.mono ?_
      rintro e w1 ⟨rfl, rfl⟩
      clear hrec
      go_wp2_with fail
      go_ret
      refine ⟨?_, rfl⟩
      rw [← e2.out _ rfl]
      exact congrArg (fun b => Ending.returned (Value.string (_ ++ b))) (by kernel_rfl)

set_option maxRecDepth 10000 in
set_option maxHeartbeats 4000000 in
theorem figures_neg (x : Nat) (h0 : x ≠ 0) (hx : x ≤ 9223372036854775808) (n : Int) (hn : n = -(x : Int)) (w : World) (rec : ¬ x < 10 → ∀ q, q = -((x / 10 : Nat) : Int) → Calls Tryd.prog 28 #[.int .i64 q] w fun e w' => e = .returned (.string ⟨(Lib.itoa q).toArray⟩) ∧ w = w') :
    Calls Tryd.prog 28 #[.int .i64 n] w fun e w' => e = .returned (.string ⟨(Lib.itoa n).toArray⟩) ∧ w = w' := by
  by_cases hs : x < 10
  · have e := Lib.decDigits_one hs
    rw [hn, itoa_neg x h0, e]
    clear rec e
    rcases (show x = 1 ∨ x = 2 ∨ x = 3 ∨ x = 4 ∨ x = 5 ∨ x = 6 ∨ x = 7 ∨ x = 8 ∨ x = 9 from by omega) with rfl | rfl | rfl | rfl | rfl | rfl | rfl | rfl | rfl
    all_goals
      clear hx hs h0 hn
      norm_cast
      go_enter Tryd.func28, Tryd.ntmps28
      go_wp2_with fail
      go_ret
      exact ⟨by kernel_rfl, rfl⟩
  · obtain ⟨q, hqd⟩ : ∃ q : Int, q = -((x / 10 : Nat) : Int) := ⟨_, rfl⟩
    have hm : n.tmod 10 = -((x % 10 : Nat) : Int) := by rw [hn, Int.neg_tmod, Int.tmod_eq_emod_of_nonneg (by omega)]; omega
    have hq : n.tdiv 10 = q := by rw [hn, hqd, Int.neg_tdiv, Int.tdiv_eq_ediv_of_nonneg (by omega)]; omega
    have hwq : IntKind.i64.wrap q = q := IntWalk.i64_in _ (by omega)
    have h3 : ¬ 0 ≤ n := by omega
    have h1 : ¬ (-10 : Int) < n := by omega
    have hrec := Lib.hid (rec hs q hqd)
    have e := decDigits_more hs
    have e2 : ∀ d, x % 10 = d → (⟨(Lib.itoa q).toArray⟩ : ByteArray) ++ ⟨#[UInt8.ofNat (48 + d)]⟩ = ⟨(Lib.itoa n).toArray⟩ := by
      intro d hd
      rw [hqd, hn, itoa_neg _ (by omega), itoa_neg _ h0, e, ← hd]
      exact bytes_app _ [_]
    replace e2 := Lib.hid e2
    have hle : ¬ 9223372036854775807 < (Lib.itoa q).length + 1 := by have := itoa_len q (by omega) (by omega); omega
    have hd9 : x % 10 < 10 := Nat.mod_lt _ (by decide)
    generalize hdd : x % 10 = d at *
    replace hdd := Lib.hid hdd
    clear rec e hs hn hqd h0 hx
    rcases (show d = 0 ∨ d = 1 ∨ d = 2 ∨ d = 3 ∨ d = 4 ∨ d = 5 ∨ d = 6 ∨ d = 7 ∨ d = 8 ∨ d = 9 from by omega) with rfl | rfl | rfl | rfl | rfl | rfl | rfl | rfl | rfl | rfl
    all_goals
      clear hd9
      norm_cast at hm
      go_enter Tryd.func28, Tryd.ntmps28
      go_wp2_with fail
      with_reducible refine hrec.out.mono ?_
      rintro e w1 ⟨rfl, rfl⟩
      clear hrec
      go_wp2_with fail
      go_ret
      refine ⟨?_, rfl⟩
      rw [← e2.out _ rfl]
      exact congrArg (fun b => Ending.returned (Value.string (_ ++ b))) (by kernel_rfl)

theorem figures_any : ∀ (m : Nat) (n : Int), n.natAbs = m → -9223372036854775808 ≤ n → n ≤ 9223372036854775807 → ∀ w, Calls Tryd.prog 28 #[.int .i64 n] w fun e w' => e = .returned (.string ⟨(Lib.itoa n).toArray⟩) ∧ w = w' := by
  intro m
  induction m using Nat.strongRecOn with
  | ind m ih =>
    intro n hm h1 h2 w
    rcases (show n < 0 ∨ 0 ≤ n from by omega) with h | h
    · have hn : n = -(m : Int) := by omega
      refine figures_neg m (by omega) (by omega) n hn w fun hb q hq => ?_
      exact ih (m / 10) (by omega) q (by omega) (by omega) (by omega) w
    · have hn : n = (m : Int) := by omega
      rw [hn]
      refine figures_pos m (by omega) w fun hb => ?_
      exact ih (m / 10) (by omega) _ (by omega) (by omega) (by omega) w

end Go.Proofs.YtgkddegaiaeckaaDoor
/- baileenum.Err; the methods of *journal.Fault; journal.Where of a sentinel, of nil. -/
namespace Go.Proofs.YtgkddegaiaeckaaDoor
open Go.RowKit

def errE (z : Nat → Addr) (k : Nat) : Value := if k = 0 then .nilIface else .iface 161 (.pointer (some (z (k - 1))))
def errL (z : Nat → Addr) : Array Value := #[.nilIface, .iface 161 (.pointer (some (z 0))), .iface 161 (.pointer (some (z 1))), .iface 161 (.pointer (some (z 2))), .iface 161 (.pointer (some (z 3))), .iface 161 (.pointer (some (z 4))), .iface 161 (.pointer (some (z 5))), .iface 161 (.pointer (some (z 6))), .iface 161 (.pointer (some (z 7))), .iface 161 (.pointer (some (z 8))), .iface 161 (.pointer (some (z 9))), .iface 161 (.pointer (some (z 10))), .iface 161 (.pointer (some (z 11))), .iface 161 (.pointer (some (z 12))), .iface 161 (.pointer (some (z 13))), .iface 161 (.pointer (some (z 14))), .iface 161 (.pointer (some (z 15))), .iface 161 (.pointer (some (z 16))), .iface 161 (.pointer (some (z 17))), .iface 161 (.pointer (some (z 18))), .iface 161 (.pointer (some (z 19)))]
theorem errL_at (z : Nat → Addr) (k : Nat) (hk : k < 21) : (errL z)[k]? = some (errE z k) := by
  match k, hk with
  | 0, _ => exact rfl
  | 1, _ => exact rfl
  | 2, _ => exact rfl
  | 3, _ => exact rfl
  | 4, _ => exact rfl
  | 5, _ => exact rfl
  | 6, _ => exact rfl
  | 7, _ => exact rfl
  | 8, _ => exact rfl
  | 9, _ => exact rfl
  | 10, _ => exact rfl
  | 11, _ => exact rfl
  | 12, _ => exact rfl
  | 13, _ => exact rfl
  | 14, _ => exact rfl
  | 15, _ => exact rfl
  | 16, _ => exact rfl
  | 17, _ => exact rfl
  | 18, _ => exact rfl
  | 19, _ => exact rfl
  | 20, _ => exact rfl
  | k + 21, h => exact absurd h (by omega)
theorem getk (l : List Value) (k : Nat) (h : k < l.length) (E : Value) (he : l[k]? = some E) : l[k] = E := by
  rw [List.getElem?_eq_getElem h] at he
  exact Option.some.inj he

set_option maxRecDepth 100000 in
set_option maxHeartbeats 1000000 in
theorem err_any (k : Nat) (hk : k < 21) (z : Nat → Addr) (w : World) (H : Errs 161 errGs w z) :
    Calls Tryd.prog 25 #[.int .i64 (k : Int)] w fun e w' => e = .returned (errE z k) ∧ Below w.heap.size w w' := by
  obtain ⟨g0, g1, g2, g3, g4, g5, g6, g7, g8, g9, g10, g11, g12, g13, g14, g15, g16, g17, g18, g19⟩ := num_cells H
  have hat := errL_at z k hk
  unfold errL at hat
  rw [List.getElem?_toArray] at hat
  have hki : (k : Int) < 21 := by omega
  have hb := Lib.hid (show Below w.heap.size w (w.alloc (.cells (errL z) 41)) from (Below.refl _ _).alloc (Nat.le_refl _) _)
  replace H := Lib.hid H
  generalize hE : errE z k = E at *
  replace hE := Lib.hid hE
  replace hat := Lib.hid hat
  go_enter Tryd.func25, Tryd.ntmps25
  go_wp2_with fail
  go_ret
  exact ⟨congrArg Ending.returned (getk _ k _ _ hat.out), hb.out⟩

theorem field_nil (w : World) : Calls Tryd.prog 26 #[.nilIface] w fun e w' => e = .returned (.tuple #[.string ⟨#[]⟩, .int .i64 0, .bool false]) ∧ Below w.heap.size w w' := by
  have hb0 := Lib.hid ((Below.refl w.heap.size w).alloc (Nat.le_refl _) (.cells #[.pointer none] 57))
  go_enter Tryd.func26, Tryd.ntmps26
  go_wp2_with fail
  with_reducible refine (as_nil _ _).mono ?_
  rintro e w2 ⟨rfl, rfl⟩
  go_wp2_with fail
  go_ret3
  exact ⟨rfl, hb0.out⟩
theorem field_miss (z : Addr) (w : World) (hT : TypeVar w) : Calls Tryd.prog 26 #[.iface 161 (.pointer (some z))] w fun e w' => e = .returned (.tuple #[.string ⟨#[]⟩, .int .i64 0, .bool false]) ∧ Below w.heap.size w w' := by
  have hb0 := (Below.refl w.heap.size w).alloc (Nat.le_refl _) (.cells #[.pointer none] 57)
  have hT1 := hT.below hb0
  have hcall := Lib.hid (as_miss z ⟨w.heap.size, 0, none⟩ (.pointer none) (w.alloc (.cells #[.pointer none] 57)) hT1 (by simp))
  replace hb0 := Lib.hid hb0
  clear hT hT1
  go_enter Tryd.func26, Tryd.ntmps26
  go_wp2_with fail
  with_reducible refine hcall.out.mono ?_
  rintro e w2 ⟨rfl, hb2⟩
  have hb3 := Lib.hid (hb0.out.trans (hb2.mono hb0.out.size))
  clear hb2 hcall
  go_wp2_with fail
  go_ret3
  exact ⟨rfl, hb3.out⟩
theorem unwrap_any (g : Nat) (F : ByteArray) (V : Int) (E : Value) (w : World) (hg : w.heap[g]? = some (.cells #[.string F, .int .i64 V, E] 59 (0, 0))) :
    Calls Tryd.prog 30 #[.pointer (some ⟨g, 0, none⟩)] w fun e w' => e = .returned E ∧ w = w' := by
  obtain ⟨⟨d0, d1, d2⟩, _⟩ := cells3 hg
  clear hg
  go_enter Tryd.func30, Tryd.ntmps30
  go_wp2_with fail
  go_ret
  exact ⟨rfl, rfl⟩

/-- A text of the error: the field, a blank, the number. -/
def wrongText (F : ByteArray) (V : Int) : ByteArray := F ++ ⟨#[32]⟩ ++ ⟨(Lib.itoa V).toArray⟩
theorem tab10 {w w' : World} (h : Lib.TabIs Tryd.prog w "internal/strconv.uint64pow10" .u64 Lib.pow10Tab) (hb : Below w.heap.size w w') : Lib.TabIs Tryd.prog w' "internal/strconv.uint64pow10" .u64 Lib.pow10Tab :=
  Go.Joins.tab_stays (g := 25) (by kernel_rfl) h hb (Nat.le_refl _)
theorem itoa_any (V : Int) (hV : -9223372036854775808 ≤ V ∧ V ≤ 9223372036854775807) (w : World) (hT : Lib.TabIs Tryd.prog w "internal/strconv.uint64pow10" .u64 Lib.pow10Tab) :
    Calls Tryd.prog 46 #[.int .i64 V] w fun e w' => e = .returned (.string ⟨(Lib.itoa V).toArray⟩) ∧ Below w.heap.size w w' := by
  refine (Tryd.strconv_Itoa V hV.1 hV.2 w hT).mono ?_
  rintro e w' ⟨rfl, k, os, rfl⟩
  exact ⟨rfl, Lib.below_grow _ _ (Nat.le_refl _) _ _⟩

end Go.Proofs.YtgkddegaiaeckaaDoor
/- The text of a *journal.Fault. -/
namespace Go.Proofs.YtgkddegaiaeckaaDoor
open Go.RowKit

set_option maxHeartbeats 1000000 in
theorem error_any (g : Nat) (F : ByteArray) (V : Int) (E : Value) (w : World) (hF : F.size ≤ 100) (hV : -9223372036854775808 ≤ V ∧ V ≤ 9223372036854775807) (hT : Lib.TabIs Tryd.prog w "internal/strconv.uint64pow10" .u64 Lib.pow10Tab) (hg : w.heap[g]? = some (.cells #[.string F, .int .i64 V, E] 59 (0, 0))) :
    Calls Tryd.prog 27 #[.pointer (some ⟨g, 0, none⟩)] w fun e w' => e = .returned (.string (wrongText F V)) ∧ Below w.heap.size w w' := by
  obtain ⟨⟨d0, d1, d2⟩, _⟩ := cells3 hg
  have hl := itoa_len V hV.1 hV.2
  replace hg := Lib.hid hg
  have hcall := Lib.hid (fun W (h : Grown w W) => itoa_any V hV W (tab10 hT h))
  replace hT := Lib.hid hT
  have z1 : ¬ 9223372036854775807 < F.size + 1 := by omega
  have z2 : ¬ 9223372036854775807 < F.size + 1 + (Lib.itoa V).length := by omega
  clear hl hF hV
  go_enter Tryd.func27, Tryd.ntmps27
  go_wp2_with fail
  have k0 := fun W (h : Grown w W) => (Below.cell h (World.block_lt_of_cell? w _ d0)).trans d0
  have k1 := fun W (h : Grown w W) => (Below.cell h (World.block_lt_of_cell? w _ d1)).trans d1
  clear d0 d1
  refine wp_region_on2 (by kernel_rfl) (fun wd hOn => ?_)
  refine wpAnyH_take (i := 0) (v := ?_) (by simp only [List.getElem?_toArray, List.getElem?_cons_zero]; rfl) (by kernel_rfl) (by kernel_rfl) (by kernel_rfl) (by exact fun _ _ _ h => h) (Or.inl ⟨by rfl, ?_⟩) hOn ?_
  rotate_left
  focus (intro W hSW; go_simp; try with_reducible rfl)
  try simp only [Act.put, List.setIfInBounds_toArray, List.set_cons_zero, List.set_cons_succ]
  refine wpAnyH_take (i := 1) (v := ?_) (by simp only [List.getElem?_toArray, List.getElem?_cons_succ, List.getElem?_cons_zero]; rfl) (by kernel_rfl) (by kernel_rfl) (by kernel_rfl) (by exact fun _ _ _ h => h) (Or.inl ⟨by rfl, ?_⟩) hOn ?_
  rotate_left
  focus (intro W hSW; go_simp; try with_reducible rfl)
  try simp only [Act.put, List.setIfInBounds_toArray, List.set_cons_zero, List.set_cons_succ]
  refine wpAnyH_take (i := 2) (v := ?_) (by simp only [List.getElem?_toArray, List.getElem?_cons_succ, List.getElem?_cons_zero]; rfl) (by kernel_rfl) (by kernel_rfl) (by kernel_rfl) (by exact fun _ _ _ h => h) (Or.inl ⟨by rfl, ?_⟩) hOn ?_
  rotate_left
  focus (intro W hSW; go_simp; try with_reducible rfl)
  try simp only [Act.put, List.setIfInBounds_toArray, List.set_cons_zero, List.set_cons_succ]
  refine wpAnyH_take (i := 3) (v := ?_) (by simp only [List.getElem?_toArray, List.getElem?_cons_succ, List.getElem?_cons_zero]; rfl) (by kernel_rfl) (by kernel_rfl) (by kernel_rfl) (by exact fun _ _ _ h => h) (Or.inl ⟨by rfl, ?_⟩) hOn ?_
  rotate_left
  focus (intro W hSW; go_simp; try with_reducible rfl)
  try simp only [Act.put, List.setIfInBounds_toArray, List.set_cons_zero, List.set_cons_succ]
  refine wpAnyH_take (i := 4) (v := ?_) (by simp only [List.getElem?_toArray, List.getElem?_cons_succ, List.getElem?_cons_zero]; rfl) (by kernel_rfl) (by kernel_rfl) (by kernel_rfl) (by exact fun _ _ _ h => h) (Or.inl ⟨by rfl, ?_⟩) hOn ?_
  rotate_left
  focus (intro W hSW; go_simp; try with_reducible rfl)
  try simp only [Act.put, List.setIfInBounds_toArray, List.set_cons_zero, List.set_cons_succ]
  refine wpAnyH_take (i := 5) (v := ?_) (by simp only [List.getElem?_toArray, List.getElem?_cons_succ, List.getElem?_cons_zero]; rfl) (by kernel_rfl) (by kernel_rfl) (by kernel_rfl) (by exact fun _ _ _ h => h) (Or.inl ⟨by rfl, ?_⟩) hOn ?_
  rotate_left
  focus (intro W hSW; go_simp; try with_reducible rfl)
  try simp only [Act.put, List.setIfInBounds_toArray, List.set_cons_zero, List.set_cons_succ]
  refine wpAnyH_take (i := 6) (v := ?_) (by simp only [List.getElem?_toArray, List.getElem?_cons_succ, List.getElem?_cons_zero]; rfl) (by kernel_rfl) (by kernel_rfl) (by kernel_rfl) (by exact fun _ _ _ h => h) (Or.inl ⟨by rfl, ?_⟩) hOn ?_
  rotate_left
  focus (intro W hSW; go_simp; try with_reducible rfl)
  try simp only [Act.put, List.setIfInBounds_toArray, List.set_cons_zero, List.set_cons_succ]
  refine wpAnyH_take (i := 7) (v := ?_) (by simp only [List.getElem?_toArray, List.getElem?_cons_succ, List.getElem?_cons_zero]; rfl) (by kernel_rfl) (by kernel_rfl) (by kernel_rfl) (by exact fun _ _ _ h => h) (Or.inl ⟨by rfl, ?_⟩) hOn ?_
  rotate_left
  focus (intro W hSW; go_simp; try with_reducible rfl)
  try simp only [Act.put, List.setIfInBounds_toArray, List.set_cons_zero, List.set_cons_succ]
  refine wpAnyH_take (i := 8) (v := ?_) (by simp only [List.getElem?_toArray, List.getElem?_cons_succ, List.getElem?_cons_zero]; rfl) (by kernel_rfl) (by kernel_rfl) (by kernel_rfl) (by exact fun _ _ _ h => h) (Or.inl ⟨by rfl, ?_⟩) hOn ?_
  rotate_left
  focus (intro W hSW; go_simp; try with_reducible rfl)
  try simp only [Act.put, List.setIfInBounds_toArray, List.set_cons_zero, List.set_cons_succ]
  refine wpAnyH_ready (rs := [9]) (by kernel_rfl) (by simp) ?_
  refine AllReadyH.cons (by simp only [List.getElem?_toArray, List.getElem?_cons_succ, List.getElem?_cons_zero]; rfl) (fun Kz hKz => ?_) AllReadyH.nil
  go_simp
  (with_reducible refine (hcall.out _ hOn).mono ?_)
  rintro e w5 ⟨rfl, hnew⟩
  have hg5 := Lib.hid (Grown.trans hOn hnew)
  go_wp2_with fail
  refine hKz.out _ _ (Grown.trans hOn hnew) (fun hNext => ?_)
  clear hKz Kz hOn
  refine wpAnyH_onward hNext (fun hOn => ?_)
  clear hNext hnew
  try simp only [Act.put, List.setIfInBounds_toArray, List.set_cons_zero, List.set_cons_succ]
  refine wpAnyH_take (i := 10) (v := ?_) (by simp only [List.getElem?_toArray, List.getElem?_cons_succ, List.getElem?_cons_zero]; rfl) (by kernel_rfl) (by kernel_rfl) (by kernel_rfl) (by exact fun _ _ _ h => h) (Or.inl ⟨by rfl, ?_⟩) hOn ?_
  rotate_left
  focus (intro W hSW; go_simp; try with_reducible rfl)
  try simp only [Act.put, List.setIfInBounds_toArray, List.set_cons_zero, List.set_cons_succ]
  refine wpAnyH_take (i := 11) (v := ?_) (by simp only [List.getElem?_toArray, List.getElem?_cons_succ, List.getElem?_cons_zero]; rfl) (by kernel_rfl) (by kernel_rfl) (by kernel_rfl) (by exact fun _ _ _ h => h) (Or.inl ⟨by rfl, ?_⟩) hOn ?_
  rotate_left
  focus (intro W hSW; go_simp; try with_reducible rfl)
  try simp only [Act.put, List.setIfInBounds_toArray, List.set_cons_zero, List.set_cons_succ]
  refine wpAnyH_done (by kernel_rfl) ?_ _
  have hb := Lib.hid (Grown.trans hg5.out hOn)
  clear hOn
  go_wp2_with fail
  go_ret
  exact ⟨rfl, hb.out⟩

end Go.Proofs.YtgkddegaiaeckaaDoor
