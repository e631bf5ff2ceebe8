/- Stripe, Params. -/
import Derived.Test.YtndgacjfkoliaaaDoorF10PlaysSaid34
import Derived.LoopN
import Derived.Test.YtndgacjfkoliaaaDoorF4PlaysSaid34
import Derived.Deep.CutRange
/- Walks over stripe.Shape, stripe.Total. -/
namespace Go.Proofs.YtndgacjfkoliaaaDoor
open Go.RowKit


/-- How many data blocks there are. -/
def leftOf (n : Int) : Int := if n ≤ 8 then 1 else (n + 7) / 8
def shapeOf (n : Int) : List Int := if leftOf n ≤ 223 then [leftOf n] else [223, leftOf n - 223]
def totalOf (n : Int) : Int := if leftOf n ≤ 223 then leftOf n + 32 else leftOf n + 64
def okSize (n : Int) : Prop := 0 ≤ n ∧ n ≤ 2000
theorem leftOf_bd (n : Int) (h : 0 ≤ n ∧ n ≤ 2000) : 1 ≤ leftOf n ∧ leftOf n ≤ 250 := by unfold leftOf; split <;> omega

set_option maxHeartbeats 400000 in
theorem shape_no (n : Int) (h : n < 0 ∨ 2000 < n) (z : Addr) (w : World) (hz : w.cell? ⟨0, 0, none⟩ = some (.iface 137 (.pointer (some z)))) : Calls Tryd.prog 44 #[.int .i64 n] w fun e w' => e = .returned (.tuple #[.slice none 0 0, .iface 137 (.pointer (some z))]) ∧ ∃ n, w' = w.drewN n := by
  rcases h with h | h
  all_goals
    go_enter Tryd.func44, Tryd.ntmps44
    go_wp2_with fail
    go_quiet (fail)
    go_wp2
    go_ret2
    exact ⟨rfl, _, rfl⟩

set_option maxHeartbeats 1000000 in
theorem shape_some (n : Int) (h : 0 ≤ n ∧ n ≤ 2000) (w : World) : Calls Tryd.prog 44 #[.int .i64 n] w fun e w' => ∃ v, e = .returned (.tuple #[v, .nilIface]) ∧ OwnI w.heap.size w' v (shapeOf n) ∧ Below w.heap.size w w' := by
  have hL := leftOf_bd n h
  have hLm : (n ≤ 8 ∧ leftOf n = 1) ∨ (8 < n ∧ leftOf n = (n + 7) / 8) := by unfold leftOf; split <;> omega
  have hS : (leftOf n ≤ 223 ∧ shapeOf n = [leftOf n]) ∨ (223 < leftOf n ∧ shapeOf n = [223, leftOf n - 223]) := by
    by_cases h : leftOf n ≤ 223
    · exact .inl ⟨h, by simp [shapeOf, h]⟩
    · exact .inr ⟨by omega, by simp [shapeOf, h]⟩
  have hown0 := Lib.hid (OwnI.nil w.heap.size w)
  have hb0 := Lib.hid (Below.refl w.heap.size w)
  generalize leftOf n = L at *
  have hm : max ((n + 7) / 8) 1 = L := by omega
  generalize shapeOf n = S at *
  replace hS := Lib.hid hS
  go_enter Tryd.func44, Tryd.ntmps44
  go_wp2_with fail
  case' inl => rw [show Value.int IntKind.i64 1 = Value.int IntKind.i64 L from by rw [show L = 1 from by omega]]
  case' inr => rw [show (n + 8 - 1) / 8 = L from by omega]
  all_goals
    clear hLm hm
    go_loopw [5, 4] (fun v j wr => ∃ (zs : List Int) (l : Int), j = .int .i64 l ∧ OwnI w.heap.size wr v zs ∧ Below w.heap.size w wr ∧ ((zs = [] ∧ l = L) ∨ (l = 0 ∧ zs = S) ∨ (l = L - 223 ∧ 223 < L ∧ zs = [223])))
      (fun _ j _ => (intOf j).toNat)
    case atStart => exact ⟨[], L, rfl, hown0.out, hb0.out, .inl ⟨rfl, rfl⟩⟩
    case round =>
      clear hown0 hb0
      obtain ⟨zs, l, rfl, hown, hbel, hph⟩ := hrel
      have hsz := hbel.size
      have hlb : 0 ≤ l ∧ l ≤ 250 ∧ zs.length ≤ 2 := by
        rcases hph with ⟨rfl, rfl⟩ | ⟨rfl, rfl⟩ | ⟨rfl, _, rfl⟩
        · exact ⟨by omega, by omega, by simp⟩
        · refine ⟨by omega, by omega, ?_⟩
          rcases hS.out with ⟨_, rfl⟩ | ⟨_, rfl⟩ <;> simp
        · exact ⟨by omega, by omega, by simp⟩
      have hnext : 0 < l → (l ≤ 223 → zs ++ [l] = S) ∧ (223 < l → zs ++ [223] = [223] ∧ l = L) := by
        intro h0
        rcases hph with ⟨rfl, rfl⟩ | ⟨rfl, rfl⟩ | ⟨rfl, h2, rfl⟩
        · refine ⟨fun h1 => ?_, fun h1 => ⟨rfl, rfl⟩⟩
          rcases hS.out with ⟨_, rfl⟩ | ⟨_, rfl⟩
          · rfl
          · omega
        · omega
        · refine ⟨fun h1 => ?_, fun h1 => by omega⟩
          rcases hS.out with ⟨_, rfl⟩ | ⟨_, rfl⟩
          · omega
          · rfl
      replace hbel := Lib.hid hbel
      replace hown := Lib.hid hown
      by_cases hl : 0 < l
      · replace hnext := Lib.hid (hnext hl)
        clear hph
        by_cases h223 : l ≤ 223
        · have hd2 : ¬ 223 < l := by omega
          go_wp2_with (at_builtin; go_must (refine wpI_app1 rfl (.tmp 23) (.tmp 25) rfl w.heap.size _ zs rfl hown l rfl (by omega) hsz ?_))
          intro v' w' ho' hb'
          replace hb' := Lib.hid (hbel.out.trans hb'.out)
          go_wp2_with fail
          go_roundw
          case rel => exact ⟨S, 0, by go_num, (hnext.out.1 h223) ▸ ho'.out, hb'.out, .inr (.inl ⟨rfl, rfl⟩)⟩
          case measure => simp [intOf]; omega
        · have hd2 : 223 < l := by omega
          go_wp2_with (at_builtin; go_must (refine wpI_app1 rfl (.tmp 23) (.tmp 25) rfl w.heap.size _ zs rfl hown 223 rfl (by omega) hsz ?_))
          intro v' w' ho' hb'
          replace hb' := Lib.hid (hbel.out.trans hb'.out)
          go_wp2_with fail
          go_roundw
          case rel =>
            obtain ⟨e1, rfl⟩ := hnext.out.2 hd2
            exact ⟨[223], l - 223, by go_num, e1 ▸ ho'.out, hb'.out, .inr (.inr ⟨rfl, hd2, rfl⟩)⟩
          case measure => simp [intOf]; omega
      · obtain rfl : l = 0 := by omega
        have hz : zs = S := by
          rcases hph with ⟨rfl, h⟩ | ⟨_, rfl⟩ | ⟨_, _, rfl⟩
          · omega
          · rfl
          · omega
        clear hph hnext
        subst hz
        go_wp2_with fail
        go_ret2
        exact ⟨_, rfl, hown.out, hbel.out⟩

/-- The blocks of the first k groups. -/
def psum (zs : List Int) : Nat → Int
  | 0 => 0
  | k + 1 => psum zs k + (zs.getD k 0 + 32)
theorem shape_facts (n : Int) (h : 0 ≤ n ∧ n ≤ 2000) : (shapeOf n).length ≤ 2 ∧ (∀ k, k < (shapeOf n).length → 0 ≤ (shapeOf n).getD k 0 ∧ (shapeOf n).getD k 0 ≤ 250) ∧ (∀ k, k ≤ (shapeOf n).length → 0 ≤ psum (shapeOf n) k ∧ psum (shapeOf n) k ≤ 600) ∧ psum (shapeOf n) (shapeOf n).length = totalOf n := by
  have hL := leftOf_bd n h
  unfold totalOf shapeOf
  split
  · refine ⟨by simp, fun k hk => ?_, fun k hk => ?_, by simp [psum]⟩
    · obtain rfl : k = 0 := by simpa using hk
      simp; omega
    · rcases (show k = 0 ∨ k = 1 from by simp at hk; omega) with rfl | rfl
      · simp [psum]
      · simp [psum]; omega
  · refine ⟨by simp, fun k hk => ?_, fun k hk => ?_, by simp [psum]; omega⟩
    · rcases (show k = 0 ∨ k = 1 from by simp at hk; omega) with rfl | rfl
      · simp
      · simp; omega
    · rcases (show k = 0 ∨ k = 1 ∨ k = 2 from by simp at hk; omega) with rfl | rfl | rfl
      · simp [psum]
      · simp [psum]
      · simp [psum]; omega

set_option maxHeartbeats 400000 in
theorem total_no (n : Int) (h : n < 0 ∨ 2000 < n) (z : Addr) (w : World) (hz : w.cell? ⟨0, 0, none⟩ = some (.iface 137 (.pointer (some z)))) : Calls Tryd.prog 36 #[.int .i64 n] w fun e w' => e = .returned (.tuple #[.int .i64 0, .iface 137 (.pointer (some z))]) ∧ ∃ n, w' = w.drewN n := by
  go_enter Tryd.func36, Tryd.ntmps36
  go_wp2_with fail
  refine (shape_no n h z _ hz).mono ?_
  rintro e w1 ⟨rfl, k, rfl⟩
  go_wp2_with fail
  go_loopw [6, 16] (fun s j wr => s = .int .i64 0 ∧ j = .int .i64 0 ∧ wr = w.drewN k) (fun _ _ _ => 0)
  case atStart => exact ⟨rfl, rfl, rfl⟩
  case round =>
    obtain ⟨rfl, rfl, rfl⟩ := hrel
    go_wp2_with fail
    go_ret2
    exact ⟨rfl, _, rfl⟩

set_option maxHeartbeats 1000000 in
theorem total_some (n : Int) (h : 0 ≤ n ∧ n ≤ 2000) (w : World) : Calls Tryd.prog 36 #[.int .i64 n] w fun e w' => e = .returned (.tuple #[.int .i64 (totalOf n), .nilIface]) ∧ Below w.heap.size w w' := by
  obtain ⟨f1, f2, f3, f4⟩ := shape_facts n h
  have hs := Lib.hid (shape_some n h w)
  generalize shapeOf n = S at *
  generalize totalOf n = T at *
  subst f4
  go_enter Tryd.func36, Tryd.ntmps36
  go_wp2_with fail
  refine hs.out.mono ?_
  rintro e w1 ⟨v, rfl, ho, hb⟩
  clear hs
  obtain ⟨a, c, rfl, g1, g2, g3, hrow, _⟩ := ho.row
  clear ho
  replace hb := Lib.hid hb
  replace hrow := Lib.hid hrow
  replace f2 := Lib.hid f2
  replace f3 := Lib.hid f3
  go_wp2_with fail
  go_loopw [6, 8, 16] (fun s _ j wr => ∃ k : Nat, k ≤ S.length ∧ s = .int .i64 (psum S k) ∧ j = .int .i64 k ∧ wr = w1) (fun _ _ j _ => S.length - (intOf j).toNat)
  case atStart => exact ⟨0, Nat.zero_le _, rfl, rfl, rfl⟩
  case round =>
    obtain ⟨k, hk, rfl, rfl, rfl⟩ := hrel
    have b1 := f3.out k hk
    by_cases hlt : k < S.length
    · obtain ⟨b, off, rfl, hc⟩ := hrow.out k hlt
      have b2 := f2.out k hlt
      have hs2 := Lib.hid (show psum S (k + 1) = psum S k + (S.getD k 0 + 32) from rfl)
      generalize S.getD k 0 = x at *
      generalize psum S k = y at *
      go_wp2_with fail
      go_roundw
      case rel => exact ⟨k + 1, by omega, by rw [hs2.out], by go_num, by first | rfl | trivial⟩
      case measure => simp [intOf]; omega
    · obtain rfl : k = S.length := by omega
      go_wp2_with fail
      go_ret2
      exact ⟨rfl, hb.out⟩

end Go.Proofs.YtndgacjfkoliaaaDoor
/- Walks over params.bounds, params.Check. -/
namespace Go.Proofs.YtndgacjfkoliaaaDoor
open Go.RowKit

/-- The sentinels that parameters name. -/
def parGs : List Nat := [8, 0, 7]
abbrev ParErrs (w : World) (z : Nat → Addr) : Prop := Errs 137 parGs w z
theorem ParErrs.range {w : World} {z : Nat → Addr} (h : ParErrs w z) : w.cell? ⟨8, 0, none⟩ = some (.iface 137 (.pointer (some (z 0)))) := h.var 0 (by decide)
theorem ParErrs.size {w : World} {z : Nat → Addr} (h : ParErrs w z) : w.cell? ⟨0, 0, none⟩ = some (.iface 137 (.pointer (some (z 1)))) := h.var 1 (by decide)
theorem ParErrs.budget {w : World} {z : Nat → Addr} (h : ParErrs w z) : w.cell? ⟨7, 0, none⟩ = some (.iface 137 (.pointer (some (z 2)))) := h.var 2 (by decide)

def parV (s n k d t r : Int) : Value := .agg #[.int .i64 s, .int .i64 n, .int .i64 k, .int .i64 d, .int .i64 t, .int .i64 r]
theorem cell_far1 {w : World} {x : Addr} {v : Value} (h : w.cell? x = some v) (o1 : Obj) : (w.alloc o1).cell? x = some v :=
  (((Below.refl w.heap.size w).alloc (Nat.le_refl _) o1).cell (World.block_lt_of_cell? w _ h)).trans h
theorem cell_far2 {w : World} {x : Addr} {v : Value} (h : w.cell? x = some v) (o1 o2 : Obj) : ((w.alloc o1).alloc o2).cell? x = some v := cell_far1 (cell_far1 h o1) o2

def bndA (s n k d t r M : Int) (z : Nat → Addr) : Array Value := #[
  .string ⟨#[115, 105, 122, 101]⟩, .int .i64 s, .int .i64 0, .int .i64 2000, .iface 137 (.pointer (some (z 1))),
  .string ⟨#[115, 101, 110, 116, 105, 110, 101, 108, 115]⟩, .int .i64 n, .int .i64 0, .int .i64 8, .iface 137 (.pointer (some (z 2))),
  .string ⟨#[115, 112, 111, 116, 115]⟩, .int .i64 k, .int .i64 1, .int .i64 M, .iface 137 (.pointer (some (z 0))),
  .string ⟨#[112, 101, 114, 105, 111, 100]⟩, .int .i64 d, .int .i64 1, .int .i64 10000, .iface 137 (.pointer (some (z 0))),
  .string ⟨#[112, 97, 116, 105, 101, 110, 99, 101]⟩, .int .i64 t, .int .i64 1, .int .i64 d, .iface 137 (.pointer (some (z 0))),
  .string ⟨#[114, 101, 116, 114, 105, 101, 115]⟩, .int .i64 r, .int .i64 0, .int .i64 5, .iface 137 (.pointer (some (z 0)))]
def bndV (s n k d t r M : Int) (z : Nat → Addr) : Value := .agg (bndA s n k d t r M z)

set_option maxRecDepth 10000 in
set_option maxHeartbeats 1000000 in
theorem bounds_any (s n k d t r c : Int) (z : Nat → Addr) (w : World) (hE : ParErrs w z) :
    Calls Tryd.prog 37 #[parV s n k d t r, .int .i64 c] w fun e w' => ∃ M, (12 ≤ c → M = 12) ∧ e = .returned (bndV s n k d t r M z) ∧ Below w.heap.size w w' := by
  have h1 := hE.range
  have h2 := hE.size
  have h3 := hE.budget
  have q1 := cell_far2 h1
  have q2 := cell_far2 h2
  have q3 := cell_far2 h3
  clear h1 h2 h3
  have hb0 := Lib.hid (Below.refl w.heap.size w)
  unfold parV
  rcases (show c < 12 ∨ c = 12 ∨ 12 < c from by omega) with hc | rfl | hc
  · go_enter Tryd.func37, Tryd.ntmps37
    go_upto_region 1 with fail
    generalize hz : (#[
      .string ⟨#[]⟩, .int .i64 0, .int .i64 0, .int .i64 0, .nilIface, .string ⟨#[]⟩, .int .i64 0, .int .i64 0, .int .i64 0, .nilIface, .string ⟨#[]⟩, .int .i64 0, .int .i64 0, .int .i64 0, .nilIface,
      .string ⟨#[]⟩, .int .i64 0, .int .i64 0, .int .i64 0, .nilIface, .string ⟨#[]⟩, .int .i64 0, .int .i64 0, .int .i64 0, .nilIface, .string ⟨#[]⟩, .int .i64 0, .int .i64 0, .int .i64 0, .nilIface] : Array Value) = zb
    replace hz : zb.size = 30 := by rw [← hz]; rfl
    go_wp2_with (refine wpList_store_new (w := w.alloc _) rfl 88 (.tmp 4) (.tmp 33) rfl _ (bndA s n k d t r c z) (by simp only [World.size_alloc]; rfl) rfl (by kernel_rfl) (by rw [hz]; rfl) (by simp [bndA, Value.oneCell']) ?_)
    refine ret_cell_new (w := w.alloc _) (c := bndA s n k d t r c z) rfl (by simp only [World.size_alloc]; rfl) Tryd.underlying88 (by kernel_rfl) ?_
    exact ⟨c, by omega, rfl, (hb0.out.alloc (Nat.le_refl _) _).alloc (by simp) _⟩
  · go_enter Tryd.func37, Tryd.ntmps37
    go_upto_region 1 with fail
    generalize hz : (#[
      .string ⟨#[]⟩, .int .i64 0, .int .i64 0, .int .i64 0, .nilIface, .string ⟨#[]⟩, .int .i64 0, .int .i64 0, .int .i64 0, .nilIface, .string ⟨#[]⟩, .int .i64 0, .int .i64 0, .int .i64 0, .nilIface,
      .string ⟨#[]⟩, .int .i64 0, .int .i64 0, .int .i64 0, .nilIface, .string ⟨#[]⟩, .int .i64 0, .int .i64 0, .int .i64 0, .nilIface, .string ⟨#[]⟩, .int .i64 0, .int .i64 0, .int .i64 0, .nilIface] : Array Value) = zb
    replace hz : zb.size = 30 := by rw [← hz]; rfl
    go_wp2_with (refine wpList_store_new (w := w.alloc _) rfl 88 (.tmp 4) (.tmp 33) rfl _ (bndA s n k d t r 12 z) (by simp only [World.size_alloc]; rfl) rfl (by kernel_rfl) (by rw [hz]; rfl) (by simp [bndA, Value.oneCell']) ?_)
    refine ret_cell_new (w := w.alloc _) (c := bndA s n k d t r 12 z) rfl (by simp only [World.size_alloc]; rfl) Tryd.underlying88 (by kernel_rfl) ?_
    exact ⟨12, by omega, rfl, (hb0.out.alloc (Nat.le_refl _) _).alloc (by simp) _⟩
  · go_enter Tryd.func37, Tryd.ntmps37
    go_upto_region 1 with fail
    generalize hz : (#[
      .string ⟨#[]⟩, .int .i64 0, .int .i64 0, .int .i64 0, .nilIface, .string ⟨#[]⟩, .int .i64 0, .int .i64 0, .int .i64 0, .nilIface, .string ⟨#[]⟩, .int .i64 0, .int .i64 0, .int .i64 0, .nilIface,
      .string ⟨#[]⟩, .int .i64 0, .int .i64 0, .int .i64 0, .nilIface, .string ⟨#[]⟩, .int .i64 0, .int .i64 0, .int .i64 0, .nilIface, .string ⟨#[]⟩, .int .i64 0, .int .i64 0, .int .i64 0, .nilIface] : Array Value) = zb
    replace hz : zb.size = 30 := by rw [← hz]; rfl
    go_wp2_with (refine wpList_store_new (w := w.alloc _) rfl 88 (.tmp 4) (.tmp 33) rfl _ (bndA s n k d t r 12 z) (by simp only [World.size_alloc]; rfl) rfl (by kernel_rfl) (by rw [hz]; rfl) (by simp [bndA, Value.oneCell']) ?_)
    refine ret_cell_new (w := w.alloc _) (c := bndA s n k d t r 12 z) rfl (by simp only [World.size_alloc]; rfl) Tryd.underlying88 (by kernel_rfl) ?_
    exact ⟨12, by omega, rfl, (hb0.out.alloc (Nat.le_refl _) _).alloc (by simp) _⟩

end Go.Proofs.YtndgacjfkoliaaaDoor
