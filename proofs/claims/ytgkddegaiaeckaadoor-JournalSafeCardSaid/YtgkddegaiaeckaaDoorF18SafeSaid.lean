/- JFirst, JScan, JHeads. -/
import Derived.Test.YtgkddegaiaeckaaDoorF9SafeSaid
import Derived.Test.YtgkddegaiaeckaaDoorF10SafeSaid
import Derived.Test.YtgkddegaiaeckaaDoorF14SafeSaid
import Derived.Test.YtgkddegaiaeckaaDoorF2SafeSaid
import Derived.Deep.QuietTactic
import Derived.BigQuiet
import Derived.Stop.BytesEq
import Derived.Test.YtgkddegaiaeckaaDoorF17SafeSaid
import Derived.Great.BuildSlice
import Derived.Great.FillDense
/- The walk over journal.first. -/
namespace Go.Proofs.YtgkddegaiaeckaaDoor
open Go.RowKit

theorem ArgB.from {w : World} {b o c : Nat} {bs : List UInt8} (h : ArgB w (some ⟨b, o, none⟩) c bs) (i : Nat) (hi : i ≤ bs.length) : ArgB w (some ⟨b, o + i, none⟩) (c - i) (bs.drop i) := by
  have hl := h.len
  have hm := h.most
  refine ⟨by rw [List.length_drop]; omega, by omega, (fun e => by cases e), fun j hj => ⟨b, o + i, rfl, ?_⟩⟩
  rw [List.length_drop] at hj
  obtain ⟨b', o', e, hc⟩ := h.row (i + j) (by omega)
  cases e
  rw [Nat.add_assoc, hc]
  simp [List.getD_eq_getElem?_getD, List.getElem?_drop]
theorem ArgB.upto {w : World} {a : Option Addr} {c : Nat} {bs : List UInt8} (h : ArgB w a c bs) (n : Nat) : ArgB w a c (bs.take n) := by
  refine ⟨by rw [List.length_take]; have := h.len; omega, h.most, h.nil, fun j hj => ?_⟩
  rw [List.length_take] at hj
  obtain ⟨b, o, e, hc⟩ := h.row j (by omega)
  refine ⟨b, o, e, ?_⟩
  rw [hc]
  simp [List.getD_eq_getElem?_getD, List.getElem?_take, show j < n by omega]
theorem ArgB.range {w : World} {b o c : Nat} {bs : List UInt8} (h : ArgB w (some ⟨b, o, none⟩) c bs) : w.rangeAt b o (cB bs) := by
  intro j v hv
  have hj : j < bs.length := by
    have := (List.getElem?_eq_some_iff.1 hv).1
    rwa [cB_length] at this
  obtain ⟨b', o', e, hc⟩ := h.row j hj
  cases e
  rw [hc, ← hv, cellB_at hj]
theorem neqD (xs ys : List UInt8) (hx : xs.length = 32) (hy : ys.length = 32) (w : World) : (binOp .neq 32 (.agg (cB xs).toArray) (.agg (cB ys).toArray)).run Tryd.prog w = .ok (.bool (!(xs == ys))) w := by
  show (binOp .neq 32 (.agg (xs.map Extern.Stop.cell).toArray) (.agg (ys.map Extern.Stop.cell).toArray)).run Tryd.prog w = _
  rw [run_neq_struct, run_equalIn_bytes w 9998 32 5 32 Tryd.underlying32 Tryd.underlying5 (fun w => by kernel_rfl) xs ys hx hy]
  rfl
theorem joinB (x y : Nat) (hx : x < 256) (hy : y < 256) : bits .or .i64 ((x : Int) * 256) (y : Int) = ((x * 256 + y : Nat) : Int) := by
  have h := i64_join x y 8 (by omega) (by decide) (by omega)
  rw [show (x : Int) * (2 : Int) ^ 8 = (x : Int) * 256 from rfl, IntWalk.wrap64_in ((x : Int) * 256) (by omega)] at h
  exact h

def firstIf (S N R : List UInt8) : Option (List UInt8) := if S = N then some R else none
theorem firstIf_no {S N R : List UInt8} (h : false = (S == N)) : firstIf S N R = none := by
  unfold firstIf
  rw [if_neg (fun e => by rw [e, beq_self_eq_true] at h; cases h)]
theorem firstIf_yes {S N R : List UInt8} (h : true = (S == N)) : firstIf S N R = some R := by
  unfold firstIf
  rw [if_pos (eq_of_beq h.symm)]
/-- What 'first' gives back. -/
def FirstRes (n₀ : Nat) (w' : World) (v : Value) : Option (List UInt8) → Prop
  | none => v = .slice none 0 0
  | some r => OwnB n₀ w' v r

set_option maxRecDepth 10000 in
set_option maxHeartbeats 2000000 in
theorem first_short (H : Array Value) (bs : List UInt8) (h34 : bs.length < 34) (a : Option Addr) (c : Nat) (w : World) :
    Calls Tryd.prog 31 #[.slice a bs.length c, .agg H] w fun x w' => x = .returned (.slice none 0 0) ∧ Below w.heap.size w w' := by
  have h2 : (bs.length : Int) < 34 := by omega
  have hb : Below w.heap.size w (w.alloc (.cells H 32)) := (Below.refl _ _).alloc (Nat.le_refl _) _
  replace hb := Lib.hid hb
  go_enter Tryd.func31, Tryd.ntmps31
  go_wp2_with fail
  go_ret
  exact ⟨rfl, hb.out⟩

set_option maxRecDepth 10000 in
set_option maxHeartbeats 2000000 in
theorem first_bad (H : Array Value) (bs : List UInt8) (h34 : 34 ≤ bs.length) (hn : numB bs < 1 ∨ 400 < numB bs ∨ bs.length < 34 + numB bs) (hmax : bs.length ≤ 100000) (a : Option Addr) (c : Nat) (w : World) (ha : ArgB w a c bs) :
    Calls Tryd.prog 31 #[.slice a bs.length c, .agg H] w fun x w' => x = .returned (.slice none 0 0) ∧ Below w.heap.size w w' := by
  have hb : Below w.heap.size w (w.alloc (.cells H 32)) := (Below.refl _ _).alloc (Nat.le_refl _) _
  obtain ⟨b, o, rfl, _⟩ := ha.row 0 (by omega)
  have ha1 := ha.below hb
  obtain ⟨_, _, e0, c0⟩ := ha1.row 0 (by omega)
  cases e0
  obtain ⟨_, _, e1, c1⟩ := ha1.row 1 (by omega)
  cases e1
  rw [Nat.add_zero] at c0
  have hj := joinB (bs.getD 0 0).toNat (bs.getD 1 0).toNat (bs.getD 0 0).toNat_lt (bs.getD 1 0).toNat_lt
  have hnB : (bs.getD 0 0).toNat * 256 + (bs.getD 1 0).toNat = numB bs := rfl
  rw [hnB] at hj
  have h2 : ¬ ((bs.length : Int) < 34) := by omega
  have hl1 := (bs.getD 0 0).toNat_lt
  have hl2 := (bs.getD 1 0).toNat_lt
  have hnl : numB bs ≤ 65535 := by rw [← hnB]; omega
  generalize (bs.getD 0 0).toNat = x at *
  generalize (bs.getD 1 0).toNat = y at *
  generalize numB bs = n at *
  replace hb := Lib.hid hb
  have hsz := Lib.hid (fun W => sized_any (n : Int) W)
  clear ha ha1 hnB
  go_enter Tryd.func31, Tryd.ntmps31
  go_wp2_with fail
  go_quiet (fail)
  go_wp2_with fail
  with_reducible refine (hsz.out _).mono ?_
  rintro e w2 ⟨rfl, hq⟩
  obtain rfl := hq
  by_cases hd : 1 ≤ (n : Int) ∧ (n : Int) ≤ 400
  · have hd2 : decide (1 ≤ (n : Int) ∧ (n : Int) ≤ 400) = true := decide_eq_true hd
    have hlt : (bs.length : Int) < 34 + (n : Int) := by omega
    go_wp2_with fail
    go_ret
    exact ⟨rfl, below_drewN hb.out nq⟩
  · have hd2 : decide (1 ≤ (n : Int) ∧ (n : Int) ≤ 400) = false := decide_eq_false hd
    clear hd
    go_wp2_with fail
    go_ret
    exact ⟨rfl, below_drewN hb.out nq⟩

set_option maxRecDepth 10000 in
set_option maxHeartbeats 2000000 in
theorem first_good (h bs : List UInt8) (hh : h.length = 32) (hn1 : 1 ≤ numB bs) (hn2 : numB bs ≤ 400) (hn3 : 34 + numB bs ≤ bs.length) (hmax : bs.length ≤ 100000) (a : Option Addr) (c : Nat) (w : World) (ha : ArgB w a c bs) (hK : ShaK w) (hF : ShaF w) :
    Calls Tryd.prog 31 #[.slice a bs.length c, .agg (cB h).toArray] w fun x w' => ∃ v, x = .returned v ∧ FirstRes w.heap.size w' v (firstB bs h) ∧ Below w.heap.size w w' := by
  obtain ⟨H, hHd⟩ : ∃ H, H = (cB h).toArray := ⟨_, rfl⟩
  have hb : Below w.heap.size w (w.alloc (.cells H 32)) := (Below.refl _ _).alloc (Nat.le_refl _) _
  obtain ⟨b, o, rfl, _⟩ := ha.row 0 (by omega)
  have ha1 := ha.below hb
  have hc := ha.len
  have hcm := ha.most
  obtain ⟨_, _, e0, c0⟩ := ha1.row 0 (by omega)
  cases e0
  obtain ⟨_, _, e1, c1⟩ := ha1.row 1 (by omega)
  cases e1
  rw [Nat.add_zero] at c0
  have hj := joinB (bs.getD 0 0).toNat (bs.getD 1 0).toNat (bs.getD 0 0).toNat_lt (bs.getD 1 0).toNat_lt
  have hnB : (bs.getD 0 0).toNat * 256 + (bs.getD 1 0).toNat = numB bs := rfl
  rw [hnB] at hj
  have hx := heap_alloc_new w (.cells H 32 (0, 0))
  obtain ⟨R, hR⟩ : ∃ R, R = (bs.drop 34).take (numB bs) := ⟨_, rfl⟩
  have hRl : R.length = numB bs := by rw [hR, List.length_take, List.length_drop]; omega
  have haR : ∀ W, Below w.heap.size w W → ArgB W (some ⟨b, o + 34, none⟩) (c - 34) R := fun W hW => by rw [hR]; exact ((ha.below hW).from 34 (by omega)).upto (numB bs)
  obtain ⟨S, hSd⟩ : ∃ S, S = (bs.drop 2).take 32 := ⟨_, rfl⟩
  have hSl : S.length = 32 := by rw [hSd, List.length_take, List.length_drop]; omega
  have haS : ∀ W, Below w.heap.size w W → W.rangeAt b (o + 2) (cB S) := fun W hW => by rw [hSd]; exact (((ha.below hW).from 2 (by omega)).upto 32).range
  have hfirst : firstB bs h = firstIf S (nextB h R) R := by
    unfold firstB firstIf
    rw [if_neg (by omega), if_neg (by omega), ← hR, ← hSd]
  have hnx := fun W (hW : Below w.heap.size w W) => next_any h R hh (some ⟨b, o + 34, none⟩) (c - 34) W (haR W hW) (by omega) (hK.below hW) (hF.below hW)
  rw [hRl, ← hHd] at hnx
  have hcl := fun W (hW : Below w.heap.size w W) => clone_any (some ⟨b, o + 34, none⟩) (c - 34) R W (haR W hW) (by omega)
  rw [hRl] at hcl
  have hne := fun W => neqD S (nextB h R) hSl (nextB_len h R) W
  have hiS : (Tryd.prog.info? 32).map (·.size) = some (cB S).length := by rw [cB_length, hSl]; kernel_rfl
  obtain ⟨N, hN⟩ : ∃ N, N = (cB (nextB h R)).toArray := ⟨_, rfl⟩
  rw [← hN] at hne
  obtain ⟨q, hqd⟩ : ∃ q, q = (S == nextB h R) := ⟨_, rfl⟩
  rw [← hqd] at hne
  replace hqd := Lib.hid hqd
  rw [← hN] at hnx
  have huA : Tryd.prog.underlying 32 = some (.array 32 5) := Tryd.underlying32
  have hzA : (Tryd.prog.info? 32).map (·.size) = some H.size := by rw [hHd]; exact infoDigest hh
  have h34 : 34 ≤ bs.length := by omega
  have hc34 : 34 ≤ c := by omega
  have hc34i : (34 : Int) ≤ (c : Int) := by omega
  have hc2i : (2 : Int) ≤ (c : Int) := by omega
  have h2 : ¬ ((bs.length : Int) < 34) := by omega
  have h5 : ¬ ((bs.length : Int) < 34 + (numB bs : Int)) := by omega
  have hl1 := (bs.getD 0 0).toNat_lt
  have hl2 := (bs.getD 1 0).toNat_lt
  have hd2 : decide (1 ≤ (numB bs : Int) ∧ (numB bs : Int) ≤ 400) = true := decide_eq_true (by omega)
  rw [hfirst, ← hHd]
  generalize (bs.getD 0 0).toNat = x at *
  generalize (bs.getD 1 0).toNat = y at *
  replace hR := Lib.hid hR
  generalize numB bs = n at *
  have hsz := Lib.hid (fun W => sized_any (n : Int) W)
  replace hb := Lib.hid hb
  replace hHd := Lib.hid hHd
  replace hRl := Lib.hid hRl
  replace haR := Lib.hid haR
  replace hSd := Lib.hid hSd
  replace hSl := Lib.hid hSl
  replace haS := Lib.hid haS
  replace hnx := Lib.hid hnx
  replace hcl := Lib.hid hcl
  replace hN := Lib.hid hN
  replace hx := Lib.hid hx
  clear ha ha1 hnB hK hF hfirst hh
  go_enter Tryd.func31, Tryd.ntmps31
  go_wp2_with fail
  go_quiet (fail)
  go_wp2_with fail
  with_reducible refine (hsz.out _).mono ?_
  rintro e w2 ⟨rfl, hq⟩
  obtain rfl := hq
  clear hsz
  go_wp2_with fail
  generalize hWq : (w.alloc (.cells H 32)).drewN nq = wq
  have hbq : Below w.heap.size w wq := hWq ▸ below_drewN hb.out nq
  have hxq : wq.heap[w.heap.size]? = some (.cells H 32 (0, 0)) := hWq ▸ hx.out
  have hsq : w.heap.size < wq.heap.size := block_lt hxq
  have hd1 := hbq.drew
  have hxd : wq.drew.heap[w.heap.size]? = some (.cells H 32 (0, 0)) := hxq
  have hsd : w.heap.size < wq.drew.heap.size := hsq
  replace hd1 := Lib.hid hd1
  have rlA : ∀ W, (Below w.heap.size w W ∧ W.heap[w.heap.size]? = some (.cells H 32 (0, 0))) → W.heap[w.heap.size]? = some (.cells H 32 (0, 0)) := fun W hW => hW.2
  have hSS : Hid (Below w.heap.size w wq.drew ∧ wq.drew.heap[w.heap.size]? = some (.cells H 32 (0, 0))) := Lib.hid ⟨hd1.out, hxd⟩
  have harr : ∀ W, (Instr.arrayAt 32 (.slice (some ⟨b, o + 2, none⟩) 32 (c - 2))).run Tryd.prog W = .ok (.pointer (some ⟨b, o + 2, none⟩)) W := fun W => by kernel_rfl
  clear hWq hbq hxq hb hx
  refine wp_region_held_drew (S := (fun W => Below w.heap.size w W ∧ W.heap[w.heap.size]? = some (.cells H 32 (0, 0)))) (by kernel_rfl) hSS.out (fun hOn => ?_)
  generalize World.drew wq = wd at *
  refine wpAnyH_take (i := 0) (v := ?_) (by simp only [List.getElem?_toArray, List.getElem?_cons_zero]; rfl) (by kernel_rfl) (by kernel_rfl) (by kernel_rfl) (by exact fun _ _ _ h => h) (Or.inl ⟨by rfl, ?_⟩) hOn ?_
  rotate_left
  focus (intro W hSW; go_simp; try with_reducible rfl)
  try simp only [Act.put, List.setIfInBounds_toArray, List.set_cons_zero, List.set_cons_succ]
  refine wpAnyH_take (i := 1) (v := ?_) (by simp only [List.getElem?_toArray, List.getElem?_cons_succ, List.getElem?_cons_zero]; rfl) (by kernel_rfl) (by kernel_rfl) (by kernel_rfl) (by exact fun _ _ _ h => h) (Or.inl ⟨by rfl, ?_⟩) hOn ?_
  rotate_left
  focus (intro W hSW; go_simp; try with_reducible rfl)
  try simp only [Act.put, List.setIfInBounds_toArray, List.set_cons_zero, List.set_cons_succ]
  refine wpAnyH_take (i := 4) (v := Value.agg _) (by simp only [List.getElem?_toArray, List.getElem?_cons_succ, List.getElem?_cons_zero]; rfl) (by kernel_rfl) (by kernel_rfl) (by kernel_rfl) (by exact fun _ _ _ h => h) (Or.inl ⟨by rfl, fun W hSW => yields_load_row _ _ rfl _ _ _ rfl (rlA W hSW) huA rfl hzA⟩) hOn ?_
  try simp only [Act.put, List.setIfInBounds_toArray, List.set_cons_zero, List.set_cons_succ]
  refine wpAnyH_take (i := 5) (v := ?_) (by simp only [List.getElem?_toArray, List.getElem?_cons_succ, List.getElem?_cons_zero]; rfl) (by kernel_rfl) (by kernel_rfl) (by kernel_rfl) (by exact fun _ _ _ h => h) (Or.inl ⟨by rfl, ?_⟩) hOn ?_
  rotate_left
  focus (intro W hSW; go_simp; try with_reducible rfl)
  try simp only [Act.put, List.setIfInBounds_toArray, List.set_cons_zero, List.set_cons_succ]
  refine wpAnyH_ready (rs := [2, 6]) (by kernel_rfl) (by simp) ?_
  refine AllReadyH.cons (by simp only [List.getElem?_toArray, List.getElem?_cons_succ, List.getElem?_cons_zero]; rfl) (fun Kz hKz => ?_) ?_
  go_simp
  focus (try go_wp2_with fail)
  refine hKz.out _ _ (by first | exact hOn | exact Grown.alloc hOn _ | exact Below.alloc hOn (Below.size hOn) _ | exact Grown.alloc (Grown.refl _) _) (fun hNext => ?_)
  clear hKz Kz hOn
  have hOn := hNext
  clear hNext
  try simp only [Act.put, List.setIfInBounds_toArray, List.set_cons_zero, List.set_cons_succ]
  refine wpAnyH_ready (rs := [3, 6]) (by kernel_rfl) (by simp) ?_
  refine AllReadyH.cons (by simp only [List.getElem?_toArray, List.getElem?_cons_succ, List.getElem?_cons_zero]; rfl) (fun Kz hKz => ?_) ?_
  rw [if_pos (by rfl)]
  (with_reducible refine wp_load_mid 32 (.tmp 36) rfl b (o + 2) rfl (cB S) _ (haS.out _ hOn.1) huA rfl hiS ?_)
  have hS := hOn
  refine hKz.out _ _ (by first | exact hS | exact Below.trans hOn (Below.mono hnew (Below.size hOn))) (fun hNext => ?_)
  clear hKz Kz hOn
  have hOn := hNext
  clear hNext
  try clear hnew
  try clear hS
  try simp only [Act.put]
  refine wpAnyH_ready (rs := [6]) (by kernel_rfl) (by simp) ?_
  refine AllReadyH.cons (by simp only [List.getElem?_toArray, List.getElem?_cons_succ, List.getElem?_cons_zero]; rfl) (fun Kz hKz => ?_) AllReadyH.nil
  go_simp
  (with_reducible refine (hnx.out _ hOn.1).mono ?_)
  rintro e w8 ⟨rfl, hnew⟩
  have hS := And.intro (hOn.1.trans (hnew.mono hOn.1.size)) ((hnew.block _ (block_lt hOn.2)).trans hOn.2)
  focus (go_wp2_with fail)
  refine hKz.out _ _ (by first | exact hS | exact Below.trans hOn (Below.mono hnew (Below.size hOn))) (fun hNext => ?_)
  clear hKz Kz hOn
  have hOn := hNext
  clear hNext
  try clear hnew
  try clear hS
  try simp only [Act.put, List.setIfInBounds_toArray, List.set_cons_zero, List.set_cons_succ]
  refine wpAnyH_take (i := 7) (v := ?_) (by simp only [List.getElem?_toArray, List.getElem?_cons_succ, List.getElem?_cons_zero]; rfl) (by kernel_rfl) (by kernel_rfl) (by kernel_rfl) (by exact fun _ _ _ h => h) (Or.inl ⟨by rfl, ?_⟩) hOn ?_
  rotate_left
  focus (intro W hSW; go_simp; try with_reducible rfl)
  try simp only [Act.put, List.setIfInBounds_toArray, List.set_cons_zero, List.set_cons_succ]
  refine wpAnyH_done (by kernel_rfl) ?_ _
  rotate_left
  refine AllReadyH.cons (by simp only [List.getElem?_toArray, List.getElem?_cons_succ, List.getElem?_cons_zero]; rfl) (fun Kz hKz => ?_) AllReadyH.nil
  go_simp
  (with_reducible refine (hnx.out _ hOn.1).mono ?_)
  rintro e w8 ⟨rfl, hnew⟩
  have hS := And.intro (hOn.1.trans (hnew.mono hOn.1.size)) ((hnew.block _ (block_lt hOn.2)).trans hOn.2)
  focus (go_wp2_with fail)
  refine hKz.out _ _ (by first | exact hS | exact Below.trans hOn (Below.mono hnew (Below.size hOn))) (fun hNext => ?_)
  clear hKz Kz hOn
  have hOn := hNext
  clear hNext
  try clear hnew
  try clear hS
  try simp only [Act.put, List.setIfInBounds_toArray, List.set_cons_zero, List.set_cons_succ]
  refine wpAnyH_ready (rs := [3]) (by kernel_rfl) (by simp) ?_
  refine AllReadyH.cons (by simp only [List.getElem?_toArray, List.getElem?_cons_succ, List.getElem?_cons_zero]; rfl) (fun Kz hKz => ?_) AllReadyH.nil
  rw [if_pos (by rfl)]
  (with_reducible refine wp_load_mid 32 (.tmp 36) rfl b (o + 2) rfl (cB S) _ (haS.out _ hOn.1) huA rfl hiS ?_)
  have hS := hOn
  refine hKz.out _ _ (by first | exact hS | exact Below.trans hOn (Below.mono hnew (Below.size hOn))) (fun hNext => ?_)
  clear hKz Kz hOn
  have hOn := hNext
  clear hNext
  try clear hnew
  try clear hS
  try simp only [Act.put]
  refine wpAnyH_take (i := 7) (v := ?_) (by simp only [List.getElem?_toArray, List.getElem?_cons_succ, List.getElem?_cons_zero]; rfl) (by kernel_rfl) (by kernel_rfl) (by kernel_rfl) (by exact fun _ _ _ h => h) (Or.inl ⟨by rfl, ?_⟩) hOn ?_
  rotate_left
  focus (intro W hSW; go_simp; try with_reducible rfl)
  try simp only [Act.put, List.setIfInBounds_toArray, List.set_cons_zero, List.set_cons_succ]
  refine wpAnyH_done (by kernel_rfl) ?_ _
  rotate_left
  refine AllReadyH.cons (by simp only [List.getElem?_toArray, List.getElem?_cons_succ, List.getElem?_cons_zero]; rfl) (fun Kz hKz => ?_) AllReadyH.nil
  go_simp
  (with_reducible refine (hnx.out _ hOn.1).mono ?_)
  rintro e w8 ⟨rfl, hnew⟩
  have hS := And.intro (hOn.1.trans (hnew.mono hOn.1.size)) ((hnew.block _ (block_lt hOn.2)).trans hOn.2)
  focus (go_wp2_with fail)
  refine hKz.out _ _ (by first | exact hS | exact Below.trans hOn (Below.mono hnew (Below.size hOn))) (fun hNext => ?_)
  clear hKz Kz hOn
  have hOn := hNext
  clear hNext
  try clear hnew
  try clear hS
  try simp only [Act.put, List.setIfInBounds_toArray, List.set_cons_zero, List.set_cons_succ]
  refine wpAnyH_ready (rs := [2]) (by kernel_rfl) (by simp) ?_
  refine AllReadyH.cons (by simp only [List.getElem?_toArray, List.getElem?_cons_succ, List.getElem?_cons_zero]; rfl) (fun Kz hKz => ?_) AllReadyH.nil
  go_simp
  focus (try go_wp2_with fail)
  refine hKz.out _ _ (by first | exact hOn | exact Grown.alloc hOn _ | exact Below.alloc hOn (Below.size hOn) _ | exact Grown.alloc (Grown.refl _) _) (fun hNext => ?_)
  clear hKz Kz hOn
  have hOn := hNext
  clear hNext
  try simp only [Act.put, List.setIfInBounds_toArray, List.set_cons_zero, List.set_cons_succ]
  refine wpAnyH_ready (rs := [3]) (by kernel_rfl) (by simp) ?_
  refine AllReadyH.cons (by simp only [List.getElem?_toArray, List.getElem?_cons_succ, List.getElem?_cons_zero]; rfl) (fun Kz hKz => ?_) AllReadyH.nil
  rw [if_pos (by rfl)]
  (with_reducible refine wp_load_mid 32 (.tmp 36) rfl b (o + 2) rfl (cB S) _ (haS.out _ hOn.1) huA rfl hiS ?_)
  have hS := hOn
  refine hKz.out _ _ (by first | exact hS | exact Below.trans hOn (Below.mono hnew (Below.size hOn))) (fun hNext => ?_)
  clear hKz Kz hOn
  have hOn := hNext
  clear hNext
  try clear hnew
  try clear hS
  try simp only [Act.put]
  refine wpAnyH_take (i := 7) (v := ?_) (by simp only [List.getElem?_toArray, List.getElem?_cons_succ, List.getElem?_cons_zero]; rfl) (by kernel_rfl) (by kernel_rfl) (by kernel_rfl) (by exact fun _ _ _ h => h) (Or.inl ⟨by rfl, ?_⟩) hOn ?_
  rotate_left
  focus (intro W hSW; go_simp; try with_reducible rfl)
  try simp only [Act.put, List.setIfInBounds_toArray, List.set_cons_zero, List.set_cons_succ]
  refine wpAnyH_done (by kernel_rfl) ?_ _
  all_goals
    have hOb := Lib.hid hOn.1
    clear hOn hSS
    cases q
    · go_wp2_with fail
      go_ret
      exact ⟨_, rfl, by rw [firstIf_no hqd.out]; rfl, hOb.out⟩
    · have hcc := Lib.hid (hcl.out _ hOb.out)
      go_wp2_with fail
      with_reducible refine hcc.out.mono ?_
      rintro e w9 ⟨v9, rfl, ho9, hb9⟩
      have hsz9 := hOb.out.size
      replace ho9 := Lib.hid (ho9.mono hsz9)
      replace hb9 := Lib.hid (hOb.out.trans (hb9.mono hsz9))
      go_wp2_with fail
      go_ret
      exact ⟨_, rfl, by rw [firstIf_yes hqd.out]; exact ho9.out, hb9.out⟩

theorem first_any (h bs : List UInt8) (hh : h.length = 32) (hmax : bs.length ≤ 100000) (a : Option Addr) (c : Nat) (w : World) (ha : ArgB w a c bs) (hK : ShaK w) (hF : ShaF w) :
    Calls Tryd.prog 31 #[.slice a bs.length c, .agg (cB h).toArray] w fun x w' => ∃ v, x = .returned v ∧ FirstRes w.heap.size w' v (firstB bs h) ∧ Below w.heap.size w w' := by
  by_cases h34 : bs.length < 34
  · have hf : firstB bs h = none := by unfold firstB; rw [if_pos h34]
    rw [hf]
    refine (first_short _ bs h34 a c w).mono ?_
    rintro e w' ⟨rfl, hb⟩
    exact ⟨_, rfl, rfl, hb⟩
  · by_cases hn : numB bs < 1 ∨ 400 < numB bs ∨ bs.length < 34 + numB bs
    · have hf : firstB bs h = none := by unfold firstB; rw [if_neg h34, if_pos hn]
      rw [hf]
      refine (first_bad _ bs (by omega) hn hmax a c w ha).mono ?_
      rintro e w' ⟨rfl, hb⟩
      exact ⟨_, rfl, rfl, hb⟩
    · exact first_good h bs hh (by omega) (by omega) (by omega) hmax a c w ha hK hF
end Go.Proofs.YtgkddegaiaeckaaDoor
/- The walk over journal.Scan. -/
namespace Go.Proofs.YtgkddegaiaeckaaDoor
open Go.RowKit

theorem FirstRes.mono {n m : Nat} {w : World} {v : Value} {o : Option (List UInt8)} (h : FirstRes n w v o) (hm : m ≤ n) : FirstRes m w v o := by
  cases o with
  | none => exact h
  | some r => exact OwnB.mono (show OwnB _ _ _ _ from h) hm
/-- Nought as a head. -/
def z32 : List UInt8 := tab 32 fun _ => 0
theorem z32_len : z32.length = 32 := tab_length _ _
theorem zero32_z : zero32 = (cB z32).toArray := zero32_eq
theorem infoRow24 : (Tryd.prog.info? 22).map (fun i => (i.zero.map (·.cells.size), i.size, i.bytes)) = some (some 1, 1, 24) := by kernel_rfl
/-- Ahead of a round: the records so far, and what was found behind them. -/
structure ScanSt (base : Nat) (w0 wr : World) (hb : Nat) (bs : List UInt8) (dn : List (List UInt8)) (vo vr : Value) : Prop where
  rows : ∃ F, RowsOf RB 22 1 base wr F vo dn ∧ (∀ k, F k → k ≠ hb) ∧ (∀ k, vr.ownBlock = some k → ¬ F k) ∧ (∀ k, F k → base ≤ k)
  own : ∀ k, vo.ownBlock = some k → k ≠ hb
  head : wr.heap[hb]? = some (.cells (cB (headB z32 dn)).toArray 32 (0, 0))
  found : FirstRes base wr vr (firstB (bs.drop (endB dn)) (headB z32 dn))
  apart : ∀ k, vr.ownBlock = some k → vo.ownBlock ≠ some k ∧ k ≠ hb
  bel : Below base w0 wr
  rest : dn ++ scanB (bs.drop (endB dn)) (headB z32 dn) = scanB bs z32
  le : endB dn ≤ bs.length
theorem ScanSt.found_some {base : Nat} {w0 wr : World} {hb : Nat} {bs : List UInt8} {dn : List (List UInt8)} {vo vr : Value} {r : List UInt8} (h : ScanSt base w0 wr hb bs dn vo vr) (e : firstB (bs.drop (endB dn)) (headB z32 dn) = some r) : OwnB base wr vr r ∧ dn ++ (r :: scanB (bs.drop (endB (dn ++ [r]))) (headB z32 (dn ++ [r]))) = scanB bs z32 ∧ endB (dn ++ [r]) ≤ bs.length ∧ 1 ≤ r.length ∧ r.length ≤ 400 := by
  have hf := firstB_some e
  rw [List.length_drop] at hf
  have h1 := h.found
  rw [e] at h1
  have h2 := h.rest
  rw [scanB_some e, List.drop_drop] at h2
  have hle := h.le
  exact ⟨h1, by rw [endB_snoc, headB_snoc]; exact h2, by rw [endB_snoc]; omega, hf.1, hf.2.1⟩

/-- What Scan leaves: the records of the bytes, in new memory. -/
def ScanPost (w : World) (bs : List UInt8) (x : Ending) (w' : World) : Prop := ∃ v F, x = .returned (.tuple #[v, .int .i64 (endB (scanB bs z32) : Nat)]) ∧ RowsOf RB 22 1 w.heap.size w' F v (scanB bs z32) ∧ (∀ k, F k → w.heap.size ≤ k) ∧ Below w.heap.size w w'
set_option maxRecDepth 100000 in
set_option maxHeartbeats 4000000 in
theorem scan_any (bs : List UInt8) (hmax : bs.length ≤ 100000) (a : Option Addr) (c : Nat) (w : World) (ha : ArgB w a c bs) (hK : ShaK w) (hF : ShaF w) :
    Calls Tryd.prog 7 #[.slice a bs.length c] w (ScanPost w bs) := by
  have zr := zero32_run
  have zn := zero32_ne
  have hus := Tryd.underlying22
  have huA : Tryd.prog.underlying 32 = some (.array 32 5) := Tryd.underlying32
  have hb0 : Below w.heap.size w (w.alloc (.cells zero32 32)) := (Below.refl _ _).alloc (Nat.le_refl _) _
  have hz0 := heap_alloc_new w (.cells zero32 32 (0, 0))
  obtain ⟨w1, hw1⟩ : ∃ w1, w1 = w.alloc (.cells zero32 32) := ⟨_, rfl⟩
  rw [← hw1] at hb0 hz0
  have hs1 : w1.heap.size = w.heap.size + 1 := by rw [hw1]; exact World.size_alloc ..
  have hfi := Lib.hid (first_any z32 bs z32_len hmax a c w1 (ha.below hb0) (hK.below hb0) (hF.below hb0))
  rw [← zero32_z] at hfi
  rw [zero32_z] at hz0
  have hzA : (Tryd.prog.info? 32).map (·.size) = some zero32.size := by rw [zero32_z]; exact infoDigest z32_len
  replace hw1 := Lib.hid hw1
  replace hz0 := Lib.hid hz0
  replace ha := Lib.hid ha
  replace hK := Lib.hid hK
  replace hF := Lib.hid hF
  replace hb0 := Lib.hid hb0
  replace hs1 := Lib.hid hs1
  go_enter Tryd.func7, Tryd.ntmps7
  go_wp2_with (refine wpList_load_row rfl 32 (.tmp 5) rfl w.heap.size zero32 _ rfl (Lib.hid (heap_alloc_new _ _)) huA rfl hzA ?_)
  rw [← hw1.out]
  with_reducible refine hfi.out.mono ?_
  rintro e w2 ⟨vr, rfl, hfr, hb2⟩
  have hst0 : Hid (ScanSt w.heap.size w w2 w.heap.size bs [] (.slice none 0 0) vr) := Lib.hid (by
    have hsz := hs1.out
    refine ⟨⟨fun _ => False, RowsOf.nil _ _, fun _ h => False.elim h, fun _ _ h => h, fun _ h => False.elim h⟩, fun k hk => (by cases hk), (hb2.block _ (by omega)).trans hz0.out, ?_, fun k hk => ?_, hb0.out.trans (hb2.mono (by omega)), rfl, Nat.zero_le _⟩
    · show FirstRes w.heap.size w2 vr (firstB bs z32)
      cases hq : firstB bs z32 with
      | none => rw [hq] at hfr; exact hfr
      | some r => rw [hq] at hfr; exact OwnB.mono hfr (by omega)
    · refine ⟨(by intro h; cases h), ?_⟩
      cases hq : firstB bs z32 with
      | none => rw [hq] at hfr; cases (show vr = _ from hfr); cases hk
      | some r =>
        rw [hq] at hfr
        have := (World.ownsRow.lt (show OwnB _ _ _ _ from hfr) k hk).1
        omega)
  have hs2 : w.heap.size ≤ w2.heap.size := by have := hb2.size; have := hs1.out; omega
  clear hfi hfr hb2 hb0 hz0 hw1 hs1
  go_wp2_with fail
  refine wp_loopF [(false, 4), (true, 1), (false, 1), (true, 2), (false, 3), (true, 19)] _ [] (fun U wr => ∃ dn : List (List UInt8), U 6 = .int .i64 (endB dn : Nat) ∧ ScanSt w.heap.size w wr w.heap.size bs dn (U 4) (U 7) ∧ w.heap.size ≤ wr.heap.size)
    (fun U _ => bs.length - (intOf (U 6)).toNat) ?_ ?_
  · simp only [List.getD_cons_zero, List.getD_cons_succ]
    exact ⟨[], rfl, hst0.out, hs2⟩
  · clear hst0 hs2
    intro U wr hrel KK hback l' hl'
    obtain ⟨dn, h6, hst, hsz⟩ := hrel
    simp only [fillS, popSeg, cond_true, cond_false, Nat.reduceAdd, h6] at hl'
    generalize hv4 : U 4 = vo at *
    generalize hv7 : U 7 = vr at *
    subst hl'
    replace h6 := Lib.hid h6
    replace hv4 := Lib.hid hv4
    replace hv7 := Lib.hid hv7
    cases hfq : firstB (bs.drop (endB dn)) (headB z32 dn) with
    | none =>
      have hvr := hst.found
      rw [hfq] at hvr
      obtain rfl : vr = .slice none 0 0 := hvr
      have hre := hst.rest
      rw [scanB_none hfq, List.append_nil] at hre
      replace hst := Lib.hid hst
      replace hre := Lib.hid hre
      clear hfq
      go_wp2_with fail
      go_ret2
      obtain ⟨F, k1, k2, k3, k4⟩ := hst.out.rows
      exact ⟨vo, F, by rw [← hre.out]; rfl, by rw [← hre.out]; exact k1, k4, hst.out.bel⟩
    | some r =>
      obtain ⟨hown, hrest, hle2, hr1, hr4⟩ := hst.found_some hfq
      obtain ⟨g, cr, rfl, hgb⟩ := hown.form hr1
      obtain ⟨F, kr, kF, kv, kFb⟩ := hst.rows
      have hap := hst.apart g rfl
      have hglt := (World.ownsRow.lt hown g rfl).2
      have hrb : RB wr (fun k => F k ∨ k = g) r [.slice (some ⟨g, 0, none⟩) r.length cr] := liesRB.more (rb_own hown) (fun k h => by cases h; exact .inr rfl)
      have hyB : Hid (RB wr (fun k => F k ∨ k = g) r (#[Value.slice (some ⟨g, 0, none⟩) r.length cr] : Array Value).toList) := Lib.hid hrb
      have hFB : Hid (∀ k, F k → F k ∨ k = g) := Lib.hid fun k h => .inl h
      have haB : Hid (∀ k, vo.ownBlock = some k → ¬ (F k ∨ k = g)) := Lib.hid fun k hk h => by
        rcases h with h | h
        · exact kr.apart k hk h
        · subst h; exact hap.1 hk
      have hlB : Hid (∀ k, F k ∨ k = g → k < wr.heap.size) := Lib.hid fun k h => by
        rcases h with h | h
        · exact kr.lt k h
        · omega
      have hdl : dn.length ≤ 1000000 := by
        have h1 : dn.length ≤ endB dn := by
          unfold endB
          have : ∀ l : List (List UInt8), l.length ≤ (l.map fun r => 34 + r.length).sum := by
            intro l
            induction l with
            | nil => exact Nat.le_refl _
            | cons q l ih => simp only [List.length_cons, List.map_cons, List.sum_cons]; omega
          exact this dn
        have := hst.le
        omega
      have hinfo := Lib.hid infoRow24
      have hown2 := Lib.hid hown
      have hhl : (headB z32 dn).length = 32 := headB_len z32_len dn
      have hhr : (headB z32 (dn ++ [r])).length = 32 := headB_len z32_len _
      have hnl := headB_snoc z32 dn r
      obtain ⟨H, hH⟩ : ∃ H, H = (cB (headB z32 dn)).toArray := ⟨_, rfl⟩
      obtain ⟨N, hN⟩ : ∃ N, N = (cB (headB z32 (dn ++ [r]))).toArray := ⟨_, rfl⟩
      have hzH : (Tryd.prog.info? 32).map (·.size) = some H.size := by rw [hH]; exact infoDigest hhl
      have hzN : (Tryd.prog.info? 32).map (·.size) = some N.size := by rw [hN]; exact infoDigest hhr
      have hHN : H.size = N.size := by rw [hH, hN]; simp [cB_length, hhl, hhr]
      have hN1 : N.all (·.oneCell') = true := by rw [hN]; exact cB_all _
      have hhead := hst.head
      rw [← hH] at hhead
      have hbel := hst.bel
      have hblt := block_lt hhead
      have hnx := fun W (hW : ArgB W (some ⟨g, 0, none⟩) cr r) (hB : Below w.heap.size w W) => next_any (headB z32 dn) r hhl (some ⟨g, 0, none⟩) cr W hW (by omega) (hK.out.below hB) (hF.out.below hB)
      rw [← hH, ← hnl, ← hN] at hnx
      have hgr := fun W (hO : Only (fun k => vo.ownBlock = some k) wr W) => hO.owns hown (fun k hk e => by cases hk; exact hap.1 e)
      have hE0 : (endB (dn ++ [r]) : Int) = (endB dn : Int) + (34 + (r.length : Int)) := by rw [endB_snoc]; omega
      obtain ⟨E, hE⟩ : ∃ E, E = endB (dn ++ [r]) := ⟨_, rfl⟩
      obtain ⟨D, hD⟩ : ∃ D, D = endB dn := ⟨_, rfl⟩
      rw [← hE] at hle2 hE0
      rw [← hD] at hE0
      have hDl : D ≤ bs.length := by rw [hD]; exact hst.le
      rw [← hD]
      replace hst := Lib.hid hst
      replace hrest := Lib.hid hrest
      replace hH := Lib.hid hH
      replace hN := Lib.hid hN
      replace hnl := Lib.hid hnl
      replace hhead := Lib.hid hhead
      replace hnx := Lib.hid hnx
      replace hgr := Lib.hid hgr
      replace kr := Lib.hid kr
      replace kF := Lib.hid kF
      replace kv := Lib.hid kv
      replace kFb := Lib.hid kFb
      replace hE := Lib.hid hE
      replace hD := Lib.hid hD
      replace hE0 := Lib.hid hE0
      replace hbel := Lib.hid hbel
      replace hap := Lib.hid hap
      replace hHN := Lib.hid hHN
      clear hfq hown hrb
      go_wp2_with (first
        | (at_builtin; refine wpList_appRows (P := Tryd.prog) (R := RB) (e := 22) (size := 1) (base := w.heap.size) (F := F) (F' := fun k => F k ∨ k = g) rfl liesRB (.tmp 18) (.tmp 20) 23 rfl Tryd.underlying23 24 hinfo.out (by decide) rfl kr r #[.slice (some ⟨g, 0, none⟩) r.length cr] hyB hFB haB hlB rfl hdl (by decide) hsz ?_; intro v3 w3 hr3 ho3 hm3; have hz3 := Lib.hid ((Only.heap ho3.out hhead.out (fun e => hst.out.own _ e rfl))))
        | (refine wpList_load_row rfl 32 (.tmp 5) rfl w.heap.size H _ rfl hz3 huA rfl hzH ?_))
      have hb3 : Below w.heap.size w w3 := hbel.out.trans (ho3.out.below hsz (fun k hk => (kr.out.ownLt k hk).1))
      have hn3 := Lib.hid (hnx.out w3 (by
        obtain ⟨a', c', e1, h1, _⟩ := (OwnB.arg (hgr.out w3 ho3.out))
        cases e1
        exact h1) hb3)
      have hz3s := hb3.size
      replace hb3 := Lib.hid hb3
      with_reducible refine hn3.out.mono ?_
      rintro e w4 ⟨rfl, hb4⟩
      clear hn3
      have hz4 := Lib.hid ((hb4.block _ (block_lt hz3.out)).trans hz3.out)
      have hs4 := hb4.size
      replace hb4 := Lib.hid hb4
      go_wp2_with (refine wpList_store_row rfl 32 (.tmp 5) (.tmp 24) rfl w.heap.size H N rfl rfl hz4 hzN hHN.out hN1 ?_; intro w5 hU5)
      rw [← hE0.out]
      obtain ⟨b, o, hab, _⟩ := ha.out.row 0 (by have := hE0.out; omega)
      have hb5 : Below w.heap.size w w5 := (hb3.out.trans (hb4.out.mono hz3s)).trans (hU5.out.below (Nat.le_refl _))
      have hg4 : Below w3.heap.size w3 w4 := hb4.out
      have hO5 : Only (fun k => k = w.heap.size) w4 w5 := Only.ofUpd hU5.out rfl
      have hr5 : RowsOf RB 22 1 w.heap.size w5 (fun k => F k ∨ k = g) v3 (dn ++ [r]) := (hr3.out.below liesRB hg4).only liesRB hO5 (fun k hk e => by
        rcases hk with hk | hk
        · exact kF.out k hk e
        · subst hk; exact hap.out.2 e) (fun k hk e => by
        have e2 : k = w.heap.size := e
        rcases hm3.out k hk with h | h
        · exact hst.out.own k h e
        · omega)
      have hs5 := hO5.size
      have hs3 := ho3.out.size
      have hm5 : ∀ k, v3.ownBlock = some k → k < w5.heap.size ∧ k ≠ w.heap.size := fun k hk => ⟨(hr5.ownLt k hk).2, fun e => by
        rcases hm3.out k hk with h | h
        · exact hst.out.own k h e
        · omega⟩
      have hrow5 : w5.drew.heap[w.heap.size]? = some (.cells N 32 (0, 0)) := hU5.out.here
      have rlB : ∀ W, Grown w5.drew W → W.heap[w.heap.size]? = some (.cells N 32 (0, 0)) := fun W hW => (hW.block _ (block_lt hrow5)).trans hrow5
      have hbW : ∀ W, Grown w5.drew W → Below w.heap.size w W := fun W hW => (hb5.drew).trans (hW.mono (show w.heap.size ≤ w5.heap.size by omega))
      have hfs : ∀ A' C W, Grown w5.drew W → ArgB W A' C (bs.drop E) → _ := fun A' C W hW hA => first_any (headB z32 (dn ++ [r])) (bs.drop E) hhr (by rw [List.length_drop]; omega) A' C W hA (hK.out.below (hbW W hW)) (hF.out.below (hbW W hW))
      rw [← hN.out, List.length_drop] at hfs
      have huB := huA
      have hzB := hzN
      have hd5 : Hid (Grown w5.drew w5.drew) := Lib.hid (Grown.refl _)
      have hE1 : (0 : Int) ≤ (E : Int) := by omega
      have hE2 : (E : Int) ≤ (bs.length : Int) := by omega
      have hlc := ha.out.len
      have hfin : ∀ (w8 : World) (v8 : Value), Grown w5.drew w8 → FirstRes w5.heap.size w8 v8 (firstB (bs.drop E) (headB z32 (dn ++ [r]))) → ScanSt w.heap.size w w8 w.heap.size bs (dn ++ [r]) v3 v8 := fun w8 v8 hG8 hf8 => by
        have hG : Below w5.heap.size w5 w8 := (Below.drew (Below.refl _ w5)).trans hG8
        have hv8 : ∀ k, v8.ownBlock = some k → w5.heap.size ≤ k := fun k hk => by
          cases hq : firstB (bs.drop E) (headB z32 (dn ++ [r])) with
          | none => rw [hq] at hf8; cases (show v8 = _ from hf8); cases hk
          | some q => rw [hq] at hf8; exact (World.ownsRow.lt (show OwnB _ _ _ _ from hf8) k hk).1
        refine ⟨⟨_, hr5.below liesRB hG, fun k hk => ?_, fun k hk h => ?_, fun k hk => ?_⟩, fun k hk => (hm5 k hk).2, ?_, ?_, fun k hk => ⟨fun e => ?_, ?_⟩, hbW w8 hG8, ?_, ?_⟩
        · rcases hk with hk | hk
          · exact kF.out k hk
          · subst hk; exact hap.out.2
        · have h1 := hr5.lt k h
          have h2 := hv8 k hk
          omega
        · rcases hk with hk | hk
          · exact kFb.out k hk
          · subst hk; exact hgb
        · rw [← hN.out]; exact rlB w8 hG8
        · rw [← hE.out]
          cases hq : firstB (bs.drop E) (headB z32 (dn ++ [r])) with
          | none => rw [hq] at hf8; exact hf8
          | some q => rw [hq] at hf8; exact OwnB.mono (show OwnB _ _ _ _ from hf8) (by omega)
        · have h1 := hv8 k hk
          have h2 := (hm5 k e).1
          omega
        · have h1 := hv8 k hk
          omega
        · have := hrest.out
          rw [← hE.out] at this ⊢
          rw [List.append_assoc]; exact this
        · rw [← hE.out]; exact hle2
      have hEd : bs.length - E < bs.length - D := by have := hE0.out; omega
      have hsz5 : w.heap.size ≤ w5.heap.size := by omega
      have hsd : w5.heap.size ≤ w5.drew.heap.size := Nat.le_refl _
      have hEn : E = endB (dn ++ [r]) := hE.out
      replace hfin := Lib.hid hfin
      replace hfs := Lib.hid hfs
      replace hEn := Lib.hid hEn
      replace hbW := Lib.hid hbW
      clear hb5 hg4 hO5 hr5 hm5 hrow5 hU5 hz3 hz4 hb3 hb4 hr3 ho3 hm3 hyB hFB haB hlB kr kF kv kFb hnx hgr hhead hst hrest hap
      subst hab
      by_cases hcE : c = E
      · have hA8 : ∀ W : World, ArgB W (some ⟨b, o, none⟩) 0 (bs.drop E) := fun W => by
          rw [List.drop_eq_nil_of_le (by omega)]
          exact ⟨Nat.zero_le _, Nat.zero_le _, (fun e => by cases e), fun i hi => absurd hi (Nat.not_lt_zero i)⟩
        have hf0 := fun W hW => hfs.out (some ⟨b, o, none⟩) 0 W hW (hA8 W)
        rw [show bs.length - E = 0 by omega] at hf0
        replace hf0 := Lib.hid hf0
        subst hcE
        clear hA8
        refine wp_region_held_drew (S := (Grown w5.drew)) (by kernel_rfl) hd5.out (fun hOn => ?_)
        generalize World.drew w5 = wd at *
        refine wpAnyH_take (i := 0) (v := ?_) (by simp only [List.getElem?_toArray, List.getElem?_cons_zero]; rfl) (by kernel_rfl) (by kernel_rfl) (by kernel_rfl) (by exact fun _ _ _ h => h) (Or.inl ⟨by rfl, ?_⟩) hOn ?_
        rotate_left
        focus (intro W hSW; go_simp; try with_reducible rfl)
        try simp only [Act.put, List.setIfInBounds_toArray, List.set_cons_zero, List.set_cons_succ]
        refine wpAnyH_take (i := 1) (v := ?_) (by simp only [List.getElem?_toArray, List.getElem?_cons_succ, List.getElem?_cons_zero]; rfl) (by kernel_rfl) (by kernel_rfl) (by kernel_rfl) (by exact fun _ _ _ h => h) (Or.inl ⟨by rfl, ?_⟩) hOn ?_
        rotate_left
        focus (intro W hSW; go_simp; try with_reducible rfl)
        try simp only [Act.put, List.setIfInBounds_toArray, List.set_cons_zero, List.set_cons_succ]
        refine wpAnyH_take (i := 2) (v := ?_) (by simp only [List.getElem?_toArray, List.getElem?_cons_succ, List.getElem?_cons_zero]; rfl) (by kernel_rfl) (by kernel_rfl) (by kernel_rfl) (by exact fun _ _ _ h => h) (Or.inl ⟨by rfl, ?_⟩) hOn ?_
        rotate_left
        focus (intro W hSW; go_simp; try with_reducible rfl)
        try simp only [Act.put, List.setIfInBounds_toArray, List.set_cons_zero, List.set_cons_succ]
        refine wpAnyH_take (i := 3) (v := Value.agg _) (by simp only [List.getElem?_toArray, List.getElem?_cons_succ, List.getElem?_cons_zero]; rfl) (by kernel_rfl) (by kernel_rfl) (by kernel_rfl) (by exact fun _ _ _ h => h) (Or.inl ⟨by rfl, fun W hSW => yields_load_row _ _ rfl _ _ _ rfl (rlB W hSW) huB rfl hzB⟩) hOn ?_
        try simp only [Act.put, List.setIfInBounds_toArray, List.set_cons_zero, List.set_cons_succ]
        refine wpAnyH_ready (rs := [4]) (by kernel_rfl) (by simp) ?_
        refine AllReadyH.cons (by simp only [List.getElem?_toArray, List.getElem?_cons_succ, List.getElem?_cons_zero]; rfl) (fun Kz hKz => ?_) AllReadyH.nil
        go_simp
        (with_reducible refine (hf0.out _ hOn).mono ?_)
        rintro e w8 ⟨v8, rfl, hf8, hnew⟩
        replace hf8 := Lib.hid (FirstRes.mono hf8 (Nat.le_trans hsd hOn.size))
        focus (go_wp2_with fail)
        refine hKz.out _ _ (by first | exact hS | exact Below.trans hOn (Below.mono hnew (Below.size hOn))) (fun hNext => ?_)
        clear hKz Kz hOn
        have hOn := hNext
        clear hNext
        try clear hnew
        try clear hS
        try simp only [Act.put, List.setIfInBounds_toArray, List.set_cons_zero, List.set_cons_succ]
        refine wpAnyH_take (i := 5) (v := ?_) (by simp only [List.getElem?_toArray, List.getElem?_cons_succ, List.getElem?_cons_zero]; rfl) (by kernel_rfl) (by kernel_rfl) (by kernel_rfl) (by exact fun _ _ _ h => h) (Or.inl ⟨by rfl, ?_⟩) hOn ?_
        rotate_left
        focus (intro W hSW; go_simp; try with_reducible rfl)
        try simp only [Act.put, List.setIfInBounds_toArray, List.set_cons_zero, List.set_cons_succ]
        refine wpAnyH_done (by kernel_rfl) ?_ _
        all_goals
          have hS8 := Lib.hid hOn
          go_wp2_with fail
          refine hback.out _ _ (by kernel_rfl) ?_ ?_
          · simp only [List.getD_cons_zero, List.getD_cons_succ]
            have h8 := hfin.out _ _ hS8.out hf8.out
            exact ⟨dn ++ [r], by rw [hEn.out], h8, by have := hS8.out.size; omega⟩
          · have h6 := h6.out
            have hDn := hD.out
            simp only [List.getD_cons_zero, List.getD_cons_succ, h6, intOf]
            omega
      · have hEc : (E : Int) < (c : Int) := by omega
        have hA8 : ∀ W : World, Grown w5.drew W → ArgB W (some ⟨b, o + E, none⟩) (c - E) (bs.drop E) := fun W hW => (ha.out.below (hbW.out W hW)).from E (by omega)
        replace hA8 := Lib.hid hA8
        refine wp_region_held_drew (S := (Grown w5.drew)) (by kernel_rfl) hd5.out (fun hOn => ?_)
        generalize World.drew w5 = wd at *
        refine wpAnyH_take (i := 0) (v := ?_) (by simp only [List.getElem?_toArray, List.getElem?_cons_zero]; rfl) (by kernel_rfl) (by kernel_rfl) (by kernel_rfl) (by exact fun _ _ _ h => h) (Or.inl ⟨by rfl, ?_⟩) hOn ?_
        rotate_left
        focus (intro W hSW; go_simp; try with_reducible rfl)
        try simp only [Act.put, List.setIfInBounds_toArray, List.set_cons_zero, List.set_cons_succ]
        refine wpAnyH_take (i := 1) (v := ?_) (by simp only [List.getElem?_toArray, List.getElem?_cons_succ, List.getElem?_cons_zero]; rfl) (by kernel_rfl) (by kernel_rfl) (by kernel_rfl) (by exact fun _ _ _ h => h) (Or.inl ⟨by rfl, ?_⟩) hOn ?_
        rotate_left
        focus (intro W hSW; go_simp; try with_reducible rfl)
        try simp only [Act.put, List.setIfInBounds_toArray, List.set_cons_zero, List.set_cons_succ]
        refine wpAnyH_take (i := 2) (v := ?_) (by simp only [List.getElem?_toArray, List.getElem?_cons_succ, List.getElem?_cons_zero]; rfl) (by kernel_rfl) (by kernel_rfl) (by kernel_rfl) (by exact fun _ _ _ h => h) (Or.inl ⟨by rfl, ?_⟩) hOn ?_
        rotate_left
        focus (intro W hSW; go_simp; try with_reducible rfl)
        try simp only [Act.put, List.setIfInBounds_toArray, List.set_cons_zero, List.set_cons_succ]
        refine wpAnyH_take (i := 3) (v := Value.agg _) (by simp only [List.getElem?_toArray, List.getElem?_cons_succ, List.getElem?_cons_zero]; rfl) (by kernel_rfl) (by kernel_rfl) (by kernel_rfl) (by exact fun _ _ _ h => h) (Or.inl ⟨by rfl, fun W hSW => yields_load_row _ _ rfl _ _ _ rfl (rlB W hSW) huB rfl hzB⟩) hOn ?_
        try simp only [Act.put, List.setIfInBounds_toArray, List.set_cons_zero, List.set_cons_succ]
        refine wpAnyH_ready (rs := [4]) (by kernel_rfl) (by simp) ?_
        refine AllReadyH.cons (by simp only [List.getElem?_toArray, List.getElem?_cons_succ, List.getElem?_cons_zero]; rfl) (fun Kz hKz => ?_) AllReadyH.nil
        go_simp
        (with_reducible refine (hfs.out _ _ _ hOn (hA8.out _ hOn)).mono ?_)
        rintro e w8 ⟨v8, rfl, hf8, hnew⟩
        replace hf8 := Lib.hid (FirstRes.mono hf8 (Nat.le_trans hsd hOn.size))
        focus (go_wp2_with fail)
        refine hKz.out _ _ (by first | exact hS | exact Below.trans hOn (Below.mono hnew (Below.size hOn))) (fun hNext => ?_)
        clear hKz Kz hOn
        have hOn := hNext
        clear hNext
        try clear hnew
        try clear hS
        try simp only [Act.put, List.setIfInBounds_toArray, List.set_cons_zero, List.set_cons_succ]
        refine wpAnyH_take (i := 5) (v := ?_) (by simp only [List.getElem?_toArray, List.getElem?_cons_succ, List.getElem?_cons_zero]; rfl) (by kernel_rfl) (by kernel_rfl) (by kernel_rfl) (by exact fun _ _ _ h => h) (Or.inl ⟨by rfl, ?_⟩) hOn ?_
        rotate_left
        focus (intro W hSW; go_simp; try with_reducible rfl)
        try simp only [Act.put, List.setIfInBounds_toArray, List.set_cons_zero, List.set_cons_succ]
        refine wpAnyH_done (by kernel_rfl) ?_ _
        all_goals
          have hS8 := Lib.hid hOn
          go_wp2_with fail
          refine hback.out _ _ (by kernel_rfl) ?_ ?_
          · simp only [List.getD_cons_zero, List.getD_cons_succ]
            have h8 := hfin.out _ _ hS8.out hf8.out
            exact ⟨dn ++ [r], by rw [hEn.out], h8, by have := hS8.out.size; omega⟩
          · have h6 := h6.out
            have hDn := hD.out
            simp only [List.getD_cons_zero, List.getD_cons_succ, h6, intOf]
            omega
end Go.Proofs.YtgkddegaiaeckaaDoor
/- The walk over journal.Heads. -/
namespace Go.Proofs.YtgkddegaiaeckaaDoor
open Go.RowKit

/-- Digests as elements. -/
def RD (_w : World) (_F : Nat → Prop) (d : List UInt8) (cs : List Value) : Prop := d.length = 32 ∧ cs = cB d
theorem liesRD : LiesOk RD 32 := by
  refine ⟨fun h _ _ => h, fun h _ => h, ?_⟩
  rintro w F x cs ⟨h1, rfl⟩
  exact ⟨by rw [cB_length]; exact h1, cB_one x⟩
theorem RowsOf.argBB {base : Nat} {w : World} {F : Nat → Prop} {v : Value} {ps : List (List UInt8)} (h : RowsOf RB 22 1 base w F v ps) : ∃ a c, v = .slice a ps.length c ∧ ArgBB w a c ps := by
  obtain ⟨a, c, rfl, h1, h2, h3, h4⟩ := h.form
  refine ⟨a, c, rfl, h2, h3, fun e => (h1 e).1, fun i hi => ?_⟩
  obtain ⟨g, c', cs, e1, hR, hrg⟩ := h.elem liesRB i ps[i] (List.getElem?_eq_getElem hi)
  cases e1
  obtain ⟨a', c'', rfl, harg, _⟩ := hR
  refine ⟨g, 0, rfl, a', c'', ?_, ?_⟩
  · have := hrg 0 _ rfl
    rw [Nat.mul_one, Nat.add_zero] at this
    rw [Nat.zero_add, this]
    simp [List.getD_eq_getElem?_getD, hi]
  · rw [show ps.getD i [] = ps[i] by simp [List.getD_eq_getElem?_getD, hi]]; exact harg
theorem slice_digest (R : Array Value) (hR : R.size = 32) (W : World) : (Instr.buildSlice 27 1 #[(0, .agg R)]).run Tryd.prog W = .ok (.slice (some ⟨W.heap.size, 0, none⟩) 1 1) (W.alloc (.cells R 32)) := by
  have hP : (Tryd.prog.info? 32).map (fun i => (i.zero.map (·.cells.size), i.size, i.bytes)) = some (some 32, 32, 32) := by kernel_rfl
  obtain ⟨ie, hie, h2⟩ := Option.map_eq_some_iff.1 hP
  simp only [Prod.mk.injEq] at h2
  obtain ⟨hz, hs, hb⟩ := h2
  obtain ⟨z, hz1, hz2⟩ := Option.map_eq_some_iff.1 hz
  refine run_buildSlice W _ _ 1 _ R ie z Tryd.underlying27 hie hz1 (by rw [hs]; decide) (by rw [hs]; decide) ?_
  have h := Go.Great.fill_whole (s := 32) (by decide) [.agg R] ((Array.range (1 * ie.size)).map (z.cells[· % z.cells.size]!)) (by simp [Value.cells, hR]) (by simp [hs])
  simpa [hs, Value.cells] using h
theorem infoDig : (Tryd.prog.info? 32).map (fun i => (i.zero.map (·.cells.size), i.size, i.bytes)) = some (some 32, 32, 32) := by kernel_rfl

/-- What Heads leaves. -/
def HeadsPost (w : World) (ps : List (List UInt8)) (x : Ending) (w' : World) : Prop := ∃ v, x = .returned v ∧ RowsOf RD 32 32 w.heap.size w' (fun _ => False) v (headsB z32 ps) ∧ Below w.heap.size w w'
set_option maxRecDepth 100000 in
set_option maxHeartbeats 4000000 in
theorem heads_any (ps : List (List UInt8)) (hn : ps.length ≤ 100000) (hl : ∀ r ∈ ps, r.length ≤ 1000) (a : Option Addr) (c : Nat) (w : World) (ha : ArgBB w a c ps) (hK : ShaK w) (hF : ShaF w) :
    Calls Tryd.prog 9 #[.slice a ps.length c] w (HeadsPost w ps) := by
  have zr := zero32_run
  have zn := zero32_ne
  have huA : Tryd.prog.underlying 32 = some (.array 32 5) := Tryd.underlying32
  have hz0 := heap_alloc_new w (.cells zero32 32 (0, 0))
  have hb0 : Below w.heap.size w (w.alloc (.cells zero32 32)) := (Below.refl _ _).alloc (Nat.le_refl _) _
  rw [zero32_z] at hz0
  have hs0 : w.heap.size ≤ (w.alloc (.cells zero32 32)).heap.size := hb0.size
  rw [show w.alloc (.cells zero32 32) = w.alloc (.cells (cB z32).toArray 32) by rw [zero32_z]] at hb0 hs0
  have hinv0 : ∃ v, v = Value.slice none 0 0 ∧ RowsOf RD 32 32 w.heap.size (w.alloc (.cells (cB z32).toArray 32)) (fun _ => False) v ([] : List (List UInt8)) := ⟨_, rfl, RowsOf.nil _ _⟩
  obtain ⟨v0, hv0, hr0⟩ := hinv0
  obtain ⟨L, hL⟩ : ∃ L, L = ps.length := ⟨_, rfl⟩
  rw [← hL]
  replace hL := Lib.hid hL
  replace hz0 := Lib.hid hz0
  replace hb0 := Lib.hid hb0
  replace hr0 := Lib.hid hr0
  replace hv0 := Lib.hid hv0
  replace ha := Lib.hid ha
  replace hK := Lib.hid hK
  replace hF := Lib.hid hF
  replace hl := Lib.hid hl
  have hinfo := Lib.hid infoDig
  go_enter Tryd.func9, Tryd.ntmps9
  go_wp2_with fail
  rw [show w.alloc (.cells zero32 32) = w.alloc (.cells (cB z32).toArray 32) by rw [zero32_z]]
  refine wp_loopF [(false, 3), (true, 1), (false, 2), (true, 1), (false, 2), (true, 12)] _ [] (fun U wr => ∃ k : Nat, k ≤ L ∧ U 9 = .int .i64 k ∧ RowsOf RD 32 32 w.heap.size wr (fun _ => False) (U 3) (headsB z32 (ps.take k)) ∧ (∀ j, (U 3).ownBlock = some j → j ≠ w.heap.size) ∧ wr.heap[w.heap.size]? = some (.cells (cB (headB z32 (ps.take k))).toArray 32 (0, 0)) ∧ Below w.heap.size w wr)
    (fun U _ => L - (intOf (U 9)).toNat) ?_ ?_
  · simp only [List.getD_cons_zero, List.getD_cons_succ]
    refine ⟨0, Nat.zero_le _, rfl, ?_, fun j hj => (by cases hj), hz0.out, hb0.out⟩
    rw [← hv0.out]; exact hr0.out
  · clear hz0 hb0 hr0 hv0 hs0
    intro U wr hrel KK hback l' hl'
    obtain ⟨k, hk, h9, hr, hvb, hhd, hbel⟩ := hrel
    simp only [fillS, popSeg, cond_true, cond_false, Nat.reduceAdd, h9] at hl'
    generalize hv3 : U 3 = vo at *
    subst hl'
    replace h9 := Lib.hid h9
    have hsz := hbel.size
    by_cases hlt : k < L
    · have hlt2 : (k : Int) < L := by omega
      have hkl : k < ps.length := by rw [← hL.out]; exact hlt
      have hab := ha.out.below hbel
      obtain ⟨b, o, rfl, ai, ci, hc, hai⟩ := hab.row k hkl
      have hgd : ps.getD k [] = ps[k] := by simp [List.getD_eq_getElem?_getD, hkl]
      rw [hgd] at hc hai
      have hr400 := hl.out ps[k] (List.getElem_mem hkl)
      have htk : ps.take (k + 1) = ps.take k ++ [ps[k]] := List.take_succ_eq_append_getElem hkl
      have hhl : (headB z32 (ps.take k)).length = 32 := headB_len z32_len _
      have hhr : (headB z32 (ps.take (k + 1))).length = 32 := headB_len z32_len _
      have hnl : headB z32 (ps.take (k + 1)) = nextB (headB z32 (ps.take k)) ps[k] := by rw [htk, headB_snoc]
      have hhs : headsB z32 (ps.take (k + 1)) = headsB z32 (ps.take k) ++ [headB z32 (ps.take (k + 1))] := by rw [hnl, htk, headsB_snoc]
      have hlen : (headsB z32 (ps.take k)).length ≤ 1000000 := by rw [headsB_length, List.length_take]; omega
      obtain ⟨H, hH⟩ : ∃ H, H = (cB (headB z32 (ps.take k))).toArray := ⟨_, rfl⟩
      obtain ⟨N, hN⟩ : ∃ N, N = (cB (headB z32 (ps.take (k + 1)))).toArray := ⟨_, rfl⟩
      have hzH : (Tryd.prog.info? 32).map (·.size) = some H.size := by rw [hH]; exact infoDigest hhl
      have hzN : (Tryd.prog.info? 32).map (·.size) = some N.size := by rw [hN]; exact infoDigest hhr
      have hHN : H.size = N.size := by rw [hH, hN]; simp [cB_length, hhl, hhr]
      have hN1 : N.all (·.oneCell') = true := by rw [hN]; exact cB_all _
      have hsl := slice_digest N (by rw [hN]; simp [cB_length, hhr])
      have hNL : N.toList = cB (headB z32 (ps.take (k + 1))) := by rw [hN]
      rw [← hH] at hhd
      have hnx := next_any (headB z32 (ps.take k)) ps[k] hhl ai ci wr hai hr400 (hK.out.below hbel) (hF.out.below hbel)
      rw [← hH, ← hnl, ← hN] at hnx
      generalize ps[k] = r at *
      replace hnx := Lib.hid hnx
      replace hhd := Lib.hid hhd
      replace hr := Lib.hid hr
      replace hbel := Lib.hid hbel
      replace hhs := Lib.hid hhs
      replace hnl := Lib.hid hnl
      replace htk := Lib.hid htk
      replace hH := Lib.hid hH
      replace hN := Lib.hid hN
      replace hHN := Lib.hid hHN
      replace hvb := Lib.hid hvb
      replace hNL := Lib.hid hNL
      clear hab hgd
      go_wp2_with (refine wpList_load_row rfl 32 (.tmp 4) rfl w.heap.size H _ rfl hhd huA rfl hzH ?_)
      with_reducible refine hnx.out.mono ?_
      rintro e w4 ⟨rfl, hb4⟩
      clear hnx
      have hs4 := hb4.size
      have hz4 := Lib.hid ((hb4.block _ (block_lt hhd.out)).trans hhd.out)
      have hlt4 := block_lt hhd.out
      have hr4 := Lib.hid (hr.out.below liesRD hb4)
      have hb44 := Lib.hid (hbel.out.trans (hb4.mono hsz))
      clear hb4
      have hRd : ∀ W, RD W (fun _ => False) (headB z32 (ps.take (k + 1))) N.toList := fun W => ⟨hhr, hNL.out⟩
      have hr5f : ∀ w5, Hid (Upd w.heap.size (.cells N 32 (0, 0)) w4 w5) → Hid (RowsOf RD 32 32 w.heap.size w5 (fun _ => False) vo (headsB z32 (ps.take k))) := fun w5 hU => Lib.hid (hr4.out.only liesRD (Only.ofUpd (D := fun j => j = w.heap.size) hU.out rfl) (fun _ h => False.elim h) (fun j hj e => hvb.out j hj e))
      have hs5f : ∀ w5, Hid (Upd w.heap.size (.cells N 32 (0, 0)) w4 w5) → w5.heap.size = w4.heap.size := fun w5 hU => hU.out.size
      replace hsl := Lib.hid hsl
      replace hRd := Lib.hid hRd
      replace hr5f := Lib.hid hr5f
      replace hs5f := Lib.hid hs5f
      have hno : Hid (∀ j : Nat, False → False) := Lib.hid (fun _ h => h)
      go_wp2_with (first
        | (refine wpList_store_row rfl 32 (.tmp 4) (.tmp 15) rfl w.heap.size H N rfl rfl hz4 hzN hHN.out hN1 ?_; intro w5 hU5; have hz5 : Hid (w5.heap[w.heap.size]? = some (.cells N 32 (0, 0))) := Lib.hid hU5.out.here; have hr5 := hr5f.out w5 hU5; have hq5 := Lib.hid (hs5f.out w5 hU5); have hry : Hid (RD w5 (fun _ => False) (headB z32 (ps.take (k + 1))) N.toList) := Lib.hid (hRd.out w5); have haf : Hid (∀ j, vo.ownBlock = some j → ¬ False) := Lib.hid (fun _ _ h => h); have hlf : Hid (∀ j : Nat, False → j < w5.heap.size) := Lib.hid (fun _ h => False.elim h); have hbs5 : w.heap.size ≤ w5.heap.size := by (rw [hq5.out]; omega))
        | (refine wpList_load_row rfl 32 (.tmp 4) rfl w.heap.size N _ rfl hz5 huA rfl hzN ?_)
        | (refine wpList_plain rfl (fun K hK => ?_); refine wpK_buildSlice 27 1 (.tmp 17) rfl _ rfl _ _ (hsl.out _) (hK _ _ ?_); clear hK K)
        | (at_builtin; refine wpList_appRows (P := Tryd.prog) (R := RD) (e := 32) (size := 32) (base := w.heap.size) (F := fun _ => False) (F' := fun _ => False) rfl liesRD (.tmp 16) (.tmp 18) 27 rfl Tryd.underlying27 32 hinfo.out (by decide) rfl hr5 (headB z32 (ps.take (k + 1))) N hry hno haf hlf rfl hlen (by decide) hbs5 ?_; intro v6 w6 hr6 ho6 hm6))
      refine hback.out _ _ (by kernel_rfl) ?_ ?_
      · simp only [List.getD_cons_zero, List.getD_cons_succ]
        have hq := hq5.out
        refine ⟨k + 1, by omega, by go_num, by rw [hhs.out]; exact hr6.out, fun j hj => ?_, ?_, (hb44.out.trans (hU5.out.below (Nat.le_refl _))).trans (ho6.out.below hbs5 (fun j hj => (hr5.out.ownLt j hj).1))⟩
        · rcases hm6.out j hj with h | h
          · exact hvb.out j h
          · omega
        · rw [← hN.out]
          exact ho6.out.heap hz5.out (fun e => hvb.out _ e rfl)
      · have h9 := h9.out
        simp only [List.getD_cons_zero, List.getD_cons_succ, h9, intOf]
        omega
    · obtain rfl : k = L := by omega
      have htl : ps.take k = ps := by rw [hL.out, List.take_length]
      rw [htl] at hr
      replace hr := Lib.hid hr
      replace hbel := Lib.hid hbel
      clear hhd
      go_wp2_with fail
      go_ret
      exact ⟨vo, rfl, hr.out, hbel.out⟩
end Go.Proofs.YtgkddegaiaeckaaDoor
