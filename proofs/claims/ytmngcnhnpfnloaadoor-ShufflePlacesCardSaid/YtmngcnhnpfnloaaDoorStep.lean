/- The walk over shuffle.Step. -/
import Derived.Test.YtmngcnhnpfnloaaDoorWalk
import Derived.Test.YtmngcnhnpfnloaaDoorOnL
namespace Go.Proofs.YtmngcnhnpfnloaaDoor
open Go.RowKit

set_option maxHeartbeats 1000000 in
theorem sStep_w (a : Value) (n x : Int) (w : World) (z : Addr) (hz : SentAt gRange11 w z) (hn : n < 1 ∨ 10 < n) :
    Calls Tryd.prog 12 #[a, .int .i64 n, .int .i64 x] w fun e w' => e = .returned (.tuple #[.int .i64 0, .iface 104 (.pointer (some z))]) ∧ Below w.heap.size w w' := by
  have hg : ∀ n, (w.drewN n).cell? ⟨gRange11, 0, none⟩ = some (.iface 104 (.pointer (some z))) := fun _ => hz
  have hg0 : w.cell? ⟨gRange11, 0, none⟩ = some (.iface 104 (.pointer (some z))) := hz
  unfold gRange11 at hg hg0
  replace hz := Lib.hid hz
  by_cases h1 : n < 1
  · clear hn
    go_enter Tryd.func12, Tryd.ntmps12
    go_wp2_with fail
    go_quiet (fail)
    go_wp2_with fail
    go_ret2
    exact ⟨rfl, below_drewN (Below.refl _ _) _⟩
  · have h2 : 10 < n := by omega
    clear hn
    go_enter Tryd.func12, Tryd.ntmps12
    go_wp2_with fail
    go_quiet (fail)
    go_wp2_with fail
    go_ret2
    exact ⟨rfl, below_drewN (Below.refl _ _) _⟩

set_option maxHeartbeats 1000000 in
theorem sStep_x (a : Value) (n : Nat) (x : Int) (w : World) (z : Addr) (hz : SentAt gRange11 w z) (h1 : 1 ≤ n) (h2 : n ≤ 10) (hx : x < 0 ∨ ((2 ^ (2 * n) : Nat) : Int) ≤ x) :
    Calls Tryd.prog 12 #[a, .int .i64 (n : Int), .int .i64 x] w fun e w' => e = .returned (.tuple #[.int .i64 0, .iface 104 (.pointer (some z))]) ∧ Below w.heap.size w w' := by
  have hg : ∀ n, (w.drewN n).cell? ⟨gRange11, 0, none⟩ = some (.iface 104 (.pointer (some z))) := fun _ => hz
  have hg0 : w.cell? ⟨gRange11, 0, none⟩ = some (.iface 104 (.pointer (some z))) := hz
  unfold gRange11 at hg hg0
  replace hz := Lib.hid hz
  have h1i : (1 : Int) ≤ n := by omega
  have h2i : (n : Int) ≤ 10 := by omega
  by_cases h3 : x < 0
  · clear hx
    go_enter Tryd.func12, Tryd.ntmps12
    go_wp2_with fail
    go_quiet (fail)
    go_wp2_with fail
    go_ret2
    exact ⟨rfl, below_drewN (Below.refl _ _) _⟩
  · have h4 : wrap64 ((2 : Int) ^ (2 * n)) ≤ x := by
      rw [wrap_pow n h2]
      omega
    clear hx
    go_enter Tryd.func12, Tryd.ntmps12
    go_wp2_with fail
    go_quiet (fail)
    go_wp2_with fail
    go_ret2
    exact ⟨rfl, below_drewN (Below.refl _ _) _⟩

set_option maxRecDepth 10000 in
set_option maxHeartbeats 1000000 in
theorem sStep_ok (ak : Option Addr) (ck : Nat) (key : List UInt8) (n x : Nat) (w : World) (hk : ArgB w ak ck key) (hkl : key.length ≤ 10000) (h1 : 1 ≤ n) (h2 : n ≤ 10) (hx : x < 2 ^ (2 * n)) (hK : ShaK w) (hF : ShaF w) :
    Calls Tryd.prog 12 #[.slice ak key.length ck, .int .i64 (n : Int), .int .i64 (x : Int)] w fun e w' => e = .returned (.tuple #[.int .i64 ((stepN (rnd key n) n x : Nat) : Int), .nilIface]) ∧ Below w.heap.size w w' := by
  have hmk := Lib.hid (fun W A B C => macMake_any ak ck key W A hkl B C)
  have hst := Lib.hid (fun b W A C D => step_any b key (2 ^ (2 * n)) n x W A hx h1 h2 C D)
  have hdr := Lib.hid (Grown.drew (Grown.refl w))
  have h1i : (1 : Int) ≤ n := by omega
  have h2i : (n : Int) ≤ 10 := by omega
  have hlt : (x : Int) < wrap64 ((2 : Int) ^ (2 * n)) := by
    rw [wrap_pow n h2]
    exact Int.ofNat_lt.2 hx
  have hpw := Lib.hid (wrap_pow n h2)
  replace hx := Lib.hid hx; replace hk := Lib.hid hk; replace hK := Lib.hid hK; replace hF := Lib.hid hF
  generalize stepN (rnd key n) n x = S at *
  go_enter Tryd.func12, Tryd.ntmps12
  go_wp2_with fail
  have e1 : IntKind.i64.wrap (2 * (n : Int)) = 2 * (n : Int) := IntWalk.i64_in (2 * (n : Int)) (by omega)
  have e2 : (0 : Int) ≤ 2 * (n : Int) := by omega
  have e3 : (2 * (n : Int)).toNat = 2 * n := by omega
  have e4 : wrap64 ((2 : Int) ^ (2 * n)) = ((2 ^ (2 * n) : Nat) : Int) := hpw.out
  have e5 : IntKind.i64.wrap ((2 : Int) ^ (2 * n)) = ((2 ^ (2 * n) : Nat) : Int) := by rw [IntWalk.i64_left]; exact hpw.out
  have e6 : 2 * (n : Int) ≤ 20 := by omega
  refine wp_region_held_drew (S := (Grown w)) (by kernel_rfl) hdr.out (fun hOn => ?_)
  generalize World.drew w = wd at *
  refine wpAnyH_take (i := 0) (v := ?_) (by simp only [List.getElem?_toArray, List.getElem?_cons_zero]; rfl) (by kernel_rfl) (by kernel_rfl) (by kernel_rfl) (by exact fun _ _ _ h => h) (Or.inl ⟨by rfl, ?_⟩) hOn ?_
  rotate_left
  focus (intro W hSW; go_simp; try with_reducible rfl)
  try simp only [Act.put, List.setIfInBounds_toArray, List.set_cons_zero, List.set_cons_succ]
  refine wpAnyH_take (i := 2) (v := ?_) (by simp only [List.getElem?_toArray, List.getElem?_cons_succ, List.getElem?_cons_zero]; rfl) (by kernel_rfl) (by kernel_rfl) (by kernel_rfl) (by exact fun _ _ _ h => h) (Or.inl ⟨by rfl, ?_⟩) hOn ?_
  rotate_left
  focus (intro W hSW; go_simp; try with_reducible rfl)
  try simp only [Act.put, List.setIfInBounds_toArray, List.set_cons_zero, List.set_cons_succ]
  refine wpAnyH_take (i := 3) (v := ?_) (by simp only [List.getElem?_toArray, List.getElem?_cons_succ, List.getElem?_cons_zero]; rfl) (by kernel_rfl) (by kernel_rfl) (by kernel_rfl) (by exact fun _ _ _ h => h) (Or.inl ⟨by rfl, ?_⟩) hOn ?_
  rotate_left
  focus (intro W hSW; go_simp; try with_reducible rfl)
  try simp only [Act.put, List.setIfInBounds_toArray, List.set_cons_zero, List.set_cons_succ]
  refine wpAnyH_take (i := 4) (v := ?_) (by simp only [List.getElem?_toArray, List.getElem?_cons_succ, List.getElem?_cons_zero]; rfl) (by kernel_rfl) (by kernel_rfl) (by kernel_rfl) (by exact fun _ _ _ h => h) (Or.inl ⟨by rfl, ?_⟩) hOn ?_
  rotate_left
  focus (intro W hSW; go_simp; try with_reducible rfl)
  try simp only [Act.put, List.setIfInBounds_toArray, List.set_cons_zero, List.set_cons_succ]
  refine wpAnyH_take (i := 5) (v := ?_) (by simp only [List.getElem?_toArray, List.getElem?_cons_succ, List.getElem?_cons_zero]; rfl) (by kernel_rfl) (by kernel_rfl) (by kernel_rfl) (by exact fun _ _ _ h => h) (Or.inl ⟨by rfl, ?_⟩) hOn ?_
  rotate_left
  focus (intro W hSW; go_simp; try with_reducible rfl)
  try simp only [Act.put, List.setIfInBounds_toArray, List.set_cons_zero, List.set_cons_succ]
  refine wpAnyH_ready (rs := [1]) (by kernel_rfl) (by simp) ?_
  refine AllReadyH.cons (by simp only [List.getElem?_toArray, List.getElem?_cons_succ, List.getElem?_cons_zero]; rfl) (fun Kz hKz => ?_) AllReadyH.nil
  go_simp
  (with_reducible refine (hmk.out _ (hk.out.below hOn) (hK.out.below hOn) (hF.out.below hOn)).mono ?_)
  rintro e w3 ⟨b3, rfl, hkey, hnew⟩
  replace hkey := Lib.hid hkey
  go_wp2_with fail
  refine hKz.out _ _ (by first | exact hS | exact Below.trans hOn (Below.mono hnew (Below.size hOn))) (fun hNext => ?_)
  clear hKz Kz hOn
  have hOn := hNext
  clear hNext
  try clear hnew
  try clear hS
  try simp only [Act.put, List.setIfInBounds_toArray, List.set_cons_zero, List.set_cons_succ]
  refine wpAnyH_take (i := 6) (v := ?_) (by simp only [List.getElem?_toArray, List.getElem?_cons_succ, List.getElem?_cons_zero]; rfl) (by kernel_rfl) (by kernel_rfl) (by kernel_rfl) (by exact fun _ _ _ h => h) (Or.inl ⟨by rfl, ?_⟩) hOn ?_
  rotate_left
  focus (intro W hSW; go_simp; try with_reducible rfl)
  try simp only [Act.put, List.setIfInBounds_toArray, List.set_cons_zero, List.set_cons_succ]
  refine wpAnyH_ready (rs := [7]) (by kernel_rfl) (by simp) ?_
  refine AllReadyH.cons (by simp only [List.getElem?_toArray, List.getElem?_cons_succ, List.getElem?_cons_zero]; rfl) (fun Kz hKz => ?_) AllReadyH.nil
  go_simp
  try go_wp2_with fail
  (with_reducible refine made_step (t := 45) ?_)
  intro w5 hx5 hnew
  have hor := Lib.hid (show OrdAt w5 _ key (2 ^ (2 * n)) n from ⟨_, hkey.out.below hnew, hx5.out⟩)
  clear hx5 hkey
  refine hKz.out _ _ (by first | exact hS | exact Below.trans hOn (Below.mono hnew (Below.size hOn))) (fun hNext => ?_)
  clear hKz Kz hOn
  have hOn := hNext
  clear hNext
  try clear hnew
  try clear hS
  try simp only [Act.put, List.setIfInBounds_toArray, List.set_cons_zero, List.set_cons_succ]
  refine wpAnyH_take (i := 8) (v := ?_) (by simp only [List.getElem?_toArray, List.getElem?_cons_succ, List.getElem?_cons_zero]; rfl) (by kernel_rfl) (by kernel_rfl) (by kernel_rfl) (by exact fun _ _ _ h => h) (Or.inl ⟨by rfl, ?_⟩) hOn ?_
  rotate_left
  focus (intro W hSW; go_simp; try with_reducible rfl)
  try simp only [Act.put, List.setIfInBounds_toArray, List.set_cons_zero, List.set_cons_succ]
  refine wpAnyH_done (by kernel_rfl) ?_ _
  all_goals
    have hb9 := Lib.hid hOn
    clear e1 e2 e3 e4 e5 e6
    have hs := Lib.hid (hst.out _ _ hor.out (hK.out.below hOn) (hF.out.below hOn))
    clear hOn hor
    go_wp2_with fail
    with_reducible refine hs.out.mono ?_
    rintro e w7 ⟨rfl, hb7⟩
    have hb10 := Lib.hid (Grown.trans hb9.out hb7)
    clear hb7 hs
    go_wp2_with fail
    go_ret2
    exact ⟨rfl, hb10.out⟩

end Go.Proofs.YtmngcnhnpfnloaaDoor
