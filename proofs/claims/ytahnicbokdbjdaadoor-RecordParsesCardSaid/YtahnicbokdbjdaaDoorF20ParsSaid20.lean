/- OnL, Conv, Rest1. -/
import Derived.Deep.RegionHeld3
import Derived.Test.YtahnicbokdbjdaaDoorF1ParsSaid20
import Derived.Test.YtahnicbokdbjdaaDoorF2ParsSaid20
import Derived.Test.YtahnicbokdbjdaaDoorF19ParsSaid20
/- A region that draws its order of evaluation, whose operations read, make new memory, or call functions that only add to the memory: the condition that is held (Derived/OrdersHeld.lean) is 'the world has only grown since ..'; it is renewed behind each call. -/
namespace Go.Proofs.YtahnicbokdbjdaaDoor
open Go.RowKit

section
variable {P : Program} {ops : Array Oper} {Q : Exit → Act → World → Prop} {md : Region.Mode}

/-- The condition may be made stronger on the way. -/
theorem wpAnyH_weaken {S S' : World → Prop} (h : ∀ w, S' w → S w) : ∀ (fuel : Nat) (listed : Array Bool) (a : Act) (w : World), wpAnyH P md ops Q S' fuel listed a w → wpAnyH P md ops Q S fuel listed a w
  | 0, _, _, _, hh => hh
  | fuel + 1, _, _, _, hh => ⟨hh.1, fun i hi => wpOp_mono (fun a' w' h' => ⟨h _ h'.1, wpAnyH_weaken h fuel _ a' w' h'.2⟩) (hh.2 i hi)⟩

/-- W is w0, with more memory. -/
abbrev Grown (w0 W : World) : Prop := Below w0.heap.size w0 W
theorem Grown.refl (w : World) : Grown w w := Below.refl _ _
theorem Grown.trans {a b c : World} (h : Grown a b) (h' : Grown b c) : Grown a c := Below.trans h (h'.mono h.size)
theorem Grown.drew {a b : World} (h : Grown a b) : Grown a b.drew := Below.trans h (Drawn.below ⟨1, rfl⟩ _)
theorem Grown.alloc {a b : World} (h : Grown a b) (o : Obj) : Grown a (b.alloc o) := Below.alloc h h.size o
theorem wpAnyH_onward {w0 w1 : World} {fuel : Nat} {listed : Array Bool} {a : Act} (h : Grown w0 w1) (hh : Grown w1 w1 → wpAnyH P md ops Q (Grown w1) fuel listed a w1) : wpAnyH P md ops Q (Grown w0) fuel listed a w1 :=
  wpAnyH_weaken (fun _ h' => h.trans h') _ _ _ _ (hh (Grown.refl w1))
theorem wp_region_on {id : Nat} {a : Act} {w : World} (hm : P.follows .mixedOrders = true)
    (h : Grown w w.drew → wpAnyH P .any ops Q (Grown w) ops.size (Array.replicate ops.size false) a w.drew) : (Code.region id ops true).wp P Q a w :=
  wp_region_held_drew hm (Grown.drew (Grown.refl w)) h
theorem wp_region_on2 {id : Nat} {a : Act} {w : World} (hm : P.follows .mixedOrders = true)
    (h : ∀ wd, Grown w wd → wpAnyH P .any ops Q (Grown w) ops.size (Array.replicate ops.size false) a wd) : (Code.region id ops true).wp P Q a w :=
  wp_region_held_drew hm (Grown.drew (Grown.refl w)) (fun h0 => h _ h0)
/-- A block that was made. -/
theorem made_step {K : Act → World → Prop} {w : World} {a : Act} {c : Array Value} {t : TypeId} {fz : Nat × Nat} (h : ∀ w', Hid (w'.heap[w.heap.size]? = some (.cells c t fz)) → Grown w w' → K a w') : K a (w.alloc (.cells c t fz)) :=
  h _ (show _ = _ from heap_alloc_new w _) (Grown.alloc (Grown.refl w) _)
end

end Go.Proofs.YtahnicbokdbjdaaDoor
/- Texts out of bytes, cells and rows, in every world that has only grown since. -/
namespace Go.Proofs.YtahnicbokdbjdaaDoor
open Go.RowKit

theorem convB {w : World} {a : Option Addr} {c : Nat} {bs : List UInt8} (h : ArgB w a c bs) (n : Nat) (hn : bs.length = n) : (convert 36 9 (.slice a n c)).run Tryd.prog w = .ok (.string ⟨bs.toArray⟩) w := by
  subst hn
  exact conv_str bs Tryd.underlying36 Tryd.underlying5 Tryd.underlying9 h.row
theorem convE {w : World} {a : Option Addr} {c : Nat} {bs : List UInt8} (h : ArgB w a c bs) (n : Nat) (hn : bs.length = n) : ∀ W, Grown w W → (convert 36 9 (.slice a n c)).run Tryd.prog W = .ok (.string ⟨bs.toArray⟩) W :=
  fun _ hW => convB (h.below hW) n hn
theorem far_cell {w : World} {x : Addr} {v : Value} (h : w.cell? x = some v) : ∀ W, Grown w W → W.cell? x = some v := fun _ hW => (hW.cell (World.block_lt_of_cell? w _ h)).trans h

end Go.Proofs.YtahnicbokdbjdaaDoor
/- The reader of records: rest, for kind 1. -/
namespace Go.Proofs.YtahnicbokdbjdaaDoor
open Go.RowKit
set_option linter.unusedVariables false

def nNat (s : List UInt8 × Bool) (n : Nat) : Nat := numG (takeO s.1 s.2 n) 0
theorem nN_nat (s : List UInt8 × Bool) (n : Nat) : nN s n = (nNat s n : Nat) := rfl
theorem nNat_one (s : List UInt8 × Bool) : nNat s 1 ≤ 255 := by
  unfold nNat
  have h := takeO_length s.1 s.2 1
  generalize takeO s.1 s.2 1 = xs at *
  match xs, h with
  | [b], _ =>
    have := b.toNat_lt
    simp [numG]; omega
def r1s2 (s : List UInt8 × Bool) := nB (nB s 8) 1
def r1len (s : List UInt8 × Bool) : Nat := nNat (nB s 8) 1
def r1s3 (s : List UInt8 × Bool) := nB (r1s2 s) (r1len s)
def r1s4 (s : List UInt8 × Bool) := nB (r1s3 s) 9
def r1s5 (s : List UInt8 × Bool) := nB (r1s4 s) 32
def r1s6 (s : List UInt8 × Bool) := nB (r1s5 s) 32
def Rc.rest1 (x : Rc) (s : List UInt8 × Bool) : Rc := { x with obj := nN s 8, name := ⟨(nO (r1s2 s) (r1len s)).toArray⟩, root := nO (r1s4 s) 32, file := nO (r1s5 s) 32, tick := nN (r1s6 s) 8 }
def restS1 (s : List UInt8 × Bool) : List UInt8 × Bool := nB (r1s6 s) 8
def Rest1Post (p q B : Nat) (x : Rc) (s : List UInt8 × Bool) (w : World) (e : Ending) (w' : World) : Prop :=
  ∃ g c, e = .returned (.slice (some ⟨g, 0, none⟩) 9 c) ∧ ArgB w' (some ⟨g, 0, none⟩) c (nO (r1s3 s) 9) ∧ w.heap.size ≤ g ∧ w'.heap[p]? = some (.cells (x.rest1 s).list.toArray 31 (0, 0)) ∧ RdM w' q B (restS1 s).1 (restS1 s).2 ∧ Only (fun k => k = p ∨ k = q) w w'
theorem take_at (q B : Nat) (s : List UInt8 × Bool) (n : Nat) (w : World) (h : RdM w q B s.1 s.2) (hn : n ≤ 1000) (hm : s.1.length ≤ 1000000) : Calls Tryd.prog 45 #[.pointer (some ⟨q, 0, none⟩), .int .i64 (n : Int)] w fun e w' => ∃ a c, e = .returned (.slice a n c) ∧ ArgB w' a c (nO s n) ∧ (nO s n).length = n ∧ RdM w' q B (nB s n).1 (nB s n).2 ∧ Only (fun k => k = q) w w' :=
  (take_any q B s.1 s.2 n w h hn hm).mono fun e w' ⟨a, c, h1, h2, h3, h4, h5⟩ => ⟨a, c, h1, h2, takeO_length _ _ _, h4, h5⟩
theorem digest_at (q B : Nat) (s : List UInt8 × Bool) (w : World) (h : RdM w q B s.1 s.2) (hm : s.1.length ≤ 1000000) (hB : B ≤ w.heap.size) : Calls Tryd.prog 47 #[.pointer (some ⟨q, 0, none⟩)] w fun e w' => e = .returned (.agg (cB (nO s 32)).toArray) ∧ RdM w' q B (nB s 32).1 (nB s 32).2 ∧ Only (fun k => k = q) w w' := digest_any q B s.1 s.2 w h hm hB
theorem clone9 (a : Option Addr) (cap : Nat) (bs : List UInt8) (n : Nat) (w : World) (h : ArgB w a cap bs) (hn : bs.length = n) (h0 : 0 < n) (hr : n ≤ 1000000) :
    Calls Tryd.prog 46 #[.slice a n cap] w fun e w' => ∃ g c, e = .returned (.slice (some ⟨g, 0, none⟩) n c) ∧ ArgB w' (some ⟨g, 0, none⟩) c bs ∧ w.heap.size ≤ g ∧ g < w'.heap.size ∧ Below w.heap.size w w' := by
  subst hn
  refine (clone_any a cap bs w h hr).mono ?_
  rintro e w2 ⟨v, rfl, ho, hb⟩
  obtain ⟨g, c, rfl, hg⟩ := ho.form h0
  obtain ⟨a2, c2, e2, h2, _⟩ := ho.arg
  cases e2
  exact ⟨g, c, rfl, h2, hg, (World.ownsRow.lt ho g rfl).2, hb⟩

set_option maxRecDepth 100000 in
set_option maxHeartbeats 2000000 in
theorem rest_k1 (p q B : Nat) (x : Rc) (s : List UInt8 × Bool) (w : World) (h1 : x.root.length = 32) (h2 : x.file.length = 32) (hk : x.kind = 1) (hP : w.heap[p]? = some (.cells x.list.toArray 31 (0, 0))) (hR : RdM w q B s.1 s.2) (hpq : p ≠ q) (hB : B ≤ p) (hm : s.1.length ≤ 1000000) :
    Calls Tryd.prog 32 #[.pointer (some ⟨q, 0, none⟩), .pointer (some ⟨p, 0, none⟩)] w (Rest1Post p q B x s w) := by
  have hO0 : Only (fun k => k = p ∨ k = q) w w := Only.refl _ _
  have hplt : p < w.heap.size := block_lt hP
  have hqlt : q < w.heap.size := by obtain ⟨a, c, h, _⟩ := hR; exact block_lt h
  have hpost : ∀ g c w', ArgB w' (some ⟨g, 0, none⟩) c (nO (r1s3 s) 9) → w.heap.size ≤ g → w'.heap[p]? = some (.cells (x.rest1 s).list.toArray 31 (0, 0)) → RdM w' q B (restS1 s).1 (restS1 s).2 → Only (fun k => k = p ∨ k = q) w w' → Rest1Post p q B x s w (.returned (.slice (some ⟨g, 0, none⟩) 9 c)) w' := fun g c w' a b d e f => ⟨g, c, rfl, a, b, d, e, f⟩
  unfold Rc.rest1 restS1 at hpost
  have hn0 : ∀ W, RdM W q B s.1 s.2 → Calls Tryd.prog 31 #[.pointer (some ⟨q, 0, none⟩), .int .i64 8] W fun e w2 => e = .returned (.int .i64 (nN s 8)) ∧ RdM w2 q B (nB s 8).1 (nB s 8).2 ∧ Only (fun k => k = q) W w2 := fun W h => number_at q B s 8 W h (by decide) hm
  have hm1 : (nB s 8).1.length ≤ 1000000 := Nat.le_trans (nB_le _ _) hm
  have hn1 : ∀ W, RdM W q B (nB s 8).1 (nB s 8).2 → Calls Tryd.prog 31 #[.pointer (some ⟨q, 0, none⟩), .int .i64 1] W fun e w2 => e = .returned (.int .i64 (r1len s : Nat)) ∧ RdM w2 q B (r1s2 s).1 (r1s2 s).2 ∧ Only (fun k => k = q) W w2 := fun W h => number_at q B (nB s 8) 1 W h (by decide) hm1
  have hm2 : (r1s2 s).1.length ≤ 1000000 := Nat.le_trans (nB_le _ _) hm1
  have hlen : r1len s ≤ 255 := nNat_one _
  have hn2 : ∀ W, RdM W q B (r1s2 s).1 (r1s2 s).2 → Calls Tryd.prog 45 #[.pointer (some ⟨q, 0, none⟩), .int .i64 (r1len s : Nat)] W fun e w2 => ∃ a c, e = .returned (.slice a (r1len s) c) ∧ ArgB w2 a c (nO (r1s2 s) (r1len s)) ∧ (nO (r1s2 s) (r1len s)).length = r1len s ∧ RdM w2 q B (r1s3 s).1 (r1s3 s).2 ∧ Only (fun k => k = q) W w2 := fun W h => take_at q B (r1s2 s) (r1len s) W h (by omega) hm2
  have hm3 : (r1s3 s).1.length ≤ 1000000 := Nat.le_trans (nB_le _ _) hm2
  have hn3 : ∀ W, RdM W q B (r1s3 s).1 (r1s3 s).2 → Calls Tryd.prog 45 #[.pointer (some ⟨q, 0, none⟩), .int .i64 9] W fun e w2 => ∃ a c, e = .returned (.slice a 9 c) ∧ ArgB w2 a c (nO (r1s3 s) 9) ∧ (nO (r1s3 s) 9).length = 9 ∧ RdM w2 q B (r1s4 s).1 (r1s4 s).2 ∧ Only (fun k => k = q) W w2 := fun W h => take_at q B (r1s3 s) 9 W h (by omega) hm3
  have hm4 : (r1s4 s).1.length ≤ 1000000 := Nat.le_trans (nB_le _ _) hm3
  have hn4 : ∀ W, RdM W q B (r1s4 s).1 (r1s4 s).2 → B ≤ W.heap.size → Calls Tryd.prog 47 #[.pointer (some ⟨q, 0, none⟩)] W fun e w2 => e = .returned (.agg (cB (nO (r1s4 s) 32)).toArray) ∧ RdM w2 q B (r1s5 s).1 (r1s5 s).2 ∧ Only (fun k => k = q) W w2 := fun W h hb => digest_at q B (r1s4 s) W h hm4 hb
  have hm5 : (r1s5 s).1.length ≤ 1000000 := Nat.le_trans (nB_le _ _) hm4
  have hn5 : ∀ W, RdM W q B (r1s5 s).1 (r1s5 s).2 → B ≤ W.heap.size → Calls Tryd.prog 47 #[.pointer (some ⟨q, 0, none⟩)] W fun e w2 => e = .returned (.agg (cB (nO (r1s5 s) 32)).toArray) ∧ RdM w2 q B (r1s6 s).1 (r1s6 s).2 ∧ Only (fun k => k = q) W w2 := fun W h hb => digest_at q B (r1s5 s) W h hm5 hb
  have hm6 : (r1s6 s).1.length ≤ 1000000 := Nat.le_trans (nB_le _ _) hm5
  have hn6 : ∀ W, RdM W q B (r1s6 s).1 (r1s6 s).2 → Calls Tryd.prog 31 #[.pointer (some ⟨q, 0, none⟩), .int .i64 8] W fun e w2 => e = .returned (.int .i64 (nN (r1s6 s) 8)) ∧ RdM w2 q B (nB (r1s6 s) 8).1 (nB (r1s6 s) 8).2 ∧ Only (fun k => k = q) W w2 := fun W h => number_at q B (r1s6 s) 8 W h (by decide) hm6
  have hl4 : (nO (r1s4 s) 32).length = 32 := takeO_length _ _ _
  have hl5 : (nO (r1s5 s) 32).length = 32 := takeO_length _ _ _
  generalize nN s 8 = n0 at *
  generalize nN (r1s6 s) 8 = n6 at *
  generalize nO (r1s2 s) (r1len s) = BN at *
  generalize nO (r1s3 s) 9 = BP at *
  generalize nO (r1s4 s) 32 = BR at *
  generalize nO (r1s5 s) 32 = BF at *
  generalize r1len s = N at *
  generalize nB (r1s6 s) 8 = z7 at *
  generalize r1s6 s = z6 at *
  generalize r1s5 s = z5 at *
  generalize r1s4 s = z4 at *
  generalize r1s3 s = z3 at *
  generalize r1s2 s = z2 at *
  generalize nB s 8 = z1 at *
  replace hn0 := Lib.hid hn0
  replace hn1 := Lib.hid hn1
  replace hn2 := Lib.hid hn2
  replace hn3 := Lib.hid hn3
  replace hn4 := Lib.hid hn4
  replace hn5 := Lib.hid hn5
  replace hn6 := Lib.hid hn6
  replace hpost := Lib.hid hpost
  obtain ⟨x1, hx1⟩ : ∃ y : Rc, y = { x with obj := n0 } := ⟨_, rfl⟩
  obtain ⟨x2, hx2⟩ : ∃ y : Rc, y = { x1 with name := ⟨BN.toArray⟩ } := ⟨_, rfl⟩
  obtain ⟨x3, hx3⟩ : ∃ y : Rc, y = { x2 with root := BR } := ⟨_, rfl⟩
  obtain ⟨x4, hx4⟩ : ∃ y : Rc, y = { x3 with file := BF } := ⟨_, rfl⟩
  obtain ⟨x5, hx5⟩ : ∃ y : Rc, y = { x4 with tick := n6 } := ⟨_, rfl⟩
  have e5 : ({ x with obj := n0, name := ⟨BN.toArray⟩, root := BR, file := BF, tick := n6 } : Rc) = x5 := by rw [hx5, hx4, hx3, hx2, hx1]
  have hs1 : x.list.toArray.setIfInBounds 1 (.int .i64 n0) = x1.list.toArray := by rw [hx1]; exact Rc.set1 x n0
  have hs2 : x1.list.toArray.setIfInBounds 3 (.string ⟨BN.toArray⟩) = x2.list.toArray := by rw [hx2]; exact Rc.set3 x1 _
  have l2r : x2.root.length = 32 := by rw [hx2, hx1]; exact h1
  have l2f : x2.file.length = 32 := by rw [hx2, hx1]; exact h2
  have hs3 : patch x2.list.toArray 10 (cB BR).toArray.toList = x3.list.toArray := by rw [hx3]; exact Rc.patch_root l2r hl4
  have l3r : x3.root.length = 32 := by rw [hx3]; exact hl4
  have l3f : x3.file.length = 32 := by rw [hx3]; exact l2f
  have hs4 : patch x3.list.toArray 42 (cB BF).toArray.toList = x4.list.toArray := by rw [hx4]; exact Rc.patch_file l3r l3f hl5
  have l4r : x4.root.length = 32 := by rw [hx4]; exact l3r
  have l4f : x4.file.length = 32 := by rw [hx4]; exact hl5
  have hs5 : x4.list.toArray.setIfInBounds 77 (.int .i64 n6) = x5.list.toArray := by rw [hx5]; exact Rc.set77 (x := x4) l4r l4f n6
  have l1r : x1.root.length = 32 := by rw [hx1]; exact h1
  have l1f : x1.file.length = 32 := by rw [hx1]; exact h2
  have k1 : x1.kind = 1 := by rw [hx1]; exact hk
  have hc0 := Lib.hid (fun (W : World) (h : W.heap[p]? = some (.cells x.list.toArray 31 (0, 0))) => Rc.cellsW x h1 h2 h)
  have hc1 := Lib.hid (fun (W : World) (h : W.heap[p]? = some (.cells x1.list.toArray 31 (0, 0))) => Rc.cellsW x1 l1r l1f h)
  have hc2 := Lib.hid (fun (W : World) (h : W.heap[p]? = some (.cells x2.list.toArray 31 (0, 0))) => Rc.cellsW x2 l2r l2f h)
  have hc4 := Lib.hid (fun (W : World) (h : W.heap[p]? = some (.cells x4.list.toArray 31 (0, 0))) => Rc.cellsW x4 l4r l4f h)
  have hz2 : 10 + (cB BR).toArray.size ≤ x2.list.toArray.size := by rw [List.size_toArray, List.size_toArray, Rc.len l2r l2f, cB_length, hl4]; decide
  have hz3 : 42 + (cB BF).toArray.size ≤ x3.list.toArray.size := by rw [List.size_toArray, List.size_toArray, Rc.len l3r l3f, cB_length, hl5]; decide
  have iR : (Tryd.prog.info? 29).map (·.size) = some (cB BR).toArray.size := by rw [List.size_toArray, cB_length, hl4]; kernel_rfl
  have iF : (Tryd.prog.info? 29).map (·.size) = some (cB BF).toArray.size := by rw [List.size_toArray, cB_length, hl5]; kernel_rfl
  have oR := arr_one (cB_one BR)
  have oF := arr_one (cB_one BF)
  obtain ⟨⟨q0, q1, q2, q3, q4, q5, q6, q7⟩, g1, g2, g3, g4, g5, g6, g7⟩ := hc0.out _ hP
  rw [hk] at q0
  have k1c := k1
  generalize hR1 : x1.list.toArray = R1 at *
  generalize hR2 : x2.list.toArray = R2 at *
  generalize hR3 : x3.list.toArray = R3 at *
  generalize hR4 : x4.list.toArray = R4 at *
  generalize hR5 : x5.list.toArray = R5 at *
  generalize (cB BR).toArray = AR at *
  generalize (cB BF).toArray = AF at *
  replace hs1 := Lib.hid hs1
  replace hs2 := Lib.hid hs2
  replace hs3 := Lib.hid hs3
  replace hs4 := Lib.hid hs4
  replace hs5 := Lib.hid hs5
  replace e5 := Lib.hid e5
  replace hR5 := Lib.hid hR5
  replace hP := Lib.hid hP
  replace hR := Lib.hid hR
  replace hO0 := Lib.hid hO0
  clear hx1 hx2 hx3 hx4 hx5 hR1 hR2 hR3 hR4 h1 h2 hk l1r l1f l2r l2f l3r l3f l4r l4f hm hm1 hm2 hm3 hm4 hm5 hm6 k1c
  go_enter Tryd.func32, Tryd.ntmps32
  go_wp2_with fail
  with_reducible refine (hn0.out _ hR.out).mono ?_
  rintro e wa ⟨rfl, hra, ho⟩
  have hPa := Lib.hid (ho.heap hP.out (by omega))
  have hOa := Lib.hid (hO0.out.trans ho (fun k _ e => .inr e))
  clear ho q0 q1 q2 q3 q4 q5 q6 q7 g1 g2 g3 g4 g5 g6 g7
  obtain ⟨⟨q0, q1, q2, q3, q4, q5, q6, q7⟩, g1, g2, g3, g4, g5, g6, g7⟩ := hc0.out _ hPa.out
  obtain ⟨wb, hwb⟩ : ∃ W, W = wa.setCell ⟨p, 1, none⟩ (.int .i64 n0) := ⟨_, rfl⟩
  have hU := (Upd.refl hPa.out).setCell (j := 1) (.int .i64 n0)
  rw [hs1.out, ← hwb] at hU
  have hPb := Lib.hid hU.here
  have hOb := Lib.hid (hOa.out.trans (Only.ofUpd (D := fun k => k = p ∨ k = q) hU (.inl rfl)) (fun k _ e => e))
  have hrb := Lib.hid (hra.only (D := fun k => k = p) (Only.ofUpd hU rfl) (by omega) (by intro k hk; omega))
  obtain ⟨⟨b0, _⟩, _⟩ := hc1.out _ hPb.out
  rw [hwb, k1] at b0
  replace hwb := Lib.hid hwb
  clear hU hra
  go_wp2_with fail
  rw [← hwb.out]
  clear b0 q0 q1 q2 q3 q4 q5 q6 q7 g1 g2 g3 g4 g5 g6 g7
  with_reducible refine (hn1.out _ hrb.out).mono ?_
  rintro e wc ⟨rfl, hrc, ho⟩
  have hPc := Lib.hid (ho.heap hPb.out (by omega))
  have hOc := Lib.hid (hOb.out.trans ho (fun k _ e => .inr e))
  clear ho
  go_wp2_with fail
  with_reducible refine (hn2.out _ hrc).mono ?_
  rintro e wd ⟨ad, cd, rfl, had, hadl, hrd, ho⟩
  have hPd := Lib.hid (ho.heap hPc.out (by omega))
  have hOd := Lib.hid (hOc.out.trans ho (fun k _ e => .inr e))
  have hconv := convB had N hadl
  clear ho hrc had hadl
  obtain ⟨⟨q0, q1, q2, q3, q4, q5, q6, q7⟩, g1, g2, g3, g4, g5, g6, g7⟩ := hc1.out _ hPd.out
  obtain ⟨we, hwe⟩ : ∃ W, W = wd.setCell ⟨p, 3, none⟩ (.string ⟨BN.toArray⟩) := ⟨_, rfl⟩
  have hU := (Upd.refl hPd.out).setCell (j := 3) (.string ⟨BN.toArray⟩)
  rw [hs2.out, ← hwe] at hU
  have hPe := Lib.hid hU.here
  have hOe := Lib.hid (hOd.out.trans (Only.ofUpd (D := fun k => k = p ∨ k = q) hU (.inl rfl)) (fun k _ e => e))
  have hre := Lib.hid (hrd.only (D := fun k => k = p) (Only.ofUpd hU rfl) (by omega) (by intro k hk; omega))
  replace hwe := Lib.hid hwe
  clear hU hrd
  go_wp2_with fail
  rw [← hwe.out]
  clear hconv q0 q1 q2 q3 q4 q5 q6 q7 g1 g2 g3 g4 g5 g6 g7
  with_reducible refine (hn3.out _ hre.out).mono ?_
  rintro e wf ⟨af, cf0, rfl, haf, hafl, hrf, ho⟩
  have hPf := Lib.hid (ho.heap hPe.out (by omega))
  have hOf := Lib.hid (hOe.out.trans ho (fun k _ e => .inr e))
  replace hrf := Lib.hid hrf
  replace haf := Lib.hid haf
  replace hafl := Lib.hid hafl
  clear ho
  go_wp2_with fail
  with_reducible refine (clone9 _ _ _ _ _ haf.out hafl.out (by decide) (by decide)).mono ?_
  rintro e wg ⟨gp, cp, rfl, hgp, hgpl, hgplt, hbg⟩
  have hPg := Lib.hid ((hbg.block p (block_lt hPf.out)).trans hPf.out)
  have hOg := Lib.hid (hOf.out.trans (Only.ofBelow (D := fun k => k = p ∨ k = q) hbg) (fun k _ e => e))
  have hrg := Lib.hid (hrf.out.only (D := fun _ => False) (Only.ofBelow hbg) (fun e => e) (fun k e => e.elim))
  have hgw : w.heap.size ≤ gp := Nat.le_trans hOf.out.size hgpl
  clear hbg hrf haf hafl
  replace hgp := Lib.hid hgp
  go_wp2_with fail
  have hBg : B ≤ wg.heap.size := by have := hOg.out.size; omega
  with_reducible refine (hn4.out _ hrg.out hBg).mono ?_
  rintro e wh ⟨rfl, hrh, ho⟩
  have hPh := Lib.hid (ho.heap hPg.out (by omega))
  have hOh := Lib.hid (hOg.out.trans ho (fun k _ e => .inr e))
  replace hgp := Lib.hid (ho.argB hgp.out (fun b o e => by cases e; omega))
  clear ho
  go_wp2_with fail
  have hBh : B ≤ wh.heap.size := by have := hOh.out.size; omega
  with_reducible refine (hn5.out _ hrh hBh).mono ?_
  rintro e wi ⟨rfl, hri, ho⟩
  have hPi := Lib.hid (ho.heap hPh.out (by omega))
  have hOi := Lib.hid (hOh.out.trans ho (fun k _ e => .inr e))
  replace hgp := Lib.hid (ho.argB hgp.out (fun b o e => by cases e; omega))
  replace hri := Lib.hid hri
  clear ho hrh
  go_wp2_with (first
    | ((with_reducible show wpList _ _ _ (Oper.mk _ (Op.store 29 (.tmp 35) _) _ _ _ _ :: _) _ _); (refine wpList_store_midU rfl 29 31 (.tmp 35) (.tmp 31) rfl p 10 R2 AR rfl rfl hPi iR hz2 oR ?_); intro wj hUj; rw [hs3.out] at hUj; have hPj := Lib.hid hUj.out.here)
    | ((with_reducible show wpList _ _ _ (Oper.mk _ (Op.store 29 (.tmp 37) _) _ _ _ _ :: _) _ _); (refine wpList_store_midU rfl 29 31 (.tmp 37) (.tmp 33) rfl p 42 R3 AF rfl rfl hPj iF hz3 oF ?_); intro wk hUk; rw [hs4.out] at hUk; have hPk := Lib.hid hUk.out.here))
  have hOj : Only (fun k => k = p ∨ k = q) w wk := (hOi.out.trans (Only.ofUpd (D := fun k => k = p ∨ k = q) hUj.out (.inl rfl)) (fun k _ e => e)).trans (Only.ofUpd (D := fun k => k = p ∨ k = q) hUk.out (.inl rfl)) (fun k _ e => e)
  have hrk := (hri.out.only (D := fun k => k = p) (Only.ofUpd hUj.out rfl) (by omega) (by intro k hk; omega)).only (D := fun k => k = p) (Only.ofUpd hUk.out rfl) (by omega) (by intro k hk; omega)
  replace hgp := Lib.hid ((Only.ofUpd (D := fun k => k = p) hUk.out rfl).argB ((Only.ofUpd (D := fun k => k = p) hUj.out rfl).argB hgp.out (fun b o e => by cases e; omega)) (fun b o e => by cases e; omega))
  with_reducible refine (hn6.out _ hrk).mono ?_
  rintro e wl ⟨rfl, hrl, ho⟩
  have hPl := Lib.hid (ho.heap hPk.out (by omega))
  have hOl := Lib.hid (hOj.trans ho (fun k _ e => .inr e))
  replace hgp := Lib.hid (ho.argB hgp.out (fun b o e => by cases e; omega))
  clear ho
  obtain ⟨⟨q0, q1, q2, q3, q4, q5, q6, q7⟩, g1, g2, g3, g4, g5, g6, g7⟩ := hc4.out _ hPl.out
  obtain ⟨wm, hwm⟩ : ∃ W, W = wl.setCell ⟨p, 77, none⟩ (.int .i64 n6) := ⟨_, rfl⟩
  have hU := (Upd.refl hPl.out).setCell (j := 77) (.int .i64 n6)
  rw [hs5.out, ← hwm] at hU
  have hPm := Lib.hid hU.here
  have hOm := Lib.hid (hOl.out.trans (Only.ofUpd (D := fun k => k = p ∨ k = q) hU (.inl rfl)) (fun k _ e => e))
  have hrm := Lib.hid (hrl.only (D := fun k => k = p) (Only.ofUpd hU rfl) (by omega) (by intro k hk; omega))
  replace hgp := Lib.hid ((Only.ofUpd (D := fun k => k = p) hU rfl).argB hgp.out (fun b o e => by cases e; omega))
  replace hwm := Lib.hid hwm
  clear hU hrl hrk hOj
  go_wp2_with fail
  go_ret
  rw [← hwm.out]
  exact hpost.out gp cp wm hgp.out hgw (by rw [hPm.out, e5.out, hR5.out]) hrm.out hOm.out
end Go.Proofs.YtahnicbokdbjdaaDoor
