/- The disk and the reference's disk side by side. -/
import Derived.Test.YtdgilgnaoifpcaaDoorRefC
import Derived.Test.YtdgilgnaoifpcaaDoorCopyD
import Derived.Test.YtdgilgnaoifpcaaDoorDiskE
import Derived.Test.YtdgilgnaoifpcaaDoorNum
import Derived.Test.YtdgilgnaoifpcaaDoorEnum
namespace Go.Proofs.YtdgilgnaoifpcaaDoor
open Go.RowKit

theorem rwrite_any {base : Nat} {w : World} {R n : Nat} {p : DP} {S : Nat → Prop} (h : RM base w R n p S) (hbs : base ≤ w.heap.size) (hn : p.n = n) (hws : p.ws.length ≤ 100000) (i : Int) (a : Option Addr) (c : Nat) (bs : List UInt8) (harg : ArgB w a c bs) (haS : 0 < bs.length → ∀ b o s, a = some ⟨b, o, s⟩ → b < w.heap.size ∧ b ≠ R) :
    Calls Tryd.prog 27 #[.pointer (some ⟨R, 0, none⟩), .int .i64 i, .slice a bs.length c] w fun x w' => x = .returned (.int .i64 (numD (p.write i bs).2)) ∧ RStep base w w' R n (p.write i bs).1 S := by
  by_cases h1 : i < 0 ∨ p.n ≤ i
  · refine (rwrite_no h i (by omega) a bs.length c).mono ?_
    rintro x w' ⟨rfl, rfl⟩
    have : p.write i bs = (p, 1) := by unfold DP.write; rw [if_pos h1]
    rw [this]
    exact ⟨rfl, RStep.same h hbs (Below.refl _ _)⟩
  · by_cases h2 : bs.length = 64
    · cases hbad : p.bad
      · have hw : p.write i bs = ({ p with l := p.l - 1, ws := p.ws ++ [(i, bs)] }, 0) := by unfold DP.write; rw [if_neg h1, if_neg (by omega), hbad]; rfl
        rw [hw]
        have := rwrite_yes h hbs hws i (by omega) (by omega) hbad a c bs h2 harg (haS (by omega))
        rw [← h2] at this
        exact this
      · have hw : p.write i bs = ({ p with gone := true }, 3) := by unfold DP.write; rw [if_neg h1, if_neg (by omega), hbad]; rfl
        rw [hw, h2]
        exact rwrite_bad h hbs i (by omega) (by omega) hbad a c
    · have hw : p.write i bs = (p, 2) := by unfold DP.write; rw [if_neg h1, if_pos h2]
      refine (rwrite_size h i (by omega) (by omega) a bs.length c h2).mono ?_
      rintro x w' ⟨rfl, rfl⟩
      rw [hw]
      exact ⟨rfl, RStep.same h hbs (Below.refl _ _)⟩
set_option maxHeartbeats 400000 in
theorem rsync_bad {base : Nat} {w : World} {R n : Nat} {p : DP} {S : Nat → Prop} (h : RM base w R n p S) (hbs : base ≤ w.heap.size) (hb : p.bad = true) :
    Calls Tryd.prog 29 #[.pointer (some ⟨R, 0, none⟩)] w fun x w' => x = .returned (.int .i64 14) ∧ RStep base w w' R n { p with gone := true } S := by
  have h' := h
  obtain ⟨va, vw, F, rl, hr, hS, _⟩ := h'
  have hb2 : (p.gone || (p.armed && rl == 0)) = true := by
    cases ha : p.armed with
    | false => unfold DP.bad at hb; rw [ha] at hb; exact hb
    | true => rw [hr.left ha]; unfold DP.bad at hb; rw [ha] at hb; exact hb
  have hde := Lib.hid (rdeed_bad R va vw p.armed rl p.gone _ hb2 w hr.at_)
  have hst := Lib.hid (fun (w' : World) (hU : Upd R (.cells (rcells va vw p.armed rl true) 51 (0, 0)) w w') => RM.updated h hbs (hr.upd (p' := { p with gone := true }) hU rfl rfl hr.left hr.range) (Only.ofUpd hU rfl) hS)
  clear hr hS hb hb2 h
  go_enter Tryd.func29, Tryd.ntmps29
  go_wp2_with fail
  with_reducible refine hde.out.mono ?_
  rintro x w2 ⟨rfl, hU⟩
  replace hU := Lib.hid hU
  go_wp2_with fail
  go_ret
  exact ⟨rfl, hst.out _ hU.out⟩
theorem rsync_any {base : Nat} {w : World} {R n : Nat} {p : DP} {S : Nat → Prop} (h : RM base w R n p S) (hbs : base ≤ w.heap.size) (hn : n ≤ 2048) (hws : p.ws.length ≤ 100000) :
    Calls Tryd.prog 29 #[.pointer (some ⟨R, 0, none⟩)] w fun x w' => x = .returned (.int .i64 (numD p.sync.2)) ∧ RStep base w w' R n p.sync.1 S := by
  cases hb : p.bad
  · have hw : p.sync = ({ p with l := p.l - 1, f := doneK (fun _ => some 64) p.ws p.f, ws := [] }, 0) := by unfold DP.sync; rw [hb]; rfl
    rw [hw]
    exact rsync_yes h hbs hn hws hb
  · have hw : p.sync = ({ p with gone := true }, 3) := by unfold DP.sync; rw [hb]; rfl
    rw [hw]
    exact rsync_bad h hbs hb

structure Two (base : Nat) (w : World) (B mb mn : Nat) (v : Value) (p : DP) (R n : Nat) (q : DP) (S : Nat → Prop) : Prop where
  d : DM base w B mb mn v p
  r : RM base w R n q S
  ap : ∀ k, DiskD B mb v k → ¬ S k
theorem Two.below {base : Nat} {w w' : World} {B mb mn R n : Nat} {v : Value} {p q : DP} {S : Nat → Prop} (h : Two base w B mb mn v p R n q S) (hb : Below w.heap.size w w') : Two base w' B mb mn v p R n q S := ⟨h.d.below hb, h.r.below hb, h.ap⟩
theorem Two.lt {base : Nat} {w : World} {B mb mn R n : Nat} {v : Value} {p q : DP} {S : Nat → Prop} (h : Two base w B mb mn v p R n q S) : (∀ k, DiskD B mb v k → base ≤ k ∧ k < w.heap.size) ∧ ∀ k, S k → base ≤ k ∧ k < w.heap.size := by
  refine ⟨h.d.lt, ?_⟩
  obtain ⟨_, _, _, _, _, _, h6⟩ := h.r
  exact h6
theorem Two.disk {base : Nat} {w w' : World} {B mb mn mn' R n : Nat} {v v' : Value} {p p' q : DP} {S : Nat → Prop} (h : Two base w B mb mn v p R n q S) (hst : DStep base w w' B mb v mn' v' p') : Two base w' B mb mn' v' p' R n q S := by
  refine ⟨hst.ok, h.r.only hst.only (fun k hk hd => h.ap k hd hk), fun k hk hS => ?_⟩
  rcases hst.new k hk with h1 | h1
  · exact h.ap k h1 hS
  · have := (h.lt.2 k hS).2; omega
theorem Two.ref {base : Nat} {w w' : World} {B mb mn R n : Nat} {v : Value} {p q q' : DP} {S : Nat → Prop} (h : Two base w B mb mn v p R n q S) (hst : RStep base w w' R n q' S) : Two base w' B mb mn v p R n q' (fun k => S k ∨ (w.heap.size ≤ k ∧ k < w'.heap.size)) := by
  refine ⟨h.d.only hst.2 (fun k hk hd => h.ap k hk hd), hst.1, fun k hk => ?_⟩
  rintro (hS | ⟨hS, _⟩)
  · exact h.ap k hk hS
  · have := (h.lt.1 k hk).2; omega
theorem Two.dBelow {base : Nat} {w w' : World} {B mb mn mn' R n : Nat} {v v' : Value} {p p' q : DP} {S : Nat → Prop} (h : Two base w B mb mn v p R n q S) (hb : base ≤ w.heap.size) (hst : DStep base w w' B mb v mn' v' p') : Below base w w' := hst.only.below hb (fun k hk => (h.lt.1 k hk).1)
theorem Two.rBelow {base : Nat} {w w' : World} {B mb mn R n : Nat} {v : Value} {p q q' : DP} {S : Nat → Prop} (h : Two base w B mb mn v p R n q S) (hb : base ≤ w.heap.size) (hst : RStep base w w' R n q' S) : Below base w w' := hst.2.below hb (fun k hk => (h.lt.2 k hk).1)
/-- Both lie so, behind t acts. -/
def Inv18 (base : Nat) (w : World) (B mb R n t : Nat) : Prop := ∃ p mn v S, Two base w B mb mn v p R n p S ∧ p.n = n ∧ mn ≤ 200 * t ∧ p.ws.length ≤ t ∧ -(t : Int) ≤ p.l ∧ p.l ≤ 9223372036854775807
theorem Inv18.below {base : Nat} {w w' : World} {B mb R n t : Nat} (h : Inv18 base w B mb R n t) (hb : Below w.heap.size w w') : Inv18 base w' B mb R n t := by
  obtain ⟨p, mn, v, S, h1, h2⟩ := h
  exact ⟨p, mn, v, S, h1.below hb, h2⟩

/-- The disk's three errors among the twenty. -/
def e18 (ea : Nat → Addr) (k : Nat) : Addr := ea (if k = 0 then 0 else if k = 1 then 7 else 13)
theorem dErr_of {ea : Nat → Addr} {w : World} (H : Errs 96 errGs w ea) : DErr w (e18 ea) := by
  obtain ⟨g0, g1, g2, g3, g4, g5, g6, g7, g8, g9, g10, g11, g12, g13, _⟩ := num_cells H
  exact ⟨g0, g7, g13⟩
theorem num_eD (ea : Nat → Addr) (r : Nat) (hr : r ≤ 3) (w : World) (H : Errs 96 errGs w ea) : Calls Tryd.prog 13 #[errV (e18 ea) r] w fun e w' => e = .returned (.int .i64 (numD r)) ∧ Below w.heap.size w w' := by
  match r, hr with
  | 0, _ =>
    refine (num_nil w).mono ?_
    rintro e w' ⟨rfl, rfl⟩
    exact ⟨rfl, Below.refl _ _⟩
  | 1, _ => exact num_err 0 (by decide) ea w H
  | 2, _ => exact num_err 7 (by decide) ea w H
  | 3, _ => exact num_err 13 (by decide) ea w H
theorem write_le (p : DP) (i : Int) (bs : List UInt8) : (p.write i bs).2 ≤ 3 := by
  unfold DP.write
  split
  · simp
  · split
    · simp
    · split <;> simp
theorem sync_le (p : DP) : p.sync.2 ≤ 3 := by
  unfold DP.sync
  split <;> simp
theorem arm_le (p : DP) (d : Int) : (p.arm d).2 ≤ 3 := by
  unfold DP.arm
  split
  · simp
  · split <;> simp
theorem write_inv {p : DP} {mn t : Nat} (i : Int) (bs : List UInt8) (h : mn ≤ 200 * t ∧ p.ws.length ≤ t ∧ -(t : Int) ≤ p.l ∧ p.l ≤ 9223372036854775807) : (p.write i bs).1.n = p.n ∧ mn ≤ 200 * (t + 1) ∧ (p.write i bs).1.ws.length ≤ t + 1 ∧ -((t + 1 : Nat) : Int) ≤ (p.write i bs).1.l ∧ (p.write i bs).1.l ≤ 9223372036854775807 := by
  obtain ⟨h1, h2, h3, h4⟩ := h
  unfold DP.write
  split
  · exact ⟨rfl, by omega, by simp only; omega, by simp only; omega, by simp only; omega⟩
  · split
    · exact ⟨rfl, by omega, by simp only; omega, by simp only; omega, by simp only; omega⟩
    · split
      · exact ⟨rfl, by omega, by simp only; omega, by simp only; omega, by simp only; omega⟩
      · exact ⟨rfl, by omega, by simp only [List.length_append, List.length_singleton]; omega, by simp only; omega, by simp only; omega⟩
theorem sync_inv {p : DP} {mn mn' t : Nat} (h : mn ≤ 200 * t ∧ p.ws.length ≤ t ∧ -(t : Int) ≤ p.l ∧ p.l ≤ 9223372036854775807) (ht : t ≤ 200) (hm : mn' ≤ mn + p.ws.length) : p.sync.1.n = p.n ∧ mn' ≤ 200 * (t + 1) ∧ p.sync.1.ws.length ≤ t + 1 ∧ -((t + 1 : Nat) : Int) ≤ p.sync.1.l ∧ p.sync.1.l ≤ 9223372036854775807 := by
  obtain ⟨h1, h2, h3, h4⟩ := h
  unfold DP.sync
  split
  · exact ⟨rfl, by omega, by simp only; omega, by simp only; omega, by simp only; omega⟩
  · exact ⟨rfl, by omega, by simp only [List.length_nil]; omega, by simp only; omega, by simp only; omega⟩
theorem arm_inv {p : DP} {mn t : Nat} (d : Int) (hd : inI64 d) (h : mn ≤ 200 * t ∧ p.ws.length ≤ t ∧ -(t : Int) ≤ p.l ∧ p.l ≤ 9223372036854775807) : (p.arm d).1.n = p.n ∧ mn ≤ 200 * (t + 1) ∧ (p.arm d).1.ws.length ≤ t + 1 ∧ -((t + 1 : Nat) : Int) ≤ (p.arm d).1.l ∧ (p.arm d).1.l ≤ 9223372036854775807 := by
  obtain ⟨h1, h2, h3, h4⟩ := h
  unfold inI64 at hd
  unfold DP.arm
  split
  · exact ⟨rfl, by omega, by simp only; omega, by simp only; omega, by simp only; omega⟩
  · split
    · exact ⟨rfl, by omega, by simp only; omega, by simp only; omega, by simp only; omega⟩
    · exact ⟨rfl, by omega, by simp only; omega, by simp only; omega, by simp only; omega⟩

set_option maxHeartbeats 400000 in
theorem filled_none (n L : Int) (hL : L < 0) (w : World) : Calls Tryd.prog 7 #[.int .i64 n, .int .i64 L] w fun x w' => ∃ v bs, x = .returned v ∧ OwnB w.heap.size w' v bs ∧ bs.length ≤ 1000 ∧ Below w.heap.size w w' := by
  have o0 := Lib.hid (owns_made0 w w.heap.size (Nat.le_refl _))
  have b0 : Below w.heap.size w (w.alloc (.cells #[] 5)) := (Below.refl _ _).alloc (Nat.le_refl _) _
  replace b0 := Lib.hid b0
  have h0 : ¬ (0 < L) := by omega
  clear hL
  go_enter Tryd.func7, Tryd.ntmps7
  go_wp2_with fail
  go_loopw [5, 8, 9, 10, 11, 12, 13, 14, 15, 16, 17, 18, 19, 20, 6] (fun v _ _ _ _ _ _ _ _ _ _ _ _ _ j wr => j = .int .i64 0 ∧ OwnB w.heap.size wr v [] ∧ Below w.heap.size w wr) (fun _ _ _ _ _ _ _ _ _ _ _ _ _ _ _ _ => 0)
  case atStart => exact ⟨rfl, o0.out, b0.out⟩
  case round =>
    obtain ⟨rfl, ho, hb⟩ := hrel
    replace ho := Lib.hid ho
    replace hb := Lib.hid hb
    clear o0 b0
    go_wp2_with fail
    go_ret
    exact ⟨_, [], rfl, ho.out, Nat.zero_le _, hb.out⟩
theorem filled_all (n L : Int) (hL : L ≤ 1000) (w : World) : Calls Tryd.prog 7 #[.int .i64 n, .int .i64 L] w fun x w' => ∃ v bs, x = .returned v ∧ OwnB w.heap.size w' v bs ∧ bs.length ≤ 1000 ∧ Below w.heap.size w w' := by
  by_cases h : L < 0
  · exact filled_none n L h w
  · have h1 := filled_any n L.toNat (by omega) w
    rw [show ((L.toNat : Nat) : Int) = L from by omega] at h1
    refine h1.mono ?_
    rintro x w' ⟨v, bs, rfl, h2, h3, h4⟩
    exact ⟨v, bs, rfl, h2, by omega, h4⟩
end Go.Proofs.YtdgilgnaoifpcaaDoor
