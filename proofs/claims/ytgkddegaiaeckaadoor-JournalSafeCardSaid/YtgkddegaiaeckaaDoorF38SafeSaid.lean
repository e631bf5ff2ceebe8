/- The walks over disk.Arm, and over journal.Append and Put where they answer errors at once. -/
import Derived.Test.YtgkddegaiaeckaaDoorF30SafeSaid
namespace Go.Proofs.YtgkddegaiaeckaaDoor
open Go.RowKit

/-- Arm, in plain words. -/
def DP.arm (p : DP) (n : Int) : DP × Nat := if n < 0 then (p, 1) else if p.gone = true then (p, 3) else ({ p with armed := true, l := n }, 0)
/-- The fields of the disk's block were changed, the map and the row were not. -/
theorem DM.upd {base : Nat} {w w' : World} {B mb mn : Nat} {v : Value} {p : DP} (h : DM base w B mb mn v p) {a : Bool} {l : Int} {g : Bool} (hU : Upd B (.cells (dcells p.n mb v a l g) 72 (0, 0)) w w') : DStep base w w' B mb v mn v { p with armed := a, l := l, gone := g } := by
  have hO : Only (fun k => k = B) w w' := Only.ofUpd hU rfl
  exact ⟨⟨hU.here, h.map.only hO h.hmB, hO.owns h.row (fun k hk => (h.vB k hk).1), h.hmB, h.vB, h.geB, h.gem, h.lens⟩, hO.mono (fun _ _ e => .inl e), fun _ h => .inl h⟩
set_option maxHeartbeats 400000 in
theorem darm_any {base : Nat} {w : World} {B mb mn : Nat} {v : Value} {p : DP} (h : DM base w B mb mn v p) (n : Int) (e : Nat → Addr) (hE : DErr w e) :
    Calls Tryd.prog 15 #[.pointer (some ⟨B, 0, none⟩), .int .i64 n] w fun x w' => x = .returned (errV e (p.arm n).2) ∧ DStep base w w' B mb v mn v (p.arm n).1 := by
  have c5 : w.cell? ⟨B, 5, none⟩ = some (.bool p.gone) := by rw [h.cell]; rfl
  have k1 := hE.range
  have k3 := hE.power
  have hst := Lib.hid (DStep.same h)
  unfold DP.arm
  by_cases h0 : n < 0
  · rw [if_pos h0]
    clear h hE c5
    go_enter Tryd.func15, Tryd.ntmps15
    go_wp2_with fail
    go_ret
    exact ⟨rfl, hst.out⟩
  · rw [if_neg h0]
    cases hg : p.gone
    · rw [if_neg (by decide)]
      rw [hg] at c5
      have c3 : w.cell? ⟨B, 3, none⟩ = some (.bool p.armed) := by rw [h.cell]; rfl
      have c4 : w.cell? ⟨B, 4, none⟩ = some (.int .i64 p.l) := by rw [h.cell]; rfl
      have f3 : w.frozen? ⟨B, 3, none⟩ = false := free_of_block h.at_ _
      have hU := (Upd.refl h.at_).setCell (j := 3) (.bool true)
      have f4 := free_of_block hU.here 4
      have hU2 := hU.setCell (j := 4) (.int .i64 n)
      have hfin := DM.upd (a := true) (l := n) (g := p.gone) h hU2
      rw [hg] at hfin
      replace hfin := Lib.hid hfin
      clear h hE hU hU2 hst k1 k3
      go_enter Tryd.func15, Tryd.ntmps15
      go_wp2_with fail
      go_ret
      exact ⟨rfl, hfin.out⟩
    · rw [if_pos rfl]
      rw [hg] at c5
      clear h hE k1
      go_enter Tryd.func15, Tryd.ntmps15
      go_wp2_with fail
      go_ret
      exact ⟨rfl, hst.out⟩

/-- ErrFull is there. -/
abbrev FullE (w : World) : Prop := ∃ a, w.cell? ⟨5, 0, none⟩ = some (.iface 161 (.pointer (some a)))
theorem FullE.below {w w' : World} (h : FullE w) (hb : Below w.heap.size w w') : FullE w' := by
  obtain ⟨a, ha⟩ := h
  exact ⟨a, (hb.cell (World.block_lt_of_cell? w _ ha)).trans ha⟩
def ErrPost (w : World) (x : Ending) (w' : World) : Prop := (∃ u, x = .returned (.iface 161 (.pointer (some u)))) ∧ Below w.heap.size w w'
set_option maxHeartbeats 400000 in
theorem append_size {base : Nat} {w : World} {J B : Nat} {rv : Value} {F : Nat → Prop} {recs : List (List UInt8)} {sure : Nat} (h : JM base w J B rv F recs sure false) (e : Nat → Addr) (hE : DErr w e) (a : Option Addr) (m c : Nat) (hm : m < 1 ∨ 400 < m) (hm2 : m ≤ 9223372036854775807) :
    Calls Tryd.prog 17 #[.pointer (some ⟨J, 0, none⟩), .slice a m c] w (ErrPost w) := by
  have hc36 := h.cell36
  have k2 := hE.size
  have hsd := fun W => sized_any (m : Int) W
  rw [show decide (1 ≤ (m : Int) ∧ (m : Int) ≤ 400) = false by simp; omega] at hsd
  replace hsd := Lib.hid hsd
  clear h hE hm
  go_enter Tryd.func17, Tryd.ntmps17
  go_wp2_with fail
  with_reducible refine (hsd.out _).mono ?_
  rintro x w0 ⟨rfl, hq⟩
  obtain rfl := hq
  clear hsd
  go_wp2_with fail
  go_ret
  exact ⟨⟨_, rfl⟩, Below.refl _ _⟩
set_option maxHeartbeats 400000 in
theorem append_full {base : Nat} {w : World} {J B mb mn : Nat} {v rv : Value} {F : Nat → Prop} {p : DP} {recs : List (List UInt8)} {sure : Nat} (h : JD base w J B mb mn v rv F p recs sure false) (n : Nat) (hpn : p.n = (n : Int)) (hn : n ≤ 1000) (hE64 : endB recs ≤ 64 * n) (hfu : FullE w) (a : Option Addr) (m c : Nat) (h1 : 1 ≤ m) (h4 : m ≤ 400) (hm : roomP n (endB recs) < m) :
    Calls Tryd.prog 17 #[.pointer (some ⟨J, 0, none⟩), .slice a m c] w (ErrPost w) := by
  have hc36 := h.jm.cell36
  obtain ⟨ef, hef⟩ := hfu
  have hrm := room_any h n hpn hn hE64
  have hsd := fun W => sized_any (m : Int) W
  rw [show decide (1 ≤ (m : Int) ∧ (m : Int) ≤ 400) = true by simp; omega] at hsd
  replace hsd := Lib.hid hsd
  generalize roomP n (endB recs) = R at *
  have hlt : (R : Int) < (m : Int) := by omega
  replace hrm := Lib.hid hrm
  clear h hm
  go_enter Tryd.func17, Tryd.ntmps17
  go_wp2_with fail
  with_reducible refine (hsd.out _).mono ?_
  rintro x w0 ⟨rfl, hq⟩
  obtain rfl := hq
  clear hsd
  go_wp2_with fail
  with_reducible refine hrm.out.mono ?_
  rintro x w1 ⟨rfl, nd, rfl⟩
  clear hrm
  have hef1 : (w.drewN nd).cell? ⟨5, 0, none⟩ = some (.iface 161 (.pointer (some ef))) := by rw [World.cell?_drewN]; exact hef
  go_wp2_with fail
  go_ret
  exact ⟨⟨_, rfl⟩, Drawn.below ⟨nd, rfl⟩ _⟩
set_option maxHeartbeats 400000 in
theorem put_err (w : World) (J : Nat) (a : Option Addr) (m c : Nat) (h : Calls Tryd.prog 17 #[.pointer (some ⟨J, 0, none⟩), .slice a m c] w (ErrPost w)) :
    Calls Tryd.prog 19 #[.pointer (some ⟨J, 0, none⟩), .slice a m c] w (ErrPost w) := by
  replace h := Lib.hid h
  go_enter Tryd.func19, Tryd.ntmps19
  go_wp2_with fail
  with_reducible refine h.out.mono ?_
  clear h
  rintro x w1 ⟨⟨u, rfl⟩, hb⟩
  replace hb := Lib.hid hb
  go_wp2_with fail
  go_ret
  exact ⟨⟨_, rfl⟩, hb.out⟩
end Go.Proofs.YtgkddegaiaeckaaDoor
