/- The walk over disk.Arm. -/
import Derived.Test.YtdgilgnaoifpcaaDoorDiskC
namespace Go.Proofs.YtdgilgnaoifpcaaDoor
open Go.RowKit

/-- Arm, in plain words. -/
def DP.arm (p : DP) (n : Int) : DP × Nat := if n < 0 then (p, 1) else if p.gone = true then (p, 3) else ({ p with armed := true, l := n }, 0)
/-- The fields of the disk's block were changed, the map and the row were not. -/
theorem DM.upd {base : Nat} {w w' : World} {B mb mn : Nat} {v : Value} {p : DP} (h : DM base w B mb mn v p) {a : Bool} {l : Int} {g : Bool} (hU : Upd B (.cells (dcells p.n mb v a l g) 59 (0, 0)) w w') : DStep base w w' B mb v mn v { p with armed := a, l := l, gone := g } := by
  have hO : Only (fun k => k = B) w w' := Only.ofUpd hU rfl
  exact ⟨⟨hU.here, h.map.only hO h.hmB, hO.owns h.row (fun k hk => (h.vB k hk).1), h.hmB, h.vB, h.geB, h.gem, h.lens⟩, hO.mono (fun _ _ e => .inl e), fun _ h => .inl h⟩
set_option maxHeartbeats 400000 in
theorem darm_any {base : Nat} {w : World} {B mb mn : Nat} {v : Value} {p : DP} (h : DM base w B mb mn v p) (n : Int) (e : Nat → Addr) (hE : DErr w e) :
    Calls Tryd.prog 30 #[.pointer (some ⟨B, 0, none⟩), .int .i64 n] w fun x w' => x = .returned (errV e (p.arm n).2) ∧ DStep base w w' B mb v mn v (p.arm n).1 := by
  have c5 : w.cell? ⟨B, 5, none⟩ = some (.bool p.gone) := by rw [h.cell]; rfl
  have k1 := hE.range
  have k3 := hE.power
  have hst := Lib.hid (DStep.same h)
  unfold DP.arm
  by_cases h0 : n < 0
  · rw [if_pos h0]
    clear h hE c5
    go_enter Tryd.func30, Tryd.ntmps30
    go_wp2_with fail
    go_ret
    exact ⟨rfl, hst.out⟩
  · rw [if_neg h0]
    cases hg : p.gone
    · rw [if_neg (by decide)]
      rw [hg] at c5
      have c3 : w.cell? ⟨B, 3, none⟩ = some (.bool p.armed) := by rw [h.cell]; rfl
      have c4 : w.cell? ⟨B, 4, none⟩ = some (.int .i64 p.l) := by rw [h.cell]; rfl
      have f3 : w.frozen? ⟨B, 3, none⟩ = false := free_of_block h.at_ _
      have hU := (Upd.refl h.at_).setCell (j := 3) (.bool true)
      have f4 := free_of_block hU.here 4
      have hU2 := hU.setCell (j := 4) (.int .i64 n)
      have hfin := DM.upd (a := true) (l := n) (g := p.gone) h hU2
      rw [hg] at hfin
      replace hfin := Lib.hid hfin
      clear h hE hU hU2 hst k1 k3
      go_enter Tryd.func30, Tryd.ntmps30
      go_wp2_with fail
      go_ret
      exact ⟨rfl, hfin.out⟩
    · rw [if_pos rfl]
      rw [hg] at c5
      clear h hE k1
      go_enter Tryd.func30, Tryd.ntmps30
      go_wp2_with fail
      go_ret
      exact ⟨rfl, hst.out⟩
end Go.Proofs.YtdgilgnaoifpcaaDoor
