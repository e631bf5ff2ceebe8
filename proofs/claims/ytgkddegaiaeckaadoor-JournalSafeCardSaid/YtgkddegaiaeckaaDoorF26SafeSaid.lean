/- Disk: Sure, Read in the plain machine's words; the chapter's example. -/
import Derived.Test.YtgkddegaiaeckaaDoorF25SafeSaid
namespace Go.Proofs.YtgkddegaiaeckaaDoor
open Go.RowKit

theorem dsure_dm {base : Nat} {w : World} {B mb mn : Nat} {v : Value} {p : DP} (h : DM base w B mb mn v p) (hn : p.n ≤ 2048) (i : Int) (h0 : 0 ≤ i) (h1 : i < p.n) :
    Calls Tryd.prog 68 #[.pointer (some ⟨B, 0, none⟩), .int .i64 i] w fun x w' => ∃ g, x = .returned (.tuple #[.slice (some ⟨g, 0, none⟩) 64 64, .nilIface]) ∧ SecBlk w' g (p.f i) ∧ w.heap.size ≤ g ∧ Below w.heap.size w w' :=
  dsure_yes B mb mn p.f p.n i h0 h1 hn w (by rw [h.cell]; rfl) (by rw [h.cell]; rfl) h.map
theorem dread_dm {base : Nat} {w : World} {B mb mn : Nat} {v : Value} {p : DP} (h : DM base w B mb mn v p) (hn : p.n ≤ 2048) (hws : p.ws.length ≤ 100000) (hg : p.gone = false) (i : Int) (h0 : 0 ≤ i) (h1 : i < p.n) :
    Calls Tryd.prog 51 #[.pointer (some ⟨B, 0, none⟩), .int .i64 i] w fun x w' => ∃ g off, x = .returned (.tuple #[.slice (some ⟨g, off, none⟩) 64 64, .nilIface]) ∧ RdBlk w' g off (seenW p.ws p.f i) ∧ w.heap.size ≤ g ∧ Below w.heap.size w w' := by
  obtain ⟨a, c, rfl⟩ := h.form
  exact dread_yes B mb mn p.f p.n i h0 h1 hn w a c p.ws (by omega) (by rw [h.cell]; rfl) (by rw [h.cell]; rfl) (by rw [h.cell]; rfl) (by rw [h.cell, hg]; rfl) h.map (fun q hq => (h.lens q hq).1) h.rowN
end Go.Proofs.YtgkddegaiaeckaaDoor
