/- The walks over stream.of, Block, Number, Mask. -/
import Derived.Test.YtmngcnhnpfnloaaDoorMakerB
import Derived.Test.YtmngcnhnpfnloaaDoorRetTmp
namespace Go.Proofs.YtmngcnhnpfnloaaDoor
open Go.RowKit

abbrev gRange : Nat := 0
abbrev gSize : Nat := 7

theorem ArgB.upd {W W' : World} {g c p : Nat} {o : Obj} {bs : List UInt8} (h : ArgB W (some ⟨g, 0, none⟩) c bs) (hu : Upd p o W W') (hne : g ≠ p) : ArgB W' (some ⟨g, 0, none⟩) c bs :=
  ⟨h.len, h.most, h.nil, fun i hi => by
    obtain ⟨b, off, e, hc⟩ := h.row i hi
    cases e
    refine ⟨g, 0, rfl, ?_⟩
    rw [← hc]
    exact World.cell?_of_block (a := ⟨g, 0 + i, none⟩) (hu.block g hne)⟩
theorem KeyAt.upd {W W' : World} {b p : Nat} {o : Obj} {key : List UInt8} {q : Option Addr} (h : KeyAt W b key) (hu : Upd p o W W') (hc : W.cell? ⟨p, 0, none⟩ = some (.pointer q)) : KeyAt W' b key := by
  obtain ⟨g1, g2, h1, h2, h3⟩ := h
  have hb : b ≠ p := by
    rintro rfl
    rw [cell_of_block h1] at hc
    cases hc
  have hg : ∀ g c l, ArgB W (some ⟨g, 0, none⟩) c l → 0 < l.length → g ≠ p := by
    rintro g c l ha hl rfl
    obtain ⟨b', off', e, hx⟩ := ha.row 0 hl
    cases e
    rw [Nat.zero_add, hc] at hx
    cases hx
  exact ⟨g1, g2, (hu.block b hb).trans h1, h2.upd hu (hg _ _ _ h2 (by rw [ipad_length]; omega)), h3.upd hu (hg _ _ _ h3 (by rw [opad_length]; omega))⟩

end Go.Proofs.YtmngcnhnpfnloaaDoor
