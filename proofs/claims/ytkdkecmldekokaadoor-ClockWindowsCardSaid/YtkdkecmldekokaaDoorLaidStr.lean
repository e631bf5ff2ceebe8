/- What the rows' list gives at an array of texts that stands behind the sentinels. -/
import Derived.Test.YtkdkecmldekokaaDoorSent
import Derived.Lib.LaidTab
namespace Go.Proofs.YtkdkecmldekokaaDoor
open Go.RowKit Go.ChangeShapes

section
variable {P : Program} {W : World}
theorem laid_drop (R : List (String × DataW Unit)) : ∀ (L : List (String × DataW Unit)) (ps : List MemPlace), DataW.LaidVars P W (L ++ R) ps → ∃ q, DataW.LaidVars P W R q := by
  intro L
  induction L with
  | nil => intro ps h; exact ⟨ps, h⟩
  | cons x L ih =>
    intro ps h
    obtain ⟨g0, t0, cs0, f0, p0, q0, hg0, ht0, hv0, hd0, hr0, e0⟩ := h
    exact ih q0 hr0

theorem cells_of_strs {H : Type} {enc : TypeId × Value → H} {w : World} {base : Nat} {sp : Nat → Bool} {held : Bool} {fuel : Nat} {t e : TypeId} {n : Nat} {cs : List Value} {ss : List (List UInt8)} {p : List MemPlace}
    (ht : P.underlying t = some (.array n e)) (he : P.underlying e = some .string) (hce : P.cellsOf e = 1) (hct : P.cellsOf t = n)
    (h : DataW.trod enc P w base sp held fuel t cs = some (.agg (ss.map fun s => .lit (.string s)), p)) : cs = ss.map fun s => Value.string ⟨s.toArray⟩ := by
  cases fuel with
  | zero => simp [DataW.trod] at h
  | succ fuel =>
    simp only [DataW.trod, ht, hce, hct, Nat.mul_one] at h
    split at h
    · rename_i hl
      obtain ⟨xs, hm, hx⟩ := Option.map_eq_some_iff.1 h
      have hxs : xs.map (·.1) = ss.map fun s => (DataW.lit (.string s) : DataW H) := by
        have := congrArg Prod.fst hx
        simpa using this
      have hxl : xs.length = n := by simpa using Go.Lib.mapM_length hm
      have hzl : ss.length = n := by
        have := congrArg List.length hxs
        simp at this
        omega
      apply List.ext_getElem?
      intro i
      by_cases hi : i < n
      · obtain ⟨b, hb, hf⟩ := Go.Lib.mapM_at hm i i (by simp [hi])
        obtain ⟨s, hc, rfl, _⟩ := DataW.trod_string he hf
        have h1 : cs[i]? = some (.string s) := by
          have := congrArg (·[0]?) hc
          simpa [List.getElem?_take, List.getElem?_drop] using this
        have h2 : (xs.map (·.1))[i]? = some (DataW.lit (.string s.data.toList) : DataW H) := by simp [hb]
        rw [hxs] at h2
        simp only [List.getElem?_map, Option.map_eq_some_iff, DataW.lit.injEq, Lit.string.injEq] at h2
        obtain ⟨s', hs', e2⟩ := h2
        simp [h1, hs', e2]
      · rw [List.getElem?_eq_none (by omega), List.getElem?_eq_none (by simp; omega)]
    · cases h

theorem strs_of_head {name : String} {ss : List (List UInt8)} {R : List (String × DataW Unit)} {ps : List MemPlace} {g : Nat} {t e : TypeId} {n : Nat}
    (hg : P.globalNamed name = some g) (hty : (P.globals[g]?).map (·.type) = some t) (ht : P.underlying t = some (.array n e)) (he : P.underlying e = some .string) (hce : P.cellsOf e = 1) (hct : P.cellsOf t = n)
    (h : DataW.LaidVars P W ((name, .agg (ss.map fun s => .lit (.string s))) :: R) ps) (i : Nat) (hi : i < ss.length) : W.cell? ⟨g, i, none⟩ = some (.string ⟨(ss.getD i []).toArray⟩) := by
  obtain ⟨g', t', cs, fuel, p, q, hg', ht', hvar, hd, _, _⟩ := h
  obtain rfl := Option.some.inj (hg.symm.trans hg')
  obtain rfl := Option.some.inj (hty.symm.trans ht')
  have e1 : cs = (ss.map fun s => Value.string ⟨s.toArray⟩).toArray := by rw [← cells_of_strs ht he hce hct hd]
  rw [e1] at hvar
  have := World.var?_cell hg' hvar i
  simpa [List.getD, hi] using this
end
end Go.Proofs.YtkdkecmldekokaaDoor
