/- What the rows' list gives at tables of integers, wherever they stand on it; a list of lists of bytes that came in. -/
import Derived.Lib.LaidTab
import Derived.Deep.Matrix
import Derived.Test.YtgkddegaiaeckaaDoorF8SafeSaid
namespace Go.Proofs.YtgkddegaiaeckaaDoor
open Go.RowKit Go.ChangeShapes

section
variable {P : Program} {W : World}
theorem laidVars_drop (R : List (String × DataW Unit)) : ∀ (L : List (String × DataW Unit)) (ps : List MemPlace), DataW.LaidVars P W (L ++ R) ps → ∃ q, DataW.LaidVars P W R q := by
  intro L
  induction L with
  | nil => intro ps h; exact ⟨ps, h⟩
  | cons x L ih =>
    intro ps h
    obtain ⟨g0, t0, cs0, f0, p0, q0, hg0, ht0, hv0, hd0, hr0, e0⟩ := h
    exact ih q0 hr0
theorem laidVars_dropA (R : List (String × DataW Unit)) : ∀ (L : List (String × DataW Unit)) (ps : List MemPlace), DataW.LaidVars P W (L ++ R) ps → ∃ q r, ps = q ++ r ∧ DataW.LaidVars P W R r := by
  intro L
  induction L with
  | nil => intro ps h; exact ⟨[], ps, rfl, h⟩
  | cons x L ih =>
    intro ps h
    obtain ⟨g0, t0, cs0, f0, p0, q0, hg0, ht0, hv0, hd0, hr0, e0⟩ := h
    obtain ⟨q, r, e1, hr⟩ := ih q0 hr0
    exact ⟨MemPlace.row ⟨g0, 0, none⟩ cs0.size ++ p0 ++ q, r, by rw [e0, e1]; simp only [List.append_assoc], hr⟩
/-- A table on the list, whole. -/
theorem tab_row {name : String} {k : IntKind} {zs : List Int} {R : List (String × DataW Unit)} {ps : List MemPlace} {g : Nat} {t e : TypeId} {n : Nat}
    (hg : P.globalNamed name = some g) (hty : (P.globals[g]?).map (·.type) = some t) (ht : P.underlying t = some (.array n e)) (he : P.underlying e = some (.int k)) (hce : P.cellsOf e = 1) (hct : P.cellsOf t = n)
    (h : DataW.LaidVars P W ((name, Go.Lib.tabData k zs) :: R) ps) : ∃ t' fr, W.heap[g]? = some (.cells (zs.map fun z => Value.int k z).toArray t' fr) := by
  obtain ⟨g', t', cs, fuel, p, q, hg', ht', hvar, hd, _, _⟩ := h
  obtain rfl := Option.some.inj (hg.symm.trans hg')
  obtain rfl := Option.some.inj (hty.symm.trans ht')
  have e1 : cs = (zs.map fun z => Value.int k z).toArray := by rw [← Go.Lib.cells_of_tab ht he hce hct hd]
  subst e1
  simp only [World.var?, hg, Option.bind_some] at hvar
  split at hvar
  · rename_i cs2 t2 fr2 hh
    injection hvar with hvar
    subst hvar
    exact ⟨t2, fr2, hh⟩
  · cases hvar
end

section
variable {H : Type} {enc : TypeId × Value → H} {P : Program} {w : World}
/-- A list of lists of bytes that came in. -/
theorem open_argBB {t e q : TypeId} {v : Value} {d : DataW H} {p : List MemPlace} (ht : P.underlying t = some (.slice e)) (he : P.underlying e = some (.slice q)) (hq : P.underlying q = some (.int .u8)) (ce : P.cellsOf e = 1) (cq : P.cellsOf q = 1)
    (hv : ∃ a len cap, v = .slice a len cap) (h : DataW.Trod enc P w 0 (fun _ => true) true t v d p) : ∃ a cap ps, v = .slice a (List.length ps) cap ∧ ArgBB w a cap ps := by
  obtain ⟨a0, len, cap, rfl⟩ := hv
  obtain ⟨fuel, hf⟩ := h
  rcases Go.Deep.open_int_rows ht he hq ce cq hf with ⟨hcs, _⟩ | ⟨a, len', cap', A, L, C, Z, hcs, _, hl, hm, _, hrow⟩
  · simp [Value.cells] at hcs
    obtain ⟨rfl, rfl, rfl⟩ := hcs
    exact ⟨none, 0, [], rfl, Nat.le_refl _, Nat.zero_le _, fun _ => rfl, fun i hi => absurd hi (Nat.not_lt_zero i)⟩
  · simp [Value.cells] at hcs
    obtain ⟨rfl, rfl, rfl⟩ := hcs
    refine ⟨some a, cap, (List.range len).map fun r => ((Z r).take (L r)).map fun n => UInt8.ofNat n.toNat, by simp, by simpa using hl, hm, (fun e => by cases e), fun i hi => ?_⟩
    have hi' : i < len := by simpa using hi
    obtain ⟨hc, hLC, hCm, hZ, hwf, hnil, hcells⟩ := hrow i (by omega)
    obtain ⟨b, off, spot⟩ := a
    have hspot : spot = none := by simpa [Addr.add] using World.cell?_spot (hrow 0 (by omega)).1
    subst hspot
    have e1 : (⟨b, off, none⟩ : Addr).add i = ⟨b, off + i, none⟩ := by unfold Addr.add; split <;> simp_all
    rw [e1] at hc
    have hget : ((List.range len).map fun r => ((Z r).take (L r)).map fun n => UInt8.ofNat n.toNat).getD i [] = ((Z i).take (L i)).map fun n => UInt8.ofNat n.toNat := by simp [hi']
    have hlen : (((Z i).take (L i)).map fun n => UInt8.ofNat n.toNat).length = L i := by simp [hZ, hLC]
    rw [hget]
    refine ⟨b, off, rfl, A i, C i, by rw [hc, hlen], by rw [hlen]; exact hLC, hCm, hnil, fun j hj => ?_⟩
    rw [hlen] at hj
    cases hA : A i with
    | none => have := hnil hA; omega
    | some a' =>
      obtain ⟨_, hx⟩ := hcells a' hA
      have hx0 := hx j (by omega)
      obtain ⟨b', off', spot'⟩ := a'
      have hspot' : spot' = none := by simpa [Addr.add] using World.cell?_spot (hx 0 (by omega))
      subst hspot'
      have e2 : (⟨b', off', none⟩ : Addr).add j = ⟨b', off' + j, none⟩ := by unfold Addr.add; split <;> simp_all
      rw [e2] at hx0
      refine ⟨b', off', rfl, ?_⟩
      rw [hx0]
      have hjZ : j < (Z i).length := by omega
      have hz := u8_of_wf (hwf ((Z i)[j]) (List.getElem_mem hjZ))
      have hg1 : (((Z i).take (L i)).map fun n => UInt8.ofNat n.toNat).getD j 0 = UInt8.ofNat ((Z i)[j]).toNat := by
        rw [List.getD_eq_getElem?_getD, List.getElem?_map, List.getElem?_take, if_pos hj, List.getElem?_eq_getElem hjZ]; rfl
      have hg2 : (Z i).getD j 0 = (Z i)[j] := by rw [List.getD_eq_getElem?_getD, List.getElem?_eq_getElem hjZ]; rfl
      rw [hg1, hg2, hz]
end

/-! ### the tables of SHA-256 -/
def shaFirst : List Int := (tabW 8 (sAt s8First)).map wn
def shaAdded : List Int := kList.map wn
theorem shaFirst_row : (shaFirst.map fun z => Value.int .u32 z).toArray = c8 s8First := by kernel_rfl
theorem shaFirst_at {W : World} {g : Nat} {t : TypeId} {fr : Nat × Nat} (h : W.heap[g]? = some (.cells (shaFirst.map fun z => Value.int .u32 z).toArray t fr)) (i : Nat) (hi : i < 8) : W.cell? ⟨g, i, none⟩ = some (.int .u32 (wn (sAt s8First i))) := by
  rw [cell_of_row W g i _ t fr h, shaFirst_row, c8_at s8First hi]
theorem shaAdded_at {W : World} {g : Nat} {t : TypeId} {fr : Nat × Nat} (h : W.heap[g]? = some (.cells (shaAdded.map fun z => Value.int .u32 z).toArray t fr)) (i : Nat) (hi : i < 64) : W.cell? ⟨g, i, none⟩ = some (.int .u32 (wn (kAt i))) := by
  rw [cell_of_row W g i _ t fr h]
  have hk : kList.length = 64 := rfl
  unfold shaAdded kAt
  simp only [List.getElem?_toArray, List.getElem?_map, List.map_map, List.getD_eq_getElem?_getD]
  rw [List.getElem?_eq_getElem (by omega)]
  rfl

end Go.Proofs.YtgkddegaiaeckaaDoor
