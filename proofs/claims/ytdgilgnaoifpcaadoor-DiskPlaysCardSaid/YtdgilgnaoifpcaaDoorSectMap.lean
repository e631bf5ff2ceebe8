/- The map of a disk's sectors: what it reads as, sector by sector. -/
import Derived.Test.YtdgilgnaoifpcaaDoorOwnB
import Derived.Test.YtdgilgnaoifpcaaDoorOnly
import Derived.Maps.Own
import Derived.Maps.Views
import Derived.Maps.OwnOps
namespace Go.Proofs.YtdgilgnaoifpcaaDoor
open Go.RowKit Go.Maps

/-- A sector as a value. -/
def secV (bs : List UInt8) : Value := .agg (cB bs).toArray
theorem cB_inj {a b : List UInt8} (h : cB a = cB b) : a = b := by
  have : ∀ (a b : List UInt8), cB a = cB b → a = b := by
    intro a
    induction a with
    | nil => intro b h; cases b with
      | nil => rfl
      | cons y b => simp [cB] at h
    | cons x a ih =>
      intro b h
      cases b with
      | nil => simp [cB] at h
      | cons y b =>
        simp only [cB, List.map_cons, List.cons.injEq, Value.int.injEq, true_and] at h
        have h1 : x = y := UInt8.toNat_inj.1 (by omega)
        rw [h1, ih b h.2]
  exact this a b h
theorem secV_inj {a b : List UInt8} (h : secV a = secV b) : a = b := by
  unfold secV at h
  injection h with h
  exact cB_inj (by simpa using congrArg Array.toList h)
open Classical in
/-- How an element reads: its bytes, as a text. -/
noncomputable def secR (v : Value) : Option (DataW Unit × List MemPlace) := if h : ∃ bs : List UInt8, bs.length = 64 ∧ v = secV bs then some (.lit (.string h.choose), []) else none
theorem secR_mk {bs : List UInt8} (hl : bs.length = 64) : secR (secV bs) = some (.lit (.string bs), []) := by
  have h : ∃ b : List UInt8, b.length = 64 ∧ secV bs = secV b := ⟨bs, hl, rfl⟩
  unfold secR
  rw [dif_pos h, ← secV_inj h.choose_spec.2]
theorem secR_inv {v : Value} {bs : List UInt8} {ps : List MemPlace} (h : secR v = some (.lit (.string bs), ps)) : v = secV bs ∧ bs.length = 64 := by
  unfold secR at h
  split at h
  · next hh =>
    have e : hh.choose = bs := by
      injection h with h
      injection h with h1 _
      injection h1 with h1
      injection h1
    rw [← e]
    exact ⟨hh.choose_spec.2, hh.choose_spec.1⟩
  · cases h

def zSec : List UInt8 := List.replicate 64 0
/-- The map in block b: sector i holds f i. -/
def SureMap (w : World) (b n : Nat) (f : Int → List UInt8) : Prop :=
  ∃ D : DataW Unit, w.ownsMap Tryd.prog 3 secR b n D ∧ IsMap D ∧ (∀ i, (f i).length = 64) ∧ ∀ i, -9223372036854775808 ≤ i → i ≤ 9223372036854775807 → D.atKey (.int .i64 i) (.lit (.string zSec)) = .lit (.string (f i))
theorem SureMap.made (w : World) : SureMap (w.alloc (.map #[] 0)) w.heap.size 0 (fun _ => zSec) :=
  ⟨_, World.ownsMap_made w _ _ _, isMap_empty, fun _ => by simp [zSec], fun _ _ _ => rfl⟩
theorem SureMap.lt {w : World} {b n : Nat} {f : Int → List UInt8} (h : SureMap w b n f) : b < w.heap.size := by obtain ⟨D, h, _⟩ := h; exact h.lt
theorem SureMap.only {w w' : World} {b n : Nat} {f : Int → List UInt8} {D : Nat → Prop} (h : SureMap w b n f) (hO : Only D w w') (hd : ¬ D b) : SureMap w' b n f := by
  obtain ⟨E, ⟨es, clock, hb, F, hs, he⟩, h2, h3, h4⟩ := h
  exact ⟨E, ⟨es, clock, (hO.block b (block_lt hb) hd).trans hb, F, hs, he⟩, h2, h3, h4⟩
theorem SureMap.mono {w : World} {b n n' : Nat} {f : Int → List UInt8} (h : SureMap w b n f) (hn : n ≤ n') : SureMap w b n' f := by
  obtain ⟨E, h1, h2, h3, h4⟩ := h
  exact ⟨E, h1.mono hn, h2, h3, h4⟩
theorem key_int {i : Int} (h1 : -9223372036854775808 ≤ i) (h2 : i ≤ 9223372036854775807) : keyOf Tryd.prog 3 (.int .i64 i) = some (.int .i64 i) :=
  keyOf_int_mk Tryd.underlying3 (WalkArith.wf_i64 ⟨h1, h2⟩)
theorem zero_sector (w : World) : (zeroValue 62).run Tryd.prog w = .ok (secV zSec) w := by
  rw [show secV zSec = .agg (cB zSec).toArray from rfl]
  kernel_rfl

section
variable {w : World} {ops : Array Oper} {rest : List Oper} {o : Oper} {a : Act} {Q : Exit → Act → World → Prop}
/-- 'm[i]'. -/
theorem wpList_look (hg : o.guard = none) (m x : Operand) (hop : o.op = Op.lookup 56 m x false) (b n : Nat) (f : Int → List UInt8) (hm : a.eval m = .map (some b)) (h : Hid (SureMap w b n f))
    (i : Int) (hx : a.eval x = .int .i64 i) (h1 : -9223372036854775808 ≤ i) (h2 : i ≤ 9223372036854775807) (hK : wpList Tryd.prog ops Q rest (a.put o.dst (secV (f i))) w) : wpList Tryd.prog ops Q (o :: rest) a w := by
  refine wpList_plain hg fun K' hK' => ?_
  obtain ⟨D, ho, hD, hl, hat⟩ := h.out
  obtain ⟨v, ps, hrun, hv⟩ := ho.lookup (int_keyed Tryd.underlying3) Tryd.underlying56 (zero_sector w) (secR_mk (by simp [zSec])) (key_int h1 h2)
  rw [hat i h1 h2] at hv
  obtain ⟨rfl, _⟩ := secR_inv hv
  unfold Oper.wp
  simp [execOp, hop, hm, hx, hrun, Result.andThen]
  exact hK' _ _ hK
/-- 'm[i] = s'. -/
theorem wpList_put (hg : o.guard = none) (m x v : Operand) (hop : o.op = Op.mapUpdate 56 m x v) (b n : Nat) (f : Int → List UInt8) (hm : a.eval m = .map (some b)) (h : Hid (SureMap w b n f)) (hn : n < maxLen)
    (i : Int) (hx : a.eval x = .int .i64 i) (h1 : -9223372036854775808 ≤ i) (h2 : i ≤ 9223372036854775807) (bs : List UInt8) (hv : a.eval v = secV bs) (hl : bs.length = 64)
    (hK : ∀ w', Hid (SureMap w' b (n + 1) (fun j => if j = i then bs else f j)) → Hid (w.grownBy w' (some b)) → wpList Tryd.prog ops Q rest (a.put o.dst undef) w') : wpList Tryd.prog ops Q (o :: rest) a w := by
  obtain ⟨D, ho, hD, hfl, hat⟩ := h.out
  refine wpList_mapUpdate_own w hg m x v 56 hop 3 62 (int_keyed Tryd.underlying3) Tryd.underlying56 secR b n D hm ho hn (.int .i64 i) (secV bs) (.int .i64 i) hx hv (key_int h1 h2) _ [] (secR_mk hl) ?_
  intro w' k1 k2
  refine hK w' (Lib.hid ⟨_, k1, hD.put _ _, fun j => ?_, fun j j1 j2 => ?_⟩) (Lib.hid k2)
  · show (if j = i then bs else f j).length = 64
    split
    · exact hl
    · exact hfl j
  · show (D.put (.int .i64 i) (.lit (.string bs))).atKey (.int .i64 j) (.lit (.string zSec)) = .lit (.string (if j = i then bs else f j))
    by_cases hji : j = i
    · subst hji
      rw [if_pos rfl]
      exact atKey_put_same hD (by simp [WideAt.IsKeyLit]) _ _
    · rw [if_neg hji, atKey_put_other (by simpa using hji)]
      exact hat j j1 j2
end
end Go.Proofs.YtdgilgnaoifpcaaDoor
