/- A disk in memory: its block, the map of its sectors, the writes that wait; what the doing of writes leaves. -/
import Derived.Test.YtdgilgnaoifpcaaDoorDone
namespace Go.Proofs.YtdgilgnaoifpcaaDoor
open Go.RowKit

structure DiskOk (base : Nat) (w : World) (B : Nat) (T : TypeId) (n : Int) (mb mn : Nat) (f : Int → List UInt8) (v : Value) (ws : List (Int × List UInt8)) (armed : Bool) (l : Int) (gone : Bool) : Prop where
  at_ : w.heap[B]? = some (.cells (dcells n mb v armed l gone) T (0, 0))
  map : SureMap w mb mn f
  row : w.ownsRow base 64 65 v ws.length (wcellsW ws)
  hmB : mb ≠ B
  vB : ∀ k, v.ownBlock = some k → k ≠ B ∧ k ≠ mb
  geB : base ≤ B
  gem : base ≤ mb
  lens : ∀ p ∈ ws, p.2.length = 64 ∧ 0 ≤ p.1 ∧ p.1 < n
def DiskD (B mb : Nat) (v : Value) (k : Nat) : Prop := k = B ∨ k = mb ∨ v.ownBlock = some k
theorem DiskOk.only {base : Nat} {w w' : World} {B : Nat} {T : TypeId} {n : Int} {mb mn : Nat} {f : Int → List UInt8} {v : Value} {ws : List (Int × List UInt8)} {armed : Bool} {l : Int} {gone : Bool} {D : Nat → Prop} (h : DiskOk base w B T n mb mn f v ws armed l gone) (hO : Only D w w') (hd : ∀ k, DiskD B mb v k → ¬ D k) : DiskOk base w' B T n mb mn f v ws armed l gone :=
  ⟨hO.heap h.at_ (hd B (.inl rfl)), h.map.only hO (hd mb (.inr (.inl rfl))), hO.owns h.row (fun k hk => hd k (.inr (.inr hk))), h.hmB, h.vB, h.geB, h.gem, h.lens⟩
theorem DiskOk.lt {base : Nat} {w : World} {B : Nat} {T : TypeId} {n : Int} {mb mn : Nat} {f : Int → List UInt8} {v : Value} {ws : List (Int × List UInt8)} {armed : Bool} {l : Int} {gone : Bool} (h : DiskOk base w B T n mb mn f v ws armed l gone) : ∀ k, DiskD B mb v k → base ≤ k ∧ k < w.heap.size := by
  rintro k (rfl | rfl | hk)
  · exact ⟨h.geB, block_lt h.at_⟩
  · exact ⟨h.gem, h.map.lt⟩
  · exact World.ownsRow.lt h.row k hk

/-- The sectors behind the doing of writes: of the j-th its first 'ks j' bytes, or nothing of it. -/
def doneK : (Nat → Option Nat) → List (Int × List UInt8) → (Int → List UInt8) → Int → List UInt8
  | _, [], f => f
  | ks, p :: ws, f => doneK (fun j => ks (j + 1)) ws (match ks 0 with
    | some k => fun j => if j = p.1 then overB k p.2 (f p.1) else f j
    | none => f)
theorem doneK_snoc (ws : List (Int × List UInt8)) : ∀ (ks : Nat → Option Nat) (p : Int × List UInt8) (f : Int → List UInt8), doneK ks (ws ++ [p]) f = match ks ws.length with
    | some k => fun j => if j = p.1 then overB k p.2 (doneK ks ws f p.1) else doneK ks ws f j
    | none => doneK ks ws f := by
  induction ws with
  | nil => intro ks p f; rfl
  | cons q ws ih =>
    intro ks p f
    rw [List.cons_append]
    unfold doneK
    rw [ih]
    rfl
theorem doneK_take {ws : List (Int × List UInt8)} {j : Nat} (hj : j < ws.length) (ks : Nat → Option Nat) (f : Int → List UInt8) : doneK ks (ws.take (j + 1)) f = match ks j with
    | some k => fun x => if x = ws[j].1 then overB k ws[j].2 (doneK ks (ws.take j) f ws[j].1) else doneK ks (ws.take j) f x
    | none => doneK ks (ws.take j) f := by
  rw [List.take_succ_eq_append_getElem hj, doneK_snoc, List.length_take, Nat.min_eq_left (Nat.le_of_lt hj)]

theorem wcellsW_length {ws : List (Int × List UInt8)} (h : ∀ p ∈ ws, p.2.length = 64) : (wcellsW ws).length = ws.length * 65 := by
  induction ws with
  | nil => rfl
  | cons p ws ih =>
    simp only [wcellsW, List.flatMap_cons, List.length_append, List.length_cons] at ih ⊢
    rw [ih (fun q hq => h q (List.mem_cons_of_mem _ hq)), cB_length, h p (List.mem_cons_self ..)]
    omega
theorem wcellsW_at {ws : List (Int × List UInt8)} (h : ∀ p ∈ ws, p.2.length = 64) : ∀ (j : Nat) (hj : j < ws.length) (i : Nat) (u : Value), (Value.int .i64 ws[j].1 :: cB ws[j].2)[i]? = some u → (wcellsW ws)[j * 65 + i]? = some u := by
  induction ws with
  | nil => intro j hj; exact absurd hj (Nat.not_lt_zero _)
  | cons p ws ih =>
    intro j hj i u hu
    have hp := h p (List.mem_cons_self ..)
    have hl : (Value.int IntKind.i64 p.1 :: cB p.2).length = 65 := by simp [cB_length, hp]
    cases j with
    | zero =>
      simp only [List.getElem_cons_zero] at hu
      show (Value.int IntKind.i64 p.1 :: cB p.2 ++ wcellsW ws)[0 * 65 + i]? = some u
      have hi := (List.getElem?_eq_some_iff.1 hu).1
      rw [Nat.zero_mul, Nat.zero_add, List.getElem?_append_left hi]
      exact hu
    | succ j =>
      show (Value.int IntKind.i64 p.1 :: cB p.2 ++ wcellsW ws)[(j + 1) * 65 + i]? = some u
      rw [List.getElem?_append_right (by omega), hl, show (j + 1) * 65 + i - 65 = j * 65 + i by omega]
      exact ih (fun q hq => h q (List.mem_cons_of_mem _ hq)) j (by simpa using hj) i u hu
theorem row_range {base : Nat} {w : World} {g m cap : Nat} {ws : List (Int × List UInt8)} (h : w.ownsRow base 64 65 (.slice (some ⟨g, 0, none⟩) m cap) ws.length (wcellsW ws)) (hl : ∀ p ∈ ws, p.2.length = 64) (j : Nat) (hj : j < ws.length) :
    w.rangeAt g (j * 65) (.int .i64 ws[j].1 :: cB ws[j].2) := by
  intro i u hu
  rcases h.2 with ⟨e, _⟩ | ⟨g', cap', cur, e1, _, e3, _, _, e6, e7⟩
  · cases e
  · cases e1
    rw [cell_of_block e3, ← Array.getElem?_toList]
    have h1 := wcellsW_at hl j hj i u hu
    rw [← e7, List.getElem?_take] at h1
    split at h1
    · exact h1
    · cases h1
end Go.Proofs.YtdgilgnaoifpcaaDoor
