/- JournalSafe: the plain laws: behind a crash each byte is the one that was laid, or nought; what is read then. -/
import Derived.Test.YtgkddegaiaeckaaDoorF30SafeSaid
namespace Go.Proofs.YtgkddegaiaeckaaDoor
open Go.RowKit

/-- A byte behind a crash: the one that was laid, or nought; where it was sure, the one that was laid. -/
def BytOk (G : Nat → UInt8) (S x : Nat) (b : UInt8) : Prop := (b = G x ∨ b = 0) ∧ (x < S → b = G x)
def SecOk (G : Nat → UInt8) (S : Nat) (i : Int) (s : List UInt8) : Prop := ∀ j : Nat, i = (j : Int) → ∀ y, y < 64 → BytOk G S (64 * j + y) (s.getD y 0)
structure BInv (p : DP) (G : Nat → UInt8) (S : Nat) : Prop where
  ok : DOk p
  f : ∀ i, SecOk G S i (p.f i)
  ws : ∀ q ∈ p.ws, SecOk G S q.1 q.2
theorem BInv.seen {p : DP} {G : Nat → UInt8} {S : Nat} (h : BInv p G S) (i : Int) : SecOk G S i (seenW p.ws p.f i) := by
  unfold seenW
  cases hq : lastOf p.ws i with
  | none => exact h.f i
  | some q =>
    unfold lastOf at hq
    have h1 := List.find?_some hq
    have h2 : q ∈ p.ws := by simpa using List.mem_of_find?_eq_some hq
    have h3 : q.1 = i := by simpa using h1
    have := h.ws q h2
    rw [h3] at this
    exact this
theorem BInv.write {p : DP} {G : Nat → UInt8} {S : Nat} (h : BInv p G S) {i : Int} {bs : List UInt8} (hs : SecOk G S i bs) (hl : bs.length = 64) : BInv (p.write i bs).1 G S := by
  unfold DP.write
  split
  · exact h
  · split
    · exact h
    · split
      · exact ⟨⟨h.ok.f, h.ok.ws⟩, h.f, h.ws⟩
      · refine ⟨⟨h.ok.f, fun q hq => ?_⟩, h.f, fun q hq => ?_⟩
        · rcases List.mem_append.1 hq with hq | hq
          · exact h.ok.ws q hq
          · rw [List.mem_singleton.1 hq]; exact hl
        · rcases List.mem_append.1 hq with hq | hq
          · exact h.ws q hq
          · rw [List.mem_singleton.1 hq]; exact hs
theorem BInv.mono {p : DP} {G G' : Nat → UInt8} {S S' : Nat} (h : BInv p G S) (hm : ∀ x b, BytOk G S x b → BytOk G' S' x b) : BInv p G' S' :=
  ⟨h.ok, fun i j e y hy => hm _ _ (h.f i j e y hy), fun q hq j e y hy => hm _ _ (h.ws q hq j e y hy)⟩
theorem BInv.layF {G : Nat → UInt8} {S : Nat} : ∀ (f : Nat) (p : DP) (k : Nat) (b : List UInt8), BInv p G S → (∀ m, m < b.length → b.getD m 0 = G (k + m)) → BInv (layF f p k b).1 G S := by
  intro f
  induction f with
  | zero => intro p k b h _; exact h
  | succ f ih =>
    intro p k b h hb
    rw [Go.Proofs.YtgkddegaiaeckaaDoor.layF]
    split
    · exact h
    · have hsl := h.ok.seen ((k / 64 : Nat) : Int)
      have hS := h.seen ((k / 64 : Nat) : Int)
      have hN : layN b k ≤ b.length ∧ layN b k ≤ 64 - k % 64 := ⟨Nat.min_le_left _ _, Nat.min_le_right _ _⟩
      have hw := h.write (i := ((k / 64 : Nat) : Int)) (bs := layS (seenW p.ws p.f ((k / 64 : Nat) : Int)) b k) (by
        intro j e y hy
        have ej : j = k / 64 := by omega
        rw [layS_byte _ b k y hsl hy]
        split
        · next hx =>
          have := hb (y - k % 64) (by omega)
          rw [this, show k + (y - k % 64) = 64 * j + y by omega]
          exact ⟨.inl rfl, fun _ => rfl⟩
        · exact hS j e y hy) (layS_len hsl)
      split
      · refine ih _ _ _ hw (fun m hm => ?_)
        rw [List.length_drop] at hm
        have := hb (layN b k + m) (by omega)
        rw [show k + layN b k + m = k + (layN b k + m) by omega, ← this]
        simp only [List.getD_eq_getElem?_getD, List.getElem?_drop]
      · exact hw
theorem doneK_ok {G : Nat → UInt8} {S : Nat} (ws : List (Int × List UInt8)) : ∀ (ks : Nat → Option Nat) (f : Int → List UInt8), (∀ q ∈ ws, q.2.length = 64 ∧ SecOk G S q.1 q.2) → (∀ i, (f i).length = 64 ∧ SecOk G S i (f i)) → (∀ j m, ks j = some m → m ≤ 64) →
    ∀ i, (doneK ks ws f i).length = 64 ∧ SecOk G S i (doneK ks ws f i) := by
  induction ws with
  | nil => intro ks f _ hf _ i; exact hf i
  | cons q ws ih =>
    intro ks f hw hf hk
    rw [doneK]
    have hq := hw q (List.mem_cons_self ..)
    refine ih _ _ (fun r hr => hw r (List.mem_cons_of_mem _ hr)) ?_ (fun j m => hk (j + 1) m)
    intro i
    cases h0 : ks 0 with
    | none => exact hf i
    | some k =>
      simp only
      split
      · next e =>
        have hk0 := hk 0 k h0
        refine ⟨overB_len hk0 hq.1 (hf _).1, fun j ej y hy => ?_⟩
        have e1 := hq.2 j (by rw [← e]; exact ej) y hy
        have e2 := (hf q.1).2 j (by rw [← e]; exact ej) y hy
        unfold overB
        simp only [List.getD_eq_getElem?_getD] at e1 e2 ⊢
        by_cases hlt : y < k
        · rw [List.getElem?_append_left (by rw [List.length_take]; omega), List.getElem?_take, if_pos hlt]; exact e1
        · rw [List.getElem?_append_right (by rw [List.length_take]; omega), List.length_take, List.getElem?_drop, show k + (y - min k q.2.length) = y by omega]; exact e2
      · exact hf i
/-- What a crash leaves. -/
theorem BInv.crash {p : DP} {G : Nat → UInt8} {S : Nat} (h : BInv p G S) (a b : Int) (s : Nat) : BInv (p.crash a b s) G S := by
  have hd := doneK_ok (G := G) (S := S) p.ws (crashK a b s) p.f (fun q hq => ⟨h.ok.ws q hq, h.ws q hq⟩) (fun i => ⟨h.ok.f i, h.f i⟩) (fun j m hm => crashK_le hm)
  exact ⟨⟨fun i => (hd i).1, fun q hq => absurd hq (by simp [DP.crash])⟩, fun i => (hd i).2, fun q hq => absurd hq (by simp [DP.crash])⟩
theorem BInv.all {p : DP} {G : Nat → UInt8} {S n : Nat} (h : BInv p G S) (hn : p.n = (n : Int)) : (seenAll p).length = 64 * n ∧ ∀ x, x < 64 * n → BytOk G S x ((seenAll p).getD x 0) := by
  have h1 := h.ok.toLen n
  unfold seenAll
  rw [hn, show ((n : Int)).toNat = n from rfl]
  refine ⟨h1, fun x hx => ?_⟩
  rw [h.ok.byteTo n x hx]
  have := h.seen ((x / 64 : Nat) : Int) (x / 64) rfl (x % 64) (Nat.mod_lt _ (by decide))
  rw [show 64 * (x / 64) + x % 64 = x by omega] at this
  exact this
/-- The bytes of frames. -/
def framesG (l : List (List UInt8)) (x : Nat) : UInt8 := (framesB z32 l).getD x 0
theorem framesG_snoc (l : List (List UInt8)) (r : List UInt8) (x : Nat) (hx : x < endB l) : framesG (l ++ [r]) x = framesG l x := by
  unfold framesG
  rw [framesB_snoc]
  have hl := framesB_len l z32
  simp only [List.getD_eq_getElem?_getD]
  rw [List.getElem?_append_left (by omega)]
theorem framesG_out (l : List (List UInt8)) (x : Nat) (hx : endB l ≤ x) : framesG l x = 0 := by
  unfold framesG
  have hl := framesB_len l z32
  rw [List.getD_eq_getElem?_getD, List.getElem?_eq_none (by omega)]
  rfl
theorem BInv.snoc {p : DP} {l : List (List UInt8)} {S : Nat} (h : BInv p (framesG l) S) (hS : S ≤ endB l) (r : List UInt8) : BInv p (framesG (l ++ [r])) S := h.mono fun x b hb => by
  by_cases hx : x < endB l
  · unfold BytOk
    rw [framesG_snoc l r x hx]
    exact hb
  · refine ⟨.inr ?_, fun h => by omega⟩
    rcases hb.1 with e | e
    · rw [e, framesG_out l x (by omega)]
    · exact e
theorem BInv.lay {p : DP} {l : List (List UInt8)} {S : Nat} (h : BInv p (framesG l) S) (hS : S ≤ endB l) (r : List UInt8) : BInv (lay p (endB l) (frameB (headB z32 l) r)).1 (framesG (l ++ [r])) S := by
  refine BInv.layF _ _ _ _ (h.snoc hS r) (fun m hm => ?_)
  unfold framesG
  rw [framesB_snoc]
  have hl := framesB_len l z32
  simp only [List.getD_eq_getElem?_getD]
  rw [List.getElem?_append_right (by omega), hl, show endB l + m - endB l = m by omega]
/-- Behind a Sync all is sure. -/
theorem BInv.synced {p : DP} {l : List (List UInt8)} {n : Nat} (hok : DOk p) (hsh : Shows p n l) (hE : endB l ≤ 64 * n) (hn : ∀ j : Int, (n : Int) ≤ j → p.f j = zSec) (hw : p.ws = []) : BInv p (framesG l) (endB l) := by
  refine ⟨hok, fun i j e y hy => ?_, fun q hq => absurd hq (by rw [hw]; simp)⟩
  subst e
  by_cases hj : j < n
  · have h1 := hsh (64 * j + y) (by omega)
    unfold byteP at h1
    rw [hw, seenW_nil, show (64 * j + y) / 64 = j by omega, show (64 * j + y) % 64 = y by omega] at h1
    exact ⟨.inl h1, fun _ => h1⟩
  · rw [hn _ (by omega)]
    refine ⟨.inr ?_, fun h => by omega⟩
    rw [List.getD_eq_getElem?_getD]
    cases hq : zSec[y]? with
    | none => rfl
    | some u =>
      have hm := List.mem_of_getElem? hq
      have hz : ∀ u ∈ zSec, u = 0 := by decide
      exact hz u hm
/-- Odd, in plain words. -/
def oddB (h : List UInt8) : List (List UInt8) → List (List UInt8) → Bool
  | [], _ => false
  | _ :: _, [] => false
  | r :: rs, x :: xs => if r = x then oddB (nextB h r) rs xs else (List.range 32).all fun k => (nextB h r).getD k 0 == (nextB h x).getD k 0 || (nextB h r).getD k 0 == 0
def begB : List (List UInt8) → List (List UInt8) → Bool
  | [], _ => true
  | _ :: _, [] => false
  | r :: rs, x :: xs => r == x && begB rs xs
theorem endB_cons (r : List UInt8) (l : List (List UInt8)) : endB (r :: l) = 34 + r.length + endB l := by simp [endB]
theorem getD_take_drop (Y : List UInt8) (k : Nat) (hk : k < 32) : ((Y.drop 2).take 32).getD k 0 = Y.getD (2 + k) 0 := by
  simp only [List.getD_eq_getElem?_getD, List.getElem?_take, List.getElem?_drop]
  rw [if_pos hk]
/-- What is read of such bytes: at least what was sure, and a beginning of what was written, or an odd one. -/
theorem scan_safe : ∀ (all : List (List UInt8)) (h Y : List UInt8) (s : Nat), s ≤ all.length → (∀ r ∈ all.take s, okR r) → endB (all.take s) ≤ Y.length →
    (∀ x, x < Y.length → ((Y.getD x 0 = (framesB h all).getD x 0) ∨ Y.getD x 0 = 0) ∧ (x < endB (all.take s) → Y.getD x 0 = (framesB h all).getD x 0)) →
    s ≤ (scanB Y h).length ∧ (begB (scanB Y h) all = true ∨ oddB h (scanB Y h) all = true) := by
  intro all
  induction all with
  | nil =>
    intro h Y s hs _ _ hY
    have hz : firstB Y h = none := by
      by_cases h2 : 2 ≤ Y.length
      · refine firstB_zeros fun i hi => ?_
        rcases (hY i (by omega)).1 with e | e
        · rw [e]; rfl
        · exact e
      · unfold firstB
        rw [if_pos (by omega)]
    rw [scanB_none hz]
    exact ⟨by simpa using hs, .inl rfl⟩
  | cons a tl ih =>
    intro h Y s hs hr hE hY
    have hfl := frameB_len h a
    have hfr : ∀ x, x < 34 + a.length → (framesB h (a :: tl)).getD x 0 = (frameB h a).getD x 0 := by
      intro x hx
      rw [framesB]
      simp only [List.getD_eq_getElem?_getD]
      rw [List.getElem?_append_left (by omega)]
    have hsure : 1 ≤ s → firstB Y h = some a := by
      intro h1
      obtain ⟨t, rfl⟩ : ∃ t, s = t + 1 := ⟨s - 1, by omega⟩
      rw [List.take_succ_cons, endB_cons] at hE hY
      have hok := hr a (by rw [List.take_succ_cons]; exact List.mem_cons_self ..)
      have hYeq : Y = frameB h a ++ Y.drop (34 + a.length) := by
        have h3 : Y.take (34 + a.length) = frameB h a := by
          apply List.ext_getElem (by rw [List.length_take, hfl]; omega)
          intro i h4 h5
          have h6 := (hY i (by rw [List.length_take] at h4; omega)).2 (by rw [List.length_take] at h4; omega)
          rw [hfr i (by omega)] at h6
          rw [List.getElem_take]
          simpa [List.getD_eq_getElem?_getD, h5, show i < Y.length by rw [List.length_take] at h4; omega] using h6
        rw [← h3, List.take_append_drop]
      rw [hYeq]
      exact firstB_frame hok
    cases hf : firstB Y h with
    | none =>
      rw [scanB_none hf]
      have : s = 0 := by
        rcases Nat.eq_zero_or_pos s with h | h
        · exact h
        · rw [hsure h] at hf; cases hf
      exact ⟨by rw [this]; exact Nat.zero_le _, .inl rfl⟩
    | some r =>
      rw [scanB_some hf]
      obtain ⟨f1, f2, f3, f4, f5, f6⟩ := firstB_some hf
      by_cases hra : r = a
      · subst hra
        have hsub := ih (nextB h r) (Y.drop (34 + r.length)) (s - 1) (by simp only [List.length_cons] at hs; omega) (fun q hq => hr q (by
            cases s with
            | zero => simp at hq
            | succ s => rw [List.take_succ_cons]; exact List.mem_cons_of_mem _ hq)) (by
            cases s with
            | zero => simp [endB]
            | succ s => rw [List.take_succ_cons, endB_cons] at hE; rw [List.length_drop, Nat.add_sub_cancel]; omega) (by
            intro x hx
            rw [List.length_drop] at hx
            have h1 := hY (34 + r.length + x) (by omega)
            rw [framesB] at h1
            simp only [List.getD_eq_getElem?_getD] at h1 ⊢
            rw [List.getElem?_append_right (by omega), hfl, show 34 + r.length + x - (34 + r.length) = x by omega] at h1
            rw [List.getElem?_drop]
            refine ⟨h1.1, fun hx2 => h1.2 ?_⟩
            cases s with
            | zero => simp [endB] at hx2
            | succ s => rw [List.take_succ_cons, endB_cons]; rw [Nat.add_sub_cancel] at hx2; omega)
        refine ⟨by rw [List.length_cons]; omega, ?_⟩
        rw [begB, oddB, if_pos rfl]
        simpa using hsub.2
      · have hs0 : s = 0 := by
          rcases Nat.eq_zero_or_pos s with h | h
          · exact h
          · have := hsure h
            rw [hf] at this
            exact absurd (Option.some.inj this) hra
        refine ⟨by omega, .inr ?_⟩
        rw [oddB, if_neg hra, List.all_eq_true]
        intro k hk
        rw [List.mem_range] at hk
        have e1 : (nextB h r).getD k 0 = Y.getD (2 + k) 0 := by rw [← f6, getD_take_drop Y k hk]
        have e2 : (framesB h (a :: tl)).getD (2 + k) 0 = (nextB h a).getD k 0 := by
          rw [hfr _ (by omega)]
          show ((lnB a.length ++ (nextB h a ++ a))).getD (2 + k) 0 = _
          have := nextB_len h a
          simp only [List.getD_eq_getElem?_getD]
          rw [List.getElem?_append_right (by simp [lnB]), List.getElem?_append_left (by simp [lnB]; omega)]
          simp [lnB]
        have h1 := (hY (2 + k) (by omega)).1
        rw [e2, ← e1] at h1
        rw [Bool.or_eq_true, beq_iff_eq, beq_iff_eq]
        exact h1
end Go.Proofs.YtgkddegaiaeckaaDoor
