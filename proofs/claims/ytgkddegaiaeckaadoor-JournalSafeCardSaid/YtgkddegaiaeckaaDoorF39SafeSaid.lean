/- JournalSafe: what an act leaves: a journal that lives and shows its records, or a dead one whose disk holds only bytes that were laid, or noughts. -/
import Derived.Test.YtgkddegaiaeckaaDoorF31SafeSaid
import Derived.Test.YtgkddegaiaeckaaDoorF38SafeSaid
namespace Go.Proofs.YtgkddegaiaeckaaDoor
open Go.RowKit

structure SafeA (p : DP) (recs : List (List UInt8)) (sure : Nat) : Prop where
  inv : BInv p (framesG recs) (endB (recs.take sure))
  sh : Shows p 40 recs
  le : sure ≤ recs.length
  okR : ∀ r ∈ recs, okR r
  fit : endB recs ≤ 2560
  n : p.n = 40
  g : p.gone = false
  out : ∀ j : Int, 40 ≤ j → p.f j = zSec
structure SafeD (p : DP) (all : List (List UInt8)) (sure : Nat) : Prop where
  inv : BInv p (framesG all) (endB (all.take sure))
  le : sure ≤ all.length
  okR : ∀ r ∈ all.take sure, okR r
  fit : endB (all.take sure) ≤ 2560
  n : p.n = 40
theorem endB_append (a b : List (List UInt8)) : endB (a ++ b) = endB a + endB b := by simp [endB]
theorem endB_take (l : List (List UInt8)) (k : Nat) : endB (l.take k) ≤ endB l := by
  have h := endB_append (l.take k) (l.drop k)
  rw [List.take_append_drop] at h
  omega
theorem take_snoc {α : Type} {l : List α} {x : α} {k : Nat} (h : k ≤ l.length) : (l ++ [x]).take k = l.take k := by
  rw [List.take_append_of_le_length h]
theorem SafeA.dead0 {p q : DP} {recs : List (List UInt8)} {sure : Nat} (h : SafeA p recs sure) (hq : BInv q (framesG recs) (endB (recs.take sure))) (hn : q.n = 40) : SafeD q recs sure :=
  ⟨hq, h.le, fun r hr => h.okR r (List.mem_of_mem_take hr), Nat.le_trans (endB_take _ _) h.fit, hn⟩
theorem SafeA.dead1 {p q : DP} {recs : List (List UInt8)} {sure : Nat} (h : SafeA p recs sure) (r : List UInt8) (hq : BInv q (framesG (recs ++ [r])) (endB (recs.take sure))) (hn : q.n = 40) : SafeD q (recs ++ [r]) sure := by
  refine ⟨by rw [take_snoc h.le]; exact hq, by rw [List.length_append]; have := h.le; omega, ?_, ?_, hn⟩
  · rw [take_snoc h.le]; exact fun r hr => h.okR r (List.mem_of_mem_take hr)
  · rw [take_snoc h.le]; exact Nat.le_trans (endB_take _ _) h.fit
theorem SafeA.lay {p : DP} {recs : List (List UInt8)} {sure : Nat} (h : SafeA p recs sure) (r : List UInt8) (hr : Go.Proofs.YtgkddegaiaeckaaDoor.okR r) (hfit : endB recs + (34 + r.length) ≤ 2560) :
    ((lay p (endB recs) (frameB (headB z32 recs) r)).2 = true → SafeA (lay p (endB recs) (frameB (headB z32 recs) r)).1 (recs ++ [r]) sure) ∧ SafeD (lay p (endB recs) (frameB (headB z32 recs) r)).1 (recs ++ [r]) sure ∧
      (lay p (endB recs) (frameB (headB z32 recs) r)).1.ws.length ≤ p.ws.length + 434 ∧ p.l - 434 ≤ (lay p (endB recs) (frameB (headB z32 recs) r)).1.l ∧ (lay p (endB recs) (frameB (headB z32 recs) r)).1.l ≤ p.l := by
  have hk := layF_keeps (frameB (headB z32 recs) r).length p (endB recs) (frameB (headB z32 recs) r) h.g
  have hB := h.inv.lay (endB_take _ _) r
  have hfl := frameB_len (headB z32 recs) r
  have h4 := hr.2
  unfold Go.Proofs.YtgkddegaiaeckaaDoor.lay at hB ⊢
  refine ⟨fun hok => ?_, h.dead1 r hB (hk.2.1.trans h.n), by omega, by omega, by omega⟩
  have hsl := shows_lay h.inv.ok h.sh hok
  unfold Go.Proofs.YtgkddegaiaeckaaDoor.lay at hsl
  refine ⟨by rw [take_snoc h.le]; exact hB, hsl.2, by rw [List.length_append]; have := h.le; omega, fun x hx => ?_, by rw [endB_snoc]; exact hfit, hk.2.1.trans h.n, hk.1 hok, fun j hj => by rw [hk.2.2.2.2.2.2]; exact h.out j hj⟩
  rcases List.mem_append.1 hx with hx | hx
  · exact h.okR x hx
  · rw [List.mem_singleton.1 hx]; exact hr
theorem BInv.gone {p : DP} {G : Nat → UInt8} {S : Nat} (h : BInv p G S) : BInv { p with gone := true } G S := ⟨⟨h.ok.f, h.ok.ws⟩, h.f, h.ws⟩
theorem SafeA.sync {p : DP} {recs : List (List UInt8)} {sure : Nat} (h : SafeA p recs sure) (hw : ∀ q ∈ p.ws, q.1 < 40) :
    (p.sync.2 = 0 → SafeA p.sync.1 recs recs.length ∧ p.sync.1.ws = []) ∧ (p.sync.2 ≠ 0 → SafeD p.sync.1 recs sure ∧ ∀ r, SafeD p.sync.1 (recs ++ [r]) sure) ∧ p.sync.1.ws.length ≤ p.ws.length ∧ p.l - 1 ≤ p.sync.1.l ∧ p.sync.1.l ≤ p.l := by
  cases hb : p.bad
  · have e : p.sync = ({ p with l := p.l - 1, f := doneK (fun _ => some 64) p.ws p.f, ws := [] }, 0) := by unfold DP.sync; rw [hb]; rfl
    have hs := shows_sync h.inv.ok h.sh (by rw [e])
    rw [e] at hs ⊢
    have hout : ∀ j : Int, 40 ≤ j → doneK (fun _ => some 64) p.ws p.f j = zSec := fun j hj => by
      rw [seenW_sync p.ws p.f h.inv.ok.ws h.inv.ok.f]
      unfold seenW
      have : lastOf p.ws j = none := by
        unfold lastOf
        rw [List.find?_eq_none]
        intro q hq
        have := hw q (by simpa using hq)
        simp
        omega
      rw [this]
      exact h.out j hj
    refine ⟨fun _ => ⟨⟨?_, hs.2, Nat.le_refl _, h.okR, h.fit, h.n, h.g, hout⟩, rfl⟩, fun hc => absurd rfl hc, by simp, by simp, by simp; omega⟩
    rw [List.take_length]
    exact BInv.synced hs.1 hs.2 h.fit hout rfl
  · have e : p.sync = ({ p with gone := true }, 3) := by unfold DP.sync; rw [hb]; rfl
    rw [e]
    refine ⟨fun hc => by simp at hc, fun _ => ⟨h.dead0 h.inv.gone h.n, fun r => h.dead1 r (h.inv.snoc (endB_take _ _) r).gone h.n⟩, Nat.le_refl _, by simp; omega, Int.le_refl _⟩

theorem write_in {p : DP} (h : ∀ y ∈ p.ws, y.1 < p.n) (i : Int) (bs : List UInt8) : (p.write i bs).1.n = p.n ∧ ∀ y ∈ (p.write i bs).1.ws, y.1 < p.n := by
  unfold DP.write
  split
  · exact ⟨rfl, h⟩
  · split
    · exact ⟨rfl, h⟩
    · split
      · exact ⟨rfl, h⟩
      · refine ⟨rfl, fun y hy => ?_⟩
        rcases List.mem_append.1 hy with hy | hy
        · exact h y hy
        · rw [List.mem_singleton.1 hy]; show i < p.n; omega
theorem layF_in : ∀ (f : Nat) (p : DP) (k : Nat) (b : List UInt8), (∀ y ∈ p.ws, y.1 < p.n) → ∀ y ∈ (layF f p k b).1.ws, y.1 < p.n := by
  intro f
  induction f with
  | zero => intro p k b h; exact h
  | succ f ih =>
    intro p k b h
    rw [Go.Proofs.YtgkddegaiaeckaaDoor.layF]
    split
    · exact h
    · have hw := write_in h ((k / 64 : Nat) : Int) (layS (seenW p.ws p.f ((k / 64 : Nat) : Int)) b k)
      split
      · intro y hy
        rw [← hw.1]
        exact ih _ _ _ (by rw [hw.1]; exact hw.2) y hy
      · exact hw.2

/-- What an act leaves. -/
def ActPost (base : Nat) (w : World) (J B mb mn : Nat) (v rv : Value) (F : Nat → Prop) (p : DP) (recs : List (List UInt8)) (r : List UInt8) (x : Ending) (w' : World) : Prop :=
  (∃ u, x = .returned u) ∧ ∃ mn' v' rv' F' p' recs' sure' dead', JStep base w w' J B mb v rv F mn' v' rv' F' p' recs' sure' dead' ∧ (dead' = false → SafeA p' recs' sure' ∧ mn' + p'.ws.length ≤ mn + p.ws.length + 434) ∧ (dead' = true → SafeD p' (if recs'.length = recs.length ∧ 0 < r.length then recs' ++ [r] else recs') sure') ∧
    mn' ≤ mn + p.ws.length + 434 ∧ p'.ws.length ≤ p.ws.length + 434 ∧ p.l - 435 ≤ p'.l ∧ p'.l ≤ p.l ∧ recs'.length ≤ recs.length + 1
theorem ActPost.err {base : Nat} {w : World} {J B mb mn : Nat} {v rv : Value} {F : Nat → Prop} {p : DP} {recs : List (List UInt8)} {sure : Nat} (h : JD base w J B mb mn v rv F p recs sure false) (hS : SafeA p recs sure) (r : List UInt8) {x : Ending} {w' : World} (he : ErrPost w x w') : ActPost base w J B mb mn v rv F p recs r x w' := by
  obtain ⟨⟨u, hx⟩, hb⟩ := he
  exact ⟨⟨_, hx⟩, mn, v, rv, F, p, recs, sure, false, (JStep.same h).grow hb, fun _ => ⟨hS, by omega⟩, fun h => (by cases h), by omega, by omega, by omega, Int.le_refl _, by omega⟩
theorem append_act {base : Nat} {w : World} {J B mb mn : Nat} {v rv : Value} {F : Nat → Prop} {p : DP} {recs : List (List UInt8)} {sure : Nat} (h : JD base w J B mb mn v rv F p recs sure false) (hb : base ≤ w.heap.size) (hS : SafeA p recs sure) (hws : p.ws.length ≤ 15000) (_hmn : mn ≤ 40000) (hpl : -200000 ≤ p.l ∧ p.l ≤ 200000) (e : Nat → Addr) (hBE : 2 ≠ B) (hEb : ∀ W, Below base w W → DErr W e) (hFu : FullE w) (hK : ShaK w) (hF : ShaF w) (r : List UInt8) (hr5 : r.length ≤ 500) (a : Option Addr) (c : Nat) (hA : ArgB w a c r) (hAD : 1 ≤ r.length → ∀ b o s, a = some ⟨b, o, s⟩ → ¬ JF J F rv b ∧ ¬ DiskD B mb v b ∧ b < w.heap.size) :
    Calls Tryd.prog 17 #[.pointer (some ⟨J, 0, none⟩), .slice a r.length c] w (ActPost base w J B mb mn v rv F p recs r) := by
  have hE := hEb w (Below.refl _ _)
  by_cases h1 : 1 ≤ r.length ∧ r.length ≤ 400
  · by_cases h2 : r.length ≤ roomP 40 (endB recs)
    · have hfit : endB recs + (34 + r.length) ≤ 2560 := by unfold roomP at h2; have := h1.1; omega
      obtain ⟨l1, l2, l3, l4, l5⟩ := hS.lay r h1 hfit
      refine (append_good h hb 40 hS.n (by decide) hS.fit (by omega) hpl hS.g e hBE hEb hK hF r ⟨h1.1, h1.2, h2⟩ a c hA (hAD h1.1)).mono ?_
      rintro x w' ⟨hx, v', rv', F', hst⟩
      generalize lay p (endB recs) (frameB (headB z32 recs) r) = q at *
      cases hq : q.2
      · rw [hq] at hx hst
        simp only [Bool.false_eq_true, if_false, Bool.not_false] at hx hst
        obtain ⟨ad, hx⟩ := hx
        refine ⟨⟨_, hx⟩, mn, v', rv', F', q.1, recs, sure, true, hst, fun h => (by cases h), fun _ => ?_, by omega, l3, by omega, l5, by omega⟩
        rw [if_pos ⟨rfl, h1.1⟩]
        exact l2
      · rw [hq] at hx hst
        simp only [if_true, Bool.not_true] at hx hst
        refine ⟨⟨_, hx⟩, mn, v', rv', F', q.1, recs ++ [r], sure, false, hst, fun _ => ⟨l1 hq, by omega⟩, fun h => (by cases h), by omega, l3, by omega, l5, by rw [List.length_append]; exact Nat.le_refl _⟩
    · exact (append_full h 40 hS.n (by decide) hS.fit hFu a r.length c h1.1 h1.2 (by omega)).mono fun x w' he => ActPost.err h hS r he
  · exact (append_size h.jm e hE a r.length c (by omega) (by omega)).mono fun x w' he => ActPost.err h hS r he
theorem put_act {base : Nat} {w : World} {J B mb mn : Nat} {v rv : Value} {F : Nat → Prop} {p : DP} {recs : List (List UInt8)} {sure : Nat} (h : JD base w J B mb mn v rv F p recs sure false) (hb : base ≤ w.heap.size) (hS : SafeA p recs sure) (hws : p.ws.length ≤ 15000) (hmn : mn ≤ 40000) (hpl : -200000 ≤ p.l ∧ p.l ≤ 200000) (e : Nat → Addr) (hBE : 2 ≠ B) (hEb : ∀ W, Below base w W → DErr W e) (hFu : FullE w) (hK : ShaK w) (hF : ShaF w) (r : List UInt8) (hr5 : r.length ≤ 500) (a : Option Addr) (c : Nat) (hA : ArgB w a c r) (hAD : 1 ≤ r.length → ∀ b o s, a = some ⟨b, o, s⟩ → ¬ JF J F rv b ∧ ¬ DiskD B mb v b ∧ b < w.heap.size) :
    Calls Tryd.prog 19 #[.pointer (some ⟨J, 0, none⟩), .slice a r.length c] w (ActPost base w J B mb mn v rv F p recs r) := by
  have hE := hEb w (Below.refl _ _)
  by_cases h1 : 1 ≤ r.length ∧ r.length ≤ 400
  · by_cases h2 : r.length ≤ roomP 40 (endB recs)
    · have hfit : endB recs + (34 + r.length) ≤ 2560 := by unfold roomP at h2; have := h1.1; omega
      obtain ⟨l1, l2, l3, l4, l5⟩ := hS.lay r h1 hfit
      refine (put_good h hb 40 hS.n (by decide) hS.fit (by omega) (by omega) hpl hS.g e hBE hEb hK hF r ⟨h1.1, h1.2, h2⟩ a c hA (hAD h1.1)).mono ?_
      rintro x w' ⟨hx, mn', v', rv', F', hm', hst⟩
      have hin : ∀ y ∈ (lay p (endB recs) (frameB (headB z32 recs) r)).1.ws, y.1 < 40 := fun y hy => by
        have := layF_in _ p (endB recs) (frameB (headB z32 recs) r) (fun q hq => (h.dm.lens q hq).2.2) y hy
        rw [hS.n] at this
        exact this
      generalize lay p (endB recs) (frameB (headB z32 recs) r) = q at *
      cases hq : q.2
      · rw [hq] at hx hst
        simp only [Bool.false_eq_true, false_and, if_false, Bool.false_and, Bool.not_false] at hx hst
        obtain ⟨ad, hx⟩ := hx
        refine ⟨⟨_, hx⟩, mn', v', rv', F', q.1, recs, sure, true, hst, fun h => (by cases h), fun _ => ?_, by omega, l3, by omega, l5, by omega⟩
        rw [if_pos ⟨rfl, h1.1⟩]
        exact l2
      · have hA := l1 hq
        obtain ⟨s1, s2, s3, s4, s5⟩ := hA.sync hin
        rw [hq] at hx hst
        by_cases h0 : q.1.sync.2 = 0
        · simp only [h0, and_self, if_true, Bool.true_and, beq_self_eq_true, Bool.not_true] at hx hst
          have hs := s1 h0
          have hl : (recs ++ [r]).length = recs.length + 1 := by rw [List.length_append]; rfl
          rw [hl] at hs
          refine ⟨⟨_, hx⟩, mn', v', rv', F', q.1.sync.1, recs ++ [r], recs.length + 1, false, hst, fun _ => ⟨hs.1, by rw [hs.2, List.length_nil]; omega⟩, fun h => (by cases h), by omega, by omega, by omega, by omega, by omega⟩
        · have hne : (q.1.sync.2 == 0) = false := beq_eq_false_iff_ne.2 h0
          simp only [h0, and_false, if_true, if_false, Bool.true_and, hne, Bool.not_false] at hx hst
          obtain ⟨ad, hx⟩ := hx
          have hl : (recs ++ [r]).length = recs.length + 1 := by rw [List.length_append]; rfl
          refine ⟨⟨_, hx⟩, mn', v', rv', F', q.1.sync.1, recs ++ [r], sure, true, hst, fun h => (by cases h), fun _ => ?_, by omega, by omega, by omega, by omega, by omega⟩
          rw [if_neg (fun hc => by have := hc.1; omega)]
          exact (s2 h0).1
    · exact (put_err w J a r.length c (append_full h 40 hS.n (by decide) hS.fit hFu a r.length c h1.1 h1.2 (by omega))).mono fun x w' he => ActPost.err h hS r he
  · exact (put_err w J a r.length c (append_size h.jm e hE a r.length c (by omega) (by omega))).mono fun x w' he => ActPost.err h hS r he
theorem sync_act {base : Nat} {w : World} {J B mb mn : Nat} {v rv : Value} {F : Nat → Prop} {p : DP} {recs : List (List UInt8)} {sure : Nat} (h : JD base w J B mb mn v rv F p recs sure false) (hb : base ≤ w.heap.size) (hS : SafeA p recs sure) (hws : p.ws.length ≤ 15000) (hmn : mn ≤ 40000) (hpl : -200000 ≤ p.l ∧ p.l ≤ 200000) (e : Nat → Addr) (hBE : 2 ≠ B) (hEb : ∀ W, Below base w W → DErr W e) (_hFu : FullE w) (_hK : ShaK w) (_hF : ShaF w) (hrl : recs.length ≤ 1000) (r : List UInt8) :
    Calls Tryd.prog 18 #[.pointer (some ⟨J, 0, none⟩)] w (ActPost base w J B mb mn v rv F p recs r) := by
  have hE := hEb w (Below.refl _ _)
  obtain ⟨s1, s2, s3, s4, s5⟩ := hS.sync (fun q hq => by have := (h.dm.lens q hq).2.2; rw [hS.n] at this; exact this)
  refine (jsync_any h hb 40 hS.n (by decide) (by omega) (by omega) (by omega) (by omega) hS.g e hBE hE).mono ?_
  rintro x w' ⟨hx, v', mn', hm', hst⟩
  by_cases h0 : p.sync.2 = 0
  · have hs := s1 h0
    simp only [h0, if_true, bne_self_eq_false] at hx hst
    exact ⟨⟨_, hx⟩, mn', v', rv, F, p.sync.1, recs, recs.length, false, hst, fun _ => ⟨hs.1, by rw [hs.2, List.length_nil]; omega⟩, fun h => (by cases h), by omega, by omega, by omega, by omega, by omega⟩
  · have hne : (p.sync.2 != 0) = true := by simp [h0]
    simp only [h0, if_false, hne] at hx hst
    obtain ⟨ad, hx⟩ := hx
    refine ⟨⟨_, hx⟩, mn', v', rv, F, p.sync.1, recs, sure, true, hst, fun h => (by cases h), fun _ => ?_, by omega, by omega, by omega, by omega, by omega⟩
    split
    · exact (s2 h0).2 r
    · exact (s2 h0).1
end Go.Proofs.YtgkddegaiaeckaaDoor
