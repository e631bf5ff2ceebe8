/- Put, Kept, Asked, Judged of the model and of the document, in every case. -/
import Derived.Test.YtndgacjfkoliaaaDoorF24PlaysSaid34
import Derived.Test.YtndgacjfkoliaaaDoorF26PlaysSaid34
import Derived.Test.YtndgacjfkoliaaaDoorF30PlaysSaid34
import Derived.Test.YtndgacjfkoliaaaDoorF33PlaysSaid34
import Derived.Test.YtndgacjfkoliaaaDoorF34PlaysSaid34
import Derived.Test.YtndgacjfkoliaaaDoorF35PlaysSaid34
import Derived.Test.YtndgacjfkoliaaaDoorF37PlaysSaid34
namespace Go.Proofs.YtndgacjfkoliaaaDoor
open Go.RowKit
set_option linter.unusedSimpArgs false
set_option linter.unusedVariables false

theorem MI.pn {k : Nat} {m : Md} (h : MI k m) : ∀ x ∈ m.ns, 0 ≤ x.p.n ∧ x.p.n ≤ 1000 := fun x hx => by
  have := badAt_ok (h.par x hx)
  unfold ParOk at this
  omega
theorem getD_in {α : Type} {xs : List α} {i : Nat} {d : α} (h : i < xs.length) : xs.getD i d = xs[i] := by simp [List.getD_eq_getElem?_getD, List.getElem?_eq_getElem h]
theorem findS_some {ns : List Nm} {s : ByteArray} {i : Nat} (h : ns.findIdx? (fun x => decide (x.s = s)) = some i) : findS ns s = (i : Int) := by unfold findS; rw [h]
theorem findS_non {ns : List Nm} {s : ByteArray} (h : ns.findIdx? (fun x => decide (x.s = s)) = none) : findS ns s = -1 := by unfold findS; rw [h]
theorem mput_all {k : Nat} {m : Md} (hI : MI k m) (hk : k ≤ 1000) (va : Value) (w : World) (ha : ArgM w va m) (s : ByteArray) (size : Int) (f : List UInt8) (p : P6) (hs : s.size ≤ 1000000) (hf : f.length = 32) (hp : p.Ok) (ea : Nat → Addr) (H : Errs 137 errGs w ea) :
    Calls Tryd.prog 14 #[va, .string s, .int .i64 size, .agg (cB f).toArray, .agg p.list.toArray] w (NPost ea (mPut m s size f p).1 (mPut m s size f p).2.1 (mPut m s size f p).2.2 w) := by
  have l2 : m.vs.length ≤ 1000 := Nat.le_trans hI.vl hk
  unfold mPut
  cases hb : badAt p.s p.n p.k p.d p.t p.r with
  | some q =>
    obtain ⟨F, V, i⟩ := q
    exact mput_chk va m w ha hI.nl l2 s size f p hs hf hp (i + 1) (by omega) (by unfold pChk; rw [hb]) ea H
  | none =>
    by_cases hz : size = p.s
    · simp only [if_neg (show ¬ size ≠ p.s from fun h => h hz)]
      cases hx : mIdx m s with
      | some i =>
        have hi : i < m.ns.length := (List.findIdx?_eq_some_iff_getElem.1 hx).1
        simp only [getD_in hi]
        by_cases hn : m.ns[i] = ⟨s, p, f, false⟩
        · simp only [if_pos hn]
          exact mput_same va m w ha hI.nl l2 s size f p hs hf hp hb i hi (findS_some hx) hz hn ea H
        · simp only [if_neg hn]
          by_cases hl : labB s.data.toList = false
          · simp only [if_pos hl]
            exact mput_name1 va m w ha hI.nl l2 s size f p hs hf hp hb i hi (findS_some hx) hz hn hl ea H
          · simp only [if_neg hl]
            exact mput_dup va m w ha hI.nl l2 s size f p hs hf hp hb i hi (findS_some hx) hz hn (by simpa using hl) ea H
      | none =>
        simp only
        by_cases hl : labB s.data.toList = false
        · simp only [if_pos hl]
          exact mput_name0 va m w ha hI.nl l2 s size f p hs hf hp hb (findS_non hx) hz hl ea H
        · simp only [if_neg hl]
          by_cases h4 : 4 ≤ m.ns.length
          · simp only [if_pos h4]
            exact mput_full va m w ha hI.nl l2 s size f p hs hf hp hb (findS_non hx) hz (by simpa using hl) h4 ea H
          · simp only [if_neg h4]
            rw [hz]
            refine (put_new va m w ha (by omega) l2 s f p hs hf hp (badAt_ok hb) (findS_non hx) (by simpa using hl) (pz ea) (par_of H)).mono ?_
            rintro e w' ⟨vm, rfl, h1, h2⟩
            exact ⟨vm, _, rfl, h1, .inl ⟨rfl, rfl⟩, h2⟩
    · simp only [if_pos (show size ≠ p.s from hz)]
      exact mput_size va m w ha hI.nl l2 s size f p hs hf hp hb _ rfl hz ea H
theorem rPut_eq {k : Nat} {m : Md} (hI : MI k m) (s : ByteArray) (f : List UInt8) (p : P6) (hb : badAt p.s p.n p.k p.d p.t p.r = none) : mPut m s p.s f p = rPut m s f p := by
  unfold mPut
  rw [hb]
  simp only [if_neg (show ¬ p.s ≠ p.s from fun h => h rfl)]
  cases hx : mIdx m s with
  | some i =>
    obtain ⟨hi, h1, h2⟩ := List.findIdx?_eq_some_iff_getElem.1 hx
    have h1' : m.ns[i].s = s := by simpa using h1
    simp only [getD_in hi]
    by_cases hn : m.ns[i] = ⟨s, p, f, false⟩
    · rw [if_pos hn, rPut_hit hi (fun j hj hji e => by
        have := h2 j hji
        simp [e] at this) hn]
    · rw [if_neg hn, rPut_no (fun j hj e => by
        by_cases hij : i = j
        · subst hij; exact hn e
        · have hnd := List.pairwise_iff_getElem.1 hI.nd
          have hjs : m.ns[j].s = s := by rw [e]
          rcases Nat.lt_or_gt_of_ne hij with h | h
          · exact hnd i j (by simpa using hi) (by simpa using hj) h (by simp [h1', hjs])
          · exact hnd j i (by simpa using hj) (by simpa using hi) h (by simp [h1', hjs]))]
      congr 1
      exact (if_pos (by rw [List.any_eq_true]; exact ⟨m.ns[i], List.getElem_mem hi, h1⟩)).symm
  | none =>
    have hno : ∀ x ∈ m.ns, x.s ≠ s := fun x hx' => by simpa using List.findIdx?_eq_none_iff.1 hx x hx'
    rw [rPut_no (fun j hj e => hno _ (List.getElem_mem hj) (by rw [e]))]
    simp only
    congr 1
    exact (if_neg (by
      rw [List.any_eq_true]
      rintro ⟨x, hx', e⟩
      exact hno x hx' (by simpa using e))).symm
theorem rput_all {k : Nat} {m : Md} (hI : MI k m) (hk : k ≤ 1000) (va : Value) (w : World) (ha : ArgM w va m) (s : ByteArray) (size : Int) (f : List UInt8) (p : P6) (hs : s.size ≤ 1000000) (hf : f.length = 32) (hp : p.Ok) :
    Calls Tryd.prog 17 #[va, .string s, .int .i64 size, .agg (cB f).toArray, .agg p.list.toArray] w (RNPost (mPut m s size f p).1 (mPut m s size f p).2.1 (mPut m s size f p).2.2 w) := by
  have l2 : m.vs.length ≤ 1000 := Nat.le_trans hI.vl hk
  cases hb : badAt p.s p.n p.k p.d p.t p.r with
  | some q =>
    obtain ⟨F, V, i⟩ := q
    unfold mPut
    rw [hb]
    exact rput_chk va m w ha hI.nl l2 s f p hs hf hp size F V i hb
  | none =>
    by_cases hz : size = p.s
    · subst hz
      rw [rPut_eq hI s f p hb]
      exact rput_rest va m w ha hI.nl l2 s f p hs hf hp hb
    · unfold mPut
      rw [hb]
      simp only [if_pos (show size ≠ p.s from hz)]
      exact rput_size va m w ha hI.nl l2 s f p hs hf hp size hz hb
theorem mkept_all {k : Nat} {m : Md} (hI : MI k m) (hk : k ≤ 1000) (va : Value) (w : World) (ha : ArgM w va m) (q : Int) (ea : Nat → Addr) (H : Errs 137 errGs w ea) :
    Calls Tryd.prog 15 #[va, .int .i64 q] w (KPost ea (mKept m q).1 (mKept m q).2 w) := by
  have l2 : m.vs.length ≤ 1000 := Nat.le_trans hI.vl hk
  have l1 : m.ns.length ≤ 1000 := Nat.le_trans hI.nl (by decide)
  unfold mKept
  by_cases h : q < 0 ∨ (m.ns.length : Int) ≤ q
  · simp only [if_pos h]
    exact mkept_none va m w ha l1 l2 q (by omega) ea H
  · simp only [if_neg h]
    obtain ⟨i, rfl⟩ : ∃ i : Nat, q = (i : Int) := ⟨q.toNat, by omega⟩
    have hi : i < m.ns.length := by omega
    simp only [Int.toNat_natCast, getD_in hi]
    by_cases hk1 : m.ns[i].k = true
    · simp only [if_pos hk1]
      exact mkept_state va m w ha l1 l2 i hi hk1 ea H
    · simp only [if_neg hk1]
      refine (kept_good va m w ha l1 l2 i hi (by simpa using hk1)).mono ?_
      rintro e w' ⟨vm, rfl, h1, h2⟩
      exact ⟨vm, _, rfl, h1, .inl ⟨rfl, rfl⟩, h2⟩
theorem rkept_all {k : Nat} {m : Md} (hI : MI k m) (hk : k ≤ 1000) (va : Value) (w : World) (ha : ArgM w va m) (q : Int) :
    Calls Tryd.prog 19 #[va, .int .i64 q] w (RKPost (mKept m q).1 (mKept m q).2 w) := by
  have l2 : m.vs.length ≤ 1000 := Nat.le_trans hI.vl hk
  have l1 : m.ns.length ≤ 1000 := Nat.le_trans hI.nl (by decide)
  unfold mKept
  by_cases h : q < 0 ∨ (m.ns.length : Int) ≤ q
  · simp only [if_pos h]
    exact rkept_none va m w ha l1 l2 q h
  · simp only [if_neg h]
    obtain ⟨i, rfl⟩ : ∃ i : Nat, q = (i : Int) := ⟨q.toNat, by omega⟩
    have hi : i < m.ns.length := by omega
    simp only [Int.toNat_natCast, getD_in hi]
    by_cases hk1 : m.ns[i].k = true
    · simp only [if_pos hk1]
      exact rkept_state va m w ha l1 l2 i hi hk1
    · simp only [if_neg hk1]
      exact rkept_good va m w ha l1 l2 i hi (by simpa using hk1)
theorem masked_all {k : Nat} {m : Md} (hI : MI k m) (hk : k ≤ 1000) (va : Value) (w : World) (ha : ArgM w va m) (q way : Int) (ea : Nat → Addr) (H : Errs 137 errGs w ea) :
    Calls Tryd.prog 16 #[va, .int .i64 q, .int .i64 way] w (NPost ea (mAsked m q way).1 (mAsked m q way).2.1 (mAsked m q way).2.2 w) := by
  have l2 : m.vs.length ≤ 1000 := Nat.le_trans hI.vl hk
  have l1 : m.ns.length ≤ 1000 := Nat.le_trans hI.nl (by decide)
  unfold mAsked
  by_cases hw : way ≠ 1 ∧ way ≠ 2
  · simp only [if_pos hw]
    exact masked_kind va m w ha l1 l2 q way hw.1 hw.2 ea H
  · have hw2 : way = 1 ∨ way = 2 := by omega
    simp only [if_neg hw]
    by_cases h : q < 0 ∨ (m.ns.length : Int) ≤ q
    · simp only [if_pos h]
      exact masked_none va m w ha l1 l2 way hw2 q (by omega) ea H
    · simp only [if_neg h]
      obtain ⟨i, rfl⟩ : ∃ i : Nat, q = (i : Int) := ⟨q.toNat, by omega⟩
      have hi : i < m.ns.length := by omega
      simp only [Int.toNat_natCast, getD_in hi]
      by_cases hk1 : m.ns[i].k = false
      · simp only [if_pos hk1]
        exact masked_state va m w ha l1 l2 way hw2 i hi hk1 ea H
      · have hkt : m.ns[i].k = true := by simpa using hk1
        simp only [if_neg hk1]
        rcases hw2 with rfl | rfl
        · simp only [if_neg (show ¬ ((1 : Int) = 2 ∧ mLeft m (i : Int) = 0) from fun e => absurd e.1 (by decide))]
          refine (asked_one va m w ha l1 l2 i hi hkt).mono ?_
          rintro e w' ⟨vm, rfl, h1, h2⟩
          exact ⟨vm, _, rfl, h1, .inl ⟨rfl, rfl⟩, h2⟩
        · by_cases hL : mLeft m (i : Int) = 0
          · simp only [if_pos (show (True ∧ mLeft m (i : Int) = 0) from ⟨trivial, hL⟩)]
            exact masked_budget va m w ha l1 l2 i hi hkt hI.pn hL ea H
          · simp only [if_neg (show ¬ (True ∧ mLeft m (i : Int) = 0) from fun e => hL e.2)]
            refine (asked_two va m w ha l1 l2 i hi hkt hI.pn hL).mono ?_
            rintro e w' ⟨vm, rfl, h1, h2⟩
            exact ⟨vm, _, rfl, h1, .inl ⟨rfl, rfl⟩, h2⟩
theorem rasked_all {k : Nat} {m : Md} (hI : MI k m) (hk : k ≤ 1000) (va : Value) (w : World) (ha : ArgM w va m) (q way : Int) :
    Calls Tryd.prog 20 #[va, .int .i64 q, .int .i64 way] w (RNPost (mAsked m q way).1 (mAsked m q way).2.1 (mAsked m q way).2.2 w) := by
  have l2 : m.vs.length ≤ 1000 := Nat.le_trans hI.vl hk
  have l1 : m.ns.length ≤ 1000 := Nat.le_trans hI.nl (by decide)
  unfold mAsked
  by_cases hw : way ≠ 1 ∧ way ≠ 2
  · simp only [if_pos hw]
    exact rasked_kind va m w ha l1 l2 q way hw.1 hw.2
  · have hw2 : way = 1 ∨ way = 2 := by omega
    simp only [if_neg hw]
    by_cases h : q < 0 ∨ (m.ns.length : Int) ≤ q
    · simp only [if_pos h]
      exact rasked_none va m w ha l1 l2 way hw2 q h
    · simp only [if_neg h]
      obtain ⟨i, rfl⟩ : ∃ i : Nat, q = (i : Int) := ⟨q.toNat, by omega⟩
      have hi : i < m.ns.length := by omega
      simp only [Int.toNat_natCast, getD_in hi]
      by_cases hk1 : m.ns[i].k = false
      · simp only [if_pos hk1]
        exact rasked_state va m w ha l1 l2 way hw2 i hi hk1
      · have hkt : m.ns[i].k = true := by simpa using hk1
        simp only [if_neg hk1]
        rcases hw2 with rfl | rfl
        · simp only [if_neg (show ¬ ((1 : Int) = 2 ∧ mLeft m (i : Int) = 0) from fun e => absurd e.1 (by decide))]
          exact rasked_1 va m w ha l1 l2 i hi hkt
        · by_cases hL : mLeft m (i : Int) = 0
          · simp only [if_pos (show (True ∧ mLeft m (i : Int) = 0) from ⟨trivial, hL⟩)]
            exact rasked_budget va m w ha l1 l2 i hi hkt hI.pn hL
          · simp only [if_neg (show ¬ (True ∧ mLeft m (i : Int) = 0) from fun e => hL e.2)]
            exact rasked_2 va m w ha l1 l2 i hi hkt hI.pn hL
theorem mjudged_all {k : Nat} {m : Md} (hI : MI k m) (hk : k ≤ 1000) (va : Value) (w : World) (ha : ArgM w va m) (q v : Int) (hv : inI v) (ea : Nat → Addr) (H : Errs 137 errGs w ea) :
    Calls Tryd.prog 21 #[va, .int .i64 q, .int .i64 v] w (KPost ea (mJudged m q v).1 (mJudged m q v).2 w) := by
  have l2 : m.vs.length ≤ 1000 := Nat.le_trans hI.vl hk
  have l1 : m.ns.length ≤ 1000 := Nat.le_trans hI.nl (by decide)
  unfold mJudged
  by_cases h : q < 0 ∨ (m.vs.length : Int) ≤ q
  · simp only [if_pos h]
    exact mjudged_none va m w ha l1 l2 q v h ea H
  · simp only [if_neg h]
    obtain ⟨i, rfl⟩ : ∃ i : Nat, q = (i : Int) := ⟨q.toNat, by omega⟩
    have hi : i < m.vs.length := by omega
    simp only [Int.toNat_natCast, getD_in hi]
    by_cases hk1 : m.vs[i].v ≠ 0
    · simp only [if_pos hk1]
      exact mjudged_state va m w ha l1 l2 v i hi hk1 ea H
    · have hk0 : m.vs[i].v = 0 := by simpa using hk1
      simp only [if_neg hk1]
      by_cases hr : v < 1 ∨ 3 < v
      · simp only [if_pos hr]
        exact mjudged_range va m w ha l1 l2 v i hi hk0 hr ea H
      · simp only [if_neg hr]
        refine (mjudged_good va m w ha l1 l2 v hv (by omega) (by omega) i hi hk0).mono ?_
        rintro e w' ⟨vm, rfl, h1, h2⟩
        exact ⟨vm, _, rfl, h1, .inl ⟨rfl, rfl⟩, h2⟩
theorem rjudged_all {k : Nat} {m : Md} (hI : MI k m) (hk : k ≤ 1000) (va : Value) (w : World) (ha : ArgM w va m) (q v : Int) (hv : inI v) :
    Calls Tryd.prog 22 #[va, .int .i64 q, .int .i64 v] w (RKPost (mJudged m q v).1 (mJudged m q v).2 w) := by
  have l2 : m.vs.length ≤ 1000 := Nat.le_trans hI.vl hk
  have l1 : m.ns.length ≤ 1000 := Nat.le_trans hI.nl (by decide)
  unfold mJudged
  by_cases h : q < 0 ∨ (m.vs.length : Int) ≤ q
  · simp only [if_pos h]
    exact rjudged_none va m w ha l1 l2 q v h
  · simp only [if_neg h]
    obtain ⟨i, rfl⟩ : ∃ i : Nat, q = (i : Int) := ⟨q.toNat, by omega⟩
    have hi : i < m.vs.length := by omega
    simp only [Int.toNat_natCast, getD_in hi]
    by_cases hk1 : m.vs[i].v ≠ 0
    · simp only [if_pos hk1]
      exact rjudged_state va m w ha l1 l2 v i hi hk1
    · have hk0 : m.vs[i].v = 0 := by simpa using hk1
      simp only [if_neg hk1]
      by_cases hr : v < 1 ∨ 3 < v
      · simp only [if_pos hr]
        exact rjudged_range va m w ha l1 l2 v i hi hk0 hr
      · simp only [if_neg hr]
        exact rjudged_good va m w ha l1 l2 v hv (by omega) (by omega) i hi hk0
/-- A model's rows do not lie in a box that holds a model. -/
theorem ArgM.updB {W W' : World} {v : Value} {m : Md} {b : Nat} {a a' : Option Addr} {n n' c c' : Nat} {T : TypeId} {z : Nat × Nat} {ob : Obj} (h : ArgM W v m) (hb : W.heap[b]? = some (.cells #[.slice a n c, .slice a' n' c'] T z)) (hU : Upd b ob W W') : ArgM W' v m := by
  have key : ∀ (bb o : Nat) (cs : List Value) (u : Value), cs[0]? = some u → (∀ a n c, u ≠ .slice a n c) → W.rangeAt bb o cs → W'.rangeAt bb o cs := fun bb o cs u h0 hu hr j x hx => by
    have hne : bb ≠ b := fun e => by
      subst e
      have h1 := hr 0 u h0
      rw [cell_of_block hb] at h1
      have : o + 0 = 0 ∨ o + 0 = 1 ∨ 2 ≤ o + 0 := by omega
      rcases this with q | q | q
      · rw [q] at h1; exact hu _ _ _ (Option.some.inj h1).symm
      · rw [q] at h1; exact hu _ _ _ (Option.some.inj h1).symm
      · rw [Array.getElem?_eq_none (by simpa using q)] at h1
        cases h1
    exact (World.cell?_of_block (a := ⟨bb, o + j, none⟩) (hU.block bb hne)).trans (hr j x hx)
  obtain ⟨⟨a1, c1, a2, c2, e, h1, h2, h3, h4, h5, h6⟩, h7, h8⟩ := h
  refine ⟨⟨a1, c1, a2, c2, e, fun i hi => ?_, h2, h3, fun i hi => ?_, h5, h6⟩, h7, h8⟩
  · obtain ⟨bb, o, e2, hr⟩ := h1 i hi
    exact ⟨bb, o, e2, key bb _ _ (.string (m.ns[i]).s) rfl (fun _ _ _ e => by cases e) hr⟩
  · obtain ⟨bb, o, e2, hr⟩ := h4 i hi
    exact ⟨bb, o, e2, key bb _ _ (.int .i64 (m.vs[i]).o) rfl (fun _ _ _ e => by cases e) hr⟩
theorem ArgM.shape {W : World} {v : Value} {m : Md} (h : ArgM W v m) : ∃ a c a' c', v = .agg #[.slice a m.ns.length c, .slice a' m.vs.length c'] := by
  obtain ⟨⟨a, c, a', c', e, _⟩, _, _⟩ := h
  exact ⟨a, c, a', c', e⟩
end Go.Proofs.YtndgacjfkoliaaaDoor
