/- slices.Clone, slices.Insert of lists of bytes. -/
import Derived.Test.YtfmeheolcibfeaaDoorShaO
import Derived.Shelf.Spec.SlicesInsertGrow
import Derived.Lib.LazyBuf
namespace Go.Proofs.YtfmeheolcibfeaaDoor
open Go.RowKit Go.Lib

theorem Tryd.infoSlP : (Tryd.prog.info? 22).map (fun i => (i.zero, i.size, i.bytes)) = some (some (.slice none 0 0), 1, 24) := by kernel_rfl

/-- The values of a list of lists. -/
def ValsAt (w : World) (vs : List Value) (ps : List (List UInt8)) : Prop :=
  vs.length = ps.length ∧ ∀ i, i < ps.length → ∃ ai ci, vs[i]? = some (.slice ai (ps.getD i []).length ci) ∧ ArgB w ai ci (ps.getD i [])
theorem ValsAt.below {w w' : World} {vs : List Value} {ps : List (List UInt8)} (h : ValsAt w vs ps) (hb : Below w.heap.size w w') : ValsAt w' vs ps :=
  ⟨h.1, fun i hi => by obtain ⟨ai, ci, e, hr⟩ := h.2 i hi; exact ⟨ai, ci, e, hr.below hb⟩⟩
theorem ValsAt.one {w : World} {vs : List Value} {ps : List (List UInt8)} (h : ValsAt w vs ps) : ∀ u ∈ vs, u.oneCell' = true := by
  intro u hu
  obtain ⟨i, hi, rfl⟩ := List.mem_iff_getElem.1 hu
  obtain ⟨ai, ci, e, _⟩ := h.2 i (by rw [← h.1]; exact hi)
  rw [List.getElem?_eq_getElem hi] at e
  injection e with e
  rw [e]; rfl
theorem ValsAt.nil (w : World) : ValsAt w [] [] := ⟨rfl, fun i hi => absurd hi (Nat.not_lt_zero i)⟩
theorem ValsAt.cons {w : World} {vs : List Value} {ps : List (List UInt8)} {a : Option Addr} {c : Nat} {p : List UInt8} (h : ValsAt w vs ps) (hp : ArgB w a c p) : ValsAt w (.slice a p.length c :: vs) (p :: ps) := by
  refine ⟨by rw [List.length_cons, List.length_cons, h.1], fun i hi => ?_⟩
  cases i with
  | zero => exact ⟨a, c, rfl, hp⟩
  | succ i => exact h.2 i (by simpa using hi)
theorem ArgBB.vals {w : World} {a : Option Addr} {cap : Nat} {ps : List (List UInt8)} (h : ArgBB w a cap ps) : ∃ vs, ValsAt w vs ps ∧ At w a vs := by
  cases hps : ps with
  | nil => exact ⟨[], ValsAt.nil w, fun i hi => absurd hi (Nat.not_lt_zero i)⟩
  | cons p qs =>
    rw [← hps]
    obtain ⟨b, off, rfl, _⟩ := h.row 0 (by rw [hps]; exact Nat.zero_lt_succ _)
    have hc : ∀ i, i < ps.length → ∃ ai ci, w.cell? ⟨b, off + i, none⟩ = some (.slice ai (ps.getD i []).length ci) ∧ ArgB w ai ci (ps.getD i []) := by
      intro i hi
      obtain ⟨b', off', e, ai, ci, h1, h2⟩ := h.row i hi
      cases e
      exact ⟨ai, ci, h1, h2⟩
    refine ⟨(List.range ps.length).map fun i => (w.cell? ⟨b, off + i, none⟩).getD undef, ⟨by simp, fun i hi => ?_⟩, fun i hi => ⟨b, off, rfl, ?_⟩⟩
    · obtain ⟨ai, ci, h1, h2⟩ := hc i hi
      exact ⟨ai, ci, by simp [hi, h1], h2⟩
    · have hi' : i < ps.length := by simpa using hi
      obtain ⟨ai, ci, h1, h2⟩ := hc i hi'
      simp [hi', h1]
theorem ArgBB.of {w : World} {a : Option Addr} {cap : Nat} {ps : List (List UInt8)} {vs : List Value} (h : ValsAt w vs ps) (ha : At w a vs) (h1 : ps.length ≤ cap) (h2 : cap ≤ maxLen) (h3 : a = none → cap = 0) : ArgBB w a cap ps := by
  refine ⟨h1, h2, h3, fun i hi => ?_⟩
  obtain ⟨b, off, e, hc⟩ := ha i (by rw [h.1]; exact hi)
  obtain ⟨ai, ci, e2, hr⟩ := h.2 i hi
  exact ⟨b, off, e, ai, ci, by rw [hc, e2], hr⟩

theorem ownsS_made0 (w : World) : (w.alloc (.cells #[] 22)).ownsRow w.heap.size 22 1 (.slice (some ⟨w.heap.size, 0, none⟩) 0 0) 0 [] := by
  have h := World.ownsRow_made (base := w.heap.size) (e := 22) (size := 1) w #[] 0 (Nat.le_refl _) (by decide) (by simp)
  simpa using h

set_option maxHeartbeats 1000000 in
theorem cloneS_vs (a : Option Addr) (cap : Nat) (ps : List (List UInt8)) (vs : List Value) (w : World) (h : ArgBB w a cap ps) (hvs : ValsAt w vs ps) (hat : At w a vs) (hr : ps.length ≤ 1000000) :
    Calls Tryd.prog 46 #[.slice a ps.length cap] w fun e w' => ∃ v, e = .returned v ∧ w'.ownsRow w.heap.size 22 1 v ps.length vs ∧ Below w.heap.size w w' := by
  obtain ⟨i0, hi, hz0, hz1, hz2⟩ := info_parts Tryd.infoSlP
  have h := Lib.hid h
  have hq := @Lib.run_eql_slice_nil Tryd.prog w 60 22 a ps.length cap 0 0 Tryd.underlying60
  have hone := hvs.one
  cases a with
  | none =>
    have hc := h.out.nil rfl
    subst hc
    have hl : ps = [] := List.eq_nil_of_length_eq_zero (by have := h.out.len; omega)
    subst hl
    have hvl : vs = [] := List.eq_nil_of_length_eq_zero hvs.1
    subst hvl
    have hq' := @Lib.run_eql_slice_nil Tryd.prog w 60 22 none 0 0 0 0 Tryd.underlying60
    clear hq
    go_enter Tryd.func46, Tryd.ntmps46
    go_wp2_with fail
    go_ret
    exact ⟨_, rfl, ⟨rfl, .inl ⟨rfl, rfl⟩⟩, Below.refl _ _⟩
  | some ad =>
    have hnil := Lib.hid (show (some ad = none → cap = 0) from fun e => by cases e)
    have hlen := Lib.hid hvs.1
    have hown0 := Lib.hid (ownsS_made0 w)
    have hb0 := Lib.hid ((Below.refl w.heap.size w).alloc (Nat.le_refl _) (.cells #[] 22))
    have hsrc := Lib.hid (hat.below hb0.out)
    replace hvs := Lib.hid hvs
    replace hone := Lib.hid hone
    clear hat
    go_enter Tryd.func46, Tryd.ntmps46
    go_wp2_with (at_builtin; go_must (refine wpList_app rfl (.tmp 5) (.tmp 6) 60 rfl w.heap.size 22 i0 (.slice none 0 0) 24 Tryd.underlying60 hi hz0 hz1 hz2 (by decide) _ 0 [] rfl hown0 _ ps.length cap vs rfl hlen hsrc hnil hone.out (by unfold maxLen; omega) (by omega) (by simp) ?_))
    intro v' w2 hown2 hg2
    have hb2 := Lib.hid (hb0.out.grown hg2.out (by simp) (fun k hk => by cases hk; exact Nat.le_refl _))
    go_wp2_with fail
    go_ret
    refine ⟨_, rfl, ?_, hb2.out⟩
    have := hown2.out
    simpa using this
theorem cloneS_any (a : Option Addr) (cap : Nat) (ps : List (List UInt8)) (w : World) (h : ArgBB w a cap ps) (hr : ps.length ≤ 1000000) :
    Calls Tryd.prog 46 #[.slice a ps.length cap] w fun e w' => ∃ v vs, e = .returned v ∧ w'.ownsRow w.heap.size 22 1 v ps.length vs ∧ ValsAt w vs ps ∧ Below w.heap.size w w' := by
  obtain ⟨vs, hvs, hat⟩ := h.vals
  exact (cloneS_vs a cap ps vs w h hvs hat hr).mono fun e w' ⟨v, h1, h2, h3⟩ => ⟨v, vs, h1, h2, hvs, h3⟩

/-- slices.overlaps of two blocks. -/
theorem overlaps_apart (w : World) (vb g off la ca lb cb : Nat) (hne : vb ≠ g) (x : Array Value) (y : Array Value) (hx : w.heap[vb]? = some (.cells x 22 (0, 0))) (hy : w.heap[g]? = some (.cells y 22 (0, 0))) (hy0 : y.size ≠ 0) :
    (callFunc 55 #[.slice (some ⟨vb, 0, none⟩) la ca, .slice (some ⟨g, off, none⟩) lb cb]).run Tryd.prog w = .ok (.value (.bool false)) w := by
  rw [run_callFunc_extern Tryd.func55 (by kernel_rfl) (by kernel_rfl) (by kernel_rfl) (e := Extern.SlicesOverlaps.overlaps #[60, 60] #[4]) (by kernel_rfl),
    Lib.run_overlaps_apart w 60 4 22 Tryd.underlying60 1 (fun w => by kernel_rfl) ⟨vb, 0, none⟩ ⟨g, off, none⟩ la ca lb cb hne 22 22 x.size y.size (by simp [World.shape?, hx]) (by simp [World.shape?, hy]) hy0 (free_of_block hx _) (free_of_block hx _)]
  rfl

end Go.Proofs.YtfmeheolcibfeaaDoor
