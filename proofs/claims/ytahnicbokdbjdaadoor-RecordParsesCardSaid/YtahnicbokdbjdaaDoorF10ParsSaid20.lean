/- The reader of records: take. -/
import Derived.Test.YtahnicbokdbjdaaDoorF9ParsSaid20
import Derived.Test.YtahnicbokdbjdaaDoorF2ParsSaid20
namespace Go.Proofs.YtahnicbokdbjdaaDoor
open Go.RowKit

/-- What take gives and leaves. -/
def takeO (bs : List UInt8) (sh : Bool) (n : Nat) : List UInt8 := if sh = true ∨ bs.length < n then List.replicate n 0 else bs.take n
def takeB (bs : List UInt8) (sh : Bool) (n : Nat) : List UInt8 := if sh = true ∨ bs.length < n then bs else bs.drop n
def takeS (bs : List UInt8) (sh : Bool) (n : Nat) : Bool := if sh = true ∨ bs.length < n then true else false
theorem takeO_length (bs : List UInt8) (sh : Bool) (n : Nat) : (takeO bs sh n).length = n := by
  unfold takeO
  split
  · simp
  · next h => rw [List.length_take]; omega
theorem takeB_le (bs : List UInt8) (sh : Bool) (n : Nat) : (takeB bs sh n).length ≤ bs.length := by
  unfold takeB
  split
  · exact Nat.le_refl _
  · rw [List.length_drop]; omega
/-- A reader in memory: block q. -/
def RdM (w : World) (q B : Nat) (bs : List UInt8) (sh : Bool) : Prop :=
  ∃ a c, w.heap[q]? = some (.cells #[.slice a bs.length c, .bool sh] 66 (0, 0)) ∧ ArgB w a c bs ∧ ∀ ad, a = some ad → ∃ b o, ad = ⟨b, o, none⟩ ∧ b ≠ q ∧ b < B
theorem ne_of {a : Option Addr} {q B b o : Nat} (h : ∀ ad, a = some ad → ∃ b o, ad = ⟨b, o, none⟩ ∧ b ≠ q ∧ b < B) (e : a = some ⟨b, o, none⟩) : b ≠ q := by
  obtain ⟨b', o', e', hn⟩ := h _ e
  cases e'
  exact hn.1
theorem RdM.only {w w' : World} {q B : Nat} {bs : List UInt8} {sh : Bool} {D : Nat → Prop} (h : RdM w q B bs sh) (hO : Only D w w') (hq : ¬ D q) (hD : ∀ k, D k → B ≤ k) : RdM w' q B bs sh := by
  obtain ⟨a, c, h1, h2, h3⟩ := h
  refine ⟨a, c, hO.heap h1 hq, hO.argB h2 (fun b o e hk => ?_), h3⟩
  obtain ⟨b', o', e', _, hn⟩ := h3 _ e
  cases e'
  have := hD b hk
  omega
def TakePost (w : World) (q B : Nat) (bs : List UInt8) (sh : Bool) (n : Nat) (e : Ending) (w' : World) : Prop :=
  ∃ a c, e = .returned (.slice a n c) ∧ ArgB w' a c (takeO bs sh n) ∧ (∀ ad, a = some ad → ∃ b o, ad = ⟨b, o, none⟩ ∧ b ≠ q) ∧ RdM w' q B (takeB bs sh n) (takeS bs sh n) ∧ Only (fun k => k = q) w w'

theorem argB_sub {w : World} {b o c n : Nat} {bs : List UInt8} (h : ArgB w (some ⟨b, o, none⟩) c bs) (hn : n ≤ bs.length) : ArgB w (some ⟨b, o, none⟩) c (bs.take n) ∧ ArgB w (some ⟨b, o + n, none⟩) (c - n) (bs.drop n) := by
  have hl := h.len
  have hm := h.most
  refine ⟨⟨by rw [List.length_take]; omega, hm, (fun e => by cases e), fun i hi => ?_⟩, ⟨by rw [List.length_drop]; omega, by omega, (fun e => by cases e), fun i hi => ?_⟩⟩
  · rw [List.length_take] at hi
    obtain ⟨b', o', e, hc⟩ := h.row i (by omega)
    cases e
    refine ⟨_, _, rfl, ?_⟩
    rw [hc]
    congr 2
    simp [List.getD_eq_getElem?_getD, show i < n by omega]
  · rw [List.length_drop] at hi
    obtain ⟨b', o', e, hc⟩ := h.row (n + i) (by omega)
    cases e
    refine ⟨_, _, rfl, ?_⟩
    rw [show o + n + i = o + (n + i) from by omega, hc]
    congr 2
    simp [List.getD_eq_getElem?_getD, List.getElem?_drop]
theorem argB_empty {w : World} {a : Option Addr} {c : Nat} (hm : c ≤ maxLen) (hn : a = none → c = 0) : ArgB w a c [] := ⟨Nat.zero_le _, hm, hn, fun _ hi => absurd hi (Nat.not_lt_zero _)⟩

set_option maxHeartbeats 1000000 in
theorem take_short (q B : Nat) (bs : List UInt8) (sh : Bool) (n : Nat) (w : World) (h : RdM w q B bs sh) (hn : n ≤ 1000) (hs : sh = true ∨ bs.length < n) : Calls Tryd.prog 45 #[.pointer (some ⟨q, 0, none⟩), .int .i64 (n : Int)] w (TakePost w q B bs sh n) := by
  obtain ⟨i0, hi, hz0, hz1, hz2⟩ := info_parts Tryd.infoByteP
  obtain ⟨a, c, hq, ha, hne⟩ := h
  have eO : takeO bs sh n = List.replicate n 0 := by unfold takeO; rw [if_pos hs]
  have eB : takeB bs sh n = bs := by unfold takeB; rw [if_pos hs]
  have eS : takeS bs sh n = true := by unfold takeS; rw [if_pos hs]
  have c0 := cell_of_block hq 0
  have c1 := cell_of_block hq 1
  have f1 := free_of_block hq 1
  have hlt := block_lt hq
  obtain ⟨w2, hw2⟩ : ∃ w2, w2 = w.setCell ⟨q, 1, none⟩ (.bool true) := ⟨_, rfl⟩
  have hU := (Upd.refl hq).setCell (j := 1) (.bool true)
  rw [← hw2] at hU
  replace hw2 := Lib.hid hw2
  obtain ⟨L, hL⟩ : ∃ L, L = bs.length := ⟨_, rfl⟩
  rw [← hL] at c0 hs
  replace hL := Lib.hid hL
  replace hU := Lib.hid hU
  replace ha := Lib.hid ha
  replace hne := Lib.hid hne
  replace hq := Lib.hid hq
  have hfin : ∀ w4, Only (fun k => k = q) w w4 → w4.heap[q]? = some (.cells #[.slice a bs.length c, .bool true] 66 (0, 0)) → RdM w4 q B bs true := fun w4 hO h4 => ⟨a, c, h4, hO.argB ha.out (fun b o e => ne_of hne.out e), hne.out⟩
  replace hfin := Lib.hid hfin
  have hpost : ∀ w4, OwnB w.heap.size w4 (.slice (some ⟨w2.heap.size, 0, none⟩) n n) (List.replicate n 0) → Only (fun k => k = q) w w4 → w4.heap[q]? = some (.cells #[.slice a bs.length c, .bool true] 66 (0, 0)) → TakePost w q B bs sh n (.returned (.slice (some ⟨w2.heap.size, 0, none⟩) n n)) w4 := fun w4 h1 h2 h3 => by
    obtain ⟨a4, c4, e4, h4, _⟩ := h1.arg
    rw [List.length_replicate] at e4
    cases e4
    refine ⟨_, _, rfl, by rw [eO]; exact h4, fun ad e => ?_, by rw [eB, eS]; exact hfin.out w4 h2 h3, h2⟩
    cases e
    refine ⟨_, _, rfl, ?_⟩
    have := hU.out.size
    omega
  replace hpost := Lib.hid hpost
  clear eO eB eS
  by_cases hsh : sh = true
  · subst hsh
    clear hs
    go_enter Tryd.func45, Tryd.ntmps45
    go_wp2_with (at_make; rw [← hw2.out]; go_must (refine wpList_make_full _ rfl _ _ 36 rfl w.heap.size 5 i0 (.int .u8 0) 1 Tryd.underlying36 hi hz0 hz1 _ _ _ _ n rfl rfl (by omega) (by omega) (by rw [hz2]; omega) (by unfold maxLen; omega) (by have := hU.out.size; omega) ?_))
    intro w4 hown4 hg4
    have hO4 := OwnB.made hown4
    rw [tab_zero] at hO4
    have h4 := (hg4.block q (by have := hU.out.size; omega) (by simp)).trans hU.out.here
    have hOn : Only (fun k => k = q) w w4 := (Only.ofUpd (D := fun k => k = q) hU.out rfl).trans (Only.ofGrown (D := fun _ => False) hg4 (fun k e => by cases e)) (fun _ _ e => e.elim)
    replace hO4 := Lib.hid hO4
    replace h4 := Lib.hid h4
    replace hOn := Lib.hid hOn
    clear hown4 hg4
    go_wp2_with fail
    go_ret
    exact hpost.out w4 hO4.out hOn.out h4.out
  · have hsf : sh = false := by simpa using hsh
    subst hsf
    have hln : L < n := hs.resolve_left (by simp)
    have hlt2 : (L : Int) < (n : Int) := by omega
    clear hs hsh hln
    go_enter Tryd.func45, Tryd.ntmps45
    go_wp2_with (at_make; rw [← hw2.out]; go_must (refine wpList_make_full _ rfl _ _ 36 rfl w.heap.size 5 i0 (.int .u8 0) 1 Tryd.underlying36 hi hz0 hz1 _ _ _ _ n rfl rfl (by omega) (by omega) (by rw [hz2]; omega) (by unfold maxLen; omega) (by have := hU.out.size; omega) ?_))
    intro w4 hown4 hg4
    have hO4 := OwnB.made hown4
    rw [tab_zero] at hO4
    have h4 := (hg4.block q (by have := hU.out.size; omega) (by simp)).trans hU.out.here
    have hOn : Only (fun k => k = q) w w4 := (Only.ofUpd (D := fun k => k = q) hU.out rfl).trans (Only.ofGrown (D := fun _ => False) hg4 (fun k e => by cases e)) (fun _ _ e => e.elim)
    replace hO4 := Lib.hid hO4
    replace h4 := Lib.hid h4
    replace hOn := Lib.hid hOn
    clear hown4 hg4
    go_wp2_with fail
    go_ret
    exact hpost.out w4 hO4.out hOn.out h4.out

set_option maxHeartbeats 1000000 in
theorem take_full (q B : Nat) (bs : List UInt8) (n : Nat) (w : World) (h : RdM w q B bs false) (hn : n ≤ bs.length) (hm : bs.length ≤ 1000000) : Calls Tryd.prog 45 #[.pointer (some ⟨q, 0, none⟩), .int .i64 (n : Int)] w (TakePost w q B bs false n) := by
  obtain ⟨a, c, hq, ha, hne⟩ := h
  have hs : ¬ (false = true ∨ bs.length < n) := by simp; omega
  have eO : takeO bs false n = bs.take n := by unfold takeO; rw [if_neg hs]
  have eB : takeB bs false n = bs.drop n := by unfold takeB; rw [if_neg hs]
  have eS : takeS bs false n = false := by unfold takeS; rw [if_neg hs]
  have c0 := cell_of_block hq 0
  have c1 := cell_of_block hq 1
  have f0 := free_of_block hq 0
  have hlt := block_lt hq
  have hlen := ha.len
  have hmost := ha.most
  have hU : ∀ v, Upd q (.cells #[v, .bool false] 66 (0, 0)) w (w.setCell ⟨q, 0, none⟩ v) := fun v => (Upd.refl hq).setCell (j := 0) v
  have hfin : ∀ a2 c2, ArgB w a2 c2 (bs.drop n) → (∀ ad, a2 = some ad → ∃ b o, ad = ⟨b, o, none⟩ ∧ b ≠ q ∧ b < B) → ArgB w a c (bs.take n) → TakePost w q B bs false n (.returned (.slice a n c)) (w.setCell ⟨q, 0, none⟩ (.slice a2 (bs.length - n) c2)) := fun a2 c2 h1 h2 h3 => by
    have hO : Only (fun k => k = q) w (w.setCell ⟨q, 0, none⟩ (.slice a2 (bs.length - n) c2)) := Only.ofUpd (hU _) rfl
    refine ⟨a, c, rfl, by rw [eO]; exact hO.argB h3 (fun b o e => ne_of hne e), (fun ad e => by obtain ⟨b, o, h4, h5, _⟩ := hne ad e; exact ⟨b, o, h4, h5⟩), ?_, hO⟩
    rw [eB, eS]
    refine ⟨a2, c2, ?_, hO.argB h1 (fun b o e => ne_of h2 e), h2⟩
    rw [List.length_drop]
    exact (hU _).here
  obtain ⟨L, hL⟩ : ∃ L, L = bs.length := ⟨_, rfl⟩
  rw [← hL] at c0 hfin hlen hn hm
  have hnl : ¬ (L : Int) < (n : Int) := by omega
  have hn0 : (0 : Int) ≤ (n : Int) := by omega
  have hle : (n : Int) ≤ (L : Int) := by omega
  have hlc : (L : Int) ≤ (c : Int) := by omega
  have hnc : (n : Int) ≤ (c : Int) := by omega
  have hsub : ((L : Int) - (n : Int)).toNat = L - n := by omega
  have hsubc : ((c : Int) - (n : Int)).toNat = c - n := by omega
  replace hL := Lib.hid hL
  replace hfin := Lib.hid hfin
  replace hU := Lib.hid hU
  clear eO eB eS hs hq
  cases a with
  | none =>
    have hc0 := ha.nil rfl
    subst hc0
    obtain rfl : L = 0 := by omega
    obtain rfl : n = 0 := by omega
    have he : bs = [] := List.length_eq_zero_iff.1 hL.out.symm
    subst he
    have hgo := Lib.hid (hfin.out none 0 (by exact argB_empty (by decide) (fun _ => rfl)) (fun ad e => by cases e) (by exact argB_empty (by decide) (fun _ => rfl)))
    clear ha hne hfin hU
    go_enter Tryd.func45, Tryd.ntmps45
    go_wp2_with fail
    go_ret
    exact hgo.out
  | some ad =>
    obtain ⟨b, o, rfl, hbq, hbB⟩ := hne ad rfl
    obtain ⟨h1, h2⟩ := argB_sub ha (n := n) (by rw [← hL.out]; exact hn)
    by_cases hcc : n = c
    · subst hcc
      obtain rfl : L = n := by omega
      have hgo := Lib.hid (fun b2 o2 (h : b2 ≠ q ∧ b2 < B) => hfin.out (some ⟨b2, o2, none⟩) 0 (by rw [show bs.drop L = [] from by rw [hL.out]; exact List.drop_length]; exact argB_empty (by decide) (fun e => by cases e)) (fun ad e => by cases e; exact ⟨_, _, rfl, h.1, h.2⟩) h1)
      clear ha hne hfin hU h1 h2
      go_enter Tryd.func45, Tryd.ntmps45
      go_wp2_with fail
      go_ret
      have := hgo.out b o ⟨hbq, hbB⟩
      simpa using this
    · have hgo := Lib.hid (hfin.out (some ⟨b, o + n, none⟩) (c - n) h2 (fun ad e => by cases e; exact ⟨_, _, rfl, hbq, hbB⟩) h1)
      have hlt2 : n < c := by omega
      have hcn : ¬ c = n := by omega
      have hcb : ¬ c ≤ n := by omega
      clear ha hne hfin hU h1 h2
      go_enter Tryd.func45, Tryd.ntmps45
      go_wp2_with fail
      go_ret
      exact hgo.out
theorem take_any (q B : Nat) (bs : List UInt8) (sh : Bool) (n : Nat) (w : World) (h : RdM w q B bs sh) (hn : n ≤ 1000) (hm : bs.length ≤ 1000000) : Calls Tryd.prog 45 #[.pointer (some ⟨q, 0, none⟩), .int .i64 (n : Int)] w (TakePost w q B bs sh n) := by
  by_cases hs : sh = true ∨ bs.length < n
  · exact take_short q B bs sh n w h hn hs
  · have hsf : sh = false := by
      cases sh
      · rfl
      · exact absurd (Or.inl rfl) hs
    subst hsf
    exact take_full q B bs n w h (by omega) hm
end Go.Proofs.YtahnicbokdbjdaaDoor
