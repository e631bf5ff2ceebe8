/- The walk over baileelaw09.LabelKeys: for whatever arguments it returns true and leaves what was there as it was. -/
import Derived.Test.YtfmeheolcibfeaaDoorAlive9
import Derived.Test.YtfmeheolcibfeaaDoorEnum
import Derived.Test.YtfmeheolcibfeaaDoorConv
import Derived.Test.YtfmeheolcibfeaaDoorOnL
namespace Go.Proofs.YtfmeheolcibfeaaDoor
open Go.RowKit

theorem marks_arg9 {W : World} {g : Nat} {xs : List UInt8} (h : At W (some ⟨g, 0, none⟩) (cB (xs ++ marksB))) (hl : xs.length ≤ 1000000) : ArgB W (some ⟨g, 0, none⟩) (xs.length + 6) xs :=
  ⟨by omega, by unfold maxLen; omega, (fun e => by cases e), marks_row h⟩
theorem kX_length (key s : List UInt8) (n : Int) : (kX key s n).length ≤ 32 := by
  unfold kX
  split
  · rw [hmac_length]; omega
  · simp

theorem five_all {W : World} {vs : List Value} {f : Nat → List UInt8} (h : Five W vs f) : (vs.toArray.all (·.oneCell')) = true := by
  rw [List.all_toArray, List.all_eq_true]
  intro v hv
  obtain ⟨i, hi, rfl⟩ := List.getElem_of_mem hv
  obtain ⟨a, c, e, _⟩ := h.2 i (by rw [← h.1]; exact hi)
  rw [List.getElem?_eq_getElem hi] at e
  rw [Option.some.inj e]
  rfl
theorem five_facts {W : World} {vs : List Value} {f : Nat → List UInt8} (h : Five W vs f) : (Tryd.prog.info? 36).map (·.size) = some vs.toArray.size ∧ (#[.slice none 0 0, .slice none 0 0, .slice none 0 0, .slice none 0 0, .slice none 0 0] : Array Value).size = vs.toArray.size ∧ (vs.toArray.all (·.oneCell')) = true := by
  have hs : vs.toArray.size = 5 := by rw [List.size_toArray]; exact h.1
  refine ⟨?_, by rw [hs]; rfl, five_all h⟩
  rw [hs]; kernel_rfl
theorem five_facts9 {W : World} {vs : List Value} {f : Nat → List UInt8} (h : Five W vs f) : (Tryd.prog.info? 39).map (·.size) = some vs.toArray.size ∧ (#[.slice none 0 0, .slice none 0 0, .slice none 0 0, .slice none 0 0, .slice none 0 0] : Array Value).size = vs.toArray.size ∧ (vs.toArray.all (·.oneCell')) = true := by
  have hs : vs.toArray.size = 5 := by rw [List.size_toArray]; exact h.1
  refine ⟨?_, by rw [hs]; rfl, five_all h⟩
  rw [hs]; kernel_rfl
theorem five_index {W : World} {vs : List Value} {f : Nat → List UInt8} (h : Five W vs f) : ∀ (i : Nat), i < 5 → ∀ v, vs[i]? = some v → ∀ w, (Instr.index 39 (.agg vs.toArray) (.int .i64 (i : Int))).run Tryd.prog w = .ok v w := by
  obtain ⟨a0, c0, a1, c1, a2, c2, a3, c3, a4, c4, rfl, _⟩ := h.lits
  generalize (f 0).length = l0
  generalize (f 1).length = l1
  generalize (f 2).length = l2
  generalize (f 3).length = l3
  generalize (f 4).length = l4
  intro i hi v hv w
  match i, hi with
  | 0, _ => have e := Option.some.inj hv; subst e; show _ = _; kernel_rfl
  | 1, _ => have e := Option.some.inj hv; subst e; show _ = _; kernel_rfl
  | 2, _ => have e := Option.some.inj hv; subst e; show _ = _; kernel_rfl
  | 3, _ => have e := Option.some.inj hv; subst e; show _ = _; kernel_rfl
  | 4, _ => have e := Option.some.inj hv; subst e; show _ = _; kernel_rfl

theorem grown_eq {a b : World} (h : a = b) : Grown a b := h ▸ Grown.refl a
theorem keepC {a b : World} {C : World → Prop} (k : ∀ W, Grown a W → C W) (h : Grown a b) : ∀ W, Grown b W → C W := fun W hW => k W (Grown.trans h hW)

set_option maxRecDepth 10000 in
set_option maxHeartbeats 8000000 in
theorem lkeys_walk (a1 : Option Addr) (c1 : Nat) (key : List UInt8) (s : ByteArray) (n : Int) (z : Nat → Addr) (w : World) (h1 : ArgB w a1 c1 key) (hs63 : s.size ≤ 9223372036854775807) (hn1 : -9223372036854775808 ≤ n) (hn2 : n ≤ 9223372036854775807) (hW : LabW z w) :
    Calls Tryd.prog 3 #[.slice a1 key.length c1, .string s, .int .i64 n] w fun e w' => e = .returned (.bool true) ∧ Below w.heap.size w w' := by
  have hal := Lib.hid (alive9_any z w hW)
  have hx1 : key.length ≤ 9223372036854775807 := by have := h1.len; have := h1.most; unfold maxLen at *; omega
  by_cases hbig : 200 < key.length ∨ 100 < s.size
  · have hd : ∃ b1 b2 : Bool, decide (200 < (key.length : Int)) = b1 ∧ decide (100 < (s.size : Int)) = b2 ∧ (b1 || b2) = true := by
      refine ⟨_, _, rfl, rfl, ?_⟩
      simp only [Bool.or_eq_true, decide_eq_true_eq]
      omega
    obtain ⟨b1, b2, e1, e2, e4⟩ := hd
    cases b1 <;> cases b2 <;> simp at e4
    all_goals
      go_enter Tryd.func3, Tryd.ntmps3
      go_wp2_with fail
      with_reducible refine hal.out.mono ?_
      rintro e w1 ⟨rfl, hb1⟩
      replace hb1 := Lib.hid hb1
      go_wp2_with fail
      go_ret
      exact ⟨rfl, hb1.out⟩
  · have hk : ¬ 200 < (key.length : Int) := by omega
    have hm : ¬ 100 < (s.size : Int) := by omega
    have hk2 : key.length ≤ 200 := by omega
    have hm2 : s.size ≤ 100 := by omega
    clear hbig
    go_enter Tryd.func3, Tryd.ntmps3
    go_wp2_with fail
    with_reducible refine hal.out.mono ?_
    rintro e w1 ⟨rfl, hb1⟩
    replace h1 := Lib.hid (h1.below hb1); replace hW := Lib.hid (hW.below hb1)
    replace hb1 := Lib.hid hb1
    clear hal
    go_wp2_with fail
    with_reducible refine (bytes_any a1 c1 key _ h1.out (by omega)).mono ?_
    rintro e w2 ⟨g, _, rfl, _, hAt, hnew⟩
    replace h1 := Lib.hid (h1.out.below hnew); replace hW := Lib.hid (hW.out.below hnew)
    replace hb1 := Lib.hid (hb1.out.trans (hnew.mono hb1.out.size))
    have hin := Lib.hid (marks_arg9 hAt (by omega))
    replace hAt := Lib.hid hAt
    clear hnew
    go_wp2_with fail
    with_reducible refine (lKey_any _ _ key s n (z 0) (z 5) (z 8) _ hin.out hx1 (by omega) hW.out.lk).mono ?_
    rintro e w3 ⟨a3, c3, rfl, h3, hnew⟩
    replace h1 := Lib.hid (h1.out.below hnew); replace hW := Lib.hid (hW.out.below hnew); replace hin := Lib.hid (hin.out.below hnew); replace hAt := Lib.hid (hAt.out.below hnew)
    replace h3 := Lib.hid h3
    replace hb1 := Lib.hid (hb1.out.trans (hnew.mono hb1.out.size))
    clear hnew
    go_wp2_with fail
    with_reducible refine (rKey_any a1 c1 key s n _ h1.out hx1 (by omega) hW.out.rK hW.out.rF).mono ?_
    rintro e w4 ⟨a4, c4, rfl, h4, hnew⟩
    replace h1 := Lib.hid (h1.out.below hnew); replace hW := Lib.hid (hW.out.below hnew); replace hin := Lib.hid (hin.out.below hnew); replace hAt := Lib.hid (hAt.out.below hnew); replace h3 := Lib.hid (h3.out.below hnew)
    replace h4 := Lib.hid h4
    replace hb1 := Lib.hid (hb1.out.trans (hnew.mono hb1.out.size))
    clear hnew
    have hKl := kX_length key s.data.toList n
    have hXX := str_eq (kX key s.data.toList n) (kX key s.data.toList n)
    have hNN := str_eq (numB n) (numB n)
    have hEn := Lib.hid (fun W A => kE_num z (kBad key s.data.toList n) (kBad_cases _ _ _) W A)
    have hlb := Lib.hid (fun W => label_any s W hs63)
    have hrl := Lib.hid (fun W => rLabel_any s W hs63)
    have hma := Lib.hid (fun a L c W hL => master_any a L c W hL)
    have hln := Lib.hid (fun W => lnum_any n W hn1 hn2)
    have hrn := Lib.hid (fun W => rnum_any n W hn1 hn2)
    have hnb := Lib.hid (numB_length n)
    have hmd : masB key.length = (decide (16 ≤ (key.length : Int)) && decide ((key.length : Int) ≤ 64)) := by unfold masB; rw [Bool.eq_iff_iff]; simp; omega
    obtain ⟨d1, hd1⟩ : ∃ b : Bool, decide (16 ≤ (key.length : Int)) = b := ⟨_, rfl⟩
    obtain ⟨d2, hd2⟩ : ∃ b : Bool, decide ((key.length : Int) ≤ 64) = b := ⟨_, rfl⟩
    rw [hd1, hd2] at hmd
    generalize kX key s.data.toList n = X at *
    generalize kBad key s.data.toList n = bd at *
    generalize kE (z 0) (z 5) (z 8) bd = E at *
    generalize labB s.data.toList = lb at *
    generalize hmb : masB key.length = mb at *
    have hma1 := Lib.hid (fun a c W => hma.out a key.length c W hx1)
    rw [hmb] at hma1
    replace hmb := Lib.hid hmb
    replace hmd := Lib.hid hmd
    have k3 := convE h3.out _ rfl
    have k4 := convE h4.out _ rfl
    cases d1
    · obtain rfl := hmd.out
      go_wp2_with fail
      refine wp_region_on2 (by kernel_rfl) (fun wd hOn => ?_)
      refine wpAnyH_take (i := 0) (v := ?_) (by simp only [List.getElem?_toArray, List.getElem?_cons_zero]; rfl) (by kernel_rfl) (by kernel_rfl) (by kernel_rfl) (by exact fun _ _ _ h => h) (Or.inl ⟨by rfl, ?_⟩) hOn ?_
      rotate_left
      focus (intro W hSW; go_simp; try with_reducible rfl)
      try simp only [Act.put, List.setIfInBounds_toArray, List.set_cons_zero, List.set_cons_succ]
      refine wpAnyH_take (i := 2) (v := ?_) (by simp only [List.getElem?_toArray, List.getElem?_cons_succ, List.getElem?_cons_zero]; rfl) (by kernel_rfl) (by kernel_rfl) (by kernel_rfl) (by exact fun _ _ _ h => h) (Or.inl ⟨by rfl, ?_⟩) hOn ?_
      rotate_left
      focus (intro W hSW; go_simp; try with_reducible rfl)
      try simp only [Act.put, List.setIfInBounds_toArray, List.set_cons_zero, List.set_cons_succ]
      refine wpAnyH_ready (rs := [1]) (by kernel_rfl) (by simp) ?_
      refine AllReadyH.cons (by simp only [List.getElem?_toArray, List.getElem?_cons_succ, List.getElem?_cons_zero]; rfl) (fun Kz hKz => ?_) AllReadyH.nil
      go_simp
      (with_reducible refine (hEn.out _ (hW.out.below hOn)).mono ?_)
      rintro e w5 ⟨rfl, hnew⟩
      replace h1 := Lib.hid (h1.out.below (Grown.trans hOn hnew)); replace hW := Lib.hid (hW.out.below (Grown.trans hOn hnew)); replace hin := Lib.hid (hin.out.below (Grown.trans hOn hnew)); replace hAt := Lib.hid (hAt.out.below (Grown.trans hOn hnew))
      replace hb1 := Lib.hid (hb1.out.trans ((Grown.trans hOn hnew).mono hb1.out.size))
      (try replace k3 := keepC k3 (Grown.trans hOn hnew))
      (try replace k4 := keepC k4 (Grown.trans hOn hnew))
      (try replace k5 := keepC k5 (Grown.trans hOn hnew))
      (try replace k6 := keepC k6 (Grown.trans hOn hnew))
      go_wp2_with fail
      refine hKz.out _ _ (Grown.trans hOn hnew) (fun hNext => ?_)
      clear hKz Kz hOn
      refine wpAnyH_onward hNext (fun hOn => ?_)
      clear hNext hnew
      try simp only [Act.put, List.setIfInBounds_toArray, List.set_cons_zero, List.set_cons_succ]
      refine wpAnyH_take (i := 3) (v := ?_) (by simp only [List.getElem?_toArray, List.getElem?_cons_succ, List.getElem?_cons_zero]; rfl) (by kernel_rfl) (by kernel_rfl) (by kernel_rfl) (by exact fun _ _ _ h => h) (Or.inl ⟨by rfl, ?_⟩) hOn ?_
      rotate_left
      focus (intro W hSW; go_simp; try with_reducible rfl)
      try simp only [Act.put, List.setIfInBounds_toArray, List.set_cons_zero, List.set_cons_succ]
      refine wpAnyH_take (i := 4) (v := ?_) (by simp only [List.getElem?_toArray, List.getElem?_cons_succ, List.getElem?_cons_zero]; rfl) (by kernel_rfl) (by kernel_rfl) (by kernel_rfl) (by exact fun _ _ _ h => h) (Or.inl ⟨by rfl, ?_⟩) hOn ?_
      rotate_left
      focus (intro W hSW; go_simp; try with_reducible rfl)
      try simp only [Act.put, List.setIfInBounds_toArray, List.set_cons_zero, List.set_cons_succ]
      refine wpAnyH_take (i := 5) (v := ?_) (by simp only [List.getElem?_toArray, List.getElem?_cons_succ, List.getElem?_cons_zero]; rfl) (by kernel_rfl) (by kernel_rfl) (by kernel_rfl) (by exact fun _ _ _ h => h) (Or.inl ⟨by rfl, ?_⟩) hOn ?_
      rotate_left
      focus (intro W hSW; go_simp; try with_reducible rfl)
      try simp only [Act.put, List.setIfInBounds_toArray, List.set_cons_zero, List.set_cons_succ]
      refine wpAnyH_take (i := 6) (v := ?_) (by simp only [List.getElem?_toArray, List.getElem?_cons_succ, List.getElem?_cons_zero]; rfl) (by kernel_rfl) (by kernel_rfl) (by kernel_rfl) (by exact fun _ _ _ h => h) (Or.inl ⟨by rfl, ?_⟩) hOn ?_
      rotate_left
      focus (intro W hSW; go_simp; try with_reducible rfl)
      try simp only [Act.put, List.setIfInBounds_toArray, List.set_cons_zero, List.set_cons_succ]
      refine wpAnyH_take (i := 7) (v := ?_) (by simp only [List.getElem?_toArray, List.getElem?_cons_succ, List.getElem?_cons_zero]; rfl) (by kernel_rfl) (by kernel_rfl) (by kernel_rfl) (by exact fun _ _ _ h => h) (Or.inl ⟨by rfl, ?_⟩) hOn ?_
      rotate_left
      focus (intro W hSW; go_simp; try with_reducible rfl)
      try simp only [Act.put, List.setIfInBounds_toArray, List.set_cons_zero, List.set_cons_succ]
      refine wpAnyH_take (i := 8) (v := ?_) (by simp only [List.getElem?_toArray, List.getElem?_cons_succ, List.getElem?_cons_zero]; rfl) (by kernel_rfl) (by kernel_rfl) (by kernel_rfl) (by exact fun _ _ _ h => h) (Or.inl ⟨by rfl, ?_⟩) hOn ?_
      rotate_left
      focus (intro W hSW; go_simp; try with_reducible rfl)
      try simp only [Act.put, List.setIfInBounds_toArray, List.set_cons_zero, List.set_cons_succ]
      refine wpAnyH_take (i := 9) (v := ?_) (by simp only [List.getElem?_toArray, List.getElem?_cons_succ, List.getElem?_cons_zero]; rfl) (by kernel_rfl) (by kernel_rfl) (by kernel_rfl) (by exact fun _ _ _ h => h) (Or.inl ⟨by rfl, ?_⟩) hOn ?_
      rotate_left
      focus (intro W hSW; go_simp; try with_reducible rfl)
      try simp only [Act.put, List.setIfInBounds_toArray, List.set_cons_zero, List.set_cons_succ]
      refine wpAnyH_take (i := 10) (v := ?_) (by simp only [List.getElem?_toArray, List.getElem?_cons_succ, List.getElem?_cons_zero]; rfl) (by kernel_rfl) (by kernel_rfl) (by kernel_rfl) (by exact fun _ _ _ h => h) (Or.inl ⟨by rfl, ?_⟩) hOn ?_
      rotate_left
      focus (intro W hSW; go_simp; try with_reducible rfl)
      try simp only [Act.put, List.setIfInBounds_toArray, List.set_cons_zero, List.set_cons_succ]
      refine wpAnyH_take (i := 11) (v := ?_) (by simp only [List.getElem?_toArray, List.getElem?_cons_succ, List.getElem?_cons_zero]; rfl) (by kernel_rfl) (by kernel_rfl) (by kernel_rfl) (by exact fun _ _ _ h => h) (Or.inl ⟨by rfl, ?_⟩) hOn ?_
      rotate_left
      focus (intro W hSW; go_simp; try with_reducible rfl)
      try simp only [Act.put, List.setIfInBounds_toArray, List.set_cons_zero, List.set_cons_succ]
      refine wpAnyH_take (i := 12) (v := ?_) (by simp only [List.getElem?_toArray, List.getElem?_cons_succ, List.getElem?_cons_zero]; rfl) (by kernel_rfl) (by kernel_rfl) (by kernel_rfl) (by exact fun _ _ _ h => h) (Or.inl ⟨by rfl, ?_⟩) hOn ?_
      rotate_left
      focus (intro W hSW; go_simp; try with_reducible rfl)
      try simp only [Act.put, List.setIfInBounds_toArray, List.set_cons_zero, List.set_cons_succ]
      refine wpAnyH_take (i := 14) (v := ?_) (by simp only [List.getElem?_toArray, List.getElem?_cons_succ, List.getElem?_cons_zero]; rfl) (by kernel_rfl) (by kernel_rfl) (by kernel_rfl) (by exact fun _ _ _ h => h) (Or.inl ⟨by rfl, ?_⟩) hOn ?_
      rotate_left
      focus (intro W hSW; go_simp; try with_reducible rfl)
      try simp only [Act.put, List.setIfInBounds_toArray, List.set_cons_zero, List.set_cons_succ]
      refine wpAnyH_ready (rs := [13]) (by kernel_rfl) (by simp) ?_
      refine AllReadyH.cons (by simp only [List.getElem?_toArray, List.getElem?_cons_succ, List.getElem?_cons_zero]; rfl) (fun Kz hKz => ?_) AllReadyH.nil
      go_simp
      (with_reducible refine (hlb.out _).mono ?_)
      rintro e w5 ⟨rfl, hnew⟩
      replace h1 := Lib.hid (h1.out.below (Grown.trans hOn hnew)); replace hW := Lib.hid (hW.out.below (Grown.trans hOn hnew)); replace hin := Lib.hid (hin.out.below (Grown.trans hOn hnew)); replace hAt := Lib.hid (hAt.out.below (Grown.trans hOn hnew))
      replace hb1 := Lib.hid (hb1.out.trans ((Grown.trans hOn hnew).mono hb1.out.size))
      (try replace k3 := keepC k3 (Grown.trans hOn hnew))
      (try replace k4 := keepC k4 (Grown.trans hOn hnew))
      (try replace k5 := keepC k5 (Grown.trans hOn hnew))
      (try replace k6 := keepC k6 (Grown.trans hOn hnew))
      go_wp2_with fail
      refine hKz.out _ _ (Grown.trans hOn hnew) (fun hNext => ?_)
      clear hKz Kz hOn
      refine wpAnyH_onward hNext (fun hOn => ?_)
      clear hNext hnew
      try simp only [Act.put, List.setIfInBounds_toArray, List.set_cons_zero, List.set_cons_succ]
      refine wpAnyH_ready (rs := [15]) (by kernel_rfl) (by simp) ?_
      refine AllReadyH.cons (by simp only [List.getElem?_toArray, List.getElem?_cons_succ, List.getElem?_cons_zero]; rfl) (fun Kz hKz => ?_) AllReadyH.nil
      go_simp
      (with_reducible refine (hrl.out _).mono ?_)
      rintro e w5 ⟨rfl, hw5⟩
      have hnew := grown_eq hw5
      clear hw5
      replace h1 := Lib.hid (h1.out.below (Grown.trans hOn hnew)); replace hW := Lib.hid (hW.out.below (Grown.trans hOn hnew)); replace hin := Lib.hid (hin.out.below (Grown.trans hOn hnew)); replace hAt := Lib.hid (hAt.out.below (Grown.trans hOn hnew))
      replace hb1 := Lib.hid (hb1.out.trans ((Grown.trans hOn hnew).mono hb1.out.size))
      (try replace k3 := keepC k3 (Grown.trans hOn hnew))
      (try replace k4 := keepC k4 (Grown.trans hOn hnew))
      (try replace k5 := keepC k5 (Grown.trans hOn hnew))
      (try replace k6 := keepC k6 (Grown.trans hOn hnew))
      go_wp2_with fail
      refine hKz.out _ _ (Grown.trans hOn hnew) (fun hNext => ?_)
      clear hKz Kz hOn
      refine wpAnyH_onward hNext (fun hOn => ?_)
      clear hNext hnew
      try simp only [Act.put, List.setIfInBounds_toArray, List.set_cons_zero, List.set_cons_succ]
      refine wpAnyH_take (i := 16) (v := ?_) (by simp only [List.getElem?_toArray, List.getElem?_cons_succ, List.getElem?_cons_zero]; rfl) (by kernel_rfl) (by kernel_rfl) (by kernel_rfl) (by exact fun _ _ _ h => h) (Or.inl ⟨by rfl, ?_⟩) hOn ?_
      rotate_left
      focus (intro W hSW; go_simp; try with_reducible rfl)
      try simp only [Act.put, List.setIfInBounds_toArray, List.set_cons_zero, List.set_cons_succ]
      refine wpAnyH_take (i := 17) (v := ?_) (by simp only [List.getElem?_toArray, List.getElem?_cons_succ, List.getElem?_cons_zero]; rfl) (by kernel_rfl) (by kernel_rfl) (by kernel_rfl) (by exact fun _ _ _ h => h) (Or.inl ⟨by rfl, ?_⟩) hOn ?_
      rotate_left
      focus (intro W hSW; go_simp; try with_reducible rfl)
      try simp only [Act.put, List.setIfInBounds_toArray, List.set_cons_zero, List.set_cons_succ]
      refine wpAnyH_take (i := 18) (v := ?_) (by simp only [List.getElem?_toArray, List.getElem?_cons_succ, List.getElem?_cons_zero]; rfl) (by kernel_rfl) (by kernel_rfl) (by kernel_rfl) (by exact fun _ _ _ h => h) (Or.inl ⟨by rfl, ?_⟩) hOn ?_
      rotate_left
      focus (intro W hSW; go_simp; try with_reducible rfl)
      try simp only [Act.put, List.setIfInBounds_toArray, List.set_cons_zero, List.set_cons_succ]
      refine wpAnyH_take (i := 19) (v := ?_) (by simp only [List.getElem?_toArray, List.getElem?_cons_succ, List.getElem?_cons_zero]; rfl) (by kernel_rfl) (by kernel_rfl) (by kernel_rfl) (by exact fun _ _ _ h => h) (Or.inl ⟨by rfl, ?_⟩) hOn ?_
      rotate_left
      focus (intro W hSW; go_simp; try with_reducible rfl)
      try simp only [Act.put, List.setIfInBounds_toArray, List.set_cons_zero, List.set_cons_succ]
      refine wpAnyH_take (i := 21) (v := ?_) (by simp only [List.getElem?_toArray, List.getElem?_cons_succ, List.getElem?_cons_zero]; rfl) (by kernel_rfl) (by kernel_rfl) (by kernel_rfl) (by exact fun _ _ _ h => h) (Or.inl ⟨by rfl, ?_⟩) hOn ?_
      rotate_left
      focus (intro W hSW; go_simp; try with_reducible rfl)
      try simp only [Act.put, List.setIfInBounds_toArray, List.set_cons_zero, List.set_cons_succ]
      refine wpAnyH_take (i := 22) (v := ?_) (by simp only [List.getElem?_toArray, List.getElem?_cons_succ, List.getElem?_cons_zero]; rfl) (by kernel_rfl) (by kernel_rfl) (by kernel_rfl) (by exact fun _ _ _ h => h) (Or.inl ⟨by rfl, ?_⟩) hOn ?_
      rotate_left
      focus (intro W hSW; go_simp; try with_reducible rfl)
      try simp only [Act.put, List.setIfInBounds_toArray, List.set_cons_zero, List.set_cons_succ]
      refine wpAnyH_take (i := 23) (v := ?_) (by simp only [List.getElem?_toArray, List.getElem?_cons_succ, List.getElem?_cons_zero]; rfl) (by kernel_rfl) (by kernel_rfl) (by kernel_rfl) (by exact fun _ _ _ h => h) (Or.inl ⟨by rfl, ?_⟩) hOn ?_
      rotate_left
      focus (intro W hSW; go_simp; try with_reducible rfl)
      try simp only [Act.put, List.setIfInBounds_toArray, List.set_cons_zero, List.set_cons_succ]
      refine wpAnyH_ready (rs := [20]) (by kernel_rfl) (by simp) ?_
      refine AllReadyH.cons (by simp only [List.getElem?_toArray, List.getElem?_cons_succ, List.getElem?_cons_zero]; rfl) (fun Kz hKz => ?_) AllReadyH.nil
      go_simp
      (with_reducible refine (hma1.out _ _ _).mono ?_)
      rintro e w5 ⟨rfl, hw5⟩
      have hnew := grown_eq hw5
      clear hw5
      replace h1 := Lib.hid (h1.out.below (Grown.trans hOn hnew)); replace hW := Lib.hid (hW.out.below (Grown.trans hOn hnew)); replace hin := Lib.hid (hin.out.below (Grown.trans hOn hnew)); replace hAt := Lib.hid (hAt.out.below (Grown.trans hOn hnew))
      replace hb1 := Lib.hid (hb1.out.trans ((Grown.trans hOn hnew).mono hb1.out.size))
      (try replace k3 := keepC k3 (Grown.trans hOn hnew))
      (try replace k4 := keepC k4 (Grown.trans hOn hnew))
      (try replace k5 := keepC k5 (Grown.trans hOn hnew))
      (try replace k6 := keepC k6 (Grown.trans hOn hnew))
      go_wp2_with fail
      refine hKz.out _ _ (Grown.trans hOn hnew) (fun hNext => ?_)
      clear hKz Kz hOn
      refine wpAnyH_onward hNext (fun hOn => ?_)
      clear hNext hnew
      try simp only [Act.put, List.setIfInBounds_toArray, List.set_cons_zero, List.set_cons_succ]
      refine wpAnyH_take (i := 24) (v := ?_) (by simp only [List.getElem?_toArray, List.getElem?_cons_succ, List.getElem?_cons_zero]; rfl) (by kernel_rfl) (by kernel_rfl) (by kernel_rfl) (by exact fun _ _ _ h => h) (Or.inl ⟨by rfl, ?_⟩) hOn ?_
      rotate_left
      focus (intro W hSW; go_simp; try with_reducible rfl)
      try simp only [Act.put, List.setIfInBounds_toArray, List.set_cons_zero, List.set_cons_succ]
      refine wpAnyH_take (i := 25) (v := undef) (by simp only [List.getElem?_toArray, List.getElem?_cons_succ, List.getElem?_cons_zero]; rfl) (by kernel_rfl) (by kernel_rfl) (by kernel_rfl) (by exact fun _ _ _ h => h) (Or.inr ⟨by rfl, rfl⟩) hOn ?_
      try simp only [Act.put, List.setIfInBounds_toArray, List.set_cons_zero, List.set_cons_succ]
      refine wpAnyH_take (i := 26) (v := undef) (by simp only [List.getElem?_toArray, List.getElem?_cons_succ, List.getElem?_cons_zero]; rfl) (by kernel_rfl) (by kernel_rfl) (by kernel_rfl) (by exact fun _ _ _ h => h) (Or.inr ⟨by rfl, rfl⟩) hOn ?_
      try simp only [Act.put, List.setIfInBounds_toArray, List.set_cons_zero, List.set_cons_succ]
      refine wpAnyH_take (i := 27) (v := undef) (by simp only [List.getElem?_toArray, List.getElem?_cons_succ, List.getElem?_cons_zero]; rfl) (by kernel_rfl) (by kernel_rfl) (by kernel_rfl) (by exact fun _ _ _ h => h) (Or.inr ⟨by rfl, rfl⟩) hOn ?_
      try simp only [Act.put, List.setIfInBounds_toArray, List.set_cons_zero, List.set_cons_succ]
      refine wpAnyH_take (i := 28) (v := ?_) (by simp only [List.getElem?_toArray, List.getElem?_cons_succ, List.getElem?_cons_zero]; rfl) (by kernel_rfl) (by kernel_rfl) (by kernel_rfl) (by exact fun _ _ _ h => h) (Or.inl ⟨by rfl, ?_⟩) hOn ?_
      rotate_left
      focus (intro W hSW; go_simp; try with_reducible rfl)
      try simp only [Act.put, List.setIfInBounds_toArray, List.set_cons_zero, List.set_cons_succ]
      refine wpAnyH_take (i := 29) (v := ?_) (by simp only [List.getElem?_toArray, List.getElem?_cons_succ, List.getElem?_cons_zero]; rfl) (by kernel_rfl) (by kernel_rfl) (by kernel_rfl) (by exact fun _ _ _ h => h) (Or.inl ⟨by rfl, ?_⟩) hOn ?_
      rotate_left
      focus (intro W hSW; go_simp; try with_reducible rfl)
      try simp only [Act.put, List.setIfInBounds_toArray, List.set_cons_zero, List.set_cons_succ]
      refine wpAnyH_take (i := 30) (v := ?_) (by simp only [List.getElem?_toArray, List.getElem?_cons_succ, List.getElem?_cons_zero]; rfl) (by kernel_rfl) (by kernel_rfl) (by kernel_rfl) (by exact fun _ _ _ h => h) (Or.inl ⟨by rfl, ?_⟩) hOn ?_
      rotate_left
      focus (intro W hSW; go_simp; try with_reducible rfl)
      try simp only [Act.put, List.setIfInBounds_toArray, List.set_cons_zero, List.set_cons_succ]
      refine wpAnyH_take (i := 31) (v := ?_) (by simp only [List.getElem?_toArray, List.getElem?_cons_succ, List.getElem?_cons_zero]; rfl) (by kernel_rfl) (by kernel_rfl) (by kernel_rfl) (by exact fun _ _ _ h => h) (Or.inl ⟨by rfl, ?_⟩) hOn ?_
      rotate_left
      focus (intro W hSW; go_simp; try with_reducible rfl)
      try simp only [Act.put, List.setIfInBounds_toArray, List.set_cons_zero, List.set_cons_succ]
      refine wpAnyH_take (i := 32) (v := ?_) (by simp only [List.getElem?_toArray, List.getElem?_cons_succ, List.getElem?_cons_zero]; rfl) (by kernel_rfl) (by kernel_rfl) (by kernel_rfl) (by exact fun _ _ _ h => h) (Or.inl ⟨by rfl, ?_⟩) hOn ?_
      rotate_left
      focus (intro W hSW; go_simp; try with_reducible rfl)
      try simp only [Act.put, List.setIfInBounds_toArray, List.set_cons_zero, List.set_cons_succ]
      refine wpAnyH_take (i := 35) (v := ?_) (by simp only [List.getElem?_toArray, List.getElem?_cons_succ, List.getElem?_cons_zero]; rfl) (by kernel_rfl) (by kernel_rfl) (by kernel_rfl) (by exact fun _ _ _ h => h) (Or.inl ⟨by rfl, ?_⟩) hOn ?_
      rotate_left
      focus (intro W hSW; go_simp; try with_reducible rfl)
      try simp only [Act.put, List.setIfInBounds_toArray, List.set_cons_zero, List.set_cons_succ]
      refine wpAnyH_ready (rs := [33]) (by kernel_rfl) (by simp) ?_
      refine AllReadyH.cons (by simp only [List.getElem?_toArray, List.getElem?_cons_succ, List.getElem?_cons_zero]; rfl) (fun Kz hKz => ?_) AllReadyH.nil
      go_simp
      (with_reducible refine (hln.out _).mono ?_)
      rintro e w5 ⟨v5, rfl, ho, hnew⟩
      obtain ⟨a5, c5, rfl, h5, _⟩ := ho.arg
      rw [hnb.out]
      replace h1 := Lib.hid (h1.out.below (Grown.trans hOn hnew)); replace hW := Lib.hid (hW.out.below (Grown.trans hOn hnew)); replace hin := Lib.hid (hin.out.below (Grown.trans hOn hnew)); replace hAt := Lib.hid (hAt.out.below (Grown.trans hOn hnew))
      replace hb1 := Lib.hid (hb1.out.trans ((Grown.trans hOn hnew).mono hb1.out.size))
      (try replace k3 := keepC k3 (Grown.trans hOn hnew))
      (try replace k4 := keepC k4 (Grown.trans hOn hnew))
      (try replace k5 := keepC k5 (Grown.trans hOn hnew))
      (try replace k6 := keepC k6 (Grown.trans hOn hnew))
      have k5 := convE h5 _ hnb.out
      clear ho h5
      go_wp2_with fail
      refine hKz.out _ _ (Grown.trans hOn hnew) (fun hNext => ?_)
      clear hKz Kz hOn
      refine wpAnyH_onward hNext (fun hOn => ?_)
      clear hNext hnew
      try simp only [Act.put, List.setIfInBounds_toArray, List.set_cons_zero, List.set_cons_succ]
      refine wpAnyH_take (i := 34) (v := ?_) (by simp only [List.getElem?_toArray, List.getElem?_cons_succ, List.getElem?_cons_zero]; rfl) (by kernel_rfl) (by kernel_rfl) (by kernel_rfl) (by exact fun _ _ _ h => h) (Or.inl ⟨by rfl, ?_⟩) hOn ?_
      rotate_left
      focus (intro W hSW; go_simp; try with_reducible rfl)
      try simp only [Act.put, List.setIfInBounds_toArray, List.set_cons_zero, List.set_cons_succ]
      refine wpAnyH_ready (rs := [36]) (by kernel_rfl) (by simp) ?_
      refine AllReadyH.cons (by simp only [List.getElem?_toArray, List.getElem?_cons_succ, List.getElem?_cons_zero]; rfl) (fun Kz hKz => ?_) AllReadyH.nil
      go_simp
      (with_reducible refine (hrn.out _).mono ?_)
      rintro e w5 ⟨v5, rfl, ho, hnew⟩
      obtain ⟨a6, c6, rfl, h6, _⟩ := ho.arg
      rw [hnb.out]
      replace h1 := Lib.hid (h1.out.below (Grown.trans hOn hnew)); replace hW := Lib.hid (hW.out.below (Grown.trans hOn hnew)); replace hin := Lib.hid (hin.out.below (Grown.trans hOn hnew)); replace hAt := Lib.hid (hAt.out.below (Grown.trans hOn hnew))
      replace hb1 := Lib.hid (hb1.out.trans ((Grown.trans hOn hnew).mono hb1.out.size))
      (try replace k3 := keepC k3 (Grown.trans hOn hnew))
      (try replace k4 := keepC k4 (Grown.trans hOn hnew))
      (try replace k5 := keepC k5 (Grown.trans hOn hnew))
      (try replace k6 := keepC k6 (Grown.trans hOn hnew))
      have k6 := convE h6 _ hnb.out
      clear ho h6
      go_wp2_with fail
      refine hKz.out _ _ (Grown.trans hOn hnew) (fun hNext => ?_)
      clear hKz Kz hOn
      refine wpAnyH_onward hNext (fun hOn => ?_)
      clear hNext hnew
      try simp only [Act.put, List.setIfInBounds_toArray, List.set_cons_zero, List.set_cons_succ]
      refine wpAnyH_take (i := 37) (v := ?_) (by simp only [List.getElem?_toArray, List.getElem?_cons_succ, List.getElem?_cons_zero]; rfl) (by kernel_rfl) (by kernel_rfl) (by kernel_rfl) (by exact fun _ _ _ h => h) (Or.inl ⟨by rfl, ?_⟩) hOn ?_
      rotate_left
      focus (intro W hSW; go_simp; try with_reducible rfl)
      try simp only [Act.put, List.setIfInBounds_toArray, List.set_cons_zero, List.set_cons_succ]
      refine wpAnyH_take (i := 38) (v := ?_) (by simp only [List.getElem?_toArray, List.getElem?_cons_succ, List.getElem?_cons_zero]; rfl) (by kernel_rfl) (by kernel_rfl) (by kernel_rfl) (by exact fun _ _ _ h => h) (Or.inl ⟨by rfl, ?_⟩) hOn ?_
      rotate_left
      focus (intro W hSW; go_simp; try with_reducible rfl)
      try simp only [Act.put, List.setIfInBounds_toArray, List.set_cons_zero, List.set_cons_succ]
      refine wpAnyH_take (i := 39) (v := ?_) (by simp only [List.getElem?_toArray, List.getElem?_cons_succ, List.getElem?_cons_zero]; rfl) (by kernel_rfl) (by kernel_rfl) (by kernel_rfl) (by exact fun _ _ _ h => h) (Or.inl ⟨by rfl, ?_⟩) hOn ?_
      rotate_left
      focus (intro W hSW; go_simp; try with_reducible rfl)
      try simp only [Act.put, List.setIfInBounds_toArray, List.set_cons_zero, List.set_cons_succ]
      refine wpAnyH_done (by kernel_rfl) ?_ _
      have hnew := hOn
      clear hOn k3 k4 k5 k6
      replace h1 := Lib.hid (h1.out.below hnew); replace hW := Lib.hid (hW.out.below hnew); replace hin := Lib.hid (hin.out.below hnew); replace hAt := Lib.hid (hAt.out.below hnew)
      replace hb1 := Lib.hid (hb1.out.trans (hnew.mono hb1.out.size))
      clear hnew hlb hrl hma hma1 hln hrn hnb
      go_wp2_with fail
      with_reducible refine (all9_any _ _ key n (z 0) (z 5) (z 8) _ hin.out hx1 hW.out.lk).mono ?_
      rintro e w6 ⟨vs, rfl, hfv, hnew⟩
      replace h1 := Lib.hid (h1.out.below hnew); replace hW := Lib.hid (hW.out.below hnew); replace hin := Lib.hid (hin.out.below hnew); replace hAt := Lib.hid (hAt.out.below hnew)
      replace hb1 := Lib.hid (hb1.out.trans (hnew.mono hb1.out.size))
      clear hnew
      obtain ⟨hszV, hs5V, haV⟩ := five_facts hfv
      have hba := (Below.refl w6.heap.size w6).alloc (Nat.le_refl _) (.cells vs.toArray 36)
      have hrowV := Lib.hid (heap_alloc_new w6 (.cells vs.toArray 36))
      have hfv6 := Lib.hid (hfv.below hba)
      replace h1 := Lib.hid (h1.out.below hba); replace hW := Lib.hid (hW.out.below hba); replace hin := Lib.hid (hin.out.below hba); replace hAt := Lib.hid (hAt.out.below hba)
      replace hb1 := Lib.hid (hb1.out.trans (hba.mono hb1.out.size))
      have hix := Lib.hid (five_index hfv)
      clear hfv hba
      generalize hV : vs.toArray = V at *
      replace hV := Lib.hid hV
      go_wp2_with (with_reducible refine wpList_store_new rfl 36 (.tmp 12) (.tmp 87) rfl #[.slice none 0 0, .slice none 0 0, .slice none 0 0, .slice none 0 0, .slice none 0 0] V rfl rfl hszV hs5V haV ?_)
      with_reducible refine (rAll9_any a1 c1 key n _ h1.out hx1 hW.out.rK hW.out.rF).mono ?_
      rintro e w7 ⟨us, rfl, hfu, hnew⟩
      replace hW := Lib.hid (hW.out.below hnew); replace hAt := Lib.hid (hAt.out.below hnew); replace h1 := Lib.hid (h1.out.below hnew)
      replace hfv6 := Lib.hid (hfv6.out.below hnew)
      replace hrowV := Lib.hid (rowG hrowV.out _ hnew)
      replace hb1 := Lib.hid (hb1.out.trans (hnew.mono hb1.out.size))
      clear hnew
      obtain ⟨hszU, hs5U, haU⟩ := five_facts9 hfu
      have hba := (Below.refl w7.heap.size w7).alloc (Nat.le_refl _) (.cells us.toArray 39)
      have hrowU := Lib.hid (heap_alloc_new w7 (.cells us.toArray 39))
      have hfu7 := Lib.hid (hfu.below hba)
      replace hfv6 := Lib.hid (hfv6.out.below hba)
      replace hrowV := Lib.hid (rowG hrowV.out _ hba)
      replace hW := Lib.hid (hW.out.below hba); replace hAt := Lib.hid (hAt.out.below hba); replace h1 := Lib.hid (h1.out.below hba)
      replace hb1 := Lib.hid (hb1.out.trans (hba.mono hb1.out.size))
      clear hfu hba
      have hEa := Lib.hid (fun W A => kE_num z (aBad key n) (aBad_cases _ _) W A)
      generalize hU : us.toArray = U at *
      replace hU := Lib.hid hU
      obtain ⟨ba, hbaq⟩ : ∃ b, b = w6.heap.size := ⟨_, rfl⟩
      obtain ⟨bu, hbuq⟩ : ∃ b, b = w7.heap.size := ⟨_, rfl⟩
      go_wp2_with (with_reducible refine wpList_store_new rfl 39 (.tmp 13) (.tmp 93) rfl #[.slice none 0 0, .slice none 0 0, .slice none 0 0, .slice none 0 0, .slice none 0 0] U rfl rfl hszU hs5U haU ?_)
      with_reducible refine (hEa.out _ hW.out).mono ?_
      rintro e w8 ⟨rfl, hnew⟩
      replace hW := Lib.hid (hW.out.below hnew); replace hAt := Lib.hid (hAt.out.below hnew); replace h1 := Lib.hid (h1.out.below hnew); replace hfv6 := Lib.hid (hfv6.out.below hnew); replace hfu7 := Lib.hid (hfu7.out.below hnew)
      replace hrowV := Lib.hid (rowG hrowV.out _ hnew)
      replace hrowU := Lib.hid (rowG hrowU.out _ hnew)
      replace hb1 := Lib.hid (hb1.out.trans (hnew.mono hb1.out.size))
      clear hnew hEa
      go_wp2_with fail
      with_reducible refine (kept_any g a1 c1 key _ (by omega) hAt.out h1.out).mono ?_
      rintro e w9 ⟨rfl, hd⟩
      have hnew : Grown w8 w9 := hd.below _
      replace hfv6 := Lib.hid (hfv6.out.below hnew); replace hfu7 := Lib.hid (hfu7.out.below hnew)
      replace hrowV := Lib.hid (rowG hrowV.out _ hnew)
      replace hrowU := Lib.hid (rowG hrowU.out _ hnew)
      replace hb1 := Lib.hid (hb1.out.trans (hnew.mono hb1.out.size))
      clear hnew hd hAt h1
      have hrr := row_any vs _ w9 hfv6.out
      rw [hV.out] at hrr
      replace hrr := Lib.hid hrr
      have hzcK := Tryd.underlying36
      go_wp2_with (with_reducible refine wpList_load_row rfl 36 (.tmp 12) rfl w6.heap.size V _ rfl hrowV hzcK rfl hszV ?_)
      with_reducible refine hrr.out.mono ?_
      rintro e w10 ⟨rfl, hnew⟩
      replace hfv6 := Lib.hid (hfv6.out.below hnew); replace hfu7 := Lib.hid (hfu7.out.below hnew)
      replace hrowU := Lib.hid (rowG hrowU.out _ hnew)
      replace hb1 := Lib.hid (hb1.out.trans (hnew.mono hb1.out.size))
      clear hnew hrr hrowV
      generalize (fun j => kX key (nmB j) n) = f at *
      go_wp2_with fail
      go_loopw [107] (fun j wr => ∃ i : Nat, i ≤ 5 ∧ j = .int .i64 i ∧ Grown w10 wr) (fun j _ => 5 - (intOf j).toNat)
      case atStart => exact ⟨0, Nat.zero_le _, rfl, Grown.refl _⟩
      case round =>
        obtain ⟨i, hi, rfl, hg⟩ := hrel
        by_cases hlt : i < 5
        · have hli : (i : Int) < 5 := by omega
          obtain ⟨av, cv, ev, hav⟩ := (hfv6.out.below hg).2 i hlt
          obtain ⟨au, cu, eu, hau⟩ := (hfu7.out.below hg).2 i hlt
          have hidx := hix.out i hlt _ ev
          have hcu : wr.cell? ⟨w7.heap.size, i, none⟩ = some (.slice au (f i).length cu) := by
            rw [cell_of_block (rowG hrowU.out _ hg), ← hU.out, List.getElem?_toArray]; exact eu
          have ku := far_cell hcu
          have v1 := convE hav _ rfl
          have v2 := convE hau _ rfl
          have hs := str_eq (f i) (f i)
          replace hg := Lib.hid hg; replace hav := Lib.hid hav; replace hau := Lib.hid hau; replace ev := Lib.hid ev; replace eu := Lib.hid eu
          clear hcu
          generalize f i = bs at *
          go_wp2_with fail
          refine wp_region_on2 (by kernel_rfl) (fun wd hOn => ?_)
          refine wpAnyH_take (i := 0) (v := ?_) (by simp only [List.getElem?_toArray, List.getElem?_cons_zero]; rfl) (by kernel_rfl) (by kernel_rfl) (by kernel_rfl) (by exact fun _ _ _ h => h) (Or.inl ⟨by rfl, ?_⟩) hOn ?_
          rotate_left
          focus (intro W hSW; go_simp; try with_reducible rfl)
          try simp only [Act.put, List.setIfInBounds_toArray, List.set_cons_zero, List.set_cons_succ]
          refine wpAnyH_take (i := 1) (v := ?_) (by simp only [List.getElem?_toArray, List.getElem?_cons_succ, List.getElem?_cons_zero]; rfl) (by kernel_rfl) (by kernel_rfl) (by kernel_rfl) (by exact fun _ _ _ h => h) (Or.inl ⟨by rfl, ?_⟩) hOn ?_
          rotate_left
          focus (intro W hSW; go_simp; try with_reducible rfl)
          try simp only [Act.put, List.setIfInBounds_toArray, List.set_cons_zero, List.set_cons_succ]
          refine wpAnyH_take (i := 2) (v := ?_) (by simp only [List.getElem?_toArray, List.getElem?_cons_succ, List.getElem?_cons_zero]; rfl) (by kernel_rfl) (by kernel_rfl) (by kernel_rfl) (by exact fun _ _ _ h => h) (Or.inl ⟨by rfl, ?_⟩) hOn ?_
          rotate_left
          focus (intro W hSW; go_simp; try with_reducible rfl)
          try simp only [Act.put, List.setIfInBounds_toArray, List.set_cons_zero, List.set_cons_succ]
          refine wpAnyH_take (i := 3) (v := ?_) (by simp only [List.getElem?_toArray, List.getElem?_cons_succ, List.getElem?_cons_zero]; rfl) (by kernel_rfl) (by kernel_rfl) (by kernel_rfl) (by exact fun _ _ _ h => h) (Or.inl ⟨by rfl, ?_⟩) hOn ?_
          rotate_left
          focus (intro W hSW; go_simp; try with_reducible rfl)
          try simp only [Act.put, List.setIfInBounds_toArray, List.set_cons_zero, List.set_cons_succ]
          refine wpAnyH_take (i := 4) (v := ?_) (by simp only [List.getElem?_toArray, List.getElem?_cons_succ, List.getElem?_cons_zero]; rfl) (by kernel_rfl) (by kernel_rfl) (by kernel_rfl) (by exact fun _ _ _ h => h) (Or.inl ⟨by rfl, ?_⟩) hOn ?_
          rotate_left
          focus (intro W hSW; go_simp; try with_reducible rfl)
          try simp only [Act.put, List.setIfInBounds_toArray, List.set_cons_zero, List.set_cons_succ]
          refine wpAnyH_take (i := 5) (v := ?_) (by simp only [List.getElem?_toArray, List.getElem?_cons_succ, List.getElem?_cons_zero]; rfl) (by kernel_rfl) (by kernel_rfl) (by kernel_rfl) (by exact fun _ _ _ h => h) (Or.inl ⟨by rfl, ?_⟩) hOn ?_
          rotate_left
          focus (intro W hSW; go_simp; try with_reducible rfl)
          try simp only [Act.put, List.setIfInBounds_toArray, List.set_cons_zero, List.set_cons_succ]
          refine wpAnyH_take (i := 6) (v := ?_) (by simp only [List.getElem?_toArray, List.getElem?_cons_succ, List.getElem?_cons_zero]; rfl) (by kernel_rfl) (by kernel_rfl) (by kernel_rfl) (by exact fun _ _ _ h => h) (Or.inl ⟨by rfl, ?_⟩) hOn ?_
          rotate_left
          focus (intro W hSW; go_simp; try with_reducible rfl)
          try simp only [Act.put, List.setIfInBounds_toArray, List.set_cons_zero, List.set_cons_succ]
          refine wpAnyH_done (by kernel_rfl) ?_ _
          all_goals
            have hb := Lib.hid (Grown.trans hg.out hOn)
            clear hOn
            go_wp2_with fail
            exact ⟨⟨i + 1, by omega, by go_num, hb.out⟩, by simp [intOf]; omega⟩
        · obtain rfl : i = 5 := by omega
          have hb2 := Lib.hid (hb1.out.trans (hg.mono hb1.out.size))
          replace hg := Lib.hid hg
          go_wp2_with fail
          go_ret
          exact ⟨rfl, hb2.out⟩
    · obtain rfl := hmd.out
      go_wp2_with fail
      refine wp_region_on2 (by kernel_rfl) (fun wd hOn => ?_)
      refine wpAnyH_take (i := 0) (v := ?_) (by simp only [List.getElem?_toArray, List.getElem?_cons_zero]; rfl) (by kernel_rfl) (by kernel_rfl) (by kernel_rfl) (by exact fun _ _ _ h => h) (Or.inl ⟨by rfl, ?_⟩) hOn ?_
      rotate_left
      focus (intro W hSW; go_simp; try with_reducible rfl)
      try simp only [Act.put, List.setIfInBounds_toArray, List.set_cons_zero, List.set_cons_succ]
      refine wpAnyH_take (i := 2) (v := ?_) (by simp only [List.getElem?_toArray, List.getElem?_cons_succ, List.getElem?_cons_zero]; rfl) (by kernel_rfl) (by kernel_rfl) (by kernel_rfl) (by exact fun _ _ _ h => h) (Or.inl ⟨by rfl, ?_⟩) hOn ?_
      rotate_left
      focus (intro W hSW; go_simp; try with_reducible rfl)
      try simp only [Act.put, List.setIfInBounds_toArray, List.set_cons_zero, List.set_cons_succ]
      refine wpAnyH_ready (rs := [1]) (by kernel_rfl) (by simp) ?_
      refine AllReadyH.cons (by simp only [List.getElem?_toArray, List.getElem?_cons_succ, List.getElem?_cons_zero]; rfl) (fun Kz hKz => ?_) AllReadyH.nil
      go_simp
      (with_reducible refine (hEn.out _ (hW.out.below hOn)).mono ?_)
      rintro e w5 ⟨rfl, hnew⟩
      replace h1 := Lib.hid (h1.out.below (Grown.trans hOn hnew)); replace hW := Lib.hid (hW.out.below (Grown.trans hOn hnew)); replace hin := Lib.hid (hin.out.below (Grown.trans hOn hnew)); replace hAt := Lib.hid (hAt.out.below (Grown.trans hOn hnew))
      replace hb1 := Lib.hid (hb1.out.trans ((Grown.trans hOn hnew).mono hb1.out.size))
      (try replace k3 := keepC k3 (Grown.trans hOn hnew))
      (try replace k4 := keepC k4 (Grown.trans hOn hnew))
      (try replace k5 := keepC k5 (Grown.trans hOn hnew))
      (try replace k6 := keepC k6 (Grown.trans hOn hnew))
      go_wp2_with fail
      refine hKz.out _ _ (Grown.trans hOn hnew) (fun hNext => ?_)
      clear hKz Kz hOn
      refine wpAnyH_onward hNext (fun hOn => ?_)
      clear hNext hnew
      try simp only [Act.put, List.setIfInBounds_toArray, List.set_cons_zero, List.set_cons_succ]
      refine wpAnyH_take (i := 3) (v := ?_) (by simp only [List.getElem?_toArray, List.getElem?_cons_succ, List.getElem?_cons_zero]; rfl) (by kernel_rfl) (by kernel_rfl) (by kernel_rfl) (by exact fun _ _ _ h => h) (Or.inl ⟨by rfl, ?_⟩) hOn ?_
      rotate_left
      focus (intro W hSW; go_simp; try with_reducible rfl)
      try simp only [Act.put, List.setIfInBounds_toArray, List.set_cons_zero, List.set_cons_succ]
      refine wpAnyH_take (i := 4) (v := ?_) (by simp only [List.getElem?_toArray, List.getElem?_cons_succ, List.getElem?_cons_zero]; rfl) (by kernel_rfl) (by kernel_rfl) (by kernel_rfl) (by exact fun _ _ _ h => h) (Or.inl ⟨by rfl, ?_⟩) hOn ?_
      rotate_left
      focus (intro W hSW; go_simp; try with_reducible rfl)
      try simp only [Act.put, List.setIfInBounds_toArray, List.set_cons_zero, List.set_cons_succ]
      refine wpAnyH_take (i := 5) (v := ?_) (by simp only [List.getElem?_toArray, List.getElem?_cons_succ, List.getElem?_cons_zero]; rfl) (by kernel_rfl) (by kernel_rfl) (by kernel_rfl) (by exact fun _ _ _ h => h) (Or.inl ⟨by rfl, ?_⟩) hOn ?_
      rotate_left
      focus (intro W hSW; go_simp; try with_reducible rfl)
      try simp only [Act.put, List.setIfInBounds_toArray, List.set_cons_zero, List.set_cons_succ]
      refine wpAnyH_take (i := 6) (v := ?_) (by simp only [List.getElem?_toArray, List.getElem?_cons_succ, List.getElem?_cons_zero]; rfl) (by kernel_rfl) (by kernel_rfl) (by kernel_rfl) (by exact fun _ _ _ h => h) (Or.inl ⟨by rfl, ?_⟩) hOn ?_
      rotate_left
      focus (intro W hSW; go_simp; try with_reducible rfl)
      try simp only [Act.put, List.setIfInBounds_toArray, List.set_cons_zero, List.set_cons_succ]
      refine wpAnyH_take (i := 7) (v := ?_) (by simp only [List.getElem?_toArray, List.getElem?_cons_succ, List.getElem?_cons_zero]; rfl) (by kernel_rfl) (by kernel_rfl) (by kernel_rfl) (by exact fun _ _ _ h => h) (Or.inl ⟨by rfl, ?_⟩) hOn ?_
      rotate_left
      focus (intro W hSW; go_simp; try with_reducible rfl)
      try simp only [Act.put, List.setIfInBounds_toArray, List.set_cons_zero, List.set_cons_succ]
      refine wpAnyH_take (i := 8) (v := ?_) (by simp only [List.getElem?_toArray, List.getElem?_cons_succ, List.getElem?_cons_zero]; rfl) (by kernel_rfl) (by kernel_rfl) (by kernel_rfl) (by exact fun _ _ _ h => h) (Or.inl ⟨by rfl, ?_⟩) hOn ?_
      rotate_left
      focus (intro W hSW; go_simp; try with_reducible rfl)
      try simp only [Act.put, List.setIfInBounds_toArray, List.set_cons_zero, List.set_cons_succ]
      refine wpAnyH_take (i := 9) (v := ?_) (by simp only [List.getElem?_toArray, List.getElem?_cons_succ, List.getElem?_cons_zero]; rfl) (by kernel_rfl) (by kernel_rfl) (by kernel_rfl) (by exact fun _ _ _ h => h) (Or.inl ⟨by rfl, ?_⟩) hOn ?_
      rotate_left
      focus (intro W hSW; go_simp; try with_reducible rfl)
      try simp only [Act.put, List.setIfInBounds_toArray, List.set_cons_zero, List.set_cons_succ]
      refine wpAnyH_take (i := 10) (v := ?_) (by simp only [List.getElem?_toArray, List.getElem?_cons_succ, List.getElem?_cons_zero]; rfl) (by kernel_rfl) (by kernel_rfl) (by kernel_rfl) (by exact fun _ _ _ h => h) (Or.inl ⟨by rfl, ?_⟩) hOn ?_
      rotate_left
      focus (intro W hSW; go_simp; try with_reducible rfl)
      try simp only [Act.put, List.setIfInBounds_toArray, List.set_cons_zero, List.set_cons_succ]
      refine wpAnyH_take (i := 11) (v := ?_) (by simp only [List.getElem?_toArray, List.getElem?_cons_succ, List.getElem?_cons_zero]; rfl) (by kernel_rfl) (by kernel_rfl) (by kernel_rfl) (by exact fun _ _ _ h => h) (Or.inl ⟨by rfl, ?_⟩) hOn ?_
      rotate_left
      focus (intro W hSW; go_simp; try with_reducible rfl)
      try simp only [Act.put, List.setIfInBounds_toArray, List.set_cons_zero, List.set_cons_succ]
      refine wpAnyH_take (i := 12) (v := ?_) (by simp only [List.getElem?_toArray, List.getElem?_cons_succ, List.getElem?_cons_zero]; rfl) (by kernel_rfl) (by kernel_rfl) (by kernel_rfl) (by exact fun _ _ _ h => h) (Or.inl ⟨by rfl, ?_⟩) hOn ?_
      rotate_left
      focus (intro W hSW; go_simp; try with_reducible rfl)
      try simp only [Act.put, List.setIfInBounds_toArray, List.set_cons_zero, List.set_cons_succ]
      refine wpAnyH_take (i := 14) (v := ?_) (by simp only [List.getElem?_toArray, List.getElem?_cons_succ, List.getElem?_cons_zero]; rfl) (by kernel_rfl) (by kernel_rfl) (by kernel_rfl) (by exact fun _ _ _ h => h) (Or.inl ⟨by rfl, ?_⟩) hOn ?_
      rotate_left
      focus (intro W hSW; go_simp; try with_reducible rfl)
      try simp only [Act.put, List.setIfInBounds_toArray, List.set_cons_zero, List.set_cons_succ]
      refine wpAnyH_ready (rs := [13]) (by kernel_rfl) (by simp) ?_
      refine AllReadyH.cons (by simp only [List.getElem?_toArray, List.getElem?_cons_succ, List.getElem?_cons_zero]; rfl) (fun Kz hKz => ?_) AllReadyH.nil
      go_simp
      (with_reducible refine (hlb.out _).mono ?_)
      rintro e w5 ⟨rfl, hnew⟩
      replace h1 := Lib.hid (h1.out.below (Grown.trans hOn hnew)); replace hW := Lib.hid (hW.out.below (Grown.trans hOn hnew)); replace hin := Lib.hid (hin.out.below (Grown.trans hOn hnew)); replace hAt := Lib.hid (hAt.out.below (Grown.trans hOn hnew))
      replace hb1 := Lib.hid (hb1.out.trans ((Grown.trans hOn hnew).mono hb1.out.size))
      (try replace k3 := keepC k3 (Grown.trans hOn hnew))
      (try replace k4 := keepC k4 (Grown.trans hOn hnew))
      (try replace k5 := keepC k5 (Grown.trans hOn hnew))
      (try replace k6 := keepC k6 (Grown.trans hOn hnew))
      go_wp2_with fail
      refine hKz.out _ _ (Grown.trans hOn hnew) (fun hNext => ?_)
      clear hKz Kz hOn
      refine wpAnyH_onward hNext (fun hOn => ?_)
      clear hNext hnew
      try simp only [Act.put, List.setIfInBounds_toArray, List.set_cons_zero, List.set_cons_succ]
      refine wpAnyH_ready (rs := [15]) (by kernel_rfl) (by simp) ?_
      refine AllReadyH.cons (by simp only [List.getElem?_toArray, List.getElem?_cons_succ, List.getElem?_cons_zero]; rfl) (fun Kz hKz => ?_) AllReadyH.nil
      go_simp
      (with_reducible refine (hrl.out _).mono ?_)
      rintro e w5 ⟨rfl, hw5⟩
      have hnew := grown_eq hw5
      clear hw5
      replace h1 := Lib.hid (h1.out.below (Grown.trans hOn hnew)); replace hW := Lib.hid (hW.out.below (Grown.trans hOn hnew)); replace hin := Lib.hid (hin.out.below (Grown.trans hOn hnew)); replace hAt := Lib.hid (hAt.out.below (Grown.trans hOn hnew))
      replace hb1 := Lib.hid (hb1.out.trans ((Grown.trans hOn hnew).mono hb1.out.size))
      (try replace k3 := keepC k3 (Grown.trans hOn hnew))
      (try replace k4 := keepC k4 (Grown.trans hOn hnew))
      (try replace k5 := keepC k5 (Grown.trans hOn hnew))
      (try replace k6 := keepC k6 (Grown.trans hOn hnew))
      go_wp2_with fail
      refine hKz.out _ _ (Grown.trans hOn hnew) (fun hNext => ?_)
      clear hKz Kz hOn
      refine wpAnyH_onward hNext (fun hOn => ?_)
      clear hNext hnew
      try simp only [Act.put, List.setIfInBounds_toArray, List.set_cons_zero, List.set_cons_succ]
      refine wpAnyH_take (i := 16) (v := ?_) (by simp only [List.getElem?_toArray, List.getElem?_cons_succ, List.getElem?_cons_zero]; rfl) (by kernel_rfl) (by kernel_rfl) (by kernel_rfl) (by exact fun _ _ _ h => h) (Or.inl ⟨by rfl, ?_⟩) hOn ?_
      rotate_left
      focus (intro W hSW; go_simp; try with_reducible rfl)
      try simp only [Act.put, List.setIfInBounds_toArray, List.set_cons_zero, List.set_cons_succ]
      refine wpAnyH_take (i := 17) (v := ?_) (by simp only [List.getElem?_toArray, List.getElem?_cons_succ, List.getElem?_cons_zero]; rfl) (by kernel_rfl) (by kernel_rfl) (by kernel_rfl) (by exact fun _ _ _ h => h) (Or.inl ⟨by rfl, ?_⟩) hOn ?_
      rotate_left
      focus (intro W hSW; go_simp; try with_reducible rfl)
      try simp only [Act.put, List.setIfInBounds_toArray, List.set_cons_zero, List.set_cons_succ]
      refine wpAnyH_take (i := 18) (v := ?_) (by simp only [List.getElem?_toArray, List.getElem?_cons_succ, List.getElem?_cons_zero]; rfl) (by kernel_rfl) (by kernel_rfl) (by kernel_rfl) (by exact fun _ _ _ h => h) (Or.inl ⟨by rfl, ?_⟩) hOn ?_
      rotate_left
      focus (intro W hSW; go_simp; try with_reducible rfl)
      try simp only [Act.put, List.setIfInBounds_toArray, List.set_cons_zero, List.set_cons_succ]
      refine wpAnyH_take (i := 19) (v := ?_) (by simp only [List.getElem?_toArray, List.getElem?_cons_succ, List.getElem?_cons_zero]; rfl) (by kernel_rfl) (by kernel_rfl) (by kernel_rfl) (by exact fun _ _ _ h => h) (Or.inl ⟨by rfl, ?_⟩) hOn ?_
      rotate_left
      focus (intro W hSW; go_simp; try with_reducible rfl)
      try simp only [Act.put, List.setIfInBounds_toArray, List.set_cons_zero, List.set_cons_succ]
      refine wpAnyH_take (i := 21) (v := ?_) (by simp only [List.getElem?_toArray, List.getElem?_cons_succ, List.getElem?_cons_zero]; rfl) (by kernel_rfl) (by kernel_rfl) (by kernel_rfl) (by exact fun _ _ _ h => h) (Or.inl ⟨by rfl, ?_⟩) hOn ?_
      rotate_left
      focus (intro W hSW; go_simp; try with_reducible rfl)
      try simp only [Act.put, List.setIfInBounds_toArray, List.set_cons_zero, List.set_cons_succ]
      refine wpAnyH_take (i := 22) (v := ?_) (by simp only [List.getElem?_toArray, List.getElem?_cons_succ, List.getElem?_cons_zero]; rfl) (by kernel_rfl) (by kernel_rfl) (by kernel_rfl) (by exact fun _ _ _ h => h) (Or.inl ⟨by rfl, ?_⟩) hOn ?_
      rotate_left
      focus (intro W hSW; go_simp; try with_reducible rfl)
      try simp only [Act.put, List.setIfInBounds_toArray, List.set_cons_zero, List.set_cons_succ]
      refine wpAnyH_take (i := 23) (v := ?_) (by simp only [List.getElem?_toArray, List.getElem?_cons_succ, List.getElem?_cons_zero]; rfl) (by kernel_rfl) (by kernel_rfl) (by kernel_rfl) (by exact fun _ _ _ h => h) (Or.inl ⟨by rfl, ?_⟩) hOn ?_
      rotate_left
      focus (intro W hSW; go_simp; try with_reducible rfl)
      try simp only [Act.put, List.setIfInBounds_toArray, List.set_cons_zero, List.set_cons_succ]
      refine wpAnyH_ready (rs := [20]) (by kernel_rfl) (by simp) ?_
      refine AllReadyH.cons (by simp only [List.getElem?_toArray, List.getElem?_cons_succ, List.getElem?_cons_zero]; rfl) (fun Kz hKz => ?_) AllReadyH.nil
      go_simp
      (with_reducible refine (hma1.out _ _ _).mono ?_)
      rintro e w5 ⟨rfl, hw5⟩
      have hnew := grown_eq hw5
      clear hw5
      replace h1 := Lib.hid (h1.out.below (Grown.trans hOn hnew)); replace hW := Lib.hid (hW.out.below (Grown.trans hOn hnew)); replace hin := Lib.hid (hin.out.below (Grown.trans hOn hnew)); replace hAt := Lib.hid (hAt.out.below (Grown.trans hOn hnew))
      replace hb1 := Lib.hid (hb1.out.trans ((Grown.trans hOn hnew).mono hb1.out.size))
      (try replace k3 := keepC k3 (Grown.trans hOn hnew))
      (try replace k4 := keepC k4 (Grown.trans hOn hnew))
      (try replace k5 := keepC k5 (Grown.trans hOn hnew))
      (try replace k6 := keepC k6 (Grown.trans hOn hnew))
      go_wp2_with fail
      refine hKz.out _ _ (Grown.trans hOn hnew) (fun hNext => ?_)
      clear hKz Kz hOn
      refine wpAnyH_onward hNext (fun hOn => ?_)
      clear hNext hnew
      try simp only [Act.put, List.setIfInBounds_toArray, List.set_cons_zero, List.set_cons_succ]
      refine wpAnyH_take (i := 24) (v := ?_) (by simp only [List.getElem?_toArray, List.getElem?_cons_succ, List.getElem?_cons_zero]; rfl) (by kernel_rfl) (by kernel_rfl) (by kernel_rfl) (by exact fun _ _ _ h => h) (Or.inl ⟨by rfl, ?_⟩) hOn ?_
      rotate_left
      focus (intro W hSW; go_simp; try with_reducible rfl)
      try simp only [Act.put, List.setIfInBounds_toArray, List.set_cons_zero, List.set_cons_succ]
      refine wpAnyH_take (i := 25) (v := ?_) (by simp only [List.getElem?_toArray, List.getElem?_cons_succ, List.getElem?_cons_zero]; rfl) (by kernel_rfl) (by kernel_rfl) (by kernel_rfl) (by exact fun _ _ _ h => h) (Or.inl ⟨by rfl, ?_⟩) hOn ?_
      rotate_left
      focus (intro W hSW; go_simp; try with_reducible rfl)
      try simp only [Act.put, List.setIfInBounds_toArray, List.set_cons_zero, List.set_cons_succ]
      refine wpAnyH_take (i := 26) (v := ?_) (by simp only [List.getElem?_toArray, List.getElem?_cons_succ, List.getElem?_cons_zero]; rfl) (by kernel_rfl) (by kernel_rfl) (by kernel_rfl) (by exact fun _ _ _ h => h) (Or.inl ⟨by rfl, ?_⟩) hOn ?_
      rotate_left
      focus (intro W hSW; go_simp; try with_reducible rfl)
      try simp only [Act.put, List.setIfInBounds_toArray, List.set_cons_zero, List.set_cons_succ]
      refine wpAnyH_take (i := 27) (v := ?_) (by simp only [List.getElem?_toArray, List.getElem?_cons_succ, List.getElem?_cons_zero]; rfl) (by kernel_rfl) (by kernel_rfl) (by kernel_rfl) (by exact fun _ _ _ h => h) (Or.inl ⟨by rfl, ?_⟩) hOn ?_
      rotate_left
      focus (intro W hSW; go_simp; try with_reducible rfl)
      try simp only [Act.put, List.setIfInBounds_toArray, List.set_cons_zero, List.set_cons_succ]
      refine wpAnyH_take (i := 28) (v := ?_) (by simp only [List.getElem?_toArray, List.getElem?_cons_succ, List.getElem?_cons_zero]; rfl) (by kernel_rfl) (by kernel_rfl) (by kernel_rfl) (by exact fun _ _ _ h => h) (Or.inl ⟨by rfl, ?_⟩) hOn ?_
      rotate_left
      focus (intro W hSW; go_simp; try with_reducible rfl)
      try simp only [Act.put, List.setIfInBounds_toArray, List.set_cons_zero, List.set_cons_succ]
      refine wpAnyH_take (i := 29) (v := ?_) (by simp only [List.getElem?_toArray, List.getElem?_cons_succ, List.getElem?_cons_zero]; rfl) (by kernel_rfl) (by kernel_rfl) (by kernel_rfl) (by exact fun _ _ _ h => h) (Or.inl ⟨by rfl, ?_⟩) hOn ?_
      rotate_left
      focus (intro W hSW; go_simp; try with_reducible rfl)
      try simp only [Act.put, List.setIfInBounds_toArray, List.set_cons_zero, List.set_cons_succ]
      refine wpAnyH_take (i := 30) (v := ?_) (by simp only [List.getElem?_toArray, List.getElem?_cons_succ, List.getElem?_cons_zero]; rfl) (by kernel_rfl) (by kernel_rfl) (by kernel_rfl) (by exact fun _ _ _ h => h) (Or.inl ⟨by rfl, ?_⟩) hOn ?_
      rotate_left
      focus (intro W hSW; go_simp; try with_reducible rfl)
      try simp only [Act.put, List.setIfInBounds_toArray, List.set_cons_zero, List.set_cons_succ]
      refine wpAnyH_take (i := 31) (v := ?_) (by simp only [List.getElem?_toArray, List.getElem?_cons_succ, List.getElem?_cons_zero]; rfl) (by kernel_rfl) (by kernel_rfl) (by kernel_rfl) (by exact fun _ _ _ h => h) (Or.inl ⟨by rfl, ?_⟩) hOn ?_
      rotate_left
      focus (intro W hSW; go_simp; try with_reducible rfl)
      try simp only [Act.put, List.setIfInBounds_toArray, List.set_cons_zero, List.set_cons_succ]
      refine wpAnyH_take (i := 32) (v := ?_) (by simp only [List.getElem?_toArray, List.getElem?_cons_succ, List.getElem?_cons_zero]; rfl) (by kernel_rfl) (by kernel_rfl) (by kernel_rfl) (by exact fun _ _ _ h => h) (Or.inl ⟨by rfl, ?_⟩) hOn ?_
      rotate_left
      focus (intro W hSW; go_simp; try with_reducible rfl)
      try simp only [Act.put, List.setIfInBounds_toArray, List.set_cons_zero, List.set_cons_succ]
      refine wpAnyH_take (i := 35) (v := ?_) (by simp only [List.getElem?_toArray, List.getElem?_cons_succ, List.getElem?_cons_zero]; rfl) (by kernel_rfl) (by kernel_rfl) (by kernel_rfl) (by exact fun _ _ _ h => h) (Or.inl ⟨by rfl, ?_⟩) hOn ?_
      rotate_left
      focus (intro W hSW; go_simp; try with_reducible rfl)
      try simp only [Act.put, List.setIfInBounds_toArray, List.set_cons_zero, List.set_cons_succ]
      refine wpAnyH_ready (rs := [33]) (by kernel_rfl) (by simp) ?_
      refine AllReadyH.cons (by simp only [List.getElem?_toArray, List.getElem?_cons_succ, List.getElem?_cons_zero]; rfl) (fun Kz hKz => ?_) AllReadyH.nil
      go_simp
      (with_reducible refine (hln.out _).mono ?_)
      rintro e w5 ⟨v5, rfl, ho, hnew⟩
      obtain ⟨a5, c5, rfl, h5, _⟩ := ho.arg
      rw [hnb.out]
      replace h1 := Lib.hid (h1.out.below (Grown.trans hOn hnew)); replace hW := Lib.hid (hW.out.below (Grown.trans hOn hnew)); replace hin := Lib.hid (hin.out.below (Grown.trans hOn hnew)); replace hAt := Lib.hid (hAt.out.below (Grown.trans hOn hnew))
      replace hb1 := Lib.hid (hb1.out.trans ((Grown.trans hOn hnew).mono hb1.out.size))
      (try replace k3 := keepC k3 (Grown.trans hOn hnew))
      (try replace k4 := keepC k4 (Grown.trans hOn hnew))
      (try replace k5 := keepC k5 (Grown.trans hOn hnew))
      (try replace k6 := keepC k6 (Grown.trans hOn hnew))
      have k5 := convE h5 _ hnb.out
      clear ho h5
      go_wp2_with fail
      refine hKz.out _ _ (Grown.trans hOn hnew) (fun hNext => ?_)
      clear hKz Kz hOn
      refine wpAnyH_onward hNext (fun hOn => ?_)
      clear hNext hnew
      try simp only [Act.put, List.setIfInBounds_toArray, List.set_cons_zero, List.set_cons_succ]
      refine wpAnyH_take (i := 34) (v := ?_) (by simp only [List.getElem?_toArray, List.getElem?_cons_succ, List.getElem?_cons_zero]; rfl) (by kernel_rfl) (by kernel_rfl) (by kernel_rfl) (by exact fun _ _ _ h => h) (Or.inl ⟨by rfl, ?_⟩) hOn ?_
      rotate_left
      focus (intro W hSW; go_simp; try with_reducible rfl)
      try simp only [Act.put, List.setIfInBounds_toArray, List.set_cons_zero, List.set_cons_succ]
      refine wpAnyH_ready (rs := [36]) (by kernel_rfl) (by simp) ?_
      refine AllReadyH.cons (by simp only [List.getElem?_toArray, List.getElem?_cons_succ, List.getElem?_cons_zero]; rfl) (fun Kz hKz => ?_) AllReadyH.nil
      go_simp
      (with_reducible refine (hrn.out _).mono ?_)
      rintro e w5 ⟨v5, rfl, ho, hnew⟩
      obtain ⟨a6, c6, rfl, h6, _⟩ := ho.arg
      rw [hnb.out]
      replace h1 := Lib.hid (h1.out.below (Grown.trans hOn hnew)); replace hW := Lib.hid (hW.out.below (Grown.trans hOn hnew)); replace hin := Lib.hid (hin.out.below (Grown.trans hOn hnew)); replace hAt := Lib.hid (hAt.out.below (Grown.trans hOn hnew))
      replace hb1 := Lib.hid (hb1.out.trans ((Grown.trans hOn hnew).mono hb1.out.size))
      (try replace k3 := keepC k3 (Grown.trans hOn hnew))
      (try replace k4 := keepC k4 (Grown.trans hOn hnew))
      (try replace k5 := keepC k5 (Grown.trans hOn hnew))
      (try replace k6 := keepC k6 (Grown.trans hOn hnew))
      have k6 := convE h6 _ hnb.out
      clear ho h6
      go_wp2_with fail
      refine hKz.out _ _ (Grown.trans hOn hnew) (fun hNext => ?_)
      clear hKz Kz hOn
      refine wpAnyH_onward hNext (fun hOn => ?_)
      clear hNext hnew
      try simp only [Act.put, List.setIfInBounds_toArray, List.set_cons_zero, List.set_cons_succ]
      refine wpAnyH_take (i := 37) (v := ?_) (by simp only [List.getElem?_toArray, List.getElem?_cons_succ, List.getElem?_cons_zero]; rfl) (by kernel_rfl) (by kernel_rfl) (by kernel_rfl) (by exact fun _ _ _ h => h) (Or.inl ⟨by rfl, ?_⟩) hOn ?_
      rotate_left
      focus (intro W hSW; go_simp; try with_reducible rfl)
      try simp only [Act.put, List.setIfInBounds_toArray, List.set_cons_zero, List.set_cons_succ]
      refine wpAnyH_take (i := 38) (v := ?_) (by simp only [List.getElem?_toArray, List.getElem?_cons_succ, List.getElem?_cons_zero]; rfl) (by kernel_rfl) (by kernel_rfl) (by kernel_rfl) (by exact fun _ _ _ h => h) (Or.inl ⟨by rfl, ?_⟩) hOn ?_
      rotate_left
      focus (intro W hSW; go_simp; try with_reducible rfl)
      try simp only [Act.put, List.setIfInBounds_toArray, List.set_cons_zero, List.set_cons_succ]
      refine wpAnyH_take (i := 39) (v := ?_) (by simp only [List.getElem?_toArray, List.getElem?_cons_succ, List.getElem?_cons_zero]; rfl) (by kernel_rfl) (by kernel_rfl) (by kernel_rfl) (by exact fun _ _ _ h => h) (Or.inl ⟨by rfl, ?_⟩) hOn ?_
      rotate_left
      focus (intro W hSW; go_simp; try with_reducible rfl)
      try simp only [Act.put, List.setIfInBounds_toArray, List.set_cons_zero, List.set_cons_succ]
      refine wpAnyH_done (by kernel_rfl) ?_ _
      have hnew := hOn
      clear hOn k3 k4 k5 k6
      replace h1 := Lib.hid (h1.out.below hnew); replace hW := Lib.hid (hW.out.below hnew); replace hin := Lib.hid (hin.out.below hnew); replace hAt := Lib.hid (hAt.out.below hnew)
      replace hb1 := Lib.hid (hb1.out.trans (hnew.mono hb1.out.size))
      clear hnew hlb hrl hma hma1 hln hrn hnb
      go_wp2_with fail
      with_reducible refine (all9_any _ _ key n (z 0) (z 5) (z 8) _ hin.out hx1 hW.out.lk).mono ?_
      rintro e w6 ⟨vs, rfl, hfv, hnew⟩
      replace h1 := Lib.hid (h1.out.below hnew); replace hW := Lib.hid (hW.out.below hnew); replace hin := Lib.hid (hin.out.below hnew); replace hAt := Lib.hid (hAt.out.below hnew)
      replace hb1 := Lib.hid (hb1.out.trans (hnew.mono hb1.out.size))
      clear hnew
      obtain ⟨hszV, hs5V, haV⟩ := five_facts hfv
      have hba := (Below.refl w6.heap.size w6).alloc (Nat.le_refl _) (.cells vs.toArray 36)
      have hrowV := Lib.hid (heap_alloc_new w6 (.cells vs.toArray 36))
      have hfv6 := Lib.hid (hfv.below hba)
      replace h1 := Lib.hid (h1.out.below hba); replace hW := Lib.hid (hW.out.below hba); replace hin := Lib.hid (hin.out.below hba); replace hAt := Lib.hid (hAt.out.below hba)
      replace hb1 := Lib.hid (hb1.out.trans (hba.mono hb1.out.size))
      have hix := Lib.hid (five_index hfv)
      clear hfv hba
      generalize hV : vs.toArray = V at *
      replace hV := Lib.hid hV
      go_wp2_with (with_reducible refine wpList_store_new rfl 36 (.tmp 12) (.tmp 87) rfl #[.slice none 0 0, .slice none 0 0, .slice none 0 0, .slice none 0 0, .slice none 0 0] V rfl rfl hszV hs5V haV ?_)
      with_reducible refine (rAll9_any a1 c1 key n _ h1.out hx1 hW.out.rK hW.out.rF).mono ?_
      rintro e w7 ⟨us, rfl, hfu, hnew⟩
      replace hW := Lib.hid (hW.out.below hnew); replace hAt := Lib.hid (hAt.out.below hnew); replace h1 := Lib.hid (h1.out.below hnew)
      replace hfv6 := Lib.hid (hfv6.out.below hnew)
      replace hrowV := Lib.hid (rowG hrowV.out _ hnew)
      replace hb1 := Lib.hid (hb1.out.trans (hnew.mono hb1.out.size))
      clear hnew
      obtain ⟨hszU, hs5U, haU⟩ := five_facts9 hfu
      have hba := (Below.refl w7.heap.size w7).alloc (Nat.le_refl _) (.cells us.toArray 39)
      have hrowU := Lib.hid (heap_alloc_new w7 (.cells us.toArray 39))
      have hfu7 := Lib.hid (hfu.below hba)
      replace hfv6 := Lib.hid (hfv6.out.below hba)
      replace hrowV := Lib.hid (rowG hrowV.out _ hba)
      replace hW := Lib.hid (hW.out.below hba); replace hAt := Lib.hid (hAt.out.below hba); replace h1 := Lib.hid (h1.out.below hba)
      replace hb1 := Lib.hid (hb1.out.trans (hba.mono hb1.out.size))
      clear hfu hba
      have hEa := Lib.hid (fun W A => kE_num z (aBad key n) (aBad_cases _ _) W A)
      generalize hU : us.toArray = U at *
      replace hU := Lib.hid hU
      obtain ⟨ba, hbaq⟩ : ∃ b, b = w6.heap.size := ⟨_, rfl⟩
      obtain ⟨bu, hbuq⟩ : ∃ b, b = w7.heap.size := ⟨_, rfl⟩
      go_wp2_with (with_reducible refine wpList_store_new rfl 39 (.tmp 13) (.tmp 93) rfl #[.slice none 0 0, .slice none 0 0, .slice none 0 0, .slice none 0 0, .slice none 0 0] U rfl rfl hszU hs5U haU ?_)
      with_reducible refine (hEa.out _ hW.out).mono ?_
      rintro e w8 ⟨rfl, hnew⟩
      replace hW := Lib.hid (hW.out.below hnew); replace hAt := Lib.hid (hAt.out.below hnew); replace h1 := Lib.hid (h1.out.below hnew); replace hfv6 := Lib.hid (hfv6.out.below hnew); replace hfu7 := Lib.hid (hfu7.out.below hnew)
      replace hrowV := Lib.hid (rowG hrowV.out _ hnew)
      replace hrowU := Lib.hid (rowG hrowU.out _ hnew)
      replace hb1 := Lib.hid (hb1.out.trans (hnew.mono hb1.out.size))
      clear hnew hEa
      go_wp2_with fail
      with_reducible refine (kept_any g a1 c1 key _ (by omega) hAt.out h1.out).mono ?_
      rintro e w9 ⟨rfl, hd⟩
      have hnew : Grown w8 w9 := hd.below _
      replace hfv6 := Lib.hid (hfv6.out.below hnew); replace hfu7 := Lib.hid (hfu7.out.below hnew)
      replace hrowV := Lib.hid (rowG hrowV.out _ hnew)
      replace hrowU := Lib.hid (rowG hrowU.out _ hnew)
      replace hb1 := Lib.hid (hb1.out.trans (hnew.mono hb1.out.size))
      clear hnew hd hAt h1
      have hrr := row_any vs _ w9 hfv6.out
      rw [hV.out] at hrr
      replace hrr := Lib.hid hrr
      have hzcK := Tryd.underlying36
      go_wp2_with (with_reducible refine wpList_load_row rfl 36 (.tmp 12) rfl w6.heap.size V _ rfl hrowV hzcK rfl hszV ?_)
      with_reducible refine hrr.out.mono ?_
      rintro e w10 ⟨rfl, hnew⟩
      replace hfv6 := Lib.hid (hfv6.out.below hnew); replace hfu7 := Lib.hid (hfu7.out.below hnew)
      replace hrowU := Lib.hid (rowG hrowU.out _ hnew)
      replace hb1 := Lib.hid (hb1.out.trans (hnew.mono hb1.out.size))
      clear hnew hrr hrowV
      generalize (fun j => kX key (nmB j) n) = f at *
      go_wp2_with fail
      go_loopw [107] (fun j wr => ∃ i : Nat, i ≤ 5 ∧ j = .int .i64 i ∧ Grown w10 wr) (fun j _ => 5 - (intOf j).toNat)
      case atStart => exact ⟨0, Nat.zero_le _, rfl, Grown.refl _⟩
      case round =>
        obtain ⟨i, hi, rfl, hg⟩ := hrel
        by_cases hlt : i < 5
        · have hli : (i : Int) < 5 := by omega
          obtain ⟨av, cv, ev, hav⟩ := (hfv6.out.below hg).2 i hlt
          obtain ⟨au, cu, eu, hau⟩ := (hfu7.out.below hg).2 i hlt
          have hidx := hix.out i hlt _ ev
          have hcu : wr.cell? ⟨w7.heap.size, i, none⟩ = some (.slice au (f i).length cu) := by
            rw [cell_of_block (rowG hrowU.out _ hg), ← hU.out, List.getElem?_toArray]; exact eu
          have ku := far_cell hcu
          have v1 := convE hav _ rfl
          have v2 := convE hau _ rfl
          have hs := str_eq (f i) (f i)
          replace hg := Lib.hid hg; replace hav := Lib.hid hav; replace hau := Lib.hid hau; replace ev := Lib.hid ev; replace eu := Lib.hid eu
          clear hcu
          generalize f i = bs at *
          go_wp2_with fail
          refine wp_region_on2 (by kernel_rfl) (fun wd hOn => ?_)
          refine wpAnyH_take (i := 0) (v := ?_) (by simp only [List.getElem?_toArray, List.getElem?_cons_zero]; rfl) (by kernel_rfl) (by kernel_rfl) (by kernel_rfl) (by exact fun _ _ _ h => h) (Or.inl ⟨by rfl, ?_⟩) hOn ?_
          rotate_left
          focus (intro W hSW; go_simp; try with_reducible rfl)
          try simp only [Act.put, List.setIfInBounds_toArray, List.set_cons_zero, List.set_cons_succ]
          refine wpAnyH_take (i := 1) (v := ?_) (by simp only [List.getElem?_toArray, List.getElem?_cons_succ, List.getElem?_cons_zero]; rfl) (by kernel_rfl) (by kernel_rfl) (by kernel_rfl) (by exact fun _ _ _ h => h) (Or.inl ⟨by rfl, ?_⟩) hOn ?_
          rotate_left
          focus (intro W hSW; go_simp; try with_reducible rfl)
          try simp only [Act.put, List.setIfInBounds_toArray, List.set_cons_zero, List.set_cons_succ]
          refine wpAnyH_take (i := 2) (v := ?_) (by simp only [List.getElem?_toArray, List.getElem?_cons_succ, List.getElem?_cons_zero]; rfl) (by kernel_rfl) (by kernel_rfl) (by kernel_rfl) (by exact fun _ _ _ h => h) (Or.inl ⟨by rfl, ?_⟩) hOn ?_
          rotate_left
          focus (intro W hSW; go_simp; try with_reducible rfl)
          try simp only [Act.put, List.setIfInBounds_toArray, List.set_cons_zero, List.set_cons_succ]
          refine wpAnyH_take (i := 3) (v := ?_) (by simp only [List.getElem?_toArray, List.getElem?_cons_succ, List.getElem?_cons_zero]; rfl) (by kernel_rfl) (by kernel_rfl) (by kernel_rfl) (by exact fun _ _ _ h => h) (Or.inl ⟨by rfl, ?_⟩) hOn ?_
          rotate_left
          focus (intro W hSW; go_simp; try with_reducible rfl)
          try simp only [Act.put, List.setIfInBounds_toArray, List.set_cons_zero, List.set_cons_succ]
          refine wpAnyH_take (i := 4) (v := ?_) (by simp only [List.getElem?_toArray, List.getElem?_cons_succ, List.getElem?_cons_zero]; rfl) (by kernel_rfl) (by kernel_rfl) (by kernel_rfl) (by exact fun _ _ _ h => h) (Or.inl ⟨by rfl, ?_⟩) hOn ?_
          rotate_left
          focus (intro W hSW; go_simp; try with_reducible rfl)
          try simp only [Act.put, List.setIfInBounds_toArray, List.set_cons_zero, List.set_cons_succ]
          refine wpAnyH_take (i := 5) (v := ?_) (by simp only [List.getElem?_toArray, List.getElem?_cons_succ, List.getElem?_cons_zero]; rfl) (by kernel_rfl) (by kernel_rfl) (by kernel_rfl) (by exact fun _ _ _ h => h) (Or.inl ⟨by rfl, ?_⟩) hOn ?_
          rotate_left
          focus (intro W hSW; go_simp; try with_reducible rfl)
          try simp only [Act.put, List.setIfInBounds_toArray, List.set_cons_zero, List.set_cons_succ]
          refine wpAnyH_take (i := 6) (v := ?_) (by simp only [List.getElem?_toArray, List.getElem?_cons_succ, List.getElem?_cons_zero]; rfl) (by kernel_rfl) (by kernel_rfl) (by kernel_rfl) (by exact fun _ _ _ h => h) (Or.inl ⟨by rfl, ?_⟩) hOn ?_
          rotate_left
          focus (intro W hSW; go_simp; try with_reducible rfl)
          try simp only [Act.put, List.setIfInBounds_toArray, List.set_cons_zero, List.set_cons_succ]
          refine wpAnyH_done (by kernel_rfl) ?_ _
          all_goals
            have hb := Lib.hid (Grown.trans hg.out hOn)
            clear hOn
            go_wp2_with fail
            exact ⟨⟨i + 1, by omega, by go_num, hb.out⟩, by simp [intOf]; omega⟩
        · obtain rfl : i = 5 := by omega
          have hb2 := Lib.hid (hb1.out.trans (hg.mono hb1.out.size))
          replace hg := Lib.hid hg
          go_wp2_with fail
          go_ret
          exact ⟨rfl, hb2.out⟩

end Go.Proofs.YtfmeheolcibfeaaDoor
