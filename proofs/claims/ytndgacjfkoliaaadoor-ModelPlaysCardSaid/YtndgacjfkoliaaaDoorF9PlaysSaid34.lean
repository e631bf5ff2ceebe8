/- Find, LabelA. -/
import Derived.Test.YtndgacjfkoliaaaDoorF8PlaysSaid34
import Derived.Test.YtndgacjfkoliaaaDoorShelf
import Derived.Test.YtndgacjfkoliaaaDoorBase
import Derived.Test.YtndgacjfkoliaaaDoorMem
/- The walk over slices.IndexFunc at names, as model.Put asks it. -/
namespace Go.Proofs.YtndgacjfkoliaaaDoor
open Go.RowKit

/-- The first place of a name, or -1. -/
def findS (ns : List Nm) (s : ByteArray) : Int := match ns.findIdx? (fun x => decide (x.s = s)) with
  | some i => (i : Int)
  | none => -1
theorem findS_hit {ns : List Nm} {s : ByteArray} {k : Nat} (hk : k < ns.length) (h : ∀ j (hj : j < ns.length), j < k → ns[j].s ≠ s) (he : ns[k].s = s) : findS ns s = (k : Int) := by
  have : ns.findIdx? (fun x => decide (x.s = s)) = some k := by
    rw [List.findIdx?_eq_some_iff_getElem]
    refine ⟨hk, by simpa using he, fun j hj => ?_⟩
    simpa using h j (by omega) hj
  unfold findS
  rw [this]
theorem findS_none {ns : List Nm} {s : ByteArray} (h : ∀ j (hj : j < ns.length), ns[j].s ≠ s) : findS ns s = -1 := by
  have : ns.findIdx? (fun x => decide (x.s = s)) = none := by
    rw [List.findIdx?_eq_none_iff]
    intro x hx
    obtain ⟨j, hj, rfl⟩ := List.getElem_of_mem hx
    simpa using h j hj
  unfold findS
  rw [this]
theorem bytes_eq (a b : ByteArray) : (a.toList == b.toList) = decide (a = b) := by
  rw [← beq_toListBytes, Bool.eq_iff_iff, decide_eq_true_iff]
  have h : (a == b) = (a.data == b.data) := rfl
  rw [h, beq_iff_eq]
  exact ⟨fun e => by cases a; cases b; exact congrArg _ e, fun e => by rw [e]⟩
set_option maxHeartbeats 1000000 in
theorem put1_any (x : Nm) (X : Array Value) (hX : X = x.list.toArray) (b : Nat) (s : ByteArray) (w : World) (hb : w.cell? ⟨b, 0, none⟩ = some (.string s)) :
    Calls Tryd.prog 29 #[.agg X, .pointer (some ⟨b, 0, none⟩)] w fun r w' => r = .returned (.bool (decide (x.s = s))) ∧ Below w.heap.size w w' := by
  have hG : Below w.heap.size w (w.alloc (.cells X 69)) := (Below.refl _ _).alloc (Nat.le_refl _) _
  have k0 : (w.alloc (.cells X 69)).cell? ⟨w.heap.size, 0, none⟩ = some (.string x.s) := by rw [cell_of_block (heap_alloc_new w _)]; rw [hX]; rfl
  have k1 := cellAfter hb (.cells X 69)
  replace hG := Lib.hid hG
  obtain ⟨S, hS⟩ : ∃ S, S = x.s := ⟨_, rfl⟩
  rw [← hS] at k0 ⊢
  replace hS := Lib.hid hS
  clear hX hb
  by_cases he : S = s
  · subst he
    go_enter Tryd.func29, Tryd.ntmps29
    go_wp2_with fail
    go_ret
    exact ⟨by simp, hG.out⟩
  · have hd : decide (S = s) = false := decide_eq_false he
    rw [hd]
    go_enter Tryd.func29, Tryd.ntmps29
    go_wp2_with fail
    go_ret
    exact ⟨by rw [show (S.toList == s.toList) = false by rw [bytes_eq, hd]]; rfl, hG.out⟩

set_option maxRecDepth 100000 in
set_option maxHeartbeats 1000000 in
theorem indexN_any (a : Option Addr) (c : Nat) (ns : List Nm) (hok : ∀ x ∈ ns, x.Ok) (w : World) (h : RowAt Nm.list 40 w a ns) (hl : ns.length ≤ 1000000) (b : Nat) (s : ByteArray) (hb : w.cell? ⟨b, 0, none⟩ = some (.string s)) :
    Calls Tryd.prog 28 #[.slice a ns.length c, .func (.func 29) #[] #[.pointer (some ⟨b, 0, none⟩)]] w fun r w' => r = .returned (.int .i64 (findS ns s)) ∧ Below w.heap.size w w' := by
  have huN : Tryd.prog.underlying 69 = _ := Tryd.underlying69
  obtain ⟨q, hq⟩ : ∃ q, q = findS ns s := ⟨_, rfl⟩
  rw [← hq]
  obtain ⟨N, hN⟩ : ∃ N, N = ns.length := ⟨_, rfl⟩
  rw [← hN] at hl ⊢
  replace hN := Lib.hid hN
  replace hq := Lib.hid hq
  replace h := Lib.hid h
  replace hok := Lib.hid hok
  replace hb := Lib.hid hb
  go_enter Tryd.func28, Tryd.ntmps28
  go_wp2_with fail
  refine wp_loopF [(false, 4), (true, 2), (false, 2), (true, 11)] _ [] (fun U wr => ∃ k : Nat, k ≤ N ∧ U 8 = .int .i64 (k : Nat) ∧ Below w.heap.size w wr ∧ ∀ j (hj : j < ns.length), j < k → ns[j].s ≠ s) (fun U _ => N - (intOf (U 8)).toNat) ?_ ?_
  · simp only [List.getD_cons_zero, List.getD_cons_succ]
    exact ⟨0, Nat.zero_le _, rfl, Below.refl _ _, fun j _ hj => absurd hj (Nat.not_lt_zero _)⟩
  · intro U wr hrel KK hback l' hl'
    obtain ⟨k, hk, h8, hbw, hle⟩ := hrel
    simp only [fillS, popSeg, cond_true, cond_false, Nat.reduceAdd, h8] at hl'
    subst hl'
    replace h8 := Lib.hid h8
    replace hle := Lib.hid hle
    by_cases hlt : k < N
    · have hlt2 : (k : Int) < (N : Int) := by omega
      have hkN : k < ns.length := by rw [← hN.out]; exact hlt
      obtain ⟨b1, o1, rfl, hr1⟩ := h.out.below hbw (Nat.le_refl _) k hkN
      have ox := hok.out _ (List.getElem_mem hkN)
      have hhit := fun (e : ns[k].s = s) => findS_hit hkN hle.out e
      have hstep := fun (e : ns[k].s ≠ s) => show ∀ j (hj : j < ns.length), j < k + 1 → ns[j].s ≠ s from fun j hj hjk => by
        by_cases hjk2 : j < k
        · exact hle.out j hj hjk2
        · obtain rfl : j = k := by omega
          exact e
      generalize ns[k] = x at *
      obtain ⟨X, hX⟩ : ∃ X, X = x.list.toArray := ⟨_, rfl⟩
      have ix : (Tryd.prog.info? 69).map (·.size) = some x.list.length := by rw [Nm.list_length ox.f]; exact infoNm
      have hcall := put1_any x X hX b s wr ((hbw.cell (World.block_lt_of_cell? w _ hb.out)).trans hb.out)
      have hsz := hbw.size
      replace hX := Lib.hid hX
      replace hr1 := Lib.hid hr1
      replace hbw := Lib.hid hbw
      replace hhit := Lib.hid hhit
      replace hstep := Lib.hid hstep
      replace ox := Lib.hid ox
      by_cases he : x.s = s
      · have hqk : q = (k : Int) := by rw [hq.out]; exact hhit.out he
        rw [decide_eq_true he] at hcall
        replace hcall := Lib.hid hcall
        subst hqk
        replace he := Lib.hid he
        clear hq
        go_wp2_with (refine wpList_load_mid rfl 69 (.tmp 14) rfl b1 (o1 + k * 40) rfl x.list _ hr1.out huN rfl ix ?_; rw [← hX.out])
        with_reducible refine hcall.out.mono ?_
        rintro e w2 ⟨rfl, hb2⟩
        have hbf := Lib.hid (hbw.out.trans (hb2.mono hsz))
        go_wp2_with fail
        go_ret
        exact ⟨rfl, hbf.out⟩
      · rw [decide_eq_false he] at hcall
        replace hcall := Lib.hid hcall
        replace he := Lib.hid he
        go_wp2_with (refine wpList_load_mid rfl 69 (.tmp 14) rfl b1 (o1 + k * 40) rfl x.list _ hr1.out huN rfl ix ?_; rw [← hX.out])
        with_reducible refine hcall.out.mono ?_
        rintro e w2 ⟨rfl, hb2⟩
        have hbf := Lib.hid (hbw.out.trans (hb2.mono hsz))
        go_wp2_with fail
        refine hback.out _ _ (by kernel_rfl) ?_ ?_
        · simp only [List.getD_cons_zero, List.getD_cons_succ]
          exact ⟨k + 1, by omega, by go_num, hbf.out, hstep.out he.out⟩
        · have h8 := h8.out
          simp only [List.getD_cons_zero, List.getD_cons_succ, h8, intOf]
          omega
    · obtain rfl : k = N := by omega
      have hqn : q = -1 := by rw [hq.out]; exact findS_none (fun j hj => hle.out j hj (by rw [hN.out]; exact hj))
      subst hqn
      replace hbw := Lib.hid hbw
      clear hq
      go_wp2_with fail
      go_ret
      exact ⟨rfl, hbw.out⟩
end Go.Proofs.YtndgacjfkoliaaaDoor
/- The walks over label.Label and the reference's Label. -/
namespace Go.Proofs.YtndgacjfkoliaaaDoor
open Go.RowKit

def low (c : UInt8) : Bool := decide (97 ≤ c.toNat ∧ c.toNat ≤ 122)
/-- Is it a label? -/
def labB (bs : List UInt8) : Bool := decide (1 ≤ bs.length ∧ bs.length ≤ 12) && bs.all low
def lettersB : List UInt8 := [97, 98, 99, 100, 101, 102, 103, 104, 105, 106, 107, 108, 109, 110, 111, 112, 113, 114, 115, 116, 117, 118, 119, 120, 121, 122]

theorem low_in (c : UInt8) : lettersB.contains c = low c := by
  have : ∀ n, n < 256 → lettersB.contains (UInt8.ofNat n) = low (UInt8.ofNat n) := by decide +kernel
  have h := this c.toNat c.toNat_lt
  rwa [UInt8.ofNat_toNat] at h
theorem dropWhile_nil {α : Type} (p : α → Bool) : ∀ l : List α, l.dropWhile p = [] ↔ l.all p = true
  | [] => by simp
  | x :: l => by
    rw [List.dropWhile_cons, List.all_cons]
    cases hp : p x
    · simp
    · simpa using dropWhile_nil p l
theorem dropWhile_all {α : Type} (p : α → Bool) : ∀ l : List α, (l.dropWhile p).all p = l.all p
  | [] => rfl
  | x :: l => by
    rw [List.dropWhile_cons, List.all_cons]
    cases hp : p x
    · simp [hp]
    · simpa using dropWhile_all p l
theorem trim_nil (l : List UInt8) : Lib.trimS l lettersB = [] ↔ l.all low = true := by
  unfold Lib.trimS Lib.trimLeftS Lib.trimRightS
  rw [dropWhile_nil]
  have hf : (fun x => lettersB.contains x) = low := funext low_in
  rw [hf, List.all_reverse, dropWhile_all, List.all_reverse]

theorem trim_any (s : ByteArray) (w : World) (hs : s.size ≤ 9223372036854775807) :
    Calls Tryd.prog 38 #[.string s, .string ⟨#[97, 98, 99, 100, 101, 102, 103, 104, 105, 106, 107, 108, 109, 110, 111, 112, 113, 114, 115, 116, 117, 118, 119, 120, 121, 122]⟩] w fun e w' => e = .returned (.string ⟨(Lib.trimS s.data.toList lettersB).toArray⟩) ∧ Below w.heap.size w w' :=
  Any.strings_Trim_laid Tryd.lays160 (by kernel_rfl) s ⟨#[97, 98, 99, 100, 101, 102, 103, 104, 105, 106, 107, 108, 109, 110, 111, 112, 113, 114, 115, 116, 117, 118, 119, 120, 121, 122]⟩ w hs (by decide) (ascii_of_all (by decide))

set_option maxHeartbeats 1000000 in
theorem label_any (s : ByteArray) (w : World) (hs : s.size ≤ 9223372036854775807) :
    Calls Tryd.prog 30 #[.string s] w fun e w' => e = .returned (.bool (labB s.data.toList)) ∧ Below w.heap.size w w' := by
  have hlen : s.data.toList.length = s.size := by simp
  by_cases h1 : 1 ≤ s.size ∧ s.size ≤ 12
  · have ht := Lib.hid (trim_any s w hs)
    have hv : labB s.data.toList = s.data.toList.all low := by unfold labB; rw [hlen, decide_eq_true h1, Bool.true_and]
    have h1i : (1 : Int) ≤ s.size := by omega
    have h2i : (s.size : Int) ≤ 12 := by omega
    have htn := trim_nil s.data.toList
    rw [hv]
    replace hlen := Lib.hid hlen
    replace hv := Lib.hid hv
    cases hal : s.data.toList.all low
    · have hne : Lib.trimS s.data.toList lettersB ≠ [] := fun e => by rw [htn.1 e] at hal; cases hal
      have hb2 : (Lib.trimS s.data.toList lettersB).isEmpty = false := by rw [List.isEmpty_eq_false_iff]; exact hne
      clear htn
      replace hal := Lib.hid hal
      generalize Lib.trimS s.data.toList lettersB = T at *
      go_enter Tryd.func30, Tryd.ntmps30
      go_wp2_with fail
      with_reducible refine ht.out.mono ?_
      rintro e w1 ⟨rfl, hb1⟩
      replace hb1 := Lib.hid hb1
      go_wp2_with fail
      go_ret
      exact ⟨rfl, hb1.out⟩
    · have hne : Lib.trimS s.data.toList lettersB = [] := htn.2 hal
      rw [hne] at ht
      clear htn hne
      replace hal := Lib.hid hal
      go_enter Tryd.func30, Tryd.ntmps30
      go_wp2_with fail
      with_reducible refine ht.out.mono ?_
      rintro e w1 ⟨rfl, hb1⟩
      replace hb1 := Lib.hid hb1
      go_wp2_with fail
      go_ret
      exact ⟨rfl, hb1.out⟩
  · have hv : labB s.data.toList = false := by unfold labB; rw [hlen, decide_eq_false h1, Bool.false_and]
    rw [hv]
    by_cases h0 : s.size = 0
    · have hd : decide (1 ≤ (s.size : Int)) = false := by simp; omega
      clear h1 hlen
      replace hv := Lib.hid hv
      replace h0 := Lib.hid h0
      go_enter Tryd.func30, Tryd.ntmps30
      go_wp2_with fail
      go_ret
      exact ⟨rfl, Below.refl _ _⟩
    · have h1i : (1 : Int) ≤ s.size := by omega
      have h2i : ¬ (s.size : Int) ≤ 12 := by omega
      clear h1 hlen h0
      replace hv := Lib.hid hv
      go_enter Tryd.func30, Tryd.ntmps30
      go_wp2_with fail
      go_ret
      exact ⟨rfl, Below.refl _ _⟩

set_option maxHeartbeats 1000000 in
theorem rLabel_any (s : ByteArray) (w : World) (hs : s.size ≤ 9223372036854775807) :
    Calls Tryd.prog 33 #[.string s] w fun e w' => e = .returned (.bool (labB s.data.toList)) ∧ w = w' := by
  have hlen : s.data.toList.length = s.size := by simp
  have hlab := Lib.hid (show labB s.data.toList = (decide (0 < (s.size : Int)) && (decide ((s.size : Int) < 13) && s.data.toList.all low)) from by
    unfold labB; rw [hlen, ← Bool.and_assoc]; congr 1; rw [Bool.eq_iff_iff]; simp; omega)
  have hall := Lib.hid (fun i (h : i < s.size) (hf : low s[i] = false) => show s.data.toList.all low = false from by
    rw [List.all_eq_false]
    exact ⟨s[i], by simp [ByteArray.getElem_eq_getElem_data], by rw [hf]; decide⟩)
  have hend := Lib.hid (fun (h : ∀ i, (hi : i < s.size) → low s[i] = true) => show s.data.toList.all low = true from by
    rw [List.all_eq_true]
    intro x hx
    obtain ⟨i, hi, rfl⟩ := List.getElem_of_mem hx
    exact h i (by simpa using hi))
  replace hlen := Lib.hid hlen
  go_enter Tryd.func33, Tryd.ntmps33
  go_wp2_with fail
  go_loop [3] (fun j => ∃ i : Nat, i ≤ s.size ∧ j = .int .i64 i ∧ ∀ k, (hk : k < s.size) → k < i → low s[k] = true) (fun j => s.size - (intOf j).toNat)
  case atStart => exact ⟨0, Nat.zero_le _, rfl, fun k _ h => absurd h (Nat.not_lt_zero k)⟩
  case round =>
    obtain ⟨i, hi, rfl, hpre⟩ := hrel
    replace hpre := Lib.hid hpre
    by_cases hlt : i < s.size
    · have hli : (i : Int) < s.size := by omega
      cases hlo : low s[i]
      · have hf := hall.out i hlt hlo
        have hv : labB s.data.toList = false := by rw [hlab.out, hf]; simp
        unfold low at hlo
        have hlo2 : s[i].toNat < 97 ∨ 122 < s[i].toNat := by simpa [decide_eq_false_iff_not] using (show ¬ (97 ≤ s[i].toNat ∧ s[i].toNat ≤ 122) from by simpa using hlo) |> fun h => (by omega : s[i].toNat < 97 ∨ 122 < s[i].toNat)
        have hd : ∃ b1 b2 : Bool, decide ((s[i].toNat : Int) < 97) = b1 ∧ decide (122 < (s[i].toNat : Int)) = b2 ∧ (b1 || b2) = true := by
          refine ⟨_, _, rfl, rfl, ?_⟩
          simp only [Bool.or_eq_true, decide_eq_true_eq]
          omega
        obtain ⟨b1, b2, e1, e2, e4⟩ := hd
        replace hlo := Lib.hid hlo; replace hlo2 := Lib.hid hlo2; replace hf := Lib.hid hf; replace hv := Lib.hid hv
        cases b1 <;> cases b2 <;> simp at e4
        all_goals
          go_wp2_with fail
          go_ret
          exact ⟨by rw [hv.out]; rfl, rfl⟩
      · unfold low at hlo
        have hlo2 : 97 ≤ s[i].toNat ∧ s[i].toNat ≤ 122 := by simpa using hlo
        have e1 : ¬ (s[i].toNat : Int) < 97 := by omega
        have e2 : ¬ 122 < (s[i].toNat : Int) := by omega
        have hnext := Lib.hid (show ∀ k, (hk : k < s.size) → k < i + 1 → low s[k] = true from fun k hk h => by
          rcases Nat.lt_or_ge k i with h' | h'
          · exact hpre.out k hk h'
          · obtain rfl : k = i := by omega
            unfold low; exact hlo)
        replace hlo := Lib.hid hlo; replace hlo2 := Lib.hid hlo2
        go_wp2_with fail
        exact ⟨⟨i + 1, by omega, by go_num, hnext.out⟩, by simp [intOf]; omega⟩
    · obtain rfl : i = s.size := by omega
      have hv := hlab.out
      rw [hend.out (fun k hk => hpre.out k hk hk), Bool.and_true] at hv
      replace hv := Lib.hid hv
      by_cases h0 : s.size = 0
      · have h1 : decide (0 < s.size) = false := by rw [h0]; rfl
        have hr : (decide (0 < (s.size : Int)) && decide ((s.size : Int) < 13)) = false := by rw [h0]; rfl
        replace h0 := Lib.hid h0
        replace hr := Lib.hid hr
        go_wp2_with fail
        go_ret
        exact ⟨by rw [hv.out, hr.out]; rfl, rfl⟩
      · have h1 : 0 < s.size := by omega
        have h1i : (0 : Int) < s.size := by omega
        by_cases h13 : s.size < 13
        · have h2i : (s.size : Int) < 13 := by omega
          have hr := Lib.hid (show (decide (0 < (s.size : Int)) && decide ((s.size : Int) < 13)) = true from by simp; omega)
          clear h0
          go_wp2_with fail
          go_ret
          exact ⟨by rw [hv.out, hr.out]; rfl, rfl⟩
        · have h2i : ¬ (s.size : Int) < 13 := by omega
          have hr := Lib.hid (show (decide (0 < (s.size : Int)) && decide ((s.size : Int) < 13)) = false from by simp; omega)
          clear h0
          go_wp2_with fail
          go_ret
          exact ⟨by rw [hv.out, hr.out]; rfl, rfl⟩

end Go.Proofs.YtndgacjfkoliaaaDoor
