/- Which field of parameters isn't right; the walk over the reference's Check. -/
import Derived.Test.YtndgacjfkoliaaaDoorF13PlaysSaid34
import Derived.Test.YtndgacjfkoliaaaDoorF12PlaysSaid34
import Derived.Test.YtndgacjfkoliaaaDoorF4PlaysSaid34
namespace Go.Proofs.YtndgacjfkoliaaaDoor
open Go.RowKit


/-- The first field that isn't right: its name, its value, its error's place among package api's errors. -/
def badAt (s n k d t r : Int) : Option (ByteArray × Int × Nat) :=
  if s < 0 ∨ 2000 < s then some (⟨#[115, 105, 122, 101]⟩, s, 7)
  else if n < 0 ∨ 8 < n then some (⟨#[115, 101, 110, 116, 105, 110, 101, 108, 115]⟩, n, 17)
  else if k < 1 ∨ 12 < k then some (⟨#[115, 112, 111, 116, 115]⟩, k, 0)
  else if d < 1 ∨ 10000 < d then some (⟨#[112, 101, 114, 105, 111, 100]⟩, d, 0)
  else if t < 1 ∨ d < t then some (⟨#[112, 97, 116, 105, 101, 110, 99, 101]⟩, t, 0)
  else if r < 0 ∨ 5 < r then some (⟨#[114, 101, 116, 114, 105, 101, 115]⟩, r, 0)
  else none
/-- The cases. -/
theorem badAt_cases (s n k d t r : Int) :
    ((s < 0 ∨ 2000 < s) ∧ badAt s n k d t r = some (⟨#[115, 105, 122, 101]⟩, s, 7)) ∨
    ((0 ≤ s ∧ s ≤ 2000) ∧ (n < 0 ∨ 8 < n) ∧ badAt s n k d t r = some (⟨#[115, 101, 110, 116, 105, 110, 101, 108, 115]⟩, n, 17)) ∨
    ((0 ≤ s ∧ s ≤ 2000) ∧ (0 ≤ n ∧ n ≤ 8) ∧ (k < 1 ∨ 12 < k) ∧ badAt s n k d t r = some (⟨#[115, 112, 111, 116, 115]⟩, k, 0)) ∨
    ((0 ≤ s ∧ s ≤ 2000) ∧ (0 ≤ n ∧ n ≤ 8) ∧ (1 ≤ k ∧ k ≤ 12) ∧ (d < 1 ∨ 10000 < d) ∧ badAt s n k d t r = some (⟨#[112, 101, 114, 105, 111, 100]⟩, d, 0)) ∨
    ((0 ≤ s ∧ s ≤ 2000) ∧ (0 ≤ n ∧ n ≤ 8) ∧ (1 ≤ k ∧ k ≤ 12) ∧ (1 ≤ d ∧ d ≤ 10000) ∧ (t < 1 ∨ d < t) ∧ badAt s n k d t r = some (⟨#[112, 97, 116, 105, 101, 110, 99, 101]⟩, t, 0)) ∨
    ((0 ≤ s ∧ s ≤ 2000) ∧ (0 ≤ n ∧ n ≤ 8) ∧ (1 ≤ k ∧ k ≤ 12) ∧ (1 ≤ d ∧ d ≤ 10000) ∧ (1 ≤ t ∧ t ≤ d) ∧ (r < 0 ∨ 5 < r) ∧ badAt s n k d t r = some (⟨#[114, 101, 116, 114, 105, 101, 115]⟩, r, 0)) ∨
    ((0 ≤ s ∧ s ≤ 2000) ∧ (0 ≤ n ∧ n ≤ 8) ∧ (1 ≤ k ∧ k ≤ 12) ∧ (1 ≤ d ∧ d ≤ 10000) ∧ (1 ≤ t ∧ t ≤ d) ∧ (0 ≤ r ∧ r ≤ 5) ∧ badAt s n k d t r = none) := by
  unfold badAt
  by_cases h1 : s < 0 ∨ 2000 < s
  · exact .inl ⟨h1, by rw [if_pos h1]⟩
  by_cases h2 : n < 0 ∨ 8 < n
  · exact .inr (.inl ⟨by omega, h2, by rw [if_neg h1, if_pos h2]⟩)
  by_cases h3 : k < 1 ∨ 12 < k
  · exact .inr (.inr (.inl ⟨by omega, by omega, h3, by rw [if_neg h1, if_neg h2, if_pos h3]⟩))
  by_cases h4 : d < 1 ∨ 10000 < d
  · exact .inr (.inr (.inr (.inl ⟨by omega, by omega, by omega, h4, by rw [if_neg h1, if_neg h2, if_neg h3, if_pos h4]⟩)))
  by_cases h5 : t < 1 ∨ d < t
  · exact .inr (.inr (.inr (.inr (.inl ⟨by omega, by omega, by omega, by omega, h5, by rw [if_neg h1, if_neg h2, if_neg h3, if_neg h4, if_pos h5]⟩))))
  by_cases h6 : r < 0 ∨ 5 < r
  · exact .inr (.inr (.inr (.inr (.inr (.inl ⟨by omega, by omega, by omega, by omega, by omega, h6, by rw [if_neg h1, if_neg h2, if_neg h3, if_neg h4, if_neg h5, if_pos h6]⟩)))))
  · exact .inr (.inr (.inr (.inr (.inr (.inr ⟨by omega, by omega, by omega, by omega, by omega, by omega, by rw [if_neg h1, if_neg h2, if_neg h3, if_neg h4, if_neg h5, if_neg h6]⟩)))))

/-- What the reference's Check answers. -/
def rcheckV (b : Option (ByteArray × Int × Nat)) : Value := match b with
  | some (F, V, i) => .tuple #[.string F, .int .i64 V, .int .i64 ((i + 1 : Nat) : Int)]
  | none => .tuple #[.string ⟨#[]⟩, .int .i64 0, .int .i64 0]

set_option maxRecDepth 10000 in
set_option maxHeartbeats 4000000 in
theorem rcheck_any (s n k d t r : Int) (w : World) : Calls Tryd.prog 32 #[.agg #[.int .i64 s, .int .i64 n, .int .i64 k, .int .i64 d, .int .i64 t, .int .i64 r]] w fun e w' => e = .returned (rcheckV (badAt s n k d t r)) ∧ Below w.heap.size w w' := by
  have hb1 := Lib.hid ((Below.refl w.heap.size w).alloc (Nat.le_refl _) (.cells #[.int .i64 s, .int .i64 n, .int .i64 k, .int .i64 d, .int .i64 t, .int .i64 r] 59))
  have hp := Lib.hid (heap_alloc_new w (.cells #[.int .i64 s, .int .i64 n, .int .i64 k, .int .i64 d, .int .i64 t, .int .i64 r] 59))
  rcases badAt_cases s n k d t r with ⟨h1, h⟩ | ⟨h1, h2, h⟩ | ⟨h1, h2, h3, h⟩ | ⟨h1, h2, h3, h4, h⟩ | ⟨h1, h2, h3, h4, h5, h⟩ | ⟨h1, h2, h3, h4, h5, h6, h⟩ | ⟨h1, h2, h3, h4, h5, h6, h⟩
  · rw [h]
    unfold rcheckV
    clear h
    rcases h1 with h1 | h1
    all_goals
      go_enter Tryd.func32, Tryd.ntmps32
      go_wp2_with fail
      go_quiet (fail)
      go_wp2
      go_ret3
      exact ⟨rfl, below_drewN hb1.out _⟩
  · rw [h]
    unfold rcheckV
    clear h
    rcases h2 with h2 | h2
    all_goals
      go_enter Tryd.func32, Tryd.ntmps32
      go_wp2_with fail
      go_quiet (fail)
      go_wp2
      go_ret3
      exact ⟨rfl, below_drewN hb1.out _⟩
  · rw [h]
    unfold rcheckV
    clear h
    have hT := total_bd s h1
    have htot := Lib.hid (fun W => rtotal_some s h1 W)
    generalize totalOf s = T at *
    rcases h3 with h3 | h3
    all_goals
      go_enter Tryd.func32, Tryd.ntmps32
      go_wp2_with fail
      with_reducible refine (htot.out _).mono ?_
      rintro e w1 ⟨rfl, hb2⟩
      replace hp := Lib.hid ((hb2.block _ (by simp)).trans hp.out)
      replace hb1 := Lib.hid (hb1.out.trans (hb2.mono hb1.out.size))
      obtain ⟨c0, c1, c2, c3, c4, c5⟩ := box6 hp.out
      clear hb2 htot
      go_wp2_with fail
      go_quiet (fail)
      go_wp2
      go_ret3
      exact ⟨rfl, below_drewN hb1.out _⟩
  · rw [h]
    unfold rcheckV
    clear h
    have hT := total_bd s h1
    have htot := Lib.hid (fun W => rtotal_some s h1 W)
    generalize totalOf s = T at *
    rcases h4 with h4 | h4
    all_goals
      go_enter Tryd.func32, Tryd.ntmps32
      go_wp2_with fail
      with_reducible refine (htot.out _).mono ?_
      rintro e w1 ⟨rfl, hb2⟩
      replace hp := Lib.hid ((hb2.block _ (by simp)).trans hp.out)
      replace hb1 := Lib.hid (hb1.out.trans (hb2.mono hb1.out.size))
      obtain ⟨c0, c1, c2, c3, c4, c5⟩ := box6 hp.out
      clear hb2 htot
      go_wp2_with fail
      go_quiet (fail)
      go_wp2
      go_ret3
      exact ⟨rfl, below_drewN hb1.out _⟩
  · rw [h]
    unfold rcheckV
    clear h
    have hT := total_bd s h1
    have htot := Lib.hid (fun W => rtotal_some s h1 W)
    generalize totalOf s = T at *
    rcases h5 with h5 | h5
    all_goals
      go_enter Tryd.func32, Tryd.ntmps32
      go_wp2_with fail
      with_reducible refine (htot.out _).mono ?_
      rintro e w1 ⟨rfl, hb2⟩
      replace hp := Lib.hid ((hb2.block _ (by simp)).trans hp.out)
      replace hb1 := Lib.hid (hb1.out.trans (hb2.mono hb1.out.size))
      obtain ⟨c0, c1, c2, c3, c4, c5⟩ := box6 hp.out
      clear hb2 htot
      go_wp2_with fail
      go_quiet (fail)
      go_wp2
      go_ret3
      exact ⟨rfl, below_drewN hb1.out _⟩
  · rw [h]
    unfold rcheckV
    clear h
    have hT := total_bd s h1
    have htot := Lib.hid (fun W => rtotal_some s h1 W)
    generalize totalOf s = T at *
    rcases h6 with h6 | h6
    all_goals
      go_enter Tryd.func32, Tryd.ntmps32
      go_wp2_with fail
      with_reducible refine (htot.out _).mono ?_
      rintro e w1 ⟨rfl, hb2⟩
      replace hp := Lib.hid ((hb2.block _ (by simp)).trans hp.out)
      replace hb1 := Lib.hid (hb1.out.trans (hb2.mono hb1.out.size))
      obtain ⟨c0, c1, c2, c3, c4, c5⟩ := box6 hp.out
      clear hb2 htot
      go_wp2_with fail
      go_quiet (fail)
      go_wp2
      go_ret3
      exact ⟨rfl, below_drewN hb1.out _⟩
  · rw [h]
    unfold rcheckV
    clear h
    have hT := total_bd s h1
    have htot := Lib.hid (fun W => rtotal_some s h1 W)
    generalize totalOf s = T at *
    go_enter Tryd.func32, Tryd.ntmps32
    go_wp2_with fail
    with_reducible refine (htot.out _).mono ?_
    rintro e w1 ⟨rfl, hb2⟩
    replace hp := Lib.hid ((hb2.block _ (by simp)).trans hp.out)
    replace hb1 := Lib.hid (hb1.out.trans (hb2.mono hb1.out.size))
    obtain ⟨c0, c1, c2, c3, c4, c5⟩ := box6 hp.out
    clear hb2 htot
    go_wp2_with fail
    go_ret3
    exact ⟨rfl, hb1.out⟩

end Go.Proofs.YtndgacjfkoliaaaDoor
