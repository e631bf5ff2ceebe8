/- The walks over ClockWords, ClockWindows. -/
import Derived.Test.YtkdkecmldekokaaDoorClock
import Derived.Test.YtkdkecmldekokaaDoorWinPlain
import Derived.Test.YtkdkecmldekokaaDoorStoreRow
namespace Go.Proofs.YtkdkecmldekokaaDoor
open Go.RowKit


/-- The words of what is wanted. -/
def wordL : List (List UInt8) := [[110, 111, 116, 104, 105, 110, 103], [97, 115, 107], [97, 103, 97, 105, 110], [115, 116, 111, 112]]
def WordsAt (w : World) : Prop := ∀ i, i < 4 → w.cell? ⟨0, i, none⟩ = some (.string ⟨(wordL.getD i []).toArray⟩)
theorem WordsAt.below {w w' : World} (h : WordsAt w) (hb : Below w.heap.size w w') : WordsAt w' := fun i hi => (hb.cell (World.block_lt_of_cell? w _ (h i hi))).trans (h i hi)
theorem WordsAt.all {w : World} (h : WordsAt w) : w.cell? ⟨0, 0, none⟩ = some (.string ⟨#[110, 111, 116, 104, 105, 110, 103]⟩) ∧ w.cell? ⟨0, 1, none⟩ = some (.string ⟨#[97, 115, 107]⟩) ∧ w.cell? ⟨0, 2, none⟩ = some (.string ⟨#[97, 103, 97, 105, 110]⟩) ∧ w.cell? ⟨0, 3, none⟩ = some (.string ⟨#[115, 116, 111, 112]⟩) :=
  ⟨h 0 (by decide), h 1 (by decide), h 2 (by decide), h 3 (by decide)⟩

def wordOf (n : Int) : ByteArray := if n = 0 then ⟨#[110, 111, 116, 104, 105, 110, 103]⟩ else if n = 1 then ⟨#[97, 115, 107]⟩ else if n = 2 then ⟨#[97, 103, 97, 105, 110]⟩ else if n = 3 then ⟨#[115, 116, 111, 112]⟩ else ⟨#[]⟩

set_option maxHeartbeats 1000000 in
theorem word_any (n : Int) (w : World) (hW : WordsAt w) : Calls Tryd.prog 6 #[.int .i64 n] w fun e w' => e = .returned (.string (wordOf n)) ∧ w = w' := by
  obtain ⟨c0, c1, c2, c3⟩ := hW.all
  rcases (show n < 0 ∨ 3 < n ∨ n = 0 ∨ n = 1 ∨ n = 2 ∨ n = 3 from by omega) with h | h | rfl | rfl | rfl | rfl
  · rw [show wordOf n = ⟨#[]⟩ from by unfold wordOf; rw [if_neg (by omega), if_neg (by omega), if_neg (by omega), if_neg (by omega)]]
    go_enter Tryd.func6, Tryd.ntmps6
    go_wp2_with fail
    go_ret
    exact ⟨rfl, rfl⟩
  · rw [show wordOf n = ⟨#[]⟩ from by unfold wordOf; rw [if_neg (by omega), if_neg (by omega), if_neg (by omega), if_neg (by omega)]]
    go_enter Tryd.func6, Tryd.ntmps6
    go_wp2_with fail
    go_ret
    exact ⟨rfl, rfl⟩
  all_goals
    go_enter Tryd.func6, Tryd.ntmps6
    go_wp2_with fail
    go_ret
    exact ⟨rfl, rfl⟩


set_option maxRecDepth 10000 in
set_option maxHeartbeats 2000000 in
theorem alive26_any (z : Nat → Addr) (w : World) (hE : ParErrs w z) (hW : WordsAt w) : Calls Tryd.prog 5 #[] w fun e w' => e = .returned (.bool true) ∧ Below w.heap.size w w' := by
  have hok : ParOk 0 0 1 5 1 0 := by unfold ParOk; omega
  have e1 : wantOf 0 4 5 (-1) 0 0 = 0 := by decide
  have e2 : wantOf 0 5 5 (-1) 0 0 = 1 := by decide
  have e3 : wordOf 3 = ⟨#[115, 116, 111, 112]⟩ := by rfl
  have hb0 := Lib.hid ((Below.refl w.heap.size w).alloc (Nat.le_refl _) (.cells #[.int .i64 0, .int .i64 0, .int .i64 1, .int .i64 5, .int .i64 1, .int .i64 0] 27))
  have hbox := Lib.hid (heap_alloc_new w (.cells #[.int .i64 0, .int .i64 0, .int .i64 1, .int .i64 5, .int .i64 1, .int .i64 0] 27))
  replace hE := Lib.hid (hE.below hb0.out)
  replace hW := Lib.hid (hW.below hb0.out)
  replace hok := Lib.hid hok
  go_enter Tryd.func5, Tryd.ntmps5
  go_wp2_with fail
  refine (new_any 0 0 1 5 1 0 0 (by omega) (by omega) _).mono ?_
  rintro e w1 ⟨rfl, hb1⟩
  have hlt : w.heap.size < w1.heap.size := by have := hb1.size; rw [World.size_alloc] at this; omega
  have hb2 := hb1.alloc (by rw [World.size_alloc]; omega) (.cells #[.int .i64 5, .int .i64 (-1), .int .i64 0, .int .i64 0] 34)
  replace hE := Lib.hid (hE.out.below hb2)
  replace hW := Lib.hid (hW.out.below hb2)
  have hp := Lib.hid ((hb2.block _ (by simp)).trans hbox.out)
  have ht := Lib.hid (heap_alloc_new w1 (.cells #[.int .i64 5, .int .i64 (-1), .int .i64 0, .int .i64 0] 34))
  replace hb0 := Lib.hid (hb0.out.trans (hb2.mono hb0.out.size))
  clear hb1 hb2 hbox
  go_wp2_with (first | (refine wpList_load_row rfl 34 (.tmp 2) rfl w1.heap.size #[.int .i64 5, .int .i64 (-1), .int .i64 0, .int .i64 0] _ rfl ht Tryd.underlying34 rfl (by kernel_rfl) ?_) | (refine wpList_load_row rfl 27 (.tmp 1) rfl w.heap.size #[.int .i64 0, .int .i64 0, .int .i64 1, .int .i64 5, .int .i64 1, .int .i64 0] _ rfl hp Tryd.underlying27 rfl (by kernel_rfl) ?_))
  with_reducible refine (wants_any 0 0 1 5 1 0 4 5 (-1) 0 0 hok.out z _ hE.out).mono ?_
  rintro e w2 ⟨rfl, hb1⟩
  rw [e1]
  replace hE := Lib.hid (hE.out.below hb1)
  replace hW := Lib.hid (hW.out.below hb1)
  replace hp := Lib.hid ((hb1.block _ (by simp; omega)).trans hp.out)
  replace ht := Lib.hid ((hb1.block _ (by simp)).trans ht.out)
  replace hb0 := Lib.hid (hb0.out.trans (hb1.mono hb0.out.size))
  clear hb1
  obtain ⟨c0, c1, c2, c3, c4, c5⟩ := box6 hp.out
  obtain ⟨d0, d1, d2, d3⟩ := box4 ht.out
  go_wp2_with fail
  clear c0 c1 c2 c3 c4 c5 d0 d1 d2 d3
  with_reducible refine (wants_any 0 0 1 5 1 0 5 5 (-1) 0 0 hok.out z _ hE.out).mono ?_
  rintro e w3 ⟨rfl, hb1⟩
  rw [e2]
  replace hW := Lib.hid (hW.out.below hb1)
  replace hb0 := Lib.hid (hb0.out.trans (hb1.mono hb0.out.size))
  clear hb1
  go_wp2_with fail
  with_reducible refine (word_any 3 _ hW.out).mono ?_
  rintro e w4 ⟨rfl, rfl⟩
  rw [e3]
  go_wp2_with fail
  go_ret
  exact ⟨rfl, hb0.out⟩

set_option maxHeartbeats 2000000 in
theorem words_walk (n : Int) (w : World) (_ : (Lit.int .i64 n).wf = true) (z : Nat → Addr) (hE : ParErrs w z) (hW : WordsAt w) : Calls Tryd.prog 3 #[.int .i64 n] w fun e w' => e = .returned (.bool true) ∧ Below w.heap.size w w' := by
  have hcall := Lib.hid (alive26_any z w hE hW)
  replace hW := Lib.hid hW
  rcases (show n < 0 ∨ 3 < n ∨ n = 0 ∨ n = 1 ∨ n = 2 ∨ n = 3 from by omega) with h | h | rfl | rfl | rfl | rfl
  · have e3 : wordOf n = ⟨#[]⟩ := by unfold wordOf; rw [if_neg (by omega), if_neg (by omega), if_neg (by omega), if_neg (by omega)]
    go_enter Tryd.func3, Tryd.ntmps3
    go_wp2_with fail
    with_reducible refine hcall.out.mono ?_
    rintro e w1 ⟨rfl, hb⟩
    replace hW := Lib.hid (hW.out.below hb)
    replace hb := Lib.hid hb
    go_wp2_with fail
    with_reducible refine (word_any n _ hW.out).mono ?_
    rintro e w2 ⟨rfl, rfl⟩
    rw [e3]
    go_wp2_with fail
    go_ret
    exact ⟨rfl, hb.out⟩
  · have e3 : wordOf n = ⟨#[]⟩ := by unfold wordOf; rw [if_neg (by omega), if_neg (by omega), if_neg (by omega), if_neg (by omega)]
    go_enter Tryd.func3, Tryd.ntmps3
    go_wp2_with fail
    with_reducible refine hcall.out.mono ?_
    rintro e w1 ⟨rfl, hb⟩
    replace hW := Lib.hid (hW.out.below hb)
    replace hb := Lib.hid hb
    go_wp2_with fail
    with_reducible refine (word_any n _ hW.out).mono ?_
    rintro e w2 ⟨rfl, rfl⟩
    rw [e3]
    go_wp2_with fail
    go_ret
    exact ⟨rfl, hb.out⟩
  · have e3 : wordOf 0 = ⟨#[110, 111, 116, 104, 105, 110, 103]⟩ := by rfl
    go_enter Tryd.func3, Tryd.ntmps3
    go_wp2_with fail
    with_reducible refine hcall.out.mono ?_
    rintro e w1 ⟨rfl, hb⟩
    replace hW := Lib.hid ((hW.out.below hb).below ((Below.refl _ w1).alloc (Nat.le_refl _) (.cells #[.string ⟨#[110, 111, 116, 104, 105, 110, 103]⟩, .string ⟨#[97, 115, 107]⟩, .string ⟨#[97, 103, 97, 105, 110]⟩, .string ⟨#[115, 116, 111, 112]⟩] 9)))
    replace hb := Lib.hid (hb.alloc hb.size (.cells #[.string ⟨#[110, 111, 116, 104, 105, 110, 103]⟩, .string ⟨#[97, 115, 107]⟩, .string ⟨#[97, 103, 97, 105, 110]⟩, .string ⟨#[115, 116, 111, 112]⟩] 9))
    go_wp2_with fail
    with_reducible refine (word_any 0 _ hW.out).mono ?_
    rintro e w2 ⟨rfl, rfl⟩
    rw [e3]
    go_wp2_with fail
    go_ret
    exact ⟨rfl, hb.out⟩
  · have e3 : wordOf 1 = ⟨#[97, 115, 107]⟩ := by rfl
    go_enter Tryd.func3, Tryd.ntmps3
    go_wp2_with fail
    with_reducible refine hcall.out.mono ?_
    rintro e w1 ⟨rfl, hb⟩
    replace hW := Lib.hid ((hW.out.below hb).below ((Below.refl _ w1).alloc (Nat.le_refl _) (.cells #[.string ⟨#[110, 111, 116, 104, 105, 110, 103]⟩, .string ⟨#[97, 115, 107]⟩, .string ⟨#[97, 103, 97, 105, 110]⟩, .string ⟨#[115, 116, 111, 112]⟩] 9)))
    replace hb := Lib.hid (hb.alloc hb.size (.cells #[.string ⟨#[110, 111, 116, 104, 105, 110, 103]⟩, .string ⟨#[97, 115, 107]⟩, .string ⟨#[97, 103, 97, 105, 110]⟩, .string ⟨#[115, 116, 111, 112]⟩] 9))
    go_wp2_with fail
    with_reducible refine (word_any 1 _ hW.out).mono ?_
    rintro e w2 ⟨rfl, rfl⟩
    rw [e3]
    go_wp2_with fail
    go_ret
    exact ⟨rfl, hb.out⟩
  · have e3 : wordOf 2 = ⟨#[97, 103, 97, 105, 110]⟩ := by rfl
    go_enter Tryd.func3, Tryd.ntmps3
    go_wp2_with fail
    with_reducible refine hcall.out.mono ?_
    rintro e w1 ⟨rfl, hb⟩
    replace hW := Lib.hid ((hW.out.below hb).below ((Below.refl _ w1).alloc (Nat.le_refl _) (.cells #[.string ⟨#[110, 111, 116, 104, 105, 110, 103]⟩, .string ⟨#[97, 115, 107]⟩, .string ⟨#[97, 103, 97, 105, 110]⟩, .string ⟨#[115, 116, 111, 112]⟩] 9)))
    replace hb := Lib.hid (hb.alloc hb.size (.cells #[.string ⟨#[110, 111, 116, 104, 105, 110, 103]⟩, .string ⟨#[97, 115, 107]⟩, .string ⟨#[97, 103, 97, 105, 110]⟩, .string ⟨#[115, 116, 111, 112]⟩] 9))
    go_wp2_with fail
    with_reducible refine (word_any 2 _ hW.out).mono ?_
    rintro e w2 ⟨rfl, rfl⟩
    rw [e3]
    go_wp2_with fail
    go_ret
    exact ⟨rfl, hb.out⟩
  · have e3 : wordOf 3 = ⟨#[115, 116, 111, 112]⟩ := by rfl
    go_enter Tryd.func3, Tryd.ntmps3
    go_wp2_with fail
    with_reducible refine hcall.out.mono ?_
    rintro e w1 ⟨rfl, hb⟩
    replace hW := Lib.hid ((hW.out.below hb).below ((Below.refl _ w1).alloc (Nat.le_refl _) (.cells #[.string ⟨#[110, 111, 116, 104, 105, 110, 103]⟩, .string ⟨#[97, 115, 107]⟩, .string ⟨#[97, 103, 97, 105, 110]⟩, .string ⟨#[115, 116, 111, 112]⟩] 9)))
    replace hb := Lib.hid (hb.alloc hb.size (.cells #[.string ⟨#[110, 111, 116, 104, 105, 110, 103]⟩, .string ⟨#[97, 115, 107]⟩, .string ⟨#[97, 103, 97, 105, 110]⟩, .string ⟨#[115, 116, 111, 112]⟩] 9))
    go_wp2_with fail
    with_reducible refine (word_any 3 _ hW.out).mono ?_
    rintro e w2 ⟨rfl, rfl⟩
    rw [e3]
    go_wp2_with fail
    go_ret
    exact ⟨rfl, hb.out⟩

end Go.Proofs.YtkdkecmldekokaaDoor
