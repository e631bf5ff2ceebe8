/- Walks over params.Plain, Stored, Window, Budget, Bytes, Field; the reference's Stored, Bytes. -/
import Derived.Test.YtebfjpagecakjaaDoorDefault
import Derived.Test.YtebfjpagecakjaaDoorRef15
import Derived.Test.YtebfjpagecakjaaDoorNumW
namespace Go.Proofs.YtebfjpagecakjaaDoor
open Go.RowKit


/-- The three sentinels of params out of the twenty. -/
def pz (ea : Nat → Addr) (j : Nat) : Addr := ea (if j = 0 then 0 else if j = 1 then 7 else 17)
theorem par_of {w : World} {ea : Nat → Addr} (H : Errs 123 errGs w ea) : ParErrs w (pz ea) := by
  refine ⟨fun i hi => ?_, fun i hi => ?_, fun i j hi hj e => ?_⟩
  · rcases (show i = 0 ∨ i = 1 ∨ i = 2 from by simp [parGs] at hi; omega) with rfl | rfl | rfl
    · exact H.var 0 (by decide)
    · exact H.var 7 (by decide)
    · exact H.var 17 (by decide)
  · rcases (show i = 0 ∨ i = 1 ∨ i = 2 from by simp [parGs] at hi; omega) with rfl | rfl | rfl
    · exact H.obj 0 (by decide)
    · exact H.obj 7 (by decide)
    · exact H.obj 17 (by decide)
  · have hi' : i = 0 ∨ i = 1 ∨ i = 2 := by simp [parGs] at hi; omega
    have hj' : j = 0 ∨ j = 1 ∨ j = 2 := by simp [parGs] at hj; omega
    have := H.inj (if i = 0 then 0 else if i = 1 then 7 else 17) (if j = 0 then 0 else if j = 1 then 7 else 17) (by show _ < 20; split <;> (try split) <;> omega) (by show _ < 20; split <;> (try split) <;> omega) e
    rcases hi' with rfl | rfl | rfl <;> rcases hj' with rfl | rfl | rfl <;> simp_all

theorem badAt_ok {s n k d t r : Int} (h : badAt s n k d t r = none) : ParOk s n k d t r := by
  rcases badAt_cases s n k d t r with ⟨_, h'⟩ | ⟨_, _, h'⟩ | ⟨_, _, _, h'⟩ | ⟨_, _, _, _, h'⟩ | ⟨_, _, _, _, _, h'⟩ | ⟨_, _, _, _, _, _, h'⟩ | ⟨h1, h2, h3, h4, h5, h6, _⟩
  all_goals first | (rw [h] at h'; cases h') | exact ⟨h1, h2, h3, h4, h5, h6⟩
theorem badAt_lt {s n k d t r V : Int} {F : ByteArray} {i : Nat} (h : badAt s n k d t r = some (F, V, i)) : i < 20 := by
  rcases badAt_cases s n k d t r with ⟨_, h'⟩ | ⟨_, _, h'⟩ | ⟨_, _, _, h'⟩ | ⟨_, _, _, _, h'⟩ | ⟨_, _, _, _, _, h'⟩ | ⟨_, _, _, _, _, _, h'⟩ | ⟨h1, h2, h3, h4, h5, h6, h'⟩
  all_goals (rw [h] at h'; first | (cases h'; omega) | cases h')

/-- Check of wrong parameters. -/
theorem check_wrong (s n k d t r : Int) (F : ByteArray) (V : Int) (i : Nat) (h : badAt s n k d t r = some (F, V, i)) (hn : -9223372036854775808 ≤ n ∧ n ≤ 9223372036854775807) (ea : Nat → Addr) (w : World) (H : Errs 123 errGs w ea) :
    Calls Tryd.prog 9 #[.agg #[.int .i64 s, .int .i64 n, .int .i64 k, .int .i64 d, .int .i64 t, .int .i64 r]] w fun e w' => ∃ g, e = .returned (.iface 56 (.pointer (some ⟨g, 0, none⟩))) ∧ w.heap.size ≤ g ∧ w'.heap[g]? = some (.cells #[.string F, .int .i64 V, .iface 123 (.pointer (some (ea i)))] 59 (0, 0)) ∧ Below w.heap.size w w' := by
  have hE := par_of H
  have fin : ∀ F' V' i', (Calls Tryd.prog 9 #[parV s n k d t r] w fun e w' => ∃ v, e = .returned v ∧ WrongV w.heap.size w' v F' V' (ea i') ∧ Below w.heap.size w w') → badAt s n k d t r = some (F', V', i') → Calls Tryd.prog 9 #[.agg #[.int .i64 s, .int .i64 n, .int .i64 k, .int .i64 d, .int .i64 t, .int .i64 r]] w fun e w' => ∃ g, e = .returned (.iface 56 (.pointer (some ⟨g, 0, none⟩))) ∧ w.heap.size ≤ g ∧ w'.heap[g]? = some (.cells #[.string F, .int .i64 V, .iface 123 (.pointer (some (ea i)))] 59 (0, 0)) ∧ Below w.heap.size w w' := by
    intro F' V' i' hc h'
    rw [h] at h'
    cases h'
    refine Calls.mono hc ?_
    rintro e w' ⟨v, rfl, ⟨g, rfl, h1, h2⟩, hb⟩
    exact ⟨g, rfl, h1, h2, hb⟩
  rcases badAt_cases s n k d t r with ⟨h1, h'⟩ | ⟨h1, h2, h'⟩ | ⟨h1, h2, h3, h'⟩ | ⟨h1, h2, h3, h4, h'⟩ | ⟨h1, h2, h3, h4, h5, h'⟩ | ⟨h1, h2, h3, h4, h5, h6, h'⟩ | ⟨h1, h2, h3, h4, h5, h6, h'⟩
  · exact fin _ _ _ (check_bad0 s n k d t r h1 (pz ea) w hE hn) h'
  · exact fin _ _ _ (check_bad1 s n k d t r h1 h2 (pz ea) w hE) h'
  · exact fin _ _ _ (check_bad2 s n k d t r h1 h2 h3 (pz ea) w hE) h'
  · exact fin _ _ _ (check_bad3 s n k d t r h1 h2 h3 h4 (pz ea) w hE) h'
  · exact fin _ _ _ (check_bad4 s n k d t r h1 h2 h3 h4 h5 (pz ea) w hE) h'
  · exact fin _ _ _ (check_bad5 s n k d t r h1 h2 h3 h4 h5 h6 (pz ea) w hE) h'
  · rw [h] at h'; cases h'

/-- What is told of an answer that is a wrong field's error. -/
def WrongAns (base : Nat) (w : World) (F : ByteArray) (V : Int) (x : Addr) (g : Nat) : Prop := base ≤ g ∧ w.heap[g]? = some (.cells #[.string F, .int .i64 V, .iface 123 (.pointer (some x))] 59 (0, 0))
theorem WrongAns.below {base : Nat} {w w' : World} {F : ByteArray} {V : Int} {x : Addr} {g : Nat} (h : WrongAns base w F V x g) (hb : Below w.heap.size w w') : WrongAns base w' F V x g := ⟨h.1, (hb.block g (block_lt h.2)).trans h.2⟩

section
variable (s n k d t r : Int) (F : ByteArray) (V : Int) (i : Nat) (ea : Nat → Addr) (w : World)

set_option maxHeartbeats 1000000 in
theorem plain_wrong (h : badAt s n k d t r = some (F, V, i)) (hn : -9223372036854775808 ≤ n ∧ n ≤ 9223372036854775807) (H : Errs 123 errGs w ea) :
    Calls Tryd.prog 20 #[.agg #[.int .i64 s, .int .i64 n, .int .i64 k, .int .i64 d, .int .i64 t, .int .i64 r]] w fun e w' => ∃ g, e = .returned (.tuple #[.int .i64 0, (.iface 56 (.pointer (some ⟨g, 0, none⟩)))]) ∧ WrongAns w.heap.size w' F V (ea i) g ∧ Below w.heap.size w w' := by
  have hb1 := Lib.hid ((Below.refl w.heap.size w).alloc (Nat.le_refl _) (.cells #[.int .i64 s, .int .i64 n, .int .i64 k, .int .i64 d, .int .i64 t, .int .i64 r] 24))
  have hp := Lib.hid (heap_alloc_new w (.cells #[.int .i64 s, .int .i64 n, .int .i64 k, .int .i64 d, .int .i64 t, .int .i64 r] 24))
  have hcall := Lib.hid (check_wrong s n k d t r F V i h hn ea _ (H.below hb1.out))
  clear h hn
  go_enter Tryd.func20, Tryd.ntmps20
  go_wp2_with (refine wpList_load_row rfl 24 (.tmp 1) rfl w.heap.size #[.int .i64 s, .int .i64 n, .int .i64 k, .int .i64 d, .int .i64 t, .int .i64 r] _ rfl hp Tryd.underlying24 rfl (by kernel_rfl) ?_)
  with_reducible refine hcall.out.mono ?_
  rintro e w1 ⟨g, rfl, hg1, hg2, hb2⟩
  rw [World.size_alloc] at hg1
  replace hb1 := Lib.hid (hb1.out.trans (hb2.mono hb1.out.size))
  clear hb2 hcall
  replace hg2 := Lib.hid hg2
  go_wp2_with fail
  go_ret2
  exact ⟨_, rfl, ⟨by omega, hg2.out⟩, hb1.out⟩

set_option maxHeartbeats 1000000 in
theorem stored_wrong (h : badAt s n k d t r = some (F, V, i)) (hn : -9223372036854775808 ≤ n ∧ n ≤ 9223372036854775807) (H : Errs 123 errGs w ea) :
    Calls Tryd.prog 19 #[.agg #[.int .i64 s, .int .i64 n, .int .i64 k, .int .i64 d, .int .i64 t, .int .i64 r]] w fun e w' => ∃ g, e = .returned (.tuple #[.int .i64 0, (.iface 56 (.pointer (some ⟨g, 0, none⟩)))]) ∧ WrongAns w.heap.size w' F V (ea i) g ∧ Below w.heap.size w w' := by
  have hb1 := Lib.hid ((Below.refl w.heap.size w).alloc (Nat.le_refl _) (.cells #[.int .i64 s, .int .i64 n, .int .i64 k, .int .i64 d, .int .i64 t, .int .i64 r] 24))
  have hp := Lib.hid (heap_alloc_new w (.cells #[.int .i64 s, .int .i64 n, .int .i64 k, .int .i64 d, .int .i64 t, .int .i64 r] 24))
  have hcall := Lib.hid (plain_wrong s n k d t r F V i ea _ h hn (H.below hb1.out))
  clear h hn
  go_enter Tryd.func19, Tryd.ntmps19
  go_wp2_with (refine wpList_load_row rfl 24 (.tmp 1) rfl w.heap.size #[.int .i64 s, .int .i64 n, .int .i64 k, .int .i64 d, .int .i64 t, .int .i64 r] _ rfl hp Tryd.underlying24 rfl (by kernel_rfl) ?_)
  with_reducible refine hcall.out.mono ?_
  rintro e w1 ⟨g, rfl, ⟨hg1, hg2⟩, hb2⟩
  rw [World.size_alloc] at hg1
  replace hb1 := Lib.hid (hb1.out.trans (hb2.mono hb1.out.size))
  clear hb2 hcall
  replace hg2 := Lib.hid hg2
  go_wp2_with fail
  go_ret2
  exact ⟨_, rfl, ⟨by omega, hg2.out⟩, hb1.out⟩

end
end Go.Proofs.YtebfjpagecakjaaDoor
