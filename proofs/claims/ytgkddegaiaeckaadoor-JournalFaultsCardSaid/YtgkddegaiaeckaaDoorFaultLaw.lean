/- The walk over baileelaw15.JournalFaults. -/
import Derived.Test.YtgkddegaiaeckaaDoorFaultB
namespace Go.Proofs.YtgkddegaiaeckaaDoor
open Go.RowKit

theorem numE (k : Nat) (hk : k < 21) (z : Nat → Addr) (w : World) (H : Errs 161 errGs w z) :
    Calls Tryd.prog 29 #[errE z k] w fun e w' => e = .returned (.int .i64 (k : Int)) ∧ Below w.heap.size w w' := by
  unfold errE
  match k, hk with
  | 0, _ =>
    rw [if_pos rfl]
    refine (num_nil w).mono ?_
    rintro e w' ⟨rfl, rfl⟩
    exact ⟨rfl, Below.refl _ _⟩
  | i + 1, h =>
    rw [if_neg (by omega)]
    exact num_err i (by omega) z w H
theorem fieldE (k : Nat) (z : Nat → Addr) (w : World) (hT : TypeVar w) :
    Calls Tryd.prog 26 #[errE z k] w fun e w' => e = .returned (.tuple #[.string ⟨#[]⟩, .int .i64 0, .bool false]) ∧ Below w.heap.size w w' := by
  unfold errE
  by_cases h : k = 0
  · rw [if_pos h]; exact field_nil w
  · rw [if_neg h]; exact field_miss _ w hT

set_option maxRecDepth 10000 in
set_option maxHeartbeats 4000000 in
theorem faults_walk (F : ByteArray) (V K : Int) (hF63 : F.size ≤ 9223372036854775807) (hV : -9223372036854775808 ≤ V ∧ V ≤ 9223372036854775807) (_hK : -9223372036854775808 ≤ K ∧ K ≤ 9223372036854775807) (z : Nat → Addr) (w : World) (H : Errs 161 errGs w z) (hT : TypeVar w) (hSK : ShaK w) (hSF : ShaF w) (hI : Lib.TabIs Tryd.prog w "internal/strconv.uint64pow10" .u64 Lib.pow10Tab) :
    Calls Tryd.prog 5 #[.string F, .int .i64 V, .int .i64 K] w fun e w' => e = .returned (.bool true) ∧ Below w.heap.size w w' := by
  have hal := Lib.hid (alive19_any w (fun k => match k with | 0 => z 0 | 1 => z 7 | _ => z 13) ⟨H.var 0 (by decide), H.var 7 (by decide), H.var 13 (by decide)⟩ hSK hSF)
  by_cases hbig : 100 < F.size
  · have hd : decide (100 < (F.size : Int)) = true := by simp; omega
    clear hbig
    go_enter Tryd.func5, Tryd.ntmps5
    go_wp2_with fail
    with_reducible refine hal.out.mono ?_
    rintro e w1 ⟨rfl, hb1⟩
    replace hb1 := Lib.hid hb1
    go_wp2_with fail
    go_ret
    exact ⟨rfl, hb1.out⟩
  · have hm : ¬ 100 < (F.size : Int) := by omega
    have hF : F.size ≤ 100 := by omega
    clear hbig
    obtain ⟨x, hx⟩ : ∃ x : Nat, IntKind.u64.wrap K = (x : Int) ∧ x < 18446744073709551616 := by
      rw [IntKind.wrap_u64]
      exact ⟨(K % 18446744073709551616).toNat, by omega, by omega⟩
    obtain ⟨k, hk⟩ : ∃ k : Nat, k = x % 21 := ⟨_, rfl⟩
    have hk21 : k < 21 := by omega
    go_enter Tryd.func5, Tryd.ntmps5
    go_wp2_with fail
    with_reducible refine hal.out.mono ?_
    rintro e w1 ⟨rfl, hnew⟩
    replace H := Lib.hid (H.below hnew)
    replace hT := Lib.hid (hT.below hnew)
    replace hI := Lib.hid (tab10 hI hnew)
    have hb1 := Lib.hid hnew
    clear hnew hal
    go_wp2_with fail
    rw [show (x : Int) % 21 = (k : Int) from by omega]
    clear hx hk
    with_reducible refine (err_any k hk21 z _ H.out).mono ?_
    rintro e w2 ⟨rfl, hnew⟩
    replace H := Lib.hid (H.out.below hnew)
    replace hT := Lib.hid (hT.out.below hnew)
    replace hI := Lib.hid (tab10 hI.out hnew)
    replace hb1 := Lib.hid (hb1.out.trans (hnew.mono hb1.out.size))
    clear hnew
    have hnum := Lib.hid (fun W A => numE k hk21 z W A)
    have hfE := Lib.hid (fun W A => fieldE k z W A)
    have hEr := Lib.hid (fun W A => err_any k hk21 z W A)
    by_cases hk0 : k = 0
    · subst hk0
      rw [show errE z 0 = .nilIface from rfl] at hnum hfE hEr
      rw [show ((0 : Nat) : Int) = 0 from rfl] at hnum hEr
      rw [show errE z 0 = .nilIface from rfl]
      have hnew := (Below.refl w2.heap.size w2).alloc (Nat.le_refl _) (.cells #[.string F, .int .i64 V, .nilIface] 59)
      have hg := Lib.hid (heap_alloc_new w2 (.cells #[.string F, .int .i64 V, .nilIface] 59))
      replace H := Lib.hid (H.out.below hnew)
      replace hT := Lib.hid (hT.out.below hnew)
      replace hI := Lib.hid (tab10 hI.out hnew)
      replace hb1 := Lib.hid (hb1.out.trans (hnew.mono hb1.out.size))
      clear hnew
      go_wp2_with fail
      obtain ⟨b, hbq⟩ : ∃ b, b = w2.heap.size := ⟨_, rfl⟩
      rw [← hbq] at hg
      rw [← hbq]
      generalize (w2.alloc (.cells #[.string F, .int .i64 V, .nilIface] 59)) = w3 at *
      clear hbq
      with_reducible refine (field_hitV b F V _ w3 hT.out hg.out).mono ?_
      rintro e w4 ⟨rfl, hnew⟩
      replace H := Lib.hid (H.out.below hnew)
      replace hT := Lib.hid (hT.out.below hnew)
      replace hI := Lib.hid (tab10 hI.out hnew)
      replace hb1 := Lib.hid (hb1.out.trans (hnew.mono hb1.out.size))
      replace hg := Lib.hid ((hnew.block _ (block_lt hg.out)).trans hg.out)
      clear hnew
      go_wp2_with fail
      with_reducible refine (error_any b F V _ w4 hF hV hI.out hg.out).mono ?_
      rintro e w5 ⟨rfl, hnew⟩
      replace H := Lib.hid (H.out.below hnew)
      replace hT := Lib.hid (hT.out.below hnew)
      replace hI := Lib.hid (tab10 hI.out hnew)
      replace hb1 := Lib.hid (hb1.out.trans (hnew.mono hb1.out.size))
      replace hg := Lib.hid ((hnew.block _ (block_lt hg.out)).trans hg.out)
      clear hnew
      have z1 : ¬ 9223372036854775807 < F.size + 1 := by omega
      have z2 : ¬ 9223372036854775807 < F.size + 1 + (Lib.itoa V).length := by have := itoa_len V hV.1 hV.2; omega
      go_wp2_with fail
      with_reducible refine (figures_any _ V rfl hV.1 hV.2 _).mono ?_
      rintro e w6 ⟨rfl, rfl⟩
      unfold wrongText
      go_wp2_with fail
      with_reducible refine (unwrap_any b F V _ _ hg.out).mono ?_
      rintro e w7 ⟨rfl, rfl⟩
      go_wp2_with fail
      with_reducible refine (hnum.out _ H.out).mono ?_
      rintro e w8 ⟨rfl, hnew⟩
      replace H := Lib.hid (H.out.below hnew)
      replace hT := Lib.hid (hT.out.below hnew)
      replace hI := Lib.hid (tab10 hI.out hnew)
      replace hb1 := Lib.hid (hb1.out.trans (hnew.mono hb1.out.size))
      replace hg := Lib.hid ((hnew.block _ (block_lt hg.out)).trans hg.out)
      clear hnew
      go_wp2_with fail
      have hnew := (Below.refl w8.heap.size w8).alloc (Nat.le_refl _) (.cells #[.string ⟨#[111, 117, 116, 101, 114]⟩, .int .i64 7, .iface 57 (.pointer (some ⟨b, 0, none⟩))] 59)
      have hu := Lib.hid (heap_alloc_new w8 (.cells #[.string ⟨#[111, 117, 116, 101, 114]⟩, .int .i64 7, .iface 57 (.pointer (some ⟨b, 0, none⟩))] 59))
      replace H := Lib.hid (H.out.below hnew)
      replace hT := Lib.hid (hT.out.below hnew)
      replace hI := Lib.hid (tab10 hI.out hnew)
      replace hb1 := Lib.hid (hb1.out.trans (hnew.mono hb1.out.size))
      replace hg := Lib.hid ((hnew.block _ (block_lt hg.out)).trans hg.out)
      clear hnew
      obtain ⟨u, huq⟩ : ∃ u, u = w8.heap.size := ⟨_, rfl⟩
      rw [← huq] at hu
      rw [← huq]
      generalize (w8.alloc (.cells #[.string ⟨#[111, 117, 116, 101, 114]⟩, .int .i64 7, .iface 57 (.pointer (some ⟨b, 0, none⟩))] 59)) = w9 at *
      clear huq
      with_reducible refine (field_hitV u _ _ _ w9 hT.out hu.out).mono ?_
      rintro e w10 ⟨rfl, hnew⟩
      replace H := Lib.hid (H.out.below hnew)
      replace hT := Lib.hid (hT.out.below hnew)
      replace hI := Lib.hid (tab10 hI.out hnew)
      replace hb1 := Lib.hid (hb1.out.trans (hnew.mono hb1.out.size))
      replace hg := Lib.hid ((hnew.block _ (block_lt hg.out)).trans hg.out)
      replace hu := Lib.hid ((hnew.block _ (block_lt hu.out)).trans hu.out)
      clear hnew
      go_wp2_with fail
      with_reducible refine (hEr.out _ H.out).mono ?_
      rintro e w11 ⟨rfl, hnew⟩
      replace H := Lib.hid (H.out.below hnew)
      replace hT := Lib.hid (hT.out.below hnew)
      replace hI := Lib.hid (tab10 hI.out hnew)
      replace hb1 := Lib.hid (hb1.out.trans (hnew.mono hb1.out.size))
      replace hg := Lib.hid ((hnew.block _ (block_lt hg.out)).trans hg.out)
      replace hu := Lib.hid ((hnew.block _ (block_lt hu.out)).trans hu.out)
      clear hnew
      go_wp2_with fail
      with_reducible refine (hfE.out _ hT.out).mono ?_
      rintro e w12 ⟨rfl, hnew⟩
      replace H := Lib.hid (H.out.below hnew)
      replace hT := Lib.hid (hT.out.below hnew)
      replace hI := Lib.hid (tab10 hI.out hnew)
      replace hb1 := Lib.hid (hb1.out.trans (hnew.mono hb1.out.size))
      replace hg := Lib.hid ((hnew.block _ (block_lt hg.out)).trans hg.out)
      replace hu := Lib.hid ((hnew.block _ (block_lt hu.out)).trans hu.out)
      clear hnew
      go_wp2_with fail
      go_ret
      exact ⟨rfl, hb1.out⟩
    · obtain ⟨i, hi⟩ : ∃ i, k = i + 1 := ⟨k - 1, by omega⟩
      have hEi : errE z k = .iface 161 (.pointer (some (z i))) := by
        unfold errE
        rw [if_neg hk0, hi]
        rfl
      have hkn : ((k : Int) == 0) = false := by rw [beq_eq_false_iff_ne]; omega
      clear hk0
      replace hi := Lib.hid hi
      rw [hEi] at hnum hfE hEr
      rw [hEi]
      clear hEi
      have hnew := (Below.refl w2.heap.size w2).alloc (Nat.le_refl _) (.cells #[.string F, .int .i64 V, .iface 161 (.pointer (some (z i)))] 59)
      have hg := Lib.hid (heap_alloc_new w2 (.cells #[.string F, .int .i64 V, .iface 161 (.pointer (some (z i)))] 59))
      replace H := Lib.hid (H.out.below hnew)
      replace hT := Lib.hid (hT.out.below hnew)
      replace hI := Lib.hid (tab10 hI.out hnew)
      replace hb1 := Lib.hid (hb1.out.trans (hnew.mono hb1.out.size))
      clear hnew
      go_wp2_with fail
      obtain ⟨b, hbq⟩ : ∃ b, b = w2.heap.size := ⟨_, rfl⟩
      rw [← hbq] at hg
      rw [← hbq]
      generalize (w2.alloc (.cells #[.string F, .int .i64 V, .iface 161 (.pointer (some (z i)))] 59)) = w3 at *
      clear hbq
      with_reducible refine (field_hitV b F V _ w3 hT.out hg.out).mono ?_
      rintro e w4 ⟨rfl, hnew⟩
      replace H := Lib.hid (H.out.below hnew)
      replace hT := Lib.hid (hT.out.below hnew)
      replace hI := Lib.hid (tab10 hI.out hnew)
      replace hb1 := Lib.hid (hb1.out.trans (hnew.mono hb1.out.size))
      replace hg := Lib.hid ((hnew.block _ (block_lt hg.out)).trans hg.out)
      clear hnew
      go_wp2_with fail
      with_reducible refine (error_any b F V _ w4 hF hV hI.out hg.out).mono ?_
      rintro e w5 ⟨rfl, hnew⟩
      replace H := Lib.hid (H.out.below hnew)
      replace hT := Lib.hid (hT.out.below hnew)
      replace hI := Lib.hid (tab10 hI.out hnew)
      replace hb1 := Lib.hid (hb1.out.trans (hnew.mono hb1.out.size))
      replace hg := Lib.hid ((hnew.block _ (block_lt hg.out)).trans hg.out)
      clear hnew
      have z1 : ¬ 9223372036854775807 < F.size + 1 := by omega
      have z2 : ¬ 9223372036854775807 < F.size + 1 + (Lib.itoa V).length := by have := itoa_len V hV.1 hV.2; omega
      go_wp2_with fail
      with_reducible refine (figures_any _ V rfl hV.1 hV.2 _).mono ?_
      rintro e w6 ⟨rfl, rfl⟩
      unfold wrongText
      go_wp2_with fail
      with_reducible refine (unwrap_any b F V _ _ hg.out).mono ?_
      rintro e w7 ⟨rfl, rfl⟩
      go_wp2_with fail
      with_reducible refine (hnum.out _ H.out).mono ?_
      rintro e w8 ⟨rfl, hnew⟩
      replace H := Lib.hid (H.out.below hnew)
      replace hT := Lib.hid (hT.out.below hnew)
      replace hI := Lib.hid (tab10 hI.out hnew)
      replace hb1 := Lib.hid (hb1.out.trans (hnew.mono hb1.out.size))
      replace hg := Lib.hid ((hnew.block _ (block_lt hg.out)).trans hg.out)
      clear hnew
      go_wp2_with fail
      have hnew := (Below.refl w8.heap.size w8).alloc (Nat.le_refl _) (.cells #[.string ⟨#[111, 117, 116, 101, 114]⟩, .int .i64 7, .iface 57 (.pointer (some ⟨b, 0, none⟩))] 59)
      have hu := Lib.hid (heap_alloc_new w8 (.cells #[.string ⟨#[111, 117, 116, 101, 114]⟩, .int .i64 7, .iface 57 (.pointer (some ⟨b, 0, none⟩))] 59))
      replace H := Lib.hid (H.out.below hnew)
      replace hT := Lib.hid (hT.out.below hnew)
      replace hI := Lib.hid (tab10 hI.out hnew)
      replace hb1 := Lib.hid (hb1.out.trans (hnew.mono hb1.out.size))
      replace hg := Lib.hid ((hnew.block _ (block_lt hg.out)).trans hg.out)
      clear hnew
      obtain ⟨u, huq⟩ : ∃ u, u = w8.heap.size := ⟨_, rfl⟩
      rw [← huq] at hu
      rw [← huq]
      generalize (w8.alloc (.cells #[.string ⟨#[111, 117, 116, 101, 114]⟩, .int .i64 7, .iface 57 (.pointer (some ⟨b, 0, none⟩))] 59)) = w9 at *
      clear huq
      with_reducible refine (field_hitV u _ _ _ w9 hT.out hu.out).mono ?_
      rintro e w10 ⟨rfl, hnew⟩
      replace H := Lib.hid (H.out.below hnew)
      replace hT := Lib.hid (hT.out.below hnew)
      replace hI := Lib.hid (tab10 hI.out hnew)
      replace hb1 := Lib.hid (hb1.out.trans (hnew.mono hb1.out.size))
      replace hg := Lib.hid ((hnew.block _ (block_lt hg.out)).trans hg.out)
      replace hu := Lib.hid ((hnew.block _ (block_lt hu.out)).trans hu.out)
      clear hnew
      go_wp2_with fail
      with_reducible refine (hEr.out _ H.out).mono ?_
      rintro e w11 ⟨rfl, hnew⟩
      replace H := Lib.hid (H.out.below hnew)
      replace hT := Lib.hid (hT.out.below hnew)
      replace hI := Lib.hid (tab10 hI.out hnew)
      replace hb1 := Lib.hid (hb1.out.trans (hnew.mono hb1.out.size))
      replace hg := Lib.hid ((hnew.block _ (block_lt hg.out)).trans hg.out)
      replace hu := Lib.hid ((hnew.block _ (block_lt hu.out)).trans hu.out)
      clear hnew
      go_wp2_with fail
      with_reducible refine (hfE.out _ hT.out).mono ?_
      rintro e w12 ⟨rfl, hnew⟩
      replace H := Lib.hid (H.out.below hnew)
      replace hT := Lib.hid (hT.out.below hnew)
      replace hI := Lib.hid (tab10 hI.out hnew)
      replace hb1 := Lib.hid (hb1.out.trans (hnew.mono hb1.out.size))
      replace hg := Lib.hid ((hnew.block _ (block_lt hg.out)).trans hg.out)
      replace hu := Lib.hid ((hnew.block _ (block_lt hu.out)).trans hu.out)
      clear hnew
      go_wp2_with fail
      with_reducible refine (num_wrap2 u _ _ b F V i (by have := hi.out; omega) z _ H.out hg.out hu.out).mono ?_
      rintro e w13 ⟨rfl, hnew⟩
      rw [← hi.out]
      replace H := Lib.hid (H.out.below hnew)
      replace hT := Lib.hid (hT.out.below hnew)
      replace hI := Lib.hid (tab10 hI.out hnew)
      replace hb1 := Lib.hid (hb1.out.trans (hnew.mono hb1.out.size))
      clear hnew
      go_wp2_with fail
      go_ret
      exact ⟨rfl, hb1.out⟩

/-- The law, as its frame asks for it. -/
theorem faults_law (F : ByteArray) (V K : Int) (w : World) (hF : F.size ≤ 9223372036854775807) (hV : (Lit.int IntKind.i64 V).wf = true) (hK : (Lit.int IntKind.i64 K).wf = true)
    (z : Nat → Addr) (H : Errs 161 errGs w z) (hT : TypeVar w) (hSK : ShaK w) (hSF : ShaF w) (hI : Lib.TabIs Tryd.prog w "internal/strconv.uint64pow10" .u64 Lib.pow10Tab) :
    Calls Tryd.prog 5 #[.string F, .int .i64 V, .int .i64 K] w fun e w' => e = .returned (.bool true) ∧ Below w.heap.size w w' := by
  have hv : -9223372036854775808 ≤ V ∧ V ≤ 9223372036854775807 := by simpa [Lit.wf, IntKind.min, IntKind.max, IntKind.signed, IntKind.bits] using hV
  have hk : -9223372036854775808 ≤ K ∧ K ≤ 9223372036854775807 := by simpa [Lit.wf, IntKind.min, IntKind.max, IntKind.signed, IntKind.bits] using hK
  exact faults_walk F V K hF hv hk z w H hT hSK hSF hI

end Go.Proofs.YtgkddegaiaeckaaDoor
