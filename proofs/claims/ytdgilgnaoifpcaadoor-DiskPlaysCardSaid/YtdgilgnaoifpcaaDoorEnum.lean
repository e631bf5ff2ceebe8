/- Walks over package baileenum: Bytes, Kept. -/
import Derived.Test.YtdgilgnaoifpcaaDoorRows
import Derived.Test.YtdgilgnaoifpcaaDoorMem
import Derived.Outline
namespace Go.Proofs.YtdgilgnaoifpcaaDoor
open Go.RowKit

theorem Tryd.infoByte : (Tryd.prog.info? 5).map (fun i => (i.zero, i.size, i.bytes)) = some (some (.int .u8 0), 1, 1) := by kernel_rfl
def marksB : List UInt8 := [201, 202, 203, 204, 205, 206]

set_option maxHeartbeats 1000000 in
theorem bytes_any (a : Option Addr) (cap : Nat) (bs : List UInt8) (w : World) (h : ArgB w a cap bs) (hr : bs.length ≤ 1000000) :
    Calls Tryd.prog 26 #[.slice a bs.length cap] w fun e w' => ∃ g, w.heap.size ≤ g ∧ e = .returned (.slice (some ⟨g, 0, none⟩) bs.length (bs.length + 6)) ∧ g < w'.heap.size ∧
      At w' (some ⟨g, 0, none⟩) (cB (bs ++ marksB)) ∧ Below w.heap.size w w' := by
  obtain ⟨i0, hi, hz0, hz1, hz2⟩ := info_parts Tryd.infoByte
  have h := Lib.hid h
  go_enter Tryd.func26, Tryd.ntmps26
  go_wp2_with (at_make; go_must (refine wpList_make_own _ rfl _ _ 36 rfl w.heap.size 5 i0 (.int .u8 0) 1 Tryd.underlying36 hi hz0 hz1 _ _ _ (bs.length + 6) rfl rfl (by simp) (by rw [hz2]; omega) (by unfold maxLen; omega) (Nat.le_refl _) ?_))
  intro w1 hown1 hg1
  replace hown1 := Lib.hid hown1
  have hb1 : Below w.heap.size w w1 := (Below.refl _ _).grown hg1 (Nat.le_refl _) (fun k hk => by cases hk)
  replace hb1 := Lib.hid hb1
  clear hg1
  have hsrc := Lib.hid ((At.ofB h.out.row).below hb1.out)
  have hnil := Lib.hid h.out.nil
  have hlen := Lib.hid (cB_length bs)
  go_wp2_with (at_builtin; go_must (refine wpList_fits rfl (.tmp 7) (.tmp 8) 36 rfl w.heap.size 5 i0 Tryd.underlying36 hi hz1 w.heap.size 0 (bs.length + 6) [] rfl hown1 _ bs.length cap (cB bs) rfl hlen hsrc hnil (cB_one bs) (by omega) ?_))
  intro w2 hown2 hg2
  have hb2 := Lib.hid (hb1.out.grown hg2.out (by have := hb1.out.size; omega) (fun k hk => by cases hk; exact Nat.le_refl _))
  clear hsrc hown1 hg2
  have hsrc2 : At (w2.alloc (.cells #[.int .u8 201, .int .u8 202, .int .u8 203, .int .u8 204, .int .u8 205, .int .u8 206] 5)) (some ⟨w2.heap.size, 0, none⟩) (cB marksB) := by
    intro i hi
    refine ⟨w2.heap.size, 0, rfl, ?_⟩
    rw [cell_of_block (heap_alloc_new w2 _)]
    match i, hi with
    | 0, _ => rfl
    | 1, _ => rfl
    | 2, _ => rfl
    | 3, _ => rfl
    | 4, _ => rfl
    | 5, _ => rfl
    | i + 6, hi => simp [cB, marksB] at hi; omega
  replace hsrc2 := Lib.hid hsrc2
  have hown3 := Lib.hid (World.ownsRow.alloc hown2.out (.cells #[.int .u8 201, .int .u8 202, .int .u8 203, .int .u8 204, .int .u8 205, .int .u8 206] 5))
  have hlen2 := Lib.hid (show (cB marksB).length = 6 from rfl)
  have hnil2 := Lib.hid (show ((some ⟨w2.heap.size, 0, none⟩ : Option Addr) = none → 6 = 0) from fun e => by cases e)
  have hb3 := Lib.hid (hb2.out.alloc hb2.out.size (.cells #[.int .u8 201, .int .u8 202, .int .u8 203, .int .u8 204, .int .u8 205, .int .u8 206] 5))
  clear hown2 hb1 hb2 hnil hlen
  go_wp2_with (at_builtin; go_must (refine wpList_fits rfl (.tmp 9) (.tmp 10) 36 rfl w.heap.size 5 i0 Tryd.underlying36 hi hz1 w.heap.size bs.length (bs.length + 6) (cB bs) rfl hown3 _ 6 6 (cB marksB) rfl hlen2 hsrc2 hnil2 (cB_one _) (by omega) ?_))
  intro w4 hown4 hg4
  have hb4 := Lib.hid (hb3.out.grown hg4.out hb3.out.size (fun k hk => by cases hk; exact Nat.le_refl _))
  clear hsrc2 hown3 hg4 hb3
  have hlt : w.heap.size < w4.heap.size := (World.ownsRow.lt hown4.out _ rfl).2
  go_wp2_with fail
  go_ret
  refine ⟨w.heap.size, Nat.le_refl _, rfl, hlt, ?_, hb4.out⟩
  rw [cB_append]
  exact owns_at hown4.out

theorem marks_row {w : World} {a : Option Addr} {bs : List UInt8} (h : At w a (cB (bs ++ marksB))) : RowB w a bs := by
  apply At.toB
  have h1 := h.take bs.length
  rw [cB_append, show (cB bs ++ cB marksB).take bs.length = cB bs from by rw [← cB_length bs]; simp] at h1
  exact h1

set_option maxHeartbeats 1000000 in
theorem kept_any (g : Nat) (a : Option Addr) (cap : Nat) (bs : List UInt8) (w : World) (hr : bs.length ≤ 1000000) (hg : At w (some ⟨g, 0, none⟩) (cB (bs ++ marksB))) (h : ArgB w a cap bs) :
    Calls Tryd.prog 28 #[.slice (some ⟨g, 0, none⟩) bs.length (bs.length + 6), .slice a bs.length cap] w fun e w' => e = .returned (.bool true) ∧ Drawn w w' := by
  have hrow : RowB w (some ⟨g, 0, none⟩) bs := marks_row hg
  have k1 := conv_str (P := Tryd.prog) (src := 36) (dst := 9) (c := bs.length + 6) bs Tryd.underlying36 Tryd.underlying5 Tryd.underlying9 hrow
  have k2 := conv_str (P := Tryd.prog) (src := 36) (dst := 9) (c := cap) bs Tryd.underlying36 Tryd.underlying5 Tryd.underlying9 h.row
  have hd : decide (bs.length + 6 < bs.length + 6) = false := by simp
  have hd' : decide ((bs.length : Int) + 6 < bs.length + 6) = false := by simp
  go_enter Tryd.func28, Tryd.ntmps28
  go_wp2_with fail
  have hs := IntWalk.i64_in ((bs.length : Int) + 6) (by omega)
  have hs2 : 0 ≤ (bs.length : Int) + 6 := by omega
  have k1' := conv_str (P := Tryd.prog) (w := w.drew) (src := 36) (dst := 9) (c := bs.length + 6) bs Tryd.underlying36 Tryd.underlying5 Tryd.underlying9 hrow
  have k2' := conv_str (P := Tryd.prog) (w := w.drew) (src := 36) (dst := 9) (c := cap) bs Tryd.underlying36 Tryd.underlying5 Tryd.underlying9 h.row
  replace hg := Lib.hid hg
  clear h hrow
  go_region
  go_wp2_with fail
  clear k1 k2 k1' k2' hs
  go_loop [6] (fun j => ∃ m : Nat, m ≤ 6 ∧ j = .int .i64 m) (fun j => 6 - (intOf j).toNat)
  case atStart => exact ⟨0, Nat.zero_le _, rfl⟩
  case round =>
    obtain ⟨m, hm, rfl⟩ := hrel
    by_cases hlt : m < 6
    · have hc : w.cell? ⟨g, bs.length + m, none⟩ = some (.int .u8 (201 + (m : Int))) := by
        obtain ⟨b, off, e, hc⟩ := hg.out (bs.length + m) (by rw [cB_length]; simp [marksB]; omega)
        cases e
        rw [Nat.zero_add] at hc
        rw [hc, cB_append, List.getElem?_append_right (by rw [cB_length]; omega), cB_length, show bs.length + m - bs.length = m from by omega]
        match m, hlt with
        | 0, _ => rfl
        | 1, _ => rfl
        | 2, _ => rfl
        | 3, _ => rfl
        | 4, _ => rfl
        | 5, _ => rfl
      go_wp2_with fail
      exact ⟨⟨m + 1, by omega, by go_num⟩, by simp [intOf]; omega⟩
    · go_wp2_with fail
      go_ret
      exact ⟨rfl, ⟨1, rfl⟩⟩

end Go.Proofs.YtdgilgnaoifpcaaDoor
