/- The walk over CodeWords. -/
import Derived.Test.YtenkdikdofhnpaaDoorEncode
import Derived.Test.YtenkdikdofhnpaaDoorRParity
import Derived.Test.YtenkdikdofhnpaaDoorCodeS
import Derived.Test.YtenkdikdofhnpaaDoorAlive3
import Derived.Test.YtenkdikdofhnpaaDoorEnum
namespace Go.Proofs.YtenkdikdofhnpaaDoor
open Go.RowKit

theorem gen_root (j : Nat) (hj : j < 32) : Gf.add (xsum 32 fun i => Gf.mul (cf genP i) (xpow (Gf.gexp j) i)) (xpow (Gf.gexp j) 32) = 0 := by
  have h : (List.range 32).all (fun j => decide (Gf.add (xsum 32 fun i => Gf.mul (cf genP i) (xpow (Gf.gexp j) i)) (xpow (Gf.gexp j) 32) = 0)) = true := by decide +kernel
  rw [List.all_eq_true] at h
  exact of_decide_eq_true (h j (List.mem_range.2 hj))
theorem codeW_zero (bs : List UInt8) (j : Nat) (hj : j < 32) : hv (Gf.gexp j) (codeW bs) = 0 := word_value genP _ (gen_root j hj) bs
theorem quiet_of {l : List UInt8} (h : ∀ j, j < 32 → hv (Gf.gexp j) l = 0) : quiet (synd l) = true := by
  rw [synd_zero h]; unfold quiet; exact beq_self_eq_true _
theorem codeW_right (bs : List UInt8) (h1 : 1 ≤ bs.length) (h2 : bs.length ≤ 223) : rightB (codeW bs) = true := by
  unfold rightB
  rw [quiet_of (codeW_zero bs), decide_eq_true (by rw [codeW_length]; omega)]; rfl
theorem codeW_take (bs : List UInt8) : (codeW bs).take ((codeW bs).length - 32) = bs := by
  rw [codeW_length, Nat.add_sub_cancel]; unfold codeW; exact List.take_left
theorem bytes_add (a b : List UInt8) : ((⟨a.toArray⟩ : ByteArray) ++ ⟨b.toArray⟩) = ⟨(a ++ b).toArray⟩ := by
  apply ByteArray.ext
  simp [ByteArray.data_append]
theorem sizeAt_errs {w : World} {ea : Nat → Addr} (h : Errs 81 errGs w ea) : SizeAt w (ea 7) := h.var 7 (by decide)
theorem argB_none (w : World) : ArgB w none 0 [] := ⟨Nat.le_refl _, Nat.zero_le _, fun _ => rfl, fun i hi => by simp at hi⟩

set_option maxHeartbeats 1000000 in
theorem rparity_size (a : Option Addr) (ca : Nat) (bs : List UInt8) (w : World) (h : ¬ (1 ≤ bs.length ∧ bs.length ≤ 223)) :
    Calls Tryd.prog 23 #[.slice a bs.length ca] w fun e w' => e = .returned (.tuple #[.slice none 0 0, .int .i64 8]) ∧ w = w' := by
  rcases Nat.lt_or_ge bs.length 1 with h1 | h1
  · have h2 : ((bs.length : Int)) < 1 := by omega
    clear h h1
    go_enter Tryd.func23, Tryd.ntmps23
    go_wp2_with fail
    go_ret2
    exact ⟨rfl, rfl⟩
  · have h2 : 223 < ((bs.length : Int)) := by omega
    have h3 : ¬ ((bs.length : Int)) < 1 := by omega
    clear h h1
    go_enter Tryd.func23, Tryd.ntmps23
    go_wp2_with fail
    go_ret2
    exact ⟨rfl, rfl⟩

set_option maxRecDepth 10000 in
set_option maxHeartbeats 8000000 in
theorem words_walk (a : Option Addr) (ca : Nat) (xs : List UInt8) (w : World) (ha : ArgB w a ca xs) (ea : Nat → Addr) (hE : Errs 81 errGs w ea) :
    Calls Tryd.prog 6 #[.slice a xs.length ca] w fun e w' => e = .returned (.bool true) ∧ Below w.heap.size w w' := by
  have hla : xs.length ≤ maxLen := Nat.le_trans ha.len ha.most
  replace ha := Lib.hid ha
  replace hE := Lib.hid hE
  rcases Nat.lt_or_ge 400 xs.length with h1 | h1
  · go_enter Tryd.func6, Tryd.ntmps6
    go_wp2_with fail
    with_reducible refine (alive3_any _).mono ?_
    rintro e w1 ⟨rfl, hb1⟩
    go_wp2_with fail
    go_ret
    exact ⟨rfl, hb1⟩
  go_enter Tryd.func6, Tryd.ntmps6
  go_wp2_with fail
  with_reducible refine (alive3_any _).mono ?_
  rintro e w1 ⟨rfl, hb1⟩
  replace ha := Lib.hid (ha.out.below hb1)
  replace hE := Lib.hid (hE.out.below hb1)
  replace hb1 := Lib.hid hb1
  go_wp2_with fail
  with_reducible refine (bytes_any a ca xs _ ha.out (by omega)).mono ?_
  rintro e w2 ⟨g, hg, rfl, hgl, hM, hb2⟩
  replace ha := Lib.hid (ha.out.below hb2)
  replace hE := Lib.hid (hE.out.below hb2)
  replace hb2 := Lib.hid (hb1.out.trans (hb2.mono hb1.out.size))
  have hin : ArgB w2 (some ⟨g, 0, none⟩) (xs.length + 6) xs := ⟨by omega, by unfold maxLen; omega, (fun e => by cases e), marks_row hM⟩
  replace hin := Lib.hid hin
  replace hM := Lib.hid hM
  clear hb1 hg hgl
  by_cases hs : 1 ≤ xs.length ∧ xs.length ≤ 223
  · have hrp := regOf_length genP xs
    have hcl := codeW_length xs
    have hri := codeW_right xs hs.1 hs.2
    have htk := codeW_take xs
    have hcw : codeW xs = xs ++ regOf genP xs := rfl
    replace hri := Lib.hid hri
    replace htk := Lib.hid htk
    replace hcw := Lib.hid hcw
    replace hcl := Lib.hid hcl
    replace hrp := Lib.hid hrp
    have hpa := fun w h => parity_any (some ⟨g, 0, none⟩) (xs.length + 6) xs w h hs.1 hs.2
    have hea := fun w h => encode_any (some ⟨g, 0, none⟩) (xs.length + 6) xs w h hs.1 hs.2
    have hra := fun w h => rparity_any a ca xs w h hs.1 hs.2
    have hda := fun a c w h => data_any a c (codeW xs) w h (by have := hcl.out; omega)
    rw [htk.out] at hda
    have hria := fun a c w z h1 h2 => right_any a c (codeW xs) w z h1 h2 (by have := hcl.out; omega)
    rw [hri.out] at hria
    replace hpa := Lib.hid hpa
    replace hea := Lib.hid hea
    replace hra := Lib.hid hra
    replace hda := Lib.hid hda
    replace hria := Lib.hid hria
    generalize codeW xs = cw at *
    generalize regOf genP xs = ps at *
    go_wp2_with fail
    with_reducible refine (hpa.out _ hin.out).mono ?_
    rintro e w3 ⟨v, rfl, ho, hd⟩
    obtain ⟨ap, cp, rfl, hP, _⟩ := ho.arg
    replace ha := Lib.hid (ha.out.below hd)
    replace hE := Lib.hid (hE.out.below hd)
    replace hin := Lib.hid (hin.out.below hd)
    replace hM := Lib.hid (hM.out.below hd)
    replace hP := Lib.hid hP
    replace hb2 := Lib.hid (hb2.out.trans (hd.mono hb2.out.size))
    clear hd ho hpa
    go_wp2_with fail
    with_reducible refine (hea.out _ hin.out).mono ?_
    rintro e w4 ⟨v, rfl, ho, hd⟩
    obtain ⟨aw, cwp, rfl, hW, _⟩ := ho.arg
    replace ha := Lib.hid (ha.out.below hd)
    replace hE := Lib.hid (hE.out.below hd)
    replace hin := Lib.hid (hin.out.below hd)
    replace hM := Lib.hid (hM.out.below hd)
    replace hP := Lib.hid (hP.out.below hd)
    replace hW := Lib.hid hW
    replace hb2 := Lib.hid (hb2.out.trans (hd.mono hb2.out.size))
    clear hd ho hea
    go_wp2_with fail
    with_reducible refine (hra.out _ ha.out).mono ?_
    rintro e w5 ⟨aq, cq, rfl, hQ, hd⟩
    replace ha := Lib.hid (ha.out.below hd)
    replace hE := Lib.hid (hE.out.below hd)
    replace hM := Lib.hid (hM.out.below hd)
    replace hP := Lib.hid (hP.out.below hd)
    replace hW := Lib.hid (hW.out.below hd)
    replace hQ := Lib.hid hQ
    replace hb2 := Lib.hid (hb2.out.trans (hd.mono hb2.out.size))
    clear hd hra hin
    go_wp2_with fail
    with_reducible refine (num_nil _).mono ?_
    rintro e w6 ⟨rfl, rfl⟩
    go_wp2_with fail
    with_reducible refine (num_nil _).mono ?_
    rintro e w6 ⟨rfl, rfl⟩
    have c1 := convB hP.out ps.length rfl
    have c2 := convB hQ.out 32 hrp.out
    go_wp2_with fail
    with_reducible refine (kept_any g _ ca xs _ (by omega) hM.out ha.out).mono ?_
    rintro e w7 ⟨rfl, hd⟩
    replace hd := hd.below w5.heap.size
    replace ha := Lib.hid (ha.out.below hd)
    replace hE := Lib.hid (hE.out.below hd)
    replace hW := Lib.hid (hW.out.below hd)
    replace hQ := Lib.hid (hQ.out.below hd)
    replace hb2 := Lib.hid (hb2.out.trans (hd.mono hb2.out.size))
    clear hd c1 c2 hM hP
    go_wp2_with fail
    with_reducible refine (hda.out _ _ _ hW.out).mono ?_
    rintro e w8 ⟨v, rfl, ho, hd⟩
    obtain ⟨ad, cd, rfl, hD, _⟩ := ho.arg
    replace ha := ha.out.below hd
    replace hE := Lib.hid (hE.out.below hd)
    replace hW := hW.out.below hd
    replace hQ := hQ.out.below hd
    replace hb2 := Lib.hid (hb2.out.trans (hd.mono hb2.out.size))
    have c1 := convB hW cw.length rfl
    have c2 := convB ha xs.length rfl
    have c3 := convB hQ 32 hrp.out
    have c4 := convB hD xs.length rfl
    have hsum := bytes_add xs ps
    rw [← hcw.out] at hsum
    have hbig : ¬ 9223372036854775807 < xs.length + ps.length := by have := hrp.out; omega
    replace hW := Lib.hid hW
    clear hd ho hda ha hQ hD
    go_wp2_with fail
    with_reducible refine (hria.out _ _ _ _ (sizeAt_errs hE.out) hW.out).mono ?_
    rintro e w9 ⟨rfl, hd⟩
    replace hb2 := Lib.hid (hb2.out.trans (hd.mono hb2.out.size))
    go_wp2_with fail
    go_ret
    exact ⟨rfl, hb2.out⟩
  · have hz2 := sizeAt_errs hE.out
    have hrs := Lib.hid (rparity_size a ca xs)
    go_wp2_with fail
    with_reducible refine (parity_size _ _ xs _ _ hz2 (by omega) hs).mono ?_
    rintro e w3 ⟨rfl, hd⟩
    replace hd := hd.below w2.heap.size
    replace ha := Lib.hid (ha.out.below hd)
    replace hE := Lib.hid (hE.out.below hd)
    replace hin := Lib.hid (hin.out.below hd)
    replace hM := Lib.hid (hM.out.below hd)
    replace hb2 := Lib.hid (hb2.out.trans (hd.mono hb2.out.size))
    clear hz2 hd
    go_wp2_with fail
    with_reducible refine (encode_size _ _ xs _ _ (sizeAt_errs hE.out) (by omega) hs).mono ?_
    rintro e w4 ⟨rfl, hd⟩
    replace hd := hd.below w3.heap.size
    replace ha := Lib.hid (ha.out.below hd)
    replace hE := Lib.hid (hE.out.below hd)
    replace hin := Lib.hid (hin.out.below hd)
    replace hM := Lib.hid (hM.out.below hd)
    replace hb2 := Lib.hid (hb2.out.trans (hd.mono hb2.out.size))
    clear hd
    go_wp2_with fail
    with_reducible refine (hrs.out _ hs).mono ?_
    rintro e w5 ⟨rfl, rfl⟩
    go_wp2_with fail
    with_reducible refine (num_err 7 (by decide) ea _ hE.out).mono ?_
    rintro e w5 ⟨rfl, hd⟩
    replace ha := Lib.hid (ha.out.below hd)
    replace hE := Lib.hid (hE.out.below hd)
    replace hin := Lib.hid (hin.out.below hd)
    replace hM := Lib.hid (hM.out.below hd)
    replace hb2 := Lib.hid (hb2.out.trans (hd.mono hb2.out.size))
    clear hd
    go_wp2_with fail
    with_reducible refine (num_err 7 (by decide) ea _ hE.out).mono ?_
    rintro e w6 ⟨rfl, hd⟩
    replace ha := Lib.hid (ha.out.below hd)
    replace hE := Lib.hid (hE.out.below hd)
    replace hin := Lib.hid (hin.out.below hd)
    replace hM := Lib.hid (hM.out.below hd)
    replace hb2 := Lib.hid (hb2.out.trans (hd.mono hb2.out.size))
    clear hd
    have hcv := convB (argB_none w6) 0 rfl
    go_wp2_with fail
    with_reducible refine (kept_any g _ ca xs _ (by omega) hM.out ha.out).mono ?_
    rintro e w7 ⟨rfl, hd⟩
    replace hd := hd.below w6.heap.size
    replace hb2 := Lib.hid (hb2.out.trans (hd.mono hb2.out.size))
    go_wp2_with fail
    go_ret
    exact ⟨rfl, hb2.out⟩

end Go.Proofs.YtenkdikdofhnpaaDoor
