/- The walk over CodeApart. -/
import Derived.Test.YtenkdikdofhnpaaDoorApartL
import Derived.Test.YtenkdikdofhnpaaDoorAlive3
import Derived.Test.YtenkdikdofhnpaaDoorWordsR
namespace Go.Proofs.YtenkdikdofhnpaaDoor
open Go.RowKit

theorem sizeAt_one {w : World} {ea : Nat → Addr} (h : Errs 81 [0] w ea) : SizeAt w (ea 0) := h.var 0 (by decide)

theorem str_ne {a b : List UInt8} (h : a ≠ b) : ((⟨a.toArray⟩ : ByteArray).toList == (⟨b.toArray⟩ : ByteArray).toList) = false := by
  rw [ByteArray.toList_eq, ByteArray.toList_eq, beq_eq_false_iff_ne]
  simpa using h

/-- Encode of a list that is whatever: an error or a code word. -/
def EncV (w : World) (z : Addr) (bs : List UInt8) (v1 v2 : Value) : Prop :=
  if 1 ≤ bs.length ∧ bs.length ≤ 223 then v2 = .nilIface ∧ ∃ a c, v1 = .slice a (bs.length + 32) c ∧ ArgB w a c (codeW bs)
  else v1 = .slice none 0 0 ∧ v2 = .iface 81 (.pointer (some z))
theorem encode_all (a : Option Addr) (ca : Nat) (bs : List UInt8) (w : World) (z : Addr) (ha : ArgB w a ca bs) (hz : SizeAt w z) (hl : bs.length ≤ 1000000) :
    Calls Tryd.prog 9 #[.slice a bs.length ca] w fun e w' => ∃ v1 v2, e = .returned (.tuple #[v1, v2]) ∧ EncV w' z bs v1 v2 ∧ Below w.heap.size w w' := by
  by_cases h : 1 ≤ bs.length ∧ bs.length ≤ 223
  · refine (encode_any a ca bs w ha h.1 h.2).mono ?_
    rintro e w' ⟨v, rfl, ho, hb⟩
    obtain ⟨a', c', rfl, harg, _⟩ := ho.arg
    refine ⟨_, _, rfl, ?_, hb⟩
    unfold EncV
    rw [if_pos h]
    exact ⟨rfl, a', c', by rw [codeW_length], harg⟩
  · refine (encode_size a ca bs w z hz hl h).mono ?_
    rintro e w' ⟨rfl, hd⟩
    refine ⟨_, _, rfl, ?_, hd.below _⟩
    unfold EncV
    rw [if_neg h]
    exact ⟨rfl, rfl⟩
theorem EncV.below {w w' : World} {z : Addr} {bs : List UInt8} {v1 v2 : Value} (h : EncV w z bs v1 v2) (hb : Below w.heap.size w w') : EncV w' z bs v1 v2 := by
  unfold EncV at h ⊢
  split at h
  · rename_i hc
    rw [if_pos hc]
    obtain ⟨h1, a, c, h2, h3⟩ := h
    exact ⟨h1, a, c, h2, h3.below hb⟩
  · rename_i hc
    rw [if_neg hc]
    exact h

set_option maxRecDepth 10000 in
set_option maxHeartbeats 8000000 in
theorem apart_walk (a : Option Addr) (ca : Nat) (xs : List UInt8) (b : Option Addr) (cb : Nat) (ys : List UInt8) (w : World) (ha : ArgB w a ca xs) (hb : ArgB w b cb ys) (ea : Nat → Addr) (hE : Errs 81 [0] w ea) :
    Calls Tryd.prog 3 #[.slice a xs.length ca, .slice b ys.length cb] w fun e w' => e = .returned (.bool true) ∧ Below w.heap.size w w' := by
  have hla : xs.length ≤ maxLen := Nat.le_trans ha.len ha.most
  have hlb : ys.length ≤ maxLen := Nat.le_trans hb.len hb.most
  replace ha := Lib.hid ha
  replace hb := Lib.hid hb
  replace hE := Lib.hid hE
  rcases Nat.lt_or_ge 300 xs.length with h1 | h1
  · go_enter Tryd.func3, Tryd.ntmps3
    go_wp2_with fail
    with_reducible refine (alive3_any _).mono ?_
    rintro e w1 ⟨rfl, hb1⟩
    go_wp2_with fail
    go_ret
    exact ⟨rfl, hb1⟩
  rcases Nat.lt_or_ge 300 ys.length with h2 | h2
  · go_enter Tryd.func3, Tryd.ntmps3
    go_wp2_with fail
    with_reducible refine (alive3_any _).mono ?_
    rintro e w1 ⟨rfl, hb1⟩
    go_wp2_with fail
    go_ret
    exact ⟨rfl, hb1⟩
  by_cases hl : xs.length = ys.length
  · have hdi := fun w ha hb => differ_any a ca xs b cb ys w ha hb hl (by omega)
    have hee : ((xs.length : Int) == (xs.length : Int)) = true := by simp
    have hne2 : ((xs.length : Int) != (xs.length : Int)) = false := by simp
    have hea := fun w z ha hz => encode_all a ca xs w z ha hz (by omega)
    have heb := fun w z hb hz => encode_all b cb ys w z hb hz (by omega)
    rw [← hl] at heb h2 ⊢
    have hat := fun k (hk : k < xs.length) (h : cf xs k ≠ cf ys k) => diffTo_at hk h
    replace hdi := Lib.hid hdi
    replace hea := Lib.hid hea
    replace heb := Lib.hid heb
    replace hat := Lib.hid hat
    replace hl := Lib.hid hl
    have hend := Lib.hid (show diffTo xs ys xs.length = diffI xs ys from rfl)
    have hDl := Lib.hid (show (diffI xs ys).length ≤ xs.length from diffTo_length xs ys xs.length)
    go_enter Tryd.func3, Tryd.ntmps3
    go_wp2_with fail
    with_reducible refine (alive3_any _).mono ?_
    rintro e w1 ⟨rfl, hb1⟩
    replace ha := Lib.hid (ha.out.below hb1)
    replace hb := Lib.hid (hb.out.below hb1)
    replace hE := Lib.hid (hE.out.below hb1)
    replace hb1 := Lib.hid hb1
    go_wp2_with fail
    with_reducible refine (hdi.out _ ha.out hb.out).mono ?_
    rintro e w2 ⟨v, rfl, ho, hd⟩
    obtain ⟨al, cl, rfl, hL, _⟩ := ho.src
    replace ha := Lib.hid (ha.out.below hd)
    replace hb := Lib.hid (hb.out.below hd)
    replace hE := Lib.hid (hE.out.below hd)
    replace hL := Lib.hid hL
    replace hb1 := Lib.hid (hb1.out.trans (hd.mono hb1.out.size))
    clear hd ho hdi
    go_wp2_with fail
    go_loopw [6, 7, 27] (fun n _ j wr => ∃ k : Nat, k ≤ xs.length ∧ j = .int .i64 k ∧ n = .int .i64 ((diffTo xs ys k).length : Int) ∧ Drawn w2 wr) (fun _ _ j _ => xs.length - (intOf j).toNat)
    case atStart => exact ⟨0, Nat.zero_le _, rfl, rfl, Drawn.refl _⟩
    case round =>
      obtain ⟨k, hk, rfl, rfl, hd⟩ := hrel
      by_cases hlt : k < xs.length
      · obtain ⟨b1, o1, rfl, c1⟩ := (ha.out.below (hd.below _)).row k hlt
        obtain ⟨b2, o2, rfl, c2⟩ := (hb.out.below (hd.below _)).row k (by have := hl.out; omega)
        rw [show xs.getD k 0 = cf xs k from rfl] at c1
        rw [show ys.getD k 0 = cf ys k from rfl] at c2
        have k1 : (k : Int) < (xs.length : Int) := by omega
        have k2 : (0 : Int) ≤ (k : Int) := by omega
        by_cases he : cf xs k = cf ys k
        · have hs := Lib.hid (congrArg List.length (diffTo_same he))
          rw [← he] at c2
          have hq : (((cf xs k).toNat : Int) != ((cf xs k).toNat : Int)) = false := by simp
          generalize cf xs k = x at *
          replace hd := Lib.hid hd
          clear he
          go_wp2_with fail
          go_quiet (fail)
          go_wp2_with fail
          go_roundw
          case rel => exact ⟨k + 1, by omega, by go_num, by rw [hs.out], hd.out.more _⟩
          case measure => simp [intOf]; omega
        · have hs := Lib.hid (diffTo_count_other he)
          obtain ⟨hin, hval⟩ := hat.out k hlt he
          obtain ⟨b3, o3, rfl, c3⟩ := (hL.out.below (hd.below _)).row _ hin
          rw [hval] at c3
          have hq : (((cf xs k).toNat : Int) != ((cf ys k).toNat : Int)) = true := by
            rw [bne_iff_ne]; intro e; exact he (UInt8.toNat_inj.1 (by omega))
          have hkk : ((k : Int) != (k : Int)) = false := by simp
          have n1 : ((diffTo xs ys k).length : Int) < ((diffI xs ys).length : Int) := by omega
          generalize (diffTo xs ys k).length = n at *
          generalize cf xs k = x at *
          generalize cf ys k = y at *
          have n2 : (0 : Int) ≤ (n : Int) := by omega
          have n3 : ¬ ((diffI xs ys).length : Int) ≤ (n : Int) := by omega
          have hdn := Lib.hid (show n ≤ 1000 from by have := hDl.out; omega)
          have hdn0 : (n : Int) ≤ 1000 := by have := hdn.out; omega
          replace he := Lib.hid he
          have c3' := hd.cell ⟨b3, o3 + n, none⟩
          replace hd := Lib.hid hd
          go_wp2_with fail
          go_quiet (fail)
          go_wp2_with fail
          go_roundw
          case rel => exact ⟨k + 1, by omega, by go_num, by have := hdn.out; rw [hs.out]; go_num, hd.out.more _⟩
          case measure => simp [intOf]; omega
      · obtain rfl : k = xs.length := by omega
        rw [hend.out]
        have hd1 := hd.below w2.heap.size
        replace ha := Lib.hid (ha.out.below hd1)
        replace hb := Lib.hid (hb.out.below hd1)
        replace hE := Lib.hid (hE.out.below hd1)
        replace hb1 := Lib.hid (hb1.out.trans (hd1.mono hb1.out.size))
        have hnn : (((diffI xs ys).length : Int) != ((diffI xs ys).length : Int)) = false := by simp
        clear hd hd1
        go_wp2_with fail
        with_reducible refine (hea.out _ (ea 0) ha.out (sizeAt_one hE.out)).mono ?_
        rintro e w3 ⟨v1, v2, rfl, hv, hd⟩
        replace ha := Lib.hid (ha.out.below hd)
        replace hb := Lib.hid (hb.out.below hd)
        replace hE := Lib.hid (hE.out.below hd)
        replace hb1 := Lib.hid (hb1.out.trans (hd.mono hb1.out.size))
        clear hd hea
        go_wp2_with fail
        with_reducible refine (heb.out _ (ea 0) hb.out (sizeAt_one hE.out)).mono ?_
        rintro e w4 ⟨v3, v4, rfl, hv2, hd⟩
        replace ha := Lib.hid (ha.out.below hd)
        replace hb := Lib.hid (hb.out.below hd)
        replace hv := hv.below hd
        replace hb1 := Lib.hid (hb1.out.trans (hd.mono hb1.out.size))
        clear hd hE heb
        by_cases hs : 1 ≤ xs.length ∧ xs.length ≤ 223
        · unfold EncV at hv hv2
          rw [if_pos hs] at hv
          rw [if_pos (by have := hl.out; omega)] at hv2
          obtain ⟨rfl, ax, cx, rfl, hX⟩ := hv
          obtain ⟨rfl, ay, cy, rfl, hY⟩ := hv2
          rw [← hl.out]
          have hXl := codeW_length xs
          have hYl := codeW_length ys
          rw [← hl.out] at hYl
          have c1 := convB ha.out xs.length rfl
          have c2 := convB hb.out xs.length hl.out.symm
          have c3 := convB hX (xs.length + 32) hXl
          have c4 := convB hY (xs.length + 32) hYl
          by_cases hxy : xs = ys
          · subst hxy
            go_wp2_with fail
            go_ret
            exact ⟨rfl, hb1.out⟩
          · have s1 := str_ne hxy
            have s2 := str_ne (codeW_ne hl.out hxy)
            have hbig := codeW_apart xs ys codeW_zero hl.out hs.2 hxy
            have hdi := differ_any ax cx (codeW xs) ay cy (codeW ys) w4 hX hY (by rw [hXl, hYl]) (by rw [hXl]; omega)
            rw [hXl] at hdi
            replace hdi := Lib.hid hdi
            replace hl := Lib.hid hl
            generalize (⟨xs.toArray⟩ : ByteArray) = t1 at *
            generalize (⟨ys.toArray⟩ : ByteArray) = t2 at *
            generalize (⟨(codeW xs).toArray⟩ : ByteArray) = t3 at *
            generalize (⟨(codeW ys).toArray⟩ : ByteArray) = t4 at *
            generalize diffI (codeW xs) (codeW ys) = L2 at *
            clear hX hY hXl hYl hxy hs
            go_wp2_with fail
            with_reducible refine hdi.out.mono ?_
            rintro e w5 ⟨v, rfl, ho, hd⟩
            obtain ⟨a5, c5, rfl, _, _⟩ := ho.src
            have hg5 : (32 : Int) < (L2.length : Int) := by omega
            replace hb1 := Lib.hid (hb1.out.trans (hd.mono hb1.out.size))
            clear ho hd hdi hbig
            go_wp2_with fail
            go_ret
            exact ⟨rfl, hb1.out⟩
        · have hv2e : v2 = .iface 81 (.pointer (some (ea 0))) := by
            unfold EncV at hv; rw [if_neg hs] at hv; exact hv.2
          subst hv2e
          clear hv hv2
          go_wp2_with fail
          go_ret
          exact ⟨rfl, hb1.out⟩
  · have hne : ((xs.length : Int) == (ys.length : Int)) = false := by rw [beq_eq_false_iff_ne]; omega
    have hne2 : ((xs.length : Int) != (ys.length : Int)) = true := by rw [bne_iff_ne]; omega
    have hdo := Lib.hid (differ_other a ca xs b cb ys)
    replace hl := Lib.hid hl
    go_enter Tryd.func3, Tryd.ntmps3
    go_wp2_with fail
    with_reducible refine (alive3_any _).mono ?_
    rintro e w1 ⟨rfl, hb1⟩
    replace ha := Lib.hid (ha.out.below hb1)
    replace hb := Lib.hid (hb.out.below hb1)
    replace hE := Lib.hid (hE.out.below hb1)
    replace hb1 := Lib.hid hb1
    go_wp2_with fail
    with_reducible refine (hdo.out _ hl.out).mono ?_
    rintro e w2 ⟨rfl, rfl⟩
    go_wp2_with fail
    go_loopw [6, 7, 27] (fun n _ j wr => ∃ k : Nat, k ≤ xs.length ∧ j = .int .i64 k ∧ n = .int .i64 0 ∧ Drawn w1 wr) (fun _ _ j _ => xs.length - (intOf j).toNat)
    case atStart => exact ⟨0, Nat.zero_le _, rfl, rfl, Drawn.refl _⟩
    case round =>
      obtain ⟨k, hk, rfl, rfl, hd⟩ := hrel
      replace hd := Lib.hid hd
      by_cases hlt : k < xs.length
      · go_wp2_with fail
        go_quiet (fail)
        go_wp2_with fail
        go_roundw
        case rel => exact ⟨k + 1, by omega, by go_num, rfl, hd.out.more _⟩
        case measure => simp [intOf]; omega
      · have hd1 := hd.out.below w1.heap.size
        replace ha := Lib.hid (ha.out.below hd1)
        replace hb := Lib.hid (hb.out.below hd1)
        replace hE := Lib.hid (hE.out.below hd1)
        replace hb1 := Lib.hid (hb1.out.trans (hd1.mono hb1.out.size))
        clear hd hd1
        go_wp2_with fail
        with_reducible refine (encode_all a ca xs _ (ea 0) ha.out (sizeAt_one hE.out) (by omega)).mono ?_
        rintro e w3 ⟨v1, v2, rfl, hv, hd⟩
        replace hb := Lib.hid (hb.out.below hd)
        replace hE := Lib.hid (hE.out.below hd)
        replace hb1 := Lib.hid (hb1.out.trans (hd.mono hb1.out.size))
        clear hd ha
        go_wp2_with fail
        with_reducible refine (encode_all b cb ys _ (ea 0) hb.out (sizeAt_one hE.out) (by omega)).mono ?_
        rintro e w4 ⟨v3, v4, rfl, hv2, hd⟩
        replace hb1 := Lib.hid (hb1.out.trans (hd.mono hb1.out.size))
        clear hd hE hb
        have hv2' : v2 = .nilIface ∨ v2 = .iface 81 (.pointer (some (ea 0))) := by
          unfold EncV at hv; split at hv
          · exact .inl hv.1
          · exact .inr hv.2
        have hv4' : v4 = .nilIface ∨ v4 = .iface 81 (.pointer (some (ea 0))) := by
          unfold EncV at hv2; split at hv2
          · exact .inl hv2.1
          · exact .inr hv2.2
        clear hv hv2
        rcases hv2' with rfl | rfl
        · rcases hv4' with rfl | rfl
          · go_wp2_with fail
            go_ret
            exact ⟨rfl, hb1.out⟩
          · go_wp2_with fail
            go_ret
            exact ⟨rfl, hb1.out⟩
        · go_wp2_with fail
          go_ret
          exact ⟨rfl, hb1.out⟩

end Go.Proofs.YtenkdikdofhnpaaDoor
