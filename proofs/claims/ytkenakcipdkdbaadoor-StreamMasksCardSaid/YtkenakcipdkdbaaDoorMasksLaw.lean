/- The walk over baileelaw10.StreamMasks: for whatever arguments it returns true and leaves what was there as it was. -/
import Derived.Test.YtkenakcipdkdbaaDoorTwiceLaw
namespace Go.Proofs.YtkenakcipdkdbaaDoor
open Go.RowKit

set_option maxRecDepth 10000 in
set_option maxHeartbeats 8000000 in
theorem masks_walk (a1 : Option Addr) (c1 : Nat) (key : List UInt8) (n : Int) (a2 : Option Addr) (c2 : Nat) (ps : List (List UInt8)) (z : Nat → Addr) (w : World) (h1 : ArgB w a1 c1 key) (h2 : ArgBB w a2 c2 ps) (hW : StrW z w) :
    Calls Tryd.prog 4 #[.slice a1 key.length c1, .int .i64 n, .slice a2 ps.length c2] w fun e w' => e = .returned (.bool true) ∧ Below w.heap.size w w' := by
  have hal := Lib.hid (alive10_any w hW.K hW.F)
  have hx1 : key.length ≤ 9223372036854775807 := by have := h1.len; have := h1.most; unfold maxLen at *; omega
  have hx2 : ps.length ≤ 9223372036854775807 := by have := h2.len; have := h2.most; unfold maxLen at *; omega
  by_cases hbig : 200 < key.length ∨ 20 < ps.length
  · have hd : ∃ b1 b2 : Bool, decide (200 < (key.length : Int)) = b1 ∧ decide (20 < (ps.length : Int)) = b2 ∧ (b1 || b2) = true := by
      refine ⟨_, _, rfl, rfl, ?_⟩
      simp only [Bool.or_eq_true, decide_eq_true_eq]
      omega
    obtain ⟨b1, b2, e1, e2, e4⟩ := hd
    cases b1 <;> cases b2 <;> simp at e4
    all_goals
      go_enter Tryd.func4, Tryd.ntmps4
      go_wp2_with fail
      with_reducible refine hal.out.mono ?_
      rintro e w1 ⟨rfl, hb1⟩
      replace hb1 := Lib.hid hb1
      go_wp2_with fail
      go_ret
      exact ⟨rfl, hb1.out⟩
  · have hk : ¬ 200 < (key.length : Int) := by omega
    have hm : ¬ 20 < (ps.length : Int) := by omega
    have hk2 : key.length ≤ 200 := by omega
    have hm2 : ps.length ≤ 20 := by omega
    clear hbig
    go_enter Tryd.func4, Tryd.ntmps4
    go_wp2_with fail
    with_reducible refine hal.out.mono ?_
    rintro e w1 ⟨rfl, hb1⟩
    replace h1 := Lib.hid (h1.below hb1); replace h2 := Lib.hid (h2.below hb1); replace hW := Lib.hid (hW.below hb1)
    replace hb1 := Lib.hid hb1
    clear hal
    have hown0 := Lib.hid (OwnBB.made0 w1 w1.heap.size (Nat.le_refl _))
    have hb0 := Lib.hid ((Below.refl w1.heap.size w1).alloc (Nat.le_refl _) (.cells #[] 22))
    go_wp2_with fail
    go_loopw [7, 8, 9, 10, 11, 12, 13, 29] (fun v b _ _ _ _ _ j wr => ∃ i : Nat, i ≤ ps.length ∧ j = .int .i64 i ∧ b = .int .i64 (sB n ps i) ∧ OwnBB w1.heap.size wr v (sW key n ps i) ∧ (sW key n ps i).length ≤ i ∧ Below w1.heap.size w1 wr)
      (fun _ _ _ _ _ _ _ j _ => ps.length - (intOf j).toNat)
    case atStart => exact ⟨0, Nat.zero_le _, rfl, rfl, hown0.out, Nat.zero_le _, hb0.out⟩
    case round =>
      clear hown0 hb0
      obtain ⟨i, hi, rfl, rfl, hO, hlW, hB⟩ := hrel
      by_cases hlt : i < ps.length
      · obtain ⟨g2, o2, rfl, ai, ci, hc, hr⟩ := (h2.out.below hB).row i hlt
        have hli : (i : Int) < ps.length := by omega
        have hh1 := Lib.hid (h1.out.below hB)
        have hWr := Lib.hid (hW.out.below hB)
        have hbr := Lib.hid (hb1.out.trans (hB.mono hb1.out.size))
        have hpx : (ps.getD i []).length ≤ 9223372036854775807 := by have := hr.len; have := hr.most; unfold maxLen at *; omega
        by_cases h40 : 40 < (ps.getD i []).length
        · have h40i : (40 : Int) < ((ps.getD i []).length : Int) := by omega
          replace hr := Lib.hid hr; replace hO := Lib.hid hO; replace hB := Lib.hid hB
          generalize ps.getD i [] = bs at *
          go_wp2_with fail
          go_ret
          exact ⟨rfl, hbr.out⟩
        · have h40i : ¬ (40 : Int) < ((ps.getD i []).length : Int) := by omega
          by_cases hz : sB n ps i = 0
          · have hnB := sB_succ hz
            have hnW := sW_succ (key := key) hz
            obtain ⟨at_, hat⟩ : ∃ x, x = atI n i := ⟨_, rfl⟩
            rw [← hat] at hnB hnW
            have hrm := Lib.hid (rMask_any a1 c1 key at_ ai ci (ps.getD i []) z wr hh1.out (by omega) hr hWr.out)
            have hmx := mX_length key at_ (ps.getD i [])
            have hcase : (0 ≤ n ∧ n ≤ 1099511627776 ∧ at_ = n + (i : Int) ∧ IntKind.i64.wrap (n + (i : Int)) = n + (i : Int)) ∨ (n < 0 ∧ n = at_) ∨ (1099511627776 < n ∧ 0 ≤ n ∧ n = at_) := by
              unfold atI at hat
              cases hcn : cntd n
              · rw [hcn] at hat
                have : ¬ (0 ≤ n ∧ n ≤ 1099511627776) := by simpa [cntd] using hcn
                by_cases hn0 : n < 0
                · exact .inr (.inl ⟨hn0, hat.symm⟩)
                · exact .inr (.inr ⟨by omega, by omega, hat.symm⟩)
              · rw [hcn] at hat
                have hnr : 0 ≤ n ∧ n ≤ 1099511627776 := by simpa [cntd] using hcn
                exact .inl ⟨hnr.1, hnr.2, hat, IntWalk.i64_in (n + (i : Int)) (by omega)⟩
            have hlt2 := hO.lt
            have hOh := Lib.hid hO
            have hbl := Lib.hid hB
            rw [hz]
            clear hO hB hr hat
            replace hnB := Lib.hid hnB; replace hnW := Lib.hid hnW; replace hlt2 := Lib.hid hlt2; replace hz := Lib.hid hz
            rcases hcase with ⟨q1, q2, rfl, hw⟩ | ⟨q1, rfl⟩ | ⟨q1, q2, rfl⟩
            all_goals
              generalize mX key _ (ps.getD i []) = T at *
              generalize mBad _ (ps.getD i []) = mb at *
              generalize ps.getD i [] = bs at *
              go_wp2_with fail
              with_reducible refine hrm.out.mono ?_
              rintro e w5 ⟨v5, rfl, ho5, hb5⟩
              obtain ⟨a5, c5, rfl, h5, hloc⟩ := ho5.arg
              have hne := Lib.hid (show 0 < T.length → ∀ b o, a5 = some ⟨b, o, none⟩ → Value.ownBlock _ ≠ some b from fun _ b o e h => by have h1 := hlt2.out b h; have h2 := hloc b o none e; omega)
              have hO5 := Lib.hid (hOh.out.below hb5)
              have hB5 := Lib.hid (hbl.out.trans (hb5.mono hbl.out.size))
              have hs5 := hB5.out.size
              replace h5 := Lib.hid h5
              clear ho5 hb5 hrm
              go_wp2_with (at_builtin; go_must (refine wpBB_app1 rfl (.tmp 57) (.tmp 59) rfl w1.heap.size _ (sW key n ps i) rfl hO5 a5 c5 T T.length (Lib.hid rfl) h5 hne rfl (by omega) hs5 ?_))
              intro v6 w6 ho6 hg6
              have hB6 := Lib.hid (Below.grown hB5.out hg6.out hs5 (fun k hk => (hO5.out.lt k hk).1))
              rw [← hnW.out] at ho6
              have hl6 := Lib.hid (show (sW key n ps (i + 1)).length ≤ i + 1 from by rw [hnW.out, List.length_append]; simp; omega)
              go_wp2_with fail
              exact ⟨⟨i + 1, by omega, by go_num, by rw [hnB.out], ho6.out, hl6.out, hB6.out⟩, by simp [intOf]; omega⟩
          · have hst := Lib.hid (sB_stay hz 1)
            have hsw : sW key n ps (i + 1) = sW key n ps i := by rw [sW, if_neg hz]
            have ht : (sB n ps i != 0) = true := by simpa using hz
            have ho6 := Lib.hid hO
            have hB6 := Lib.hid hB
            replace hr := Lib.hid hr; replace hz := Lib.hid hz
            clear hO hB
            rw [← hsw] at ho6 hlW
            replace hsw := Lib.hid hsw
            generalize ps.getD i [] = bs at *
            go_wp2_with fail
            exact ⟨⟨i + 1, by omega, by go_num, by rw [hst.out], ho6.out, by omega, hB6.out⟩, by simp [intOf]; omega⟩
      · obtain rfl : i = ps.length := by omega
        replace h1 := Lib.hid (h1.out.below hB); replace h2 := Lib.hid (h2.out.below hB); replace hW := Lib.hid (hW.out.below hB)
        replace hb1 := Lib.hid (hb1.out.trans (hB.mono hb1.out.size))
        have hmk := Lib.hid (masks_any a1 c1 key n a2 c2 ps (z 0) (z 7) wr h1.out (by omega) h2.out (by omega) ⟨hW.out.K, hW.out.F, hW.out.range, hW.out.size⟩)
        have hEn := Lib.hid (fun W A => eOf_num z n ps ps.length W A)
        obtain ⟨aw, cw, rfl, hw⟩ := hO.arg
        have hL : ∃ a c, (if sB n ps ps.length = 0 then Value.slice aw (sW key n ps ps.length).length cw else .slice none 0 0) = .slice a (sL key n ps).length c ∧ ArgBB wr a c (sL key n ps) := by
          unfold sL
          by_cases hz : sB n ps ps.length = 0
          · rw [if_pos hz, if_pos hz]; exact ⟨aw, cw, rfl, hw⟩
          · rw [if_neg hz, if_neg hz]; exact ⟨none, 0, rfl, argBB_nil0 _⟩
        obtain ⟨al, cl, hL1, hL2⟩ := hL
        replace hL2 := Lib.hid hL2
        clear hO hB hw
        by_cases hz : sB n ps ps.length = 0
        all_goals
          first
          | (rw [if_pos hz] at hL1; have hbn : (sB n ps ps.length != 0) = false := by simp [hz])
          | (rw [if_neg hz] at hL1; have hbn : (sB n ps ps.length != 0) = true := by simpa using hz)
          generalize eOf (z 0) (z 7) (sB n ps ps.length) = E at *
          generalize sB n ps ps.length = bd at *
          generalize sL key n ps = L at *
          replace hz := Lib.hid hz
          go_wp2_with fail
          with_reducible refine hmk.out.mono ?_
          rintro e w2 ⟨a3, c3, rfl, h3, hnew⟩
          replace hW := Lib.hid (hW.out.below hnew); replace hL2 := Lib.hid (hL2.out.below hnew)
          replace hb1 := Lib.hid (hb1.out.trans (hnew.mono hb1.out.size))
          replace h3 := Lib.hid h3
          clear hnew hmk
          go_wp2_with fail
          with_reducible refine (hEn.out _ hW.out).mono ?_
          rintro e w4 ⟨rfl, hnew⟩
          replace h3 := Lib.hid (h3.out.below hnew); replace hL2 := Lib.hid (hL2.out.below hnew)
          replace hb1 := Lib.hid (hb1.out.trans (hnew.mono hb1.out.size))
          clear hnew hEn
          go_wp2_with fail
          try rw [hL1]
          with_reducible refine (same_lists a3 c3 al cl L _ h3.out hL2.out).mono ?_
          rintro e w6 ⟨rfl, hnew⟩
          replace hb1 := Lib.hid (hb1.out.trans (hnew.mono hb1.out.size))
          clear hnew
          go_wp2_with fail
          go_ret
          exact ⟨rfl, hb1.out⟩

theorem masks_law (a1 : Option Addr) (c1 : Nat) (key : List UInt8) (n : Int) (a2 : Option Addr) (c2 : Nat) (ps : List (List UInt8)) (w : World) (h1 : ArgB w a1 c1 key) (_ : (Lit.int IntKind.i64 n).wf = true) (h2 : ArgBB w a2 c2 ps)
    (z : Nat → Addr) (er : Errs 108 errGs w z) (hK : ShaK w) (hF : ShaF w) (hRK : RefK w) (hRF : RefF w) :
    Calls Tryd.prog 4 #[.slice a1 key.length c1, .int .i64 n, .slice a2 ps.length c2] w fun e w' => e = .returned (.bool true) ∧ Below w.heap.size w w' :=
  masks_walk a1 c1 key n a2 c2 ps z w h1 h2 ⟨hK, hF, hRK, hRF, er⟩

end Go.Proofs.YtkenakcipdkdbaaDoor
