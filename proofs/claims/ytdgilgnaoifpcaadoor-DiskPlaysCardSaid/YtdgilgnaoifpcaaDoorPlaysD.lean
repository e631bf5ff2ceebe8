/- DiskPlays returns true, for all acts. -/
import Derived.Test.YtdgilgnaoifpcaaDoorDoD
import Derived.Test.YtdgilgnaoifpcaaDoorOpenD
import Derived.Test.YtdgilgnaoifpcaaDoorLoopF
import Derived.Test.YtdgilgnaoifpcaaDoorOnL
import Derived.Test.YtdgilgnaoifpcaaDoorOnL
namespace Go.Proofs.YtdgilgnaoifpcaaDoor
open Go.RowKit

theorem RM.monoB {base base' : Nat} {w : World} {R n : Nat} {p : DP} {S : Nat → Prop} (h : RM base w R n p S) (hb : base' ≤ base) : RM base' w R n p S := by
  obtain ⟨va, vw, F, rl, h1, h2, h3⟩ := h
  exact ⟨va, vw, F, rl, ⟨h1.at_, h1.all.mono hb, h1.waits.mono hb, h1.fR, h1.aR, h1.wR, h1.lens, h1.flen, h1.left, h1.range⟩, h2, fun k hk => ⟨Nat.le_trans hb (h3 k hk).1, (h3 k hk).2⟩⟩
theorem convB18 {w : World} {a : Option Addr} {c : Nat} {bs : List UInt8} (h : ArgB w a c bs) (n : Nat) (hn : bs.length = n) : (convert 36 9 (.slice a n c)).run Tryd.prog w = .ok (.string ⟨bs.toArray⟩) w := by
  subst hn
  exact conv_str bs Tryd.underlying36 Tryd.underlying5 Tryd.underlying9 h.row
theorem convN18 (w : World) : (convert 36 9 (.slice none 0 0)).run Tryd.prog w = .ok (.string ⟨#[]⟩) w :=
  convB18 (w := w) (bs := []) ⟨Nat.le_refl _, Nat.zero_le _, fun _ => rfl, fun i hi => absurd hi (Nat.not_lt_zero i)⟩ 0 rfl
/-- What Read answers: the bytes, and the error (1: ErrRange; 3: ErrPower). -/
def rdD (n : Nat) (p : DP) (i : Int) : List UInt8 × Nat := if i < 0 ∨ (n : Int) ≤ i then ([], 1) else if p.gone = true then ([], 3) else (seenW p.ws p.f i, 0)
theorem argB_nil18 (w : World) : ArgB w none 0 [] := ⟨Nat.le_refl _, Nat.zero_le _, fun _ => rfl, fun i hi => absurd hi (Nat.not_lt_zero i)⟩
theorem dread_any18 {base : Nat} {w : World} {B mb mn R n : Nat} {v : Value} {p q : DP} {S : Nat → Prop} (h : Two base w B mb mn v p R n q S) (hpn : p.n = n) (hn : n ≤ 40) (hws : p.ws.length ≤ 100000) (e : Nat → Addr) (hE : DErr w e) (i : Int) :
    Calls Tryd.prog 12 #[.pointer (some ⟨B, 0, none⟩), .int .i64 i] w fun x w' => ∃ a c, x = .returned (.tuple #[.slice a (rdD n p i).1.length c, errV e (rdD n p i).2]) ∧ ArgB w' a c (rdD n p i).1 ∧ Below w.heap.size w w' := by
  have hc : w.cell? ⟨B, 0, none⟩ = some (.int .i64 p.n) := by rw [h.d.cell]; rfl
  unfold rdD
  by_cases h1 : i < 0 ∨ (n : Int) ≤ i
  · rw [if_pos h1]
    refine (dread_no B p.n i (by rw [hpn]; exact h1) w hc e hE).mono ?_
    rintro x w' ⟨rfl, hb⟩
    exact ⟨none, 0, rfl, argB_nil18 _, hb⟩
  · rw [if_neg h1]
    by_cases h2 : p.gone = true
    · rw [if_pos h2]
      refine (dread_gone B p.n i (by omega) (by omega) w hc (by rw [h.d.cell, h2]; rfl) e hE).mono ?_
      rintro x w' ⟨rfl, hb⟩
      exact ⟨none, 0, rfl, argB_nil18 _, hb⟩
    · rw [if_neg h2]
      have h3 : p.gone = false := by simpa using h2
      have hfl : ∀ i, (p.f i).length = 64 := by obtain ⟨_, _, _, hl, _⟩ := h.d.map; exact hl
      have hl : (seenW p.ws p.f i).length = 64 := seenW_len (fun q hq => (h.d.lens q hq).1) hfl
      refine (dread_dm h.d (by omega) hws h3 i (by omega) (by omega)).mono ?_
      rintro x w' ⟨g, off, rfl, hr, _, hb⟩
      exact ⟨some ⟨g, off, none⟩, 64, by rw [hl]; rfl, hr.argB hl, hb⟩
theorem rread_any18 {base : Nat} {w : World} {B mb mn R n : Nat} {v : Value} {p q : DP} {S : Nat → Prop} (h : Two base w B mb mn v q R n p S) (hws : p.ws.length ≤ 100000) (i : Int) :
    Calls Tryd.prog 19 #[.pointer (some ⟨R, 0, none⟩), .int .i64 i] w fun x w' => ∃ a c, x = .returned (.tuple #[.slice a (rdD n p i).1.length c, .int .i64 (numD (rdD n p i).2)]) ∧ ArgB w' a c (rdD n p i).1 ∧ Below w.heap.size w w' := by
  unfold rdD
  by_cases h1 : i < 0 ∨ (n : Int) ≤ i
  · rw [if_pos h1]
    refine (rread_no h.r i h1).mono ?_
    rintro x w' ⟨rfl, rfl⟩
    exact ⟨none, 0, rfl, argB_nil18 _, Below.refl _ _⟩
  · rw [if_neg h1]
    by_cases h2 : p.gone = true
    · rw [if_pos h2]
      refine (rread_gone h.r i (by omega) (by omega) h2).mono ?_
      rintro x w' ⟨rfl, rfl⟩
      exact ⟨none, 0, rfl, argB_nil18 _, Below.refl _ _⟩
    · rw [if_neg h2]
      have h3 : p.gone = false := by simpa using h2
      obtain ⟨j, rfl⟩ : ∃ j : Nat, i = (j : Int) := ⟨i.toNat, by omega⟩
      have hl : (seenW p.ws p.f j).length = 64 := by
        obtain ⟨_, _, _, _, hr, _⟩ := h.r
        exact seenW_len (fun q hq => (hr.lens q hq).1) hr.flen
      refine (rread_yes h.r hws j (by omega) h3).mono ?_
      rintro x w' ⟨a, c, rfl, ha, hb⟩
      exact ⟨a, c, by rw [hl]; rfl, ha, hb⟩
theorem rdD_le (n : Nat) (p : DP) (i : Int) : (rdD n p i).2 ≤ 3 := by
  unfold rdD
  split
  · simp
  · split <;> simp
/-- What is asked of both behind an act. -/
theorem Inv18.asks {base : Nat} {w : World} {B mb R n t : Nat} (h : Inv18 base w B mb R n t) : ∃ (p : DP) (mn : Nat) (v : Value) (S : Nat → Prop), Two base w B mb mn v p R n p S ∧ p.n = n ∧ (mn ≤ 200 * t ∧ p.ws.length ≤ t ∧ -(t : Int) ≤ p.l ∧ p.l ≤ 9223372036854775807) ∧
    w.cell? ⟨B, 0, none⟩ = some (.int .i64 n) ∧ w.cell? ⟨B, 5, none⟩ = some (.bool p.gone) ∧ (∃ aw cw, w.cell? ⟨R, 1, none⟩ = some (.slice aw p.ws.length cw)) ∧ w.cell? ⟨R, 4, none⟩ = some (.bool p.gone) := by
  obtain ⟨p, mn, v, S, hT, hpn, hbn⟩ := h
  refine ⟨p, mn, v, S, hT, hpn, hbn, by rw [hT.d.cell, ← hpn]; rfl, by rw [hT.d.cell]; rfl, ?_, ?_⟩
  · obtain ⟨va, vw, F, rl, hr, _⟩ := hT.r
    obtain ⟨aw, cw, rfl, _⟩ := hr.waits.form
    exact ⟨aw, cw, by rw [hr.c]; rfl⟩
  · obtain ⟨va, vw, F, rl, hr, _⟩ := hT.r
    rw [hr.c]; rfl
/-- The reference's sector, and the row of them. -/
theorem Two.sector {base : Nat} {w : World} {B mb mn R n : Nat} {v : Value} {p q : DP} {S : Nat → Prop} (h : Two base w B mb mn v p R n q S) (i : Nat) (hi : i < n) : ∃ g ca ab cb, w.cell? ⟨R, 0, none⟩ = some (.slice (some ⟨g, 0, none⟩) n ca) ∧ w.cell? ⟨g, i, none⟩ = some (.slice ab 64 cb) ∧ ArgB w ab cb (q.f i) := by
  obtain ⟨va, vw, F, rl, hr, _⟩ := h.r
  obtain ⟨ga, ca, cs, e1, hRB, hrg⟩ := hr.all.elem liesRB i _ (secs_at q.f hi)
  obtain ⟨ab, cb, rfl, harg, _⟩ := hRB
  rw [secs_length] at e1
  subst e1
  refine ⟨ga, ca, ab, cb, by rw [hr.c]; rfl, ?_, harg⟩
  have := hrg 0 _ rfl
  rw [Nat.mul_one, Nat.add_zero, hr.flen] at this
  exact this

set_option maxRecDepth 100000 in
set_option maxHeartbeats 8000000 in
theorem playsD_walk (sectors : Int) (a : Option Addr) (c : Nat) (xs : List ActD) (w : World) (hA : ArgA w a xs) (ea : Nat → Addr) (H : Errs 96 errGs w ea) :
    Calls Tryd.prog 4 #[.int .i64 sectors, .slice a xs.length c] w fun x w' => x = .returned (.bool true) ∧ Below w.heap.size w w' := by
  have hal := Lib.hid (alive18_any w (e18 ea) (dErr_of H))
  obtain ⟨L, hL⟩ : ∃ L, L = xs.length := ⟨_, rfl⟩
  rw [← hL]
  replace hL := Lib.hid hL
  have hEl : 2 < w.heap.size := (dErr_of H).ltP
  have HH : ∀ w', Below w.heap.size w w' → Errs 96 errGs w' ea := fun w' h => H.below h
  replace hA := Lib.hid hA
  replace H := Lib.hid H
  replace HH := Lib.hid HH
  by_cases hlong : 60 < L
  · have hl2 : (60 : Int) < L := by omega
    go_enter Tryd.func4, Tryd.ntmps4
    go_wp2_with fail
    with_reducible refine hal.out.mono ?_
    rintro x w2 ⟨rfl, hb2⟩
    replace hb2 := Lib.hid hb2
    go_wp2_with fail
    go_ret
    exact ⟨rfl, hb2.out⟩
  · have hl2 : ¬ ((60 : Int) < L) := by omega
    by_cases hmid : 40 < sectors ∧ sectors ≤ 2048
    · have hm1 := hmid.1
      have hm2 := hmid.2
      clear hmid
      go_enter Tryd.func4, Tryd.ntmps4
      go_wp2_with fail
      with_reducible refine hal.out.mono ?_
      rintro x w2 ⟨rfl, hb2⟩
      replace hb2 := Lib.hid hb2
      go_wp2_with fail
      go_ret
      exact ⟨rfl, hb2.out⟩
    · by_cases hout : sectors < 1 ∨ 2048 < sectors
      · go_enter Tryd.func4, Tryd.ntmps4
        have hout2 := Lib.hid hout
        replace hmid := Lib.hid hmid
        rcases hout with ho | ho
        · have hm40 : ¬ (40 < sectors) := by omega
          go_wp2_with fail
          with_reducible refine hal.out.mono ?_
          rintro x w2 ⟨rfl, hb2⟩
          have hn := Lib.hid (dnew_no sectors hout2.out w2 (e18 ea) (dErr_of (HH.out _ hb2)))
          replace hb2 := Lib.hid hb2
          go_wp2_with fail
          with_reducible refine hn.out.mono ?_
          rintro x w3 ⟨rfl, hd3⟩
          have hb3 := Lib.hid (hb2.out.trans (hd3.below _))
          have hnu := Lib.hid (num_err 0 (by decide) ea w3 (HH.out _ hb3.out))
          clear hd3
          have he0 : e18 ea 0 = ea 0 := rfl
          rw [he0]
          go_wp2_with fail
          with_reducible refine hnu.out.mono ?_
          rintro x w4 ⟨rfl, hb4⟩
          have hb4 := Lib.hid (hb3.out.trans (hb4.mono hb3.out.size))
          go_wp2_with fail
          go_ret
          exact ⟨rfl, hb4.out⟩
        · have hm40 : 40 < sectors := by omega
          have hm48 : ¬ (sectors ≤ 2048) := by omega
          have hm1 : ¬ (sectors < 1) := by omega
          go_wp2_with fail
          with_reducible refine hal.out.mono ?_
          rintro x w2 ⟨rfl, hb2⟩
          have hn := Lib.hid (dnew_no sectors hout2.out w2 (e18 ea) (dErr_of (HH.out _ hb2)))
          replace hb2 := Lib.hid hb2
          go_wp2_with fail
          with_reducible refine hn.out.mono ?_
          rintro x w3 ⟨rfl, hd3⟩
          have hb3 := Lib.hid (hb2.out.trans (hd3.below _))
          have hnu := Lib.hid (num_err 0 (by decide) ea w3 (HH.out _ hb3.out))
          clear hd3
          have he0 : e18 ea 0 = ea 0 := rfl
          rw [he0]
          go_wp2_with fail
          with_reducible refine hnu.out.mono ?_
          rintro x w4 ⟨rfl, hb4⟩
          have hb4 := Lib.hid (hb3.out.trans (hb4.mono hb3.out.size))
          go_wp2_with fail
          go_ret
          exact ⟨rfl, hb4.out⟩
      · obtain ⟨n, rfl⟩ : ∃ n : Nat, sectors = (n : Int) := ⟨sectors.toNat, by omega⟩
        have hn40 : n ≤ 40 := by omega
        have hn1 : 1 ≤ n := by omega
        have hs1 : ¬ ((n : Int) < 1) := by omega
        have hs2 : ¬ ((2048 : Int) < n) := by omega
        have hs3 : ¬ ((40 : Int) < n) := by omega
        clear hmid hout
        go_enter Tryd.func4, Tryd.ntmps4
        go_wp2_with fail
        with_reducible refine hal.out.mono ?_
        rintro x w2 ⟨rfl, hb2⟩
        clear hal
        have hn := Lib.hid (dnew_yes n (by omega) (by omega) w2)
        have hd := Lib.hid (dm_new n w2 w2.heap.size (Nat.le_refl _))
        have hb3 : Below w2.heap.size w2 ((w2.alloc (.map #[] 0)).alloc (.cells (dcells n w2.heap.size (.slice none 0 0) false 0 false) 59)) := ((Below.refl _ _).alloc (Nat.le_refl _) _).alloc (by simp) _
        have hs3' : ((w2.alloc (.map #[] 0)).alloc (.cells (dcells n w2.heap.size (.slice none 0 0) false 0 false) 59)).heap.size = w2.heap.size + 2 := by simp
        generalize hW3 : (w2.alloc (.map #[] 0)).alloc (.cells (dcells n w2.heap.size (.slice none 0 0) false 0 false) 59) = w3 at *
        have hrn := Lib.hid (rnew_any n (by omega) w3)
        have hsz2 := Lib.hid hb2.size
        replace hb2 := Lib.hid hb2
        replace hb3 := Lib.hid hb3
        replace hW3 := Lib.hid hW3
        replace hs3' := Lib.hid hs3'
        go_wp2_with fail
        with_reducible refine hn.out.mono ?_
        rintro x w4 ⟨rfl, hq⟩
        obtain rfl : w3 = w4 := hq.symm
        clear hq hn hW3
        go_wp2_with fail
        with_reducible refine hrn.out.mono ?_
        rintro x w4 ⟨R, S, rfl, hR4, hb4⟩
        clear hrn
        have hT4 : Two w2.heap.size w4 (w2.heap.size + 1) w2.heap.size 0 (.slice none 0 0) (DP.new n) R n (DP.new n) S := ⟨hd.out.below hb4, hR4.monoB (by have := hs3'.out; omega), fun k hk hS => by
          have h1 := (hd.out.lt k hk).2
          obtain ⟨_, _, _, _, _, _, h6⟩ := hR4
          have := (h6 k hS).1
          omega⟩
        have hI4 : Inv18 w2.heap.size w4 (w2.heap.size + 1) w2.heap.size R n 0 := ⟨_, _, _, _, hT4, rfl, Nat.le_refl _, Nat.le_refl _, by simp [DP.new], by simp [DP.new]⟩
        have hlow4 : Below w2.heap.size w2 w4 := hb3.out.trans (hb4.mono (by have := hs3'.out; omega))
        have hbe : 2 < w2.heap.size := by have := hsz2.out; omega
        have hEE : ∀ w', Below w2.heap.size w2 w' → Errs 96 errGs w' ea := fun w' h => HH.out _ (hb2.out.trans (h.mono hsz2.out))
        have hA2 := hA.out.below hb2.out
        have hs4 := hlow4.size
        replace hA2 := Lib.hid hA2
        replace hEE := Lib.hid hEE
        replace hI4 := Lib.hid hI4
        replace hlow4 := Lib.hid hlow4
        clear hT4 hR4 hb4 hd hb3 hs3' hA H HH
        obtain ⟨BS, hBS⟩ : ∃ b, b = w2.heap.size := ⟨_, rfl⟩
        obtain ⟨B, hB⟩ : ∃ b, b = w2.heap.size + 1 := ⟨_, rfl⟩
        obtain ⟨mb, hmb⟩ : ∃ b, b = w2.heap.size := ⟨_, rfl⟩
        have hI4 : Hid (Inv18 BS w4 B mb R n 0) := Lib.hid (by rw [hBS, hB, hmb]; exact hI4.out)
        have hlow4 : Hid (Below BS w2 w4) := Lib.hid (by rw [hBS]; exact hlow4.out)
        have hEE : Hid (∀ w', Below BS w2 w' → Errs 96 errGs w' ea) := Lib.hid (by rw [hBS]; exact hEE.out)
        have hA2 : Hid (∀ w', Below BS w2 w' → ArgA w' a xs) := Lib.hid (fun w' h => hA2.out.below (hBS ▸ h))
        rw [← hBS] at hbe hs4
        have hfinB : Hid (∀ w', Below BS w2 w' → Below w.heap.size w w') := Lib.hid (fun w' h => hb2.out.trans (Below.mono (hBS ▸ h) hsz2.out))
        rw [show w2.heap.size + 1 = B from hB.symm]
        have hBSw : Hid (BS ≤ w2.heap.size) := Lib.hid (Nat.le_of_eq hBS)
        clear hBS hB hmb hb2 hsz2
        go_wp2_with fail
        refine wp_loopF [(false, 8), (true, 8), (false, 43), (true, 103), (false, 25)] _ [] (fun U wr => ∃ k : Nat, k ≤ L ∧ U 59 = .int .i64 k ∧ Inv18 BS wr B mb R n k ∧ Below BS w2 wr ∧ BS ≤ wr.heap.size) (fun U _ => L - (intOf (U 59)).toNat) ?_ ?_
        · simp only [List.getD_cons_zero, List.getD_cons_succ]
          exact ⟨0, Nat.zero_le _, rfl, hI4.out, hlow4.out, by omega⟩
        · clear hI4 hlow4 hs4
          intro U wr hrel KK hback l' hl'
          obtain ⟨k, hkl, h59, hI, hlow, hsz⟩ := hrel
          simp only [fillS, popSeg, cond_true, cond_false, Nat.reduceAdd, h59] at hl'
          subst hl'
          replace h59 := Lib.hid h59
          by_cases hlt : k < L
          · have hlt2 : (k : Int) < L := by omega
            obtain ⟨b, o, rfl, hat⟩ := (hA2.out _ hlow).row k (by rw [← hL.out]; exact hlt)
            obtain ⟨c0, c1, c2, c3, c4, c5, c6, hwf⟩ := hat
            generalize xs[k]'(by rw [← hL.out]; exact hlt) = x at *
            have hx0 := Lib.hid hwf.at_
            by_cases hlg : 200 < x.long
            · replace hlow := Lib.hid hlow
              have hG : Hid (Below wr.heap.size wr (wr.alloc (.cells #[.int .i64 x.kind, .int .i64 x.at_, .int .i64 x.n, .int .i64 x.kept, .int .i64 x.torn, .int .u64 (x.scat : Int), .int .i64 x.long] 35))) := Lib.hid ((Below.refl _ _).alloc (Nat.le_refl _) _)
              clear hback hI hwf
              go_wp2_with fail
              go_ret
              exact ⟨rfl, hfinB.out _ (hlow.out.trans (hG.out.mono hsz))⟩
            · obtain ⟨wA, hwA⟩ : ∃ wA, wA = wr.alloc (.cells #[.int .i64 x.kind, .int .i64 x.at_, .int .i64 x.n, .int .i64 x.kept, .int .i64 x.torn, .int .u64 (x.scat : Int), .int .i64 x.long] 35) := ⟨_, rfl⟩
              have hG : Below wr.heap.size wr wA := hwA ▸ (Below.refl _ _).alloc (Nat.le_refl _) _
              have hbx : wA.heap[wr.heap.size]? = some (.cells #[.int .i64 x.kind, .int .i64 x.at_, .int .i64 x.n, .int .i64 x.kept, .int .i64 x.torn, .int .u64 (x.scat : Int), .int .i64 x.long] 35 (0, 0)) := hwA ▸ heap_alloc_new wr _
              obtain ⟨p0, mn0, v0, S0, hT0, hpn0, hbn0⟩ := hI
              have hTA := hT0.below (hG.drew)
              have hDX : ∀ k, (DiskD B mb v0 k ∨ S0 k) → BS ≤ k ∧ k < wr.heap.size := fun k hk => hk.elim (hT0.lt.1 k) (hT0.lt.2 k)
              have hlowA : Below BS w2 wA.drew := (hlow.trans (hG.mono hsz)).drew
              have hsA := hG.size
              have hbA : BS ≤ wA.drew.heap.size := by show BS ≤ wA.heap.size; omega
              have hdo := (do18_any BS B mb R n k wA.drew p0 mn0 v0 S0 hTA hpn0 hbn0 (by omega) hn40 hbA ea (fun w' h => hEE.out _ (hlowA.trans h)) hbe x hwf (by omega))
              simp only [ActD.cells] at hdo
              replace hdo := Lib.hid hdo
              have hXl := block_lt hbx
              have hXd : wr.heap.size < wA.drew.heap.size := hXl
              have hh : ∀ W' : World, W'.heap[wr.heap.size]? = some (.cells #[.int .i64 x.kind, .int .i64 x.at_, .int .i64 x.n, .int .i64 x.kept, .int .i64 x.torn, .int .u64 (x.scat : Int), .int .i64 x.long] 35 (0, 0)) → W'.cell? ⟨wr.heap.size, 0, none⟩ = some (.int .i64 x.kind) ∧ W'.cell? ⟨wr.heap.size, 1, none⟩ = some (.int .i64 x.at_) ∧ W'.cell? ⟨wr.heap.size, 2, none⟩ = some (.int .i64 x.n) ∧ W'.cell? ⟨wr.heap.size, 3, none⟩ = some (.int .i64 x.kept) ∧ W'.cell? ⟨wr.heap.size, 4, none⟩ = some (.int .i64 x.torn) ∧ W'.cell? ⟨wr.heap.size, 5, none⟩ = some (.int .u64 (x.scat : Int)) ∧ W'.cell? ⟨wr.heap.size, 6, none⟩ = some (.int .i64 x.long) :=
                fun W' h => ⟨by rw [cell_of_block h]; rfl, by rw [cell_of_block h]; rfl, by rw [cell_of_block h]; rfl, by rw [cell_of_block h]; rfl, by rw [cell_of_block h]; rfl, by rw [cell_of_block h]; rfl, by rw [cell_of_block h]; rfl⟩
              have cx6 := (hh wA hbx).2.2.2.2.2.2
              have hS0 : Hid (wA.drew.heap[wr.heap.size]? = some (.cells #[.int .i64 x.kind, .int .i64 x.at_, .int .i64 x.n, .int .i64 x.kept, .int .i64 x.torn, .int .u64 (x.scat : Int), .int .i64 x.long] 35 (0, 0))) := Lib.hid hbx
              replace hwA := Lib.hid hwA
              replace hlowA := Lib.hid hlowA
              replace hlow := Lib.hid hlow
              replace hbx := Lib.hid hbx
              replace hG := Lib.hid hG
              replace hDX := Lib.hid hDX
              clear hT0 hTA hpn0 hbn0 hwf
              have hX0 : ∃ X, X = wr.heap.size := ⟨_, rfl⟩
              go_wp2_with fail
              rw [← hwA.out]
              go_wp2_with fail
              clear c0 c1 c2 c3 c4 c5 c6 cx6
              obtain ⟨X, hX⟩ : ∃ X, X = wr.heap.size := ⟨_, rfl⟩
              rw [← hX] at hh hS0 hDX hXd
              rw [← hX]
              replace hX := Lib.hid hX
              go_cut [95] from 66 to 95 (fun s95 wx => s95 = .bool false ∧ Inv18 BS wx B mb R n (k + 1) ∧ Below BS w2 wx ∧ wx.heap[X]? = some (.cells #[.int .i64 x.kind, .int .i64 x.at_, .int .i64 x.n, .int .i64 x.kept, .int .i64 x.torn, .int .u64 (x.scat : Int), .int .i64 x.long] 35 (0, 0)))
              case first =>
                have k0 := fun (W' : World) h => (hh W' h).1
                have k1 := fun (W' : World) h => (hh W' h).2.1
                have k2 := fun (W' : World) h => (hh W' h).2.2.1
                have k3 := fun (W' : World) h => (hh W' h).2.2.2.1
                have k4 := fun (W' : World) h => (hh W' h).2.2.2.2.1
                have k5 := fun (W' : World) h => (hh W' h).2.2.2.2.2.1
                have k6 := fun (W' : World) h => (hh W' h).2.2.2.2.2.2
                replace hh := Lib.hid hh
                refine wp_region_held_drew (S := (fun W' : World => W'.heap[X]? = some (.cells #[.int .i64 x.kind, .int .i64 x.at_, .int .i64 x.n, .int .i64 x.kept, .int .i64 x.torn, .int .u64 (x.scat : Int), .int .i64 x.long] 35 (0, 0)))) (by kernel_rfl) hS0.out (fun hOn => ?_)
                generalize World.drew wA = wd at *
                refine wpAnyH_take (i := 0) (v := ?_) (by simp only [List.getElem?_toArray, List.getElem?_cons_zero]; rfl) (by kernel_rfl) (by kernel_rfl) (by kernel_rfl) (by exact fun _ _ _ h => h) (Or.inl ⟨by rfl, ?_⟩) hOn ?_
                rotate_left
                focus (intro W hSW; go_simp; try with_reducible rfl)
                try simp only [Act.put, List.setIfInBounds_toArray, List.set_cons_zero, List.set_cons_succ]
                refine wpAnyH_take (i := 1) (v := ?_) (by simp only [List.getElem?_toArray, List.getElem?_cons_succ, List.getElem?_cons_zero]; rfl) (by kernel_rfl) (by kernel_rfl) (by kernel_rfl) (by exact fun _ _ _ h => h) (Or.inl ⟨by rfl, ?_⟩) hOn ?_
                rotate_left
                focus (intro W hSW; go_simp; try with_reducible rfl)
                try simp only [Act.put, List.setIfInBounds_toArray, List.set_cons_zero, List.set_cons_succ]
                refine wpAnyH_take (i := 2) (v := ?_) (by simp only [List.getElem?_toArray, List.getElem?_cons_succ, List.getElem?_cons_zero]; rfl) (by kernel_rfl) (by kernel_rfl) (by kernel_rfl) (by exact fun _ _ _ h => h) (Or.inl ⟨by rfl, ?_⟩) hOn ?_
                rotate_left
                focus (intro W hSW; go_simp; try with_reducible rfl)
                try simp only [Act.put, List.setIfInBounds_toArray, List.set_cons_zero, List.set_cons_succ]
                refine wpAnyH_ready (rs := [3]) (by kernel_rfl) (by simp) ?_
                refine AllReadyH.cons (by simp only [List.getElem?_toArray, List.getElem?_cons_succ, List.getElem?_cons_zero]; rfl) (fun Kz hKz => ?_) AllReadyH.nil
                go_simp
                (with_reducible refine hdo.out.mono ?_)
                rintro e w5 ⟨rfl, hI5, hon5⟩
                have hS : w5.heap[X]? = _ := hon5.heap hOn (fun hd => Nat.lt_irrefl X (hDX.out X hd).2)
                have hlow5 := Lib.hid (hlowA.out.trans (hon5.below hbA (fun k hd => (hDX.out k hd).1)))
                obtain ⟨p, mn, v, S, hT5, hpn5, hbn5, q0, q5, ⟨aw, cw, r1⟩, r4⟩ := hI5.asks
                replace hT5 := Lib.hid hT5
                replace hpn5 := Lib.hid hpn5
                replace hbn5 := Lib.hid hbn5
                replace hI5 := Lib.hid hI5
                clear hon5 hdo
                focus (go_wp2_with fail)
                refine hKz.out _ _ (by first | exact hS | exact Below.trans hOn (Below.mono hnew (Below.size hOn))) (fun hNext => ?_)
                clear hKz Kz hOn
                have hOn := hNext
                clear hNext
                try clear hnew
                try clear hS
                try simp only [Act.put, List.setIfInBounds_toArray, List.set_cons_zero, List.set_cons_succ]
                refine wpAnyH_take (i := 4) (v := ?_) (by simp only [List.getElem?_toArray, List.getElem?_cons_succ, List.getElem?_cons_zero]; rfl) (by kernel_rfl) (by kernel_rfl) (by kernel_rfl) (by exact fun _ _ _ h => h) (Or.inl ⟨by rfl, ?_⟩) hOn ?_
                rotate_left
                focus (intro W hSW; go_simp; try with_reducible rfl)
                try simp only [Act.put, List.setIfInBounds_toArray, List.set_cons_zero, List.set_cons_succ]
                refine wpAnyH_take (i := 5) (v := ?_) (by simp only [List.getElem?_toArray, List.getElem?_cons_succ, List.getElem?_cons_zero]; rfl) (by kernel_rfl) (by kernel_rfl) (by kernel_rfl) (by exact fun _ _ _ h => h) (Or.inl ⟨by rfl, ?_⟩) hOn ?_
                rotate_left
                focus (intro W hSW; go_simp; try with_reducible rfl)
                try simp only [Act.put, List.setIfInBounds_toArray, List.set_cons_zero, List.set_cons_succ]
                refine wpAnyH_take (i := 6) (v := ?_) (by simp only [List.getElem?_toArray, List.getElem?_cons_succ, List.getElem?_cons_zero]; rfl) (by kernel_rfl) (by kernel_rfl) (by kernel_rfl) (by exact fun _ _ _ h => h) (Or.inl ⟨by rfl, ?_⟩) hOn ?_
                rotate_left
                focus (intro W hSW; go_simp; try with_reducible rfl)
                try simp only [Act.put, List.setIfInBounds_toArray, List.set_cons_zero, List.set_cons_succ]
                refine wpAnyH_take (i := 8) (v := ?_) (by simp only [List.getElem?_toArray, List.getElem?_cons_succ, List.getElem?_cons_zero]; rfl) (by kernel_rfl) (by kernel_rfl) (by kernel_rfl) (by exact fun _ _ _ h => h) (Or.inl ⟨by rfl, ?_⟩) hOn ?_
                rotate_left
                focus (intro W hSW; go_simp; try with_reducible rfl)
                try simp only [Act.put, List.setIfInBounds_toArray, List.set_cons_zero, List.set_cons_succ]
                refine wpAnyH_ready (rs := [7]) (by kernel_rfl) (by simp) ?_
                refine AllReadyH.cons (by simp only [List.getElem?_toArray, List.getElem?_cons_succ, List.getElem?_cons_zero]; rfl) (fun Kz hKz => ?_) AllReadyH.nil
                go_simp
                (with_reducible refine (dsize_any B n w5 q0).mono ?_)
                rintro e w6 ⟨rfl, hq⟩
                obtain rfl := hq
                have hS := hOn
                focus (go_wp2_with fail)
                refine hKz.out _ _ (by first | exact hS | exact Below.trans hOn (Below.mono hnew (Below.size hOn))) (fun hNext => ?_)
                clear hKz Kz hOn
                have hOn := hNext
                clear hNext
                try clear hnew
                try clear hS
                try simp only [Act.put, List.setIfInBounds_toArray, List.set_cons_zero, List.set_cons_succ]
                refine wpAnyH_take (i := 9) (v := ?_) (by simp only [List.getElem?_toArray, List.getElem?_cons_succ, List.getElem?_cons_zero]; rfl) (by kernel_rfl) (by kernel_rfl) (by kernel_rfl) (by exact fun _ _ _ h => h) (Or.inl ⟨by rfl, ?_⟩) hOn ?_
                rotate_left
                focus (intro W hSW; go_simp; try with_reducible rfl)
                try simp only [Act.put, List.setIfInBounds_toArray, List.set_cons_zero, List.set_cons_succ]
                refine wpAnyH_take (i := 10) (v := ?_) (by simp only [List.getElem?_toArray, List.getElem?_cons_succ, List.getElem?_cons_zero]; rfl) (by kernel_rfl) (by kernel_rfl) (by kernel_rfl) (by exact fun _ _ _ h => h) (Or.inl ⟨by rfl, ?_⟩) hOn ?_
                rotate_left
                focus (intro W hSW; go_simp; try with_reducible rfl)
                try simp only [Act.put, List.setIfInBounds_toArray, List.set_cons_zero, List.set_cons_succ]
                refine wpAnyH_take (i := 11) (v := ?_) (by simp only [List.getElem?_toArray, List.getElem?_cons_succ, List.getElem?_cons_zero]; rfl) (by kernel_rfl) (by kernel_rfl) (by kernel_rfl) (by exact fun _ _ _ h => h) (Or.inl ⟨by rfl, ?_⟩) hOn ?_
                rotate_left
                focus (intro W hSW; go_simp; try with_reducible rfl)
                try simp only [Act.put, List.setIfInBounds_toArray, List.set_cons_zero, List.set_cons_succ]
                refine wpAnyH_take (i := 12) (v := ?_) (by simp only [List.getElem?_toArray, List.getElem?_cons_succ, List.getElem?_cons_zero]; rfl) (by kernel_rfl) (by kernel_rfl) (by kernel_rfl) (by exact fun _ _ _ h => h) (Or.inl ⟨by rfl, ?_⟩) hOn ?_
                rotate_left
                focus (intro W hSW; go_simp; try with_reducible rfl)
                try simp only [Act.put, List.setIfInBounds_toArray, List.set_cons_zero, List.set_cons_succ]
                refine wpAnyH_take (i := 14) (v := ?_) (by simp only [List.getElem?_toArray, List.getElem?_cons_succ, List.getElem?_cons_zero]; rfl) (by kernel_rfl) (by kernel_rfl) (by kernel_rfl) (by exact fun _ _ _ h => h) (Or.inl ⟨by rfl, ?_⟩) hOn ?_
                rotate_left
                focus (intro W hSW; go_simp; try with_reducible rfl)
                try simp only [Act.put, List.setIfInBounds_toArray, List.set_cons_zero, List.set_cons_succ]
                refine wpAnyH_take (i := 15) (v := ?_) (by simp only [List.getElem?_toArray, List.getElem?_cons_succ, List.getElem?_cons_zero]; rfl) (by kernel_rfl) (by kernel_rfl) (by kernel_rfl) (by exact fun _ _ _ h => h) (Or.inl ⟨by rfl, ?_⟩) hOn ?_
                rotate_left
                focus (intro W hSW; go_simp; try with_reducible rfl)
                try simp only [Act.put, List.setIfInBounds_toArray, List.set_cons_zero, List.set_cons_succ]
                refine wpAnyH_take (i := 16) (v := ?_) (by simp only [List.getElem?_toArray, List.getElem?_cons_succ, List.getElem?_cons_zero]; rfl) (by kernel_rfl) (by kernel_rfl) (by kernel_rfl) (by exact fun _ _ _ h => h) (Or.inl ⟨by rfl, ?_⟩) hOn ?_
                rotate_left
                focus (intro W hSW; go_simp; try with_reducible rfl)
                try simp only [Act.put, List.setIfInBounds_toArray, List.set_cons_zero, List.set_cons_succ]
                refine wpAnyH_ready (rs := [13, 17]) (by kernel_rfl) (by simp) ?_
                refine AllReadyH.cons (by simp only [List.getElem?_toArray, List.getElem?_cons_succ, List.getElem?_cons_zero]; rfl) (fun Kz hKz => ?_) ?_
                go_simp
                (with_reducible refine (dwaits_dm hT5.out.d).mono ?_)
                rintro e w6 ⟨rfl, hq⟩
                obtain rfl := hq
                have hS := hOn
                focus (go_wp2_with fail)
                refine hKz.out _ _ (by first | exact hS | exact Below.trans hOn (Below.mono hnew (Below.size hOn))) (fun hNext => ?_)
                clear hKz Kz hOn
                have hOn := hNext
                clear hNext
                try clear hnew
                try clear hS
                try simp only [Act.put, List.setIfInBounds_toArray, List.set_cons_zero, List.set_cons_succ]
                refine wpAnyH_ready (rs := [17]) (by kernel_rfl) (by simp) ?_
                refine AllReadyH.cons (by simp only [List.getElem?_toArray, List.getElem?_cons_succ, List.getElem?_cons_zero]; rfl) (fun Kz hKz => ?_) AllReadyH.nil
                go_simp
                focus (try go_wp2_with fail)
                refine hKz.out _ _ (by first | exact hOn | exact Grown.alloc hOn _ | exact Below.alloc hOn (Below.size hOn) _ | exact Grown.alloc (Grown.refl _) _) (fun hNext => ?_)
                clear hKz Kz hOn
                have hOn := hNext
                clear hNext
                try simp only [Act.put, List.setIfInBounds_toArray, List.set_cons_zero, List.set_cons_succ]
                refine wpAnyH_take (i := 18) (v := ?_) (by simp only [List.getElem?_toArray, List.getElem?_cons_succ, List.getElem?_cons_zero]; rfl) (by kernel_rfl) (by kernel_rfl) (by kernel_rfl) (by exact fun _ _ _ h => h) (Or.inl ⟨by rfl, ?_⟩) hOn ?_
                rotate_left
                focus (intro W hSW; go_simp; try with_reducible rfl)
                try simp only [Act.put, List.setIfInBounds_toArray, List.set_cons_zero, List.set_cons_succ]
                refine wpAnyH_take (i := 19) (v := ?_) (by simp only [List.getElem?_toArray, List.getElem?_cons_succ, List.getElem?_cons_zero]; rfl) (by kernel_rfl) (by kernel_rfl) (by kernel_rfl) (by exact fun _ _ _ h => h) (Or.inl ⟨by rfl, ?_⟩) hOn ?_
                rotate_left
                focus (intro W hSW; go_simp; try with_reducible rfl)
                try simp only [Act.put, List.setIfInBounds_toArray, List.set_cons_zero, List.set_cons_succ]
                refine wpAnyH_take (i := 20) (v := ?_) (by simp only [List.getElem?_toArray, List.getElem?_cons_succ, List.getElem?_cons_zero]; rfl) (by kernel_rfl) (by kernel_rfl) (by kernel_rfl) (by exact fun _ _ _ h => h) (Or.inl ⟨by rfl, ?_⟩) hOn ?_
                rotate_left
                focus (intro W hSW; go_simp; try with_reducible rfl)
                try simp only [Act.put, List.setIfInBounds_toArray, List.set_cons_zero, List.set_cons_succ]
                refine wpAnyH_take (i := 21) (v := ?_) (by simp only [List.getElem?_toArray, List.getElem?_cons_succ, List.getElem?_cons_zero]; rfl) (by kernel_rfl) (by kernel_rfl) (by kernel_rfl) (by exact fun _ _ _ h => h) (Or.inl ⟨by rfl, ?_⟩) hOn ?_
                rotate_left
                focus (intro W hSW; go_simp; try with_reducible rfl)
                try simp only [Act.put, List.setIfInBounds_toArray, List.set_cons_zero, List.set_cons_succ]
                refine wpAnyH_take (i := 22) (v := ?_) (by simp only [List.getElem?_toArray, List.getElem?_cons_succ, List.getElem?_cons_zero]; rfl) (by kernel_rfl) (by kernel_rfl) (by kernel_rfl) (by exact fun _ _ _ h => h) (Or.inl ⟨by rfl, ?_⟩) hOn ?_
                rotate_left
                focus (intro W hSW; go_simp; try with_reducible rfl)
                try simp only [Act.put, List.setIfInBounds_toArray, List.set_cons_zero, List.set_cons_succ]
                refine wpAnyH_take (i := 24) (v := ?_) (by simp only [List.getElem?_toArray, List.getElem?_cons_succ, List.getElem?_cons_zero]; rfl) (by kernel_rfl) (by kernel_rfl) (by kernel_rfl) (by exact fun _ _ _ h => h) (Or.inl ⟨by rfl, ?_⟩) hOn ?_
                rotate_left
                focus (intro W hSW; go_simp; try with_reducible rfl)
                try simp only [Act.put, List.setIfInBounds_toArray, List.set_cons_zero, List.set_cons_succ]
                refine wpAnyH_take (i := 25) (v := ?_) (by simp only [List.getElem?_toArray, List.getElem?_cons_succ, List.getElem?_cons_zero]; rfl) (by kernel_rfl) (by kernel_rfl) (by kernel_rfl) (by exact fun _ _ _ h => h) (Or.inl ⟨by rfl, ?_⟩) hOn ?_
                rotate_left
                focus (intro W hSW; go_simp; try with_reducible rfl)
                try simp only [Act.put, List.setIfInBounds_toArray, List.set_cons_zero, List.set_cons_succ]
                refine wpAnyH_take (i := 26) (v := ?_) (by simp only [List.getElem?_toArray, List.getElem?_cons_succ, List.getElem?_cons_zero]; rfl) (by kernel_rfl) (by kernel_rfl) (by kernel_rfl) (by exact fun _ _ _ h => h) (Or.inl ⟨by rfl, ?_⟩) hOn ?_
                rotate_left
                focus (intro W hSW; go_simp; try with_reducible rfl)
                try simp only [Act.put, List.setIfInBounds_toArray, List.set_cons_zero, List.set_cons_succ]
                refine wpAnyH_ready (rs := [23, 27]) (by kernel_rfl) (by simp) ?_
                refine AllReadyH.cons (by simp only [List.getElem?_toArray, List.getElem?_cons_succ, List.getElem?_cons_zero]; rfl) (fun Kz hKz => ?_) ?_
                go_simp
                (with_reducible refine (dgone_any B p.gone w5 q5).mono ?_)
                rintro e w6 ⟨rfl, hq⟩
                obtain rfl := hq
                have hS := hOn
                focus (go_wp2_with fail)
                refine hKz.out _ _ (by first | exact hS | exact Below.trans hOn (Below.mono hnew (Below.size hOn))) (fun hNext => ?_)
                clear hKz Kz hOn
                have hOn := hNext
                clear hNext
                try clear hnew
                try clear hS
                try simp only [Act.put, List.setIfInBounds_toArray, List.set_cons_zero, List.set_cons_succ]
                refine wpAnyH_ready (rs := [27]) (by kernel_rfl) (by simp) ?_
                refine AllReadyH.cons (by simp only [List.getElem?_toArray, List.getElem?_cons_succ, List.getElem?_cons_zero]; rfl) (fun Kz hKz => ?_) AllReadyH.nil
                go_simp
                focus (try go_wp2_with fail)
                refine hKz.out _ _ (by first | exact hOn | exact Grown.alloc hOn _ | exact Below.alloc hOn (Below.size hOn) _ | exact Grown.alloc (Grown.refl _) _) (fun hNext => ?_)
                clear hKz Kz hOn
                have hOn := hNext
                clear hNext
                try simp only [Act.put, List.setIfInBounds_toArray, List.set_cons_zero, List.set_cons_succ]
                refine wpAnyH_take (i := 28) (v := ?_) (by simp only [List.getElem?_toArray, List.getElem?_cons_succ, List.getElem?_cons_zero]; rfl) (by kernel_rfl) (by kernel_rfl) (by kernel_rfl) (by exact fun _ _ _ h => h) (Or.inl ⟨by rfl, ?_⟩) hOn ?_
                rotate_left
                focus (intro W hSW; go_simp; try with_reducible rfl)
                try simp only [Act.put, List.setIfInBounds_toArray, List.set_cons_zero, List.set_cons_succ]
                refine wpAnyH_take (i := 29) (v := ?_) (by simp only [List.getElem?_toArray, List.getElem?_cons_succ, List.getElem?_cons_zero]; rfl) (by kernel_rfl) (by kernel_rfl) (by kernel_rfl) (by exact fun _ _ _ h => h) (Or.inl ⟨by rfl, ?_⟩) hOn ?_
                rotate_left
                focus (intro W hSW; go_simp; try with_reducible rfl)
                try simp only [Act.put, List.setIfInBounds_toArray, List.set_cons_zero, List.set_cons_succ]
                refine wpAnyH_done (by kernel_rfl) ?_ _
                rotate_left
                refine AllReadyH.cons (by simp only [List.getElem?_toArray, List.getElem?_cons_succ, List.getElem?_cons_zero]; rfl) (fun Kz hKz => ?_) AllReadyH.nil
                go_simp
                focus (try go_wp2_with fail)
                refine hKz.out _ _ (by first | exact hOn | exact Grown.alloc hOn _ | exact Below.alloc hOn (Below.size hOn) _ | exact Grown.alloc (Grown.refl _) _) (fun hNext => ?_)
                clear hKz Kz hOn
                have hOn := hNext
                clear hNext
                try simp only [Act.put, List.setIfInBounds_toArray, List.set_cons_zero, List.set_cons_succ]
                refine wpAnyH_ready (rs := [23]) (by kernel_rfl) (by simp) ?_
                refine AllReadyH.cons (by simp only [List.getElem?_toArray, List.getElem?_cons_succ, List.getElem?_cons_zero]; rfl) (fun Kz hKz => ?_) AllReadyH.nil
                go_simp
                (with_reducible refine (dgone_any B p.gone w5 q5).mono ?_)
                rintro e w6 ⟨rfl, hq⟩
                obtain rfl := hq
                have hS := hOn
                focus (go_wp2_with fail)
                refine hKz.out _ _ (by first | exact hS | exact Below.trans hOn (Below.mono hnew (Below.size hOn))) (fun hNext => ?_)
                clear hKz Kz hOn
                have hOn := hNext
                clear hNext
                try clear hnew
                try clear hS
                try simp only [Act.put, List.setIfInBounds_toArray, List.set_cons_zero, List.set_cons_succ]
                refine wpAnyH_take (i := 28) (v := ?_) (by simp only [List.getElem?_toArray, List.getElem?_cons_succ, List.getElem?_cons_zero]; rfl) (by kernel_rfl) (by kernel_rfl) (by kernel_rfl) (by exact fun _ _ _ h => h) (Or.inl ⟨by rfl, ?_⟩) hOn ?_
                rotate_left
                focus (intro W hSW; go_simp; try with_reducible rfl)
                try simp only [Act.put, List.setIfInBounds_toArray, List.set_cons_zero, List.set_cons_succ]
                refine wpAnyH_take (i := 29) (v := ?_) (by simp only [List.getElem?_toArray, List.getElem?_cons_succ, List.getElem?_cons_zero]; rfl) (by kernel_rfl) (by kernel_rfl) (by kernel_rfl) (by exact fun _ _ _ h => h) (Or.inl ⟨by rfl, ?_⟩) hOn ?_
                rotate_left
                focus (intro W hSW; go_simp; try with_reducible rfl)
                try simp only [Act.put, List.setIfInBounds_toArray, List.set_cons_zero, List.set_cons_succ]
                refine wpAnyH_done (by kernel_rfl) ?_ _
                rotate_left
                refine AllReadyH.cons (by simp only [List.getElem?_toArray, List.getElem?_cons_succ, List.getElem?_cons_zero]; rfl) (fun Kz hKz => ?_) AllReadyH.nil
                go_simp
                focus (try go_wp2_with fail)
                refine hKz.out _ _ (by first | exact hOn | exact Grown.alloc hOn _ | exact Below.alloc hOn (Below.size hOn) _ | exact Grown.alloc (Grown.refl _) _) (fun hNext => ?_)
                clear hKz Kz hOn
                have hOn := hNext
                clear hNext
                try simp only [Act.put, List.setIfInBounds_toArray, List.set_cons_zero, List.set_cons_succ]
                refine wpAnyH_take (i := 18) (v := ?_) (by simp only [List.getElem?_toArray, List.getElem?_cons_succ, List.getElem?_cons_zero]; rfl) (by kernel_rfl) (by kernel_rfl) (by kernel_rfl) (by exact fun _ _ _ h => h) (Or.inl ⟨by rfl, ?_⟩) hOn ?_
                rotate_left
                focus (intro W hSW; go_simp; try with_reducible rfl)
                try simp only [Act.put, List.setIfInBounds_toArray, List.set_cons_zero, List.set_cons_succ]
                refine wpAnyH_ready (rs := [13]) (by kernel_rfl) (by simp) ?_
                refine AllReadyH.cons (by simp only [List.getElem?_toArray, List.getElem?_cons_succ, List.getElem?_cons_zero]; rfl) (fun Kz hKz => ?_) AllReadyH.nil
                go_simp
                (with_reducible refine (dwaits_dm hT5.out.d).mono ?_)
                rintro e w6 ⟨rfl, hq⟩
                obtain rfl := hq
                have hS := hOn
                focus (go_wp2_with fail)
                refine hKz.out _ _ (by first | exact hS | exact Below.trans hOn (Below.mono hnew (Below.size hOn))) (fun hNext => ?_)
                clear hKz Kz hOn
                have hOn := hNext
                clear hNext
                try clear hnew
                try clear hS
                try simp only [Act.put, List.setIfInBounds_toArray, List.set_cons_zero, List.set_cons_succ]
                refine wpAnyH_take (i := 19) (v := ?_) (by simp only [List.getElem?_toArray, List.getElem?_cons_succ, List.getElem?_cons_zero]; rfl) (by kernel_rfl) (by kernel_rfl) (by kernel_rfl) (by exact fun _ _ _ h => h) (Or.inl ⟨by rfl, ?_⟩) hOn ?_
                rotate_left
                focus (intro W hSW; go_simp; try with_reducible rfl)
                try simp only [Act.put, List.setIfInBounds_toArray, List.set_cons_zero, List.set_cons_succ]
                refine wpAnyH_take (i := 20) (v := ?_) (by simp only [List.getElem?_toArray, List.getElem?_cons_succ, List.getElem?_cons_zero]; rfl) (by kernel_rfl) (by kernel_rfl) (by kernel_rfl) (by exact fun _ _ _ h => h) (Or.inl ⟨by rfl, ?_⟩) hOn ?_
                rotate_left
                focus (intro W hSW; go_simp; try with_reducible rfl)
                try simp only [Act.put, List.setIfInBounds_toArray, List.set_cons_zero, List.set_cons_succ]
                refine wpAnyH_take (i := 21) (v := ?_) (by simp only [List.getElem?_toArray, List.getElem?_cons_succ, List.getElem?_cons_zero]; rfl) (by kernel_rfl) (by kernel_rfl) (by kernel_rfl) (by exact fun _ _ _ h => h) (Or.inl ⟨by rfl, ?_⟩) hOn ?_
                rotate_left
                focus (intro W hSW; go_simp; try with_reducible rfl)
                try simp only [Act.put, List.setIfInBounds_toArray, List.set_cons_zero, List.set_cons_succ]
                refine wpAnyH_take (i := 22) (v := ?_) (by simp only [List.getElem?_toArray, List.getElem?_cons_succ, List.getElem?_cons_zero]; rfl) (by kernel_rfl) (by kernel_rfl) (by kernel_rfl) (by exact fun _ _ _ h => h) (Or.inl ⟨by rfl, ?_⟩) hOn ?_
                rotate_left
                focus (intro W hSW; go_simp; try with_reducible rfl)
                try simp only [Act.put, List.setIfInBounds_toArray, List.set_cons_zero, List.set_cons_succ]
                refine wpAnyH_take (i := 24) (v := ?_) (by simp only [List.getElem?_toArray, List.getElem?_cons_succ, List.getElem?_cons_zero]; rfl) (by kernel_rfl) (by kernel_rfl) (by kernel_rfl) (by exact fun _ _ _ h => h) (Or.inl ⟨by rfl, ?_⟩) hOn ?_
                rotate_left
                focus (intro W hSW; go_simp; try with_reducible rfl)
                try simp only [Act.put, List.setIfInBounds_toArray, List.set_cons_zero, List.set_cons_succ]
                refine wpAnyH_take (i := 25) (v := ?_) (by simp only [List.getElem?_toArray, List.getElem?_cons_succ, List.getElem?_cons_zero]; rfl) (by kernel_rfl) (by kernel_rfl) (by kernel_rfl) (by exact fun _ _ _ h => h) (Or.inl ⟨by rfl, ?_⟩) hOn ?_
                rotate_left
                focus (intro W hSW; go_simp; try with_reducible rfl)
                try simp only [Act.put, List.setIfInBounds_toArray, List.set_cons_zero, List.set_cons_succ]
                refine wpAnyH_take (i := 26) (v := ?_) (by simp only [List.getElem?_toArray, List.getElem?_cons_succ, List.getElem?_cons_zero]; rfl) (by kernel_rfl) (by kernel_rfl) (by kernel_rfl) (by exact fun _ _ _ h => h) (Or.inl ⟨by rfl, ?_⟩) hOn ?_
                rotate_left
                focus (intro W hSW; go_simp; try with_reducible rfl)
                try simp only [Act.put, List.setIfInBounds_toArray, List.set_cons_zero, List.set_cons_succ]
                refine wpAnyH_ready (rs := [23, 27]) (by kernel_rfl) (by simp) ?_
                refine AllReadyH.cons (by simp only [List.getElem?_toArray, List.getElem?_cons_succ, List.getElem?_cons_zero]; rfl) (fun Kz hKz => ?_) ?_
                go_simp
                (with_reducible refine (dgone_any B p.gone w5 q5).mono ?_)
                rintro e w6 ⟨rfl, hq⟩
                obtain rfl := hq
                have hS := hOn
                focus (go_wp2_with fail)
                refine hKz.out _ _ (by first | exact hS | exact Below.trans hOn (Below.mono hnew (Below.size hOn))) (fun hNext => ?_)
                clear hKz Kz hOn
                have hOn := hNext
                clear hNext
                try clear hnew
                try clear hS
                try simp only [Act.put, List.setIfInBounds_toArray, List.set_cons_zero, List.set_cons_succ]
                refine wpAnyH_ready (rs := [27]) (by kernel_rfl) (by simp) ?_
                refine AllReadyH.cons (by simp only [List.getElem?_toArray, List.getElem?_cons_succ, List.getElem?_cons_zero]; rfl) (fun Kz hKz => ?_) AllReadyH.nil
                go_simp
                focus (try go_wp2_with fail)
                refine hKz.out _ _ (by first | exact hOn | exact Grown.alloc hOn _ | exact Below.alloc hOn (Below.size hOn) _ | exact Grown.alloc (Grown.refl _) _) (fun hNext => ?_)
                clear hKz Kz hOn
                have hOn := hNext
                clear hNext
                try simp only [Act.put, List.setIfInBounds_toArray, List.set_cons_zero, List.set_cons_succ]
                refine wpAnyH_take (i := 28) (v := ?_) (by simp only [List.getElem?_toArray, List.getElem?_cons_succ, List.getElem?_cons_zero]; rfl) (by kernel_rfl) (by kernel_rfl) (by kernel_rfl) (by exact fun _ _ _ h => h) (Or.inl ⟨by rfl, ?_⟩) hOn ?_
                rotate_left
                focus (intro W hSW; go_simp; try with_reducible rfl)
                try simp only [Act.put, List.setIfInBounds_toArray, List.set_cons_zero, List.set_cons_succ]
                refine wpAnyH_take (i := 29) (v := ?_) (by simp only [List.getElem?_toArray, List.getElem?_cons_succ, List.getElem?_cons_zero]; rfl) (by kernel_rfl) (by kernel_rfl) (by kernel_rfl) (by exact fun _ _ _ h => h) (Or.inl ⟨by rfl, ?_⟩) hOn ?_
                rotate_left
                focus (intro W hSW; go_simp; try with_reducible rfl)
                try simp only [Act.put, List.setIfInBounds_toArray, List.set_cons_zero, List.set_cons_succ]
                refine wpAnyH_done (by kernel_rfl) ?_ _
                rotate_left
                refine AllReadyH.cons (by simp only [List.getElem?_toArray, List.getElem?_cons_succ, List.getElem?_cons_zero]; rfl) (fun Kz hKz => ?_) AllReadyH.nil
                go_simp
                focus (try go_wp2_with fail)
                refine hKz.out _ _ (by first | exact hOn | exact Grown.alloc hOn _ | exact Below.alloc hOn (Below.size hOn) _ | exact Grown.alloc (Grown.refl _) _) (fun hNext => ?_)
                clear hKz Kz hOn
                have hOn := hNext
                clear hNext
                try simp only [Act.put, List.setIfInBounds_toArray, List.set_cons_zero, List.set_cons_succ]
                refine wpAnyH_ready (rs := [23]) (by kernel_rfl) (by simp) ?_
                refine AllReadyH.cons (by simp only [List.getElem?_toArray, List.getElem?_cons_succ, List.getElem?_cons_zero]; rfl) (fun Kz hKz => ?_) AllReadyH.nil
                go_simp
                (with_reducible refine (dgone_any B p.gone w5 q5).mono ?_)
                rintro e w6 ⟨rfl, hq⟩
                obtain rfl := hq
                have hS := hOn
                focus (go_wp2_with fail)
                refine hKz.out _ _ (by first | exact hS | exact Below.trans hOn (Below.mono hnew (Below.size hOn))) (fun hNext => ?_)
                clear hKz Kz hOn
                have hOn := hNext
                clear hNext
                try clear hnew
                try clear hS
                try simp only [Act.put, List.setIfInBounds_toArray, List.set_cons_zero, List.set_cons_succ]
                refine wpAnyH_take (i := 28) (v := ?_) (by simp only [List.getElem?_toArray, List.getElem?_cons_succ, List.getElem?_cons_zero]; rfl) (by kernel_rfl) (by kernel_rfl) (by kernel_rfl) (by exact fun _ _ _ h => h) (Or.inl ⟨by rfl, ?_⟩) hOn ?_
                rotate_left
                focus (intro W hSW; go_simp; try with_reducible rfl)
                try simp only [Act.put, List.setIfInBounds_toArray, List.set_cons_zero, List.set_cons_succ]
                refine wpAnyH_take (i := 29) (v := ?_) (by simp only [List.getElem?_toArray, List.getElem?_cons_succ, List.getElem?_cons_zero]; rfl) (by kernel_rfl) (by kernel_rfl) (by kernel_rfl) (by exact fun _ _ _ h => h) (Or.inl ⟨by rfl, ?_⟩) hOn ?_
                rotate_left
                focus (intro W hSW; go_simp; try with_reducible rfl)
                try simp only [Act.put, List.setIfInBounds_toArray, List.set_cons_zero, List.set_cons_succ]
                refine wpAnyH_done (by kernel_rfl) ?_ _
                all_goals (go_wp2_with fail)
                all_goals go_meet
                all_goals exact ⟨by simp, hI5.out, hlow5.out, hOn⟩
              case rest =>
                obtain ⟨rfl, hI5, hlow5, hbx5⟩ := hcut
                have cx1 := (hh _ hbx5).2.1
                have hXs := block_lt hbx5
                have hbc : BS ≤ wc.heap.size := Nat.le_trans hBSw.out hlow5.size
                obtain ⟨p, mn, v, S, hT5, hpn5, hbn5, q0, q5, -, -⟩ := hI5.asks
                have hdr := Lib.hid (dread_any18 hT5 hpn5 hn40 (by omega) (e18 ea) (dErr_of (hEE.out _ hlow5)) x.at_)
                have hrr := Lib.hid (fun (W : World) (hW : Below wc.heap.size wc W) => rread_any18 (hT5.below hW) (by omega) x.at_)
                have hr3 := rdD_le n p x.at_
                generalize rdD n p x.at_ = rd at *
                obtain ⟨xb, r⟩ := rd
                simp only at hr3
                replace hI5 := Lib.hid hI5
                replace hT5 := Lib.hid hT5
                replace hpn5 := Lib.hid hpn5
                replace hbn5 := Lib.hid hbn5
                replace hlow5 := Lib.hid hlow5
                replace hbx5 := Lib.hid hbx5
                replace hr3 := Lib.hid hr3
                clear hdo hbx hG hlowA hS0 hlow
                replace hh := Lib.hid hh
                go_wp2_with fail
                with_reducible refine hdr.out.mono ?_
                rintro e w6 ⟨a6, c6, rfl, ha6, hb6⟩
                have hs6 := hb6.size
                have hbx6 := (hb6.block X hXs).trans hbx5.out
                have cx1' := (hh.out _ hbx6).2.1
                have hrr6 := Lib.hid (hrr.out w6 hb6)
                replace ha6 := Lib.hid ha6
                replace hb6 := Lib.hid hb6
                replace hbx6 := Lib.hid hbx6
                clear hdr hrr cx1
                go_wp2_with fail
                with_reducible refine hrr6.out.mono ?_
                rintro e w7 ⟨a7, c7, rfl, ha7, hb7⟩
                have hb57 := Lib.hid (hb6.out.trans (hb7.mono hs6))
                have hs7 := hb7.size
                have hlow7 := hlow5.out.trans (hb57.out.mono (by omega))
                have hnu := Lib.hid (num_eD ea r hr3.out w7 (hEE.out _ hlow7))
                have ha67 := Lib.hid (ha6.out.below hb7)
                replace hb7 := Lib.hid hb7
                replace ha7 := Lib.hid ha7
                replace hlow7 := Lib.hid hlow7
                clear hrr6 cx1'
                go_wp2_with fail
                with_reducible refine hnu.out.mono ?_
                rintro e w8 ⟨rfl, hb8⟩
                have hb58 := hb57.out.trans (hb8.mono (by omega))
                have hs8 := hb58.size
                have v1 := convB18 (ha67.out.below hb8) xb.length rfl
                have v2 := convB18 (ha7.out.below hb8) xb.length rfl
                have hbx8 := (hb58.block X hXs).trans hbx5.out
                have cx1 := (hh.out _ hbx8).2.1
                have hT8 := hT5.out.below hb58
                have hI8 := hI5.out.below hb58
                have hlow8 := hlow5.out.trans (hb58.mono (by omega))
                have q08 : w8.cell? ⟨B, 0, none⟩ = some (.int .i64 n) := (by rw [hT8.d.cell, ← hpn5.out]; rfl)
                replace hT8 := Lib.hid hT8
                replace hI8 := Lib.hid hI8
                replace hlow8 := Lib.hid hlow8
                replace hbx8 := Lib.hid hbx8
                replace hb58 := Lib.hid hb58
                clear hnu hb8 q0 q5
                go_wp2_with fail
                have hrng : x.at_ < 0 ∨ (n : Int) ≤ x.at_ ∨ (0 ≤ x.at_ ∧ x.at_ < n) := by omega
                rcases hrng with h1 | h1 | h1
                · have hsu := Lib.hid (dsure_no B n x.at_ (.inl h1) w8 q08 (e18 ea) (dErr_of (hEE.out _ hlow8.out)))
                  have hnu := Lib.hid (num_err 0 (by decide) ea w8 (hEE.out _ hlow8.out))
                  with_reducible refine hsu.out.mono ?_
                  rintro e w9 ⟨rfl, hq⟩
                  obtain rfl := hq
                  rw [show e18 ea 0 = ea 0 from rfl]
                  clear hsu
                  go_wp2_with fail
                  with_reducible refine hnu.out.mono ?_
                  rintro e w9 ⟨rfl, hb9⟩
                  have hIF := Lib.hid (hI8.out.below hb9)
                  have hlowF := Lib.hid (hlow8.out.trans (hb9.mono (by omega)))
                  clear hnu hb9
                  go_wp2_with fail
                  refine hback.out _ _ (by kernel_rfl) ?_ ?_
                  · simp only [List.getD_cons_zero, List.getD_cons_succ]
                    exact ⟨k + 1, by omega, by go_num, hIF.out, hlowF.out, Nat.le_trans hBSw.out hlowF.out.size⟩
                  · have h59 := h59.out
                    simp only [List.getD_cons_zero, List.getD_cons_succ, h59, intOf]
                    omega
                · have h2 : ¬ (x.at_ < 0) := by omega
                  have hsu := Lib.hid (dsure_no B n x.at_ (.inr h1) w8 q08 (e18 ea) (dErr_of (hEE.out _ hlow8.out)))
                  have hnu := Lib.hid (num_err 0 (by decide) ea w8 (hEE.out _ hlow8.out))
                  with_reducible refine hsu.out.mono ?_
                  rintro e w9 ⟨rfl, hq⟩
                  obtain rfl := hq
                  rw [show e18 ea 0 = ea 0 from rfl]
                  clear hsu
                  go_wp2_with fail
                  with_reducible refine hnu.out.mono ?_
                  rintro e w9 ⟨rfl, hb9⟩
                  have hIF := Lib.hid (hI8.out.below hb9)
                  have hlowF := Lib.hid (hlow8.out.trans (hb9.mono (by omega)))
                  clear hnu hb9
                  go_wp2_with fail
                  refine hback.out _ _ (by kernel_rfl) ?_ ?_
                  · simp only [List.getD_cons_zero, List.getD_cons_succ]
                    exact ⟨k + 1, by omega, by go_num, hIF.out, hlowF.out, Nat.le_trans hBSw.out hlowF.out.size⟩
                  · have h59 := h59.out
                    simp only [List.getD_cons_zero, List.getD_cons_succ, h59, intOf]
                    omega
                · have hsu := Lib.hid (dsure_dm hT8.out.d (by have := hpn5.out; omega) x.at_ h1.1 (by have := hpn5.out; omega))
                  obtain ⟨j, hj⟩ : ∃ j : Nat, x.at_ = (j : Int) := ⟨x.at_.toNat, by omega⟩
                  have hjn : j < n := by omega
                  have hjn2 : (j : Int) < n := by omega
                  have hfl : (p.f x.at_).length = 64 := by obtain ⟨_, _, _, hl, _⟩ := hT8.out.d.map; exact hl _
                  with_reducible refine hsu.out.mono ?_
                  rintro e w9 ⟨g, rfl, hsb, hg9, hb9⟩
                  have hs9 := hb9.size
                  have hbx9 := (hb9.block X (by omega)).trans hbx8.out
                  have hT9 := hT8.out.below hb9
                  obtain ⟨gg, ca, ab, cb, t1, t2, t3⟩ := hT9.sector j hjn
                  have hIF' := Lib.hid (hI8.out.below hb9)
                  have hlowF' := Lib.hid (hlow8.out.trans (hb9.mono (by omega)))
                  have hsa : ArgB w9 (some ⟨g, 0, none⟩) 64 (p.f x.at_) := hsb.argB hfl
                  rw [← hj] at t3
                  have w1' : ∀ W : World, Grown w9 W → (convert 36 9 (.slice (some ⟨g, 0, none⟩) 64 64)).run Tryd.prog W = .ok (.string ⟨(p.f x.at_).toArray⟩) W := fun W hW => convB18 (hsa.below hW) 64 hfl
                  have w2' : ∀ W : World, Grown w9 W → (convert 36 9 (.slice ab 64 cb)).run Tryd.prog W = .ok (.string ⟨(p.f x.at_).toArray⟩) W := fun W hW => convB18 (t3.below hW) 64 hfl
                  have l1 : ∀ W : World, Grown w9 W → W.cell? ⟨R, 0, none⟩ = some (.slice (some ⟨gg, 0, none⟩) n ca) := fun W hW => (hW.cell (World.block_lt_of_cell? w9 _ t1)).trans t1
                  have l2 : ∀ W : World, Grown w9 W → W.cell? ⟨gg, j, none⟩ = some (.slice ab 64 cb) := fun W hW => (hW.cell (World.block_lt_of_cell? w9 _ t2)).trans t2
                  have l3 : ∀ W : World, Grown w9 W → W.cell? ⟨X, 1, none⟩ = some (.int .i64 j) := fun W hW => by rw [← hj]; exact (hh.out W ((hW.block X (block_lt hbx9)).trans hbx9)).2.1
                  have l0 : w9.cell? ⟨X, 1, none⟩ = some (.int .i64 j) := l3 w9 (Grown.refl w9)
                  generalize (⟨(p.f x.at_).toArray⟩ : ByteArray) = str at *
                  replace hj := Lib.hid hj
                  replace hb9 := Lib.hid hb9
                  clear hsu hsb t1 t2 t3 hsa hT9 hbx9 cx1 h1 hfl q08
                  go_wp2_with fail
                  refine wp_region_on2 (by kernel_rfl) (fun wd hOn => ?_)
                  refine wpAnyH_take (i := 0) (v := ?_) (by simp only [List.getElem?_toArray, List.getElem?_cons_zero]; rfl) (by kernel_rfl) (by kernel_rfl) (by kernel_rfl) (by exact fun _ _ _ h => h) (Or.inl ⟨by rfl, ?_⟩) hOn ?_
                  rotate_left
                  focus (intro W hSW; go_simp; try with_reducible rfl)
                  try simp only [Act.put, List.setIfInBounds_toArray, List.set_cons_zero, List.set_cons_succ]
                  refine wpAnyH_take (i := 1) (v := ?_) (by simp only [List.getElem?_toArray, List.getElem?_cons_succ, List.getElem?_cons_zero]; rfl) (by kernel_rfl) (by kernel_rfl) (by kernel_rfl) (by exact fun _ _ _ h => h) (Or.inl ⟨by rfl, ?_⟩) hOn ?_
                  rotate_left
                  focus (intro W hSW; go_simp; try with_reducible rfl)
                  try simp only [Act.put, List.setIfInBounds_toArray, List.set_cons_zero, List.set_cons_succ]
                  refine wpAnyH_take (i := 2) (v := ?_) (by simp only [List.getElem?_toArray, List.getElem?_cons_succ, List.getElem?_cons_zero]; rfl) (by kernel_rfl) (by kernel_rfl) (by kernel_rfl) (by exact fun _ _ _ h => h) (Or.inl ⟨by rfl, ?_⟩) hOn ?_
                  rotate_left
                  focus (intro W hSW; go_simp; try with_reducible rfl)
                  try simp only [Act.put, List.setIfInBounds_toArray, List.set_cons_zero, List.set_cons_succ]
                  refine wpAnyH_take (i := 3) (v := ?_) (by simp only [List.getElem?_toArray, List.getElem?_cons_succ, List.getElem?_cons_zero]; rfl) (by kernel_rfl) (by kernel_rfl) (by kernel_rfl) (by exact fun _ _ _ h => h) (Or.inl ⟨by rfl, ?_⟩) hOn ?_
                  rotate_left
                  focus (intro W hSW; go_simp; try with_reducible rfl)
                  try simp only [Act.put, List.setIfInBounds_toArray, List.set_cons_zero, List.set_cons_succ]
                  refine wpAnyH_take (i := 4) (v := ?_) (by simp only [List.getElem?_toArray, List.getElem?_cons_succ, List.getElem?_cons_zero]; rfl) (by kernel_rfl) (by kernel_rfl) (by kernel_rfl) (by exact fun _ _ _ h => h) (Or.inl ⟨by rfl, ?_⟩) hOn ?_
                  rotate_left
                  focus (intro W hSW; go_simp; try with_reducible rfl)
                  try simp only [Act.put, List.setIfInBounds_toArray, List.set_cons_zero, List.set_cons_succ]
                  refine wpAnyH_take (i := 5) (v := ?_) (by simp only [List.getElem?_toArray, List.getElem?_cons_succ, List.getElem?_cons_zero]; rfl) (by kernel_rfl) (by kernel_rfl) (by kernel_rfl) (by exact fun _ _ _ h => h) (Or.inl ⟨by rfl, ?_⟩) hOn ?_
                  rotate_left
                  focus (intro W hSW; go_simp; try with_reducible rfl)
                  try simp only [Act.put, List.setIfInBounds_toArray, List.set_cons_zero, List.set_cons_succ]
                  refine wpAnyH_take (i := 6) (v := ?_) (by simp only [List.getElem?_toArray, List.getElem?_cons_succ, List.getElem?_cons_zero]; rfl) (by kernel_rfl) (by kernel_rfl) (by kernel_rfl) (by exact fun _ _ _ h => h) (Or.inl ⟨by rfl, ?_⟩) hOn ?_
                  rotate_left
                  focus (intro W hSW; go_simp; try with_reducible rfl)
                  try simp only [Act.put, List.setIfInBounds_toArray, List.set_cons_zero, List.set_cons_succ]
                  refine wpAnyH_take (i := 7) (v := ?_) (by simp only [List.getElem?_toArray, List.getElem?_cons_succ, List.getElem?_cons_zero]; rfl) (by kernel_rfl) (by kernel_rfl) (by kernel_rfl) (by exact fun _ _ _ h => h) (Or.inl ⟨by rfl, ?_⟩) hOn ?_
                  rotate_left
                  focus (intro W hSW; go_simp; try with_reducible rfl)
                  try simp only [Act.put, List.setIfInBounds_toArray, List.set_cons_zero, List.set_cons_succ]
                  refine wpAnyH_take (i := 8) (v := ?_) (by simp only [List.getElem?_toArray, List.getElem?_cons_succ, List.getElem?_cons_zero]; rfl) (by kernel_rfl) (by kernel_rfl) (by kernel_rfl) (by exact fun _ _ _ h => h) (Or.inl ⟨by rfl, ?_⟩) hOn ?_
                  rotate_left
                  focus (intro W hSW; go_simp; try with_reducible rfl)
                  try simp only [Act.put, List.setIfInBounds_toArray, List.set_cons_zero, List.set_cons_succ]
                  refine wpAnyH_take (i := 9) (v := ?_) (by simp only [List.getElem?_toArray, List.getElem?_cons_succ, List.getElem?_cons_zero]; rfl) (by kernel_rfl) (by kernel_rfl) (by kernel_rfl) (by exact fun _ _ _ h => h) (Or.inl ⟨by rfl, ?_⟩) hOn ?_
                  rotate_left
                  focus (intro W hSW; go_simp; try with_reducible rfl)
                  try simp only [Act.put, List.setIfInBounds_toArray, List.set_cons_zero, List.set_cons_succ]
                  refine wpAnyH_take (i := 10) (v := ?_) (by simp only [List.getElem?_toArray, List.getElem?_cons_succ, List.getElem?_cons_zero]; rfl) (by kernel_rfl) (by kernel_rfl) (by kernel_rfl) (by exact fun _ _ _ h => h) (Or.inl ⟨by rfl, ?_⟩) hOn ?_
                  rotate_left
                  focus (intro W hSW; go_simp; try with_reducible rfl)
                  try simp only [Act.put, List.setIfInBounds_toArray, List.set_cons_zero, List.set_cons_succ]
                  refine wpAnyH_take (i := 11) (v := ?_) (by simp only [List.getElem?_toArray, List.getElem?_cons_succ, List.getElem?_cons_zero]; rfl) (by kernel_rfl) (by kernel_rfl) (by kernel_rfl) (by exact fun _ _ _ h => h) (Or.inl ⟨by rfl, ?_⟩) hOn ?_
                  rotate_left
                  focus (intro W hSW; go_simp; try with_reducible rfl)
                  try simp only [Act.put, List.setIfInBounds_toArray, List.set_cons_zero, List.set_cons_succ]
                  refine wpAnyH_take (i := 12) (v := ?_) (by simp only [List.getElem?_toArray, List.getElem?_cons_succ, List.getElem?_cons_zero]; rfl) (by kernel_rfl) (by kernel_rfl) (by kernel_rfl) (by exact fun _ _ _ h => h) (Or.inl ⟨by rfl, ?_⟩) hOn ?_
                  rotate_left
                  focus (intro W hSW; go_simp; try with_reducible rfl)
                  try simp only [Act.put, List.setIfInBounds_toArray, List.set_cons_zero, List.set_cons_succ]
                  refine wpAnyH_take (i := 13) (v := ?_) (by simp only [List.getElem?_toArray, List.getElem?_cons_succ, List.getElem?_cons_zero]; rfl) (by kernel_rfl) (by kernel_rfl) (by kernel_rfl) (by exact fun _ _ _ h => h) (Or.inl ⟨by rfl, ?_⟩) hOn ?_
                  rotate_left
                  focus (intro W hSW; go_simp; try with_reducible rfl)
                  try simp only [Act.put, List.setIfInBounds_toArray, List.set_cons_zero, List.set_cons_succ]
                  refine wpAnyH_take (i := 14) (v := ?_) (by simp only [List.getElem?_toArray, List.getElem?_cons_succ, List.getElem?_cons_zero]; rfl) (by kernel_rfl) (by kernel_rfl) (by kernel_rfl) (by exact fun _ _ _ h => h) (Or.inl ⟨by rfl, ?_⟩) hOn ?_
                  rotate_left
                  focus (intro W hSW; go_simp; try with_reducible rfl)
                  try simp only [Act.put, List.setIfInBounds_toArray, List.set_cons_zero, List.set_cons_succ]
                  refine wpAnyH_take (i := 15) (v := ?_) (by simp only [List.getElem?_toArray, List.getElem?_cons_succ, List.getElem?_cons_zero]; rfl) (by kernel_rfl) (by kernel_rfl) (by kernel_rfl) (by exact fun _ _ _ h => h) (Or.inl ⟨by rfl, ?_⟩) hOn ?_
                  rotate_left
                  focus (intro W hSW; go_simp; try with_reducible rfl)
                  try simp only [Act.put, List.setIfInBounds_toArray, List.set_cons_zero, List.set_cons_succ]
                  refine wpAnyH_done (by kernel_rfl) ?_ _
                  all_goals (go_wp2_with fail)
                  all_goals
                    have hIF := Lib.hid (hIF'.out.below hOn)
                    have hlowF := Lib.hid (hlowF'.out.trans (hOn.mono (by omega)))
                    clear hOn
                    refine hback.out _ _ (by kernel_rfl) ?_ ?_
                    · simp only [List.getD_cons_zero, List.getD_cons_succ]
                      exact ⟨k + 1, by omega, by go_num, hIF.out, hlowF.out, Nat.le_trans hBSw.out hlowF.out.size⟩
                    · have h59 := h59.out
                      simp only [List.getD_cons_zero, List.getD_cons_succ, h59, intOf]
                      omega
          · obtain rfl : L = k := by omega
            obtain ⟨p, mn, v, S, hT, hpn, hbn, q0, q5, -, r4⟩ := hI.asks
            have hcp := Lib.hid (dcopy_any hT.d (by omega))
            have hwl : p.ws.length ≤ 60 := by omega
            have hml : mn ≤ 12000 := by omega
            replace hT := Lib.hid hT
            replace hlow := Lib.hid hlow
            replace hpn := Lib.hid hpn
            clear hI hbn hback hA2 q0 q5 r4
            go_wp2_with fail
            with_reducible refine hcp.out.mono ?_
            rintro e w5 ⟨B', mb', v', rfl, hdc, hb5⟩
            have hT5 := hT.out.below hb5
            have hwt := Lib.hid (dwaits_dm hT5.d)
            have hcr := Lib.hid (dcrash_dm hdc (by have := hpn.out; omega) (by omega) (by omega) 100 0 0 0 rfl (by decide) (by decide) (by decide))
            have hdl := Lib.hid (fun k hk => (hdc.lt k hk).1)
            replace hT5 := Lib.hid hT5
            replace hb5 := Lib.hid hb5
            clear hcp hdc
            go_wp2_with fail
            with_reducible refine hwt.out.mono ?_
            rintro e w6 ⟨rfl, hq⟩
            obtain rfl := hq
            have hbc : ∀ W, (Instr.build 25 #[(0, .int .i64 100)]).run Tryd.prog W = .ok (.agg #[.int .i64 100, .int .i64 0, .int .u64 0]) W := fun W => by kernel_rfl
            clear hwt
            go_wp2_with fail
            with_reducible refine hcr.out.mono ?_
            rintro e w6 ⟨rfl, mn6, hm6, hst⟩
            have hd6 : DM BS w6 B mb mn v p := hT5.out.d.only hst.only (fun k hk hd => by have h1 := hdl.out k hd; have h2 := (hT.out.lt.1 k hk).2; omega)
            have hr6 : RM BS w6 R n p S := hT5.out.r.only hst.only (fun k hk hd => by have h1 := hdl.out k hd; have h2 := (hT.out.lt.2 k hk).2; omega)
            have hlow6 := Lib.hid (hlow.out.trans ((hb5.out.mono hsz).trans (hst.only.below (Nat.le_trans hsz hb5.out.size) (fun k hd => Nat.le_trans hsz (hdl.out k hd)))))
            have hwd := Lib.hid (fun (W : World) (hW : Grown w6 W) => dwaits_dm (hd6.below hW))
            have hwc := Lib.hid (fun (W : World) (hW : Grown w6 W) => dwaits_dm (hst.ok.below hW))
            have hgd := Lib.hid (fun (W : World) (hW : Grown w6 W) => dgone_any B p.gone W (by rw [(hd6.below hW).cell]; rfl))
            have l4 : ∀ W : World, Grown w6 W → W.cell? ⟨R, 4, none⟩ = some (.bool p.gone) := fun W hW => by
              obtain ⟨va, vw, F, rl, hr, _⟩ := hr6.below hW
              rw [hr.c]; rfl
            have hd0 : Hid (Grown w6 w6.drew) := Lib.hid (Grown.drew (Grown.refl w6))
            clear hcr hst hd6 hr6 hm6 hbc
            simp only [DP.crash, List.length_nil] at hwc
            go_wp2_with fail
            refine wp_region_held_drew (S := (Grown w6)) (by kernel_rfl) hd0.out (fun hOn => ?_)
            generalize World.drew w6 = wd at *
            refine wpAnyH_take (i := 0) (v := ?_) (by simp only [List.getElem?_toArray, List.getElem?_cons_zero]; rfl) (by kernel_rfl) (by kernel_rfl) (by kernel_rfl) (by exact fun _ _ _ h => h) (Or.inl ⟨by rfl, ?_⟩) hOn ?_
            rotate_left
            focus (intro W hSW; go_simp; try with_reducible rfl)
            try simp only [Act.put, List.setIfInBounds_toArray, List.set_cons_zero, List.set_cons_succ]
            refine wpAnyH_take (i := 2) (v := ?_) (by simp only [List.getElem?_toArray, List.getElem?_cons_succ, List.getElem?_cons_zero]; rfl) (by kernel_rfl) (by kernel_rfl) (by kernel_rfl) (by exact fun _ _ _ h => h) (Or.inl ⟨by rfl, ?_⟩) hOn ?_
            rotate_left
            focus (intro W hSW; go_simp; try with_reducible rfl)
            try simp only [Act.put, List.setIfInBounds_toArray, List.set_cons_zero, List.set_cons_succ]
            refine wpAnyH_ready (rs := [1]) (by kernel_rfl) (by simp) ?_
            refine AllReadyH.cons (by simp only [List.getElem?_toArray, List.getElem?_cons_succ, List.getElem?_cons_zero]; rfl) (fun Kz hKz => ?_) AllReadyH.nil
            go_simp
            (with_reducible refine (hwd.out _ hOn).mono ?_)
            rintro e w7 ⟨rfl, hq⟩
            obtain rfl := hq
            have hS := hOn
            focus (go_wp2_with fail)
            refine hKz.out _ _ (by first | exact hS | exact Below.trans hOn (Below.mono hnew (Below.size hOn))) (fun hNext => ?_)
            clear hKz Kz hOn
            have hOn := hNext
            clear hNext
            try clear hnew
            try clear hS
            try simp only [Act.put, List.setIfInBounds_toArray, List.set_cons_zero, List.set_cons_succ]
            refine wpAnyH_take (i := 3) (v := ?_) (by simp only [List.getElem?_toArray, List.getElem?_cons_succ, List.getElem?_cons_zero]; rfl) (by kernel_rfl) (by kernel_rfl) (by kernel_rfl) (by exact fun _ _ _ h => h) (Or.inl ⟨by rfl, ?_⟩) hOn ?_
            rotate_left
            focus (intro W hSW; go_simp; try with_reducible rfl)
            try simp only [Act.put, List.setIfInBounds_toArray, List.set_cons_zero, List.set_cons_succ]
            refine wpAnyH_take (i := 4) (v := ?_) (by simp only [List.getElem?_toArray, List.getElem?_cons_succ, List.getElem?_cons_zero]; rfl) (by kernel_rfl) (by kernel_rfl) (by kernel_rfl) (by exact fun _ _ _ h => h) (Or.inl ⟨by rfl, ?_⟩) hOn ?_
            rotate_left
            focus (intro W hSW; go_simp; try with_reducible rfl)
            try simp only [Act.put, List.setIfInBounds_toArray, List.set_cons_zero, List.set_cons_succ]
            refine wpAnyH_take (i := 5) (v := ?_) (by simp only [List.getElem?_toArray, List.getElem?_cons_succ, List.getElem?_cons_zero]; rfl) (by kernel_rfl) (by kernel_rfl) (by kernel_rfl) (by exact fun _ _ _ h => h) (Or.inl ⟨by rfl, ?_⟩) hOn ?_
            rotate_left
            focus (intro W hSW; go_simp; try with_reducible rfl)
            try simp only [Act.put, List.setIfInBounds_toArray, List.set_cons_zero, List.set_cons_succ]
            refine wpAnyH_ready (rs := [6]) (by kernel_rfl) (by simp) ?_
            refine AllReadyH.cons (by simp only [List.getElem?_toArray, List.getElem?_cons_succ, List.getElem?_cons_zero]; rfl) (fun Kz hKz => ?_) AllReadyH.nil
            go_simp
            (with_reducible refine (hwc.out _ hOn).mono ?_)
            rintro e w7 ⟨rfl, hq⟩
            obtain rfl := hq
            have hS := hOn
            focus (go_wp2_with fail)
            refine hKz.out _ _ (by first | exact hS | exact Below.trans hOn (Below.mono hnew (Below.size hOn))) (fun hNext => ?_)
            clear hKz Kz hOn
            have hOn := hNext
            clear hNext
            try clear hnew
            try clear hS
            try simp only [Act.put, List.setIfInBounds_toArray, List.set_cons_zero, List.set_cons_succ]
            refine wpAnyH_take (i := 7) (v := ?_) (by simp only [List.getElem?_toArray, List.getElem?_cons_succ, List.getElem?_cons_zero]; rfl) (by kernel_rfl) (by kernel_rfl) (by kernel_rfl) (by exact fun _ _ _ h => h) (Or.inl ⟨by rfl, ?_⟩) hOn ?_
            rotate_left
            focus (intro W hSW; go_simp; try with_reducible rfl)
            try simp only [Act.put, List.setIfInBounds_toArray, List.set_cons_zero, List.set_cons_succ]
            refine wpAnyH_take (i := 8) (v := ?_) (by simp only [List.getElem?_toArray, List.getElem?_cons_succ, List.getElem?_cons_zero]; rfl) (by kernel_rfl) (by kernel_rfl) (by kernel_rfl) (by exact fun _ _ _ h => h) (Or.inl ⟨by rfl, ?_⟩) hOn ?_
            rotate_left
            focus (intro W hSW; go_simp; try with_reducible rfl)
            try simp only [Act.put, List.setIfInBounds_toArray, List.set_cons_zero, List.set_cons_succ]
            refine wpAnyH_take (i := 9) (v := ?_) (by simp only [List.getElem?_toArray, List.getElem?_cons_succ, List.getElem?_cons_zero]; rfl) (by kernel_rfl) (by kernel_rfl) (by kernel_rfl) (by exact fun _ _ _ h => h) (Or.inl ⟨by rfl, ?_⟩) hOn ?_
            rotate_left
            focus (intro W hSW; go_simp; try with_reducible rfl)
            try simp only [Act.put, List.setIfInBounds_toArray, List.set_cons_zero, List.set_cons_succ]
            refine wpAnyH_take (i := 10) (v := ?_) (by simp only [List.getElem?_toArray, List.getElem?_cons_succ, List.getElem?_cons_zero]; rfl) (by kernel_rfl) (by kernel_rfl) (by kernel_rfl) (by exact fun _ _ _ h => h) (Or.inl ⟨by rfl, ?_⟩) hOn ?_
            rotate_left
            focus (intro W hSW; go_simp; try with_reducible rfl)
            try simp only [Act.put, List.setIfInBounds_toArray, List.set_cons_zero, List.set_cons_succ]
            refine wpAnyH_take (i := 12) (v := ?_) (by simp only [List.getElem?_toArray, List.getElem?_cons_succ, List.getElem?_cons_zero]; rfl) (by kernel_rfl) (by kernel_rfl) (by kernel_rfl) (by exact fun _ _ _ h => h) (Or.inl ⟨by rfl, ?_⟩) hOn ?_
            rotate_left
            focus (intro W hSW; go_simp; try with_reducible rfl)
            try simp only [Act.put, List.setIfInBounds_toArray, List.set_cons_zero, List.set_cons_succ]
            refine wpAnyH_take (i := 13) (v := ?_) (by simp only [List.getElem?_toArray, List.getElem?_cons_succ, List.getElem?_cons_zero]; rfl) (by kernel_rfl) (by kernel_rfl) (by kernel_rfl) (by exact fun _ _ _ h => h) (Or.inl ⟨by rfl, ?_⟩) hOn ?_
            rotate_left
            focus (intro W hSW; go_simp; try with_reducible rfl)
            try simp only [Act.put, List.setIfInBounds_toArray, List.set_cons_zero, List.set_cons_succ]
            refine wpAnyH_take (i := 14) (v := ?_) (by simp only [List.getElem?_toArray, List.getElem?_cons_succ, List.getElem?_cons_zero]; rfl) (by kernel_rfl) (by kernel_rfl) (by kernel_rfl) (by exact fun _ _ _ h => h) (Or.inl ⟨by rfl, ?_⟩) hOn ?_
            rotate_left
            focus (intro W hSW; go_simp; try with_reducible rfl)
            try simp only [Act.put, List.setIfInBounds_toArray, List.set_cons_zero, List.set_cons_succ]
            refine wpAnyH_take (i := 15) (v := ?_) (by simp only [List.getElem?_toArray, List.getElem?_cons_succ, List.getElem?_cons_zero]; rfl) (by kernel_rfl) (by kernel_rfl) (by kernel_rfl) (by exact fun _ _ _ h => h) (Or.inl ⟨by rfl, ?_⟩) hOn ?_
            rotate_left
            focus (intro W hSW; go_simp; try with_reducible rfl)
            try simp only [Act.put, List.setIfInBounds_toArray, List.set_cons_zero, List.set_cons_succ]
            refine wpAnyH_ready (rs := [11]) (by kernel_rfl) (by simp) ?_
            refine AllReadyH.cons (by simp only [List.getElem?_toArray, List.getElem?_cons_succ, List.getElem?_cons_zero]; rfl) (fun Kz hKz => ?_) AllReadyH.nil
            go_simp
            (with_reducible refine (hgd.out _ hOn).mono ?_)
            rintro e w7 ⟨rfl, hq⟩
            obtain rfl := hq
            have hS := hOn
            focus (go_wp2_with fail)
            refine hKz.out _ _ (by first | exact hS | exact Below.trans hOn (Below.mono hnew (Below.size hOn))) (fun hNext => ?_)
            clear hKz Kz hOn
            have hOn := hNext
            clear hNext
            try clear hnew
            try clear hS
            try simp only [Act.put, List.setIfInBounds_toArray, List.set_cons_zero, List.set_cons_succ]
            refine wpAnyH_take (i := 16) (v := ?_) (by simp only [List.getElem?_toArray, List.getElem?_cons_succ, List.getElem?_cons_zero]; rfl) (by kernel_rfl) (by kernel_rfl) (by kernel_rfl) (by exact fun _ _ _ h => h) (Or.inl ⟨by rfl, ?_⟩) hOn ?_
            rotate_left
            focus (intro W hSW; go_simp; try with_reducible rfl)
            try simp only [Act.put, List.setIfInBounds_toArray, List.set_cons_zero, List.set_cons_succ]
            refine wpAnyH_take (i := 17) (v := ?_) (by simp only [List.getElem?_toArray, List.getElem?_cons_succ, List.getElem?_cons_zero]; rfl) (by kernel_rfl) (by kernel_rfl) (by kernel_rfl) (by exact fun _ _ _ h => h) (Or.inl ⟨by rfl, ?_⟩) hOn ?_
            rotate_left
            focus (intro W hSW; go_simp; try with_reducible rfl)
            try simp only [Act.put, List.setIfInBounds_toArray, List.set_cons_zero, List.set_cons_succ]
            refine wpAnyH_take (i := 18) (v := ?_) (by simp only [List.getElem?_toArray, List.getElem?_cons_succ, List.getElem?_cons_zero]; rfl) (by kernel_rfl) (by kernel_rfl) (by kernel_rfl) (by exact fun _ _ _ h => h) (Or.inl ⟨by rfl, ?_⟩) hOn ?_
            rotate_left
            focus (intro W hSW; go_simp; try with_reducible rfl)
            try simp only [Act.put, List.setIfInBounds_toArray, List.set_cons_zero, List.set_cons_succ]
            refine wpAnyH_done (by kernel_rfl) ?_ _
            all_goals (go_wp2_with fail)
            all_goals
              go_ret
              exact ⟨rfl, hfinB.out _ (hlow6.out.trans (hOn.mono (by have := hlow6.out.size; have := hBSw.out; omega)))⟩

end Go.Proofs.YtdgilgnaoifpcaaDoor
