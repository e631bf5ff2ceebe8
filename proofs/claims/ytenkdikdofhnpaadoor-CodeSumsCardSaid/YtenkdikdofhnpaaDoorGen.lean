/- The generator: code.Generator, the reference's Generator. -/
import Derived.Test.YtenkdikdofhnpaaDoorRoots
import Derived.Test.YtenkdikdofhnpaaDoorRef1
namespace Go.Proofs.YtenkdikdofhnpaaDoor
open Go.RowKit

def genP : List UInt8 := rootsOf (tab 32 Gf.gexp)
/-- One more root, the reference's way. -/
def shiftAt (p : List UInt8) (j : Nat) : UInt8 := if j = 0 then 0 else cf p (j - 1)
def stepAt (p : List UInt8) (r : UInt8) (j : Nat) : UInt8 := Gf.add (shiftAt p j) (Gf.mul (cf p j) r)
def stepTo (p : List UInt8) (r : UInt8) (i j : Nat) : UInt8 := if j < i then stepAt p r j else if j = i then shiftAt p i else 0
def rstep (p : List UInt8) (r : UInt8) : List UInt8 := tab (p.length + 1) (stepAt p r)
def rgen : Nat → List UInt8
  | 0 => [1]
  | k + 1 => rstep (rgen k) (Gf.gexp k)
theorem rgen_length : ∀ k, (rgen k).length = k + 1
  | 0 => rfl
  | k + 1 => by simp only [rgen, rstep, tab_length, rgen_length k]
theorem rgen_gen : rgen 32 = genP := by decide +kernel
theorem genP_length : genP.length = 33 := by decide +kernel
theorem genP_one : cf genP 32 = 1 := by decide +kernel

theorem stepTo_zero (p : List UInt8) (r : UInt8) : stepTo p r 0 = fun _ => 0 := by
  funext j
  unfold stepTo
  rw [if_neg (Nat.not_lt_zero j)]
  split
  · rfl
  · rfl
theorem stepTo_full (p : List UInt8) (r : UInt8) : tab (p.length + 1) (stepTo p r p.length) = rstep p r := by
  refine tab_congr fun j hj => ?_
  unfold stepTo
  by_cases h : j < p.length
  · rw [if_pos h]
  · obtain rfl : j = p.length := by omega
    rw [if_neg h, if_pos rfl]
    unfold stepAt
    rw [cf_ge (Nat.le_refl _), Gf.mul_zero_left, Gf.add_zero]
theorem tab_set (n : Nat) (f : Nat → UInt8) (i : Nat) (x : UInt8) : (tab n f).set i x = tab n fun j => if j = i then x else f j := by
  apply cf_ext (by simp [tab_length])
  intro j
  by_cases hj : j < n
  · rw [cf_tab, if_pos hj]
    unfold cf
    rw [List.getD_eq_getElem?_getD, List.getElem?_set]
    by_cases h : i = j
    · subst h
      rw [if_pos rfl, if_pos (by rw [tab_length]; exact hj), if_pos rfl]; rfl
    · rw [if_neg h, if_neg (fun e => h e.symm), ← List.getD_eq_getElem?_getD]
      have := cf_tab n f j
      rw [if_pos hj] at this
      exact this
  · rw [cf_ge (by simp [tab_length]; omega), cf_ge (by simp [tab_length]; omega)]
theorem stepTo_at (p : List UInt8) (r : UInt8) (i n : Nat) (h : i < n) : cf (tab n (stepTo p r i)) i = shiftAt p i := by
  rw [cf_tab, if_pos h]; unfold stepTo; rw [if_neg (Nat.lt_irrefl i), if_pos rfl]
theorem stepTo_mid (p : List UInt8) (r : UInt8) (i n : Nat) (h : i + 1 < n) : cf (tab n (stepTo p r i)) (i + 1) = 0 := by
  rw [cf_tab, if_pos h]; unfold stepTo; rw [if_neg (by omega), if_neg (by omega)]
theorem stepTo_next (p : List UInt8) (r : UInt8) (i n : Nat) : ((tab n (stepTo p r i)).set i (Gf.add (shiftAt p i) (Gf.mul (cf p i) r))).set (i + 1) (Gf.add 0 (cf p i)) = tab n (stepTo p r (i + 1)) := by
  rw [tab_set, tab_set]
  refine tab_congr fun j hj => ?_
  unfold stepTo
  by_cases h1 : j = i + 1
  · subst h1
    rw [if_pos rfl, if_neg (by omega), if_pos rfl, Gf.zero_add]
    unfold shiftAt
    rw [if_neg (by omega), Nat.add_sub_cancel]
  · rw [if_neg h1]
    by_cases h2 : j = i
    · subst h2
      rw [if_pos rfl, if_pos (by omega)]; rfl
    · rw [if_neg h2]
      by_cases h3 : j < i
      · rw [if_pos h3, if_pos (by omega)]
      · rw [if_neg h3, if_neg h2, if_neg (by omega), if_neg h1]

theorem rgen_root (k : Nat) : Gf.mul (Gf.gexp k) 2 = Gf.gexp (k + 1) := by
  rw [show (2 : UInt8) = Gf.gexp 1 from by decide +kernel, Gf.exp_add]

set_option maxHeartbeats 1000000 in
theorem gen_any (w : World) : Calls Tryd.prog 25 #[] w fun e w' => ∃ v, e = .returned v ∧ OwnB w.heap.size w' v genP ∧ Below w.heap.size w w' := by
  have hown0 := Lib.hid (OwnB.nil w.heap.size w)
  have hb0 := Lib.hid (Below.refl w.heap.size w)
  go_enter Tryd.func25, Tryd.ntmps25
  go_wp2_with fail
  go_loopw [1, 2, 3] (fun v _ j wr => ∃ k : Nat, k ≤ 32 ∧ j = .int .i64 k ∧ OwnB w.heap.size wr v (tab k Gf.gexp) ∧ Below w.heap.size w wr)
    (fun _ _ j _ => 32 - (intOf j).toNat)
  case atStart => exact ⟨0, Nat.zero_le _, rfl, hown0.out, hb0.out⟩
  case round =>
    clear hown0 hb0
    obtain ⟨k, hk, rfl, hown, hbel⟩ := hrel
    have hsz := hbel.size
    replace hbel := Lib.hid hbel
    replace hown := Lib.hid hown
    by_cases hlt : k < 32
    · have hex := ex_of_lt (k : Int) (by omega)
      rw [Int.toNat_natCast] at hex
      have hs := Lib.hid (tab_succ k Gf.gexp)
      have hl := Lib.hid (tab_length k Gf.gexp)
      have hcall := fun W => exp_any (k : Int) W
      rw [hex] at hcall
      generalize Gf.gexp k = x at *
      replace hcall := Lib.hid hcall
      go_wp2_with fail
      with_reducible refine (hcall.out _).mono ?_
      rintro e w1 ⟨rfl, rfl⟩
      go_wp2_with (at_builtin; go_must (refine wpB_app1 rfl (.tmp 6) (.tmp 9) rfl w.heap.size _ _ rfl hown x rfl (by rw [hl.out]; omega) hsz ?_))
      intro v' w' ho' hb'
      replace hb' := Lib.hid (hbel.out.trans hb'.out)
      go_wp2_with fail
      go_roundw
      case rel => exact ⟨k + 1, by omega, by go_num, by rw [hs.out]; exact ho'.out, hb'.out⟩
      case measure => simp [intOf]; omega
    · obtain rfl : k = 32 := by omega
      obtain ⟨ao, co, rfl, harg, _⟩ := hown.out.arg
      have hl := tab_length 32 Gf.gexp
      have hcall := roots_any ao co (tab 32 Gf.gexp) wr harg (by rw [hl]; omega)
      rw [hl] at hcall ⊢
      replace hcall := Lib.hid hcall
      clear harg hown
      go_wp2_with fail
      with_reducible refine hcall.out.mono ?_
      rintro e w2 ⟨v, rfl, ho, hb2⟩
      replace ho := Lib.hid (ho.mono hsz)
      replace hb2 := Lib.hid (hbel.out.trans (hb2.mono hsz))
      go_wp2_with fail
      go_ret
      exact ⟨_, rfl, ho.out, hb2.out⟩

set_option maxRecDepth 10000 in
set_option maxHeartbeats 2000000 in
theorem rgen_any (w : World) : Calls Tryd.prog 26 #[] w fun e w' => ∃ v, e = .returned v ∧ OwnB w.heap.size w' v genP ∧ Below w.heap.size w w' := by
  obtain ⟨i0, hi, hz0, hz1, hz2⟩ := info_parts Tryd.infoByteP
  have hown0 := Lib.hid (own_lit w [1] #[.int .u8 1] rfl (by simp))
  have hb0 := Lib.hid ((Below.refl w.heap.size w).alloc (Nat.le_refl _) (.cells #[.int .u8 1] 5))
  go_enter Tryd.func26, Tryd.ntmps26
  go_wp2_with fail
  go_loopw [1, 2, 3, 4, 5, 6] (fun v r j _ _ _ wr => ∃ k : Nat, k ≤ 32 ∧ j = .int .i64 k ∧ r = .int .u8 ((Gf.gexp k).toNat : Int) ∧ OwnB w.heap.size wr v (rgen k) ∧ Below w.heap.size w wr)
    (fun _ _ j _ _ _ _ => 32 - (intOf j).toNat)
  case atStart => exact ⟨0, Nat.zero_le _, rfl, rfl, hown0.out, hb0.out⟩
  case round =>
    clear hown0 hb0
    obtain ⟨k, hk, rfl, rfl, hown, hbel⟩ := hrel
    have hsz := hbel.size
    replace hbel := Lib.hid hbel
    by_cases hlt : k < 32
    · have hl := rgen_length k
      have hs1 := Lib.hid (show rgen (k + 1) = rstep (rgen k) (Gf.gexp k) from rfl)
      have hs2 := Lib.hid (rgen_root k)
      generalize hG : rgen k = p at *
      clear hG
      generalize Gf.gexp k = r at *
      obtain ⟨a, c, rfl, harg, _⟩ := hown.arg
      clear hown
      rw [hl]
      replace hl := Lib.hid hl
      replace harg := Lib.hid harg
      generalize wr = W1 at *
      go_wp2_with (at_make; go_must (refine wpList_make_full _ rfl _ _ 22 rfl W1.heap.size 5 i0 (.int .u8 0) 1 Tryd.underlying22 hi hz0 hz1 _ _ _ _ (k + 1 + 1) rfl rfl (by simp) (by simp) (by rw [hz2]; omega) (by unfold maxLen; omega) (Nat.le_refl _) ?_))
      intro w2 hown2 hg2
      have hq := Lib.hid (OwnB.made hown2)
      have hb2 := Lib.hid ((Below.refl W1.heap.size W1).grown hg2 (Nat.le_refl _) (fun k hk => by cases hk))
      clear hown2 hg2
      have hlo : p.length ≤ 33 := by have := hl.out; omega
      go_wp2_with fail
      go_loopw [5, 6, 18] (fun _ _ j wq => ∃ i : Nat, i ≤ k + 1 ∧ j = .int .i64 i ∧ OwnB W1.heap.size wq (.slice (some ⟨W1.heap.size, 0, none⟩) (k + 1 + 1) (k + 1 + 1)) (tab (k + 1 + 1) (stepTo p r i)) ∧ Below W1.heap.size W1 wq)
        (fun _ _ j _ => k + 1 - (intOf j).toNat)
      case atStart => exact ⟨0, Nat.zero_le _, rfl, by rw [stepTo_zero]; exact hq.out, hb2.out⟩
      case round =>
        clear hq hb2
        obtain ⟨i, hi1, rfl, hq, hbq⟩ := hrel
        replace hq := Lib.hid hq
        replace hbq := Lib.hid hbq
        by_cases hii : i < k + 1
        · obtain ⟨xb, xo, rfl, cx⟩ := (harg.out.below hbq.out).row i (by rw [hl.out]; exact hii)
          rw [show p.getD i 0 = cf p i from rfl] at cx
          have hnx := stepTo_next p r i (k + 1 + 1)
          have c1 := hq.out.cell (tab_length _ _).symm (j := i) (by omega)
          rw [stepTo_at _ _ _ _ (by omega)] at c1
          have c2 := hq.out.cell (tab_length _ _).symm (j := i + 1) (by omega)
          rw [stepTo_mid _ _ _ _ (by omega)] at c2
          have f1 := hq.out.free (tab_length _ _).symm i
          have f2 := hq.out.free (tab_length _ _).symm (i + 1)
          have hset := hq.out.set (tab_length _ _).symm i (Gf.add (shiftAt p i) (Gf.mul (cf p i) r))
          have hset2 := hset.set (by simp [tab_length]) (i + 1) (Gf.add 0 (cf p i))
          rw [hnx] at hset2
          clear hnx hset
          replace hset2 := Lib.hid hset2
          generalize cf p i = x at *
          generalize shiftAt p i = y at *
          go_wp2_with fail
          go_region_with (go_at_call 34; refine (refmul_any x r _).mono ?_; rintro e w' ⟨rfl, rfl⟩)
          all_goals
            go_wp2_with fail
            refine ⟨⟨i + 1, by omega, by go_num, ?_, ?_⟩, ?_⟩
            · rw [xor_u8, show bits BinOp.xor IntKind.u8 0 (x.toNat : Int) = ((Gf.add 0 x).toNat : Int) from xor_u8 0 x]
              exact hset2.out
            · exact Below.trans ((hbq.out.setCell (p := ⟨W1.heap.size, i, none⟩) (Nat.le_refl _) _).setCell (p := ⟨W1.heap.size, i + 1, none⟩) (Nat.le_refl _) _) (Drawn.below ⟨1, rfl⟩ _)
            · simp [intOf]; omega
        · obtain rfl : i = k + 1 := by omega
          have hfull : OwnB W1.heap.size wr (.slice (some ⟨W1.heap.size, 0, none⟩) (k + 1 + 1) (k + 1 + 1)) (rgen (k + 1)) := by
            have h1 := hq.out
            rw [hs1.out, ← stepTo_full, hl.out]
            exact h1
          go_wp2_with fail
          refine (refmul_any r 2 _).mono ?_
          rintro e w4 ⟨rfl, rfl⟩
          go_wp2_with fail
          go_roundw
          case rel => exact ⟨k + 1, by omega, by go_num, by rw [hs2.out], hfull.mono hsz, hbel.out.trans (hbq.out.mono hsz)⟩
          case measure => simp [intOf]; omega
    · obtain rfl : k = 32 := by omega
      rw [rgen_gen] at hown
      replace hown := Lib.hid hown
      go_wp2_with fail
      go_ret
      exact ⟨_, rfl, hown.out, hbel.out⟩

end Go.Proofs.YtenkdikdofhnpaaDoor
