/- Walks over Seen.List; the reference's Greatest, Old, Has. -/
import Derived.Test.YtfagjlfnmkfjoaaSmall
import Derived.Test.YtfagjlfnmkfjoaaOwnI
import Derived.Test.YtfagjlfnmkfjoaaShelf
import Derived.Lib.ItoaNum
namespace Go.Proofs.Ytfagjlfnmkfjoaa
open Go.RowKit

/-! ### the highest bit -/
theorem top_bounds (x : Nat) (h0 : x ≠ 0) (h : x < 18446744073709551616) : 1 ≤ Lib.bitLen x ∧ 2 ^ (Lib.bitLen x - 1) ≤ x ∧ x < 2 ^ Lib.bitLen x ∧ Lib.bitLen x ≤ 64 := by
  obtain ⟨h1, h2, h3⟩ := Lib.bitLenAux_bounds 64 x (by rw [← two64]; exact h) h0
  exact ⟨h1, h2, h3, Lib.bitLen_le x 64 (Nat.le_refl _) (by rw [← two64]; exact h)⟩
theorem pList_low (g : Int) (c d : Nat) : ∀ n, (∀ k, k < n → c.testBit k = d.testBit k) → pList g c n = pList g d n
  | 0, _ => rfl
  | n + 1, h => by
    have ih := pList_low g c d n (fun k hk => h k (by omega))
    unfold pList
    rw [h n (by omega), ih]
theorem pList_top (g : Int) (x : Nat) (k : Nat) (hk : k < 64) (h1 : 2 ^ k ≤ x) (h2 : x < 2 ^ (k + 1)) : pList g x 64 = (g - (k : Int)) :: pList g (x - 2 ^ k) 64 := by
  have h3 : x - 2 ^ k < 2 ^ k := by rw [Nat.pow_succ] at h2; omega
  have e1 : pList g x 64 = pList g x (k + 1) := pList_skip g x (k + 1) 64 (by omega) (Nat.lt_of_le_of_lt (Nat.mod_le _ _) h2)
  have e2 : pList g (x - 2 ^ k) 64 = pList g (x - 2 ^ k) k := pList_skip g (x - 2 ^ k) k 64 (by omega) (Nat.lt_of_le_of_lt (Nat.mod_le _ _) h3)
  have hx : x = 2 ^ k + (x - 2 ^ k) := by omega
  have hb : x.testBit k = true := by
    rw [hx, Nat.testBit_two_pow_add_eq, Nat.testBit_lt_two_pow h3]; rfl
  rw [e1, e2]
  conv => lhs; unfold pList
  rw [hb, if_pos rfl]
  congr 1
  refine pList_low g _ _ k fun j hj => ?_
  conv => lhs; rw [hx]
  exact Nat.testBit_two_pow_add_gt hj _
theorem andNot_top (x k : Nat) (hk : k < 64) (h1 : 2 ^ k ≤ x) (h2 : x < 2 ^ (k + 1)) (hx : x < 18446744073709551616) : bits BinOp.andNot IntKind.u64 x (IntKind.u64.wrap (2 ^ k)) = ((x - 2 ^ k : Nat) : Int) := by
  have hp : 2 ^ k < 18446744073709551616 := by
    have := Nat.pow_lt_pow_right (a := 2) (by omega) hk
    simpa using this
  have e : ((2 : Int) ^ k) = ((2 ^ k : Nat) : Int) := by push_cast; rfl
  rw [e, wrap_u64_nat, Nat.mod_eq_of_lt hp, u64_andNot_nat _ _ hx hp]
  congr 1
  have h3 : x - 2 ^ k < 2 ^ k := by rw [Nat.pow_succ] at h2; omega
  have hxe : x = 2 ^ k + (x - 2 ^ k) := by omega
  apply Nat.eq_of_testBit_eq
  intro j
  rw [Nat.testBit_and, show 18446744073709551615 - 2 ^ k = 2 ^ 64 - (2 ^ k + 1) from by rw [← two64]; omega, Nat.testBit_two_pow_sub_succ (by rw [← two64]; exact hp), Nat.testBit_two_pow]
  rcases Nat.lt_trichotomy j k with hj | hj | hj
  · have : x.testBit j = (x - 2 ^ k).testBit j := by
      conv => lhs; rw [hxe]
      exact Nat.testBit_two_pow_add_gt hj _
    rw [this]
    simp [show j < 64 from by omega, show k ≠ j from by omega]
  · subst hj
    rw [Nat.testBit_lt_two_pow h3]
    simp
  · have a1 : x.testBit j = false := Nat.testBit_lt_two_pow (Nat.lt_of_lt_of_le h2 (Nat.pow_le_pow_right (by omega) hj))
    have a2 : (x - 2 ^ k).testBit j = false := Nat.testBit_lt_two_pow (Nat.lt_of_lt_of_le h3 (Nat.pow_le_pow_right (by omega) (by omega)))
    rw [a1, a2]; rfl


theorem len64_any (x : Nat) (w : World) (h : x < 18446744073709551616) : Calls Try.prog 20 #[.int .u64 (x : Int)] w fun e w' => e = .returned (.int .i64 (Lib.bitLen x)) ∧ w' = w := by
  have := Try.bits_Len64 (x : Int) w (by omega) (by omega)
  simpa using this

set_option maxHeartbeats 1000000 in
theorem list_any (any : Bool) (g : Int) (c : Nat) (b : Nat) (w : World) (hb : w.heap[b]? = some (seen any g c)) (hg : 0 ≤ g ∧ g ≤ 1099511627776) (hc : c < 18446744073709551616) :
    Calls Try.prog 18 #[.pointer (some ⟨b, 0, none⟩)] w fun e w' => ∃ v, e = .returned v ∧ OwnI w.heap.size w' v (pList g c 64) ∧ Below w.heap.size w w' := by
  have hblt := block_lt hb
  have hbh := Lib.hid hb
  obtain ⟨⟨h0, h1, h2⟩, _⟩ := cells3 hb
  clear hb
  go_enter Try.func18, Try.ntmps18
  go_wp2_with fail
  clear h0 h1 h2
  go_loopw [3, 4] (fun v j wr => ∃ (x : Nat) (xs : List Int), x < 18446744073709551616 ∧ j = .int .u64 x ∧ OwnI w.heap.size wr v xs ∧ xs ++ pList g x 64 = pList g c 64 ∧ Below w.heap.size w wr) (fun _ j _ => (intOf j).toNat)
  case atStart => exact ⟨c, [], hc, rfl, OwnI.nil _ _, by simp, Below.refl _ _⟩
  case round =>
    obtain ⟨x, xs, hx, rfl, hown, hl, hbel⟩ := hrel
    have hxl : xs.length ≤ 64 := by
      have := congrArg List.length hl
      have h2 := pList_length g c 64
      simp only [List.length_append] at this
      omega
    have hsz := hbel.size
    by_cases h0 : x = 0
    · subst h0
      have e : pList g 0 64 = [] := by rw [pList_skip g 0 0 64 (by omega) (by simp)]; rfl
      rw [e, List.append_nil] at hl
      subst hl
      replace hown := Lib.hid hown
      replace hbel := Lib.hid hbel
      clear hbh
      go_wp2_with fail
      go_ret
      exact ⟨_, rfl, hown.out, hbel.out⟩
    · obtain ⟨t1, t2, t3, t4⟩ := top_bounds x h0 hx
      have hbr := (hbel.block b hblt).trans hbh.out
      obtain ⟨⟨r0, r1, r2⟩, _⟩ := cells3 hbr
      clear hbr
      obtain ⟨k, hk⟩ : ∃ k, k = Lib.bitLen x - 1 := ⟨_, rfl⟩
      have hlen := len64_any x wr hx
      rw [show Lib.bitLen x = k + 1 from by omega] at hlen t3
      rw [← hk] at t2
      have ht := pList_top g x k (by omega) t2 t3
      have ha := Lib.hid (andNot_top x k (by omega) t2 t3 hx)
      rw [ht] at hl
      have hk64 : k < 64 := by omega
      have hp2 : 0 < 2 ^ k := Nat.pow_pos (by omega)
      have hm : x - 2 ^ k < x := by omega
      clear t1 t2 t3 t4 ht hk
      replace hown := Lib.hid hown
      replace hbel := Lib.hid hbel
      replace hl := Lib.hid hl
      have hne : ((x : Int) == 0) = false := by rw [beq_eq_false_iff_ne]; omega
      replace hlen := Lib.hid hlen
      go_wp2_with fail
      refine hlen.out.mono ?_
      rintro e w' ⟨rfl, rfl⟩
      go_wp2_with (at_builtin; go_must (refine wpI_app1 rfl _ _ rfl w.heap.size _ xs rfl hown (g - k) rfl (by omega) hsz ?_))
      intro v' w3 hown3 hb3
      go_wp2_with fail
      go_roundw
      case rel =>
        refine ⟨x - 2 ^ k, xs ++ [g - (k : Int)], by omega, ?_, hown3.out, by rw [List.append_assoc]; exact hl.out, hbel.out.trans hb3.out⟩
        rw [ha.out]
      case measure =>
        simp [intOf]
        rw [ha.out]
        omega

def mods (v : Value) : Obj := .cells #[v] 30 (0, 0)
theorem gMax_take {all : List Int} {k : Nat} (h : k < all.length) : gMax (all.take (k + 1)) = if gMax (all.take k) < all.getD k 0 then all.getD k 0 else gMax (all.take k) := by
  rw [List.take_succ_eq_append_getElem h, gMax_snoc]
  simp [h]

set_option maxHeartbeats 1000000 in
theorem rgreat_any (all : List Int) (a : Option Addr) (ca : Nat) (b : Nat) (w : World) (hb : w.cell? ⟨b, 0, none⟩ = some (.slice a all.length ca)) (hs : RowI .i64 w a all) (hl : all.length ≤ 1000000) :
    Calls Try.prog 12 #[.pointer (some ⟨b, 0, none⟩)] w fun e w' => e = .returned (.tuple #[.int .i64 (gMax all), .bool (!all.isEmpty)]) ∧ Drawn w w' := by
  replace hs := Lib.hid hs
  have he : (!all.isEmpty) = decide (0 < all.length) := by cases all <;> simp
  go_enter Try.func12, Try.ntmps12
  go_wp2_with fail
  go_loop [4, 12] (fun v j => ∃ k : Nat, k ≤ all.length ∧ j = .int .i64 k ∧ v = .int .i64 (gMax (all.take k))) (fun _ j => all.length - (intOf j).toNat)
  case atStart => exact ⟨0, Nat.zero_le _, rfl, rfl⟩
  case round =>
    obtain ⟨k, hk, rfl, rfl⟩ := hrel
    by_cases hlt : k < all.length
    · obtain ⟨b1, o1, rfl, hc⟩ := hs.out k hlt
      have ht := Lib.hid (gMax_take hlt)
      generalize all.getD k 0 = x at *
      generalize gMax (all.take k) = m at *
      by_cases hmx : m < x
      · go_wp2_with fail
        exact ⟨⟨k + 1, by omega, by go_num, by rw [ht.out, if_pos hmx]⟩, by simp [intOf]; omega⟩
      · go_wp2_with fail
        exact ⟨⟨k + 1, by omega, by go_num, by rw [ht.out, if_neg hmx]⟩, by simp [intOf]; omega⟩
    · obtain rfl : k = all.length := by omega
      rw [List.take_length]
      go_wp2_with fail
      go_quiet (fail)
      go_wp2
      go_ret2
      exact ⟨by rw [he]; rfl, _, rfl⟩

set_option maxHeartbeats 1000000 in
theorem rold_any (all : List Int) (a : Option Addr) (ca : Nat) (id : Int) (b : Nat) (w : World) (hb : w.cell? ⟨b, 0, none⟩ = some (.slice a all.length ca)) (hs : RowI .i64 w a all) (hl : all.length ≤ 1000000) (hg : gMax all ≤ 1099511627776) :
    Calls Try.prog 16 #[.pointer (some ⟨b, 0, none⟩), .int .i64 id] w fun e w' => e = .returned (.bool (rOld all id)) ∧ Drawn w w' := by
  have hn := gMax_nonneg all
  have hcall := Lib.hid (rgreat_any all a ca b w hb hs hl)
  clear hb hs
  cases he : all.isEmpty
  · have e : rOld all id = decide (id ≤ gMax all - 64) := by simp [rOld, he]
    rw [he] at hcall
    rw [e]
    generalize gMax all = m at *
    go_enter Try.func16, Try.ntmps16
    go_wp2_with fail
    refine hcall.out.mono ?_
    rintro e w' ⟨rfl, n, rfl⟩
    go_wp2_with fail
    go_ret
    exact ⟨rfl, n, rfl⟩
  · have e : rOld all id = false := by simp [rOld, he]
    rw [he] at hcall
    rw [e]
    generalize gMax all = m at *
    go_enter Try.func16, Try.ntmps16
    go_wp2_with fail
    refine hcall.out.mono ?_
    rintro e w' ⟨rfl, n, rfl⟩
    go_wp2_with fail
    go_ret
    exact ⟨rfl, n, rfl⟩

set_option maxHeartbeats 1000000 in
theorem rhas_any (all : List Int) (a : Option Addr) (ca : Nat) (id : Int) (b : Nat) (w : World) (hb : w.cell? ⟨b, 0, none⟩ = some (.slice a all.length ca)) (hs : RowI .i64 w a all) (hl : all.length ≤ 1000000) (hg : gMax all ≤ 1099511627776) :
    Calls Try.prog 14 #[.pointer (some ⟨b, 0, none⟩), .int .i64 id] w fun e w' => e = .returned (.bool (rHas all id)) ∧ Drawn w w' := by
  replace hs := Lib.hid hs
  have hbh := Lib.hid hb
  go_enter Try.func14, Try.ntmps14
  go_wp2_with fail
  go_loopw [12] (fun j wr => ∃ k : Nat, k ≤ all.length ∧ j = .int .i64 k ∧ (∀ i, i < k → (decide (all.getD i 0 = id) && !rOld all id) = false) ∧ Drawn w wr) (fun j _ => all.length - (intOf j).toNat)
  case atStart => exact ⟨0, Nat.zero_le _, rfl, fun i hi => by omega, Drawn.refl _⟩
  case round =>
    obtain ⟨k, hk, rfl, hno, hd⟩ := hrel
    by_cases hlt : k < all.length
    · obtain ⟨b1, o1, e1, hc⟩ := hs.out k hlt
      have hr := Lib.hid (show rHas all id = (rHas all id || (decide (all.getD k 0 = id) && !rOld all id)) from by
        cases hx : (decide (all.getD k 0 = id) && !rOld all id)
        · simp
        · simp only [Bool.or_true, rHas, List.any_eq_true]
          exact ⟨all.getD k 0, by simp [hlt], hx⟩)
      have hcr := (hd.cell ⟨b1, o1 + k, none⟩).trans hc
      have hbr := (hd.cell ⟨b, 0, none⟩).trans hbh.out
      have hcall := Lib.hid (rold_any all a ca id b wr hbr (e1 ▸ (fun i hi => by
        obtain ⟨b2, o2, e2, h2⟩ := hs.out i hi
        exact ⟨b2, o2, by rw [← e1]; exact e2, (hd.cell _).trans h2⟩)) hl hg)
      subst e1
      clear hc hbr
      replace hd := Lib.hid hd
      have hno' := Lib.hid (show (decide (all.getD k 0 = id) && !rOld all id) = false → ∀ i, i < k + 1 → (decide (all.getD i 0 = id) && !rOld all id) = false from fun h i hi => by
        by_cases e : i = k
        · rw [e]; exact h
        · exact hno i (by omega))
      clear hno
      by_cases hx : all.getD k 0 = id
      · cases ho : rOld all id
        · have hr2 : rHas all id = true := by rw [hr.out, hx, ho]; simp
          rw [ho] at hcall
          replace hr2 := Lib.hid hr2
          clear hr hno'
          generalize all.getD k 0 = x at *
          subst hx
          go_wp2_with fail
          refine hcall.out.mono ?_
          rintro e w' ⟨rfl, n, rfl⟩
          go_wp2_with fail
          go_ret
          exact ⟨by rw [hr2.out]; rfl, hd.out.more n⟩
        · have hno2 := Lib.hid (hno'.out (by rw [ho]; simp))
          rw [ho] at hcall
          clear hr hno'
          generalize hxx : all.getD k 0 = x at hcr hx
          subst hx
          go_wp2_with fail
          refine hcall.out.mono ?_
          rintro e w' ⟨rfl, n, rfl⟩
          go_wp2_with fail
          go_roundw
          case rel => exact ⟨k + 1, by omega, by go_num, fun i hi => by have := hno2.out i hi; rw [ho] at this; exact this, hd.out.more n⟩
          case measure => simp [intOf]; omega
      · have hno2 := Lib.hid (hno'.out (by rw [decide_eq_false hx]; rfl))
        clear hr hno' hcall
        have hne : (all.getD k 0 == id) = false := by rw [beq_eq_false_iff_ne]; exact hx
        generalize all.getD k 0 = x at hcr hne
        clear hx
        go_wp2_with fail
        go_roundw
        case rel => exact ⟨k + 1, by omega, by go_num, hno2.out, hd.out⟩
        case measure => simp [intOf]; omega
    · obtain rfl : k = all.length := by omega
      have hr : rHas all id = false := by
        rw [rHas, List.any_eq_false]
        intro x hx
        obtain ⟨i, hi, rfl⟩ := List.mem_iff_getElem.1 hx
        have := hno i hi
        simpa [hi] using this
      replace hr := Lib.hid hr
      clear hno
      replace hd := Lib.hid hd
      go_wp2_with fail
      go_ret
      exact ⟨by rw [hr.out]; rfl, hd.out⟩

end Go.Proofs.Ytfagjlfnmkfjoaa
