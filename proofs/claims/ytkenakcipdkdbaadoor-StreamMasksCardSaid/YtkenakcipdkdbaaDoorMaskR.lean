/- The walk over baileeref10.Mask. -/
import Derived.Test.YtkenakcipdkdbaaDoorStreamR
import Derived.Test.YtkenakcipdkdbaaDoorOnL
namespace Go.Proofs.YtkenakcipdkdbaaDoor
open Go.RowKit

theorem OwnB.drew {base : Nat} {w : World} {v : Value} {bs : List UInt8} (h : OwnB base w v bs) : OwnB base w.drew v bs := h
theorem refMask_size (a : Value) (n : Int) (b : Option Addr) (L cb : Nat) (w : World) (hL : L ≠ 8) :
    Calls Tryd.prog 9 #[a, .int .i64 n, .slice b L cb] w fun e w' => e = .returned (.tuple #[.slice none 0 0, .int .i64 8]) ∧ w = w' := by
  have ht : ((L : Int) != 8) = true := by simp; omega
  have ht2 : ((L : Int) == 8) = false := by simp; omega
  replace hL := Lib.hid hL
  go_enter Tryd.func9, Tryd.ntmps9
  go_wp2_with fail
  go_ret2
  exact ⟨rfl, rfl⟩

theorem refMask_bad (a : Value) (n : Int) (b : Option Addr) (cb : Nat) (w : World) (hn : cntd n = false) :
    Calls Tryd.prog 9 #[a, .int .i64 n, .slice b 8 cb] w fun e w' => e = .returned (.tuple #[.slice none 0 0, .int .i64 1]) ∧ w = w' := by
  have hbl := Lib.hid (refBlock_bad a n w hn)
  replace hn := Lib.hid hn
  go_enter Tryd.func9, Tryd.ntmps9
  go_wp2_with fail
  with_reducible refine hbl.out.mono ?_
  rintro e w1 ⟨rfl, rfl⟩
  go_wp2_with fail
  go_ret2
  exact ⟨rfl, rfl⟩

set_option maxRecDepth 10000 in
set_option maxHeartbeats 2000000 in
theorem refMask_ok (ak : Option Addr) (ck : Nat) (key : List UInt8) (n : Int) (a : Option Addr) (ca : Nat) (bs : List UInt8) (w : World) (hk : ArgB w ak ck key) (hkl : key.length ≤ 10000) (hn : cntd n = true) (hb : ArgB w a ca bs) (hl : bs.length = 8) (hK : RefK w) (hF : RefF w) :
    Calls Tryd.prog 9 #[.slice ak key.length ck, .int .i64 n, .slice a 8 ca] w fun e w' => ∃ v, e = .returned (.tuple #[v, .int .i64 0]) ∧ OwnB w.heap.size w' v (maskB (blockB key n) bs) ∧ Below w.heap.size w w' := by
  obtain ⟨i0, hi, hz0, hz1, hz2⟩ := info_parts Tryd.infoByteP
  have hbl := Lib.hid (refBlock_ok ak ck key n w hk hkl hn hK hF)
  have hlen := Lib.hid (blockB_length key n)
  replace hb := Lib.hid hb
  replace hl := Lib.hid hl
  clear hk hK hF hkl hn
  generalize blockB key n = T at *
  have hrow := Lib.hid (fun k => tab_succ k fun i => cf T i ^^^ cf bs i)
  have hend := Lib.hid (show tab 8 (fun i => cf T i ^^^ cf bs i) = maskB T bs from rfl)
  have h0 := Lib.hid (show tab 0 (fun i => cf T i ^^^ cf bs i) = [] from rfl)
  go_enter Tryd.func9, Tryd.ntmps9
  go_wp2_with fail
  with_reducible refine hbl.out.mono ?_
  rintro e w1 ⟨v1, rfl, ho1, hb1⟩
  obtain ⟨a1, c1, rfl, ha1, _⟩ := ho1.arg
  rw [hlen.out]
  have ha1 := Lib.hid ha1
  have hb2 := Lib.hid (hb.out.below hb1)
  have hown := Lib.hid (owns_made0 w1 w1.heap.size (Nat.le_refl _))
  have hbel := Lib.hid ((Below.refl w1.heap.size w1).alloc (Nat.le_refl _) (.cells #[] 5))
  replace hb1 := Lib.hid hb1
  clear ho1 hb hbl
  go_wp2_with fail
  go_loopw [10, 11, 27] (fun v _ j wr => ∃ k : Nat, k ≤ 8 ∧ j = .int .i64 k ∧ OwnB w1.heap.size wr v (tab k fun i => cf T i ^^^ cf bs i) ∧ Below w1.heap.size w1 wr)
    (fun _ _ j _ => 8 - (intOf j).toNat)
  case atStart => exact ⟨0, Nat.zero_le _, rfl, hown.out, hbel.out⟩
  case round =>
    clear hown hbel
    obtain ⟨k, hk, rfl, hO, hB⟩ := hrel
    by_cases hlt : k < 8
    · obtain ⟨g1, o1, hg1, c1⟩ := ha1.out.row k (by rw [hlen.out]; exact hlt)
      obtain ⟨g2, o2, hg2, c2⟩ := hb2.out.row k (by rw [hl.out]; exact hlt)
      cases hg1
      cases hg2
      rw [show T.getD k 0 = cf T k from rfl] at c1
      rw [show bs.getD k 0 = cf bs k from rfl] at c2
      have k1 : ∀ W, Below w1.heap.size w1 W → W.cell? ⟨g1, o1 + k, none⟩ = _ := fun W hW => (hW.cell (World.block_lt_of_cell? w1 _ c1)).trans c1
      have k2 : ∀ W, Below w1.heap.size w1 W → W.cell? ⟨g2, o2 + k, none⟩ = _ := fun W hW => (hW.cell (World.block_lt_of_cell? w1 _ c2)).trans c2
      have e1 := xor8 (cf bs k) (cf T k)
      have hr := hrow.out k
      have hk8 : (k : Int) < 8 := by omega
      obtain ⟨y, hy⟩ : ∃ y, y = cf bs k ^^^ cf T k := ⟨_, rfl⟩
      rw [UInt8.xor_comm, ← hy] at hr
      rw [← hy] at e1
      replace hy := Lib.hid hy
      have hlr : (tab k fun i => cf T i ^^^ cf bs i).length ≤ 1000000 := by rw [tab_length]; omega
      have hBd := Lib.hid (show Below w1.heap.size w1 wr.drew from hB.drew)
      have hO2 := Lib.hid (OwnB.drew hO)
      have hsz := hB.size
      replace hO := Lib.hid hO
      replace hB := Lib.hid hB
      replace hr := Lib.hid hr
      replace hlr := Lib.hid hlr
      clear c1 c2
      generalize (tab k fun i => cf T i ^^^ cf bs i) = row at *
      generalize cf T k = x at *
      generalize cf bs k = z at *
      go_wp2_with fail
      refine wp_region_held_drew (S := (Below w1.heap.size w1)) (by kernel_rfl) hBd.out (fun hOn => ?_)
      generalize World.drew wr = wd at *
      refine wpAnyH_take (i := 0) (v := ?_) (by simp only [List.getElem?_toArray, List.getElem?_cons_zero]; rfl) (by kernel_rfl) (by kernel_rfl) (by kernel_rfl) (by exact fun _ _ _ h => h) (Or.inl ⟨by rfl, ?_⟩) hOn ?_
      rotate_left
      focus (intro W hSW; go_simp; try with_reducible rfl)
      try simp only [Act.put, List.setIfInBounds_toArray, List.set_cons_zero, List.set_cons_succ]
      refine wpAnyH_take (i := 1) (v := ?_) (by simp only [List.getElem?_toArray, List.getElem?_cons_succ, List.getElem?_cons_zero]; rfl) (by kernel_rfl) (by kernel_rfl) (by kernel_rfl) (by exact fun _ _ _ h => h) (Or.inl ⟨by rfl, ?_⟩) hOn ?_
      rotate_left
      focus (intro W hSW; go_simp; try with_reducible rfl)
      try simp only [Act.put, List.setIfInBounds_toArray, List.set_cons_zero, List.set_cons_succ]
      refine wpAnyH_take (i := 2) (v := ?_) (by simp only [List.getElem?_toArray, List.getElem?_cons_succ, List.getElem?_cons_zero]; rfl) (by kernel_rfl) (by kernel_rfl) (by kernel_rfl) (by exact fun _ _ _ h => h) (Or.inl ⟨by rfl, ?_⟩) hOn ?_
      rotate_left
      focus (intro W hSW; go_simp; try with_reducible rfl)
      try simp only [Act.put, List.setIfInBounds_toArray, List.set_cons_zero, List.set_cons_succ]
      refine wpAnyH_take (i := 3) (v := ?_) (by simp only [List.getElem?_toArray, List.getElem?_cons_succ, List.getElem?_cons_zero]; rfl) (by kernel_rfl) (by kernel_rfl) (by kernel_rfl) (by exact fun _ _ _ h => h) (Or.inl ⟨by rfl, ?_⟩) hOn ?_
      rotate_left
      focus (intro W hSW; go_simp; try with_reducible rfl)
      try simp only [Act.put, List.setIfInBounds_toArray, List.set_cons_zero, List.set_cons_succ]
      refine wpAnyH_take (i := 4) (v := ?_) (by simp only [List.getElem?_toArray, List.getElem?_cons_succ, List.getElem?_cons_zero]; rfl) (by kernel_rfl) (by kernel_rfl) (by kernel_rfl) (by exact fun _ _ _ h => h) (Or.inl ⟨by rfl, ?_⟩) hOn ?_
      rotate_left
      focus (intro W hSW; go_simp; try with_reducible rfl)
      try simp only [Act.put, List.setIfInBounds_toArray, List.set_cons_zero, List.set_cons_succ]
      refine wpAnyH_take (i := 5) (v := ?_) (by simp only [List.getElem?_toArray, List.getElem?_cons_succ, List.getElem?_cons_zero]; rfl) (by kernel_rfl) (by kernel_rfl) (by kernel_rfl) (by exact fun _ _ _ h => h) (Or.inl ⟨by rfl, ?_⟩) hOn ?_
      rotate_left
      focus (intro W hSW; go_simp; try with_reducible rfl)
      try simp only [Act.put, List.setIfInBounds_toArray, List.set_cons_zero, List.set_cons_succ]
      refine wpAnyH_take (i := 6) (v := ?_) (by simp only [List.getElem?_toArray, List.getElem?_cons_succ, List.getElem?_cons_zero]; rfl) (by kernel_rfl) (by kernel_rfl) (by kernel_rfl) (by exact fun _ _ _ h => h) (Or.inl ⟨by rfl, ?_⟩) hOn ?_
      rotate_left
      focus (intro W hSW; go_simp; try with_reducible rfl)
      try simp only [Act.put, List.setIfInBounds_toArray, List.set_cons_zero, List.set_cons_succ]
      refine wpAnyH_take (i := 7) (v := ?_) (by simp only [List.getElem?_toArray, List.getElem?_cons_succ, List.getElem?_cons_zero]; rfl) (by kernel_rfl) (by kernel_rfl) (by kernel_rfl) (by exact fun _ _ _ h => h) (Or.inl ⟨by rfl, ?_⟩) hOn ?_
      rotate_left
      focus (intro W hSW; go_simp; try with_reducible rfl)
      try simp only [Act.put, List.setIfInBounds_toArray, List.set_cons_zero, List.set_cons_succ]
      refine wpAnyH_take (i := 8) (v := ?_) (by simp only [List.getElem?_toArray, List.getElem?_cons_succ, List.getElem?_cons_zero]; rfl) (by kernel_rfl) (by kernel_rfl) (by kernel_rfl) (by exact fun _ _ _ h => h) (Or.inl ⟨by rfl, ?_⟩) hOn ?_
      rotate_left
      focus (intro W hSW; go_simp; try with_reducible rfl)
      try simp only [Act.put, List.setIfInBounds_toArray, List.set_cons_zero, List.set_cons_succ]
      refine wpAnyH_take (i := 9) (v := ?_) (by simp only [List.getElem?_toArray, List.getElem?_cons_succ, List.getElem?_cons_zero]; rfl) (by kernel_rfl) (by kernel_rfl) (by kernel_rfl) (by exact fun _ _ _ h => h) (Or.inl ⟨by rfl, ?_⟩) hOn ?_
      rotate_left
      focus (intro W hSW; go_simp; try with_reducible rfl)
      try simp only [Act.put, List.setIfInBounds_toArray, List.set_cons_zero, List.set_cons_succ]
      refine wpAnyH_ready (rs := [10]) (by kernel_rfl) (by simp) ?_
      refine AllReadyH.cons (by simp only [List.getElem?_toArray, List.getElem?_cons_succ, List.getElem?_cons_zero]; rfl) (fun Kz hKz => ?_) AllReadyH.nil
      go_simp
      try go_wp2_with fail
      (with_reducible refine made_step (t := 5) ?_)
      intro w5 hx5 hnew
      have hO3 := Lib.hid (OwnB.below hO2.out hnew (Nat.le_refl _))
      have harg := Lib.hid (argB_block (l := [y]) (c := 1) hx5.out (by simp) (by simp))
      have hs5 := Nat.le_trans hOn.size hnew.size
      refine hKz.out _ _ (by first | exact hS | exact Below.trans hOn (Below.mono hnew (Below.size hOn))) (fun hNext => ?_)
      clear hKz Kz hOn
      have hOn := hNext
      clear hNext
      try clear hnew
      try clear hS
      try simp only [Act.put, List.setIfInBounds_toArray, List.set_cons_zero, List.set_cons_succ]
      refine wpAnyH_ready (rs := [11]) (by kernel_rfl) (by simp) ?_
      refine AllReadyH.cons (by simp only [List.getElem?_toArray, List.getElem?_cons_succ, List.getElem?_cons_zero]; rfl) (fun Kz hKz => ?_) AllReadyH.nil
      rw [if_pos (by rfl)]
      (refine wpK_appB (.tmp 30) (.tmp 40) rfl w1.heap.size _ _ rfl hO3 _ 1 [y] 1 rfl (Lib.hid rfl) harg hlr.out (by omega) hs5 ?_)
      intro v9 w9 ho9 hd9 hm9
      have hS := Below.grown hOn hd9.out hs5 (fun k hk => (World.ownsRow.lt hO3.out k hk).1)
      refine hKz.out _ _ (by first | exact hS | exact Below.trans hOn (Below.mono hnew (Below.size hOn))) (fun hNext => ?_)
      clear hKz Kz hOn
      have hOn := hNext
      clear hNext
      try clear hnew
      try clear hS
      try simp only [Act.put]
      refine wpAnyH_take (i := 12) (v := ?_) (by simp only [List.getElem?_toArray, List.getElem?_cons_succ, List.getElem?_cons_zero]; rfl) (by kernel_rfl) (by kernel_rfl) (by kernel_rfl) (by exact fun _ _ _ h => h) (Or.inl ⟨by rfl, ?_⟩) hOn ?_
      rotate_left
      focus (intro W hSW; go_simp; try with_reducible rfl)
      try simp only [Act.put, List.setIfInBounds_toArray, List.set_cons_zero, List.set_cons_succ]
      refine wpAnyH_done (by kernel_rfl) ?_ _
      all_goals
        rw [← hr.out] at ho9
        have hOz := Lib.hid hOn
        clear hOn
        go_wp2_with fail
        exact ⟨⟨k + 1, by omega, by go_num, ho9.out, hOz.out⟩, by simp [intOf]; omega⟩
    · obtain rfl : k = 8 := by omega
      rw [hend.out] at hO
      have hO2 := Lib.hid (OwnB.mono (base' := w.heap.size) hO hb1.out.size)
      have hB2 := Lib.hid (hb1.out.trans (hB.mono hb1.out.size))
      clear hO hB
      go_wp2_with fail
      go_ret2
      exact ⟨_, rfl, hO2.out, hB2.out⟩

end Go.Proofs.YtkenakcipdkdbaaDoor
