/- The walk over baileelaw08.MacKeys: for whatever arguments it returns true and leaves what was there as it was. -/
import Derived.Test.YtajmfijpeckncaaDoorTagR
import Derived.Test.YtajmfijpeckncaaDoorEnum
import Derived.Stop.BytesEq
import Derived.Test.YtajmfijpeckncaaDoorOnL
namespace Go.Proofs.YtajmfijpeckncaaDoor
open Go.RowKit

theorem marks_argK {W : World} {g : Nat} {xs : List UInt8} (h : At W (some ⟨g, 0, none⟩) (cB (xs ++ marksB))) (hl : xs.length ≤ 1000000) : ArgB W (some ⟨g, 0, none⟩) (xs.length + 6) xs :=
  ⟨by omega, by unfold maxLen; omega, (fun e => by cases e), marks_row h⟩
theorem eqlR (xs ys : List UInt8) (hx : xs.length = 32) (hy : ys.length = 32) (w : World) : (binOp .eql 28 (.agg (cB xs).toArray) (.agg (cB ys).toArray)).run Tryd.prog w = .ok (.bool (xs == ys)) w :=
  run_eql_bytes w 28 5 32 Tryd.underlying28 Tryd.underlying5 (fun w => by kernel_rfl) xs ys hx hy
theorem flat_le (ps : List (List UInt8)) (h : ∀ i, i < ps.length → (ps.getD i []).length ≤ 200) : ∀ n, n ≤ ps.length → (ps.take n).flatten.length ≤ 200 * n
  | 0, _ => by simp
  | n + 1, hn => by
    rw [flatten_take_succ ps n (by omega), List.length_append]
    have := flat_le ps h n (by omega)
    have := h n (by omega)
    omega
theorem grown_drawn {a b : World} (h : Drawn a b) : Grown a b := h.below _
theorem at_belowG {w w' : World} {ao : Option Addr} {ys : List Value} (h : At w ao ys) (hb : Below w.heap.size w w') : At w' ao ys := h.below hb

set_option maxRecDepth 10000 in
set_option maxHeartbeats 8000000 in
theorem keys_walk (a1 : Option Addr) (c1 : Nat) (key : List UInt8) (a2 : Option Addr) (c2 : Nat) (ps : List (List UInt8)) (w : World) (h1 : ArgB w a1 c1 key) (h2 : ArgBB w a2 c2 ps)
    (hK : ShaK w) (hF : ShaF w) (hRK : RefK w) (hRF : RefF w) :
    Calls Tryd.prog 3 #[.slice a1 key.length c1, .slice a2 ps.length c2] w fun e w' => e = .returned (.bool true) ∧ Below w.heap.size w w' := by
  have hal := Lib.hid (alive8_any w hK hF)
  have hx1 : key.length ≤ 9223372036854775807 := by have := h1.len; have := h1.most; unfold maxLen at *; omega
  have hx2 : ps.length ≤ 9223372036854775807 := by have := h2.len; have := h2.most; unfold maxLen at *; omega
  by_cases hbig : 300 < key.length ∨ 10 < ps.length
  · have hd : ∃ b1 b2 : Bool, decide (300 < (key.length : Int)) = b1 ∧ decide (10 < (ps.length : Int)) = b2 ∧ (b1 || b2) = true := by
      refine ⟨_, _, rfl, rfl, ?_⟩
      simp only [Bool.or_eq_true, decide_eq_true_eq]
      omega
    obtain ⟨b1, b2, e1, e2, e4⟩ := hd
    cases b1 <;> cases b2 <;> simp at e4
    all_goals
      go_enter Tryd.func3, Tryd.ntmps3
      go_wp2_with fail
      with_reducible refine hal.out.mono ?_
      rintro e w1 ⟨rfl, hb1⟩
      replace hb1 := Lib.hid hb1
      go_wp2_with fail
      go_ret
      exact ⟨rfl, hb1.out⟩
  · have hk : ¬ 300 < (key.length : Int) := by omega
    have hm : ¬ 10 < (ps.length : Int) := by omega
    have hk2 : key.length ≤ 300 := by omega
    have hm2 : ps.length ≤ 10 := by omega
    clear hbig
    go_enter Tryd.func3, Tryd.ntmps3
    go_wp2_with fail
    with_reducible refine hal.out.mono ?_
    rintro e w1 ⟨rfl, hb1⟩
    replace h1 := Lib.hid (h1.below hb1); replace h2 := Lib.hid (h2.below hb1); replace hK := Lib.hid (hK.below hb1); replace hF := Lib.hid (hF.below hb1); replace hRK := Lib.hid (hRK.below hb1); replace hRF := Lib.hid (hRF.below hb1)
    replace hb1 := Lib.hid hb1
    clear hal
    have hown0 := Lib.hid (owns_made0 w1 w1.heap.size (Nat.le_refl _))
    have hb0 := Lib.hid ((Below.refl w1.heap.size w1).alloc (Nat.le_refl _) (.cells #[] 5))
    go_wp2_with fail
    go_loopw [5, 25] (fun v j wr => ∃ i : Nat, i ≤ ps.length ∧ j = .int .i64 i ∧ OwnB w1.heap.size wr v (ps.take i).flatten ∧ (∀ k, k < i → (ps.getD k []).length ≤ 200) ∧ Grown w1 wr)
      (fun _ j _ => ps.length - (intOf j).toNat)
    case atStart => exact ⟨0, Nat.zero_le _, rfl, hown0.out, (fun k hk => absurd hk (Nat.not_lt_zero k)), hb0.out⟩
    case round =>
      clear hown0 hb0
      obtain ⟨i, hi, rfl, hown, hall, hg⟩ := hrel
      by_cases hlt : i < ps.length
      · obtain ⟨pb, po, rfl, ai, ci, hc, hr⟩ := h2.out.row i hlt
        replace hc := (hg.cell (World.block_lt_of_cell? w1 _ hc)).trans hc
        have hnx := Lib.hid (flatten_take_succ ps i hlt)
        have hfl := flat_le (ps.take i) (fun k hk => by
          have hk2 : k < i ∧ k < ps.length := by simpa [Nat.lt_min] using hk
          have := hall k hk2.1
          rw [List.getD_eq_getElem?_getD, List.getElem?_take, if_pos hk2.1, ← List.getD_eq_getElem?_getD]
          exact this) i (by rw [List.length_take]; omega)
        rw [List.take_take, Nat.min_self] at hfl
        have hli : (i : Int) < ps.length := by omega
        have hsz := hg.size
        have hpi : (ps.getD i []).length = (ps.getD i []).length := rfl
        replace hr := Lib.hid (hr.below hg)
        replace hown := Lib.hid hown
        replace hall := Lib.hid hall
        replace hg := Lib.hid hg
        have hpx : (ps.getD i []).length ≤ 9223372036854775807 := by have := hr.out.len; have := hr.out.most; unfold maxLen at *; omega
        by_cases h200 : 200 < (ps.getD i []).length
        · have h200i : (200 : Int) < ((ps.getD i []).length : Int) := by omega
          generalize ps.getD i [] = pi at *
          go_wp2_with fail
          go_ret
          exact ⟨rfl, hb1.out.trans (hg.out.mono hb1.out.size)⟩
        · have h200i : ¬ (200 : Int) < ((ps.getD i []).length : Int) := by omega
          have hall2 := Lib.hid (show ∀ k, k < i + 1 → (ps.getD k []).length ≤ 200 from fun k hk => by
            rcases Nat.lt_or_ge k i with h | h
            · exact hall.out k h
            · obtain rfl : k = i := by omega
              omega)
          clear hpi
          generalize ps.getD i [] = pi at *
          generalize (ps.take i).flatten = T at *
          go_wp2_with (at_builtin; go_must (refine wpB_app rfl (.tmp 32) (.tmp 33) rfl w1.heap.size _ T rfl hown ai ci pi pi.length rfl (Lib.hid rfl) hr (by omega) (by omega) hsz ?_))
          intro v5 w5 o5 b5
          have hg5 := Lib.hid (Below.trans hg.out b5.out)
          go_wp2_with fail
          go_roundw
          case rel => exact ⟨i + 1, by omega, by go_num, by rw [hnx.out]; exact o5.out, hall2.out, hg5.out⟩
          case measure => simp [intOf]; omega
      · obtain rfl : i = ps.length := by omega
        have hflat := flat_le ps hall ps.length (Nat.le_refl _)
        rw [List.take_length] at hflat hown
        obtain ⟨a5, c5, rfl, h5, _⟩ := hown.arg
        have hml : ps.flatten.length ≤ 2000 := by omega
        replace h1 := Lib.hid (h1.out.below hg); replace h2 := Lib.hid (h2.out.below hg); replace hK := Lib.hid (hK.out.below hg); replace hF := Lib.hid (hF.out.below hg); replace hRK := Lib.hid (hRK.out.below hg); replace hRF := Lib.hid (hRF.out.below hg)
        replace hb1 := Lib.hid (hb1.out.trans (hg.mono hb1.out.size))
        replace h5 := Lib.hid h5
        clear hown hall hg hflat
        generalize hM : ps.flatten = M at *
        replace hM := Lib.hid hM
        go_wp2_with fail
        with_reducible refine (bytes_any a1 c1 key _ h1.out (by omega)).mono ?_
        rintro e w6 ⟨g, _, rfl, _, hAt, hnew⟩
        replace h1 := Lib.hid (h1.out.below hnew); replace h2 := Lib.hid (h2.out.below hnew); replace hK := Lib.hid (hK.out.below hnew); replace hF := Lib.hid (hF.out.below hnew); replace hRK := Lib.hid (hRK.out.below hnew); replace hRF := Lib.hid (hRF.out.below hnew); replace h5 := Lib.hid (h5.out.below hnew)
        replace hb1 := Lib.hid (hb1.out.trans (hnew.mono hb1.out.size))
        have hin := Lib.hid (marks_argK hAt (by omega))
        replace hAt := Lib.hid hAt
        clear hnew
        go_wp2_with fail
        with_reducible refine (macMake_any (some ⟨g, 0, none⟩) (key.length + 6) key _ hin.out (by omega) hK.out hF.out).mono ?_
        rintro e w7 ⟨b, rfl, hkey, hnew⟩
        replace h1 := Lib.hid (h1.out.below hnew); replace h2 := Lib.hid (h2.out.below hnew); replace hK := Lib.hid (hK.out.below hnew); replace hF := Lib.hid (hF.out.below hnew); replace hRK := Lib.hid (hRK.out.below hnew); replace hRF := Lib.hid (hRF.out.below hnew); replace h5 := Lib.hid (h5.out.below hnew); replace hin := Lib.hid (hin.out.below hnew); replace hAt := Lib.hid (hAt.out.below hnew)
        replace hb1 := Lib.hid (hb1.out.trans (hnew.mono hb1.out.size))
        replace hkey := Lib.hid hkey
        clear hnew
        have zr2 := zeroR_run
        have zn2 := zero32_ne
        have sD := sizeR (hmac key M) (hmac_length _ _)
        have s32 := z32 (hmac key M) (hmac_length _ _)
        have sO := cB_all (hmac key M)
        have he := fun w => eqlR (hmac key M) (hmac key M) (hmac_length _ _) (hmac_length _ _) w
        rw [beq_self_eq_true] at he
        have hrm := Lib.hid (rmacOf_any a1 c1 key a5 c5 M w7 h1.out (by omega) h5.out (by omega) hRK.out hRF.out)
        have htag := Lib.hid (fun W A B C D => keyTag_any b key a2 c2 ps W A B (by rw [hM.out]; omega) (by omega) C D)
        have hmo := Lib.hid (fun W A B C D => macOf_any (some ⟨g, 0, none⟩) (key.length + 6) key a2 c2 ps W A (by omega) B (by rw [hM.out]; omega) (by omega) C D)
        have hko := Lib.hid (fun W A B C D => keyOf_any b key a2 c2 ps W A B (by rw [hM.out]; omega) (by omega) C D)
        have hri := Lib.hid (fun (at_ : Option Addr) ct W A B C D E => keyRight_any b key at_ ct ((hmac key M).take 8) a2 c2 ps W A B (by rw [List.length_take, hmac_length]; omega) C (by rw [hM.out]; omega) (by omega) D E)
        rw [hM.out] at htag hmo hko hri
        have harg := Lib.hid (fun (W : World) (g : Nat) (hh : W.heap[g]? = some (.cells (cB (hmac key M)).toArray 28 (0, 0))) => argB_takeN (argB_block (c := 32) hh (by rw [hmac_length]; omega) (by omega)) 8 (by rw [hmac_length]; omega))
        have hlen := Lib.hid (show ((hmac key M).take 8).length = 8 from by rw [List.length_take, hmac_length]; rfl)
        have hdt : decide ((hmac key M).take 8 = (hmac key M).take 8) = true := decide_eq_true rfl
        rw [hlen.out, hdt] at hri
        clear hdt
        obtain ⟨D, hD⟩ : ∃ D, D = (cB (hmac key M)).toArray := ⟨_, rfl⟩
        rw [← hD] at sD s32 sO he hrm hmo hko harg
        replace hD := Lib.hid hD
        generalize (hmac key M).take 8 = T at *
        go_wp2_with fail
        with_reducible refine hrm.out.mono ?_
        rintro e w8 ⟨rfl, hnew⟩
        replace h1 := Lib.hid (h1.out.below hnew); replace h2 := Lib.hid (h2.out.below hnew); replace hK := Lib.hid (hK.out.below hnew); replace hF := Lib.hid (hF.out.below hnew); replace hRK := Lib.hid (hRK.out.below hnew); replace hRF := Lib.hid (hRF.out.below hnew); replace h5 := Lib.hid (h5.out.below hnew); replace hin := Lib.hid (hin.out.below hnew); replace hAt := Lib.hid (hAt.out.below hnew); replace hkey := Lib.hid (hkey.out.below hnew)
        replace hb1 := Lib.hid (hb1.out.trans (hnew.mono hb1.out.size))
        clear hnew hrm
        have hg9 := (Below.refl w8.heap.size w8).alloc (Nat.le_refl _) (.cells D 28)
        have hrow := heap_alloc_new w8 (.cells D 28)
        replace h1 := Lib.hid (h1.out.below hg9); replace h2 := Lib.hid (h2.out.below hg9); replace hK := Lib.hid (hK.out.below hg9); replace hF := Lib.hid (hF.out.below hg9); replace hRK := Lib.hid (hRK.out.below hg9); replace hRF := Lib.hid (hRF.out.below hg9); replace h5 := Lib.hid (h5.out.below hg9); replace hin := Lib.hid (hin.out.below hg9); replace hAt := Lib.hid (hAt.out.below hg9); replace hkey := Lib.hid (hkey.out.below hg9)
        replace hb1 := Lib.hid (hb1.out.trans (hg9.mono hb1.out.size))
        replace hrow := Lib.hid hrow
        clear hg9
        go_wp2_with (with_reducible refine wpList_store_new rfl 28 (.tmp 10) (.tmp 42) rfl zero32 D rfl rfl sD s32 sO ?_)
        obtain ⟨q, hq⟩ : ∃ q, q = w8.heap.size := ⟨_, rfl⟩
        obtain ⟨W9, hW9⟩ : ∃ W, W = w8.alloc (.cells D 28) := ⟨_, rfl⟩
        rw [← hW9, ← hq] at hrow
        rw [← hW9] at h1 h2 hK hF hRK hRF h5 hin hAt hkey hb1
        rw [← hW9, ← hq]
        replace hq := Lib.hid hq
        replace hW9 := Lib.hid hW9
        with_reducible refine (htag.out _ hkey.out h2.out hK.out hF.out).mono ?_
        rintro e w10 ⟨v10, rfl, ho10, hnew⟩
        obtain ⟨a10, c10, rfl, h10, _⟩ := ho10.arg
        rw [hlen.out]
        replace h1 := Lib.hid (h1.out.below hnew); replace h2 := Lib.hid (h2.out.below hnew); replace hK := Lib.hid (hK.out.below hnew); replace hF := Lib.hid (hF.out.below hnew); replace hRK := Lib.hid (hRK.out.below hnew); replace hRF := Lib.hid (hRF.out.below hnew); replace h5 := Lib.hid (h5.out.below hnew); replace hin := Lib.hid (hin.out.below hnew); replace hAt := Lib.hid (hAt.out.below hnew); replace hkey := Lib.hid (hkey.out.below hnew)
        replace hrow := Lib.hid (rowG hrow.out _ hnew)
        replace hb1 := Lib.hid (hb1.out.trans (hnew.mono hb1.out.size))
        replace h10 := Lib.hid h10
        clear hnew htag ho10
        have huA := aggR
        have hzA := sD
        have rlA := rowG hrow.out
        have kt := convE h10.out 8 hlen.out
        have kw := convE (harg.out _ _ hrow.out) 8 hlen.out
        go_wp2_with fail
        refine wp_region_on2 (by kernel_rfl) (fun wd hOn => ?_)
        refine wpAnyH_take (i := 0) (v := ?_) (by simp only [List.getElem?_toArray, List.getElem?_cons_zero]; rfl) (by kernel_rfl) (by kernel_rfl) (by kernel_rfl) (by exact fun _ _ _ h => h) (Or.inl ⟨by rfl, ?_⟩) hOn ?_
        rotate_left
        focus (intro W hSW; go_simp; try with_reducible rfl)
        try simp only [Act.put, List.setIfInBounds_toArray, List.set_cons_zero, List.set_cons_succ]
        refine wpAnyH_take (i := 1) (v := ?_) (by simp only [List.getElem?_toArray, List.getElem?_cons_succ, List.getElem?_cons_zero]; rfl) (by kernel_rfl) (by kernel_rfl) (by kernel_rfl) (by exact fun _ _ _ h => h) (Or.inl ⟨by rfl, ?_⟩) hOn ?_
        rotate_left
        focus (intro W hSW; go_simp; try with_reducible rfl)
        try simp only [Act.put, List.setIfInBounds_toArray, List.set_cons_zero, List.set_cons_succ]
        refine wpAnyH_take (i := 3) (v := Value.agg _) (by simp only [List.getElem?_toArray, List.getElem?_cons_succ, List.getElem?_cons_zero]; rfl) (by kernel_rfl) (by kernel_rfl) (by kernel_rfl) (by exact fun _ _ _ h => h) (Or.inl ⟨by rfl, fun W hSW => yields_load_row _ _ rfl _ _ _ rfl (rlA W hSW) huA rfl hzA⟩) hOn ?_
        try simp only [Act.put, List.setIfInBounds_toArray, List.set_cons_zero, List.set_cons_succ]
        refine wpAnyH_ready (rs := [2]) (by kernel_rfl) (by simp) ?_
        refine AllReadyH.cons (by simp only [List.getElem?_toArray, List.getElem?_cons_succ, List.getElem?_cons_zero]; rfl) (fun Kz hKz => ?_) AllReadyH.nil
        go_simp
        (with_reducible refine (hmo.out _ (hin.out.below hOn) (h2.out.below hOn) (hK.out.below hOn) (hF.out.below hOn)).mono ?_)
        rintro e w11 ⟨rfl, hnew⟩
        have hw := Lib.hid (Below.trans hOn (hnew.mono hOn.size))
        replace h1 := Lib.hid (h1.out.below hw.out); replace h2 := Lib.hid (h2.out.below hw.out); replace hK := Lib.hid (hK.out.below hw.out); replace hF := Lib.hid (hF.out.below hw.out); replace h10 := Lib.hid (h10.out.below hw.out); replace hin := Lib.hid (hin.out.below hw.out); replace hAt := Lib.hid (hAt.out.below hw.out); replace hkey := Lib.hid (hkey.out.below hw.out)
        replace hrow := Lib.hid (rowG hrow.out _ hw.out)
        have rlA := rowG hrow.out
        replace hb1 := Lib.hid (hb1.out.trans (hw.out.mono hb1.out.size))
        clear hw
        have kt := convE h10.out 8 hlen.out
        have kw := convE (harg.out _ _ hrow.out) 8 hlen.out
        go_wp2_with fail
        refine hKz.out _ _ (Grown.trans hOn hnew) (fun hNext => ?_)
        clear hKz Kz hOn
        refine wpAnyH_onward hNext (fun hOn => ?_)
        clear hNext hnew
        try simp only [Act.put, List.setIfInBounds_toArray, List.set_cons_zero, List.set_cons_succ]
        refine wpAnyH_take (i := 4) (v := ?_) (by simp only [List.getElem?_toArray, List.getElem?_cons_succ, List.getElem?_cons_zero]; rfl) (by kernel_rfl) (by kernel_rfl) (by kernel_rfl) (by exact fun _ _ _ h => h) (Or.inl ⟨by rfl, ?_⟩) hOn ?_
        rotate_left
        focus (intro W hSW; go_simp; try with_reducible rfl)
        try simp only [Act.put, List.setIfInBounds_toArray, List.set_cons_zero, List.set_cons_succ]
        refine wpAnyH_take (i := 5) (v := ?_) (by simp only [List.getElem?_toArray, List.getElem?_cons_succ, List.getElem?_cons_zero]; rfl) (by kernel_rfl) (by kernel_rfl) (by kernel_rfl) (by exact fun _ _ _ h => h) (Or.inl ⟨by rfl, ?_⟩) hOn ?_
        rotate_left
        focus (intro W hSW; go_simp; try with_reducible rfl)
        try simp only [Act.put, List.setIfInBounds_toArray, List.set_cons_zero, List.set_cons_succ]
        refine wpAnyH_take (i := 6) (v := ?_) (by simp only [List.getElem?_toArray, List.getElem?_cons_succ, List.getElem?_cons_zero]; rfl) (by kernel_rfl) (by kernel_rfl) (by kernel_rfl) (by exact fun _ _ _ h => h) (Or.inl ⟨by rfl, ?_⟩) hOn ?_
        rotate_left
        focus (intro W hSW; go_simp; try with_reducible rfl)
        try simp only [Act.put, List.setIfInBounds_toArray, List.set_cons_zero, List.set_cons_succ]
        refine wpAnyH_take (i := 7) (v := ?_) (by simp only [List.getElem?_toArray, List.getElem?_cons_succ, List.getElem?_cons_zero]; rfl) (by kernel_rfl) (by kernel_rfl) (by kernel_rfl) (by exact fun _ _ _ h => h) (Or.inl ⟨by rfl, ?_⟩) hOn ?_
        rotate_left
        focus (intro W hSW; go_simp; try with_reducible rfl)
        try simp only [Act.put, List.setIfInBounds_toArray, List.set_cons_zero, List.set_cons_succ]
        refine wpAnyH_take (i := 9) (v := Value.agg _) (by simp only [List.getElem?_toArray, List.getElem?_cons_succ, List.getElem?_cons_zero]; rfl) (by kernel_rfl) (by kernel_rfl) (by kernel_rfl) (by exact fun _ _ _ h => h) (Or.inl ⟨by rfl, fun W hSW => yields_load_row _ _ rfl _ _ _ rfl (rlA W hSW) huA rfl hzA⟩) hOn ?_
        try simp only [Act.put, List.setIfInBounds_toArray, List.set_cons_zero, List.set_cons_succ]
        refine wpAnyH_ready (rs := [8]) (by kernel_rfl) (by simp) ?_
        refine AllReadyH.cons (by simp only [List.getElem?_toArray, List.getElem?_cons_succ, List.getElem?_cons_zero]; rfl) (fun Kz hKz => ?_) AllReadyH.nil
        go_simp
        (with_reducible refine (hko.out _ (hkey.out.below hOn) (h2.out.below hOn) (hK.out.below hOn) (hF.out.below hOn)).mono ?_)
        rintro e w12 ⟨rfl, hnew⟩
        have hw := Lib.hid (Below.trans hOn (hnew.mono hOn.size))
        replace h1 := Lib.hid (h1.out.below hw.out); replace h2 := Lib.hid (h2.out.below hw.out); replace hK := Lib.hid (hK.out.below hw.out); replace hF := Lib.hid (hF.out.below hw.out); replace h10 := Lib.hid (h10.out.below hw.out); replace hin := Lib.hid (hin.out.below hw.out); replace hAt := Lib.hid (hAt.out.below hw.out); replace hkey := Lib.hid (hkey.out.below hw.out)
        replace hrow := Lib.hid (rowG hrow.out _ hw.out)
        have rlA := rowG hrow.out
        replace hb1 := Lib.hid (hb1.out.trans (hw.out.mono hb1.out.size))
        clear hw
        have kt := convE h10.out 8 hlen.out
        have kw := convE (harg.out _ _ hrow.out) 8 hlen.out
        go_wp2_with fail
        refine hKz.out _ _ (Grown.trans hOn hnew) (fun hNext => ?_)
        clear hKz Kz hOn
        refine wpAnyH_onward hNext (fun hOn => ?_)
        clear hNext hnew
        try simp only [Act.put, List.setIfInBounds_toArray, List.set_cons_zero, List.set_cons_succ]
        refine wpAnyH_take (i := 10) (v := ?_) (by simp only [List.getElem?_toArray, List.getElem?_cons_succ, List.getElem?_cons_zero]; rfl) (by kernel_rfl) (by kernel_rfl) (by kernel_rfl) (by exact fun _ _ _ h => h) (Or.inl ⟨by rfl, ?_⟩) hOn ?_
        rotate_left
        focus (intro W hSW; go_simp; try with_reducible rfl)
        try simp only [Act.put, List.setIfInBounds_toArray, List.set_cons_zero, List.set_cons_succ]
        refine wpAnyH_take (i := 11) (v := ?_) (by simp only [List.getElem?_toArray, List.getElem?_cons_succ, List.getElem?_cons_zero]; rfl) (by kernel_rfl) (by kernel_rfl) (by kernel_rfl) (by exact fun _ _ _ h => h) (Or.inl ⟨by rfl, ?_⟩) hOn ?_
        rotate_left
        focus (intro W hSW; go_simp; try with_reducible rfl)
        try simp only [Act.put, List.setIfInBounds_toArray, List.set_cons_zero, List.set_cons_succ]
        refine wpAnyH_take (i := 12) (v := ?_) (by simp only [List.getElem?_toArray, List.getElem?_cons_succ, List.getElem?_cons_zero]; rfl) (by kernel_rfl) (by kernel_rfl) (by kernel_rfl) (by exact fun _ _ _ h => h) (Or.inl ⟨by rfl, ?_⟩) hOn ?_
        rotate_left
        focus (intro W hSW; go_simp; try with_reducible rfl)
        try simp only [Act.put, List.setIfInBounds_toArray, List.set_cons_zero, List.set_cons_succ]
        refine wpAnyH_take (i := 13) (v := ?_) (by simp only [List.getElem?_toArray, List.getElem?_cons_succ, List.getElem?_cons_zero]; rfl) (by kernel_rfl) (by kernel_rfl) (by kernel_rfl) (by exact fun _ _ _ h => h) (Or.inl ⟨by rfl, ?_⟩) hOn ?_
        rotate_left
        focus (intro W hSW; go_simp; try with_reducible rfl)
        try simp only [Act.put, List.setIfInBounds_toArray, List.set_cons_zero, List.set_cons_succ]
        refine wpAnyH_take (i := 14) (v := ?_) (by simp only [List.getElem?_toArray, List.getElem?_cons_succ, List.getElem?_cons_zero]; rfl) (by kernel_rfl) (by kernel_rfl) (by kernel_rfl) (by exact fun _ _ _ h => h) (Or.inl ⟨by rfl, ?_⟩) hOn ?_
        rotate_left
        focus (intro W hSW; go_simp; try with_reducible rfl)
        try simp only [Act.put, List.setIfInBounds_toArray, List.set_cons_zero, List.set_cons_succ]
        refine wpAnyH_take (i := 15) (v := ?_) (by simp only [List.getElem?_toArray, List.getElem?_cons_succ, List.getElem?_cons_zero]; rfl) (by kernel_rfl) (by kernel_rfl) (by kernel_rfl) (by exact fun _ _ _ h => h) (Or.inl ⟨by rfl, ?_⟩) hOn ?_
        rotate_left
        focus (intro W hSW; go_simp; try with_reducible rfl)
        try simp only [Act.put, List.setIfInBounds_toArray, List.set_cons_zero, List.set_cons_succ]
        refine wpAnyH_take (i := 16) (v := ?_) (by simp only [List.getElem?_toArray, List.getElem?_cons_succ, List.getElem?_cons_zero]; rfl) (by kernel_rfl) (by kernel_rfl) (by kernel_rfl) (by exact fun _ _ _ h => h) (Or.inl ⟨by rfl, ?_⟩) hOn ?_
        rotate_left
        focus (intro W hSW; go_simp; try with_reducible rfl)
        try simp only [Act.put, List.setIfInBounds_toArray, List.set_cons_zero, List.set_cons_succ]
        refine wpAnyH_take (i := 17) (v := ?_) (by simp only [List.getElem?_toArray, List.getElem?_cons_succ, List.getElem?_cons_zero]; rfl) (by kernel_rfl) (by kernel_rfl) (by kernel_rfl) (by exact fun _ _ _ h => h) (Or.inl ⟨by rfl, ?_⟩) hOn ?_
        rotate_left
        focus (intro W hSW; go_simp; try with_reducible rfl)
        try simp only [Act.put, List.setIfInBounds_toArray, List.set_cons_zero, List.set_cons_succ]
        refine wpAnyH_take (i := 18) (v := ?_) (by simp only [List.getElem?_toArray, List.getElem?_cons_succ, List.getElem?_cons_zero]; rfl) (by kernel_rfl) (by kernel_rfl) (by kernel_rfl) (by exact fun _ _ _ h => h) (Or.inl ⟨by rfl, ?_⟩) hOn ?_
        rotate_left
        focus (intro W hSW; go_simp; try with_reducible rfl)
        try simp only [Act.put, List.setIfInBounds_toArray, List.set_cons_zero, List.set_cons_succ]
        refine wpAnyH_take (i := 19) (v := ?_) (by simp only [List.getElem?_toArray, List.getElem?_cons_succ, List.getElem?_cons_zero]; rfl) (by kernel_rfl) (by kernel_rfl) (by kernel_rfl) (by exact fun _ _ _ h => h) (Or.inl ⟨by rfl, ?_⟩) hOn ?_
        rotate_left
        focus (intro W hSW; go_simp; try with_reducible rfl)
        try simp only [Act.put, List.setIfInBounds_toArray, List.set_cons_zero, List.set_cons_succ]
        refine wpAnyH_take (i := 20) (v := ?_) (by simp only [List.getElem?_toArray, List.getElem?_cons_succ, List.getElem?_cons_zero]; rfl) (by kernel_rfl) (by kernel_rfl) (by kernel_rfl) (by exact fun _ _ _ h => h) (Or.inl ⟨by rfl, ?_⟩) hOn ?_
        rotate_left
        focus (intro W hSW; go_simp; try with_reducible rfl)
        try simp only [Act.put, List.setIfInBounds_toArray, List.set_cons_zero, List.set_cons_succ]
        refine wpAnyH_take (i := 21) (v := ?_) (by simp only [List.getElem?_toArray, List.getElem?_cons_succ, List.getElem?_cons_zero]; rfl) (by kernel_rfl) (by kernel_rfl) (by kernel_rfl) (by exact fun _ _ _ h => h) (Or.inl ⟨by rfl, ?_⟩) hOn ?_
        rotate_left
        focus (intro W hSW; go_simp; try with_reducible rfl)
        try simp only [Act.put, List.setIfInBounds_toArray, List.set_cons_zero, List.set_cons_succ]
        refine wpAnyH_take (i := 22) (v := ?_) (by simp only [List.getElem?_toArray, List.getElem?_cons_succ, List.getElem?_cons_zero]; rfl) (by kernel_rfl) (by kernel_rfl) (by kernel_rfl) (by exact fun _ _ _ h => h) (Or.inl ⟨by rfl, ?_⟩) hOn ?_
        rotate_left
        focus (intro W hSW; go_simp; try with_reducible rfl)
        try simp only [Act.put, List.setIfInBounds_toArray, List.set_cons_zero, List.set_cons_succ]
        refine wpAnyH_ready (rs := [23]) (by kernel_rfl) (by simp) ?_
        refine AllReadyH.cons (by simp only [List.getElem?_toArray, List.getElem?_cons_succ, List.getElem?_cons_zero]; rfl) (fun Kz hKz => ?_) AllReadyH.nil
        go_simp
        (with_reducible refine (hri.out _ _ _ (hkey.out.below hOn) (h10.out.below hOn) (h2.out.below hOn) (hK.out.below hOn) (hF.out.below hOn)).mono ?_)
        rintro e w13 ⟨rfl, hnew⟩
        have hw := Lib.hid (Below.trans hOn (hnew.mono hOn.size))
        replace h1 := Lib.hid (h1.out.below hw.out); replace hAt := Lib.hid (hAt.out.below hw.out)
        replace hb1 := Lib.hid (hb1.out.trans (hw.out.mono hb1.out.size))
        clear hw
        go_wp2_with fail
        refine hKz.out _ _ (Grown.trans hOn hnew) (fun hNext => ?_)
        clear hKz Kz hOn
        refine wpAnyH_onward hNext (fun hOn => ?_)
        clear hNext hnew
        try simp only [Act.put, List.setIfInBounds_toArray, List.set_cons_zero, List.set_cons_succ]
        refine wpAnyH_take (i := 24) (v := ?_) (by simp only [List.getElem?_toArray, List.getElem?_cons_succ, List.getElem?_cons_zero]; rfl) (by kernel_rfl) (by kernel_rfl) (by kernel_rfl) (by exact fun _ _ _ h => h) (Or.inl ⟨by rfl, ?_⟩) hOn ?_
        rotate_left
        focus (intro W hSW; go_simp; try with_reducible rfl)
        try simp only [Act.put, List.setIfInBounds_toArray, List.set_cons_zero, List.set_cons_succ]
        refine wpAnyH_take (i := 25) (v := ?_) (by simp only [List.getElem?_toArray, List.getElem?_cons_succ, List.getElem?_cons_zero]; rfl) (by kernel_rfl) (by kernel_rfl) (by kernel_rfl) (by exact fun _ _ _ h => h) (Or.inl ⟨by rfl, ?_⟩) hOn ?_
        rotate_left
        focus (intro W hSW; go_simp; try with_reducible rfl)
        try simp only [Act.put, List.setIfInBounds_toArray, List.set_cons_zero, List.set_cons_succ]
        refine wpAnyH_take (i := 26) (v := ?_) (by simp only [List.getElem?_toArray, List.getElem?_cons_succ, List.getElem?_cons_zero]; rfl) (by kernel_rfl) (by kernel_rfl) (by kernel_rfl) (by exact fun _ _ _ h => h) (Or.inl ⟨by rfl, ?_⟩) hOn ?_
        rotate_left
        focus (intro W hSW; go_simp; try with_reducible rfl)
        try simp only [Act.put, List.setIfInBounds_toArray, List.set_cons_zero, List.set_cons_succ]
        refine wpAnyH_take (i := 27) (v := ?_) (by simp only [List.getElem?_toArray, List.getElem?_cons_succ, List.getElem?_cons_zero]; rfl) (by kernel_rfl) (by kernel_rfl) (by kernel_rfl) (by exact fun _ _ _ h => h) (Or.inl ⟨by rfl, ?_⟩) hOn ?_
        rotate_left
        focus (intro W hSW; go_simp; try with_reducible rfl)
        try simp only [Act.put, List.setIfInBounds_toArray, List.set_cons_zero, List.set_cons_succ]
        refine wpAnyH_ready (rs := [28]) (by kernel_rfl) (by simp) ?_
        refine AllReadyH.cons (by simp only [List.getElem?_toArray, List.getElem?_cons_succ, List.getElem?_cons_zero]; rfl) (fun Kz hKz => ?_) AllReadyH.nil
        go_simp
        (with_reducible refine (kept_any g a1 c1 key _ (by omega) (hAt.out.below hOn) (h1.out.below hOn)).mono ?_)
        rintro e w14 ⟨rfl, hd⟩
        have hnew := grown_drawn hd
        have hw := Lib.hid (Below.trans hOn (hnew.mono hOn.size))
        replace hb1 := Lib.hid (hb1.out.trans (hw.out.mono hb1.out.size))
        clear hw hd
        go_wp2_with fail
        refine hKz.out _ _ (Grown.trans hOn hnew) (fun hNext => ?_)
        clear hKz Kz hOn
        refine wpAnyH_onward hNext (fun hOn => ?_)
        clear hNext hnew
        try simp only [Act.put, List.setIfInBounds_toArray, List.set_cons_zero, List.set_cons_succ]
        refine wpAnyH_take (i := 29) (v := ?_) (by simp only [List.getElem?_toArray, List.getElem?_cons_succ, List.getElem?_cons_zero]; rfl) (by kernel_rfl) (by kernel_rfl) (by kernel_rfl) (by exact fun _ _ _ h => h) (Or.inl ⟨by rfl, ?_⟩) hOn ?_
        rotate_left
        focus (intro W hSW; go_simp; try with_reducible rfl)
        try simp only [Act.put, List.setIfInBounds_toArray, List.set_cons_zero, List.set_cons_succ]
        refine wpAnyH_take (i := 30) (v := ?_) (by simp only [List.getElem?_toArray, List.getElem?_cons_succ, List.getElem?_cons_zero]; rfl) (by kernel_rfl) (by kernel_rfl) (by kernel_rfl) (by exact fun _ _ _ h => h) (Or.inl ⟨by rfl, ?_⟩) hOn ?_
        rotate_left
        focus (intro W hSW; go_simp; try with_reducible rfl)
        try simp only [Act.put, List.setIfInBounds_toArray, List.set_cons_zero, List.set_cons_succ]
        refine wpAnyH_done (by kernel_rfl) ?_ _
        go_wp2_with fail
        go_ret
        exact ⟨rfl, hb1.out⟩

end Go.Proofs.YtajmfijpeckncaaDoor
