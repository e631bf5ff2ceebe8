/- The walk over code.Parity. -/
import Derived.Test.YtenkdikdofhnpaaDoorGen
import Derived.Test.YtenkdikdofhnpaaDoorPlacesW
import Derived.Test.YtenkdikdofhnpaaDoorWordL
import Derived.Test.YtenkdikdofhnpaaDoorNum
import Derived.Laws.CopyOwn
import Derived.IntWalk
namespace Go.Proofs.YtenkdikdofhnpaaDoor
open Go.RowKit

theorem own_block {base g : Nat} {w : World} {n : Nat} {bs : List UInt8} (h : OwnB base w (.slice (some ⟨g, 0, none⟩) n n) bs) (hn : bs.length = n) : w.heap[g]? = some (.cells (cB bs).toArray 5 (0, 0)) := by
  subst hn
  rcases h.2 with ⟨h', _⟩ | ⟨g', cap', cur, h', _, hg, _, _, hs, ht⟩
  · simp at h'
  · obtain ⟨rfl, rfl⟩ : g = g' ∧ bs.length = cap' := by simpa using h'
    rw [hg]
    have : cur = (cB bs).toArray := by
      rw [← ht, List.take_of_length_le (by rw [Array.length_toList, hs]; exact Nat.le_refl _)]
    rw [this]
theorem block_own {base g : Nat} {w : World} {n : Nat} {bs : List UInt8} (h : w.heap[g]? = some (.cells (cB bs).toArray 5 (0, 0))) (hb : base ≤ g) (hn : bs.length = n) (hm : n ≤ 1000000) : OwnB base w (.slice (some ⟨g, 0, none⟩) n n) bs := by
  subst hn
  exact ⟨by rw [cB_length, Nat.mul_one], .inr ⟨g, bs.length, _, rfl, hb, h, Nat.le_refl _, by unfold maxLen; omega, by simp [cB_length], by rw [Nat.mul_one]; exact List.take_of_length_le (by simp [cB_length])⟩⟩

/-- The register within a round: the first k places are new. -/
def regTo (g r : List UInt8) (c : UInt8) (k j : Nat) : UInt8 := if j < k then regAt g r c j else cf r (j + 1)
theorem cB_drop (bs : List UInt8) (n : Nat) : (cB bs).drop n = cB (bs.drop n) := by simp [cB]
theorem regTo_zero (g r : List UInt8) (c : UInt8) : regTo g r c 0 = fun j => cf r (j + 1) := by
  funext j; unfold regTo; rw [if_neg (Nat.not_lt_zero j)]
theorem regTo_full (g r : List UInt8) (c : UInt8) : tab 32 (regTo g r c 32) = regStep g r c :=
  tab_congr fun j hj => by unfold regTo; rw [if_pos hj]
theorem regTo_next (g r : List UInt8) (c : UInt8) (k : Nat) : (tab 32 (regTo g r c k)).set k (Gf.add (cf r (k + 1)) (Gf.mul (Gf.add c (cf r 0)) (cf g (31 - k)))) = tab 32 (regTo g r c (k + 1)) := by
  rw [tab_set]
  refine tab_congr fun j _ => ?_
  unfold regTo
  by_cases h1 : j = k
  · subst h1; rw [if_pos rfl, if_pos (by omega)]; rfl
  · rw [if_neg h1]
    by_cases h2 : j < k
    · rw [if_pos h2, if_pos (by omega)]
    · rw [if_neg h2, if_neg (by omega)]
theorem regTo_at (g r : List UInt8) (c : UInt8) (k : Nat) (h : k < 32) : cf (tab 32 (regTo g r c k)) k = cf r (k + 1) := by
  rw [cf_tab, if_pos h]; unfold regTo; rw [if_neg (Nat.lt_irrefl k)]
/-- The shift. -/
def shl1 (r : List UInt8) : List UInt8 := r.drop 1 ++ r.drop 31
theorem shl1_length (r : List UInt8) (hr : r.length = 32) : (shl1 r).length = 32 := by simp [shl1, hr]
theorem shl1_splice (r : List UInt8) (hr : r.length = 32) : splice (cB r) 0 (cB r).tail = cB (shl1 r) := by
  rw [← List.drop_one]
  unfold splice shl1
  rw [List.length_drop, cB_length, hr, cB_append, cB_drop, cB_drop]
  rfl
theorem shl1_set (r : List UInt8) (hr : r.length = 32) : (shl1 r).set 31 0 = tab 32 fun j => cf r (j + 1) := by
  have e : shl1 r = tab 32 (cf (shl1 r)) := by
    have := tab_cf (shl1 r)
    rw [shl1_length r hr] at this
    exact this.symm
  rw [e, tab_set]
  refine tab_congr fun j hj => ?_
  by_cases h : j = 31
  · subst h; rw [if_pos rfl, cf_ge (by omega)]
  · rw [if_neg h]
    unfold shl1
    rw [cf_append, if_pos (by rw [List.length_drop, hr]; omega), cf_drop, Nat.add_comm]

/-- ErrSize, as the walks want it. -/
def SizeAt (w : World) (z : Addr) : Prop := w.cell? ⟨0, 0, none⟩ = some (.iface 81 (.pointer (some z)))
theorem SizeAt.below {w w' : World} {z : Addr} (h : SizeAt w z) (hb : Below w.heap.size w w') : SizeAt w' z := (hb.cell (World.block_lt_of_cell? w _ h)).trans h

set_option maxHeartbeats 1000000 in
theorem parity_size (a : Option Addr) (ca : Nat) (bs : List UInt8) (w : World) (z : Addr) (hz : SizeAt w z) (hl : bs.length ≤ 1000000) (h : ¬ (1 ≤ bs.length ∧ bs.length ≤ 223)) :
    Calls Tryd.prog 22 #[.slice a bs.length ca] w fun e w' => e = .returned (.tuple #[.slice none 0 0, .iface 81 (.pointer (some z))]) ∧ Drawn w w' := by
  have hd : decide (1 ≤ (bs.length : Int) ∧ (bs.length : Int) ≤ 223) = false := decide_eq_false (by omega)
  unfold SizeAt at hz
  clear h
  go_enter Tryd.func22, Tryd.ntmps22
  go_wp2_with fail
  with_reducible refine (sized_any _ _).mono ?_
  rintro e w1 ⟨rfl, rfl⟩
  rw [hd]
  go_wp2_with fail
  go_quiet (fail)
  go_wp2_with fail
  go_ret2
  exact ⟨rfl, _, rfl⟩

set_option maxRecDepth 10000 in
set_option maxHeartbeats 4000000 in
theorem parity_any (a : Option Addr) (ca : Nat) (bs : List UInt8) (w : World) (ha : ArgB w a ca bs) (h1 : 1 ≤ bs.length) (h2 : bs.length ≤ 223) :
    Calls Tryd.prog 22 #[.slice a bs.length ca] w fun e w' => ∃ v, e = .returned (.tuple #[v, .nilIface]) ∧ OwnB w.heap.size w' v (regOf genP bs) ∧ Below w.heap.size w w' := by
  have hd : decide (1 ≤ (bs.length : Int) ∧ (bs.length : Int) ≤ 223) = true := decide_eq_true (by omega)
  have ha := Lib.hid ha
  have hgl := genP_length
  generalize hG : genP = G at *
  obtain ⟨i0, hi, hz0, hz1, hz2⟩ := info_parts Tryd.infoByteP
  go_enter Tryd.func22, Tryd.ntmps22
  go_wp2_with fail
  with_reducible refine (sized_any _ _).mono ?_
  rintro e w1 ⟨rfl, rfl⟩
  rw [hd]
  go_wp2_with fail
  with_reducible refine (make_any _).mono ?_
  rintro e w1 ⟨rfl, hb1, ht1⟩
  have hlt1 := ht1.lt
  have hs1 := hb1.size
  replace ha := Lib.hid (ha.out.below hb1)
  replace ht1 := Lib.hid ht1
  replace hb1 := Lib.hid hb1
  go_wp2_with fail
  with_reducible refine (gen_any _).mono ?_
  rintro e w2 ⟨v, rfl, ho, hb2⟩
  rw [hG] at ho
  obtain ⟨ag, cg, rfl, hg, _⟩ := ho.arg
  rw [hgl]
  have hs2 := hb2.size
  replace ha := Lib.hid (ha.out.below hb2)
  replace ht1 := Lib.hid (ht1.out.below hb2 hlt1)
  replace hb2 := Lib.hid (hb1.out.trans (hb2.mono hs1))
  replace hg := Lib.hid hg
  clear hb1 ho
  go_wp2_with (at_make; go_must (refine wpList_make_full _ rfl _ _ 22 rfl w2.heap.size 5 i0 (.int .u8 0) 1 Tryd.underlying22 hi hz0 hz1 _ _ _ _ 32 rfl rfl (by simp) (by simp) (by rw [hz2]; omega) (by unfold maxLen; omega) (Nat.le_refl _) ?_))
  intro w3 hown3 hg3
  have hq := Lib.hid (OwnB.made hown3)
  have hb3 := Lib.hid ((Below.refl w2.heap.size w2).grown hg3 (Nat.le_refl _) (fun k hk => by cases hk))
  clear hown3 hg3
  obtain ⟨gb, hgb⟩ : ∃ g, g = w2.heap.size := ⟨_, rfl⟩
  have hgs : w2.heap.size ≤ gb := by omega
  have hsg := Lib.hid (show w.heap.size ≤ gb from by omega)
  rw [← hgb] at hq ⊢
  clear hgb
  go_wp2_with fail
  go_loopw [8, 9, 10, 21] (fun _ _ _ j wr => ∃ k : Nat, k ≤ bs.length ∧ j = .int .i64 k ∧ OwnB w2.heap.size wr (.slice (some ⟨gb, 0, none⟩) 32 32) (regOf G (bs.take k)) ∧ Below w2.heap.size w2 wr)
    (fun _ _ _ j _ => bs.length - (intOf j).toNat)
  case atStart => exact ⟨0, Nat.zero_le _, rfl, hq.out.mono hgs, hb3.out⟩
  case round =>
    clear hq hb3
    obtain ⟨k, hk, rfl, hrow, hbel⟩ := hrel
    by_cases hlt : k < bs.length
    · obtain ⟨xb, xo, rfl, cx⟩ := (ha.out.below hbel).row k hlt
      rw [show bs.getD k 0 = cf bs k from rfl] at cx
      have hstep := Lib.hid (regOf_take (g := G) hlt)
      have hrl := regOf_length G (bs.take k)
      obtain ⟨r, hr⟩ : ∃ r, r = regOf G (bs.take k) := ⟨_, rfl⟩
      rw [← hr] at hrow hrl hstep
      have c0 := hrow.cell hrl.symm (j := 0) (by omega)
      have hblk := Lib.hid (own_block hrow hrl)
      obtain ⟨c, hc⟩ : ∃ c, c = cf bs k := ⟨_, rfl⟩
      rw [← hc] at cx hstep
      have hsp := Lib.hid (shl1_splice r hrl)
      have hst := Lib.hid (shl1_set r hrl)
      have hsl := Lib.hid (shl1_length r hrl)
      have hgz : (Tryd.prog.info? 5).map (·.size) = some 1 := by rw [hi]; simp [hz1]
      replace hbel := Lib.hid hbel
      replace hrow := Lib.hid hrow
      clear hc hr
      go_wp2_with (with_reducible refine wpList_copy_splice rfl (.tmp 30) (.tmp 32) 22 22 rfl 5 Tryd.underlying22 hgz _ _ _ _ _ _ rfl rfl gb 0 (cB r) 5 hblk.out ((cB r).drop 1) ?_ ?_ ?_ ?_ w2.heap.size w2 hbel.out hgs ?_)
      · rw [List.length_drop, cB_length, hrl]; rfl
      · intro _ j v hv
        rw [cell_of_block hblk.out, Nat.add_comm 1 j]
        simpa using hv
      · rw [List.length_drop, cB_length, hrl]; omega
      · intro v hv
        exact cB_one r v (List.mem_of_mem_drop hv)
      intro w4 hG4 hb4
      have hrow4 : OwnB w2.heap.size w4 (.slice (some ⟨gb, 0, none⟩) 32 32) (shl1 r) := block_own (by rw [← hsp.out]; exact hG4.out) hgs hsl.out (by omega)
      have f31 := hrow4.free hsl.out.symm 31
      obtain ⟨y31, c31⟩ : ∃ y, w4.cell? ⟨gb, 31, none⟩ = some (.int .u8 y) := ⟨_, hrow4.cell hsl.out.symm (j := 31) (by omega)⟩
      have hset := hrow4.set hsl.out.symm 31 0
      rw [hst.out, ← regTo_zero G r c] at hset
      replace hset := Lib.hid hset
      have hbs := Lib.hid (Below.setCell hb4 (p := ⟨gb, 31, none⟩) hgs (.int .u8 0))
      clear hrow4 hG4 hb4 hblk hrow hbel
      have hxor := Lib.hid (xor_u8 c (cf r 0))
      have hful := Lib.hid (regTo_full G r c)
      go_wp2_with fail
      rw [hxor.out]
      go_loopw [10, 38] (fun _ j wq => ∃ m : Nat, m ≤ 32 ∧ j = .int .i64 m ∧ OwnB w2.heap.size wq (.slice (some ⟨gb, 0, none⟩) 32 32) (tab 32 (regTo G r c m)) ∧ Below w2.heap.size w2 wq)
        (fun _ j _ => 32 - (intOf j).toNat)
      case atStart => exact ⟨0, Nat.zero_le _, rfl, hset.out, hbs.out⟩
      case round =>
        clear hset hbs
        obtain ⟨m, hm, rfl, hq, hbq⟩ := hrel
        by_cases hmm : m < 32
        · obtain ⟨gb2, go2, rfl, cg1⟩ := (hg.out.below hbq).row (31 - m) (by omega)
          rw [show G.getD (31 - m) 0 = cf G (31 - m) from rfl] at cg1
          have c1 := hq.cell (tab_length _ _).symm (j := m) (by omega)
          rw [regTo_at _ _ _ _ hmm] at c1
          have f1 := hq.free (tab_length _ _).symm m
          have hnx := hq.set (tab_length _ _).symm m (Gf.add (cf r (m + 1)) (Gf.mul (Gf.add c (cf r 0)) (cf G (31 - m))))
          rw [regTo_next] at hnx
          have htab := ht1.out.below hbq (by omega)
          replace hnx := Lib.hid hnx
          replace hq := Lib.hid hq
          replace hbq := Lib.hid hbq
          replace htab := Lib.hid htab
          generalize cf G (31 - m) = y at *
          generalize cf r (m + 1) = x at *
          generalize cf r 0 = x0 at *
          have hk1 : (31 : Int) - m < 33 := by omega
          have hk2 : (0 : Int) ≤ (31 : Int) - m := by omega
          have hk3 : ((31 : Int) - m).toNat = 31 - m := by omega
          have hk5 := IntWalk.i64_in ((31 : Int) - m) (by omega)
          go_wp2_with fail
          have htd : TabAt wr.drew w.heap.size := htab.out
          replace htd := Lib.hid htd
          go_region_with (go_at_call 31; refine (tmul_any (Gf.add c x0) y w.heap.size wr.drew htd.out).mono ?_; rintro e w' ⟨rfl, n', rfl⟩)
          all_goals
            clear hk1 hk2 hk3 hk5
            go_wp2_with fail
            go_roundw
            case rel => exact ⟨m + 1, by omega, by go_num, by rw [xor_u8]; exact hnx.out, below_drewN (hbq.out.setCell (p := ⟨gb, m, none⟩) hgs _) _⟩
            case measure => simp [intOf]; omega
        · obtain rfl : m = 32 := by omega
          rw [hful.out, ← hstep.out] at hq
          replace hq := Lib.hid hq
          replace hbq := Lib.hid hbq
          go_wp2_with fail
          go_roundw
          case rel => exact ⟨k + 1, by omega, by go_num, hq.out, hbq.out⟩
          case measure => simp [intOf]; omega
    · obtain rfl : k = bs.length := by omega
      rw [List.take_length] at hrow
      replace hrow := Lib.hid (hrow.mono (base' := w.heap.size) (by omega))
      replace hbel := Lib.hid (hb2.out.trans (hbel.mono (by omega)))
      go_wp2_with fail
      go_ret2
      exact ⟨_, rfl, hrow.out, hbel.out⟩

end Go.Proofs.YtenkdikdofhnpaaDoor
