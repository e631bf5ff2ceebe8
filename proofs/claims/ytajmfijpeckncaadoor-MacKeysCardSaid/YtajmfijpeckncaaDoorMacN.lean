/- The walks over mac.Of, (*mac.Key).Tag, mac.Same, (*mac.Key).Right. -/
import Derived.Test.YtajmfijpeckncaaDoorMacM
namespace Go.Proofs.YtajmfijpeckncaaDoor
open Go.RowKit

theorem agg32 : Tryd.prog.underlying 31 = some (.array 32 5) := Tryd.underlying31
theorem cB_all (l : List UInt8) : (cB l).toArray.all (·.oneCell') = true := by
  rw [List.all_toArray, List.all_eq_true]
  exact cB_one _
theorem size32 (l : List UInt8) (hl : l.length = 32) : (Tryd.prog.info? 31).map (·.size) = some (cB l).toArray.size := by rw [List.size_toArray, cB_length, hl]; kernel_rfl
theorem z32 (l : List UInt8) (hl : l.length = 32) : zero32.size = (cB l).toArray.size := by rw [zero32_size, List.size_toArray, cB_length, hl]

set_option maxRecDepth 10000 in
set_option maxHeartbeats 1000000 in
theorem macOf_any (ak : Option Addr) (ck : Nat) (key : List UInt8) (a : Option Addr) (cap : Nat) (ps : List (List UInt8)) (w : World) (hk : ArgB w ak ck key) (hkl : key.length ≤ 10000) (h : ArgBB w a cap ps) (hl : ps.flatten.length ≤ 90000) (hn : ps.length ≤ 10000) (hK : ShaK w) (hF : ShaF w) :
    Calls Tryd.prog 10 #[.slice ak key.length ck, .slice a ps.length cap] w fun e w' => e = .returned (.agg (cB (hmac key ps.flatten)).toArray) ∧ Below w.heap.size w w' := by
  have zr2 := zero32_run
  have zn2 := zero32_ne
  have hw0 : Below w.heap.size w (w.alloc (.cells zero32 31)) := (Below.refl _ w).alloc (Nat.le_refl _) _
  have hZ := heap_alloc_new w (.cells zero32 31)
  have sD := size32 (hmac key ps.flatten) (hmac_length _ _)
  have s32 := z32 (hmac key ps.flatten) (hmac_length _ _)
  have sO := cB_all (hmac key ps.flatten)
  replace h := Lib.hid (h.below hw0)
  replace hk := Lib.hid (hk.below hw0)
  replace hK := Lib.hid (hK.below hw0)
  replace hF := Lib.hid (hF.below hw0)
  obtain ⟨p, hp⟩ : ∃ p, p = w.heap.size := ⟨_, rfl⟩
  obtain ⟨A, hA⟩ : ∃ A, A = w.alloc (.cells zero32 31) := ⟨_, rfl⟩
  rw [← hA] at h hk hK hF hZ hw0
  rw [← hp] at hZ
  have hpl : w.heap.size ≤ p := by omega
  replace hZ := Lib.hid hZ
  replace hw0 := Lib.hid hw0
  replace hp := Lib.hid hp
  replace hA := Lib.hid hA
  obtain ⟨D, hD⟩ : ∃ D, D = (cB (hmac key ps.flatten)).toArray := ⟨_, rfl⟩
  rw [← hD] at sD s32 sO
  replace hD := Lib.hid hD
  go_enter Tryd.func10, Tryd.ntmps10
  go_wp2_with fail
  rw [← hA.out, ← hp.out]
  with_reducible refine (macMake_any ak ck key _ hk.out hkl hK.out hF.out).mono ?_
  rintro e w1 ⟨b, rfl, hkey, hb1⟩
  replace hkey := Lib.hid hkey
  replace hb1 := Lib.hid hb1
  go_wp2_with fail
  with_reducible refine (keyOf_any b key a cap ps _ hkey.out (h.out.below hb1.out) hl hn (hK.out.below hb1.out) (hF.out.below hb1.out)).mono ?_
  rintro e w2 ⟨rfl, hb2⟩
  rw [← hD.out]
  have hb3 := hw0.out.trans ((hb1.out.trans (hb2.mono hb1.out.size)).mono hw0.out.size)
  have hZ2 := Lib.hid (rowG (rowG hZ.out _ hb1.out) _ hb2)
  replace hb3 := Lib.hid hb3
  clear hb2
  go_wp2_with (with_reducible refine wpList_store_row rfl 31 (.tmp 4) (.tmp 8) rfl p zero32 D rfl rfl hZ2 sD s32 sO ?_)
  intro w3 hU
  go_wp2_with fail
  exact ret_cell_row rfl rfl agg32 rfl sD hU.out.here ⟨by rw [hD.out], hb3.out.trans (hU.out.below hpl)⟩

set_option maxRecDepth 10000 in
set_option maxHeartbeats 1000000 in
theorem keyTag_any (b : Nat) (key : List UInt8) (a : Option Addr) (cap : Nat) (ps : List (List UInt8)) (w : World) (hk : KeyAt w b key) (h : ArgBB w a cap ps) (hl : ps.flatten.length ≤ 90000) (hn : ps.length ≤ 10000) (hK : ShaK w) (hF : ShaF w) :
    Calls Tryd.prog 9 #[.pointer (some ⟨b, 0, none⟩), .slice a ps.length cap] w fun e w' => ∃ v, e = .returned v ∧ OwnB w.heap.size w' v ((hmac key ps.flatten).take 8) ∧ Below w.heap.size w w' := by
  have zr2 := zero32_run
  have zn2 := zero32_ne
  have sD := size32 (hmac key ps.flatten) (hmac_length _ _)
  have s32 := z32 (hmac key ps.flatten) (hmac_length _ _)
  have sO := cB_all (hmac key ps.flatten)
  have hlen := Lib.hid (show ((hmac key ps.flatten).take 8).length = 8 from by rw [List.length_take, hmac_length]; rfl)
  have harg := Lib.hid (fun (W : World) (g : Nat) (hh : W.heap[g]? = some (.cells (cB (hmac key ps.flatten)).toArray 31 (0, 0))) => argB_takeN (argB_block (c := 32) hh (by rw [hmac_length]; omega) (by omega)) 8 (by rw [hmac_length]; omega))
  obtain ⟨D, hD⟩ : ∃ D, D = (cB (hmac key ps.flatten)).toArray := ⟨_, rfl⟩
  have hof := Lib.hid (keyOf_any b key a cap ps w hk h hl hn hK hF)
  rw [← hD] at sD s32 sO harg hof
  replace hD := Lib.hid hD
  generalize (hmac key ps.flatten).take 8 = T at *
  go_enter Tryd.func9, Tryd.ntmps9
  go_wp2_with fail
  with_reducible refine hof.out.mono ?_
  rintro e w1 ⟨rfl, hb1⟩
  have hs := hb1.size
  have ha := Lib.hid (harg.out _ _ (heap_alloc_new w1 (.cells D 31)))
  have hb2 := Lib.hid (hb1.alloc hs (.cells D 31))
  replace hb1 := Lib.hid hb1
  go_wp2_with (with_reducible refine wpList_store_new rfl 31 (.tmp 5) (.tmp 8) rfl zero32 D rfl rfl sD s32 sO ?_)
  have hcl := clone_any (some ⟨w1.heap.size, 0, none⟩) 32 T _ ha.out (by have := hlen.out; omega)
  rw [hlen.out] at hcl
  with_reducible refine hcl.mono ?_
  rintro e w2 ⟨v, rfl, ho, hd⟩
  have ho2 := Lib.hid (OwnB.mono (base' := w.heap.size) ho (by simp; omega))
  have hb3 := Lib.hid (hb2.out.trans (hd.mono hb2.out.size))
  clear ho hd hcl
  go_wp2_with fail
  go_ret
  exact ⟨_, rfl, ho2.out, hb3.out⟩

/-- Do two rows differ in their first k bytes? -/
def diffTo (xs ys : List UInt8) : Nat → UInt8
  | 0 => 0
  | k + 1 => diffTo xs ys k ||| (cf xs k ^^^ cf ys k)
theorem diffTo_zero (xs ys : List UInt8) : ∀ k, diffTo xs ys k = 0 ↔ ∀ i, i < k → cf xs i = cf ys i
  | 0 => ⟨fun _ i h => absurd h (Nat.not_lt_zero i), fun _ => rfl⟩
  | k + 1 => by
    rw [diffTo]
    have ih := diffTo_zero xs ys k
    constructor
    · intro h i hi
      have h1 : diffTo xs ys k = 0 ∧ cf xs k ^^^ cf ys k = 0 := by
        generalize diffTo xs ys k = a at *
        generalize cf xs k ^^^ cf ys k = b at *
        rw [← UInt8.toBitVec_inj, UInt8.toBitVec_or] at h
        have h' := BitVec.or_eq_zero_iff.1 h
        exact ⟨UInt8.toBitVec_inj.1 h'.1, UInt8.toBitVec_inj.1 h'.2⟩
      rcases Nat.lt_or_ge i k with h3 | h3
      · exact ih.1 h1.1 i h3
      · obtain rfl : i = k := by omega
        exact UInt8.xor_eq_zero_iff.1 h1.2
    · intro h
      rw [ih.2 fun i hi => h i (by omega), h k (by omega), UInt8.xor_self]
      rfl
theorem diffTo_eq (xs ys : List UInt8) (h : xs.length = ys.length) : diffTo xs ys xs.length = 0 ↔ xs = ys := by
  rw [diffTo_zero]
  constructor
  · intro h1
    refine cf_ext h fun i => ?_
    rcases Nat.lt_or_ge i xs.length with h3 | h3
    · exact h1 i h3
    · rw [cf_ge h3, cf_ge (by omega)]
  · rintro rfl i _; rfl
theorem or8 (x y : UInt8) : bits BinOp.or IntKind.u8 (x.toNat : Int) (y.toNat : Int) = ((x ||| y).toNat : Int) := by
  rw [u8_or_nat _ _ x.toNat_lt y.toNat_lt, UInt8.toNat_or]

set_option maxHeartbeats 1000000 in
theorem macSame_len (a : Option Addr) (ca : Nat) (xs : List UInt8) (b : Option Addr) (cb : Nat) (ys : List UInt8) (w : World) (hne : xs.length ≠ ys.length) :
    Calls Tryd.prog 15 #[.slice a xs.length ca, .slice b ys.length cb] w fun e w' => e = .returned (.bool (decide (xs = ys))) ∧ w = w' := by
  have hd : decide (xs = ys) = false := decide_eq_false (fun e => hne (by rw [e]))
  rw [hd]
  have ht : ((xs.length : Int) != (ys.length : Int)) = true := by simp; omega
  have ht2 : ((xs.length : Int) == (ys.length : Int)) = false := by simp; omega
  replace hne := Lib.hid hne
  go_enter Tryd.func15, Tryd.ntmps15
  go_wp2_with fail
  go_ret
  exact ⟨rfl, rfl⟩

set_option maxHeartbeats 1000000 in
theorem macSame_go (a : Option Addr) (ca : Nat) (xs : List UInt8) (b : Option Addr) (cb : Nat) (ys : List UInt8) (w : World) (ha : ArgB w a ca xs) (hb : ArgB w b cb ys) (hne : xs.length = ys.length) (hl : xs.length ≤ 100000) :
    Calls Tryd.prog 15 #[.slice a xs.length ca, .slice b ys.length cb] w fun e w' => e = .returned (.bool (decide (xs = ys))) ∧ w = w' := by
  rw [← hne]
  have hend := Lib.hid (diffTo_eq xs ys hne)
  replace hne := Lib.hid hne
  replace ha := Lib.hid ha.row
  replace hb := Lib.hid hb.row
  go_enter Tryd.func15, Tryd.ntmps15
  go_wp2_with fail
  go_loop [5, 6, 7, 15] (fun d _ _ i => ∃ k : Nat, k ≤ xs.length ∧ i = .int .i64 k ∧ d = .int .u8 ((diffTo xs ys k).toNat : Int))
    (fun _ _ _ i => xs.length - (intOf i).toNat)
  case atStart => exact ⟨0, Nat.zero_le _, rfl, rfl⟩
  case round =>
    obtain ⟨k, hk, rfl, rfl⟩ := hrel
    by_cases hlt : k < xs.length
    · obtain ⟨b1, o1, rfl, c1⟩ := ha.out k hlt
      obtain ⟨b2, o2, rfl, c2⟩ := hb.out k (by have := hne.out; omega)
      have hnx := Lib.hid (show diffTo xs ys (k + 1) = diffTo xs ys k ||| (cf xs k ^^^ cf ys k) from rfl)
      rw [show xs.getD k 0 = cf xs k from rfl] at c1
      rw [show ys.getD k 0 = cf ys k from rfl] at c2
      have e1 := xor8 (cf xs k) (cf ys k)
      have hki : (k : Int) < xs.length := by omega
      generalize cf xs k = x at *
      generalize cf ys k = y at *
      generalize diffTo xs ys k = d at *
      go_wp2_with fail
      exact ⟨⟨k + 1, by omega, by go_num, by rw [hnx.out, ← UInt8.toNat_xor, or8]⟩, by simp [intOf]; omega⟩
    · obtain rfl : k = xs.length := by omega
      by_cases hz : diffTo xs ys xs.length = 0
      · have hx := Lib.hid (show decide (xs = ys) = true from decide_eq_true (hend.out.1 hz))
        rw [hz]
        go_wp2_with fail
        go_ret
        exact ⟨by rw [hx.out]; rfl, rfl⟩
      · have hx := Lib.hid (show decide (xs = ys) = false from decide_eq_false (fun e => hz (hend.out.2 e)))
        have ht : (((diffTo xs ys xs.length).toNat : Int) == 0) = false := by
          simp only [beq_eq_false_iff_ne, ne_eq]
          intro e
          exact hz (UInt8.toNat_inj.1 (by simpa using Int.ofNat.inj e))
        replace hz := Lib.hid hz
        generalize diffTo xs ys xs.length = d at *
        go_wp2_with fail
        go_ret
        exact ⟨by rw [hx.out]; rfl, rfl⟩

theorem macSame_any (a : Option Addr) (ca : Nat) (xs : List UInt8) (b : Option Addr) (cb : Nat) (ys : List UInt8) (w : World) (ha : ArgB w a ca xs) (hb : ArgB w b cb ys) (hl : xs.length ≤ 100000) :
    Calls Tryd.prog 15 #[.slice a xs.length ca, .slice b ys.length cb] w fun e w' => e = .returned (.bool (decide (xs = ys))) ∧ w = w' := by
  by_cases h : xs.length = ys.length
  · exact macSame_go a ca xs b cb ys w ha hb h hl
  · exact macSame_len a ca xs b cb ys w h

set_option maxHeartbeats 1000000 in
theorem keyRight_any (b : Nat) (key : List UInt8) (at_ : Option Addr) (ct : Nat) (tag : List UInt8) (a : Option Addr) (cap : Nat) (ps : List (List UInt8)) (w : World) (hk : KeyAt w b key) (ht : ArgB w at_ ct tag) (htl : tag.length ≤ 100000) (h : ArgBB w a cap ps) (hl : ps.flatten.length ≤ 90000) (hn : ps.length ≤ 10000) (hK : ShaK w) (hF : ShaF w) :
    Calls Tryd.prog 12 #[.pointer (some ⟨b, 0, none⟩), .slice at_ tag.length ct, .slice a ps.length cap] w fun e w' => e = .returned (.bool (decide (tag = (hmac key ps.flatten).take 8))) ∧ Below w.heap.size w w' := by
  have htg := Lib.hid (keyTag_any b key a cap ps w hk h hl hn hK hF)
  have hlen := Lib.hid (show ((hmac key ps.flatten).take 8).length = 8 from by rw [List.length_take, hmac_length]; rfl)
  replace ht := Lib.hid ht
  generalize (hmac key ps.flatten).take 8 = T at *
  go_enter Tryd.func12, Tryd.ntmps12
  go_wp2_with fail
  with_reducible refine htg.out.mono ?_
  rintro e w1 ⟨v, rfl, ho, hb1⟩
  obtain ⟨a1, c1, rfl, h1, _⟩ := ho.arg
  replace h1 := Lib.hid h1
  replace hb1 := Lib.hid hb1
  clear ho
  go_wp2_with fail
  with_reducible refine (macSame_any at_ ct tag a1 c1 T _ (ht.out.below hb1.out) h1.out htl).mono ?_
  rintro e w2 ⟨rfl, rfl⟩
  go_wp2_with fail
  go_ret
  exact ⟨rfl, hb1.out⟩

end Go.Proofs.YtajmfijpeckncaaDoor
