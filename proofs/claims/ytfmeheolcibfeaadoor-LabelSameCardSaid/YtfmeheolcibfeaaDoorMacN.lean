/- The walks over mac.Of, (*mac.Key).Tag, mac.Same, (*mac.Key).Right. -/
import Derived.Test.YtfmeheolcibfeaaDoorMacM
namespace Go.Proofs.YtfmeheolcibfeaaDoor
open Go.RowKit

theorem agg32 : Tryd.prog.underlying 49 = some (.array 32 5) := Tryd.underlying49
theorem cB_all (l : List UInt8) : (cB l).toArray.all (·.oneCell') = true := by
  rw [List.all_toArray, List.all_eq_true]
  exact cB_one _
theorem size32 (l : List UInt8) (hl : l.length = 32) : (Tryd.prog.info? 49).map (·.size) = some (cB l).toArray.size := by rw [List.size_toArray, cB_length, hl]; kernel_rfl
theorem z32 (l : List UInt8) (hl : l.length = 32) : zero32.size = (cB l).toArray.size := by rw [zero32_size, List.size_toArray, cB_length, hl]

set_option maxRecDepth 10000 in
set_option maxHeartbeats 1000000 in
theorem macOf_any (ak : Option Addr) (ck : Nat) (key : List UInt8) (a : Option Addr) (cap : Nat) (ps : List (List UInt8)) (w : World) (hk : ArgB w ak ck key) (hkl : key.length ≤ 10000) (h : ArgBB w a cap ps) (hl : ps.flatten.length ≤ 90000) (hn : ps.length ≤ 10000) (hK : ShaK w) (hF : ShaF w) :
    Calls Tryd.prog 21 #[.slice ak key.length ck, .slice a ps.length cap] w fun e w' => e = .returned (.agg (cB (hmac key ps.flatten)).toArray) ∧ Below w.heap.size w w' := by
  have zr2 := zero32_run
  have zn2 := zero32_ne
  have hw0 : Below w.heap.size w (w.alloc (.cells zero32 49)) := (Below.refl _ w).alloc (Nat.le_refl _) _
  have hZ := heap_alloc_new w (.cells zero32 49)
  have sD := size32 (hmac key ps.flatten) (hmac_length _ _)
  have s32 := z32 (hmac key ps.flatten) (hmac_length _ _)
  have sO := cB_all (hmac key ps.flatten)
  replace h := Lib.hid (h.below hw0)
  replace hk := Lib.hid (hk.below hw0)
  replace hK := Lib.hid (hK.below hw0)
  replace hF := Lib.hid (hF.below hw0)
  obtain ⟨p, hp⟩ : ∃ p, p = w.heap.size := ⟨_, rfl⟩
  obtain ⟨A, hA⟩ : ∃ A, A = w.alloc (.cells zero32 49) := ⟨_, rfl⟩
  rw [← hA] at h hk hK hF hZ hw0
  rw [← hp] at hZ
  have hpl : w.heap.size ≤ p := by omega
  replace hZ := Lib.hid hZ
  replace hw0 := Lib.hid hw0
  replace hp := Lib.hid hp
  replace hA := Lib.hid hA
  obtain ⟨D, hD⟩ : ∃ D, D = (cB (hmac key ps.flatten)).toArray := ⟨_, rfl⟩
  rw [← hD] at sD s32 sO
  replace hD := Lib.hid hD
  go_enter Tryd.func21, Tryd.ntmps21
  go_wp2_with fail
  rw [← hA.out, ← hp.out]
  with_reducible refine (macMake_any ak ck key _ hk.out hkl hK.out hF.out).mono ?_
  rintro e w1 ⟨b, rfl, hkey, hb1⟩
  replace hkey := Lib.hid hkey
  replace hb1 := Lib.hid hb1
  go_wp2_with fail
  with_reducible refine (keyOf_any b key a cap ps _ hkey.out (h.out.below hb1.out) hl hn (hK.out.below hb1.out) (hF.out.below hb1.out)).mono ?_
  rintro e w2 ⟨rfl, hb2⟩
  rw [← hD.out]
  have hb3 := hw0.out.trans ((hb1.out.trans (hb2.mono hb1.out.size)).mono hw0.out.size)
  have hZ2 := Lib.hid (rowG (rowG hZ.out _ hb1.out) _ hb2)
  replace hb3 := Lib.hid hb3
  clear hb2
  go_wp2_with (with_reducible refine wpList_store_row rfl 49 (.tmp 4) (.tmp 8) rfl p zero32 D rfl rfl hZ2 sD s32 sO ?_)
  intro w3 hU
  go_wp2_with fail
  exact ret_cell_row rfl rfl agg32 rfl sD hU.out.here ⟨by rw [hD.out], hb3.out.trans (hU.out.below hpl)⟩

/-- Do two rows differ in their first k bytes? -/
def diffTo (xs ys : List UInt8) : Nat → UInt8
  | 0 => 0
  | k + 1 => diffTo xs ys k ||| (cf xs k ^^^ cf ys k)
theorem diffTo_zero (xs ys : List UInt8) : ∀ k, diffTo xs ys k = 0 ↔ ∀ i, i < k → cf xs i = cf ys i
  | 0 => ⟨fun _ i h => absurd h (Nat.not_lt_zero i), fun _ => rfl⟩
  | k + 1 => by
    rw [diffTo]
    have ih := diffTo_zero xs ys k
    constructor
    · intro h i hi
      have h1 : diffTo xs ys k = 0 ∧ cf xs k ^^^ cf ys k = 0 := by
        generalize diffTo xs ys k = a at *
        generalize cf xs k ^^^ cf ys k = b at *
        rw [← UInt8.toBitVec_inj, UInt8.toBitVec_or] at h
        have h' := BitVec.or_eq_zero_iff.1 h
        exact ⟨UInt8.toBitVec_inj.1 h'.1, UInt8.toBitVec_inj.1 h'.2⟩
      rcases Nat.lt_or_ge i k with h3 | h3
      · exact ih.1 h1.1 i h3
      · obtain rfl : i = k := by omega
        exact UInt8.xor_eq_zero_iff.1 h1.2
    · intro h
      rw [ih.2 fun i hi => h i (by omega), h k (by omega), UInt8.xor_self]
      rfl
theorem diffTo_eq (xs ys : List UInt8) (h : xs.length = ys.length) : diffTo xs ys xs.length = 0 ↔ xs = ys := by
  rw [diffTo_zero]
  constructor
  · intro h1
    refine cf_ext h fun i => ?_
    rcases Nat.lt_or_ge i xs.length with h3 | h3
    · exact h1 i h3
    · rw [cf_ge h3, cf_ge (by omega)]
  · rintro rfl i _; rfl
theorem or8 (x y : UInt8) : bits BinOp.or IntKind.u8 (x.toNat : Int) (y.toNat : Int) = ((x ||| y).toNat : Int) := by
  rw [u8_or_nat _ _ x.toNat_lt y.toNat_lt, UInt8.toNat_or]

end Go.Proofs.YtfmeheolcibfeaaDoor
