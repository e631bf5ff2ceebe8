/- The walks over Encode, Differ of package code. -/
import Derived.Test.YtenkdikdofhnpaaDoorParity
import Derived.Test.YtenkdikdofhnpaaDoorConcat
import Derived.Test.YtenkdikdofhnpaaDoorOwnI
namespace Go.Proofs.YtenkdikdofhnpaaDoor
open Go.RowKit

set_option maxHeartbeats 1000000 in
theorem encode_size (a : Option Addr) (ca : Nat) (bs : List UInt8) (w : World) (z : Addr) (hz : SizeAt w z) (hl : bs.length ≤ 1000000) (h : ¬ (1 ≤ bs.length ∧ bs.length ≤ 223)) :
    Calls Tryd.prog 9 #[.slice a bs.length ca] w fun e w' => e = .returned (.tuple #[.slice none 0 0, .iface 81 (.pointer (some z))]) ∧ Drawn w w' := by
  have hc := Lib.hid (parity_size a ca bs w z hz hl h)
  clear h hz
  go_enter Tryd.func9, Tryd.ntmps9
  go_wp2_with fail
  with_reducible refine hc.out.mono ?_
  rintro e w1 ⟨rfl, hd⟩
  go_wp2_with fail
  go_ret2
  exact ⟨rfl, hd⟩

def codeW (bs : List UInt8) : List UInt8 := bs ++ regOf genP bs
theorem codeW_length (bs : List UInt8) : (codeW bs).length = bs.length + 32 := by unfold codeW; rw [List.length_append, regOf_length]

set_option maxHeartbeats 1000000 in
theorem encode_any (a : Option Addr) (ca : Nat) (bs : List UInt8) (w : World) (ha : ArgB w a ca bs) (h1 : 1 ≤ bs.length) (h2 : bs.length ≤ 223) :
    Calls Tryd.prog 9 #[.slice a bs.length ca] w fun e w' => ∃ v, e = .returned (.tuple #[v, .nilIface]) ∧ OwnB w.heap.size w' v (codeW bs) ∧ Below w.heap.size w w' := by
  have hc := Lib.hid (parity_any a ca bs w ha h1 h2)
  have hpl := regOf_length genP bs
  unfold codeW
  generalize regOf genP bs = ps at *
  replace ha := Lib.hid ha
  go_enter Tryd.func9, Tryd.ntmps9
  go_wp2_with fail
  with_reducible refine hc.out.mono ?_
  rintro e w1 ⟨v, rfl, ho, hb1⟩
  obtain ⟨ap, cp, rfl, hp, _⟩ := ho.arg
  rw [hpl]
  have hB := heap_alloc_new w1 (.cells #[.slice a bs.length ca, .slice ap 32 cp] 22)
  have hg : Below w1.heap.size w1 (w1.alloc (.cells #[.slice a bs.length ca, .slice ap 32 cp] 22)) := (Below.refl w1.heap.size w1).alloc (Nat.le_refl _) _
  rw [← hpl] at hB
  have hcat := concat_any a ca bs ap cp ps w1.heap.size _ (by rw [hpl]; exact (ha.out.below hb1).below hg) (by rw [hpl]; exact hp.below hg) hB (by omega) (by omega) (by omega)
  rw [hpl] at hcat
  replace hcat := Lib.hid hcat
  have hs1 := hb1.size
  have hb2 := Lib.hid (hb1.trans (hg.mono hs1))
  clear hB hg ho hc hb1
  go_wp2_with fail
  with_reducible refine hcat.out.mono ?_
  rintro e w2 ⟨v, rfl, ho, hb3⟩
  replace ho := Lib.hid (ho.mono hb2.out.size)
  replace hb3 := Lib.hid (hb2.out.trans (hb3.mono hb2.out.size))
  go_wp2_with fail
  go_ret2
  exact ⟨_, rfl, ho.out, hb3.out⟩

/-! ### Differ -/
def diffI (xs ys : List UInt8) : List Int := (diffs xs ys).map fun i : Nat => (i : Int)
def diffTo (xs ys : List UInt8) (k : Nat) : List Int := ((List.range k).filter fun i => cf xs i != cf ys i).map fun i : Nat => (i : Int)
theorem diffTo_same {xs ys : List UInt8} {k : Nat} (h : cf xs k = cf ys k) : diffTo xs ys (k + 1) = diffTo xs ys k := by
  simp [diffTo, List.range_succ, h]
theorem diffTo_other {xs ys : List UInt8} {k : Nat} (h : cf xs k ≠ cf ys k) : diffTo xs ys (k + 1) = diffTo xs ys k ++ [(k : Int)] := by
  simp [diffTo, List.range_succ, h]
theorem diffTo_length (xs ys : List UInt8) (k : Nat) : (diffTo xs ys k).length ≤ k := by
  unfold diffTo
  rw [List.length_map]
  exact Nat.le_trans (List.length_filter_le _ _) (by simp)

set_option maxHeartbeats 1000000 in
theorem differ_other (a : Option Addr) (ca : Nat) (xs : List UInt8) (b : Option Addr) (cb : Nat) (ys : List UInt8) (w : World) (h : xs.length ≠ ys.length) :
    Calls Tryd.prog 8 #[.slice a xs.length ca, .slice b ys.length cb] w fun e w' => e = .returned (.slice none 0 0) ∧ w = w' := by
  have hne : ((xs.length : Int) != (ys.length : Int)) = true := by simp; omega
  go_enter Tryd.func8, Tryd.ntmps8
  go_wp2_with fail
  go_ret
  exact ⟨rfl, rfl⟩

set_option maxHeartbeats 2000000 in
theorem differ_any (a : Option Addr) (ca : Nat) (xs : List UInt8) (b : Option Addr) (cb : Nat) (ys : List UInt8) (w : World) (ha : ArgB w a ca xs) (hb : ArgB w b cb ys) (h : xs.length = ys.length) (hl : xs.length ≤ 100000) :
    Calls Tryd.prog 8 #[.slice a xs.length ca, .slice b xs.length cb] w fun e w' => ∃ v, e = .returned v ∧ OwnI w.heap.size w' v (diffI xs ys) ∧ Below w.heap.size w w' := by
  have hown0 := Lib.hid (OwnI.nil w.heap.size w)
  have hb0 := Lib.hid (Below.refl w.heap.size w)
  replace ha := Lib.hid ha
  replace hb := Lib.hid hb
  replace h := Lib.hid h
  have hend := Lib.hid (show diffTo xs ys xs.length = diffI xs ys from rfl)
  go_enter Tryd.func8, Tryd.ntmps8
  go_wp2_with fail
  go_loopw [5, 6, 7, 15] (fun v _ _ j wr => ∃ k : Nat, k ≤ xs.length ∧ j = .int .i64 k ∧ OwnI w.heap.size wr v (diffTo xs ys k) ∧ Below w.heap.size w wr)
    (fun _ _ _ j _ => xs.length - (intOf j).toNat)
  case atStart => exact ⟨0, Nat.zero_le _, rfl, hown0.out, hb0.out⟩
  case round =>
    clear hown0 hb0
    obtain ⟨k, hk, rfl, hown, hbel⟩ := hrel
    have hsz := hbel.size
    by_cases hlt : k < xs.length
    · obtain ⟨b1, o1, rfl, c1⟩ := (ha.out.below hbel).row k hlt
      obtain ⟨b2, o2, rfl, c2⟩ := (hb.out.below hbel).row k (by have := h.out; omega)
      rw [show xs.getD k 0 = cf xs k from rfl] at c1
      rw [show ys.getD k 0 = cf ys k from rfl] at c2
      have hdl := diffTo_length xs ys k
      replace hown := Lib.hid hown
      replace hbel := Lib.hid hbel
      have k1 : (0 : Int) ≤ (k : Int) := by omega
      have k2 : (k : Int) < (xs.length : Int) := by omega
      by_cases he : cf xs k = cf ys k
      · have hs := Lib.hid (diffTo_same he)
        rw [← he] at c2
        have hq : (((cf xs k).toNat : Int) != ((cf xs k).toNat : Int)) = false := by simp
        generalize cf xs k = x at *
        clear he hdl
        go_wp2_with fail
        go_roundw
        case rel => exact ⟨k + 1, by omega, by go_num, by rw [hs.out]; exact hown.out, hbel.out⟩
        case measure => simp [intOf]; omega
      · have hs := Lib.hid (diffTo_other he)
        have hq : (((cf xs k).toNat : Int) != ((cf ys k).toNat : Int)) = true := by
          rw [bne_iff_ne]; intro e; exact he (UInt8.toNat_inj.1 (by omega))
        generalize diffTo xs ys k = L at *
        generalize cf xs k = x at *
        generalize cf ys k = y at *
        replace he := Lib.hid he
        replace hdl := Lib.hid hdl
        go_wp2_with (at_builtin; go_must (refine wpI_app1 rfl _ _ rfl w.heap.size _ L rfl hown (k : Int) rfl (by have := hdl.out; omega) hsz ?_))
        intro v' w3 hown3 hb3
        go_wp2_with fail
        go_roundw
        case rel => exact ⟨k + 1, by omega, by go_num, by rw [hs.out]; exact hown3.out, hbel.out.trans hb3.out⟩
        case measure => simp [intOf]; omega
    · obtain rfl : k = xs.length := by omega
      rw [hend.out] at hown
      replace hown := Lib.hid hown
      replace hbel := Lib.hid hbel
      go_wp2_with fail
      go_ret
      exact ⟨_, rfl, hown.out, hbel.out⟩

end Go.Proofs.YtenkdikdofhnpaaDoor
