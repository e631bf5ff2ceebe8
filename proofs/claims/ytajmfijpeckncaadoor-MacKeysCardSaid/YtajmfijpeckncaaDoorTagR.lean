/- The walk over baileeref08.Tag; the mac's example. -/
import Derived.Test.YtajmfijpeckncaaDoorRefM
import Derived.Test.YtajmfijpeckncaaDoorConv
import Derived.Test.YtajmfijpeckncaaDoorShaCalc
namespace Go.Proofs.YtajmfijpeckncaaDoor
open Go.RowKit

set_option maxRecDepth 10000 in
set_option maxHeartbeats 1000000 in
theorem rtag_any (ak : Option Addr) (ck : Nat) (key : List UInt8) (am : Option Addr) (cm : Nat) (m : List UInt8) (w : World) (hk : ArgB w ak ck key) (hkl : key.length ≤ 10000) (hm : ArgB w am cm m) (hml : m.length ≤ 90000) (hK : RefK w) (hF : RefF w) :
    Calls Tryd.prog 14 #[.slice ak key.length ck, .slice am m.length cm] w fun e w' => ∃ v, e = .returned v ∧ OwnB w.heap.size w' v ((hmac key m).take 8) ∧ Below w.heap.size w w' := by
  have zr2 := zeroR_run
  have zn2 := zero32_ne
  have sD := sizeR (hmac key m) (hmac_length _ _)
  have s32 := z32 (hmac key m) (hmac_length _ _)
  have sO := cB_all (hmac key m)
  have hlen := Lib.hid (show ((hmac key m).take 8).length = 8 from by rw [List.length_take, hmac_length]; rfl)
  have harg := Lib.hid (fun (W : World) (g : Nat) (hh : W.heap[g]? = some (.cells (cB (hmac key m)).toArray 28 (0, 0))) => argB_takeN (argB_block (c := 32) hh (by rw [hmac_length]; omega) (by omega)) 8 (by rw [hmac_length]; omega))
  obtain ⟨D, hD⟩ : ∃ D, D = (cB (hmac key m)).toArray := ⟨_, rfl⟩
  have hof := Lib.hid (rmacOf_any ak ck key am cm m w hk hkl hm hml hK hF)
  rw [← hD] at sD s32 sO harg hof
  replace hD := Lib.hid hD
  generalize (hmac key m).take 8 = T at *
  go_enter Tryd.func14, Tryd.ntmps14
  go_wp2_with fail
  with_reducible refine hof.out.mono ?_
  rintro e w1 ⟨rfl, hb1⟩
  have hs := hb1.size
  have hg2 := (Below.refl w1.heap.size w1).alloc (Nat.le_refl _) (.cells D 28)
  have hg3 := (Below.refl (w1.alloc (.cells D 28)).heap.size (w1.alloc (.cells D 28))).alloc (Nat.le_refl _) (.cells #[] 5)
  have ha := Lib.hid ((harg.out _ _ (heap_alloc_new w1 (.cells D 28))).below hg3)
  have hown := owns_made0 (w1.alloc (.cells D 28)) (w1.alloc (.cells D 28)).heap.size (Nat.le_refl _)
  have hsz3 := hg3.size
  rw [show (w1.alloc (.cells D 28)).heap.size = w1.heap.size + 1 from by simp] at hown hsz3 hg3
  have hb3 := Lib.hid (hb1.trans ((hg2.trans (hg3.mono (Nat.le_succ _))).mono hb1.size))
  replace hown := Lib.hid hown
  clear hg2 hg3 hb1
  go_wp2_with (first | with_reducible refine wpList_store_new rfl 28 (.tmp 5) (.tmp 8) rfl zero32 D rfl rfl sD s32 sO ?_ | (at_builtin; refine wpB_app rfl (.tmp 9) (.tmp 10) rfl (w1.heap.size + 1) _ [] rfl hown (some ⟨w1.heap.size, 0, none⟩) 32 T 8 rfl hlen ha (by simp) (by omega) hsz3 ?_))
  intro v2 w2 ho2 hd2
  have ho3 := Lib.hid (OwnB.mono (base' := w.heap.size) (show OwnB (w1.heap.size + 1) w2 v2 T from by simpa using ho2.out) (by omega))
  have hb4 := Lib.hid (hb3.out.trans (hd2.out.mono (by omega)))
  clear ho2 hd2
  go_wp2_with fail
  go_ret
  exact ⟨_, rfl, ho3.out, hb4.out⟩

theorem argBB_nil (w : World) : ArgBB w none 0 [] := ⟨Nat.le_refl _, Nat.zero_le _, fun _ => rfl, fun i hi => absurd hi (Nat.not_lt_zero i)⟩
theorem argB_nil (w : World) : ArgB w none 0 [] := ⟨Nat.le_refl _, Nat.zero_le _, fun _ => rfl, fun i hi => absurd hi (Nat.not_lt_zero i)⟩

set_option maxRecDepth 10000 in
set_option maxHeartbeats 1000000 in
theorem alive8_any (w : World) (hK : ShaK w) (hF : ShaF w) : Calls Tryd.prog 5 #[] w fun e w' => e = .returned (.bool true) ∧ Below w.heap.size w w' := by
  have zr2 := zero32_run
  have zn2 := zero32_ne
  have sD := size32 (hmac [] []) (hmac_length _ _)
  have s32 := z32 (hmac [] []) (hmac_length _ _)
  have sO := cB_all (hmac [] [])
  have hof := macOf_any none 0 [] none 0 [] w (argB_nil w) (by simp) (argBB_nil w) (by simp) (by simp) hK hF
  rw [show ([] : List (List UInt8)).flatten = [] from rfl, show ([] : List UInt8).length = 0 from rfl, show ([] : List (List UInt8)).length = 0 from rfl] at hof
  have harg := Lib.hid (fun (W : World) (g : Nat) (hh : W.heap[g]? = some (.cells (cB (hmac [] [])).toArray 31 (0, 0))) => argB_takeN (argB_block (c := 32) hh (by rw [hmac_length]; omega) (by omega)) 4 (by rw [hmac_length]; omega))
  rw [hmac_none] at harg
  obtain ⟨D, hD⟩ : ∃ D, D = (cB (hmac [] [])).toArray := ⟨_, rfl⟩
  rw [← hD] at sD s32 sO harg hof
  replace hD := Lib.hid hD
  replace hof := Lib.hid hof
  go_enter Tryd.func5, Tryd.ntmps5
  go_wp2_with fail
  with_reducible refine hof.out.mono ?_
  rintro e w1 ⟨rfl, hb1⟩
  have hs := hb1.size
  have hg2 := hb1.alloc hs (.cells D 31)
  have ha := harg.out _ _ (heap_alloc_new w1 (.cells D 31))
  have kc := convE ha 4 rfl _ (Below.refl _ _)
  have hmk := macMake_any none 0 [] (w1.alloc (.cells D 31)) (argB_nil _) (by simp) (hK.below hg2) (hF.below hg2)
  rw [show ([] : List UInt8).length = 0 from rfl] at hmk
  replace hmk := Lib.hid hmk
  replace hg2 := Lib.hid hg2
  clear ha hb1
  go_wp2_with (with_reducible refine wpList_store_new rfl 31 (.tmp 1) (.tmp 2) rfl zero32 D rfl rfl sD s32 sO ?_)
  with_reducible refine hmk.out.mono ?_
  rintro e w3 ⟨b, rfl, _, hb3⟩
  have hb4 := Lib.hid (hg2.out.trans (hb3.mono hg2.out.size))
  clear hb3
  go_wp2_with fail
  go_ret
  exact ⟨rfl, hb4.out⟩

end Go.Proofs.YtajmfijpeckncaaDoor
