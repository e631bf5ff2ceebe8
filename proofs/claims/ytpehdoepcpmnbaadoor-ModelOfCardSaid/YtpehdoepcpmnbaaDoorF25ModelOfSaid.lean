/- Walks over the reference's Shape and Total (layer 6). -/
import Derived.Test.YtpehdoepcpmnbaaDoorF22ModelOfSaid
namespace Go.Proofs.YtpehdoepcpmnbaaDoor
open Go.RowKit

theorem owni_made0 (w : World) (base : Nat) (hb : base ≤ w.heap.size) : OwnI base (w.alloc (.cells #[] 3)) (.slice (some ⟨w.heap.size, 0, none⟩) 0 0) [] := by
  have h := World.ownsRow_made (base := base) (e := 3) (size := 1) w #[] 0 hb (by decide) (by simp)
  simpa [OwnI, cI] using h

set_option maxHeartbeats 1000000 in
theorem rshape_some (n : Int) (h : 0 ≤ n ∧ n ≤ 2000) (w : World) : Calls Tryd.prog 75 #[.int .i64 n] w fun e w' => ∃ v, e = .returned (.tuple #[v, .int .i64 0]) ∧ OwnI w.heap.size w' v (shapeOf n) ∧ Below w.heap.size w w' := by
  have hL := leftOf_bd n h
  have hLm : (n ≤ 8 ∧ leftOf n = 1) ∨ (8 < n ∧ leftOf n = (n + 7) / 8) := by unfold leftOf; split <;> omega
  have hS : (leftOf n ≤ 223 ∧ shapeOf n = [leftOf n]) ∨ (223 < leftOf n ∧ shapeOf n = [223, leftOf n - 223]) := by
    by_cases h : leftOf n ≤ 223
    · exact .inl ⟨h, by simp [shapeOf, h]⟩
    · exact .inr ⟨by omega, by simp [shapeOf, h]⟩
  have hown0 := Lib.hid (owni_made0 w w.heap.size (Nat.le_refl _))
  have hb0 := Lib.hid ((Below.refl w.heap.size w).alloc (Nat.le_refl _) (.cells #[] 3))
  generalize leftOf n = L at *
  generalize shapeOf n = S at *
  replace hS := Lib.hid hS
  rcases (show n = 0 ∨ (0 < n ∧ ¬ 0 < n % 8) ∨ (0 < n ∧ 0 < n % 8) from by omega) with rfl | ⟨h0, h8⟩ | ⟨h0, h8⟩
  · go_enter Tryd.func75, Tryd.ntmps75
    go_wp2_with fail
    rw [show Value.int IntKind.i64 1 = Value.int IntKind.i64 L from by rw [show L = 1 from by omega]]
    clear hLm
    go_loopw [5, 4] (fun v j wr => ∃ (zs : List Int) (l : Int), j = .int .i64 l ∧ OwnI w.heap.size wr v zs ∧ Below w.heap.size w wr ∧ ((zs = [] ∧ l = L) ∨ (l = L - 223 ∧ 223 < L ∧ zs = [223])))
      (fun _ j _ => (intOf j).toNat)
    case atStart => exact ⟨[], L, rfl, hown0.out, hb0.out, .inl ⟨rfl, rfl⟩⟩
    case round =>
      clear hown0 hb0
      obtain ⟨zs, l, rfl, hown, hbel, hph⟩ := hrel
      have hsz := hbel.size
      have hlb : 1 ≤ l ∧ l ≤ 250 ∧ zs.length ≤ 2 := by
        rcases hph with ⟨rfl, rfl⟩ | ⟨rfl, _, rfl⟩
        · exact ⟨by omega, by omega, by simp⟩
        · exact ⟨by omega, by omega, by simp⟩
      have hnext : (l ≤ 223 → zs ++ [l] = S) ∧ (223 < l → zs ++ [223] = [223] ∧ l = L) := by
        rcases hph with ⟨rfl, rfl⟩ | ⟨rfl, h2, rfl⟩
        · refine ⟨fun h1 => ?_, fun h1 => ⟨rfl, rfl⟩⟩
          rcases hS.out with ⟨_, rfl⟩ | ⟨_, rfl⟩
          · rfl
          · omega
        · refine ⟨fun h1 => ?_, fun h1 => by omega⟩
          rcases hS.out with ⟨_, rfl⟩ | ⟨_, rfl⟩
          · omega
          · rfl
      replace hbel := Lib.hid hbel
      replace hown := Lib.hid hown
      replace hnext := Lib.hid hnext
      clear hph
      by_cases h223 : l ≤ 223
      · have hd2 : ¬ 223 < l := by omega
        go_wp2_with (at_builtin; go_must (refine wpI_app1 rfl (.tmp 31) (.tmp 33) rfl w.heap.size _ zs rfl hown l rfl (by omega) hsz ?_))
        intro v' w' ho' hb'
        rw [hnext.out.1 h223] at ho'
        replace hb' := Lib.hid (hbel.out.trans hb'.out)
        go_wp2_with fail
        go_ret2
        exact ⟨_, rfl, ho'.out, hb'.out⟩
      · have hd2 : 223 < l := by omega
        go_wp2_with (at_builtin; go_must (refine wpI_app1 rfl (.tmp 26) (.tmp 27) rfl w.heap.size _ zs rfl hown 223 rfl (by omega) hsz ?_))
        intro v' w' ho' hb'
        replace hb' := Lib.hid (hbel.out.trans hb'.out)
        go_wp2_with fail
        go_roundw
        case rel =>
          obtain ⟨e1, rfl⟩ := hnext.out.2 hd2
          first
            | exact ⟨[223], l - 223, by go_num, e1 ▸ ho'.out, hb'.out, .inr ⟨rfl, hd2, rfl⟩⟩
            | exact ⟨.int .i64 (l - 223), v', _, _, _, _, _, _, _, ⟨[223], l - 223, rfl, e1 ▸ ho'.out, hb'.out, .inr ⟨rfl, hd2, rfl⟩⟩, rfl⟩
        case measure => simp [intOf]; omega
  · go_enter Tryd.func75, Tryd.ntmps75
    go_wp2_with fail
    rw [show n / 8 = L from by omega]
    clear hLm
    go_loopw [5, 4] (fun v j wr => ∃ (zs : List Int) (l : Int), j = .int .i64 l ∧ OwnI w.heap.size wr v zs ∧ Below w.heap.size w wr ∧ ((zs = [] ∧ l = L) ∨ (l = L - 223 ∧ 223 < L ∧ zs = [223])))
      (fun _ j _ => (intOf j).toNat)
    case atStart => exact ⟨[], L, rfl, hown0.out, hb0.out, .inl ⟨rfl, rfl⟩⟩
    case round =>
      clear hown0 hb0
      obtain ⟨zs, l, rfl, hown, hbel, hph⟩ := hrel
      have hsz := hbel.size
      have hlb : 1 ≤ l ∧ l ≤ 250 ∧ zs.length ≤ 2 := by
        rcases hph with ⟨rfl, rfl⟩ | ⟨rfl, _, rfl⟩
        · exact ⟨by omega, by omega, by simp⟩
        · exact ⟨by omega, by omega, by simp⟩
      have hnext : (l ≤ 223 → zs ++ [l] = S) ∧ (223 < l → zs ++ [223] = [223] ∧ l = L) := by
        rcases hph with ⟨rfl, rfl⟩ | ⟨rfl, h2, rfl⟩
        · refine ⟨fun h1 => ?_, fun h1 => ⟨rfl, rfl⟩⟩
          rcases hS.out with ⟨_, rfl⟩ | ⟨_, rfl⟩
          · rfl
          · omega
        · refine ⟨fun h1 => ?_, fun h1 => by omega⟩
          rcases hS.out with ⟨_, rfl⟩ | ⟨_, rfl⟩
          · omega
          · rfl
      replace hbel := Lib.hid hbel
      replace hown := Lib.hid hown
      replace hnext := Lib.hid hnext
      clear hph
      by_cases h223 : l ≤ 223
      · have hd2 : ¬ 223 < l := by omega
        go_wp2_with (at_builtin; go_must (refine wpI_app1 rfl (.tmp 31) (.tmp 33) rfl w.heap.size _ zs rfl hown l rfl (by omega) hsz ?_))
        intro v' w' ho' hb'
        rw [hnext.out.1 h223] at ho'
        replace hb' := Lib.hid (hbel.out.trans hb'.out)
        go_wp2_with fail
        go_ret2
        exact ⟨_, rfl, ho'.out, hb'.out⟩
      · have hd2 : 223 < l := by omega
        go_wp2_with (at_builtin; go_must (refine wpI_app1 rfl (.tmp 26) (.tmp 27) rfl w.heap.size _ zs rfl hown 223 rfl (by omega) hsz ?_))
        intro v' w' ho' hb'
        replace hb' := Lib.hid (hbel.out.trans hb'.out)
        go_wp2_with fail
        go_roundw
        case rel =>
          obtain ⟨e1, rfl⟩ := hnext.out.2 hd2
          first
            | exact ⟨[223], l - 223, by go_num, e1 ▸ ho'.out, hb'.out, .inr ⟨rfl, hd2, rfl⟩⟩
            | exact ⟨.int .i64 (l - 223), v', _, _, _, _, _, _, _, ⟨[223], l - 223, rfl, e1 ▸ ho'.out, hb'.out, .inr ⟨rfl, hd2, rfl⟩⟩, rfl⟩
        case measure => simp [intOf]; omega
  · go_enter Tryd.func75, Tryd.ntmps75
    go_wp2_with fail
    rw [show n / 8 + 1 = L from by omega]
    clear hLm
    go_loopw [5, 4] (fun v j wr => ∃ (zs : List Int) (l : Int), j = .int .i64 l ∧ OwnI w.heap.size wr v zs ∧ Below w.heap.size w wr ∧ ((zs = [] ∧ l = L) ∨ (l = L - 223 ∧ 223 < L ∧ zs = [223])))
      (fun _ j _ => (intOf j).toNat)
    case atStart => exact ⟨[], L, rfl, hown0.out, hb0.out, .inl ⟨rfl, rfl⟩⟩
    case round =>
      clear hown0 hb0
      obtain ⟨zs, l, rfl, hown, hbel, hph⟩ := hrel
      have hsz := hbel.size
      have hlb : 1 ≤ l ∧ l ≤ 250 ∧ zs.length ≤ 2 := by
        rcases hph with ⟨rfl, rfl⟩ | ⟨rfl, _, rfl⟩
        · exact ⟨by omega, by omega, by simp⟩
        · exact ⟨by omega, by omega, by simp⟩
      have hnext : (l ≤ 223 → zs ++ [l] = S) ∧ (223 < l → zs ++ [223] = [223] ∧ l = L) := by
        rcases hph with ⟨rfl, rfl⟩ | ⟨rfl, h2, rfl⟩
        · refine ⟨fun h1 => ?_, fun h1 => ⟨rfl, rfl⟩⟩
          rcases hS.out with ⟨_, rfl⟩ | ⟨_, rfl⟩
          · rfl
          · omega
        · refine ⟨fun h1 => ?_, fun h1 => by omega⟩
          rcases hS.out with ⟨_, rfl⟩ | ⟨_, rfl⟩
          · omega
          · rfl
      replace hbel := Lib.hid hbel
      replace hown := Lib.hid hown
      replace hnext := Lib.hid hnext
      clear hph
      by_cases h223 : l ≤ 223
      · have hd2 : ¬ 223 < l := by omega
        go_wp2_with (at_builtin; go_must (refine wpI_app1 rfl (.tmp 31) (.tmp 33) rfl w.heap.size _ zs rfl hown l rfl (by omega) hsz ?_))
        intro v' w' ho' hb'
        rw [hnext.out.1 h223] at ho'
        replace hb' := Lib.hid (hbel.out.trans hb'.out)
        go_wp2_with fail
        go_ret2
        exact ⟨_, rfl, ho'.out, hb'.out⟩
      · have hd2 : 223 < l := by omega
        go_wp2_with (at_builtin; go_must (refine wpI_app1 rfl (.tmp 26) (.tmp 27) rfl w.heap.size _ zs rfl hown 223 rfl (by omega) hsz ?_))
        intro v' w' ho' hb'
        replace hb' := Lib.hid (hbel.out.trans hb'.out)
        go_wp2_with fail
        go_roundw
        case rel =>
          obtain ⟨e1, rfl⟩ := hnext.out.2 hd2
          first
            | exact ⟨[223], l - 223, by go_num, e1 ▸ ho'.out, hb'.out, .inr ⟨rfl, hd2, rfl⟩⟩
            | exact ⟨.int .i64 (l - 223), v', _, _, _, _, _, _, _, ⟨[223], l - 223, rfl, e1 ▸ ho'.out, hb'.out, .inr ⟨rfl, hd2, rfl⟩⟩, rfl⟩
        case measure => simp [intOf]; omega

set_option maxHeartbeats 1000000 in
theorem rtotal_some (n : Int) (h : 0 ≤ n ∧ n ≤ 2000) (w : World) : Calls Tryd.prog 60 #[.int .i64 n] w fun e w' => e = .returned (.tuple #[.int .i64 (totalOf n), .int .i64 0]) ∧ Below w.heap.size w w' := by
  obtain ⟨f1, f2, f3, f4⟩ := shape_facts n h
  have hs := Lib.hid (rshape_some n h w)
  generalize shapeOf n = S at *
  generalize totalOf n = T at *
  subst f4
  go_enter Tryd.func60, Tryd.ntmps60
  go_wp2_with fail
  refine hs.out.mono ?_
  rintro e w1 ⟨v, rfl, ho, hb⟩
  clear hs
  obtain ⟨a, c, rfl, g1, g2, g3, hrow, _⟩ := ho.row
  clear ho
  replace hb := Lib.hid hb
  replace hrow := Lib.hid hrow
  replace f2 := Lib.hid f2
  replace f3 := Lib.hid f3
  go_wp2_with fail
  go_loopw [6, 8, 16] (fun s _ j wr => ∃ k : Nat, k ≤ S.length ∧ s = .int .i64 (psum S k) ∧ j = .int .i64 k ∧ wr = w1) (fun _ _ j _ => S.length - (intOf j).toNat)
  case atStart => exact ⟨0, Nat.zero_le _, rfl, rfl, rfl⟩
  case round =>
    obtain ⟨k, hk, rfl, rfl, rfl⟩ := hrel
    have b1 := f3.out k hk
    by_cases hlt : k < S.length
    · obtain ⟨b, off, rfl, hc⟩ := hrow.out k hlt
      have b2 := f2.out k hlt
      have hs2 := Lib.hid (show psum S (k + 1) = psum S k + (S.getD k 0 + 32) from rfl)
      generalize S.getD k 0 = x at *
      generalize psum S k = y at *
      go_wp2_with fail
      go_roundw
      case rel => exact ⟨k + 1, by omega, by rw [hs2.out], by go_num, by first | rfl | trivial⟩
      case measure => simp [intOf]; omega
    · obtain rfl : k = S.length := by omega
      go_wp2_with fail
      go_ret2
      exact ⟨rfl, hb.out⟩

end Go.Proofs.YtpehdoepcpmnbaaDoor
