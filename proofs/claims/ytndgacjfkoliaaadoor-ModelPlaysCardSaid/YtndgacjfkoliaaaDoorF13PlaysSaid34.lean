/- As, Default, Ref06. -/
import Derived.Test.YtndgacjfkoliaaaDoorF12PlaysSaid34
import Derived.WalkKit
import Derived.LaidEql
import Derived.Stop.Asserts
import Derived.RowKitTokens
import Derived.Test.YtndgacjfkoliaaaDoorF4PlaysSaid34
import Derived.Test.YtndgacjfkoliaaaDoorF11PlaysSaid34
/- errors.As at a concrete target (after the kit's worked text ToyasAs, turned to this seat), params.Field. -/
namespace Go.Proofs.YtndgacjfkoliaaaDoor
open Go.RowKit Go.Extern.Stop Go.Stop Go.Extern


/-! ### CLOSED FACTS ON THE MODEL's ENTRIES FOR internal/reflectlite, at this program's types: 25: *p.E · 27: **p.E · 23: error · 45: reflectlite's rtype · 1: how many package-level variables the dump has -/
theorem as_methodKind (h : Value) (w : World) : (Go.method 275 115 (.agg #[h]) "Kind").run Tryd.prog w = .ok (83, h) w := by kernel_rfl
theorem as_kind25 (w : World) : ((ReflectliteType.abiMethod fun t => (fun a : Nat => Value.int IntKind.u8 (a : Int)) <$> Rtype.kind t) #[.pointer (some ⟨23, 90, none⟩)]).run Tryd.prog w = .ok (.int .u8 22) w := by kernel_rfl

/-! ### THE ENTRIES THAT READ OR WRITE MEMORY: laws with a premise on the cell (after Derived/Lib/ReflectliteSlice.lean's manner: each unfolding a lemma of its own, by rfl) -/
theorem rlm (z : Sem Value) (f : TypeId → Addr → Nat → Nat → Sem Value) (v : Value) :
    ReflectliteValue.method z f #[v] = (do match ← ReflectliteValue.parts v with | none => z | some (t, a, fl) => f t a fl (fl % 32)) := rfl
theorem as_methodElem (h : Value) (w : World) : (Go.method 275 115 (.agg #[h]) "Elem").run Tryd.prog w = .ok (87, .agg #[h]) w := by kernel_rfl
theorem as_methodImplements (h : Value) (w : World) : (Go.method 275 115 (.agg #[h]) "Implements").run Tryd.prog w = .ok (88, .agg #[h]) w := by kernel_rfl
theorem as_methodAssignableTo (h : Value) (w : World) : (Go.method 275 115 (.agg #[h]) "AssignableTo").run Tryd.prog w = .ok (85, .agg #[h]) w := by kernel_rfl
theorem as_implements25 (w : World) : (ReflectliteType.relation "Implements" ReflectliteType.implements_ #[.agg #[.pointer (some ⟨23, 90, none⟩)], .iface 115 (.agg #[.pointer (some ⟨23, 50, none⟩)])]).run Tryd.prog w = .ok (.bool true) w := by kernel_rfl
theorem as_typeOf25 (v : Value) (w : World) : (ReflectliteType.typeOf #[.iface 90 v]).run Tryd.prog w = .ok (.iface 115 (.agg #[.pointer (some ⟨23, 90, none⟩)])) w := by kernel_rfl
theorem as_assignable25 (w : World) : (ReflectliteType.relation "AssignableTo" ReflectliteType.assignableTo #[.agg #[.pointer (some ⟨23, 90, none⟩)], .iface 115 (.agg #[.pointer (some ⟨23, 90, none⟩)])]).run Tryd.prog w = .ok (.bool true) w := by kernel_rfl
theorem as_valueOf25 (e : Addr) (w : World) : (ReflectliteValue.unpack (.iface 90 (.pointer (some e)))).run Tryd.prog w
    = .ok (.agg #[.pointer (some ⟨23, 90, none⟩), .pointer (some ⟨w.heap.size, 0, none⟩), .int .u64 150]) (w.alloc (.cells #[.pointer (some e)] 90)) := by kernel_rfl

theorem as_mk25 (p : Addr) (w : World) : (ReflectliteValue.mk 90 p ReflectliteValue.flagAddr).run Tryd.prog w = .ok (.agg #[.pointer (some ⟨23, 90, none⟩), .pointer (some p), .int .u64 406]) w := by kernel_rfl
theorem rls (v x : Value) : ReflectliteValue.set #[v, x] = (do
    let (some (dst, a, fl), some (src, b, _)) := (← ReflectliteValue.parts v, ← ReflectliteValue.parts x)
      | unsupported (.noEntry "extern/(internal/reflectlite.Value).Set.zeroValue")
    if fl / ReflectliteValue.flagAddr % 2 == 0 then unsupported (.noEntry "extern/(internal/reflectlite.Value).Set.unaddressable")
    let val ← loadVar src b
    if ← Rtype.directlyAssignable dst src then storeVar dst a val
    else if ← Rtype.implements dst src then
      if (← Rtype.kind src) == 20 then
        match val with
        | .nilIface => unsupported (.noEntry "extern/reflectlite: a nil value of one interface type handed on as a value of another")
        | _ => storeVar dst a val
      else storeVar dst a (.iface src val)
    else panicString ("reflectlite.Set: value of type " ++ (← Rtype.spelt src) ++ " is not assignable to type " ++ (← Rtype.spelt dst))
    pure (.tuple #[])) := rfl
theorem as_parts25a (a : Addr) (w : World) : (ReflectliteValue.parts (.agg #[.pointer (some ⟨23, 90, none⟩), .pointer (some a), .int .u64 406])).run Tryd.prog w = .ok (some (90, a, 406)) w := by kernel_rfl
theorem as_parts25 (a : Addr) (w : World) : (ReflectliteValue.parts (.agg #[.pointer (some ⟨23, 90, none⟩), .pointer (some a), .int .u64 150])).run Tryd.prog w = .ok (some (90, a, 150)) w := by kernel_rfl
theorem as_direct25 (w : World) : (Rtype.directlyAssignable 90 90).run Tryd.prog w = .ok true w := by kernel_rfl
theorem as_size25 (w : World) : (sizeOf 90).run Tryd.prog w = .ok 1 w := by kernel_rfl
/-- (Value).Set: the *p.E variable at 'ta' gets what the Value's own variable 'b' holds. -/
theorem as_set25 (ta b e : Addr) (old : Value) (W : World) (hb : W.cell? b = some (.pointer (some e))) (ht : W.cell? ta = some old) (hf : W.frozen? ta = false) :
    (ReflectliteValue.set #[.agg #[.pointer (some ⟨23, 90, none⟩), .pointer (some ta), .int .u64 406], .agg #[.pointer (some ⟨23, 90, none⟩), .pointer (some b), .int .u64 150]]).run Tryd.prog W
      = .ok (.tuple #[]) (W.setCell ta (.pointer (some e))) := by
  rw [rls]
  simp only [Sem.run_bind, as_parts25a, as_parts25, Result.andThen]
  simp [ReflectliteValue.flagAddr, loadVar, isAgg, underlying, Tryd.underlying90, hb, Result.andThen, as_direct25, storeVar, Value.cells, storeCells, Addr.add]
  rw [run_store Tryd.prog W ta _ _ (by rfl)]
  simp [ht, hf]

end Go.Proofs.YtndgacjfkoliaaaDoor
/- Walks over params.Field, Plain, Stored, Default; baileelaw15.alive, ParamsDefault. -/
namespace Go.Proofs.YtndgacjfkoliaaaDoor
open Go.RowKit


theorem below_set_new {w W : World} {g : Nat} {v : Value} (h : Below w.heap.size w W) (hg : w.heap.size ≤ g) : Below w.heap.size w (W.setCell ⟨g, 0, none⟩ v) := h.setCell (p := ⟨g, 0, none⟩) hg v

theorem check_lit (s n k d t r : Int) (h : ParOk s n k d t r) (z : Nat → Addr) (w : World) (hE : ParErrs w z) :
    Calls Tryd.prog 27 #[.agg #[.int .i64 s, .int .i64 n, .int .i64 k, .int .i64 d, .int .i64 t, .int .i64 r]] w fun e w' => e = .returned .nilIface ∧ Below w.heap.size w w' := check_ok s n k d t r h z w hE

theorem bad_spots (z : Nat → Addr) (w : World) (hE : ParErrs w z) : Calls Tryd.prog 27 #[.agg #[.int .i64 100, .int .i64 4, .int .i64 0, .int .i64 20, .int .i64 4, .int .i64 2]] w fun e w' => ∃ g, e = .returned (.iface 90 (.pointer (some ⟨g, 0, none⟩))) ∧ w'.heap[g]? = some (.cells #[.string ⟨#[115, 112, 111, 116, 115]⟩, .int .i64 0, .iface 137 (.pointer (some (z 0)))] 92 (0, 0)) ∧ Below w.heap.size w w' := by
  refine (check_bad2 100 4 0 20 4 2 (by omega) (by omega) (by omega) z w hE).mono ?_
  rintro e w' ⟨v, rfl, ⟨g, rfl, _, hg⟩, hb⟩
  exact ⟨g, rfl, hg, hb⟩

theorem bad_size (n : Int) (h : n < 0 ∨ 2000 < n) (z : Nat → Addr) (w : World) (hE : ParErrs w z) : Calls Tryd.prog 27 #[.agg #[.int .i64 n, .int .i64 4, .int .i64 4, .int .i64 20, .int .i64 4, .int .i64 2]] w fun e w' => ∃ g, e = .returned (.iface 90 (.pointer (some ⟨g, 0, none⟩))) ∧ Below w.heap.size w w' := by
  refine (check_bad0 n 4 4 20 4 2 h z w hE (by omega)).mono ?_
  rintro e w' ⟨v, rfl, ⟨g, rfl, _, hg⟩, hb⟩
  exact ⟨g, rfl, hb⟩

end Go.Proofs.YtndgacjfkoliaaaDoor
/- Walks over the reference's Shape and Total (layer 6). -/
namespace Go.Proofs.YtndgacjfkoliaaaDoor
open Go.RowKit

theorem owni_made0 (w : World) (base : Nat) (hb : base ≤ w.heap.size) : OwnI base (w.alloc (.cells #[] 3)) (.slice (some ⟨w.heap.size, 0, none⟩) 0 0) [] := by
  have h := World.ownsRow_made (base := base) (e := 3) (size := 1) w #[] 0 hb (by decide) (by simp)
  simpa [OwnI, cI] using h

set_option maxHeartbeats 1000000 in
theorem rshape_some (n : Int) (h : 0 ≤ n ∧ n ≤ 2000) (w : World) : Calls Tryd.prog 52 #[.int .i64 n] w fun e w' => ∃ v, e = .returned (.tuple #[v, .int .i64 0]) ∧ OwnI w.heap.size w' v (shapeOf n) ∧ Below w.heap.size w w' := by
  have hL := leftOf_bd n h
  have hLm : (n ≤ 8 ∧ leftOf n = 1) ∨ (8 < n ∧ leftOf n = (n + 7) / 8) := by unfold leftOf; split <;> omega
  have hS : (leftOf n ≤ 223 ∧ shapeOf n = [leftOf n]) ∨ (223 < leftOf n ∧ shapeOf n = [223, leftOf n - 223]) := by
    by_cases h : leftOf n ≤ 223
    · exact .inl ⟨h, by simp [shapeOf, h]⟩
    · exact .inr ⟨by omega, by simp [shapeOf, h]⟩
  have hown0 := Lib.hid (owni_made0 w w.heap.size (Nat.le_refl _))
  have hb0 := Lib.hid ((Below.refl w.heap.size w).alloc (Nat.le_refl _) (.cells #[] 3))
  generalize leftOf n = L at *
  generalize shapeOf n = S at *
  replace hS := Lib.hid hS
  rcases (show n = 0 ∨ (0 < n ∧ ¬ 0 < n % 8) ∨ (0 < n ∧ 0 < n % 8) from by omega) with rfl | ⟨h0, h8⟩ | ⟨h0, h8⟩
  · go_enter Tryd.func52, Tryd.ntmps52
    go_wp2_with fail
    rw [show Value.int IntKind.i64 1 = Value.int IntKind.i64 L from by rw [show L = 1 from by omega]]
    clear hLm
    go_loopw [5, 4] (fun v j wr => ∃ (zs : List Int) (l : Int), j = .int .i64 l ∧ OwnI w.heap.size wr v zs ∧ Below w.heap.size w wr ∧ ((zs = [] ∧ l = L) ∨ (l = L - 223 ∧ 223 < L ∧ zs = [223])))
      (fun _ j _ => (intOf j).toNat)
    case atStart => exact ⟨[], L, rfl, hown0.out, hb0.out, .inl ⟨rfl, rfl⟩⟩
    case round =>
      clear hown0 hb0
      obtain ⟨zs, l, rfl, hown, hbel, hph⟩ := hrel
      have hsz := hbel.size
      have hlb : 1 ≤ l ∧ l ≤ 250 ∧ zs.length ≤ 2 := by
        rcases hph with ⟨rfl, rfl⟩ | ⟨rfl, _, rfl⟩
        · exact ⟨by omega, by omega, by simp⟩
        · exact ⟨by omega, by omega, by simp⟩
      have hnext : (l ≤ 223 → zs ++ [l] = S) ∧ (223 < l → zs ++ [223] = [223] ∧ l = L) := by
        rcases hph with ⟨rfl, rfl⟩ | ⟨rfl, h2, rfl⟩
        · refine ⟨fun h1 => ?_, fun h1 => ⟨rfl, rfl⟩⟩
          rcases hS.out with ⟨_, rfl⟩ | ⟨_, rfl⟩
          · rfl
          · omega
        · refine ⟨fun h1 => ?_, fun h1 => by omega⟩
          rcases hS.out with ⟨_, rfl⟩ | ⟨_, rfl⟩
          · omega
          · rfl
      replace hbel := Lib.hid hbel
      replace hown := Lib.hid hown
      replace hnext := Lib.hid hnext
      clear hph
      by_cases h223 : l ≤ 223
      · have hd2 : ¬ 223 < l := by omega
        go_wp2_with (at_builtin; go_must (refine wpI_app1 rfl (.tmp 31) (.tmp 33) rfl w.heap.size _ zs rfl hown l rfl (by omega) hsz ?_))
        intro v' w' ho' hb'
        rw [hnext.out.1 h223] at ho'
        replace hb' := Lib.hid (hbel.out.trans hb'.out)
        go_wp2_with fail
        go_ret2
        exact ⟨_, rfl, ho'.out, hb'.out⟩
      · have hd2 : 223 < l := by omega
        go_wp2_with (at_builtin; go_must (refine wpI_app1 rfl (.tmp 26) (.tmp 27) rfl w.heap.size _ zs rfl hown 223 rfl (by omega) hsz ?_))
        intro v' w' ho' hb'
        replace hb' := Lib.hid (hbel.out.trans hb'.out)
        go_wp2_with fail
        go_roundw
        case rel =>
          obtain ⟨e1, rfl⟩ := hnext.out.2 hd2
          first
            | exact ⟨[223], l - 223, by go_num, e1 ▸ ho'.out, hb'.out, .inr ⟨rfl, hd2, rfl⟩⟩
            | exact ⟨.int .i64 (l - 223), v', _, _, _, _, _, _, _, ⟨[223], l - 223, rfl, e1 ▸ ho'.out, hb'.out, .inr ⟨rfl, hd2, rfl⟩⟩, rfl⟩
        case measure => simp [intOf]; omega
  · go_enter Tryd.func52, Tryd.ntmps52
    go_wp2_with fail
    rw [show n / 8 = L from by omega]
    clear hLm
    go_loopw [5, 4] (fun v j wr => ∃ (zs : List Int) (l : Int), j = .int .i64 l ∧ OwnI w.heap.size wr v zs ∧ Below w.heap.size w wr ∧ ((zs = [] ∧ l = L) ∨ (l = L - 223 ∧ 223 < L ∧ zs = [223])))
      (fun _ j _ => (intOf j).toNat)
    case atStart => exact ⟨[], L, rfl, hown0.out, hb0.out, .inl ⟨rfl, rfl⟩⟩
    case round =>
      clear hown0 hb0
      obtain ⟨zs, l, rfl, hown, hbel, hph⟩ := hrel
      have hsz := hbel.size
      have hlb : 1 ≤ l ∧ l ≤ 250 ∧ zs.length ≤ 2 := by
        rcases hph with ⟨rfl, rfl⟩ | ⟨rfl, _, rfl⟩
        · exact ⟨by omega, by omega, by simp⟩
        · exact ⟨by omega, by omega, by simp⟩
      have hnext : (l ≤ 223 → zs ++ [l] = S) ∧ (223 < l → zs ++ [223] = [223] ∧ l = L) := by
        rcases hph with ⟨rfl, rfl⟩ | ⟨rfl, h2, rfl⟩
        · refine ⟨fun h1 => ?_, fun h1 => ⟨rfl, rfl⟩⟩
          rcases hS.out with ⟨_, rfl⟩ | ⟨_, rfl⟩
          · rfl
          · omega
        · refine ⟨fun h1 => ?_, fun h1 => by omega⟩
          rcases hS.out with ⟨_, rfl⟩ | ⟨_, rfl⟩
          · omega
          · rfl
      replace hbel := Lib.hid hbel
      replace hown := Lib.hid hown
      replace hnext := Lib.hid hnext
      clear hph
      by_cases h223 : l ≤ 223
      · have hd2 : ¬ 223 < l := by omega
        go_wp2_with (at_builtin; go_must (refine wpI_app1 rfl (.tmp 31) (.tmp 33) rfl w.heap.size _ zs rfl hown l rfl (by omega) hsz ?_))
        intro v' w' ho' hb'
        rw [hnext.out.1 h223] at ho'
        replace hb' := Lib.hid (hbel.out.trans hb'.out)
        go_wp2_with fail
        go_ret2
        exact ⟨_, rfl, ho'.out, hb'.out⟩
      · have hd2 : 223 < l := by omega
        go_wp2_with (at_builtin; go_must (refine wpI_app1 rfl (.tmp 26) (.tmp 27) rfl w.heap.size _ zs rfl hown 223 rfl (by omega) hsz ?_))
        intro v' w' ho' hb'
        replace hb' := Lib.hid (hbel.out.trans hb'.out)
        go_wp2_with fail
        go_roundw
        case rel =>
          obtain ⟨e1, rfl⟩ := hnext.out.2 hd2
          first
            | exact ⟨[223], l - 223, by go_num, e1 ▸ ho'.out, hb'.out, .inr ⟨rfl, hd2, rfl⟩⟩
            | exact ⟨.int .i64 (l - 223), v', _, _, _, _, _, _, _, ⟨[223], l - 223, rfl, e1 ▸ ho'.out, hb'.out, .inr ⟨rfl, hd2, rfl⟩⟩, rfl⟩
        case measure => simp [intOf]; omega
  · go_enter Tryd.func52, Tryd.ntmps52
    go_wp2_with fail
    rw [show n / 8 + 1 = L from by omega]
    clear hLm
    go_loopw [5, 4] (fun v j wr => ∃ (zs : List Int) (l : Int), j = .int .i64 l ∧ OwnI w.heap.size wr v zs ∧ Below w.heap.size w wr ∧ ((zs = [] ∧ l = L) ∨ (l = L - 223 ∧ 223 < L ∧ zs = [223])))
      (fun _ j _ => (intOf j).toNat)
    case atStart => exact ⟨[], L, rfl, hown0.out, hb0.out, .inl ⟨rfl, rfl⟩⟩
    case round =>
      clear hown0 hb0
      obtain ⟨zs, l, rfl, hown, hbel, hph⟩ := hrel
      have hsz := hbel.size
      have hlb : 1 ≤ l ∧ l ≤ 250 ∧ zs.length ≤ 2 := by
        rcases hph with ⟨rfl, rfl⟩ | ⟨rfl, _, rfl⟩
        · exact ⟨by omega, by omega, by simp⟩
        · exact ⟨by omega, by omega, by simp⟩
      have hnext : (l ≤ 223 → zs ++ [l] = S) ∧ (223 < l → zs ++ [223] = [223] ∧ l = L) := by
        rcases hph with ⟨rfl, rfl⟩ | ⟨rfl, h2, rfl⟩
        · refine ⟨fun h1 => ?_, fun h1 => ⟨rfl, rfl⟩⟩
          rcases hS.out with ⟨_, rfl⟩ | ⟨_, rfl⟩
          · rfl
          · omega
        · refine ⟨fun h1 => ?_, fun h1 => by omega⟩
          rcases hS.out with ⟨_, rfl⟩ | ⟨_, rfl⟩
          · omega
          · rfl
      replace hbel := Lib.hid hbel
      replace hown := Lib.hid hown
      replace hnext := Lib.hid hnext
      clear hph
      by_cases h223 : l ≤ 223
      · have hd2 : ¬ 223 < l := by omega
        go_wp2_with (at_builtin; go_must (refine wpI_app1 rfl (.tmp 31) (.tmp 33) rfl w.heap.size _ zs rfl hown l rfl (by omega) hsz ?_))
        intro v' w' ho' hb'
        rw [hnext.out.1 h223] at ho'
        replace hb' := Lib.hid (hbel.out.trans hb'.out)
        go_wp2_with fail
        go_ret2
        exact ⟨_, rfl, ho'.out, hb'.out⟩
      · have hd2 : 223 < l := by omega
        go_wp2_with (at_builtin; go_must (refine wpI_app1 rfl (.tmp 26) (.tmp 27) rfl w.heap.size _ zs rfl hown 223 rfl (by omega) hsz ?_))
        intro v' w' ho' hb'
        replace hb' := Lib.hid (hbel.out.trans hb'.out)
        go_wp2_with fail
        go_roundw
        case rel =>
          obtain ⟨e1, rfl⟩ := hnext.out.2 hd2
          first
            | exact ⟨[223], l - 223, by go_num, e1 ▸ ho'.out, hb'.out, .inr ⟨rfl, hd2, rfl⟩⟩
            | exact ⟨.int .i64 (l - 223), v', _, _, _, _, _, _, _, ⟨[223], l - 223, rfl, e1 ▸ ho'.out, hb'.out, .inr ⟨rfl, hd2, rfl⟩⟩, rfl⟩
        case measure => simp [intOf]; omega

set_option maxHeartbeats 1000000 in
theorem rtotal_some (n : Int) (h : 0 ≤ n ∧ n ≤ 2000) (w : World) : Calls Tryd.prog 41 #[.int .i64 n] w fun e w' => e = .returned (.tuple #[.int .i64 (totalOf n), .int .i64 0]) ∧ Below w.heap.size w w' := by
  obtain ⟨f1, f2, f3, f4⟩ := shape_facts n h
  have hs := Lib.hid (rshape_some n h w)
  generalize shapeOf n = S at *
  generalize totalOf n = T at *
  subst f4
  go_enter Tryd.func41, Tryd.ntmps41
  go_wp2_with fail
  refine hs.out.mono ?_
  rintro e w1 ⟨v, rfl, ho, hb⟩
  clear hs
  obtain ⟨a, c, rfl, g1, g2, g3, hrow, _⟩ := ho.row
  clear ho
  replace hb := Lib.hid hb
  replace hrow := Lib.hid hrow
  replace f2 := Lib.hid f2
  replace f3 := Lib.hid f3
  go_wp2_with fail
  go_loopw [6, 8, 16] (fun s _ j wr => ∃ k : Nat, k ≤ S.length ∧ s = .int .i64 (psum S k) ∧ j = .int .i64 k ∧ wr = w1) (fun _ _ j _ => S.length - (intOf j).toNat)
  case atStart => exact ⟨0, Nat.zero_le _, rfl, rfl, rfl⟩
  case round =>
    obtain ⟨k, hk, rfl, rfl, rfl⟩ := hrel
    have b1 := f3.out k hk
    by_cases hlt : k < S.length
    · obtain ⟨b, off, rfl, hc⟩ := hrow.out k hlt
      have b2 := f2.out k hlt
      have hs2 := Lib.hid (show psum S (k + 1) = psum S k + (S.getD k 0 + 32) from rfl)
      generalize S.getD k 0 = x at *
      generalize psum S k = y at *
      go_wp2_with fail
      go_roundw
      case rel => exact ⟨k + 1, by omega, by rw [hs2.out], by go_num, by first | rfl | trivial⟩
      case measure => simp [intOf]; omega
    · obtain rfl : k = S.length := by omega
      go_wp2_with fail
      go_ret2
      exact ⟨rfl, hb.out⟩

end Go.Proofs.YtndgacjfkoliaaaDoor
