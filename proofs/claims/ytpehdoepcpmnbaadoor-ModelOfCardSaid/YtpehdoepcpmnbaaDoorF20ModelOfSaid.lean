/- record.bare for every record, in plain words. -/
import Derived.Test.YtpehdoepcpmnbaaDoorF17ModelOfSaid
import Derived.Test.YtpehdoepcpmnbaaDoorF19ModelOfSaid
namespace Go.Proofs.YtpehdoepcpmnbaaDoor
open Go.RowKit

def zA6 : Array Value := #[Value.int IntKind.i64 0, Value.int IntKind.i64 0, Value.int IntKind.i64 0, Value.int IntKind.i64 0, Value.int IntKind.i64 0, Value.int IntKind.i64 0]
def zA32 : Array Value := #[Value.int IntKind.u8 0, Value.int IntKind.u8 0, Value.int IntKind.u8 0, Value.int IntKind.u8 0, Value.int IntKind.u8 0, Value.int IntKind.u8 0, Value.int IntKind.u8 0, Value.int IntKind.u8 0, Value.int IntKind.u8 0, Value.int IntKind.u8 0, Value.int IntKind.u8 0, Value.int IntKind.u8 0, Value.int IntKind.u8 0, Value.int IntKind.u8 0, Value.int IntKind.u8 0, Value.int IntKind.u8 0, Value.int IntKind.u8 0, Value.int IntKind.u8 0, Value.int IntKind.u8 0, Value.int IntKind.u8 0, Value.int IntKind.u8 0, Value.int IntKind.u8 0, Value.int IntKind.u8 0, Value.int IntKind.u8 0, Value.int IntKind.u8 0, Value.int IntKind.u8 0, Value.int IntKind.u8 0, Value.int IntKind.u8 0, Value.int IntKind.u8 0, Value.int IntKind.u8 0, Value.int IntKind.u8 0, Value.int IntKind.u8 0]
theorem zeroPar : zA6.toList = P6.zero.list := rfl
theorem zeroDig : zA32.toList = cB z32 := by rfl
def Rc.bare (x : Rc) : Rc :=
  if x.kind = 1 then { x with obj := 0, tick := 0, name := ⟨#[]⟩, p := P6.zero, root := z32, file := z32, kind := 0 }
  else if x.kind = 2 then { x with obj := 0, tick := 0, way := 0, index := 0, id := 0, kind := 0 }
  else if x.kind = 3 then { x with obj := 0, tick := 0, verdict := 0, id := 0, kind := 0 }
  else { x with obj := 0, tick := 0, kind := 0 }
theorem Rc.size {x : Rc} (h : x.Ok) : x.list.toArray.size = 78 := by rw [List.size_toArray, Rc.len h.root h.file]
theorem Rc.at0 (x : Rc) : ∀ h, x.list.toArray[0]'h = .int .i64 x.kind := fun _ => by simp [Rc.list]
theorem Rc.at1 (x : Rc) : ∀ h, x.list.toArray[1]'h = .int .i64 x.obj := fun _ => by simp [Rc.list]
theorem Rc.at2 (x : Rc) : ∀ h, x.list.toArray[2]'h = .int .i64 x.id := fun _ => by simp [Rc.list]
theorem Rc.at3 (x : Rc) : ∀ h, x.list.toArray[3]'h = .string x.name := fun _ => by simp [Rc.list]
theorem arr_at {l : List Value} {i : Nat} {v : Value} (h : l[i]? = some v) : ∀ h', l.toArray[i]'h' = v := fun h' => by
  have h2 : i < l.length := by simpa using h'
  rw [List.getElem?_eq_getElem h2, Option.some.injEq] at h
  simpa using h
theorem Rc.at74 {x : Rc} (h : x.Ok) : ∀ h', x.list.toArray[74]'h' = .int .i64 x.way := arr_at (Rc.c74 h.root h.file)
theorem Rc.at75 {x : Rc} (h : x.Ok) : ∀ h', x.list.toArray[75]'h' = .int .i64 x.index := arr_at (Rc.c75 h.root h.file)
theorem Rc.at76 {x : Rc} (h : x.Ok) : ∀ h', x.list.toArray[76]'h' = .int .i64 x.verdict := arr_at (Rc.c76 h.root h.file)
theorem Rc.at77 {x : Rc} (h : x.Ok) : ∀ h', x.list.toArray[77]'h' = .int .i64 x.tick := arr_at (Rc.c77 h.root h.file)
theorem z32_len : z32.length = 32 := by decide

set_option maxRecDepth 100000 in
set_option maxHeartbeats 1000000 in
theorem bare_one (x : Rc) (hx : x.Ok) (hk : x.kind = 1) (w : World) :
    Calls Tryd.prog 49 #[.agg x.list.toArray] w fun e w' => e = .returned (.agg (x.bare).list.toArray) ∧ Below w.heap.size w w' := by
  obtain ⟨y, hy⟩ : ∃ y : Rc, y = { x with obj := 0, tick := 0, name := ⟨#[]⟩ } := ⟨_, rfl⟩
  have hC3 : (((x.list.toArray.setIfInBounds 1 (Value.int IntKind.i64 0)).setIfInBounds 77 (Value.int IntKind.i64 0)).setIfInBounds 3 (.string ⟨#[]⟩)) = y.list.toArray := by
    rw [Rc.set1, Rc.set77 (x := { x with obj := 0 }) hx.root hx.file, Rc.set3, hy]
  have hyr : y.root.length = 32 := by rw [hy]; exact hx.root
  have hyf : y.file.length = 32 := by rw [hy]; exact hx.file
  have hC4 : patch y.list.toArray 4 (zA6).toList = ({ y with p := P6.zero } : Rc).list.toArray := by rw [zeroPar]; exact Rc.patch_p y P6.zero
  have hC5 : patch ({ y with p := P6.zero } : Rc).list.toArray 10 (zA32).toList = ({ y with p := P6.zero, root := z32 } : Rc).list.toArray := by rw [zeroDig]; exact Rc.patch_root (x := { y with p := P6.zero }) hyr z32_len
  have hC6 : patch ({ y with p := P6.zero, root := z32 } : Rc).list.toArray 42 (zA32).toList = ({ y with p := P6.zero, root := z32, file := z32 } : Rc).list.toArray := by rw [zeroDig]; exact Rc.patch_file (x := { y with p := P6.zero, root := z32 }) z32_len hyf z32_len
  have hfin : (({ y with p := P6.zero, root := z32, file := z32 } : Rc).list.toArray).setIfInBounds 0 (Value.int IntKind.i64 0) = (x.bare).list.toArray := by
    rw [Rc.set0]
    unfold Rc.bare
    rw [if_pos hk, hy]
  have hR : (x.bare).root.length = 32 ∧ (x.bare).file.length = 32 := by
    unfold Rc.bare
    rw [if_pos hk]
    exact ⟨z32_len, z32_len⟩
  have hs := Rc.size hx
  have r0 := Rc.at0 x
  rw [hk] at r0
  have hs4 : 4 + (zA6).size ≤ y.list.toArray.size := by rw [show y.list.toArray.size = 78 from by rw [List.size_toArray, Rc.len hyr hyf]]; decide
  have hs5 : 10 + (zA32).size ≤ ({ y with p := P6.zero } : Rc).list.toArray.size := by rw [show ({ y with p := P6.zero } : Rc).list.toArray.size = 78 from by rw [List.size_toArray, Rc.len (x := { y with p := P6.zero }) hyr hyf]]; decide
  have hs6 : 42 + (zA32).size ≤ ({ y with p := P6.zero, root := z32 } : Rc).list.toArray.size := by rw [show ({ y with p := P6.zero, root := z32 } : Rc).list.toArray.size = 78 from by rw [List.size_toArray, Rc.len (x := { y with p := P6.zero, root := z32 }) z32_len hyf]]; decide
  have i4 : (Tryd.prog.info? 42).map (·.size) = some (zA6).size := by kernel_rfl
  have i5 : (Tryd.prog.info? 57).map (·.size) = some (zA32).size := by kernel_rfl
  have o4 : (zA6).all (·.oneCell') = true := by kernel_rfl
  have o5 : (zA32).all (·.oneCell') = true := by kernel_rfl
  generalize hR0 : x.list.toArray = R at *
  generalize hV4 : y.list.toArray = V4 at *
  generalize hV5 : ({ y with p := P6.zero } : Rc).list.toArray = V5 at *
  generalize hV6 : ({ y with p := P6.zero, root := z32 } : Rc).list.toArray = V6 at *
  generalize hV7 : ({ y with p := P6.zero, root := z32, file := z32 } : Rc).list.toArray = V7 at *
  have hVs : (x.bare).list.toArray.size = 78 := by rw [List.size_toArray, Rc.len hR.1 hR.2]
  have hVo := Rc.all_one x.bare
  generalize hV8 : (x.bare).list.toArray = V8 at *
  have hX3 : Hid (((w.alloc (.cells (((R.setIfInBounds 1 (Value.int IntKind.i64 0)).setIfInBounds 77 (Value.int IntKind.i64 0)).setIfInBounds 3 (.string ⟨#[]⟩)) 59)).alloc (.cells Tryd.zeroCells59 59)).heap[w.heap.size]? = some (.cells V4 59 (0, 0))) := Lib.hid (by
    rw [heapA9, if_neg (by simp), heapA9, if_pos rfl, hC3])
  have hZ3 : Hid (((w.alloc (.cells (((R.setIfInBounds 1 (Value.int IntKind.i64 0)).setIfInBounds 77 (Value.int IntKind.i64 0)).setIfInBounds 3 (.string ⟨#[]⟩)) 59)).alloc (.cells Tryd.zeroCells59 59)).heap[w.heap.size + 1]? = some (.cells Tryd.zeroCells59 59 (0, 0))) := Lib.hid (by
    rw [heapA9, if_pos (by simp)])
  have hb : Hid (Below w.heap.size w ((w.alloc (.cells (((R.setIfInBounds 1 (Value.int IntKind.i64 0)).setIfInBounds 77 (Value.int IntKind.i64 0)).setIfInBounds 3 (.string ⟨#[]⟩)) 59)).alloc (.cells Tryd.zeroCells59 59))) := Lib.hid (((Below.refl _ _).alloc (Nat.le_refl _) _).alloc (by simp) _)
  have hu8 := Tryd.underlying59
  have i8 : (Tryd.prog.info? 59).map (·.size) = some V8.size := by rw [hVs]; kernel_rfl
  have z8 : (Tryd.zeroCells59).size = V8.size := by rw [hVs]; kernel_rfl
  have hV70 : ∃ u, V7[0]? = some u := by rw [← hV7]; exact ⟨_, by simp [Rc.list]; rfl⟩
  have e6 : Hid (Value.agg #[Value.int IntKind.i64 0, Value.int IntKind.i64 0, Value.int IntKind.i64 0, Value.int IntKind.i64 0, Value.int IntKind.i64 0, Value.int IntKind.i64 0] = .agg zA6) := Lib.hid rfl
  have e32 : Hid (Value.agg #[Value.int IntKind.u8 0, Value.int IntKind.u8 0, Value.int IntKind.u8 0, Value.int IntKind.u8 0, Value.int IntKind.u8 0, Value.int IntKind.u8 0, Value.int IntKind.u8 0, Value.int IntKind.u8 0, Value.int IntKind.u8 0, Value.int IntKind.u8 0, Value.int IntKind.u8 0, Value.int IntKind.u8 0, Value.int IntKind.u8 0, Value.int IntKind.u8 0, Value.int IntKind.u8 0, Value.int IntKind.u8 0, Value.int IntKind.u8 0, Value.int IntKind.u8 0, Value.int IntKind.u8 0, Value.int IntKind.u8 0, Value.int IntKind.u8 0, Value.int IntKind.u8 0, Value.int IntKind.u8 0, Value.int IntKind.u8 0, Value.int IntKind.u8 0, Value.int IntKind.u8 0, Value.int IntKind.u8 0, Value.int IntKind.u8 0, Value.int IntKind.u8 0, Value.int IntKind.u8 0, Value.int IntKind.u8 0, Value.int IntKind.u8 0] = .agg zA32) := Lib.hid rfl
  generalize zA6 = A6 at *
  generalize zA32 = A32 at *
  replace hC4 := Lib.hid hC4
  replace hC5 := Lib.hid hC5
  replace hC6 := Lib.hid hC6
  replace hfin := Lib.hid hfin
  replace hV70 := Lib.hid hV70
  clear hy hyr hyf hR0 hV4 hV5 hV6 hV7 hV8 hR hC3 hVs hk hx
  go_enter Tryd.func49, Tryd.ntmps49
  go_wp2_with (first
    | ((with_reducible show wpList _ _ _ (Oper.mk _ (Op.store 42 _ _) _ _ _ _ :: _) _ _); (refine wpList_store_midU rfl 42 59 (.tmp 13) (.tmp 9) rfl w.heap.size 4 V4 A6 rfl e6.out hX3 i4 hs4 o4 ?_); intro w4 hU4; rw [hC4.out] at hU4; have hX4 := Lib.hid hU4.out.here)
    | ((with_reducible show wpList _ _ _ (Oper.mk _ (Op.store 57 (.tmp 14) _) _ _ _ _ :: _) _ _); (refine wpList_store_midU rfl 57 59 (.tmp 14) (.tmp 10) rfl w.heap.size 10 V5 A32 rfl e32.out hX4 i5 hs5 o5 ?_); intro w5 hU5; rw [hC5.out] at hU5; have hX5 := Lib.hid hU5.out.here)
    | ((with_reducible show wpList _ _ _ (Oper.mk _ (Op.store 57 (.tmp 15) _) _ _ _ _ :: _) _ _); (refine wpList_store_midU rfl 57 59 (.tmp 15) (.tmp 11) rfl w.heap.size 42 V6 A32 rfl e32.out hX5 i5 hs6 o5 ?_); intro w6 hU6; rw [hC6.out] at hU6; have hX6 := Lib.hid hU6.out.here; have hZ6 := Lib.hid ((hU6.out.block _ (Nat.succ_ne_self _)).trans ((hU5.out.block _ (Nat.succ_ne_self _)).trans ((hU4.out.block _ (Nat.succ_ne_self _)).trans hZ3.out))); have hb6 := Lib.hid (((hb.out.trans (hU4.out.below (Nat.le_refl _))).trans (hU5.out.below (Nat.le_refl _))).trans (hU6.out.below (Nat.le_refl _))); obtain ⟨u0, hu0⟩ := hV70.out; have c60 : w6.cell? ⟨w.heap.size, 0, none⟩ = some u0 := (by rw [cell_of_block hX6.out]; exact hu0); have f60 : w6.frozen? ⟨w.heap.size, 0, none⟩ = false := free_of_block hX6.out _; have hU7 := (Upd.refl hX6.out).setCell (j := 0) (Value.int IntKind.i64 0); rw [hfin.out] at hU7; replace hU7 := Lib.hid hU7; have hX7 := Lib.hid hU7.out.here; have hZ7 := Lib.hid ((hU7.out.block _ (Nat.succ_ne_self _)).trans hZ6.out); have hb7 := Lib.hid (hb6.out.trans (hU7.out.below (Nat.le_refl _))); clear hu0)
    | ((with_reducible show wpList _ _ _ (Oper.mk _ (Op.load 59 (.tmp 1)) _ _ _ _ :: _) _ _); refine wpList_load_row rfl 59 (.tmp 1) rfl w.heap.size V8 _ rfl hX7 hu8 rfl i8 ?_)
    | ((with_reducible show wpList _ _ _ (Oper.mk _ (Op.store 59 (.tmp 2) _) _ _ _ _ :: _) _ _); (refine wpList_store_row rfl 59 (.tmp 2) (.tmp 26) rfl (w.heap.size + 1) _ V8 rfl rfl hZ7 i8 z8 hVo ?_); intro w8 hU8))
  exact ret_cell_row rfl rfl hu8 rfl i8 hU8.out.here ⟨rfl, hb7.out.trans (hU8.out.below (Nat.le_succ _))⟩
theorem bare_any (x : Rc) (hx : x.Ok) (w : World) : Calls Tryd.prog 49 #[.agg x.list.toArray] w fun e w' => e = .returned (.agg (x.bare).list.toArray) ∧ Below w.heap.size w w' := by
  by_cases h1 : x.kind = 1
  · exact bare_one x hx h1 w
  · by_cases h2 : x.kind = 2
    · have h := bare_two x.list.toArray (Rc.size hx) (by rw [← h2]; exact Rc.at0 x) (Rc.all_one x) w
      rw [Rc.set1, Rc.set77 (x := { x with obj := 0 }) hx.root hx.file, Rc.set74 (x := { x with obj := 0, tick := 0 }) hx.root hx.file, Rc.set75 (x := { x with obj := 0, tick := 0, way := 0 }) hx.root hx.file, Rc.set2, Rc.set0] at h
      have e : x.bare = { x with obj := 0, tick := 0, way := 0, index := 0, id := 0, kind := 0 } := by unfold Rc.bare; rw [if_neg h1, if_pos h2]
      rw [e]
      exact h
    · by_cases h3 : x.kind = 3
      · have h := bare_three x.list.toArray (Rc.size hx) (by rw [← h3]; exact Rc.at0 x) (Rc.all_one x) w
        rw [Rc.set1, Rc.set77 (x := { x with obj := 0 }) hx.root hx.file, Rc.set76 (x := { x with obj := 0, tick := 0 }) hx.root hx.file, Rc.set2, Rc.set0] at h
        have e : x.bare = { x with obj := 0, tick := 0, verdict := 0, id := 0, kind := 0 } := by unfold Rc.bare; rw [if_neg h1, if_neg h2, if_pos h3]
        rw [e]
        exact h
      · have h := bare_other x.list.toArray x.kind h1 h2 h3 (Rc.size hx) (Rc.at0 x) (Rc.all_one x) w
        rw [Rc.set1, Rc.set77 (x := { x with obj := 0 }) hx.root hx.file, Rc.set0] at h
        have e : x.bare = { x with obj := 0, tick := 0, kind := 0 } := by unfold Rc.bare; rw [if_neg h1, if_neg h2, if_neg h3]
        rw [e]
        exact h
theorem Rc.bare_ok {x : Rc} (h : x.Ok) : (x.bare).Ok := by
  obtain ⟨a1, a2, a3, a4, a5, a6, a7, a8, a9, a10, a11⟩ := h
  have z : inI 0 := by decide
  have zs : (⟨#[]⟩ : ByteArray).size ≤ maxLen := by decide
  have zp : P6.zero.Ok := ⟨by decide, by decide, by decide, by decide, by decide, by decide⟩
  unfold Rc.bare
  split
  · exact ⟨z, z, a3, zs, zp, z32_len, z32_len, a8, a9, a10, z⟩
  · split
    · exact ⟨z, z, z, a4, a5, a6, a7, z, z, a10, z⟩
    · split
      · exact ⟨z, z, z, a4, a5, a6, a7, a8, a9, z, z⟩
      · exact ⟨z, z, a3, a4, a5, a6, a7, a8, a9, a10, z⟩
/-- Its numbers are in their bounds. -/
def Rc.nums (x : Rc) : Bool := numsB x.kind x.obj x.id x.way x.index x.verdict x.tick
theorem numbers_any (x : Rc) (hx : x.Ok) (w : World) : Calls Tryd.prog 48 #[.agg x.list.toArray] w fun e w' => e = .returned (.bool x.nums) ∧ Below w.heap.size w w' := by
  unfold Rc.nums
  by_cases h2 : x.kind = 2
  · have h := numbers_two x.list.toArray x.obj x.id x.way x.index x.verdict x.tick (Rc.size hx) (by rw [← h2]; exact Rc.at0 x) (Rc.at1 x) (Rc.at2 x) (Rc.at74 hx) (Rc.at75 hx) (Rc.at77 hx) w
    rw [h2]
    exact h
  · by_cases h3 : x.kind = 3
    · have h := numbers_three x.list.toArray x.obj x.id x.way x.index x.verdict x.tick (Rc.size hx) (by rw [← h3]; exact Rc.at0 x) (Rc.at1 x) (Rc.at2 x) (Rc.at76 hx) (Rc.at77 hx) w
      rw [h3]
      exact h
    · exact numbers_other x.list.toArray x.kind x.obj x.id x.way x.index x.verdict x.tick (Rc.size hx) (Rc.at0 x) (Rc.at1 x) (Rc.at77 hx) h2 h3 w
end Go.Proofs.YtpehdoepcpmnbaaDoor
