/- ConcatL, NewAgg, RetRow, StoreRow. -/
import Derived.Test.YtahnicbokdbjdaaDoorF2ParsSaid20
import Derived.Lib.AppendZeros
import Derived.Deep.WholeRow
import Derived.Test.YtahnicbokdbjdaaDoorF1ParsSaid20
import Derived.Test.YtahnicbokdbjdaaDoorRows
import Derived.Outline
/- slices.Concat of a row of rows of bytes. -/
namespace Go.Proofs.YtahnicbokdbjdaaDoor
open Go.RowKit

set_option maxRecDepth 100000 in
set_option maxHeartbeats 1000000 in
theorem grow_any (n : Nat) (w : World) (h1 : 1 ≤ n) (h2 : n ≤ 1000000) : Calls Tryd.prog 36 #[.slice none 0 0, .int .i64 (n : Int)] w fun e w' => ∃ v, e = .returned v ∧ OwnB w.heap.size w' v [] ∧ Below w.heap.size w w' := by
  obtain ⟨i0, hi, hz0, hz1, hz2⟩ := info_parts Tryd.infoByteP
  have happ := Lib.run_append_nil_zeros (P := Tryd.prog) w 36 3 36 5 i0 (.int .u8 0) .i64 .i64 Tryd.underlying36 Tryd.underlying3 hi hz0 n (by omega) (by omega) (by omega) (by rw [hz2]; omega)
  generalize hcap : grownCap w n 0 5 = cap2 at happ
  have hcapge : n ≤ cap2 := by rw [← hcap]; exact grownCap_ge w _ 0 5
  have hcaple : cap2 ≤ maxLen := by rw [← hcap]; exact grownCap_le_maxLen w _ 0 5 (by unfold maxLen; omega)
  generalize hZ : (Builtin.zeroCells (Value.int .u8 0).cells n ++ Builtin.zeroCells (Value.int .u8 0).cells (cap2 - n)) = Z at happ
  have hZs : Z.size = cap2 := by rw [← hZ]; simp [size_zeroCells, Value.cells]; omega
  clear hcap hZ
  have hZs := Lib.hid hZs
  have h3 := Lib.hid hcaple
  clear hcaple
  have happ := Lib.hid happ
  go_enter Tryd.func36, Tryd.ntmps36
  go_wp2_with (at_builtin; refine Lib.wpList_append_run _ rfl _ _ _ _ rfl _ _ rfl rfl _ _ happ.out ?_)
  go_ret
  refine ⟨_, rfl, ?_, ?_⟩
  · exact ⟨rfl, .inr ⟨w.heap.size, cap2, Z, rfl, Nat.le_refl _, heap_alloc_new w _, Nat.zero_le _, h3.out, by rw [Nat.mul_one]; exact hZs.out, rfl⟩⟩
  · exact Below.alloc (Drawn.below ⟨1, rfl⟩ _) (Nat.le_refl _) _

/-- Rows of bytes, side by side in a block. -/
def RowsAt (w : World) (b : Nat) (ps : List (List UInt8)) : Prop := ∀ k, k < ps.length → ∃ a c, w.cell? ⟨b, k, none⟩ = some (.slice a (ps.getD k []).length c) ∧ ArgB w a c (ps.getD k [])
theorem RowsAt.below {w w' : World} {b : Nat} {ps : List (List UInt8)} (h : RowsAt w b ps) (hb : Below w.heap.size w w') : RowsAt w' b ps := fun k hk => by
  obtain ⟨a, c, h1, h2⟩ := h k hk
  exact ⟨a, c, (hb.cell (World.block_lt_of_cell? w _ h1)).trans h1, h2.below hb⟩
def lenSum (ps : List (List UInt8)) (k : Nat) : Nat := ((ps.take k).flatten).length
theorem take_row {ps : List (List UInt8)} {k : Nat} (h : k < ps.length) : (ps.take (k + 1)).flatten = (ps.take k).flatten ++ ps.getD k [] := by
  rw [List.take_succ_eq_append_getElem h, List.flatten_append, List.getD_eq_getElem?_getD, List.getElem?_eq_getElem h]
  simp
theorem lenSum_succ {ps : List (List UInt8)} {k : Nat} (h : k < ps.length) : lenSum ps (k + 1) = lenSum ps k + (ps.getD k []).length := by
  unfold lenSum
  rw [take_row h, List.length_append]
theorem lenSum_le (ps : List (List UInt8)) (k : Nat) : lenSum ps k ≤ ps.flatten.length := by
  have h : (ps.take k).flatten.length + (ps.drop k).flatten.length = ps.flatten.length := by rw [← List.length_append, ← List.flatten_append, List.take_append_drop]
  unfold lenSum
  omega

set_option maxRecDepth 100000 in
set_option maxHeartbeats 2000000 in
theorem concatL_any (b : Nat) (ps : List (List UInt8)) (w : World) (hA : RowsAt w b ps) (hm : ps.length ≤ 100000) (h1 : 1 ≤ ps.flatten.length) (h2 : ps.flatten.length ≤ 1000000) :
    Calls Tryd.prog 20 #[.slice (some ⟨b, 0, none⟩) ps.length ps.length] w fun e w' => ∃ v, e = .returned v ∧ OwnB w.heap.size w' v ps.flatten ∧ Below w.heap.size w w' := by
  obtain ⟨L, hL⟩ : ∃ L, L = ps.length := ⟨_, rfl⟩
  have hA2 := Lib.hid hA
  rw [← hL]
  replace hL := Lib.hid hL
  have hLm : L ≤ 100000 := by rw [hL.out]; exact hm
  go_enter Tryd.func20, Tryd.ntmps20
  go_wp2_with fail
  go_loop [3, 5, 11] (fun s _ j => ∃ k : Nat, k ≤ L ∧ j = .int .i64 k ∧ s = .int .i64 (lenSum ps k)) (fun _ _ j => L - (intOf j).toNat)
  case atStart => exact ⟨0, Nat.zero_le _, rfl, rfl⟩
  case round =>
    obtain ⟨k, hk, rfl, rfl⟩ := hrel
    by_cases hlt : k < L
    · have hkp : k < ps.length := by rw [← hL.out]; exact hlt
      obtain ⟨ai, ci, hc, ha⟩ := hA2.out k hkp
      have hli : (k : Int) < L := by omega
      have hs := lenSum_succ hkp
      have hle := lenSum_le ps (k + 1)
      have hneg : ¬ ((lenSum ps k : Int) + (ps.getD k []).length < 0) := by omega
      have hs2 := Lib.hid (show ((lenSum ps k : Int) + (ps.getD k []).length) = (lenSum ps (k + 1) : Int) from by omega)
      have hb : lenSum ps (k + 1) ≤ 1000000 := by omega
      generalize (ps.getD k []).length = l at *
      generalize lenSum ps k = S at *
      have hw : IntKind.i64.wrap ((S : Int) + l) = (S : Int) + l := IntWalk.i64_in _ (by omega)
      clear hs hle ha
      go_wp2_with fail
      exact ⟨⟨k + 1, by omega, by go_num, by rw [← hs2.out]⟩, by simp [intOf]; omega⟩
    · obtain rfl : k = L := by omega
      have hfl : lenSum ps k = ps.flatten.length := by unfold lenSum; rw [hL.out, List.take_length]
      rw [hfl]
      clear hfl
      have hg := Lib.hid (grow_any ps.flatten.length w h1 (by omega))
      have hfn := Lib.hid (show ∀ i, lenSum ps i ≤ ps.flatten.length from lenSum_le ps)
      generalize ps.flatten.length = nn at *
      go_wp2_with fail
      with_reducible refine hg.out.mono ?_
      rintro e w1 ⟨v, rfl, ho, hb1⟩
      replace ho := Lib.hid ho
      replace hb1 := Lib.hid hb1
      clear hg
      go_wp2_with fail
      go_loopw [6, 8, 27] (fun v _ j wr => ∃ i : Nat, i ≤ k ∧ j = .int .i64 i ∧ OwnB w.heap.size wr v (ps.take i).flatten ∧ Below w.heap.size w wr) (fun _ _ j _ => k - (intOf j).toNat)
      case atStart => exact ⟨0, Nat.zero_le _, rfl, ho.out, hb1.out⟩
      case round =>
        clear ho hb1
        obtain ⟨i, hi, rfl, hown, hbel⟩ := hrel
        have hsz := hbel.size
        have hA3 := hA2.out.below hbel
        replace hbel := Lib.hid hbel
        replace hown := Lib.hid hown
        by_cases hil : i < k
        · have hip : i < ps.length := by rw [← hL.out]; exact hil
          obtain ⟨ai, ci, hc, ha⟩ := hA3 i hip
          have hli : (i : Int) < k := by omega
          have htk := Lib.hid (take_row hip)
          have hlx := Lib.hid (Eq.refl (ps.getD i []).length)
          have hle := hfn.out i
          have hle2 := hfn.out (i + 1)
          have hsu := lenSum_succ hip
          have hz1 : (ps.take i).flatten.length ≤ 1000000 := by unfold lenSum at hle; omega
          have hz2 : (ps.getD i []).length ≤ 1000000 := by omega
          clear hle hle2 hsu hA3
          replace ha := Lib.hid ha
          generalize ps.getD i [] = p at *
          go_wp2_with (at_builtin; go_must (refine wpB_app rfl (.tmp 31) (.tmp 32) rfl w.heap.size _ (ps.take i).flatten rfl hown ai ci p _ rfl hlx ha (by omega) (by omega) hsz ?_))
          intro v' w3 hown3 hb3
          go_wp2_with fail
          go_roundw
          case rel => exact ⟨i + 1, by omega, by go_num, by rw [htk.out]; exact hown3.out, hbel.out.trans hb3.out⟩
          case measure => simp [intOf]; omega
        · obtain rfl : i = k := by omega
          rw [show ps.take i = ps from by rw [hL.out, List.take_length]] at hown
          clear hA3
          go_wp2_with fail
          go_ret
          exact ⟨_, rfl, hown.out, hbel.out⟩

end Go.Proofs.YtahnicbokdbjdaaDoor
/- A whole struct or array stored into the block that was made last, in one step. -/
namespace Go.Proofs.YtahnicbokdbjdaaDoor
open Go.RowKit
section
variable {P : Program} {ops : Array Oper} {rest : List Oper} {o : Oper} {a : Act} {w : World} {Q : Exit → Act → World → Prop}
theorem wp_store_new {K : Act → World → Prop} (ty : TypeId) (x y : Operand) (ho : o.op = .store ty x y) (c c' : Array Value)
    (hx : a.eval x = .pointer (some ⟨w.heap.size, 0, none⟩)) (hy : a.eval y = .agg c') (hi : (P.info? ty).map (·.size) = some c'.size) (hs : c.size = c'.size) (h1 : c'.all (·.oneCell') = true)
    (h : K (a.put o.dst undef) (w.alloc (.cells c' ty))) : o.wp P a (w.alloc (.cells c ty)) K Q := by
  unfold Oper.wp execOp
  simp only [ho, hx, hy, run_storeAt_new w ty c c' hi hs h1, Sem.run_bind, Sem.run_pure, Result.andThen_ok]
  exact h
theorem wpList_store_new (hgd : o.guard = none) (ty : TypeId) (x y : Operand) (ho : o.op = .store ty x y) (c c' : Array Value)
    (hx : a.eval x = .pointer (some ⟨w.heap.size, 0, none⟩)) (hy : a.eval y = .agg c') (hi : (P.info? ty).map (·.size) = some c'.size) (hs : c.size = c'.size) (h1 : c'.all (·.oneCell') = true)
    (h : wpList P ops Q rest (a.put o.dst undef) (w.alloc (.cells c' ty))) : wpList P ops Q (o :: rest) a (w.alloc (.cells c ty)) :=
  wpList_plain hgd fun _ hK => wp_store_new ty x y ho c c' hx hy hi hs h1 (hK _ _ h)
theorem results_cell1 {fn : Func} {p : Tmp} {ty : TypeId} (h : fn.results = #[.cell p ty]) (tmps : Array Value) (w : World) :
    (results fn tmps).run P w = ((asAddr (tmps.getD p undef)).run P w).andThen fun a w₁ => (loadVar ty a).run P w₁ := by
  simp only [results, h]
  simp [Sem.run_bind, Result.andThen]
/-- The result lies in the block that was made last. -/
theorem ret_cell_new {fn : Func} {R : Ending → World → Prop} {p : Tmp} {ty : TypeId} {tmps : Array Value} {c : Array Value} {n : Nat} {e : TypeId} (h : fn.results = #[.cell p ty])
    (hp : tmps.getD p undef = .pointer (some ⟨w.heap.size, 0, none⟩)) (hu : P.underlying ty = some (.array n e)) (hi : (P.info? ty).map (·.size) = some c.size) (hR : R (.returned (.agg c)) (w.alloc (.cells c ty))) :
    bodyPost P fn R .ret ⟨tmps, []⟩ (w.alloc (.cells c ty)) := by
  refine bodyPost_ret (v := .agg c) ?_ rfl hR
  rw [results_cell1 h, hp]
  simp [asAddr, Result.andThen, run_loadVar_new w ty c n e hu hi]
end
end Go.Proofs.YtahnicbokdbjdaaDoor
/- A result that is a struct or an array and lies in a block of the call's own. -/
namespace Go.Proofs.YtahnicbokdbjdaaDoor
open Go.RowKit
/-- The result is a struct or an array that lies in block b. -/
theorem ret_cell_row {P : Program} {fn : Func} {R : Ending → World → Prop} {p : Tmp} {ty : TypeId} {tmps : Array Value} {W : World} {b : Nat} {c : Array Value} {d : TypeDesc} (h : fn.results = #[.cell p ty])
    (hp : tmps.getD p undef = .pointer (some ⟨b, 0, none⟩)) (hu : P.underlying ty = some d) (hd : (match d with | .struct _ | .array _ _ => true | _ => false) = true) (hi : (P.info? ty).map (·.size) = some c.size) (hh : W.heap[b]? = some (.cells c ty (0, 0))) (hR : R (.returned (.agg c)) W) :
    bodyPost P fn R .ret ⟨tmps, []⟩ W := by
  refine bodyPost_ret (v := .agg c) ?_ rfl hR
  rw [results_cell1 h, hp]
  simp [asAddr, Result.andThen, run_loadVar_row W b ty ty c (0, 0) d hh hu hd hi]
end Go.Proofs.YtahnicbokdbjdaaDoor
/- A whole struct or array out of and into a block that is known. -/
namespace Go.Proofs.YtahnicbokdbjdaaDoor
open Go.RowKit
theorem Upd.setRow {b : Nat} {old cs : Array Value} {t : TypeId} {fz : Nat × Nat} {w : World} (hg : w.heap[b]? = some (.cells old t fz)) : Upd b (.cells cs t fz) w (w.setRow b cs) := by
  refine ⟨rfl, rfl, rfl, by simp [World.setRow], fun k hk => ?_, setRow_heap w b old cs t fz hg⟩
  simp only [World.setRow, Array.getElem?_modify]
  rw [if_neg (fun e => hk e.symm)]
section
variable {P : Program} {ops : Array Oper} {rest : List Oper} {o : Oper} {a : Act} {w : World} {Q : Exit → Act → World → Prop}
theorem wpList_store_row (hgd : o.guard = none) (ty : TypeId) (x y : Operand) (ho : o.op = .store ty x y) (g : Nat) (c c' : Array Value)
    (hx : a.eval x = .pointer (some ⟨g, 0, none⟩)) (hy : a.eval y = .agg c') (hg : Hid (w.heap[g]? = some (.cells c ty (0, 0)))) (hi : (P.info? ty).map (·.size) = some c'.size) (hs : c.size = c'.size) (h1 : c'.all (·.oneCell') = true)
    (h : ∀ w', Hid (Upd g (.cells c' ty (0, 0)) w w') → wpList P ops Q rest (a.put o.dst undef) w') : wpList P ops Q (o :: rest) a w := by
  refine wpList_plain hgd fun K hK => ?_
  have h2 := hK _ _ (h _ (Lib.hid (Upd.setRow (cs := c') hg.out)))
  unfold Oper.wp execOp
  simp only [ho, hx, hy, Instr.storeAt, Instr.sureAddr, Sem.run_bind, Sem.run_pure, Result.andThen_ok, run_storeVar_row w g ty ty c c' hg.out hi hs h1]
  exact h2
theorem wp_store_rowK {K : Act → World → Prop} (ty : TypeId) (x y : Operand) (ho : o.op = .store ty x y) (g : Nat) (c c' : Array Value)
    (hx : a.eval x = .pointer (some ⟨g, 0, none⟩)) (hy : a.eval y = .agg c') (hg : Hid (w.heap[g]? = some (.cells c ty (0, 0)))) (hi : (P.info? ty).map (·.size) = some c'.size) (hs : c.size = c'.size) (h1 : c'.all (·.oneCell') = true)
    (h : ∀ w', Hid (Upd g (.cells c' ty (0, 0)) w w') → K (a.put o.dst undef) w') : o.wp P a w K Q := by
  have h2 := h _ (Lib.hid (Upd.setRow (cs := c') hg.out))
  unfold Oper.wp execOp
  simp only [ho, hx, hy, Instr.storeAt, Instr.sureAddr, Sem.run_bind, Sem.run_pure, Result.andThen_ok, run_storeVar_row w g ty ty c c' hg.out hi hs h1]
  exact h2
theorem wpList_load_row (hgd : o.guard = none) (ty : TypeId) (x : Operand) (ho : o.op = .load ty x) (g : Nat) (c : Array Value) (d : TypeDesc)
    (hx : a.eval x = .pointer (some ⟨g, 0, none⟩)) (hg : Hid (w.heap[g]? = some (.cells c ty (0, 0)))) (hu : P.underlying ty = some d) (hd : (match d with | .struct _ | .array _ _ => true | _ => false) = true) (hi : (P.info? ty).map (·.size) = some c.size)
    (h : wpList P ops Q rest (a.put o.dst (.agg c)) w) : wpList P ops Q (o :: rest) a w := by
  refine wpList_plain hgd fun K hK => ?_
  have h2 := hK _ _ h
  unfold Oper.wp execOp
  simp only [ho, hx, Instr.loadAt, Instr.sureAddr, Sem.run_bind, Sem.run_pure, Result.andThen_ok, run_loadVar_row w g ty ty c (0, 0) d hg.out hu hd hi]
  exact h2
end
end Go.Proofs.YtahnicbokdbjdaaDoor
