/- NewAgg, RetRow, StoreRow, LoopF, OnL. -/
import Derived.Deep.WholeRow
import Derived.Test.YtndgacjfkoliaaaDoorBase
import Derived.Test.YtndgacjfkoliaaaDoorRows
import Derived.Outline
import Derived.Deep.LoopGhost
import Derived.Deep.RegionHeld3
import Derived.Test.YtndgacjfkoliaaaDoorMem
/- A whole struct or array stored into the block that was made last, in one step. -/
namespace Go.Proofs.YtndgacjfkoliaaaDoor
open Go.RowKit
section
variable {P : Program} {ops : Array Oper} {rest : List Oper} {o : Oper} {a : Act} {w : World} {Q : Exit → Act → World → Prop}
theorem wp_store_new {K : Act → World → Prop} (ty : TypeId) (x y : Operand) (ho : o.op = .store ty x y) (c c' : Array Value)
    (hx : a.eval x = .pointer (some ⟨w.heap.size, 0, none⟩)) (hy : a.eval y = .agg c') (hi : (P.info? ty).map (·.size) = some c'.size) (hs : c.size = c'.size) (h1 : c'.all (·.oneCell') = true)
    (h : K (a.put o.dst undef) (w.alloc (.cells c' ty))) : o.wp P a (w.alloc (.cells c ty)) K Q := by
  unfold Oper.wp execOp
  simp only [ho, hx, hy, run_storeAt_new w ty c c' hi hs h1, Sem.run_bind, Sem.run_pure, Result.andThen_ok]
  exact h
theorem wpList_store_new (hgd : o.guard = none) (ty : TypeId) (x y : Operand) (ho : o.op = .store ty x y) (c c' : Array Value)
    (hx : a.eval x = .pointer (some ⟨w.heap.size, 0, none⟩)) (hy : a.eval y = .agg c') (hi : (P.info? ty).map (·.size) = some c'.size) (hs : c.size = c'.size) (h1 : c'.all (·.oneCell') = true)
    (h : wpList P ops Q rest (a.put o.dst undef) (w.alloc (.cells c' ty))) : wpList P ops Q (o :: rest) a (w.alloc (.cells c ty)) :=
  wpList_plain hgd fun _ hK => wp_store_new ty x y ho c c' hx hy hi hs h1 (hK _ _ h)
theorem results_cell1 {fn : Func} {p : Tmp} {ty : TypeId} (h : fn.results = #[.cell p ty]) (tmps : Array Value) (w : World) :
    (results fn tmps).run P w = ((asAddr (tmps.getD p undef)).run P w).andThen fun a w₁ => (loadVar ty a).run P w₁ := by
  simp only [results, h]
  simp [Sem.run_bind, Result.andThen]
/-- The result lies in the block that was made last. -/
theorem ret_cell_new {fn : Func} {R : Ending → World → Prop} {p : Tmp} {ty : TypeId} {tmps : Array Value} {c : Array Value} {n : Nat} {e : TypeId} (h : fn.results = #[.cell p ty])
    (hp : tmps.getD p undef = .pointer (some ⟨w.heap.size, 0, none⟩)) (hu : P.underlying ty = some (.array n e)) (hi : (P.info? ty).map (·.size) = some c.size) (hR : R (.returned (.agg c)) (w.alloc (.cells c ty))) :
    bodyPost P fn R .ret ⟨tmps, []⟩ (w.alloc (.cells c ty)) := by
  refine bodyPost_ret (v := .agg c) ?_ rfl hR
  rw [results_cell1 h, hp]
  simp [asAddr, Result.andThen, run_loadVar_new w ty c n e hu hi]
end
end Go.Proofs.YtndgacjfkoliaaaDoor
/- A result that is a struct or an array and lies in a block of the call's own. -/
namespace Go.Proofs.YtndgacjfkoliaaaDoor
open Go.RowKit
/-- The result is a struct or an array that lies in block b. -/
theorem ret_cell_row {P : Program} {fn : Func} {R : Ending → World → Prop} {p : Tmp} {ty : TypeId} {tmps : Array Value} {W : World} {b : Nat} {c : Array Value} {d : TypeDesc} (h : fn.results = #[.cell p ty])
    (hp : tmps.getD p undef = .pointer (some ⟨b, 0, none⟩)) (hu : P.underlying ty = some d) (hd : (match d with | .struct _ | .array _ _ => true | _ => false) = true) (hi : (P.info? ty).map (·.size) = some c.size) (hh : W.heap[b]? = some (.cells c ty (0, 0))) (hR : R (.returned (.agg c)) W) :
    bodyPost P fn R .ret ⟨tmps, []⟩ W := by
  refine bodyPost_ret (v := .agg c) ?_ rfl hR
  rw [results_cell1 h, hp]
  simp [asAddr, Result.andThen, run_loadVar_row W b ty ty c (0, 0) d hh hu hd hi]
end Go.Proofs.YtndgacjfkoliaaaDoor
/- A whole struct or array out of and into a block that is known. -/
namespace Go.Proofs.YtndgacjfkoliaaaDoor
open Go.RowKit
theorem Upd.setRow {b : Nat} {old cs : Array Value} {t : TypeId} {fz : Nat × Nat} {w : World} (hg : w.heap[b]? = some (.cells old t fz)) : Upd b (.cells cs t fz) w (w.setRow b cs) := by
  refine ⟨rfl, rfl, rfl, by simp [World.setRow], fun k hk => ?_, setRow_heap w b old cs t fz hg⟩
  simp only [World.setRow, Array.getElem?_modify]
  rw [if_neg (fun e => hk e.symm)]
section
variable {P : Program} {ops : Array Oper} {rest : List Oper} {o : Oper} {a : Act} {w : World} {Q : Exit → Act → World → Prop}
theorem wpList_store_row (hgd : o.guard = none) (ty : TypeId) (x y : Operand) (ho : o.op = .store ty x y) (g : Nat) (c c' : Array Value)
    (hx : a.eval x = .pointer (some ⟨g, 0, none⟩)) (hy : a.eval y = .agg c') (hg : Hid (w.heap[g]? = some (.cells c ty (0, 0)))) (hi : (P.info? ty).map (·.size) = some c'.size) (hs : c.size = c'.size) (h1 : c'.all (·.oneCell') = true)
    (h : ∀ w', Hid (Upd g (.cells c' ty (0, 0)) w w') → wpList P ops Q rest (a.put o.dst undef) w') : wpList P ops Q (o :: rest) a w := by
  refine wpList_plain hgd fun K hK => ?_
  have h2 := hK _ _ (h _ (Lib.hid (Upd.setRow (cs := c') hg.out)))
  unfold Oper.wp execOp
  simp only [ho, hx, hy, Instr.storeAt, Instr.sureAddr, Sem.run_bind, Sem.run_pure, Result.andThen_ok, run_storeVar_row w g ty ty c c' hg.out hi hs h1]
  exact h2
theorem wp_store_rowK {K : Act → World → Prop} (ty : TypeId) (x y : Operand) (ho : o.op = .store ty x y) (g : Nat) (c c' : Array Value)
    (hx : a.eval x = .pointer (some ⟨g, 0, none⟩)) (hy : a.eval y = .agg c') (hg : Hid (w.heap[g]? = some (.cells c ty (0, 0)))) (hi : (P.info? ty).map (·.size) = some c'.size) (hs : c.size = c'.size) (h1 : c'.all (·.oneCell') = true)
    (h : ∀ w', Hid (Upd g (.cells c' ty (0, 0)) w w') → K (a.put o.dst undef) w') : o.wp P a w K Q := by
  have h2 := h _ (Lib.hid (Upd.setRow (cs := c') hg.out))
  unfold Oper.wp execOp
  simp only [ho, hx, hy, Instr.storeAt, Instr.sureAddr, Sem.run_bind, Sem.run_pure, Result.andThen_ok, run_storeVar_row w g ty ty c c' hg.out hi hs h1]
  exact h2
theorem wpList_load_row (hgd : o.guard = none) (ty : TypeId) (x : Operand) (ho : o.op = .load ty x) (g : Nat) (c : Array Value) (d : TypeDesc)
    (hx : a.eval x = .pointer (some ⟨g, 0, none⟩)) (hg : Hid (w.heap[g]? = some (.cells c ty (0, 0)))) (hu : P.underlying ty = some d) (hd : (match d with | .struct _ | .array _ _ => true | _ => false) = true) (hi : (P.info? ty).map (·.size) = some c.size)
    (h : wpList P ops Q rest (a.put o.dst (.agg c)) w) : wpList P ops Q (o :: rest) a w := by
  refine wpList_plain hgd fun K hK => ?_
  have h2 := hK _ _ h
  unfold Oper.wp execOp
  simp only [ho, hx, Instr.loadAt, Instr.sureAddr, Sem.run_bind, Sem.run_pure, Result.andThen_ok, run_loadVar_row w g ty ty c (0, 0) d hg.out hu hd hi]
  exact h2
end
end Go.Proofs.YtndgacjfkoliaaaDoor
/- A loop in a great frame: the slots that a round writes stand as U 7, U 8 .. for ONE function U, in the place of a letter a slot. -/
namespace Go.Proofs.YtndgacjfkoliaaaDoor
open Go.RowKit

/-- The next mark of a row of segments. -/
def popSeg : List (Bool × Nat) → Bool × List (Bool × Nat)
  | [] => (false, [])
  | (_, 0) :: s => popSeg s
  | (b, n + 1) :: s => (b, (b, n) :: s)
/-- The frame l, in whose segments that are marked 'true' slot i holds U i. -/
def fillS (U : Nat → Value) : Nat → List (Bool × Nat) → List Value → List Value
  | _, _, [] => []
  | i, s, v :: l => (bif (popSeg s).1 then U i else v) :: fillS U (i + 1) (popSeg s).2 l
theorem fillS_same (U : Nat → Value) : ∀ (l : List Value) (s : List (Bool × Nat)) (i : Nat), (∀ k v, l[k]? = some v → U (i + k) = v) → fillS U i s l = l
  | [], _, _, _ => rfl
  | v :: l, s, i, h => by
    rw [fillS, fillS_same U l (popSeg s).2 (i + 1) (fun k v hk => by rw [Nat.add_assoc, Nat.add_comm 1 k]; exact h (k + 1) v (by simpa using hk))]
    have h0 : U i = v := h 0 v (by simp)
    cases (popSeg s).1
    · rfl
    · simp [h0]
theorem fillS_here (seg : List (Bool × Nat)) (l : List Value) : fillS (fun i => l.getD i undef) 0 seg l = l :=
  fillS_same _ l seg 0 fun k v hk => by
    rw [Nat.zero_add, List.getD_eq_getElem?_getD, hk]; rfl

section
variable {P : Program} {Q : Exit → Act → World → Prop} {w : World} {c : Code}
theorem wp_loopF (seg : List (Bool × Nat)) (l : List Value) (ds : _) (R : (Nat → Value) → World → Prop) (M : (Nat → Value) → World → Nat) (h0 : R (fun i => l.getD i undef) w)
    (hr : ∀ U wr, R U wr → ∀ K : Act → World → Prop, Hid (∀ l'' w'', fillS (fun i => l''.getD i undef) 0 seg l = l'' → R (fun i => l''.getD i undef) w'' → M (fun i => l''.getD i undef) w'' < M U wr → K ⟨l''.toArray, ds⟩ w'') →
      ∀ l', fillS U 0 seg l = l' → c.wp P (Exit.then K Q) ⟨l'.toArray, ds⟩ wr) : (Code.loop c).wp P Q ⟨l.toArray, ds⟩ w := by
  refine wp_loop_ghost (fun n a w' => ∃ U, R U w' ∧ M U w' = n ∧ a = ⟨(fillS U 0 seg l).toArray, ds⟩) (M (fun i => l.getD i undef) w) ⟨_, h0, rfl, by rw [fillS_here]⟩ ?_
  rintro n a w' ⟨U, hR, rfl, rfl⟩
  refine hr U w' hR _ (Lib.hid ?_) _ rfl
  intro l'' w'' he h1 h2
  exact ⟨_, h2, _, h1, rfl, by rw [he]⟩
end

end Go.Proofs.YtndgacjfkoliaaaDoor
/- A region that draws its order of evaluation, whose operations read, make new memory, or call functions that only add to the memory: the condition that is held (Derived/OrdersHeld.lean) is 'the world has only grown since ..'; it is renewed behind each call. -/
namespace Go.Proofs.YtndgacjfkoliaaaDoor
open Go.RowKit

section
variable {P : Program} {ops : Array Oper} {Q : Exit → Act → World → Prop} {md : Region.Mode}

/-- The condition may be made stronger on the way. -/
theorem wpAnyH_weaken {S S' : World → Prop} (h : ∀ w, S' w → S w) : ∀ (fuel : Nat) (listed : Array Bool) (a : Act) (w : World), wpAnyH P md ops Q S' fuel listed a w → wpAnyH P md ops Q S fuel listed a w
  | 0, _, _, _, hh => hh
  | fuel + 1, _, _, _, hh => ⟨hh.1, fun i hi => wpOp_mono (fun a' w' h' => ⟨h _ h'.1, wpAnyH_weaken h fuel _ a' w' h'.2⟩) (hh.2 i hi)⟩

/-- W is w0, with more memory. -/
abbrev Grown (w0 W : World) : Prop := Below w0.heap.size w0 W
theorem Grown.refl (w : World) : Grown w w := Below.refl _ _
theorem Grown.trans {a b c : World} (h : Grown a b) (h' : Grown b c) : Grown a c := Below.trans h (h'.mono h.size)
theorem Grown.drew {a b : World} (h : Grown a b) : Grown a b.drew := Below.trans h (Drawn.below ⟨1, rfl⟩ _)
theorem Grown.alloc {a b : World} (h : Grown a b) (o : Obj) : Grown a (b.alloc o) := Below.alloc h h.size o
theorem wpAnyH_onward {w0 w1 : World} {fuel : Nat} {listed : Array Bool} {a : Act} (h : Grown w0 w1) (hh : Grown w1 w1 → wpAnyH P md ops Q (Grown w1) fuel listed a w1) : wpAnyH P md ops Q (Grown w0) fuel listed a w1 :=
  wpAnyH_weaken (fun _ h' => h.trans h') _ _ _ _ (hh (Grown.refl w1))
theorem wp_region_on {id : Nat} {a : Act} {w : World} (hm : P.follows .mixedOrders = true)
    (h : Grown w w.drew → wpAnyH P .any ops Q (Grown w) ops.size (Array.replicate ops.size false) a w.drew) : (Code.region id ops true).wp P Q a w :=
  wp_region_held_drew hm (Grown.drew (Grown.refl w)) h
theorem wp_region_on2 {id : Nat} {a : Act} {w : World} (hm : P.follows .mixedOrders = true)
    (h : ∀ wd, Grown w wd → wpAnyH P .any ops Q (Grown w) ops.size (Array.replicate ops.size false) a wd) : (Code.region id ops true).wp P Q a w :=
  wp_region_held_drew hm (Grown.drew (Grown.refl w)) (fun h0 => h _ h0)
/-- A block that was made. -/
theorem made_step {K : Act → World → Prop} {w : World} {a : Act} {c : Array Value} {t : TypeId} {fz : Nat × Nat} (h : ∀ w', Hid (w'.heap[w.heap.size]? = some (.cells c t fz)) → Grown w w' → K a w') : K a (w.alloc (.cells c t fz)) :=
  h _ (show _ = _ from heap_alloc_new w _) (Grown.alloc (Grown.refl w) _)
end

end Go.Proofs.YtndgacjfkoliaaaDoor
