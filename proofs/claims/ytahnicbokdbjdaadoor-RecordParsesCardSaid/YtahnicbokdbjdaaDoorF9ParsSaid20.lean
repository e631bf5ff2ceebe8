/- BuildG, Of20, Only. -/
import Derived.Laws.Tables
import Derived.Great.BuildSlice
import Derived.Great.FillDense
import Derived.Test.YtahnicbokdbjdaaDoorF1ParsSaid20
import Derived.Test.YtahnicbokdbjdaaDoorF8ParsSaid20
import Derived.Test.YtahnicbokdbjdaaDoorF3ParsSaid20
/- A struct is built of all its fields: its cells are the fields' cells, side by side. Of whatever program. -/
namespace Go.Proofs.YtahnicbokdbjdaaDoor
open Go.RowKit

/-- The parts' places, from offset o on. -/
def placed (fn : Nat → Option (Nat × Nat)) : Nat → Nat → List Value → Prop
  | _, _, [] => True
  | i, o, v :: vs => fn i = some (o, v.cells.size) ∧ placed fn (i + 1) (o + v.cells.size) vs
theorem fill_seq (fn : Nat → Option (Nat × Nat)) : ∀ (vs : List Value) (i : Nat) (pre rest : List Value), placed fn i pre.length vs → rest.length = (vs.map (·.cells.size)).sum →
    Instr.fill fn (pre ++ rest).toArray ((vs.zipIdx i).map fun x => (x.2, x.1)) = some (pre ++ vs.flatMap (·.cells.toList)).toArray
  | [], i, pre, rest, _, hr => by
    have : rest = [] := List.length_eq_zero_iff.1 (by simpa using hr)
    subst this
    simp [Instr.fill]
  | v :: vs, i, pre, rest, hp, hr => by
    obtain ⟨h1, h2⟩ := hp
    simp only [List.map_cons, List.sum_cons] at hr
    simp only [List.zipIdx_cons, List.map_cons]
    unfold Instr.fill
    simp only [h1]
    rw [if_neg (by simp; omega)]
    obtain ⟨g1, g2⟩ := Go.Great.foldl_set pre.length v.cells.toList 0 (pre ++ rest).toArray
    have hll : v.cells.toList.length = v.cells.size := Array.length_toList ..
    generalize hl : v.cells.toList = l at *
    have e : (l.zipIdx 0).foldl (fun cs (x : Value × Nat) => cs.setIfInBounds (pre.length + x.2) x.1) (pre ++ rest).toArray = ((pre ++ l) ++ rest.drop v.cells.size).toArray := by
      apply Array.ext_getElem?
      intro k
      rw [g2 k]
      simp only [Nat.add_zero, List.size_toArray, List.length_append, List.getElem?_toArray]
      by_cases hk : pre.length ≤ k ∧ k < pre.length + l.length ∧ k < pre.length + rest.length
      · rw [if_pos hk, List.append_assoc, List.getElem?_append_right hk.1, List.getElem?_append_left (by omega)]
      · rw [if_neg hk]
        by_cases hk1 : k < pre.length
        · rw [List.getElem?_append_left hk1, List.append_assoc, List.getElem?_append_left hk1]
        · rw [List.getElem?_append_right (by omega), List.getElem?_append_right (by rw [List.length_append]; omega), List.length_append, List.getElem?_drop]
          congr 1
          omega
    have hfold : Array.foldl (fun cs (x : Value × Nat) => cs.setIfInBounds (pre.length + x.2) x.1) (pre ++ rest).toArray v.cells.zipIdx = ((pre ++ l) ++ rest.drop v.cells.size).toArray := by
      rw [← e, ← Array.foldl_toList, Array.toList_zipIdx, hl]
    rw [hfold]
    have ih := fill_seq fn vs (i + 1) (pre ++ l) (rest.drop v.cells.size) (by rw [List.length_append, hll]; exact h2) (by rw [List.length_drop]; omega)
    rw [ih]
    simp [hl]
section
variable {P : Program}
theorem built_struct {t : TypeId} {fs : Array Field} {places : List (Nat × Nat)} {n : Nat} (hz : (P.info? t).map (fun i => i.zero.map (·.cells.size)) = some (some n)) (hu : P.underlying t = some (.struct fs)) (hp : fs.toList.mapM (fun f => (P.info? f.type).map fun i => (f.offset, i.size)) = some places)
    (vs : List Value) (hpl : placed (places.toArray[·]?) 0 0 vs) (hn : (vs.map (·.cells.size)).sum = n) : P.built t ((vs.zipIdx 0).map fun x => (x.2, x.1)) = some (vs.flatMap (·.cells.toList)).toArray := by
  obtain ⟨it, hit, h2⟩ := Option.map_eq_some_iff.1 hz
  obtain ⟨z, hz1, hz2⟩ := Option.map_eq_some_iff.1 h2
  unfold Program.built
  simp only [hit, hu, hz1, hp]
  have h := fill_seq (fun i => places.toArray[i]?) vs 0 [] z.cells.toList hpl (by rw [Array.length_toList, hz2, hn])
  simpa using h
/-- A slice of one struct. -/
theorem slice_one {t e : TypeId} {size bytes : Nat} (ht : P.underlying t = some (.slice e)) (hi : (P.info? e).map (fun i => (i.zero.map (·.cells.size), i.size, i.bytes)) = some (some size, size, bytes)) (hs : 0 < size) (hs2 : size ≤ 10000) (R : Array Value) (hR : R.size = size) (W : World) :
    (Instr.buildSlice t 1 #[(0, .agg R)]).run P W = .ok (.slice (some ⟨W.heap.size, 0, none⟩) 1 1) (W.alloc (.cells R e)) := by
  obtain ⟨ie, hie, h2⟩ := Option.map_eq_some_iff.1 hi
  simp only [Prod.mk.injEq] at h2
  obtain ⟨hz, hs1, hb⟩ := h2
  obtain ⟨z, hz1, hz2⟩ := Option.map_eq_some_iff.1 hz
  refine run_buildSlice W _ _ 1 _ R ie z ht hie hz1 (by rw [hs1]; omega) (by rw [hs1]; omega) ?_
  have h := Go.Great.fill_whole (s := size) hs [.agg R] ((Array.range (1 * ie.size)).map (z.cells[· % z.cells.size]!)) (by simp [Value.cells, hR]) (by simp [hs1])
  simpa [hs1, Value.cells] using h
variable {ops : Array Oper} {rest : List Oper} {K : Act → World → Prop} {Q : Exit → Act → World → Prop} {o : Oper} {a : Act} {w : World}
theorem wpK_buildV (t : TypeId) (ps : List (Nat × Operand)) (ho : o.op = .build t ps.toArray) (vs : List (Nat × Value)) (hv : (ps.map fun x => (x.1, a.eval x.2)) = vs) (R : Value) (h : (Instr.build t vs.toArray).run P w = .ok R w) (hK : K (a.put o.dst R) w) : o.wp P a w K Q := by
  unfold Oper.wp execOp
  simp only [ho, Sem.run_bind, Sem.run_pure, Result.andThen_ok, List.map_toArray, hv, h]
  exact hK
theorem wpList_buildV (hgd : o.guard = none) (t : TypeId) (ps : List (Nat × Operand)) (ho : o.op = .build t ps.toArray) (vs : List (Nat × Value)) (hv : (ps.map fun x => (x.1, a.eval x.2)) = vs) (R : Value) (h : (Instr.build t vs.toArray).run P w = .ok R w) (hK : wpList P ops Q rest (a.put o.dst R) w) : wpList P ops Q (o :: rest) a w := by
  refine wpList_plain hgd fun K' hK' => ?_
  exact wpK_buildV t ps ho vs hv R h (hK' _ _ hK)
theorem wpK_buildS (t : TypeId) (n : Nat) (ps : List (Nat × Operand)) (ho : o.op = .buildSlice t n ps.toArray) (vs : List (Nat × Value)) (hv : (ps.map fun x => (x.1, a.eval x.2)) = vs) (R : Value) (w' : World) (h : (Instr.buildSlice t n vs.toArray).run P w = .ok R w') (hK : K (a.put o.dst R) w') : o.wp P a w K Q := by
  unfold Oper.wp execOp
  simp only [ho, Sem.run_bind, Sem.run_pure, Result.andThen_ok, List.map_toArray, hv, h]
  exact hK
theorem wpList_buildS (hgd : o.guard = none) (t : TypeId) (n : Nat) (ps : List (Nat × Operand)) (ho : o.op = .buildSlice t n ps.toArray) (vs : List (Nat × Value)) (hv : (ps.map fun x => (x.1, a.eval x.2)) = vs) (R : Value) (w' : World) (h : (Instr.buildSlice t n vs.toArray).run P w = .ok R w') (hK : wpList P ops Q rest (a.put o.dst R) w') : wpList P ops Q (o :: rest) a w := by
  refine wpList_plain hgd fun K' hK' => ?_
  exact wpK_buildS t n ps ho vs hv R w' h (hK' _ _ hK)
end
end Go.Proofs.YtahnicbokdbjdaaDoor
/- baileelaw20.Of: a record as the document's. -/
namespace Go.Proofs.YtahnicbokdbjdaaDoor
open Go.RowKit

theorem rangeAt_sub {w : World} {b : Nat} {C : Array Value} {t : TypeId} {fz : Nat × Nat} (hb : w.heap[b]? = some (.cells C t fz)) {o n : Nat} {B : List Value} (h : (C.toList.drop o).take n = B) : w.rangeAt b o B := fun j v hv => by
  rw [cell_of_block hb]
  rw [← h, List.getElem?_take] at hv
  split at hv
  · rw [List.getElem?_drop, Array.getElem?_toList] at hv
    exact hv
  · cases hv
def Rc.vals (x : Rc) : List Value := [.int .i64 x.kind, .int .i64 x.obj, .int .i64 x.id, .string x.name, .agg x.p.list.toArray, .agg (cB x.root).toArray, .agg (cB x.file).toArray, .int .i64 x.way, .int .i64 x.index, .int .i64 x.verdict, .int .i64 x.tick]
theorem Rc.vals_flat (x : Rc) : x.vals.flatMap (·.cells.toList) = x.list := by simp [Rc.vals, Value.cells, Rc.list]
theorem P6.list_len (p : P6) : p.list.length = 6 := rfl
theorem build_rcR (x : Rc) (hx : x.Ok) (W : World) : (Instr.build 34 #[(0, .int .i64 x.kind), (1, .int .i64 x.obj), (2, .int .i64 x.id), (3, .string x.name), (4, .agg x.p.list.toArray), (5, .agg (cB x.root).toArray), (6, .agg (cB x.file).toArray), (7, .int .i64 x.way), (8, .int .i64 x.index), (9, .int .i64 x.verdict), (10, .int .i64 x.tick)]).run Tryd.prog W = .ok (.agg x.list.toArray) W := by
  refine run_build W _ _ _ ?_
  rw [← Rc.vals_flat]
  exact built_struct (P := Tryd.prog) (t := 34) (n := 78) (places := [(0, 1), (1, 1), (2, 1), (3, 1), (4, 6), (10, 32), (42, 32), (74, 1), (75, 1), (76, 1), (77, 1)]) (by kernel_rfl) Tryd.underlying34 (by kernel_rfl) x.vals (by simp [placed, Rc.vals, Value.cells, P6.list_len, cB_length, hx.root, hx.file]) (by simp [Rc.vals, Value.cells, P6.list_len, cB_length, hx.root, hx.file])

set_option maxRecDepth 100000 in
set_option maxHeartbeats 1000000 in
theorem of20_any (x : Rc) (hx : x.Ok) (w : World) : Calls Tryd.prog 9 #[.agg x.list.toArray] w fun e w' => e = .returned (.agg x.list.toArray) ∧ Below w.heap.size w w' := by
  have hs := Rc.size hx
  have r0 := Rc.at0 x
  have r1 := Rc.at1 x
  have r2 := Rc.at2 x
  have r3 := Rc.at3 x
  have r74 := Rc.at74 hx
  have r75 := Rc.at75 hx
  have r76 := Rc.at76 hx
  have r77 := Rc.at77 hx
  have hbd := fun W => build_rcR x hx W
  have s4 : ((x.list.toArray).toList.drop 4).take 6 = x.p.list := Rc.sub_p x
  have s5 : ((x.list.toArray).toList.drop 10).take 32 = cB x.root := Rc.sub_root hx.root
  have s6 : ((x.list.toArray).toList.drop 42).take 32 = cB x.file := Rc.sub_file hx.root hx.file
  have i4 : (Tryd.prog.info? 27).map (·.size) = some x.p.list.length := by rw [P6.len]; kernel_rfl
  have i5 : (Tryd.prog.info? 29).map (·.size) = some (cB x.root).length := by rw [cB_length, hx.root]; kernel_rfl
  have i6 : (Tryd.prog.info? 29).map (·.size) = some (cB x.file).length := by rw [cB_length, hx.file]; kernel_rfl
  have i8 : (Tryd.prog.info? 34).map (·.size) = some x.list.toArray.size := by rw [hs]; kernel_rfl
  have z8 : (Tryd.zeroCells34).size = x.list.toArray.size := by rw [hs]; kernel_rfl
  have hVo := Rc.all_one x
  have hup := Tryd.underlying27
  have hud := Tryd.underlying29
  have hu8 := Tryd.underlying34
  obtain ⟨PP, hPP⟩ : ∃ PP, PP = x.p.list.toArray := ⟨_, rfl⟩
  obtain ⟨DD, hDD⟩ : ∃ DD, DD = (cB x.root).toArray := ⟨_, rfl⟩
  obtain ⟨EE, hEE⟩ : ∃ EE, EE = (cB x.file).toArray := ⟨_, rfl⟩
  rw [← hPP, ← hDD, ← hEE] at hbd
  generalize hR : x.list.toArray = R at *
  have hX3 : Hid (((w.alloc (.cells R 31)).alloc (.cells Tryd.zeroCells34 34)).heap[w.heap.size]? = some (.cells R 31 (0, 0))) := Lib.hid (by
    rw [heapA9, if_neg (by simp), heapA9, if_pos rfl])
  have hZ3 : Hid (((w.alloc (.cells R 31)).alloc (.cells Tryd.zeroCells34 34)).heap[w.heap.size + 1]? = some (.cells Tryd.zeroCells34 34 (0, 0))) := Lib.hid (by
    rw [heapA9, if_pos (by simp)])
  have hb : Hid (Below w.heap.size w ((w.alloc (.cells R 31)).alloc (.cells Tryd.zeroCells34 34))) := Lib.hid (((Below.refl _ _).alloc (Nat.le_refl _) _).alloc (by simp) _)
  have hr4 := Lib.hid (rangeAt_sub hX3.out s4)
  have hr5 := Lib.hid (rangeAt_sub hX3.out s5)
  have hr6 := Lib.hid (rangeAt_sub hX3.out s6)
  replace hPP := Lib.hid hPP
  replace hDD := Lib.hid hDD
  replace hEE := Lib.hid hEE
  replace hbd := Lib.hid hbd
  clear s4 s5 s6 hR hX3
  generalize x.p.list = lp at *
  generalize cB x.root = lr at *
  generalize cB x.file = lf at *
  generalize x.kind = v0 at *
  generalize x.obj = v1 at *
  generalize x.id = v2 at *
  generalize x.name = v3 at *
  generalize x.way = v7 at *
  generalize x.index = v8 at *
  generalize x.verdict = v9 at *
  generalize x.tick = v10 at *
  clear hx
  go_enter Tryd.func9, Tryd.ntmps9
  go_wp2_with (first
    | ((with_reducible show wpList _ _ _ (Oper.mk _ (Op.load 27 (.tmp 11)) _ _ _ _ :: _) _ _); refine wpList_load_mid rfl 27 (.tmp 11) rfl w.heap.size 4 rfl lp _ hr4.out hup rfl i4 ?_; rw [← hPP.out])
    | ((with_reducible show wpList _ _ _ (Oper.mk _ (Op.load 29 (.tmp 13)) _ _ _ _ :: _) _ _); refine wpList_load_mid rfl 29 (.tmp 13) rfl w.heap.size 10 rfl lr _ hr5.out hud rfl i5 ?_; rw [← hDD.out])
    | ((with_reducible show wpList _ _ _ (Oper.mk _ (Op.load 29 (.tmp 15)) _ _ _ _ :: _) _ _); refine wpList_load_mid rfl 29 (.tmp 15) rfl w.heap.size 42 rfl lf _ hr6.out hud rfl i6 ?_; rw [← hEE.out])
    | ((with_reducible show wpList _ _ _ (Oper.mk _ (Op.build 34 _) _ _ _ _ :: _) _ _); refine wpList_buildV rfl 34 [(0, .tmp 4), (1, .tmp 6), (2, .tmp 8), (3, .tmp 10), (4, .tmp 12), (5, .tmp 14), (6, .tmp 16), (7, .tmp 18), (8, .tmp 20), (9, .tmp 22), (10, .tmp 24)] rfl [(0, .int .i64 v0), (1, .int .i64 v1), (2, .int .i64 v2), (3, .string v3), (4, .agg PP), (5, .agg DD), (6, .agg EE), (7, .int .i64 v7), (8, .int .i64 v8), (9, .int .i64 v9), (10, .int .i64 v10)] rfl _ (hbd.out _) ?_)
    | ((with_reducible show wpList _ _ _ (Oper.mk _ (Op.store 34 (.tmp 2) _) _ _ _ _ :: _) _ _); (refine wpList_store_row rfl 34 (.tmp 2) (.tmp 25) rfl (w.heap.size + 1) _ R rfl rfl hZ3 i8 z8 hVo ?_); intro w8 hU8))
  exact ret_cell_row rfl rfl hu8 rfl i8 hU8.out.here ⟨rfl, hb.out.trans (hU8.out.below (Nat.le_succ _))⟩
end Go.Proofs.YtahnicbokdbjdaaDoor
/- A frame: only some blocks changed. Of whatever program. -/
namespace Go.Proofs.YtahnicbokdbjdaaDoor
open Go.RowKit

/-- Of the blocks that were there only those of D may have changed. -/
structure Only (D : Nat → Prop) (w w' : World) : Prop where
  os : w'.os = w.os
  tape : w'.tape = w.tape
  output : w'.output = w.output
  size : w.heap.size ≤ w'.heap.size
  block : ∀ k, k < w.heap.size → ¬ D k → w'.heap[k]? = w.heap[k]?
theorem Only.refl (D : Nat → Prop) (w : World) : Only D w w := ⟨rfl, rfl, rfl, Nat.le_refl _, fun _ _ _ => rfl⟩
theorem Only.mono {D E : Nat → Prop} {w w' : World} (h : Only D w w') (hd : ∀ k, k < w.heap.size → D k → E k) : Only E w w' :=
  ⟨h.os, h.tape, h.output, h.size, fun k hk hn => h.block k hk fun hD => hn (hd k hk hD)⟩
theorem Only.trans {D E : Nat → Prop} {a b c : World} (h : Only D a b) (h' : Only E b c) (hd : ∀ k, k < a.heap.size → E k → D k) : Only D a c :=
  ⟨h'.os.trans h.os, h'.tape.trans h.tape, h'.output.trans h.output, Nat.le_trans h.size h'.size, fun k hk hn => (h'.block k (Nat.lt_of_lt_of_le hk h.size) fun hE => hn (hd k hk hE)).trans (h.block k hk hn)⟩
theorem Only.ofBelow {D : Nat → Prop} {w w' : World} (h : Below w.heap.size w w') : Only D w w' :=
  ⟨h.os, h.tape, h.output, h.size, fun k hk _ => h.block k hk⟩
theorem Only.ofGrown {D : Nat → Prop} {w w' : World} {row : Option Nat} (h : w.grownBy w' row) (hd : ∀ k, row = some k → D k) : Only D w w' :=
  ⟨h.os, h.tape, h.output, h.size, fun k hk hn => h.block k hk fun e => hn (hd k e.symm)⟩
theorem Only.ofUpd {D : Nat → Prop} {b : Nat} {o : Obj} {w w' : World} (h : Upd b o w w') (hd : D b) : Only D w w' :=
  ⟨h.os, h.tape, h.output, Nat.le_of_eq h.size.symm, fun k _ hn => h.block k fun e => hn (e ▸ hd)⟩
theorem Only.ofDrawn {D : Nat → Prop} {w w' : World} (h : Drawn w w') : Only D w w' := Only.ofBelow (h.below _)
theorem Only.drew {D : Nat → Prop} {w w' : World} (h : Only D w w') : Only D w w'.drew := ⟨h.os, h.tape, h.output, h.size, h.block⟩
theorem Only.drewN {D : Nat → Prop} {w w' : World} (h : Only D w w') (n : Nat) : Only D w (w'.drewN n) := h.trans (Only.ofDrawn (D := D) ⟨n, rfl⟩) fun _ _ h => h
theorem Only.alloc {D : Nat → Prop} {w w' : World} (h : Only D w w') (o : Obj) : Only D w (w'.alloc o) :=
  h.trans (Only.ofBelow (D := D) (Below.alloc (Below.refl _ _) (Nat.le_refl _) o)) fun _ _ h => h
theorem Only.setCell {D : Nat → Prop} {w w' : World} (h : Only D w w') (a : Addr) (u : Value) (hd : a.block < w.heap.size → D a.block) : Only D w (w'.setCell a u) :=
  ⟨h.os, h.tape, h.output, by simpa [World.setCell] using h.size, fun k hk hn => (Below.heap_setCell _ _ _ _ (by rintro rfl; exact hn (hd hk))).trans (h.block k hk hn)⟩
/-- Where all that may change lies from B on. -/
theorem Only.below {D : Nat → Prop} {w w' : World} {B : Nat} (h : Only D w w') (hB : B ≤ w.heap.size) (hd : ∀ k, D k → B ≤ k) : Below B w w' :=
  ⟨h.os, h.tape, h.output, h.size, fun k hk => h.block k (by omega) fun hD => by have := hd k hD; omega⟩
theorem Only.owns {D : Nat → Prop} {w w' : World} {base : Nat} {e : TypeId} {s n : Nat} {v : Value} {xs : List Value} (h : Only D w w') (ho : w.ownsRow base e s v n xs) (hd : ∀ k, v.ownBlock = some k → ¬ D k) : w'.ownsRow base e s v n xs := by
  refine ⟨ho.1, ?_⟩
  rcases ho.2 with h2 | ⟨g, cap, cur, e1, e2, e3, e4⟩
  · exact .inl h2
  · subst e1
    exact .inr ⟨g, cap, cur, rfl, e2, (h.block g (block_lt e3) (hd g rfl)).trans e3, e4⟩
theorem Only.heap {D : Nat → Prop} {w w' : World} {b : Nat} {o : Obj} (h : Only D w w') (hb : w.heap[b]? = some o) (hd : ¬ D b) : w'.heap[b]? = some o := (h.block b (block_lt hb) hd).trans hb
theorem Only.argB {D : Nat → Prop} {w w' : World} {a : Option Addr} {cap : Nat} {bs : List UInt8} (h : Only D w w') (ha : ArgB w a cap bs) (hd : ∀ b o, a = some ⟨b, o, none⟩ → ¬ D b) : ArgB w' a cap bs := by
  refine ⟨ha.len, ha.most, ha.nil, fun i hi => ?_⟩
  obtain ⟨b, o, rfl, hc⟩ := ha.row i hi
  have hlt : b < w.heap.size := World.block_lt_of_cell? w _ hc
  exact ⟨b, o, rfl, (World.cell?_of_block (w := w) (w' := w') (a := ⟨b, o + i, none⟩) (h.block b hlt (hd b o rfl))).trans hc⟩
theorem owns_mono {w : World} {base base' : Nat} {e : TypeId} {s n : Nat} {v : Value} {xs : List Value} (ho : w.ownsRow base e s v n xs) (hb : base' ≤ base) : w.ownsRow base' e s v n xs := by
  refine ⟨ho.1, ?_⟩
  rcases ho.2 with h2 | ⟨g, cap, cur, e1, e2, e3⟩
  · exact .inl h2
  · exact .inr ⟨g, cap, cur, e1, by omega, e3⟩

end Go.Proofs.YtahnicbokdbjdaaDoor
