/- baileeref20.Check for records of kind 3: which error. Printed by genrchk.py. -/
import Derived.Test.YtahnicbokdbjdaaDoorF18ParsSaid20
namespace Go.Proofs.YtahnicbokdbjdaaDoor
open Go.RowKit
set_option linter.unusedVariables false

set_option maxRecDepth 100000 in
set_option maxHeartbeats 1000000 in
theorem rchk3_o (w : World) (R LP LR LF : Array Value) (lp lr lf : List Value) (v1 v2 v7 v8 v9 v10 : Int) (v3 : ByteArray) (L : Int) (hL : (v3.size : Int) = L) (bp br bf lb : Bool) (hs : R.size = 78) (hF : RcF R lp lr lf 3 v1 v2 v3 v7 v8 v9 v10)
    (hP : Hid (LP = lp.toArray)) (hD : Hid (LR = lr.toArray)) (hE : Hid (LF = lf.toArray)) (i4 : (Tryd.prog.info? 32).map (·.size) = some lp.length) (i5 : (Tryd.prog.info? 28).map (·.size) = some lr.length) (i6 : (Tryd.prog.info? 28).map (·.size) = some lf.length)
    (hbp : ∀ W, (binOp .neq 32 (.agg LP) (.agg #[.int .i64 0, .int .i64 0, .int .i64 0, .int .i64 0, .int .i64 0, .int .i64 0])).run Tryd.prog W = .ok (.bool bp) W) (hbr : ∀ W, (binOp .neq 28 (.agg LR) (.agg z32a)).run Tryd.prog W = .ok (.bool br) W) (hbf : ∀ W, (binOp .neq 28 (.agg LF) (.agg z32a)).run Tryd.prog W = .ok (.bool bf) W)
    (hlab : Hid (∀ W, Calls Tryd.prog 38 #[.string v3] W fun e w2 => e = .returned (.bool lb) ∧ W = w2)) (h_o : (inB v1 0 1099511627776) = false) :
    Calls Tryd.prog 22 #[.agg R] w fun e w2 => e = .returned (.int .i64 1) ∧ Below w.heap.size w w2 := by
  have hud := Tryd.underlying28
  have hup := Tryd.underlying32
  have i32 : (Tryd.prog.info? 28).map (·.size) = some z32a.toList.length := by kernel_rfl
  have i32a : (Tryd.prog.info? 28).map (·.size) = some z32a.size := by kernel_rfl
  have o32 : z32a.all (·.oneCell') = true := by kernel_rfl
  have hrow0 := Lib.hid (heap_alloc_new w (.cells R 34))
  have hb0 := Lib.hid (show Below w.heap.size w (w.alloc (.cells R 34)) from (Below.refl _ _).alloc (Nat.le_refl _) _)
  have hZ2 := Lib.hid (show ((w.alloc (.cells R 34)).alloc (.cells z32a 28)).heap[w.heap.size + 1]? = some (.cells z32a 28 (0, 0)) from by rw [heapA9, if_pos (by simp)])
  obtain ⟨c0, c1, c2, c3, c74, c75, c76, c77, hr4, hr5, hr6⟩ := hF hrow0.out
  go_enter Tryd.func22, Tryd.ntmps22
  go_wp2_with (first
    | ((with_reducible show wpList _ _ _ (Oper.mk _ (Op.load 32 _) _ _ _ _ :: _) _ _); first | refine wpList_load_midA rfl 32 (.tmp 86) rfl w.heap.size 4 rfl lp _ hr4.out hup rfl i4 LP hP ?_ | refine wpList_load_midG rfl 32 (.tmp 119) rfl w.heap.size 4 rfl lp _ hr4.out hup rfl i4 LP hP ?_)
    | ((with_reducible show wpList _ _ _ (Oper.mk _ (Op.load 28 (.tmp 125)) _ _ _ _ :: _) _ _); refine wpList_load_midG rfl 28 (.tmp 125) rfl w.heap.size 10 rfl lr _ hr5.out hud rfl i5 LR hD ?_)
    | ((with_reducible show wpList _ _ _ (Oper.mk _ (Op.load 28 (.tmp 131)) _ _ _ _ :: _) _ _); refine wpList_load_midG rfl 28 (.tmp 131) rfl w.heap.size 42 rfl lf _ hr6.out hud rfl i6 LF hE ?_)
    | ((with_reducible show wpList _ _ _ (Oper.mk _ (Op.load 28 (.tmp 6)) _ _ _ _ :: _) _ _); refine wpList_load_midG rfl 28 (.tmp 6) rfl (w.heap.size + 1) 0 rfl z32a.toList _ hrz.out hud rfl i32 z32a (Lib.hid rfl) ?_)
    | ((with_reducible show wpList _ _ _ (Oper.mk _ (Op.store 28 (.tmp 6) _) _ _ _ _ :: _) _ _); refine wpList_store_row rfl 28 (.tmp 6) (.tmp 113) rfl (w.heap.size + 1) z32a z32a rfl rfl hZ2 i32a rfl o32 ?_; intro w3 hU3; obtain ⟨hrz, hb3, hrow3, c0, c1, c2, c3, c74, c75, c76, c77, hr4, hr5, hr6⟩ := rc_behind hF hrow0 hb0 hU3))
  repeat (first
    | ((with_reducible refine (big_any v1 _).mono ?_); rintro e w4 ⟨rfl, rfl⟩; go_wp2_with (first
    | ((with_reducible show wpList _ _ _ (Oper.mk _ (Op.load 32 _) _ _ _ _ :: _) _ _); first | refine wpList_load_midA rfl 32 (.tmp 86) rfl w.heap.size 4 rfl lp _ hr4.out hup rfl i4 LP hP ?_ | refine wpList_load_midG rfl 32 (.tmp 119) rfl w.heap.size 4 rfl lp _ hr4.out hup rfl i4 LP hP ?_)
    | ((with_reducible show wpList _ _ _ (Oper.mk _ (Op.load 28 (.tmp 125)) _ _ _ _ :: _) _ _); refine wpList_load_midG rfl 28 (.tmp 125) rfl w.heap.size 10 rfl lr _ hr5.out hud rfl i5 LR hD ?_)
    | ((with_reducible show wpList _ _ _ (Oper.mk _ (Op.load 28 (.tmp 131)) _ _ _ _ :: _) _ _); refine wpList_load_midG rfl 28 (.tmp 131) rfl w.heap.size 42 rfl lf _ hr6.out hud rfl i6 LF hE ?_)
    | ((with_reducible show wpList _ _ _ (Oper.mk _ (Op.load 28 (.tmp 6)) _ _ _ _ :: _) _ _); refine wpList_load_midG rfl 28 (.tmp 6) rfl (w.heap.size + 1) 0 rfl z32a.toList _ hrz.out hud rfl i32 z32a (Lib.hid rfl) ?_)
    | ((with_reducible show wpList _ _ _ (Oper.mk _ (Op.store 28 (.tmp 6) _) _ _ _ _ :: _) _ _); refine wpList_store_row rfl 28 (.tmp 6) (.tmp 113) rfl (w.heap.size + 1) z32a z32a rfl rfl hZ2 i32a rfl o32 ?_; intro w3 hU3; obtain ⟨hrz, hb3, hrow3, c0, c1, c2, c3, c74, c75, c76, c77, hr4, hr5, hr6⟩ := rc_behind hF hrow0 hb0 hU3)))
    | ((with_reducible refine (big_any v10 _).mono ?_); rintro e w4 ⟨rfl, rfl⟩; go_wp2_with (first
    | ((with_reducible show wpList _ _ _ (Oper.mk _ (Op.load 32 _) _ _ _ _ :: _) _ _); first | refine wpList_load_midA rfl 32 (.tmp 86) rfl w.heap.size 4 rfl lp _ hr4.out hup rfl i4 LP hP ?_ | refine wpList_load_midG rfl 32 (.tmp 119) rfl w.heap.size 4 rfl lp _ hr4.out hup rfl i4 LP hP ?_)
    | ((with_reducible show wpList _ _ _ (Oper.mk _ (Op.load 28 (.tmp 125)) _ _ _ _ :: _) _ _); refine wpList_load_midG rfl 28 (.tmp 125) rfl w.heap.size 10 rfl lr _ hr5.out hud rfl i5 LR hD ?_)
    | ((with_reducible show wpList _ _ _ (Oper.mk _ (Op.load 28 (.tmp 131)) _ _ _ _ :: _) _ _); refine wpList_load_midG rfl 28 (.tmp 131) rfl w.heap.size 42 rfl lf _ hr6.out hud rfl i6 LF hE ?_)
    | ((with_reducible show wpList _ _ _ (Oper.mk _ (Op.load 28 (.tmp 6)) _ _ _ _ :: _) _ _); refine wpList_load_midG rfl 28 (.tmp 6) rfl (w.heap.size + 1) 0 rfl z32a.toList _ hrz.out hud rfl i32 z32a (Lib.hid rfl) ?_)
    | ((with_reducible show wpList _ _ _ (Oper.mk _ (Op.store 28 (.tmp 6) _) _ _ _ _ :: _) _ _); refine wpList_store_row rfl 28 (.tmp 6) (.tmp 113) rfl (w.heap.size + 1) z32a z32a rfl rfl hZ2 i32a rfl o32 ?_; intro w3 hU3; obtain ⟨hrz, hb3, hrow3, c0, c1, c2, c3, c74, c75, c76, c77, hr4, hr5, hr6⟩ := rc_behind hF hrow0 hb0 hU3)))
    | ((with_reducible refine (big_any v2 _).mono ?_); rintro e w4 ⟨rfl, rfl⟩; go_wp2_with (first
    | ((with_reducible show wpList _ _ _ (Oper.mk _ (Op.load 32 _) _ _ _ _ :: _) _ _); first | refine wpList_load_midA rfl 32 (.tmp 86) rfl w.heap.size 4 rfl lp _ hr4.out hup rfl i4 LP hP ?_ | refine wpList_load_midG rfl 32 (.tmp 119) rfl w.heap.size 4 rfl lp _ hr4.out hup rfl i4 LP hP ?_)
    | ((with_reducible show wpList _ _ _ (Oper.mk _ (Op.load 28 (.tmp 125)) _ _ _ _ :: _) _ _); refine wpList_load_midG rfl 28 (.tmp 125) rfl w.heap.size 10 rfl lr _ hr5.out hud rfl i5 LR hD ?_)
    | ((with_reducible show wpList _ _ _ (Oper.mk _ (Op.load 28 (.tmp 131)) _ _ _ _ :: _) _ _); refine wpList_load_midG rfl 28 (.tmp 131) rfl w.heap.size 42 rfl lf _ hr6.out hud rfl i6 LF hE ?_)
    | ((with_reducible show wpList _ _ _ (Oper.mk _ (Op.load 28 (.tmp 6)) _ _ _ _ :: _) _ _); refine wpList_load_midG rfl 28 (.tmp 6) rfl (w.heap.size + 1) 0 rfl z32a.toList _ hrz.out hud rfl i32 z32a (Lib.hid rfl) ?_)
    | ((with_reducible show wpList _ _ _ (Oper.mk _ (Op.store 28 (.tmp 6) _) _ _ _ _ :: _) _ _); refine wpList_store_row rfl 28 (.tmp 6) (.tmp 113) rfl (w.heap.size + 1) z32a z32a rfl rfl hZ2 i32a rfl o32 ?_; intro w3 hU3; obtain ⟨hrz, hb3, hrow3, c0, c1, c2, c3, c74, c75, c76, c77, hr4, hr5, hr6⟩ := rc_behind hF hrow0 hb0 hU3))))
  go_ret
  exact ⟨rfl, hb0.out⟩

set_option maxRecDepth 100000 in
set_option maxHeartbeats 1000000 in
theorem rchk3_t (w : World) (R LP LR LF : Array Value) (lp lr lf : List Value) (v1 v2 v7 v8 v9 v10 : Int) (v3 : ByteArray) (L : Int) (hL : (v3.size : Int) = L) (bp br bf lb : Bool) (hs : R.size = 78) (hF : RcF R lp lr lf 3 v1 v2 v3 v7 v8 v9 v10)
    (hP : Hid (LP = lp.toArray)) (hD : Hid (LR = lr.toArray)) (hE : Hid (LF = lf.toArray)) (i4 : (Tryd.prog.info? 32).map (·.size) = some lp.length) (i5 : (Tryd.prog.info? 28).map (·.size) = some lr.length) (i6 : (Tryd.prog.info? 28).map (·.size) = some lf.length)
    (hbp : ∀ W, (binOp .neq 32 (.agg LP) (.agg #[.int .i64 0, .int .i64 0, .int .i64 0, .int .i64 0, .int .i64 0, .int .i64 0])).run Tryd.prog W = .ok (.bool bp) W) (hbr : ∀ W, (binOp .neq 28 (.agg LR) (.agg z32a)).run Tryd.prog W = .ok (.bool br) W) (hbf : ∀ W, (binOp .neq 28 (.agg LF) (.agg z32a)).run Tryd.prog W = .ok (.bool bf) W)
    (hlab : Hid (∀ W, Calls Tryd.prog 38 #[.string v3] W fun e w2 => e = .returned (.bool lb) ∧ W = w2)) (h_o : (inB v1 0 1099511627776) = true) (h_t : (inB v10 0 1099511627776) = false) :
    Calls Tryd.prog 22 #[.agg R] w fun e w2 => e = .returned (.int .i64 1) ∧ Below w.heap.size w w2 := by
  have hud := Tryd.underlying28
  have hup := Tryd.underlying32
  have i32 : (Tryd.prog.info? 28).map (·.size) = some z32a.toList.length := by kernel_rfl
  have i32a : (Tryd.prog.info? 28).map (·.size) = some z32a.size := by kernel_rfl
  have o32 : z32a.all (·.oneCell') = true := by kernel_rfl
  have hrow0 := Lib.hid (heap_alloc_new w (.cells R 34))
  have hb0 := Lib.hid (show Below w.heap.size w (w.alloc (.cells R 34)) from (Below.refl _ _).alloc (Nat.le_refl _) _)
  have hZ2 := Lib.hid (show ((w.alloc (.cells R 34)).alloc (.cells z32a 28)).heap[w.heap.size + 1]? = some (.cells z32a 28 (0, 0)) from by rw [heapA9, if_pos (by simp)])
  obtain ⟨c0, c1, c2, c3, c74, c75, c76, c77, hr4, hr5, hr6⟩ := hF hrow0.out
  go_enter Tryd.func22, Tryd.ntmps22
  go_wp2_with (first
    | ((with_reducible show wpList _ _ _ (Oper.mk _ (Op.load 32 _) _ _ _ _ :: _) _ _); first | refine wpList_load_midA rfl 32 (.tmp 86) rfl w.heap.size 4 rfl lp _ hr4.out hup rfl i4 LP hP ?_ | refine wpList_load_midG rfl 32 (.tmp 119) rfl w.heap.size 4 rfl lp _ hr4.out hup rfl i4 LP hP ?_)
    | ((with_reducible show wpList _ _ _ (Oper.mk _ (Op.load 28 (.tmp 125)) _ _ _ _ :: _) _ _); refine wpList_load_midG rfl 28 (.tmp 125) rfl w.heap.size 10 rfl lr _ hr5.out hud rfl i5 LR hD ?_)
    | ((with_reducible show wpList _ _ _ (Oper.mk _ (Op.load 28 (.tmp 131)) _ _ _ _ :: _) _ _); refine wpList_load_midG rfl 28 (.tmp 131) rfl w.heap.size 42 rfl lf _ hr6.out hud rfl i6 LF hE ?_)
    | ((with_reducible show wpList _ _ _ (Oper.mk _ (Op.load 28 (.tmp 6)) _ _ _ _ :: _) _ _); refine wpList_load_midG rfl 28 (.tmp 6) rfl (w.heap.size + 1) 0 rfl z32a.toList _ hrz.out hud rfl i32 z32a (Lib.hid rfl) ?_)
    | ((with_reducible show wpList _ _ _ (Oper.mk _ (Op.store 28 (.tmp 6) _) _ _ _ _ :: _) _ _); refine wpList_store_row rfl 28 (.tmp 6) (.tmp 113) rfl (w.heap.size + 1) z32a z32a rfl rfl hZ2 i32a rfl o32 ?_; intro w3 hU3; obtain ⟨hrz, hb3, hrow3, c0, c1, c2, c3, c74, c75, c76, c77, hr4, hr5, hr6⟩ := rc_behind hF hrow0 hb0 hU3))
  repeat (first
    | ((with_reducible refine (big_any v1 _).mono ?_); rintro e w4 ⟨rfl, rfl⟩; go_wp2_with (first
    | ((with_reducible show wpList _ _ _ (Oper.mk _ (Op.load 32 _) _ _ _ _ :: _) _ _); first | refine wpList_load_midA rfl 32 (.tmp 86) rfl w.heap.size 4 rfl lp _ hr4.out hup rfl i4 LP hP ?_ | refine wpList_load_midG rfl 32 (.tmp 119) rfl w.heap.size 4 rfl lp _ hr4.out hup rfl i4 LP hP ?_)
    | ((with_reducible show wpList _ _ _ (Oper.mk _ (Op.load 28 (.tmp 125)) _ _ _ _ :: _) _ _); refine wpList_load_midG rfl 28 (.tmp 125) rfl w.heap.size 10 rfl lr _ hr5.out hud rfl i5 LR hD ?_)
    | ((with_reducible show wpList _ _ _ (Oper.mk _ (Op.load 28 (.tmp 131)) _ _ _ _ :: _) _ _); refine wpList_load_midG rfl 28 (.tmp 131) rfl w.heap.size 42 rfl lf _ hr6.out hud rfl i6 LF hE ?_)
    | ((with_reducible show wpList _ _ _ (Oper.mk _ (Op.load 28 (.tmp 6)) _ _ _ _ :: _) _ _); refine wpList_load_midG rfl 28 (.tmp 6) rfl (w.heap.size + 1) 0 rfl z32a.toList _ hrz.out hud rfl i32 z32a (Lib.hid rfl) ?_)
    | ((with_reducible show wpList _ _ _ (Oper.mk _ (Op.store 28 (.tmp 6) _) _ _ _ _ :: _) _ _); refine wpList_store_row rfl 28 (.tmp 6) (.tmp 113) rfl (w.heap.size + 1) z32a z32a rfl rfl hZ2 i32a rfl o32 ?_; intro w3 hU3; obtain ⟨hrz, hb3, hrow3, c0, c1, c2, c3, c74, c75, c76, c77, hr4, hr5, hr6⟩ := rc_behind hF hrow0 hb0 hU3)))
    | ((with_reducible refine (big_any v10 _).mono ?_); rintro e w4 ⟨rfl, rfl⟩; go_wp2_with (first
    | ((with_reducible show wpList _ _ _ (Oper.mk _ (Op.load 32 _) _ _ _ _ :: _) _ _); first | refine wpList_load_midA rfl 32 (.tmp 86) rfl w.heap.size 4 rfl lp _ hr4.out hup rfl i4 LP hP ?_ | refine wpList_load_midG rfl 32 (.tmp 119) rfl w.heap.size 4 rfl lp _ hr4.out hup rfl i4 LP hP ?_)
    | ((with_reducible show wpList _ _ _ (Oper.mk _ (Op.load 28 (.tmp 125)) _ _ _ _ :: _) _ _); refine wpList_load_midG rfl 28 (.tmp 125) rfl w.heap.size 10 rfl lr _ hr5.out hud rfl i5 LR hD ?_)
    | ((with_reducible show wpList _ _ _ (Oper.mk _ (Op.load 28 (.tmp 131)) _ _ _ _ :: _) _ _); refine wpList_load_midG rfl 28 (.tmp 131) rfl w.heap.size 42 rfl lf _ hr6.out hud rfl i6 LF hE ?_)
    | ((with_reducible show wpList _ _ _ (Oper.mk _ (Op.load 28 (.tmp 6)) _ _ _ _ :: _) _ _); refine wpList_load_midG rfl 28 (.tmp 6) rfl (w.heap.size + 1) 0 rfl z32a.toList _ hrz.out hud rfl i32 z32a (Lib.hid rfl) ?_)
    | ((with_reducible show wpList _ _ _ (Oper.mk _ (Op.store 28 (.tmp 6) _) _ _ _ _ :: _) _ _); refine wpList_store_row rfl 28 (.tmp 6) (.tmp 113) rfl (w.heap.size + 1) z32a z32a rfl rfl hZ2 i32a rfl o32 ?_; intro w3 hU3; obtain ⟨hrz, hb3, hrow3, c0, c1, c2, c3, c74, c75, c76, c77, hr4, hr5, hr6⟩ := rc_behind hF hrow0 hb0 hU3)))
    | ((with_reducible refine (big_any v2 _).mono ?_); rintro e w4 ⟨rfl, rfl⟩; go_wp2_with (first
    | ((with_reducible show wpList _ _ _ (Oper.mk _ (Op.load 32 _) _ _ _ _ :: _) _ _); first | refine wpList_load_midA rfl 32 (.tmp 86) rfl w.heap.size 4 rfl lp _ hr4.out hup rfl i4 LP hP ?_ | refine wpList_load_midG rfl 32 (.tmp 119) rfl w.heap.size 4 rfl lp _ hr4.out hup rfl i4 LP hP ?_)
    | ((with_reducible show wpList _ _ _ (Oper.mk _ (Op.load 28 (.tmp 125)) _ _ _ _ :: _) _ _); refine wpList_load_midG rfl 28 (.tmp 125) rfl w.heap.size 10 rfl lr _ hr5.out hud rfl i5 LR hD ?_)
    | ((with_reducible show wpList _ _ _ (Oper.mk _ (Op.load 28 (.tmp 131)) _ _ _ _ :: _) _ _); refine wpList_load_midG rfl 28 (.tmp 131) rfl w.heap.size 42 rfl lf _ hr6.out hud rfl i6 LF hE ?_)
    | ((with_reducible show wpList _ _ _ (Oper.mk _ (Op.load 28 (.tmp 6)) _ _ _ _ :: _) _ _); refine wpList_load_midG rfl 28 (.tmp 6) rfl (w.heap.size + 1) 0 rfl z32a.toList _ hrz.out hud rfl i32 z32a (Lib.hid rfl) ?_)
    | ((with_reducible show wpList _ _ _ (Oper.mk _ (Op.store 28 (.tmp 6) _) _ _ _ _ :: _) _ _); refine wpList_store_row rfl 28 (.tmp 6) (.tmp 113) rfl (w.heap.size + 1) z32a z32a rfl rfl hZ2 i32a rfl o32 ?_; intro w3 hU3; obtain ⟨hrz, hb3, hrow3, c0, c1, c2, c3, c74, c75, c76, c77, hr4, hr5, hr6⟩ := rc_behind hF hrow0 hb0 hU3))))
  go_ret
  exact ⟨rfl, hb0.out⟩

set_option maxRecDepth 100000 in
set_option maxHeartbeats 1000000 in
theorem rchk3_i (w : World) (R LP LR LF : Array Value) (lp lr lf : List Value) (v1 v2 v7 v8 v9 v10 : Int) (v3 : ByteArray) (L : Int) (hL : (v3.size : Int) = L) (bp br bf lb : Bool) (hs : R.size = 78) (hF : RcF R lp lr lf 3 v1 v2 v3 v7 v8 v9 v10)
    (hP : Hid (LP = lp.toArray)) (hD : Hid (LR = lr.toArray)) (hE : Hid (LF = lf.toArray)) (i4 : (Tryd.prog.info? 32).map (·.size) = some lp.length) (i5 : (Tryd.prog.info? 28).map (·.size) = some lr.length) (i6 : (Tryd.prog.info? 28).map (·.size) = some lf.length)
    (hbp : ∀ W, (binOp .neq 32 (.agg LP) (.agg #[.int .i64 0, .int .i64 0, .int .i64 0, .int .i64 0, .int .i64 0, .int .i64 0])).run Tryd.prog W = .ok (.bool bp) W) (hbr : ∀ W, (binOp .neq 28 (.agg LR) (.agg z32a)).run Tryd.prog W = .ok (.bool br) W) (hbf : ∀ W, (binOp .neq 28 (.agg LF) (.agg z32a)).run Tryd.prog W = .ok (.bool bf) W)
    (hlab : Hid (∀ W, Calls Tryd.prog 38 #[.string v3] W fun e w2 => e = .returned (.bool lb) ∧ W = w2)) (h_o : (inB v1 0 1099511627776) = true) (h_t : (inB v10 0 1099511627776) = true) (h_i : (inB v2 0 1099511627776) = false) :
    Calls Tryd.prog 22 #[.agg R] w fun e w2 => e = .returned (.int .i64 1) ∧ Below w.heap.size w w2 := by
  have hud := Tryd.underlying28
  have hup := Tryd.underlying32
  have i32 : (Tryd.prog.info? 28).map (·.size) = some z32a.toList.length := by kernel_rfl
  have i32a : (Tryd.prog.info? 28).map (·.size) = some z32a.size := by kernel_rfl
  have o32 : z32a.all (·.oneCell') = true := by kernel_rfl
  have hrow0 := Lib.hid (heap_alloc_new w (.cells R 34))
  have hb0 := Lib.hid (show Below w.heap.size w (w.alloc (.cells R 34)) from (Below.refl _ _).alloc (Nat.le_refl _) _)
  have hZ2 := Lib.hid (show ((w.alloc (.cells R 34)).alloc (.cells z32a 28)).heap[w.heap.size + 1]? = some (.cells z32a 28 (0, 0)) from by rw [heapA9, if_pos (by simp)])
  obtain ⟨c0, c1, c2, c3, c74, c75, c76, c77, hr4, hr5, hr6⟩ := hF hrow0.out
  go_enter Tryd.func22, Tryd.ntmps22
  go_wp2_with (first
    | ((with_reducible show wpList _ _ _ (Oper.mk _ (Op.load 32 _) _ _ _ _ :: _) _ _); first | refine wpList_load_midA rfl 32 (.tmp 86) rfl w.heap.size 4 rfl lp _ hr4.out hup rfl i4 LP hP ?_ | refine wpList_load_midG rfl 32 (.tmp 119) rfl w.heap.size 4 rfl lp _ hr4.out hup rfl i4 LP hP ?_)
    | ((with_reducible show wpList _ _ _ (Oper.mk _ (Op.load 28 (.tmp 125)) _ _ _ _ :: _) _ _); refine wpList_load_midG rfl 28 (.tmp 125) rfl w.heap.size 10 rfl lr _ hr5.out hud rfl i5 LR hD ?_)
    | ((with_reducible show wpList _ _ _ (Oper.mk _ (Op.load 28 (.tmp 131)) _ _ _ _ :: _) _ _); refine wpList_load_midG rfl 28 (.tmp 131) rfl w.heap.size 42 rfl lf _ hr6.out hud rfl i6 LF hE ?_)
    | ((with_reducible show wpList _ _ _ (Oper.mk _ (Op.load 28 (.tmp 6)) _ _ _ _ :: _) _ _); refine wpList_load_midG rfl 28 (.tmp 6) rfl (w.heap.size + 1) 0 rfl z32a.toList _ hrz.out hud rfl i32 z32a (Lib.hid rfl) ?_)
    | ((with_reducible show wpList _ _ _ (Oper.mk _ (Op.store 28 (.tmp 6) _) _ _ _ _ :: _) _ _); refine wpList_store_row rfl 28 (.tmp 6) (.tmp 113) rfl (w.heap.size + 1) z32a z32a rfl rfl hZ2 i32a rfl o32 ?_; intro w3 hU3; obtain ⟨hrz, hb3, hrow3, c0, c1, c2, c3, c74, c75, c76, c77, hr4, hr5, hr6⟩ := rc_behind hF hrow0 hb0 hU3))
  repeat (first
    | ((with_reducible refine (big_any v1 _).mono ?_); rintro e w4 ⟨rfl, rfl⟩; go_wp2_with (first
    | ((with_reducible show wpList _ _ _ (Oper.mk _ (Op.load 32 _) _ _ _ _ :: _) _ _); first | refine wpList_load_midA rfl 32 (.tmp 86) rfl w.heap.size 4 rfl lp _ hr4.out hup rfl i4 LP hP ?_ | refine wpList_load_midG rfl 32 (.tmp 119) rfl w.heap.size 4 rfl lp _ hr4.out hup rfl i4 LP hP ?_)
    | ((with_reducible show wpList _ _ _ (Oper.mk _ (Op.load 28 (.tmp 125)) _ _ _ _ :: _) _ _); refine wpList_load_midG rfl 28 (.tmp 125) rfl w.heap.size 10 rfl lr _ hr5.out hud rfl i5 LR hD ?_)
    | ((with_reducible show wpList _ _ _ (Oper.mk _ (Op.load 28 (.tmp 131)) _ _ _ _ :: _) _ _); refine wpList_load_midG rfl 28 (.tmp 131) rfl w.heap.size 42 rfl lf _ hr6.out hud rfl i6 LF hE ?_)
    | ((with_reducible show wpList _ _ _ (Oper.mk _ (Op.load 28 (.tmp 6)) _ _ _ _ :: _) _ _); refine wpList_load_midG rfl 28 (.tmp 6) rfl (w.heap.size + 1) 0 rfl z32a.toList _ hrz.out hud rfl i32 z32a (Lib.hid rfl) ?_)
    | ((with_reducible show wpList _ _ _ (Oper.mk _ (Op.store 28 (.tmp 6) _) _ _ _ _ :: _) _ _); refine wpList_store_row rfl 28 (.tmp 6) (.tmp 113) rfl (w.heap.size + 1) z32a z32a rfl rfl hZ2 i32a rfl o32 ?_; intro w3 hU3; obtain ⟨hrz, hb3, hrow3, c0, c1, c2, c3, c74, c75, c76, c77, hr4, hr5, hr6⟩ := rc_behind hF hrow0 hb0 hU3)))
    | ((with_reducible refine (big_any v10 _).mono ?_); rintro e w4 ⟨rfl, rfl⟩; go_wp2_with (first
    | ((with_reducible show wpList _ _ _ (Oper.mk _ (Op.load 32 _) _ _ _ _ :: _) _ _); first | refine wpList_load_midA rfl 32 (.tmp 86) rfl w.heap.size 4 rfl lp _ hr4.out hup rfl i4 LP hP ?_ | refine wpList_load_midG rfl 32 (.tmp 119) rfl w.heap.size 4 rfl lp _ hr4.out hup rfl i4 LP hP ?_)
    | ((with_reducible show wpList _ _ _ (Oper.mk _ (Op.load 28 (.tmp 125)) _ _ _ _ :: _) _ _); refine wpList_load_midG rfl 28 (.tmp 125) rfl w.heap.size 10 rfl lr _ hr5.out hud rfl i5 LR hD ?_)
    | ((with_reducible show wpList _ _ _ (Oper.mk _ (Op.load 28 (.tmp 131)) _ _ _ _ :: _) _ _); refine wpList_load_midG rfl 28 (.tmp 131) rfl w.heap.size 42 rfl lf _ hr6.out hud rfl i6 LF hE ?_)
    | ((with_reducible show wpList _ _ _ (Oper.mk _ (Op.load 28 (.tmp 6)) _ _ _ _ :: _) _ _); refine wpList_load_midG rfl 28 (.tmp 6) rfl (w.heap.size + 1) 0 rfl z32a.toList _ hrz.out hud rfl i32 z32a (Lib.hid rfl) ?_)
    | ((with_reducible show wpList _ _ _ (Oper.mk _ (Op.store 28 (.tmp 6) _) _ _ _ _ :: _) _ _); refine wpList_store_row rfl 28 (.tmp 6) (.tmp 113) rfl (w.heap.size + 1) z32a z32a rfl rfl hZ2 i32a rfl o32 ?_; intro w3 hU3; obtain ⟨hrz, hb3, hrow3, c0, c1, c2, c3, c74, c75, c76, c77, hr4, hr5, hr6⟩ := rc_behind hF hrow0 hb0 hU3)))
    | ((with_reducible refine (big_any v2 _).mono ?_); rintro e w4 ⟨rfl, rfl⟩; go_wp2_with (first
    | ((with_reducible show wpList _ _ _ (Oper.mk _ (Op.load 32 _) _ _ _ _ :: _) _ _); first | refine wpList_load_midA rfl 32 (.tmp 86) rfl w.heap.size 4 rfl lp _ hr4.out hup rfl i4 LP hP ?_ | refine wpList_load_midG rfl 32 (.tmp 119) rfl w.heap.size 4 rfl lp _ hr4.out hup rfl i4 LP hP ?_)
    | ((with_reducible show wpList _ _ _ (Oper.mk _ (Op.load 28 (.tmp 125)) _ _ _ _ :: _) _ _); refine wpList_load_midG rfl 28 (.tmp 125) rfl w.heap.size 10 rfl lr _ hr5.out hud rfl i5 LR hD ?_)
    | ((with_reducible show wpList _ _ _ (Oper.mk _ (Op.load 28 (.tmp 131)) _ _ _ _ :: _) _ _); refine wpList_load_midG rfl 28 (.tmp 131) rfl w.heap.size 42 rfl lf _ hr6.out hud rfl i6 LF hE ?_)
    | ((with_reducible show wpList _ _ _ (Oper.mk _ (Op.load 28 (.tmp 6)) _ _ _ _ :: _) _ _); refine wpList_load_midG rfl 28 (.tmp 6) rfl (w.heap.size + 1) 0 rfl z32a.toList _ hrz.out hud rfl i32 z32a (Lib.hid rfl) ?_)
    | ((with_reducible show wpList _ _ _ (Oper.mk _ (Op.store 28 (.tmp 6) _) _ _ _ _ :: _) _ _); refine wpList_store_row rfl 28 (.tmp 6) (.tmp 113) rfl (w.heap.size + 1) z32a z32a rfl rfl hZ2 i32a rfl o32 ?_; intro w3 hU3; obtain ⟨hrz, hb3, hrow3, c0, c1, c2, c3, c74, c75, c76, c77, hr4, hr5, hr6⟩ := rc_behind hF hrow0 hb0 hU3))))
  go_ret
  exact ⟨rfl, hb0.out⟩

set_option maxRecDepth 100000 in
set_option maxHeartbeats 1000000 in
theorem rchk3_d1 (w : World) (R LP LR LF : Array Value) (lp lr lf : List Value) (v1 v2 v7 v8 v9 v10 : Int) (v3 : ByteArray) (L : Int) (hL : (v3.size : Int) = L) (bp br bf lb : Bool) (hs : R.size = 78) (hF : RcF R lp lr lf 3 v1 v2 v3 v7 v8 v9 v10)
    (hP : Hid (LP = lp.toArray)) (hD : Hid (LR = lr.toArray)) (hE : Hid (LF = lf.toArray)) (i4 : (Tryd.prog.info? 32).map (·.size) = some lp.length) (i5 : (Tryd.prog.info? 28).map (·.size) = some lr.length) (i6 : (Tryd.prog.info? 28).map (·.size) = some lf.length)
    (hbp : ∀ W, (binOp .neq 32 (.agg LP) (.agg #[.int .i64 0, .int .i64 0, .int .i64 0, .int .i64 0, .int .i64 0, .int .i64 0])).run Tryd.prog W = .ok (.bool bp) W) (hbr : ∀ W, (binOp .neq 28 (.agg LR) (.agg z32a)).run Tryd.prog W = .ok (.bool br) W) (hbf : ∀ W, (binOp .neq 28 (.agg LF) (.agg z32a)).run Tryd.prog W = .ok (.bool bf) W)
    (hlab : Hid (∀ W, Calls Tryd.prog 38 #[.string v3] W fun e w2 => e = .returned (.bool lb) ∧ W = w2)) (h_o : (inB v1 0 1099511627776) = true) (h_t : (inB v10 0 1099511627776) = true) (h_i : (inB v2 0 1099511627776) = true) (h_d1 : (decide (v9 < 1)) = true) :
    Calls Tryd.prog 22 #[.agg R] w fun e w2 => e = .returned (.int .i64 1) ∧ Below w.heap.size w w2 := by
  have hud := Tryd.underlying28
  have hup := Tryd.underlying32
  have i32 : (Tryd.prog.info? 28).map (·.size) = some z32a.toList.length := by kernel_rfl
  have i32a : (Tryd.prog.info? 28).map (·.size) = some z32a.size := by kernel_rfl
  have o32 : z32a.all (·.oneCell') = true := by kernel_rfl
  have hrow0 := Lib.hid (heap_alloc_new w (.cells R 34))
  have hb0 := Lib.hid (show Below w.heap.size w (w.alloc (.cells R 34)) from (Below.refl _ _).alloc (Nat.le_refl _) _)
  have hZ2 := Lib.hid (show ((w.alloc (.cells R 34)).alloc (.cells z32a 28)).heap[w.heap.size + 1]? = some (.cells z32a 28 (0, 0)) from by rw [heapA9, if_pos (by simp)])
  obtain ⟨c0, c1, c2, c3, c74, c75, c76, c77, hr4, hr5, hr6⟩ := hF hrow0.out
  go_enter Tryd.func22, Tryd.ntmps22
  go_wp2_with (first
    | ((with_reducible show wpList _ _ _ (Oper.mk _ (Op.load 32 _) _ _ _ _ :: _) _ _); first | refine wpList_load_midA rfl 32 (.tmp 86) rfl w.heap.size 4 rfl lp _ hr4.out hup rfl i4 LP hP ?_ | refine wpList_load_midG rfl 32 (.tmp 119) rfl w.heap.size 4 rfl lp _ hr4.out hup rfl i4 LP hP ?_)
    | ((with_reducible show wpList _ _ _ (Oper.mk _ (Op.load 28 (.tmp 125)) _ _ _ _ :: _) _ _); refine wpList_load_midG rfl 28 (.tmp 125) rfl w.heap.size 10 rfl lr _ hr5.out hud rfl i5 LR hD ?_)
    | ((with_reducible show wpList _ _ _ (Oper.mk _ (Op.load 28 (.tmp 131)) _ _ _ _ :: _) _ _); refine wpList_load_midG rfl 28 (.tmp 131) rfl w.heap.size 42 rfl lf _ hr6.out hud rfl i6 LF hE ?_)
    | ((with_reducible show wpList _ _ _ (Oper.mk _ (Op.load 28 (.tmp 6)) _ _ _ _ :: _) _ _); refine wpList_load_midG rfl 28 (.tmp 6) rfl (w.heap.size + 1) 0 rfl z32a.toList _ hrz.out hud rfl i32 z32a (Lib.hid rfl) ?_)
    | ((with_reducible show wpList _ _ _ (Oper.mk _ (Op.store 28 (.tmp 6) _) _ _ _ _ :: _) _ _); refine wpList_store_row rfl 28 (.tmp 6) (.tmp 113) rfl (w.heap.size + 1) z32a z32a rfl rfl hZ2 i32a rfl o32 ?_; intro w3 hU3; obtain ⟨hrz, hb3, hrow3, c0, c1, c2, c3, c74, c75, c76, c77, hr4, hr5, hr6⟩ := rc_behind hF hrow0 hb0 hU3))
  repeat (first
    | ((with_reducible refine (big_any v1 _).mono ?_); rintro e w4 ⟨rfl, rfl⟩; go_wp2_with (first
    | ((with_reducible show wpList _ _ _ (Oper.mk _ (Op.load 32 _) _ _ _ _ :: _) _ _); first | refine wpList_load_midA rfl 32 (.tmp 86) rfl w.heap.size 4 rfl lp _ hr4.out hup rfl i4 LP hP ?_ | refine wpList_load_midG rfl 32 (.tmp 119) rfl w.heap.size 4 rfl lp _ hr4.out hup rfl i4 LP hP ?_)
    | ((with_reducible show wpList _ _ _ (Oper.mk _ (Op.load 28 (.tmp 125)) _ _ _ _ :: _) _ _); refine wpList_load_midG rfl 28 (.tmp 125) rfl w.heap.size 10 rfl lr _ hr5.out hud rfl i5 LR hD ?_)
    | ((with_reducible show wpList _ _ _ (Oper.mk _ (Op.load 28 (.tmp 131)) _ _ _ _ :: _) _ _); refine wpList_load_midG rfl 28 (.tmp 131) rfl w.heap.size 42 rfl lf _ hr6.out hud rfl i6 LF hE ?_)
    | ((with_reducible show wpList _ _ _ (Oper.mk _ (Op.load 28 (.tmp 6)) _ _ _ _ :: _) _ _); refine wpList_load_midG rfl 28 (.tmp 6) rfl (w.heap.size + 1) 0 rfl z32a.toList _ hrz.out hud rfl i32 z32a (Lib.hid rfl) ?_)
    | ((with_reducible show wpList _ _ _ (Oper.mk _ (Op.store 28 (.tmp 6) _) _ _ _ _ :: _) _ _); refine wpList_store_row rfl 28 (.tmp 6) (.tmp 113) rfl (w.heap.size + 1) z32a z32a rfl rfl hZ2 i32a rfl o32 ?_; intro w3 hU3; obtain ⟨hrz, hb3, hrow3, c0, c1, c2, c3, c74, c75, c76, c77, hr4, hr5, hr6⟩ := rc_behind hF hrow0 hb0 hU3)))
    | ((with_reducible refine (big_any v10 _).mono ?_); rintro e w4 ⟨rfl, rfl⟩; go_wp2_with (first
    | ((with_reducible show wpList _ _ _ (Oper.mk _ (Op.load 32 _) _ _ _ _ :: _) _ _); first | refine wpList_load_midA rfl 32 (.tmp 86) rfl w.heap.size 4 rfl lp _ hr4.out hup rfl i4 LP hP ?_ | refine wpList_load_midG rfl 32 (.tmp 119) rfl w.heap.size 4 rfl lp _ hr4.out hup rfl i4 LP hP ?_)
    | ((with_reducible show wpList _ _ _ (Oper.mk _ (Op.load 28 (.tmp 125)) _ _ _ _ :: _) _ _); refine wpList_load_midG rfl 28 (.tmp 125) rfl w.heap.size 10 rfl lr _ hr5.out hud rfl i5 LR hD ?_)
    | ((with_reducible show wpList _ _ _ (Oper.mk _ (Op.load 28 (.tmp 131)) _ _ _ _ :: _) _ _); refine wpList_load_midG rfl 28 (.tmp 131) rfl w.heap.size 42 rfl lf _ hr6.out hud rfl i6 LF hE ?_)
    | ((with_reducible show wpList _ _ _ (Oper.mk _ (Op.load 28 (.tmp 6)) _ _ _ _ :: _) _ _); refine wpList_load_midG rfl 28 (.tmp 6) rfl (w.heap.size + 1) 0 rfl z32a.toList _ hrz.out hud rfl i32 z32a (Lib.hid rfl) ?_)
    | ((with_reducible show wpList _ _ _ (Oper.mk _ (Op.store 28 (.tmp 6) _) _ _ _ _ :: _) _ _); refine wpList_store_row rfl 28 (.tmp 6) (.tmp 113) rfl (w.heap.size + 1) z32a z32a rfl rfl hZ2 i32a rfl o32 ?_; intro w3 hU3; obtain ⟨hrz, hb3, hrow3, c0, c1, c2, c3, c74, c75, c76, c77, hr4, hr5, hr6⟩ := rc_behind hF hrow0 hb0 hU3)))
    | ((with_reducible refine (big_any v2 _).mono ?_); rintro e w4 ⟨rfl, rfl⟩; go_wp2_with (first
    | ((with_reducible show wpList _ _ _ (Oper.mk _ (Op.load 32 _) _ _ _ _ :: _) _ _); first | refine wpList_load_midA rfl 32 (.tmp 86) rfl w.heap.size 4 rfl lp _ hr4.out hup rfl i4 LP hP ?_ | refine wpList_load_midG rfl 32 (.tmp 119) rfl w.heap.size 4 rfl lp _ hr4.out hup rfl i4 LP hP ?_)
    | ((with_reducible show wpList _ _ _ (Oper.mk _ (Op.load 28 (.tmp 125)) _ _ _ _ :: _) _ _); refine wpList_load_midG rfl 28 (.tmp 125) rfl w.heap.size 10 rfl lr _ hr5.out hud rfl i5 LR hD ?_)
    | ((with_reducible show wpList _ _ _ (Oper.mk _ (Op.load 28 (.tmp 131)) _ _ _ _ :: _) _ _); refine wpList_load_midG rfl 28 (.tmp 131) rfl w.heap.size 42 rfl lf _ hr6.out hud rfl i6 LF hE ?_)
    | ((with_reducible show wpList _ _ _ (Oper.mk _ (Op.load 28 (.tmp 6)) _ _ _ _ :: _) _ _); refine wpList_load_midG rfl 28 (.tmp 6) rfl (w.heap.size + 1) 0 rfl z32a.toList _ hrz.out hud rfl i32 z32a (Lib.hid rfl) ?_)
    | ((with_reducible show wpList _ _ _ (Oper.mk _ (Op.store 28 (.tmp 6) _) _ _ _ _ :: _) _ _); refine wpList_store_row rfl 28 (.tmp 6) (.tmp 113) rfl (w.heap.size + 1) z32a z32a rfl rfl hZ2 i32a rfl o32 ?_; intro w3 hU3; obtain ⟨hrz, hb3, hrow3, c0, c1, c2, c3, c74, c75, c76, c77, hr4, hr5, hr6⟩ := rc_behind hF hrow0 hb0 hU3))))
  go_ret
  exact ⟨rfl, hb0.out⟩

set_option maxRecDepth 100000 in
set_option maxHeartbeats 1000000 in
theorem rchk3_d2 (w : World) (R LP LR LF : Array Value) (lp lr lf : List Value) (v1 v2 v7 v8 v9 v10 : Int) (v3 : ByteArray) (L : Int) (hL : (v3.size : Int) = L) (bp br bf lb : Bool) (hs : R.size = 78) (hF : RcF R lp lr lf 3 v1 v2 v3 v7 v8 v9 v10)
    (hP : Hid (LP = lp.toArray)) (hD : Hid (LR = lr.toArray)) (hE : Hid (LF = lf.toArray)) (i4 : (Tryd.prog.info? 32).map (·.size) = some lp.length) (i5 : (Tryd.prog.info? 28).map (·.size) = some lr.length) (i6 : (Tryd.prog.info? 28).map (·.size) = some lf.length)
    (hbp : ∀ W, (binOp .neq 32 (.agg LP) (.agg #[.int .i64 0, .int .i64 0, .int .i64 0, .int .i64 0, .int .i64 0, .int .i64 0])).run Tryd.prog W = .ok (.bool bp) W) (hbr : ∀ W, (binOp .neq 28 (.agg LR) (.agg z32a)).run Tryd.prog W = .ok (.bool br) W) (hbf : ∀ W, (binOp .neq 28 (.agg LF) (.agg z32a)).run Tryd.prog W = .ok (.bool bf) W)
    (hlab : Hid (∀ W, Calls Tryd.prog 38 #[.string v3] W fun e w2 => e = .returned (.bool lb) ∧ W = w2)) (h_o : (inB v1 0 1099511627776) = true) (h_t : (inB v10 0 1099511627776) = true) (h_i : (inB v2 0 1099511627776) = true) (h_d1 : (decide (v9 < 1)) = false) (h_d2 : (decide (3 < v9)) = true) :
    Calls Tryd.prog 22 #[.agg R] w fun e w2 => e = .returned (.int .i64 1) ∧ Below w.heap.size w w2 := by
  have hud := Tryd.underlying28
  have hup := Tryd.underlying32
  have i32 : (Tryd.prog.info? 28).map (·.size) = some z32a.toList.length := by kernel_rfl
  have i32a : (Tryd.prog.info? 28).map (·.size) = some z32a.size := by kernel_rfl
  have o32 : z32a.all (·.oneCell') = true := by kernel_rfl
  have hrow0 := Lib.hid (heap_alloc_new w (.cells R 34))
  have hb0 := Lib.hid (show Below w.heap.size w (w.alloc (.cells R 34)) from (Below.refl _ _).alloc (Nat.le_refl _) _)
  have hZ2 := Lib.hid (show ((w.alloc (.cells R 34)).alloc (.cells z32a 28)).heap[w.heap.size + 1]? = some (.cells z32a 28 (0, 0)) from by rw [heapA9, if_pos (by simp)])
  obtain ⟨c0, c1, c2, c3, c74, c75, c76, c77, hr4, hr5, hr6⟩ := hF hrow0.out
  go_enter Tryd.func22, Tryd.ntmps22
  go_wp2_with (first
    | ((with_reducible show wpList _ _ _ (Oper.mk _ (Op.load 32 _) _ _ _ _ :: _) _ _); first | refine wpList_load_midA rfl 32 (.tmp 86) rfl w.heap.size 4 rfl lp _ hr4.out hup rfl i4 LP hP ?_ | refine wpList_load_midG rfl 32 (.tmp 119) rfl w.heap.size 4 rfl lp _ hr4.out hup rfl i4 LP hP ?_)
    | ((with_reducible show wpList _ _ _ (Oper.mk _ (Op.load 28 (.tmp 125)) _ _ _ _ :: _) _ _); refine wpList_load_midG rfl 28 (.tmp 125) rfl w.heap.size 10 rfl lr _ hr5.out hud rfl i5 LR hD ?_)
    | ((with_reducible show wpList _ _ _ (Oper.mk _ (Op.load 28 (.tmp 131)) _ _ _ _ :: _) _ _); refine wpList_load_midG rfl 28 (.tmp 131) rfl w.heap.size 42 rfl lf _ hr6.out hud rfl i6 LF hE ?_)
    | ((with_reducible show wpList _ _ _ (Oper.mk _ (Op.load 28 (.tmp 6)) _ _ _ _ :: _) _ _); refine wpList_load_midG rfl 28 (.tmp 6) rfl (w.heap.size + 1) 0 rfl z32a.toList _ hrz.out hud rfl i32 z32a (Lib.hid rfl) ?_)
    | ((with_reducible show wpList _ _ _ (Oper.mk _ (Op.store 28 (.tmp 6) _) _ _ _ _ :: _) _ _); refine wpList_store_row rfl 28 (.tmp 6) (.tmp 113) rfl (w.heap.size + 1) z32a z32a rfl rfl hZ2 i32a rfl o32 ?_; intro w3 hU3; obtain ⟨hrz, hb3, hrow3, c0, c1, c2, c3, c74, c75, c76, c77, hr4, hr5, hr6⟩ := rc_behind hF hrow0 hb0 hU3))
  repeat (first
    | ((with_reducible refine (big_any v1 _).mono ?_); rintro e w4 ⟨rfl, rfl⟩; go_wp2_with (first
    | ((with_reducible show wpList _ _ _ (Oper.mk _ (Op.load 32 _) _ _ _ _ :: _) _ _); first | refine wpList_load_midA rfl 32 (.tmp 86) rfl w.heap.size 4 rfl lp _ hr4.out hup rfl i4 LP hP ?_ | refine wpList_load_midG rfl 32 (.tmp 119) rfl w.heap.size 4 rfl lp _ hr4.out hup rfl i4 LP hP ?_)
    | ((with_reducible show wpList _ _ _ (Oper.mk _ (Op.load 28 (.tmp 125)) _ _ _ _ :: _) _ _); refine wpList_load_midG rfl 28 (.tmp 125) rfl w.heap.size 10 rfl lr _ hr5.out hud rfl i5 LR hD ?_)
    | ((with_reducible show wpList _ _ _ (Oper.mk _ (Op.load 28 (.tmp 131)) _ _ _ _ :: _) _ _); refine wpList_load_midG rfl 28 (.tmp 131) rfl w.heap.size 42 rfl lf _ hr6.out hud rfl i6 LF hE ?_)
    | ((with_reducible show wpList _ _ _ (Oper.mk _ (Op.load 28 (.tmp 6)) _ _ _ _ :: _) _ _); refine wpList_load_midG rfl 28 (.tmp 6) rfl (w.heap.size + 1) 0 rfl z32a.toList _ hrz.out hud rfl i32 z32a (Lib.hid rfl) ?_)
    | ((with_reducible show wpList _ _ _ (Oper.mk _ (Op.store 28 (.tmp 6) _) _ _ _ _ :: _) _ _); refine wpList_store_row rfl 28 (.tmp 6) (.tmp 113) rfl (w.heap.size + 1) z32a z32a rfl rfl hZ2 i32a rfl o32 ?_; intro w3 hU3; obtain ⟨hrz, hb3, hrow3, c0, c1, c2, c3, c74, c75, c76, c77, hr4, hr5, hr6⟩ := rc_behind hF hrow0 hb0 hU3)))
    | ((with_reducible refine (big_any v10 _).mono ?_); rintro e w4 ⟨rfl, rfl⟩; go_wp2_with (first
    | ((with_reducible show wpList _ _ _ (Oper.mk _ (Op.load 32 _) _ _ _ _ :: _) _ _); first | refine wpList_load_midA rfl 32 (.tmp 86) rfl w.heap.size 4 rfl lp _ hr4.out hup rfl i4 LP hP ?_ | refine wpList_load_midG rfl 32 (.tmp 119) rfl w.heap.size 4 rfl lp _ hr4.out hup rfl i4 LP hP ?_)
    | ((with_reducible show wpList _ _ _ (Oper.mk _ (Op.load 28 (.tmp 125)) _ _ _ _ :: _) _ _); refine wpList_load_midG rfl 28 (.tmp 125) rfl w.heap.size 10 rfl lr _ hr5.out hud rfl i5 LR hD ?_)
    | ((with_reducible show wpList _ _ _ (Oper.mk _ (Op.load 28 (.tmp 131)) _ _ _ _ :: _) _ _); refine wpList_load_midG rfl 28 (.tmp 131) rfl w.heap.size 42 rfl lf _ hr6.out hud rfl i6 LF hE ?_)
    | ((with_reducible show wpList _ _ _ (Oper.mk _ (Op.load 28 (.tmp 6)) _ _ _ _ :: _) _ _); refine wpList_load_midG rfl 28 (.tmp 6) rfl (w.heap.size + 1) 0 rfl z32a.toList _ hrz.out hud rfl i32 z32a (Lib.hid rfl) ?_)
    | ((with_reducible show wpList _ _ _ (Oper.mk _ (Op.store 28 (.tmp 6) _) _ _ _ _ :: _) _ _); refine wpList_store_row rfl 28 (.tmp 6) (.tmp 113) rfl (w.heap.size + 1) z32a z32a rfl rfl hZ2 i32a rfl o32 ?_; intro w3 hU3; obtain ⟨hrz, hb3, hrow3, c0, c1, c2, c3, c74, c75, c76, c77, hr4, hr5, hr6⟩ := rc_behind hF hrow0 hb0 hU3)))
    | ((with_reducible refine (big_any v2 _).mono ?_); rintro e w4 ⟨rfl, rfl⟩; go_wp2_with (first
    | ((with_reducible show wpList _ _ _ (Oper.mk _ (Op.load 32 _) _ _ _ _ :: _) _ _); first | refine wpList_load_midA rfl 32 (.tmp 86) rfl w.heap.size 4 rfl lp _ hr4.out hup rfl i4 LP hP ?_ | refine wpList_load_midG rfl 32 (.tmp 119) rfl w.heap.size 4 rfl lp _ hr4.out hup rfl i4 LP hP ?_)
    | ((with_reducible show wpList _ _ _ (Oper.mk _ (Op.load 28 (.tmp 125)) _ _ _ _ :: _) _ _); refine wpList_load_midG rfl 28 (.tmp 125) rfl w.heap.size 10 rfl lr _ hr5.out hud rfl i5 LR hD ?_)
    | ((with_reducible show wpList _ _ _ (Oper.mk _ (Op.load 28 (.tmp 131)) _ _ _ _ :: _) _ _); refine wpList_load_midG rfl 28 (.tmp 131) rfl w.heap.size 42 rfl lf _ hr6.out hud rfl i6 LF hE ?_)
    | ((with_reducible show wpList _ _ _ (Oper.mk _ (Op.load 28 (.tmp 6)) _ _ _ _ :: _) _ _); refine wpList_load_midG rfl 28 (.tmp 6) rfl (w.heap.size + 1) 0 rfl z32a.toList _ hrz.out hud rfl i32 z32a (Lib.hid rfl) ?_)
    | ((with_reducible show wpList _ _ _ (Oper.mk _ (Op.store 28 (.tmp 6) _) _ _ _ _ :: _) _ _); refine wpList_store_row rfl 28 (.tmp 6) (.tmp 113) rfl (w.heap.size + 1) z32a z32a rfl rfl hZ2 i32a rfl o32 ?_; intro w3 hU3; obtain ⟨hrz, hb3, hrow3, c0, c1, c2, c3, c74, c75, c76, c77, hr4, hr5, hr6⟩ := rc_behind hF hrow0 hb0 hU3))))
  go_ret
  exact ⟨rfl, hb0.out⟩

set_option maxRecDepth 100000 in
set_option maxHeartbeats 1000000 in
theorem rchk3_nm (w : World) (R LP LR LF : Array Value) (lp lr lf : List Value) (v1 v2 v7 v8 v9 v10 : Int) (v3 : ByteArray) (L : Int) (hL : (v3.size : Int) = L) (bp br bf lb : Bool) (hs : R.size = 78) (hF : RcF R lp lr lf 3 v1 v2 v3 v7 v8 v9 v10)
    (hP : Hid (LP = lp.toArray)) (hD : Hid (LR = lr.toArray)) (hE : Hid (LF = lf.toArray)) (i4 : (Tryd.prog.info? 32).map (·.size) = some lp.length) (i5 : (Tryd.prog.info? 28).map (·.size) = some lr.length) (i6 : (Tryd.prog.info? 28).map (·.size) = some lf.length)
    (hbp : ∀ W, (binOp .neq 32 (.agg LP) (.agg #[.int .i64 0, .int .i64 0, .int .i64 0, .int .i64 0, .int .i64 0, .int .i64 0])).run Tryd.prog W = .ok (.bool bp) W) (hbr : ∀ W, (binOp .neq 28 (.agg LR) (.agg z32a)).run Tryd.prog W = .ok (.bool br) W) (hbf : ∀ W, (binOp .neq 28 (.agg LF) (.agg z32a)).run Tryd.prog W = .ok (.bool bf) W)
    (hlab : Hid (∀ W, Calls Tryd.prog 38 #[.string v3] W fun e w2 => e = .returned (.bool lb) ∧ W = w2)) (h_o : (inB v1 0 1099511627776) = true) (h_t : (inB v10 0 1099511627776) = true) (h_i : (inB v2 0 1099511627776) = true) (h_d1 : (decide (v9 < 1)) = false) (h_d2 : (decide (3 < v9)) = false) (h_nm : (decide (0 < L)) = true) :
    Calls Tryd.prog 22 #[.agg R] w fun e w2 => e = .returned (.int .i64 4) ∧ Below w.heap.size w w2 := by
  have hud := Tryd.underlying28
  have hup := Tryd.underlying32
  have i32 : (Tryd.prog.info? 28).map (·.size) = some z32a.toList.length := by kernel_rfl
  have i32a : (Tryd.prog.info? 28).map (·.size) = some z32a.size := by kernel_rfl
  have o32 : z32a.all (·.oneCell') = true := by kernel_rfl
  have hrow0 := Lib.hid (heap_alloc_new w (.cells R 34))
  have hb0 := Lib.hid (show Below w.heap.size w (w.alloc (.cells R 34)) from (Below.refl _ _).alloc (Nat.le_refl _) _)
  have hZ2 := Lib.hid (show ((w.alloc (.cells R 34)).alloc (.cells z32a 28)).heap[w.heap.size + 1]? = some (.cells z32a 28 (0, 0)) from by rw [heapA9, if_pos (by simp)])
  obtain ⟨c0, c1, c2, c3, c74, c75, c76, c77, hr4, hr5, hr6⟩ := hF hrow0.out
  go_enter Tryd.func22, Tryd.ntmps22
  go_wp2_with (first
    | ((with_reducible show wpList _ _ _ (Oper.mk _ (Op.load 32 _) _ _ _ _ :: _) _ _); first | refine wpList_load_midA rfl 32 (.tmp 86) rfl w.heap.size 4 rfl lp _ hr4.out hup rfl i4 LP hP ?_ | refine wpList_load_midG rfl 32 (.tmp 119) rfl w.heap.size 4 rfl lp _ hr4.out hup rfl i4 LP hP ?_)
    | ((with_reducible show wpList _ _ _ (Oper.mk _ (Op.load 28 (.tmp 125)) _ _ _ _ :: _) _ _); refine wpList_load_midG rfl 28 (.tmp 125) rfl w.heap.size 10 rfl lr _ hr5.out hud rfl i5 LR hD ?_)
    | ((with_reducible show wpList _ _ _ (Oper.mk _ (Op.load 28 (.tmp 131)) _ _ _ _ :: _) _ _); refine wpList_load_midG rfl 28 (.tmp 131) rfl w.heap.size 42 rfl lf _ hr6.out hud rfl i6 LF hE ?_)
    | ((with_reducible show wpList _ _ _ (Oper.mk _ (Op.load 28 (.tmp 6)) _ _ _ _ :: _) _ _); refine wpList_load_midG rfl 28 (.tmp 6) rfl (w.heap.size + 1) 0 rfl z32a.toList _ hrz.out hud rfl i32 z32a (Lib.hid rfl) ?_)
    | ((with_reducible show wpList _ _ _ (Oper.mk _ (Op.store 28 (.tmp 6) _) _ _ _ _ :: _) _ _); refine wpList_store_row rfl 28 (.tmp 6) (.tmp 113) rfl (w.heap.size + 1) z32a z32a rfl rfl hZ2 i32a rfl o32 ?_; intro w3 hU3; obtain ⟨hrz, hb3, hrow3, c0, c1, c2, c3, c74, c75, c76, c77, hr4, hr5, hr6⟩ := rc_behind hF hrow0 hb0 hU3))
  repeat (first
    | ((with_reducible refine (big_any v1 _).mono ?_); rintro e w4 ⟨rfl, rfl⟩; go_wp2_with (first
    | ((with_reducible show wpList _ _ _ (Oper.mk _ (Op.load 32 _) _ _ _ _ :: _) _ _); first | refine wpList_load_midA rfl 32 (.tmp 86) rfl w.heap.size 4 rfl lp _ hr4.out hup rfl i4 LP hP ?_ | refine wpList_load_midG rfl 32 (.tmp 119) rfl w.heap.size 4 rfl lp _ hr4.out hup rfl i4 LP hP ?_)
    | ((with_reducible show wpList _ _ _ (Oper.mk _ (Op.load 28 (.tmp 125)) _ _ _ _ :: _) _ _); refine wpList_load_midG rfl 28 (.tmp 125) rfl w.heap.size 10 rfl lr _ hr5.out hud rfl i5 LR hD ?_)
    | ((with_reducible show wpList _ _ _ (Oper.mk _ (Op.load 28 (.tmp 131)) _ _ _ _ :: _) _ _); refine wpList_load_midG rfl 28 (.tmp 131) rfl w.heap.size 42 rfl lf _ hr6.out hud rfl i6 LF hE ?_)
    | ((with_reducible show wpList _ _ _ (Oper.mk _ (Op.load 28 (.tmp 6)) _ _ _ _ :: _) _ _); refine wpList_load_midG rfl 28 (.tmp 6) rfl (w.heap.size + 1) 0 rfl z32a.toList _ hrz.out hud rfl i32 z32a (Lib.hid rfl) ?_)
    | ((with_reducible show wpList _ _ _ (Oper.mk _ (Op.store 28 (.tmp 6) _) _ _ _ _ :: _) _ _); refine wpList_store_row rfl 28 (.tmp 6) (.tmp 113) rfl (w.heap.size + 1) z32a z32a rfl rfl hZ2 i32a rfl o32 ?_; intro w3 hU3; obtain ⟨hrz, hb3, hrow3, c0, c1, c2, c3, c74, c75, c76, c77, hr4, hr5, hr6⟩ := rc_behind hF hrow0 hb0 hU3)))
    | ((with_reducible refine (big_any v10 _).mono ?_); rintro e w4 ⟨rfl, rfl⟩; go_wp2_with (first
    | ((with_reducible show wpList _ _ _ (Oper.mk _ (Op.load 32 _) _ _ _ _ :: _) _ _); first | refine wpList_load_midA rfl 32 (.tmp 86) rfl w.heap.size 4 rfl lp _ hr4.out hup rfl i4 LP hP ?_ | refine wpList_load_midG rfl 32 (.tmp 119) rfl w.heap.size 4 rfl lp _ hr4.out hup rfl i4 LP hP ?_)
    | ((with_reducible show wpList _ _ _ (Oper.mk _ (Op.load 28 (.tmp 125)) _ _ _ _ :: _) _ _); refine wpList_load_midG rfl 28 (.tmp 125) rfl w.heap.size 10 rfl lr _ hr5.out hud rfl i5 LR hD ?_)
    | ((with_reducible show wpList _ _ _ (Oper.mk _ (Op.load 28 (.tmp 131)) _ _ _ _ :: _) _ _); refine wpList_load_midG rfl 28 (.tmp 131) rfl w.heap.size 42 rfl lf _ hr6.out hud rfl i6 LF hE ?_)
    | ((with_reducible show wpList _ _ _ (Oper.mk _ (Op.load 28 (.tmp 6)) _ _ _ _ :: _) _ _); refine wpList_load_midG rfl 28 (.tmp 6) rfl (w.heap.size + 1) 0 rfl z32a.toList _ hrz.out hud rfl i32 z32a (Lib.hid rfl) ?_)
    | ((with_reducible show wpList _ _ _ (Oper.mk _ (Op.store 28 (.tmp 6) _) _ _ _ _ :: _) _ _); refine wpList_store_row rfl 28 (.tmp 6) (.tmp 113) rfl (w.heap.size + 1) z32a z32a rfl rfl hZ2 i32a rfl o32 ?_; intro w3 hU3; obtain ⟨hrz, hb3, hrow3, c0, c1, c2, c3, c74, c75, c76, c77, hr4, hr5, hr6⟩ := rc_behind hF hrow0 hb0 hU3)))
    | ((with_reducible refine (big_any v2 _).mono ?_); rintro e w4 ⟨rfl, rfl⟩; go_wp2_with (first
    | ((with_reducible show wpList _ _ _ (Oper.mk _ (Op.load 32 _) _ _ _ _ :: _) _ _); first | refine wpList_load_midA rfl 32 (.tmp 86) rfl w.heap.size 4 rfl lp _ hr4.out hup rfl i4 LP hP ?_ | refine wpList_load_midG rfl 32 (.tmp 119) rfl w.heap.size 4 rfl lp _ hr4.out hup rfl i4 LP hP ?_)
    | ((with_reducible show wpList _ _ _ (Oper.mk _ (Op.load 28 (.tmp 125)) _ _ _ _ :: _) _ _); refine wpList_load_midG rfl 28 (.tmp 125) rfl w.heap.size 10 rfl lr _ hr5.out hud rfl i5 LR hD ?_)
    | ((with_reducible show wpList _ _ _ (Oper.mk _ (Op.load 28 (.tmp 131)) _ _ _ _ :: _) _ _); refine wpList_load_midG rfl 28 (.tmp 131) rfl w.heap.size 42 rfl lf _ hr6.out hud rfl i6 LF hE ?_)
    | ((with_reducible show wpList _ _ _ (Oper.mk _ (Op.load 28 (.tmp 6)) _ _ _ _ :: _) _ _); refine wpList_load_midG rfl 28 (.tmp 6) rfl (w.heap.size + 1) 0 rfl z32a.toList _ hrz.out hud rfl i32 z32a (Lib.hid rfl) ?_)
    | ((with_reducible show wpList _ _ _ (Oper.mk _ (Op.store 28 (.tmp 6) _) _ _ _ _ :: _) _ _); refine wpList_store_row rfl 28 (.tmp 6) (.tmp 113) rfl (w.heap.size + 1) z32a z32a rfl rfl hZ2 i32a rfl o32 ?_; intro w3 hU3; obtain ⟨hrz, hb3, hrow3, c0, c1, c2, c3, c74, c75, c76, c77, hr4, hr5, hr6⟩ := rc_behind hF hrow0 hb0 hU3))))
  go_ret
  exact ⟨rfl, hb3.out⟩

set_option maxRecDepth 100000 in
set_option maxHeartbeats 1000000 in
theorem rchk3_pz (w : World) (R LP LR LF : Array Value) (lp lr lf : List Value) (v1 v2 v7 v8 v9 v10 : Int) (v3 : ByteArray) (L : Int) (hL : (v3.size : Int) = L) (bp br bf lb : Bool) (hs : R.size = 78) (hF : RcF R lp lr lf 3 v1 v2 v3 v7 v8 v9 v10)
    (hP : Hid (LP = lp.toArray)) (hD : Hid (LR = lr.toArray)) (hE : Hid (LF = lf.toArray)) (i4 : (Tryd.prog.info? 32).map (·.size) = some lp.length) (i5 : (Tryd.prog.info? 28).map (·.size) = some lr.length) (i6 : (Tryd.prog.info? 28).map (·.size) = some lf.length)
    (hbp : ∀ W, (binOp .neq 32 (.agg LP) (.agg #[.int .i64 0, .int .i64 0, .int .i64 0, .int .i64 0, .int .i64 0, .int .i64 0])).run Tryd.prog W = .ok (.bool bp) W) (hbr : ∀ W, (binOp .neq 28 (.agg LR) (.agg z32a)).run Tryd.prog W = .ok (.bool br) W) (hbf : ∀ W, (binOp .neq 28 (.agg LF) (.agg z32a)).run Tryd.prog W = .ok (.bool bf) W)
    (hlab : Hid (∀ W, Calls Tryd.prog 38 #[.string v3] W fun e w2 => e = .returned (.bool lb) ∧ W = w2)) (h_o : (inB v1 0 1099511627776) = true) (h_t : (inB v10 0 1099511627776) = true) (h_i : (inB v2 0 1099511627776) = true) (h_d1 : (decide (v9 < 1)) = false) (h_d2 : (decide (3 < v9)) = false) (h_nm : (decide (0 < L)) = false) (h_pz : (bp) = true) :
    Calls Tryd.prog 22 #[.agg R] w fun e w2 => e = .returned (.int .i64 4) ∧ Below w.heap.size w w2 := by
  have hud := Tryd.underlying28
  have hup := Tryd.underlying32
  have i32 : (Tryd.prog.info? 28).map (·.size) = some z32a.toList.length := by kernel_rfl
  have i32a : (Tryd.prog.info? 28).map (·.size) = some z32a.size := by kernel_rfl
  have o32 : z32a.all (·.oneCell') = true := by kernel_rfl
  have hrow0 := Lib.hid (heap_alloc_new w (.cells R 34))
  have hb0 := Lib.hid (show Below w.heap.size w (w.alloc (.cells R 34)) from (Below.refl _ _).alloc (Nat.le_refl _) _)
  have hZ2 := Lib.hid (show ((w.alloc (.cells R 34)).alloc (.cells z32a 28)).heap[w.heap.size + 1]? = some (.cells z32a 28 (0, 0)) from by rw [heapA9, if_pos (by simp)])
  obtain ⟨c0, c1, c2, c3, c74, c75, c76, c77, hr4, hr5, hr6⟩ := hF hrow0.out
  go_enter Tryd.func22, Tryd.ntmps22
  go_wp2_with (first
    | ((with_reducible show wpList _ _ _ (Oper.mk _ (Op.load 32 _) _ _ _ _ :: _) _ _); first | refine wpList_load_midA rfl 32 (.tmp 86) rfl w.heap.size 4 rfl lp _ hr4.out hup rfl i4 LP hP ?_ | refine wpList_load_midG rfl 32 (.tmp 119) rfl w.heap.size 4 rfl lp _ hr4.out hup rfl i4 LP hP ?_)
    | ((with_reducible show wpList _ _ _ (Oper.mk _ (Op.load 28 (.tmp 125)) _ _ _ _ :: _) _ _); refine wpList_load_midG rfl 28 (.tmp 125) rfl w.heap.size 10 rfl lr _ hr5.out hud rfl i5 LR hD ?_)
    | ((with_reducible show wpList _ _ _ (Oper.mk _ (Op.load 28 (.tmp 131)) _ _ _ _ :: _) _ _); refine wpList_load_midG rfl 28 (.tmp 131) rfl w.heap.size 42 rfl lf _ hr6.out hud rfl i6 LF hE ?_)
    | ((with_reducible show wpList _ _ _ (Oper.mk _ (Op.load 28 (.tmp 6)) _ _ _ _ :: _) _ _); refine wpList_load_midG rfl 28 (.tmp 6) rfl (w.heap.size + 1) 0 rfl z32a.toList _ hrz.out hud rfl i32 z32a (Lib.hid rfl) ?_)
    | ((with_reducible show wpList _ _ _ (Oper.mk _ (Op.store 28 (.tmp 6) _) _ _ _ _ :: _) _ _); refine wpList_store_row rfl 28 (.tmp 6) (.tmp 113) rfl (w.heap.size + 1) z32a z32a rfl rfl hZ2 i32a rfl o32 ?_; intro w3 hU3; obtain ⟨hrz, hb3, hrow3, c0, c1, c2, c3, c74, c75, c76, c77, hr4, hr5, hr6⟩ := rc_behind hF hrow0 hb0 hU3))
  repeat (first
    | ((with_reducible refine (big_any v1 _).mono ?_); rintro e w4 ⟨rfl, rfl⟩; go_wp2_with (first
    | ((with_reducible show wpList _ _ _ (Oper.mk _ (Op.load 32 _) _ _ _ _ :: _) _ _); first | refine wpList_load_midA rfl 32 (.tmp 86) rfl w.heap.size 4 rfl lp _ hr4.out hup rfl i4 LP hP ?_ | refine wpList_load_midG rfl 32 (.tmp 119) rfl w.heap.size 4 rfl lp _ hr4.out hup rfl i4 LP hP ?_)
    | ((with_reducible show wpList _ _ _ (Oper.mk _ (Op.load 28 (.tmp 125)) _ _ _ _ :: _) _ _); refine wpList_load_midG rfl 28 (.tmp 125) rfl w.heap.size 10 rfl lr _ hr5.out hud rfl i5 LR hD ?_)
    | ((with_reducible show wpList _ _ _ (Oper.mk _ (Op.load 28 (.tmp 131)) _ _ _ _ :: _) _ _); refine wpList_load_midG rfl 28 (.tmp 131) rfl w.heap.size 42 rfl lf _ hr6.out hud rfl i6 LF hE ?_)
    | ((with_reducible show wpList _ _ _ (Oper.mk _ (Op.load 28 (.tmp 6)) _ _ _ _ :: _) _ _); refine wpList_load_midG rfl 28 (.tmp 6) rfl (w.heap.size + 1) 0 rfl z32a.toList _ hrz.out hud rfl i32 z32a (Lib.hid rfl) ?_)
    | ((with_reducible show wpList _ _ _ (Oper.mk _ (Op.store 28 (.tmp 6) _) _ _ _ _ :: _) _ _); refine wpList_store_row rfl 28 (.tmp 6) (.tmp 113) rfl (w.heap.size + 1) z32a z32a rfl rfl hZ2 i32a rfl o32 ?_; intro w3 hU3; obtain ⟨hrz, hb3, hrow3, c0, c1, c2, c3, c74, c75, c76, c77, hr4, hr5, hr6⟩ := rc_behind hF hrow0 hb0 hU3)))
    | ((with_reducible refine (big_any v10 _).mono ?_); rintro e w4 ⟨rfl, rfl⟩; go_wp2_with (first
    | ((with_reducible show wpList _ _ _ (Oper.mk _ (Op.load 32 _) _ _ _ _ :: _) _ _); first | refine wpList_load_midA rfl 32 (.tmp 86) rfl w.heap.size 4 rfl lp _ hr4.out hup rfl i4 LP hP ?_ | refine wpList_load_midG rfl 32 (.tmp 119) rfl w.heap.size 4 rfl lp _ hr4.out hup rfl i4 LP hP ?_)
    | ((with_reducible show wpList _ _ _ (Oper.mk _ (Op.load 28 (.tmp 125)) _ _ _ _ :: _) _ _); refine wpList_load_midG rfl 28 (.tmp 125) rfl w.heap.size 10 rfl lr _ hr5.out hud rfl i5 LR hD ?_)
    | ((with_reducible show wpList _ _ _ (Oper.mk _ (Op.load 28 (.tmp 131)) _ _ _ _ :: _) _ _); refine wpList_load_midG rfl 28 (.tmp 131) rfl w.heap.size 42 rfl lf _ hr6.out hud rfl i6 LF hE ?_)
    | ((with_reducible show wpList _ _ _ (Oper.mk _ (Op.load 28 (.tmp 6)) _ _ _ _ :: _) _ _); refine wpList_load_midG rfl 28 (.tmp 6) rfl (w.heap.size + 1) 0 rfl z32a.toList _ hrz.out hud rfl i32 z32a (Lib.hid rfl) ?_)
    | ((with_reducible show wpList _ _ _ (Oper.mk _ (Op.store 28 (.tmp 6) _) _ _ _ _ :: _) _ _); refine wpList_store_row rfl 28 (.tmp 6) (.tmp 113) rfl (w.heap.size + 1) z32a z32a rfl rfl hZ2 i32a rfl o32 ?_; intro w3 hU3; obtain ⟨hrz, hb3, hrow3, c0, c1, c2, c3, c74, c75, c76, c77, hr4, hr5, hr6⟩ := rc_behind hF hrow0 hb0 hU3)))
    | ((with_reducible refine (big_any v2 _).mono ?_); rintro e w4 ⟨rfl, rfl⟩; go_wp2_with (first
    | ((with_reducible show wpList _ _ _ (Oper.mk _ (Op.load 32 _) _ _ _ _ :: _) _ _); first | refine wpList_load_midA rfl 32 (.tmp 86) rfl w.heap.size 4 rfl lp _ hr4.out hup rfl i4 LP hP ?_ | refine wpList_load_midG rfl 32 (.tmp 119) rfl w.heap.size 4 rfl lp _ hr4.out hup rfl i4 LP hP ?_)
    | ((with_reducible show wpList _ _ _ (Oper.mk _ (Op.load 28 (.tmp 125)) _ _ _ _ :: _) _ _); refine wpList_load_midG rfl 28 (.tmp 125) rfl w.heap.size 10 rfl lr _ hr5.out hud rfl i5 LR hD ?_)
    | ((with_reducible show wpList _ _ _ (Oper.mk _ (Op.load 28 (.tmp 131)) _ _ _ _ :: _) _ _); refine wpList_load_midG rfl 28 (.tmp 131) rfl w.heap.size 42 rfl lf _ hr6.out hud rfl i6 LF hE ?_)
    | ((with_reducible show wpList _ _ _ (Oper.mk _ (Op.load 28 (.tmp 6)) _ _ _ _ :: _) _ _); refine wpList_load_midG rfl 28 (.tmp 6) rfl (w.heap.size + 1) 0 rfl z32a.toList _ hrz.out hud rfl i32 z32a (Lib.hid rfl) ?_)
    | ((with_reducible show wpList _ _ _ (Oper.mk _ (Op.store 28 (.tmp 6) _) _ _ _ _ :: _) _ _); refine wpList_store_row rfl 28 (.tmp 6) (.tmp 113) rfl (w.heap.size + 1) z32a z32a rfl rfl hZ2 i32a rfl o32 ?_; intro w3 hU3; obtain ⟨hrz, hb3, hrow3, c0, c1, c2, c3, c74, c75, c76, c77, hr4, hr5, hr6⟩ := rc_behind hF hrow0 hb0 hU3))))
  go_ret
  exact ⟨rfl, hb3.out⟩

set_option maxRecDepth 100000 in
set_option maxHeartbeats 1000000 in
theorem rchk3_rz (w : World) (R LP LR LF : Array Value) (lp lr lf : List Value) (v1 v2 v7 v8 v9 v10 : Int) (v3 : ByteArray) (L : Int) (hL : (v3.size : Int) = L) (bp br bf lb : Bool) (hs : R.size = 78) (hF : RcF R lp lr lf 3 v1 v2 v3 v7 v8 v9 v10)
    (hP : Hid (LP = lp.toArray)) (hD : Hid (LR = lr.toArray)) (hE : Hid (LF = lf.toArray)) (i4 : (Tryd.prog.info? 32).map (·.size) = some lp.length) (i5 : (Tryd.prog.info? 28).map (·.size) = some lr.length) (i6 : (Tryd.prog.info? 28).map (·.size) = some lf.length)
    (hbp : ∀ W, (binOp .neq 32 (.agg LP) (.agg #[.int .i64 0, .int .i64 0, .int .i64 0, .int .i64 0, .int .i64 0, .int .i64 0])).run Tryd.prog W = .ok (.bool bp) W) (hbr : ∀ W, (binOp .neq 28 (.agg LR) (.agg z32a)).run Tryd.prog W = .ok (.bool br) W) (hbf : ∀ W, (binOp .neq 28 (.agg LF) (.agg z32a)).run Tryd.prog W = .ok (.bool bf) W)
    (hlab : Hid (∀ W, Calls Tryd.prog 38 #[.string v3] W fun e w2 => e = .returned (.bool lb) ∧ W = w2)) (h_o : (inB v1 0 1099511627776) = true) (h_t : (inB v10 0 1099511627776) = true) (h_i : (inB v2 0 1099511627776) = true) (h_d1 : (decide (v9 < 1)) = false) (h_d2 : (decide (3 < v9)) = false) (h_nm : (decide (0 < L)) = false) (h_pz : (bp) = false) (h_rz : (br) = true) :
    Calls Tryd.prog 22 #[.agg R] w fun e w2 => e = .returned (.int .i64 4) ∧ Below w.heap.size w w2 := by
  have hud := Tryd.underlying28
  have hup := Tryd.underlying32
  have i32 : (Tryd.prog.info? 28).map (·.size) = some z32a.toList.length := by kernel_rfl
  have i32a : (Tryd.prog.info? 28).map (·.size) = some z32a.size := by kernel_rfl
  have o32 : z32a.all (·.oneCell') = true := by kernel_rfl
  have hrow0 := Lib.hid (heap_alloc_new w (.cells R 34))
  have hb0 := Lib.hid (show Below w.heap.size w (w.alloc (.cells R 34)) from (Below.refl _ _).alloc (Nat.le_refl _) _)
  have hZ2 := Lib.hid (show ((w.alloc (.cells R 34)).alloc (.cells z32a 28)).heap[w.heap.size + 1]? = some (.cells z32a 28 (0, 0)) from by rw [heapA9, if_pos (by simp)])
  obtain ⟨c0, c1, c2, c3, c74, c75, c76, c77, hr4, hr5, hr6⟩ := hF hrow0.out
  go_enter Tryd.func22, Tryd.ntmps22
  go_wp2_with (first
    | ((with_reducible show wpList _ _ _ (Oper.mk _ (Op.load 32 _) _ _ _ _ :: _) _ _); first | refine wpList_load_midA rfl 32 (.tmp 86) rfl w.heap.size 4 rfl lp _ hr4.out hup rfl i4 LP hP ?_ | refine wpList_load_midG rfl 32 (.tmp 119) rfl w.heap.size 4 rfl lp _ hr4.out hup rfl i4 LP hP ?_)
    | ((with_reducible show wpList _ _ _ (Oper.mk _ (Op.load 28 (.tmp 125)) _ _ _ _ :: _) _ _); refine wpList_load_midG rfl 28 (.tmp 125) rfl w.heap.size 10 rfl lr _ hr5.out hud rfl i5 LR hD ?_)
    | ((with_reducible show wpList _ _ _ (Oper.mk _ (Op.load 28 (.tmp 131)) _ _ _ _ :: _) _ _); refine wpList_load_midG rfl 28 (.tmp 131) rfl w.heap.size 42 rfl lf _ hr6.out hud rfl i6 LF hE ?_)
    | ((with_reducible show wpList _ _ _ (Oper.mk _ (Op.load 28 (.tmp 6)) _ _ _ _ :: _) _ _); refine wpList_load_midG rfl 28 (.tmp 6) rfl (w.heap.size + 1) 0 rfl z32a.toList _ hrz.out hud rfl i32 z32a (Lib.hid rfl) ?_)
    | ((with_reducible show wpList _ _ _ (Oper.mk _ (Op.store 28 (.tmp 6) _) _ _ _ _ :: _) _ _); refine wpList_store_row rfl 28 (.tmp 6) (.tmp 113) rfl (w.heap.size + 1) z32a z32a rfl rfl hZ2 i32a rfl o32 ?_; intro w3 hU3; obtain ⟨hrz, hb3, hrow3, c0, c1, c2, c3, c74, c75, c76, c77, hr4, hr5, hr6⟩ := rc_behind hF hrow0 hb0 hU3))
  repeat (first
    | ((with_reducible refine (big_any v1 _).mono ?_); rintro e w4 ⟨rfl, rfl⟩; go_wp2_with (first
    | ((with_reducible show wpList _ _ _ (Oper.mk _ (Op.load 32 _) _ _ _ _ :: _) _ _); first | refine wpList_load_midA rfl 32 (.tmp 86) rfl w.heap.size 4 rfl lp _ hr4.out hup rfl i4 LP hP ?_ | refine wpList_load_midG rfl 32 (.tmp 119) rfl w.heap.size 4 rfl lp _ hr4.out hup rfl i4 LP hP ?_)
    | ((with_reducible show wpList _ _ _ (Oper.mk _ (Op.load 28 (.tmp 125)) _ _ _ _ :: _) _ _); refine wpList_load_midG rfl 28 (.tmp 125) rfl w.heap.size 10 rfl lr _ hr5.out hud rfl i5 LR hD ?_)
    | ((with_reducible show wpList _ _ _ (Oper.mk _ (Op.load 28 (.tmp 131)) _ _ _ _ :: _) _ _); refine wpList_load_midG rfl 28 (.tmp 131) rfl w.heap.size 42 rfl lf _ hr6.out hud rfl i6 LF hE ?_)
    | ((with_reducible show wpList _ _ _ (Oper.mk _ (Op.load 28 (.tmp 6)) _ _ _ _ :: _) _ _); refine wpList_load_midG rfl 28 (.tmp 6) rfl (w.heap.size + 1) 0 rfl z32a.toList _ hrz.out hud rfl i32 z32a (Lib.hid rfl) ?_)
    | ((with_reducible show wpList _ _ _ (Oper.mk _ (Op.store 28 (.tmp 6) _) _ _ _ _ :: _) _ _); refine wpList_store_row rfl 28 (.tmp 6) (.tmp 113) rfl (w.heap.size + 1) z32a z32a rfl rfl hZ2 i32a rfl o32 ?_; intro w3 hU3; obtain ⟨hrz, hb3, hrow3, c0, c1, c2, c3, c74, c75, c76, c77, hr4, hr5, hr6⟩ := rc_behind hF hrow0 hb0 hU3)))
    | ((with_reducible refine (big_any v10 _).mono ?_); rintro e w4 ⟨rfl, rfl⟩; go_wp2_with (first
    | ((with_reducible show wpList _ _ _ (Oper.mk _ (Op.load 32 _) _ _ _ _ :: _) _ _); first | refine wpList_load_midA rfl 32 (.tmp 86) rfl w.heap.size 4 rfl lp _ hr4.out hup rfl i4 LP hP ?_ | refine wpList_load_midG rfl 32 (.tmp 119) rfl w.heap.size 4 rfl lp _ hr4.out hup rfl i4 LP hP ?_)
    | ((with_reducible show wpList _ _ _ (Oper.mk _ (Op.load 28 (.tmp 125)) _ _ _ _ :: _) _ _); refine wpList_load_midG rfl 28 (.tmp 125) rfl w.heap.size 10 rfl lr _ hr5.out hud rfl i5 LR hD ?_)
    | ((with_reducible show wpList _ _ _ (Oper.mk _ (Op.load 28 (.tmp 131)) _ _ _ _ :: _) _ _); refine wpList_load_midG rfl 28 (.tmp 131) rfl w.heap.size 42 rfl lf _ hr6.out hud rfl i6 LF hE ?_)
    | ((with_reducible show wpList _ _ _ (Oper.mk _ (Op.load 28 (.tmp 6)) _ _ _ _ :: _) _ _); refine wpList_load_midG rfl 28 (.tmp 6) rfl (w.heap.size + 1) 0 rfl z32a.toList _ hrz.out hud rfl i32 z32a (Lib.hid rfl) ?_)
    | ((with_reducible show wpList _ _ _ (Oper.mk _ (Op.store 28 (.tmp 6) _) _ _ _ _ :: _) _ _); refine wpList_store_row rfl 28 (.tmp 6) (.tmp 113) rfl (w.heap.size + 1) z32a z32a rfl rfl hZ2 i32a rfl o32 ?_; intro w3 hU3; obtain ⟨hrz, hb3, hrow3, c0, c1, c2, c3, c74, c75, c76, c77, hr4, hr5, hr6⟩ := rc_behind hF hrow0 hb0 hU3)))
    | ((with_reducible refine (big_any v2 _).mono ?_); rintro e w4 ⟨rfl, rfl⟩; go_wp2_with (first
    | ((with_reducible show wpList _ _ _ (Oper.mk _ (Op.load 32 _) _ _ _ _ :: _) _ _); first | refine wpList_load_midA rfl 32 (.tmp 86) rfl w.heap.size 4 rfl lp _ hr4.out hup rfl i4 LP hP ?_ | refine wpList_load_midG rfl 32 (.tmp 119) rfl w.heap.size 4 rfl lp _ hr4.out hup rfl i4 LP hP ?_)
    | ((with_reducible show wpList _ _ _ (Oper.mk _ (Op.load 28 (.tmp 125)) _ _ _ _ :: _) _ _); refine wpList_load_midG rfl 28 (.tmp 125) rfl w.heap.size 10 rfl lr _ hr5.out hud rfl i5 LR hD ?_)
    | ((with_reducible show wpList _ _ _ (Oper.mk _ (Op.load 28 (.tmp 131)) _ _ _ _ :: _) _ _); refine wpList_load_midG rfl 28 (.tmp 131) rfl w.heap.size 42 rfl lf _ hr6.out hud rfl i6 LF hE ?_)
    | ((with_reducible show wpList _ _ _ (Oper.mk _ (Op.load 28 (.tmp 6)) _ _ _ _ :: _) _ _); refine wpList_load_midG rfl 28 (.tmp 6) rfl (w.heap.size + 1) 0 rfl z32a.toList _ hrz.out hud rfl i32 z32a (Lib.hid rfl) ?_)
    | ((with_reducible show wpList _ _ _ (Oper.mk _ (Op.store 28 (.tmp 6) _) _ _ _ _ :: _) _ _); refine wpList_store_row rfl 28 (.tmp 6) (.tmp 113) rfl (w.heap.size + 1) z32a z32a rfl rfl hZ2 i32a rfl o32 ?_; intro w3 hU3; obtain ⟨hrz, hb3, hrow3, c0, c1, c2, c3, c74, c75, c76, c77, hr4, hr5, hr6⟩ := rc_behind hF hrow0 hb0 hU3))))
  go_ret
  exact ⟨rfl, hb3.out⟩

set_option maxRecDepth 100000 in
set_option maxHeartbeats 1000000 in
theorem rchk3_fz (w : World) (R LP LR LF : Array Value) (lp lr lf : List Value) (v1 v2 v7 v8 v9 v10 : Int) (v3 : ByteArray) (L : Int) (hL : (v3.size : Int) = L) (bp br bf lb : Bool) (hs : R.size = 78) (hF : RcF R lp lr lf 3 v1 v2 v3 v7 v8 v9 v10)
    (hP : Hid (LP = lp.toArray)) (hD : Hid (LR = lr.toArray)) (hE : Hid (LF = lf.toArray)) (i4 : (Tryd.prog.info? 32).map (·.size) = some lp.length) (i5 : (Tryd.prog.info? 28).map (·.size) = some lr.length) (i6 : (Tryd.prog.info? 28).map (·.size) = some lf.length)
    (hbp : ∀ W, (binOp .neq 32 (.agg LP) (.agg #[.int .i64 0, .int .i64 0, .int .i64 0, .int .i64 0, .int .i64 0, .int .i64 0])).run Tryd.prog W = .ok (.bool bp) W) (hbr : ∀ W, (binOp .neq 28 (.agg LR) (.agg z32a)).run Tryd.prog W = .ok (.bool br) W) (hbf : ∀ W, (binOp .neq 28 (.agg LF) (.agg z32a)).run Tryd.prog W = .ok (.bool bf) W)
    (hlab : Hid (∀ W, Calls Tryd.prog 38 #[.string v3] W fun e w2 => e = .returned (.bool lb) ∧ W = w2)) (h_o : (inB v1 0 1099511627776) = true) (h_t : (inB v10 0 1099511627776) = true) (h_i : (inB v2 0 1099511627776) = true) (h_d1 : (decide (v9 < 1)) = false) (h_d2 : (decide (3 < v9)) = false) (h_nm : (decide (0 < L)) = false) (h_pz : (bp) = false) (h_rz : (br) = false) (h_fz : (bf) = true) :
    Calls Tryd.prog 22 #[.agg R] w fun e w2 => e = .returned (.int .i64 4) ∧ Below w.heap.size w w2 := by
  have hud := Tryd.underlying28
  have hup := Tryd.underlying32
  have i32 : (Tryd.prog.info? 28).map (·.size) = some z32a.toList.length := by kernel_rfl
  have i32a : (Tryd.prog.info? 28).map (·.size) = some z32a.size := by kernel_rfl
  have o32 : z32a.all (·.oneCell') = true := by kernel_rfl
  have hrow0 := Lib.hid (heap_alloc_new w (.cells R 34))
  have hb0 := Lib.hid (show Below w.heap.size w (w.alloc (.cells R 34)) from (Below.refl _ _).alloc (Nat.le_refl _) _)
  have hZ2 := Lib.hid (show ((w.alloc (.cells R 34)).alloc (.cells z32a 28)).heap[w.heap.size + 1]? = some (.cells z32a 28 (0, 0)) from by rw [heapA9, if_pos (by simp)])
  obtain ⟨c0, c1, c2, c3, c74, c75, c76, c77, hr4, hr5, hr6⟩ := hF hrow0.out
  go_enter Tryd.func22, Tryd.ntmps22
  go_wp2_with (first
    | ((with_reducible show wpList _ _ _ (Oper.mk _ (Op.load 32 _) _ _ _ _ :: _) _ _); first | refine wpList_load_midA rfl 32 (.tmp 86) rfl w.heap.size 4 rfl lp _ hr4.out hup rfl i4 LP hP ?_ | refine wpList_load_midG rfl 32 (.tmp 119) rfl w.heap.size 4 rfl lp _ hr4.out hup rfl i4 LP hP ?_)
    | ((with_reducible show wpList _ _ _ (Oper.mk _ (Op.load 28 (.tmp 125)) _ _ _ _ :: _) _ _); refine wpList_load_midG rfl 28 (.tmp 125) rfl w.heap.size 10 rfl lr _ hr5.out hud rfl i5 LR hD ?_)
    | ((with_reducible show wpList _ _ _ (Oper.mk _ (Op.load 28 (.tmp 131)) _ _ _ _ :: _) _ _); refine wpList_load_midG rfl 28 (.tmp 131) rfl w.heap.size 42 rfl lf _ hr6.out hud rfl i6 LF hE ?_)
    | ((with_reducible show wpList _ _ _ (Oper.mk _ (Op.load 28 (.tmp 6)) _ _ _ _ :: _) _ _); refine wpList_load_midG rfl 28 (.tmp 6) rfl (w.heap.size + 1) 0 rfl z32a.toList _ hrz.out hud rfl i32 z32a (Lib.hid rfl) ?_)
    | ((with_reducible show wpList _ _ _ (Oper.mk _ (Op.store 28 (.tmp 6) _) _ _ _ _ :: _) _ _); refine wpList_store_row rfl 28 (.tmp 6) (.tmp 113) rfl (w.heap.size + 1) z32a z32a rfl rfl hZ2 i32a rfl o32 ?_; intro w3 hU3; obtain ⟨hrz, hb3, hrow3, c0, c1, c2, c3, c74, c75, c76, c77, hr4, hr5, hr6⟩ := rc_behind hF hrow0 hb0 hU3))
  repeat (first
    | ((with_reducible refine (big_any v1 _).mono ?_); rintro e w4 ⟨rfl, rfl⟩; go_wp2_with (first
    | ((with_reducible show wpList _ _ _ (Oper.mk _ (Op.load 32 _) _ _ _ _ :: _) _ _); first | refine wpList_load_midA rfl 32 (.tmp 86) rfl w.heap.size 4 rfl lp _ hr4.out hup rfl i4 LP hP ?_ | refine wpList_load_midG rfl 32 (.tmp 119) rfl w.heap.size 4 rfl lp _ hr4.out hup rfl i4 LP hP ?_)
    | ((with_reducible show wpList _ _ _ (Oper.mk _ (Op.load 28 (.tmp 125)) _ _ _ _ :: _) _ _); refine wpList_load_midG rfl 28 (.tmp 125) rfl w.heap.size 10 rfl lr _ hr5.out hud rfl i5 LR hD ?_)
    | ((with_reducible show wpList _ _ _ (Oper.mk _ (Op.load 28 (.tmp 131)) _ _ _ _ :: _) _ _); refine wpList_load_midG rfl 28 (.tmp 131) rfl w.heap.size 42 rfl lf _ hr6.out hud rfl i6 LF hE ?_)
    | ((with_reducible show wpList _ _ _ (Oper.mk _ (Op.load 28 (.tmp 6)) _ _ _ _ :: _) _ _); refine wpList_load_midG rfl 28 (.tmp 6) rfl (w.heap.size + 1) 0 rfl z32a.toList _ hrz.out hud rfl i32 z32a (Lib.hid rfl) ?_)
    | ((with_reducible show wpList _ _ _ (Oper.mk _ (Op.store 28 (.tmp 6) _) _ _ _ _ :: _) _ _); refine wpList_store_row rfl 28 (.tmp 6) (.tmp 113) rfl (w.heap.size + 1) z32a z32a rfl rfl hZ2 i32a rfl o32 ?_; intro w3 hU3; obtain ⟨hrz, hb3, hrow3, c0, c1, c2, c3, c74, c75, c76, c77, hr4, hr5, hr6⟩ := rc_behind hF hrow0 hb0 hU3)))
    | ((with_reducible refine (big_any v10 _).mono ?_); rintro e w4 ⟨rfl, rfl⟩; go_wp2_with (first
    | ((with_reducible show wpList _ _ _ (Oper.mk _ (Op.load 32 _) _ _ _ _ :: _) _ _); first | refine wpList_load_midA rfl 32 (.tmp 86) rfl w.heap.size 4 rfl lp _ hr4.out hup rfl i4 LP hP ?_ | refine wpList_load_midG rfl 32 (.tmp 119) rfl w.heap.size 4 rfl lp _ hr4.out hup rfl i4 LP hP ?_)
    | ((with_reducible show wpList _ _ _ (Oper.mk _ (Op.load 28 (.tmp 125)) _ _ _ _ :: _) _ _); refine wpList_load_midG rfl 28 (.tmp 125) rfl w.heap.size 10 rfl lr _ hr5.out hud rfl i5 LR hD ?_)
    | ((with_reducible show wpList _ _ _ (Oper.mk _ (Op.load 28 (.tmp 131)) _ _ _ _ :: _) _ _); refine wpList_load_midG rfl 28 (.tmp 131) rfl w.heap.size 42 rfl lf _ hr6.out hud rfl i6 LF hE ?_)
    | ((with_reducible show wpList _ _ _ (Oper.mk _ (Op.load 28 (.tmp 6)) _ _ _ _ :: _) _ _); refine wpList_load_midG rfl 28 (.tmp 6) rfl (w.heap.size + 1) 0 rfl z32a.toList _ hrz.out hud rfl i32 z32a (Lib.hid rfl) ?_)
    | ((with_reducible show wpList _ _ _ (Oper.mk _ (Op.store 28 (.tmp 6) _) _ _ _ _ :: _) _ _); refine wpList_store_row rfl 28 (.tmp 6) (.tmp 113) rfl (w.heap.size + 1) z32a z32a rfl rfl hZ2 i32a rfl o32 ?_; intro w3 hU3; obtain ⟨hrz, hb3, hrow3, c0, c1, c2, c3, c74, c75, c76, c77, hr4, hr5, hr6⟩ := rc_behind hF hrow0 hb0 hU3)))
    | ((with_reducible refine (big_any v2 _).mono ?_); rintro e w4 ⟨rfl, rfl⟩; go_wp2_with (first
    | ((with_reducible show wpList _ _ _ (Oper.mk _ (Op.load 32 _) _ _ _ _ :: _) _ _); first | refine wpList_load_midA rfl 32 (.tmp 86) rfl w.heap.size 4 rfl lp _ hr4.out hup rfl i4 LP hP ?_ | refine wpList_load_midG rfl 32 (.tmp 119) rfl w.heap.size 4 rfl lp _ hr4.out hup rfl i4 LP hP ?_)
    | ((with_reducible show wpList _ _ _ (Oper.mk _ (Op.load 28 (.tmp 125)) _ _ _ _ :: _) _ _); refine wpList_load_midG rfl 28 (.tmp 125) rfl w.heap.size 10 rfl lr _ hr5.out hud rfl i5 LR hD ?_)
    | ((with_reducible show wpList _ _ _ (Oper.mk _ (Op.load 28 (.tmp 131)) _ _ _ _ :: _) _ _); refine wpList_load_midG rfl 28 (.tmp 131) rfl w.heap.size 42 rfl lf _ hr6.out hud rfl i6 LF hE ?_)
    | ((with_reducible show wpList _ _ _ (Oper.mk _ (Op.load 28 (.tmp 6)) _ _ _ _ :: _) _ _); refine wpList_load_midG rfl 28 (.tmp 6) rfl (w.heap.size + 1) 0 rfl z32a.toList _ hrz.out hud rfl i32 z32a (Lib.hid rfl) ?_)
    | ((with_reducible show wpList _ _ _ (Oper.mk _ (Op.store 28 (.tmp 6) _) _ _ _ _ :: _) _ _); refine wpList_store_row rfl 28 (.tmp 6) (.tmp 113) rfl (w.heap.size + 1) z32a z32a rfl rfl hZ2 i32a rfl o32 ?_; intro w3 hU3; obtain ⟨hrz, hb3, hrow3, c0, c1, c2, c3, c74, c75, c76, c77, hr4, hr5, hr6⟩ := rc_behind hF hrow0 hb0 hU3))))
  go_ret
  exact ⟨rfl, hb3.out⟩

set_option maxRecDepth 100000 in
set_option maxHeartbeats 1000000 in
theorem rchk3_zw (w : World) (R LP LR LF : Array Value) (lp lr lf : List Value) (v1 v2 v7 v8 v9 v10 : Int) (v3 : ByteArray) (L : Int) (hL : (v3.size : Int) = L) (bp br bf lb : Bool) (hs : R.size = 78) (hF : RcF R lp lr lf 3 v1 v2 v3 v7 v8 v9 v10)
    (hP : Hid (LP = lp.toArray)) (hD : Hid (LR = lr.toArray)) (hE : Hid (LF = lf.toArray)) (i4 : (Tryd.prog.info? 32).map (·.size) = some lp.length) (i5 : (Tryd.prog.info? 28).map (·.size) = some lr.length) (i6 : (Tryd.prog.info? 28).map (·.size) = some lf.length)
    (hbp : ∀ W, (binOp .neq 32 (.agg LP) (.agg #[.int .i64 0, .int .i64 0, .int .i64 0, .int .i64 0, .int .i64 0, .int .i64 0])).run Tryd.prog W = .ok (.bool bp) W) (hbr : ∀ W, (binOp .neq 28 (.agg LR) (.agg z32a)).run Tryd.prog W = .ok (.bool br) W) (hbf : ∀ W, (binOp .neq 28 (.agg LF) (.agg z32a)).run Tryd.prog W = .ok (.bool bf) W)
    (hlab : Hid (∀ W, Calls Tryd.prog 38 #[.string v3] W fun e w2 => e = .returned (.bool lb) ∧ W = w2)) (h_o : (inB v1 0 1099511627776) = true) (h_t : (inB v10 0 1099511627776) = true) (h_i : (inB v2 0 1099511627776) = true) (h_d1 : (decide (v9 < 1)) = false) (h_d2 : (decide (3 < v9)) = false) (h_nm : (decide (0 < L)) = false) (h_pz : (bp) = false) (h_rz : (br) = false) (h_fz : (bf) = false) (h_zw : (v7 != 0) = true) (g_zw : (v7 == 0) = false) :
    Calls Tryd.prog 22 #[.agg R] w fun e w2 => e = .returned (.int .i64 4) ∧ Below w.heap.size w w2 := by
  have hud := Tryd.underlying28
  have hup := Tryd.underlying32
  have i32 : (Tryd.prog.info? 28).map (·.size) = some z32a.toList.length := by kernel_rfl
  have i32a : (Tryd.prog.info? 28).map (·.size) = some z32a.size := by kernel_rfl
  have o32 : z32a.all (·.oneCell') = true := by kernel_rfl
  have hrow0 := Lib.hid (heap_alloc_new w (.cells R 34))
  have hb0 := Lib.hid (show Below w.heap.size w (w.alloc (.cells R 34)) from (Below.refl _ _).alloc (Nat.le_refl _) _)
  have hZ2 := Lib.hid (show ((w.alloc (.cells R 34)).alloc (.cells z32a 28)).heap[w.heap.size + 1]? = some (.cells z32a 28 (0, 0)) from by rw [heapA9, if_pos (by simp)])
  obtain ⟨c0, c1, c2, c3, c74, c75, c76, c77, hr4, hr5, hr6⟩ := hF hrow0.out
  go_enter Tryd.func22, Tryd.ntmps22
  go_wp2_with (first
    | ((with_reducible show wpList _ _ _ (Oper.mk _ (Op.load 32 _) _ _ _ _ :: _) _ _); first | refine wpList_load_midA rfl 32 (.tmp 86) rfl w.heap.size 4 rfl lp _ hr4.out hup rfl i4 LP hP ?_ | refine wpList_load_midG rfl 32 (.tmp 119) rfl w.heap.size 4 rfl lp _ hr4.out hup rfl i4 LP hP ?_)
    | ((with_reducible show wpList _ _ _ (Oper.mk _ (Op.load 28 (.tmp 125)) _ _ _ _ :: _) _ _); refine wpList_load_midG rfl 28 (.tmp 125) rfl w.heap.size 10 rfl lr _ hr5.out hud rfl i5 LR hD ?_)
    | ((with_reducible show wpList _ _ _ (Oper.mk _ (Op.load 28 (.tmp 131)) _ _ _ _ :: _) _ _); refine wpList_load_midG rfl 28 (.tmp 131) rfl w.heap.size 42 rfl lf _ hr6.out hud rfl i6 LF hE ?_)
    | ((with_reducible show wpList _ _ _ (Oper.mk _ (Op.load 28 (.tmp 6)) _ _ _ _ :: _) _ _); refine wpList_load_midG rfl 28 (.tmp 6) rfl (w.heap.size + 1) 0 rfl z32a.toList _ hrz.out hud rfl i32 z32a (Lib.hid rfl) ?_)
    | ((with_reducible show wpList _ _ _ (Oper.mk _ (Op.store 28 (.tmp 6) _) _ _ _ _ :: _) _ _); refine wpList_store_row rfl 28 (.tmp 6) (.tmp 113) rfl (w.heap.size + 1) z32a z32a rfl rfl hZ2 i32a rfl o32 ?_; intro w3 hU3; obtain ⟨hrz, hb3, hrow3, c0, c1, c2, c3, c74, c75, c76, c77, hr4, hr5, hr6⟩ := rc_behind hF hrow0 hb0 hU3))
  repeat (first
    | ((with_reducible refine (big_any v1 _).mono ?_); rintro e w4 ⟨rfl, rfl⟩; go_wp2_with (first
    | ((with_reducible show wpList _ _ _ (Oper.mk _ (Op.load 32 _) _ _ _ _ :: _) _ _); first | refine wpList_load_midA rfl 32 (.tmp 86) rfl w.heap.size 4 rfl lp _ hr4.out hup rfl i4 LP hP ?_ | refine wpList_load_midG rfl 32 (.tmp 119) rfl w.heap.size 4 rfl lp _ hr4.out hup rfl i4 LP hP ?_)
    | ((with_reducible show wpList _ _ _ (Oper.mk _ (Op.load 28 (.tmp 125)) _ _ _ _ :: _) _ _); refine wpList_load_midG rfl 28 (.tmp 125) rfl w.heap.size 10 rfl lr _ hr5.out hud rfl i5 LR hD ?_)
    | ((with_reducible show wpList _ _ _ (Oper.mk _ (Op.load 28 (.tmp 131)) _ _ _ _ :: _) _ _); refine wpList_load_midG rfl 28 (.tmp 131) rfl w.heap.size 42 rfl lf _ hr6.out hud rfl i6 LF hE ?_)
    | ((with_reducible show wpList _ _ _ (Oper.mk _ (Op.load 28 (.tmp 6)) _ _ _ _ :: _) _ _); refine wpList_load_midG rfl 28 (.tmp 6) rfl (w.heap.size + 1) 0 rfl z32a.toList _ hrz.out hud rfl i32 z32a (Lib.hid rfl) ?_)
    | ((with_reducible show wpList _ _ _ (Oper.mk _ (Op.store 28 (.tmp 6) _) _ _ _ _ :: _) _ _); refine wpList_store_row rfl 28 (.tmp 6) (.tmp 113) rfl (w.heap.size + 1) z32a z32a rfl rfl hZ2 i32a rfl o32 ?_; intro w3 hU3; obtain ⟨hrz, hb3, hrow3, c0, c1, c2, c3, c74, c75, c76, c77, hr4, hr5, hr6⟩ := rc_behind hF hrow0 hb0 hU3)))
    | ((with_reducible refine (big_any v10 _).mono ?_); rintro e w4 ⟨rfl, rfl⟩; go_wp2_with (first
    | ((with_reducible show wpList _ _ _ (Oper.mk _ (Op.load 32 _) _ _ _ _ :: _) _ _); first | refine wpList_load_midA rfl 32 (.tmp 86) rfl w.heap.size 4 rfl lp _ hr4.out hup rfl i4 LP hP ?_ | refine wpList_load_midG rfl 32 (.tmp 119) rfl w.heap.size 4 rfl lp _ hr4.out hup rfl i4 LP hP ?_)
    | ((with_reducible show wpList _ _ _ (Oper.mk _ (Op.load 28 (.tmp 125)) _ _ _ _ :: _) _ _); refine wpList_load_midG rfl 28 (.tmp 125) rfl w.heap.size 10 rfl lr _ hr5.out hud rfl i5 LR hD ?_)
    | ((with_reducible show wpList _ _ _ (Oper.mk _ (Op.load 28 (.tmp 131)) _ _ _ _ :: _) _ _); refine wpList_load_midG rfl 28 (.tmp 131) rfl w.heap.size 42 rfl lf _ hr6.out hud rfl i6 LF hE ?_)
    | ((with_reducible show wpList _ _ _ (Oper.mk _ (Op.load 28 (.tmp 6)) _ _ _ _ :: _) _ _); refine wpList_load_midG rfl 28 (.tmp 6) rfl (w.heap.size + 1) 0 rfl z32a.toList _ hrz.out hud rfl i32 z32a (Lib.hid rfl) ?_)
    | ((with_reducible show wpList _ _ _ (Oper.mk _ (Op.store 28 (.tmp 6) _) _ _ _ _ :: _) _ _); refine wpList_store_row rfl 28 (.tmp 6) (.tmp 113) rfl (w.heap.size + 1) z32a z32a rfl rfl hZ2 i32a rfl o32 ?_; intro w3 hU3; obtain ⟨hrz, hb3, hrow3, c0, c1, c2, c3, c74, c75, c76, c77, hr4, hr5, hr6⟩ := rc_behind hF hrow0 hb0 hU3)))
    | ((with_reducible refine (big_any v2 _).mono ?_); rintro e w4 ⟨rfl, rfl⟩; go_wp2_with (first
    | ((with_reducible show wpList _ _ _ (Oper.mk _ (Op.load 32 _) _ _ _ _ :: _) _ _); first | refine wpList_load_midA rfl 32 (.tmp 86) rfl w.heap.size 4 rfl lp _ hr4.out hup rfl i4 LP hP ?_ | refine wpList_load_midG rfl 32 (.tmp 119) rfl w.heap.size 4 rfl lp _ hr4.out hup rfl i4 LP hP ?_)
    | ((with_reducible show wpList _ _ _ (Oper.mk _ (Op.load 28 (.tmp 125)) _ _ _ _ :: _) _ _); refine wpList_load_midG rfl 28 (.tmp 125) rfl w.heap.size 10 rfl lr _ hr5.out hud rfl i5 LR hD ?_)
    | ((with_reducible show wpList _ _ _ (Oper.mk _ (Op.load 28 (.tmp 131)) _ _ _ _ :: _) _ _); refine wpList_load_midG rfl 28 (.tmp 131) rfl w.heap.size 42 rfl lf _ hr6.out hud rfl i6 LF hE ?_)
    | ((with_reducible show wpList _ _ _ (Oper.mk _ (Op.load 28 (.tmp 6)) _ _ _ _ :: _) _ _); refine wpList_load_midG rfl 28 (.tmp 6) rfl (w.heap.size + 1) 0 rfl z32a.toList _ hrz.out hud rfl i32 z32a (Lib.hid rfl) ?_)
    | ((with_reducible show wpList _ _ _ (Oper.mk _ (Op.store 28 (.tmp 6) _) _ _ _ _ :: _) _ _); refine wpList_store_row rfl 28 (.tmp 6) (.tmp 113) rfl (w.heap.size + 1) z32a z32a rfl rfl hZ2 i32a rfl o32 ?_; intro w3 hU3; obtain ⟨hrz, hb3, hrow3, c0, c1, c2, c3, c74, c75, c76, c77, hr4, hr5, hr6⟩ := rc_behind hF hrow0 hb0 hU3))))
  go_ret
  exact ⟨rfl, hb3.out⟩

set_option maxRecDepth 100000 in
set_option maxHeartbeats 1000000 in
theorem rchk3_zx (w : World) (R LP LR LF : Array Value) (lp lr lf : List Value) (v1 v2 v7 v8 v9 v10 : Int) (v3 : ByteArray) (L : Int) (hL : (v3.size : Int) = L) (bp br bf lb : Bool) (hs : R.size = 78) (hF : RcF R lp lr lf 3 v1 v2 v3 v7 v8 v9 v10)
    (hP : Hid (LP = lp.toArray)) (hD : Hid (LR = lr.toArray)) (hE : Hid (LF = lf.toArray)) (i4 : (Tryd.prog.info? 32).map (·.size) = some lp.length) (i5 : (Tryd.prog.info? 28).map (·.size) = some lr.length) (i6 : (Tryd.prog.info? 28).map (·.size) = some lf.length)
    (hbp : ∀ W, (binOp .neq 32 (.agg LP) (.agg #[.int .i64 0, .int .i64 0, .int .i64 0, .int .i64 0, .int .i64 0, .int .i64 0])).run Tryd.prog W = .ok (.bool bp) W) (hbr : ∀ W, (binOp .neq 28 (.agg LR) (.agg z32a)).run Tryd.prog W = .ok (.bool br) W) (hbf : ∀ W, (binOp .neq 28 (.agg LF) (.agg z32a)).run Tryd.prog W = .ok (.bool bf) W)
    (hlab : Hid (∀ W, Calls Tryd.prog 38 #[.string v3] W fun e w2 => e = .returned (.bool lb) ∧ W = w2)) (h_o : (inB v1 0 1099511627776) = true) (h_t : (inB v10 0 1099511627776) = true) (h_i : (inB v2 0 1099511627776) = true) (h_d1 : (decide (v9 < 1)) = false) (h_d2 : (decide (3 < v9)) = false) (h_nm : (decide (0 < L)) = false) (h_pz : (bp) = false) (h_rz : (br) = false) (h_fz : (bf) = false) (h_zw : (v7 != 0) = false) (g_zw : (v7 == 0) = true) (h_zx : (v8 != 0) = true) (g_zx : (v8 == 0) = false) :
    Calls Tryd.prog 22 #[.agg R] w fun e w2 => e = .returned (.int .i64 4) ∧ Below w.heap.size w w2 := by
  have hud := Tryd.underlying28
  have hup := Tryd.underlying32
  have i32 : (Tryd.prog.info? 28).map (·.size) = some z32a.toList.length := by kernel_rfl
  have i32a : (Tryd.prog.info? 28).map (·.size) = some z32a.size := by kernel_rfl
  have o32 : z32a.all (·.oneCell') = true := by kernel_rfl
  have hrow0 := Lib.hid (heap_alloc_new w (.cells R 34))
  have hb0 := Lib.hid (show Below w.heap.size w (w.alloc (.cells R 34)) from (Below.refl _ _).alloc (Nat.le_refl _) _)
  have hZ2 := Lib.hid (show ((w.alloc (.cells R 34)).alloc (.cells z32a 28)).heap[w.heap.size + 1]? = some (.cells z32a 28 (0, 0)) from by rw [heapA9, if_pos (by simp)])
  obtain ⟨c0, c1, c2, c3, c74, c75, c76, c77, hr4, hr5, hr6⟩ := hF hrow0.out
  go_enter Tryd.func22, Tryd.ntmps22
  go_wp2_with (first
    | ((with_reducible show wpList _ _ _ (Oper.mk _ (Op.load 32 _) _ _ _ _ :: _) _ _); first | refine wpList_load_midA rfl 32 (.tmp 86) rfl w.heap.size 4 rfl lp _ hr4.out hup rfl i4 LP hP ?_ | refine wpList_load_midG rfl 32 (.tmp 119) rfl w.heap.size 4 rfl lp _ hr4.out hup rfl i4 LP hP ?_)
    | ((with_reducible show wpList _ _ _ (Oper.mk _ (Op.load 28 (.tmp 125)) _ _ _ _ :: _) _ _); refine wpList_load_midG rfl 28 (.tmp 125) rfl w.heap.size 10 rfl lr _ hr5.out hud rfl i5 LR hD ?_)
    | ((with_reducible show wpList _ _ _ (Oper.mk _ (Op.load 28 (.tmp 131)) _ _ _ _ :: _) _ _); refine wpList_load_midG rfl 28 (.tmp 131) rfl w.heap.size 42 rfl lf _ hr6.out hud rfl i6 LF hE ?_)
    | ((with_reducible show wpList _ _ _ (Oper.mk _ (Op.load 28 (.tmp 6)) _ _ _ _ :: _) _ _); refine wpList_load_midG rfl 28 (.tmp 6) rfl (w.heap.size + 1) 0 rfl z32a.toList _ hrz.out hud rfl i32 z32a (Lib.hid rfl) ?_)
    | ((with_reducible show wpList _ _ _ (Oper.mk _ (Op.store 28 (.tmp 6) _) _ _ _ _ :: _) _ _); refine wpList_store_row rfl 28 (.tmp 6) (.tmp 113) rfl (w.heap.size + 1) z32a z32a rfl rfl hZ2 i32a rfl o32 ?_; intro w3 hU3; obtain ⟨hrz, hb3, hrow3, c0, c1, c2, c3, c74, c75, c76, c77, hr4, hr5, hr6⟩ := rc_behind hF hrow0 hb0 hU3))
  repeat (first
    | ((with_reducible refine (big_any v1 _).mono ?_); rintro e w4 ⟨rfl, rfl⟩; go_wp2_with (first
    | ((with_reducible show wpList _ _ _ (Oper.mk _ (Op.load 32 _) _ _ _ _ :: _) _ _); first | refine wpList_load_midA rfl 32 (.tmp 86) rfl w.heap.size 4 rfl lp _ hr4.out hup rfl i4 LP hP ?_ | refine wpList_load_midG rfl 32 (.tmp 119) rfl w.heap.size 4 rfl lp _ hr4.out hup rfl i4 LP hP ?_)
    | ((with_reducible show wpList _ _ _ (Oper.mk _ (Op.load 28 (.tmp 125)) _ _ _ _ :: _) _ _); refine wpList_load_midG rfl 28 (.tmp 125) rfl w.heap.size 10 rfl lr _ hr5.out hud rfl i5 LR hD ?_)
    | ((with_reducible show wpList _ _ _ (Oper.mk _ (Op.load 28 (.tmp 131)) _ _ _ _ :: _) _ _); refine wpList_load_midG rfl 28 (.tmp 131) rfl w.heap.size 42 rfl lf _ hr6.out hud rfl i6 LF hE ?_)
    | ((with_reducible show wpList _ _ _ (Oper.mk _ (Op.load 28 (.tmp 6)) _ _ _ _ :: _) _ _); refine wpList_load_midG rfl 28 (.tmp 6) rfl (w.heap.size + 1) 0 rfl z32a.toList _ hrz.out hud rfl i32 z32a (Lib.hid rfl) ?_)
    | ((with_reducible show wpList _ _ _ (Oper.mk _ (Op.store 28 (.tmp 6) _) _ _ _ _ :: _) _ _); refine wpList_store_row rfl 28 (.tmp 6) (.tmp 113) rfl (w.heap.size + 1) z32a z32a rfl rfl hZ2 i32a rfl o32 ?_; intro w3 hU3; obtain ⟨hrz, hb3, hrow3, c0, c1, c2, c3, c74, c75, c76, c77, hr4, hr5, hr6⟩ := rc_behind hF hrow0 hb0 hU3)))
    | ((with_reducible refine (big_any v10 _).mono ?_); rintro e w4 ⟨rfl, rfl⟩; go_wp2_with (first
    | ((with_reducible show wpList _ _ _ (Oper.mk _ (Op.load 32 _) _ _ _ _ :: _) _ _); first | refine wpList_load_midA rfl 32 (.tmp 86) rfl w.heap.size 4 rfl lp _ hr4.out hup rfl i4 LP hP ?_ | refine wpList_load_midG rfl 32 (.tmp 119) rfl w.heap.size 4 rfl lp _ hr4.out hup rfl i4 LP hP ?_)
    | ((with_reducible show wpList _ _ _ (Oper.mk _ (Op.load 28 (.tmp 125)) _ _ _ _ :: _) _ _); refine wpList_load_midG rfl 28 (.tmp 125) rfl w.heap.size 10 rfl lr _ hr5.out hud rfl i5 LR hD ?_)
    | ((with_reducible show wpList _ _ _ (Oper.mk _ (Op.load 28 (.tmp 131)) _ _ _ _ :: _) _ _); refine wpList_load_midG rfl 28 (.tmp 131) rfl w.heap.size 42 rfl lf _ hr6.out hud rfl i6 LF hE ?_)
    | ((with_reducible show wpList _ _ _ (Oper.mk _ (Op.load 28 (.tmp 6)) _ _ _ _ :: _) _ _); refine wpList_load_midG rfl 28 (.tmp 6) rfl (w.heap.size + 1) 0 rfl z32a.toList _ hrz.out hud rfl i32 z32a (Lib.hid rfl) ?_)
    | ((with_reducible show wpList _ _ _ (Oper.mk _ (Op.store 28 (.tmp 6) _) _ _ _ _ :: _) _ _); refine wpList_store_row rfl 28 (.tmp 6) (.tmp 113) rfl (w.heap.size + 1) z32a z32a rfl rfl hZ2 i32a rfl o32 ?_; intro w3 hU3; obtain ⟨hrz, hb3, hrow3, c0, c1, c2, c3, c74, c75, c76, c77, hr4, hr5, hr6⟩ := rc_behind hF hrow0 hb0 hU3)))
    | ((with_reducible refine (big_any v2 _).mono ?_); rintro e w4 ⟨rfl, rfl⟩; go_wp2_with (first
    | ((with_reducible show wpList _ _ _ (Oper.mk _ (Op.load 32 _) _ _ _ _ :: _) _ _); first | refine wpList_load_midA rfl 32 (.tmp 86) rfl w.heap.size 4 rfl lp _ hr4.out hup rfl i4 LP hP ?_ | refine wpList_load_midG rfl 32 (.tmp 119) rfl w.heap.size 4 rfl lp _ hr4.out hup rfl i4 LP hP ?_)
    | ((with_reducible show wpList _ _ _ (Oper.mk _ (Op.load 28 (.tmp 125)) _ _ _ _ :: _) _ _); refine wpList_load_midG rfl 28 (.tmp 125) rfl w.heap.size 10 rfl lr _ hr5.out hud rfl i5 LR hD ?_)
    | ((with_reducible show wpList _ _ _ (Oper.mk _ (Op.load 28 (.tmp 131)) _ _ _ _ :: _) _ _); refine wpList_load_midG rfl 28 (.tmp 131) rfl w.heap.size 42 rfl lf _ hr6.out hud rfl i6 LF hE ?_)
    | ((with_reducible show wpList _ _ _ (Oper.mk _ (Op.load 28 (.tmp 6)) _ _ _ _ :: _) _ _); refine wpList_load_midG rfl 28 (.tmp 6) rfl (w.heap.size + 1) 0 rfl z32a.toList _ hrz.out hud rfl i32 z32a (Lib.hid rfl) ?_)
    | ((with_reducible show wpList _ _ _ (Oper.mk _ (Op.store 28 (.tmp 6) _) _ _ _ _ :: _) _ _); refine wpList_store_row rfl 28 (.tmp 6) (.tmp 113) rfl (w.heap.size + 1) z32a z32a rfl rfl hZ2 i32a rfl o32 ?_; intro w3 hU3; obtain ⟨hrz, hb3, hrow3, c0, c1, c2, c3, c74, c75, c76, c77, hr4, hr5, hr6⟩ := rc_behind hF hrow0 hb0 hU3))))
  go_ret
  exact ⟨rfl, hb3.out⟩

set_option maxRecDepth 100000 in
set_option maxHeartbeats 1000000 in
theorem rchk3_ok (w : World) (R LP LR LF : Array Value) (lp lr lf : List Value) (v1 v2 v7 v8 v9 v10 : Int) (v3 : ByteArray) (L : Int) (hL : (v3.size : Int) = L) (bp br bf lb : Bool) (hs : R.size = 78) (hF : RcF R lp lr lf 3 v1 v2 v3 v7 v8 v9 v10)
    (hP : Hid (LP = lp.toArray)) (hD : Hid (LR = lr.toArray)) (hE : Hid (LF = lf.toArray)) (i4 : (Tryd.prog.info? 32).map (·.size) = some lp.length) (i5 : (Tryd.prog.info? 28).map (·.size) = some lr.length) (i6 : (Tryd.prog.info? 28).map (·.size) = some lf.length)
    (hbp : ∀ W, (binOp .neq 32 (.agg LP) (.agg #[.int .i64 0, .int .i64 0, .int .i64 0, .int .i64 0, .int .i64 0, .int .i64 0])).run Tryd.prog W = .ok (.bool bp) W) (hbr : ∀ W, (binOp .neq 28 (.agg LR) (.agg z32a)).run Tryd.prog W = .ok (.bool br) W) (hbf : ∀ W, (binOp .neq 28 (.agg LF) (.agg z32a)).run Tryd.prog W = .ok (.bool bf) W)
    (hlab : Hid (∀ W, Calls Tryd.prog 38 #[.string v3] W fun e w2 => e = .returned (.bool lb) ∧ W = w2)) (h_o : (inB v1 0 1099511627776) = true) (h_t : (inB v10 0 1099511627776) = true) (h_i : (inB v2 0 1099511627776) = true) (h_d1 : (decide (v9 < 1)) = false) (h_d2 : (decide (3 < v9)) = false) (h_nm : (decide (0 < L)) = false) (h_pz : (bp) = false) (h_rz : (br) = false) (h_fz : (bf) = false) (h_zw : (v7 != 0) = false) (g_zw : (v7 == 0) = true) (h_zx : (v8 != 0) = false) (g_zx : (v8 == 0) = true) :
    Calls Tryd.prog 22 #[.agg R] w fun e w2 => e = .returned (.int .i64 0) ∧ Below w.heap.size w w2 := by
  have hud := Tryd.underlying28
  have hup := Tryd.underlying32
  have i32 : (Tryd.prog.info? 28).map (·.size) = some z32a.toList.length := by kernel_rfl
  have i32a : (Tryd.prog.info? 28).map (·.size) = some z32a.size := by kernel_rfl
  have o32 : z32a.all (·.oneCell') = true := by kernel_rfl
  have hrow0 := Lib.hid (heap_alloc_new w (.cells R 34))
  have hb0 := Lib.hid (show Below w.heap.size w (w.alloc (.cells R 34)) from (Below.refl _ _).alloc (Nat.le_refl _) _)
  have hZ2 := Lib.hid (show ((w.alloc (.cells R 34)).alloc (.cells z32a 28)).heap[w.heap.size + 1]? = some (.cells z32a 28 (0, 0)) from by rw [heapA9, if_pos (by simp)])
  obtain ⟨c0, c1, c2, c3, c74, c75, c76, c77, hr4, hr5, hr6⟩ := hF hrow0.out
  go_enter Tryd.func22, Tryd.ntmps22
  go_wp2_with (first
    | ((with_reducible show wpList _ _ _ (Oper.mk _ (Op.load 32 _) _ _ _ _ :: _) _ _); first | refine wpList_load_midA rfl 32 (.tmp 86) rfl w.heap.size 4 rfl lp _ hr4.out hup rfl i4 LP hP ?_ | refine wpList_load_midG rfl 32 (.tmp 119) rfl w.heap.size 4 rfl lp _ hr4.out hup rfl i4 LP hP ?_)
    | ((with_reducible show wpList _ _ _ (Oper.mk _ (Op.load 28 (.tmp 125)) _ _ _ _ :: _) _ _); refine wpList_load_midG rfl 28 (.tmp 125) rfl w.heap.size 10 rfl lr _ hr5.out hud rfl i5 LR hD ?_)
    | ((with_reducible show wpList _ _ _ (Oper.mk _ (Op.load 28 (.tmp 131)) _ _ _ _ :: _) _ _); refine wpList_load_midG rfl 28 (.tmp 131) rfl w.heap.size 42 rfl lf _ hr6.out hud rfl i6 LF hE ?_)
    | ((with_reducible show wpList _ _ _ (Oper.mk _ (Op.load 28 (.tmp 6)) _ _ _ _ :: _) _ _); refine wpList_load_midG rfl 28 (.tmp 6) rfl (w.heap.size + 1) 0 rfl z32a.toList _ hrz.out hud rfl i32 z32a (Lib.hid rfl) ?_)
    | ((with_reducible show wpList _ _ _ (Oper.mk _ (Op.store 28 (.tmp 6) _) _ _ _ _ :: _) _ _); refine wpList_store_row rfl 28 (.tmp 6) (.tmp 113) rfl (w.heap.size + 1) z32a z32a rfl rfl hZ2 i32a rfl o32 ?_; intro w3 hU3; obtain ⟨hrz, hb3, hrow3, c0, c1, c2, c3, c74, c75, c76, c77, hr4, hr5, hr6⟩ := rc_behind hF hrow0 hb0 hU3))
  repeat (first
    | ((with_reducible refine (big_any v1 _).mono ?_); rintro e w4 ⟨rfl, rfl⟩; go_wp2_with (first
    | ((with_reducible show wpList _ _ _ (Oper.mk _ (Op.load 32 _) _ _ _ _ :: _) _ _); first | refine wpList_load_midA rfl 32 (.tmp 86) rfl w.heap.size 4 rfl lp _ hr4.out hup rfl i4 LP hP ?_ | refine wpList_load_midG rfl 32 (.tmp 119) rfl w.heap.size 4 rfl lp _ hr4.out hup rfl i4 LP hP ?_)
    | ((with_reducible show wpList _ _ _ (Oper.mk _ (Op.load 28 (.tmp 125)) _ _ _ _ :: _) _ _); refine wpList_load_midG rfl 28 (.tmp 125) rfl w.heap.size 10 rfl lr _ hr5.out hud rfl i5 LR hD ?_)
    | ((with_reducible show wpList _ _ _ (Oper.mk _ (Op.load 28 (.tmp 131)) _ _ _ _ :: _) _ _); refine wpList_load_midG rfl 28 (.tmp 131) rfl w.heap.size 42 rfl lf _ hr6.out hud rfl i6 LF hE ?_)
    | ((with_reducible show wpList _ _ _ (Oper.mk _ (Op.load 28 (.tmp 6)) _ _ _ _ :: _) _ _); refine wpList_load_midG rfl 28 (.tmp 6) rfl (w.heap.size + 1) 0 rfl z32a.toList _ hrz.out hud rfl i32 z32a (Lib.hid rfl) ?_)
    | ((with_reducible show wpList _ _ _ (Oper.mk _ (Op.store 28 (.tmp 6) _) _ _ _ _ :: _) _ _); refine wpList_store_row rfl 28 (.tmp 6) (.tmp 113) rfl (w.heap.size + 1) z32a z32a rfl rfl hZ2 i32a rfl o32 ?_; intro w3 hU3; obtain ⟨hrz, hb3, hrow3, c0, c1, c2, c3, c74, c75, c76, c77, hr4, hr5, hr6⟩ := rc_behind hF hrow0 hb0 hU3)))
    | ((with_reducible refine (big_any v10 _).mono ?_); rintro e w4 ⟨rfl, rfl⟩; go_wp2_with (first
    | ((with_reducible show wpList _ _ _ (Oper.mk _ (Op.load 32 _) _ _ _ _ :: _) _ _); first | refine wpList_load_midA rfl 32 (.tmp 86) rfl w.heap.size 4 rfl lp _ hr4.out hup rfl i4 LP hP ?_ | refine wpList_load_midG rfl 32 (.tmp 119) rfl w.heap.size 4 rfl lp _ hr4.out hup rfl i4 LP hP ?_)
    | ((with_reducible show wpList _ _ _ (Oper.mk _ (Op.load 28 (.tmp 125)) _ _ _ _ :: _) _ _); refine wpList_load_midG rfl 28 (.tmp 125) rfl w.heap.size 10 rfl lr _ hr5.out hud rfl i5 LR hD ?_)
    | ((with_reducible show wpList _ _ _ (Oper.mk _ (Op.load 28 (.tmp 131)) _ _ _ _ :: _) _ _); refine wpList_load_midG rfl 28 (.tmp 131) rfl w.heap.size 42 rfl lf _ hr6.out hud rfl i6 LF hE ?_)
    | ((with_reducible show wpList _ _ _ (Oper.mk _ (Op.load 28 (.tmp 6)) _ _ _ _ :: _) _ _); refine wpList_load_midG rfl 28 (.tmp 6) rfl (w.heap.size + 1) 0 rfl z32a.toList _ hrz.out hud rfl i32 z32a (Lib.hid rfl) ?_)
    | ((with_reducible show wpList _ _ _ (Oper.mk _ (Op.store 28 (.tmp 6) _) _ _ _ _ :: _) _ _); refine wpList_store_row rfl 28 (.tmp 6) (.tmp 113) rfl (w.heap.size + 1) z32a z32a rfl rfl hZ2 i32a rfl o32 ?_; intro w3 hU3; obtain ⟨hrz, hb3, hrow3, c0, c1, c2, c3, c74, c75, c76, c77, hr4, hr5, hr6⟩ := rc_behind hF hrow0 hb0 hU3)))
    | ((with_reducible refine (big_any v2 _).mono ?_); rintro e w4 ⟨rfl, rfl⟩; go_wp2_with (first
    | ((with_reducible show wpList _ _ _ (Oper.mk _ (Op.load 32 _) _ _ _ _ :: _) _ _); first | refine wpList_load_midA rfl 32 (.tmp 86) rfl w.heap.size 4 rfl lp _ hr4.out hup rfl i4 LP hP ?_ | refine wpList_load_midG rfl 32 (.tmp 119) rfl w.heap.size 4 rfl lp _ hr4.out hup rfl i4 LP hP ?_)
    | ((with_reducible show wpList _ _ _ (Oper.mk _ (Op.load 28 (.tmp 125)) _ _ _ _ :: _) _ _); refine wpList_load_midG rfl 28 (.tmp 125) rfl w.heap.size 10 rfl lr _ hr5.out hud rfl i5 LR hD ?_)
    | ((with_reducible show wpList _ _ _ (Oper.mk _ (Op.load 28 (.tmp 131)) _ _ _ _ :: _) _ _); refine wpList_load_midG rfl 28 (.tmp 131) rfl w.heap.size 42 rfl lf _ hr6.out hud rfl i6 LF hE ?_)
    | ((with_reducible show wpList _ _ _ (Oper.mk _ (Op.load 28 (.tmp 6)) _ _ _ _ :: _) _ _); refine wpList_load_midG rfl 28 (.tmp 6) rfl (w.heap.size + 1) 0 rfl z32a.toList _ hrz.out hud rfl i32 z32a (Lib.hid rfl) ?_)
    | ((with_reducible show wpList _ _ _ (Oper.mk _ (Op.store 28 (.tmp 6) _) _ _ _ _ :: _) _ _); refine wpList_store_row rfl 28 (.tmp 6) (.tmp 113) rfl (w.heap.size + 1) z32a z32a rfl rfl hZ2 i32a rfl o32 ?_; intro w3 hU3; obtain ⟨hrz, hb3, hrow3, c0, c1, c2, c3, c74, c75, c76, c77, hr4, hr5, hr6⟩ := rc_behind hF hrow0 hb0 hU3))))
  go_ret
  exact ⟨rfl, hb3.out⟩

end Go.Proofs.YtahnicbokdbjdaaDoor
