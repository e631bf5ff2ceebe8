import Derived.Test.YtpdhceiodgnbmaaGreatDoorF0FollowsSaid
import Derived.Test.YtpdhceiodgnbmaaGreatDoorF1FollowsSaid
import Derived.Test.YtpdhceiodgnbmaaGreatDoorF31FollowsSaid
import Derived.Test.YtpdhceiodgnbmaaGreatDoorF34FollowsSaid
import Derived.Test.YtpdhceiodgnbmaaGreatDoorF11FollowsSaid
set_option linter.unusedVariables false
set_option linter.unusedSimpArgs false
set_option linter.unnecessarySimpa false
set_option maxRecDepth 100000
set_option maxHeartbeats 8000000
namespace Go.Proofs.YtpdhceiodgnbmaaGreatDoor
open Go.RowKit
def z32a:Array Value:=#[.int .u8 0,.int .u8 0,.int .u8 0,.int .u8 0,.int .u8 0,.int .u8 0,.int .u8 0,.int .u8 0,.int .u8 0,.int .u8 0,.int .u8 0,.int .u8 0,.int .u8 0,.int .u8 0,.int .u8 0,.int .u8 0,.int .u8 0,.int .u8 0,.int .u8 0,.int .u8 0,.int .u8 0,.int .u8 0,.int .u8 0,.int .u8 0,.int .u8 0,.int .u8 0,.int .u8 0,.int .u8 0,.int .u8 0,.int .u8 0,.int .u8 0,.int .u8 0]
def RcF(R:Array Value)(lp lr lf:List Value)(v0 v1 v2:Int)(v3:ByteArray)(v7 v8 v9 v10:Int):Prop:=
 ∀ {T:TypeId} {b:Nat} {W:World},W.heap[b]? = some (.cells R T (0,0))->W.cell? ⟨b,0,none⟩=some (.int .i64 v0)/\W.cell? ⟨b,1,none⟩=some (.int .i64 v1)/\W.cell? ⟨b,2,none⟩=some (.int .i64 v2)/\W.cell? ⟨b,3,none⟩=some (.string v3)/\
  W.cell? ⟨b,74,none⟩=some (.int .i64 v7)/\W.cell? ⟨b,75,none⟩=some (.int .i64 v8)/\W.cell? ⟨b,76,none⟩=some (.int .i64 v9)/\W.cell? ⟨b,77,none⟩=some (.int .i64 v10)/\Hid (W.rangeAt b 4 lp)/\Hid (W.rangeAt b 10 lr)/\Hid (W.rangeAt b 42 lf)
theorem Rc.facts(x:Rc)(hx:x.Ok):RcF x.list.toArray x.p.list (cB x.root) (cB x.file) x.kind x.obj x.id x.name x.way x.index x.verdict x.tick:=fun {T b W} h=>by
 refine⟨?_,?_,?_,?_,?_,?_,?_,?_,Hd (ZN h (Rc.sub_p x)),Hd (ZN h (Rc.sub_root hx.root)),Hd (ZN h (Rc.sub_file hx.root hx.file))⟩
 all_goals rw[Za h,List.getElem?_toArray]
 ·exact x.c0
 ·exact x.c1
 ·exact x.c2
 ·exact x.c3
 ·exact Rc.c74 hx.root hx.file
 ·exact Rc.c75 hx.root hx.file
 ·exact Rc.c76 hx.root hx.file
 ·exact Rc.c77 hx.root hx.file
theorem XG{R:Array Value}{lp lr lf:List Value}{v0 v1 v2:Int}{v3:ByteArray}{v7 v8 v9 v10:Int}(hF:RcF R lp lr lf v0 v1 v2 v3 v7 v8 v9 v10){w w3:World}{T D:TypeId}(hrow:Hid ((w.alloc (.cells R T)).heap[w.heap.size]? = some (.cells R T (0,0))))(hb:Hid (Below w.heap.size w (w.alloc (.cells R T))))
  (hU:Hid (Upd (w.heap.size+1) (.cells z32a D (0,0)) ((w.alloc (.cells R T)).alloc (.cells z32a D)) w3)):Hid (w3.rangeAt (w.heap.size+1) 0 z32a.toList)/\Hid (Below w.heap.size w w3)/\Hid (w3.heap[w.heap.size]? = some (.cells R T (0,0)))/\
  w3.cell? ⟨w.heap.size,0,none⟩=some (.int .i64 v0)/\w3.cell? ⟨w.heap.size,1,none⟩=some (.int .i64 v1)/\w3.cell? ⟨w.heap.size,2,none⟩=some (.int .i64 v2)/\w3.cell? ⟨w.heap.size,3,none⟩=some (.string v3)/\
  w3.cell? ⟨w.heap.size,74,none⟩=some (.int .i64 v7)/\w3.cell? ⟨w.heap.size,75,none⟩=some (.int .i64 v8)/\w3.cell? ⟨w.heap.size,76,none⟩=some (.int .i64 v9)/\w3.cell? ⟨w.heap.size,77,none⟩=some (.int .i64 v10)/\Hid (w3.rangeAt w.heap.size 4 lp)/\Hid (w3.rangeAt w.heap.size 10 lr)/\Hid (w3.rangeAt w.heap.size 42 lf):=by
 have hrow3:w3.heap[w.heap.size]? = some (.cells R T (0,0)):=by
  rw[hU.out.block _ oX,ZX,if_neg sX]
  exact hrow.out
 exact⟨Hd (ZN (o:=0) (n:=32) hU.out.here rfl),Hd ((hb.out.alloc sX _).trans (hU.out.below (Nat.le_succ _))),Hd hrow3,hF hrow3⟩
theorem QB(w:World)(R LP LR LF:Array Value)(lp lr lf:List Value)(v1 v2 v7 v8 v9 v10:Int)(v3:ByteArray)(L:Int)(hL:(v3.size:Int)=L)(bp br bf lb:Bool)(hs:R.size=78)(hF:RcF R lp lr lf 1 v1 v2 v3 v7 v8 v9 v10)
  (hP:Hid (LP=lp.toArray)) (hD:Hid (LR=lr.toArray)) (hE:Hid (LF=lf.toArray)) (i4:(Tryz.prog.info? 52).map (·.size)=some lp.length) (i5:(Tryz.prog.info? 46).map (·.size)=some lr.length) (i6:(Tryz.prog.info? 46).map (·.size)=some lf.length)
  (hbp:∀ W,(binOp .neq 52 (.agg LP) (.agg #[.int .i64 0,.int .i64 0,.int .i64 0,.int .i64 0,.int .i64 0,.int .i64 0])).run Tryz.prog W=.ok (.bool bp) W) (hbr:∀ W,(binOp .neq 46 (.agg LR) (.agg z32a)).run Tryz.prog W=.ok (.bool br) W) (hbf:∀ W,(binOp .neq 46 (.agg LF) (.agg z32a)).run Tryz.prog W=.ok (.bool bf) W)
  (hlab:Hid (∀ W,Calls Tryz.prog 93 #[.string v3] W λe w2=>e=.returned (.bool lb)/\W=w2)) (N:Int) (hcase:((inB v1 0 1099511627776)=false/\N=1)\/((inB v1 0 1099511627776)=true/\(inB v10 0 1099511627776)=false/\N=1)\/((inB v1 0 1099511627776)=true/\(inB v10 0 1099511627776)=true/\(lb)=false/\N=6)\/((inB v1 0 1099511627776)=true/\(inB v10 0 1099511627776)=true/\(lb)=true/\Hid (∀ W,Calls Tryz.prog 94 #[.agg LP] W λe w2=>∃ F V,e=.returned (.tuple #[.string F,.int .i64 V,.int .i64 N])/\Below W.heap.size W w2)/\(N != 0)=true)\/((inB v1 0 1099511627776)=true/\(inB v10 0 1099511627776)=true/\(lb)=true/\Hid (∀ W,Calls Tryz.prog 94 #[.agg LP] W λe w2=>∃ F V,e=.returned (.tuple #[.string F,.int .i64 V,.int .i64 0])/\Below W.heap.size W w2)/\(v2 != 0)=true/\(v2==0)=false/\N=4)\/((inB v1 0 1099511627776)=true/\(inB v10 0 1099511627776)=true/\(lb)=true/\Hid (∀ W,Calls Tryz.prog 94 #[.agg LP] W λe w2=>∃ F V,e=.returned (.tuple #[.string F,.int .i64 V,.int .i64 0])/\Below W.heap.size W w2)/\(v2 != 0)=false/\(v2==0)=true/\(v7 != 0)=true/\(v7==0)=false/\N=4)\/((inB v1 0 1099511627776)=true/\(inB v10 0 1099511627776)=true/\(lb)=true/\Hid (∀ W,Calls Tryz.prog 94 #[.agg LP] W λe w2=>∃ F V,e=.returned (.tuple #[.string F,.int .i64 V,.int .i64 0])/\Below W.heap.size W w2)/\(v2 != 0)=false/\(v2==0)=true/\(v7 != 0)=false/\(v7==0)=true/\(v8 != 0)=true/\(v8==0)=false/\N=4)\/((inB v1 0 1099511627776)=true/\(inB v10 0 1099511627776)=true/\(lb)=true/\Hid (∀ W,Calls Tryz.prog 94 #[.agg LP] W λe w2=>∃ F V,e=.returned (.tuple #[.string F,.int .i64 V,.int .i64 0])/\Below W.heap.size W w2)/\(v2 != 0)=false/\(v2==0)=true/\(v7 != 0)=false/\(v7==0)=true/\(v8 != 0)=false/\(v8==0)=true/\(v9 != 0)=true/\(v9==0)=false/\N=4)\/((inB v1 0 1099511627776)=true/\(inB v10 0 1099511627776)=true/\(lb)=true/\Hid (∀ W,Calls Tryz.prog 94 #[.agg LP] W λe w2=>∃ F V,e=.returned (.tuple #[.string F,.int .i64 V,.int .i64 0])/\Below W.heap.size W w2)/\(v2 != 0)=false/\(v2==0)=true/\(v7 != 0)=false/\(v7==0)=true/\(v8 != 0)=false/\(v8==0)=true/\(v9 != 0)=false/\(v9==0)=true/\N=0)) :
  Calls Tryz.prog 44 #[.agg R] w λe w2=>e=.returned (.int .i64 N)/\Below w.heap.size w w2:=by
 have hud:=Tryz.underlying46
 have hup:=Tryz.underlying52
 have i32:(Tryz.prog.info? 46).map (·.size)=some z32a.toList.length:=kX
 have i32a:(Tryz.prog.info? 46).map (·.size)=some z32a.size:=kX
 have o32:z32a.all (·.oneCell')=true:=kX
 have hrow0:=Hd (heap_alloc_new w (.cells R 54))
 have hb0:=Hd (show Below w.heap.size w (w.alloc (.cells R 54)) from bR.alloc nR _)
 have hZ2:=Hd (show ((w.alloc (.cells R 54)).alloc (.cells z32a 46)).heap[w.heap.size+1]? = some (.cells z32a 46 (0,0)) from by rw[ZX,if_pos sX])
 obtain⟨c0,c1,c2,c3,c74,c75,c76,c77,hr4,hr5,hr6⟩:=hF hrow0.out
 rcases hcase with ⟨h_o,rfl⟩|⟨h_o,h_t,rfl⟩|⟨h_o,h_t,h_lab,rfl⟩|⟨h_o,h_t,h_lab,hpar,hN⟩|⟨h_o,h_t,h_lab,hpar,h_zi,g_zi,rfl⟩|⟨h_o,h_t,h_lab,hpar,h_zi,g_zi,h_zw,g_zw,rfl⟩|⟨h_o,h_t,h_lab,hpar,h_zi,g_zi,h_zw,g_zw,h_zx,g_zx,rfl⟩|⟨h_o,h_t,h_lab,hpar,h_zi,g_zi,h_zw,g_zw,h_zx,g_zx,h_zv,g_zv,rfl⟩|⟨h_o,h_t,h_lab,hpar,h_zi,g_zi,h_zw,g_zw,h_zx,g_zx,h_zv,g_zv,rfl⟩
 all_goals
  go_enter Tryz.func44,Tryz.ntmps44
  go_wp2_with (first
  | ((with_reducible refine wL (.load 52 _) ?_);first|refine Q1 rfl 52 (.tmp 86) rfl w.heap.size 4 rfl lp _ hr4.out hup rfl i4 LP hP ?_|refine Zt rfl 52 (.tmp 119) rfl w.heap.size 4 rfl lp _ hr4.out hup rfl i4 LP hP ?_)
  | ((with_reducible refine wL (.load 46 (.tmp 125)) ?_);refine Zt rfl 46 (.tmp 125) rfl w.heap.size 10 rfl lr _ hr5.out hud rfl i5 LR hD ?_)
  | ((with_reducible refine wL (.load 46 (.tmp 131)) ?_);refine Zt rfl 46 (.tmp 131) rfl w.heap.size 42 rfl lf _ hr6.out hud rfl i6 LF hE ?_)
  | ((with_reducible refine wL (.load 46 (.tmp 6)) ?_);refine Zt rfl 46 (.tmp 6) rfl (w.heap.size+1) 0 rfl z32a.toList _ hrz.out hud rfl i32 z32a (Hd rfl) ?_)
  | ((with_reducible refine wL (.store 46 (.tmp 6) _) ?_);refine Zc rfl 46 (.tmp 6) (.tmp 113) rfl (w.heap.size+1) z32a z32a rfl rfl hZ2 i32a rfl o32 ?_;intro w3 hU3;obtain⟨hrz,hb3,hrow3,c0,c1,c2,c3,c74,c75,c76,c77,hr4,hr5,hr6⟩:=XG hF hrow0 hb0 hU3)
  | ((with_reducible refine(JZ _ _).mono ?_);rintro e w4 ⟨rfl,rfl⟩)
  | ((with_reducible refine(hlab.out _).mono ?_);rintro e w4 ⟨rfl,rfl⟩)
  | ((with_reducible refine(hpar.out _).mono ?_);rintro e w5 ⟨F,V,rfl,hnew⟩;have hrow5:=Hd ((hnew.block _ (Zb hrow0.out)).trans hrow0.out);have hb5:=Hd (hb0.out.trans (hnew.mono hb0.out.size));clear c0 c1 c2 c3 c74 c75 c76 c77 hr4 hr5 hr6 hnew;obtain⟨c0,c1,c2,c3,c74,c75,c76,c77,hr4,hr5,hr6⟩:=hF hrow5.out))
  go_ret
  first
   | exact⟨rfl,hb3.out⟩
   | exact⟨rfl,hb5.out⟩
   | exact⟨rfl,hb0.out⟩
theorem ZY(w:World)(R LP LR LF:Array Value)(lp lr lf:List Value)(v1 v2 v7 v8 v9 v10:Int)(v3:ByteArray)(L:Int)(hL:(v3.size:Int)=L)(bp br bf lb:Bool)(hs:R.size=78)(hF:RcF R lp lr lf 2 v1 v2 v3 v7 v8 v9 v10)
  (hP:Hid (LP=lp.toArray)) (hD:Hid (LR=lr.toArray)) (hE:Hid (LF=lf.toArray)) (i4:(Tryz.prog.info? 52).map (·.size)=some lp.length) (i5:(Tryz.prog.info? 46).map (·.size)=some lr.length) (i6:(Tryz.prog.info? 46).map (·.size)=some lf.length)
  (hbp:∀ W,(binOp .neq 52 (.agg LP) (.agg #[.int .i64 0,.int .i64 0,.int .i64 0,.int .i64 0,.int .i64 0,.int .i64 0])).run Tryz.prog W=.ok (.bool bp) W) (hbr:∀ W,(binOp .neq 46 (.agg LR) (.agg z32a)).run Tryz.prog W=.ok (.bool br) W) (hbf:∀ W,(binOp .neq 46 (.agg LF) (.agg z32a)).run Tryz.prog W=.ok (.bool bf) W)
  (hlab:Hid (∀ W,Calls Tryz.prog 93 #[.string v3] W λe w2=>e=.returned (.bool lb)/\W=w2)) (N:Int) (hcase:((inB v1 0 1099511627776)=false/\N=1)\/((inB v1 0 1099511627776)=true/\(inB v10 0 1099511627776)=false/\N=1)\/((inB v1 0 1099511627776)=true/\(inB v10 0 1099511627776)=true/\(inB v2 0 1099511627776)=false/\N=1)\/((inB v1 0 1099511627776)=true/\(inB v10 0 1099511627776)=true/\(inB v2 0 1099511627776)=true/\(decide (v7<1))=true/\N=1)\/((inB v1 0 1099511627776)=true/\(inB v10 0 1099511627776)=true/\(inB v2 0 1099511627776)=true/\(decide (v7<1))=false/\(decide (2<v7))=true/\N=1)\/((inB v1 0 1099511627776)=true/\(inB v10 0 1099511627776)=true/\(inB v2 0 1099511627776)=true/\(decide (v7<1))=false/\(decide (2<v7))=false/\(decide (v8<0))=true/\N=1)\/((inB v1 0 1099511627776)=true/\(inB v10 0 1099511627776)=true/\(inB v2 0 1099511627776)=true/\(decide (v7<1))=false/\(decide (2<v7))=false/\(decide (v8<0))=false/\(decide (1048576<v8))=true/\N=1)\/((inB v1 0 1099511627776)=true/\(inB v10 0 1099511627776)=true/\(inB v2 0 1099511627776)=true/\(decide (v7<1))=false/\(decide (2<v7))=false/\(decide (v8<0))=false/\(decide (1048576<v8))=false/\(decide (0<L))=true/\N=4)\/((inB v1 0 1099511627776)=true/\(inB v10 0 1099511627776)=true/\(inB v2 0 1099511627776)=true/\(decide (v7<1))=false/\(decide (2<v7))=false/\(decide (v8<0))=false/\(decide (1048576<v8))=false/\(decide (0<L))=false/\(bp)=true/\N=4)\/((inB v1 0 1099511627776)=true/\(inB v10 0 1099511627776)=true/\(inB v2 0 1099511627776)=true/\(decide (v7<1))=false/\(decide (2<v7))=false/\(decide (v8<0))=false/\(decide (1048576<v8))=false/\(decide (0<L))=false/\(bp)=false/\(br)=true/\N=4)\/((inB v1 0 1099511627776)=true/\(inB v10 0 1099511627776)=true/\(inB v2 0 1099511627776)=true/\(decide (v7<1))=false/\(decide (2<v7))=false/\(decide (v8<0))=false/\(decide (1048576<v8))=false/\(decide (0<L))=false/\(bp)=false/\(br)=false/\(bf)=true/\N=4)\/((inB v1 0 1099511627776)=true/\(inB v10 0 1099511627776)=true/\(inB v2 0 1099511627776)=true/\(decide (v7<1))=false/\(decide (2<v7))=false/\(decide (v8<0))=false/\(decide (1048576<v8))=false/\(decide (0<L))=false/\(bp)=false/\(br)=false/\(bf)=false/\(v9 != 0)=true/\(v9==0)=false/\N=4)\/((inB v1 0 1099511627776)=true/\(inB v10 0 1099511627776)=true/\(inB v2 0 1099511627776)=true/\(decide (v7<1))=false/\(decide (2<v7))=false/\(decide (v8<0))=false/\(decide (1048576<v8))=false/\(decide (0<L))=false/\(bp)=false/\(br)=false/\(bf)=false/\(v9 != 0)=false/\(v9==0)=true/\N=0)) :
  Calls Tryz.prog 44 #[.agg R] w λe w2=>e=.returned (.int .i64 N)/\Below w.heap.size w w2:=by
 have hud:=Tryz.underlying46
 have hup:=Tryz.underlying52
 have i32:(Tryz.prog.info? 46).map (·.size)=some z32a.toList.length:=kX
 have i32a:(Tryz.prog.info? 46).map (·.size)=some z32a.size:=kX
 have o32:z32a.all (·.oneCell')=true:=kX
 have hrow0:=Hd (heap_alloc_new w (.cells R 54))
 have hb0:=Hd (show Below w.heap.size w (w.alloc (.cells R 54)) from bR.alloc nR _)
 have hZ2:=Hd (show ((w.alloc (.cells R 54)).alloc (.cells z32a 46)).heap[w.heap.size+1]? = some (.cells z32a 46 (0,0)) from by rw[ZX,if_pos sX])
 obtain⟨c0,c1,c2,c3,c74,c75,c76,c77,hr4,hr5,hr6⟩:=hF hrow0.out
 rcases hcase with ⟨h_o,rfl⟩|⟨h_o,h_t,rfl⟩|⟨h_o,h_t,h_i,rfl⟩|⟨h_o,h_t,h_i,h_w1,rfl⟩|⟨h_o,h_t,h_i,h_w1,h_w2,rfl⟩|⟨h_o,h_t,h_i,h_w1,h_w2,h_x1,rfl⟩|⟨h_o,h_t,h_i,h_w1,h_w2,h_x1,h_x2,rfl⟩|⟨h_o,h_t,h_i,h_w1,h_w2,h_x1,h_x2,h_nm,rfl⟩|⟨h_o,h_t,h_i,h_w1,h_w2,h_x1,h_x2,h_nm,h_pz,rfl⟩|⟨h_o,h_t,h_i,h_w1,h_w2,h_x1,h_x2,h_nm,h_pz,h_rz,rfl⟩|⟨h_o,h_t,h_i,h_w1,h_w2,h_x1,h_x2,h_nm,h_pz,h_rz,h_fz,rfl⟩|⟨h_o,h_t,h_i,h_w1,h_w2,h_x1,h_x2,h_nm,h_pz,h_rz,h_fz,h_zv,g_zv,rfl⟩|⟨h_o,h_t,h_i,h_w1,h_w2,h_x1,h_x2,h_nm,h_pz,h_rz,h_fz,h_zv,g_zv,rfl⟩
 all_goals
  go_enter Tryz.func44,Tryz.ntmps44
  go_wp2_with (first
  | ((with_reducible refine wL (.load 52 _) ?_);first|refine Q1 rfl 52 (.tmp 86) rfl w.heap.size 4 rfl lp _ hr4.out hup rfl i4 LP hP ?_|refine Zt rfl 52 (.tmp 119) rfl w.heap.size 4 rfl lp _ hr4.out hup rfl i4 LP hP ?_)
  | ((with_reducible refine wL (.load 46 (.tmp 125)) ?_);refine Zt rfl 46 (.tmp 125) rfl w.heap.size 10 rfl lr _ hr5.out hud rfl i5 LR hD ?_)
  | ((with_reducible refine wL (.load 46 (.tmp 131)) ?_);refine Zt rfl 46 (.tmp 131) rfl w.heap.size 42 rfl lf _ hr6.out hud rfl i6 LF hE ?_)
  | ((with_reducible refine wL (.load 46 (.tmp 6)) ?_);refine Zt rfl 46 (.tmp 6) rfl (w.heap.size+1) 0 rfl z32a.toList _ hrz.out hud rfl i32 z32a (Hd rfl) ?_)
  | ((with_reducible refine wL (.store 46 (.tmp 6) _) ?_);refine Zc rfl 46 (.tmp 6) (.tmp 113) rfl (w.heap.size+1) z32a z32a rfl rfl hZ2 i32a rfl o32 ?_;intro w3 hU3;obtain⟨hrz,hb3,hrow3,c0,c1,c2,c3,c74,c75,c76,c77,hr4,hr5,hr6⟩:=XG hF hrow0 hb0 hU3)
  | ((with_reducible refine(JZ _ _).mono ?_);rintro e w4 ⟨rfl,rfl⟩))
  go_ret
  first
   | exact⟨rfl,hb3.out⟩
   | exact⟨rfl,hb5.out⟩
   | exact⟨rfl,hb0.out⟩
theorem Qg(w:World)(R LP LR LF:Array Value)(lp lr lf:List Value)(v1 v2 v7 v8 v9 v10:Int)(v3:ByteArray)(L:Int)(hL:(v3.size:Int)=L)(bp br bf lb:Bool)(hs:R.size=78)(hF:RcF R lp lr lf 3 v1 v2 v3 v7 v8 v9 v10)
  (hP:Hid (LP=lp.toArray)) (hD:Hid (LR=lr.toArray)) (hE:Hid (LF=lf.toArray)) (i4:(Tryz.prog.info? 52).map (·.size)=some lp.length) (i5:(Tryz.prog.info? 46).map (·.size)=some lr.length) (i6:(Tryz.prog.info? 46).map (·.size)=some lf.length)
  (hbp:∀ W,(binOp .neq 52 (.agg LP) (.agg #[.int .i64 0,.int .i64 0,.int .i64 0,.int .i64 0,.int .i64 0,.int .i64 0])).run Tryz.prog W=.ok (.bool bp) W) (hbr:∀ W,(binOp .neq 46 (.agg LR) (.agg z32a)).run Tryz.prog W=.ok (.bool br) W) (hbf:∀ W,(binOp .neq 46 (.agg LF) (.agg z32a)).run Tryz.prog W=.ok (.bool bf) W)
  (hlab:Hid (∀ W,Calls Tryz.prog 93 #[.string v3] W λe w2=>e=.returned (.bool lb)/\W=w2)) (N:Int) (hcase:((inB v1 0 1099511627776)=false/\N=1)\/((inB v1 0 1099511627776)=true/\(inB v10 0 1099511627776)=false/\N=1)\/((inB v1 0 1099511627776)=true/\(inB v10 0 1099511627776)=true/\(inB v2 0 1099511627776)=false/\N=1)\/((inB v1 0 1099511627776)=true/\(inB v10 0 1099511627776)=true/\(inB v2 0 1099511627776)=true/\(decide (v9<1))=true/\N=1)\/((inB v1 0 1099511627776)=true/\(inB v10 0 1099511627776)=true/\(inB v2 0 1099511627776)=true/\(decide (v9<1))=false/\(decide (3<v9))=true/\N=1)\/((inB v1 0 1099511627776)=true/\(inB v10 0 1099511627776)=true/\(inB v2 0 1099511627776)=true/\(decide (v9<1))=false/\(decide (3<v9))=false/\(decide (0<L))=true/\N=4)\/((inB v1 0 1099511627776)=true/\(inB v10 0 1099511627776)=true/\(inB v2 0 1099511627776)=true/\(decide (v9<1))=false/\(decide (3<v9))=false/\(decide (0<L))=false/\(bp)=true/\N=4)\/((inB v1 0 1099511627776)=true/\(inB v10 0 1099511627776)=true/\(inB v2 0 1099511627776)=true/\(decide (v9<1))=false/\(decide (3<v9))=false/\(decide (0<L))=false/\(bp)=false/\(br)=true/\N=4)\/((inB v1 0 1099511627776)=true/\(inB v10 0 1099511627776)=true/\(inB v2 0 1099511627776)=true/\(decide (v9<1))=false/\(decide (3<v9))=false/\(decide (0<L))=false/\(bp)=false/\(br)=false/\(bf)=true/\N=4)\/((inB v1 0 1099511627776)=true/\(inB v10 0 1099511627776)=true/\(inB v2 0 1099511627776)=true/\(decide (v9<1))=false/\(decide (3<v9))=false/\(decide (0<L))=false/\(bp)=false/\(br)=false/\(bf)=false/\(v7 != 0)=true/\(v7==0)=false/\N=4)\/((inB v1 0 1099511627776)=true/\(inB v10 0 1099511627776)=true/\(inB v2 0 1099511627776)=true/\(decide (v9<1))=false/\(decide (3<v9))=false/\(decide (0<L))=false/\(bp)=false/\(br)=false/\(bf)=false/\(v7 != 0)=false/\(v7==0)=true/\(v8 != 0)=true/\(v8==0)=false/\N=4)\/((inB v1 0 1099511627776)=true/\(inB v10 0 1099511627776)=true/\(inB v2 0 1099511627776)=true/\(decide (v9<1))=false/\(decide (3<v9))=false/\(decide (0<L))=false/\(bp)=false/\(br)=false/\(bf)=false/\(v7 != 0)=false/\(v7==0)=true/\(v8 != 0)=false/\(v8==0)=true/\N=0)) :
  Calls Tryz.prog 44 #[.agg R] w λe w2=>e=.returned (.int .i64 N)/\Below w.heap.size w w2:=by
 have hud:=Tryz.underlying46
 have hup:=Tryz.underlying52
 have i32:(Tryz.prog.info? 46).map (·.size)=some z32a.toList.length:=kX
 have i32a:(Tryz.prog.info? 46).map (·.size)=some z32a.size:=kX
 have o32:z32a.all (·.oneCell')=true:=kX
 have hrow0:=Hd (heap_alloc_new w (.cells R 54))
 have hb0:=Hd (show Below w.heap.size w (w.alloc (.cells R 54)) from bR.alloc nR _)
 have hZ2:=Hd (show ((w.alloc (.cells R 54)).alloc (.cells z32a 46)).heap[w.heap.size+1]? = some (.cells z32a 46 (0,0)) from by rw[ZX,if_pos sX])
 obtain⟨c0,c1,c2,c3,c74,c75,c76,c77,hr4,hr5,hr6⟩:=hF hrow0.out
 rcases hcase with ⟨h_o,rfl⟩|⟨h_o,h_t,rfl⟩|⟨h_o,h_t,h_i,rfl⟩|⟨h_o,h_t,h_i,h_d1,rfl⟩|⟨h_o,h_t,h_i,h_d1,h_d2,rfl⟩|⟨h_o,h_t,h_i,h_d1,h_d2,h_nm,rfl⟩|⟨h_o,h_t,h_i,h_d1,h_d2,h_nm,h_pz,rfl⟩|⟨h_o,h_t,h_i,h_d1,h_d2,h_nm,h_pz,h_rz,rfl⟩|⟨h_o,h_t,h_i,h_d1,h_d2,h_nm,h_pz,h_rz,h_fz,rfl⟩|⟨h_o,h_t,h_i,h_d1,h_d2,h_nm,h_pz,h_rz,h_fz,h_zw,g_zw,rfl⟩|⟨h_o,h_t,h_i,h_d1,h_d2,h_nm,h_pz,h_rz,h_fz,h_zw,g_zw,h_zx,g_zx,rfl⟩|⟨h_o,h_t,h_i,h_d1,h_d2,h_nm,h_pz,h_rz,h_fz,h_zw,g_zw,h_zx,g_zx,rfl⟩
 all_goals
  go_enter Tryz.func44,Tryz.ntmps44
  go_wp2_with (first
  | ((with_reducible refine wL (.load 52 _) ?_);first|refine Q1 rfl 52 (.tmp 86) rfl w.heap.size 4 rfl lp _ hr4.out hup rfl i4 LP hP ?_|refine Zt rfl 52 (.tmp 119) rfl w.heap.size 4 rfl lp _ hr4.out hup rfl i4 LP hP ?_)
  | ((with_reducible refine wL (.load 46 (.tmp 125)) ?_);refine Zt rfl 46 (.tmp 125) rfl w.heap.size 10 rfl lr _ hr5.out hud rfl i5 LR hD ?_)
  | ((with_reducible refine wL (.load 46 (.tmp 131)) ?_);refine Zt rfl 46 (.tmp 131) rfl w.heap.size 42 rfl lf _ hr6.out hud rfl i6 LF hE ?_)
  | ((with_reducible refine wL (.load 46 (.tmp 6)) ?_);refine Zt rfl 46 (.tmp 6) rfl (w.heap.size+1) 0 rfl z32a.toList _ hrz.out hud rfl i32 z32a (Hd rfl) ?_)
  | ((with_reducible refine wL (.store 46 (.tmp 6) _) ?_);refine Zc rfl 46 (.tmp 6) (.tmp 113) rfl (w.heap.size+1) z32a z32a rfl rfl hZ2 i32a rfl o32 ?_;intro w3 hU3;obtain⟨hrz,hb3,hrow3,c0,c1,c2,c3,c74,c75,c76,c77,hr4,hr5,hr6⟩:=XG hF hrow0 hb0 hU3)
  | ((with_reducible refine(JZ _ _).mono ?_);rintro e w4 ⟨rfl,rfl⟩))
  go_ret
  first
   | exact⟨rfl,hb3.out⟩
   | exact⟨rfl,hb5.out⟩
   | exact⟨rfl,hb0.out⟩
theorem Qn(w:World)(R LP LR LF:Array Value)(lp lr lf:List Value)(v1 v2 v7 v8 v9 v10:Int)(v3:ByteArray)(L:Int)(hL:(v3.size:Int)=L)(bp br bf lb:Bool)(hs:R.size=78)(hF:RcF R lp lr lf 4 v1 v2 v3 v7 v8 v9 v10)
  (hP:Hid (LP=lp.toArray)) (hD:Hid (LR=lr.toArray)) (hE:Hid (LF=lf.toArray)) (i4:(Tryz.prog.info? 52).map (·.size)=some lp.length) (i5:(Tryz.prog.info? 46).map (·.size)=some lr.length) (i6:(Tryz.prog.info? 46).map (·.size)=some lf.length)
  (hbp:∀ W,(binOp .neq 52 (.agg LP) (.agg #[.int .i64 0,.int .i64 0,.int .i64 0,.int .i64 0,.int .i64 0,.int .i64 0])).run Tryz.prog W=.ok (.bool bp) W) (hbr:∀ W,(binOp .neq 46 (.agg LR) (.agg z32a)).run Tryz.prog W=.ok (.bool br) W) (hbf:∀ W,(binOp .neq 46 (.agg LF) (.agg z32a)).run Tryz.prog W=.ok (.bool bf) W)
  (hlab:Hid (∀ W,Calls Tryz.prog 93 #[.string v3] W λe w2=>e=.returned (.bool lb)/\W=w2)) (N:Int) (hcase:((inB v1 0 1099511627776)=false/\N=1)\/((inB v1 0 1099511627776)=true/\(inB v10 0 1099511627776)=false/\N=1)\/((inB v1 0 1099511627776)=true/\(inB v10 0 1099511627776)=true/\(decide (0<L))=true/\N=4)\/((inB v1 0 1099511627776)=true/\(inB v10 0 1099511627776)=true/\(decide (0<L))=false/\(bp)=true/\N=4)\/((inB v1 0 1099511627776)=true/\(inB v10 0 1099511627776)=true/\(decide (0<L))=false/\(bp)=false/\(br)=true/\N=4)\/((inB v1 0 1099511627776)=true/\(inB v10 0 1099511627776)=true/\(decide (0<L))=false/\(bp)=false/\(br)=false/\(bf)=true/\N=4)\/((inB v1 0 1099511627776)=true/\(inB v10 0 1099511627776)=true/\(decide (0<L))=false/\(bp)=false/\(br)=false/\(bf)=false/\(v9 != 0)=true/\(v9==0)=false/\N=4)\/((inB v1 0 1099511627776)=true/\(inB v10 0 1099511627776)=true/\(decide (0<L))=false/\(bp)=false/\(br)=false/\(bf)=false/\(v9 != 0)=false/\(v9==0)=true/\(v7 != 0)=true/\(v7==0)=false/\N=4)\/((inB v1 0 1099511627776)=true/\(inB v10 0 1099511627776)=true/\(decide (0<L))=false/\(bp)=false/\(br)=false/\(bf)=false/\(v9 != 0)=false/\(v9==0)=true/\(v7 != 0)=false/\(v7==0)=true/\(v8 != 0)=true/\(v8==0)=false/\N=4)\/((inB v1 0 1099511627776)=true/\(inB v10 0 1099511627776)=true/\(decide (0<L))=false/\(bp)=false/\(br)=false/\(bf)=false/\(v9 != 0)=false/\(v9==0)=true/\(v7 != 0)=false/\(v7==0)=true/\(v8 != 0)=false/\(v8==0)=true/\(v2 != 0)=true/\(v2==0)=false/\N=4)\/((inB v1 0 1099511627776)=true/\(inB v10 0 1099511627776)=true/\(decide (0<L))=false/\(bp)=false/\(br)=false/\(bf)=false/\(v9 != 0)=false/\(v9==0)=true/\(v7 != 0)=false/\(v7==0)=true/\(v8 != 0)=false/\(v8==0)=true/\(v2 != 0)=false/\(v2==0)=true/\N=0)) :
  Calls Tryz.prog 44 #[.agg R] w λe w2=>e=.returned (.int .i64 N)/\Below w.heap.size w w2:=by
 have hud:=Tryz.underlying46
 have hup:=Tryz.underlying52
 have i32:(Tryz.prog.info? 46).map (·.size)=some z32a.toList.length:=kX
 have i32a:(Tryz.prog.info? 46).map (·.size)=some z32a.size:=kX
 have o32:z32a.all (·.oneCell')=true:=kX
 have hrow0:=Hd (heap_alloc_new w (.cells R 54))
 have hb0:=Hd (show Below w.heap.size w (w.alloc (.cells R 54)) from bR.alloc nR _)
 have hZ2:=Hd (show ((w.alloc (.cells R 54)).alloc (.cells z32a 46)).heap[w.heap.size+1]? = some (.cells z32a 46 (0,0)) from by rw[ZX,if_pos sX])
 obtain⟨c0,c1,c2,c3,c74,c75,c76,c77,hr4,hr5,hr6⟩:=hF hrow0.out
 rcases hcase with ⟨h_o,rfl⟩|⟨h_o,h_t,rfl⟩|⟨h_o,h_t,h_nm,rfl⟩|⟨h_o,h_t,h_nm,h_pz,rfl⟩|⟨h_o,h_t,h_nm,h_pz,h_rz,rfl⟩|⟨h_o,h_t,h_nm,h_pz,h_rz,h_fz,rfl⟩|⟨h_o,h_t,h_nm,h_pz,h_rz,h_fz,h_zv,g_zv,rfl⟩|⟨h_o,h_t,h_nm,h_pz,h_rz,h_fz,h_zv,g_zv,h_zw,g_zw,rfl⟩|⟨h_o,h_t,h_nm,h_pz,h_rz,h_fz,h_zv,g_zv,h_zw,g_zw,h_zx,g_zx,rfl⟩|⟨h_o,h_t,h_nm,h_pz,h_rz,h_fz,h_zv,g_zv,h_zw,g_zw,h_zx,g_zx,h_zi,g_zi,rfl⟩|⟨h_o,h_t,h_nm,h_pz,h_rz,h_fz,h_zv,g_zv,h_zw,g_zw,h_zx,g_zx,h_zi,g_zi,rfl⟩
 all_goals
  go_enter Tryz.func44,Tryz.ntmps44
  go_wp2_with (first
  | ((with_reducible refine wL (.load 52 _) ?_);first|refine Q1 rfl 52 (.tmp 86) rfl w.heap.size 4 rfl lp _ hr4.out hup rfl i4 LP hP ?_|refine Zt rfl 52 (.tmp 119) rfl w.heap.size 4 rfl lp _ hr4.out hup rfl i4 LP hP ?_)
  | ((with_reducible refine wL (.load 46 (.tmp 125)) ?_);refine Zt rfl 46 (.tmp 125) rfl w.heap.size 10 rfl lr _ hr5.out hud rfl i5 LR hD ?_)
  | ((with_reducible refine wL (.load 46 (.tmp 131)) ?_);refine Zt rfl 46 (.tmp 131) rfl w.heap.size 42 rfl lf _ hr6.out hud rfl i6 LF hE ?_)
  | ((with_reducible refine wL (.load 46 (.tmp 6)) ?_);refine Zt rfl 46 (.tmp 6) rfl (w.heap.size+1) 0 rfl z32a.toList _ hrz.out hud rfl i32 z32a (Hd rfl) ?_)
  | ((with_reducible refine wL (.store 46 (.tmp 6) _) ?_);refine Zc rfl 46 (.tmp 6) (.tmp 113) rfl (w.heap.size+1) z32a z32a rfl rfl hZ2 i32a rfl o32 ?_;intro w3 hU3;obtain⟨hrz,hb3,hrow3,c0,c1,c2,c3,c74,c75,c76,c77,hr4,hr5,hr6⟩:=XG hF hrow0 hb0 hU3)
  | ((with_reducible refine(JZ _ _).mono ?_);rintro e w4 ⟨rfl,rfl⟩))
  go_ret
  first
   | exact⟨rfl,hb3.out⟩
   | exact⟨rfl,hb5.out⟩
   | exact⟨rfl,hb0.out⟩
end Go.Proofs.YtpdhceiodgnbmaaGreatDoor
