import Derived.Test.YtpdhceiodgnbmaaGreatDoorF0ReplaysSaid
import Derived.Test.YtpdhceiodgnbmaaGreatDoorF1ReplaysSaid
import Derived.Test.YtpdhceiodgnbmaaGreatDoorF4ReplaysSaid
import Derived.ArgAppend
import Derived.Laws.IdiomStrings
import Derived.Deep.MidRow
import Derived.Deep.Upon
import Derived.Test.YtpdhceiodgnbmaaGreatDoorF25ReplaysSaid
import Derived.Test.YtpdhceiodgnbmaaGreatDoorF26ReplaysSaid
import Derived.Test.YtpdhceiodgnbmaaGreatDoorF27ReplaysSaid
set_option linter.unusedVariables false
set_option linter.unusedSimpArgs false
set_option linter.unnecessarySimpa false
set_option maxRecDepth 100000
set_option maxHeartbeats 8000000
namespace Go.Proofs.YtpdhceiodgnbmaaGreatDoor
open Go.RowKit
def MarkB(base:Nat)(w:World)(v:Value)(bs:List UInt8):Prop:=
 ∃ g cap,v=.slice (some ⟨g,0,none⟩) bs.length cap/\base<=g/\g<w.heap.size/\bs.length<=cap/\cap<=maxLen/\(∀ i,i<bs.length->w.cell? ⟨g,i,none⟩=some (.int .u8 ((cf bs i).toNat:Int)))/\
  ∀ j,bs.length<=j->j<cap->(w.cell? ⟨g,j,none⟩).isSome=true/\w.frozen? ⟨g,j,none⟩=false
theorem MarkB.arg{base:Nat}{w:World}{v:Value}{bs:List UInt8}(h:MarkB base w v bs):∃ a c,v=.slice a bs.length c/\ArgB w a c bs:=by
 obtain⟨g,cap,rfl,h1,h2,h3,h4,h5,h6⟩:=h
 refine⟨_,cap,rfl,h3,h4,(λe=>by cases e),λi hi=>⟨g,0,rfl,?_⟩⟩
 rw[Nat.zero_add]
 exact h5 i hi
section
variable {w:World} {ops:Array Oper} {rest:List Oper} {o:Oper} {a:Act} {Q:Exit->Act->World->Prop}
end
theorem GN{K:Act->World->Prop}{Q:Exit->Act->World->Prop}{o:Oper}{a:Act}{w:World}(x:Operand)(ho:o.op=.convert 9 24 x)(s:ByteArray)(hx:a.eval x=.string s)(hs:s.size<=1000000)
  (h:∀ v' w',Hid (MarkB w.heap.size w' v' s.data.toList)->Hid (Below w.heap.size w w')->K (a.put o.dst v') w'):o.wp Tryz.prog a w K Q:=by
 have hrun:=run_bytes_of_string (P:=Tryz.prog) w 9 24 5 s Tryz.underlying9 Tryz.underlying24 Tryz.underlying5
 have hge:=grownCap_ge w s.size 0 5
 have hcm:=grownCap_le_maxLen w s.size 0 5 (by unfold maxLen;omega)
 have hlen:s.data.toList.length=s.size:=sX
 generalize grownCap w s.size 0 5=cap at*
 have hsz:(bytesRow s cap).size=cap:=by simp[bytesRow];omega
 have hnew:(w.drew.alloc (.cells (bytesRow s cap) 5 ((bytesRow s cap).size,(bytesRow s cap).size+1))).heap[w.heap.size]? = some (.cells (bytesRow s cap) 5 ((bytesRow s cap).size,(bytesRow s cap).size+1)):=heap_alloc_new w.drew _
 unfold Oper.wp
 simp[execOp,ho,hx,hrun,Result.andThen,-World.alloc_eq,-World.drew_eq]
 refine h _ _ (Hd ⟨w.heap.size,cap,by rw[hlen],Nat.le_refl _,Zb hnew,oX,hcm,λi hi=>?_,λj hj1 hj2=>⟨?_,?_⟩⟩) (Hd ((Below.refl w.heap.size w).drew.alloc nR _))
 ·simp only[World.cell?,hnew]
  rw[hlen] at hi
  rw[bytesRow,Array.getElem?_append_left (by simpa using hi)]
  simp[cf,hi]
 ·simp only[World.cell?,hnew]
  simp[hsz];omega
 ·have hfz:∀ W:World,W.heap[w.heap.size]? = some (.cells (bytesRow s cap) 5 ((bytesRow s cap).size,(bytesRow s cap).size+1))->W.frozen? ⟨w.heap.size,j,none⟩=false:=λW hW=>by
   simp only[World.frozen?,hW,hsz,Bool.and_eq_false_iff,decide_eq_false_iff_not]
   left;omega
  exact hfz _ hnew
theorem NC{s:ByteArray}(h:Xe s.data.toList=true):s.size<=12:=by
 have hl:s.data.toList.length=s.size:=sX
 unfold Xe at h
 simp at h
 omega
theorem Gh{W:World}{b o:Nat}{bs:List UInt8}(h:W.rangeAt b o (cB bs))(hl:bs.length=32):ArgB W (some ⟨b,o,none⟩) 32 bs:=by
 refine⟨oX,(by unfold maxLen;omega),(λe=>by cases e),λi hi=>⟨_,_,rfl,?_⟩⟩
 refine h i _ ?_
 simp[cB,hi]
theorem Pv(x:Rc)(hx:x.Ok)(T:TypeId){W:World}{b:Nat}(h:W.heap[b]? = some (.cells x.list.toArray T (0,0))):ArgB W (some ⟨b,10,none⟩) 32 x.root:=Gh (QD h (Rc.sub_root hx.root)) hx.root
theorem Rs(x:Rc)(hx:x.Ok)(T:TypeId){W:World}{b:Nat}(h:W.heap[b]? = some (.cells x.list.toArray T (0,0))):ArgB W (some ⟨b,42,none⟩) 32 x.file:=Gh (QD h (Rc.sub_file hx.root hx.file)) hx.file
theorem WM{w:World}{B:Nat}{p0 p1 p2 p3 p4 p5 p6:List UInt8}{a0 a1 a2 a3 a4 a5 a6:Option Addr}{c0 c1 c2 c3 c4 c5 c6 l0 l1 l2 l3 l4 l5 l6:Nat}(hB:w.heap[B]? = some (.cells #[.slice a0 l0 c0,.slice a1 l1 c1,.slice a2 l2 c2,.slice a3 l3 c3,.slice a4 l4 c4,.slice a5 l5 c5,.slice a6 l6 c6] 24 (0,0)))
  (e0:p0.length=l0) (e1:p1.length=l1) (e2:p2.length=l2) (e3:p3.length=l3) (e4:p4.length=l4) (e5:p5.length=l5) (e6:p6.length=l6) (h0:ArgB w a0 c0 p0) (h1:ArgB w a1 c1 p1) (h2:ArgB w a2 c2 p2) (h3:ArgB w a3 c3 p3) (h4:ArgB w a4 c4 p4) (h5:ArgB w a5 c5 p5) (h6:ArgB w a6 c6 p6):RowsAt w B [p0,p1,p2,p3,p4,p5,p6]:=by
 intro k hk
 match k,hk with
 | 0,_=>exact⟨a0,c0,by rw[Za hB];show some (Value.slice a0 l0 c0)=_;rw[<-e0];rfl,h0⟩
 | 1,_=>exact⟨a1,c1,by rw[Za hB];show some (Value.slice a1 l1 c1)=_;rw[<-e1];rfl,h1⟩
 | 2,_=>exact⟨a2,c2,by rw[Za hB];show some (Value.slice a2 l2 c2)=_;rw[<-e2];rfl,h2⟩
 | 3,_=>exact⟨a3,c3,by rw[Za hB];show some (Value.slice a3 l3 c3)=_;rw[<-e3];rfl,h3⟩
 | 4,_=>exact⟨a4,c4,by rw[Za hB];show some (Value.slice a4 l4 c4)=_;rw[<-e4];rfl,h4⟩
 | 5,_=>exact⟨a5,c5,by rw[Za hB];show some (Value.slice a5 l5 c5)=_;rw[<-e5];rfl,h5⟩
 | 6,_=>exact⟨a6,c6,by rw[Za hB];show some (Value.slice a6 l6 c6)=_;rw[<-e6];rfl,h6⟩
theorem QM(v:Int)(h1:0<=v)(h2:v<9223372036854775808)(r:Nat)(hr:r<8):(Z0 v (7-r)).toNat=v.toNat / 256 ^ r % 256:=by
 have h:=R8 v r hr
 unfold PI Gb at h
 have e:(v % 18446744073709551616).toNat=v.toNat:=oX
 rw[e] at h
 omega
theorem Yo(v:Int)(h1:0<=v)(h2:v<=1099511627776):((ZA (Zn v) 0:Nat):Int)=v:=by
 have b0:=QM v h1 oX 7 dX
 have b1:=QM v h1 oX 6 dX
 have b2:=QM v h1 oX 5 dX
 have b3:=QM v h1 oX 4 dX
 have b4:=QM v h1 oX 3 dX
 have b5:=QM v h1 oX 2 dX
 have b6:=QM v h1 oX 1 dX
 have b7:=QM v h1 oX 0 dX
 simp only[Nat.reduceSub,Nat.reducePow,Nat.div_one] at b0 b1 b2 b3 b4 b5 b6 b7
 have e:Zn v=[Z0 v 0,Z0 v 1,Z0 v 2,Z0 v 3,Z0 v 4,Z0 v 5,Z0 v 6,Z0 v 7]:=rfl
 rw[e]
 simp only[ZA,b0,b1,b2,b3,b4,b5,b6,b7]
 omega
theorem HT(v:Int)(h1:0<=v)(h2:v<=1048576):((ZA ((Zn v).drop 4) 0:Nat):Int)=v:=by
 have b4:=QM v h1 oX 3 dX
 have b5:=QM v h1 oX 2 dX
 have b6:=QM v h1 oX 1 dX
 have b7:=QM v h1 oX 0 dX
 simp only[Nat.reduceSub,Nat.reducePow,Nat.div_one] at b4 b5 b6 b7
 have e:(Zn v).drop 4=[Z0 v 4,Z0 v 5,Z0 v 6,Z0 v 7]:=rfl
 rw[e]
 simp only[ZA,b4,b5,b6,b7]
 omega
theorem QR(b:UInt8):ZA [b] 0=b.toNat:=by simp[ZA]
theorem got(A R:List UInt8)(n:Nat)(h:A.length=n):nO (A++R,false) n=A/\nB (A++R,false) n=(R,false):=by
 subst h
 have hs:¬(false=true\/(A++R).length<A.length):=sX
 unfold nO nB Qg YC YJ
 simp only[if_neg hs]
 simp
theorem Q0(A R:List UInt8)(n:Nat)(h:A.length=n):nN (A++R,false) n=(ZA A 0:Nat):=by
 have:=(got A R n h).1
 unfold nO at this
 unfold nN
 rw[this]
theorem Yh(w:World)(R LP LR LF:Array Value)(lp lr lf:List Value)(v1 v2 v7 v8 v9 v10:Int)(v3:ByteArray)(L:Int)(hL:(v3.size:Int)=L)(bp br bf lb:Bool)(hs:R.size=78)(hF:RcF R lp lr lf 1 v1 v2 v3 v7 v8 v9 v10)
  (hP:Hid (LP=lp.toArray)) (hD:Hid (LR=lr.toArray)) (hE:Hid (LF=lf.toArray)) (i4:(Tryz.prog.info? 52).map (·.size)=some lp.length) (i5:(Tryz.prog.info? 46).map (·.size)=some lr.length) (i6:(Tryz.prog.info? 46).map (·.size)=some lf.length)
  (hbp:∀ W,(binOp .neq 52 (.agg LP) (.agg #[.int .i64 0,.int .i64 0,.int .i64 0,.int .i64 0,.int .i64 0,.int .i64 0])).run Tryz.prog W=.ok (.bool bp) W) (hbr:∀ W,(binOp .neq 46 (.agg LR) (.agg z32a)).run Tryz.prog W=.ok (.bool br) W) (hbf:∀ W,(binOp .neq 46 (.agg LF) (.agg z32a)).run Tryz.prog W=.ok (.bool bf) W)
  (hlab:Hid (∀ W,Calls Tryz.prog 93 #[.string v3] W λe w2=>e=.returned (.bool lb)/\W=w2)) (N:Int) (hcase:((inB v1 0 1099511627776)=false/\N=1)\/((inB v1 0 1099511627776)=true/\(inB v10 0 1099511627776)=false/\N=1)\/((inB v1 0 1099511627776)=true/\(inB v10 0 1099511627776)=true/\(lb)=false/\N=6)\/((inB v1 0 1099511627776)=true/\(inB v10 0 1099511627776)=true/\(lb)=true/\Hid (∀ W,Calls Tryz.prog 94 #[.agg LP] W λe w2=>∃ F V,e=.returned (.tuple #[.string F,.int .i64 V,.int .i64 N])/\Below W.heap.size W w2)/\(N != 0)=true)\/((inB v1 0 1099511627776)=true/\(inB v10 0 1099511627776)=true/\(lb)=true/\Hid (∀ W,Calls Tryz.prog 94 #[.agg LP] W λe w2=>∃ F V,e=.returned (.tuple #[.string F,.int .i64 V,.int .i64 0])/\Below W.heap.size W w2)/\(v2 != 0)=true/\(v2==0)=false/\N=4)\/((inB v1 0 1099511627776)=true/\(inB v10 0 1099511627776)=true/\(lb)=true/\Hid (∀ W,Calls Tryz.prog 94 #[.agg LP] W λe w2=>∃ F V,e=.returned (.tuple #[.string F,.int .i64 V,.int .i64 0])/\Below W.heap.size W w2)/\(v2 != 0)=false/\(v2==0)=true/\(v7 != 0)=true/\(v7==0)=false/\N=4)\/((inB v1 0 1099511627776)=true/\(inB v10 0 1099511627776)=true/\(lb)=true/\Hid (∀ W,Calls Tryz.prog 94 #[.agg LP] W λe w2=>∃ F V,e=.returned (.tuple #[.string F,.int .i64 V,.int .i64 0])/\Below W.heap.size W w2)/\(v2 != 0)=false/\(v2==0)=true/\(v7 != 0)=false/\(v7==0)=true/\(v8 != 0)=true/\(v8==0)=false/\N=4)\/((inB v1 0 1099511627776)=true/\(inB v10 0 1099511627776)=true/\(lb)=true/\Hid (∀ W,Calls Tryz.prog 94 #[.agg LP] W λe w2=>∃ F V,e=.returned (.tuple #[.string F,.int .i64 V,.int .i64 0])/\Below W.heap.size W w2)/\(v2 != 0)=false/\(v2==0)=true/\(v7 != 0)=false/\(v7==0)=true/\(v8 != 0)=false/\(v8==0)=true/\(v9 != 0)=true/\(v9==0)=false/\N=4)\/((inB v1 0 1099511627776)=true/\(inB v10 0 1099511627776)=true/\(lb)=true/\Hid (∀ W,Calls Tryz.prog 94 #[.agg LP] W λe w2=>∃ F V,e=.returned (.tuple #[.string F,.int .i64 V,.int .i64 0])/\Below W.heap.size W w2)/\(v2 != 0)=false/\(v2==0)=true/\(v7 != 0)=false/\(v7==0)=true/\(v8 != 0)=false/\(v8==0)=true/\(v9 != 0)=false/\(v9==0)=true/\N=0)) :
  Calls Tryz.prog 44 #[.agg R] w λe w2=>e=.returned (.int .i64 N)/\Below w.heap.size w w2:=by
 have hud:=Tryz.underlying46
 have hup:=Tryz.underlying52
 have i32:(Tryz.prog.info? 46).map (·.size)=some z32a.toList.length:=kX
 have i32a:(Tryz.prog.info? 46).map (·.size)=some z32a.size:=kX
 have o32:z32a.all (·.oneCell')=true:=kX
 have hrow0:=Hd (heap_alloc_new w (.cells R 54))
 have hb0:=Hd (show Below w.heap.size w (w.alloc (.cells R 54)) from bR.alloc nR _)
 have hZ2:=Hd (show ((w.alloc (.cells R 54)).alloc (.cells z32a 46)).heap[w.heap.size+1]? = some (.cells z32a 46 (0,0)) from by rw[Zk,if_pos sX])
 obtain⟨c0,c1,c2,c3,c74,c75,c76,c77,hr4,hr5,hr6⟩:=hF hrow0.out
 rcases hcase with ⟨h_o,rfl⟩|⟨h_o,h_t,rfl⟩|⟨h_o,h_t,h_lab,rfl⟩|⟨h_o,h_t,h_lab,hpar,hN⟩|⟨h_o,h_t,h_lab,hpar,h_zi,g_zi,rfl⟩|⟨h_o,h_t,h_lab,hpar,h_zi,g_zi,h_zw,g_zw,rfl⟩|⟨h_o,h_t,h_lab,hpar,h_zi,g_zi,h_zw,g_zw,h_zx,g_zx,rfl⟩|⟨h_o,h_t,h_lab,hpar,h_zi,g_zi,h_zw,g_zw,h_zx,g_zx,h_zv,g_zv,rfl⟩|⟨h_o,h_t,h_lab,hpar,h_zi,g_zi,h_zw,g_zw,h_zx,g_zx,h_zv,g_zv,rfl⟩
 all_goals
  go_enter Tryz.func44,Tryz.ntmps44
  go_wp2_with (first
  | ((with_reducible refine wL (.load 52 _) ?_);first|refine QT rfl 52 (.tmp 86) rfl w.heap.size 4 rfl lp _ hr4.out hup rfl i4 LP hP ?_|refine Z1 rfl 52 (.tmp 119) rfl w.heap.size 4 rfl lp _ hr4.out hup rfl i4 LP hP ?_)
  | ((with_reducible refine wL (.load 46 (.tmp 125)) ?_);refine Z1 rfl 46 (.tmp 125) rfl w.heap.size 10 rfl lr _ hr5.out hud rfl i5 LR hD ?_)
  | ((with_reducible refine wL (.load 46 (.tmp 131)) ?_);refine Z1 rfl 46 (.tmp 131) rfl w.heap.size 42 rfl lf _ hr6.out hud rfl i6 LF hE ?_)
  | ((with_reducible refine wL (.load 46 (.tmp 6)) ?_);refine Z1 rfl 46 (.tmp 6) rfl (w.heap.size+1) 0 rfl z32a.toList _ hrz.out hud rfl i32 z32a (Hd rfl) ?_)
  | ((with_reducible refine wL (.store 46 (.tmp 6) _) ?_);refine Zc rfl 46 (.tmp 6) (.tmp 113) rfl (w.heap.size+1) z32a z32a rfl rfl hZ2 i32a rfl o32 ?_;intro w3 hU3;obtain⟨hrz,hb3,hrow3,c0,c1,c2,c3,c74,c75,c76,c77,hr4,hr5,hr6⟩:=JN hF hrow0 hb0 hU3)
  | ((with_reducible refine(Uw _ _).mono ?_);rintro e w4 ⟨rfl,rfl⟩)
  | ((with_reducible refine(hlab.out _).mono ?_);rintro e w4 ⟨rfl,rfl⟩)
  | ((with_reducible refine(hpar.out _).mono ?_);rintro e w5 ⟨F,V,rfl,hnew⟩;have hrow5:=Hd ((hnew.block _ (Zb hrow0.out)).trans hrow0.out);have hb5:=Hd (hb0.out.trans (hnew.mono hb0.out.size));clear c0 c1 c2 c3 c74 c75 c76 c77 hr4 hr5 hr6 hnew;obtain⟨c0,c1,c2,c3,c74,c75,c76,c77,hr4,hr5,hr6⟩:=hF hrow5.out))
  go_ret
  first
   | exact⟨rfl,hb3.out⟩
   | exact⟨rfl,hb5.out⟩
   | exact⟨rfl,hb0.out⟩
theorem Qn(w:World)(R LP LR LF:Array Value)(lp lr lf:List Value)(v1 v2 v7 v8 v9 v10:Int)(v3:ByteArray)(L:Int)(hL:(v3.size:Int)=L)(bp br bf lb:Bool)(hs:R.size=78)(hF:RcF R lp lr lf 2 v1 v2 v3 v7 v8 v9 v10)
  (hP:Hid (LP=lp.toArray)) (hD:Hid (LR=lr.toArray)) (hE:Hid (LF=lf.toArray)) (i4:(Tryz.prog.info? 52).map (·.size)=some lp.length) (i5:(Tryz.prog.info? 46).map (·.size)=some lr.length) (i6:(Tryz.prog.info? 46).map (·.size)=some lf.length)
  (hbp:∀ W,(binOp .neq 52 (.agg LP) (.agg #[.int .i64 0,.int .i64 0,.int .i64 0,.int .i64 0,.int .i64 0,.int .i64 0])).run Tryz.prog W=.ok (.bool bp) W) (hbr:∀ W,(binOp .neq 46 (.agg LR) (.agg z32a)).run Tryz.prog W=.ok (.bool br) W) (hbf:∀ W,(binOp .neq 46 (.agg LF) (.agg z32a)).run Tryz.prog W=.ok (.bool bf) W)
  (hlab:Hid (∀ W,Calls Tryz.prog 93 #[.string v3] W λe w2=>e=.returned (.bool lb)/\W=w2)) (N:Int) (hcase:((inB v1 0 1099511627776)=false/\N=1)\/((inB v1 0 1099511627776)=true/\(inB v10 0 1099511627776)=false/\N=1)\/((inB v1 0 1099511627776)=true/\(inB v10 0 1099511627776)=true/\(inB v2 0 1099511627776)=false/\N=1)\/((inB v1 0 1099511627776)=true/\(inB v10 0 1099511627776)=true/\(inB v2 0 1099511627776)=true/\(decide (v7<1))=true/\N=1)\/((inB v1 0 1099511627776)=true/\(inB v10 0 1099511627776)=true/\(inB v2 0 1099511627776)=true/\(decide (v7<1))=false/\(decide (2<v7))=true/\N=1)\/((inB v1 0 1099511627776)=true/\(inB v10 0 1099511627776)=true/\(inB v2 0 1099511627776)=true/\(decide (v7<1))=false/\(decide (2<v7))=false/\(decide (v8<0))=true/\N=1)\/((inB v1 0 1099511627776)=true/\(inB v10 0 1099511627776)=true/\(inB v2 0 1099511627776)=true/\(decide (v7<1))=false/\(decide (2<v7))=false/\(decide (v8<0))=false/\(decide (1048576<v8))=true/\N=1)\/((inB v1 0 1099511627776)=true/\(inB v10 0 1099511627776)=true/\(inB v2 0 1099511627776)=true/\(decide (v7<1))=false/\(decide (2<v7))=false/\(decide (v8<0))=false/\(decide (1048576<v8))=false/\(decide (0<L))=true/\N=4)\/((inB v1 0 1099511627776)=true/\(inB v10 0 1099511627776)=true/\(inB v2 0 1099511627776)=true/\(decide (v7<1))=false/\(decide (2<v7))=false/\(decide (v8<0))=false/\(decide (1048576<v8))=false/\(decide (0<L))=false/\(bp)=true/\N=4)\/((inB v1 0 1099511627776)=true/\(inB v10 0 1099511627776)=true/\(inB v2 0 1099511627776)=true/\(decide (v7<1))=false/\(decide (2<v7))=false/\(decide (v8<0))=false/\(decide (1048576<v8))=false/\(decide (0<L))=false/\(bp)=false/\(br)=true/\N=4)\/((inB v1 0 1099511627776)=true/\(inB v10 0 1099511627776)=true/\(inB v2 0 1099511627776)=true/\(decide (v7<1))=false/\(decide (2<v7))=false/\(decide (v8<0))=false/\(decide (1048576<v8))=false/\(decide (0<L))=false/\(bp)=false/\(br)=false/\(bf)=true/\N=4)\/((inB v1 0 1099511627776)=true/\(inB v10 0 1099511627776)=true/\(inB v2 0 1099511627776)=true/\(decide (v7<1))=false/\(decide (2<v7))=false/\(decide (v8<0))=false/\(decide (1048576<v8))=false/\(decide (0<L))=false/\(bp)=false/\(br)=false/\(bf)=false/\(v9 != 0)=true/\(v9==0)=false/\N=4)\/((inB v1 0 1099511627776)=true/\(inB v10 0 1099511627776)=true/\(inB v2 0 1099511627776)=true/\(decide (v7<1))=false/\(decide (2<v7))=false/\(decide (v8<0))=false/\(decide (1048576<v8))=false/\(decide (0<L))=false/\(bp)=false/\(br)=false/\(bf)=false/\(v9 != 0)=false/\(v9==0)=true/\N=0)) :
  Calls Tryz.prog 44 #[.agg R] w λe w2=>e=.returned (.int .i64 N)/\Below w.heap.size w w2:=by
 have hud:=Tryz.underlying46
 have hup:=Tryz.underlying52
 have i32:(Tryz.prog.info? 46).map (·.size)=some z32a.toList.length:=kX
 have i32a:(Tryz.prog.info? 46).map (·.size)=some z32a.size:=kX
 have o32:z32a.all (·.oneCell')=true:=kX
 have hrow0:=Hd (heap_alloc_new w (.cells R 54))
 have hb0:=Hd (show Below w.heap.size w (w.alloc (.cells R 54)) from bR.alloc nR _)
 have hZ2:=Hd (show ((w.alloc (.cells R 54)).alloc (.cells z32a 46)).heap[w.heap.size+1]? = some (.cells z32a 46 (0,0)) from by rw[Zk,if_pos sX])
 obtain⟨c0,c1,c2,c3,c74,c75,c76,c77,hr4,hr5,hr6⟩:=hF hrow0.out
 rcases hcase with ⟨h_o,rfl⟩|⟨h_o,h_t,rfl⟩|⟨h_o,h_t,h_i,rfl⟩|⟨h_o,h_t,h_i,h_w1,rfl⟩|⟨h_o,h_t,h_i,h_w1,h_w2,rfl⟩|⟨h_o,h_t,h_i,h_w1,h_w2,h_x1,rfl⟩|⟨h_o,h_t,h_i,h_w1,h_w2,h_x1,h_x2,rfl⟩|⟨h_o,h_t,h_i,h_w1,h_w2,h_x1,h_x2,h_nm,rfl⟩|⟨h_o,h_t,h_i,h_w1,h_w2,h_x1,h_x2,h_nm,h_pz,rfl⟩|⟨h_o,h_t,h_i,h_w1,h_w2,h_x1,h_x2,h_nm,h_pz,h_rz,rfl⟩|⟨h_o,h_t,h_i,h_w1,h_w2,h_x1,h_x2,h_nm,h_pz,h_rz,h_fz,rfl⟩|⟨h_o,h_t,h_i,h_w1,h_w2,h_x1,h_x2,h_nm,h_pz,h_rz,h_fz,h_zv,g_zv,rfl⟩|⟨h_o,h_t,h_i,h_w1,h_w2,h_x1,h_x2,h_nm,h_pz,h_rz,h_fz,h_zv,g_zv,rfl⟩
 all_goals
  go_enter Tryz.func44,Tryz.ntmps44
  go_wp2_with (first
  | ((with_reducible refine wL (.load 52 _) ?_);first|refine QT rfl 52 (.tmp 86) rfl w.heap.size 4 rfl lp _ hr4.out hup rfl i4 LP hP ?_|refine Z1 rfl 52 (.tmp 119) rfl w.heap.size 4 rfl lp _ hr4.out hup rfl i4 LP hP ?_)
  | ((with_reducible refine wL (.load 46 (.tmp 125)) ?_);refine Z1 rfl 46 (.tmp 125) rfl w.heap.size 10 rfl lr _ hr5.out hud rfl i5 LR hD ?_)
  | ((with_reducible refine wL (.load 46 (.tmp 131)) ?_);refine Z1 rfl 46 (.tmp 131) rfl w.heap.size 42 rfl lf _ hr6.out hud rfl i6 LF hE ?_)
  | ((with_reducible refine wL (.load 46 (.tmp 6)) ?_);refine Z1 rfl 46 (.tmp 6) rfl (w.heap.size+1) 0 rfl z32a.toList _ hrz.out hud rfl i32 z32a (Hd rfl) ?_)
  | ((with_reducible refine wL (.store 46 (.tmp 6) _) ?_);refine Zc rfl 46 (.tmp 6) (.tmp 113) rfl (w.heap.size+1) z32a z32a rfl rfl hZ2 i32a rfl o32 ?_;intro w3 hU3;obtain⟨hrz,hb3,hrow3,c0,c1,c2,c3,c74,c75,c76,c77,hr4,hr5,hr6⟩:=JN hF hrow0 hb0 hU3)
  | ((with_reducible refine(Uw _ _).mono ?_);rintro e w4 ⟨rfl,rfl⟩))
  go_ret
  first
   | exact⟨rfl,hb3.out⟩
   | exact⟨rfl,hb5.out⟩
   | exact⟨rfl,hb0.out⟩
theorem Qx(w:World)(R LP LR LF:Array Value)(lp lr lf:List Value)(v1 v2 v7 v8 v9 v10:Int)(v3:ByteArray)(L:Int)(hL:(v3.size:Int)=L)(bp br bf lb:Bool)(hs:R.size=78)(hF:RcF R lp lr lf 3 v1 v2 v3 v7 v8 v9 v10)
  (hP:Hid (LP=lp.toArray)) (hD:Hid (LR=lr.toArray)) (hE:Hid (LF=lf.toArray)) (i4:(Tryz.prog.info? 52).map (·.size)=some lp.length) (i5:(Tryz.prog.info? 46).map (·.size)=some lr.length) (i6:(Tryz.prog.info? 46).map (·.size)=some lf.length)
  (hbp:∀ W,(binOp .neq 52 (.agg LP) (.agg #[.int .i64 0,.int .i64 0,.int .i64 0,.int .i64 0,.int .i64 0,.int .i64 0])).run Tryz.prog W=.ok (.bool bp) W) (hbr:∀ W,(binOp .neq 46 (.agg LR) (.agg z32a)).run Tryz.prog W=.ok (.bool br) W) (hbf:∀ W,(binOp .neq 46 (.agg LF) (.agg z32a)).run Tryz.prog W=.ok (.bool bf) W)
  (hlab:Hid (∀ W,Calls Tryz.prog 93 #[.string v3] W λe w2=>e=.returned (.bool lb)/\W=w2)) (N:Int) (hcase:((inB v1 0 1099511627776)=false/\N=1)\/((inB v1 0 1099511627776)=true/\(inB v10 0 1099511627776)=false/\N=1)\/((inB v1 0 1099511627776)=true/\(inB v10 0 1099511627776)=true/\(inB v2 0 1099511627776)=false/\N=1)\/((inB v1 0 1099511627776)=true/\(inB v10 0 1099511627776)=true/\(inB v2 0 1099511627776)=true/\(decide (v9<1))=true/\N=1)\/((inB v1 0 1099511627776)=true/\(inB v10 0 1099511627776)=true/\(inB v2 0 1099511627776)=true/\(decide (v9<1))=false/\(decide (3<v9))=true/\N=1)\/((inB v1 0 1099511627776)=true/\(inB v10 0 1099511627776)=true/\(inB v2 0 1099511627776)=true/\(decide (v9<1))=false/\(decide (3<v9))=false/\(decide (0<L))=true/\N=4)\/((inB v1 0 1099511627776)=true/\(inB v10 0 1099511627776)=true/\(inB v2 0 1099511627776)=true/\(decide (v9<1))=false/\(decide (3<v9))=false/\(decide (0<L))=false/\(bp)=true/\N=4)\/((inB v1 0 1099511627776)=true/\(inB v10 0 1099511627776)=true/\(inB v2 0 1099511627776)=true/\(decide (v9<1))=false/\(decide (3<v9))=false/\(decide (0<L))=false/\(bp)=false/\(br)=true/\N=4)\/((inB v1 0 1099511627776)=true/\(inB v10 0 1099511627776)=true/\(inB v2 0 1099511627776)=true/\(decide (v9<1))=false/\(decide (3<v9))=false/\(decide (0<L))=false/\(bp)=false/\(br)=false/\(bf)=true/\N=4)\/((inB v1 0 1099511627776)=true/\(inB v10 0 1099511627776)=true/\(inB v2 0 1099511627776)=true/\(decide (v9<1))=false/\(decide (3<v9))=false/\(decide (0<L))=false/\(bp)=false/\(br)=false/\(bf)=false/\(v7 != 0)=true/\(v7==0)=false/\N=4)\/((inB v1 0 1099511627776)=true/\(inB v10 0 1099511627776)=true/\(inB v2 0 1099511627776)=true/\(decide (v9<1))=false/\(decide (3<v9))=false/\(decide (0<L))=false/\(bp)=false/\(br)=false/\(bf)=false/\(v7 != 0)=false/\(v7==0)=true/\(v8 != 0)=true/\(v8==0)=false/\N=4)\/((inB v1 0 1099511627776)=true/\(inB v10 0 1099511627776)=true/\(inB v2 0 1099511627776)=true/\(decide (v9<1))=false/\(decide (3<v9))=false/\(decide (0<L))=false/\(bp)=false/\(br)=false/\(bf)=false/\(v7 != 0)=false/\(v7==0)=true/\(v8 != 0)=false/\(v8==0)=true/\N=0)) :
  Calls Tryz.prog 44 #[.agg R] w λe w2=>e=.returned (.int .i64 N)/\Below w.heap.size w w2:=by
 have hud:=Tryz.underlying46
 have hup:=Tryz.underlying52
 have i32:(Tryz.prog.info? 46).map (·.size)=some z32a.toList.length:=kX
 have i32a:(Tryz.prog.info? 46).map (·.size)=some z32a.size:=kX
 have o32:z32a.all (·.oneCell')=true:=kX
 have hrow0:=Hd (heap_alloc_new w (.cells R 54))
 have hb0:=Hd (show Below w.heap.size w (w.alloc (.cells R 54)) from bR.alloc nR _)
 have hZ2:=Hd (show ((w.alloc (.cells R 54)).alloc (.cells z32a 46)).heap[w.heap.size+1]? = some (.cells z32a 46 (0,0)) from by rw[Zk,if_pos sX])
 obtain⟨c0,c1,c2,c3,c74,c75,c76,c77,hr4,hr5,hr6⟩:=hF hrow0.out
 rcases hcase with ⟨h_o,rfl⟩|⟨h_o,h_t,rfl⟩|⟨h_o,h_t,h_i,rfl⟩|⟨h_o,h_t,h_i,h_d1,rfl⟩|⟨h_o,h_t,h_i,h_d1,h_d2,rfl⟩|⟨h_o,h_t,h_i,h_d1,h_d2,h_nm,rfl⟩|⟨h_o,h_t,h_i,h_d1,h_d2,h_nm,h_pz,rfl⟩|⟨h_o,h_t,h_i,h_d1,h_d2,h_nm,h_pz,h_rz,rfl⟩|⟨h_o,h_t,h_i,h_d1,h_d2,h_nm,h_pz,h_rz,h_fz,rfl⟩|⟨h_o,h_t,h_i,h_d1,h_d2,h_nm,h_pz,h_rz,h_fz,h_zw,g_zw,rfl⟩|⟨h_o,h_t,h_i,h_d1,h_d2,h_nm,h_pz,h_rz,h_fz,h_zw,g_zw,h_zx,g_zx,rfl⟩|⟨h_o,h_t,h_i,h_d1,h_d2,h_nm,h_pz,h_rz,h_fz,h_zw,g_zw,h_zx,g_zx,rfl⟩
 all_goals
  go_enter Tryz.func44,Tryz.ntmps44
  go_wp2_with (first
  | ((with_reducible refine wL (.load 52 _) ?_);first|refine QT rfl 52 (.tmp 86) rfl w.heap.size 4 rfl lp _ hr4.out hup rfl i4 LP hP ?_|refine Z1 rfl 52 (.tmp 119) rfl w.heap.size 4 rfl lp _ hr4.out hup rfl i4 LP hP ?_)
  | ((with_reducible refine wL (.load 46 (.tmp 125)) ?_);refine Z1 rfl 46 (.tmp 125) rfl w.heap.size 10 rfl lr _ hr5.out hud rfl i5 LR hD ?_)
  | ((with_reducible refine wL (.load 46 (.tmp 131)) ?_);refine Z1 rfl 46 (.tmp 131) rfl w.heap.size 42 rfl lf _ hr6.out hud rfl i6 LF hE ?_)
  | ((with_reducible refine wL (.load 46 (.tmp 6)) ?_);refine Z1 rfl 46 (.tmp 6) rfl (w.heap.size+1) 0 rfl z32a.toList _ hrz.out hud rfl i32 z32a (Hd rfl) ?_)
  | ((with_reducible refine wL (.store 46 (.tmp 6) _) ?_);refine Zc rfl 46 (.tmp 6) (.tmp 113) rfl (w.heap.size+1) z32a z32a rfl rfl hZ2 i32a rfl o32 ?_;intro w3 hU3;obtain⟨hrz,hb3,hrow3,c0,c1,c2,c3,c74,c75,c76,c77,hr4,hr5,hr6⟩:=JN hF hrow0 hb0 hU3)
  | ((with_reducible refine(Uw _ _).mono ?_);rintro e w4 ⟨rfl,rfl⟩))
  go_ret
  first
   | exact⟨rfl,hb3.out⟩
   | exact⟨rfl,hb5.out⟩
   | exact⟨rfl,hb0.out⟩
theorem Q9(w:World)(R LP LR LF:Array Value)(lp lr lf:List Value)(v1 v2 v7 v8 v9 v10:Int)(v3:ByteArray)(L:Int)(hL:(v3.size:Int)=L)(bp br bf lb:Bool)(hs:R.size=78)(hF:RcF R lp lr lf 4 v1 v2 v3 v7 v8 v9 v10)
  (hP:Hid (LP=lp.toArray)) (hD:Hid (LR=lr.toArray)) (hE:Hid (LF=lf.toArray)) (i4:(Tryz.prog.info? 52).map (·.size)=some lp.length) (i5:(Tryz.prog.info? 46).map (·.size)=some lr.length) (i6:(Tryz.prog.info? 46).map (·.size)=some lf.length)
  (hbp:∀ W,(binOp .neq 52 (.agg LP) (.agg #[.int .i64 0,.int .i64 0,.int .i64 0,.int .i64 0,.int .i64 0,.int .i64 0])).run Tryz.prog W=.ok (.bool bp) W) (hbr:∀ W,(binOp .neq 46 (.agg LR) (.agg z32a)).run Tryz.prog W=.ok (.bool br) W) (hbf:∀ W,(binOp .neq 46 (.agg LF) (.agg z32a)).run Tryz.prog W=.ok (.bool bf) W)
  (hlab:Hid (∀ W,Calls Tryz.prog 93 #[.string v3] W λe w2=>e=.returned (.bool lb)/\W=w2)) (N:Int) (hcase:((inB v1 0 1099511627776)=false/\N=1)\/((inB v1 0 1099511627776)=true/\(inB v10 0 1099511627776)=false/\N=1)\/((inB v1 0 1099511627776)=true/\(inB v10 0 1099511627776)=true/\(decide (0<L))=true/\N=4)\/((inB v1 0 1099511627776)=true/\(inB v10 0 1099511627776)=true/\(decide (0<L))=false/\(bp)=true/\N=4)\/((inB v1 0 1099511627776)=true/\(inB v10 0 1099511627776)=true/\(decide (0<L))=false/\(bp)=false/\(br)=true/\N=4)\/((inB v1 0 1099511627776)=true/\(inB v10 0 1099511627776)=true/\(decide (0<L))=false/\(bp)=false/\(br)=false/\(bf)=true/\N=4)\/((inB v1 0 1099511627776)=true/\(inB v10 0 1099511627776)=true/\(decide (0<L))=false/\(bp)=false/\(br)=false/\(bf)=false/\(v9 != 0)=true/\(v9==0)=false/\N=4)\/((inB v1 0 1099511627776)=true/\(inB v10 0 1099511627776)=true/\(decide (0<L))=false/\(bp)=false/\(br)=false/\(bf)=false/\(v9 != 0)=false/\(v9==0)=true/\(v7 != 0)=true/\(v7==0)=false/\N=4)\/((inB v1 0 1099511627776)=true/\(inB v10 0 1099511627776)=true/\(decide (0<L))=false/\(bp)=false/\(br)=false/\(bf)=false/\(v9 != 0)=false/\(v9==0)=true/\(v7 != 0)=false/\(v7==0)=true/\(v8 != 0)=true/\(v8==0)=false/\N=4)\/((inB v1 0 1099511627776)=true/\(inB v10 0 1099511627776)=true/\(decide (0<L))=false/\(bp)=false/\(br)=false/\(bf)=false/\(v9 != 0)=false/\(v9==0)=true/\(v7 != 0)=false/\(v7==0)=true/\(v8 != 0)=false/\(v8==0)=true/\(v2 != 0)=true/\(v2==0)=false/\N=4)\/((inB v1 0 1099511627776)=true/\(inB v10 0 1099511627776)=true/\(decide (0<L))=false/\(bp)=false/\(br)=false/\(bf)=false/\(v9 != 0)=false/\(v9==0)=true/\(v7 != 0)=false/\(v7==0)=true/\(v8 != 0)=false/\(v8==0)=true/\(v2 != 0)=false/\(v2==0)=true/\N=0)) :
  Calls Tryz.prog 44 #[.agg R] w λe w2=>e=.returned (.int .i64 N)/\Below w.heap.size w w2:=by
 have hud:=Tryz.underlying46
 have hup:=Tryz.underlying52
 have i32:(Tryz.prog.info? 46).map (·.size)=some z32a.toList.length:=kX
 have i32a:(Tryz.prog.info? 46).map (·.size)=some z32a.size:=kX
 have o32:z32a.all (·.oneCell')=true:=kX
 have hrow0:=Hd (heap_alloc_new w (.cells R 54))
 have hb0:=Hd (show Below w.heap.size w (w.alloc (.cells R 54)) from bR.alloc nR _)
 have hZ2:=Hd (show ((w.alloc (.cells R 54)).alloc (.cells z32a 46)).heap[w.heap.size+1]? = some (.cells z32a 46 (0,0)) from by rw[Zk,if_pos sX])
 obtain⟨c0,c1,c2,c3,c74,c75,c76,c77,hr4,hr5,hr6⟩:=hF hrow0.out
 rcases hcase with ⟨h_o,rfl⟩|⟨h_o,h_t,rfl⟩|⟨h_o,h_t,h_nm,rfl⟩|⟨h_o,h_t,h_nm,h_pz,rfl⟩|⟨h_o,h_t,h_nm,h_pz,h_rz,rfl⟩|⟨h_o,h_t,h_nm,h_pz,h_rz,h_fz,rfl⟩|⟨h_o,h_t,h_nm,h_pz,h_rz,h_fz,h_zv,g_zv,rfl⟩|⟨h_o,h_t,h_nm,h_pz,h_rz,h_fz,h_zv,g_zv,h_zw,g_zw,rfl⟩|⟨h_o,h_t,h_nm,h_pz,h_rz,h_fz,h_zv,g_zv,h_zw,g_zw,h_zx,g_zx,rfl⟩|⟨h_o,h_t,h_nm,h_pz,h_rz,h_fz,h_zv,g_zv,h_zw,g_zw,h_zx,g_zx,h_zi,g_zi,rfl⟩|⟨h_o,h_t,h_nm,h_pz,h_rz,h_fz,h_zv,g_zv,h_zw,g_zw,h_zx,g_zx,h_zi,g_zi,rfl⟩
 all_goals
  go_enter Tryz.func44,Tryz.ntmps44
  go_wp2_with (first
  | ((with_reducible refine wL (.load 52 _) ?_);first|refine QT rfl 52 (.tmp 86) rfl w.heap.size 4 rfl lp _ hr4.out hup rfl i4 LP hP ?_|refine Z1 rfl 52 (.tmp 119) rfl w.heap.size 4 rfl lp _ hr4.out hup rfl i4 LP hP ?_)
  | ((with_reducible refine wL (.load 46 (.tmp 125)) ?_);refine Z1 rfl 46 (.tmp 125) rfl w.heap.size 10 rfl lr _ hr5.out hud rfl i5 LR hD ?_)
  | ((with_reducible refine wL (.load 46 (.tmp 131)) ?_);refine Z1 rfl 46 (.tmp 131) rfl w.heap.size 42 rfl lf _ hr6.out hud rfl i6 LF hE ?_)
  | ((with_reducible refine wL (.load 46 (.tmp 6)) ?_);refine Z1 rfl 46 (.tmp 6) rfl (w.heap.size+1) 0 rfl z32a.toList _ hrz.out hud rfl i32 z32a (Hd rfl) ?_)
  | ((with_reducible refine wL (.store 46 (.tmp 6) _) ?_);refine Zc rfl 46 (.tmp 6) (.tmp 113) rfl (w.heap.size+1) z32a z32a rfl rfl hZ2 i32a rfl o32 ?_;intro w3 hU3;obtain⟨hrz,hb3,hrow3,c0,c1,c2,c3,c74,c75,c76,c77,hr4,hr5,hr6⟩:=JN hF hrow0 hb0 hU3)
  | ((with_reducible refine(Uw _ _).mono ?_);rintro e w4 ⟨rfl,rfl⟩))
  go_ret
  first
   | exact⟨rfl,hb3.out⟩
   | exact⟨rfl,hb5.out⟩
   | exact⟨rfl,hb0.out⟩
end Go.Proofs.YtpdhceiodgnbmaaGreatDoor
