import Derived.Test.YtpdhceiodgnbmaaGreatDoorF8KeepsSaid
set_option linter.all false
set_option maxRecDepth 100000
set_option maxHeartbeats 8000000
namespace Go.Proofs.YtpdhceiodgnbmaaGreatDoor
open Go.RowKit
theorem WP(w:World):(zeroValue 240).run Tryz.prog w=.ok (.agg dL) w:=kX
theorem Xq(w:World):(zeroValue 46).run Tryz.prog w=.ok (.agg aG) w:=kX
def gY(w:World):Prop:=∀ t,t<64->w.cell? ⟨21,t,none⟩=some (.int .u32 (wn (oZ t)))
theorem gY.below{w w':World}(h:gY w)(hb:Below w.heap.size w w'):gY w':=λt ht=>(hb.cell (World.block_lt_of_cell? w _ (h t ht))).trans (h t ht)
def gZ(w:World):Prop:=∃ t fr,w.heap[20]? = some (.cells (c8 ZB) t fr)
theorem gZ.below{w w':World}(h:gZ w)(hb:Below w.heap.size w w'):gZ w':=by
 obtain⟨t,fr,h⟩:=h;exact⟨t,fr,(hb.block _ (Zb h)).trans h⟩
section
variable {P:Program} {ops:Array Oper} {rest:List Oper} {o:Oper} {a:Act} {w:World} {Q:Exit->Act->World->Prop}
theorem Gr(hgd:o.guard=none)(ty:TypeId)(x:Operand)(ho:o.op=.load ty x)(g:Nat)(c:Array Value)(t:TypeId)(fr:Nat×Nat)(d:TypeDesc)
  (hx:a.eval x=.pointer (some ⟨g,0,none⟩)) (hg:Hid (w.heap[g]? = some (.cells c t fr))) (hu:P.underlying ty=some d) (hd:(match d with | .struct _ | .array _ _=>true|_=>false)=true) (hi:(P.info? ty).map (·.size)=some c.size)
  (h:wpList P ops Q rest (a.put o.dst (.agg c)) w):wpList P ops Q (o::rest) a w:=by
 refine wpList_plain hgd λK hK=>?_;have h2:=hK _ _ h;unfold Oper.wp execOp;simp only[ho,hx,Instr.loadAt,Instr.sureAddr,Sem.run_bind,Sem.run_pure,Result.andThen_ok,run_loadVar_row w g t ty c fr d hg.out hu hd hi];exact h2
end
def XJ(m:List UInt8)(k:Nat):List UInt8:=m++[128]++List.replicate k 0
theorem Gd(m:List UInt8)(k:Nat):(XJ m k).length=m.length+1+k:=by simp[XJ];omega
theorem LW(m:List UInt8)(k:Nat):XJ m (k+1)=XJ m k++[0]:=by simp[XJ,List.replicate_succ']
def Jr(m:List UInt8)(j:Nat):List UInt8:=XJ m (Qw m.length)++(List.range j).map (U5 m.length)
theorem Di(m:List UInt8):Jr m 0=XJ m (Qw m.length):=by simp[Jr]
theorem Dg(m:List UInt8)(j:Nat):Jr m (j+1)=Jr m j++[U5 m.length j]:=by simp[Jr,List.range_succ]
theorem TN(m:List UInt8)(j:Nat):(Jr m j).length=m.length+1+Qw m.length+j:=by simp[Jr,Gd]
theorem Ny(m:List UInt8):Jr m 8=XK m:=rfl
structure j4 (w:World) (v:Value) (bs:List UInt8) (W:World):Prop where
 own:aN (w.heap.size+1) W v bs
 res:W.heap[w.heap.size]? = some (.cells aG 46 (0,0))
 bel:Below w.heap.size w W
 siz:w.heap.size+1<=W.heap.size
theorem j4.next{w:World}{v v':Value}{bs bs':List UInt8}{W W':World}(h:j4 w v bs W)(ho:aN (w.heap.size+1) W' v' bs')(hb:Below (w.heap.size+1) W W'):j4 w v' bs' W':=
 ⟨ho,(hb.block _ (Nat.lt_succ_self _)).trans h.res,h.bel.trans (hb.mono (Nat.le_succ _)),Nat.le_trans h.siz hb.size⟩
theorem Tc(m:List UInt8):(XK m).length=m.length+1+Qw m.length+8:=by simp[XK,be8];omega
theorem aN.block{base:Nat}{w:World}{a:Option Addr}{n c:Nat}{bs:List UInt8}(h:aN base w (.slice a n c) bs)(hn:0<bs.length):∃ g,a=some ⟨g,0,none⟩/\∃ cur:Array Value,w.heap[g]? = some (.cells cur 5 (0,0))/\∀ i,i<bs.length->cur[i]? = some (.int .u8 ((cf bs i).toNat:Int)):=by
 rcases h.2 with ⟨hv,hx⟩|⟨g,cap,cur,e1,e2,e3,e4,e5,e6,e7⟩
 ·omega
 ·cases e1;refine⟨g,rfl,cur,e3,λi hi=>?_⟩;have h1:=P8 bs hi;rw[<-e7] at h1;simp[hi] at h1;simpa using h1
structure zt (w:World) (g:Nat) (cur:Array Value) (W:World):Prop where
 all:W.heap[g]? = some (.cells cur 5 (0,0))
 res:W.heap[w.heap.size]? = some (.cells aG 46 (0,0))
 bel:Below w.heap.size w W
theorem zt.grown{w:World}{g:Nat}{cur:Array Value}{W W':World}(h:zt w g cur W)(hb:Grown W W'):zt w g cur W':=
 ⟨(hb.block g (Zb h.all)).trans h.all,(hb.block _ (Zb h.res)).trans h.res,h.bel.trans (hb.mono h.bel.size)⟩
structure qw (w:World) (g sb:Nat) (cur:Array Value) (S:S8) (W:World):Prop where
 rs:zt w g cur W
 st:W.heap[sb]? = some (.cells (c8 S) 240 (0,0))
structure fw (w:World) (g sb wb:Nat) (cur:Array Value) (S:S8) (f:Nat->bL) (W:World):Prop where
 bs:qw w g sb cur S W
 row:W.heap[wb]? = some (.cells (cW (ZW 64 f)).toArray 241 (0,0))
section
variable {w W W':World} {g sb wb:Nat} {cur:Array Value} {S:S8} {f:Nat->bL}
theorem qw.grown(h:qw w g sb cur S W)(hb:Grown W W'):qw w g sb cur S W':=⟨h.rs.grown hb,(hb.block _ (Zb h.st)).trans h.st⟩
theorem fw.grown(h:fw w g sb wb cur S f W)(hb:Grown W W'):fw w g sb wb cur S f W':=⟨h.bs.grown hb,(hb.block _ (Zb h.row)).trans h.row⟩
theorem fw.cell(h:fw w g sb wb cur S f W){j:Nat}(hj:j<64):W.cell? ⟨wb,j,none⟩=some (.int .u32 (wn (f j))):=by rw[Za h.row,N6 hj]
theorem fw.free(h:fw w g sb wb cur S f W)(j:Nat):W.frozen? ⟨wb,j,none⟩=false:=Zg h.row _
theorem fw.sAt(h:qw w g sb cur S W){j:Nat}(hj:j<8):W.cell? ⟨sb,j,none⟩=some (.int .u32 (wn (sAt S j))):=by rw[Za h.st,GK S hj]
theorem fw.set(h:fw w g sb wb cur S f W)(h1:g≠wb)(h2:sb≠wb)(h3:w.heap.size<wb)(t:Nat)(x:bL):fw w g sb wb cur S (λj=>if j=t then x else f j) (W.setCell ⟨wb,t,none⟩ (.int .u32 (wn x))):=by
 have hu:=((ag.refl h.row).setCell (j:=t) (.int .u32 (wn x))).to (show _=Obj.cells (cW (ZW 64 λj=>if j=t then x else f j)).toArray 241 (0,0) from by rw[Tu,Gx]);exact⟨⟨⟨(hu.block _ h1).trans h.bs.rs.all,(hu.block _ aB).trans h.bs.rs.res,h.bs.rs.bel.trans (hu.below aB)⟩,(hu.block _ h2).trans h.bs.st⟩,hu.here⟩
theorem fw.congr{f':Nat->bL}(h:fw w g sb wb cur S f W)(hf:∀ i,i<64->f i=f' i):fw w g sb wb cur S f' W:=⟨h.bs,by rw[<-YR hf];exact h.row⟩
end
theorem Kj(x y:bL):(wn y+wn x) % 4294967296=wn (x+y):=by rw[Int.add_comm];exact QG x y
theorem qw.put8{w W:World}{g sb:Nat}{cur:Array Value}{S:S8}(h:qw w g sb cur S W)(h1:g≠sb)(h2:w.heap.size<sb)(x:S8) :
  qw w g sb cur x ((((((((W.setCell ⟨sb,0,none⟩ (.int .u32 (wn x.a))).setCell ⟨sb,1,none⟩ (.int .u32 (wn x.b))).setCell ⟨sb,2,none⟩ (.int .u32 (wn x.c))).setCell ⟨sb,3,none⟩ (.int .u32 (wn x.d))).setCell ⟨sb,4,none⟩ (.int .u32 (wn x.e))).setCell ⟨sb,5,none⟩ (.int .u32 (wn x.f))).setCell ⟨sb,6,none⟩ (.int .u32 (wn x.g))).setCell ⟨sb,7,none⟩ (.int .u32 (wn x.h))):=by
 have hu:=((((((((ag.refl h.st).setCell (j:=0) (.int .u32 (wn x.a))).setCell (j:=1) (.int .u32 (wn x.b))).setCell (j:=2) (.int .u32 (wn x.c))).setCell (j:=3) (.int .u32 (wn x.d))).setCell (j:=4) (.int .u32 (wn x.e))).setCell (j:=5) (.int .u32 (wn x.f))).setCell (j:=6) (.int .u32 (wn x.g))).setCell (j:=7) (.int .u32 (wn x.h));have hu2:=hu.to (show _=Obj.cells (c8 x) 240 (0,0) from by rw[Tr,Tr];simp);exact⟨⟨(hu2.block _ h1).trans h.rs.all,(hu2.block _ aB).trans h.rs.res,h.rs.bel.trans (hu2.below aB)⟩,hu2.here⟩
theorem Fy(s:S8)(t:Nat)(h:t<8)(w:World):(Instr.index 240 (.agg (c8 s)) (.int .i64 (t:Int))).run Tryz.prog w=.ok (.int .u32 (wn (sAt s t))) w:=by
 have hs:(sizeOf 239).run Tryz.prog w=.ok 1 w:=kX;have hp:(part 239 (c8 s) t).run Tryz.prog w=.ok (.int .u32 (wn (sAt s t))) w:=by
  simp[part,isAgg,run_underlying Tryz.underlying239];have:=GK s h;simp[this]
 have ht:(t:Int)<8:=aB;simp[Instr.index,asIntOf,run_underlying Tryz.underlying240,hs,hp,h]
structure vz (w:World) (ob:Nat) (f:Nat->UInt8) (W:World):Prop where
 row:W.heap[ob]? = some (.cells (cB (tab 32 f)).toArray 46 (0,0))
 res:W.heap[w.heap.size]? = some (.cells aG 46 (0,0))
 bel:Below w.heap.size w W
section
variable {w W:World} {ob:Nat} {f:Nat->UInt8} {s:S8} {n:Nat}
theorem vz.cell(h:vz w ob f W){j:Nat}(hj:j<32):W.cell? ⟨ob,j,none⟩=some (.int .u8 ((f j).toNat:Int)):=by
 rw[Za h.row,P8 _ (by rw[QX];exact hj),Vm,if_pos hj]
theorem vz.free(h:vz w ob f W)(j:Nat):W.frozen? ⟨ob,j,none⟩=false:=Zg h.row _
theorem vz.set(h:vz w ob (QF s n) W)(h1:w.heap.size<ob):vz w ob (QF s (n+1)) (W.setCell ⟨ob,n,none⟩ (.int .u8 ((cf (Qx s) n).toNat:Int))):=by
 have hu:=(ag.refl h.row).setCell (j:=n) (.int .u8 ((cf (Qx s) n).toNat:Int));have hu2:=hu.to (show _=Obj.cells (cB (tab 32 (QF s (n+1)))).toArray 46 (0,0) from by rw[RS,MB]);exact⟨hu2.here,(hu2.block _ aB).trans h.res,h.bel.trans (hu2.below aB)⟩
end
theorem Pz(b:List UInt8)(t:Nat):∀ i,i<64->(if i=t then Jb b t else QZ b t 0 i)=QZ b (t+1) 0 i:=by
 intro i hi;rw[<-M6];rw[Mi b t 0 4 i hi,GX b t i hi]
theorem Bm(M:List UInt8)(K n:Nat)(h:n<64):cf ((M.drop K).take 64) n=cf M (K+n):=by
 rw[Ep,if_pos h,Ey]
theorem X3(x:bL)(n:Nat)(h:1<=n/\n<=31)(z:Int)(w:World)(hz:z=(n:Int)):Calls Tryz.prog 133 #[.int .u32 (wn x),.int .u64 z] w λe w'=>e=.returned (.int .u32 (wn (ZI x n)))/\w=w':=by
 subst hz;exact DE x n h.1 h.2 w
theorem UB(a:Option Addr)(cap:Nat)(m:List UInt8)(w:World)(h:aJ w a cap m)(hl:m.length<=100000)(hK:gY w)(hF:gZ w) :
  Calls Tryz.prog 108 #[.slice a m.length cap] w λe w'=>e=.returned (.agg (cB (sha m)).toArray)/\Below w.heap.size w w':=by
 have zr:=Xq;have zn:=ZH;have hown:=GU (w.alloc (.cells aG 46)) (w.heap.size+1) sX;have hb0:Below w.heap.size w ((w.alloc (.cells aG 46)).alloc (.cells #[] 5)):=((Below.refl _ w).alloc nZ _).alloc sX _;have qL:((w.alloc (.cells aG 46)).alloc (.cells #[] 5)).heap[w.heap.size]? = some (.cells aG 46 (0,0)):=by
  rw[Below.heap_alloc _ _ _ sX];exact heap_alloc_new w _
 have ha2:=Hd (h.below hb0);have j5:w.heap.size+1<=((w.alloc (.cells aG 46)).alloc (.cells #[] 5)).heap.size:=sX;rw[show (w.alloc (.cells aG 46)).heap.size=w.heap.size+1 from by simp] at hown;replace hown:=Hd hown;replace hb0:=Hd hb0;replace qL:=Hd qL;go_enter Tryz.func108,Tryz.ntmps108;go_wp2_with (at_builtin;go_must (refine Vh rfl (.tmp 27) (.tmp 28) rfl (w.heap.size+1) _ [] rfl hown a cap m m.length rfl (Hd rfl) ha2 sX aB j5 ?_));intro v2 w2 ho2 hd2;have hS:=Hd (show j4 w v2 m w2 from⟨by simpa using ho2.out,(hd2.out.block _ (Nat.lt_succ_self _)).trans qL.out,hb0.out.trans (hd2.out.mono (Nat.le_succ _)),Nat.le_trans j5 hd2.out.size⟩);have hown2:=Hd hS.out.own;have hsz2:=hS.out.siz;clear ho2 hd2 hown ha2 j5 hb0 qL;go_wp2_with (at_builtin;go_must (refine Xg rfl (.tmp 29) (.tmp 30) rfl (w.heap.size+1) _ m rfl hown2 128 128 rfl rfl aB hsz2 ?_));intro v3 w3 ho3 hd3;replace hS:=Hd (show j4 w v3 (XJ m 0) w3 from hS.out.next (by simpa[XJ] using ho3.out) hd3.out);clear ho3 hd3 hown2 hsz2;go_wp2_with fail;go_loopw [3] (λv wr=>∃ k:Nat,k<=Qw m.length/\j4 w v (XJ m k) wr)
  (λv _=>Qw m.length+m.length+1-KC v)
 case atStart=>exact⟨0,Nat.zero_le _,hS.out⟩
 case round=>
  clear hS;obtain⟨k,hk,hS⟩:=hrel;obtain⟨a3,c3,rfl,_,_⟩:=hS.own.arg;have hpl:=Gd m k;have hps:=Hd (LW m k);have hown:=Hd hS.own;have jv:=hS.siz;replace hS:=Hd hS;by_cases hlt:k<Qw m.length
  ·have hne:¬(((XJ m k).length:Int) % 64=56):=by unfold Qw at hlt;omega
   have hll:(XJ m k).length<=1000000:=by unfold Qw at hlt;omega
   replace hpl:=Hd hpl;generalize hT:XJ m k=T at*;go_wp2_with (at_builtin;go_must (refine Xg rfl (.tmp 36) (.tmp 37) rfl (w.heap.size+1) _ T rfl hown 0 0 rfl rfl hll jv ?_));intro v5 w5 dW hd5;have hS5:=Hd (hS.out.next (by rw[<-hps.out] at dW;exact dW.out) hd5.out);obtain⟨a5,c5,hv5,_,_⟩:=dW.out.arg;rw[hv5] at hS5 ⊢;clear dW hd5;go_wp2_with fail;go_roundw
   case rel=>exact⟨k+1,aB,hS5.out⟩
   case measure=>have:=hpl.out;simp[KC];omega
  ·obtain rfl:k=Qw m.length:=aB;have hne:((XJ m (Qw m.length)).length:Int) % 64=56:=by unfold Qw at hpl ⊢;omega
   have jL:=Hd hpl;have oD:m.length<=100000:=hl;clear hpl;have hz0:=Hd (Di m);generalize hT:XJ m (Qw m.length)=T at*;go_wp2_with fail;go_loopw [3,5] (λv j wr=>∃ k:Nat,k<=8/\j=.int .i64 (7-(k:Int))/\j4 w v (Jr m k) wr)
    (λ_ j _=>(intOf j+8).toNat)
   case atStart=>exact⟨0,Nat.zero_le _,rfl,by rw[hz0.out];exact hS.out⟩
   case round=>
    clear hS hown jv hne jL;obtain⟨k,hk,rfl,hS⟩:=hrel;obtain⟨a3,c3,rfl,_,_⟩:=hS.own.arg;have hpl:=TN m k;have hps:=Hd (Dg m k);have hown:=Hd hS.own;have jv:=hS.siz;replace hS:=Hd hS;by_cases hlt:k<8
    ·have hll:(Jr m k).length<=1000000:=by unfold Qw at hpl;omega
     have hby:=Hd (Pc m.length k);have hge:(0:Int)<=7-(k:Int):=aB;clear hpl;generalize hT:Jr m k=T2 at*;go_wp2_with (at_builtin;go_must (refine Xg rfl (.tmp 47) (.tmp 54) rfl (w.heap.size+1) _ T2 rfl hown (U5 m.length k) _ ?hz rfl hll jv ?_))
     case hz=>rw[show 8*(7-k)=56-8*k from by omega];exact hby.out
     intro v5 w5 dW hd5;have hS5:=Hd (hS.out.next (by rw[<-hps.out] at dW;exact dW.out) hd5.out);obtain⟨a5,c5,hv5,_,_⟩:=dW.out.arg;rw[hv5] at hS5 ⊢;clear dW hd5;go_wp2_with fail;go_roundw
     case rel=>exact⟨k+1,aB,by go_num,hS5.out⟩
     case measure=>simp[intOf];omega
    ·obtain rfl:k=8:=aB;have hLq:(Jr m 8).length % 64=0:=by unfold Qw at hpl;omega
     have hLl:(Jr m 8).length<=200000:=by unfold Qw at hpl;omega
     rw[Ny] at hLq hLl hS hown;obtain⟨g,hg0,cur,hgb,lU⟩:=hS.out.own.block (by rw[Tc];omega);cases hg0;have SC:¬(0:Int)<=7-((8:Nat):Int):=aB;rw[Ny];have wW:=Hd (show zt w g cur wr from⟨hgb,hS.out.res,hS.out.bel⟩);have tK:=heap_alloc_new wr (.cells (c8 ZB) 240);obtain⟨tF,fF,hFw⟩:=hF.below hS.out.bel;replace hFw:=Hd hFw;have Iz:(Tryz.prog.info? 240).map (·.size)=some (c8 ZB).size:=kX;have hs8:dL.size=(c8 ZB).size:=by rw[Jf,Vi]
     have zu:=Ut ZB;have yS:Tryz.prog.underlying 240=some (.array 8 239):=Tryz.underlying240;clear hpl hS hown jv hps hz0 hl oD;have zr8:=WP;have zn8:=Gq;have zr6:=Nv;have zn6:=MD;have hI:=Hd (show qw w g wr.heap.size cur ZB (wr.alloc (.cells (c8 ZB) 240)) from⟨wW.out.grown (bR.alloc nZ _),heap_alloc_new wr _⟩);have hgs:=Hd (show g≠wr.heap.size from by have:=Zb wW.out.all;omega);have hws:=Hd (show w.heap.size<wr.heap.size from by have:=Zb wW.out.res;omega);clear tK wW hgb;generalize hC8:c8 ZB=C8 at*;generalize hM:XK m=M at*;replace hM:=Hd hM;go_wp2_with (first|with_reducible refine Gr rfl 240 (.global 20) rfl 20 C8 tF fF (.array 8 239) rfl hFw yS rfl Iz ?_|with_reducible refine QQ rfl 240 (.tmp 6) (.tmp 56) rfl dL C8 rfl rfl Iz hs8 zu ?_)
     rename_i hQ _
     clear hFw Iz hs8 zu SC;obtain⟨sb,hsb⟩:=aA wr.heap.size;obtain⟨W,hW⟩:∃ W,W=wr.alloc (.cells C8 240):=⟨_,rfl⟩;rw[<-hW,<-hsb] at hI ⊢;rw[<-hsb] at hgs hws;replace hsb:=Hd hsb;replace hW:=Hd hW;clear hC8;obtain⟨L,hL⟩:=aA M.length;rw[<-hL] at hLq hLl lU ⊢;replace lU:=Hd lU;replace hL:=Hd hL;replace hgs:=Hd hgs;replace hws:=Hd hws;refine ZG [(false,7),(true,17),(false,33),(true,214)] _ [] (λU wr=>∃ q:Nat,64*q<=L/\U 7=.int .i64 ((64*q:Nat):Int)/\qw w g sb cur (ZP ZB M q) wr)
      (λU _=>L-(intOf (U 7)).toNat) ?_ ?_
     ·simp only[List.getD_cons_zero,List.getD_cons_succ];exact⟨0,aB,rfl,hI.out⟩
     ·clear hI;intro U wr hrel KK hback l' hl';obtain⟨q,hq,h7,hI⟩:=hrel;simp only[ZQ,ZM,cond_true,cond_false,Nat.reduceAdd,h7] at hl';subst hl';replace h7:=Hd h7;by_cases hlt:64*q<L
      ·have hnext:=Hd (show ZP ZB M (q+1)=QH (ZP ZB M q) ((M.drop (64*q)).take 64) from rfl);have hch:=Hd (λn h=>Bm M (64*q) n h);have kW:64*q+64<=L:=aB;have hkq:=Hd (show 64*(q+1)=64*q+64 from by omega);obtain⟨K,wM⟩:=aA (64*q);rw[<-wM] at hlt hch hnext kW hkq ⊢;replace wM:=Hd wM;generalize ZP ZB M q=S at*;generalize (M.drop K).take 64=ch at*;have hlti:(K:Int)<(L:Int):=aB;have qp:=Hd (show fw w g sb wr.heap.size cur S (QZ ch 0 0) (wr.alloc (.cells bU 241)) from⟨hI.grown (bR.alloc nZ _),by rw[Gb,<-Kv];exact heap_alloc_new wr _⟩);have hgw:=Hd (show g≠wr.heap.size from by have:=Zb hI.rs.all;omega);have hsw:=Hd (show sb≠wr.heap.size from by have:=Zb hI.st;omega);have hww:=Hd (show w.heap.size<wr.heap.size from by have:=Zb hI.rs.res;omega);have zw:bU.size=bU.size:=rfl;have SE:(Tryz.prog.info? 241).map (·.size)=some bU.size:=kX;have SF:bU.all (·.oneCell')=true:=by rw[Kv];exact HP _
       replace zw:=Hd zw;clear hI;go_wp2_with (with_reducible refine QQ rfl 241 (.tmp 8) (.tmp 63) rfl bU bU rfl rfl SE zw.out SF ?_);obtain⟨wb,hwb⟩:=aA wr.heap.size;obtain⟨W1,hW1⟩:∃ W,W=wr.alloc (.cells bU 241):=⟨_,rfl⟩;rw[<-hW1,<-hwb] at qp;rw[<-hwb] at hgw hsw hww;rw[<-hW1,<-hwb];replace hwb:=Hd hwb;replace hW1:=Hd hW1;clear SF SE;go_wp2_with fail;refine ZG [(false,9),(true,1),(false,54),(true,47)] _ [] (λV wq=>∃ t:Nat,t<=16/\V 9=.int .i64 t/\fw w g sb wb cur S (QZ ch t 0) wq)
        (λV _=>16-(intOf (V 9)).toNat) ?_ ?_
       ·simp only[List.getD_cons_zero,List.getD_cons_succ];exact⟨0,Nat.zero_le _,rfl,qp.out⟩
       ·clear qp;intro V wr hrel K1 hbk1 l' hl';obtain⟨t,ht,h9,hI⟩:=hrel;simp only[ZQ,ZM,cond_true,cond_false,Nat.reduceAdd,h9] at hl';subst hl';replace h9:=Hd h9;by_cases hlt:t<16
        ·have hlt16:(t:Int)<16:=aB;have hx:∀ j,j<4->∀ W,zt w g cur W->W.cell? ⟨g,K+4*t+j,none⟩=some (.int .u8 ((cf ch (4*t+j)).toNat:Int)):=λj hj W hW=>by
          rw[Za hW.all,lU.out _ aB,hch.out _ aB,Nat.add_assoc]
         have x0:=hx 0 aB;have x1:=hx 1 aB;have x2:=hx 2 aB;have x3:=hx 3 aB;simp only[Nat.add_zero] at x0;have hwR:=Hd (BQ ch t);generalize cf ch (4*t)=c0 at*;generalize cf ch (4*t+1)=c1 at*;generalize cf ch (4*t+2)=c2 at*;generalize cf ch (4*t+3)=c3 at*;have f1:=hI.free t;have d1:=hI.cell (j:=t) aB;have n0:=IntWalk.i64_in (4*(t:Int)) aB;have n1:=IntWalk.i64_in ((K:Int)+4*(t:Int)) aB;have n2:=IntWalk.i64_in ((K:Int)+4*(t:Int)+1) aB;have n3:=IntWalk.i64_in ((K:Int)+4*(t:Int)+2) aB;have n4:=IntWalk.i64_in ((K:Int)+4*(t:Int)+3) aB;have m1:(0:Int)<=(K:Int)+4*(t:Int):=aB;have m2:(0:Int)<=(K:Int)+4*(t:Int)+1:=aB;have m3:(0:Int)<=(K:Int)+4*(t:Int)+2:=aB;have m4:(0:Int)<=(K:Int)+4*(t:Int)+3:=aB;have p1:(K:Int)+4*(t:Int)<L:=aB;have p2:(K:Int)+4*(t:Int)+1<L:=aB;have p3:(K:Int)+4*(t:Int)+2<L:=aB;have p4:(K:Int)+4*(t:Int)+3<L:=aB;have q1:((K:Int)+4*(t:Int)).toNat=K+4*t:=aB;have q2:((K:Int)+4*(t:Int)+1).toNat=K+4*t+1:=aB;have q3:((K:Int)+4*(t:Int)+2).toNat=K+4*t+2:=aB;have q4:((K:Int)+4*(t:Int)+3).toNat=K+4*t+3:=aB;replace hI:=Hd hI;clear hx;go_wp2_with fail;replace hI:=Hd (hI.out.grown (Below.refl _ wr).drew);have hbd:=hI.out.bs.rs;have e0:(c0.toNat:Int) % 4294967296=wn c0.toUInt32:=by rw[<-MQ];have:=c0.toNat_lt;omega
         have e1:(c1.toNat:Int) % 4294967296=wn c1.toUInt32:=by rw[<-MQ];have:=c1.toNat_lt;omega
         have e2:(c2.toNat:Int) % 4294967296=wn c2.toUInt32:=by rw[<-MQ];have:=c2.toNat_lt;omega
         have e3:(c3.toNat:Int) % 4294967296=wn c3.toUInt32:=by rw[<-MQ];have:=c3.toNat_lt;omega
         have s0:wn c0.toUInt32*(16777216:Int) % (4294967296:Int)=wn (c0.toUInt32 <<< 24):=K5 c0.toUInt32 24 aB;have s1:wn c1.toUInt32*(65536:Int) % (4294967296:Int)=wn (c1.toUInt32 <<< 16):=K5 c1.toUInt32 16 aB;have s2:wn c2.toUInt32*(256:Int) % (4294967296:Int)=wn (c2.toUInt32 <<< 8):=K5 c2.toUInt32 8 aB;have b1:=NV (c0.toUInt32 <<< 24) (c1.toUInt32 <<< 16);have b2:=NV (c0.toUInt32 <<< 24 ||| c1.toUInt32 <<< 16) (c2.toUInt32 <<< 8);have b3:=NV (c0.toUInt32 <<< 24 ||| c1.toUInt32 <<< 16 ||| c2.toUInt32 <<< 8) c3.toUInt32;replace hwR:=Hd (show c0.toUInt32 <<< 24 ||| c1.toUInt32 <<< 16 ||| c2.toUInt32 <<< 8 ||| c3.toUInt32=Jb ch t from hwR.out);refine wp_region_held_drew (S:=(zt w g cur)) kX hbd (λaD=>?_);generalize World.drew wr=wd at*;refine tk 0 aD ?_;refine tk 1 aD ?_;refine tk 2 aD ?_;refine tk 3 aD ?_;refine tk 4 aD ?_;refine tk 5 aD ?_;refine tk 6 aD ?_;refine tk 7 aD ?_;refine tk 8 aD ?_;refine tk 9 aD ?_;refine tk 10 aD ?_;refine tk 11 aD ?_;refine tk 12 aD ?_;refine tk 13 aD ?_;refine tk 14 aD ?_;refine tk 15 aD ?_;refine tk 16 aD ?_;refine tk 17 aD ?_;refine tk 18 aD ?_;refine tk 19 aD ?_;refine tk 20 aD ?_;refine tk 21 aD ?_;refine tk 22 aD ?_;refine tk 23 aD ?_;refine tk 24 aD ?_;refine tk 25 aD ?_;refine tk 26 aD ?_;refine tk 27 aD ?_;refine tk 28 aD ?_;refine tk 29 aD ?_;refine tk 30 aD ?_;refine tk 31 aD ?_;refine tk 32 aD ?_;refine tk 33 aD ?_;refine tk 34 aD ?_;refine tk 35 aD ?_;refine tk 36 aD ?_;refine tk 37 aD ?_;refine tk 38 aD ?_;refine tk 39 aD ?_
         refine tk 40 aD ?_;refine tk 41 aD ?_;refine rd 42 (λKz aF=>?_);go_simp;try go_wp2_with fail
         refine aF.out _ _ qD ?_;clear aF Kz aD;intro aD;try simp only[Act.put,sL,sZ,sS]
         refine rd 43 (λKz aF=>?_);have og:=Hd (show fw w g sb wb cur S (QZ ch (t+1) 0) (wd.setCell ⟨wb,t,none⟩ (.int .u32 (wn (c0.toUInt32 <<< 24 ||| c1.toUInt32 <<< 16 ||| c2.toUInt32 <<< 8 ||| c3.toUInt32)))) from fw.congr (hI.out.set hgw.out hsw.out hww.out t _) (λi hi=>by rw[<-Pz ch t i hi,<-hwR.out]));have hS:=og.out.bs.rs;rw[if_pos bT];have f1:=hI.out.free t;have d1:=hI.out.cell (j:=t) aB;go_simp;refine aF.out _ _ hS ?_;clear aF Kz aD hS;intro aD;try simp only[Act.put]
         refine bz ?_;go_wp2_with fail;refine hbk1.out _ _ kX ?_ ?_
         ·simp only[List.getD_cons_zero,List.getD_cons_succ];exact⟨t+1,aB,by go_num,og.out⟩
         ·have h9:=h9.out;simp only[List.getD_cons_zero,List.getD_cons_succ,h9,intOf];omega
        ·obtain rfl:t=16:=aB;have hI2:=Hd (fw.congr hI (Nz ch));clear hI h9 hbk1;go_wp2_with fail;refine ZG [(false,10),(true,3),(false,98),(true,41)] _ [] (λV wq=>∃ t:Nat,16<=t/\t<=64/\V 10=.int .i64 t/\fw w g sb wb cur S (Qk ch t) wq)
          (λV _=>64-(intOf (V 10)).toNat) ?_ ?_
         ·simp only[List.getD_cons_zero,List.getD_cons_succ];exact⟨16,Nat.le_refl _,aB,rfl,hI2.out⟩
         ·clear hI2;intro V2 wr hrel K2 hbk2 l' hl';obtain⟨t,ht1,ht2,h9,hI⟩:=hrel;simp only[ZQ,ZM,cond_true,cond_false,Nat.reduceAdd,h9] at hl';subst hl';replace h9:=Hd h9;by_cases hlt:t<64
          ·have k1:=IntWalk.i64_in ((t:Int)-2) aB;have k2:=IntWalk.i64_in ((t:Int)-7) aB;have k3:=IntWalk.i64_in ((t:Int)-15) aB;have k4:=IntWalk.i64_in ((t:Int)-16) aB;have n1:((t:Int)-2).toNat=t-2:=aB;have n2:((t:Int)-7).toNat=t-7:=aB;have n3:((t:Int)-15).toNat=t-15:=aB;have n4:((t:Int)-16).toNat=t-16:=aB;have l1:(0:Int)<=(t:Int)-2:=aB;have l2:(0:Int)<=(t:Int)-7:=aB;have l3:(0:Int)<=(t:Int)-15:=aB;have l4:(0:Int)<=(t:Int)-16:=aB;have m1:(2:Int)<=(t:Int):=aB;have m2:(7:Int)<=(t:Int):=aB;have m3:(15:Int)<=(t:Int):=aB;have m4:(16:Int)<=(t:Int):=aB;have u1:(t:Int)-2<64:=aB;have u2:(t:Int)-7<64:=aB;have u3:(t:Int)-15<64:=aB;have u4:(t:Int)-16<64:=aB;have ca1:∀ W,QP wb t ch W->W.cell? ⟨wb,t-2,none⟩=some (.int .u32 (wn (ed ch (t-2)))):=λW h=>h _ aB;have cb1:∀ W,QP wb t ch W->W.cell? ⟨wb,t-7,none⟩=some (.int .u32 (wn (ed ch (t-7)))):=λW h=>h _ aB;have cc1:∀ W,QP wb t ch W->W.cell? ⟨wb,t-15,none⟩=some (.int .u32 (wn (ed ch (t-15)))):=λW h=>h _ aB;have cd1:∀ W,QP wb t ch W->W.cell? ⟨wb,t-16,none⟩=some (.int .u32 (wn (ed ch (t-16)))):=λW h=>h _ aB;have yI:∀ W,fw w g sb wb cur S (Qk ch t) W->QP wb t ch W:=λW h=>by
            intro i hi;rw[h.cell aB];unfold Qk;rw[if_pos hi]
           have hSb:∀ W,fw w g sb wb cur S (Qk ch (t+1)) W->QP wb t ch W:=λW h=>by
            intro i hi;rw[h.cell aB];unfold Qk;rw[if_pos aB]
           have OV:=Ta ch t ht1;have hfin:=KY ch t;rw[OV] at hfin;replace hfin:=Hd hfin;replace yI:=Hd yI;replace hSb:=Hd hSb;clear OV;generalize ed ch (t-2)=xa at*;generalize ed ch (t-7)=xb at*;generalize ed ch (t-15)=xc at*;generalize ed ch (t-16)=xd at*;have x1:=Yi (ZI xa 17) (ZI xa 19);have x2:bits BinOp.xor IntKind.u32 (wn (ZI xa 17 ^^^ ZI xa 19)) (wn (xa >>> 10))=wn (Xd xa):=Yi _ _;have x3:=Yi (ZI xc 7) (ZI xc 18);have x4:bits BinOp.xor IntKind.u32 (wn (ZI xc 7 ^^^ ZI xc 18)) (wn (xc >>> 3))=wn (X9 xc):=Yi _ _;have z1:wn xa / (1024:Int)=wn (xa >>> 10):=Nh xa 10 aB;have z2:wn xc / (8:Int)=wn (xc >>> 3):=Nh xc 3 aB;have a1:=QG (Xd xa) xb;have a2:=QG (Xd xa+xb) (X9 xc);have a3:=QG (Xd xa+xb+X9 xc) xd;replace hI:=Hd (hI.grown (Below.refl _ wr).drew);have hbd:=yI.out _ hI.out;have hti:(t:Int)<64:=aB;go_wp2_with fail;refine wp_region_held_drew (S:=(QP wb t ch)) kX hbd (λaD=>?_);generalize World.drew wr=wd at*;refine tk 0 aD ?_;refine tk 1 aD ?_;refine tk 2 aD ?_;refine tk 3 aD ?_;refine tk 4 aD ?_;refine tk 5 aD ?_;refine tk 6 aD ?_;refine tk 7 aD ?_;refine tk 8 aD ?_;refine tk 9 aD ?_;refine bz ?_;go_wp2_with fail;replace hI:=Hd (hI.out.grown (Below.refl _ wd).drew);have hbd2:=yI.out _ hI.out;generalize hq1:wd=wp at*;refine wp_region_held_drew (S:=(QP wb t ch)) kX hbd2 (λaD=>?_);generalize World.drew wp=wd at*;refine tk 0 aD ?_;refine tk 1 aD ?_;refine tk 3 aD ?_;refine tk 6 aD ?_;refine tk 7 aD ?_;refine tk 9 aD ?_;refine tk 10 aD ?_;refine tk 11 aD ?_;refine tk 12 aD ?_
           refine tk 14 aD ?_;refine tk 16 aD ?_;refine tk 19 aD ?_;refine tk 20 aD ?_;refine tk 23 aD ?_;refine tk 24 aD ?_;refine tk 25 aD ?_;refine tk 26 aD ?_;refine rd 2 (λKz aF=>?_);go_simp
           (with_reducible refine(X3 xa 17 aB _ _ aB).mono ?_)
           rintro e w4 ⟨rfl,rfl⟩;have hS:=aD;go_wp2_with fail;refine aF.out _ _ hS ?_;clear aF Kz aD hS;intro aD;try simp only[Act.put,sL,sZ,sS]
           refine rd 4 (λKz aF=>?_);go_simp
           (with_reducible refine(X3 xa 19 aB _ _ aB).mono ?_)
           rintro e w4 ⟨rfl,rfl⟩;have hS:=aD;go_wp2_with fail;refine aF.out _ _ hS ?_;clear aF Kz aD hS;intro aD;try simp only[Act.put,sL,sZ,sS]
           refine tk 5 aD ?_;refine tk 8 aD ?_;refine tk 13 aD ?_;refine rd 15 (λKz aF=>?_);go_simp
           (with_reducible refine(X3 xc 7 aB _ _ aB).mono ?_)
           rintro e w4 ⟨rfl,rfl⟩;have hS:=aD;go_wp2_with fail;refine aF.out _ _ hS ?_;clear aF Kz aD hS;intro aD;try simp only[Act.put,sL,sZ,sS]
           refine rd 17 (λKz aF=>?_);go_simp
           (with_reducible refine(X3 xc 18 aB _ _ aB).mono ?_)
           rintro e w4 ⟨rfl,rfl⟩;have hS:=aD;go_wp2_with fail;refine aF.out _ _ hS ?_;clear aF Kz aD hS;intro aD;try simp only[Act.put,sL,sZ,sS]
           refine tk 18 aD ?_;refine tk 21 aD ?_;refine tk 22 aD ?_;refine tk 27 aD ?_;refine tk 28 aD ?_;refine rd 29 (λKz aF=>?_);have og:=Hd (show fw w g sb wb cur S (Qk ch (t+1)) (wd.setCell ⟨wb,t,none⟩ (.int .u32 (wn (Xd xa+xb+X9 xc+xd)))) from fw.congr (hI.out.set hgw.out hsw.out hww.out t _) hfin.out);have hS:=hSb.out _ og.out;rw[if_pos bT];have f1:=hI.out.free t;have d1:=hI.out.cell (j:=t) aB;go_simp;refine aF.out _ _ hS ?_;clear aF Kz aD hS;intro aD;try simp only[Act.put]
           refine bz ?_;go_wp2_with fail;refine hbk2.out _ _ kX ?_ ?_
           ·simp only[List.getD_cons_zero,List.getD_cons_succ];exact⟨t+1,aB,aB,by go_num,og.out⟩
           ·have h9:=h9.out;simp only[List.getD_cons_zero,List.getD_cons_succ,h9,intOf];omega
          ·obtain rfl:t=64:=aB;have hI2:=Hd hI;have qq:∀ j,j<8->∀ W,qw w g sb cur S W->W.cell? ⟨sb,j,none⟩=some (.int .u32 (wn (sAt S j))):=λj hj W hW=>fw.sAt hW hj;have q0:=qq 0 aB;have q1:=qq 1 aB;have q2:=qq 2 aB;have q3:=qq 3 aB;have q4:=qq 4 aB;have q5:=qq 5 aB;have q6:=qq 6 aB;have q7:=qq 7 aB;simp only[sAt] at q0 q1 q2 q3 q4 q5 q6 q7;replace hI:=Hd (hI2.out.grown (Below.refl _ wr).drew);have hbd:=hI.out.bs;clear hI2 h9 hbk2 qq;go_wp2_with fail;refine wp_region_held_drew (S:=(qw w g sb cur S)) kX hbd (λaD=>?_);generalize World.drew wr=wd at*;refine tk 0 aD ?_;refine tk 1 aD ?_;refine tk 2 aD ?_;refine tk 3 aD ?_;refine tk 4 aD ?_;refine tk 5 aD ?_;refine tk 6 aD ?_;refine tk 7 aD ?_;refine tk 8 aD ?_;refine tk 9 aD ?_;refine tk 10 aD ?_;refine tk 11 aD ?_;refine tk 12 aD ?_;refine tk 13 aD ?_;refine tk 14 aD ?_;refine tk 15 aD ?_;refine tk 16 aD ?_;refine tk 17 aD ?_;refine tk 18 aD ?_;refine tk 19 aD ?_;refine tk 20 aD ?_;refine tk 21 aD ?_;refine tk 22 aD ?_;refine tk 23 aD ?_;refine bz ?_;go_wp2_with fail;refine ZG [(false,13),(true,11),(false,144),(true,63)] _ [] (λV wq=>∃ t:Nat,t<=64/\V 21=.int .i64 t/\(V 13=.int .u32 (wn (ZT ch S t).a)/\V 14=.int .u32 (wn (ZT ch S t).b)/\V 15=.int .u32 (wn (ZT ch S t).c)/\V 16=.int .u32 (wn (ZT ch S t).d)/\
             V 17=.int .u32 (wn (ZT ch S t).e)/\V 18=.int .u32 (wn (ZT ch S t).f)/\V 19=.int .u32 (wn (ZT ch S t).g)/\V 20=.int .u32 (wn (ZT ch S t).h))/\fw w g sb wb cur S (Qk ch 64) wq)
            (λV _=>64-(intOf (V 21)).toNat) ?_ ?_
           ·simp only[List.getD_cons_zero,List.getD_cons_succ];exact⟨0,Nat.zero_le _,rfl,⟨rfl,rfl,rfl,rfl,rfl,rfl,rfl,rfl⟩,hI.out⟩
           ·clear hI q0 q1 q2 q3 q4 q5 q6 q7;intro V3 wr hrel K3 SG l' hl';obtain⟨t,ht,h9,⟨v13,v14,v15,v16,v17,v18,v19,v20⟩,hI⟩:=hrel;simp only[ZQ,ZM,cond_true,cond_false,Nat.reduceAdd,h9,v13,v14,v15,v16,v17,v18,v19,v20] at hl';subst hl';replace h9:=Hd h9;clear v13 v14 v15 v16 v17 v18 v19 v20;by_cases hlt:t<64
            ·have hti:(t:Int)<64:=aB;have ck:∀ W,fw w g sb wb cur S (Qk ch 64) W->W.cell? ⟨21,t,none⟩=some (.int .u32 (wn (oZ t))):=λW h=>hK.below h.bs.rs.bel t hlt;have cw:∀ W,fw w g sb wb cur S (Qk ch 64) W->W.cell? ⟨wb,t,none⟩=some (.int .u32 (wn (ed ch t))):=λW h=>by
              rw[h.cell hlt];unfold Qk;rw[if_pos hlt]
             have hnx:=Hd (show ZT ch S (t+1)=Uv (ZT ch S t) (oZ t) (ed ch t) from rfl);generalize ZT ch S t=r at*;obtain⟨ra,rb,rc,ry,re,rf,rg,rh⟩:=r;have b1:=J6 re rf;have b2:bits BinOp.xor IntKind.u32 IntKind.u32.max (wn re)=wn (~~~re):=C7 re;have b3:=J6 (~~~re) rg;have b4:=Yi (re &&& rf) (~~~re &&& rg);have b5:=J6 ra rb;have b6:=J6 ra rc;have b7:=Yi (ra &&& rb) (ra &&& rc);have b8:=J6 rb rc;have b9:=Yi ((ra &&& rb) ^^^ (ra &&& rc)) (rb &&& rc);rw[show (re &&& rf) ^^^ (~~~re &&& rg)=iV re rf rg from rfl] at b4;rw[show ((ra &&& rb) ^^^ (ra &&& rc)) ^^^ (rb &&& rc)=X0 ra rb rc from rfl] at b9;have y1:=Yi (ZI re 6) (ZI re 11);have y2:bits BinOp.xor IntKind.u32 (wn (ZI re 6 ^^^ ZI re 11)) (wn (ZI re 25))=wn (Qy re):=Yi _ _;have y3:=Yi (ZI ra 2) (ZI ra 13);have y4:bits BinOp.xor IntKind.u32 (wn (ZI ra 2 ^^^ ZI ra 13)) (wn (ZI ra 22))=wn (X1 ra):=Yi _ _;generalize oZ t=kk at*;generalize ed ch t=ww at*;have d1:=QG rh (Qy re);have d2:=QG (rh+Qy re) (iV re rf rg);have d3:=QG (rh+Qy re+iV re rf rg) kk;have d4:=QG (rh+Qy re+iV re rf rg+kk) ww;have d5:=QG (X1 ra) (X0 ra rb rc);have d6:=QG (rh+Qy re+iV re rf rg+kk+ww) (X1 ra+X0 ra rb rc);have d7:=QG ry (rh+Qy re+iV re rf rg+kk+ww);replace hI:=Hd (hI.grown (Below.refl _ wr).drew);have hbd:=hI.out;go_wp2_with fail;refine wp_region_held_drew (S:=(fw w g sb wb cur S (Qk ch 64))) kX hbd (λaD=>?_);generalize World.drew wr=wd at*;refine tk 0 aD ?_;refine tk 1 aD ?_;refine tk 3 aD ?_;refine tk 6 aD ?_;refine tk 10 aD ?_;refine tk 11 aD ?_
             refine tk 12 aD ?_;refine tk 13 aD ?_;refine tk 14 aD ?_;refine tk 15 aD ?_;refine tk 16 aD ?_;refine tk 17 aD ?_;refine tk 19 aD ?_;refine tk 20 aD ?_;refine tk 21 aD ?_;refine tk 23 aD ?_;refine tk 24 aD ?_;refine tk 25 aD ?_;refine rd 2 (λKz aF=>?_);go_simp
             (with_reducible refine(X3 re 6 aB _ _ aB).mono ?_)
             rintro e w4 ⟨rfl,rfl⟩;have hS:=aD;go_wp2_with fail;refine aF.out _ _ hS ?_;clear aF Kz aD hS;intro aD;try simp only[Act.put,sL,sZ,sS]
             refine rd 4 (λKz aF=>?_);go_simp
             (with_reducible refine(X3 re 11 aB _ _ aB).mono ?_)
             rintro e w4 ⟨rfl,rfl⟩;have hS:=aD;go_wp2_with fail;refine aF.out _ _ hS ?_;clear aF Kz aD hS;intro aD;try simp only[Act.put,sL,sZ,sS]
             refine tk 5 aD ?_;refine rd 7 (λKz aF=>?_);go_simp
             (with_reducible refine(X3 re 25 aB _ _ aB).mono ?_)
             rintro e w4 ⟨rfl,rfl⟩;have hS:=aD;go_wp2_with fail;refine aF.out _ _ hS ?_;clear aF Kz aD hS;intro aD;try simp only[Act.put,sL,sZ,sS]
             refine tk 8 aD ?_;refine tk 9 aD ?_;refine tk 18 aD ?_;refine tk 22 aD ?_;refine tk 26 aD ?_;refine tk 27 aD ?_;refine bz ?_;go_wp2_with fail;with_reducible refine(X3 ra 2 aB _ _ aB).mono ?_
             rintro e w4 ⟨rfl,rfl⟩;go_wp2_with fail;with_reducible refine(X3 ra 13 aB _ _ aB).mono ?_
             rintro e w4 ⟨rfl,rfl⟩;go_wp2_with fail;with_reducible refine(X3 ra 22 aB _ _ aB).mono ?_
             rintro e w4 ⟨rfl,rfl⟩;go_wp2_with fail;refine SG.out _ _ kX ?_ ?_
             ·simp only[List.getD_cons_zero,List.getD_cons_succ];exact⟨t+1,aB,by go_num,by rw[hnx.out];exact⟨rfl,rfl,rfl,rfl,rfl,rfl,rfl,rfl⟩,hI.out⟩
             ·have h9:=h9.out;simp only[List.getD_cons_zero,List.getD_cons_succ,h9,intOf];omega
            ·obtain rfl:t=64:=aB;have htk:=Hd (show QH S ch=Hc (ZT ch S 64) S from rfl);have q0:=fw.sAt hI.bs (j:=0) aB;have q1:=fw.sAt hI.bs (j:=1) aB;have q2:=fw.sAt hI.bs (j:=2) aB;have q3:=fw.sAt hI.bs (j:=3) aB;have q4:=fw.sAt hI.bs (j:=4) aB;have q5:=fw.sAt hI.bs (j:=5) aB;have q6:=fw.sAt hI.bs (j:=6) aB;have q7:=fw.sAt hI.bs (j:=7) aB;simp only[sAt] at q0 q1 q2 q3 q4 q5 q6 q7;have f0:∀ j,wr.frozen? ⟨sb,j,none⟩=false:=λj=>Zg hI.bs.st _;generalize ZT ch S 64=r at*;have p0:=Kj r.a S.a;have p1:=Kj r.b S.b;have p2:=Kj r.c S.c;have p3:=Kj r.d S.d;have p4:=Kj r.e S.e;have p5:=Kj r.f S.f;have p6:=Kj r.g S.g;have p7:=Kj r.h S.h;have hput:=Hd (qw.put8 hI.bs hgs.out hws.out (Hc r S));replace hI:=Hd hI;clear h9 SG;go_wp2_with fail;refine hback.out _ _ kX ?_ ?_
             ·simp only[List.getD_cons_zero,List.getD_cons_succ];exact⟨q+1,by have:=hkq.out;have:=kW;omega,by rw[hkq.out];go_num,by rw[hnext.out,htk.out];exact hput.out⟩
             ·have h7:=h7.out;have hk0:=wM.out;have e1:((K:Int)+64).toNat=K+64:=aB;have e2:((64*q:Nat):Int).toNat=64*q:=aB;simp only[List.getD_cons_zero,List.getD_cons_succ,h7,intOf,e1,<-hk0];first|omega|(rw[Int.toNat_natCast];omega)
      ·have zU:64*q=L:=aB;have hqL:q=L / 64:=aB;have hsha:=Hd (show sha m=Qx (ZP ZB M q) from by unfold sha;rw[hM.out,<-hL.out,<-hqL]);have hlti:¬((64*q:Nat):Int)<(L:Int):=aB;generalize ZP ZB M q=S at*;have hI0:=Hd (show vz w wr.heap.size (QF S 0) (wr.alloc (.cells aG 46)) from⟨by rw[GY,<-Km];exact heap_alloc_new wr _,(hI.rs.grown (bR.alloc nZ _)).res,(hI.rs.grown (bR.alloc nZ _)).bel⟩);have hst:=Hd (show (wr.alloc (.cells aG 46)).heap[sb]? = some (.cells (c8 S) 240 (0,0)) from(hI.grown (bR.alloc nZ _)).st);have how:=Hd (show w.heap.size<wr.heap.size from by have:=Zb hI.rs.res;omega);have hidx:=Hd (λi h W=>Fy S i h W);have SH:(Tryz.prog.info? 46).map (·.size)=some aG.size:=kX;have SI:aG.all (·.oneCell')=true:=WQ;have zx:aG.size=aG.size:=rfl;replace zx:=Hd zx;have Iz:(Tryz.prog.info? 240).map (·.size)=some (c8 S).size:=kX;clear hI h7 hback;generalize c8 S=D8 at*;go_wp2_with (first|with_reducible refine QQ rfl 46 (.tmp 24) (.tmp 271) rfl aG aG rfl rfl SH zx.out SI ?_|with_reducible refine Ze rfl 240 (.tmp 6) rfl sb D8 (.array 8 239) rfl hst yS rfl Iz ?_);go_wp2_with fail;obtain⟨ob,qi⟩:=aA wr.heap.size;obtain⟨W1,hW1⟩:∃ W,W=wr.alloc (.cells aG 46):=⟨_,rfl⟩;rw[<-hW1,<-qi] at hI0;rw[<-qi] at how;rw[<-hW1,<-qi];replace qi:=Hd qi;replace hW1:=Hd hW1;clear SI SH hst Iz;refine ZG [(false,25),(true,2),(false,246),(true,31)] _ [] (λV wq=>∃ i:Nat,i<=8/\V 273=.int .i64 i/\vz w ob (QF S (4*i)) wq)
        (λV _=>8-(intOf (V 273)).toNat) ?_ ?_
       ·simp only[List.getD_cons_zero,List.getD_cons_succ];exact⟨0,Nat.zero_le _,rfl,hI0.out⟩
       ·clear hI0;intro V wr hrel K1 hbk1 l' hl';obtain⟨i,hi,h9,hO⟩:=hrel;simp only[ZQ,ZM,cond_true,cond_false,Nat.reduceAdd,h9] at hl';subst hl';replace h9:=Hd h9;by_cases hlt:i<8
        ·have hix:=hidx.out i hlt;have hi8:(i:Int)<8:=aB;have c0:=hO.cell (j:=4*i) aB;have c1:=hO.cell (j:=4*i+1) aB;have c2:=hO.cell (j:=4*i+2) aB;have c3:=hO.cell (j:=4*i+3) aB;have f0:∀ j,wr.frozen? ⟨ob,j,none⟩=false:=λj=>hO.free j;have v0:wn (sAt S i) / (16777216:Int) % (256:Int)=((cf (Qx S) (4*i)).toNat:Int):=(JO S i 0 hlt aB).symm;have v1:wn (sAt S i) / (65536:Int) % (256:Int)=((cf (Qx S) (4*i+1)).toNat:Int):=(JO S i 1 hlt aB).symm;have v2:wn (sAt S i) / (256:Int) % (256:Int)=((cf (Qx S) (4*i+2)).toNat:Int):=(JO S i 2 hlt aB).symm;have v3:wn (sAt S i) % (256:Int)=((cf (Qx S) (4*i+3)).toNat:Int):=by
          have:=JO S i 3 hlt aB;simp at this;omega
         have e1:(4*(i:Int)).toNat=4*i:=aB;have e2:(4*(i:Int)+1).toNat=4*i+1:=aB;have e3:(4*(i:Int)+2).toNat=4*i+2:=aB;have e4:(4*(i:Int)+3).toNat=4*i+3:=aB;have hO4:=Hd (show vz w ob (QF S (4*i+4)) _ from((hO.set how.out).set how.out |>.set how.out).set how.out);replace hO:=Hd hO;generalize sAt S i=x at*;generalize cf (Qx S) (4*i)=y0 at*;go_wp2_with fail;refine hbk1.out _ _ kX ?_ ?_
         ·simp only[List.getD_cons_zero,List.getD_cons_succ];exact⟨i+1,aB,by go_num,hO4.out⟩
         ·have h9:=h9.out;simp only[List.getD_cons_zero,List.getD_cons_succ,h9,intOf];omega
        ·obtain rfl:i=8:=aB;have hrow:=Hd hO.row;have hres:=Hd hO.res;have hbel:=Hd hO.bel;have Ob:cB (tab 32 (QF S (4*8)))=cB (sha m):=by rw[show 4*8=32 from rfl,Mx,hsha.out]
         rw[Ob] at hrow;have hu1:Tryz.prog.underlying 46=some (.array 32 5):=Tryz.underlying46;have ko:(Tryz.prog.info? 46).map (·.size)=some (cB (sha m)).toArray.size:=by rw[List.size_toArray,Zc,Zy];kernel_rfl
         have Oc:aG.size=(cB (sha m)).toArray.size:=by rw[Z3,List.size_toArray,Zc,Zy]
         have hone:(cB (sha m)).toArray.all (·.oneCell')=true:=by
          rw[List.all_toArray,List.all_eq_true];exact Zw _
         generalize zW:(cB (sha m)).toArray=DD at*;clear hO Ob hidx h9 hbk1;go_wp2_with (first|with_reducible refine Ze rfl 46 (.tmp 24) rfl ob DD (.array 32 5) rfl hrow hu1 rfl ko ?_|with_reducible refine Zd rfl 46 (.tmp 2) (.tmp 304) rfl w.heap.size aG DD rfl rfl hres ko Oc hone ?_);intro w9 au;go_wp2_with fail;exact Z2 rfl rfl hu1 rfl ko au.out.here ⟨by rw[zW],hbel.out.trans (au.out.below nZ)⟩
end Go.Proofs.YtpdhceiodgnbmaaGreatDoor
