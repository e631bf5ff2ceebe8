import Derived.Test.YtpdhceiodgnbmaaGreatDoorF15KeepsSaid
set_option linter.all false
set_option maxRecDepth 100000
set_option maxHeartbeats 8000000
namespace Go.Proofs.YtpdhceiodgnbmaaGreatDoor
open Go.RowKit
section
variable {α:Type} {R:World->(Nat->Prop)->α->List Value->Prop} {e:TypeId} {size base:Nat} {w:World} {F F':Nat->Prop} {v:Value} {ps:List α} {P:Program} {o:Oper} {a:Act} {Q:Exit->Act->World->Prop} {K:Act->World->Prop}
theorem NQ(hR:dN R size)(s x:Operand)(t:TypeId)(ho:o.op=.call { callee:=.builtin .append,args:=#[s,x],argTypes:=#[t,t] })
  (ht:P.underlying t=some (.slice e)) (bytes:Nat) (hi:(P.info? e).map (λi=>(i.zero.map (·.cells.size),i.size,i.bytes))=some (some size,size,bytes)) (hsz:0<size)
  (hs:a.eval s=v) (h:Hid (aH R e size base w F v ps)) (y:α) (C:Array Value) (hy:Hid (R w F' y C.toList)) (hF:Hid (∀ k,F k->F' k)) (ha:Hid (∀ k,v.ownBlock=some k->¬F' k)) (hl:Hid (∀ k,F' k->k<w.heap.size))
  (g:Nat) (hx:a.eval x=.slice (some ⟨g,0,none⟩) 1 1) (hg:Hid (w.heap[g]? = some (.cells C e (0,0)))) (h63:ps.length<=1000000) (ib:bytes<=10000) (hbase:base<=w.heap.size)
  (hK:∀ v' w',Hid (aH R e size base w' F' v' (ps++[y]))->Hid (Only (λk=>v.ownBlock=some k) w w')->Hid (JX w v v')->K (a.put o.dst v') w'):o.wp P a w K Q:=by
 obtain⟨ie,hie,h2⟩:=Option.map_eq_some_iff.1 hi;simp only[Prod.mk.injEq] at h2;obtain⟨hz,hs1,hby⟩:=h2;obtain⟨z,hz1,hz2⟩:=Option.map_eq_some_iff.1 hz;obtain⟨v',w',hr,k1,k2,k3⟩:=h.out.app1 (P:=P) hR t o.type ie z bytes ht hie hz1 hs1 hby hz2 hsz y C.toList hy.out hF.out ha.out hl.out g C rfl hg.out kS
  (Nat.le_trans (Nat.mul_le_mul (Nat.succ_le_succ h63) ib) dX) hbase
 unfold Oper.wp execOp;simp only[ho,resolve,invoke,builtin,Sem.run_bind,Sem.run_pure,Result.andThen_ok,List.map_toArray,List.map_cons,List.map_nil,hs,hx,hr];exact hK v' w' (Hd k1) (Hd k2) (Hd k3)
end
theorem HX{w:World}{b c:Nat}{ps:List (List UInt8)}(h:eQ w (some ⟨b,0,none⟩) c ps):eU w b ps:=by
 intro k hk;obtain⟨b',o',e',a,c',h1,h2⟩:=h.row k hk;cases e';rw[Nat.zero_add] at h1;exact⟨a,c',h1,h2⟩
theorem bA.appended{base:Nat}{w w8 w9:World}{J B mb mn:Nat}{v rv rv':Value}{F F':Nat->Prop}{p:DP}{recs:List (List UInt8)}{sure:Nat}{dead:Bool}{r:List UInt8}(h:JD base w J B mb mn v rv F p recs sure dead)(hr:okR r)
  (hO:Only (λk=>rv.ownBlock=some k) w w8) (hF:∀ k,F' k->F k\/w.heap.size<=k) (hv:∀ k,rv'.ownBlock=some k->rv.ownBlock=some k\/w.heap.size<=k) (hrow:aH RB 24 1 base w8 F' rv' (recs++[r]))
  (hU:ag J (.cells (Z9 B rv' (Zi aM (recs++[r])) (Zn (recs++[r]):Nat) sure dead) 190 (0,0)) w8 w9) (hb:base<=w.heap.size):bA base w w9 J B mb v rv F mn v rv' F' p (recs++[r]) sure dead:=by
 have hJl:=Zb h.jm.at_;have gQ:Only (λk=>k=J) w8 w9:=Only.ofUpd hU rfl;have hO3:Only (JF J F rv) w w9:=(hO.mono (λk _ e=>(.inr (.inr e):JF J F rv k))).trans gQ (λk _ e=>.inl e);have hO2:Only (λk=>JF J F rv k\/ZR B mb v k) w w9:=hO3.mono (λ_ _ h=>.inl h);have hnF:¬F' J:=λhk=>(hF J hk).elim h.jm.nF (λh=>by omega);have AU:rv'.ownBlock≠some J:=λhk=>(hv J hk).elim h.jm.nv (λh=>by omega);have hnew:∀ k,JF J F' rv' k->JF J F rv k\/w.heap.size<=k:=by
  rintro k (hk|hk|hk)
  ·exact .inl (.inl hk)
  ·exact(hF k hk).imp (λh=>.inr (.inl h)) id
  ·exact(hv k hk).imp (λh=>.inr (.inr h)) id
 refine⟨⟨⟨hU.here,hrow.only cZ gQ (λk hk e=>hnF (e▸hk)) (λk hk e=>AU (e▸hk)),hnF,AU,h.jm.ge,λk hk=>(hF k hk).elim (h.jm.geF k) (λh=>by omega),λx hx=>?_⟩,h.dm.only hO3 (λk hk hd=>h.dj k hd hk),λk hk hd=>?_⟩,hO2,hnew,λ_ h=>.inl h⟩
 ·rcases List.mem_append.1 hx with hx|hx
  ·exact h.jm.okR x hx
  ·rw[List.mem_singleton.1 hx];exact hr
 ·rcases hnew k hk with h1|h1
  ·exact h.dj k h1 hd
  ·have:=(h.dm.lt k hd).2;omega
theorem bA.appended3{base:Nat}{w w11 w12 w13 w14 w15:World}{J B mb mn:Nat}{v rv rv':Value}{F:Nat->Prop}{p:DP}{recs:List (List UInt8)}{sure:Nat}{dead:Bool}{r:List UInt8}(h:JD base w J B mb mn v rv F p recs sure dead)(hr:okR r)
  (mo:Below w.heap.size w w11) (hO:Only (λk=>rv.ownBlock=some k) w11 w12) (hM:JX w11 rv rv') (g10:Nat) (hg:w.heap.size<=g10) (hrow:aH RB 24 1 base w12 (λk=>F k\/k=g10) rv' (recs++[r])) (E FL:Nat) (hE:E=Zn recs) (I9:FL=34+r.length)
  (kE:ag J (.cells (Z9 B rv' (Zi aM recs) (E:Nat) sure dead) 190 (0,0)) w12 w13) (h14:ag J (.cells (Z9 B rv' (ZF (Zi aM recs) r) (E:Nat) sure dead) 190 (0,0)) w13 w14)
  (h15:ag J (.cells ((Z9 B rv' (ZF (Zi aM recs) r) (E:Nat) sure dead).setIfInBounds 34 (.int .i64 ((E:Int)+(FL:Int)))) 190 (0,0)) w14 w15) (hb:base<=w.heap.size):bA base w w15 J B mb v rv F mn v rv' (λk=>F k\/k=g10) p (recs++[r]) sure dead:=by
 have hU:=(kE.trans h14).trans h15;rw[D1 (Y5 _ _),show (E:Int)+(FL:Int)=((Zn (recs++[r]):Nat):Int) by rw[XV,hE,I9];omega,<-Xw] at hU;exact bA.appended h hr ((Only.ofBelow (D:=λk=>rv.ownBlock=some k) mo).trans hO (λ_ _ h=>h)) (λk hk=>hk.imp id (λe=>by omega)) (λk hk=>(hM k hk).imp id (λh=>Nat.le_trans mo.size h)) hrow hU hb
theorem Ks{K:Act->World->Prop}{a:Act}{w:World}{x:Addr}{u:Value}(h:∀ w',w'=w.setCell x u->K a w'):K a (w.setCell x u):=h _ rfl
theorem MG{K:Act->World->Prop}{a:Act}{w:World}{b o:Nat}{us:List Value}(h:∀ w',w'=w.setCells b o us->K a w'):K a (w.setCells b o us):=h _ rfl
def Ru(n:Nat)(recs:List (List UInt8))(r:List UInt8):Prop:=1<=r.length/\r.length<=400/\r.length<=Je n (Zn recs)
def CV(base:Nat)(w:World)(J B mb mn:Nat)(v rv:Value)(F:Nat->Prop)(q:DP×Bool)(recs:List (List UInt8))(r:List UInt8)(sure:Nat)(x:Ending)(w':World):Prop:=
 (if q.2=true then x=.returned .nilIface else qz x w')/\∃ v' rv' F',bA base w w' J B mb v rv F mn v' rv' F' q.1 (if q.2=true then recs++[r] else recs) sure (!q.2)
theorem T3{base:Nat}{w:World}{J B mb mn:Nat}{v rv:Value}{F:Nat->Prop}{p:DP}{recs:List (List UInt8)}{sure:Nat}(h:JD base w J B mb mn v rv F p recs sure false)(hb:base<=w.heap.size)(n:Nat)(hpn:p.n=(n:Int))(hn:n<=1000)(uG:Zn recs<=64*n)(hws:p.ws.length<=20000)(hpl : -200000<=p.l/\p.l<=200000)(hg:p.gone=false)(e:Nat->Addr)(j6:13≠B)(fe:∀ W,Below base w W->dJ W e)
  (hK:bP w) (hF:bZ w) (r:List UInt8) (hgood:Ru n recs r) (a:Option Addr) (c:Nat) (hA:aJ w a c r) (ma:∀ b o s,a=some ⟨b,o,s⟩->¬JF J F rv b/\¬ZR B mb v b/\b<w.heap.size) :
  Calls Tryz.prog 145 #[.pointer (some ⟨J,0,none⟩),.slice a r.length c] w (CV base w J B mb mn v rv F (lay p (Zn recs) (Z0 (Zi aM recs) r)) recs r sure):=by
 have zr:=Qe;have zn:=ZH;obtain⟨g1,g2,g3⟩:=hgood;obtain⟨ra,rc,AV,_⟩:=h.jm.rows.argBB;subst AV;have hrl:recs.length<=1000000:=by have:=NU recs;omega
 have hroom:Zn recs+34+r.length<=64*n:=by unfold Je at g3;omega
 have hfl:=YN (Zi aM recs) r;have uF:=h.jm.cell36;have hsd:=λW=>VK (r.length:Int) W;have hd2:decide (1<=(r.length:Int)/\(r.length:Int)<=400)=true:=decide_eq_true aB;rw[hd2] at hsd;have hrm:=Te h n hpn hn uG;have hH:=QE Ql recs;have bM:=Y5 (Zi aM recs) r;have Iw:Zi aM (recs++[r])=ZF (Zi aM recs) r:=Xw _ _ _;have hes:Zn (recs++[r])=Zn recs+(34+r.length):=XV _ _;obtain⟨q,hq⟩:=aA (lay p (Zn recs) (Z0 (Zi aM recs) r));rw[<-hq];replace hq:=Hd hq;obtain⟨RM,hRM⟩:=aA (Je n (Zn recs));rw[<-hRM] at hrm g3;have zQ:¬((r.length:Int)>(RM:Int)):=aB;have hR3':¬((RM:Int)<(r.length:Int)):=aB;obtain⟨L,hL⟩:=aA r.length;rw[<-hL] at hsd zQ hR3' ⊢;obtain⟨H,hHd⟩:∃ H,H=(cB (Zi aM recs)).toArray:=⟨_,rfl⟩;have hiH:(Tryz.prog.info? 47).map (·.size)=some (cB (Zi aM recs)).length:=by rw[Qi hH,List.size_toArray]
 have huA:Tryz.prog.underlying 47=some (.array 32 5):=Tryz.underlying47;obtain⟨N,hN⟩:∃ N,N=(cB (ZF (Zi aM recs) r)).toArray:=⟨_,rfl⟩;have tD:(Tryz.prog.info? 47).map (·.size)=some N.size:=by rw[hN];exact Qi bM
 have t32:aG.size=N.size:=by rw[hN];exact KT bM
 have tO:N.all (·.oneCell')=true:=by rw[hN];exact U3 _
 replace h:=Hd h;replace hpn:=Hd hpn;replace hws:=Hd hws;replace hpl:=Hd hpl;replace hg:=Hd hg;replace fe:=Hd fe;replace hK:=Hd hK;replace hF:=Hd hF;replace hA:=Hd hA;replace ma:=Hd ma;replace hrm:=Hd hrm;replace hsd:=Hd hsd;replace Iw:=Hd Iw;replace hes:=Hd hes;replace hfl:=Hd hfl;replace hRM:=Hd hRM;replace hL:=Hd hL;replace hN:=Hd hN;replace hHd:=Hd hHd;go_enter Tryz.func145,Tryz.ntmps145;go_wp2_with fail;with_reducible refine(hsd.out _).mono ?_
 rintro x w0 ⟨rfl,hq⟩;obtain rfl:=hq;clear hsd;go_wp2_with fail;with_reducible refine hrm.out.mono ?_
 rintro x w1 ⟨rfl,nd,rfl⟩;clear hrm;have hb1:Below w.heap.size w (w.drewN nd):=eP.below ⟨nd,rfl⟩ _;generalize w.drewN nd=w1 at*;have hhd:w1.rangeAt J 2 (cB (Zi aM recs)):=(h.out.below hb1).jm.head;have hnx:=VU (Zi aM recs) r hH a c w1 (hA.out.below hb1) aB (hK.out.below hb1) (hF.out.below hb1);rw[<-hHd.out,<-hN.out,<-hL.out] at hnx;replace hnx:=Hd hnx;replace hhd:=Hd hhd;replace hb1:=Hd hb1;go_wp2_with (refine wpList_load_mid rfl 47 (.tmp 29) rfl J 2 rfl (cB (Zi aM recs)) _ hhd.out huA rfl hiH ?_;rw[<-hHd.out]);with_reducible refine hnx.out.mono ?_
 rintro x w2 ⟨rfl,hb2⟩;clear hnx hhd;have hz2:Hid ((w2.alloc (.cells aG 47)).heap[w2.heap.size]? = some (.cells aG 47 (0,0))):=heap_alloc_new w2 (.cells aG 47 (0,0));go_wp2_with (refine Zd rfl 47 (.tmp 5) (.tmp 32) rfl w2.heap.size aG N rfl rfl hz2 tD t32 tO ?_;intro w4 eZ);have hb4:Below w.heap.size w w4:=(hb1.out.trans (hb2.mono hb1.out.size)).trans ((bR.alloc (Nat.le_trans hb1.out.size hb2.size) _).trans (eZ.out.below (Nat.le_trans hb1.out.size hb2.size)));obtain⟨g,hgd⟩:=aA w2.heap.size;have hNb:w4.heap[g]? = some (.cells N 47 (0,0)):=by rw[hgd];exact eZ.out.here
 have hgw:w.heap.size<=g:=by rw[hgd];exact Nat.le_trans hb1.out.size hb2.size
 rw[<-hgd];replace hgd:=Hd hgd;have hd4:Below w4.heap.size w4 w4.drew:=bR.drew;have hah:aJ w4.drew (some ⟨g,0,none⟩) 32 (ZF (Zi aM recs) r):=Yk (by rw[<-hN.out];exact hNb) aB dX;have har:aJ w4.drew a c r:=(hA.out.below hb4).below hd4;have hsz:=λW=>Hk r.length aB W;rw[<-hL.out] at hsz;have hmk:=λW ax cx ay cy az cz g (h1:aJ W ax cx (jI r.length)) (h2:aJ W ay cy (ZF (Zi aM recs) r)) (h3:aJ W az cz r)=>KX (g:=g) h1 h2 h3;rw[bM,show (jI r.length).length=2 from rfl,<-hL.out] at hmk;have hcc:=λW g hA=>Ul g [jI r.length,ZF (Zi aM recs) r,r] W hA sX (by simp[jI]) (by simp[jI,bM];omega);rw[show [jI r.length,ZF (Zi aM recs) r,r].length=3 from rfl,show [jI r.length,ZF (Zi aM recs) r,r].flatten=Z0 (Zi aM recs) r by simp[Z0]] at hcc;rw[hL.out] at hmk hsz;replace hcc:=Hd hcc;replace hmk:=Hd hmk;replace hsz:=Hd hsz;replace hd4:=Hd hd4;replace hb4:=Hd hb4;replace hNb:=Hd hNb;replace hah:=Hd hah;replace har:=Hd har;clear hz2 eZ hb2 hb1;rw[hL.out];go_wp2_with fail;refine wp_region_held_drew (S:=(Below w4.heap.size w4)) kX hd4.out (λaD=>?_);generalize World.drew w4=wd at*;refine tk 0 aD ?_;refine tk 1 aD ?_;refine tk 3 aD ?_;refine tk 4 aD ?_;refine rd 2 (λKz aF=>?_);go_simp
 (with_reducible refine(hsz.out _).mono ?_)
 rintro e w3 ⟨rfl,hl3,hnew⟩;replace hah:=Hd (hah.out.below hnew);replace har:=Hd (har.out.below hnew);replace hl3:=Hd hl3;clear hsz;focus (go_wp2_with fail)
 refine aF.out _ _ (Below.trans aD (Below.mono hnew (Below.size aD))) ?_;clear aF Kz aD;intro aD;try clear hnew
 try simp only[Act.put,sL,sZ,sS]
 refine rd 5 (λKz aF=>?_);go_simp;focus (try go_wp2_with fail)
 (with_reducible refine Zp (t:=24) ?_)
 intro w5 hx5 hnew;have fA:=Hd (hmk.out _ _ _ _ _ _ _ _ (hl3.out.below hnew) (hah.out.below hnew) (har.out.below hnew) hx5.out);refine aF.out _ _ (Below.trans aD (Below.mono hnew (Below.size aD))) ?_;clear aF Kz aD;intro aD;try clear hnew
 try simp only[Act.put,sL,sZ,sS]
 refine rd 6 (λKz aF=>?_);go_simp
 (with_reducible refine(hcc.out _ _ (HX fA.out)).mono ?_)
 rintro e w8 ⟨v8,rfl,zu,hnew⟩;have zu:=Hd (aN.mono zu aD.size);focus (go_wp2_with fail)
 refine aF.out _ _ (Below.trans aD (Below.mono hnew (Below.size aD))) ?_;clear aF Kz aD;intro aD;try clear hnew
 try simp only[Act.put,sL,sZ,sS]
 refine tk 7 aD ?_;refine bz ?_;have ib:Below w.heap.size w w8:=hb4.out.trans (aD.mono hb4.out.size);have AX:w8.heap[g]? = some (.cells N 47 (0,0)):=(aD.block _ (Zb hNb.out)).trans hNb.out;obtain⟨a8,c8,rfl,wQ,yX⟩:=zu.out.arg;have hw4:=hb4.out.size;have rE:=CX (h.out.below ib) (Nat.le_trans hb ib.size) n hpn.out hn hws.out hpl.out hg.out e j6 (λW hW=>fe.out W ((ib.mono hb).trans hW)) (Z0 (Zi aM recs) r) (by rw[hfl.out];omega) (by rw[hfl.out];omega) a8 c8 wQ
  (λb' o' s' e'=>by
   have hbb:=yX b' o' s' e';exact⟨λhj=>by have:=(h.out.jm.lt _ hj).2;omega,λhd=>by have:=(h.out.dm.lt _ hd).2;omega,hbb.2⟩)
 rw[<-hq.out] at rE;obtain⟨FL,I9⟩:∃ FL,FL=(Z0 (Zi aM recs) r).length:=⟨_,rfl⟩;rw[<-I9] at rE ⊢;have xD:FL=34+r.length:=by rw[I9,hfl.out]
 replace I9:=Hd I9;replace xD:=Hd xD;replace rE:=Hd rE;replace ib:=Hd ib;replace AX:=Hd AX;clear wQ yX zu hcc hmk aD uF hd4 hx5 fA hah har hl3;go_wp2_with fail;with_reducible refine rE.out.mono ?_
 clear rE;obtain⟨p',ok⟩:=q;rintro x w9 ⟨hx,v9,jP⟩;have hst:=((bA.same h.out).grow ib.out).trans jP;cases ok with
 | false=>
  obtain⟨g9,F9,V9,a9,rfl,hfc,hpe⟩:=hx;replace hst:=Hd hst;replace hfc:=Hd hfc;replace hpe:=Hd hpe;clear jP;go_wp2_with fail;go_ret;exact⟨⟨_,_,_,_,rfl,hfc.out,hpe.out⟩,_,_,_,hst.out⟩
 | true=>
  cases (show x=_ from hx);have hw8:=ib.out.size;have hgl:=Zb AX.out;have hnJ:¬JF J F (.slice ra recs.length rc) g:=λhj=>by have:=(h.out.jm.lt _ hj).2;omega
  have hnD:¬ZR B mb v g:=λhd=>by have:=(h.out.dm.lt _ hd).2;omega
  have Sl:w9.drew.heap[g]? = some (.cells N 47 (0,0)):=jP.only.heap AX.out (λhd=>hd.elim hnJ hnD);have hA9:aJ w9.drew a c r:=(hst.only.argB hA.out (λb' o' e' hd=>(ma.out b' o' none e').elim (λh1 h2=>hd.elim h1 h2.1))).below (bR.drew);have hcl:=XY a c r w9.drew hA9 aB;have hgv:(Value.slice ra recs.length rc).ownBlock≠some g:=λe=>hnJ (.inr (.inr e));have hgJ:g≠J:=λe=>hnJ (.inl e);obtain⟨E,hE⟩:=aA (Zn recs);have hE2:E<=64000:=aB;have hFL2:FL<=434:=by rw[xD.out];omega
  have dP:w9.drew.heap[J]? = some (.cells (Z9 B (.slice ra recs.length rc) (Zi aM recs) (Zn recs:Nat) sure false) 190 (0,0)):=jP.ok.jm.at_;rw[<-hE] at dP;have ik:aH RB 24 1 base w9.drew F (.slice ra recs.length rc) recs:=jP.ok.jm.rows.below cZ (bR.drew);have jf:base<=w9.drew.heap.size:=Nat.le_trans hb (Nat.le_trans hw8 jP.only.size);have hbd:Below w9.heap.size w9 w9.drew:=bR.drew;have k1:w9.drew.cell? ⟨J,1,none⟩=some (.slice ra recs.length rc):=by rw[Za dP];exact I1
  have k34:w9.drew.cell? ⟨J,34,none⟩=some (.int .i64 (E:Nat)):=by rw[Za dP];exact Kx hH
  have iW:∀ W:World,W.heap[g]? = some (.cells N 47 (0,0))->W.heap[g]? = some (.cells N 47 (0,0)):=λ_ h=>h;have gy:=tD;have zh:N.toList=cB (ZF (Zi aM recs) r):=by rw[hN.out]
  have hwrap:IntKind.i64.wrap ((E:Int)+(FL:Int))=(E:Int)+(FL:Int):=IntWalk.i64_in _ aB;have hinfo:=Hd UW;have qH:=Tryz.underlying22;replace Sl:=Hd Sl;replace hcl:=Hd hcl;replace dP:=Hd dP;replace ik:=Hd ik;replace zh:=Hd zh;replace hE:=Hd hE;replace hst:=Hd hst;replace jP:=Hd jP;replace hbd:=Hd hbd;clear hA9 hnJ hnD;go_wp2_with fail;refine wp_region_held_drew (S:=(λW:World=>W.heap[g]? = some (.cells N 47 (0,0)))) kX Sl.out (λaD=>?_);generalize World.drew w9=wd at*;refine tk 0 aD ?_;refine tk 1 aD ?_;refine tk 2 aD ?_;refine tk 3 aD ?_;refine tk 4 aD ?_;refine tk 5 aD ?_;refine tk 7 aD ?_;refine tk 11 aD ?_ (v:=Value.agg _) (hy:=Or.inl ⟨by rfl,λW hSW=>Z6 _ _ rfl _ _ _ rfl (iW W hSW) huA rfl gy⟩);refine tk 12 aD ?_;refine tk 13 aD ?_;refine tk 14 aD ?_;refine tk 16 aD ?_;refine tk 17 aD ?_
  repeat' first
   | exact AllReadyH.nil
   |
    first|refine lV 6 (λKz aF=>?_) ?_|refine lW 6 (λKz aF=>?_)|refine lV 15 (λKz aF=>?_) ?_|refine lW 15 (λKz aF=>?_)
    go_simp;focus (try go_wp2_with fail)
    refine aF.out _ _ qD ?_;clear aF Kz aD;intro aD;try simp only[Act.put,sL,sZ,sS]
   |
    first|refine lV 8 (λKz aF=>?_) ?_|refine lW 8 (λKz aF=>?_)
    go_simp
    (with_reducible refine hcl.out.mono ?_)
    rintro y w10 ⟨v10,rfl,gm,hnew⟩;have hS:=(hnew.block g (Zb aD)).trans aD;have dC:=Hd ((hnew.block J (Zb dP.out)).trans dP.out);have Sm:=Hd hnew;obtain⟨g10,c10,rfl,aW⟩:=aN.form gm g1;have gm:=Hd gm;have mq:w10.cell? ⟨J,1,none⟩=some (.slice ra recs.length rc):=(by rw[Za dC.out];exact I1);have AY:w10.cell? ⟨J,34,none⟩=some (.int .i64 (E:Nat)):=(by rw[Za dC.out];exact Kx hH);focus (go_wp2_with fail)
    refine aF.out _ _ hS ?_;clear aF Kz aD hS;intro aD;try clear hnew
    try simp only[Act.put,sL,sZ,sS]
   |
    first|refine lV 9 (λKz aF=>?_) ?_|refine lW 9 (λKz aF=>?_)
    go_simp;focus (try go_wp2_with fail)
    (with_reducible refine Zp (t:=24) ?_)
    intro w11 hx11 hnew;have hS:=(hnew.block g (Zb aD)).trans aD;have mr:=Hd ((hnew.block J (Zb dC.out)).trans dC.out);have mo:=Hd (Sm.out.trans (hnew.mono Sm.out.size));have jQ:=Hd (aN.below gm.out hnew nZ);have uH:=Hd (ik.out.below cZ mo.out);have Sn:base<=w11.heap.size:=Nat.le_trans jf mo.out.size;have sJ:=Hd (show RB w11 (λk=>F k\/k=g10) r (#[Value.slice (some ⟨g10,0,none⟩) r.length c10]:Array Value).toList from cZ.more (Hm jQ.out) (λk h=>by cases h;exact .inr rfl));have Iu:=Hd (show ∀ k,F k->F k\/k=g10 from λk h=>.inl h);have haB:=Hd (show ∀ k,(Value.slice ra recs.length rc).ownBlock=some k->¬(F k\/k=g10) from λk hk h=>h.elim (ik.out.apart k hk) (λh=>by have:=(ik.out.ownLt k hk).2;omega));have hlB:=Hd (show ∀ k,F k\/k=g10->k<w11.heap.size from λk h=>h.elim (λh=>uH.out.lt k h) (λh=>h▸(World.ownsRow.lt jQ.out g10 rfl).2));have mq:w11.cell? ⟨J,1,none⟩=some (.slice ra recs.length rc):=(by rw[Za mr.out];exact I1);have AY:w11.cell? ⟨J,34,none⟩=some (.int .i64 (E:Nat)):=(by rw[Za mr.out];exact Kx hH);refine aF.out _ _ hS ?_;clear aF Kz aD hS;intro aD;try clear hnew
    try simp only[Act.put,sL,sZ,sS]
   |
    first|refine lV 10 (λKz aF=>?_) ?_|refine lW 10 (λKz aF=>?_)
    rw[if_pos bT]
    (refine NQ cZ (.tmp 52) (.tmp 55) 22 rfl qH 24 hinfo.out dX rfl uH r _ sJ Iu haB hlB w10.heap.size rfl hx11 hrl dX Sn ?_)
    intro v12 w12 Sq jg hM12;have hS:=jg.out.heap aD hgv;have qV:=Hd (jg.out.heap mr.out (λhd=>jP.out.ok.jm.nv hd));have mq:w12.cell? ⟨J,1,none⟩=some (.slice ra recs.length rc):=(by rw[Za qV.out];exact I1);have AY:w12.cell? ⟨J,34,none⟩=some (.int .i64 (E:Nat)):=(by rw[Za qV.out];exact Kx hH);have xE:w12.frozen? ⟨J,1,none⟩=false:=Zg qV.out _;obtain⟨a12,n12,c12,hv12⟩:∃ a n c,v12=.slice a n c:=(by obtain⟨a,c,e,_⟩:=Sq.out.form;exact⟨a,_,c,e⟩);subst hv12;refine aF.out _ _ hS ?_;clear aF Kz aD hS;intro aD;try simp only[Act.put]
   | refine tkK 18 aD ?_
   | refine Xi [6,8,15] ?_
   | refine Xi [6,9,15] ?_
   | refine Xi [8,15] ?_
   | refine Xi [9,15] ?_
   | refine Xi [10,15] ?_
   | refine Xi [6,15] ?_
   | refine Xi [6,9] ?_
   | refine Xi [6,8] ?_
   | fail
  all_goals
   refine tk 19 aD ?_;refine tk 20 aD ?_;refine rd 21 (λKz aF=>?_);have ow:=((ag.refl qV.out).setCell (j:=1) (.slice a12 n12 c12));go_simp
   (with_reducible refine Ks ?_)
   intro w13 Sr;rw[<-Sr,CI] at ow;clear Sr;have hS:=(ow.block g hgJ).trans aD;replace ow:=Hd ow;have hth:=Hd (show w13.there J 2 N.size from KZ ow.out.here (by rw[Ud hH,hN.out,List.size_toArray,Zc,bM];decide));refine aF.out _ _ hS ?_;clear aF Kz aD hS;intro aD;try simp only[Act.put]
   refine tk 22 aD ?_;refine tk 23 aD ?_;refine rd 24 (λKz aF=>?_);rw[if_pos bT];have nC:=(Kr N.toList 2 (ag.refl ow.out.here))
   (refine wp_store_mid 47 (.tmp 68) (.tmp 57) rfl J 2 N rfl rfl hth.out tD tO ?_)
   (with_reducible refine MG ?_)
   intro w14 Su;rw[<-Su,zh.out,CE hH bM] at nC;clear Su;have hS:=(nC.block g hgJ).trans aD;replace nC:=Hd nC;have AY:w14.cell? ⟨J,34,none⟩=some (.int .i64 (E:Nat)):=(by rw[Za nC.out.here];exact Kx bM);have f34c:w14.frozen? ⟨J,34,none⟩=false:=Zg nC.out.here _;refine aF.out _ _ hS ?_;clear aF Kz aD hS;intro aD;try simp only[Act.put]
   refine tk 25 aD ?_;refine tk 26 aD ?_;refine rd 27 (λKz aF=>?_);have AZ:=Hd ((ag.refl nC.out.here).setCell (j:=34) (.int .i64 ((E:Int)+(FL:Int))));go_simp
   (with_reducible refine Ks ?_)
   intro w15 Sv;rw[<-Sv] at AZ;clear Sv;have hS:=(AZ.out.block g hgJ).trans aD;refine aF.out _ _ hS ?_;clear aF Kz aD hS;intro aD;try simp only[Act.put]
   refine bz ?_
  all_goals
   go_wp2_with fail;go_ret;exact⟨rfl,v9,_,_,hst.out.trans (bA.appended3 jP.out.ok ⟨g1,g2⟩ (hbd.out.trans (mo.out.mono hbd.out.size)) jg.out hM12.out g10 (Nat.le_trans hbd.out.size aW) Sq.out E FL hE.out xD.out ow.out nC.out AZ.out (Nat.le_trans hb (Nat.le_trans hw8 jP.out.only.size)))⟩
theorem GA:∀ (f:Nat) (p:DP) (k:Nat) (b:List UInt8),p.gone=false->((Yc f p k b).2=true->(Yc f p k b).1.gone=false)/\(Yc f p k b).1.n=p.n/\(Yc f p k b).1.ws.length<=p.ws.length+f/\p.l-f<=(Yc f p k b).1.l/\(Yc f p k b).1.l<=p.l/\(Yc f p k b).1.armed=p.armed/\(Yc f p k b).1.f=p.f:=by
 intro f;induction f with
 | zero=>intro p k b hg;exact⟨λ_=>hg,rfl,Nat.le_refl _,by show p.l-0<=p.l;omega,Int.le_refl _,rfl,rfl⟩
 | succ f ih=>
  intro p k b hg;rw[Yc];split
  ·exact⟨λ_=>hg,rfl,by simp only;omega,by simp only;omega,by simp only;omega,rfl,rfl⟩
  ·generalize Jo _ b k=s;generalize ((k / 64:Nat):Int)=i;have hw:(p.write i s).2=0/\p.write i s=({ p with l:=p.l-1,ws:=p.ws++[(i,s)] },0)\/(p.write i s).2≠0/\((p.write i s).1=p\/(p.write i s).1={ p with gone:=true }):=by
    unfold DP.write;split
    ·exact .inr ⟨sX,.inl rfl⟩
    ·split
     ·exact .inr ⟨sX,.inl rfl⟩
     ·split
      ·exact .inr ⟨sX,.inr rfl⟩
      ·exact .inl ⟨rfl,rfl⟩
   rcases hw with ⟨h0,hw⟩|⟨h0,hw⟩
   ·rw[if_pos h0];obtain⟨a1,a2,a3,a4,a5,a6,a7⟩:=ih (p.write i s).1 (k+Qs b k) (b.drop (Qs b k)) (by rw[hw];exact hg);generalize Yc f (p.write i s).1 (k+Qs b k) (b.drop (Qs b k))=z at*;rw[hw] at a2 a3 a4 a5 a6 a7;simp only[List.length_append,List.length_singleton] at a2 a3 a4 a5 a6 a7;exact⟨a1,a2,aB,aB,aB,a6,a7⟩
   ·rw[if_neg h0];rcases hw with hw|hw<;>rw[hw]
    ·exact⟨λh=>absurd h sX,rfl,aB,aB,aB,rfl,rfl⟩
    ·exact⟨λh=>absurd h sX,rfl,by simp only;omega,by simp only;omega,by simp only;omega,rfl,rfl⟩
def E3(base:Nat)(w:World)(J B mb mn:Nat)(v rv:Value)(F:Nat->Prop)(q:DP×Bool)(recs:List (List UInt8))(r:List UInt8)(sure:Nat)(x:Ending)(w':World):Prop:=
 (if q.2=true/\q.1.sync.2=0 then x=.returned .nilIface else qz x w')/\∃ gD v' rv' F',gD<=mn+q.1.ws.length/\bA base w w' J B mb v rv F gD v' rv' F' (if q.2=true then q.1.sync.1 else q.1) (if q.2=true then recs++[r] else recs) (if q.2=true/\q.1.sync.2=0 then recs.length+1 else sure) (!(q.2&&q.1.sync.2==0))
theorem BK{base:Nat}{w:World}{J B mb mn:Nat}{v rv:Value}{F:Nat->Prop}{p:DP}{recs:List (List UInt8)}{sure:Nat}(h:JD base w J B mb mn v rv F p recs sure false)(hb:base<=w.heap.size)(n:Nat)(hpn:p.n=(n:Int))(hn:n<=1000)(uG:Zn recs<=64*n)(hws:p.ws.length<=20000)(jO:mn<=50000)(hpl : -200000<=p.l/\p.l<=200000)(hg:p.gone=false)(e:Nat->Addr)(j6:13≠B)(fe:∀ W,Below base w W->dJ W e)
  (hK:bP w) (hF:bZ w) (r:List UInt8) (hgood:Ru n recs r) (a:Option Addr) (c:Nat) (hA:aJ w a c r) (ma:∀ b o s,a=some ⟨b,o,s⟩->¬JF J F rv b/\¬ZR B mb v b/\b<w.heap.size) :
  Calls Tryz.prog 121 #[.pointer (some ⟨J,0,none⟩),.slice a r.length c] w (E3 base w J B mb mn v rv F (lay p (Zn recs) (Z0 (Zi aM recs) r)) recs r sure):=by
 have hap:=T3 h hb n hpn hn uG hws hpl hg e j6 fe hK hF r hgood a c hA ma;have hkp:=GA (Z0 (Zi aM recs) r).length p (Zn recs) (Z0 (Zi aM recs) r) hg;rw[show Yc (Z0 (Zi aM recs) r).length p (Zn recs) (Z0 (Zi aM recs) r)=lay p (Zn recs) (Z0 (Zi aM recs) r) from rfl,YN] at hkp;generalize lay p (Zn recs) (Z0 (Zi aM recs) r)=q at*;obtain⟨q,ok⟩:=q;obtain⟨k1,k2,k3,k4,k5,k6,k7⟩:=hkp;simp only at k1 k2 k3 k4 k5 k6 k7;have hr4:=hgood.2.1;have hrl:recs.length<=64000:=by have:=NU recs;omega
 replace hap:=Hd hap;replace h:=Hd h;replace hpn:=Hd hpn;replace fe:=Hd fe;replace k1:=Hd k1;replace k2:=Hd k2;go_enter Tryz.func121,Tryz.ntmps121;go_wp2_with fail;with_reducible refine hap.out.mono ?_
 rintro x w1 ⟨hx,v1,xC,F1,hst⟩;clear hap;cases ok with
 | false=>
  obtain⟨g9,F9,V9,a9,rfl,hfc,hpe⟩:=hx;replace hst:=Hd hst;replace hfc:=Hd hfc;replace hpe:=Hd hpe;go_wp2_with fail;go_ret;exact⟨⟨_,_,_,_,rfl,hfc.out,hpe.out⟩,_,_,_,_,Nat.le_add_right _ _,hst.out⟩
 | true=>
  cases (show x=_ from hx);have hO:Below base w w1:=hst.only.below hb (λk hk=>hk.elim (λh1=>(h.out.jm.lt k h1).1) (λh1=>(h.out.dm.lt k h1).1));have hst':bA base w w1 J B mb v rv F mn v1 xC F1 q (recs++[r]) sure false:=hst;have hsy:=D0 hst'.ok (Nat.le_trans hb hst'.only.size) n (by rw[k2.out];exact hpn.out) hn aB aB bf aB (k1.out rfl) e j6 (λW hW=>fe.out W (hO.trans hW));replace hst':=Hd hst';replace hsy:=Hd hsy;clear hst hO;go_wp2_with fail;with_reducible refine hsy.out.mono ?_
  rintro x w2 ⟨hx,v2,qP,hm2,kD⟩;have gG:=hst'.out.trans kD;clear hsy;rw[List.length_append,List.length_singleton] at gG;by_cases hs:q.sync.2=0
  ·rw[if_pos hs] at hx gG;subst hx;replace gG:=Hd gG;replace hs:=Hd hs;clear kD;go_wp2_with fail;go_ret;refine⟨by rw[if_pos ⟨rfl,hs.out⟩];rfl,qP,v2,xC,F1,hm2,?_⟩;have e3:=gG.out;rw[if_pos rfl,if_pos rfl,if_pos ⟨rfl,hs.out⟩,hs.out];rw[hs.out] at e3;exact e3
  ·rw[if_neg hs] at hx gG;obtain⟨g9,F9,V9,a9,rfl,hfc,hpe⟩:=hx;replace hfc:=Hd hfc;replace hpe:=Hd hpe;have hne:(q.sync.2 != 0) = !(true&&q.sync.2==0):=by simp[bne]
   rw[hne] at gG;replace gG:=Hd gG;replace hs:=Hd hs;clear kD hne;go_wp2_with fail;go_ret;refine⟨by rw[if_neg (λhh=>hs.out hh.2)];exact⟨_,_,_,_,rfl,hfc.out,hpe.out⟩,qP,v2,xC,F1,hm2,?_⟩;rw[if_pos rfl,if_pos rfl,if_neg (λhh=>hs.out hh.2)];exact gG.out
def HL(w:World)(recs:List (List UInt8))(x:Ending)(w':World):Prop:=∃ v F,x=.returned v/\aH RB 24 1 w.heap.size w' F v recs/\(∀ k,F k->w.heap.size<=k)/\Below w.heap.size w w'
theorem Uh{base:Nat}{w:World}{J B:Nat}{rv:Value}{F0:Nat->Prop}{recs:List (List UInt8)}{sure:Nat}{dead:Bool}(h:JM base w J B rv F0 recs sure dead)(hn:recs.length<=100000) :
  Calls Tryz.prog 57 #[.pointer (some ⟨J,0,none⟩)] w (HL w recs):=by
 have k1:=h.cell1;obtain⟨ra,rc,rfl,ha⟩:=h.rows.argBB;have hok:=h.okR;obtain⟨L,hL⟩:=aA recs.length;rw[<-hL] at k1 hn;replace hL:=Hd hL;replace ha:=Hd ha;replace hok:=Hd hok;have hinfo:=Hd UW;clear h;go_enter Tryz.func57,Tryz.ntmps57;go_wp2_with fail;refine ZG [(false,3),(true,1),(false,1),(true,1),(false,5),(true,10),(false,1)] _ [] (λU wr=>∃ (k:Nat) (F:Nat->Prop),k<=L/\U 11=.int .i64 k/\aH RB 24 1 w.heap.size wr F (U 3) (recs.take k)/\(∀ x,F x->w.heap.size<=x)/\Below w.heap.size w wr)
  (λU _=>L-(intOf (U 11)).toNat) ?_ ?_
 ·simp only[List.getD_cons_zero,List.getD_cons_succ];exact⟨0,λ_=>False,Nat.zero_le _,rfl,aH.nil _ _,λ_ h=>False.elim h,Below.refl _ _⟩
 ·intro U wr hrel KK hback l' hl';obtain⟨k,F,hk,h11,hr,qQ,hbel⟩:=hrel;simp only[ZQ,ZM,cond_true,cond_false,Nat.reduceAdd,h11] at hl';generalize hv3:U 3=vo at*;subst hl';replace h11:=Hd h11;have hsz:=hbel.size;by_cases hlt:k<L
  ·have hlt2:(k:Int)<L:=aB;have hkl:k<recs.length:=by rw[<-hL.out];exact hlt
   have hab:=ha.out.below hbel;obtain⟨b,o,rfl,ai,ci,hc,hai⟩:=hab.row k hkl;have hgd:recs.getD k []=recs[k]:=by simp[List.getD_eq_getElem?_getD,hkl]
   rw[hgd] at hc hai;have hokr:=hok.out recs[k] (List.getElem_mem hkl);have htk:recs.take (k+1)=recs.take k++[recs[k]]:=List.take_succ_eq_append_getElem hkl;have hlen:(recs.take k).length<=1000000:=by rw[List.length_take];omega
   generalize recs[k]=r at*;obtain⟨hok1,hok4⟩:=hokr;have hcl:=Hd (XY ai ci r wr hai aB);replace hr:=Hd hr;replace hbel:=Hd hbel;replace htk:=Hd htk;replace qQ:=Hd qQ;clear hab hgd hai;go_wp2_with fail;with_reducible refine hcl.out.mono ?_
   rintro e w4 ⟨v4,rfl,yY,hb4⟩;clear hcl;obtain⟨g,cg,rfl,hg⟩:=aN.form yY hok1;have hs4:=hb4.size;have hr4:=Hd (hr.out.below cZ hb4);have Sw:w.heap.size<=w4.heap.size:=aB;have sJ:=Hd (show RB w4 (λk=>F k\/k=g) r (#[Value.slice (some ⟨g,0,none⟩) r.length cg]:Array Value).toList from cZ.more (Hm yY) (λk h=>by cases h;exact .inr rfl));have Iu:=Hd (show ∀ k,F k->F k\/k=g from λk h=>.inl h);have haB:=Hd (show ∀ k,vo.ownBlock=some k->¬(F k\/k=g) from λk hk h=>h.elim (hr.out.apart k hk) (λh=>by have:=(hr.out.ownLt k hk).2;omega));have hlB:=Hd (show ∀ k,F k\/k=g->k<w4.heap.size from λk h=>h.elim (λh=>hr4.out.lt k h) (λh=>h▸(World.ownsRow.lt yY g rfl).2));have zi:=Hd (hbel.out.trans (hb4.mono hsz));have hFb2:=Hd (show ∀ x,F x\/x=g->w.heap.size<=x from λx h=>h.elim (qQ.out x) (λh=>by omega));clear hb4 yY;go_wp2_with (at_builtin;refine Qa (P:=Tryz.prog) (R:=RB) (e:=24) (size:=1) (base:=w.heap.size) (F:=F) (F':=λk=>F k\/k=g) rfl cZ (.tmp 15) (.tmp 18) 22 rfl Tryz.underlying22 24 hinfo.out dX rfl hr4 r #[.slice (some ⟨g,0,none⟩) r.length cg] sJ Iu haB hlB rfl hlen dX Sw ?_;intro v5 w5 fM dW ku);have hb5:Below w.heap.size w w5:=zi.out.trans (dW.out.below Sw (λk hk=>(hr.out.ownLt k hk).1));refine hback.out _ _ kX ?_ ?_
   ·simp only[List.getD_cons_zero,List.getD_cons_succ];exact⟨k+1,_,aB,by go_num,by rw[htk.out];exact fM.out,hFb2.out,hb5⟩
   ·have h11:=h11.out;simp only[List.getD_cons_zero,List.getD_cons_succ,h11,intOf];omega
  ·obtain rfl:k=L:=aB;have hall:recs.take k=recs:=List.take_of_length_le (by rw[<-hL.out];exact Nat.le_refl _);rw[hall] at hr;replace hr:=Hd hr;replace qQ:=Hd qQ;replace hbel:=Hd hbel;go_wp2_with fail;go_ret;exact⟨_,F,rfl,hr.out,qQ.out,hbel.out⟩
theorem Ng(ws:List (Int×List UInt8))(f:Int->List UInt8)(q:Int×List UInt8)(j:Int):Qn (ws++[q]) f j=if j=q.1 then q.2 else Qn ws f j:=by
 unfold Qn X2;rw[List.reverse_append];simp only[List.reverse_singleton,List.cons_append,List.nil_append,List.find?_cons];by_cases h:j=q.1
 ·rw[if_pos h];have:(q.1==j)=true:=by simp[h]
  rw[this]
 ·rw[if_neg h];have:(q.1==j)=false:=by simp;exact λe=>h e.symm
  rw[this]
theorem Db(f:Int->List UInt8)(j:Int):Qn [] f j=f j:=rfl
theorem WK(ws:List (Int×List UInt8))(f:Int->List UInt8)(hl:∀ q∈ws,q.2.length=64)(hf:∀ j,(f j).length=64)(j:Int):Q2 (λ_=>some 64) ws f j=Qn ws f j:=by
 have key:∀ n,n<=ws.length->Q2 (λ_=>some 64) (ws.take n) f j=Qn (ws.take n) f j/\∀ i,(Q2 (λ_=>some 64) (ws.take n) f i).length=64:=by
  intro n;induction n with
  | zero=>intro _;exact⟨rfl,hf⟩
  | succ n ih=>
   intro hn;obtain⟨h1,h2⟩:=ih aB;have hlen:=hl ws[n] (List.getElem_mem aB);have ho:∀ a:List UInt8,a.length=64->Xu 64 ws[n].2 a=ws[n].2:=λa ha=>by
    unfold Xu;rw[List.take_of_length_le aB,List.drop_of_length_le aB,List.append_nil]
   have hd:Q2 (λ_=>some 64) (ws.take (n+1)) f=λx=>if x=ws[n].1 then Xu 64 ws[n].2 (Q2 (λ_=>some 64) (ws.take n) f ws[n].1) else Q2 (λ_=>some 64) (ws.take n) f x:=by
    rw[GM aB (λ_=>some 64) f]
   rw[hd];refine⟨?_,λi=>?_⟩
   ·rw[List.take_succ_eq_append_getElem aB,Ng];simp only;split
    ·exact ho _ (h2 _)
    ·exact h1
   ·simp only;split
    ·rw[ho _ (h2 _)];exact hlen
    ·exact h2 i
 have:=(key ws.length nZ).1;rwa [List.take_length] at this
def XD(p:DP)(x:Nat):UInt8:=(Qn p.ws p.f ((x / 64:Nat):Int)).getD (x % 64) 0
structure kY (p:DP):Prop where
 f:∀ j,(p.f j).length=64
 ws:∀ q∈p.ws,q.2.length=64
theorem kY.seen{p:DP}(h:kY p)(j:Int):(Qn p.ws p.f j).length=64:=by
 unfold Qn;cases hq:X2 p.ws j with
 | none=>exact h.f j
 | some q=>
  unfold X2 at hq;exact h.ws q (by simpa using List.mem_of_find?_eq_some hq)
theorem kY.toLen{p:DP}(h:kY p)(k:Nat):(Xo p k).length=64*k:=by
 induction k with
 | zero=>rfl
 | succ k ih=>rw[J7,List.length_append,ih,h.seen];omega
theorem kY.byteTo{p:DP}(h:kY p)(n x:Nat)(hx:x<64*n):(Xo p n).getD x 0=XD p x:=by
 induction n with
 | zero=>omega
 | succ n ih=>
  rw[J7];have hl:=h.toLen n;by_cases h1:x<64*n
  ·rw[List.getD_eq_getElem?_getD,List.getElem?_append_left aB,<-List.getD_eq_getElem?_getD];exact ih h1
  ·rw[List.getD_eq_getElem?_getD,List.getElem?_append_right aB,<-List.getD_eq_getElem?_getD,hl];unfold XD;rw[show x / 64=n by omega,show x-64*n=x % 64 by omega]
theorem L9(s b:List UInt8)(k x:Nat)(hs:s.length=64)(hx:x<64):(Jo s b k).getD x 0=if k % 64<=x/\x<k % 64+Qs b k then b.getD (x-k % 64) 0 else s.getD x 0:=by
 have hN:Qs b k<=b.length/\Qs b k<=64-k % 64:=⟨Nat.min_le_left _ _,Nat.min_le_right _ _⟩;unfold Jo;simp only[List.getD_eq_getElem?_getD];have h1:(s.take (k % 64)).length=k % 64:=by rw[List.length_take];omega
 have h2:(b.take (Qs b k)).length=Qs b k:=by rw[List.length_take];omega
 by_cases hlt:x<k % 64
 ·rw[if_neg aB,List.append_assoc,List.getElem?_append_left aB,List.getElem?_take,if_pos hlt]
 ·by_cases hlt2:x<k % 64+Qs b k
  ·rw[if_pos ⟨aB,hlt2⟩,List.append_assoc,List.getElem?_append_right aB,List.getElem?_append_left aB,h1,List.getElem?_take,if_pos aB]
  ·rw[if_neg aB,List.getElem?_append_right (by rw[List.length_append];omega),List.length_append,h1,h2,List.getElem?_drop,show k % 64+Qs b k+(x-(k % 64+Qs b k))=x by omega]
theorem WG:∀ (f:Nat) (p:DP) (k:Nat) (b:List UInt8),kY p->b.length<=f->(Yc f p k b).2=true->
  kY (Yc f p k b).1/\∀ x,XD (Yc f p k b).1 x=if k<=x/\x<k+b.length then b.getD (x-k) 0 else XD p x:=by
 intro f;induction f with
 | zero=>intro p k b hp hb _;exact⟨hp,λx=>by rw[if_neg aB];rfl⟩
 | succ f ih=>
  intro p k b hp hb;rw[Yc];by_cases hb0:b.length=0
  ·rw[if_pos hb0];intro _;exact⟨hp,λx=>by rw[if_neg aB]⟩
  ·rw[if_neg hb0];obtain⟨s,hs⟩:=aA (Jo (Qn p.ws p.f ((k / 64:Nat):Int)) b k);rw[<-hs];have hsl:s.length=64:=by rw[hs];exact G2 (hp.seen _)
   by_cases h0:(p.write ((k / 64:Nat):Int) s).2=0
   ·rw[if_pos h0];have hw:(p.write ((k / 64:Nat):Int) s).1={ p with l:=p.l-1,ws:=p.ws++[(((k / 64:Nat):Int),s)] }:=by
     unfold DP.write at h0 ⊢;split at h0
     ·exact absurd h0 sX
     ·split at h0
      ·exact absurd h0 sX
      ·split at h0
       ·exact absurd h0 sX
       ·rw[if_neg (by assumption),if_neg (by assumption),if_neg (by assumption)]
    rw[hw];intro hok;have hN1:1<=Qs b k:=by
     have:k % 64<64:=Nat.mod_lt _ dX;exact Nat.le_min.2 ⟨aB,aB⟩
    have hNb:Qs b k<=b.length:=Nat.min_le_left _ _;have hNf:Qs b k<=64-k % 64:=Nat.min_le_right _ _;have hp2:kY { p with l:=p.l-1,ws:=p.ws++[(((k / 64:Nat):Int),s)] }:=⟨hp.f,λq hq=>by
     rcases List.mem_append.1 hq with hq|hq
     ·exact hp.ws q hq
     ·rw[List.mem_singleton.1 hq];exact hsl⟩
    obtain⟨i1,i2⟩:=ih _ (k+Qs b k) (b.drop (Qs b k)) hp2 jH hok;refine⟨i1,λx=>?_⟩;rw[i2 x,List.length_drop];have hby:XD { p with l:=p.l-1,ws:=p.ws++[(((k / 64:Nat):Int),s)] } x=if k<=x/\x<k+Qs b k then b.getD (x-k) 0 else XD p x:=by
     unfold XD;simp only;rw[Ng];simp only;by_cases hxs:x / 64=k / 64
     ·rw[if_pos (by rw[hxs]),hs,L9 _ _ _ _ (hp.seen _) (Nat.mod_lt _ dX),hxs];by_cases hin:k<=x/\x<k+Qs b k
      ·rw[if_pos hin,if_pos aB,show x % 64-k % 64=x-k by omega]
      ·rw[if_neg hin,if_neg aB]
     ·rw[if_neg aB,if_neg aB]
    rw[hby];by_cases ha:k+Qs b k<=x/\x<k+Qs b k+(b.length-Qs b k)
    ·rw[if_pos ha,if_pos aB,List.getD_eq_getElem?_getD,List.getElem?_drop,<-List.getD_eq_getElem?_getD,show Qs b k+(x-(k+Qs b k))=x-k by omega]
    ·rw[if_neg ha];by_cases hc:k<=x/\x<k+Qs b k
     ·rw[if_pos hc,if_pos aB]
     ·rw[if_neg hc,if_neg aB]
   ·rw[if_neg h0];intro hok;exact absurd hok sX
theorem D9:∀ (f:Nat) (p:DP) (k:Nat) (b:List UInt8) (n:Nat),kY p->p.armed=false->p.gone=false->p.n=(n:Int)->b.length<=f->k+b.length<=64*n->(Yc f p k b).2=true:=by
 intro f;induction f with
 | zero=>intros;rfl
 | succ f ih=>
  intro p k b n hp ha hg hn hb hk;rw[Yc];by_cases hb0:b.length=0
  ·rw[if_pos hb0]
  ·rw[if_neg hb0];obtain⟨s,hs⟩:=aA (Jo (Qn p.ws p.f ((k / 64:Nat):Int)) b k);rw[<-hs];have hsl:s.length=64:=by rw[hs];exact G2 (hp.seen _)
   rw[JY (XT ha hg) aB (by rw[hn];omega) hsl,if_pos rfl];have hN1:1<=Qs b k:=by
    have:k % 64<64:=Nat.mod_lt _ dX;exact Nat.le_min.2 ⟨aB,aB⟩
   have hNb:Qs b k<=b.length:=Nat.min_le_left _ _;refine ih _ _ _ n ⟨hp.f,λq hq=>?_⟩ ha hg hn jH jH;rcases List.mem_append.1 hq with hq|hq
   ·exact hp.ws q hq
   ·rw[List.mem_singleton.1 hq];exact hsl
theorem PO{p:DP}(hp:kY p)(h0:p.sync.2=0):kY p.sync.1/\∀ x,XD p.sync.1 x=XD p x:=by
 have hs:p.sync.1={ p with l:=p.l-1,f:=Q2 (λ_=>some 64) p.ws p.f,ws:=[] }:=by
  unfold DP.sync at h0 ⊢;split at h0
  ·exact absurd h0 sX
  ·rw[if_neg (by assumption)]
 have hd:∀ j,Q2 (λ_=>some 64) p.ws p.f j=Qn p.ws p.f j:=WK p.ws p.f hp.ws hp.f;rw[hs];refine⟨⟨λj=>?_,λq hq=>?_⟩,λx=>?_⟩
 ·simp only;rw[hd];exact hp.seen j
 ·exact absurd hq sX
 ·unfold XD;simp only;rw[Db,hd]
theorem Pi{p:DP}(hp:kY p)(n:Nat)(hn:p.n=(n:Int))(l:List UInt8)(hl:l.length=64*n)(hb:∀ x,x<64*n->XD p x=l.getD x 0):Q4 p=l:=by
 unfold Q4;rw[hn,show ((n:Int)).toNat=n from rfl];have h1:=hp.toLen n;apply List.ext_getElem aB;intro i h2 h3;have h4:=hp.byteTo n i aB;rw[hb i aB] at h4;simpa[List.getD_eq_getElem?_getD,h2,h3] using h4
def JW(p:DP)(n:Nat)(recs:List (List UInt8)):Prop:=∀ x,x<64*n->XD p x=(Yp aM recs).getD x 0
theorem M2{p:DP}{n:Nat}{recs:List (List UInt8)}(hp:kY p)(hn:p.n=(n:Int))(h:JW p n recs)(hE:Zn recs<=64*n):Q4 p=Yp aM recs++List.replicate (64*n-Zn recs) 0:=by
 have hl:=Uq recs aM;refine Pi hp n hn _ (by simp[hl];omega) (λx hx=>?_);rw[h x hx];simp only[List.getD_eq_getElem?_getD];by_cases h1:x<Zn recs
 ·rw[List.getElem?_append_left aB]
 ·rw[List.getElem?_append_right aB,List.getElem?_eq_none aB,List.getElem?_replicate];split<;>rfl
theorem GG{p:DP}{n:Nat}{recs:List (List UInt8)}(hp:kY p)(hn:p.n=(n:Int))(h:JW p n recs)(hE:Zn recs<=64*n)(hr:∀ r∈recs,okR r):Vy p=recs:=by
 unfold Vy;rw[M2 hp hn h hE];refine Tl recs aM _ hr (Ha λi _=>?_);simp only[List.getD_eq_getElem?_getD,List.getElem?_replicate];split<;>rfl
theorem WN{p:DP}{n:Nat}{recs:List (List UInt8)}(hp:kY p)(hn:p.n=(n:Int))(h:JW p n recs)(hE:Zn recs<=64*n)(hr:∀ r∈recs,okR r):Nd n p=p:=by
 unfold Nd;rw[GG hp hn h hE hr,M2 hp hn h hE];refine Rk λk hk=>?_;have hl:=Uq recs aM;rw[List.getD_eq_getElem?_getD,List.getElem?_append_right aB,List.getElem?_replicate];split<;>rfl
theorem LR{p:DP}{n:Nat}{recs:List (List UInt8)}{r:List UInt8}(hp:kY p)(h:JW p n recs)(hok:(lay p (Zn recs) (Z0 (Zi aM recs) r)).2=true):kY (lay p (Zn recs) (Z0 (Zi aM recs) r)).1/\JW (lay p (Zn recs) (Z0 (Zi aM recs) r)).1 n (recs++[r]):=by
 obtain⟨h1,h2⟩:=WG _ p (Zn recs) (Z0 (Zi aM recs) r) hp nZ hok;refine⟨h1,λx hx=>?_⟩;rw[show lay p (Zn recs) (Z0 (Zi aM recs) r)=Yc (Z0 (Zi aM recs) r).length p (Zn recs) (Z0 (Zi aM recs) r) from rfl,h2 x,MT];have hl:=Uq recs aM;simp only[List.getD_eq_getElem?_getD];by_cases h3:x<Zn recs
 ·rw[if_neg aB,List.getElem?_append_left aB,h x hx,List.getD_eq_getElem?_getD]
 ·rw[List.getElem?_append_right aB,hl];by_cases h4:x<Zn recs+(Z0 (Zi aM recs) r).length
  ·rw[if_pos ⟨aB,h4⟩]
  ·rw[if_neg aB,h x hx,List.getD_eq_getElem?_getD,List.getElem?_eq_none aB,List.getElem?_eq_none aB]
theorem Wl{p:DP}{n:Nat}{recs:List (List UInt8)}(hp:kY p)(h:JW p n recs)(h0:p.sync.2=0):kY p.sync.1/\JW p.sync.1 n recs:=by
 obtain⟨h1,h2⟩:=PO hp h0;exact⟨h1,λx hx=>by rw[h2 x];exact h x hx⟩
theorem Et(n:Int):kY (DP.new n):=⟨λ_=>by simp[DP.new,cK],λq hq=>absurd hq (by simp[DP.new])⟩
theorem Lz(n:Nat):JW (DP.new (n:Int)) n []:=λx _=>by
 show ((λ_=>cK:Int->List UInt8) ((x / 64:Nat):Int)).getD (x % 64) 0=([]:List UInt8).getD x 0;simp only[List.getD_eq_getElem?_getD,List.getElem?_nil,Option.getD_none];have:∀ y:Nat,cK[y]?.getD 0=0:=λy=>by
  cases hq:cK[y]? with
  | none=>rfl
  | some u=>
   have hm:=List.mem_of_getElem? hq;have hz:∀ u∈cK,u=0:=dX;exact hz u hm
 exact this _
theorem L3{p:DP}(ha:p.armed=false)(hg:p.gone=false):p.sync.2=0/\p.sync.1.armed=false/\p.sync.1.gone=false/\p.sync.1.n=p.n/\p.sync.1.ws=[]/\p.sync.1.l=p.l-1:=by
 unfold DP.sync;rw[XT ha hg];exact⟨rfl,ha,hg,rfl,rfl,rfl⟩
structure Good (p:DP) (n:Nat) (recs:List (List UInt8)):Prop where
 ok:kY p
 sh:JW p n recs
 n:p.n=(n:Int)
 a:p.armed=false
 g:p.gone=false
 ws:p.ws=[]
theorem Gt(n:Nat):Good (DP.new (n:Int)) n []:=⟨Et _,Lz n,rfl,rfl,rfl,rfl⟩
theorem Bj{p:DP}{n:Nat}{recs:List (List UInt8)}{r:List UInt8}(h:Good p n recs)(hfit:Zn recs+(34+r.length)<=64*n) :
  (lay p (Zn recs) (Z0 (Zi aM recs) r)).2=true/\(lay p (Zn recs) (Z0 (Zi aM recs) r)).1.sync.2=0/\Good (lay p (Zn recs) (Z0 (Zi aM recs) r)).1.sync.1 n (recs++[r])/\
   (lay p (Zn recs) (Z0 (Zi aM recs) r)).1.ws.length<=34+r.length/\p.l-(34+r.length:Nat)-1<=(lay p (Zn recs) (Z0 (Zi aM recs) r)).1.sync.1.l/\(lay p (Zn recs) (Z0 (Zi aM recs) r)).1.sync.1.l<=p.l:=by
 have hok:(lay p (Zn recs) (Z0 (Zi aM recs) r)).2=true:=D9 _ p (Zn recs) (Z0 (Zi aM recs) r) n h.ok h.a h.g h.n nZ (by rw[YN];exact hfit);obtain⟨h1,h2⟩:=LR h.ok h.sh hok;have hkp:=GA (Z0 (Zi aM recs) r).length p (Zn recs) (Z0 (Zi aM recs) r) h.g;rw[show Yc (Z0 (Zi aM recs) r).length p (Zn recs) (Z0 (Zi aM recs) r)=lay p (Zn recs) (Z0 (Zi aM recs) r) from rfl,YN] at hkp;obtain⟨k1,k2,k3,k4,k5,k6,k7⟩:=hkp;generalize lay p (Zn recs) (Z0 (Zi aM recs) r)=q at*;rw[h.a] at k6;rw[h.ws] at k3;obtain⟨s1,s2,s3,s4,s5,s6⟩:=L3 k6 (k1 hok);obtain⟨h3,h4⟩:=Wl h1 h2 s1;exact⟨hok,s1,⟨h3,h4,by rw[s4,k2,h.n],s2,s3,s5⟩,by simpa using k3,by rw[s6];omega,by rw[s6];omega⟩
theorem Lu{base:Nat}{w:World}{B mb mn:Nat}{v:Value}{p:DP}{n:Nat}{recs:List (List UInt8)}(h:DM base w B mb mn v p)(hb:base<=w.heap.size)(hG:Good p n recs)(h1:1<=n)(hn:n<=1000)(jO:mn<=60000)(hpl : -100000<=p.l/\p.l<=100000)(e:Nat->Addr)(j6:13≠B)(fe:∀ W,Below base w W->dJ W e)
  (hK:bP w) (hF:bZ w) (hE:Zn recs<=64*n) (hr:∀ r∈recs,okR r):Calls Tryz.prog 60 #[.pointer (some ⟨B,0,none⟩)] w (Gn base w B mb mn v p recs):=by
 have:=Cx h hb n hG.n h1 hn (by rw[hG.ws];decide) jO hpl hG.a hG.g e j6 fe hK hF;rwa [WN hG.ok hG.n hG.sh hE hr,GG hG.ok hG.n hG.sh hE hr] at this
def EJ(base:Nat)(w:World)(J B mb mn:Nat)(v rv:Value)(F:Nat->Prop)(p:DP)(n:Nat)(recs:List (List UInt8))(r:List UInt8)(x:Ending)(w':World):Prop:=
 x=.returned .nilIface/\∃ gD v' rv' F' p',gD<=mn+500/\bA base w w' J B mb v rv F gD v' rv' F' p' (recs++[r]) (recs.length+1) false/\Good p' n (recs++[r])/\p.l-500<=p'.l/\p'.l<=p.l
theorem CD{base:Nat}{w:World}{J B mb mn:Nat}{v rv:Value}{F:Nat->Prop}{p:DP}{recs:List (List UInt8)}{sure:Nat}(h:JD base w J B mb mn v rv F p recs sure false)(hb:base<=w.heap.size)(n:Nat)(hG:Good p n recs)(hn:n<=1000)(jO:mn<=50000)(hpl : -200000<=p.l/\p.l<=200000)(e:Nat->Addr)(j6:13≠B)(fe:∀ W,Below base w W->dJ W e)
  (hK:bP w) (hF:bZ w) (r:List UInt8) (hr1:1<=r.length) (hr4:r.length<=400) (hfit:Zn recs+(34+r.length)<=64*n) (a:Option Addr) (c:Nat) (hA:aJ w a c r) (ma:∀ b o s,a=some ⟨b,o,s⟩->¬JF J F rv b/\¬ZR B mb v b/\b<w.heap.size) :
  Calls Tryz.prog 121 #[.pointer (some ⟨J,0,none⟩),.slice a r.length c] w (EJ base w J B mb mn v rv F p n recs r):=by
 have hp:=BK h hb n hG.n hn aB (by rw[hG.ws];exact Nat.zero_le _) jO hpl hG.g e j6 fe hK hF r ⟨hr1,hr4,by unfold Je;omega⟩ a c hA ma;obtain⟨g1,g2,g3,g4,g5,g6⟩:=Bj hG hfit;refine hp.mono ?_;rintro x w' ⟨hx,gD,v',rv',F',hm,hst⟩;rw[if_pos ⟨g1,g2⟩] at hx;rw[if_pos g1,if_pos g1,if_pos ⟨g1,g2⟩,g1,g2] at hst;exact⟨hx,gD,v',rv',F',_,aB,hst,g3,aB,g6⟩
end Go.Proofs.YtpdhceiodgnbmaaGreatDoor
