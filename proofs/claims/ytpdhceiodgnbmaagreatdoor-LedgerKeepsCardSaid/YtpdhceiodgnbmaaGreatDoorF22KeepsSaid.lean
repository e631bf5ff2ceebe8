import Derived.Test.YtpdhceiodgnbmaaGreatDoorF21KeepsSaid
import Derived.Test.YtpdhceiodgnbmaaGreatDoorF17KeepsSaid
set_option linter.all false
set_option maxRecDepth 100000
set_option maxHeartbeats 8000000
namespace Go.Proofs.YtpdhceiodgnbmaaGreatDoor
open Go.RowKit
theorem TY(va:Value)(m:St)(x:Rc)(hx:x.Ok)(w:World)(ha:bJ w va m)(l1:m.its.length<=1000)(l2:m.ens.length<=1000)(i:Nat)(hi:i<m.ens.length)(hx1:x.id=(i:Int))(h1:m.ens[i].o=x.obj)(h2:m.ens[i].v=0)(ea:Nat->Addr) :
  Calls Tryz.prog 43 #[va,.agg x.list.toArray] w (ZJ ea ⟨m.its,m.ens.set i { m.ens[i] with v:=x.verdict,a:=x.tick }⟩ 0 w):=by
 have hcf:=Hd (Rc.kept0 x hx 49);have hcp:=λW (h:Below w.heap.size w W)=>JI va m W (ha.below h nZ) l1 l2;have sO:=ha.okV;have hc0:=λW h=>Gv va m W (ha.below h nZ) i hi l2;rw[<-hx1] at hc0;have hok:=ha.okV _ (List.getElem_mem hi);have qZ:=λ(W:World) (base g n c:Nat) (h:aH RE 66 7 base W (λ_=>False) (.slice (some ⟨g,0,none⟩) n c) m.ens)=>VP (R:=RE) (enc:=En.list) (Ok:=En.Ok) (λ_ _ _ _=>Iff.rfl) (λ_ _=>rfl) En.list_one dX h sO i 5 hi dX (.int .i64 x.verdict) rfl { m.ens[i] with v:=x.verdict } rfl ⟨hok.1,hok.2.1,hok.2.2.1,hok.2.2.2.1,hok.2.2.2.2.1,hx.verdict,hok.2.2.2.2.2.2⟩;obtain⟨E1,hE1⟩:∃ l,l=m.ens.set i { m.ens[i] with v:=x.verdict }:=⟨_,rfl⟩;have hE1l:E1.length=m.ens.length:=by rw[hE1,List.length_set]
 have hi1:i<E1.length:=aB;have hg1:E1[i]={ m.ens[i] with v:=x.verdict }:=by simp[hE1]
 have ok1:∀ y∈E1,y.Ok:=λy hy=>by
  rw[hE1] at hy;rcases List.mem_or_eq_of_mem_set hy with h|h
  ·exact sO _ h
  ·rw[h];exact⟨hok.1,hok.2.1,hok.2.2.1,hok.2.2.2.1,hok.2.2.2.2.1,hx.verdict,hok.2.2.2.2.2.2⟩
 have nD:=λ(W:World) (base g n c:Nat) (h:aH RE 66 7 base W (λ_=>False) (.slice (some ⟨g,0,none⟩) n c) E1)=>VP (R:=RE) (enc:=En.list) (Ok:=En.Ok) (λ_ _ _ _=>Iff.rfl) (λ_ _=>rfl) En.list_one dX h ok1 i 6 hi1 dX (.int .i64 x.tick) rfl { m.ens[i] with v:=x.verdict,a:=x.tick } (by rw[hg1];rfl) ⟨hok.1,hok.2.1,hok.2.2.1,hok.2.2.2.1,hok.2.2.2.2.1,hx.verdict,hx.tick⟩;have hE2:E1.set i { m.ens[i] with v:=x.verdict,a:=x.tick }=m.ens.set i { m.ens[i] with v:=x.verdict,a:=x.tick }:=by rw[hE1,List.set_set]
 rw[hE2] at nD;rw[<-hE1] at qZ;obtain⟨ENS,Ak⟩:∃ l,l=m.ens.set i { m.ens[i] with v:=x.verdict,a:=x.tick }:=⟨_,rfl⟩;rw[<-Ak] at nD ⊢;have Al:∀ (W:World) (base g n c:Nat),aH RE 66 7 base W (λ_=>False) (.slice (some ⟨g,0,none⟩) n c) m.ens->(∃ u,W.cell? ⟨g,i*7+5,none⟩=some u)/\W.frozen? ⟨g,i*7+5,none⟩=false:=λW base g n c h=>by
  have:=JV (R:=RE) (enc:=En.list) (Ok:=En.Ok) (λ_ _ _ _=>Iff.rfl) Qr h i 5 hi _ rfl;exact⟨⟨_,this.1⟩,this.2⟩
 have Am:∀ (W:World) (base g n c:Nat),aH RE 66 7 base W (λ_=>False) (.slice (some ⟨g,0,none⟩) n c) E1->(∃ u,W.cell? ⟨g,i*7+6,none⟩=some u)/\W.frozen? ⟨g,i*7+6,none⟩=false:=λW base g n c h=>by
  have:=JV (R:=RE) (enc:=En.list) (Ok:=En.Ok) (λ_ _ _ _=>Iff.rfl) Qr h i 6 hi1 _ rfl;exact⟨⟨_,this.1⟩,this.2⟩
 generalize hy:m.ens[i]=y at*;obtain⟨XA,ak⟩:=aA y.list.toArray;have hk1:∀ (W:World) b,W.heap[b]? = some (.cells XA 66 (0,0))->W.cell? ⟨b,1,none⟩=some (.int .i64 y.o)/\W.cell? ⟨b,5,none⟩=some (.int .i64 y.v):=λW b h=>by
  rw[Za h,Za h,ak,List.getElem?_toArray,List.getElem?_toArray];exact⟨rfl,rfl⟩
 have hof:(y.o != x.obj)=false:=by rw[h1];simp
 rw[h2] at hk1;have iA:(Tryz.prog.info? 66).map (·.size)=some XA.size:=by rw[ak];kernel_rfl
 have zA:(#[.int .i64 0,.int .i64 0,.int .i64 0,.int .i64 0,.int .i64 0,.int .i64 0,.int .i64 0]:Array Value).size=XA.size:=by rw[ak];rfl
 have gB:XA.all (·.oneCell')=true:=by rw[ak];exact Go.Proofs.YtpdhceiodgnbmaaGreatDoor.all_one (En.list_one _)
 rw[<-ak] at hc0;obtain⟨⟨an,cn,av,cv,rfl,hN,hN1,iG,hV,hV1,hV2⟩,okN,okV⟩:=ha;obtain⟨N,bM⟩:=aA m.its.length;obtain⟨V,dD⟩:=aA m.ens.length;rw[<-bM,<-dD] at hc0 hcp;rw[<-bM,<-dD];generalize hRR:x.list.toArray=R at*;obtain⟨aS,aR,aO,hs3,hB⟩:=Qb w #[.slice an N cn,.slice av V cv] R #[.slice none 0 0,.slice none 0 0] 28 49 28 _ rfl;obtain⟨w3,hw3⟩:∃ w3,w3=((w.alloc (.cells #[.slice an N cn,.slice av V cv] 28)).alloc (.cells R 49)).alloc (.cells #[.slice none 0 0,.slice none 0 0] 28):=⟨_,rfl⟩;have s0:=Za aS 0;have s1:=Za aS 1;obtain⟨q0,q1,q2,q3,q4,q5,q6,q7⟩:=hcf.out _ _ aR;rw[<-hw3] at aS aR aO hB;generalize x.obj=vo at*;generalize x.id=vi at*;generalize x.way=vw at*;generalize x.index=vx at*;generalize x.name=vn at*;generalize x.verdict=vv at*;generalize x.tick=vt at*;generalize y.o=yo at*;subst hx1;replace hc0:=Hd hc0;replace hcp:=Hd hcp;replace aS:=Hd aS;replace aR:=Hd aR;replace aO:=Hd aO;replace hB:=Hd hB;replace hw3:=Hd hw3;replace bM:=Hd bM;replace dD:=Hd dD;replace qZ:=Hd qZ;replace nD:=Hd nD;replace Al:=Hd Al;replace Am:=Hd Am;replace hk1:=Hd hk1;replace hE1:=Hd hE1;replace hE1l:=Hd hE1l;replace Ak:=Hd Ak;replace hy:=Hd hy;clear hRR hN hV hN1 iG hV1 hV2 okN okV hs3 ak h1 h2 hE2 hg1 ok1 sO hi1;go_enter Tryz.func43,Tryz.ntmps43;go_wp2_with fail;rw[<-hw3.out];with_reducible refine(hc0.out _ hB.out).mono ?_
 rintro e w4 ⟨rfl,hb⟩;replace aS:=Hd ((hb.block _ (Zb aS.out)).trans aS.out);replace aR:=Hd ((hb.block _ (Zb aR.out)).trans aR.out);replace aO:=Hd ((hb.block _ (Zb aO.out)).trans aO.out);replace hB:=Hd (hB.out.trans (hb.mono hB.out.size));clear hb s0 s1 q0 q1 q2 q3 q4 q5 q6 q7;have s0:=Za aS.out 0;have s1:=Za aS.out 1;obtain⟨q0,q1,q2,q3,q4,q5,q6,q7⟩:=hcf.out _ _ aR.out;have jT:=Hd (heap_alloc_new w4 (.cells #[.int .i64 0,.int .i64 0,.int .i64 0,.int .i64 0,.int .i64 0,.int .i64 0,.int .i64 0] 66));go_wp2_with ((with_reducible refine wL (.store 66 (.tmp 6) _) ?_);(refine Zd rfl 66 (.tmp 6) (.tmp 14) rfl w4.heap.size _ XA rfl rfl jT iA zA gB ?_);intro w5 dG;have hb5:Below w4.heap.size w4 w5:=(Below.alloc (Below.refl w4.heap.size w4) nZ _).trans (dG.out.below nZ);have aX:=Hd dG.out.here;replace aS:=Hd ((hb5.block _ (Zb aS.out)).trans aS.out);replace aR:=Hd ((hb5.block _ (Zb aR.out)).trans aR.out);replace aO:=Hd ((hb5.block _ (Zb aO.out)).trans aO.out);replace hB:=Hd (hB.out.trans (hb5.mono hB.out.size));clear s0 s1 q0 q1 q2 q3 q4 q5 q6 q7 hb5;have s0:=Za aS.out 0;have s1:=Za aS.out 1;obtain⟨q0,q1,q2,q3,q4,q5,q6,q7⟩:=hcf.out _ _ aR.out;obtain⟨y1,y5⟩:=hk1.out _ _ aX.out);have jh:=Hd (Zb aO.out);with_reducible refine(hcp.out _ hB.out).mono ?_
 rintro e w6 ⟨v,v',rfl,fo,gM,oL,hb⟩;obtain⟨x4,c4,hv4,_⟩:=fo.form;obtain⟨x5,c5,hv5,yh,_,_,yj⟩:=gM.form;subst hv4 hv5;obtain⟨g5,hg5⟩:∃ g5,x5=some ⟨g5,0,none⟩:=by
  cases x5 with
  | none=>have:=(yh rfl).2;omega
  | some ad=>
   obtain⟨b4,o4,s4⟩:=ad;obtain⟨rfl,rfl,_⟩:=yj b4 o4 s4 rfl;exact⟨b4,rfl⟩
 subst hg5;have jB:=Hd (λk (hk:(Value.slice (some ⟨g5,0,none⟩) m.ens.length c5).ownBlock=some k)=>gM.ownLt k hk);have jC:=Hd (λk (hk:(Value.slice x4 m.its.length c4).ownBlock=some k)=>fo.ownLt k hk);obtain⟨C,hC⟩:∃ C:Array Value,C=#[.slice x4 m.its.length c4,.slice (some ⟨g5,0,none⟩) m.ens.length c5]:=⟨_,rfl⟩;rw[<-hC];have gI:=hb.size;have kH:w.heap.size<=w5.heap.size:=hB.out.size;replace aS:=Hd ((hb.block _ (Zb aS.out)).trans aS.out);replace aR:=Hd ((hb.block _ (Zb aR.out)).trans aR.out);replace aO:=Hd ((hb.block _ (Zb aO.out)).trans aO.out);replace hB:=Hd (hB.out.trans (hb.mono hB.out.size));clear hb s0 s1 q0 q1 q2 q3 q4 q5 q6 q7 yh yj y1 y5;have s0:=Za aS.out 0;have s1:=Za aS.out 1;obtain⟨q0,q1,q2,q3,q4,q5,q6,q7⟩:=hcf.out _ _ aR.out;have jU:=Hd (Zb aO.out);have iC:(Tryz.prog.info? 28).map (·.size)=some C.size:=by rw[hC];kernel_rfl
 have zC:(#[.slice none 0 0,.slice none 0 0]:Array Value).size=C.size:=by rw[hC];rfl
 have ll:C.all (·.oneCell')=true:=by rw[hC];simp[Value.oneCell']
 have o7:∀ (W:World) b,W.heap[b]? = some (.cells C 28 (0,0))->W.cell? ⟨b,0,none⟩=some (.slice x4 m.its.length c4)/\W.cell? ⟨b,1,none⟩=some (.slice (some ⟨g5,0,none⟩) m.ens.length c5):=λW b h=>by
  rw[Za h,Za h,hC];exact⟨sX,sX⟩
 have qM:=Hd (heap_alloc_new w6 (.cells #[.slice none 0 0,.slice none 0 0] 28));replace hC:=Hd hC;replace o7:=Hd o7;replace fo:=Hd fo;replace gM:=Hd gM;replace oL:=Hd oL;replace gI:=Hd gI;have hg5l:=jB.out g5 rfl;have hii:(i:Int)<(m.ens.length:Int):=aB;have i1i:(Tryz.prog.info? 3).map (·.size)=some 1:=kX;go_wp2_with ((with_reducible refine wL (.store 28 (.tmp 8) _) ?_);(refine Zd rfl 28 (.tmp 8) (.tmp 35) rfl w6.heap.size _ C rfl rfl qM iC zC ll ?_);intro w7 aZ;have bV:Below w6.heap.size w6 w7:=(Below.alloc (Below.refl w6.heap.size w6) nZ _).trans (aZ.out.below nZ);have hs7:w7.heap.size=w6.heap.size+1:=aZ.out.size.trans sX;have aC:=Hd aZ.out.here;replace fo:=Hd (fo.out.below Q5 bV);replace gM:=Hd (gM.out.below Qr bV);replace aS:=Hd ((bV.block _ (Zb aS.out)).trans aS.out);replace aR:=Hd ((bV.block _ (Zb aR.out)).trans aR.out);replace aO:=Hd ((bV.block _ (Zb aO.out)).trans aO.out);replace hB:=Hd (hB.out.trans (bV.mono hB.out.size));clear s0 s1 q0 q1 q2 q3 q4 q5 q6 q7 bV;replace hs7:=Hd hs7);have hd0:Hid (Only (λk=>k=g5) w7 w7.drew):=Hd (Only.refl _ _).drew;have hl5:=jh.out;have kC:∀ W,Only (λk=>k=g5) w7 W->W.cell? ⟨w6.heap.size,1,none⟩=some (.slice (some ⟨g5,0,none⟩) m.ens.length c5):=λW h=>(o7.out W _ (h.heap aC.out aB)).2;have kR:∀ W,Only (λk=>k=g5) w7 W->W.cell? ⟨w.heap.size+1,2,none⟩=some (.int .i64 (i:Int))/\W.cell? ⟨w.heap.size+1,76,none⟩=some (.int .i64 vv)/\W.cell? ⟨w.heap.size+1,77,none⟩=some (.int .i64 vt):=λW h=>by
  obtain⟨_,_,q2,_,_,_,q6,q7⟩:=hcf.out _ _ (h.heap aR.out aB);exact⟨q2,q6,q7⟩
 have kR2:=λW h=>(kR W h).1;have kR6:=λW h=>(kR W h).2.1;have kR7:=λW h=>(kR W h).2.2;clear kR;replace gM:Hid (aH RE 66 7 w5.heap.size w7.drew (λ_=>False) (.slice (some ⟨g5,0,none⟩) m.ens.length c5) m.ens):=Hd (gM.out.only Qr (Only.refl (λ_=>False) _).drew (λk hk=>hk.elim) (λk hk e=>e));refine wp_region_held_drew (S:=(Only (λk=>k=g5) w7)) kX hd0.out (λaD=>?_);generalize World.drew w7=wd at*;refine tk 0 aD ?_;refine tk 1 aD ?_;refine tk 2 aD ?_;refine tk 3 aD ?_;refine tk 4 aD ?_;refine tk 5 aD ?_;refine tk 6 aD ?_;refine tk 7 aD ?_;refine tk 8 aD ?_;refine tk 9 aD ?_;refine tk 10 aD ?_;refine tk 11 aD ?_;refine tk 12 aD ?_;refine tk 13 aD ?_;refine rd 14 (λKz aF=>?_);rw[if_pos bT]
 (have hcc:=Al.out _ _ _ _ _ gM.out)
 (with_reducible refine Uo 3 (.tmp 49) (.tmp 45) rfl g5 (i*7+5) (.int .i64 vv) rfl rfl (Hd hcc.1) hcc.2 i1i Rz ?_)
 intro w9 hw9
 (have iH:=qZ.out _ _ _ _ _ gM.out)
 rw[<-hw9.out] at iH;have gz:Only (λk=>k=g5) wd w9:=(by rw[hw9.out];exact(Only.refl _ _).setCell _ _ (λ_=>rfl));have hS:=aD.trans gz (λ_ _ e=>e);replace iH:=Hd iH;clear hcc;refine aF.out _ _ hS ?_;clear aF Kz aD hS;intro aD;try simp only[Act.put]
 refine tk 15 aD ?_;refine tk 16 aD ?_;refine rd 17 (λKz aF=>?_);rw[if_pos bT]
 (have hcc:=Am.out _ _ _ _ _ iH.out)
 (with_reducible refine Uo 3 (.tmp 51) (.tmp 47) rfl g5 (i*7+6) (.int .i64 vt) rfl rfl (Hd hcc.1) hcc.2 i1i Rz ?_)
 intro w10 hw10
 (have lC:=nD.out _ _ _ _ _ iH.out)
 rw[<-hw10.out] at lC;have lm:Only (λk=>k=g5) w9 w10:=(by rw[hw10.out];exact(Only.refl _ _).setCell _ _ (λ_=>rfl));have hS:=aD.trans lm (λ_ _ e=>e);replace lC:=Hd lC;clear hcc;refine aF.out _ _ hS ?_;clear aF Kz aD hS;intro aD;try simp only[Act.put]
 refine bz ?_;all_goals
  have aC10:=Hd (aD.heap aC.out aB);have uQ:=Hd (aD.heap aO.out aB);go_wp2_with (first
   | ((with_reducible refine wL (.load 28 (.tmp 8)) ?_);refine Ze rfl 28 (.tmp 8) rfl w6.heap.size C _ rfl aC10 Tryz.underlying28 rfl iC ?_)
   | ((with_reducible refine wL (.store 28 (.tmp 4) _) ?_);(refine Zd rfl 28 (.tmp 4) (.tmp 52) rfl (w.heap.size+2) _ C rfl rfl uQ iC zC ll ?_);intro w11 dY))
  have h7o:=hs7.out;have h6o:=jU.out;have h56:=gI.out;have jR:Only (λk=>k=w.heap.size+2) w10 w11:=Only.ofUpd dY.out rfl;have kJ:=(fo.out.only Q5 aD (λk hk=>hk.elim) (λk hk e=>oL.out k hk (e▸rfl))).only Q5 jR (λk hk=>hk.elim) (λk hk e=>by have:=(jC.out k hk).1;omega);have kI:=lC.out.only Qr jR (λk hk=>hk.elim) (λk hk e=>by have:=(jB.out k hk).1;omega);have Ai:=(hB.out.trans (aD.below (by have:=hB.out.size;omega) (λk e=>by omega))).trans (dY.out.below aB);refine Zj rfl rfl Tryz.underlying28 rfl iC dY.out.here ?_;rw[hC.out];exact⟨_,_,rfl,Vl kJ kI,.inl ⟨rfl,rfl⟩,Ai,JH kJ kI kH kH⟩
theorem Gp{α:Type}{l:List α}{k:Nat}(d:α)(h:k<l.length):l.getD k d=l[k]:=by
 rw[List.getD_eq_getElem?_getD,List.getElem?_eq_getElem h,Option.getD_some]
theorem TS(va:Value)(m:St)(x:Rc)(hx:x.Ok)(w:World)(ha:bJ w va m)(l1:m.its.length<=1000)(l2:m.ens.length<=1000)(ea:Nat->Addr)(H:aQ 298 aK w ea):Calls Tryz.prog 40 #[va,.agg x.list.toArray] w (ZJ ea (Xx m x).1 (Xx m x).2 w):=by
 unfold Xx;by_cases h1:(Qz m.its x.name).2=true
 ·rw[if_pos h1];exact UJ va m x hx w ha l1 l2 10 (.inl ⟨rfl,h1⟩) ea H
 ·have h1f:(Qz m.its x.name).2=false:=by simpa using h1
  rw[if_neg h1];by_cases h2:4<=m.its.length
  ·rw[if_pos h2];exact UJ va m x hx w ha l1 l2 12 (.inr (.inl ⟨rfl,h1f,h2⟩)) ea H
  ·rw[if_neg h2];by_cases h3:x.obj=(m.its.length:Int)
   ·rw[if_neg (by simpa using h3)];exact TW va m x hx w ha l1 l2 h1f aB h3 ea
   ·rw[if_pos h3];exact UJ va m x hx w ha l1 l2 4 (.inr (.inr ⟨rfl,h1f,aB,h3⟩)) ea H
theorem LN(va:Value)(m:St)(x:Rc)(hx:x.Ok)(w:World)(ha:bJ w va m)(l1:m.its.length<=1000)(l2:m.ens.length<=1000)(ea:Nat->Addr)(H:aQ 298 aK w ea):Calls Tryz.prog 42 #[va,.agg x.list.toArray] w (ZJ ea (Va m x).1 (Va m x).2 w):=by
 unfold Va;by_cases h1:x.obj<0\/(m.its.length:Int)<=x.obj
 ·rw[if_pos h1];exact Tq va m x hx w ha l1 l2 11 (.inl ⟨rfl,aB⟩) ea H
 ·obtain⟨i,hi⟩:∃ i:Nat,x.obj=(i:Int):=⟨x.obj.toNat,aB⟩;have hil:i<m.its.length:=aB;have ht:x.obj.toNat=i:=aB;rw[if_neg h1,ht,Gp _ hil];by_cases h2:m.its[i].k=true
  ·rw[if_pos h2];exact Tq va m x hx w ha l1 l2 13 (.inr ⟨i,hil,hi,rfl,h2⟩) ea H
  ·rw[if_neg h2];exact TM va m x hx w ha l1 l2 i hil hi (by simpa using h2) ea
theorem PK(va:Value)(m:St)(x:Rc)(hx:x.Ok)(w:World)(ha:bJ w va m)(l1:m.its.length<=1000)(l2:m.ens.length<=1000)(hub:∀ y∈m.its,y.u<=1000000/\y.r<=1000000)(ea:Nat->Addr)(H:aQ 298 aK w ea):Calls Tryz.prog 41 #[va,.agg x.list.toArray] w (ZJ ea (X6 m x).1 (X6 m x).2 w):=by
 unfold X6;by_cases h1:x.obj<0\/(m.its.length:Int)<=x.obj
 ·rw[if_pos h1];exact Pw va m x hx w ha l1 l2 aB ea H
 ·obtain⟨i,hi⟩:∃ i:Nat,x.obj=(i:Int):=⟨x.obj.toNat,aB⟩;have hil:i<m.its.length:=aB;have ht:x.obj.toNat=i:=aB;rw[if_neg h1,ht,Gp _ hil];by_cases h2:m.its[i].k=false
  ·rw[if_pos h2];exact VZ va m x hx w ha l1 l2 13 i hil hi (.inl ⟨rfl,h2⟩) ea H
  ·have h2t:m.its[i].k=true:=by simpa using h2
   rw[if_neg h2];by_cases h3:(Qo m.its[i] x.way).2=false
   ·rw[if_pos h3];exact VZ va m x hx w ha l1 l2 18 i hil hi (.inr (.inl ⟨rfl,h2t,h3⟩)) ea H
   ·have h3t:(Qo m.its[i] x.way).2=true:=by simpa using h3
    rw[if_neg h3];by_cases h4:x.id=(m.ens.length:Int)
    ·by_cases h5:x.index=(Qo m.its[i] x.way).1
     ·rw[if_neg (by simp[h4,h5])];have hu:=hub _ (List.getElem_mem hil);exact PX va m x hx w ha l1 l2 i hil hi h2t ((Classical.em (x.way=2)).imp (λh=>⟨h,h3t,hu.1⟩) (λh=>⟨h,hu.2⟩)) h4 h5 ea
     ·rw[if_pos (.inr h5)];exact VZ va m x hx w ha l1 l2 4 i hil hi (.inr (.inr (.inr ⟨rfl,h2t,h3t,h4,h5⟩))) ea H
    ·rw[if_pos (.inl h4)];exact VZ va m x hx w ha l1 l2 4 i hil hi (.inr (.inr (.inl ⟨rfl,h2t,h3t,h4⟩))) ea H
theorem Ro(va:Value)(m:St)(x:Rc)(hx:x.Ok)(w:World)(ha:bJ w va m)(l1:m.its.length<=1000)(l2:m.ens.length<=1000)(ea:Nat->Addr)(H:aQ 298 aK w ea):Calls Tryz.prog 43 #[va,.agg x.list.toArray] w (ZJ ea (Xv m x).1 (Xv m x).2 w):=by
 unfold Xv;by_cases h1:x.id<0\/(m.ens.length:Int)<=x.id
 ·rw[if_pos h1];exact UH va m x hx w ha l1 l2 11 (.inl ⟨rfl,aB⟩) ea H
 ·obtain⟨i,hi⟩:∃ i:Nat,x.id=(i:Int):=⟨x.id.toNat,aB⟩;have hil:i<m.ens.length:=aB;have ht:x.id.toNat=i:=aB;rw[if_neg h1,ht,Gp _ hil];by_cases h2:m.ens[i].o=x.obj
  ·rw[if_neg (by simpa using h2)];by_cases h3:m.ens[i].v=0
   ·rw[if_neg (by simpa using h3)];exact TY va m x hx w ha l1 l2 i hil hi h2 h3 ea
   ·rw[if_pos h3];exact UH va m x hx w ha l1 l2 13 (.inr ⟨i,hil,hi,.inr ⟨rfl,h2,h3⟩⟩) ea H
  ·rw[if_pos h2];exact UH va m x hx w ha l1 l2 11 (.inr ⟨i,hil,hi,.inl ⟨rfl,h2⟩⟩) ea H
theorem bJ.shape{w:World}{v:Value}{m:St}(h:bJ w v m):∃ a c a' c',v=.agg #[.slice a m.its.length c,.slice a' m.ens.length c']:=by
 obtain⟨⟨a,c,a',c',e,_⟩,_⟩:=h;exact⟨a,c,a',c',e⟩
theorem U9(va:Value)(m:St)(x:Rc)(hx:x.Ok)(w:World)(ha:bJ w va m)(l1:m.its.length<=1000)(l2:m.ens.length<=1000)(hub:∀ y∈m.its,y.u<=1000000/\y.r<=1000000)(ea:Nat->Addr)(H:aQ 298 aK w ea) :
  Calls Tryz.prog 13 #[va,.agg x.list.toArray] w (ZJ ea (Zm m x).1 (Zm m x).2 w):=by
 have hck:∀ W,aQ 298 aK W ea->Calls Tryz.prog 39 #[.agg x.list.toArray] W (λe w2=>∃ v,e=.returned v/\aT ea w2 v x.chk/\Below W.heap.size W w2):=λW h=>Ua x hx ea W h;have h1:=λW (h:Below w.heap.size w W)=>TS va m x hx W (ha.below h nZ) l1 l2 ea (H.below h);have h2:=λW (h:Below w.heap.size w W)=>PK va m x hx W (ha.below h nZ) l1 l2 hub ea (H.below h);have h4:=λW (h:Below w.heap.size w W)=>LN va m x hx W (ha.below h nZ) l1 l2 ea (H.below h);have h3:=λW (h:Below w.heap.size w W)=>Ro va m x hx W (ha.below h nZ) l1 l2 ea (H.below h);have hcf:=Hd (Rc.kept0 x hx 49);have iR:(Tryz.prog.info? 49).map (·.size)=some x.list.toArray.size:=by rw[Rc.size hx];kernel_rfl
 obtain⟨an,cn,av,cv,rfl⟩:=ha.shape;clear hub;obtain⟨N,bM⟩:=aA m.its.length;obtain⟨V,dD⟩:=aA m.ens.length;rw[<-bM,<-dD] at h1 h2 h3 h4;rw[<-bM,<-dD];obtain⟨aS,aR,aO,hs3,hB⟩:=Qb w #[.slice an N cn,.slice av V cv] x.list.toArray #[.slice none 0 0,.slice none 0 0] 28 49 28 _ rfl;obtain⟨w3,hw3⟩:∃ w3,w3=((w.alloc (.cells #[.slice an N cn,.slice av V cv] 28)).alloc (.cells x.list.toArray 49)).alloc (.cells #[.slice none 0 0,.slice none 0 0] 28):=⟨_,rfl⟩;have s0:=Za aS 0;have s1:=Za aS 1;obtain⟨q0,_⟩:=hcf.out _ _ aR;have aR0:=Hd aR;rw[<-hw3] at aS aR aO hB hs3;have hfm:Zm m x=if x.chk≠0 then (⟨[],[]⟩,x.chk) else if x.kind=1 then Xx m x else if x.kind=2 then X6 m x else if x.kind=4 then Va m x else Xv m x:=rfl;obtain⟨fm,hfm0⟩:=aA (Zm m x);rw[<-hfm0] at hfm ⊢;clear hfm0;generalize x.list.toArray=R at*;generalize x.chk=N0 at*;generalize x.kind=kd at*;replace h1:=Hd h1;replace h2:=Hd h2;replace h3:=Hd h3;replace h4:=Hd h4;replace hck:=Hd hck;replace aS:=Hd aS;replace aR:=Hd aR;replace aO:=Hd aO;replace hB:=Hd hB;replace hs3:=Hd hs3;replace hw3:=Hd hw3;replace H:=Hd H;have i0:(Tryz.prog.info? 28).map (·.size)=some (#[.slice none 0 0,.slice none 0 0]:Array Value).size:=kX;replace hfm:=Hd hfm;clear ha bM dD;go_enter Tryz.func13,Tryz.ntmps13;go_wp2_with ((with_reducible refine wL (.load 49 (.tmp 3)) ?_);refine Ze rfl 49 (.tmp 3) rfl (w.heap.size+1) R _ rfl aR0 Tryz.underlying49 rfl iR ?_);rw[<-hw3.out];with_reducible refine(hck.out _ (H.out.below hB.out)).mono ?_
 rintro e w4 ⟨v4,rfl,hv4,hb⟩;have hu:=hv4.neq;have hg:=hv4.guard;clear s0 s1 q0 aR0;replace aS:=Hd ((hb.block _ (Zb aS.out)).trans aS.out);replace aR:=Hd ((hb.block _ (Zb aR.out)).trans aR.out);replace aO:=Hd ((hb.block _ (Zb aO.out)).trans aO.out);replace hB:=Hd (hB.out.trans (hb.mono hB.out.size));have hsb:=hb.size;have hs4:=Hd (show w.heap.size+3<=w4.heap.size from by have:=hs3.out;omega);clear hb hsb;have s0:=Za aS.out 0;have s1:=Za aS.out 1;obtain⟨q0,_⟩:=hcf.out _ _ aR.out;by_cases hN0:N0=0
 ·subst hN0;replace hfm:=Hd (hfm.out.trans (if_neg sX));have hb00:((0:Nat) != 0)=false:=rfl;rw[hb00] at hu;by_cases hk1:kd=1
  ·subst hk1;replace hfm:=Hd (hfm.out.trans (if_pos rfl));go_wp2_with ((with_reducible refine wL (.load 49 (.tmp 3)) ?_);refine Ze rfl 49 (.tmp 3) rfl (w.heap.size+1) R _ rfl aR Tryz.underlying49 rfl iR ?_);with_reducible refine(h1.out _ hB.out).mono ?_
   rintro e w5 ⟨vm,v5,rfl,hA,hE,hb,hfr⟩;obtain⟨b1,d1,b2,d2,rfl⟩:=hA.shape;obtain⟨C,hC⟩:∃ C:Array Value,C=#[.slice b1 (Xx m x).1.its.length d1,.slice b2 (Xx m x).1.ens.length d2]:=⟨_,rfl⟩;rw[<-hC] at hA hfr ⊢;have iC:(Tryz.prog.info? 28).map (·.size)=some C.size:=by rw[hC];kernel_rfl
   have zC:(#[.slice none 0 0,.slice none 0 0]:Array Value).size=C.size:=by rw[hC];rfl
   have ll:C.all (·.oneCell')=true:=by rw[hC];simp[Value.oneCell']
   have oM:=Hd ((hb.block _ (Zb aO.out)).trans aO.out);replace hB:=Hd (hB.out.trans (hb.mono hB.out.size));have hs5:=hs4.out;replace hA:=Hd hA;replace hE:=Hd hE;replace hfr:=Hd hfr;clear hC hb s0 s1 q0;go_wp2_with ((with_reducible refine wL (.store 28 (.tmp 4) _) ?_);(refine Zd rfl 28 (.tmp 4) (.tmp 20) rfl (w.heap.size+2) _ C rfl rfl oM iC zC ll ?_);intro w6 dK);refine Zj rfl rfl Tryz.underlying28 rfl iC dK.out.here ?_;rw[hfm.out];exact⟨_,_,rfl,hA.out.upd hfr.out dK.out aB,hE.out.updS dK.out oM.out dX,hB.out.trans (dK.out.below aB),hfr.out.mono aB⟩
  ·replace hfm:=Hd (hfm.out.trans (if_neg hk1));have hk1b:(kd==1)=false:=by simpa using hk1
   by_cases hk2:kd=2
   ·subst hk2;replace hfm:=Hd (hfm.out.trans (if_pos rfl));clear hk1;go_wp2_with ((with_reducible refine wL (.load 49 (.tmp 3)) ?_);refine Ze rfl 49 (.tmp 3) rfl (w.heap.size+1) R _ rfl aR Tryz.underlying49 rfl iR ?_);with_reducible refine(h2.out _ hB.out).mono ?_
    rintro e w5 ⟨vm,v5,rfl,hA,hE,hb,hfr⟩;obtain⟨b1,d1,b2,d2,rfl⟩:=hA.shape;obtain⟨C,hC⟩:∃ C:Array Value,C=#[.slice b1 (X6 m x).1.its.length d1,.slice b2 (X6 m x).1.ens.length d2]:=⟨_,rfl⟩;rw[<-hC] at hA hfr ⊢;have iC:(Tryz.prog.info? 28).map (·.size)=some C.size:=by rw[hC];kernel_rfl
    have zC:(#[.slice none 0 0,.slice none 0 0]:Array Value).size=C.size:=by rw[hC];rfl
    have ll:C.all (·.oneCell')=true:=by rw[hC];simp[Value.oneCell']
    have oM:=Hd ((hb.block _ (Zb aO.out)).trans aO.out);replace hB:=Hd (hB.out.trans (hb.mono hB.out.size));have hs5:=hs4.out;replace hA:=Hd hA;replace hE:=Hd hE;replace hfr:=Hd hfr;clear hC hb s0 s1 q0;go_wp2_with ((with_reducible refine wL (.store 28 (.tmp 4) _) ?_);(refine Zd rfl 28 (.tmp 4) (.tmp 27) rfl (w.heap.size+2) _ C rfl rfl oM iC zC ll ?_);intro w6 dK);refine Zj rfl rfl Tryz.underlying28 rfl iC dK.out.here ?_;rw[hfm.out];exact⟨_,_,rfl,hA.out.upd hfr.out dK.out aB,hE.out.updS dK.out oM.out dX,hB.out.trans (dK.out.below aB),hfr.out.mono aB⟩
   ·replace hfm:=Hd (hfm.out.trans (if_neg hk2));have hk2b:(kd==2)=false:=by simpa using hk2
    by_cases hk4:kd=4
    ·subst hk4;replace hfm:=Hd (hfm.out.trans (if_pos rfl));clear hk1 hk2;go_wp2_with ((with_reducible refine wL (.load 49 (.tmp 3)) ?_);refine Ze rfl 49 (.tmp 3) rfl (w.heap.size+1) R _ rfl aR Tryz.underlying49 rfl iR ?_);with_reducible refine(h4.out _ hB.out).mono ?_
     rintro e w5 ⟨vm,v5,rfl,hA,hE,hb,hfr⟩;obtain⟨b1,d1,b2,d2,rfl⟩:=hA.shape;obtain⟨C,hC⟩:∃ C:Array Value,C=#[.slice b1 (Va m x).1.its.length d1,.slice b2 (Va m x).1.ens.length d2]:=⟨_,rfl⟩;rw[<-hC] at hA hfr ⊢;have iC:(Tryz.prog.info? 28).map (·.size)=some C.size:=by rw[hC];kernel_rfl
     have zC:(#[.slice none 0 0,.slice none 0 0]:Array Value).size=C.size:=by rw[hC];rfl
     have ll:C.all (·.oneCell')=true:=by rw[hC];simp[Value.oneCell']
     have oM:=Hd ((hb.block _ (Zb aO.out)).trans aO.out);replace hB:=Hd (hB.out.trans (hb.mono hB.out.size));have hs5:=hs4.out;replace hA:=Hd hA;replace hE:=Hd hE;replace hfr:=Hd hfr;clear hC hb s0 s1 q0;go_wp2_with ((with_reducible refine wL (.store 28 (.tmp 4) _) ?_);(refine Zd rfl 28 (.tmp 4) (.tmp 34) rfl (w.heap.size+2) _ C rfl rfl oM iC zC ll ?_);intro w6 dK);refine Zj rfl rfl Tryz.underlying28 rfl iC dK.out.here ?_;rw[hfm.out];exact⟨_,_,rfl,hA.out.upd hfr.out dK.out aB,hE.out.updS dK.out oM.out dX,hB.out.trans (dK.out.below aB),hfr.out.mono aB⟩
    ·replace hfm:=Hd (hfm.out.trans (if_neg hk4));have hk4b:(kd==4)=false:=by simpa using hk4
     clear hk1 hk2 hk4;go_wp2_with ((with_reducible refine wL (.load 49 (.tmp 3)) ?_);refine Ze rfl 49 (.tmp 3) rfl (w.heap.size+1) R _ rfl aR Tryz.underlying49 rfl iR ?_);with_reducible refine(h3.out _ hB.out).mono ?_
     rintro e w5 ⟨vm,v5,rfl,hA,hE,hb,hfr⟩;obtain⟨b1,d1,b2,d2,rfl⟩:=hA.shape;obtain⟨C,hC⟩:∃ C:Array Value,C=#[.slice b1 (Xv m x).1.its.length d1,.slice b2 (Xv m x).1.ens.length d2]:=⟨_,rfl⟩;rw[<-hC] at hA hfr ⊢;have iC:(Tryz.prog.info? 28).map (·.size)=some C.size:=by rw[hC];kernel_rfl
     have zC:(#[.slice none 0 0,.slice none 0 0]:Array Value).size=C.size:=by rw[hC];rfl
     have ll:C.all (·.oneCell')=true:=by rw[hC];simp[Value.oneCell']
     have oM:=Hd ((hb.block _ (Zb aO.out)).trans aO.out);replace hB:=Hd (hB.out.trans (hb.mono hB.out.size));have hs5:=hs4.out;replace hA:=Hd hA;replace hE:=Hd hE;replace hfr:=Hd hfr;clear hC hb s0 s1 q0;go_wp2_with ((with_reducible refine wL (.store 28 (.tmp 4) _) ?_);(refine Zd rfl 28 (.tmp 4) (.tmp 39) rfl (w.heap.size+2) _ C rfl rfl oM iC zC ll ?_);intro w6 dK);refine Zj rfl rfl Tryz.underlying28 rfl iC dK.out.here ?_;rw[hfm.out];exact⟨_,_,rfl,hA.out.upd hfr.out dK.out aB,hE.out.updS dK.out oM.out dX,hB.out.trans (dK.out.below aB),hfr.out.mono aB⟩
 ·replace hfm:=Hd (hfm.out.trans (if_pos hN0));have hbt:(N0 != 0)=true:=by simpa using hN0
  rw[hbt] at hu;have hv:=Hd hv4;have hs5:=hs4.out;clear hv4 hN0;go_wp2_with ((with_reducible refine wL (.store 28 (.tmp 4) _) ?_);(refine Zd rfl 28 (.tmp 4) (.tmp 11) rfl (w.heap.size+2) _ #[.slice none 0 0,.slice none 0 0] rfl rfl aO i0 rfl jK ?_);intro w6 dK);refine Zj rfl rfl Tryz.underlying28 rfl i0 dK.out.here ?_;rw[hfm.out];exact⟨_,_,rfl,YW _,hv.out.updS dK.out aO.out dX,hB.out.trans (dK.out.below aB),Yj _⟩
def Rc.head(x:Rc):List UInt8:=b8 x.kind::Zh x.obj
def Rc.out(x:Rc):List UInt8:=
 if x.kind=1 then x.head++([b8 (x.name.size:Int)]++(x.name.data.toList++(ZL x.p.s x.p.n x.p.k x.p.d x.p.t x.p.r++(x.root++(x.file++Zh x.tick)))))
 else if x.kind=2 then x.head++(Zh x.id++([b8 x.way]++((Zh x.index).drop 4++Zh x.tick)))
 else if x.kind=3 then x.head++(Zh x.id++([b8 x.verdict]++Zh x.tick))
 else x.head++Zh x.tick
theorem Rc.chk0{x:Rc}(h:x.chk=0):(1<=x.kind/\x.kind<=4)/\x.nums=true/\x.bare=Rc.zero/\(x.kind=1->Vq x.name.data.toList=true/\Qu x.p.s x.p.n x.p.k x.p.d x.p.t x.p.r=none):=by
 unfold Rc.chk at h;split at h
 ·cases h
 ·next h1=>
  split at h
  ·cases h
  ·next h2=>
   refine⟨aB,by simpa using h2,?_⟩;split at h
   ·split at h
    ·cases h
    ·next h3=>
     split at h
     ·omega
     ·next h4=>
      split at h
      ·next h5=>exact⟨h5,λ_=>⟨by simpa using h3,h4⟩⟩
      ·cases h
   ·next h3=>
    split at h
    ·next h5=>exact⟨h5,λe=>absurd e h3⟩
    ·cases h
theorem Rc.kept(x:Rc)(hx:x.Ok)(T:TypeId)(W:World)(b:Nat)(h:W.heap[b]? = some (.cells x.list.toArray T (0,0)))(W2:World)(hW:Grown W W2) :
  W2.cell? ⟨b,0,none⟩=some (.int .i64 x.kind)/\W2.cell? ⟨b,1,none⟩=some (.int .i64 x.obj)/\W2.cell? ⟨b,2,none⟩=some (.int .i64 x.id)/\W2.cell? ⟨b,3,none⟩=some (.string x.name)/\
  W2.cell? ⟨b,74,none⟩=some (.int .i64 x.way)/\W2.cell? ⟨b,75,none⟩=some (.int .i64 x.index)/\W2.cell? ⟨b,76,none⟩=some (.int .i64 x.verdict)/\W2.cell? ⟨b,77,none⟩=some (.int .i64 x.tick):=by
 have h2:=Hh h hW;refine⟨?_,?_,?_,?_,?_,?_,?_,?_⟩;all_goals rw[Za h2,List.getElem?_toArray]
 ·exact x.c0
 ·exact x.c1
 ·exact x.c2
 ·exact x.c3
 ·exact Rc.c74 hx.root hx.file
 ·exact Rc.c75 hx.root hx.file
 ·exact Rc.c76 hx.root hx.file
 ·exact Rc.c77 hx.root hx.file
theorem U1(x:Rc)(hx:x.Ok)(hc:x.chk=0)(ea:Nat->Addr)(w:World)(H:aQ 298 aK w ea):Calls Tryz.prog 39 #[.agg x.list.toArray] w λe w2=>e=.returned .nilIface/\Below w.heap.size w w2:=by
 refine(Ua x hx ea w H).mono ?_;rintro e w2 ⟨v,rfl,hv,hb⟩;rw[hc] at hv;rcases hv with ⟨_,rfl⟩|⟨i,_,h,_⟩|⟨i,g,F,V,_,h,_⟩
 ·exact⟨rfl,hb⟩
 ·cases h
 ·cases h
theorem Uw(b:Nat)(ps:List (List UInt8))(n:Nat)(w:World)(hA:eU w b ps)(hn:ps.length=n)(hm:n<=100)(h1:1<=ps.flatten.length)(h2:ps.flatten.length<=1000000) :
  Calls Tryz.prog 140 #[.slice (some ⟨b,0,none⟩) n n] w λe w2=>∃ v,e=.returned v/\aN w.heap.size w2 v ps.flatten/\Below w.heap.size w w2:=by
 subst hn;exact Ul b ps w hA aB h1 h2
theorem FC{w:World}{B:Nat}{p0 p1 p2 p3 p4:List UInt8}{a0 a1 a2 a3 a4:Option Addr}{c0 c1 c2 c3 c4 l0 l1 l2 l3 l4:Nat}(hB:w.heap[B]? = some (.cells #[.slice a0 l0 c0,.slice a1 l1 c1,.slice a2 l2 c2,.slice a3 l3 c3,.slice a4 l4 c4] 24 (0,0)))
  (e0:p0.length=l0) (e1:p1.length=l1) (e2:p2.length=l2) (e3:p3.length=l3) (e4:p4.length=l4) (h0:aJ w a0 c0 p0) (h1:aJ w a1 c1 p1) (h2:aJ w a2 c2 p2) (h3:aJ w a3 c3 p3) (h4:aJ w a4 c4 p4):eU w B [p0,p1,p2,p3,p4]:=by
 intro k hk;match k,hk with
 | 0,_=>exact⟨a0,c0,by rw[Za hB];show some (Value.slice a0 l0 c0)=_;rw[<-e0];rfl,h0⟩
 | 1,_=>exact⟨a1,c1,by rw[Za hB];show some (Value.slice a1 l1 c1)=_;rw[<-e1];rfl,h1⟩
 | 2,_=>exact⟨a2,c2,by rw[Za hB];show some (Value.slice a2 l2 c2)=_;rw[<-e2];rfl,h2⟩
 | 3,_=>exact⟨a3,c3,by rw[Za hB];show some (Value.slice a3 l3 c3)=_;rw[<-e3];rfl,h3⟩
 | 4,_=>exact⟨a4,c4,by rw[Za hB];show some (Value.slice a4 l4 c4)=_;rw[<-e4];rfl,h4⟩
def Xm(x:Rc)(w:World)(e:Ending)(w2:World):Prop:=∃ v,e=.returned (.tuple #[v,.nilIface])/\aN w.heap.size w2 v x.out/\Below w.heap.size w w2
def SD(sI sE:Value)(k:Nat):Prop:=(∃ o s n c,sI=.slice (some ⟨k,o,s⟩) n c/\0<n)\/(∃ o s n c,sE=.slice (some ⟨k,o,s⟩) n c/\0<n)
theorem UR{D:Nat->Prop}{w w':World}{b o:Nat}{cs:List Value}(h:w.rangeAt b o cs)(hO:Only D w w')(hn:¬D b):w'.rangeAt b o cs:=λj v hv=>by
 have h1:=h j v hv;exact(World.cell?_of_block (a:=⟨b,o+j,none⟩) (hO.block b (World.block_lt_of_cell? w _ h1) hn)).trans h1
theorem bJ.only{D:Nat->Prop}{w w':World}{sI sE:Value}{m:St}(h:bJ w (.agg #[sI,sE]) m)(hO:Only D w w')(hd:∀ k,SD sI sE k->¬D k):bJ w' (.agg #[sI,sE]) m:=by
 obtain⟨⟨a,c,a',c',e,h1,h2,h3,h4,h5,h6⟩,h7,h8⟩:=h;cases e;refine⟨⟨a,c,a',c',rfl,λk hk=>?_,h2,h3,λk hk=>?_,h5,h6⟩,h7,h8⟩
 ·obtain⟨b1,o1,rfl,hr⟩:=h1 k hk;exact⟨b1,o1,rfl,UR hr hO (hd b1 (.inl ⟨_,_,_,_,rfl,aB⟩))⟩
 ·obtain⟨b1,o1,rfl,hr⟩:=h4 k hk;exact⟨b1,o1,rfl,UR hr hO (hd b1 (.inr ⟨_,_,_,_,rfl,aB⟩))⟩
theorem bJ.sd_lt{w:World}{sI sE:Value}{m:St}(h:bJ w (.agg #[sI,sE]) m):∀ k,SD sI sE k->k<w.heap.size:=by
 obtain⟨⟨a,c,a',c',e,h1,h2,h3,h4,h5,h6⟩,h7,h8⟩:=h;cases e;rintro k (⟨o,s,n,c2,e,hn⟩|⟨o,s,n,c2,e,hn⟩)
 ·cases e;obtain⟨b1,o1,e,hr⟩:=h1 0 hn;cases e;exact World.block_lt_of_cell? w _ (hr 0 _ (It.c0 _))
 ·cases e;obtain⟨b1,o1,e,hr⟩:=h4 0 hn;cases e;exact World.block_lt_of_cell? w _ (hr 0 _ (rfl:(En.list m.ens[0])[0]? = some _))
theorem dV.sd{B:Nat}{sI sE:Value}{w:World}{m:St}(h:dV B (.agg #[sI,sE]))(ha:bJ w (.agg #[sI,sE]) m):∀ k,SD sI sE k->B<=k:=by
 obtain⟨⟨a,c,a',c',e,_⟩,_,_⟩:=ha;cases e;obtain⟨f1,f2⟩:=h _ _ _ _ _ _ rfl;rintro k (⟨o,s,n,c2,e,hn⟩|⟨o,s,n,c2,e,hn⟩)
 ·cases e;exact f1 _ _ _ rfl
 ·cases e;exact f2 _ _ _ rfl
structure LV where
 J:Nat
 B:Nat
 mb:Nat
 mn:Nat
 f:Nat
 v:Value
 rv:Value
 fv:Value
 sI:Value
 sE:Value
 F:Nat->Prop
structure LP where
 p:DP
 recs:List (List UInt8)
 sure:Nat
 dead:Bool
 n:Nat
 ps:List (List UInt8)
 m:St
def kZ(l:Nat)(V:LV)(k:Nat):Prop:=k=l\/SD V.sI V.sE k\/lH V.f V.fv k\/JF V.J V.F V.rv k\/ZR V.B V.mb V.v k
structure d9 (base:Nat) (w:World) (l:Nat) (V:LV) (P:LP):Prop where
 jd:JD base w V.J V.B V.mb V.mn V.v V.rv V.F P.p P.recs P.sure P.dead
 at_:w.heap[l]? = some (.cells #[.pointer (some ⟨V.J,0,none⟩),V.sI,V.sE,.pointer (some ⟨V.f,0,none⟩)] 124 (0,0))
 st:bJ w (.agg #[V.sI,V.sE]) P.m
 fr:jq base w V.f P.n V.fv P.ps
 ge:base<=l
 ges:∀ k,SD V.sI V.sE k->base<=k
 ls:¬SD V.sI V.sE l
 lf:¬lH V.f V.fv l
 lj:¬(JF V.J V.F V.rv l\/ZR V.B V.mb V.v l)
 sf:∀ k,SD V.sI V.sE k->¬lH V.f V.fv k
 sj:∀ k,SD V.sI V.sE k->¬(JF V.J V.F V.rv k\/ZR V.B V.mb V.v k)
 fj:∀ k,lH V.f V.fv k->¬(JF V.J V.F V.rv k\/ZR V.B V.mb V.v k)
theorem d9.lt{base:Nat}{w:World}{l:Nat}{V:LV}{P:LP}(h:d9 base w l V P):∀ k,kZ l V k->base<=k/\k<w.heap.size:=by
 rintro k (rfl|hk|hk|hk|hk)
 ·exact⟨h.ge,Zb h.at_⟩
 ·exact⟨h.ges k hk,h.st.sd_lt k hk⟩
 ·exact h.fr.lt k hk
 ·exact h.jd.jm.lt k hk
 ·exact h.jd.dm.lt k hk
theorem d9.only{base:Nat}{w w':World}{l:Nat}{V:LV}{P:LP}{D:Nat->Prop}(h:d9 base w l V P)(hO:Only D w w')(hd:∀ k,kZ l V k->¬D k):d9 base w' l V P:=
 ⟨h.jd.only hO (λk hk=>hd k (.inr (.inr (.inr (.inl hk))))) (λk hk=>hd k (.inr (.inr (.inr (.inr hk))))),hO.heap h.at_ (hd l (.inl rfl)),h.st.only hO (λk hk=>hd k (.inr (.inl hk))),h.fr.only hO (λk hk=>hd k (.inr (.inr (.inl hk)))),h.ge,h.ges,h.ls,h.lf,h.lj,h.sf,h.sj,h.fj⟩
theorem d9.below{base:Nat}{w w':World}{l:Nat}{V:LV}{P:LP}(h:d9 base w l V P)(hb:Below w.heap.size w w'):d9 base w' l V P:=h.only (Only.ofBelow (D:=λ_=>False) hb) (λ_ _ h=>h)
structure ae (base:Nat) (w w':World) (l:Nat) (V V':LV) (P':LP):Prop where
 ok:d9 base w' l V' P'
 only:Only (kZ l V) w w'
 new:∀ k,kZ l V' k->kZ l V k\/w.heap.size<=k
theorem ae.same{base:Nat}{w:World}{l:Nat}{V:LV}{P:LP}(h:d9 base w l V P):ae base w w l V V P:=⟨h,Only.refl _ _,λ_ h=>.inl h⟩
theorem ae.trans{base:Nat}{w w1 w2:World}{l:Nat}{V V1 V2:LV}{P1 P2:LP}(h:ae base w w1 l V V1 P1)(h':ae base w1 w2 l V1 V2 P2):ae base w w2 l V V2 P2:=
 ⟨h'.ok,h.only.trans h'.only (λk hk hd=>(h.new k hd).elim id (λh=>absurd h aB)),λk hk=>by
  rcases h'.new k hk with h1|h1
  ·exact h.new k h1
  ·exact .inr (Nat.le_trans h.only.size h1)⟩
theorem ae.grow{base:Nat}{w w1 w2:World}{l:Nat}{V V1:LV}{P1:LP}(h:ae base w w1 l V V1 P1)(hb:Below w1.heap.size w1 w2):ae base w w2 l V V1 P1:=
 h.trans ⟨h.ok.below hb,Only.ofBelow hb,λ_ h=>.inl h⟩
theorem ae.below{base:Nat}{w w':World}{l:Nat}{V V':LV}{P P':LP}(h:ae base w w' l V V' P')(h0:d9 base w l V P)(hb:base<=w.heap.size):Below base w w':=h.only.below hb (λk hk=>(h0.lt k hk).1)
theorem d9.journal{base:Nat}{w w':World}{l:Nat}{V:LV}{P:LP}{gD:Nat}{v' rv':Value}{F':Nat->Prop}{p':DP}{bF:List (List UInt8)}{ah:Nat}{aj:Bool}(h:d9 base w l V P)(hj:bA base w w' V.J V.B V.mb V.v V.rv V.F gD v' rv' F' p' bF ah aj) :
  ae base w w' l V { V with mn:=gD,v:=v',rv:=rv',F:=F' } { P with p:=p',recs:=bF,sure:=ah,dead:=aj }:=by
 have hap:∀ k,k<w.heap.size->¬(JF V.J V.F V.rv k\/ZR V.B V.mb V.v k)->¬(JF V.J F' rv' k\/ZR V.B V.mb v' k):=λk hk hn hd=>by
  rcases hd with hd|hd
  ·rcases hj.newJ k hd with q|q
   ·exact hn (.inl q)
   ·omega
  ·rcases hj.newD k hd with q|q
   ·exact hn (.inr q)
   ·omega
 refine⟨⟨hj.ok,hj.only.heap h.at_ h.lj,h.st.only hj.only h.sj,h.fr.only hj.only h.fj,h.ge,h.ges,h.ls,h.lf,hap l (Zb h.at_) h.lj,h.sf,λk hk=>hap k (h.st.sd_lt k hk) (h.sj k hk),λk hk=>hap k (h.fr.lt k hk).2 (h.fj k hk)⟩,hj.only.mono (λk _ hk=>hk.elim (λh=>.inr (.inr (.inr (.inl h)))) (λh=>.inr (.inr (.inr (.inr h))))),?_⟩;rintro k (hk|hk|hk|hk|hk)
 ·exact .inl (.inl hk)
 ·exact .inl (.inr (.inl hk))
 ·exact .inl (.inr (.inr (.inl hk)))
 ·exact(hj.newJ k hk).imp (λh=>.inr (.inr (.inr (.inl h)))) id
 ·exact(hj.newD k hk).imp (λh=>.inr (.inr (.inr (.inr h)))) id
theorem d9.state{base:Nat}{w w':World}{l:Nat}{V:LV}{P:LP}{sI sE:Value}{m:St}(h:d9 base w l V P)(hU:ag l (.cells #[.pointer (some ⟨V.J,0,none⟩),sI,sE,.pointer (some ⟨V.f,0,none⟩)] 124 (0,0)) w w')(ha:bJ w (.agg #[sI,sE]) m)(hn:∀ k,SD sI sE k->base<=k/\¬kZ l V k)(B:Nat)(hB:∀ k,SD sI sE k->B<=k) :
  d9 base w' l { V with sI:=sI,sE:=sE } { P with m:=m }/\Only (kZ l V) w w'/\∀ k,kZ l { V with sI:=sI,sE:=sE } k->kZ l V k\/B<=k:=by
 have hO:Only (λk=>k=l) w w':=Only.ofUpd hU rfl;refine⟨⟨h.jd.only hO (λk hk e=>h.lj (.inl (e▸hk))) (λk hk e=>h.lj (.inr (e▸hk))),hU.here,ha.only hO (λk hk e=>(hn k hk).2 (.inl e)),h.fr.only hO (λk hk e=>h.lf (e▸hk)),h.ge,λk hk=>(hn k hk).1,λhs=>(hn l hs).2 (.inl rfl),h.lf,h.lj,λk hk hf=>(hn k hk).2 (.inr (.inr (.inl hf))),λk hk hj=>(hn k hk).2 (.inr (.inr (.inr hj))),h.fj⟩,hO.mono (λk _ e=>.inl e),?_⟩;rintro k (hk|hk|hk|hk|hk)
 ·exact .inl (.inl hk)
 ·exact .inr (hB k hk)
 ·exact .inl (.inr (.inr (.inl hk)))
 ·exact .inl (.inr (.inr (.inr (.inl hk))))
 ·exact .inl (.inr (.inr (.inr (.inr hk))))
theorem d9.leaf{base:Nat}{w w':World}{l:Nat}{V:LV}{P:LP}{n':Nat}{fv':Value}{ps':List (List UInt8)}(h:d9 base w l V P)(hf:jq base w' V.f n' fv' ps')(hO:Only (lH V.f V.fv) w w')(hn:∀ k,fv'.ownBlock=some k->lH V.f V.fv k\/w.heap.size<=k):ae base w w' l V { V with fv:=fv' } { P with n:=n',ps:=ps' }:=by
 have hap:∀ k,k<w.heap.size->¬lH V.f V.fv k->¬lH V.f fv' k:=λk hk hn2 hd=>by
  rcases hd with rfl|hd
  ·exact hn2 (.inl rfl)
  ·rcases hn k hd with q|q
   ·exact hn2 q
   ·omega
 have hj:∀ k,lH V.f fv' k->¬(JF V.J V.F V.rv k\/ZR V.B V.mb V.v k):=λk hk hjd=>by
  have hlt:k<w.heap.size:=by rcases hjd with q|q;exact(h.jd.jm.lt k q).2;exact(h.jd.dm.lt k q).2
  by_cases hfk:lH V.f V.fv k
  ·exact h.fj k hfk hjd
  ·exact hap k hlt hfk hk
 refine⟨⟨h.jd.only hO (λk hk hf=>h.fj k hf (.inl hk)) (λk hk hf=>h.fj k hf (.inr hk)),hO.heap h.at_ h.lf,h.st.only hO (λk hk=>h.sf k hk),hf,h.ge,h.ges,h.ls,hap l (Zb h.at_) h.lf,h.lj,λk hk=>hap k (h.st.sd_lt k hk) (h.sf k hk),h.sj,hj⟩,hO.mono (λk _ hk=>.inr (.inr (.inl hk))),?_⟩;rintro k (hk|hk|hk|hk|hk)
 ·exact .inl (.inl hk)
 ·exact .inl (.inr (.inl hk))
 ·rcases hk with rfl|hk
  ·exact .inl (.inr (.inr (.inl (.inl rfl))))
  ·exact(hn k hk).imp (λh=>.inr (.inr (.inl h))) id
 ·exact .inl (.inr (.inr (.inr (.inl hk))))
 ·exact .inl (.inr (.inr (.inr (.inr hk))))
theorem VS{W:World}{b:Nat}{o:Obj}{sI sE:Value}{W':World}{m:St}(hz:W.heap[b]? = some o)(hf:dV W.heap.size (.agg #[sI,sE]))(ha:bJ W' (.agg #[sI,sE]) m):∀ k,SD sI sE k->k≠b:=λk hk e=>by
 have:=hf.sd ha k hk;have:=Zb hz;omega
theorem VV{w:World}{sI sE:Value}{m:St}(ha:bJ w (.agg #[sI,sE]) m):∀ k,SD sI sE k->k≠w.heap.size:=λk hk e=>by
 have:=ha.sd_lt k hk;omega
theorem aT.zero{ea:Nat->Addr}{w:World}{v:Value}(h:aT ea w v 0):v=.nilIface:=by
 rcases h with ⟨_,rfl⟩|⟨i,_,e,_⟩|⟨i,g,F,V,_,e,_⟩
 ·rfl
 ·omega
 ·omega
theorem ae.state{base:Nat}{w w1 w2:World}{l:Nat}{V V1:LV}{P1:LP}{sI sE:Value}{m:St}(h:ae base w w1 l V V1 P1)(hU:ag l (.cells #[.pointer (some ⟨V1.J,0,none⟩),sI,sE,.pointer (some ⟨V1.f,0,none⟩)] 124 (0,0)) w1 w2)(ha:bJ w1 (.agg #[sI,sE]) m)(hb:base<=w.heap.size)(hn:∀ k,SD sI sE k->w.heap.size<=k/\¬kZ l V1 k) :
  ae base w w2 l V { V1 with sI:=sI,sE:=sE } { P1 with m:=m }:=by
 obtain⟨hs,ho,hn2⟩:=h.ok.state hU ha (λk hk=>⟨by have:=(hn k hk).1;omega,(hn k hk).2⟩) w.heap.size (λk hk=>(hn k hk).1);exact⟨hs,h.only.trans ho (λk hk hd=>(h.new k hd).elim id (λh=>absurd h aB)),λk hk=>(hn2 k hk).elim (h.new k) .inr⟩
theorem WX{m:St}{x:Rc}(h:(Zm m x).2=0):x.chk=0:=by
 by_cases hc:x.chk=0
 ·exact hc
 ·unfold Zm at h;rw[if_pos hc] at h;exact absurd h hc
theorem RX{base:Nat}{w:World}{l:Nat}{V:LV}{P:LP}(h:d9 base w l V P)(x:Rc)(hx:x.Ok)(l1:P.m.its.length<=1000)(l2:P.m.ens.length<=1000)(hub:∀ y∈P.m.its,y.u<=1000000/\y.r<=1000000)(ea:Nat->Addr)(H:aQ 298 aK w ea)(hn:(Zm P.m x).2≠0) :
  Calls Tryz.prog 81 #[.pointer (some ⟨l,0,none⟩),.agg x.list.toArray] w λe w'=>∃ v,e=.returned v/\aT ea w' v (Zm P.m x).2/\Below w.heap.size w w':=by
 have hfo:=Hd (λW (hW:Below w.heap.size w W)=>U9 (.agg #[V.sI,V.sE]) P.m x hx W (h.st.below hW nZ) l1 l2 hub ea (H.below hW));have hlat:=h.at_;have iR:(Tryz.prog.info? 49).map (·.size)=some x.list.toArray.size:=by rw[Rc.size hx];kernel_rfl
 obtain⟨fm,hfm⟩:=aA (Zm P.m x);rw[<-hfm] at hfo hn ⊢;obtain⟨R,hR⟩:=aA x.list.toArray;rw[<-hR] at hfo iR ⊢;obtain⟨sI,hsI⟩:=aA V.sI;obtain⟨sE,je⟩:=aA V.sE;rw[<-hsI,<-je] at hfo hlat
 obtain⟨jb,hjb⟩:=aA V.J;obtain⟨fb,Ao⟩:=aA V.f;rw[<-hjb,<-Ao] at hlat
 obtain⟨w1,hw1⟩:∃ w1,w1=w.alloc (.cells R 49):=⟨_,rfl⟩;have hB1:Below w.heap.size w w1:=by rw[hw1];exact bR.alloc nZ _
 have aR:w1.heap[w.heap.size]? = some (.cells R 49 (0,0)):=by rw[hw1];exact heap_alloc_new w _
 have aL:w1.heap[l]? = some (.cells #[.pointer (some ⟨jb,0,none⟩),sI,sE,.pointer (some ⟨fb,0,none⟩)] 124 (0,0)):=(hB1.block _ (Zb hlat)).trans hlat
 have hllt:=Zb hlat
 have hs1:w1.heap.size=w.heap.size+1:=by rw[hw1];simp
 have iW:∀ W:World,Grown w1 W->W.heap[w.heap.size]? = some (.cells R 49 (0,0)):=λW hW=>(hW.block _ (Zb aR)).trans aR;have huA:=Tryz.underlying49;have gy:=iR;have oz:∀ W:World,Grown w1 W->W.cell? ⟨l,1,none⟩=some sI:=λW hW=>by rw[Za ((hW.block _ (Zb aL)).trans aL)];rfl
 have o6:∀ W:World,Grown w1 W->W.cell? ⟨l,2,none⟩=some sE:=λW hW=>by rw[Za ((hW.block _ (Zb aL)).trans aL)];rfl
 have iN:(Tryz.prog.info? 28).map (·.size)=some (#[.slice none 0 0,.slice none 0 0]:Array Value).size:=kX;replace hw1:=Hd hw1;replace hB1:=Hd hB1;replace aR:=Hd aR;replace aL:=Hd aL;replace hs1:=Hd hs1;replace hR:=Hd hR;replace hfm:=Hd hfm;replace hsI:=Hd hsI;replace je:=Hd je;replace hjb:=Hd hjb;replace Ao:=Hd Ao;replace h:=Hd h;replace H:=Hd H;clear hlat l1 l2 hub;go_enter Tryz.func81,Tryz.ntmps81;go_upto_region 1 with fail;rw[<-hw1.out];have hd0:Hid (Grown w1 w1.drew):=Hd (Grown.drew (Grown.refl w1));go_cut [5,6] from 9 to 17 (λs5 s6 wx=>∃ g oO oP v,s5=.pointer (some ⟨g,0,none⟩)/\s6=v/\wx.heap[g]? = some (.cells #[oO,oP] 28 (0,0))/\w1.heap.size<=g/\bJ wx (.agg #[oO,oP]) fm.1/\dV w1.heap.size (.agg #[oO,oP])/\aT ea wx v fm.2/\Grown w1 wx)
 case first=>
  refine wp_region_held_drew (S:=(Grown w1)) kX hd0.out (λaD=>?_);generalize World.drew w1=wd at*;refine tk 0 aD ?_;refine tk 1 aD ?_;refine tk 2 aD ?_;refine tk 3 aD ?_;refine tk 4 aD ?_ (v:=Value.agg _) (hy:=Or.inl ⟨by rfl,λW hSW=>Z6 _ _ rfl _ _ _ rfl (iW W hSW) huA rfl gy⟩);refine fZ [5,9] ?_;refine ac (λKz aF=>?_) ?_;go_simp
  (with_reducible refine(hfo.out _ (hB1.out.trans (aD.mono hB1.out.size))).mono ?_)
  rintro e w4 ⟨vm,v4,rfl,dU,hv4,hnew,lu⟩;obtain⟨a4,c4,a5,c5,rJ⟩:=dU.shape;subst rJ
  (try have uS:=Hd (VS hZ.out lu dU))
  replace lu:=Hd (lu.mono aD.size);replace dU:=Hd dU;replace hv4:=Hd hv4
  (try replace hZ:=Hd ((hnew.block _ (Zb hZ.out)).trans hZ.out))
  focus (go_wp2_with fail)
  refine aF.out _ _ (Below.trans aD (Below.mono hnew (Below.size aD))) ?_;clear aF Kz aD;intro aD;try clear hnew
  try simp only[Act.put,sL,sZ,sS]
  refine tk 6 aD ?_;refine tk 7 aD ?_;refine tk 8 aD ?_;refine rd 9 (λKz aF=>?_);go_simp;focus (try go_wp2_with fail)
  (with_reducible refine Zp (t:=28) ?_)
  have xL:=Hd aD.size
  (try have uS:=Hd (VV dU.out))
  intro wZ hZ hnew
  (try replace dU:=Hd (dU.out.below hnew nZ))
  (try replace hv4:=Hd (hv4.out.below hnew))
  refine aF.out _ _ (Below.trans aD (Below.mono hnew (Below.size aD))) ?_;clear aF Kz aD;intro aD;try clear hnew
  try simp only[Act.put,sL,sZ,sS]
  refine rd 10 (λKz aF=>?_);rw[if_pos bT]
  (with_reducible refine Zl 28 (.tmp 5) (.tmp 16) rfl _ #[.slice none 0 0,.slice none 0 0] #[.slice a4 fm.1.its.length c4,.slice a5 fm.1.ens.length c5] rfl rfl hZ kX rfl jK ?_)
  intro w9 au;have hS:=Below.trans aD (au.out.below xL.out);have oK:=Hd (dU.out.only (Only.ofUpd (D:=λk=>k=_) au.out rfl) (λk hk e=>uS.out k hk e));have uP:=Hd (hv4.out.updS au.out hZ.out dX);have ji:=Hd au.out.here;refine aF.out _ _ hS ?_;clear aF Kz aD hS;intro aD;try simp only[Act.put]
  refine tk 11 aD ?_;refine bz ?_;rotate_left;refine ac (λKz aF=>?_) AllReadyH.nil;go_simp;focus (try go_wp2_with fail)
  (with_reducible refine Zp (t:=28) ?_)
  have xL:=Hd aD.size
  (try have uS:=Hd (VV dU.out))
  intro wZ hZ hnew
  (try replace dU:=Hd (dU.out.below hnew nZ))
  (try replace hv4:=Hd (hv4.out.below hnew))
  refine aF.out _ _ (Below.trans aD (Below.mono hnew (Below.size aD))) ?_;clear aF Kz aD;intro aD;try clear hnew
  try simp only[Act.put,sL,sZ,sS]
  refine rd 5 (λKz aF=>?_);go_simp
  (with_reducible refine(hfo.out _ (hB1.out.trans (aD.mono hB1.out.size))).mono ?_)
  rintro e w4 ⟨vm,v4,rfl,dU,hv4,hnew,lu⟩;obtain⟨a4,c4,a5,c5,rJ⟩:=dU.shape;subst rJ
  (try have uS:=Hd (VS hZ.out lu dU))
  replace lu:=Hd (lu.mono aD.size);replace dU:=Hd dU;replace hv4:=Hd hv4
  (try replace hZ:=Hd ((hnew.block _ (Zb hZ.out)).trans hZ.out))
  focus (go_wp2_with fail)
  refine aF.out _ _ (Below.trans aD (Below.mono hnew (Below.size aD))) ?_;clear aF Kz aD;intro aD;try clear hnew
  try simp only[Act.put,sL,sZ,sS]
  refine tk 6 aD ?_;refine tk 7 aD ?_;refine tk 8 aD ?_;refine rd 10 (λKz aF=>?_);rw[if_pos bT]
  (with_reducible refine Zl 28 (.tmp 5) (.tmp 16) rfl _ #[.slice none 0 0,.slice none 0 0] #[.slice a4 fm.1.its.length c4,.slice a5 fm.1.ens.length c5] rfl rfl hZ kX rfl jK ?_)
  intro w9 au;have hS:=Below.trans aD (au.out.below xL.out);have oK:=Hd (dU.out.only (Only.ofUpd (D:=λk=>k=_) au.out rfl) (λk hk e=>uS.out k hk e));have uP:=Hd (hv4.out.updS au.out hZ.out dX);have ji:=Hd au.out.here;refine aF.out _ _ hS ?_;clear aF Kz aD hS;intro aD;try simp only[Act.put]
  refine tk 11 aD ?_;refine bz ?_;all_goals
   go_wp2_with fail;go_meet;exact⟨_,_,_,_,rfl,rfl,ji.out,xL.out,oK.out,lu.out,uP.out,aD⟩
 case rest=>
  obtain⟨g,oO,oP,v,rfl,rfl,hg,hg1,hm',hf',hv',o8⟩:=hcut;have hnq:=hv'.neq;have hgd:=hv'.guard;rw[show (fm.2 != 0)=true from by simpa using hn] at hnq;have hfin:=Hd (hB1.out.trans (o8.mono hB1.out.size));replace hv':=Hd hv';clear hn hm' hf' hg o8 iW oz o6;go_wp2_with fail;go_ret;exact⟨_,rfl,hv'.out,hfin.out⟩
structure gJ (B:Nat) (w W:World):Prop where
 bel:Below B w W
 err:∀ (b:Nat) (C:Array Value) (t:TypeId) (z:Nat×Nat),w.heap[b]? = some (.cells C t z)->(t=229\/t=234)->W.heap[b]? = some (.cells C t z)
theorem gJ.refl(B:Nat)(w:World):gJ B w w:=⟨Below.refl _ _,λ_ _ _ _ h _=>h⟩
theorem gJ.trans{B:Nat}{a b c:World}(h:gJ B a b)(h':gJ B b c):gJ B a c:=⟨h.bel.trans h'.bel,λk C t z hk ht=>h'.err k C t z (h.err k C t z hk ht) ht⟩
theorem gJ.ofBelow{B:Nat}{w W:World}(h:Below w.heap.size w W)(hB:B<=w.heap.size):gJ B w W:=⟨h.mono hB,λb C t z hb _=>(h.block b (Zb hb)).trans hb⟩
theorem gJ.ofUpd{B b:Nat}{o:Obj}{C:Array Value}{t:TypeId}{z:Nat×Nat}{w W:World}(h:ag b o w W)(hb:w.heap[b]? = some (.cells C t z))(ht:t≠229/\t≠234)(hB:B<=b):gJ B w W:=by
 refine⟨h.below hB,λk C' t' z' hk ht'=>(h.block k λe=>?_).trans hk⟩;subst e;rw[hb] at hk;injection hk with hk;injection hk with _ h5 _;rcases ht' with e|e
 ·exact ht.1 (h5.trans e)
 ·exact ht.2 (h5.trans e)
def Nt(v:Value):Prop:=(∀ W,(binOp .neq 30 v .nilIface).run Tryz.prog W=.ok (.bool true) W)/\∀ W i,Sem.run Tryz.prog (eqGuard .neq 30 (.tmp i) (.const .nilIface) v .nilIface) W=.ok () W
def fP(B:Nat)(v:Value)(w:World):Prop:=Nt v/\∀ W,gJ B w W->Calls Tryz.prog 10 #[v] W λe w'=>∃ k:Nat,k≠0/\k<=20/\e=.returned (.int .i64 (k:Int))/\Below W.heap.size W w'
theorem fP.soft{B:Nat}{v:Value}{w w':World}(h:fP B v w)(hb:gJ B w w'):fP B v w':=⟨h.1,λW hW=>h.2 W (hb.trans hW)⟩
theorem aT.softE{B:Nat}{ea:Nat->Addr}{w w':World}{v:Value}{n:Nat}(h:aT ea w v n)(hb:gJ B w w'):aT ea w' v n:=by
 rcases h with h|h|⟨i,g,F,V,h1,h2,h3,h4⟩
 ·exact .inl h
 ·exact .inr (.inl h)
 ·exact .inr (.inr ⟨i,g,F,V,h1,h2,h3,hb.err _ _ _ _ h4 (.inl rfl)⟩)
theorem aT.badE{B:Nat}{ea:Nat->Addr}{w:World}{v:Value}{n:Nat}(h:aT ea w v n)(hn:n≠0)(H:∀ W,Below B w W->aQ 298 aK W ea):fP B v w:=by
 have hb:(n != 0)=true:=by simpa using hn
 refine⟨⟨λW=>?_,λW i=>h.guard W i⟩,λW hW=>?_⟩
 ·have:=h.neq W;rwa [hb] at this
 ·refine(HN (h.softE hW) (H W hW.bel)).mono ?_;rintro e w' ⟨rfl,hb⟩;exact⟨n,hn,h.lt,rfl,hb⟩
end Go.Proofs.YtpdhceiodgnbmaaGreatDoor
