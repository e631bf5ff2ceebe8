import Derived.Test.YtpdhceiodgnbmaaGreatDoorF0FollowsSaid
import Derived.Test.YtpdhceiodgnbmaaGreatDoorF1FollowsSaid
import Derived.Test.YtpdhceiodgnbmaaGreatDoorF13FollowsSaid
set_option linter.unusedVariables false
set_option linter.unusedSimpArgs false
set_option linter.unnecessarySimpa false
set_option maxRecDepth 100000
set_option maxHeartbeats 8000000
namespace Go.Proofs.YtpdhceiodgnbmaaGreatDoor
open Go.RowKit
theorem GM(va:Value)(m:St)(x:Rc)(hx:x.Ok)(w:World)(ha:ArgS w va m)(l1:m.its.length<=1000)(l2:m.ens.length<=1000)(h1:(Zx m.its x.name).2=false)(h2:m.its.length<4)(h3:x.obj=(m.its.length:Int))(ea:Nat->Addr) :
  Calls Tryz.prog 40 #[va,.agg x.list.toArray] w (Zo ea ⟨m.its++[x.it],m.ens⟩ 0 w):=by
 have hcf:=Hd (Rc.kept0 x hx 49)
 have hcp:=λW (h:Below w.heap.size w W)=>YG va m W (ha.below h nR) l1 l2
 have okI:=ha.okN
 have okE:=ha.okV
 have hc0:=λW h=>Xh va m W (ha.below h nR) l1 x.name
 rw[h1] at hc0
 have hok:=Xl ha.okN x.name
 obtain⟨XA,hXA⟩:∃ XA,XA=(Zx m.its x.name).1.list.toArray:=⟨_,rfl⟩
 have hRp:(x.list.drop 4).take 6=x.p.list:=Rc.sub_p x
 have hRr:(x.list.drop 10).take 32=cB x.root:=Rc.sub_root hx.root
 have hRf:(x.list.drop 42).take 32=cB x.file:=Rc.sub_file hx.root hx.file
 have hbd:=λW=>TZ x hx W
 have hitk:=Rc.it_ok hx
 obtain⟨XI,hXI⟩:∃ XI,XI=x.it.list.toArray:=⟨_,rfl⟩
 have hXIs:XI.size=76:=by rw[hXI];exact It.size hitk
 rw[<-hXI] at hbd
 have hsl:=λW=>QT (P:=Tryz.prog) (t:=25) Tryz.underlying25 Ux dX dX XI hXIs W
 have hyN:∀ W:World,RI W (λ_=>False) x.it XI.toList:=λW=>⟨by rw[hXI],hitk⟩
 have ipp:(Tryz.prog.info? 45).map (·.size)=some x.p.list.length:=by rw[P6.list_length];kernel_rfl
 have ird:(Tryz.prog.info? 47).map (·.size)=some (cB x.root).length:=by rw[Zd,hx.root];kernel_rfl
 have ifd:(Tryz.prog.info? 47).map (·.size)=some (cB x.file).length:=by rw[Zd,hx.file];kernel_rfl
 have iA:(Tryz.prog.info? 58).map (·.size)=some XA.size:=by rw[hXA,It.size hok];kernel_rfl
 have zA:(Tryz.zeroCells58).size=XA.size:=by rw[hXA,It.size hok];kernel_rfl
 have h1A:XA.all (·.oneCell')=true:=by rw[hXA];exact It.all_one _
 rw[<-hXA] at hc0
 obtain⟨⟨an,cn,av,cv,rfl,hN,hN1,hN2,hV,hV1,hV2⟩,okN,okV⟩:=ha
 obtain⟨N,hNl⟩:∃ N,N=m.its.length:=⟨_,rfl⟩
 obtain⟨V,hVl⟩:∃ V,V=m.ens.length:=⟨_,rfl⟩
 rw[<-hNl,<-hVl] at hc0 hcp
 rw[<-hNl,<-hVl]
 generalize hRR:x.list.toArray=R at*
 obtain⟨aS,aR,aO,hs3,hB⟩:=Zq w #[.slice an N cn,.slice av V cv] R #[.slice none 0 0,.slice none 0 0] 28 49 28 _ rfl
 obtain⟨w3,hw3⟩:∃ w3,w3=((w.alloc (.cells #[.slice an N cn,.slice av V cv] 28)).alloc (.cells R 49)).alloc (.cells #[.slice none 0 0,.slice none 0 0] 28):=⟨_,rfl⟩
 have s0:=Za aS 0
 have s1:=Za aS 1
 obtain⟨q0,q1,q2,q3,q4,q5,q6,q7⟩:=hcf.out _ _ aR
 rw[<-hw3] at aS aR aO hB
 have hN4:(N:Int)<4:=by rw[hNl];omega
 have hof:(x.obj != (N:Int))=false:=by rw[hNl,h3];simp
 have hmR:∀ (W:World) b,W.heap[b]? = some (.cells R 49 (0,0))->W.rangeAt b 4 x.p.list/\W.rangeAt b 10 (cB x.root)/\W.rangeAt b 42 (cB x.file):=λW b h=>⟨Qb h (by rw[<-hRR,List.toList_toArray];exact hRp),Qb h (by rw[<-hRR,List.toList_toArray];exact hRr),Qb h (by rw[<-hRR,List.toList_toArray];exact hRf)⟩
 obtain⟨IT,hIT⟩:∃ IT,IT=x.it:=⟨_,rfl⟩
 rw[<-hIT] at hyN ⊢
 generalize x.p.list=PL at*
 generalize cB x.root=RL at*
 generalize cB x.file=FL at*
 obtain⟨PA,hPA⟩:∃ PA,PA=PL.toArray:=⟨_,rfl⟩
 obtain⟨RA,hRA⟩:∃ RA,RA=RL.toArray:=⟨_,rfl⟩
 obtain⟨FA,hFA⟩:∃ FA,FA=FL.toArray:=⟨_,rfl⟩
 rw[<-hPA,<-hRA,<-hFA] at hbd
 generalize x.tick=vt at*
 replace hmR:=Hd hmR
 replace hbd:=Hd hbd
 replace hsl:=Hd hsl
 replace hyN:=Hd hyN
 replace hPA:=Hd hPA
 replace hRA:=Hd hRA
 replace hFA:=Hd hFA
 replace hXI:=Hd hXI
 generalize x.obj=vo at*
 generalize x.id=vi at*
 generalize x.way=vw at*
 generalize x.index=vx at*
 generalize x.name=vn at*
 replace hc0:=Hd hc0
 replace hcp:=Hd hcp
 replace aS:=Hd aS
 replace aR:=Hd aR
 replace aO:=Hd aO
 replace hB:=Hd hB
 replace hw3:=Hd hw3
 replace okI:=Hd okI
 replace okE:=Hd okE
 replace hNl:=Hd hNl
 replace hVl:=Hd hVl
 clear hRR hN hV hN1 hN2 hV1 hV2 okN okV hs3 hXA h1 h2 h3 hRp hRr hRf hitk hIT
 go_enter Tryz.func40,Tryz.ntmps40
 go_wp2_with fail
 rw[<-hw3.out]
 with_reducible refine(hc0.out _ hB.out).mono ?_
 rintro e w4 ⟨rfl,hb⟩
 replace aS:=Hd ((hb.block _ (Zb aS.out)).trans aS.out)
 replace aR:=Hd ((hb.block _ (Zb aR.out)).trans aR.out)
 replace aO:=Hd ((hb.block _ (Zb aO.out)).trans aO.out)
 replace hB:=Hd (hB.out.trans (hb.mono hB.out.size))
 clear hb s0 s1 q0 q1 q2 q3 q4 q5 q6 q7
 have s0:=Za aS.out 0
 have s1:=Za aS.out 1
 obtain⟨q0,q1,q2,q3,q4,q5,q6,q7⟩:=hcf.out _ _ aR.out
 have hZ4:=Hd (heap_alloc_new w4 (.cells Tryz.zeroCells58 58))
 go_wp2_with ((with_reducible refine wL (.store 58 (.tmp 6) _) ?_);(refine Zc rfl 58 (.tmp 6) (.tmp 14) rfl w4.heap.size _ XA rfl rfl hZ4 iA zA h1A ?_);intro w5 hU5;have hb5:Below w4.heap.size w4 w5:=(Below.alloc (Below.refl w4.heap.size w4) nR _).trans (hU5.out.below nR);have aX:=Hd hU5.out.here;replace aS:=Hd ((hb5.block _ (Zb aS.out)).trans aS.out);replace aR:=Hd ((hb5.block _ (Zb aR.out)).trans aR.out);replace aO:=Hd ((hb5.block _ (Zb aO.out)).trans aO.out);replace hB:=Hd (hB.out.trans (hb5.mono hB.out.size));clear s0 s1 q0 q1 q2 q3 q4 q5 q6 q7 hb5;have s0:=Za aS.out 0;have s1:=Za aS.out 1;obtain⟨q0,q1,q2,q3,q4,q5,q6,q7⟩:=hcf.out _ _ aR.out)
 have hlt5:=Hd (Zb aO.out)
 with_reducible refine(hcp.out _ hB.out).mono ?_
 rintro e w6 ⟨v,v',rfl,hrN,hrV,hav,hb⟩
 obtain⟨x4,c4,hv4,hnil4,_,_,hlt4⟩:=hrN.form
 obtain⟨x5,c5,hv5,_⟩:=hrV.form
 subst hv4 hv5
 have hltV:=Hd (λk (hk:(Value.slice x5 m.ens.length c5).ownBlock=some k)=>hrV.ownLt k hk)
 have hltN:=Hd (λk (hk:(Value.slice x4 m.its.length c4).ownBlock=some k)=>hrN.ownLt k hk)
 obtain⟨C,hC⟩:∃ C:Array Value,C=#[.slice x4 m.its.length c4,.slice x5 m.ens.length c5]:=⟨_,rfl⟩
 rw[<-hC]
 have hs56:=hb.size
 have hlo6:w.heap.size<=w5.heap.size:=hB.out.size
 replace aS:=Hd ((hb.block _ (Zb aS.out)).trans aS.out)
 replace aR:=Hd ((hb.block _ (Zb aR.out)).trans aR.out)
 replace aO:=Hd ((hb.block _ (Zb aO.out)).trans aO.out)
 replace hB:=Hd (hB.out.trans (hb.mono hB.out.size))
 clear hb s0 s1 q0 q1 q2 q3 q4 q5 q6 q7 hnil4 hlt4
 have s0:=Za aS.out 0
 have s1:=Za aS.out 1
 obtain⟨q0,q1,q2,q3,q4,q5,q6,q7⟩:=hcf.out _ _ aR.out
 have hlt6:=Hd (Zb aO.out)
 have iC:(Tryz.prog.info? 28).map (·.size)=some C.size:=by rw[hC];kernel_rfl
 have zC:(#[.slice none 0 0,.slice none 0 0]:Array Value).size=C.size:=by rw[hC];rfl
 have h1C:C.all (·.oneCell')=true:=by rw[hC];simp[Value.oneCell']
 have hC2:C.size=2:=by rw[hC];rfl
 have hkC:∀ (W:World) b,W.heap[b]? = some (.cells C 28 (0,0))->W.cell? ⟨b,0,none⟩=some (.slice x4 m.its.length c4)/\W.cell? ⟨b,1,none⟩=some (.slice x5 m.ens.length c5):=λW b h=>by
  rw[Za h,Za h,hC]
  exact⟨sX,sX⟩
 have hZ6:=Hd (heap_alloc_new w6 (.cells #[.slice none 0 0,.slice none 0 0] 28))
 replace hC:=Hd hC
 replace hkC:=Hd hkC
 replace hrN:=Hd hrN
 replace hrV:=Hd hrV
 replace hav:=Hd hav
 replace hs56:=Hd hs56
 have hF0:=Hd (show ∀ k:Nat,(λ_:Nat=>False) k->(λ_:Nat=>False) k from λ_ h=>h)
 have hln:m.its.length<=1000000:=oX
 go_wp2_with (first
  | ((with_reducible refine wL (.store 28 (.tmp 8) _) ?_);(refine Zc rfl 28 (.tmp 8) (.tmp 37) rfl w6.heap.size _ C rfl rfl hZ6 iC zC h1C ?_);intro w7 hU7;have hb7:Below w6.heap.size w6 w7:=(Below.alloc (Below.refl w6.heap.size w6) nR _).trans (hU7.out.below nR);have hs7:w7.heap.size=w6.heap.size+1:=hU7.out.size.trans sX;have aC:=Hd hU7.out.here;replace hrN:=Hd (hrN.out.below Zk hb7);replace hrV:=Hd (hrV.out.below Zj hb7);replace aS:=Hd ((hb7.block _ (Zb aS.out)).trans aS.out);replace aR:=Hd ((hb7.block _ (Zb aR.out)).trans aR.out);replace aO:=Hd ((hb7.block _ (Zb aO.out)).trans aO.out);replace hB:=Hd (hB.out.trans (hb7.mono hB.out.size));clear s0 s1 q0 q1 q2 q3 q4 q5 q6 q7 hb7;have s0:=Za aS.out 0;have s1:=Za aS.out 1;obtain⟨q0,q1,q2,q3,q4,q5,q6,q7⟩:=hcf.out _ _ aR.out;obtain⟨k0,k1⟩:=hkC.out _ _ aC.out;replace hs7:=Hd hs7;obtain⟨m4,m10,m42⟩:=hmR.out _ _ aR.out;replace m4:=Hd m4;replace m10:=Hd m10;replace m42:=Hd m42)
  | ((with_reducible refine wL (.load 45 (.tmp 44)) ?_);(refine wpList_load_mid rfl 45 (.tmp 44) rfl (w.heap.size+1) 4 rfl PL _ m4.out Tryz.underlying45 rfl ipp ?_);rw[<-hPA.out])
  | ((with_reducible refine wL (.load 47 (.tmp 46)) ?_);(refine wpList_load_mid rfl 47 (.tmp 46) rfl (w.heap.size+1) 10 rfl RL _ m10.out Tryz.underlying47 rfl ird ?_);rw[<-hRA.out])
  | ((with_reducible refine wL (.load 47 (.tmp 48)) ?_);(refine wpList_load_mid rfl 47 (.tmp 48) rfl (w.heap.size+1) 42 rfl FL _ m42.out Tryz.underlying47 rfl ifd ?_);rw[<-hFA.out])
  | ((with_reducible refine wL (.build 58 _) ?_);refine ZM rfl 58 [(0,.tmp 41),(1,.tmp 43),(2,.tmp 45),(3,.tmp 47),(4,.tmp 49),(5,.tmp 51)] rfl [(0,.int .i64 vo),(1,.string vn),(2,.agg PA),(3,.agg RA),(4,.agg FA),(5,.int .i64 vt)] rfl _ (hbd.out _) ?_)
  | ((with_reducible refine wL (.buildSlice _ _ _) ?_);refine Qh rfl 25 1 [(0,.tmp 52)] rfl [(0,.agg XI)] rfl _ _ (hsl.out _) ?_)
  | (at_builtin;refine Z9 (P:=Tryz.prog) (R:=RI) (e:=58) (size:=76) (base:=w5.heap.size) (F:=λ_=>False) (F':=λ_=>False) rfl Zk (.tmp 39) (.tmp 53) 25 rfl Tryz.underlying25 168 Ux dX rfl hrN IT XI (Hd (hyN.out w7)) hF0 (Hd (λ_ _ h=>h)) (Hd (λ_ h=>h.elim)) rfl hln dX (by have:=hs7.out;have:=hs56.out;omega) ?_;intro v9 w9 hr9 hO9 hM9;obtain⟨a9,n9,c9,hv9⟩:∃ a n c,v9=.slice a n c:=(by obtain⟨a,c,e,_⟩:=hr9.out.form;exact⟨a,_,c,e⟩);subst hv9;have h9:=Hd (hO9.out.heap aC.out (λe=>by have:=(hltN.out _ e).2;omega)))
  | ((with_reducible refine wL (.store 25 (.tmp 55) _) ?_);(refine Qe rfl 25 28 (.tmp 55) (.tmp 54) rfl w6.heap.size 0 C (.slice a9 n9 c9) rfl rfl h9 (by rw[hC2];decide) kX rfl ?_);intro w10 hU10;have hat10:=hU10.out.here;rw[hC.out] at hat10;obtain⟨CM,hCM⟩:∃ CM:Array Value,CM=#[.slice a9 n9 c9,.slice x5 m.ens.length c5]:=⟨_,rfl⟩;replace hat10:w10.heap[w6.heap.size]? = some (.cells CM 28 (0,0)):=(by rw[hCM];simpa using hat10);have iM:(Tryz.prog.info? 28).map (·.size)=some CM.size:=(by rw[hCM];kernel_rfl);have zM:(#[.slice none 0 0,.slice none 0 0]:Array Value).size=CM.size:=(by rw[hCM];rfl);have h1M:CM.all (·.oneCell')=true:=(by rw[hCM];simp[Value.oneCell']);replace hat10:=Hd hat10;replace hCM:=Hd hCM;have aO10:Hid (w10.heap[w.heap.size+2]? = some (.cells #[.slice none 0 0,.slice none 0 0] 28 (0,0))):=Hd ((hU10.out.block _ (by have:=hlt6.out;omega)).trans (hO9.out.heap aO.out (λe=>by have:=(hltN.out _ e).1;have:=hlt5.out;omega))))
  | ((with_reducible refine wL (.load 28 (.tmp 8)) ?_);refine Ze rfl 28 (.tmp 8) rfl w6.heap.size CM _ rfl hat10 Tryz.underlying28 rfl iM ?_)
  | ((with_reducible refine wL (.store 28 (.tmp 4) _) ?_);(refine Zc rfl 28 (.tmp 4) (.tmp 56) rfl (w.heap.size+2) _ CM rfl rfl aO10 iM zM h1M ?_);intro w11 hU11))
 have h7o:=hs7.out
 have h5o:=hlt5.out
 have h6o:=hlt6.out
 have h56:=hs56.out
 have hO10:Only (λk=>k=w6.heap.size) w9 w10:=Only.ofUpd hU10.out rfl
 have hO11:Only (λk=>k=w.heap.size+2) w10 w11:=Only.ofUpd hU11.out rfl
 have hrVX:=((hrV.out.only Zj hO9.out (λk hk=>hk.elim) (λk hk e=>hav.out k e hk)).only Zj hO10 (λk hk=>hk.elim) (λk hk e=>by have:=(hltV.out k hk).2;omega)).only Zj hO11 (λk hk=>hk.elim) (λk hk e=>by have:=(hltV.out k hk).1;omega)
 have hrNX:=(hr9.out.only Zk hO10 (λk hk=>hk.elim) (λk hk e=>by
  rcases hM9.out k hk with h|h
  ·have:=(hltN.out k h).2;omega
  ·omega)).only Zk hO11 (λk hk=>hk.elim) (λk hk e=>by
  rcases hM9.out k hk with h|h
  ·have:=(hltN.out k h).1;omega
  ·omega)
 have hBX:=((hB.out.trans (hO9.out.below (by have:=hB.out.size;omega) (λk hk=>by have:=(hltN.out k hk).1;omega))).trans (hU10.out.below oX)).trans (hU11.out.below oX)
 refine Zf rfl rfl Tryz.underlying28 rfl iM hU11.out.here ?_
 rw[hCM.out]
 exact⟨_,_,rfl,Q8 hrNX hrVX,.inl ⟨rfl,rfl⟩,hBX,Qy hrNX hrVX hlo6 hlo6⟩
theorem Nd(va:Value)(m:St)(x:Rc)(hx:x.Ok)(w:World)(ha:ArgS w va m)(l1:m.its.length<=1000)(l2:m.ens.length<=1000)(i:Nat)(hi:i<m.its.length)(hx1:x.obj=(i:Int))(h1:m.its[i].k=false)(ea:Nat->Addr) :
  Calls Tryz.prog 42 #[va,.agg x.list.toArray] w (Zo ea ⟨m.its.set i { m.its[i] with k:=true },m.ens⟩ 0 w):=by
 have hcf:=Hd (Rc.kept0 x hx 49)
 have hcp:=λW (h:Below w.heap.size w W)=>YG va m W (ha.below h nR) l1 l2
 have okI:=ha.okN
 have okE:=ha.okV
 have hc0:=λW h=>Yj va m W (ha.below h nR) i hi l1
 rw[<-hx1] at hc0
 have hok:=ha.okN _ (List.getElem_mem hi)
 have hget:m.its[i]? = some m.its[i]:=List.getElem?_eq_getElem hi
 have hset:=λ(W:World) (base g n c:Nat) (h:RowsOf RI 58 76 base W (λ_=>False) (.slice (some ⟨g,0,none⟩) n c) m.its)=>Qz (R:=RI) (enc:=It.list) (Ok:=It.Ok) (λ_ _ _ _=>Iff.rfl) (λ_ h=>It.list_length h) It.list_one dX h okI i 73 hi dX (.bool true) rfl { m.its[i] with k:=true } (It.set73 hok true) ⟨hok.n,hok.s,hok.p,hok.root,hok.file,hok.t,hok.u,hok.r⟩
 obtain⟨ITS,hITS⟩:∃ l,l=m.its.set i { m.its[i] with k:=true }:=⟨_,rfl⟩
 rw[<-hITS] at hset ⊢
 have hIl:ITS.length=m.its.length:=by rw[hITS,List.length_set]
 generalize hy:m.its[i]=y at*
 obtain⟨XA,hXA⟩:∃ XA,XA=y.list.toArray:=⟨_,rfl⟩
 have hk73:∀ (W:World) b,W.heap[b]? = some (.cells XA 58 (0,0))->W.cell? ⟨b,73,none⟩=some (.bool y.k):=λW b h=>by rw[Za h,hXA,List.getElem?_toArray];exact It.c73 hok
 rw[h1] at hk73
 have iA:(Tryz.prog.info? 58).map (·.size)=some XA.size:=by rw[hXA,It.size hok];kernel_rfl
 have zA:(Tryz.zeroCells58).size=XA.size:=by rw[hXA,It.size hok];kernel_rfl
 have h1A:XA.all (·.oneCell')=true:=by rw[hXA];exact It.all_one _
 rw[<-hXA] at hc0
 obtain⟨⟨an,cn,av,cv,rfl,hN,hN1,hN2,hV,hV1,hV2⟩,okN,okV⟩:=ha
 obtain⟨N,hNl⟩:∃ N,N=m.its.length:=⟨_,rfl⟩
 obtain⟨V,hVl⟩:∃ V,V=m.ens.length:=⟨_,rfl⟩
 rw[<-hNl,<-hVl] at hc0 hcp
 rw[<-hNl,<-hVl]
 generalize hRR:x.list.toArray=R at*
 obtain⟨aS,aR,aO,hs3,hB⟩:=Zq w #[.slice an N cn,.slice av V cv] R #[.slice none 0 0,.slice none 0 0] 28 49 28 _ rfl
 obtain⟨w3,hw3⟩:∃ w3,w3=((w.alloc (.cells #[.slice an N cn,.slice av V cv] 28)).alloc (.cells R 49)).alloc (.cells #[.slice none 0 0,.slice none 0 0] 28):=⟨_,rfl⟩
 have s0:=Za aS 0
 have s1:=Za aS 1
 obtain⟨q0,q1,q2,q3,q4,q5,q6,q7⟩:=hcf.out _ _ aR
 rw[<-hw3] at aS aR aO hB
 generalize x.obj=vo at*
 generalize x.id=vi at*
 generalize x.way=vw at*
 generalize x.index=vx at*
 generalize x.name=vn at*
 subst hx1
 replace hc0:=Hd hc0
 replace hcp:=Hd hcp
 replace aS:=Hd aS
 replace aR:=Hd aR
 replace aO:=Hd aO
 replace hB:=Hd hB
 replace hw3:=Hd hw3
 replace okI:=Hd okI
 replace okE:=Hd okE
 replace hNl:=Hd hNl
 replace hVl:=Hd hVl
 replace hk73:=Hd hk73
 replace hset:=Hd hset
 replace hITS:=Hd hITS
 replace hIl:=Hd hIl
 replace hget:=Hd hget
 replace hy:=Hd hy
 clear hRR hN hV hN1 hN2 hV1 hV2 okN okV hs3 hXA
 go_enter Tryz.func42,Tryz.ntmps42
 go_wp2_with fail
 rw[<-hw3.out]
 with_reducible refine(hc0.out _ hB.out).mono ?_
 rintro e w4 ⟨rfl,hb⟩
 replace aS:=Hd ((hb.block _ (Zb aS.out)).trans aS.out)
 replace aR:=Hd ((hb.block _ (Zb aR.out)).trans aR.out)
 replace aO:=Hd ((hb.block _ (Zb aO.out)).trans aO.out)
 replace hB:=Hd (hB.out.trans (hb.mono hB.out.size))
 clear hb s0 s1 q0 q1 q2 q3 q4 q5 q6 q7
 have s0:=Za aS.out 0
 have s1:=Za aS.out 1
 obtain⟨q0,q1,q2,q3,q4,q5,q6,q7⟩:=hcf.out _ _ aR.out
 have hZ4:=Hd (heap_alloc_new w4 (.cells Tryz.zeroCells58 58))
 go_wp2_with ((with_reducible refine wL (.store 58 (.tmp 6) _) ?_);(refine Zc rfl 58 (.tmp 6) (.tmp 14) rfl w4.heap.size _ XA rfl rfl hZ4 iA zA h1A ?_);intro w5 hU5;have hb5:Below w4.heap.size w4 w5:=(Below.alloc (Below.refl w4.heap.size w4) nR _).trans (hU5.out.below nR);have aX:=Hd hU5.out.here;replace aS:=Hd ((hb5.block _ (Zb aS.out)).trans aS.out);replace aR:=Hd ((hb5.block _ (Zb aR.out)).trans aR.out);replace aO:=Hd ((hb5.block _ (Zb aO.out)).trans aO.out);replace hB:=Hd (hB.out.trans (hb5.mono hB.out.size));clear s0 s1 q0 q1 q2 q3 q4 q5 q6 q7 hb5;have s0:=Za aS.out 0;have s1:=Za aS.out 1;obtain⟨q0,q1,q2,q3,q4,q5,q6,q7⟩:=hcf.out _ _ aR.out;have y73:=hk73.out _ _ aX.out)
 have hlt5:=Hd (Zb aO.out)
 with_reducible refine(hcp.out _ hB.out).mono ?_
 rintro e w6 ⟨v,v',rfl,hrN,hrV,hav,hb⟩
 obtain⟨x4,c4,hv4,hnil4,_,_,hlt4⟩:=hrN.form
 obtain⟨x5,c5,hv5,_⟩:=hrV.form
 subst hv4 hv5
 obtain⟨g4,hg4⟩:∃ g4,x4=some ⟨g4,0,none⟩:=by
  cases x4 with
  | none=>have:=(hnil4 rfl).2;omega
  | some ad=>
   obtain⟨b4,o4,s4⟩:=ad
   obtain⟨rfl,rfl,_⟩:=hlt4 b4 o4 s4 rfl
   exact⟨b4,rfl⟩
 subst hg4
 have hltV:=Hd (λk (hk:(Value.slice x5 m.ens.length c5).ownBlock=some k)=>hrV.ownLt k hk)
 have hltN:=Hd (λk (hk:(Value.slice (some ⟨g4,0,none⟩) m.its.length c4).ownBlock=some k)=>hrN.ownLt k hk)
 obtain⟨C,hC⟩:∃ C:Array Value,C=#[.slice (some ⟨g4,0,none⟩) m.its.length c4,.slice x5 m.ens.length c5]:=⟨_,rfl⟩
 rw[<-hC]
 have hs56:=hb.size
 have hlo6:w.heap.size<=w5.heap.size:=hB.out.size
 replace aS:=Hd ((hb.block _ (Zb aS.out)).trans aS.out)
 replace aR:=Hd ((hb.block _ (Zb aR.out)).trans aR.out)
 replace aO:=Hd ((hb.block _ (Zb aO.out)).trans aO.out)
 replace hB:=Hd (hB.out.trans (hb.mono hB.out.size))
 clear hb s0 s1 q0 q1 q2 q3 q4 q5 q6 q7 hnil4 hlt4
 have s0:=Za aS.out 0
 have s1:=Za aS.out 1
 obtain⟨q0,q1,q2,q3,q4,q5,q6,q7⟩:=hcf.out _ _ aR.out
 have hlt6:=Hd (Zb aO.out)
 have iC:(Tryz.prog.info? 28).map (·.size)=some C.size:=by rw[hC];kernel_rfl
 have zC:(#[.slice none 0 0,.slice none 0 0]:Array Value).size=C.size:=by rw[hC];rfl
 have h1C:C.all (·.oneCell')=true:=by rw[hC];simp[Value.oneCell']
 have hC2:C.size=2:=by rw[hC];rfl
 have hkC:∀ (W:World) b,W.heap[b]? = some (.cells C 28 (0,0))->W.cell? ⟨b,0,none⟩=some (.slice (some ⟨g4,0,none⟩) m.its.length c4)/\W.cell? ⟨b,1,none⟩=some (.slice x5 m.ens.length c5):=λW b h=>by
  rw[Za h,Za h,hC]
  exact⟨sX,sX⟩
 have hZ6:=Hd (heap_alloc_new w6 (.cells #[.slice none 0 0,.slice none 0 0] 28))
 replace hC:=Hd hC
 replace hkC:=Hd hkC
 replace hrN:=Hd hrN
 replace hrV:=Hd hrV
 replace hav:=Hd hav
 replace hs56:=Hd hs56
 have hii:(i:Int)<(m.its.length:Int):=oX
 have i1b:(Tryz.prog.info? 4).map (·.size)=some 1:=kX
 have hg4l:=hltN.out g4 rfl
 go_wp2_with (first
  | ((with_reducible refine wL (.store 28 (.tmp 8) _) ?_);(refine Zc rfl 28 (.tmp 8) (.tmp 27) rfl w6.heap.size _ C rfl rfl hZ6 iC zC h1C ?_);intro w7 hU7;have hb7:Below w6.heap.size w6 w7:=(Below.alloc (Below.refl w6.heap.size w6) nR _).trans (hU7.out.below nR);have hs7:w7.heap.size=w6.heap.size+1:=hU7.out.size.trans sX;have aC:=Hd hU7.out.here;replace hrN:=Hd (hrN.out.below Zk hb7);replace hrV:=Hd (hrV.out.below Zj hb7);replace aS:=Hd ((hb7.block _ (Zb aS.out)).trans aS.out);replace aR:=Hd ((hb7.block _ (Zb aR.out)).trans aR.out);replace aO:=Hd ((hb7.block _ (Zb aO.out)).trans aO.out);replace hB:=Hd (hB.out.trans (hb7.mono hB.out.size));clear s0 s1 q0 q1 q2 q3 q4 q5 q6 q7 hb7;have s0:=Za aS.out 0;have s1:=Za aS.out 1;obtain⟨q0,q1,q2,q3,q4,q5,q6,q7⟩:=hcf.out _ _ aR.out;obtain⟨k0,k1⟩:=hkC.out _ _ aC.out;replace hs7:=Hd hs7)
  | ((with_reducible refine wL (.store 4 (.tmp 33) _) ?_);(have hcc:=Ql (R:=RI) (enc:=It.list) (Ok:=It.Ok) (λ_ _ _ _=>Iff.rfl) Zk hrN.out i 73 hi _ (It.c73 (okI.out _ (List.getElem_mem hi))));(refine ZT rfl 4 (.tmp 33) (.const (.bool true)) rfl g4 (i*76+73) (.bool true) rfl rfl (Hd ⟨_,hcc.1⟩) hcc.2 i1b rfl ?_);intro w8 hw8;have hO8:Only (λk=>k=g4) w7 w8:=(by rw[hw8.out];exact(Only.refl _ _).setCell _ _ (λ_=>rfl));have hrN8:=hset.out _ _ _ _ _ hrN.out;rw[<-hw8.out] at hrN8;have aC8:=Hd (hO8.heap aC.out oX);have aO8:=Hd (hO8.heap aO.out (by have:=hlt5.out;omega));replace hO8:=Hd hO8;replace hrN8:=Hd hrN8;clear hcc)
  | ((with_reducible refine wL (.load 28 (.tmp 8)) ?_);refine Ze rfl 28 (.tmp 8) rfl w6.heap.size C _ rfl aC8 Tryz.underlying28 rfl iC ?_)
  | ((with_reducible refine wL (.store 28 (.tmp 4) _) ?_);(refine Zc rfl 28 (.tmp 4) (.tmp 34) rfl (w.heap.size+2) _ C rfl rfl aO8 iC zC h1C ?_);intro w11 hU11))
 have h7o:=hs7.out
 have h5o:=hlt5.out
 have h6o:=hlt6.out
 have h56:=hs56.out
 have hO11:Only (λk=>k=w.heap.size+2) w8 w11:=Only.ofUpd hU11.out rfl
 have hrVX:=(hrV.out.only Zj hO8.out (λk hk=>hk.elim) (λk hk e=>hav.out g4 rfl (e▸hk))).only Zj hO11 (λk hk=>hk.elim) (λk hk e=>by have:=(hltV.out k hk).1;omega)
 have hrNX:=hrN8.out.only Zk hO11 (λk hk=>hk.elim) (λk hk e=>by have:=(hltN.out k hk).1;omega)
 have hBX:=(hB.out.trans (hO8.out.below (by have:=hB.out.size;omega) (λk e=>by omega))).trans (hU11.out.below oX)
 refine Zf rfl rfl Tryz.underlying28 rfl iC hU11.out.here ?_
 rw[hC.out]
 exact⟨_,_,rfl,Q8 hrNX hrVX,.inl ⟨rfl,rfl⟩,hBX,Qy hrNX hrVX hlo6 hlo6⟩
theorem NB(va:Value)(m:St)(x:Rc)(hx:x.Ok)(w:World)(ha:ArgS w va m)(l1:m.its.length<=1000)(l2:m.ens.length<=1000)(i:Nat)(hi:i<m.its.length)(hx1:x.obj=(i:Int))(h1:m.its[i].k=true)(hw:x.way=2)(h2:(ZJ m.its[i] x.way).2=true)(h3:x.id=(m.ens.length:Int))(h4:x.index=(ZJ m.its[i] x.way).1)(hub:m.its[i].u<=1000000)(ea:Nat->Addr) :
  Calls Tryz.prog 41 #[va,.agg x.list.toArray] w (Zo ea ⟨m.its.set i { m.its[i] with u:=m.its[i].u+1 },m.ens++[⟨x.id,x.obj,x.way,x.index,x.tick,0,0⟩]⟩ 0 w):=by
 have hcf:=Hd (Rc.kept0 x hx 49)
 have hcp:=λW (h:Below w.heap.size w W)=>YG va m W (ha.below h nR) l1 l2
 have okI:=ha.okN
 have okE:=ha.okV
 have hc0:=λW h=>Yj va m W (ha.below h nR) i hi l1
 rw[<-hx1] at hc0
 have hok:=ha.okN _ (List.getElem_mem hi)
 have hget:m.its[i]? = some m.its[i]:=List.getElem?_eq_getElem hi
 have hub1:inI (m.its[i].u+1):=by have:=hok.u;exact⟨oX,oX⟩
 have hwr:IntKind.i64.wrap (m.its[i].u+1)=m.its[i].u+1:=IntWalk.i64_in _ (by have:=hok.u;omega)
 have hset:=λ(W:World) (base g n c:Nat) (h:RowsOf RI 58 76 base W (λ_=>False) (.slice (some ⟨g,0,none⟩) n c) m.its)=>Qz (R:=RI) (enc:=It.list) (Ok:=It.Ok) (λ_ _ _ _=>Iff.rfl) (λ_ h=>It.list_length h) It.list_one dX h okI i 74 hi dX (.int .i64 (m.its[i].u+1)) rfl { m.its[i] with u:=m.its[i].u+1 } (It.set74 hok _) ⟨hok.n,hok.s,hok.p,hok.root,hok.file,hok.t,hub1,hok.r⟩
 obtain⟨NE,hNE⟩:∃ NE:En,NE=⟨x.id,x.obj,x.way,x.index,x.tick,0,0⟩:=⟨_,rfl⟩
 have hyE:∀ W:World,RE W (λ_=>False) NE NE.list.toArray.toList:=λW=>⟨sX,by rw[hNE];exact⟨hx.id,hx.obj,hx.way,hx.index,hx.tick,by show inI 0;decide,by show inI 0;decide⟩⟩
 have hbd:=λW=>Gl x.id x.obj x.way x.index x.tick W
 rw[<-hNE] at hbd ⊢
 obtain⟨XE,hXE⟩:∃ XE,XE=NE.list.toArray:=⟨_,rfl⟩
 have hXEs:XE.size=7:=by rw[hXE];rfl
 rw[<-hXE] at hbd hyE
 have hsl:=λW=>QT (P:=Tryz.prog) (t:=26) Tryz.underlying26 Jd dX dX XE hXEs W
 have hnx:=Hd (λW=>YY m.its[i] hok x.way W)
 obtain⟨ITS,hITS⟩:∃ l,l=m.its.set i { m.its[i] with u:=m.its[i].u+1 }:=⟨_,rfl⟩
 rw[<-hITS] at hset ⊢
 have hIl:ITS.length=m.its.length:=by rw[hITS,List.length_set]
 generalize hy:m.its[i]=y at*
 obtain⟨XA,hXA⟩:∃ XA,XA=y.list.toArray:=⟨_,rfl⟩
 have hk73:∀ (W:World) b,W.heap[b]? = some (.cells XA 58 (0,0))->W.cell? ⟨b,73,none⟩=some (.bool y.k):=λW b h=>by rw[Za h,hXA,List.getElem?_toArray];exact It.c73 hok
 rw[h1] at hk73
 have iA:(Tryz.prog.info? 58).map (·.size)=some XA.size:=by rw[hXA,It.size hok];kernel_rfl
 have zA:(Tryz.zeroCells58).size=XA.size:=by rw[hXA,It.size hok];kernel_rfl
 have h1A:XA.all (·.oneCell')=true:=by rw[hXA];exact It.all_one _
 rw[<-hXA] at hc0 hnx
 obtain⟨⟨an,cn,av,cv,rfl,hN,hN1,hN2,hV,hV1,hV2⟩,okN,okV⟩:=ha
 obtain⟨N,hNl⟩:∃ N,N=m.its.length:=⟨_,rfl⟩
 obtain⟨V,hVl⟩:∃ V,V=m.ens.length:=⟨_,rfl⟩
 rw[<-hNl,<-hVl] at hc0 hcp
 rw[<-hNl,<-hVl]
 generalize hRR:x.list.toArray=R at*
 obtain⟨aS,aR,aO,hs3,hB⟩:=Zq w #[.slice an N cn,.slice av V cv] R #[.slice none 0 0,.slice none 0 0] 28 49 28 _ rfl
 obtain⟨w3,hw3⟩:∃ w3,w3=((w.alloc (.cells #[.slice an N cn,.slice av V cv] 28)).alloc (.cells R 49)).alloc (.cells #[.slice none 0 0,.slice none 0 0] 28):=⟨_,rfl⟩
 have s0:=Za aS 0
 have s1:=Za aS 1
 obtain⟨q0,q1,q2,q3,q4,q5,q6,q7⟩:=hcf.out _ _ aR
 rw[<-hw3] at aS aR aO hB
 obtain⟨ix,lf,hnx2⟩:∃ ix lf,ZJ y x.way=(ix,lf):=⟨_,_,rfl⟩
 have hlf:lf=true:=by rw[hnx2] at h2;exact h2
 subst hlf
 rw[hnx2] at hnx h4
 replace h4:x.index=ix:=h4
 replace hnx2:=Hd hnx2
 have hof:(x.id != (V:Int))=false:=by rw[hVl,h3];simp
 have hoi:(x.index != ix)=false:=by rw[h4];simp
 generalize x.tick=vt at*
 have hw2:(x.way==2)=true:=by simpa using hw
 generalize x.obj=vo at*
 generalize x.id=vi at*
 generalize x.way=vw at*
 generalize x.index=vx at*
 generalize x.name=vn at*
 subst hx1
 subst h4
 replace hc0:=Hd hc0
 replace hcp:=Hd hcp
 replace aS:=Hd aS
 replace aR:=Hd aR
 replace aO:=Hd aO
 replace hB:=Hd hB
 replace hw3:=Hd hw3
 replace okI:=Hd okI
 replace okE:=Hd okE
 replace hNl:=Hd hNl
 replace hVl:=Hd hVl
 replace hk73:=Hd hk73
 replace hset:=Hd hset
 replace hITS:=Hd hITS
 replace hIl:=Hd hIl
 replace hget:=Hd hget
 replace hy:=Hd hy
 replace hbd:=Hd hbd
 replace hsl:=Hd hsl
 replace hyE:=Hd hyE
 replace hNE:=Hd hNE
 replace hXE:=Hd hXE
 clear hRR hN hV hN1 hN2 hV1 hV2 okN okV hs3 hXA h1 h3 hw h2
 go_enter Tryz.func41,Tryz.ntmps41
 go_wp2_with fail
 rw[<-hw3.out]
 with_reducible refine(hc0.out _ hB.out).mono ?_
 rintro e w4 ⟨rfl,hb⟩
 replace aS:=Hd ((hb.block _ (Zb aS.out)).trans aS.out)
 replace aR:=Hd ((hb.block _ (Zb aR.out)).trans aR.out)
 replace aO:=Hd ((hb.block _ (Zb aO.out)).trans aO.out)
 replace hB:=Hd (hB.out.trans (hb.mono hB.out.size))
 clear hb s0 s1 q0 q1 q2 q3 q4 q5 q6 q7
 have s0:=Za aS.out 0
 have s1:=Za aS.out 1
 obtain⟨q0,q1,q2,q3,q4,q5,q6,q7⟩:=hcf.out _ _ aR.out
 have hZ4:=Hd (heap_alloc_new w4 (.cells Tryz.zeroCells58 58))
 go_wp2_with (first
  | ((with_reducible refine wL (.store 58 (.tmp 6) _) ?_);(refine Zc rfl 58 (.tmp 6) (.tmp 16) rfl w4.heap.size _ XA rfl rfl hZ4 iA zA h1A ?_);intro w5 hU5;have hb5:Below w4.heap.size w4 w5:=(Below.alloc (Below.refl w4.heap.size w4) nR _).trans (hU5.out.below nR);have aX:=Hd hU5.out.here;replace aS:=Hd ((hb5.block _ (Zb aS.out)).trans aS.out);replace aR:=Hd ((hb5.block _ (Zb aR.out)).trans aR.out);replace aO:=Hd ((hb5.block _ (Zb aO.out)).trans aO.out);replace hB:=Hd (hB.out.trans (hb5.mono hB.out.size));clear s0 s1 q0 q1 q2 q3 q4 q5 q6 q7 hb5;have s0:=Za aS.out 0;have s1:=Za aS.out 1;obtain⟨q0,q1,q2,q3,q4,q5,q6,q7⟩:=hcf.out _ _ aR.out;have y73:=hk73.out _ _ aX.out)
  | ((with_reducible refine wL (.load 58 (.tmp 6)) ?_);refine Ze rfl 58 (.tmp 6) rfl w4.heap.size XA _ rfl aX Tryz.underlying58 rfl iA ?_))
 with_reducible refine(hnx.out _).mono ?_
 rintro e w5b ⟨rfl,hb⟩
 replace aX:=Hd ((hb.block _ (Zb aX.out)).trans aX.out)
 replace aS:=Hd ((hb.block _ (Zb aS.out)).trans aS.out)
 replace aR:=Hd ((hb.block _ (Zb aR.out)).trans aR.out)
 replace aO:=Hd ((hb.block _ (Zb aO.out)).trans aO.out)
 replace hB:=Hd (hB.out.trans (hb.mono hB.out.size))
 clear hb s0 s1 q0 q1 q2 q3 q4 q5 q6 q7 y73 hU5
 have s0:=Za aS.out 0
 have s1:=Za aS.out 1
 obtain⟨q0,q1,q2,q3,q4,q5,q6,q7⟩:=hcf.out _ _ aR.out
 have y73:=hk73.out _ _ aX.out
 obtain⟨w5,hw5⟩:∃ W,W=w5b:=⟨_,rfl⟩
 subst hw5
 go_wp2_with fail
 have hlt5:=Hd (Zb aO.out)
 with_reducible refine(hcp.out _ hB.out).mono ?_
 rintro e w6 ⟨v,v',rfl,hrN,hrV,hav,hb⟩
 obtain⟨x4,c4,hv4,hnil4,_,_,hlt4⟩:=hrN.form
 obtain⟨x5,c5,hv5,_⟩:=hrV.form
 subst hv4 hv5
 obtain⟨g4,hg4⟩:∃ g4,x4=some ⟨g4,0,none⟩:=by
  cases x4 with
  | none=>have:=(hnil4 rfl).2;omega
  | some ad=>
   obtain⟨b4,o4,s4⟩:=ad
   obtain⟨rfl,rfl,_⟩:=hlt4 b4 o4 s4 rfl
   exact⟨b4,rfl⟩
 subst hg4
 have hltV:=Hd (λk (hk:(Value.slice x5 m.ens.length c5).ownBlock=some k)=>hrV.ownLt k hk)
 have hltN:=Hd (λk (hk:(Value.slice (some ⟨g4,0,none⟩) m.its.length c4).ownBlock=some k)=>hrN.ownLt k hk)
 obtain⟨C,hC⟩:∃ C:Array Value,C=#[.slice (some ⟨g4,0,none⟩) m.its.length c4,.slice x5 m.ens.length c5]:=⟨_,rfl⟩
 rw[<-hC]
 have hs56:=hb.size
 have hlo6:w.heap.size<=w5.heap.size:=hB.out.size
 replace aS:=Hd ((hb.block _ (Zb aS.out)).trans aS.out)
 replace aR:=Hd ((hb.block _ (Zb aR.out)).trans aR.out)
 replace aO:=Hd ((hb.block _ (Zb aO.out)).trans aO.out)
 replace hB:=Hd (hB.out.trans (hb.mono hB.out.size))
 clear hb s0 s1 q0 q1 q2 q3 q4 q5 q6 q7 hnil4 hlt4
 have s0:=Za aS.out 0
 have s1:=Za aS.out 1
 obtain⟨q0,q1,q2,q3,q4,q5,q6,q7⟩:=hcf.out _ _ aR.out
 have hlt6:=Hd (Zb aO.out)
 have iC:(Tryz.prog.info? 28).map (·.size)=some C.size:=by rw[hC];kernel_rfl
 have zC:(#[.slice none 0 0,.slice none 0 0]:Array Value).size=C.size:=by rw[hC];rfl
 have h1C:C.all (·.oneCell')=true:=by rw[hC];simp[Value.oneCell']
 have hC2:C.size=2:=by rw[hC];rfl
 have hkC:∀ (W:World) b,W.heap[b]? = some (.cells C 28 (0,0))->W.cell? ⟨b,0,none⟩=some (.slice (some ⟨g4,0,none⟩) m.its.length c4)/\W.cell? ⟨b,1,none⟩=some (.slice x5 m.ens.length c5):=λW b h=>by
  rw[Za h,Za h,hC]
  exact⟨sX,sX⟩
 have hZ6:=Hd (heap_alloc_new w6 (.cells #[.slice none 0 0,.slice none 0 0] 28))
 replace hC:=Hd hC
 replace hkC:=Hd hkC
 replace hrN:=Hd hrN
 replace hrV:=Hd hrV
 replace hav:=Hd hav
 replace hs56:=Hd hs56
 have hF0:=Hd (show ∀ k:Nat,(λ_:Nat=>False) k->(λ_:Nat=>False) k from λ_ h=>h)
 have hln:m.ens.length<=1000000:=oX
 have hii:(i:Int)<(m.its.length:Int):=oX
 have i1i:(Tryz.prog.info? 3).map (·.size)=some 1:=kX
 have hg4l:=hltN.out g4 rfl
 go_wp2_with (first
  | ((with_reducible refine wL (.store 28 (.tmp 10) _) ?_);(refine Zc rfl 28 (.tmp 10) (.tmp 56) rfl w6.heap.size _ C rfl rfl hZ6 iC zC h1C ?_);intro w7 hU7;have hb7:Below w6.heap.size w6 w7:=(Below.alloc (Below.refl w6.heap.size w6) nR _).trans (hU7.out.below nR);have hs7:w7.heap.size=w6.heap.size+1:=hU7.out.size.trans sX;have aC:=Hd hU7.out.here;replace hrN:=Hd (hrN.out.below Zk hb7);replace hrV:=Hd (hrV.out.below Zj hb7);replace aS:=Hd ((hb7.block _ (Zb aS.out)).trans aS.out);replace aR:=Hd ((hb7.block _ (Zb aR.out)).trans aR.out);replace aO:=Hd ((hb7.block _ (Zb aO.out)).trans aO.out);replace hB:=Hd (hB.out.trans (hb7.mono hB.out.size));clear s0 s1 q0 q1 q2 q3 q4 q5 q6 q7 hb7;have s0:=Za aS.out 0;have s1:=Za aS.out 1;obtain⟨q0,q1,q2,q3,q4,q5,q6,q7⟩:=hcf.out _ _ aR.out;obtain⟨k0,k1⟩:=hkC.out _ _ aC.out;replace hs7:=Hd hs7)
  | ((with_reducible refine wL (.build 66 _) ?_);refine ZM rfl 66 [(0,.tmp 60),(1,.tmp 62),(2,.tmp 64),(3,.tmp 65),(4,.tmp 67)] rfl [(0,.int .i64 vi),(1,.int .i64 (i:Int)),(2,.int .i64 vw),(3,.int .i64 vx),(4,.int .i64 vt)] rfl _ (hbd.out _) ?_)
  | ((with_reducible refine wL (.buildSlice _ _ _) ?_);refine Qh rfl 26 1 [(0,.tmp 68)] rfl [(0,.agg XE)] rfl _ _ (hsl.out _) ?_)
  | (at_builtin;refine Z9 (P:=Tryz.prog) (R:=RE) (e:=66) (size:=7) (base:=w5.heap.size) (F:=λ_=>False) (F':=λ_=>False) rfl Zj (.tmp 58) (.tmp 69) 26 rfl Tryz.underlying26 56 Jd dX rfl hrV NE XE (Hd (hyE.out w7)) hF0 (Hd (λ_ _ h=>h)) (Hd (λ_ h=>h.elim)) rfl hln dX (by have:=hs7.out;have:=hs56.out;omega) ?_;intro v9 w9 hr9 hO9 hM9;obtain⟨a9,n9,c9,hv9⟩:∃ a n c,v9=.slice a n c:=(by obtain⟨a,c,e,_⟩:=hr9.out.form;exact⟨a,_,c,e⟩);subst hv9;have h9:=Hd (hO9.out.heap aC.out (λe=>by have:=(hltV.out _ e).2;omega)))
  | ((with_reducible refine wL (.store 26 (.tmp 71) _) ?_);(refine Qe rfl 26 28 (.tmp 71) (.tmp 70) rfl w6.heap.size 1 C (.slice a9 n9 c9) rfl rfl h9 (by rw[hC2];decide) kX rfl ?_);intro w10 hU10;have hat10:=hU10.out.here;rw[hC.out] at hat10;obtain⟨CM,hCM⟩:∃ CM:Array Value,CM=#[.slice (some ⟨g4,0,none⟩) m.its.length c4,.slice a9 n9 c9]:=⟨_,rfl⟩;replace hat10:w10.heap[w6.heap.size]? = some (.cells CM 28 (0,0)):=(by rw[hCM];simpa using hat10);have iM:(Tryz.prog.info? 28).map (·.size)=some CM.size:=(by rw[hCM];kernel_rfl);have zM:(#[.slice none 0 0,.slice none 0 0]:Array Value).size=CM.size:=(by rw[hCM];rfl);have h1M:CM.all (·.oneCell')=true:=(by rw[hCM];simp[Value.oneCell']);have hO10:Only (λk=>k=w6.heap.size) w9 w10:=Only.ofUpd hU10.out rfl;have hrN10:=(hrN.out.only Zk hO9.out (λk hk=>hk.elim) (λk hk e=>hav.out k hk e)).only Zk hO10 (λk hk=>hk.elim) (λk hk e=>by have:=(hltN.out k hk).2;omega);have j0:w10.cell? ⟨w6.heap.size,0,none⟩=some (.slice (some ⟨g4,0,none⟩) m.its.length c4):=(by rw[Za hat10,hCM];simp);have hcc:=Ql (R:=RI) (enc:=It.list) (Ok:=It.Ok) (λ_ _ _ _=>Iff.rfl) Zk hrN10 i 74 hi _ (It.c74 (okI.out _ (List.getElem_mem hi)));have hce:=hcc.1;rw[hy.out] at hce;have aO10:Hid (w10.heap[w.heap.size+2]? = some (.cells #[.slice none 0 0,.slice none 0 0] 28 (0,0))):=Hd ((hU10.out.block _ (by have:=hlt6.out;omega)).trans (hO9.out.heap aO.out (λe=>by have:=(hltV.out _ e).1;have:=hlt5.out;omega)));have aR10:=(hU10.out.block _ (by have:=hlt6.out;omega)).trans (hO9.out.heap aR.out (λe=>by have:=(hltV.out _ e).1;have:=hlt5.out;omega));clear s0 s1 q0 q1 q2 q3 q4 q5 q6 q7 k0 k1;obtain⟨q0,q1,q2,q3,q4,q5,q6,q7⟩:=hcf.out _ _ aR10;replace hat10:=Hd hat10;replace hCM:=Hd hCM;replace hrN10:=Hd hrN10;replace hO10:=Hd hO10;have hfr:=hcc.2;replace hcc:=Hd hcc;clear aR10)
  | ((with_reducible refine wL (.store 3 (.tmp 84) _) ?_);(refine ZT rfl 3 (.tmp 84) (.tmp 82) rfl g4 (i*76+74) (.int .i64 (y.u+1)) rfl rfl (Hd ⟨_,hcc.out.1⟩) hcc.out.2 i1i rfl ?_);intro w12 hw12;have hO12:Only (λk=>k=g4) w10 w12:=(by rw[hw12.out];exact(Only.refl _ _).setCell _ _ (λ_=>rfl));have hrN12:=hset.out _ _ _ _ _ hrN10.out;rw[<-hw12.out] at hrN12;have aC12:=Hd (hO12.heap hat10.out oX);have aO12:=Hd (hO12.heap aO10.out (by have:=hlt5.out;omega));replace hO12:=Hd hO12;replace hrN12:=Hd hrN12)
  | ((with_reducible refine wL (.load 28 (.tmp 10)) ?_);refine Ze rfl 28 (.tmp 10) rfl w6.heap.size CM _ rfl aC12 Tryz.underlying28 rfl iM ?_)
  | ((with_reducible refine wL (.store 28 (.tmp 4) _) ?_);(refine Zc rfl 28 (.tmp 4) (.tmp 95) rfl (w.heap.size+2) _ CM rfl rfl aO12 iM zM h1M ?_);intro w11 hU11))
 have h7o:=hs7.out
 have h5o:=hlt5.out
 have h6o:=hlt6.out
 have h56:=hs56.out
 have hO11:Only (λk=>k=w.heap.size+2) w12 w11:=Only.ofUpd hU11.out rfl
 have hrVX:=((hr9.out.only Zj hO10.out (λk hk=>hk.elim) (λk hk e=>by
  rcases hM9.out k hk with h|h
  ·have:=(hltV.out k h).2;omega
  ·omega)).only Zj hO12.out (λk hk=>hk.elim) (λk hk e=>by
  rcases hM9.out k hk with h|h
  ·exact hav.out g4 rfl (e▸h)
  ·omega)).only Zj hO11 (λk hk=>hk.elim) (λk hk e=>by
  rcases hM9.out k hk with h|h
  ·have:=(hltV.out k h).1;omega
  ·omega)
 have hrNX:=hrN12.out.only Zk hO11 (λk hk=>hk.elim) (λk hk e=>by have:=(hltN.out k hk).1;omega)
 have hBX:=(((hB.out.trans (hO9.out.below (by have:=hB.out.size;omega) (λk hk=>by have:=(hltV.out k hk).1;omega))).trans (hU10.out.below oX)).trans (hO12.out.below (by have:=hB.out.size;have:=hO9.out.size;have:=hU10.out.size;omega) (λk e=>by omega))).trans (hU11.out.below oX)
 refine Zf rfl rfl Tryz.underlying28 rfl iM hU11.out.here ?_
 rw[hCM.out]
 exact⟨_,_,rfl,Q8 hrNX hrVX,.inl ⟨rfl,rfl⟩,hBX,Qy hrNX hrVX hlo6 hlo6⟩
theorem Mx(va:Value)(m:St)(x:Rc)(hx:x.Ok)(w:World)(ha:ArgS w va m)(l1:m.its.length<=1000)(l2:m.ens.length<=1000)(i:Nat)(hi:i<m.its.length)(hx1:x.obj=(i:Int))(h1:m.its[i].k=true)(hw:x.way≠2)(h3:x.id=(m.ens.length:Int))(h4:x.index=(ZJ m.its[i] x.way).1)(hub:m.its[i].r<=1000000)(ea:Nat->Addr) :
  Calls Tryz.prog 41 #[va,.agg x.list.toArray] w (Zo ea ⟨m.its.set i { m.its[i] with r:=m.its[i].r+1 },m.ens++[⟨x.id,x.obj,x.way,x.index,x.tick,0,0⟩]⟩ 0 w):=by
 have hcf:=Hd (Rc.kept0 x hx 49)
 have hcp:=λW (h:Below w.heap.size w W)=>YG va m W (ha.below h nR) l1 l2
 have okI:=ha.okN
 have okE:=ha.okV
 have hc0:=λW h=>Yj va m W (ha.below h nR) i hi l1
 rw[<-hx1] at hc0
 have hok:=ha.okN _ (List.getElem_mem hi)
 have hget:m.its[i]? = some m.its[i]:=List.getElem?_eq_getElem hi
 have hub1:inI (m.its[i].r+1):=by have:=hok.r;exact⟨oX,oX⟩
 have hwr:IntKind.i64.wrap (m.its[i].r+1)=m.its[i].r+1:=IntWalk.i64_in _ (by have:=hok.r;omega)
 have hset:=λ(W:World) (base g n c:Nat) (h:RowsOf RI 58 76 base W (λ_=>False) (.slice (some ⟨g,0,none⟩) n c) m.its)=>Qz (R:=RI) (enc:=It.list) (Ok:=It.Ok) (λ_ _ _ _=>Iff.rfl) (λ_ h=>It.list_length h) It.list_one dX h okI i 75 hi dX (.int .i64 (m.its[i].r+1)) rfl { m.its[i] with r:=m.its[i].r+1 } (It.set75 hok _) ⟨hok.n,hok.s,hok.p,hok.root,hok.file,hok.t,hok.u,hub1⟩
 obtain⟨NE,hNE⟩:∃ NE:En,NE=⟨x.id,x.obj,x.way,x.index,x.tick,0,0⟩:=⟨_,rfl⟩
 have hyE:∀ W:World,RE W (λ_=>False) NE NE.list.toArray.toList:=λW=>⟨sX,by rw[hNE];exact⟨hx.id,hx.obj,hx.way,hx.index,hx.tick,by show inI 0;decide,by show inI 0;decide⟩⟩
 have hbd:=λW=>Gl x.id x.obj x.way x.index x.tick W
 rw[<-hNE] at hbd ⊢
 obtain⟨XE,hXE⟩:∃ XE,XE=NE.list.toArray:=⟨_,rfl⟩
 have hXEs:XE.size=7:=by rw[hXE];rfl
 rw[<-hXE] at hbd hyE
 have hsl:=λW=>QT (P:=Tryz.prog) (t:=26) Tryz.underlying26 Jd dX dX XE hXEs W
 have hnx:=Hd (λW=>YY m.its[i] hok x.way W)
 obtain⟨ITS,hITS⟩:∃ l,l=m.its.set i { m.its[i] with r:=m.its[i].r+1 }:=⟨_,rfl⟩
 rw[<-hITS] at hset ⊢
 have hIl:ITS.length=m.its.length:=by rw[hITS,List.length_set]
 generalize hy:m.its[i]=y at*
 obtain⟨XA,hXA⟩:∃ XA,XA=y.list.toArray:=⟨_,rfl⟩
 have hk73:∀ (W:World) b,W.heap[b]? = some (.cells XA 58 (0,0))->W.cell? ⟨b,73,none⟩=some (.bool y.k):=λW b h=>by rw[Za h,hXA,List.getElem?_toArray];exact It.c73 hok
 rw[h1] at hk73
 have iA:(Tryz.prog.info? 58).map (·.size)=some XA.size:=by rw[hXA,It.size hok];kernel_rfl
 have zA:(Tryz.zeroCells58).size=XA.size:=by rw[hXA,It.size hok];kernel_rfl
 have h1A:XA.all (·.oneCell')=true:=by rw[hXA];exact It.all_one _
 rw[<-hXA] at hc0 hnx
 obtain⟨⟨an,cn,av,cv,rfl,hN,hN1,hN2,hV,hV1,hV2⟩,okN,okV⟩:=ha
 obtain⟨N,hNl⟩:∃ N,N=m.its.length:=⟨_,rfl⟩
 obtain⟨V,hVl⟩:∃ V,V=m.ens.length:=⟨_,rfl⟩
 rw[<-hNl,<-hVl] at hc0 hcp
 rw[<-hNl,<-hVl]
 generalize hRR:x.list.toArray=R at*
 obtain⟨aS,aR,aO,hs3,hB⟩:=Zq w #[.slice an N cn,.slice av V cv] R #[.slice none 0 0,.slice none 0 0] 28 49 28 _ rfl
 obtain⟨w3,hw3⟩:∃ w3,w3=((w.alloc (.cells #[.slice an N cn,.slice av V cv] 28)).alloc (.cells R 49)).alloc (.cells #[.slice none 0 0,.slice none 0 0] 28):=⟨_,rfl⟩
 have s0:=Za aS 0
 have s1:=Za aS 1
 obtain⟨q0,q1,q2,q3,q4,q5,q6,q7⟩:=hcf.out _ _ aR
 rw[<-hw3] at aS aR aO hB
 obtain⟨ix,lf,hnx2⟩:∃ ix lf,ZJ y x.way=(ix,lf):=⟨_,_,rfl⟩
 have hlf:lf=true:=by have e:ZJ y x.way=(y.r,true):=(by unfold ZJ;rw[if_neg hw]);rw[hnx2] at e;cases e;rfl
 subst hlf
 rw[hnx2] at hnx h4
 replace h4:x.index=ix:=h4
 replace hnx2:=Hd hnx2
 have hof:(x.id != (V:Int))=false:=by rw[hVl,h3];simp
 have hoi:(x.index != ix)=false:=by rw[h4];simp
 generalize x.tick=vt at*
 have hw2:(x.way==2)=false:=by simpa using hw
 generalize x.obj=vo at*
 generalize x.id=vi at*
 generalize x.way=vw at*
 generalize x.index=vx at*
 generalize x.name=vn at*
 subst hx1
 subst h4
 replace hc0:=Hd hc0
 replace hcp:=Hd hcp
 replace aS:=Hd aS
 replace aR:=Hd aR
 replace aO:=Hd aO
 replace hB:=Hd hB
 replace hw3:=Hd hw3
 replace okI:=Hd okI
 replace okE:=Hd okE
 replace hNl:=Hd hNl
 replace hVl:=Hd hVl
 replace hk73:=Hd hk73
 replace hset:=Hd hset
 replace hITS:=Hd hITS
 replace hIl:=Hd hIl
 replace hget:=Hd hget
 replace hy:=Hd hy
 replace hbd:=Hd hbd
 replace hsl:=Hd hsl
 replace hyE:=Hd hyE
 replace hNE:=Hd hNE
 replace hXE:=Hd hXE
 clear hRR hN hV hN1 hN2 hV1 hV2 okN okV hs3 hXA h1 h3 hw
 go_enter Tryz.func41,Tryz.ntmps41
 go_wp2_with fail
 rw[<-hw3.out]
 with_reducible refine(hc0.out _ hB.out).mono ?_
 rintro e w4 ⟨rfl,hb⟩
 replace aS:=Hd ((hb.block _ (Zb aS.out)).trans aS.out)
 replace aR:=Hd ((hb.block _ (Zb aR.out)).trans aR.out)
 replace aO:=Hd ((hb.block _ (Zb aO.out)).trans aO.out)
 replace hB:=Hd (hB.out.trans (hb.mono hB.out.size))
 clear hb s0 s1 q0 q1 q2 q3 q4 q5 q6 q7
 have s0:=Za aS.out 0
 have s1:=Za aS.out 1
 obtain⟨q0,q1,q2,q3,q4,q5,q6,q7⟩:=hcf.out _ _ aR.out
 have hZ4:=Hd (heap_alloc_new w4 (.cells Tryz.zeroCells58 58))
 go_wp2_with (first
  | ((with_reducible refine wL (.store 58 (.tmp 6) _) ?_);(refine Zc rfl 58 (.tmp 6) (.tmp 16) rfl w4.heap.size _ XA rfl rfl hZ4 iA zA h1A ?_);intro w5 hU5;have hb5:Below w4.heap.size w4 w5:=(Below.alloc (Below.refl w4.heap.size w4) nR _).trans (hU5.out.below nR);have aX:=Hd hU5.out.here;replace aS:=Hd ((hb5.block _ (Zb aS.out)).trans aS.out);replace aR:=Hd ((hb5.block _ (Zb aR.out)).trans aR.out);replace aO:=Hd ((hb5.block _ (Zb aO.out)).trans aO.out);replace hB:=Hd (hB.out.trans (hb5.mono hB.out.size));clear s0 s1 q0 q1 q2 q3 q4 q5 q6 q7 hb5;have s0:=Za aS.out 0;have s1:=Za aS.out 1;obtain⟨q0,q1,q2,q3,q4,q5,q6,q7⟩:=hcf.out _ _ aR.out;have y73:=hk73.out _ _ aX.out)
  | ((with_reducible refine wL (.load 58 (.tmp 6)) ?_);refine Ze rfl 58 (.tmp 6) rfl w4.heap.size XA _ rfl aX Tryz.underlying58 rfl iA ?_))
 with_reducible refine(hnx.out _).mono ?_
 rintro e w5b ⟨rfl,hb⟩
 replace aX:=Hd ((hb.block _ (Zb aX.out)).trans aX.out)
 replace aS:=Hd ((hb.block _ (Zb aS.out)).trans aS.out)
 replace aR:=Hd ((hb.block _ (Zb aR.out)).trans aR.out)
 replace aO:=Hd ((hb.block _ (Zb aO.out)).trans aO.out)
 replace hB:=Hd (hB.out.trans (hb.mono hB.out.size))
 clear hb s0 s1 q0 q1 q2 q3 q4 q5 q6 q7 y73 hU5
 have s0:=Za aS.out 0
 have s1:=Za aS.out 1
 obtain⟨q0,q1,q2,q3,q4,q5,q6,q7⟩:=hcf.out _ _ aR.out
 have y73:=hk73.out _ _ aX.out
 obtain⟨w5,hw5⟩:∃ W,W=w5b:=⟨_,rfl⟩
 subst hw5
 go_wp2_with fail
 have hlt5:=Hd (Zb aO.out)
 with_reducible refine(hcp.out _ hB.out).mono ?_
 rintro e w6 ⟨v,v',rfl,hrN,hrV,hav,hb⟩
 obtain⟨x4,c4,hv4,hnil4,_,_,hlt4⟩:=hrN.form
 obtain⟨x5,c5,hv5,_⟩:=hrV.form
 subst hv4 hv5
 obtain⟨g4,hg4⟩:∃ g4,x4=some ⟨g4,0,none⟩:=by
  cases x4 with
  | none=>have:=(hnil4 rfl).2;omega
  | some ad=>
   obtain⟨b4,o4,s4⟩:=ad
   obtain⟨rfl,rfl,_⟩:=hlt4 b4 o4 s4 rfl
   exact⟨b4,rfl⟩
 subst hg4
 have hltV:=Hd (λk (hk:(Value.slice x5 m.ens.length c5).ownBlock=some k)=>hrV.ownLt k hk)
 have hltN:=Hd (λk (hk:(Value.slice (some ⟨g4,0,none⟩) m.its.length c4).ownBlock=some k)=>hrN.ownLt k hk)
 obtain⟨C,hC⟩:∃ C:Array Value,C=#[.slice (some ⟨g4,0,none⟩) m.its.length c4,.slice x5 m.ens.length c5]:=⟨_,rfl⟩
 rw[<-hC]
 have hs56:=hb.size
 have hlo6:w.heap.size<=w5.heap.size:=hB.out.size
 replace aS:=Hd ((hb.block _ (Zb aS.out)).trans aS.out)
 replace aR:=Hd ((hb.block _ (Zb aR.out)).trans aR.out)
 replace aO:=Hd ((hb.block _ (Zb aO.out)).trans aO.out)
 replace hB:=Hd (hB.out.trans (hb.mono hB.out.size))
 clear hb s0 s1 q0 q1 q2 q3 q4 q5 q6 q7 hnil4 hlt4
 have s0:=Za aS.out 0
 have s1:=Za aS.out 1
 obtain⟨q0,q1,q2,q3,q4,q5,q6,q7⟩:=hcf.out _ _ aR.out
 have hlt6:=Hd (Zb aO.out)
 have iC:(Tryz.prog.info? 28).map (·.size)=some C.size:=by rw[hC];kernel_rfl
 have zC:(#[.slice none 0 0,.slice none 0 0]:Array Value).size=C.size:=by rw[hC];rfl
 have h1C:C.all (·.oneCell')=true:=by rw[hC];simp[Value.oneCell']
 have hC2:C.size=2:=by rw[hC];rfl
 have hkC:∀ (W:World) b,W.heap[b]? = some (.cells C 28 (0,0))->W.cell? ⟨b,0,none⟩=some (.slice (some ⟨g4,0,none⟩) m.its.length c4)/\W.cell? ⟨b,1,none⟩=some (.slice x5 m.ens.length c5):=λW b h=>by
  rw[Za h,Za h,hC]
  exact⟨sX,sX⟩
 have hZ6:=Hd (heap_alloc_new w6 (.cells #[.slice none 0 0,.slice none 0 0] 28))
 replace hC:=Hd hC
 replace hkC:=Hd hkC
 replace hrN:=Hd hrN
 replace hrV:=Hd hrV
 replace hav:=Hd hav
 replace hs56:=Hd hs56
 have hF0:=Hd (show ∀ k:Nat,(λ_:Nat=>False) k->(λ_:Nat=>False) k from λ_ h=>h)
 have hln:m.ens.length<=1000000:=oX
 have hii:(i:Int)<(m.its.length:Int):=oX
 have i1i:(Tryz.prog.info? 3).map (·.size)=some 1:=kX
 have hg4l:=hltN.out g4 rfl
 go_wp2_with (first
  | ((with_reducible refine wL (.store 28 (.tmp 10) _) ?_);(refine Zc rfl 28 (.tmp 10) (.tmp 56) rfl w6.heap.size _ C rfl rfl hZ6 iC zC h1C ?_);intro w7 hU7;have hb7:Below w6.heap.size w6 w7:=(Below.alloc (Below.refl w6.heap.size w6) nR _).trans (hU7.out.below nR);have hs7:w7.heap.size=w6.heap.size+1:=hU7.out.size.trans sX;have aC:=Hd hU7.out.here;replace hrN:=Hd (hrN.out.below Zk hb7);replace hrV:=Hd (hrV.out.below Zj hb7);replace aS:=Hd ((hb7.block _ (Zb aS.out)).trans aS.out);replace aR:=Hd ((hb7.block _ (Zb aR.out)).trans aR.out);replace aO:=Hd ((hb7.block _ (Zb aO.out)).trans aO.out);replace hB:=Hd (hB.out.trans (hb7.mono hB.out.size));clear s0 s1 q0 q1 q2 q3 q4 q5 q6 q7 hb7;have s0:=Za aS.out 0;have s1:=Za aS.out 1;obtain⟨q0,q1,q2,q3,q4,q5,q6,q7⟩:=hcf.out _ _ aR.out;obtain⟨k0,k1⟩:=hkC.out _ _ aC.out;replace hs7:=Hd hs7)
  | ((with_reducible refine wL (.build 66 _) ?_);refine ZM rfl 66 [(0,.tmp 60),(1,.tmp 62),(2,.tmp 64),(3,.tmp 65),(4,.tmp 67)] rfl [(0,.int .i64 vi),(1,.int .i64 (i:Int)),(2,.int .i64 vw),(3,.int .i64 vx),(4,.int .i64 vt)] rfl _ (hbd.out _) ?_)
  | ((with_reducible refine wL (.buildSlice _ _ _) ?_);refine Qh rfl 26 1 [(0,.tmp 68)] rfl [(0,.agg XE)] rfl _ _ (hsl.out _) ?_)
  | (at_builtin;refine Z9 (P:=Tryz.prog) (R:=RE) (e:=66) (size:=7) (base:=w5.heap.size) (F:=λ_=>False) (F':=λ_=>False) rfl Zj (.tmp 58) (.tmp 69) 26 rfl Tryz.underlying26 56 Jd dX rfl hrV NE XE (Hd (hyE.out w7)) hF0 (Hd (λ_ _ h=>h)) (Hd (λ_ h=>h.elim)) rfl hln dX (by have:=hs7.out;have:=hs56.out;omega) ?_;intro v9 w9 hr9 hO9 hM9;obtain⟨a9,n9,c9,hv9⟩:∃ a n c,v9=.slice a n c:=(by obtain⟨a,c,e,_⟩:=hr9.out.form;exact⟨a,_,c,e⟩);subst hv9;have h9:=Hd (hO9.out.heap aC.out (λe=>by have:=(hltV.out _ e).2;omega)))
  | ((with_reducible refine wL (.store 26 (.tmp 71) _) ?_);(refine Qe rfl 26 28 (.tmp 71) (.tmp 70) rfl w6.heap.size 1 C (.slice a9 n9 c9) rfl rfl h9 (by rw[hC2];decide) kX rfl ?_);intro w10 hU10;have hat10:=hU10.out.here;rw[hC.out] at hat10;obtain⟨CM,hCM⟩:∃ CM:Array Value,CM=#[.slice (some ⟨g4,0,none⟩) m.its.length c4,.slice a9 n9 c9]:=⟨_,rfl⟩;replace hat10:w10.heap[w6.heap.size]? = some (.cells CM 28 (0,0)):=(by rw[hCM];simpa using hat10);have iM:(Tryz.prog.info? 28).map (·.size)=some CM.size:=(by rw[hCM];kernel_rfl);have zM:(#[.slice none 0 0,.slice none 0 0]:Array Value).size=CM.size:=(by rw[hCM];rfl);have h1M:CM.all (·.oneCell')=true:=(by rw[hCM];simp[Value.oneCell']);have hO10:Only (λk=>k=w6.heap.size) w9 w10:=Only.ofUpd hU10.out rfl;have hrN10:=(hrN.out.only Zk hO9.out (λk hk=>hk.elim) (λk hk e=>hav.out k hk e)).only Zk hO10 (λk hk=>hk.elim) (λk hk e=>by have:=(hltN.out k hk).2;omega);have j0:w10.cell? ⟨w6.heap.size,0,none⟩=some (.slice (some ⟨g4,0,none⟩) m.its.length c4):=(by rw[Za hat10,hCM];simp);have hcc:=Ql (R:=RI) (enc:=It.list) (Ok:=It.Ok) (λ_ _ _ _=>Iff.rfl) Zk hrN10 i 75 hi _ (It.c75 (okI.out _ (List.getElem_mem hi)));have hce:=hcc.1;rw[hy.out] at hce;have aO10:Hid (w10.heap[w.heap.size+2]? = some (.cells #[.slice none 0 0,.slice none 0 0] 28 (0,0))):=Hd ((hU10.out.block _ (by have:=hlt6.out;omega)).trans (hO9.out.heap aO.out (λe=>by have:=(hltV.out _ e).1;have:=hlt5.out;omega)));have aR10:=(hU10.out.block _ (by have:=hlt6.out;omega)).trans (hO9.out.heap aR.out (λe=>by have:=(hltV.out _ e).1;have:=hlt5.out;omega));clear s0 s1 q0 q1 q2 q3 q4 q5 q6 q7 k0 k1;obtain⟨q0,q1,q2,q3,q4,q5,q6,q7⟩:=hcf.out _ _ aR10;replace hat10:=Hd hat10;replace hCM:=Hd hCM;replace hrN10:=Hd hrN10;replace hO10:=Hd hO10;have hfr:=hcc.2;replace hcc:=Hd hcc;clear aR10)
  | ((with_reducible refine wL (.store 3 (.tmp 94) _) ?_);(refine ZT rfl 3 (.tmp 94) (.tmp 92) rfl g4 (i*76+75) (.int .i64 (y.r+1)) rfl rfl (Hd ⟨_,hcc.out.1⟩) hcc.out.2 i1i rfl ?_);intro w12 hw12;have hO12:Only (λk=>k=g4) w10 w12:=(by rw[hw12.out];exact(Only.refl _ _).setCell _ _ (λ_=>rfl));have hrN12:=hset.out _ _ _ _ _ hrN10.out;rw[<-hw12.out] at hrN12;have aC12:=Hd (hO12.heap hat10.out oX);have aO12:=Hd (hO12.heap aO10.out (by have:=hlt5.out;omega));replace hO12:=Hd hO12;replace hrN12:=Hd hrN12)
  | ((with_reducible refine wL (.load 28 (.tmp 10)) ?_);refine Ze rfl 28 (.tmp 10) rfl w6.heap.size CM _ rfl aC12 Tryz.underlying28 rfl iM ?_)
  | ((with_reducible refine wL (.store 28 (.tmp 4) _) ?_);(refine Zc rfl 28 (.tmp 4) (.tmp 95) rfl (w.heap.size+2) _ CM rfl rfl aO12 iM zM h1M ?_);intro w11 hU11))
 have h7o:=hs7.out
 have h5o:=hlt5.out
 have h6o:=hlt6.out
 have h56:=hs56.out
 have hO11:Only (λk=>k=w.heap.size+2) w12 w11:=Only.ofUpd hU11.out rfl
 have hrVX:=((hr9.out.only Zj hO10.out (λk hk=>hk.elim) (λk hk e=>by
  rcases hM9.out k hk with h|h
  ·have:=(hltV.out k h).2;omega
  ·omega)).only Zj hO12.out (λk hk=>hk.elim) (λk hk e=>by
  rcases hM9.out k hk with h|h
  ·exact hav.out g4 rfl (e▸h)
  ·omega)).only Zj hO11 (λk hk=>hk.elim) (λk hk e=>by
  rcases hM9.out k hk with h|h
  ·have:=(hltV.out k h).1;omega
  ·omega)
 have hrNX:=hrN12.out.only Zk hO11 (λk hk=>hk.elim) (λk hk e=>by have:=(hltN.out k hk).1;omega)
 have hBX:=(((hB.out.trans (hO9.out.below (by have:=hB.out.size;omega) (λk hk=>by have:=(hltV.out k hk).1;omega))).trans (hU10.out.below oX)).trans (hO12.out.below (by have:=hB.out.size;have:=hO9.out.size;have:=hU10.out.size;omega) (λk e=>by omega))).trans (hU11.out.below oX)
 refine Zf rfl rfl Tryz.underlying28 rfl iM hU11.out.here ?_
 rw[hCM.out]
 exact⟨_,_,rfl,Q8 hrNX hrVX,.inl ⟨rfl,rfl⟩,hBX,Qy hrNX hrVX hlo6 hlo6⟩
end Go.Proofs.YtpdhceiodgnbmaaGreatDoor
