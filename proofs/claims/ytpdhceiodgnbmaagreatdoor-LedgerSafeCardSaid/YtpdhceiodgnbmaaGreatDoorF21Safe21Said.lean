import Derived.Test.YtpdhceiodgnbmaaGreatDoorF0Safe21Said
import Derived.Test.YtpdhceiodgnbmaaGreatDoorF1Safe21Said
import Derived.Test.YtpdhceiodgnbmaaGreatDoorF20Safe21Said
import Derived.Test.YtpdhceiodgnbmaaGreatDoorF4Safe21Said
set_option linter.unusedVariables false
set_option linter.unusedSimpArgs false
set_option linter.unnecessarySimpa false
set_option maxRecDepth 100000
set_option maxHeartbeats 8000000
namespace Go.Proofs.YtpdhceiodgnbmaaGreatDoor
open Go.RowKit
theorem HY(va:Value)(m:St)(x:Rc)(hx:x.Ok)(w:World)(ha:ArgS w va m)(l1:m.its.length<=1000)(l2:m.ens.length<=1000)(h1:(Qm m.its x.name).2=false)(h2:m.its.length<4)(h3:x.obj=(m.its.length:Int))(ea:Nat->Addr) :
  Calls Tryz.prog 40 #[va,.agg x.list.toArray] w (ZB ea ⟨m.its++[x.it],m.ens⟩ 0 w):=by
 have hcf:=Hd (Rc.kept0 x hx 49)
 have hcp:=λW (h:Below w.heap.size w W)=>J0 va m W (ha.below h nR) l1 l2
 have okI:=ha.okN
 have okE:=ha.okV
 have hc0:=λW h=>NF va m W (ha.below h nR) l1 x.name
 rw[h1] at hc0
 have hok:=NV ha.okN x.name
 obtain⟨XA,hXA⟩:∃ XA,XA=(Qm m.its x.name).1.list.toArray:=⟨_,rfl⟩
 have hRp:(x.list.drop 4).take 6=x.p.list:=Rc.sub_p x
 have hRr:(x.list.drop 10).take 32=cB x.root:=Rc.sub_root hx.root
 have hRf:(x.list.drop 42).take 32=cB x.file:=Rc.sub_file hx.root hx.file
 have hbd:=λW=>Dm x hx W
 have hitk:=Rc.it_ok hx
 obtain⟨XI,hXI⟩:∃ XI,XI=x.it.list.toArray:=⟨_,rfl⟩
 have hXIs:XI.size=76:=by rw[hXI];exact It.size hitk
 rw[<-hXI] at hbd
 have hsl:=λW=>Mi (P:=Tryz.prog) (t:=25) Tryz.underlying25 Nk dX dX XI hXIs W
 have hyN:∀ W:World,RI W (λ_=>False) x.it XI.toList:=λW=>⟨by rw[hXI],hitk⟩
 have ipp:(Tryz.prog.info? 45).map (·.size)=some x.p.list.length:=by rw[P6.list_length];kernel_rfl
 have ird:(Tryz.prog.info? 47).map (·.size)=some (cB x.root).length:=by rw[Ze,hx.root];kernel_rfl
 have ifd:(Tryz.prog.info? 47).map (·.size)=some (cB x.file).length:=by rw[Ze,hx.file];kernel_rfl
 have iA:(Tryz.prog.info? 58).map (·.size)=some XA.size:=by rw[hXA,It.size hok];kernel_rfl
 have zA:(Tryz.zeroCells58).size=XA.size:=by rw[hXA,It.size hok];kernel_rfl
 have h1A:XA.all (·.oneCell')=true:=by rw[hXA];exact It.all_one _
 rw[<-hXA] at hc0
 obtain⟨⟨an,cn,av,cv,rfl,hN,hN1,hN2,hV,hV1,hV2⟩,okN,okV⟩:=ha
 obtain⟨N,hNl⟩:∃ N,N=m.its.length:=⟨_,rfl⟩
 obtain⟨V,hVl⟩:∃ V,V=m.ens.length:=⟨_,rfl⟩
 rw[<-hNl,<-hVl] at hc0 hcp
 rw[<-hNl,<-hVl]
 generalize hRR:x.list.toArray=R at*
 obtain⟨aS,aR,aO,hs3,hB⟩:=ZV w #[.slice an N cn,.slice av V cv] R #[.slice none 0 0,.slice none 0 0] 28 49 28 _ rfl
 obtain⟨w3,hw3⟩:∃ w3,w3=((w.alloc (.cells #[.slice an N cn,.slice av V cv] 28)).alloc (.cells R 49)).alloc (.cells #[.slice none 0 0,.slice none 0 0] 28):=⟨_,rfl⟩
 have s0:=Za aS 0
 have s1:=Za aS 1
 obtain⟨q0,q1,q2,q3,q4,q5,q6,q7⟩:=hcf.out _ _ aR
 rw[<-hw3] at aS aR aO hB
 have hN4:(N:Int)<4:=by rw[hNl];omega
 have hof:(x.obj != (N:Int))=false:=by rw[hNl,h3];simp
 have hmR:∀ (W:World) b,W.heap[b]? = some (.cells R 49 (0,0))->W.rangeAt b 4 x.p.list/\W.rangeAt b 10 (cB x.root)/\W.rangeAt b 42 (cB x.file):=λW b h=>⟨VN h (by rw[<-hRR,List.toList_toArray];exact hRp),VN h (by rw[<-hRR,List.toList_toArray];exact hRr),VN h (by rw[<-hRR,List.toList_toArray];exact hRf)⟩
 obtain⟨IT,hIT⟩:∃ IT,IT=x.it:=⟨_,rfl⟩
 rw[<-hIT] at hyN ⊢
 generalize x.p.list=PL at*
 generalize cB x.root=RL at*
 generalize cB x.file=FL at*
 obtain⟨PA,hPA⟩:∃ PA,PA=PL.toArray:=⟨_,rfl⟩
 obtain⟨RA,hRA⟩:∃ RA,RA=RL.toArray:=⟨_,rfl⟩
 obtain⟨FA,hFA⟩:∃ FA,FA=FL.toArray:=⟨_,rfl⟩
 rw[<-hPA,<-hRA,<-hFA] at hbd
 generalize x.tick=vt at*
 replace hmR:=Hd hmR
 replace hbd:=Hd hbd
 replace hsl:=Hd hsl
 replace hyN:=Hd hyN
 replace hPA:=Hd hPA
 replace hRA:=Hd hRA
 replace hFA:=Hd hFA
 replace hXI:=Hd hXI
 generalize x.obj=vo at*
 generalize x.id=vi at*
 generalize x.way=vw at*
 generalize x.index=vx at*
 generalize x.name=vn at*
 replace hc0:=Hd hc0
 replace hcp:=Hd hcp
 replace aS:=Hd aS
 replace aR:=Hd aR
 replace aO:=Hd aO
 replace hB:=Hd hB
 replace hw3:=Hd hw3
 replace okI:=Hd okI
 replace okE:=Hd okE
 replace hNl:=Hd hNl
 replace hVl:=Hd hVl
 clear hRR hN hV hN1 hN2 hV1 hV2 okN okV hs3 hXA h1 h2 h3 hRp hRr hRf hitk hIT
 go_enter Tryz.func40,Tryz.ntmps40
 go_wp2_with fail
 rw[<-hw3.out]
 with_reducible refine(hc0.out _ hB.out).mono ?_
 rintro e w4 ⟨rfl,hb⟩
 replace aS:=Hd ((hb.block _ (Zb aS.out)).trans aS.out)
 replace aR:=Hd ((hb.block _ (Zb aR.out)).trans aR.out)
 replace aO:=Hd ((hb.block _ (Zb aO.out)).trans aO.out)
 replace hB:=Hd (hB.out.trans (hb.mono hB.out.size))
 clear hb s0 s1 q0 q1 q2 q3 q4 q5 q6 q7
 have s0:=Za aS.out 0
 have s1:=Za aS.out 1
 obtain⟨q0,q1,q2,q3,q4,q5,q6,q7⟩:=hcf.out _ _ aR.out
 have hZ4:=Hd (heap_alloc_new w4 (.cells Tryz.zeroCells58 58))
 go_wp2_with ((with_reducible refine wL (.store 58 (.tmp 6) _) ?_);(refine Zc rfl 58 (.tmp 6) (.tmp 14) rfl w4.heap.size _ XA rfl rfl hZ4 iA zA h1A ?_);intro w5 hU5;have hb5:Below w4.heap.size w4 w5:=(Below.alloc (Below.refl w4.heap.size w4) nR _).trans (hU5.out.below nR);have aX:=Hd hU5.out.here;replace aS:=Hd ((hb5.block _ (Zb aS.out)).trans aS.out);replace aR:=Hd ((hb5.block _ (Zb aR.out)).trans aR.out);replace aO:=Hd ((hb5.block _ (Zb aO.out)).trans aO.out);replace hB:=Hd (hB.out.trans (hb5.mono hB.out.size));clear s0 s1 q0 q1 q2 q3 q4 q5 q6 q7 hb5;have s0:=Za aS.out 0;have s1:=Za aS.out 1;obtain⟨q0,q1,q2,q3,q4,q5,q6,q7⟩:=hcf.out _ _ aR.out)
 have hlt5:=Hd (Zb aO.out)
 with_reducible refine(hcp.out _ hB.out).mono ?_
 rintro e w6 ⟨v,v',rfl,hrN,hrV,hav,hb⟩
 obtain⟨x4,c4,hv4,hnil4,_,_,hlt4⟩:=hrN.form
 obtain⟨x5,c5,hv5,_⟩:=hrV.form
 subst hv4 hv5
 have hltV:=Hd (λk (hk:(Value.slice x5 m.ens.length c5).ownBlock=some k)=>hrV.ownLt k hk)
 have hltN:=Hd (λk (hk:(Value.slice x4 m.its.length c4).ownBlock=some k)=>hrN.ownLt k hk)
 obtain⟨C,hC⟩:∃ C:Array Value,C=#[.slice x4 m.its.length c4,.slice x5 m.ens.length c5]:=⟨_,rfl⟩
 rw[<-hC]
 have hs56:=hb.size
 have hlo6:w.heap.size<=w5.heap.size:=hB.out.size
 replace aS:=Hd ((hb.block _ (Zb aS.out)).trans aS.out)
 replace aR:=Hd ((hb.block _ (Zb aR.out)).trans aR.out)
 replace aO:=Hd ((hb.block _ (Zb aO.out)).trans aO.out)
 replace hB:=Hd (hB.out.trans (hb.mono hB.out.size))
 clear hb s0 s1 q0 q1 q2 q3 q4 q5 q6 q7 hnil4 hlt4
 have s0:=Za aS.out 0
 have s1:=Za aS.out 1
 obtain⟨q0,q1,q2,q3,q4,q5,q6,q7⟩:=hcf.out _ _ aR.out
 have hlt6:=Hd (Zb aO.out)
 have iC:(Tryz.prog.info? 28).map (·.size)=some C.size:=by rw[hC];kernel_rfl
 have zC:(#[.slice none 0 0,.slice none 0 0]:Array Value).size=C.size:=by rw[hC];rfl
 have h1C:C.all (·.oneCell')=true:=by rw[hC];simp[Value.oneCell']
 have hC2:C.size=2:=by rw[hC];rfl
 have hkC:∀ (W:World) b,W.heap[b]? = some (.cells C 28 (0,0))->W.cell? ⟨b,0,none⟩=some (.slice x4 m.its.length c4)/\W.cell? ⟨b,1,none⟩=some (.slice x5 m.ens.length c5):=λW b h=>by
  rw[Za h,Za h,hC]
  exact⟨sX,sX⟩
 have hZ6:=Hd (heap_alloc_new w6 (.cells #[.slice none 0 0,.slice none 0 0] 28))
 replace hC:=Hd hC
 replace hkC:=Hd hkC
 replace hrN:=Hd hrN
 replace hrV:=Hd hrV
 replace hav:=Hd hav
 replace hs56:=Hd hs56
 have hF0:=Hd (show ∀ k:Nat,(λ_:Nat=>False) k->(λ_:Nat=>False) k from λ_ h=>h)
 have hln:m.its.length<=1000000:=oX
 go_wp2_with (first
  | ((with_reducible refine wL (.store 28 (.tmp 8) _) ?_);(refine Zc rfl 28 (.tmp 8) (.tmp 37) rfl w6.heap.size _ C rfl rfl hZ6 iC zC h1C ?_);intro w7 hU7;have hb7:Below w6.heap.size w6 w7:=(Below.alloc (Below.refl w6.heap.size w6) nR _).trans (hU7.out.below nR);have hs7:w7.heap.size=w6.heap.size+1:=hU7.out.size.trans sX;have aC:=Hd hU7.out.here;replace hrN:=Hd (hrN.out.below Qq hb7);replace hrV:=Hd (hrV.out.below Qf hb7);replace aS:=Hd ((hb7.block _ (Zb aS.out)).trans aS.out);replace aR:=Hd ((hb7.block _ (Zb aR.out)).trans aR.out);replace aO:=Hd ((hb7.block _ (Zb aO.out)).trans aO.out);replace hB:=Hd (hB.out.trans (hb7.mono hB.out.size));clear s0 s1 q0 q1 q2 q3 q4 q5 q6 q7 hb7;have s0:=Za aS.out 0;have s1:=Za aS.out 1;obtain⟨q0,q1,q2,q3,q4,q5,q6,q7⟩:=hcf.out _ _ aR.out;obtain⟨k0,k1⟩:=hkC.out _ _ aC.out;replace hs7:=Hd hs7;obtain⟨m4,m10,m42⟩:=hmR.out _ _ aR.out;replace m4:=Hd m4;replace m10:=Hd m10;replace m42:=Hd m42)
  | ((with_reducible refine wL (.load 45 (.tmp 44)) ?_);(refine wpList_load_mid rfl 45 (.tmp 44) rfl (w.heap.size+1) 4 rfl PL _ m4.out Tryz.underlying45 rfl ipp ?_);rw[<-hPA.out])
  | ((with_reducible refine wL (.load 47 (.tmp 46)) ?_);(refine wpList_load_mid rfl 47 (.tmp 46) rfl (w.heap.size+1) 10 rfl RL _ m10.out Tryz.underlying47 rfl ird ?_);rw[<-hRA.out])
  | ((with_reducible refine wL (.load 47 (.tmp 48)) ?_);(refine wpList_load_mid rfl 47 (.tmp 48) rfl (w.heap.size+1) 42 rfl FL _ m42.out Tryz.underlying47 rfl ifd ?_);rw[<-hFA.out])
  | ((with_reducible refine wL (.build 58 _) ?_);refine Z3 rfl 58 [(0,.tmp 41),(1,.tmp 43),(2,.tmp 45),(3,.tmp 47),(4,.tmp 49),(5,.tmp 51)] rfl [(0,.int .i64 vo),(1,.string vn),(2,.agg PA),(3,.agg RA),(4,.agg FA),(5,.int .i64 vt)] rfl _ (hbd.out _) ?_)
  | ((with_reducible refine wL (.buildSlice _ _ _) ?_);refine U3 rfl 25 1 [(0,.tmp 52)] rfl [(0,.agg XI)] rfl _ _ (hsl.out _) ?_)
  | (at_builtin;refine Yb (P:=Tryz.prog) (R:=RI) (e:=58) (size:=76) (base:=w5.heap.size) (F:=λ_=>False) (F':=λ_=>False) rfl Qq (.tmp 39) (.tmp 53) 25 rfl Tryz.underlying25 168 Nk dX rfl hrN IT XI (Hd (hyN.out w7)) hF0 (Hd (λ_ _ h=>h)) (Hd (λ_ h=>h.elim)) rfl hln dX (by have:=hs7.out;have:=hs56.out;omega) ?_;intro v9 w9 hr9 hO9 hM9;obtain⟨a9,n9,c9,hv9⟩:∃ a n c,v9=.slice a n c:=(by obtain⟨a,c,e,_⟩:=hr9.out.form;exact⟨a,_,c,e⟩);subst hv9;have h9:=Hd (hO9.out.heap aC.out (λe=>by have:=(hltN.out _ e).2;omega)))
  | ((with_reducible refine wL (.store 25 (.tmp 55) _) ?_);(refine J6 rfl 25 28 (.tmp 55) (.tmp 54) rfl w6.heap.size 0 C (.slice a9 n9 c9) rfl rfl h9 (by rw[hC2];decide) kX rfl ?_);intro w10 hU10;have hat10:=hU10.out.here;rw[hC.out] at hat10;obtain⟨CM,hCM⟩:∃ CM:Array Value,CM=#[.slice a9 n9 c9,.slice x5 m.ens.length c5]:=⟨_,rfl⟩;replace hat10:w10.heap[w6.heap.size]? = some (.cells CM 28 (0,0)):=(by rw[hCM];simpa using hat10);have iM:(Tryz.prog.info? 28).map (·.size)=some CM.size:=(by rw[hCM];kernel_rfl);have zM:(#[.slice none 0 0,.slice none 0 0]:Array Value).size=CM.size:=(by rw[hCM];rfl);have h1M:CM.all (·.oneCell')=true:=(by rw[hCM];simp[Value.oneCell']);replace hat10:=Hd hat10;replace hCM:=Hd hCM;have aO10:Hid (w10.heap[w.heap.size+2]? = some (.cells #[.slice none 0 0,.slice none 0 0] 28 (0,0))):=Hd ((hU10.out.block _ (by have:=hlt6.out;omega)).trans (hO9.out.heap aO.out (λe=>by have:=(hltN.out _ e).1;have:=hlt5.out;omega))))
  | ((with_reducible refine wL (.load 28 (.tmp 8)) ?_);refine Zd rfl 28 (.tmp 8) rfl w6.heap.size CM _ rfl hat10 Tryz.underlying28 rfl iM ?_)
  | ((with_reducible refine wL (.store 28 (.tmp 4) _) ?_);(refine Zc rfl 28 (.tmp 4) (.tmp 56) rfl (w.heap.size+2) _ CM rfl rfl aO10 iM zM h1M ?_);intro w11 hU11))
 have h7o:=hs7.out
 have h5o:=hlt5.out
 have h6o:=hlt6.out
 have h56:=hs56.out
 have hO10:Only (λk=>k=w6.heap.size) w9 w10:=Only.ofUpd hU10.out rfl
 have hO11:Only (λk=>k=w.heap.size+2) w10 w11:=Only.ofUpd hU11.out rfl
 have hrVX:=((hrV.out.only Qf hO9.out (λk hk=>hk.elim) (λk hk e=>hav.out k e hk)).only Qf hO10 (λk hk=>hk.elim) (λk hk e=>by have:=(hltV.out k hk).2;omega)).only Qf hO11 (λk hk=>hk.elim) (λk hk e=>by have:=(hltV.out k hk).1;omega)
 have hrNX:=(hr9.out.only Qq hO10 (λk hk=>hk.elim) (λk hk e=>by
  rcases hM9.out k hk with h|h
  ·have:=(hltN.out k h).2;omega
  ·omega)).only Qq hO11 (λk hk=>hk.elim) (λk hk e=>by
  rcases hM9.out k hk with h|h
  ·have:=(hltN.out k h).1;omega
  ·omega)
 have hBX:=((hB.out.trans (hO9.out.below (by have:=hB.out.size;omega) (λk hk=>by have:=(hltN.out k hk).1;omega))).trans (hU10.out.below oX)).trans (hU11.out.below oX)
 refine Zl rfl rfl Tryz.underlying28 rfl iM hU11.out.here ?_
 rw[hCM.out]
 exact⟨_,_,rfl,XJ hrNX hrVX,.inl ⟨rfl,rfl⟩,hBX,XQ hrNX hrVX hlo6 hlo6⟩
theorem HP(va:Value)(m:St)(x:Rc)(hx:x.Ok)(w:World)(ha:ArgS w va m)(l1:m.its.length<=1000)(l2:m.ens.length<=1000)(i:Nat)(hi:i<m.its.length)(hx1:x.obj=(i:Int))(h1:m.its[i].k=false)(ea:Nat->Addr) :
  Calls Tryz.prog 42 #[va,.agg x.list.toArray] w (ZB ea ⟨m.its.set i { m.its[i] with k:=true },m.ens⟩ 0 w):=by
 have hcf:=Hd (Rc.kept0 x hx 49)
 have hcp:=λW (h:Below w.heap.size w W)=>J0 va m W (ha.below h nR) l1 l2
 have okI:=ha.okN
 have okE:=ha.okV
 have hc0:=λW h=>JL va m W (ha.below h nR) i hi l1
 rw[<-hx1] at hc0
 have hok:=ha.okN _ (List.getElem_mem hi)
 have hget:m.its[i]? = some m.its[i]:=List.getElem?_eq_getElem hi
 have hset:=λ(W:World) (base g n c:Nat) (h:RowsOf RI 58 76 base W (λ_=>False) (.slice (some ⟨g,0,none⟩) n c) m.its)=>Vw (R:=RI) (enc:=It.list) (Ok:=It.Ok) (λ_ _ _ _=>Iff.rfl) (λ_ h=>It.list_length h) It.list_one dX h okI i 73 hi dX (.bool true) rfl { m.its[i] with k:=true } (It.set73 hok true) ⟨hok.n,hok.s,hok.p,hok.root,hok.file,hok.t,hok.u,hok.r⟩
 obtain⟨ITS,hITS⟩:∃ l,l=m.its.set i { m.its[i] with k:=true }:=⟨_,rfl⟩
 rw[<-hITS] at hset ⊢
 have hIl:ITS.length=m.its.length:=by rw[hITS,List.length_set]
 generalize hy:m.its[i]=y at*
 obtain⟨XA,hXA⟩:∃ XA,XA=y.list.toArray:=⟨_,rfl⟩
 have hk73:∀ (W:World) b,W.heap[b]? = some (.cells XA 58 (0,0))->W.cell? ⟨b,73,none⟩=some (.bool y.k):=λW b h=>by rw[Za h,hXA,List.getElem?_toArray];exact It.c73 hok
 rw[h1] at hk73
 have iA:(Tryz.prog.info? 58).map (·.size)=some XA.size:=by rw[hXA,It.size hok];kernel_rfl
 have zA:(Tryz.zeroCells58).size=XA.size:=by rw[hXA,It.size hok];kernel_rfl
 have h1A:XA.all (·.oneCell')=true:=by rw[hXA];exact It.all_one _
 rw[<-hXA] at hc0
 obtain⟨⟨an,cn,av,cv,rfl,hN,hN1,hN2,hV,hV1,hV2⟩,okN,okV⟩:=ha
 obtain⟨N,hNl⟩:∃ N,N=m.its.length:=⟨_,rfl⟩
 obtain⟨V,hVl⟩:∃ V,V=m.ens.length:=⟨_,rfl⟩
 rw[<-hNl,<-hVl] at hc0 hcp
 rw[<-hNl,<-hVl]
 generalize hRR:x.list.toArray=R at*
 obtain⟨aS,aR,aO,hs3,hB⟩:=ZV w #[.slice an N cn,.slice av V cv] R #[.slice none 0 0,.slice none 0 0] 28 49 28 _ rfl
 obtain⟨w3,hw3⟩:∃ w3,w3=((w.alloc (.cells #[.slice an N cn,.slice av V cv] 28)).alloc (.cells R 49)).alloc (.cells #[.slice none 0 0,.slice none 0 0] 28):=⟨_,rfl⟩
 have s0:=Za aS 0
 have s1:=Za aS 1
 obtain⟨q0,q1,q2,q3,q4,q5,q6,q7⟩:=hcf.out _ _ aR
 rw[<-hw3] at aS aR aO hB
 generalize x.obj=vo at*
 generalize x.id=vi at*
 generalize x.way=vw at*
 generalize x.index=vx at*
 generalize x.name=vn at*
 subst hx1
 replace hc0:=Hd hc0
 replace hcp:=Hd hcp
 replace aS:=Hd aS
 replace aR:=Hd aR
 replace aO:=Hd aO
 replace hB:=Hd hB
 replace hw3:=Hd hw3
 replace okI:=Hd okI
 replace okE:=Hd okE
 replace hNl:=Hd hNl
 replace hVl:=Hd hVl
 replace hk73:=Hd hk73
 replace hset:=Hd hset
 replace hITS:=Hd hITS
 replace hIl:=Hd hIl
 replace hget:=Hd hget
 replace hy:=Hd hy
 clear hRR hN hV hN1 hN2 hV1 hV2 okN okV hs3 hXA
 go_enter Tryz.func42,Tryz.ntmps42
 go_wp2_with fail
 rw[<-hw3.out]
 with_reducible refine(hc0.out _ hB.out).mono ?_
 rintro e w4 ⟨rfl,hb⟩
 replace aS:=Hd ((hb.block _ (Zb aS.out)).trans aS.out)
 replace aR:=Hd ((hb.block _ (Zb aR.out)).trans aR.out)
 replace aO:=Hd ((hb.block _ (Zb aO.out)).trans aO.out)
 replace hB:=Hd (hB.out.trans (hb.mono hB.out.size))
 clear hb s0 s1 q0 q1 q2 q3 q4 q5 q6 q7
 have s0:=Za aS.out 0
 have s1:=Za aS.out 1
 obtain⟨q0,q1,q2,q3,q4,q5,q6,q7⟩:=hcf.out _ _ aR.out
 have hZ4:=Hd (heap_alloc_new w4 (.cells Tryz.zeroCells58 58))
 go_wp2_with ((with_reducible refine wL (.store 58 (.tmp 6) _) ?_);(refine Zc rfl 58 (.tmp 6) (.tmp 14) rfl w4.heap.size _ XA rfl rfl hZ4 iA zA h1A ?_);intro w5 hU5;have hb5:Below w4.heap.size w4 w5:=(Below.alloc (Below.refl w4.heap.size w4) nR _).trans (hU5.out.below nR);have aX:=Hd hU5.out.here;replace aS:=Hd ((hb5.block _ (Zb aS.out)).trans aS.out);replace aR:=Hd ((hb5.block _ (Zb aR.out)).trans aR.out);replace aO:=Hd ((hb5.block _ (Zb aO.out)).trans aO.out);replace hB:=Hd (hB.out.trans (hb5.mono hB.out.size));clear s0 s1 q0 q1 q2 q3 q4 q5 q6 q7 hb5;have s0:=Za aS.out 0;have s1:=Za aS.out 1;obtain⟨q0,q1,q2,q3,q4,q5,q6,q7⟩:=hcf.out _ _ aR.out;have y73:=hk73.out _ _ aX.out)
 have hlt5:=Hd (Zb aO.out)
 with_reducible refine(hcp.out _ hB.out).mono ?_
 rintro e w6 ⟨v,v',rfl,hrN,hrV,hav,hb⟩
 obtain⟨x4,c4,hv4,hnil4,_,_,hlt4⟩:=hrN.form
 obtain⟨x5,c5,hv5,_⟩:=hrV.form
 subst hv4 hv5
 obtain⟨g4,hg4⟩:∃ g4,x4=some ⟨g4,0,none⟩:=by
  cases x4 with
  | none=>have:=(hnil4 rfl).2;omega
  | some ad=>
   obtain⟨b4,o4,s4⟩:=ad
   obtain⟨rfl,rfl,_⟩:=hlt4 b4 o4 s4 rfl
   exact⟨b4,rfl⟩
 subst hg4
 have hltV:=Hd (λk (hk:(Value.slice x5 m.ens.length c5).ownBlock=some k)=>hrV.ownLt k hk)
 have hltN:=Hd (λk (hk:(Value.slice (some ⟨g4,0,none⟩) m.its.length c4).ownBlock=some k)=>hrN.ownLt k hk)
 obtain⟨C,hC⟩:∃ C:Array Value,C=#[.slice (some ⟨g4,0,none⟩) m.its.length c4,.slice x5 m.ens.length c5]:=⟨_,rfl⟩
 rw[<-hC]
 have hs56:=hb.size
 have hlo6:w.heap.size<=w5.heap.size:=hB.out.size
 replace aS:=Hd ((hb.block _ (Zb aS.out)).trans aS.out)
 replace aR:=Hd ((hb.block _ (Zb aR.out)).trans aR.out)
 replace aO:=Hd ((hb.block _ (Zb aO.out)).trans aO.out)
 replace hB:=Hd (hB.out.trans (hb.mono hB.out.size))
 clear hb s0 s1 q0 q1 q2 q3 q4 q5 q6 q7 hnil4 hlt4
 have s0:=Za aS.out 0
 have s1:=Za aS.out 1
 obtain⟨q0,q1,q2,q3,q4,q5,q6,q7⟩:=hcf.out _ _ aR.out
 have hlt6:=Hd (Zb aO.out)
 have iC:(Tryz.prog.info? 28).map (·.size)=some C.size:=by rw[hC];kernel_rfl
 have zC:(#[.slice none 0 0,.slice none 0 0]:Array Value).size=C.size:=by rw[hC];rfl
 have h1C:C.all (·.oneCell')=true:=by rw[hC];simp[Value.oneCell']
 have hC2:C.size=2:=by rw[hC];rfl
 have hkC:∀ (W:World) b,W.heap[b]? = some (.cells C 28 (0,0))->W.cell? ⟨b,0,none⟩=some (.slice (some ⟨g4,0,none⟩) m.its.length c4)/\W.cell? ⟨b,1,none⟩=some (.slice x5 m.ens.length c5):=λW b h=>by
  rw[Za h,Za h,hC]
  exact⟨sX,sX⟩
 have hZ6:=Hd (heap_alloc_new w6 (.cells #[.slice none 0 0,.slice none 0 0] 28))
 replace hC:=Hd hC
 replace hkC:=Hd hkC
 replace hrN:=Hd hrN
 replace hrV:=Hd hrV
 replace hav:=Hd hav
 replace hs56:=Hd hs56
 have hii:(i:Int)<(m.its.length:Int):=oX
 have i1b:(Tryz.prog.info? 4).map (·.size)=some 1:=kX
 have hg4l:=hltN.out g4 rfl
 go_wp2_with (first
  | ((with_reducible refine wL (.store 28 (.tmp 8) _) ?_);(refine Zc rfl 28 (.tmp 8) (.tmp 27) rfl w6.heap.size _ C rfl rfl hZ6 iC zC h1C ?_);intro w7 hU7;have hb7:Below w6.heap.size w6 w7:=(Below.alloc (Below.refl w6.heap.size w6) nR _).trans (hU7.out.below nR);have hs7:w7.heap.size=w6.heap.size+1:=hU7.out.size.trans sX;have aC:=Hd hU7.out.here;replace hrN:=Hd (hrN.out.below Qq hb7);replace hrV:=Hd (hrV.out.below Qf hb7);replace aS:=Hd ((hb7.block _ (Zb aS.out)).trans aS.out);replace aR:=Hd ((hb7.block _ (Zb aR.out)).trans aR.out);replace aO:=Hd ((hb7.block _ (Zb aO.out)).trans aO.out);replace hB:=Hd (hB.out.trans (hb7.mono hB.out.size));clear s0 s1 q0 q1 q2 q3 q4 q5 q6 q7 hb7;have s0:=Za aS.out 0;have s1:=Za aS.out 1;obtain⟨q0,q1,q2,q3,q4,q5,q6,q7⟩:=hcf.out _ _ aR.out;obtain⟨k0,k1⟩:=hkC.out _ _ aC.out;replace hs7:=Hd hs7)
  | ((with_reducible refine wL (.store 4 (.tmp 33) _) ?_);(have hcc:=JE (R:=RI) (enc:=It.list) (Ok:=It.Ok) (λ_ _ _ _=>Iff.rfl) Qq hrN.out i 73 hi _ (It.c73 (okI.out _ (List.getElem_mem hi))));(refine VD rfl 4 (.tmp 33) (.const (.bool true)) rfl g4 (i*76+73) (.bool true) rfl rfl (Hd ⟨_,hcc.1⟩) hcc.2 i1b rfl ?_);intro w8 hw8;have hO8:Only (λk=>k=g4) w7 w8:=(by rw[hw8.out];exact(Only.refl _ _).setCell _ _ (λ_=>rfl));have hrN8:=hset.out _ _ _ _ _ hrN.out;rw[<-hw8.out] at hrN8;have aC8:=Hd (hO8.heap aC.out oX);have aO8:=Hd (hO8.heap aO.out (by have:=hlt5.out;omega));replace hO8:=Hd hO8;replace hrN8:=Hd hrN8;clear hcc)
  | ((with_reducible refine wL (.load 28 (.tmp 8)) ?_);refine Zd rfl 28 (.tmp 8) rfl w6.heap.size C _ rfl aC8 Tryz.underlying28 rfl iC ?_)
  | ((with_reducible refine wL (.store 28 (.tmp 4) _) ?_);(refine Zc rfl 28 (.tmp 4) (.tmp 34) rfl (w.heap.size+2) _ C rfl rfl aO8 iC zC h1C ?_);intro w11 hU11))
 have h7o:=hs7.out
 have h5o:=hlt5.out
 have h6o:=hlt6.out
 have h56:=hs56.out
 have hO11:Only (λk=>k=w.heap.size+2) w8 w11:=Only.ofUpd hU11.out rfl
 have hrVX:=(hrV.out.only Qf hO8.out (λk hk=>hk.elim) (λk hk e=>hav.out g4 rfl (e▸hk))).only Qf hO11 (λk hk=>hk.elim) (λk hk e=>by have:=(hltV.out k hk).1;omega)
 have hrNX:=hrN8.out.only Qq hO11 (λk hk=>hk.elim) (λk hk e=>by have:=(hltN.out k hk).1;omega)
 have hBX:=(hB.out.trans (hO8.out.below (by have:=hB.out.size;omega) (λk e=>by omega))).trans (hU11.out.below oX)
 refine Zl rfl rfl Tryz.underlying28 rfl iC hU11.out.here ?_
 rw[hC.out]
 exact⟨_,_,rfl,XJ hrNX hrVX,.inl ⟨rfl,rfl⟩,hBX,XQ hrNX hrVX hlo6 hlo6⟩
theorem Rs(va:Value)(m:St)(x:Rc)(hx:x.Ok)(w:World)(ha:ArgS w va m)(l1:m.its.length<=1000)(l2:m.ens.length<=1000)(i:Nat)(hi:i<m.its.length)(hx1:x.obj=(i:Int))(h1:m.its[i].k=true)(hw:(x.way=2/\(Qa m.its[i] x.way).2=true/\m.its[i].u<=1000000)\/(x.way≠2/\m.its[i].r<=1000000))(h3:x.id=(m.ens.length:Int))(h4:x.index=(Qa m.its[i] x.way).1)(ea:Nat->Addr) :
  Calls Tryz.prog 41 #[va,.agg x.list.toArray] w (ZB ea ⟨m.its.set i (JA m.its[i] x.way),m.ens++[⟨x.id,x.obj,x.way,x.index,x.tick,0,0⟩]⟩ 0 w):=by
 have hcf:=Hd (Rc.kept0 x hx 49)
 have hcp:=λW (h:Below w.heap.size w W)=>J0 va m W (ha.below h nR) l1 l2
 have okI:=ha.okN
 have okE:=ha.okV
 have hc0:=λW h=>JL va m W (ha.below h nR) i hi l1
 rw[<-hx1] at hc0
 have hok:=ha.okN _ (List.getElem_mem hi)
 have hget:m.its[i]? = some m.its[i]:=List.getElem?_eq_getElem hi
 obtain⟨d,u,sb,hcd,hwr,hYs,hYo,hds,hlf0,hw2⟩:∃ (d:Nat) (u:Int) (sb:Bool),m.its[i].list[d]? = some (.int .i64 u)/\IntKind.i64.wrap (u+1)=u+1/\(JA m.its[i] x.way).list=m.its[i].list.set d (.int .i64 (u+1))/\(JA m.its[i] x.way).Ok/\((d=74/\sb=true)\/(d=75/\sb=false))/\(Qa m.its[i] x.way).2=true/\(x.way==2)=sb:=by
  rcases hw with ⟨hw,h2,hub⟩|⟨hw,hub⟩
  ·have e:JA m.its[i] x.way={ m.its[i] with u:=m.its[i].u+1 }:=if_pos hw
   have:=hok.u
   rw[e]
   exact⟨74,_,_,It.c74 hok,IntWalk.i64_in _ oX,It.set74 hok _,⟨hok.n,hok.s,hok.p,hok.root,hok.file,hok.t,⟨by show _<=m.its[i].u+1;omega,by show m.its[i].u+1<=_;omega⟩,hok.r⟩,.inl ⟨rfl,rfl⟩,h2,by simpa using hw⟩
  ·have e:JA m.its[i] x.way={ m.its[i] with r:=m.its[i].r+1 }:=if_neg hw
   have:=hok.r
   rw[e]
   exact⟨75,_,_,It.c75 hok,IntWalk.i64_in _ oX,It.set75 hok _,⟨hok.n,hok.s,hok.p,hok.root,hok.file,hok.t,hok.u,⟨by show _<=m.its[i].r+1;omega,by show m.its[i].r+1<=_;omega⟩⟩,.inr ⟨rfl,rfl⟩,(by unfold Qa;rw[if_neg hw]),by simpa using hw⟩
 have hset:=λ(W:World) (base g n c:Nat) (h:RowsOf RI 58 76 base W (λ_=>False) (.slice (some ⟨g,0,none⟩) n c) m.its)=>Vw (R:=RI) (enc:=It.list) (Ok:=It.Ok) (λ_ _ _ _=>Iff.rfl) (λ_ h=>It.list_length h) It.list_one dX h okI i d hi oX (.int .i64 (u+1)) rfl (JA m.its[i] x.way) hYs hYo
 obtain⟨NE,hNE⟩:∃ NE:En,NE=⟨x.id,x.obj,x.way,x.index,x.tick,0,0⟩:=⟨_,rfl⟩
 have hyE:∀ W:World,RE W (λ_=>False) NE NE.list.toArray.toList:=λW=>⟨sX,by rw[hNE];exact⟨hx.id,hx.obj,hx.way,hx.index,hx.tick,by show inI 0;decide,by show inI 0;decide⟩⟩
 have hbd:=λW=>LR x.id x.obj x.way x.index x.tick W
 rw[<-hNE] at hbd ⊢
 obtain⟨XE,hXE⟩:∃ XE,XE=NE.list.toArray:=⟨_,rfl⟩
 have hXEs:XE.size=7:=by rw[hXE];rfl
 rw[<-hXE] at hbd hyE
 have hsl:=λW=>Mi (P:=Tryz.prog) (t:=26) Tryz.underlying26 Nr dX dX XE hXEs W
 have hnx:=Hd (λW=>Gb m.its[i] hok x.way W)
 obtain⟨ITS,hITS⟩:∃ l,l=m.its.set i (JA m.its[i] x.way):=⟨_,rfl⟩
 rw[<-hITS] at hset ⊢
 have hIl:ITS.length=m.its.length:=by rw[hITS,List.length_set]
 generalize hy:m.its[i]=y at*
 obtain⟨XA,hXA⟩:∃ XA,XA=y.list.toArray:=⟨_,rfl⟩
 have hk73:∀ (W:World) b,W.heap[b]? = some (.cells XA 58 (0,0))->W.cell? ⟨b,73,none⟩=some (.bool y.k):=λW b h=>by rw[Za h,hXA,List.getElem?_toArray];exact It.c73 hok
 rw[h1] at hk73
 have iA:(Tryz.prog.info? 58).map (·.size)=some XA.size:=by rw[hXA,It.size hok];kernel_rfl
 have zA:(Tryz.zeroCells58).size=XA.size:=by rw[hXA,It.size hok];kernel_rfl
 have h1A:XA.all (·.oneCell')=true:=by rw[hXA];exact It.all_one _
 rw[<-hXA] at hc0 hnx
 obtain⟨⟨an,cn,av,cv,rfl,hN,hN1,hN2,hV,hV1,hV2⟩,okN,okV⟩:=ha
 obtain⟨N,hNl⟩:∃ N,N=m.its.length:=⟨_,rfl⟩
 obtain⟨V,hVl⟩:∃ V,V=m.ens.length:=⟨_,rfl⟩
 rw[<-hNl,<-hVl] at hc0 hcp
 rw[<-hNl,<-hVl]
 generalize hRR:x.list.toArray=R at*
 obtain⟨aS,aR,aO,hs3,hB⟩:=ZV w #[.slice an N cn,.slice av V cv] R #[.slice none 0 0,.slice none 0 0] 28 49 28 _ rfl
 obtain⟨w3,hw3⟩:∃ w3,w3=((w.alloc (.cells #[.slice an N cn,.slice av V cv] 28)).alloc (.cells R 49)).alloc (.cells #[.slice none 0 0,.slice none 0 0] 28):=⟨_,rfl⟩
 have s0:=Za aS 0
 have s1:=Za aS 1
 obtain⟨q0,q1,q2,q3,q4,q5,q6,q7⟩:=hcf.out _ _ aR
 rw[<-hw3] at aS aR aO hB
 obtain⟨ix,lf,hnx2⟩:∃ ix lf,Qa y x.way=(ix,lf):=⟨_,_,rfl⟩
 have hlf:lf=true:=by rw[hnx2] at hlf0;exact hlf0
 subst hlf
 rw[hnx2] at hnx h4
 replace h4:x.index=ix:=h4
 clear hlf0 hYs hYo hw
 replace hcd:=Hd hcd
 replace hds:=Hd hds
 replace hnx2:=Hd hnx2
 have hof:(x.id != (V:Int))=false:=by rw[hVl,h3];simp
 have hoi:(x.index != ix)=false:=by rw[h4];simp
 generalize x.tick=vt at*
 generalize x.obj=vo at*
 generalize x.id=vi at*
 generalize x.way=vw at*
 generalize x.index=vx at*
 generalize x.name=vn at*
 subst hx1
 subst h4
 replace hc0:=Hd hc0
 replace hcp:=Hd hcp
 replace aS:=Hd aS
 replace aR:=Hd aR
 replace aO:=Hd aO
 replace hB:=Hd hB
 replace hw3:=Hd hw3
 replace okI:=Hd okI
 replace okE:=Hd okE
 replace hNl:=Hd hNl
 replace hVl:=Hd hVl
 replace hk73:=Hd hk73
 replace hset:=Hd hset
 replace hITS:=Hd hITS
 replace hIl:=Hd hIl
 replace hget:=Hd hget
 replace hy:=Hd hy
 replace hbd:=Hd hbd
 replace hsl:=Hd hsl
 replace hyE:=Hd hyE
 replace hNE:=Hd hNE
 replace hXE:=Hd hXE
 clear hRR hN hV hN1 hN2 hV1 hV2 okN okV hs3 hXA h1 h3
 go_enter Tryz.func41,Tryz.ntmps41
 go_wp2_with fail
 rw[<-hw3.out]
 with_reducible refine(hc0.out _ hB.out).mono ?_
 rintro e w4 ⟨rfl,hb⟩
 replace aS:=Hd ((hb.block _ (Zb aS.out)).trans aS.out)
 replace aR:=Hd ((hb.block _ (Zb aR.out)).trans aR.out)
 replace aO:=Hd ((hb.block _ (Zb aO.out)).trans aO.out)
 replace hB:=Hd (hB.out.trans (hb.mono hB.out.size))
 clear hb s0 s1 q0 q1 q2 q3 q4 q5 q6 q7
 have s0:=Za aS.out 0
 have s1:=Za aS.out 1
 obtain⟨q0,q1,q2,q3,q4,q5,q6,q7⟩:=hcf.out _ _ aR.out
 have hZ4:=Hd (heap_alloc_new w4 (.cells Tryz.zeroCells58 58))
 go_wp2_with (first
  | ((with_reducible refine wL (.store 58 (.tmp 6) _) ?_);(refine Zc rfl 58 (.tmp 6) (.tmp 16) rfl w4.heap.size _ XA rfl rfl hZ4 iA zA h1A ?_);intro w5 hU5;have hb5:Below w4.heap.size w4 w5:=(Below.alloc (Below.refl w4.heap.size w4) nR _).trans (hU5.out.below nR);have aX:=Hd hU5.out.here;replace aS:=Hd ((hb5.block _ (Zb aS.out)).trans aS.out);replace aR:=Hd ((hb5.block _ (Zb aR.out)).trans aR.out);replace aO:=Hd ((hb5.block _ (Zb aO.out)).trans aO.out);replace hB:=Hd (hB.out.trans (hb5.mono hB.out.size));clear s0 s1 q0 q1 q2 q3 q4 q5 q6 q7 hb5;have s0:=Za aS.out 0;have s1:=Za aS.out 1;obtain⟨q0,q1,q2,q3,q4,q5,q6,q7⟩:=hcf.out _ _ aR.out;have y73:=hk73.out _ _ aX.out)
  | ((with_reducible refine wL (.load 58 (.tmp 6)) ?_);refine Zd rfl 58 (.tmp 6) rfl w4.heap.size XA _ rfl aX Tryz.underlying58 rfl iA ?_))
 with_reducible refine(hnx.out _).mono ?_
 rintro e w5b ⟨rfl,hb⟩
 replace aX:=Hd ((hb.block _ (Zb aX.out)).trans aX.out)
 replace aS:=Hd ((hb.block _ (Zb aS.out)).trans aS.out)
 replace aR:=Hd ((hb.block _ (Zb aR.out)).trans aR.out)
 replace aO:=Hd ((hb.block _ (Zb aO.out)).trans aO.out)
 replace hB:=Hd (hB.out.trans (hb.mono hB.out.size))
 clear hb s0 s1 q0 q1 q2 q3 q4 q5 q6 q7 y73 hU5
 have s0:=Za aS.out 0
 have s1:=Za aS.out 1
 obtain⟨q0,q1,q2,q3,q4,q5,q6,q7⟩:=hcf.out _ _ aR.out
 have y73:=hk73.out _ _ aX.out
 obtain⟨w5,hw5⟩:∃ W,W=w5b:=⟨_,rfl⟩
 subst hw5
 go_wp2_with fail
 have hlt5:=Hd (Zb aO.out)
 with_reducible refine(hcp.out _ hB.out).mono ?_
 rintro e w6 ⟨v,v',rfl,hrN,hrV,hav,hb⟩
 obtain⟨x4,c4,hv4,hnil4,_,_,hlt4⟩:=hrN.form
 obtain⟨x5,c5,hv5,_⟩:=hrV.form
 subst hv4 hv5
 obtain⟨g4,hg4⟩:∃ g4,x4=some ⟨g4,0,none⟩:=by
  cases x4 with
  | none=>have:=(hnil4 rfl).2;omega
  | some ad=>
   obtain⟨b4,o4,s4⟩:=ad
   obtain⟨rfl,rfl,_⟩:=hlt4 b4 o4 s4 rfl
   exact⟨b4,rfl⟩
 subst hg4
 have hltV:=Hd (λk (hk:(Value.slice x5 m.ens.length c5).ownBlock=some k)=>hrV.ownLt k hk)
 have hltN:=Hd (λk (hk:(Value.slice (some ⟨g4,0,none⟩) m.its.length c4).ownBlock=some k)=>hrN.ownLt k hk)
 obtain⟨C,hC⟩:∃ C:Array Value,C=#[.slice (some ⟨g4,0,none⟩) m.its.length c4,.slice x5 m.ens.length c5]:=⟨_,rfl⟩
 rw[<-hC]
 have hs56:=hb.size
 have hlo6:w.heap.size<=w5.heap.size:=hB.out.size
 replace aS:=Hd ((hb.block _ (Zb aS.out)).trans aS.out)
 replace aR:=Hd ((hb.block _ (Zb aR.out)).trans aR.out)
 replace aO:=Hd ((hb.block _ (Zb aO.out)).trans aO.out)
 replace hB:=Hd (hB.out.trans (hb.mono hB.out.size))
 clear hb s0 s1 q0 q1 q2 q3 q4 q5 q6 q7 hnil4 hlt4
 have s0:=Za aS.out 0
 have s1:=Za aS.out 1
 obtain⟨q0,q1,q2,q3,q4,q5,q6,q7⟩:=hcf.out _ _ aR.out
 have hlt6:=Hd (Zb aO.out)
 have iC:(Tryz.prog.info? 28).map (·.size)=some C.size:=by rw[hC];kernel_rfl
 have zC:(#[.slice none 0 0,.slice none 0 0]:Array Value).size=C.size:=by rw[hC];rfl
 have h1C:C.all (·.oneCell')=true:=by rw[hC];simp[Value.oneCell']
 have hC2:C.size=2:=by rw[hC];rfl
 have hkC:∀ (W:World) b,W.heap[b]? = some (.cells C 28 (0,0))->W.cell? ⟨b,0,none⟩=some (.slice (some ⟨g4,0,none⟩) m.its.length c4)/\W.cell? ⟨b,1,none⟩=some (.slice x5 m.ens.length c5):=λW b h=>by
  rw[Za h,Za h,hC]
  exact⟨sX,sX⟩
 have hZ6:=Hd (heap_alloc_new w6 (.cells #[.slice none 0 0,.slice none 0 0] 28))
 replace hC:=Hd hC
 replace hkC:=Hd hkC
 replace hrN:=Hd hrN
 replace hrV:=Hd hrV
 replace hav:=Hd hav
 replace hs56:=Hd hs56
 have hF0:=Hd (show ∀ k:Nat,(λ_:Nat=>False) k->(λ_:Nat=>False) k from λ_ h=>h)
 have hln:m.ens.length<=1000000:=oX
 have hii:(i:Int)<(m.its.length:Int):=oX
 have i1i:(Tryz.prog.info? 3).map (·.size)=some 1:=kX
 have hg4l:=hltN.out g4 rfl
 rcases hds.out with ⟨rfl,rfl⟩|⟨rfl,rfl⟩
 all_goals
  go_wp2_with (first
   | ((with_reducible refine wL (.store 28 (.tmp 10) _) ?_);(refine Zc rfl 28 (.tmp 10) (.tmp 56) rfl w6.heap.size _ C rfl rfl hZ6 iC zC h1C ?_);intro w7 hU7;have hb7:Below w6.heap.size w6 w7:=(Below.alloc (Below.refl w6.heap.size w6) nR _).trans (hU7.out.below nR);have hs7:w7.heap.size=w6.heap.size+1:=hU7.out.size.trans sX;have aC:=Hd hU7.out.here;replace hrN:=Hd (hrN.out.below Qq hb7);replace hrV:=Hd (hrV.out.below Qf hb7);replace aS:=Hd ((hb7.block _ (Zb aS.out)).trans aS.out);replace aR:=Hd ((hb7.block _ (Zb aR.out)).trans aR.out);replace aO:=Hd ((hb7.block _ (Zb aO.out)).trans aO.out);replace hB:=Hd (hB.out.trans (hb7.mono hB.out.size));clear s0 s1 q0 q1 q2 q3 q4 q5 q6 q7 hb7;have s0:=Za aS.out 0;have s1:=Za aS.out 1;obtain⟨q0,q1,q2,q3,q4,q5,q6,q7⟩:=hcf.out _ _ aR.out;obtain⟨k0,k1⟩:=hkC.out _ _ aC.out;replace hs7:=Hd hs7)
   | ((with_reducible refine wL (.build 66 _) ?_);refine Z3 rfl 66 [(0,.tmp 60),(1,.tmp 62),(2,.tmp 64),(3,.tmp 65),(4,.tmp 67)] rfl [(0,.int .i64 vi),(1,.int .i64 (i:Int)),(2,.int .i64 vw),(3,.int .i64 vx),(4,.int .i64 vt)] rfl _ (hbd.out _) ?_)
   | ((with_reducible refine wL (.buildSlice _ _ _) ?_);refine U3 rfl 26 1 [(0,.tmp 68)] rfl [(0,.agg XE)] rfl _ _ (hsl.out _) ?_)
   | (at_builtin;refine Yb (P:=Tryz.prog) (R:=RE) (e:=66) (size:=7) (base:=w5.heap.size) (F:=λ_=>False) (F':=λ_=>False) rfl Qf (.tmp 58) (.tmp 69) 26 rfl Tryz.underlying26 56 Nr dX rfl hrV NE XE (Hd (hyE.out w7)) hF0 (Hd (λ_ _ h=>h)) (Hd (λ_ h=>h.elim)) rfl hln dX (by have:=hs7.out;have:=hs56.out;omega) ?_;intro v9 w9 hr9 hO9 hM9;obtain⟨a9,n9,c9,hv9⟩:∃ a n c,v9=.slice a n c:=(by obtain⟨a,c,e,_⟩:=hr9.out.form;exact⟨a,_,c,e⟩);subst hv9;have h9:=Hd (hO9.out.heap aC.out (λe=>by have:=(hltV.out _ e).2;omega)))
   | ((with_reducible refine wL (.store 26 (.tmp 71) _) ?_);(refine J6 rfl 26 28 (.tmp 71) (.tmp 70) rfl w6.heap.size 1 C (.slice a9 n9 c9) rfl rfl h9 (by rw[hC2];decide) kX rfl ?_);intro w10 hU10;have hat10:=hU10.out.here;rw[hC.out] at hat10;obtain⟨CM,hCM⟩:∃ CM:Array Value,CM=#[.slice (some ⟨g4,0,none⟩) m.its.length c4,.slice a9 n9 c9]:=⟨_,rfl⟩;replace hat10:w10.heap[w6.heap.size]? = some (.cells CM 28 (0,0)):=(by rw[hCM];simpa using hat10);have iM:(Tryz.prog.info? 28).map (·.size)=some CM.size:=(by rw[hCM];kernel_rfl);have zM:(#[.slice none 0 0,.slice none 0 0]:Array Value).size=CM.size:=(by rw[hCM];rfl);have h1M:CM.all (·.oneCell')=true:=(by rw[hCM];simp[Value.oneCell']);have hO10:Only (λk=>k=w6.heap.size) w9 w10:=Only.ofUpd hU10.out rfl;have hrN10:=(hrN.out.only Qq hO9.out (λk hk=>hk.elim) (λk hk e=>hav.out k hk e)).only Qq hO10 (λk hk=>hk.elim) (λk hk e=>by have:=(hltN.out k hk).2;omega);have j0:w10.cell? ⟨w6.heap.size,0,none⟩=some (.slice (some ⟨g4,0,none⟩) m.its.length c4):=(by rw[Za hat10,hCM];simp);have hcc:=JE (R:=RI) (enc:=It.list) (Ok:=It.Ok) (λ_ _ _ _=>Iff.rfl) Qq hrN10 i _ hi _ (by rw[hy.out];exact hcd.out);have hce:=hcc.1;have aO10:Hid (w10.heap[w.heap.size+2]? = some (.cells #[.slice none 0 0,.slice none 0 0] 28 (0,0))):=Hd ((hU10.out.block _ (by have:=hlt6.out;omega)).trans (hO9.out.heap aO.out (λe=>by have:=(hltV.out _ e).1;have:=hlt5.out;omega)));have aR10:=(hU10.out.block _ (by have:=hlt6.out;omega)).trans (hO9.out.heap aR.out (λe=>by have:=(hltV.out _ e).1;have:=hlt5.out;omega));clear s0 s1 q0 q1 q2 q3 q4 q5 q6 q7 k0 k1;obtain⟨q0,q1,q2,q3,q4,q5,q6,q7⟩:=hcf.out _ _ aR10;replace hat10:=Hd hat10;replace hCM:=Hd hCM;replace hrN10:=Hd hrN10;replace hO10:=Hd hO10;have hfr:=hcc.2;replace hcc:=Hd hcc;clear aR10)
   | ((with_reducible refine wL (.store 3 _ _) ?_);(refine VD rfl 3 (.tmp _) (.tmp _) rfl g4 (i*76+_) (.int .i64 (u+1)) rfl rfl (Hd ⟨_,hcc.out.1⟩) hcc.out.2 i1i rfl ?_);intro w12 hw12;have hO12:Only (λk=>k=g4) w10 w12:=(by rw[hw12.out];exact(Only.refl _ _).setCell _ _ (λ_=>rfl));have hrN12:=hset.out _ _ _ _ _ hrN10.out;rw[<-hw12.out] at hrN12;have aC12:=Hd (hO12.heap hat10.out oX);have aO12:=Hd (hO12.heap aO10.out (by have:=hlt5.out;omega));replace hO12:=Hd hO12;replace hrN12:=Hd hrN12)
   | ((with_reducible refine wL (.load 28 (.tmp 10)) ?_);refine Zd rfl 28 (.tmp 10) rfl w6.heap.size CM _ rfl aC12 Tryz.underlying28 rfl iM ?_)
   | ((with_reducible refine wL (.store 28 (.tmp 4) _) ?_);(refine Zc rfl 28 (.tmp 4) (.tmp 95) rfl (w.heap.size+2) _ CM rfl rfl aO12 iM zM h1M ?_);intro w11 hU11))
  have h7o:=hs7.out
  have h5o:=hlt5.out
  have h6o:=hlt6.out
  have h56:=hs56.out
  have hO11:Only (λk=>k=w.heap.size+2) w12 w11:=Only.ofUpd hU11.out rfl
  have hrVX:=((hr9.out.only Qf hO10.out (λk hk=>hk.elim) (λk hk e=>by
   rcases hM9.out k hk with h|h
   ·have:=(hltV.out k h).2;omega
   ·omega)).only Qf hO12.out (λk hk=>hk.elim) (λk hk e=>by
   rcases hM9.out k hk with h|h
   ·exact hav.out g4 rfl (e▸h)
   ·omega)).only Qf hO11 (λk hk=>hk.elim) (λk hk e=>by
   rcases hM9.out k hk with h|h
   ·have:=(hltV.out k h).1;omega
   ·omega)
  have hrNX:=hrN12.out.only Qq hO11 (λk hk=>hk.elim) (λk hk e=>by have:=(hltN.out k hk).1;omega)
  have hBX:=(((hB.out.trans (hO9.out.below (by have:=hB.out.size;omega) (λk hk=>by have:=(hltV.out k hk).1;omega))).trans (hU10.out.below oX)).trans (hO12.out.below (by have:=hB.out.size;have:=hO9.out.size;have:=hU10.out.size;omega) (λk e=>by omega))).trans (hU11.out.below oX)
  refine Zl rfl rfl Tryz.underlying28 rfl iM hU11.out.here ?_
  rw[hCM.out]
  exact⟨_,_,rfl,XJ hrNX hrVX,.inl ⟨rfl,rfl⟩,hBX,XQ hrNX hrVX hlo6 hlo6⟩
theorem HG(va:Value)(m:St)(x:Rc)(hx:x.Ok)(w:World)(ha:ArgS w va m)(l1:m.its.length<=1000)(l2:m.ens.length<=1000)(i:Nat)(hi:i<m.ens.length)(hx1:x.id=(i:Int))(h1:m.ens[i].o=x.obj)(h2:m.ens[i].v=0)(ea:Nat->Addr) :
  Calls Tryz.prog 43 #[va,.agg x.list.toArray] w (ZB ea ⟨m.its,m.ens.set i { m.ens[i] with v:=x.verdict,a:=x.tick }⟩ 0 w):=by
 have hcf:=Hd (Rc.kept0 x hx 49)
 have hcp:=λW (h:Below w.heap.size w W)=>J0 va m W (ha.below h nR) l1 l2
 have okE:=ha.okV
 have hc0:=λW h=>KV va m W (ha.below h nR) i hi l2
 rw[<-hx1] at hc0
 have hok:=ha.okV _ (List.getElem_mem hi)
 have hset1:=λ(W:World) (base g n c:Nat) (h:RowsOf RE 66 7 base W (λ_=>False) (.slice (some ⟨g,0,none⟩) n c) m.ens)=>Vw (R:=RE) (enc:=En.list) (Ok:=En.Ok) (λ_ _ _ _=>Iff.rfl) (λ_ _=>rfl) En.list_one dX h okE i 5 hi dX (.int .i64 x.verdict) rfl { m.ens[i] with v:=x.verdict } rfl ⟨hok.1,hok.2.1,hok.2.2.1,hok.2.2.2.1,hok.2.2.2.2.1,hx.verdict,hok.2.2.2.2.2.2⟩
 obtain⟨E1,hE1⟩:∃ l,l=m.ens.set i { m.ens[i] with v:=x.verdict }:=⟨_,rfl⟩
 have hE1l:E1.length=m.ens.length:=by rw[hE1,List.length_set]
 have hi1:i<E1.length:=oX
 have hg1:E1[i]={ m.ens[i] with v:=x.verdict }:=by simp[hE1]
 have ok1:∀ y∈E1,y.Ok:=λy hy=>by
  rw[hE1] at hy
  rcases List.mem_or_eq_of_mem_set hy with h|h
  ·exact okE _ h
  ·rw[h];exact⟨hok.1,hok.2.1,hok.2.2.1,hok.2.2.2.1,hok.2.2.2.2.1,hx.verdict,hok.2.2.2.2.2.2⟩
 have hset2:=λ(W:World) (base g n c:Nat) (h:RowsOf RE 66 7 base W (λ_=>False) (.slice (some ⟨g,0,none⟩) n c) E1)=>Vw (R:=RE) (enc:=En.list) (Ok:=En.Ok) (λ_ _ _ _=>Iff.rfl) (λ_ _=>rfl) En.list_one dX h ok1 i 6 hi1 dX (.int .i64 x.tick) rfl { m.ens[i] with v:=x.verdict,a:=x.tick } (by rw[hg1];rfl) ⟨hok.1,hok.2.1,hok.2.2.1,hok.2.2.2.1,hok.2.2.2.2.1,hx.verdict,hx.tick⟩
 have hE2:E1.set i { m.ens[i] with v:=x.verdict,a:=x.tick }=m.ens.set i { m.ens[i] with v:=x.verdict,a:=x.tick }:=by rw[hE1,List.set_set]
 rw[hE2] at hset2
 rw[<-hE1] at hset1
 obtain⟨ENS,hENS⟩:∃ l,l=m.ens.set i { m.ens[i] with v:=x.verdict,a:=x.tick }:=⟨_,rfl⟩
 rw[<-hENS] at hset2 ⊢
 have hcl1:∀ (W:World) (base g n c:Nat),RowsOf RE 66 7 base W (λ_=>False) (.slice (some ⟨g,0,none⟩) n c) m.ens->(∃ u,W.cell? ⟨g,i*7+5,none⟩=some u)/\W.frozen? ⟨g,i*7+5,none⟩=false:=λW base g n c h=>by
  have:=JE (R:=RE) (enc:=En.list) (Ok:=En.Ok) (λ_ _ _ _=>Iff.rfl) Qf h i 5 hi _ rfl
  exact⟨⟨_,this.1⟩,this.2⟩
 have hcl2:∀ (W:World) (base g n c:Nat),RowsOf RE 66 7 base W (λ_=>False) (.slice (some ⟨g,0,none⟩) n c) E1->(∃ u,W.cell? ⟨g,i*7+6,none⟩=some u)/\W.frozen? ⟨g,i*7+6,none⟩=false:=λW base g n c h=>by
  have:=JE (R:=RE) (enc:=En.list) (Ok:=En.Ok) (λ_ _ _ _=>Iff.rfl) Qf h i 6 hi1 _ rfl
  exact⟨⟨_,this.1⟩,this.2⟩
 generalize hy:m.ens[i]=y at*
 obtain⟨XA,hXA⟩:∃ XA,XA=y.list.toArray:=⟨_,rfl⟩
 have hk1:∀ (W:World) b,W.heap[b]? = some (.cells XA 66 (0,0))->W.cell? ⟨b,1,none⟩=some (.int .i64 y.o)/\W.cell? ⟨b,5,none⟩=some (.int .i64 y.v):=λW b h=>by
  rw[Za h,Za h,hXA,List.getElem?_toArray,List.getElem?_toArray]
  exact⟨rfl,rfl⟩
 have hof:(y.o != x.obj)=false:=by rw[h1];simp
 rw[h2] at hk1
 have iA:(Tryz.prog.info? 66).map (·.size)=some XA.size:=by rw[hXA];kernel_rfl
 have zA:(#[.int .i64 0,.int .i64 0,.int .i64 0,.int .i64 0,.int .i64 0,.int .i64 0,.int .i64 0]:Array Value).size=XA.size:=by rw[hXA];rfl
 have h1A:XA.all (·.oneCell')=true:=by rw[hXA];exact Go.Proofs.YtpdhceiodgnbmaaGreatDoor.all_one (En.list_one _)
 rw[<-hXA] at hc0
 obtain⟨⟨an,cn,av,cv,rfl,hN,hN1,hN2,hV,hV1,hV2⟩,okN,okV⟩:=ha
 obtain⟨N,hNl⟩:∃ N,N=m.its.length:=⟨_,rfl⟩
 obtain⟨V,hVl⟩:∃ V,V=m.ens.length:=⟨_,rfl⟩
 rw[<-hNl,<-hVl] at hc0 hcp
 rw[<-hNl,<-hVl]
 generalize hRR:x.list.toArray=R at*
 obtain⟨aS,aR,aO,hs3,hB⟩:=ZV w #[.slice an N cn,.slice av V cv] R #[.slice none 0 0,.slice none 0 0] 28 49 28 _ rfl
 obtain⟨w3,hw3⟩:∃ w3,w3=((w.alloc (.cells #[.slice an N cn,.slice av V cv] 28)).alloc (.cells R 49)).alloc (.cells #[.slice none 0 0,.slice none 0 0] 28):=⟨_,rfl⟩
 have s0:=Za aS 0
 have s1:=Za aS 1
 obtain⟨q0,q1,q2,q3,q4,q5,q6,q7⟩:=hcf.out _ _ aR
 rw[<-hw3] at aS aR aO hB
 generalize x.obj=vo at*
 generalize x.id=vi at*
 generalize x.way=vw at*
 generalize x.index=vx at*
 generalize x.name=vn at*
 generalize x.verdict=vv at*
 generalize x.tick=vt at*
 generalize y.o=yo at*
 subst hx1
 replace hc0:=Hd hc0
 replace hcp:=Hd hcp
 replace aS:=Hd aS
 replace aR:=Hd aR
 replace aO:=Hd aO
 replace hB:=Hd hB
 replace hw3:=Hd hw3
 replace hNl:=Hd hNl
 replace hVl:=Hd hVl
 replace hset1:=Hd hset1
 replace hset2:=Hd hset2
 replace hcl1:=Hd hcl1
 replace hcl2:=Hd hcl2
 replace hk1:=Hd hk1
 replace hE1:=Hd hE1
 replace hE1l:=Hd hE1l
 replace hENS:=Hd hENS
 replace hy:=Hd hy
 clear hRR hN hV hN1 hN2 hV1 hV2 okN okV hs3 hXA h1 h2 hE2 hg1 ok1 okE hi1
 go_enter Tryz.func43,Tryz.ntmps43
 go_wp2_with fail
 rw[<-hw3.out]
 with_reducible refine(hc0.out _ hB.out).mono ?_
 rintro e w4 ⟨rfl,hb⟩
 replace aS:=Hd ((hb.block _ (Zb aS.out)).trans aS.out)
 replace aR:=Hd ((hb.block _ (Zb aR.out)).trans aR.out)
 replace aO:=Hd ((hb.block _ (Zb aO.out)).trans aO.out)
 replace hB:=Hd (hB.out.trans (hb.mono hB.out.size))
 clear hb s0 s1 q0 q1 q2 q3 q4 q5 q6 q7
 have s0:=Za aS.out 0
 have s1:=Za aS.out 1
 obtain⟨q0,q1,q2,q3,q4,q5,q6,q7⟩:=hcf.out _ _ aR.out
 have hZ4:=Hd (heap_alloc_new w4 (.cells #[.int .i64 0,.int .i64 0,.int .i64 0,.int .i64 0,.int .i64 0,.int .i64 0,.int .i64 0] 66))
 go_wp2_with ((with_reducible refine wL (.store 66 (.tmp 6) _) ?_);(refine Zc rfl 66 (.tmp 6) (.tmp 14) rfl w4.heap.size _ XA rfl rfl hZ4 iA zA h1A ?_);intro w5 hU5;have hb5:Below w4.heap.size w4 w5:=(Below.alloc (Below.refl w4.heap.size w4) nR _).trans (hU5.out.below nR);have aX:=Hd hU5.out.here;replace aS:=Hd ((hb5.block _ (Zb aS.out)).trans aS.out);replace aR:=Hd ((hb5.block _ (Zb aR.out)).trans aR.out);replace aO:=Hd ((hb5.block _ (Zb aO.out)).trans aO.out);replace hB:=Hd (hB.out.trans (hb5.mono hB.out.size));clear s0 s1 q0 q1 q2 q3 q4 q5 q6 q7 hb5;have s0:=Za aS.out 0;have s1:=Za aS.out 1;obtain⟨q0,q1,q2,q3,q4,q5,q6,q7⟩:=hcf.out _ _ aR.out;obtain⟨y1,y5⟩:=hk1.out _ _ aX.out)
 have hlt5:=Hd (Zb aO.out)
 with_reducible refine(hcp.out _ hB.out).mono ?_
 rintro e w6 ⟨v,v',rfl,hrN,hrV,hav,hb⟩
 obtain⟨x4,c4,hv4,_⟩:=hrN.form
 obtain⟨x5,c5,hv5,hnil5,_,_,hlt5v⟩:=hrV.form
 subst hv4 hv5
 obtain⟨g5,hg5⟩:∃ g5,x5=some ⟨g5,0,none⟩:=by
  cases x5 with
  | none=>have:=(hnil5 rfl).2;omega
  | some ad=>
   obtain⟨b4,o4,s4⟩:=ad
   obtain⟨rfl,rfl,_⟩:=hlt5v b4 o4 s4 rfl
   exact⟨b4,rfl⟩
 subst hg5
 have hltV:=Hd (λk (hk:(Value.slice (some ⟨g5,0,none⟩) m.ens.length c5).ownBlock=some k)=>hrV.ownLt k hk)
 have hltN:=Hd (λk (hk:(Value.slice x4 m.its.length c4).ownBlock=some k)=>hrN.ownLt k hk)
 obtain⟨C,hC⟩:∃ C:Array Value,C=#[.slice x4 m.its.length c4,.slice (some ⟨g5,0,none⟩) m.ens.length c5]:=⟨_,rfl⟩
 rw[<-hC]
 have hs56:=hb.size
 have hlo6:w.heap.size<=w5.heap.size:=hB.out.size
 replace aS:=Hd ((hb.block _ (Zb aS.out)).trans aS.out)
 replace aR:=Hd ((hb.block _ (Zb aR.out)).trans aR.out)
 replace aO:=Hd ((hb.block _ (Zb aO.out)).trans aO.out)
 replace hB:=Hd (hB.out.trans (hb.mono hB.out.size))
 clear hb s0 s1 q0 q1 q2 q3 q4 q5 q6 q7 hnil5 hlt5v y1 y5
 have s0:=Za aS.out 0
 have s1:=Za aS.out 1
 obtain⟨q0,q1,q2,q3,q4,q5,q6,q7⟩:=hcf.out _ _ aR.out
 have hlt6:=Hd (Zb aO.out)
 have iC:(Tryz.prog.info? 28).map (·.size)=some C.size:=by rw[hC];kernel_rfl
 have zC:(#[.slice none 0 0,.slice none 0 0]:Array Value).size=C.size:=by rw[hC];rfl
 have h1C:C.all (·.oneCell')=true:=by rw[hC];simp[Value.oneCell']
 have hkC:∀ (W:World) b,W.heap[b]? = some (.cells C 28 (0,0))->W.cell? ⟨b,0,none⟩=some (.slice x4 m.its.length c4)/\W.cell? ⟨b,1,none⟩=some (.slice (some ⟨g5,0,none⟩) m.ens.length c5):=λW b h=>by
  rw[Za h,Za h,hC]
  exact⟨sX,sX⟩
 have hZ6:=Hd (heap_alloc_new w6 (.cells #[.slice none 0 0,.slice none 0 0] 28))
 replace hC:=Hd hC
 replace hkC:=Hd hkC
 replace hrN:=Hd hrN
 replace hrV:=Hd hrV
 replace hav:=Hd hav
 replace hs56:=Hd hs56
 have hg5l:=hltV.out g5 rfl
 have hii:(i:Int)<(m.ens.length:Int):=oX
 have i1i:(Tryz.prog.info? 3).map (·.size)=some 1:=kX
 go_wp2_with ((with_reducible refine wL (.store 28 (.tmp 8) _) ?_);(refine Zc rfl 28 (.tmp 8) (.tmp 35) rfl w6.heap.size _ C rfl rfl hZ6 iC zC h1C ?_);intro w7 hU7;have hb7:Below w6.heap.size w6 w7:=(Below.alloc (Below.refl w6.heap.size w6) nR _).trans (hU7.out.below nR);have hs7:w7.heap.size=w6.heap.size+1:=hU7.out.size.trans sX;have aC:=Hd hU7.out.here;replace hrN:=Hd (hrN.out.below Qq hb7);replace hrV:=Hd (hrV.out.below Qf hb7);replace aS:=Hd ((hb7.block _ (Zb aS.out)).trans aS.out);replace aR:=Hd ((hb7.block _ (Zb aR.out)).trans aR.out);replace aO:=Hd ((hb7.block _ (Zb aO.out)).trans aO.out);replace hB:=Hd (hB.out.trans (hb7.mono hB.out.size));clear s0 s1 q0 q1 q2 q3 q4 q5 q6 q7 hb7;replace hs7:=Hd hs7)
 have hd0:Hid (Only (λk=>k=g5) w7 w7.drew):=Hd (Only.refl _ _).drew
 have hl5:=hlt5.out
 have kC:∀ W,Only (λk=>k=g5) w7 W->W.cell? ⟨w6.heap.size,1,none⟩=some (.slice (some ⟨g5,0,none⟩) m.ens.length c5):=λW h=>(hkC.out W _ (h.heap aC.out oX)).2
 have kR:∀ W,Only (λk=>k=g5) w7 W->W.cell? ⟨w.heap.size+1,2,none⟩=some (.int .i64 (i:Int))/\W.cell? ⟨w.heap.size+1,76,none⟩=some (.int .i64 vv)/\W.cell? ⟨w.heap.size+1,77,none⟩=some (.int .i64 vt):=λW h=>by
  obtain⟨_,_,q2,_,_,_,q6,q7⟩:=hcf.out _ _ (h.heap aR.out oX)
  exact⟨q2,q6,q7⟩
 have kR2:=λW h=>(kR W h).1
 have kR6:=λW h=>(kR W h).2.1
 have kR7:=λW h=>(kR W h).2.2
 clear kR
 replace hrV:Hid (RowsOf RE 66 7 w5.heap.size w7.drew (λ_=>False) (.slice (some ⟨g5,0,none⟩) m.ens.length c5) m.ens):=Hd (hrV.out.only Qf (Only.refl (λ_=>False) _).drew (λk hk=>hk.elim) (λk hk e=>e))
 refine wp_region_held_drew (S:=(Only (λk=>k=g5) w7)) kX hd0.out (λhOn=>?_)
 generalize World.drew w7=wd at*
 refine tk 0 hOn ?_
 refine tk 1 hOn ?_
 refine tk 2 hOn ?_
 refine tk 3 hOn ?_
 refine tk 4 hOn ?_
 refine tk 5 hOn ?_
 refine tk 6 hOn ?_
 refine tk 7 hOn ?_
 refine tk 8 hOn ?_
 refine tk 9 hOn ?_
 refine tk 10 hOn ?_
 refine tk 11 hOn ?_
 refine tk 12 hOn ?_
 refine tk 13 hOn ?_
 refine rd 14 (λKz hKz=>?_)
 rw[if_pos (by rfl)]
 (have hcc:=hcl1.out _ _ _ _ _ hrV.out)
 (with_reducible refine VL 3 (.tmp 49) (.tmp 45) rfl g5 (i*7+5) (.int .i64 vv) rfl rfl (Hd hcc.1) hcc.2 i1i T6 ?_)
 intro w9 hw9
 (have hr9:=hset1.out _ _ _ _ _ hrV.out)
 rw[<-hw9.out] at hr9
 have hO9:Only (λk=>k=g5) wd w9:=(by rw[hw9.out];exact(Only.refl _ _).setCell _ _ (λ_=>rfl))
 have hS:=hOn.trans hO9 (λ_ _ e=>e)
 replace hr9:=Hd hr9
 clear hcc
 refine hKz.out _ _ hS ?_
 clear hKz Kz hOn hS
 intro hOn
 try simp only[Act.put]
 refine tk 15 hOn ?_
 refine tk 16 hOn ?_
 refine rd 17 (λKz hKz=>?_)
 rw[if_pos (by rfl)]
 (have hcc:=hcl2.out _ _ _ _ _ hr9.out)
 (with_reducible refine VL 3 (.tmp 51) (.tmp 47) rfl g5 (i*7+6) (.int .i64 vt) rfl rfl (Hd hcc.1) hcc.2 i1i T6 ?_)
 intro w10 hw10
 (have hr10:=hset2.out _ _ _ _ _ hr9.out)
 rw[<-hw10.out] at hr10
 have hO10:Only (λk=>k=g5) w9 w10:=(by rw[hw10.out];exact(Only.refl _ _).setCell _ _ (λ_=>rfl))
 have hS:=hOn.trans hO10 (λ_ _ e=>e)
 replace hr10:=Hd hr10
 clear hcc
 refine hKz.out _ _ hS ?_
 clear hKz Kz hOn hS
 intro hOn
 try simp only[Act.put]
 refine dnE ?_
 all_goals
  have aC10:=Hd (hOn.heap aC.out oX)
  have aO10:=Hd (hOn.heap aO.out oX)
  go_wp2_with (first
   | ((with_reducible refine wL (.load 28 (.tmp 8)) ?_);refine Zd rfl 28 (.tmp 8) rfl w6.heap.size C _ rfl aC10 Tryz.underlying28 rfl iC ?_)
   | ((with_reducible refine wL (.store 28 (.tmp 4) _) ?_);(refine Zc rfl 28 (.tmp 4) (.tmp 52) rfl (w.heap.size+2) _ C rfl rfl aO10 iC zC h1C ?_);intro w11 hU11))
  have h7o:=hs7.out
  have h6o:=hlt6.out
  have h56:=hs56.out
  have hO11:Only (λk=>k=w.heap.size+2) w10 w11:=Only.ofUpd hU11.out rfl
  have hrNX:=(hrN.out.only Qq hOn (λk hk=>hk.elim) (λk hk e=>hav.out k hk (e▸rfl))).only Qq hO11 (λk hk=>hk.elim) (λk hk e=>by have:=(hltN.out k hk).1;omega)
  have hrVX:=hr10.out.only Qf hO11 (λk hk=>hk.elim) (λk hk e=>by have:=(hltV.out k hk).1;omega)
  have hBX:=(hB.out.trans (hOn.below (by have:=hB.out.size;omega) (λk e=>by omega))).trans (hU11.out.below oX)
  refine Zl rfl rfl Tryz.underlying28 rfl iC hU11.out.here ?_
  rw[hC.out]
  exact⟨_,_,rfl,XJ hrNX hrVX,.inl ⟨rfl,rfl⟩,hBX,XQ hrNX hrVX hlo6 hlo6⟩
theorem KY{α:Type}{l:List α}{k:Nat}(d:α)(h:k<l.length):l.getD k d=l[k]:=by
 rw[List.getD_eq_getElem?_getD,List.getElem?_eq_getElem h,Option.getD_some]
theorem T5(va:Value)(m:St)(x:Rc)(hx:x.Ok)(w:World)(ha:ArgS w va m)(l1:m.its.length<=1000)(l2:m.ens.length<=1000)(ea:Nat->Addr)(H:Errs 298 errGs w ea):Calls Tryz.prog 40 #[va,.agg x.list.toArray] w (ZB ea (YP m x).1 (YP m x).2 w):=by
 unfold YP
 by_cases h1:(Qm m.its x.name).2=true
 ·rw[if_pos h1]
  exact Uu va m x hx w ha l1 l2 10 (.inl ⟨rfl,h1⟩) ea H
 ·have h1f:(Qm m.its x.name).2=false:=by simpa using h1
  rw[if_neg h1]
  by_cases h2:4<=m.its.length
  ·rw[if_pos h2]
   exact Uu va m x hx w ha l1 l2 12 (.inr (.inl ⟨rfl,h1f,h2⟩)) ea H
  ·rw[if_neg h2]
   by_cases h3:x.obj=(m.its.length:Int)
   ·rw[if_neg (by simpa using h3)]
    exact HY va m x hx w ha l1 l2 h1f oX h3 ea
   ·rw[if_pos h3]
    exact Uu va m x hx w ha l1 l2 4 (.inr (.inr ⟨rfl,h1f,oX,h3⟩)) ea H
theorem Wd(va:Value)(m:St)(x:Rc)(hx:x.Ok)(w:World)(ha:ArgS w va m)(l1:m.its.length<=1000)(l2:m.ens.length<=1000)(ea:Nat->Addr)(H:Errs 298 errGs w ea):Calls Tryz.prog 42 #[va,.agg x.list.toArray] w (ZB ea (Vx m x).1 (Vx m x).2 w):=by
 unfold Vx
 by_cases h1:x.obj<0\/(m.its.length:Int)<=x.obj
 ·rw[if_pos h1]
  exact Hn va m x hx w ha l1 l2 11 (.inl ⟨rfl,oX⟩) ea H
 ·obtain⟨i,hi⟩:∃ i:Nat,x.obj=(i:Int):=⟨x.obj.toNat,oX⟩
  have hil:i<m.its.length:=oX
  have ht:x.obj.toNat=i:=oX
  rw[if_neg h1,ht,KY _ hil]
  by_cases h2:m.its[i].k=true
  ·rw[if_pos h2]
   exact Hn va m x hx w ha l1 l2 13 (.inr ⟨i,hil,hi,rfl,h2⟩) ea H
  ·rw[if_neg h2]
   exact HP va m x hx w ha l1 l2 i hil hi (by simpa using h2) ea
theorem RH(va:Value)(m:St)(x:Rc)(hx:x.Ok)(w:World)(ha:ArgS w va m)(l1:m.its.length<=1000)(l2:m.ens.length<=1000)(hub:∀ y∈m.its,y.u<=1000000/\y.r<=1000000)(ea:Nat->Addr)(H:Errs 298 errGs w ea):Calls Tryz.prog 41 #[va,.agg x.list.toArray] w (ZB ea (YZ m x).1 (YZ m x).2 w):=by
 unfold YZ
 by_cases h1:x.obj<0\/(m.its.length:Int)<=x.obj
 ·rw[if_pos h1]
  exact P8 va m x hx w ha l1 l2 oX ea H
 ·obtain⟨i,hi⟩:∃ i:Nat,x.obj=(i:Int):=⟨x.obj.toNat,oX⟩
  have hil:i<m.its.length:=oX
  have ht:x.obj.toNat=i:=oX
  rw[if_neg h1,ht,KY _ hil]
  by_cases h2:m.its[i].k=false
  ·rw[if_pos h2]
   exact Vy va m x hx w ha l1 l2 13 i hil hi (.inl ⟨rfl,h2⟩) ea H
  ·have h2t:m.its[i].k=true:=by simpa using h2
   rw[if_neg h2]
   by_cases h3:(Qa m.its[i] x.way).2=false
   ·rw[if_pos h3]
    exact Vy va m x hx w ha l1 l2 18 i hil hi (.inr (.inl ⟨rfl,h2t,h3⟩)) ea H
   ·have h3t:(Qa m.its[i] x.way).2=true:=by simpa using h3
    rw[if_neg h3]
    by_cases h4:x.id=(m.ens.length:Int)
    ·by_cases h5:x.index=(Qa m.its[i] x.way).1
     ·rw[if_neg (by simp[h4,h5])]
      have hu:=hub _ (List.getElem_mem hil)
      exact Rs va m x hx w ha l1 l2 i hil hi h2t ((Classical.em (x.way=2)).imp (λh=>⟨h,h3t,hu.1⟩) (λh=>⟨h,hu.2⟩)) h4 h5 ea
     ·rw[if_pos (.inr h5)]
      exact Vy va m x hx w ha l1 l2 4 i hil hi (.inr (.inr (.inr ⟨rfl,h2t,h3t,h4,h5⟩))) ea H
    ·rw[if_pos (.inl h4)]
     exact Vy va m x hx w ha l1 l2 4 i hil hi (.inr (.inr (.inl ⟨rfl,h2t,h3t,h4⟩))) ea H
theorem Tt(va:Value)(m:St)(x:Rc)(hx:x.Ok)(w:World)(ha:ArgS w va m)(l1:m.its.length<=1000)(l2:m.ens.length<=1000)(ea:Nat->Addr)(H:Errs 298 errGs w ea):Calls Tryz.prog 43 #[va,.agg x.list.toArray] w (ZB ea (YR m x).1 (YR m x).2 w):=by
 unfold YR
 by_cases h1:x.id<0\/(m.ens.length:Int)<=x.id
 ·rw[if_pos h1]
  exact Ur va m x hx w ha l1 l2 11 (.inl ⟨rfl,oX⟩) ea H
 ·obtain⟨i,hi⟩:∃ i:Nat,x.id=(i:Int):=⟨x.id.toNat,oX⟩
  have hil:i<m.ens.length:=oX
  have ht:x.id.toNat=i:=oX
  rw[if_neg h1,ht,KY _ hil]
  by_cases h2:m.ens[i].o=x.obj
  ·rw[if_neg (by simpa using h2)]
   by_cases h3:m.ens[i].v=0
   ·rw[if_neg (by simpa using h3)]
    exact HG va m x hx w ha l1 l2 i hil hi h2 h3 ea
   ·rw[if_pos h3]
    exact Ur va m x hx w ha l1 l2 13 (.inr ⟨i,hil,hi,.inr ⟨rfl,h2,h3⟩⟩) ea H
  ·rw[if_pos h2]
   exact Ur va m x hx w ha l1 l2 11 (.inr ⟨i,hil,hi,.inl ⟨rfl,h2⟩⟩) ea H
theorem ArgS.shape{w:World}{v:Value}{m:St}(h:ArgS w v m):∃ a c a' c',v=.agg #[.slice a m.its.length c,.slice a' m.ens.length c']:=by
 obtain⟨⟨a,c,a',c',e,_⟩,_⟩:=h
 exact⟨a,c,a',c',e⟩
theorem Un(va:Value)(m:St)(x:Rc)(hx:x.Ok)(w:World)(ha:ArgS w va m)(l1:m.its.length<=1000)(l2:m.ens.length<=1000)(hub:∀ y∈m.its,y.u<=1000000/\y.r<=1000000)(ea:Nat->Addr)(H:Errs 298 errGs w ea) :
  Calls Tryz.prog 13 #[va,.agg x.list.toArray] w (ZB ea (Zi m x).1 (Zi m x).2 w):=by
 have hck:∀ W,Errs 298 errGs W ea->Calls Tryz.prog 39 #[.agg x.list.toArray] W (λe w2=>∃ v,e=.returned v/\ErrIs ea w2 v x.chk/\Below W.heap.size W w2):=λW h=>Vq x hx ea W h
 have h1:=λW (h:Below w.heap.size w W)=>T5 va m x hx W (ha.below h nR) l1 l2 ea (H.below h)
 have h2:=λW (h:Below w.heap.size w W)=>RH va m x hx W (ha.below h nR) l1 l2 hub ea (H.below h)
 have h4:=λW (h:Below w.heap.size w W)=>Wd va m x hx W (ha.below h nR) l1 l2 ea (H.below h)
 have h3:=λW (h:Below w.heap.size w W)=>Tt va m x hx W (ha.below h nR) l1 l2 ea (H.below h)
 have hcf:=Hd (Rc.kept0 x hx 49)
 have iR:(Tryz.prog.info? 49).map (·.size)=some x.list.toArray.size:=by rw[Rc.size hx];kernel_rfl
 obtain⟨an,cn,av,cv,rfl⟩:=ha.shape
 clear hub
 obtain⟨N,hNl⟩:∃ N,N=m.its.length:=⟨_,rfl⟩
 obtain⟨V,hVl⟩:∃ V,V=m.ens.length:=⟨_,rfl⟩
 rw[<-hNl,<-hVl] at h1 h2 h3 h4
 rw[<-hNl,<-hVl]
 obtain⟨aS,aR,aO,hs3,hB⟩:=ZV w #[.slice an N cn,.slice av V cv] x.list.toArray #[.slice none 0 0,.slice none 0 0] 28 49 28 _ rfl
 obtain⟨w3,hw3⟩:∃ w3,w3=((w.alloc (.cells #[.slice an N cn,.slice av V cv] 28)).alloc (.cells x.list.toArray 49)).alloc (.cells #[.slice none 0 0,.slice none 0 0] 28):=⟨_,rfl⟩
 have s0:=Za aS 0
 have s1:=Za aS 1
 obtain⟨q0,_⟩:=hcf.out _ _ aR
 have aR0:=Hd aR
 rw[<-hw3] at aS aR aO hB hs3
 have hfm:Zi m x=if x.chk≠0 then (⟨[],[]⟩,x.chk) else if x.kind=1 then YP m x else if x.kind=2 then YZ m x else if x.kind=4 then Vx m x else YR m x:=rfl
 obtain⟨fm,hfm0⟩:∃ fm,fm=Zi m x:=⟨_,rfl⟩
 rw[<-hfm0] at hfm ⊢
 clear hfm0
 generalize x.list.toArray=R at*
 generalize x.chk=N0 at*
 generalize x.kind=kd at*
 replace h1:=Hd h1
 replace h2:=Hd h2
 replace h3:=Hd h3
 replace h4:=Hd h4
 replace hck:=Hd hck
 replace aS:=Hd aS
 replace aR:=Hd aR
 replace aO:=Hd aO
 replace hB:=Hd hB
 replace hs3:=Hd hs3
 replace hw3:=Hd hw3
 replace H:=Hd H
 have i0:(Tryz.prog.info? 28).map (·.size)=some (#[.slice none 0 0,.slice none 0 0]:Array Value).size:=kX
 replace hfm:=Hd hfm
 clear ha hNl hVl
 go_enter Tryz.func13,Tryz.ntmps13
 go_wp2_with ((with_reducible refine wL (.load 49 (.tmp 3)) ?_);refine Zd rfl 49 (.tmp 3) rfl (w.heap.size+1) R _ rfl aR0 Tryz.underlying49 rfl iR ?_)
 rw[<-hw3.out]
 with_reducible refine(hck.out _ (H.out.below hB.out)).mono ?_
 rintro e w4 ⟨v4,rfl,hv4,hb⟩
 have hu:=hv4.neq
 have hg:=hv4.guard
 clear s0 s1 q0 aR0
 replace aS:=Hd ((hb.block _ (Zb aS.out)).trans aS.out)
 replace aR:=Hd ((hb.block _ (Zb aR.out)).trans aR.out)
 replace aO:=Hd ((hb.block _ (Zb aO.out)).trans aO.out)
 replace hB:=Hd (hB.out.trans (hb.mono hB.out.size))
 have hsb:=hb.size
 have hs4:=Hd (show w.heap.size+3<=w4.heap.size from by have:=hs3.out;omega)
 clear hb hsb
 have s0:=Za aS.out 0
 have s1:=Za aS.out 1
 obtain⟨q0,_⟩:=hcf.out _ _ aR.out
 by_cases hN0:N0=0
 ·subst hN0
  replace hfm:=Hd (hfm.out.trans (if_neg sX))
  have hb00:((0:Nat) != 0)=false:=rfl
  rw[hb00] at hu
  by_cases hk1:kd=1
  ·subst hk1
   replace hfm:=Hd (hfm.out.trans (if_pos rfl))
   go_wp2_with ((with_reducible refine wL (.load 49 (.tmp 3)) ?_);refine Zd rfl 49 (.tmp 3) rfl (w.heap.size+1) R _ rfl aR Tryz.underlying49 rfl iR ?_)
   with_reducible refine(h1.out _ hB.out).mono ?_
   rintro e w5 ⟨vm,v5,rfl,hA,hE,hb,hfr⟩
   obtain⟨b1,d1,b2,d2,rfl⟩:=hA.shape
   obtain⟨C,hC⟩:∃ C:Array Value,C=#[.slice b1 (YP m x).1.its.length d1,.slice b2 (YP m x).1.ens.length d2]:=⟨_,rfl⟩
   rw[<-hC] at hA hfr ⊢
   have iC:(Tryz.prog.info? 28).map (·.size)=some C.size:=by rw[hC];kernel_rfl
   have zC:(#[.slice none 0 0,.slice none 0 0]:Array Value).size=C.size:=by rw[hC];rfl
   have h1C:C.all (·.oneCell')=true:=by rw[hC];simp[Value.oneCell']
   have aO5:=Hd ((hb.block _ (Zb aO.out)).trans aO.out)
   replace hB:=Hd (hB.out.trans (hb.mono hB.out.size))
   have hs5:=hs4.out
   replace hA:=Hd hA
   replace hE:=Hd hE
   replace hfr:=Hd hfr
   clear hC hb s0 s1 q0
   go_wp2_with ((with_reducible refine wL (.store 28 (.tmp 4) _) ?_);(refine Zc rfl 28 (.tmp 4) (.tmp 20) rfl (w.heap.size+2) _ C rfl rfl aO5 iC zC h1C ?_);intro w6 hU6)
   refine Zl rfl rfl Tryz.underlying28 rfl iC hU6.out.here ?_
   rw[hfm.out]
   exact⟨_,_,rfl,hA.out.upd hfr.out hU6.out oX,hE.out.updS hU6.out aO5.out dX,hB.out.trans (hU6.out.below oX),hfr.out.mono oX⟩
  ·replace hfm:=Hd (hfm.out.trans (if_neg hk1))
   have hk1b:(kd==1)=false:=by simpa using hk1
   by_cases hk2:kd=2
   ·subst hk2
    replace hfm:=Hd (hfm.out.trans (if_pos rfl))
    clear hk1
    go_wp2_with ((with_reducible refine wL (.load 49 (.tmp 3)) ?_);refine Zd rfl 49 (.tmp 3) rfl (w.heap.size+1) R _ rfl aR Tryz.underlying49 rfl iR ?_)
    with_reducible refine(h2.out _ hB.out).mono ?_
    rintro e w5 ⟨vm,v5,rfl,hA,hE,hb,hfr⟩
    obtain⟨b1,d1,b2,d2,rfl⟩:=hA.shape
    obtain⟨C,hC⟩:∃ C:Array Value,C=#[.slice b1 (YZ m x).1.its.length d1,.slice b2 (YZ m x).1.ens.length d2]:=⟨_,rfl⟩
    rw[<-hC] at hA hfr ⊢
    have iC:(Tryz.prog.info? 28).map (·.size)=some C.size:=by rw[hC];kernel_rfl
    have zC:(#[.slice none 0 0,.slice none 0 0]:Array Value).size=C.size:=by rw[hC];rfl
    have h1C:C.all (·.oneCell')=true:=by rw[hC];simp[Value.oneCell']
    have aO5:=Hd ((hb.block _ (Zb aO.out)).trans aO.out)
    replace hB:=Hd (hB.out.trans (hb.mono hB.out.size))
    have hs5:=hs4.out
    replace hA:=Hd hA
    replace hE:=Hd hE
    replace hfr:=Hd hfr
    clear hC hb s0 s1 q0
    go_wp2_with ((with_reducible refine wL (.store 28 (.tmp 4) _) ?_);(refine Zc rfl 28 (.tmp 4) (.tmp 27) rfl (w.heap.size+2) _ C rfl rfl aO5 iC zC h1C ?_);intro w6 hU6)
    refine Zl rfl rfl Tryz.underlying28 rfl iC hU6.out.here ?_
    rw[hfm.out]
    exact⟨_,_,rfl,hA.out.upd hfr.out hU6.out oX,hE.out.updS hU6.out aO5.out dX,hB.out.trans (hU6.out.below oX),hfr.out.mono oX⟩
   ·replace hfm:=Hd (hfm.out.trans (if_neg hk2))
    have hk2b:(kd==2)=false:=by simpa using hk2
    by_cases hk4:kd=4
    ·subst hk4
     replace hfm:=Hd (hfm.out.trans (if_pos rfl))
     clear hk1 hk2
     go_wp2_with ((with_reducible refine wL (.load 49 (.tmp 3)) ?_);refine Zd rfl 49 (.tmp 3) rfl (w.heap.size+1) R _ rfl aR Tryz.underlying49 rfl iR ?_)
     with_reducible refine(h4.out _ hB.out).mono ?_
     rintro e w5 ⟨vm,v5,rfl,hA,hE,hb,hfr⟩
     obtain⟨b1,d1,b2,d2,rfl⟩:=hA.shape
     obtain⟨C,hC⟩:∃ C:Array Value,C=#[.slice b1 (Vx m x).1.its.length d1,.slice b2 (Vx m x).1.ens.length d2]:=⟨_,rfl⟩
     rw[<-hC] at hA hfr ⊢
     have iC:(Tryz.prog.info? 28).map (·.size)=some C.size:=by rw[hC];kernel_rfl
     have zC:(#[.slice none 0 0,.slice none 0 0]:Array Value).size=C.size:=by rw[hC];rfl
     have h1C:C.all (·.oneCell')=true:=by rw[hC];simp[Value.oneCell']
     have aO5:=Hd ((hb.block _ (Zb aO.out)).trans aO.out)
     replace hB:=Hd (hB.out.trans (hb.mono hB.out.size))
     have hs5:=hs4.out
     replace hA:=Hd hA
     replace hE:=Hd hE
     replace hfr:=Hd hfr
     clear hC hb s0 s1 q0
     go_wp2_with ((with_reducible refine wL (.store 28 (.tmp 4) _) ?_);(refine Zc rfl 28 (.tmp 4) (.tmp 34) rfl (w.heap.size+2) _ C rfl rfl aO5 iC zC h1C ?_);intro w6 hU6)
     refine Zl rfl rfl Tryz.underlying28 rfl iC hU6.out.here ?_
     rw[hfm.out]
     exact⟨_,_,rfl,hA.out.upd hfr.out hU6.out oX,hE.out.updS hU6.out aO5.out dX,hB.out.trans (hU6.out.below oX),hfr.out.mono oX⟩
    ·replace hfm:=Hd (hfm.out.trans (if_neg hk4))
     have hk4b:(kd==4)=false:=by simpa using hk4
     clear hk1 hk2 hk4
     go_wp2_with ((with_reducible refine wL (.load 49 (.tmp 3)) ?_);refine Zd rfl 49 (.tmp 3) rfl (w.heap.size+1) R _ rfl aR Tryz.underlying49 rfl iR ?_)
     with_reducible refine(h3.out _ hB.out).mono ?_
     rintro e w5 ⟨vm,v5,rfl,hA,hE,hb,hfr⟩
     obtain⟨b1,d1,b2,d2,rfl⟩:=hA.shape
     obtain⟨C,hC⟩:∃ C:Array Value,C=#[.slice b1 (YR m x).1.its.length d1,.slice b2 (YR m x).1.ens.length d2]:=⟨_,rfl⟩
     rw[<-hC] at hA hfr ⊢
     have iC:(Tryz.prog.info? 28).map (·.size)=some C.size:=by rw[hC];kernel_rfl
     have zC:(#[.slice none 0 0,.slice none 0 0]:Array Value).size=C.size:=by rw[hC];rfl
     have h1C:C.all (·.oneCell')=true:=by rw[hC];simp[Value.oneCell']
     have aO5:=Hd ((hb.block _ (Zb aO.out)).trans aO.out)
     replace hB:=Hd (hB.out.trans (hb.mono hB.out.size))
     have hs5:=hs4.out
     replace hA:=Hd hA
     replace hE:=Hd hE
     replace hfr:=Hd hfr
     clear hC hb s0 s1 q0
     go_wp2_with ((with_reducible refine wL (.store 28 (.tmp 4) _) ?_);(refine Zc rfl 28 (.tmp 4) (.tmp 39) rfl (w.heap.size+2) _ C rfl rfl aO5 iC zC h1C ?_);intro w6 hU6)
     refine Zl rfl rfl Tryz.underlying28 rfl iC hU6.out.here ?_
     rw[hfm.out]
     exact⟨_,_,rfl,hA.out.upd hfr.out hU6.out oX,hE.out.updS hU6.out aO5.out dX,hB.out.trans (hU6.out.below oX),hfr.out.mono oX⟩
 ·replace hfm:=Hd (hfm.out.trans (if_pos hN0))
  have hbt:(N0 != 0)=true:=by simpa using hN0
  rw[hbt] at hu
  have hv:=Hd hv4
  have hs5:=hs4.out
  clear hv4 hN0
  go_wp2_with ((with_reducible refine wL (.store 28 (.tmp 4) _) ?_);(refine Zc rfl 28 (.tmp 4) (.tmp 11) rfl (w.heap.size+2) _ #[.slice none 0 0,.slice none 0 0] rfl rfl aO i0 rfl c5X ?_);intro w6 hU6)
  refine Zl rfl rfl Tryz.underlying28 rfl i0 hU6.out.here ?_
  rw[hfm.out]
  exact⟨_,_,rfl,Y8 _,hv.out.updS hU6.out aO.out dX,hB.out.trans (hU6.out.below oX),QV _⟩
end Go.Proofs.YtpdhceiodgnbmaaGreatDoor
