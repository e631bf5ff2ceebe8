import Derived.Test.YtpdhceiodgnbmaaGreatDoorF0FollowsSaid
import Derived.Test.YtpdhceiodgnbmaaGreatDoorF1FollowsSaid
import Derived.Test.YtpdhceiodgnbmaaGreatDoorF13FollowsSaid
import Derived.Test.YtpdhceiodgnbmaaGreatDoorF14FollowsSaid
set_option linter.unusedVariables false
set_option linter.unusedSimpArgs false
set_option linter.unnecessarySimpa false
set_option maxRecDepth 100000
set_option maxHeartbeats 8000000
namespace Go.Proofs.YtpdhceiodgnbmaaGreatDoor
open Go.RowKit
theorem GT(va:Value)(m:St)(x:Rc)(hx:x.Ok)(w:World)(ha:ArgS w va m)(l1:m.its.length<=1000)(l2:m.ens.length<=1000)(i:Nat)(hi:i<m.ens.length)(hx1:x.id=(i:Int))(h1:m.ens[i].o=x.obj)(h2:m.ens[i].v=0)(ea:Nat->Addr) :
  Calls Tryz.prog 43 #[va,.agg x.list.toArray] w (Zo ea ⟨m.its,m.ens.set i { m.ens[i] with v:=x.verdict,a:=x.tick }⟩ 0 w):=by
 have hcf:=Hd (Rc.kept0 x hx 49)
 have hcp:=λW (h:Below w.heap.size w W)=>YG va m W (ha.below h nR) l1 l2
 have okE:=ha.okV
 have hc0:=λW h=>V9 va m W (ha.below h nR) i hi l2
 rw[<-hx1] at hc0
 have hok:=ha.okV _ (List.getElem_mem hi)
 have hset1:=λ(W:World) (base g n c:Nat) (h:RowsOf RE 66 7 base W (λ_=>False) (.slice (some ⟨g,0,none⟩) n c) m.ens)=>Qz (R:=RE) (enc:=En.list) (Ok:=En.Ok) (λ_ _ _ _=>Iff.rfl) (λ_ _=>rfl) En.list_one dX h okE i 5 hi dX (.int .i64 x.verdict) rfl { m.ens[i] with v:=x.verdict } rfl ⟨hok.1,hok.2.1,hok.2.2.1,hok.2.2.2.1,hok.2.2.2.2.1,hx.verdict,hok.2.2.2.2.2.2⟩
 obtain⟨E1,hE1⟩:∃ l,l=m.ens.set i { m.ens[i] with v:=x.verdict }:=⟨_,rfl⟩
 have hE1l:E1.length=m.ens.length:=by rw[hE1,List.length_set]
 have hi1:i<E1.length:=oX
 have hg1:E1[i]={ m.ens[i] with v:=x.verdict }:=by simp[hE1]
 have ok1:∀ y∈E1,y.Ok:=λy hy=>by
  rw[hE1] at hy
  rcases List.mem_or_eq_of_mem_set hy with h|h
  ·exact okE _ h
  ·rw[h];exact⟨hok.1,hok.2.1,hok.2.2.1,hok.2.2.2.1,hok.2.2.2.2.1,hx.verdict,hok.2.2.2.2.2.2⟩
 have hset2:=λ(W:World) (base g n c:Nat) (h:RowsOf RE 66 7 base W (λ_=>False) (.slice (some ⟨g,0,none⟩) n c) E1)=>Qz (R:=RE) (enc:=En.list) (Ok:=En.Ok) (λ_ _ _ _=>Iff.rfl) (λ_ _=>rfl) En.list_one dX h ok1 i 6 hi1 dX (.int .i64 x.tick) rfl { m.ens[i] with v:=x.verdict,a:=x.tick } (by rw[hg1];rfl) ⟨hok.1,hok.2.1,hok.2.2.1,hok.2.2.2.1,hok.2.2.2.2.1,hx.verdict,hx.tick⟩
 have hE2:E1.set i { m.ens[i] with v:=x.verdict,a:=x.tick }=m.ens.set i { m.ens[i] with v:=x.verdict,a:=x.tick }:=by rw[hE1,List.set_set]
 rw[hE2] at hset2
 rw[<-hE1] at hset1
 obtain⟨ENS,hENS⟩:∃ l,l=m.ens.set i { m.ens[i] with v:=x.verdict,a:=x.tick }:=⟨_,rfl⟩
 rw[<-hENS] at hset2 ⊢
 have hcl1:∀ (W:World) (base g n c:Nat),RowsOf RE 66 7 base W (λ_=>False) (.slice (some ⟨g,0,none⟩) n c) m.ens->(∃ u,W.cell? ⟨g,i*7+5,none⟩=some u)/\W.frozen? ⟨g,i*7+5,none⟩=false:=λW base g n c h=>by
  have:=Ql (R:=RE) (enc:=En.list) (Ok:=En.Ok) (λ_ _ _ _=>Iff.rfl) Zj h i 5 hi _ rfl
  exact⟨⟨_,this.1⟩,this.2⟩
 have hcl2:∀ (W:World) (base g n c:Nat),RowsOf RE 66 7 base W (λ_=>False) (.slice (some ⟨g,0,none⟩) n c) E1->(∃ u,W.cell? ⟨g,i*7+6,none⟩=some u)/\W.frozen? ⟨g,i*7+6,none⟩=false:=λW base g n c h=>by
  have:=Ql (R:=RE) (enc:=En.list) (Ok:=En.Ok) (λ_ _ _ _=>Iff.rfl) Zj h i 6 hi1 _ rfl
  exact⟨⟨_,this.1⟩,this.2⟩
 generalize hy:m.ens[i]=y at*
 obtain⟨XA,hXA⟩:∃ XA,XA=y.list.toArray:=⟨_,rfl⟩
 have hk1:∀ (W:World) b,W.heap[b]? = some (.cells XA 66 (0,0))->W.cell? ⟨b,1,none⟩=some (.int .i64 y.o)/\W.cell? ⟨b,5,none⟩=some (.int .i64 y.v):=λW b h=>by
  rw[Za h,Za h,hXA,List.getElem?_toArray,List.getElem?_toArray]
  exact⟨rfl,rfl⟩
 have hof:(y.o != x.obj)=false:=by rw[h1];simp
 rw[h2] at hk1
 have iA:(Tryz.prog.info? 66).map (·.size)=some XA.size:=by rw[hXA];kernel_rfl
 have zA:(#[.int .i64 0,.int .i64 0,.int .i64 0,.int .i64 0,.int .i64 0,.int .i64 0,.int .i64 0]:Array Value).size=XA.size:=by rw[hXA];rfl
 have h1A:XA.all (·.oneCell')=true:=by rw[hXA];exact Go.Proofs.YtpdhceiodgnbmaaGreatDoor.all_one (En.list_one _)
 rw[<-hXA] at hc0
 obtain⟨⟨an,cn,av,cv,rfl,hN,hN1,hN2,hV,hV1,hV2⟩,okN,okV⟩:=ha
 obtain⟨N,hNl⟩:∃ N,N=m.its.length:=⟨_,rfl⟩
 obtain⟨V,hVl⟩:∃ V,V=m.ens.length:=⟨_,rfl⟩
 rw[<-hNl,<-hVl] at hc0 hcp
 rw[<-hNl,<-hVl]
 generalize hRR:x.list.toArray=R at*
 obtain⟨aS,aR,aO,hs3,hB⟩:=Zq w #[.slice an N cn,.slice av V cv] R #[.slice none 0 0,.slice none 0 0] 28 49 28 _ rfl
 obtain⟨w3,hw3⟩:∃ w3,w3=((w.alloc (.cells #[.slice an N cn,.slice av V cv] 28)).alloc (.cells R 49)).alloc (.cells #[.slice none 0 0,.slice none 0 0] 28):=⟨_,rfl⟩
 have s0:=Za aS 0
 have s1:=Za aS 1
 obtain⟨q0,q1,q2,q3,q4,q5,q6,q7⟩:=hcf.out _ _ aR
 rw[<-hw3] at aS aR aO hB
 generalize x.obj=vo at*
 generalize x.id=vi at*
 generalize x.way=vw at*
 generalize x.index=vx at*
 generalize x.name=vn at*
 generalize x.verdict=vv at*
 generalize x.tick=vt at*
 generalize y.o=yo at*
 subst hx1
 replace hc0:=Hd hc0
 replace hcp:=Hd hcp
 replace aS:=Hd aS
 replace aR:=Hd aR
 replace aO:=Hd aO
 replace hB:=Hd hB
 replace hw3:=Hd hw3
 replace hNl:=Hd hNl
 replace hVl:=Hd hVl
 replace hset1:=Hd hset1
 replace hset2:=Hd hset2
 replace hcl1:=Hd hcl1
 replace hcl2:=Hd hcl2
 replace hk1:=Hd hk1
 replace hE1:=Hd hE1
 replace hE1l:=Hd hE1l
 replace hENS:=Hd hENS
 replace hy:=Hd hy
 clear hRR hN hV hN1 hN2 hV1 hV2 okN okV hs3 hXA h1 h2 hE2 hg1 ok1 okE hi1
 go_enter Tryz.func43,Tryz.ntmps43
 go_wp2_with fail
 rw[<-hw3.out]
 with_reducible refine(hc0.out _ hB.out).mono ?_
 rintro e w4 ⟨rfl,hb⟩
 replace aS:=Hd ((hb.block _ (Zb aS.out)).trans aS.out)
 replace aR:=Hd ((hb.block _ (Zb aR.out)).trans aR.out)
 replace aO:=Hd ((hb.block _ (Zb aO.out)).trans aO.out)
 replace hB:=Hd (hB.out.trans (hb.mono hB.out.size))
 clear hb s0 s1 q0 q1 q2 q3 q4 q5 q6 q7
 have s0:=Za aS.out 0
 have s1:=Za aS.out 1
 obtain⟨q0,q1,q2,q3,q4,q5,q6,q7⟩:=hcf.out _ _ aR.out
 have hZ4:=Hd (heap_alloc_new w4 (.cells #[.int .i64 0,.int .i64 0,.int .i64 0,.int .i64 0,.int .i64 0,.int .i64 0,.int .i64 0] 66))
 go_wp2_with ((with_reducible refine wL (.store 66 (.tmp 6) _) ?_);(refine Zc rfl 66 (.tmp 6) (.tmp 14) rfl w4.heap.size _ XA rfl rfl hZ4 iA zA h1A ?_);intro w5 hU5;have hb5:Below w4.heap.size w4 w5:=(Below.alloc (Below.refl w4.heap.size w4) nR _).trans (hU5.out.below nR);have aX:=Hd hU5.out.here;replace aS:=Hd ((hb5.block _ (Zb aS.out)).trans aS.out);replace aR:=Hd ((hb5.block _ (Zb aR.out)).trans aR.out);replace aO:=Hd ((hb5.block _ (Zb aO.out)).trans aO.out);replace hB:=Hd (hB.out.trans (hb5.mono hB.out.size));clear s0 s1 q0 q1 q2 q3 q4 q5 q6 q7 hb5;have s0:=Za aS.out 0;have s1:=Za aS.out 1;obtain⟨q0,q1,q2,q3,q4,q5,q6,q7⟩:=hcf.out _ _ aR.out;obtain⟨y1,y5⟩:=hk1.out _ _ aX.out)
 have hlt5:=Hd (Zb aO.out)
 with_reducible refine(hcp.out _ hB.out).mono ?_
 rintro e w6 ⟨v,v',rfl,hrN,hrV,hav,hb⟩
 obtain⟨x4,c4,hv4,_⟩:=hrN.form
 obtain⟨x5,c5,hv5,hnil5,_,_,hlt5v⟩:=hrV.form
 subst hv4 hv5
 obtain⟨g5,hg5⟩:∃ g5,x5=some ⟨g5,0,none⟩:=by
  cases x5 with
  | none=>have:=(hnil5 rfl).2;omega
  | some ad=>
   obtain⟨b4,o4,s4⟩:=ad
   obtain⟨rfl,rfl,_⟩:=hlt5v b4 o4 s4 rfl
   exact⟨b4,rfl⟩
 subst hg5
 have hltV:=Hd (λk (hk:(Value.slice (some ⟨g5,0,none⟩) m.ens.length c5).ownBlock=some k)=>hrV.ownLt k hk)
 have hltN:=Hd (λk (hk:(Value.slice x4 m.its.length c4).ownBlock=some k)=>hrN.ownLt k hk)
 obtain⟨C,hC⟩:∃ C:Array Value,C=#[.slice x4 m.its.length c4,.slice (some ⟨g5,0,none⟩) m.ens.length c5]:=⟨_,rfl⟩
 rw[<-hC]
 have hs56:=hb.size
 have hlo6:w.heap.size<=w5.heap.size:=hB.out.size
 replace aS:=Hd ((hb.block _ (Zb aS.out)).trans aS.out)
 replace aR:=Hd ((hb.block _ (Zb aR.out)).trans aR.out)
 replace aO:=Hd ((hb.block _ (Zb aO.out)).trans aO.out)
 replace hB:=Hd (hB.out.trans (hb.mono hB.out.size))
 clear hb s0 s1 q0 q1 q2 q3 q4 q5 q6 q7 hnil5 hlt5v y1 y5
 have s0:=Za aS.out 0
 have s1:=Za aS.out 1
 obtain⟨q0,q1,q2,q3,q4,q5,q6,q7⟩:=hcf.out _ _ aR.out
 have hlt6:=Hd (Zb aO.out)
 have iC:(Tryz.prog.info? 28).map (·.size)=some C.size:=by rw[hC];kernel_rfl
 have zC:(#[.slice none 0 0,.slice none 0 0]:Array Value).size=C.size:=by rw[hC];rfl
 have h1C:C.all (·.oneCell')=true:=by rw[hC];simp[Value.oneCell']
 have hkC:∀ (W:World) b,W.heap[b]? = some (.cells C 28 (0,0))->W.cell? ⟨b,0,none⟩=some (.slice x4 m.its.length c4)/\W.cell? ⟨b,1,none⟩=some (.slice (some ⟨g5,0,none⟩) m.ens.length c5):=λW b h=>by
  rw[Za h,Za h,hC]
  exact⟨sX,sX⟩
 have hZ6:=Hd (heap_alloc_new w6 (.cells #[.slice none 0 0,.slice none 0 0] 28))
 replace hC:=Hd hC
 replace hkC:=Hd hkC
 replace hrN:=Hd hrN
 replace hrV:=Hd hrV
 replace hav:=Hd hav
 replace hs56:=Hd hs56
 have hg5l:=hltV.out g5 rfl
 have hii:(i:Int)<(m.ens.length:Int):=oX
 have i1i:(Tryz.prog.info? 3).map (·.size)=some 1:=kX
 go_wp2_with ((with_reducible refine wL (.store 28 (.tmp 8) _) ?_);(refine Zc rfl 28 (.tmp 8) (.tmp 35) rfl w6.heap.size _ C rfl rfl hZ6 iC zC h1C ?_);intro w7 hU7;have hb7:Below w6.heap.size w6 w7:=(Below.alloc (Below.refl w6.heap.size w6) nR _).trans (hU7.out.below nR);have hs7:w7.heap.size=w6.heap.size+1:=hU7.out.size.trans sX;have aC:=Hd hU7.out.here;replace hrN:=Hd (hrN.out.below Zk hb7);replace hrV:=Hd (hrV.out.below Zj hb7);replace aS:=Hd ((hb7.block _ (Zb aS.out)).trans aS.out);replace aR:=Hd ((hb7.block _ (Zb aR.out)).trans aR.out);replace aO:=Hd ((hb7.block _ (Zb aO.out)).trans aO.out);replace hB:=Hd (hB.out.trans (hb7.mono hB.out.size));clear s0 s1 q0 q1 q2 q3 q4 q5 q6 q7 hb7;replace hs7:=Hd hs7)
 have hd0:Hid (Only (λk=>k=g5) w7 w7.drew):=Hd (Only.refl _ _).drew
 have hl5:=hlt5.out
 have kC:∀ W,Only (λk=>k=g5) w7 W->W.cell? ⟨w6.heap.size,1,none⟩=some (.slice (some ⟨g5,0,none⟩) m.ens.length c5):=λW h=>(hkC.out W _ (h.heap aC.out oX)).2
 have kR:∀ W,Only (λk=>k=g5) w7 W->W.cell? ⟨w.heap.size+1,2,none⟩=some (.int .i64 (i:Int))/\W.cell? ⟨w.heap.size+1,76,none⟩=some (.int .i64 vv)/\W.cell? ⟨w.heap.size+1,77,none⟩=some (.int .i64 vt):=λW h=>by
  obtain⟨_,_,q2,_,_,_,q6,q7⟩:=hcf.out _ _ (h.heap aR.out oX)
  exact⟨q2,q6,q7⟩
 have kR2:=λW h=>(kR W h).1
 have kR6:=λW h=>(kR W h).2.1
 have kR7:=λW h=>(kR W h).2.2
 clear kR
 replace hrV:Hid (RowsOf RE 66 7 w5.heap.size w7.drew (λ_=>False) (.slice (some ⟨g5,0,none⟩) m.ens.length c5) m.ens):=Hd (hrV.out.only Zj (Only.refl (λ_=>False) _).drew (λk hk=>hk.elim) (λk hk e=>e))
 refine wp_region_held_drew (S:=(Only (λk=>k=g5) w7)) kX hd0.out (λhOn=>?_)
 generalize World.drew w7=wd at*
 refine tk 0 hOn ?_
 refine tk 1 hOn ?_
 refine tk 2 hOn ?_
 refine tk 3 hOn ?_
 refine tk 4 hOn ?_
 refine tk 5 hOn ?_
 refine tk 6 hOn ?_
 refine tk 7 hOn ?_
 refine tk 8 hOn ?_
 refine tk 9 hOn ?_
 refine tk 10 hOn ?_
 refine tk 11 hOn ?_
 refine tk 12 hOn ?_
 refine tk 13 hOn ?_
 refine rd 14 (λKz hKz=>?_)
 rw[if_pos (by rfl)]
 (have hcc:=hcl1.out _ _ _ _ _ hrV.out)
 (with_reducible refine XV 3 (.tmp 49) (.tmp 45) rfl g5 (i*7+5) (.int .i64 vv) rfl rfl (Hd hcc.1) hcc.2 i1i Nv ?_)
 intro w9 hw9
 (have hr9:=hset1.out _ _ _ _ _ hrV.out)
 rw[<-hw9.out] at hr9
 have hO9:Only (λk=>k=g5) wd w9:=(by rw[hw9.out];exact(Only.refl _ _).setCell _ _ (λ_=>rfl))
 have hS:=hOn.trans hO9 (λ_ _ e=>e)
 replace hr9:=Hd hr9
 clear hcc
 refine hKz.out _ _ hS ?_
 clear hKz Kz hOn hS
 intro hOn
 try simp only[Act.put]
 refine tk 15 hOn ?_
 refine tk 16 hOn ?_
 refine rd 17 (λKz hKz=>?_)
 rw[if_pos (by rfl)]
 (have hcc:=hcl2.out _ _ _ _ _ hr9.out)
 (with_reducible refine XV 3 (.tmp 51) (.tmp 47) rfl g5 (i*7+6) (.int .i64 vt) rfl rfl (Hd hcc.1) hcc.2 i1i Nv ?_)
 intro w10 hw10
 (have hr10:=hset2.out _ _ _ _ _ hr9.out)
 rw[<-hw10.out] at hr10
 have hO10:Only (λk=>k=g5) w9 w10:=(by rw[hw10.out];exact(Only.refl _ _).setCell _ _ (λ_=>rfl))
 have hS:=hOn.trans hO10 (λ_ _ e=>e)
 replace hr10:=Hd hr10
 clear hcc
 refine hKz.out _ _ hS ?_
 clear hKz Kz hOn hS
 intro hOn
 try simp only[Act.put]
 refine dnE ?_
 all_goals
  have aC10:=Hd (hOn.heap aC.out oX)
  have aO10:=Hd (hOn.heap aO.out oX)
  go_wp2_with (first
   | ((with_reducible refine wL (.load 28 (.tmp 8)) ?_);refine Ze rfl 28 (.tmp 8) rfl w6.heap.size C _ rfl aC10 Tryz.underlying28 rfl iC ?_)
   | ((with_reducible refine wL (.store 28 (.tmp 4) _) ?_);(refine Zc rfl 28 (.tmp 4) (.tmp 52) rfl (w.heap.size+2) _ C rfl rfl aO10 iC zC h1C ?_);intro w11 hU11))
  have h7o:=hs7.out
  have h6o:=hlt6.out
  have h56:=hs56.out
  have hO11:Only (λk=>k=w.heap.size+2) w10 w11:=Only.ofUpd hU11.out rfl
  have hrNX:=(hrN.out.only Zk hOn (λk hk=>hk.elim) (λk hk e=>hav.out k hk (e▸rfl))).only Zk hO11 (λk hk=>hk.elim) (λk hk e=>by have:=(hltN.out k hk).1;omega)
  have hrVX:=hr10.out.only Zj hO11 (λk hk=>hk.elim) (λk hk e=>by have:=(hltV.out k hk).1;omega)
  have hBX:=(hB.out.trans (hOn.below (by have:=hB.out.size;omega) (λk e=>by omega))).trans (hU11.out.below oX)
  refine Zf rfl rfl Tryz.underlying28 rfl iC hU11.out.here ?_
  rw[hC.out]
  exact⟨_,_,rfl,Q8 hrNX hrVX,.inl ⟨rfl,rfl⟩,hBX,Qy hrNX hrVX hlo6 hlo6⟩
theorem VG{α:Type}{l:List α}{k:Nat}(d:α)(h:k<l.length):l.getD k d=l[k]:=by
 rw[List.getD_eq_getElem?_getD,List.getElem?_eq_getElem h,Option.getD_some]
theorem G6(va:Value)(m:St)(x:Rc)(hx:x.Ok)(w:World)(ha:ArgS w va m)(l1:m.its.length<=1000)(l2:m.ens.length<=1000)(ea:Nat->Addr)(H:Errs 298 Zv w ea):Calls Tryz.prog 40 #[va,.agg x.list.toArray] w (Zo ea (Q5 m x).1 (Q5 m x).2 w):=by
 unfold Q5
 by_cases h1:(Zx m.its x.name).2=true
 ·rw[if_pos h1]
  exact MK va m x hx w ha l1 l2 h1 ea H
 ·have h1f:(Zx m.its x.name).2=false:=by simpa using h1
  rw[if_neg h1]
  by_cases h2:4<=m.its.length
  ·rw[if_pos h2]
   exact GF va m x hx w ha l1 l2 h1f h2 ea H
  ·rw[if_neg h2]
   by_cases h3:x.obj=(m.its.length:Int)
   ·rw[if_neg (by simpa using h3)]
    exact GM va m x hx w ha l1 l2 h1f oX h3 ea
   ·rw[if_pos h3]
    exact GD va m x hx w ha l1 l2 h1f oX h3 ea H
theorem Hk(va:Value)(m:St)(x:Rc)(hx:x.Ok)(w:World)(ha:ArgS w va m)(l1:m.its.length<=1000)(l2:m.ens.length<=1000)(ea:Nat->Addr)(H:Errs 298 Zv w ea):Calls Tryz.prog 42 #[va,.agg x.list.toArray] w (Zo ea (Y9 m x).1 (Y9 m x).2 w):=by
 unfold Y9
 by_cases h1:x.obj<0\/(m.its.length:Int)<=x.obj
 ·rw[if_pos h1]
  exact Ti va m x hx w ha l1 l2 oX ea H
 ·obtain⟨i,hi⟩:∃ i:Nat,x.obj=(i:Int):=⟨x.obj.toNat,oX⟩
  have hil:i<m.its.length:=oX
  have ht:x.obj.toNat=i:=oX
  rw[if_neg h1,ht,VG _ hil]
  by_cases h2:m.its[i].k=true
  ·rw[if_pos h2]
   exact M7 va m x hx w ha l1 l2 i hil hi h2 ea H
  ·rw[if_neg h2]
   exact Nd va m x hx w ha l1 l2 i hil hi (by simpa using h2) ea
theorem NR(va:Value)(m:St)(x:Rc)(hx:x.Ok)(w:World)(ha:ArgS w va m)(l1:m.its.length<=1000)(l2:m.ens.length<=1000)(hub:∀ y∈m.its,y.u<=1000000/\y.r<=1000000)(ea:Nat->Addr)(H:Errs 298 Zv w ea):Calls Tryz.prog 41 #[va,.agg x.list.toArray] w (Zo ea (Yf m x).1 (Yf m x).2 w):=by
 unfold Yf
 by_cases h1:x.obj<0\/(m.its.length:Int)<=x.obj
 ·rw[if_pos h1]
  exact Mi va m x hx w ha l1 l2 oX ea H
 ·obtain⟨i,hi⟩:∃ i:Nat,x.obj=(i:Int):=⟨x.obj.toNat,oX⟩
  have hil:i<m.its.length:=oX
  have ht:x.obj.toNat=i:=oX
  rw[if_neg h1,ht,VG _ hil]
  by_cases h2:m.its[i].k=false
  ·rw[if_pos h2]
   exact GE va m x hx w ha l1 l2 i hil hi h2 ea H
  ·have h2t:m.its[i].k=true:=by simpa using h2
   rw[if_neg h2]
   by_cases h3:(ZJ m.its[i] x.way).2=false
   ·rw[if_pos h3]
    exact KY va m x hx w ha l1 l2 i hil hi h2t h3 ea H
   ·have h3t:(ZJ m.its[i] x.way).2=true:=by simpa using h3
    rw[if_neg h3]
    by_cases h4:x.id=(m.ens.length:Int)
    ·by_cases h5:x.index=(ZJ m.its[i] x.way).1
     ·rw[if_neg (by simp[h4,h5])]
      have hu:=hub _ (List.getElem_mem hil)
      by_cases hw:x.way=2
      ·unfold Xs
       rw[if_pos hw]
       exact NB va m x hx w ha l1 l2 i hil hi h2t hw h3t h4 h5 hu.1 ea
      ·unfold Xs
       rw[if_neg hw]
       exact Mx va m x hx w ha l1 l2 i hil hi h2t hw h4 h5 hu.2 ea
     ·rw[if_pos (.inr h5)]
      exact Gw va m x hx w ha l1 l2 i hil hi h2t h3t h4 h5 ea H
    ·rw[if_pos (.inl h4)]
     exact GH va m x hx w ha l1 l2 i hil hi h2t h3t h4 ea H
theorem GN(va:Value)(m:St)(x:Rc)(hx:x.Ok)(w:World)(ha:ArgS w va m)(l1:m.its.length<=1000)(l2:m.ens.length<=1000)(ea:Nat->Addr)(H:Errs 298 Zv w ea):Calls Tryz.prog 43 #[va,.agg x.list.toArray] w (Zo ea (Q7 m x).1 (Q7 m x).2 w):=by
 unfold Q7
 by_cases h1:x.id<0\/(m.ens.length:Int)<=x.id
 ·rw[if_pos h1]
  exact Gx va m x hx w ha l1 l2 oX ea H
 ·obtain⟨i,hi⟩:∃ i:Nat,x.id=(i:Int):=⟨x.id.toNat,oX⟩
  have hil:i<m.ens.length:=oX
  have ht:x.id.toNat=i:=oX
  rw[if_neg h1,ht,VG _ hil]
  by_cases h2:m.ens[i].o=x.obj
  ·rw[if_neg (by simpa using h2)]
   by_cases h3:m.ens[i].v=0
   ·rw[if_neg (by simpa using h3)]
    exact GT va m x hx w ha l1 l2 i hil hi h2 h3 ea
   ·rw[if_pos h3]
    exact KA va m x hx w ha l1 l2 i hil hi h2 h3 ea H
  ·rw[if_pos h2]
   exact KZ va m x hx w ha l1 l2 i hil hi h2 ea H
theorem ArgS.shape{w:World}{v:Value}{m:St}(h:ArgS w v m):∃ a c a' c',v=.agg #[.slice a m.its.length c,.slice a' m.ens.length c']:=by
 obtain⟨⟨a,c,a',c',e,_⟩,_⟩:=h
 exact⟨a,c,a',c',e⟩
theorem Jo(va:Value)(m:St)(x:Rc)(hx:x.Ok)(w:World)(ha:ArgS w va m)(l1:m.its.length<=1000)(l2:m.ens.length<=1000)(hub:∀ y∈m.its,y.u<=1000000/\y.r<=1000000)(ea:Nat->Addr)(H:Errs 298 Zv w ea) :
  Calls Tryz.prog 13 #[va,.agg x.list.toArray] w (Zo ea (Zr m x).1 (Zr m x).2 w):=by
 have hck:∀ W,Errs 298 Zv W ea->Calls Tryz.prog 39 #[.agg x.list.toArray] W (λe w2=>∃ v,e=.returned v/\ErrIs ea w2 v x.chk/\Below W.heap.size W w2):=λW h=>UD x hx ea W h
 have h1:=λW (h:Below w.heap.size w W)=>G6 va m x hx W (ha.below h nR) l1 l2 ea (H.below h)
 have h2:=λW (h:Below w.heap.size w W)=>NR va m x hx W (ha.below h nR) l1 l2 hub ea (H.below h)
 have h4:=λW (h:Below w.heap.size w W)=>Hk va m x hx W (ha.below h nR) l1 l2 ea (H.below h)
 have h3:=λW (h:Below w.heap.size w W)=>GN va m x hx W (ha.below h nR) l1 l2 ea (H.below h)
 have hcf:=Hd (Rc.kept0 x hx 49)
 have iR:(Tryz.prog.info? 49).map (·.size)=some x.list.toArray.size:=by rw[Rc.size hx];kernel_rfl
 obtain⟨an,cn,av,cv,rfl⟩:=ha.shape
 clear hub
 obtain⟨N,hNl⟩:∃ N,N=m.its.length:=⟨_,rfl⟩
 obtain⟨V,hVl⟩:∃ V,V=m.ens.length:=⟨_,rfl⟩
 rw[<-hNl,<-hVl] at h1 h2 h3 h4
 rw[<-hNl,<-hVl]
 obtain⟨aS,aR,aO,hs3,hB⟩:=Zq w #[.slice an N cn,.slice av V cv] x.list.toArray #[.slice none 0 0,.slice none 0 0] 28 49 28 _ rfl
 obtain⟨w3,hw3⟩:∃ w3,w3=((w.alloc (.cells #[.slice an N cn,.slice av V cv] 28)).alloc (.cells x.list.toArray 49)).alloc (.cells #[.slice none 0 0,.slice none 0 0] 28):=⟨_,rfl⟩
 have s0:=Za aS 0
 have s1:=Za aS 1
 obtain⟨q0,_⟩:=hcf.out _ _ aR
 have aR0:=Hd aR
 rw[<-hw3] at aS aR aO hB hs3
 have hfm:Zr m x=if x.chk≠0 then (⟨[],[]⟩,x.chk) else if x.kind=1 then Q5 m x else if x.kind=2 then Yf m x else if x.kind=4 then Y9 m x else Q7 m x:=rfl
 obtain⟨fm,hfm0⟩:∃ fm,fm=Zr m x:=⟨_,rfl⟩
 rw[<-hfm0] at hfm ⊢
 clear hfm0
 generalize x.list.toArray=R at*
 generalize x.chk=N0 at*
 generalize x.kind=kd at*
 replace h1:=Hd h1
 replace h2:=Hd h2
 replace h3:=Hd h3
 replace h4:=Hd h4
 replace hck:=Hd hck
 replace aS:=Hd aS
 replace aR:=Hd aR
 replace aO:=Hd aO
 replace hB:=Hd hB
 replace hs3:=Hd hs3
 replace hw3:=Hd hw3
 replace H:=Hd H
 have i0:(Tryz.prog.info? 28).map (·.size)=some (#[.slice none 0 0,.slice none 0 0]:Array Value).size:=kX
 replace hfm:=Hd hfm
 clear ha hNl hVl
 go_enter Tryz.func13,Tryz.ntmps13
 go_wp2_with ((with_reducible refine wL (.load 49 (.tmp 3)) ?_);refine Ze rfl 49 (.tmp 3) rfl (w.heap.size+1) R _ rfl aR0 Tryz.underlying49 rfl iR ?_)
 rw[<-hw3.out]
 with_reducible refine(hck.out _ (H.out.below hB.out)).mono ?_
 rintro e w4 ⟨v4,rfl,hv4,hb⟩
 have hu:=hv4.neq
 have hg:=hv4.guard
 clear s0 s1 q0 aR0
 replace aS:=Hd ((hb.block _ (Zb aS.out)).trans aS.out)
 replace aR:=Hd ((hb.block _ (Zb aR.out)).trans aR.out)
 replace aO:=Hd ((hb.block _ (Zb aO.out)).trans aO.out)
 replace hB:=Hd (hB.out.trans (hb.mono hB.out.size))
 have hsb:=hb.size
 have hs4:=Hd (show w.heap.size+3<=w4.heap.size from by have:=hs3.out;omega)
 clear hb hsb
 have s0:=Za aS.out 0
 have s1:=Za aS.out 1
 obtain⟨q0,_⟩:=hcf.out _ _ aR.out
 by_cases hN0:N0=0
 ·subst hN0
  replace hfm:=Hd (hfm.out.trans (if_neg sX))
  have hb00:((0:Nat) != 0)=false:=rfl
  rw[hb00] at hu
  by_cases hk1:kd=1
  ·subst hk1
   replace hfm:=Hd (hfm.out.trans (if_pos rfl))
   go_wp2_with ((with_reducible refine wL (.load 49 (.tmp 3)) ?_);refine Ze rfl 49 (.tmp 3) rfl (w.heap.size+1) R _ rfl aR Tryz.underlying49 rfl iR ?_)
   with_reducible refine(h1.out _ hB.out).mono ?_
   rintro e w5 ⟨vm,v5,rfl,hA,hE,hb,hfr⟩
   obtain⟨b1,d1,b2,d2,rfl⟩:=hA.shape
   obtain⟨C,hC⟩:∃ C:Array Value,C=#[.slice b1 (Q5 m x).1.its.length d1,.slice b2 (Q5 m x).1.ens.length d2]:=⟨_,rfl⟩
   rw[<-hC] at hA hfr ⊢
   have iC:(Tryz.prog.info? 28).map (·.size)=some C.size:=by rw[hC];kernel_rfl
   have zC:(#[.slice none 0 0,.slice none 0 0]:Array Value).size=C.size:=by rw[hC];rfl
   have h1C:C.all (·.oneCell')=true:=by rw[hC];simp[Value.oneCell']
   have aO5:=Hd ((hb.block _ (Zb aO.out)).trans aO.out)
   replace hB:=Hd (hB.out.trans (hb.mono hB.out.size))
   have hs5:=hs4.out
   replace hA:=Hd hA
   replace hE:=Hd hE
   replace hfr:=Hd hfr
   clear hC hb s0 s1 q0
   go_wp2_with ((with_reducible refine wL (.store 28 (.tmp 4) _) ?_);(refine Zc rfl 28 (.tmp 4) (.tmp 20) rfl (w.heap.size+2) _ C rfl rfl aO5 iC zC h1C ?_);intro w6 hU6)
   refine Zf rfl rfl Tryz.underlying28 rfl iC hU6.out.here ?_
   rw[hfm.out]
   exact⟨_,_,rfl,hA.out.upd hfr.out hU6.out oX,hE.out.updS hU6.out aO5.out dX,hB.out.trans (hU6.out.below oX),hfr.out.mono oX⟩
  ·replace hfm:=Hd (hfm.out.trans (if_neg hk1))
   have hk1b:(kd==1)=false:=by simpa using hk1
   by_cases hk2:kd=2
   ·subst hk2
    replace hfm:=Hd (hfm.out.trans (if_pos rfl))
    clear hk1
    go_wp2_with ((with_reducible refine wL (.load 49 (.tmp 3)) ?_);refine Ze rfl 49 (.tmp 3) rfl (w.heap.size+1) R _ rfl aR Tryz.underlying49 rfl iR ?_)
    with_reducible refine(h2.out _ hB.out).mono ?_
    rintro e w5 ⟨vm,v5,rfl,hA,hE,hb,hfr⟩
    obtain⟨b1,d1,b2,d2,rfl⟩:=hA.shape
    obtain⟨C,hC⟩:∃ C:Array Value,C=#[.slice b1 (Yf m x).1.its.length d1,.slice b2 (Yf m x).1.ens.length d2]:=⟨_,rfl⟩
    rw[<-hC] at hA hfr ⊢
    have iC:(Tryz.prog.info? 28).map (·.size)=some C.size:=by rw[hC];kernel_rfl
    have zC:(#[.slice none 0 0,.slice none 0 0]:Array Value).size=C.size:=by rw[hC];rfl
    have h1C:C.all (·.oneCell')=true:=by rw[hC];simp[Value.oneCell']
    have aO5:=Hd ((hb.block _ (Zb aO.out)).trans aO.out)
    replace hB:=Hd (hB.out.trans (hb.mono hB.out.size))
    have hs5:=hs4.out
    replace hA:=Hd hA
    replace hE:=Hd hE
    replace hfr:=Hd hfr
    clear hC hb s0 s1 q0
    go_wp2_with ((with_reducible refine wL (.store 28 (.tmp 4) _) ?_);(refine Zc rfl 28 (.tmp 4) (.tmp 27) rfl (w.heap.size+2) _ C rfl rfl aO5 iC zC h1C ?_);intro w6 hU6)
    refine Zf rfl rfl Tryz.underlying28 rfl iC hU6.out.here ?_
    rw[hfm.out]
    exact⟨_,_,rfl,hA.out.upd hfr.out hU6.out oX,hE.out.updS hU6.out aO5.out dX,hB.out.trans (hU6.out.below oX),hfr.out.mono oX⟩
   ·replace hfm:=Hd (hfm.out.trans (if_neg hk2))
    have hk2b:(kd==2)=false:=by simpa using hk2
    by_cases hk4:kd=4
    ·subst hk4
     replace hfm:=Hd (hfm.out.trans (if_pos rfl))
     clear hk1 hk2
     go_wp2_with ((with_reducible refine wL (.load 49 (.tmp 3)) ?_);refine Ze rfl 49 (.tmp 3) rfl (w.heap.size+1) R _ rfl aR Tryz.underlying49 rfl iR ?_)
     with_reducible refine(h4.out _ hB.out).mono ?_
     rintro e w5 ⟨vm,v5,rfl,hA,hE,hb,hfr⟩
     obtain⟨b1,d1,b2,d2,rfl⟩:=hA.shape
     obtain⟨C,hC⟩:∃ C:Array Value,C=#[.slice b1 (Y9 m x).1.its.length d1,.slice b2 (Y9 m x).1.ens.length d2]:=⟨_,rfl⟩
     rw[<-hC] at hA hfr ⊢
     have iC:(Tryz.prog.info? 28).map (·.size)=some C.size:=by rw[hC];kernel_rfl
     have zC:(#[.slice none 0 0,.slice none 0 0]:Array Value).size=C.size:=by rw[hC];rfl
     have h1C:C.all (·.oneCell')=true:=by rw[hC];simp[Value.oneCell']
     have aO5:=Hd ((hb.block _ (Zb aO.out)).trans aO.out)
     replace hB:=Hd (hB.out.trans (hb.mono hB.out.size))
     have hs5:=hs4.out
     replace hA:=Hd hA
     replace hE:=Hd hE
     replace hfr:=Hd hfr
     clear hC hb s0 s1 q0
     go_wp2_with ((with_reducible refine wL (.store 28 (.tmp 4) _) ?_);(refine Zc rfl 28 (.tmp 4) (.tmp 34) rfl (w.heap.size+2) _ C rfl rfl aO5 iC zC h1C ?_);intro w6 hU6)
     refine Zf rfl rfl Tryz.underlying28 rfl iC hU6.out.here ?_
     rw[hfm.out]
     exact⟨_,_,rfl,hA.out.upd hfr.out hU6.out oX,hE.out.updS hU6.out aO5.out dX,hB.out.trans (hU6.out.below oX),hfr.out.mono oX⟩
    ·replace hfm:=Hd (hfm.out.trans (if_neg hk4))
     have hk4b:(kd==4)=false:=by simpa using hk4
     clear hk1 hk2 hk4
     go_wp2_with ((with_reducible refine wL (.load 49 (.tmp 3)) ?_);refine Ze rfl 49 (.tmp 3) rfl (w.heap.size+1) R _ rfl aR Tryz.underlying49 rfl iR ?_)
     with_reducible refine(h3.out _ hB.out).mono ?_
     rintro e w5 ⟨vm,v5,rfl,hA,hE,hb,hfr⟩
     obtain⟨b1,d1,b2,d2,rfl⟩:=hA.shape
     obtain⟨C,hC⟩:∃ C:Array Value,C=#[.slice b1 (Q7 m x).1.its.length d1,.slice b2 (Q7 m x).1.ens.length d2]:=⟨_,rfl⟩
     rw[<-hC] at hA hfr ⊢
     have iC:(Tryz.prog.info? 28).map (·.size)=some C.size:=by rw[hC];kernel_rfl
     have zC:(#[.slice none 0 0,.slice none 0 0]:Array Value).size=C.size:=by rw[hC];rfl
     have h1C:C.all (·.oneCell')=true:=by rw[hC];simp[Value.oneCell']
     have aO5:=Hd ((hb.block _ (Zb aO.out)).trans aO.out)
     replace hB:=Hd (hB.out.trans (hb.mono hB.out.size))
     have hs5:=hs4.out
     replace hA:=Hd hA
     replace hE:=Hd hE
     replace hfr:=Hd hfr
     clear hC hb s0 s1 q0
     go_wp2_with ((with_reducible refine wL (.store 28 (.tmp 4) _) ?_);(refine Zc rfl 28 (.tmp 4) (.tmp 39) rfl (w.heap.size+2) _ C rfl rfl aO5 iC zC h1C ?_);intro w6 hU6)
     refine Zf rfl rfl Tryz.underlying28 rfl iC hU6.out.here ?_
     rw[hfm.out]
     exact⟨_,_,rfl,hA.out.upd hfr.out hU6.out oX,hE.out.updS hU6.out aO5.out dX,hB.out.trans (hU6.out.below oX),hfr.out.mono oX⟩
 ·replace hfm:=Hd (hfm.out.trans (if_pos hN0))
  have hbt:(N0 != 0)=true:=by simpa using hN0
  rw[hbt] at hu
  have hv:=Hd hv4
  have hs5:=hs4.out
  clear hv4 hN0
  go_wp2_with ((with_reducible refine wL (.store 28 (.tmp 4) _) ?_);(refine Zc rfl 28 (.tmp 4) (.tmp 11) rfl (w.heap.size+2) _ #[.slice none 0 0,.slice none 0 0] rfl rfl aO i0 rfl (by simp[Value.oneCell']) ?_);intro w6 hU6)
  refine Zf rfl rfl Tryz.underlying28 rfl i0 hU6.out.here ?_
  rw[hfm.out]
  exact⟨_,_,rfl,ZC _,hv.out.updS hU6.out aO.out dX,hB.out.trans (hU6.out.below oX),Zz _⟩
end Go.Proofs.YtpdhceiodgnbmaaGreatDoor
