import Derived.Test.YtpdhceiodgnbmaaGreatDoorF0FollowsSaid
import Derived.Test.YtpdhceiodgnbmaaGreatDoorF1FollowsSaid
import Derived.Test.YtpdhceiodgnbmaaGreatDoorF11FollowsSaid
set_option linter.unusedVariables false
set_option linter.unusedSimpArgs false
set_option linter.unnecessarySimpa false
set_option maxRecDepth 100000
set_option maxHeartbeats 8000000
namespace Go.Proofs.YtpdhceiodgnbmaaGreatDoor
open Go.RowKit
theorem MK(va:Value)(m:St)(x:Rc)(hx:x.Ok)(w:World)(ha:ArgS w va m)(l1:m.its.length<=1000)(l2:m.ens.length<=1000)(h1:(Zx m.its x.name).2=true)(ea:Nat->Addr)(H:Errs 298 Zv w ea) :
  Calls Tryz.prog 40 #[va,.agg x.list.toArray] w (Zo ea ⟨[],[]⟩ 10 w):=by
 have hge:=λW (h:Below w.heap.size w W)=>(ZF (H.below h)).2.2.2.2.2.2.2.2.2.1
 have hcf:=Hd (Rc.kept0 x hx 49)
 have hc0:=λW h=>Xh va m W (ha.below h nR) l1 x.name
 rw[h1] at hc0
 have hok:=Xl ha.okN x.name
 obtain⟨XA,hXA⟩:∃ XA,XA=(Zx m.its x.name).1.list.toArray:=⟨_,rfl⟩
 have iA:(Tryz.prog.info? 58).map (·.size)=some XA.size:=by rw[hXA,It.size hok];kernel_rfl
 have zA:Tryz.zeroCells58.size=XA.size:=by rw[hXA,It.size hok];kernel_rfl
 have h1A:XA.all (·.oneCell')=true:=by rw[hXA];exact Go.Proofs.YtpdhceiodgnbmaaGreatDoor.all_one (It.list_one _)
 rw[<-hXA] at hc0
 obtain⟨⟨an,cn,av,cv,rfl,hN,hN1,hN2,hV,hV1,hV2⟩,okN,okV⟩:=ha
 obtain⟨N,hNl⟩:∃ N,N=m.its.length:=⟨_,rfl⟩
 obtain⟨V,hVl⟩:∃ V,V=m.ens.length:=⟨_,rfl⟩
 rw[<-hNl,<-hVl] at hc0
 rw[<-hNl,<-hVl]
 generalize hRR:x.list.toArray=R at*
 obtain⟨aS,aR,aO,hs3,hB⟩:=Zq w #[.slice an N cn,.slice av V cv] R #[.slice none 0 0,.slice none 0 0] 28 49 28 _ rfl
 obtain⟨w3,hw3⟩:∃ w3,w3=((w.alloc (.cells #[.slice an N cn,.slice av V cv] 28)).alloc (.cells R 49)).alloc (.cells #[.slice none 0 0,.slice none 0 0] 28):=⟨_,rfl⟩
 have s0:=Za aS 0
 have s1:=Za aS 1
 obtain⟨q0,q1,q2,q3,q4,q5,q6,q7⟩:=hcf.out _ _ aR
 rw[<-hw3] at aS aR aO hB
 have hpost:Hid (∀ W v,ErrIs ea W v 10->Below w.heap.size w W->Zo ea ⟨[],[]⟩ 10 w (.returned (.tuple #[.agg #[.slice none 0 0,.slice none 0 0],v])) W):=Hd (λW v h1 h2=>⟨_,_,rfl,ZC W,h1,h2,Zz _⟩)
 generalize x.obj=vo at*
 generalize x.id=vi at*
 generalize x.way=vw at*
 generalize x.index=vx at*
 generalize x.name=vn at*
 replace hc0:=Hd hc0
 replace hge:=Hd hge
 replace aS:=Hd aS
 replace aR:=Hd aR
 replace aO:=Hd aO
 replace hB:=Hd hB
 replace hw3:=Hd hw3
 clear hRR hN hV hN1 hN2 hV1 hV2 okN okV hNl hVl hXA l1 l2 hs3 h1
 go_enter Tryz.func40,Tryz.ntmps40
 go_wp2_with fail
 rw[<-hw3.out]
 with_reducible refine(hc0.out _ hB.out).mono ?_
 rintro e w4 ⟨rfl,hb⟩
 replace aS:=Hd ((hb.block _ (Zb aS.out)).trans aS.out)
 replace aR:=Hd ((hb.block _ (Zb aR.out)).trans aR.out)
 replace aO:=Hd ((hb.block _ (Zb aO.out)).trans aO.out)
 replace hB:=Hd (hB.out.trans (hb.mono hB.out.size))
 clear hb s0 s1 q0 q1 q2 q3 q4 q5 q6 q7
 have s0:=Za aS.out 0
 have s1:=Za aS.out 1
 obtain⟨q0,q1,q2,q3,q4,q5,q6,q7⟩:=hcf.out _ _ aR.out
 have hZ4:=Hd (heap_alloc_new w4 (.cells Tryz.zeroCells58 58))
 go_wp2_with ((with_reducible refine wL (.store 58 (.tmp 6) _) ?_);(refine Zc rfl 58 (.tmp 6) (.tmp 14) rfl w4.heap.size _ XA rfl rfl hZ4 iA zA h1A ?_);intro w5 hU5;have hb5:Below w4.heap.size w4 w5:=(Below.alloc (Below.refl w4.heap.size w4) nR _).trans (hU5.out.below nR);have aX:=Hd hU5.out.here;replace aS:=Hd ((hb5.block _ (Zb aS.out)).trans aS.out);replace aR:=Hd ((hb5.block _ (Zb aR.out)).trans aR.out);replace aO:=Hd ((hb5.block _ (Zb aO.out)).trans aO.out);replace hB:=Hd (hB.out.trans (hb5.mono hB.out.size));clear s0 s1 q0 q1 q2 q3 q4 q5 q6 q7 hb5;have s0:=Za aS.out 0;have s1:=Za aS.out 1;obtain⟨q0,q1,q2,q3,q4,q5,q6,q7⟩:=hcf.out _ _ aR.out)
 have hd0:Hid (Below w.heap.size w w5.drew):=Hd hB.out.drew
 replace aO:Hid (w5.drew.heap[w.heap.size+2]? = some (.cells #[.slice none 0 0,.slice none 0 0] 28 (0,0))):=Hd aO.out
 have hcW:=λW h=>hge.out W h
 refine wp_region_held_drew (S:=(Below w.heap.size w)) kX hd0.out (λhOn=>?_)
 generalize World.drew w5=wd at*
 refine tk 0 hOn ?_
 refine tk 1 hOn ?_
 refine rd 2 (λKz hKz=>?_)
 rw[if_pos (by rfl)]
 (with_reducible refine Zl 28 (.tmp 4) (.tmp 18) rfl (w.heap.size+2) #[.slice none 0 0,.slice none 0 0] #[.slice none 0 0,.slice none 0 0] rfl rfl aO kX rfl (by simp[Value.oneCell']) ?_)
 intro w9 hU9
 have hS:=hOn.trans (hU9.out.below oX)
 have hres:=Hd hU9.out.here
 refine hKz.out _ _ hS ?_
 clear hKz Kz hOn hS
 intro hOn
 try simp only[Act.put]
 refine tk 3 hOn ?_
 refine dnE ?_
 all_goals
  go_wp2_with fail
  refine Zf rfl rfl Tryz.underlying28 rfl kX hres.out ?_
  exact hpost.out _ _ (.inr (.inl ⟨10-1,dX,dX,rfl⟩)) hOn
theorem GF(va:Value)(m:St)(x:Rc)(hx:x.Ok)(w:World)(ha:ArgS w va m)(l1:m.its.length<=1000)(l2:m.ens.length<=1000)(h1:(Zx m.its x.name).2=false)(h2:4<=m.its.length)(ea:Nat->Addr)(H:Errs 298 Zv w ea) :
  Calls Tryz.prog 40 #[va,.agg x.list.toArray] w (Zo ea ⟨[],[]⟩ 12 w):=by
 have hge:=λW (h:Below w.heap.size w W)=>(ZF (H.below h)).2.2.2.2.2.2.2.2.2.2.2.1
 have hcf:=Hd (Rc.kept0 x hx 49)
 have hc0:=λW h=>Xh va m W (ha.below h nR) l1 x.name
 rw[h1] at hc0
 have hok:=Xl ha.okN x.name
 obtain⟨XA,hXA⟩:∃ XA,XA=(Zx m.its x.name).1.list.toArray:=⟨_,rfl⟩
 have iA:(Tryz.prog.info? 58).map (·.size)=some XA.size:=by rw[hXA,It.size hok];kernel_rfl
 have zA:Tryz.zeroCells58.size=XA.size:=by rw[hXA,It.size hok];kernel_rfl
 have h1A:XA.all (·.oneCell')=true:=by rw[hXA];exact Go.Proofs.YtpdhceiodgnbmaaGreatDoor.all_one (It.list_one _)
 rw[<-hXA] at hc0
 obtain⟨⟨an,cn,av,cv,rfl,hN,hN1,hN2,hV,hV1,hV2⟩,okN,okV⟩:=ha
 obtain⟨N,hNl⟩:∃ N,N=m.its.length:=⟨_,rfl⟩
 obtain⟨V,hVl⟩:∃ V,V=m.ens.length:=⟨_,rfl⟩
 rw[<-hNl,<-hVl] at hc0
 rw[<-hNl,<-hVl]
 generalize hRR:x.list.toArray=R at*
 obtain⟨aS,aR,aO,hs3,hB⟩:=Zq w #[.slice an N cn,.slice av V cv] R #[.slice none 0 0,.slice none 0 0] 28 49 28 _ rfl
 obtain⟨w3,hw3⟩:∃ w3,w3=((w.alloc (.cells #[.slice an N cn,.slice av V cv] 28)).alloc (.cells R 49)).alloc (.cells #[.slice none 0 0,.slice none 0 0] 28):=⟨_,rfl⟩
 have s0:=Za aS 0
 have s1:=Za aS 1
 obtain⟨q0,q1,q2,q3,q4,q5,q6,q7⟩:=hcf.out _ _ aR
 rw[<-hw3] at aS aR aO hB
 have hN4:(4:Int)<=(N:Int):=by rw[hNl];omega
 have hpost:Hid (∀ W v,ErrIs ea W v 12->Below w.heap.size w W->Zo ea ⟨[],[]⟩ 12 w (.returned (.tuple #[.agg #[.slice none 0 0,.slice none 0 0],v])) W):=Hd (λW v h1 h2=>⟨_,_,rfl,ZC W,h1,h2,Zz _⟩)
 generalize x.obj=vo at*
 generalize x.id=vi at*
 generalize x.way=vw at*
 generalize x.index=vx at*
 generalize x.name=vn at*
 replace hc0:=Hd hc0
 replace hge:=Hd hge
 replace aS:=Hd aS
 replace aR:=Hd aR
 replace aO:=Hd aO
 replace hB:=Hd hB
 replace hw3:=Hd hw3
 clear hRR hN hV hN1 hN2 hV1 hV2 okN okV hNl hVl hXA l1 l2 hs3 h1 h2
 go_enter Tryz.func40,Tryz.ntmps40
 go_wp2_with fail
 rw[<-hw3.out]
 with_reducible refine(hc0.out _ hB.out).mono ?_
 rintro e w4 ⟨rfl,hb⟩
 replace aS:=Hd ((hb.block _ (Zb aS.out)).trans aS.out)
 replace aR:=Hd ((hb.block _ (Zb aR.out)).trans aR.out)
 replace aO:=Hd ((hb.block _ (Zb aO.out)).trans aO.out)
 replace hB:=Hd (hB.out.trans (hb.mono hB.out.size))
 clear hb s0 s1 q0 q1 q2 q3 q4 q5 q6 q7
 have s0:=Za aS.out 0
 have s1:=Za aS.out 1
 obtain⟨q0,q1,q2,q3,q4,q5,q6,q7⟩:=hcf.out _ _ aR.out
 have hZ4:=Hd (heap_alloc_new w4 (.cells Tryz.zeroCells58 58))
 go_wp2_with ((with_reducible refine wL (.store 58 (.tmp 6) _) ?_);(refine Zc rfl 58 (.tmp 6) (.tmp 14) rfl w4.heap.size _ XA rfl rfl hZ4 iA zA h1A ?_);intro w5 hU5;have hb5:Below w4.heap.size w4 w5:=(Below.alloc (Below.refl w4.heap.size w4) nR _).trans (hU5.out.below nR);have aX:=Hd hU5.out.here;replace aS:=Hd ((hb5.block _ (Zb aS.out)).trans aS.out);replace aR:=Hd ((hb5.block _ (Zb aR.out)).trans aR.out);replace aO:=Hd ((hb5.block _ (Zb aO.out)).trans aO.out);replace hB:=Hd (hB.out.trans (hb5.mono hB.out.size));clear s0 s1 q0 q1 q2 q3 q4 q5 q6 q7 hb5;have s0:=Za aS.out 0;have s1:=Za aS.out 1;obtain⟨q0,q1,q2,q3,q4,q5,q6,q7⟩:=hcf.out _ _ aR.out)
 have hd0:Hid (Below w.heap.size w w5.drew):=Hd hB.out.drew
 replace aO:Hid (w5.drew.heap[w.heap.size+2]? = some (.cells #[.slice none 0 0,.slice none 0 0] 28 (0,0))):=Hd aO.out
 have hcW:=λW h=>hge.out W h
 refine wp_region_held_drew (S:=(Below w.heap.size w)) kX hd0.out (λhOn=>?_)
 generalize World.drew w5=wd at*
 refine tk 0 hOn ?_
 refine tk 1 hOn ?_
 refine rd 2 (λKz hKz=>?_)
 rw[if_pos (by rfl)]
 (with_reducible refine Zl 28 (.tmp 4) (.tmp 25) rfl (w.heap.size+2) #[.slice none 0 0,.slice none 0 0] #[.slice none 0 0,.slice none 0 0] rfl rfl aO kX rfl (by simp[Value.oneCell']) ?_)
 intro w9 hU9
 have hS:=hOn.trans (hU9.out.below oX)
 have hres:=Hd hU9.out.here
 refine hKz.out _ _ hS ?_
 clear hKz Kz hOn hS
 intro hOn
 try simp only[Act.put]
 refine tk 3 hOn ?_
 refine dnE ?_
 all_goals
  go_wp2_with fail
  refine Zf rfl rfl Tryz.underlying28 rfl kX hres.out ?_
  exact hpost.out _ _ (.inr (.inl ⟨12-1,dX,dX,rfl⟩)) hOn
theorem GD(va:Value)(m:St)(x:Rc)(hx:x.Ok)(w:World)(ha:ArgS w va m)(l1:m.its.length<=1000)(l2:m.ens.length<=1000)(h1:(Zx m.its x.name).2=false)(h2:m.its.length<4)(h3:x.obj≠(m.its.length:Int))(ea:Nat->Addr)(H:Errs 298 Zv w ea) :
  Calls Tryz.prog 40 #[va,.agg x.list.toArray] w (Zo ea ⟨[],[]⟩ 4 w):=by
 have hge:=λW (h:Below w.heap.size w W)=>(ZF (H.below h)).2.2.2.1
 have hcf:=Hd (Rc.kept0 x hx 49)
 have hc0:=λW h=>Xh va m W (ha.below h nR) l1 x.name
 rw[h1] at hc0
 have hok:=Xl ha.okN x.name
 obtain⟨XA,hXA⟩:∃ XA,XA=(Zx m.its x.name).1.list.toArray:=⟨_,rfl⟩
 have iA:(Tryz.prog.info? 58).map (·.size)=some XA.size:=by rw[hXA,It.size hok];kernel_rfl
 have zA:Tryz.zeroCells58.size=XA.size:=by rw[hXA,It.size hok];kernel_rfl
 have h1A:XA.all (·.oneCell')=true:=by rw[hXA];exact Go.Proofs.YtpdhceiodgnbmaaGreatDoor.all_one (It.list_one _)
 rw[<-hXA] at hc0
 obtain⟨⟨an,cn,av,cv,rfl,hN,hN1,hN2,hV,hV1,hV2⟩,okN,okV⟩:=ha
 obtain⟨N,hNl⟩:∃ N,N=m.its.length:=⟨_,rfl⟩
 obtain⟨V,hVl⟩:∃ V,V=m.ens.length:=⟨_,rfl⟩
 rw[<-hNl,<-hVl] at hc0
 rw[<-hNl,<-hVl]
 generalize hRR:x.list.toArray=R at*
 obtain⟨aS,aR,aO,hs3,hB⟩:=Zq w #[.slice an N cn,.slice av V cv] R #[.slice none 0 0,.slice none 0 0] 28 49 28 _ rfl
 obtain⟨w3,hw3⟩:∃ w3,w3=((w.alloc (.cells #[.slice an N cn,.slice av V cv] 28)).alloc (.cells R 49)).alloc (.cells #[.slice none 0 0,.slice none 0 0] 28):=⟨_,rfl⟩
 have s0:=Za aS 0
 have s1:=Za aS 1
 obtain⟨q0,q1,q2,q3,q4,q5,q6,q7⟩:=hcf.out _ _ aR
 rw[<-hw3] at aS aR aO hB
 have hN4:(N:Int)<4:=by rw[hNl];omega
 have hof:(x.obj != (N:Int))=true:=by rw[hNl];simpa using h3
 have hpost:Hid (∀ W v,ErrIs ea W v 4->Below w.heap.size w W->Zo ea ⟨[],[]⟩ 4 w (.returned (.tuple #[.agg #[.slice none 0 0,.slice none 0 0],v])) W):=Hd (λW v h1 h2=>⟨_,_,rfl,ZC W,h1,h2,Zz _⟩)
 generalize x.obj=vo at*
 generalize x.id=vi at*
 generalize x.way=vw at*
 generalize x.index=vx at*
 generalize x.name=vn at*
 replace hc0:=Hd hc0
 replace hge:=Hd hge
 replace aS:=Hd aS
 replace aR:=Hd aR
 replace aO:=Hd aO
 replace hB:=Hd hB
 replace hw3:=Hd hw3
 clear hRR hN hV hN1 hN2 hV1 hV2 okN okV hNl hVl hXA l1 l2 hs3 h1 h3 h2
 go_enter Tryz.func40,Tryz.ntmps40
 go_wp2_with fail
 rw[<-hw3.out]
 with_reducible refine(hc0.out _ hB.out).mono ?_
 rintro e w4 ⟨rfl,hb⟩
 replace aS:=Hd ((hb.block _ (Zb aS.out)).trans aS.out)
 replace aR:=Hd ((hb.block _ (Zb aR.out)).trans aR.out)
 replace aO:=Hd ((hb.block _ (Zb aO.out)).trans aO.out)
 replace hB:=Hd (hB.out.trans (hb.mono hB.out.size))
 clear hb s0 s1 q0 q1 q2 q3 q4 q5 q6 q7
 have s0:=Za aS.out 0
 have s1:=Za aS.out 1
 obtain⟨q0,q1,q2,q3,q4,q5,q6,q7⟩:=hcf.out _ _ aR.out
 have hZ4:=Hd (heap_alloc_new w4 (.cells Tryz.zeroCells58 58))
 go_wp2_with ((with_reducible refine wL (.store 58 (.tmp 6) _) ?_);(refine Zc rfl 58 (.tmp 6) (.tmp 14) rfl w4.heap.size _ XA rfl rfl hZ4 iA zA h1A ?_);intro w5 hU5;have hb5:Below w4.heap.size w4 w5:=(Below.alloc (Below.refl w4.heap.size w4) nR _).trans (hU5.out.below nR);have aX:=Hd hU5.out.here;replace aS:=Hd ((hb5.block _ (Zb aS.out)).trans aS.out);replace aR:=Hd ((hb5.block _ (Zb aR.out)).trans aR.out);replace aO:=Hd ((hb5.block _ (Zb aO.out)).trans aO.out);replace hB:=Hd (hB.out.trans (hb5.mono hB.out.size));clear s0 s1 q0 q1 q2 q3 q4 q5 q6 q7 hb5;have s0:=Za aS.out 0;have s1:=Za aS.out 1;obtain⟨q0,q1,q2,q3,q4,q5,q6,q7⟩:=hcf.out _ _ aR.out)
 have hd0:Hid (Below w.heap.size w w5.drew):=Hd hB.out.drew
 replace aO:Hid (w5.drew.heap[w.heap.size+2]? = some (.cells #[.slice none 0 0,.slice none 0 0] 28 (0,0))):=Hd aO.out
 have hcW:=λW h=>hge.out W h
 refine wp_region_held_drew (S:=(Below w.heap.size w)) kX hd0.out (λhOn=>?_)
 generalize World.drew w5=wd at*
 refine tk 0 hOn ?_
 refine tk 1 hOn ?_
 refine rd 2 (λKz hKz=>?_)
 rw[if_pos (by rfl)]
 (with_reducible refine Zl 28 (.tmp 4) (.tmp 34) rfl (w.heap.size+2) #[.slice none 0 0,.slice none 0 0] #[.slice none 0 0,.slice none 0 0] rfl rfl aO kX rfl (by simp[Value.oneCell']) ?_)
 intro w9 hU9
 have hS:=hOn.trans (hU9.out.below oX)
 have hres:=Hd hU9.out.here
 refine hKz.out _ _ hS ?_
 clear hKz Kz hOn hS
 intro hOn
 try simp only[Act.put]
 refine tk 3 hOn ?_
 refine dnE ?_
 all_goals
  go_wp2_with fail
  refine Zf rfl rfl Tryz.underlying28 rfl kX hres.out ?_
  exact hpost.out _ _ (.inr (.inl ⟨4-1,dX,dX,rfl⟩)) hOn
theorem Ti(va:Value)(m:St)(x:Rc)(hx:x.Ok)(w:World)(ha:ArgS w va m)(l1:m.its.length<=1000)(l2:m.ens.length<=1000)(h1:¬(0<=x.obj/\x.obj<m.its.length))(ea:Nat->Addr)(H:Errs 298 Zv w ea) :
  Calls Tryz.prog 42 #[va,.agg x.list.toArray] w (Zo ea ⟨[],[]⟩ 11 w):=by
 have hge:=λW (h:Below w.heap.size w W)=>(ZF (H.below h)).2.2.2.2.2.2.2.2.2.2.1
 have hcf:=Hd (Rc.kept0 x hx 49)
 have hc0:=λW h=>Jr va m W (ha.below h nR) x.obj h1 l1
 have hok:(default:It).Ok:=It.default_ok
 obtain⟨XA,hXA⟩:∃ XA,XA=(default:It).list.toArray:=⟨_,rfl⟩
 have iA:(Tryz.prog.info? 58).map (·.size)=some XA.size:=by rw[hXA,It.size hok];kernel_rfl
 have zA:Tryz.zeroCells58.size=XA.size:=by rw[hXA,It.size hok];kernel_rfl
 have h1A:XA.all (·.oneCell')=true:=by rw[hXA];exact Go.Proofs.YtpdhceiodgnbmaaGreatDoor.all_one (It.list_one _)
 rw[<-hXA] at hc0
 obtain⟨⟨an,cn,av,cv,rfl,hN,hN1,hN2,hV,hV1,hV2⟩,okN,okV⟩:=ha
 obtain⟨N,hNl⟩:∃ N,N=m.its.length:=⟨_,rfl⟩
 obtain⟨V,hVl⟩:∃ V,V=m.ens.length:=⟨_,rfl⟩
 rw[<-hNl,<-hVl] at hc0
 rw[<-hNl,<-hVl]
 generalize hRR:x.list.toArray=R at*
 obtain⟨aS,aR,aO,hs3,hB⟩:=Zq w #[.slice an N cn,.slice av V cv] R #[.slice none 0 0,.slice none 0 0] 28 49 28 _ rfl
 obtain⟨w3,hw3⟩:∃ w3,w3=((w.alloc (.cells #[.slice an N cn,.slice av V cv] 28)).alloc (.cells R 49)).alloc (.cells #[.slice none 0 0,.slice none 0 0] 28):=⟨_,rfl⟩
 have s0:=Za aS 0
 have s1:=Za aS 1
 obtain⟨q0,q1,q2,q3,q4,q5,q6,q7⟩:=hcf.out _ _ aR
 rw[<-hw3] at aS aR aO hB
 have hpost:Hid (∀ W v,ErrIs ea W v 11->Below w.heap.size w W->Zo ea ⟨[],[]⟩ 11 w (.returned (.tuple #[.agg #[.slice none 0 0,.slice none 0 0],v])) W):=Hd (λW v h1 h2=>⟨_,_,rfl,ZC W,h1,h2,Zz _⟩)
 generalize x.obj=vo at*
 generalize x.id=vi at*
 generalize x.way=vw at*
 generalize x.index=vx at*
 generalize x.name=vn at*
 replace hc0:=Hd hc0
 replace hge:=Hd hge
 replace aS:=Hd aS
 replace aR:=Hd aR
 replace aO:=Hd aO
 replace hB:=Hd hB
 replace hw3:=Hd hw3
 clear hRR hN hV hN1 hN2 hV1 hV2 okN okV hNl hVl hXA l1 l2 hs3 h1
 go_enter Tryz.func42,Tryz.ntmps42
 go_wp2_with fail
 rw[<-hw3.out]
 with_reducible refine(hc0.out _ hB.out).mono ?_
 rintro e w4 ⟨rfl,hb⟩
 replace aS:=Hd ((hb.block _ (Zb aS.out)).trans aS.out)
 replace aR:=Hd ((hb.block _ (Zb aR.out)).trans aR.out)
 replace aO:=Hd ((hb.block _ (Zb aO.out)).trans aO.out)
 replace hB:=Hd (hB.out.trans (hb.mono hB.out.size))
 clear hb s0 s1 q0 q1 q2 q3 q4 q5 q6 q7
 have s0:=Za aS.out 0
 have s1:=Za aS.out 1
 obtain⟨q0,q1,q2,q3,q4,q5,q6,q7⟩:=hcf.out _ _ aR.out
 have hZ4:=Hd (heap_alloc_new w4 (.cells Tryz.zeroCells58 58))
 go_wp2_with ((with_reducible refine wL (.store 58 (.tmp 6) _) ?_);(refine Zc rfl 58 (.tmp 6) (.tmp 14) rfl w4.heap.size _ XA rfl rfl hZ4 iA zA h1A ?_);intro w5 hU5;have hb5:Below w4.heap.size w4 w5:=(Below.alloc (Below.refl w4.heap.size w4) nR _).trans (hU5.out.below nR);have aX:=Hd hU5.out.here;replace aS:=Hd ((hb5.block _ (Zb aS.out)).trans aS.out);replace aR:=Hd ((hb5.block _ (Zb aR.out)).trans aR.out);replace aO:=Hd ((hb5.block _ (Zb aO.out)).trans aO.out);replace hB:=Hd (hB.out.trans (hb5.mono hB.out.size));clear s0 s1 q0 q1 q2 q3 q4 q5 q6 q7 hb5;have s0:=Za aS.out 0;have s1:=Za aS.out 1;obtain⟨q0,q1,q2,q3,q4,q5,q6,q7⟩:=hcf.out _ _ aR.out)
 have hd0:Hid (Below w.heap.size w w5.drew):=Hd hB.out.drew
 replace aO:Hid (w5.drew.heap[w.heap.size+2]? = some (.cells #[.slice none 0 0,.slice none 0 0] 28 (0,0))):=Hd aO.out
 have hcW:=λW h=>hge.out W h
 refine wp_region_held_drew (S:=(Below w.heap.size w)) kX hd0.out (λhOn=>?_)
 generalize World.drew w5=wd at*
 refine tk 0 hOn ?_
 refine tk 1 hOn ?_
 refine rd 2 (λKz hKz=>?_)
 rw[if_pos (by rfl)]
 (with_reducible refine Zl 28 (.tmp 4) (.tmp 19) rfl (w.heap.size+2) #[.slice none 0 0,.slice none 0 0] #[.slice none 0 0,.slice none 0 0] rfl rfl aO kX rfl (by simp[Value.oneCell']) ?_)
 intro w9 hU9
 have hS:=hOn.trans (hU9.out.below oX)
 have hres:=Hd hU9.out.here
 refine hKz.out _ _ hS ?_
 clear hKz Kz hOn hS
 intro hOn
 try simp only[Act.put]
 refine tk 3 hOn ?_
 refine dnE ?_
 all_goals
  go_wp2_with fail
  refine Zf rfl rfl Tryz.underlying28 rfl kX hres.out ?_
  exact hpost.out _ _ (.inr (.inl ⟨11-1,dX,dX,rfl⟩)) hOn
theorem M7(va:Value)(m:St)(x:Rc)(hx:x.Ok)(w:World)(ha:ArgS w va m)(l1:m.its.length<=1000)(l2:m.ens.length<=1000)(i:Nat)(hi:i<m.its.length)(hx1:x.obj=(i:Int))(h1:m.its[i].k=true)(ea:Nat->Addr)(H:Errs 298 Zv w ea) :
  Calls Tryz.prog 42 #[va,.agg x.list.toArray] w (Zo ea ⟨[],[]⟩ 13 w):=by
 have hge:=λW (h:Below w.heap.size w W)=>(ZF (H.below h)).2.2.2.2.2.2.2.2.2.2.2.2.1
 have hcf:=Hd (Rc.kept0 x hx 49)
 have hc0:=λW h=>Yj va m W (ha.below h nR) i hi l1
 rw[<-hx1] at hc0
 have hok:=ha.okN _ (List.getElem_mem hi)
 generalize hy:m.its[i]=y at*
 obtain⟨XA,hXA⟩:∃ XA,XA=y.list.toArray:=⟨_,rfl⟩
 have hk73:∀ (W:World) b,W.heap[b]? = some (.cells XA 58 (0,0))->W.cell? ⟨b,73,none⟩=some (.bool y.k):=λW b h=>by rw[Za h,hXA,List.getElem?_toArray];exact It.c73 hok
 have iA:(Tryz.prog.info? 58).map (·.size)=some XA.size:=by rw[hXA,It.size hok];kernel_rfl
 have zA:Tryz.zeroCells58.size=XA.size:=by rw[hXA,It.size hok];kernel_rfl
 have h1A:XA.all (·.oneCell')=true:=by rw[hXA];exact Go.Proofs.YtpdhceiodgnbmaaGreatDoor.all_one (It.list_one _)
 rw[<-hXA] at hc0
 obtain⟨⟨an,cn,av,cv,rfl,hN,hN1,hN2,hV,hV1,hV2⟩,okN,okV⟩:=ha
 obtain⟨N,hNl⟩:∃ N,N=m.its.length:=⟨_,rfl⟩
 obtain⟨V,hVl⟩:∃ V,V=m.ens.length:=⟨_,rfl⟩
 rw[<-hNl,<-hVl] at hc0
 rw[<-hNl,<-hVl]
 generalize hRR:x.list.toArray=R at*
 obtain⟨aS,aR,aO,hs3,hB⟩:=Zq w #[.slice an N cn,.slice av V cv] R #[.slice none 0 0,.slice none 0 0] 28 49 28 _ rfl
 obtain⟨w3,hw3⟩:∃ w3,w3=((w.alloc (.cells #[.slice an N cn,.slice av V cv] 28)).alloc (.cells R 49)).alloc (.cells #[.slice none 0 0,.slice none 0 0] 28):=⟨_,rfl⟩
 have s0:=Za aS 0
 have s1:=Za aS 1
 obtain⟨q0,q1,q2,q3,q4,q5,q6,q7⟩:=hcf.out _ _ aR
 rw[<-hw3] at aS aR aO hB
 have hpost:Hid (∀ W v,ErrIs ea W v 13->Below w.heap.size w W->Zo ea ⟨[],[]⟩ 13 w (.returned (.tuple #[.agg #[.slice none 0 0,.slice none 0 0],v])) W):=Hd (λW v h1 h2=>⟨_,_,rfl,ZC W,h1,h2,Zz _⟩)
 rw[h1] at hk73
 replace hk73:=Hd hk73
 generalize x.obj=vo at*
 generalize x.id=vi at*
 generalize x.way=vw at*
 generalize x.index=vx at*
 generalize x.name=vn at*
 replace hc0:=Hd hc0
 replace hge:=Hd hge
 replace aS:=Hd aS
 replace aR:=Hd aR
 replace aO:=Hd aO
 replace hB:=Hd hB
 replace hw3:=Hd hw3
 clear hRR hN hV hN1 hN2 hV1 hV2 okN okV hNl hVl hXA l1 l2 hs3 hx1
 go_enter Tryz.func42,Tryz.ntmps42
 go_wp2_with fail
 rw[<-hw3.out]
 with_reducible refine(hc0.out _ hB.out).mono ?_
 rintro e w4 ⟨rfl,hb⟩
 replace aS:=Hd ((hb.block _ (Zb aS.out)).trans aS.out)
 replace aR:=Hd ((hb.block _ (Zb aR.out)).trans aR.out)
 replace aO:=Hd ((hb.block _ (Zb aO.out)).trans aO.out)
 replace hB:=Hd (hB.out.trans (hb.mono hB.out.size))
 clear hb s0 s1 q0 q1 q2 q3 q4 q5 q6 q7
 have s0:=Za aS.out 0
 have s1:=Za aS.out 1
 obtain⟨q0,q1,q2,q3,q4,q5,q6,q7⟩:=hcf.out _ _ aR.out
 have hZ4:=Hd (heap_alloc_new w4 (.cells Tryz.zeroCells58 58))
 go_wp2_with ((with_reducible refine wL (.store 58 (.tmp 6) _) ?_);(refine Zc rfl 58 (.tmp 6) (.tmp 14) rfl w4.heap.size _ XA rfl rfl hZ4 iA zA h1A ?_);intro w5 hU5;have hb5:Below w4.heap.size w4 w5:=(Below.alloc (Below.refl w4.heap.size w4) nR _).trans (hU5.out.below nR);have aX:=Hd hU5.out.here;replace aS:=Hd ((hb5.block _ (Zb aS.out)).trans aS.out);replace aR:=Hd ((hb5.block _ (Zb aR.out)).trans aR.out);replace aO:=Hd ((hb5.block _ (Zb aO.out)).trans aO.out);replace hB:=Hd (hB.out.trans (hb5.mono hB.out.size));clear s0 s1 q0 q1 q2 q3 q4 q5 q6 q7 hb5;have s0:=Za aS.out 0;have s1:=Za aS.out 1;obtain⟨q0,q1,q2,q3,q4,q5,q6,q7⟩:=hcf.out _ _ aR.out;have y73:=hk73.out _ _ aX.out)
 have hd0:Hid (Below w.heap.size w w5.drew):=Hd hB.out.drew
 replace aO:Hid (w5.drew.heap[w.heap.size+2]? = some (.cells #[.slice none 0 0,.slice none 0 0] 28 (0,0))):=Hd aO.out
 have hcW:=λW h=>hge.out W h
 refine wp_region_held_drew (S:=(Below w.heap.size w)) kX hd0.out (λhOn=>?_)
 generalize World.drew w5=wd at*
 refine tk 0 hOn ?_
 refine tk 1 hOn ?_
 refine rd 2 (λKz hKz=>?_)
 rw[if_pos (by rfl)]
 (with_reducible refine Zl 28 (.tmp 4) (.tmp 24) rfl (w.heap.size+2) #[.slice none 0 0,.slice none 0 0] #[.slice none 0 0,.slice none 0 0] rfl rfl aO kX rfl (by simp[Value.oneCell']) ?_)
 intro w9 hU9
 have hS:=hOn.trans (hU9.out.below oX)
 have hres:=Hd hU9.out.here
 refine hKz.out _ _ hS ?_
 clear hKz Kz hOn hS
 intro hOn
 try simp only[Act.put]
 refine tk 3 hOn ?_
 refine dnE ?_
 all_goals
  go_wp2_with fail
  refine Zf rfl rfl Tryz.underlying28 rfl kX hres.out ?_
  exact hpost.out _ _ (.inr (.inl ⟨13-1,dX,dX,rfl⟩)) hOn
theorem Mi(va:Value)(m:St)(x:Rc)(hx:x.Ok)(w:World)(ha:ArgS w va m)(l1:m.its.length<=1000)(l2:m.ens.length<=1000)(h1:¬(0<=x.obj/\x.obj<m.its.length))(ea:Nat->Addr)(H:Errs 298 Zv w ea) :
  Calls Tryz.prog 41 #[va,.agg x.list.toArray] w (Zo ea ⟨[],[]⟩ 11 w):=by
 have hge:=λW (h:Below w.heap.size w W)=>(ZF (H.below h)).2.2.2.2.2.2.2.2.2.2.1
 have hcf:=Hd (Rc.kept0 x hx 49)
 have hc0:=λW h=>Jr va m W (ha.below h nR) x.obj h1 l1
 have hok:(default:It).Ok:=It.default_ok
 obtain⟨XA,hXA⟩:∃ XA,XA=(default:It).list.toArray:=⟨_,rfl⟩
 have iA:(Tryz.prog.info? 58).map (·.size)=some XA.size:=by rw[hXA,It.size hok];kernel_rfl
 have zA:Tryz.zeroCells58.size=XA.size:=by rw[hXA,It.size hok];kernel_rfl
 have h1A:XA.all (·.oneCell')=true:=by rw[hXA];exact Go.Proofs.YtpdhceiodgnbmaaGreatDoor.all_one (It.list_one _)
 rw[<-hXA] at hc0
 obtain⟨⟨an,cn,av,cv,rfl,hN,hN1,hN2,hV,hV1,hV2⟩,okN,okV⟩:=ha
 obtain⟨N,hNl⟩:∃ N,N=m.its.length:=⟨_,rfl⟩
 obtain⟨V,hVl⟩:∃ V,V=m.ens.length:=⟨_,rfl⟩
 rw[<-hNl,<-hVl] at hc0
 rw[<-hNl,<-hVl]
 generalize hRR:x.list.toArray=R at*
 obtain⟨aS,aR,aO,hs3,hB⟩:=Zq w #[.slice an N cn,.slice av V cv] R #[.slice none 0 0,.slice none 0 0] 28 49 28 _ rfl
 obtain⟨w3,hw3⟩:∃ w3,w3=((w.alloc (.cells #[.slice an N cn,.slice av V cv] 28)).alloc (.cells R 49)).alloc (.cells #[.slice none 0 0,.slice none 0 0] 28):=⟨_,rfl⟩
 have s0:=Za aS 0
 have s1:=Za aS 1
 obtain⟨q0,q1,q2,q3,q4,q5,q6,q7⟩:=hcf.out _ _ aR
 rw[<-hw3] at aS aR aO hB
 have hpost:Hid (∀ W v,ErrIs ea W v 11->Below w.heap.size w W->Zo ea ⟨[],[]⟩ 11 w (.returned (.tuple #[.agg #[.slice none 0 0,.slice none 0 0],v])) W):=Hd (λW v h1 h2=>⟨_,_,rfl,ZC W,h1,h2,Zz _⟩)
 generalize x.obj=vo at*
 generalize x.id=vi at*
 generalize x.way=vw at*
 generalize x.index=vx at*
 generalize x.name=vn at*
 replace hc0:=Hd hc0
 replace hge:=Hd hge
 replace aS:=Hd aS
 replace aR:=Hd aR
 replace aO:=Hd aO
 replace hB:=Hd hB
 replace hw3:=Hd hw3
 clear hRR hN hV hN1 hN2 hV1 hV2 okN okV hNl hVl hXA l1 l2 hs3 h1
 go_enter Tryz.func41,Tryz.ntmps41
 go_wp2_with fail
 rw[<-hw3.out]
 with_reducible refine(hc0.out _ hB.out).mono ?_
 rintro e w4 ⟨rfl,hb⟩
 replace aS:=Hd ((hb.block _ (Zb aS.out)).trans aS.out)
 replace aR:=Hd ((hb.block _ (Zb aR.out)).trans aR.out)
 replace aO:=Hd ((hb.block _ (Zb aO.out)).trans aO.out)
 replace hB:=Hd (hB.out.trans (hb.mono hB.out.size))
 clear hb s0 s1 q0 q1 q2 q3 q4 q5 q6 q7
 have s0:=Za aS.out 0
 have s1:=Za aS.out 1
 obtain⟨q0,q1,q2,q3,q4,q5,q6,q7⟩:=hcf.out _ _ aR.out
 have hZ4:=Hd (heap_alloc_new w4 (.cells Tryz.zeroCells58 58))
 go_wp2_with ((with_reducible refine wL (.store 58 (.tmp 6) _) ?_);(refine Zc rfl 58 (.tmp 6) (.tmp 16) rfl w4.heap.size _ XA rfl rfl hZ4 iA zA h1A ?_);intro w5 hU5;have hb5:Below w4.heap.size w4 w5:=(Below.alloc (Below.refl w4.heap.size w4) nR _).trans (hU5.out.below nR);have aX:=Hd hU5.out.here;replace aS:=Hd ((hb5.block _ (Zb aS.out)).trans aS.out);replace aR:=Hd ((hb5.block _ (Zb aR.out)).trans aR.out);replace aO:=Hd ((hb5.block _ (Zb aO.out)).trans aO.out);replace hB:=Hd (hB.out.trans (hb5.mono hB.out.size));clear s0 s1 q0 q1 q2 q3 q4 q5 q6 q7 hb5;have s0:=Za aS.out 0;have s1:=Za aS.out 1;obtain⟨q0,q1,q2,q3,q4,q5,q6,q7⟩:=hcf.out _ _ aR.out)
 have hd0:Hid (Below w.heap.size w w5.drew):=Hd hB.out.drew
 replace aO:Hid (w5.drew.heap[w.heap.size+2]? = some (.cells #[.slice none 0 0,.slice none 0 0] 28 (0,0))):=Hd aO.out
 have hcW:=λW h=>hge.out W h
 refine wp_region_held_drew (S:=(Below w.heap.size w)) kX hd0.out (λhOn=>?_)
 generalize World.drew w5=wd at*
 refine tk 0 hOn ?_
 refine tk 1 hOn ?_
 refine rd 2 (λKz hKz=>?_)
 rw[if_pos (by rfl)]
 (with_reducible refine Zl 28 (.tmp 4) (.tmp 20) rfl (w.heap.size+2) #[.slice none 0 0,.slice none 0 0] #[.slice none 0 0,.slice none 0 0] rfl rfl aO kX rfl (by simp[Value.oneCell']) ?_)
 intro w9 hU9
 have hS:=hOn.trans (hU9.out.below oX)
 have hres:=Hd hU9.out.here
 refine hKz.out _ _ hS ?_
 clear hKz Kz hOn hS
 intro hOn
 try simp only[Act.put]
 refine tk 3 hOn ?_
 refine dnE ?_
 all_goals
  go_wp2_with fail
  refine Zf rfl rfl Tryz.underlying28 rfl kX hres.out ?_
  exact hpost.out _ _ (.inr (.inl ⟨11-1,dX,dX,rfl⟩)) hOn
theorem GE(va:Value)(m:St)(x:Rc)(hx:x.Ok)(w:World)(ha:ArgS w va m)(l1:m.its.length<=1000)(l2:m.ens.length<=1000)(i:Nat)(hi:i<m.its.length)(hx1:x.obj=(i:Int))(h1:m.its[i].k=false)(ea:Nat->Addr)(H:Errs 298 Zv w ea) :
  Calls Tryz.prog 41 #[va,.agg x.list.toArray] w (Zo ea ⟨[],[]⟩ 13 w):=by
 have hge:=λW (h:Below w.heap.size w W)=>(ZF (H.below h)).2.2.2.2.2.2.2.2.2.2.2.2.1
 have hcf:=Hd (Rc.kept0 x hx 49)
 have hc0:=λW h=>Yj va m W (ha.below h nR) i hi l1
 rw[<-hx1] at hc0
 have hok:=ha.okN _ (List.getElem_mem hi)
 generalize hy:m.its[i]=y at*
 obtain⟨XA,hXA⟩:∃ XA,XA=y.list.toArray:=⟨_,rfl⟩
 have hk73:∀ (W:World) b,W.heap[b]? = some (.cells XA 58 (0,0))->W.cell? ⟨b,73,none⟩=some (.bool y.k):=λW b h=>by rw[Za h,hXA,List.getElem?_toArray];exact It.c73 hok
 have hnx:=Hd (λW=>YY y hok x.way W)
 have iA:(Tryz.prog.info? 58).map (·.size)=some XA.size:=by rw[hXA,It.size hok];kernel_rfl
 have zA:Tryz.zeroCells58.size=XA.size:=by rw[hXA,It.size hok];kernel_rfl
 have h1A:XA.all (·.oneCell')=true:=by rw[hXA];exact Go.Proofs.YtpdhceiodgnbmaaGreatDoor.all_one (It.list_one _)
 rw[<-hXA] at hc0 hnx
 obtain⟨⟨an,cn,av,cv,rfl,hN,hN1,hN2,hV,hV1,hV2⟩,okN,okV⟩:=ha
 obtain⟨N,hNl⟩:∃ N,N=m.its.length:=⟨_,rfl⟩
 obtain⟨V,hVl⟩:∃ V,V=m.ens.length:=⟨_,rfl⟩
 rw[<-hNl,<-hVl] at hc0
 rw[<-hNl,<-hVl]
 generalize hRR:x.list.toArray=R at*
 obtain⟨aS,aR,aO,hs3,hB⟩:=Zq w #[.slice an N cn,.slice av V cv] R #[.slice none 0 0,.slice none 0 0] 28 49 28 _ rfl
 obtain⟨w3,hw3⟩:∃ w3,w3=((w.alloc (.cells #[.slice an N cn,.slice av V cv] 28)).alloc (.cells R 49)).alloc (.cells #[.slice none 0 0,.slice none 0 0] 28):=⟨_,rfl⟩
 have s0:=Za aS 0
 have s1:=Za aS 1
 obtain⟨q0,q1,q2,q3,q4,q5,q6,q7⟩:=hcf.out _ _ aR
 rw[<-hw3] at aS aR aO hB
 have hpost:Hid (∀ W v,ErrIs ea W v 13->Below w.heap.size w W->Zo ea ⟨[],[]⟩ 13 w (.returned (.tuple #[.agg #[.slice none 0 0,.slice none 0 0],v])) W):=Hd (λW v h1 h2=>⟨_,_,rfl,ZC W,h1,h2,Zz _⟩)
 obtain⟨ix,lf,hnx2⟩:∃ ix lf,ZJ y x.way=(ix,lf):=⟨_,_,rfl⟩
 rw[hnx2] at hnx
 replace hnx2:=Hd hnx2
 rw[h1] at hk73
 replace hk73:=Hd hk73
 generalize x.obj=vo at*
 generalize x.id=vi at*
 generalize x.way=vw at*
 generalize x.index=vx at*
 generalize x.name=vn at*
 replace hc0:=Hd hc0
 replace hge:=Hd hge
 replace aS:=Hd aS
 replace aR:=Hd aR
 replace aO:=Hd aO
 replace hB:=Hd hB
 replace hw3:=Hd hw3
 clear hRR hN hV hN1 hN2 hV1 hV2 okN okV hNl hVl hXA l1 l2 hs3 hx1
 go_enter Tryz.func41,Tryz.ntmps41
 go_wp2_with fail
 rw[<-hw3.out]
 with_reducible refine(hc0.out _ hB.out).mono ?_
 rintro e w4 ⟨rfl,hb⟩
 replace aS:=Hd ((hb.block _ (Zb aS.out)).trans aS.out)
 replace aR:=Hd ((hb.block _ (Zb aR.out)).trans aR.out)
 replace aO:=Hd ((hb.block _ (Zb aO.out)).trans aO.out)
 replace hB:=Hd (hB.out.trans (hb.mono hB.out.size))
 clear hb s0 s1 q0 q1 q2 q3 q4 q5 q6 q7
 have s0:=Za aS.out 0
 have s1:=Za aS.out 1
 obtain⟨q0,q1,q2,q3,q4,q5,q6,q7⟩:=hcf.out _ _ aR.out
 have hZ4:=Hd (heap_alloc_new w4 (.cells Tryz.zeroCells58 58))
 go_wp2_with (first
  | ((with_reducible refine wL (.store 58 (.tmp 6) _) ?_);(refine Zc rfl 58 (.tmp 6) (.tmp 16) rfl w4.heap.size _ XA rfl rfl hZ4 iA zA h1A ?_);intro w5 hU5;have hb5:Below w4.heap.size w4 w5:=(Below.alloc (Below.refl w4.heap.size w4) nR _).trans (hU5.out.below nR);have aX:=Hd hU5.out.here;replace aS:=Hd ((hb5.block _ (Zb aS.out)).trans aS.out);replace aR:=Hd ((hb5.block _ (Zb aR.out)).trans aR.out);replace aO:=Hd ((hb5.block _ (Zb aO.out)).trans aO.out);replace hB:=Hd (hB.out.trans (hb5.mono hB.out.size));clear s0 s1 q0 q1 q2 q3 q4 q5 q6 q7 hb5;have s0:=Za aS.out 0;have s1:=Za aS.out 1;obtain⟨q0,q1,q2,q3,q4,q5,q6,q7⟩:=hcf.out _ _ aR.out;have y73:=hk73.out _ _ aX.out)
  | ((with_reducible refine wL (.load 58 (.tmp 6)) ?_);refine Ze rfl 58 (.tmp 6) rfl w4.heap.size XA _ rfl aX Tryz.underlying58 rfl iA ?_))
 with_reducible refine(hnx.out _).mono ?_
 rintro e w6 ⟨rfl,hb⟩
 replace aX:=Hd ((hb.block _ (Zb aX.out)).trans aX.out)
 replace aS:=Hd ((hb.block _ (Zb aS.out)).trans aS.out)
 replace aR:=Hd ((hb.block _ (Zb aR.out)).trans aR.out)
 replace aO:=Hd ((hb.block _ (Zb aO.out)).trans aO.out)
 replace hB:=Hd (hB.out.trans (hb.mono hB.out.size))
 clear hb s0 s1 q0 q1 q2 q3 q4 q5 q6 q7 y73
 have s0:=Za aS.out 0
 have s1:=Za aS.out 1
 obtain⟨q0,q1,q2,q3,q4,q5,q6,q7⟩:=hcf.out _ _ aR.out
 have y73:=hk73.out _ _ aX.out
 go_wp2_with fail
 have hd0:Hid (Below w.heap.size w w6.drew):=Hd hB.out.drew
 replace aO:Hid (w6.drew.heap[w.heap.size+2]? = some (.cells #[.slice none 0 0,.slice none 0 0] 28 (0,0))):=Hd aO.out
 have hcW:=λW h=>hge.out W h
 refine wp_region_held_drew (S:=(Below w.heap.size w)) kX hd0.out (λhOn=>?_)
 generalize World.drew w6=wd at*
 refine tk 0 hOn ?_
 refine tk 1 hOn ?_
 refine rd 2 (λKz hKz=>?_)
 rw[if_pos (by rfl)]
 (with_reducible refine Zl 28 (.tmp 4) (.tmp 33) rfl (w.heap.size+2) #[.slice none 0 0,.slice none 0 0] #[.slice none 0 0,.slice none 0 0] rfl rfl aO kX rfl (by simp[Value.oneCell']) ?_)
 intro w9 hU9
 have hS:=hOn.trans (hU9.out.below oX)
 have hres:=Hd hU9.out.here
 refine hKz.out _ _ hS ?_
 clear hKz Kz hOn hS
 intro hOn
 try simp only[Act.put]
 refine tk 3 hOn ?_
 refine dnE ?_
 all_goals
  go_wp2_with fail
  refine Zf rfl rfl Tryz.underlying28 rfl kX hres.out ?_
  exact hpost.out _ _ (.inr (.inl ⟨13-1,dX,dX,rfl⟩)) hOn
theorem KY(va:Value)(m:St)(x:Rc)(hx:x.Ok)(w:World)(ha:ArgS w va m)(l1:m.its.length<=1000)(l2:m.ens.length<=1000)(i:Nat)(hi:i<m.its.length)(hx1:x.obj=(i:Int))(h1:m.its[i].k=true)(h2:(ZJ m.its[i] x.way).2=false)(ea:Nat->Addr)(H:Errs 298 Zv w ea) :
  Calls Tryz.prog 41 #[va,.agg x.list.toArray] w (Zo ea ⟨[],[]⟩ 18 w):=by
 have hge:=λW (h:Below w.heap.size w W)=>(ZF (H.below h)).2.2.2.2.2.2.2.2.2.2.2.2.2.2.2.2.2.1
 have hcf:=Hd (Rc.kept0 x hx 49)
 have hc0:=λW h=>Yj va m W (ha.below h nR) i hi l1
 rw[<-hx1] at hc0
 have hok:=ha.okN _ (List.getElem_mem hi)
 generalize hy:m.its[i]=y at*
 obtain⟨XA,hXA⟩:∃ XA,XA=y.list.toArray:=⟨_,rfl⟩
 have hk73:∀ (W:World) b,W.heap[b]? = some (.cells XA 58 (0,0))->W.cell? ⟨b,73,none⟩=some (.bool y.k):=λW b h=>by rw[Za h,hXA,List.getElem?_toArray];exact It.c73 hok
 have hnx:=Hd (λW=>YY y hok x.way W)
 have iA:(Tryz.prog.info? 58).map (·.size)=some XA.size:=by rw[hXA,It.size hok];kernel_rfl
 have zA:Tryz.zeroCells58.size=XA.size:=by rw[hXA,It.size hok];kernel_rfl
 have h1A:XA.all (·.oneCell')=true:=by rw[hXA];exact Go.Proofs.YtpdhceiodgnbmaaGreatDoor.all_one (It.list_one _)
 rw[<-hXA] at hc0 hnx
 obtain⟨⟨an,cn,av,cv,rfl,hN,hN1,hN2,hV,hV1,hV2⟩,okN,okV⟩:=ha
 obtain⟨N,hNl⟩:∃ N,N=m.its.length:=⟨_,rfl⟩
 obtain⟨V,hVl⟩:∃ V,V=m.ens.length:=⟨_,rfl⟩
 rw[<-hNl,<-hVl] at hc0
 rw[<-hNl,<-hVl]
 generalize hRR:x.list.toArray=R at*
 obtain⟨aS,aR,aO,hs3,hB⟩:=Zq w #[.slice an N cn,.slice av V cv] R #[.slice none 0 0,.slice none 0 0] 28 49 28 _ rfl
 obtain⟨w3,hw3⟩:∃ w3,w3=((w.alloc (.cells #[.slice an N cn,.slice av V cv] 28)).alloc (.cells R 49)).alloc (.cells #[.slice none 0 0,.slice none 0 0] 28):=⟨_,rfl⟩
 have s0:=Za aS 0
 have s1:=Za aS 1
 obtain⟨q0,q1,q2,q3,q4,q5,q6,q7⟩:=hcf.out _ _ aR
 rw[<-hw3] at aS aR aO hB
 have hpost:Hid (∀ W v,ErrIs ea W v 18->Below w.heap.size w W->Zo ea ⟨[],[]⟩ 18 w (.returned (.tuple #[.agg #[.slice none 0 0,.slice none 0 0],v])) W):=Hd (λW v h1 h2=>⟨_,_,rfl,ZC W,h1,h2,Zz _⟩)
 obtain⟨ix,lf,hnx2⟩:∃ ix lf,ZJ y x.way=(ix,lf):=⟨_,_,rfl⟩
 rw[hnx2] at hnx h2
 have h2b:lf=false:=h2
 clear h2
 subst h2b
 replace hnx2:=Hd hnx2
 rw[h1] at hk73
 replace hk73:=Hd hk73
 generalize x.obj=vo at*
 generalize x.id=vi at*
 generalize x.way=vw at*
 generalize x.index=vx at*
 generalize x.name=vn at*
 replace hc0:=Hd hc0
 replace hge:=Hd hge
 replace aS:=Hd aS
 replace aR:=Hd aR
 replace aO:=Hd aO
 replace hB:=Hd hB
 replace hw3:=Hd hw3
 clear hRR hN hV hN1 hN2 hV1 hV2 okN okV hNl hVl hXA l1 l2 hs3 hx1
 go_enter Tryz.func41,Tryz.ntmps41
 go_wp2_with fail
 rw[<-hw3.out]
 with_reducible refine(hc0.out _ hB.out).mono ?_
 rintro e w4 ⟨rfl,hb⟩
 replace aS:=Hd ((hb.block _ (Zb aS.out)).trans aS.out)
 replace aR:=Hd ((hb.block _ (Zb aR.out)).trans aR.out)
 replace aO:=Hd ((hb.block _ (Zb aO.out)).trans aO.out)
 replace hB:=Hd (hB.out.trans (hb.mono hB.out.size))
 clear hb s0 s1 q0 q1 q2 q3 q4 q5 q6 q7
 have s0:=Za aS.out 0
 have s1:=Za aS.out 1
 obtain⟨q0,q1,q2,q3,q4,q5,q6,q7⟩:=hcf.out _ _ aR.out
 have hZ4:=Hd (heap_alloc_new w4 (.cells Tryz.zeroCells58 58))
 go_wp2_with (first
  | ((with_reducible refine wL (.store 58 (.tmp 6) _) ?_);(refine Zc rfl 58 (.tmp 6) (.tmp 16) rfl w4.heap.size _ XA rfl rfl hZ4 iA zA h1A ?_);intro w5 hU5;have hb5:Below w4.heap.size w4 w5:=(Below.alloc (Below.refl w4.heap.size w4) nR _).trans (hU5.out.below nR);have aX:=Hd hU5.out.here;replace aS:=Hd ((hb5.block _ (Zb aS.out)).trans aS.out);replace aR:=Hd ((hb5.block _ (Zb aR.out)).trans aR.out);replace aO:=Hd ((hb5.block _ (Zb aO.out)).trans aO.out);replace hB:=Hd (hB.out.trans (hb5.mono hB.out.size));clear s0 s1 q0 q1 q2 q3 q4 q5 q6 q7 hb5;have s0:=Za aS.out 0;have s1:=Za aS.out 1;obtain⟨q0,q1,q2,q3,q4,q5,q6,q7⟩:=hcf.out _ _ aR.out;have y73:=hk73.out _ _ aX.out)
  | ((with_reducible refine wL (.load 58 (.tmp 6)) ?_);refine Ze rfl 58 (.tmp 6) rfl w4.heap.size XA _ rfl aX Tryz.underlying58 rfl iA ?_))
 with_reducible refine(hnx.out _).mono ?_
 rintro e w6 ⟨rfl,hb⟩
 replace aX:=Hd ((hb.block _ (Zb aX.out)).trans aX.out)
 replace aS:=Hd ((hb.block _ (Zb aS.out)).trans aS.out)
 replace aR:=Hd ((hb.block _ (Zb aR.out)).trans aR.out)
 replace aO:=Hd ((hb.block _ (Zb aO.out)).trans aO.out)
 replace hB:=Hd (hB.out.trans (hb.mono hB.out.size))
 clear hb s0 s1 q0 q1 q2 q3 q4 q5 q6 q7 y73
 have s0:=Za aS.out 0
 have s1:=Za aS.out 1
 obtain⟨q0,q1,q2,q3,q4,q5,q6,q7⟩:=hcf.out _ _ aR.out
 have y73:=hk73.out _ _ aX.out
 go_wp2_with fail
 have hd0:Hid (Below w.heap.size w w6.drew):=Hd hB.out.drew
 replace aO:Hid (w6.drew.heap[w.heap.size+2]? = some (.cells #[.slice none 0 0,.slice none 0 0] 28 (0,0))):=Hd aO.out
 have hcW:=λW h=>hge.out W h
 refine wp_region_held_drew (S:=(Below w.heap.size w)) kX hd0.out (λhOn=>?_)
 generalize World.drew w6=wd at*
 refine tk 0 hOn ?_
 refine tk 1 hOn ?_
 refine rd 2 (λKz hKz=>?_)
 rw[if_pos (by rfl)]
 (with_reducible refine Zl 28 (.tmp 4) (.tmp 38) rfl (w.heap.size+2) #[.slice none 0 0,.slice none 0 0] #[.slice none 0 0,.slice none 0 0] rfl rfl aO kX rfl (by simp[Value.oneCell']) ?_)
 intro w9 hU9
 have hS:=hOn.trans (hU9.out.below oX)
 have hres:=Hd hU9.out.here
 refine hKz.out _ _ hS ?_
 clear hKz Kz hOn hS
 intro hOn
 try simp only[Act.put]
 refine tk 3 hOn ?_
 refine dnE ?_
 all_goals
  go_wp2_with fail
  refine Zf rfl rfl Tryz.underlying28 rfl kX hres.out ?_
  exact hpost.out _ _ (.inr (.inl ⟨18-1,dX,dX,rfl⟩)) hOn
theorem GH(va:Value)(m:St)(x:Rc)(hx:x.Ok)(w:World)(ha:ArgS w va m)(l1:m.its.length<=1000)(l2:m.ens.length<=1000)(i:Nat)(hi:i<m.its.length)(hx1:x.obj=(i:Int))(h1:m.its[i].k=true)(h2:(ZJ m.its[i] x.way).2=true)(h3:x.id≠(m.ens.length:Int))(ea:Nat->Addr)(H:Errs 298 Zv w ea) :
  Calls Tryz.prog 41 #[va,.agg x.list.toArray] w (Zo ea ⟨[],[]⟩ 4 w):=by
 have hge:=λW (h:Below w.heap.size w W)=>(ZF (H.below h)).2.2.2.1
 have hcf:=Hd (Rc.kept0 x hx 49)
 have hc0:=λW h=>Yj va m W (ha.below h nR) i hi l1
 rw[<-hx1] at hc0
 have hok:=ha.okN _ (List.getElem_mem hi)
 generalize hy:m.its[i]=y at*
 obtain⟨XA,hXA⟩:∃ XA,XA=y.list.toArray:=⟨_,rfl⟩
 have hk73:∀ (W:World) b,W.heap[b]? = some (.cells XA 58 (0,0))->W.cell? ⟨b,73,none⟩=some (.bool y.k):=λW b h=>by rw[Za h,hXA,List.getElem?_toArray];exact It.c73 hok
 have hnx:=Hd (λW=>YY y hok x.way W)
 have iA:(Tryz.prog.info? 58).map (·.size)=some XA.size:=by rw[hXA,It.size hok];kernel_rfl
 have zA:Tryz.zeroCells58.size=XA.size:=by rw[hXA,It.size hok];kernel_rfl
 have h1A:XA.all (·.oneCell')=true:=by rw[hXA];exact Go.Proofs.YtpdhceiodgnbmaaGreatDoor.all_one (It.list_one _)
 rw[<-hXA] at hc0 hnx
 obtain⟨⟨an,cn,av,cv,rfl,hN,hN1,hN2,hV,hV1,hV2⟩,okN,okV⟩:=ha
 obtain⟨N,hNl⟩:∃ N,N=m.its.length:=⟨_,rfl⟩
 obtain⟨V,hVl⟩:∃ V,V=m.ens.length:=⟨_,rfl⟩
 rw[<-hNl,<-hVl] at hc0
 rw[<-hNl,<-hVl]
 generalize hRR:x.list.toArray=R at*
 obtain⟨aS,aR,aO,hs3,hB⟩:=Zq w #[.slice an N cn,.slice av V cv] R #[.slice none 0 0,.slice none 0 0] 28 49 28 _ rfl
 obtain⟨w3,hw3⟩:∃ w3,w3=((w.alloc (.cells #[.slice an N cn,.slice av V cv] 28)).alloc (.cells R 49)).alloc (.cells #[.slice none 0 0,.slice none 0 0] 28):=⟨_,rfl⟩
 have s0:=Za aS 0
 have s1:=Za aS 1
 obtain⟨q0,q1,q2,q3,q4,q5,q6,q7⟩:=hcf.out _ _ aR
 rw[<-hw3] at aS aR aO hB
 have hof:(x.id != (V:Int))=true:=by rw[hVl];simpa using h3
 have hpost:Hid (∀ W v,ErrIs ea W v 4->Below w.heap.size w W->Zo ea ⟨[],[]⟩ 4 w (.returned (.tuple #[.agg #[.slice none 0 0,.slice none 0 0],v])) W):=Hd (λW v h1 h2=>⟨_,_,rfl,ZC W,h1,h2,Zz _⟩)
 obtain⟨ix,lf,hnx2⟩:∃ ix lf,ZJ y x.way=(ix,lf):=⟨_,_,rfl⟩
 rw[hnx2] at hnx h2
 have h2b:lf=true:=h2
 clear h2
 subst h2b
 replace hnx2:=Hd hnx2
 rw[h1] at hk73
 replace hk73:=Hd hk73
 generalize x.obj=vo at*
 generalize x.id=vi at*
 generalize x.way=vw at*
 generalize x.index=vx at*
 generalize x.name=vn at*
 replace hc0:=Hd hc0
 replace hge:=Hd hge
 replace aS:=Hd aS
 replace aR:=Hd aR
 replace aO:=Hd aO
 replace hB:=Hd hB
 replace hw3:=Hd hw3
 clear hRR hN hV hN1 hN2 hV1 hV2 okN okV hNl hVl hXA l1 l2 hs3 hx1 h3
 go_enter Tryz.func41,Tryz.ntmps41
 go_wp2_with fail
 rw[<-hw3.out]
 with_reducible refine(hc0.out _ hB.out).mono ?_
 rintro e w4 ⟨rfl,hb⟩
 replace aS:=Hd ((hb.block _ (Zb aS.out)).trans aS.out)
 replace aR:=Hd ((hb.block _ (Zb aR.out)).trans aR.out)
 replace aO:=Hd ((hb.block _ (Zb aO.out)).trans aO.out)
 replace hB:=Hd (hB.out.trans (hb.mono hB.out.size))
 clear hb s0 s1 q0 q1 q2 q3 q4 q5 q6 q7
 have s0:=Za aS.out 0
 have s1:=Za aS.out 1
 obtain⟨q0,q1,q2,q3,q4,q5,q6,q7⟩:=hcf.out _ _ aR.out
 have hZ4:=Hd (heap_alloc_new w4 (.cells Tryz.zeroCells58 58))
 go_wp2_with (first
  | ((with_reducible refine wL (.store 58 (.tmp 6) _) ?_);(refine Zc rfl 58 (.tmp 6) (.tmp 16) rfl w4.heap.size _ XA rfl rfl hZ4 iA zA h1A ?_);intro w5 hU5;have hb5:Below w4.heap.size w4 w5:=(Below.alloc (Below.refl w4.heap.size w4) nR _).trans (hU5.out.below nR);have aX:=Hd hU5.out.here;replace aS:=Hd ((hb5.block _ (Zb aS.out)).trans aS.out);replace aR:=Hd ((hb5.block _ (Zb aR.out)).trans aR.out);replace aO:=Hd ((hb5.block _ (Zb aO.out)).trans aO.out);replace hB:=Hd (hB.out.trans (hb5.mono hB.out.size));clear s0 s1 q0 q1 q2 q3 q4 q5 q6 q7 hb5;have s0:=Za aS.out 0;have s1:=Za aS.out 1;obtain⟨q0,q1,q2,q3,q4,q5,q6,q7⟩:=hcf.out _ _ aR.out;have y73:=hk73.out _ _ aX.out)
  | ((with_reducible refine wL (.load 58 (.tmp 6)) ?_);refine Ze rfl 58 (.tmp 6) rfl w4.heap.size XA _ rfl aX Tryz.underlying58 rfl iA ?_))
 with_reducible refine(hnx.out _).mono ?_
 rintro e w6 ⟨rfl,hb⟩
 replace aX:=Hd ((hb.block _ (Zb aX.out)).trans aX.out)
 replace aS:=Hd ((hb.block _ (Zb aS.out)).trans aS.out)
 replace aR:=Hd ((hb.block _ (Zb aR.out)).trans aR.out)
 replace aO:=Hd ((hb.block _ (Zb aO.out)).trans aO.out)
 replace hB:=Hd (hB.out.trans (hb.mono hB.out.size))
 clear hb s0 s1 q0 q1 q2 q3 q4 q5 q6 q7 y73
 have s0:=Za aS.out 0
 have s1:=Za aS.out 1
 obtain⟨q0,q1,q2,q3,q4,q5,q6,q7⟩:=hcf.out _ _ aR.out
 have y73:=hk73.out _ _ aX.out
 go_wp2_with fail
 have hd0:Hid (Below w.heap.size w w6.drew):=Hd hB.out.drew
 replace aO:Hid (w6.drew.heap[w.heap.size+2]? = some (.cells #[.slice none 0 0,.slice none 0 0] 28 (0,0))):=Hd aO.out
 have hcW:=λW h=>hge.out W h
 refine wp_region_held_drew (S:=(Below w.heap.size w)) kX hd0.out (λhOn=>?_)
 generalize World.drew w6=wd at*
 refine tk 0 hOn ?_
 refine tk 1 hOn ?_
 refine rd 2 (λKz hKz=>?_)
 rw[if_pos (by rfl)]
 (with_reducible refine Zl 28 (.tmp 4) (.tmp 53) rfl (w.heap.size+2) #[.slice none 0 0,.slice none 0 0] #[.slice none 0 0,.slice none 0 0] rfl rfl aO kX rfl (by simp[Value.oneCell']) ?_)
 intro w9 hU9
 have hS:=hOn.trans (hU9.out.below oX)
 have hres:=Hd hU9.out.here
 refine hKz.out _ _ hS ?_
 clear hKz Kz hOn hS
 intro hOn
 try simp only[Act.put]
 refine tk 3 hOn ?_
 refine dnE ?_
 all_goals
  go_wp2_with fail
  refine Zf rfl rfl Tryz.underlying28 rfl kX hres.out ?_
  exact hpost.out _ _ (.inr (.inl ⟨4-1,dX,dX,rfl⟩)) hOn
theorem Gw(va:Value)(m:St)(x:Rc)(hx:x.Ok)(w:World)(ha:ArgS w va m)(l1:m.its.length<=1000)(l2:m.ens.length<=1000)(i:Nat)(hi:i<m.its.length)(hx1:x.obj=(i:Int))(h1:m.its[i].k=true)(h2:(ZJ m.its[i] x.way).2=true)(h3:x.id=(m.ens.length:Int))(h4:x.index≠(ZJ m.its[i] x.way).1)(ea:Nat->Addr)(H:Errs 298 Zv w ea) :
  Calls Tryz.prog 41 #[va,.agg x.list.toArray] w (Zo ea ⟨[],[]⟩ 4 w):=by
 have hge:=λW (h:Below w.heap.size w W)=>(ZF (H.below h)).2.2.2.1
 have hcf:=Hd (Rc.kept0 x hx 49)
 have hc0:=λW h=>Yj va m W (ha.below h nR) i hi l1
 rw[<-hx1] at hc0
 have hok:=ha.okN _ (List.getElem_mem hi)
 generalize hy:m.its[i]=y at*
 obtain⟨XA,hXA⟩:∃ XA,XA=y.list.toArray:=⟨_,rfl⟩
 have hk73:∀ (W:World) b,W.heap[b]? = some (.cells XA 58 (0,0))->W.cell? ⟨b,73,none⟩=some (.bool y.k):=λW b h=>by rw[Za h,hXA,List.getElem?_toArray];exact It.c73 hok
 have hnx:=Hd (λW=>YY y hok x.way W)
 have iA:(Tryz.prog.info? 58).map (·.size)=some XA.size:=by rw[hXA,It.size hok];kernel_rfl
 have zA:Tryz.zeroCells58.size=XA.size:=by rw[hXA,It.size hok];kernel_rfl
 have h1A:XA.all (·.oneCell')=true:=by rw[hXA];exact Go.Proofs.YtpdhceiodgnbmaaGreatDoor.all_one (It.list_one _)
 rw[<-hXA] at hc0 hnx
 obtain⟨⟨an,cn,av,cv,rfl,hN,hN1,hN2,hV,hV1,hV2⟩,okN,okV⟩:=ha
 obtain⟨N,hNl⟩:∃ N,N=m.its.length:=⟨_,rfl⟩
 obtain⟨V,hVl⟩:∃ V,V=m.ens.length:=⟨_,rfl⟩
 rw[<-hNl,<-hVl] at hc0
 rw[<-hNl,<-hVl]
 generalize hRR:x.list.toArray=R at*
 obtain⟨aS,aR,aO,hs3,hB⟩:=Zq w #[.slice an N cn,.slice av V cv] R #[.slice none 0 0,.slice none 0 0] 28 49 28 _ rfl
 obtain⟨w3,hw3⟩:∃ w3,w3=((w.alloc (.cells #[.slice an N cn,.slice av V cv] 28)).alloc (.cells R 49)).alloc (.cells #[.slice none 0 0,.slice none 0 0] 28):=⟨_,rfl⟩
 have s0:=Za aS 0
 have s1:=Za aS 1
 obtain⟨q0,q1,q2,q3,q4,q5,q6,q7⟩:=hcf.out _ _ aR
 rw[<-hw3] at aS aR aO hB
 have hof:(x.id != (V:Int))=false:=by rw[hVl,h3];simp
 have hoi:(x.index != (ZJ y x.way).1)=true:=by simpa using h4
 have hpost:Hid (∀ W v,ErrIs ea W v 4->Below w.heap.size w W->Zo ea ⟨[],[]⟩ 4 w (.returned (.tuple #[.agg #[.slice none 0 0,.slice none 0 0],v])) W):=Hd (λW v h1 h2=>⟨_,_,rfl,ZC W,h1,h2,Zz _⟩)
 obtain⟨ix,lf,hnx2⟩:∃ ix lf,ZJ y x.way=(ix,lf):=⟨_,_,rfl⟩
 rw[hnx2] at hnx h2 hoi
 have h2b:lf=true:=h2
 clear h2
 subst h2b
 replace hoi:(x.index != ix)=true:=hoi
 replace hnx2:=Hd hnx2
 rw[h1] at hk73
 replace hk73:=Hd hk73
 generalize x.obj=vo at*
 generalize x.id=vi at*
 generalize x.way=vw at*
 generalize x.index=vx at*
 generalize x.name=vn at*
 replace hc0:=Hd hc0
 replace hge:=Hd hge
 replace aS:=Hd aS
 replace aR:=Hd aR
 replace aO:=Hd aO
 replace hB:=Hd hB
 replace hw3:=Hd hw3
 clear hRR hN hV hN1 hN2 hV1 hV2 okN okV hNl hVl hXA l1 l2 hs3 hx1 h3 h4
 go_enter Tryz.func41,Tryz.ntmps41
 go_wp2_with fail
 rw[<-hw3.out]
 with_reducible refine(hc0.out _ hB.out).mono ?_
 rintro e w4 ⟨rfl,hb⟩
 replace aS:=Hd ((hb.block _ (Zb aS.out)).trans aS.out)
 replace aR:=Hd ((hb.block _ (Zb aR.out)).trans aR.out)
 replace aO:=Hd ((hb.block _ (Zb aO.out)).trans aO.out)
 replace hB:=Hd (hB.out.trans (hb.mono hB.out.size))
 clear hb s0 s1 q0 q1 q2 q3 q4 q5 q6 q7
 have s0:=Za aS.out 0
 have s1:=Za aS.out 1
 obtain⟨q0,q1,q2,q3,q4,q5,q6,q7⟩:=hcf.out _ _ aR.out
 have hZ4:=Hd (heap_alloc_new w4 (.cells Tryz.zeroCells58 58))
 go_wp2_with (first
  | ((with_reducible refine wL (.store 58 (.tmp 6) _) ?_);(refine Zc rfl 58 (.tmp 6) (.tmp 16) rfl w4.heap.size _ XA rfl rfl hZ4 iA zA h1A ?_);intro w5 hU5;have hb5:Below w4.heap.size w4 w5:=(Below.alloc (Below.refl w4.heap.size w4) nR _).trans (hU5.out.below nR);have aX:=Hd hU5.out.here;replace aS:=Hd ((hb5.block _ (Zb aS.out)).trans aS.out);replace aR:=Hd ((hb5.block _ (Zb aR.out)).trans aR.out);replace aO:=Hd ((hb5.block _ (Zb aO.out)).trans aO.out);replace hB:=Hd (hB.out.trans (hb5.mono hB.out.size));clear s0 s1 q0 q1 q2 q3 q4 q5 q6 q7 hb5;have s0:=Za aS.out 0;have s1:=Za aS.out 1;obtain⟨q0,q1,q2,q3,q4,q5,q6,q7⟩:=hcf.out _ _ aR.out;have y73:=hk73.out _ _ aX.out)
  | ((with_reducible refine wL (.load 58 (.tmp 6)) ?_);refine Ze rfl 58 (.tmp 6) rfl w4.heap.size XA _ rfl aX Tryz.underlying58 rfl iA ?_))
 with_reducible refine(hnx.out _).mono ?_
 rintro e w6 ⟨rfl,hb⟩
 replace aX:=Hd ((hb.block _ (Zb aX.out)).trans aX.out)
 replace aS:=Hd ((hb.block _ (Zb aS.out)).trans aS.out)
 replace aR:=Hd ((hb.block _ (Zb aR.out)).trans aR.out)
 replace aO:=Hd ((hb.block _ (Zb aO.out)).trans aO.out)
 replace hB:=Hd (hB.out.trans (hb.mono hB.out.size))
 clear hb s0 s1 q0 q1 q2 q3 q4 q5 q6 q7 y73
 have s0:=Za aS.out 0
 have s1:=Za aS.out 1
 obtain⟨q0,q1,q2,q3,q4,q5,q6,q7⟩:=hcf.out _ _ aR.out
 have y73:=hk73.out _ _ aX.out
 go_wp2_with fail
 have hd0:Hid (Below w.heap.size w w6.drew):=Hd hB.out.drew
 replace aO:Hid (w6.drew.heap[w.heap.size+2]? = some (.cells #[.slice none 0 0,.slice none 0 0] 28 (0,0))):=Hd aO.out
 have hcW:=λW h=>hge.out W h
 refine wp_region_held_drew (S:=(Below w.heap.size w)) kX hd0.out (λhOn=>?_)
 generalize World.drew w6=wd at*
 refine tk 0 hOn ?_
 refine tk 1 hOn ?_
 refine rd 2 (λKz hKz=>?_)
 rw[if_pos (by rfl)]
 (with_reducible refine Zl 28 (.tmp 4) (.tmp 53) rfl (w.heap.size+2) #[.slice none 0 0,.slice none 0 0] #[.slice none 0 0,.slice none 0 0] rfl rfl aO kX rfl (by simp[Value.oneCell']) ?_)
 intro w9 hU9
 have hS:=hOn.trans (hU9.out.below oX)
 have hres:=Hd hU9.out.here
 refine hKz.out _ _ hS ?_
 clear hKz Kz hOn hS
 intro hOn
 try simp only[Act.put]
 refine tk 3 hOn ?_
 refine dnE ?_
 all_goals
  go_wp2_with fail
  refine Zf rfl rfl Tryz.underlying28 rfl kX hres.out ?_
  exact hpost.out _ _ (.inr (.inl ⟨4-1,dX,dX,rfl⟩)) hOn
theorem Gx(va:Value)(m:St)(x:Rc)(hx:x.Ok)(w:World)(ha:ArgS w va m)(l1:m.its.length<=1000)(l2:m.ens.length<=1000)(h1:¬(0<=x.id/\x.id<m.ens.length))(ea:Nat->Addr)(H:Errs 298 Zv w ea) :
  Calls Tryz.prog 43 #[va,.agg x.list.toArray] w (Zo ea ⟨[],[]⟩ 11 w):=by
 have hge:=λW (h:Below w.heap.size w W)=>(ZF (H.below h)).2.2.2.2.2.2.2.2.2.2.1
 have hcf:=Hd (Rc.kept0 x hx 49)
 have hc0:=λW h=>Hu va m W (ha.below h nR) x.id h1 l2
 obtain⟨y,hy⟩:∃ y,y=(default:En):=⟨_,rfl⟩
 rw[<-hy] at hc0
 obtain⟨XA,hXA⟩:∃ XA,XA=y.list.toArray:=⟨_,rfl⟩
 have hk1:∀ (W:World) b,W.heap[b]? = some (.cells XA 66 (0,0))->W.cell? ⟨b,1,none⟩=some (.int .i64 y.o)/\W.cell? ⟨b,5,none⟩=some (.int .i64 y.v):=λW b h=>by
  rw[Za h,Za h,hXA,List.getElem?_toArray,List.getElem?_toArray]
  exact⟨rfl,rfl⟩
 have iA:(Tryz.prog.info? 66).map (·.size)=some XA.size:=by rw[hXA];kernel_rfl
 have zA:(#[.int .i64 0,.int .i64 0,.int .i64 0,.int .i64 0,.int .i64 0,.int .i64 0,.int .i64 0]:Array Value).size=XA.size:=by rw[hXA];rfl
 have h1A:XA.all (·.oneCell')=true:=by rw[hXA];exact Go.Proofs.YtpdhceiodgnbmaaGreatDoor.all_one (En.list_one _)
 rw[<-hXA] at hc0
 obtain⟨⟨an,cn,av,cv,rfl,hN,hN1,hN2,hV,hV1,hV2⟩,okN,okV⟩:=ha
 obtain⟨N,hNl⟩:∃ N,N=m.its.length:=⟨_,rfl⟩
 obtain⟨V,hVl⟩:∃ V,V=m.ens.length:=⟨_,rfl⟩
 rw[<-hNl,<-hVl] at hc0
 rw[<-hNl,<-hVl]
 generalize hRR:x.list.toArray=R at*
 obtain⟨aS,aR,aO,hs3,hB⟩:=Zq w #[.slice an N cn,.slice av V cv] R #[.slice none 0 0,.slice none 0 0] 28 49 28 _ rfl
 obtain⟨w3,hw3⟩:∃ w3,w3=((w.alloc (.cells #[.slice an N cn,.slice av V cv] 28)).alloc (.cells R 49)).alloc (.cells #[.slice none 0 0,.slice none 0 0] 28):=⟨_,rfl⟩
 have s0:=Za aS 0
 have s1:=Za aS 1
 obtain⟨q0,q1,q2,q3,q4,q5,q6,q7⟩:=hcf.out _ _ aR
 rw[<-hw3] at aS aR aO hB
 have hpost:Hid (∀ W v,ErrIs ea W v 11->Below w.heap.size w W->Zo ea ⟨[],[]⟩ 11 w (.returned (.tuple #[.agg #[.slice none 0 0,.slice none 0 0],v])) W):=Hd (λW v h1 h2=>⟨_,_,rfl,ZC W,h1,h2,Zz _⟩)
 replace hk1:=Hd hk1
 generalize x.obj=vo at*
 generalize x.id=vi at*
 generalize x.way=vw at*
 generalize x.index=vx at*
 generalize x.name=vn at*
 replace hc0:=Hd hc0
 replace hge:=Hd hge
 replace aS:=Hd aS
 replace aR:=Hd aR
 replace aO:=Hd aO
 replace hB:=Hd hB
 replace hw3:=Hd hw3
 clear hRR hN hV hN1 hN2 hV1 hV2 okN okV hNl hVl hXA l1 l2 hs3 h1
 go_enter Tryz.func43,Tryz.ntmps43
 go_wp2_with fail
 rw[<-hw3.out]
 with_reducible refine(hc0.out _ hB.out).mono ?_
 rintro e w4 ⟨rfl,hb⟩
 replace aS:=Hd ((hb.block _ (Zb aS.out)).trans aS.out)
 replace aR:=Hd ((hb.block _ (Zb aR.out)).trans aR.out)
 replace aO:=Hd ((hb.block _ (Zb aO.out)).trans aO.out)
 replace hB:=Hd (hB.out.trans (hb.mono hB.out.size))
 clear hb s0 s1 q0 q1 q2 q3 q4 q5 q6 q7
 have s0:=Za aS.out 0
 have s1:=Za aS.out 1
 obtain⟨q0,q1,q2,q3,q4,q5,q6,q7⟩:=hcf.out _ _ aR.out
 have hZ4:=Hd (heap_alloc_new w4 (.cells #[.int .i64 0,.int .i64 0,.int .i64 0,.int .i64 0,.int .i64 0,.int .i64 0,.int .i64 0] 66))
 go_wp2_with ((with_reducible refine wL (.store 66 (.tmp 6) _) ?_);(refine Zc rfl 66 (.tmp 6) (.tmp 14) rfl w4.heap.size _ XA rfl rfl hZ4 iA zA h1A ?_);intro w5 hU5;have hb5:Below w4.heap.size w4 w5:=(Below.alloc (Below.refl w4.heap.size w4) nR _).trans (hU5.out.below nR);have aX:=Hd hU5.out.here;replace aS:=Hd ((hb5.block _ (Zb aS.out)).trans aS.out);replace aR:=Hd ((hb5.block _ (Zb aR.out)).trans aR.out);replace aO:=Hd ((hb5.block _ (Zb aO.out)).trans aO.out);replace hB:=Hd (hB.out.trans (hb5.mono hB.out.size));clear s0 s1 q0 q1 q2 q3 q4 q5 q6 q7 hb5;have s0:=Za aS.out 0;have s1:=Za aS.out 1;obtain⟨q0,q1,q2,q3,q4,q5,q6,q7⟩:=hcf.out _ _ aR.out;obtain⟨y1,y5⟩:=hk1.out _ _ aX.out)
 have hd0:Hid (Below w.heap.size w w5.drew):=Hd hB.out.drew
 replace aO:Hid (w5.drew.heap[w.heap.size+2]? = some (.cells #[.slice none 0 0,.slice none 0 0] 28 (0,0))):=Hd aO.out
 have hcW:=λW h=>hge.out W h
 refine wp_region_held_drew (S:=(Below w.heap.size w)) kX hd0.out (λhOn=>?_)
 generalize World.drew w5=wd at*
 refine tk 0 hOn ?_
 refine tk 1 hOn ?_
 refine rd 2 (λKz hKz=>?_)
 rw[if_pos (by rfl)]
 (with_reducible refine Zl 28 (.tmp 4) (.tmp 26) rfl (w.heap.size+2) #[.slice none 0 0,.slice none 0 0] #[.slice none 0 0,.slice none 0 0] rfl rfl aO kX rfl (by simp[Value.oneCell']) ?_)
 intro w9 hU9
 have hS:=hOn.trans (hU9.out.below oX)
 have hres:=Hd hU9.out.here
 refine hKz.out _ _ hS ?_
 clear hKz Kz hOn hS
 intro hOn
 try simp only[Act.put]
 refine tk 3 hOn ?_
 refine dnE ?_
 all_goals
  go_wp2_with fail
  refine Zf rfl rfl Tryz.underlying28 rfl kX hres.out ?_
  exact hpost.out _ _ (.inr (.inl ⟨11-1,dX,dX,rfl⟩)) hOn
theorem KZ(va:Value)(m:St)(x:Rc)(hx:x.Ok)(w:World)(ha:ArgS w va m)(l1:m.its.length<=1000)(l2:m.ens.length<=1000)(i:Nat)(hi:i<m.ens.length)(hx1:x.id=(i:Int))(h1:m.ens[i].o≠x.obj)(ea:Nat->Addr)(H:Errs 298 Zv w ea) :
  Calls Tryz.prog 43 #[va,.agg x.list.toArray] w (Zo ea ⟨[],[]⟩ 11 w):=by
 have hge:=λW (h:Below w.heap.size w W)=>(ZF (H.below h)).2.2.2.2.2.2.2.2.2.2.1
 have hcf:=Hd (Rc.kept0 x hx 49)
 have hc0:=λW h=>V9 va m W (ha.below h nR) i hi l2
 rw[<-hx1] at hc0
 generalize hy:m.ens[i]=y at*
 obtain⟨XA,hXA⟩:∃ XA,XA=y.list.toArray:=⟨_,rfl⟩
 have hk1:∀ (W:World) b,W.heap[b]? = some (.cells XA 66 (0,0))->W.cell? ⟨b,1,none⟩=some (.int .i64 y.o)/\W.cell? ⟨b,5,none⟩=some (.int .i64 y.v):=λW b h=>by
  rw[Za h,Za h,hXA,List.getElem?_toArray,List.getElem?_toArray]
  exact⟨rfl,rfl⟩
 have iA:(Tryz.prog.info? 66).map (·.size)=some XA.size:=by rw[hXA];kernel_rfl
 have zA:(#[.int .i64 0,.int .i64 0,.int .i64 0,.int .i64 0,.int .i64 0,.int .i64 0,.int .i64 0]:Array Value).size=XA.size:=by rw[hXA];rfl
 have h1A:XA.all (·.oneCell')=true:=by rw[hXA];exact Go.Proofs.YtpdhceiodgnbmaaGreatDoor.all_one (En.list_one _)
 rw[<-hXA] at hc0
 obtain⟨⟨an,cn,av,cv,rfl,hN,hN1,hN2,hV,hV1,hV2⟩,okN,okV⟩:=ha
 obtain⟨N,hNl⟩:∃ N,N=m.its.length:=⟨_,rfl⟩
 obtain⟨V,hVl⟩:∃ V,V=m.ens.length:=⟨_,rfl⟩
 rw[<-hNl,<-hVl] at hc0
 rw[<-hNl,<-hVl]
 generalize hRR:x.list.toArray=R at*
 obtain⟨aS,aR,aO,hs3,hB⟩:=Zq w #[.slice an N cn,.slice av V cv] R #[.slice none 0 0,.slice none 0 0] 28 49 28 _ rfl
 obtain⟨w3,hw3⟩:∃ w3,w3=((w.alloc (.cells #[.slice an N cn,.slice av V cv] 28)).alloc (.cells R 49)).alloc (.cells #[.slice none 0 0,.slice none 0 0] 28):=⟨_,rfl⟩
 have s0:=Za aS 0
 have s1:=Za aS 1
 obtain⟨q0,q1,q2,q3,q4,q5,q6,q7⟩:=hcf.out _ _ aR
 rw[<-hw3] at aS aR aO hB
 have hof:(y.o != x.obj)=true:=by simpa using h1
 have hpost:Hid (∀ W v,ErrIs ea W v 11->Below w.heap.size w W->Zo ea ⟨[],[]⟩ 11 w (.returned (.tuple #[.agg #[.slice none 0 0,.slice none 0 0],v])) W):=Hd (λW v h1 h2=>⟨_,_,rfl,ZC W,h1,h2,Zz _⟩)
 replace hk1:=Hd hk1
 generalize x.obj=vo at*
 generalize x.id=vi at*
 generalize x.way=vw at*
 generalize x.index=vx at*
 generalize x.name=vn at*
 replace hc0:=Hd hc0
 replace hge:=Hd hge
 replace aS:=Hd aS
 replace aR:=Hd aR
 replace aO:=Hd aO
 replace hB:=Hd hB
 replace hw3:=Hd hw3
 clear hRR hN hV hN1 hN2 hV1 hV2 okN okV hNl hVl hXA l1 l2 hs3 hx1 h1
 go_enter Tryz.func43,Tryz.ntmps43
 go_wp2_with fail
 rw[<-hw3.out]
 with_reducible refine(hc0.out _ hB.out).mono ?_
 rintro e w4 ⟨rfl,hb⟩
 replace aS:=Hd ((hb.block _ (Zb aS.out)).trans aS.out)
 replace aR:=Hd ((hb.block _ (Zb aR.out)).trans aR.out)
 replace aO:=Hd ((hb.block _ (Zb aO.out)).trans aO.out)
 replace hB:=Hd (hB.out.trans (hb.mono hB.out.size))
 clear hb s0 s1 q0 q1 q2 q3 q4 q5 q6 q7
 have s0:=Za aS.out 0
 have s1:=Za aS.out 1
 obtain⟨q0,q1,q2,q3,q4,q5,q6,q7⟩:=hcf.out _ _ aR.out
 have hZ4:=Hd (heap_alloc_new w4 (.cells #[.int .i64 0,.int .i64 0,.int .i64 0,.int .i64 0,.int .i64 0,.int .i64 0,.int .i64 0] 66))
 go_wp2_with ((with_reducible refine wL (.store 66 (.tmp 6) _) ?_);(refine Zc rfl 66 (.tmp 6) (.tmp 14) rfl w4.heap.size _ XA rfl rfl hZ4 iA zA h1A ?_);intro w5 hU5;have hb5:Below w4.heap.size w4 w5:=(Below.alloc (Below.refl w4.heap.size w4) nR _).trans (hU5.out.below nR);have aX:=Hd hU5.out.here;replace aS:=Hd ((hb5.block _ (Zb aS.out)).trans aS.out);replace aR:=Hd ((hb5.block _ (Zb aR.out)).trans aR.out);replace aO:=Hd ((hb5.block _ (Zb aO.out)).trans aO.out);replace hB:=Hd (hB.out.trans (hb5.mono hB.out.size));clear s0 s1 q0 q1 q2 q3 q4 q5 q6 q7 hb5;have s0:=Za aS.out 0;have s1:=Za aS.out 1;obtain⟨q0,q1,q2,q3,q4,q5,q6,q7⟩:=hcf.out _ _ aR.out;obtain⟨y1,y5⟩:=hk1.out _ _ aX.out)
 have hd0:Hid (Below w.heap.size w w5.drew):=Hd hB.out.drew
 replace aO:Hid (w5.drew.heap[w.heap.size+2]? = some (.cells #[.slice none 0 0,.slice none 0 0] 28 (0,0))):=Hd aO.out
 have hcW:=λW h=>hge.out W h
 refine wp_region_held_drew (S:=(Below w.heap.size w)) kX hd0.out (λhOn=>?_)
 generalize World.drew w5=wd at*
 refine tk 0 hOn ?_
 refine tk 1 hOn ?_
 refine rd 2 (λKz hKz=>?_)
 rw[if_pos (by rfl)]
 (with_reducible refine Zl 28 (.tmp 4) (.tmp 26) rfl (w.heap.size+2) #[.slice none 0 0,.slice none 0 0] #[.slice none 0 0,.slice none 0 0] rfl rfl aO kX rfl (by simp[Value.oneCell']) ?_)
 intro w9 hU9
 have hS:=hOn.trans (hU9.out.below oX)
 have hres:=Hd hU9.out.here
 refine hKz.out _ _ hS ?_
 clear hKz Kz hOn hS
 intro hOn
 try simp only[Act.put]
 refine tk 3 hOn ?_
 refine dnE ?_
 all_goals
  go_wp2_with fail
  refine Zf rfl rfl Tryz.underlying28 rfl kX hres.out ?_
  exact hpost.out _ _ (.inr (.inl ⟨11-1,dX,dX,rfl⟩)) hOn
theorem KA(va:Value)(m:St)(x:Rc)(hx:x.Ok)(w:World)(ha:ArgS w va m)(l1:m.its.length<=1000)(l2:m.ens.length<=1000)(i:Nat)(hi:i<m.ens.length)(hx1:x.id=(i:Int))(h1:m.ens[i].o=x.obj)(h2:m.ens[i].v≠0)(ea:Nat->Addr)(H:Errs 298 Zv w ea) :
  Calls Tryz.prog 43 #[va,.agg x.list.toArray] w (Zo ea ⟨[],[]⟩ 13 w):=by
 have hge:=λW (h:Below w.heap.size w W)=>(ZF (H.below h)).2.2.2.2.2.2.2.2.2.2.2.2.1
 have hcf:=Hd (Rc.kept0 x hx 49)
 have hc0:=λW h=>V9 va m W (ha.below h nR) i hi l2
 rw[<-hx1] at hc0
 generalize hy:m.ens[i]=y at*
 obtain⟨XA,hXA⟩:∃ XA,XA=y.list.toArray:=⟨_,rfl⟩
 have hk1:∀ (W:World) b,W.heap[b]? = some (.cells XA 66 (0,0))->W.cell? ⟨b,1,none⟩=some (.int .i64 y.o)/\W.cell? ⟨b,5,none⟩=some (.int .i64 y.v):=λW b h=>by
  rw[Za h,Za h,hXA,List.getElem?_toArray,List.getElem?_toArray]
  exact⟨rfl,rfl⟩
 have iA:(Tryz.prog.info? 66).map (·.size)=some XA.size:=by rw[hXA];kernel_rfl
 have zA:(#[.int .i64 0,.int .i64 0,.int .i64 0,.int .i64 0,.int .i64 0,.int .i64 0,.int .i64 0]:Array Value).size=XA.size:=by rw[hXA];rfl
 have h1A:XA.all (·.oneCell')=true:=by rw[hXA];exact Go.Proofs.YtpdhceiodgnbmaaGreatDoor.all_one (En.list_one _)
 rw[<-hXA] at hc0
 obtain⟨⟨an,cn,av,cv,rfl,hN,hN1,hN2,hV,hV1,hV2⟩,okN,okV⟩:=ha
 obtain⟨N,hNl⟩:∃ N,N=m.its.length:=⟨_,rfl⟩
 obtain⟨V,hVl⟩:∃ V,V=m.ens.length:=⟨_,rfl⟩
 rw[<-hNl,<-hVl] at hc0
 rw[<-hNl,<-hVl]
 generalize hRR:x.list.toArray=R at*
 obtain⟨aS,aR,aO,hs3,hB⟩:=Zq w #[.slice an N cn,.slice av V cv] R #[.slice none 0 0,.slice none 0 0] 28 49 28 _ rfl
 obtain⟨w3,hw3⟩:∃ w3,w3=((w.alloc (.cells #[.slice an N cn,.slice av V cv] 28)).alloc (.cells R 49)).alloc (.cells #[.slice none 0 0,.slice none 0 0] 28):=⟨_,rfl⟩
 have s0:=Za aS 0
 have s1:=Za aS 1
 obtain⟨q0,q1,q2,q3,q4,q5,q6,q7⟩:=hcf.out _ _ aR
 rw[<-hw3] at aS aR aO hB
 have hof:(y.o != x.obj)=false:=by rw[h1];simp
 have hov:(y.v != 0)=true:=by simpa using h2
 have hpost:Hid (∀ W v,ErrIs ea W v 13->Below w.heap.size w W->Zo ea ⟨[],[]⟩ 13 w (.returned (.tuple #[.agg #[.slice none 0 0,.slice none 0 0],v])) W):=Hd (λW v h1 h2=>⟨_,_,rfl,ZC W,h1,h2,Zz _⟩)
 replace hk1:=Hd hk1
 generalize x.obj=vo at*
 generalize x.id=vi at*
 generalize x.way=vw at*
 generalize x.index=vx at*
 generalize x.name=vn at*
 replace hc0:=Hd hc0
 replace hge:=Hd hge
 replace aS:=Hd aS
 replace aR:=Hd aR
 replace aO:=Hd aO
 replace hB:=Hd hB
 replace hw3:=Hd hw3
 clear hRR hN hV hN1 hN2 hV1 hV2 okN okV hNl hVl hXA l1 l2 hs3 hx1 h1 h2
 go_enter Tryz.func43,Tryz.ntmps43
 go_wp2_with fail
 rw[<-hw3.out]
 with_reducible refine(hc0.out _ hB.out).mono ?_
 rintro e w4 ⟨rfl,hb⟩
 replace aS:=Hd ((hb.block _ (Zb aS.out)).trans aS.out)
 replace aR:=Hd ((hb.block _ (Zb aR.out)).trans aR.out)
 replace aO:=Hd ((hb.block _ (Zb aO.out)).trans aO.out)
 replace hB:=Hd (hB.out.trans (hb.mono hB.out.size))
 clear hb s0 s1 q0 q1 q2 q3 q4 q5 q6 q7
 have s0:=Za aS.out 0
 have s1:=Za aS.out 1
 obtain⟨q0,q1,q2,q3,q4,q5,q6,q7⟩:=hcf.out _ _ aR.out
 have hZ4:=Hd (heap_alloc_new w4 (.cells #[.int .i64 0,.int .i64 0,.int .i64 0,.int .i64 0,.int .i64 0,.int .i64 0,.int .i64 0] 66))
 go_wp2_with ((with_reducible refine wL (.store 66 (.tmp 6) _) ?_);(refine Zc rfl 66 (.tmp 6) (.tmp 14) rfl w4.heap.size _ XA rfl rfl hZ4 iA zA h1A ?_);intro w5 hU5;have hb5:Below w4.heap.size w4 w5:=(Below.alloc (Below.refl w4.heap.size w4) nR _).trans (hU5.out.below nR);have aX:=Hd hU5.out.here;replace aS:=Hd ((hb5.block _ (Zb aS.out)).trans aS.out);replace aR:=Hd ((hb5.block _ (Zb aR.out)).trans aR.out);replace aO:=Hd ((hb5.block _ (Zb aO.out)).trans aO.out);replace hB:=Hd (hB.out.trans (hb5.mono hB.out.size));clear s0 s1 q0 q1 q2 q3 q4 q5 q6 q7 hb5;have s0:=Za aS.out 0;have s1:=Za aS.out 1;obtain⟨q0,q1,q2,q3,q4,q5,q6,q7⟩:=hcf.out _ _ aR.out;obtain⟨y1,y5⟩:=hk1.out _ _ aX.out)
 have hd0:Hid (Below w.heap.size w w5.drew):=Hd hB.out.drew
 replace aO:Hid (w5.drew.heap[w.heap.size+2]? = some (.cells #[.slice none 0 0,.slice none 0 0] 28 (0,0))):=Hd aO.out
 have hcW:=λW h=>hge.out W h
 refine wp_region_held_drew (S:=(Below w.heap.size w)) kX hd0.out (λhOn=>?_)
 generalize World.drew w5=wd at*
 refine tk 0 hOn ?_
 refine tk 1 hOn ?_
 refine rd 2 (λKz hKz=>?_)
 rw[if_pos (by rfl)]
 (with_reducible refine Zl 28 (.tmp 4) (.tmp 32) rfl (w.heap.size+2) #[.slice none 0 0,.slice none 0 0] #[.slice none 0 0,.slice none 0 0] rfl rfl aO kX rfl (by simp[Value.oneCell']) ?_)
 intro w9 hU9
 have hS:=hOn.trans (hU9.out.below oX)
 have hres:=Hd hU9.out.here
 refine hKz.out _ _ hS ?_
 clear hKz Kz hOn hS
 intro hOn
 try simp only[Act.put]
 refine tk 3 hOn ?_
 refine dnE ?_
 all_goals
  go_wp2_with fail
  refine Zf rfl rfl Tryz.underlying28 rfl kX hres.out ?_
  exact hpost.out _ _ (.inr (.inl ⟨13-1,dX,dX,rfl⟩)) hOn
end Go.Proofs.YtpdhceiodgnbmaaGreatDoor
