import Derived.Test.YtpdhceiodgnbmaaGreatDoorF0Safe21Said
import Derived.Test.YtpdhceiodgnbmaaGreatDoorF1Safe21Said
import Derived.Test.YtpdhceiodgnbmaaGreatDoorF26Safe21Said
import Derived.Test.YtpdhceiodgnbmaaGreatDoorF2Safe21Said
import Derived.Test.YtpdhceiodgnbmaaGreatDoorF15Safe21Said
import Derived.Test.YtpdhceiodgnbmaaGreatDoorF20Safe21Said
set_option linter.unusedVariables false
set_option linter.unusedSimpArgs false
set_option linter.unnecessarySimpa false
set_option maxRecDepth 100000
set_option maxHeartbeats 8000000
namespace Go.Proofs.YtpdhceiodgnbmaaGreatDoor
open Go.RowKit
theorem XP{ea:Nat->Addr}{w:World}(H:Errs 298 errGs w ea):∀ W,Below w.heap.size w W->
  W.cell? ⟨6,0,none⟩=some (.iface 298 (.pointer (some (ea 6))))/\W.cell? ⟨1,0,none⟩=some (.iface 298 (.pointer (some (ea 1))))/\
  W.cell? ⟨2,0,none⟩=some (.iface 298 (.pointer (some (ea 2)))):=by
 intro W hb
 obtain⟨g0,g1,g2,g3,g4,g5,g6,_⟩:=Qs (H.below hb)
 exact⟨g6,g1,g2⟩
theorem ErrIs.upd{ea:Nat->Addr}{w w':World}{v:Value}{n b:Nat}{o:Obj}{C:Array Value}{t:TypeId}{z:Nat×Nat}(h:ErrIs ea w v n)(hU:Upd b o w w')(hb:w.heap[b]? = some (.cells C t z))(ht:t≠229):ErrIs ea w' v n:=by
 rcases h with h|h|⟨i,g,F,V,h1,h2,h3,h4⟩
 ·exact .inl h
 ·exact .inr (.inl h)
 ·refine .inr (.inr ⟨i,g,F,V,h1,h2,h3,(hU.block g λe=>?_).trans h4⟩)
  rw[e,hb] at h4
  injection h4 with h4
  injection h4 with _ h5 _
  exact ht h5
def UU(ea:Nat->Addr)(n:Nat)(w:World)(e:Ending)(w':World):Prop:=∃ v,e=.returned (.tuple #[.agg Rc.zero.list.toArray,v])/\ErrIs ea w' v n/\Below w.heap.size w w'
theorem HU(bs:List UInt8)(a:Option Addr)(c n:Nat)(w:World)(ea:Nat->Addr)(hs:(nB (bs,false) 1).2=true)(ha:ArgB w a c bs)(hn:bs.length=n)(hm:n<=1000)(haf:∀ ad,a=some ad->∃ b o,ad=⟨b,o,none⟩/\b<w.heap.size)(H:Errs 298 errGs w ea) :
  Calls Tryz.prog 29 #[.slice a n c] w (UU ea 2 w):=by
 obtain⟨w1,hw1⟩:∃ w1,w1=(w.alloc (.cells Tryz.zeroCells49 49)).alloc (.cells #[.slice a n c,.bool false] 140):=⟨_,rfl⟩
 have hb1:Below w.heap.size w w1:=by rw[hw1];exact(bR.alloc nR _).alloc sX _
 have hs1:w1.heap.size=w.heap.size+2:=by rw[hw1];simp
 have hz1:w1.heap[w.heap.size]? = some (.cells Tryz.zeroCells49 49 (0,0)):=by rw[hw1,Zz,if_neg sX,Zz,if_pos rfl]
 have hq1:w1.heap[w.heap.size+1]? = some (.cells #[.slice a n c,.bool false] 140 (0,0)):=by rw[hw1,Zz,if_pos sX]
 have hr1:RdM w1 (w.heap.size+1) w.heap.size (bs,false).1 (bs,false).2:=by
  refine⟨a,c,by rw[hn];exact hq1,ha.below hb1,λad e=>?_⟩
  obtain⟨b,o,h1,h2⟩:=haf ad e
  exact⟨b,o,h1,oX,h2⟩
 obtain⟨k,hk⟩:∃ k,nN (bs,false) 1=k:=⟨_,rfl⟩
 have hn0:∀ W,RdM W (w.heap.size+1) w.heap.size (bs,false).1 (bs,false).2->Calls Tryz.prog 63 #[.pointer (some ⟨w.heap.size+1,0,none⟩),.int .i64 1] W λe w2=>e=.returned (.int .i64 k)/\RdM w2 (w.heap.size+1) w.heap.size (nB (bs,false) 1).1 (nB (bs,false) 1).2/\Only (λk=>k=w.heap.size+1) W w2:=by
  intro W h
  have h:=Z9 (w.heap.size+1) w.heap.size (bs,false) 1 W h dX (by show bs.length<=1000000;omega)
  rw[hk] at h
  exact h
 have hbd:=Hd (QI k)
 have s78:(Rc.ofKind k).list.toArray.size=78:=by rw[List.size_toArray,Rc.len (x:=Rc.ofKind k) Zr Zr]
 have i8:(Tryz.prog.info? 49).map (·.size)=some (Rc.ofKind k).list.toArray.size:=by rw[s78];kernel_rfl
 have z8:(Tryz.zeroCells49).size=(Rc.ofKind k).list.toArray.size:=by rw[s78];kernel_rfl
 have hVo:=Rc.all_one (Rc.ofKind k)
 have iZ:(Tryz.prog.info? 49).map (·.size)=some (Tryz.zeroCells49).size:=kX
 have hZo:(Tryz.zeroCells49).all (·.oneCell')=true:=by rw[Rc.zeroG];exact Rc.all_one Rc.zero
 have hu:=Tryz.underlying49
 have hrk0:∀ (W:World) b,W.heap[b]? = some (.cells (Rc.ofKind k).list.toArray 49 (0,0))->W.cell? ⟨b,0,none⟩=some (.int .i64 k):=λW b h=>by rw[Za h];rfl
 have hce:=Hd (XP H)
 generalize (Rc.ofKind k).list.toArray=RK at*
 have hZe:Hid (∀ v,Ending.returned (.tuple #[.agg Tryz.zeroCells49,v])=Ending.returned (.tuple #[.agg Rc.zero.list.toArray,v])):=Hd (λv=>by rw[Rc.zeroG])
 clear s78
 generalize nB (bs,false) 1=s1 at*
 obtain⟨q,hq⟩:∃ q,q=w.heap.size+1:=⟨_,rfl⟩
 obtain⟨B,hBd⟩:∃ B,B=w.heap.size:=⟨_,rfl⟩
 replace hw1:=Hd hw1
 replace hn0:=Hd hn0
 replace hr1:=Hd hr1
 replace hz1:=Hd hz1
 replace hb1:=Hd hb1
 replace H:=Hd H
 replace hrk0:=Hd hrk0
 clear hn hm haf ha hq1 hk
 go_enter Tryz.func29,Tryz.ntmps29
 go_wp2_with fail
 rw[<-hw1.out]
 with_reducible refine(hn0.out _ hr1.out).mono ?_
 rintro e wa ⟨rfl,hra,hoa⟩
 have hza:=Hd (hoa.heap hz1.out oX)
 have hsa:=hoa.size
 have hOa:Only (λk=>k=w.heap.size+1) w1 wa:=hoa
 have hna:w.heap.size+1<wa.heap.size:=oX
 have hZp:=Hd (heap_alloc_new wa (.cells Tryz.zeroCells49 49))
 have hba:Below w.heap.size w wa:=hb1.out.trans (hoa.below oX (λk e=>by omega))
 replace hra:=Hd hra
 replace hba:=Hd hba
 clear hoa hOa
 go_wp2_with (first
  | ((with_reducible refine wL (.build 49 _) ?_);refine Z3 rfl 49 [(0,.tmp 14)] rfl [(0,.int .i64 k)] rfl _ (hbd.out _) ?_)
  | ((with_reducible refine wL (.store 49 (.tmp 5) _) ?_);(refine Zc rfl 49 (.tmp 5) (.tmp 15) rfl wa.heap.size _ RK rfl rfl hZp i8 z8 hVo ?_);intro w3 hU3;have hP3:=Hd hU3.out.here;have hb3:=Hd ((Below.alloc (Below.refl wa.heap.size wa) nR (.cells Tryz.zeroCells49 49)).trans (hU3.out.below nR));have hr3:=Hd (hra.out.only (D:=λ_=>False) (Only.ofBelow hb3.out) (λe=>e) (λk e=>e.elim));have hz3:=Hd ((hb3.out.block _ (Zb hza.out)).trans hza.out);have k0:=hrk0.out _ _ hP3.out;obtain⟨a3,c3,hq3,_⟩:=hr3.out;rw[hs] at hq3;have j1:=Za hq3 1;have hbw3:=Hd (hba.out.trans (hb3.out.mono hba.out.size));clear hq3))
 have hd0:Hid (Below w.heap.size w w3.drew):=Hd (hbw3.out.drew)
 have hzd:Hid (w3.drew.heap[w.heap.size]? = some (.cells Tryz.zeroCells49 49 (0,0))):=Hd hz3.out
 have hcW:=λW h=>(hce.out W h).2.1
 have hraw:=True.intro
 have lkB:∀ W:World,Below w.heap.size w W->∀ (x:Operand) (v:Value),True->True->True->True:=λ_ _ _ _ _ _ _=>trivial
 clear hraw lkB
 refine wp_region_held_drew (S:=(Below w.heap.size w)) kX hd0.out (λhOn=>?_)
 generalize World.drew w3=wd at*
 refine tk 0 hOn ?_
 refine tk 1 hOn ?_
 refine rd 2 (λKz hKz=>?_)
 rw[if_pos (by rfl)]
 (with_reducible refine Zu 49 (.tmp 2) (.tmp 21) rfl w.heap.size _ Tryz.zeroCells49 rfl rfl hzd iZ rfl hZo ?_)
 intro w9 hU9
 have hS:=hOn.trans (hU9.out.below nR)
 have hres:=Hd hU9.out.here
 refine hKz.out _ _ hS ?_
 clear hKz Kz hOn hS
 intro hOn
 try simp only[Act.put]
 refine tk 3 hOn ?_
 refine dnE ?_
 all_goals
  go_wp2_with fail
  refine Zl rfl rfl hu rfl iZ hres.out ?_
  exact⟨_,hZe.out _,.inr (.inl ⟨2-1,dX,dX,rfl⟩),hOn⟩
theorem RS(bs:List UInt8)(a:Option Addr)(c n:Nat)(w:World)(ea:Nat->Addr)(k:Int)(hk:nN (bs,false) 1=k)(hs:(nB (bs,false) 1).2=false)(hi4:inB k 1 4=false)(ha:ArgB w a c bs)(hn:bs.length=n)(hm:n<=1000)(haf:∀ ad,a=some ad->∃ b o,ad=⟨b,o,none⟩/\b<w.heap.size)(H:Errs 298 errGs w ea) :
  Calls Tryz.prog 29 #[.slice a n c] w (UU ea 7 w):=by
 obtain⟨w1,hw1⟩:∃ w1,w1=(w.alloc (.cells Tryz.zeroCells49 49)).alloc (.cells #[.slice a n c,.bool false] 140):=⟨_,rfl⟩
 have hb1:Below w.heap.size w w1:=by rw[hw1];exact(bR.alloc nR _).alloc sX _
 have hs1:w1.heap.size=w.heap.size+2:=by rw[hw1];simp
 have hz1:w1.heap[w.heap.size]? = some (.cells Tryz.zeroCells49 49 (0,0)):=by rw[hw1,Zz,if_neg sX,Zz,if_pos rfl]
 have hq1:w1.heap[w.heap.size+1]? = some (.cells #[.slice a n c,.bool false] 140 (0,0)):=by rw[hw1,Zz,if_pos sX]
 have hr1:RdM w1 (w.heap.size+1) w.heap.size (bs,false).1 (bs,false).2:=by
  refine⟨a,c,by rw[hn];exact hq1,ha.below hb1,λad e=>?_⟩
  obtain⟨b,o,h1,h2⟩:=haf ad e
  exact⟨b,o,h1,oX,h2⟩
 have hn0:∀ W,RdM W (w.heap.size+1) w.heap.size (bs,false).1 (bs,false).2->Calls Tryz.prog 63 #[.pointer (some ⟨w.heap.size+1,0,none⟩),.int .i64 1] W λe w2=>e=.returned (.int .i64 k)/\RdM w2 (w.heap.size+1) w.heap.size (nB (bs,false) 1).1 (nB (bs,false) 1).2/\Only (λk=>k=w.heap.size+1) W w2:=by
  intro W h
  have h:=Z9 (w.heap.size+1) w.heap.size (bs,false) 1 W h dX (by show bs.length<=1000000;omega)
  rw[hk] at h
  exact h
 have hbd:=Hd (QI k)
 have s78:(Rc.ofKind k).list.toArray.size=78:=by rw[List.size_toArray,Rc.len (x:=Rc.ofKind k) Zr Zr]
 have i8:(Tryz.prog.info? 49).map (·.size)=some (Rc.ofKind k).list.toArray.size:=by rw[s78];kernel_rfl
 have z8:(Tryz.zeroCells49).size=(Rc.ofKind k).list.toArray.size:=by rw[s78];kernel_rfl
 have hVo:=Rc.all_one (Rc.ofKind k)
 have iZ:(Tryz.prog.info? 49).map (·.size)=some (Tryz.zeroCells49).size:=kX
 have hZo:(Tryz.zeroCells49).all (·.oneCell')=true:=by rw[Rc.zeroG];exact Rc.all_one Rc.zero
 have hu:=Tryz.underlying49
 have hrk0:∀ (W:World) b,W.heap[b]? = some (.cells (Rc.ofKind k).list.toArray 49 (0,0))->W.cell? ⟨b,0,none⟩=some (.int .i64 k):=λW b h=>by rw[Za h];rfl
 have hce:=Hd (XP H)
 generalize (Rc.ofKind k).list.toArray=RK at*
 have hZe:Hid (∀ v,Ending.returned (.tuple #[.agg Tryz.zeroCells49,v])=Ending.returned (.tuple #[.agg Rc.zero.list.toArray,v])):=Hd (λv=>by rw[Rc.zeroG])
 clear s78
 generalize nB (bs,false) 1=s1 at*
 obtain⟨q,hq⟩:∃ q,q=w.heap.size+1:=⟨_,rfl⟩
 obtain⟨B,hBd⟩:∃ B,B=w.heap.size:=⟨_,rfl⟩
 replace hw1:=Hd hw1
 replace hn0:=Hd hn0
 replace hr1:=Hd hr1
 replace hz1:=Hd hz1
 replace hb1:=Hd hb1
 replace H:=Hd H
 replace hrk0:=Hd hrk0
 clear hn hm haf ha hq1 hk
 go_enter Tryz.func29,Tryz.ntmps29
 go_wp2_with fail
 rw[<-hw1.out]
 with_reducible refine(hn0.out _ hr1.out).mono ?_
 rintro e wa ⟨rfl,hra,hoa⟩
 have hza:=Hd (hoa.heap hz1.out oX)
 have hsa:=hoa.size
 have hOa:Only (λk=>k=w.heap.size+1) w1 wa:=hoa
 have hna:w.heap.size+1<wa.heap.size:=oX
 have hZp:=Hd (heap_alloc_new wa (.cells Tryz.zeroCells49 49))
 have hba:Below w.heap.size w wa:=hb1.out.trans (hoa.below oX (λk e=>by omega))
 replace hra:=Hd hra
 replace hba:=Hd hba
 clear hoa hOa
 go_wp2_with (first
  | ((with_reducible refine wL (.build 49 _) ?_);refine Z3 rfl 49 [(0,.tmp 14)] rfl [(0,.int .i64 k)] rfl _ (hbd.out _) ?_)
  | ((with_reducible refine wL (.store 49 (.tmp 5) _) ?_);(refine Zc rfl 49 (.tmp 5) (.tmp 15) rfl wa.heap.size _ RK rfl rfl hZp i8 z8 hVo ?_);intro w3 hU3;have hP3:=Hd hU3.out.here;have hb3:=Hd ((Below.alloc (Below.refl wa.heap.size wa) nR (.cells Tryz.zeroCells49 49)).trans (hU3.out.below nR));have hr3:=Hd (hra.out.only (D:=λ_=>False) (Only.ofBelow hb3.out) (λe=>e) (λk e=>e.elim));have hz3:=Hd ((hb3.out.block _ (Zb hza.out)).trans hza.out);have k0:=hrk0.out _ _ hP3.out;obtain⟨a3,c3,hq3,_⟩:=hr3.out;rw[hs] at hq3;have j1:=Za hq3 1;have hbw3:=Hd (hba.out.trans (hb3.out.mono hba.out.size));clear hq3))
 with_reducible refine(Z2 k 1 4 _).mono ?_
 rintro e w4 ⟨rfl,rfl⟩
 go_wp2_with fail
 have hd0:Hid (Below w.heap.size w w3.drew):=Hd (hbw3.out.drew)
 have hzd:Hid (w3.drew.heap[w.heap.size]? = some (.cells Tryz.zeroCells49 49 (0,0))):=Hd hz3.out
 have hcW:=λW h=>(hce.out W h).1
 have hraw:=True.intro
 have lkB:∀ W:World,Below w.heap.size w W->∀ (x:Operand) (v:Value),True->True->True->True:=λ_ _ _ _ _ _ _=>trivial
 clear hraw lkB
 refine wp_region_held_drew (S:=(Below w.heap.size w)) kX hd0.out (λhOn=>?_)
 generalize World.drew w3=wd at*
 refine tk 0 hOn ?_
 refine tk 1 hOn ?_
 refine rd 2 (λKz hKz=>?_)
 rw[if_pos (by rfl)]
 (with_reducible refine Zu 49 (.tmp 2) (.tmp 28) rfl w.heap.size _ Tryz.zeroCells49 rfl rfl hzd iZ rfl hZo ?_)
 intro w9 hU9
 have hS:=hOn.trans (hU9.out.below nR)
 have hres:=Hd hU9.out.here
 refine hKz.out _ _ hS ?_
 clear hKz Kz hOn hS
 intro hOn
 try simp only[Act.put]
 refine tk 3 hOn ?_
 refine dnE ?_
 all_goals
  go_wp2_with fail
  refine Zl rfl rfl hu rfl iZ hres.out ?_
  exact⟨_,hZe.out _,.inr (.inl ⟨7-1,dX,dX,rfl⟩),hOn⟩
theorem HV(bs:List UInt8)(a:Option Addr)(c n:Nat)(w:World)(ea:Nat->Addr)(k:Int)(hk:nN (bs,false) 1=k)(y:Rc)(s2:List UInt8×Bool)(hs:(nB (bs,false) 1).2=false)(hi4:inB k 1 4=true)(hrest:∀ W pp,W.heap[pp]? = some (.cells (Rc.ofKind k).list.toArray 49 (0,0))->RdM W (w.heap.size+1) w.heap.size (nB (bs,false) 1).1 (nB (bs,false) 1).2->pp≠w.heap.size+1->w.heap.size<=pp->Calls Tryz.prog 65 #[.pointer (some ⟨w.heap.size+1,0,none⟩),.pointer (some ⟨pp,0,none⟩)] W λe w2=>∃ v,e=.returned v/\w2.heap[pp]? = some (.cells y.list.toArray 49 (0,0))/\RdM w2 (w.heap.size+1) w.heap.size s2.1 s2.2/\Only (λk=>k=pp\/k=w.heap.size+1) W w2)(h2:s2.2=true)(ha:ArgB w a c bs)(hn:bs.length=n)(hm:n<=1000)(haf:∀ ad,a=some ad->∃ b o,ad=⟨b,o,none⟩/\b<w.heap.size)(H:Errs 298 errGs w ea) :
  Calls Tryz.prog 29 #[.slice a n c] w (UU ea 2 w):=by
 obtain⟨w1,hw1⟩:∃ w1,w1=(w.alloc (.cells Tryz.zeroCells49 49)).alloc (.cells #[.slice a n c,.bool false] 140):=⟨_,rfl⟩
 have hb1:Below w.heap.size w w1:=by rw[hw1];exact(bR.alloc nR _).alloc sX _
 have hs1:w1.heap.size=w.heap.size+2:=by rw[hw1];simp
 have hz1:w1.heap[w.heap.size]? = some (.cells Tryz.zeroCells49 49 (0,0)):=by rw[hw1,Zz,if_neg sX,Zz,if_pos rfl]
 have hq1:w1.heap[w.heap.size+1]? = some (.cells #[.slice a n c,.bool false] 140 (0,0)):=by rw[hw1,Zz,if_pos sX]
 have hr1:RdM w1 (w.heap.size+1) w.heap.size (bs,false).1 (bs,false).2:=by
  refine⟨a,c,by rw[hn];exact hq1,ha.below hb1,λad e=>?_⟩
  obtain⟨b,o,h1,h2⟩:=haf ad e
  exact⟨b,o,h1,oX,h2⟩
 have hn0:∀ W,RdM W (w.heap.size+1) w.heap.size (bs,false).1 (bs,false).2->Calls Tryz.prog 63 #[.pointer (some ⟨w.heap.size+1,0,none⟩),.int .i64 1] W λe w2=>e=.returned (.int .i64 k)/\RdM w2 (w.heap.size+1) w.heap.size (nB (bs,false) 1).1 (nB (bs,false) 1).2/\Only (λk=>k=w.heap.size+1) W w2:=by
  intro W h
  have h:=Z9 (w.heap.size+1) w.heap.size (bs,false) 1 W h dX (by show bs.length<=1000000;omega)
  rw[hk] at h
  exact h
 have hbd:=Hd (QI k)
 have s78:(Rc.ofKind k).list.toArray.size=78:=by rw[List.size_toArray,Rc.len (x:=Rc.ofKind k) Zr Zr]
 have i8:(Tryz.prog.info? 49).map (·.size)=some (Rc.ofKind k).list.toArray.size:=by rw[s78];kernel_rfl
 have z8:(Tryz.zeroCells49).size=(Rc.ofKind k).list.toArray.size:=by rw[s78];kernel_rfl
 have hVo:=Rc.all_one (Rc.ofKind k)
 have iZ:(Tryz.prog.info? 49).map (·.size)=some (Tryz.zeroCells49).size:=kX
 have hZo:(Tryz.zeroCells49).all (·.oneCell')=true:=by rw[Rc.zeroG];exact Rc.all_one Rc.zero
 have hu:=Tryz.underlying49
 have hrk0:∀ (W:World) b,W.heap[b]? = some (.cells (Rc.ofKind k).list.toArray 49 (0,0))->W.cell? ⟨b,0,none⟩=some (.int .i64 k):=λW b h=>by rw[Za h];rfl
 have hce:=Hd (XP H)
 generalize (Rc.ofKind k).list.toArray=RK at*
 have hZe:Hid (∀ v,Ending.returned (.tuple #[.agg Tryz.zeroCells49,v])=Ending.returned (.tuple #[.agg Rc.zero.list.toArray,v])):=Hd (λv=>by rw[Rc.zeroG])
 clear s78
 generalize nB (bs,false) 1=s1 at*
 obtain⟨q,hq⟩:∃ q,q=w.heap.size+1:=⟨_,rfl⟩
 obtain⟨B,hBd⟩:∃ B,B=w.heap.size:=⟨_,rfl⟩
 replace hw1:=Hd hw1
 replace hn0:=Hd hn0
 replace hr1:=Hd hr1
 replace hz1:=Hd hz1
 replace hb1:=Hd hb1
 replace H:=Hd H
 replace hrk0:=Hd hrk0
 clear hn hm haf ha hq1 hk
 replace hrest:=Hd hrest
 go_enter Tryz.func29,Tryz.ntmps29
 go_wp2_with fail
 rw[<-hw1.out]
 with_reducible refine(hn0.out _ hr1.out).mono ?_
 rintro e wa ⟨rfl,hra,hoa⟩
 have hza:=Hd (hoa.heap hz1.out oX)
 have hsa:=hoa.size
 have hOa:Only (λk=>k=w.heap.size+1) w1 wa:=hoa
 have hna:w.heap.size+1<wa.heap.size:=oX
 have hZp:=Hd (heap_alloc_new wa (.cells Tryz.zeroCells49 49))
 have hba:Below w.heap.size w wa:=hb1.out.trans (hoa.below oX (λk e=>by omega))
 replace hra:=Hd hra
 replace hba:=Hd hba
 clear hoa hOa
 go_wp2_with (first
  | ((with_reducible refine wL (.build 49 _) ?_);refine Z3 rfl 49 [(0,.tmp 14)] rfl [(0,.int .i64 k)] rfl _ (hbd.out _) ?_)
  | ((with_reducible refine wL (.store 49 (.tmp 5) _) ?_);(refine Zc rfl 49 (.tmp 5) (.tmp 15) rfl wa.heap.size _ RK rfl rfl hZp i8 z8 hVo ?_);intro w3 hU3;have hP3:=Hd hU3.out.here;have hb3:=Hd ((Below.alloc (Below.refl wa.heap.size wa) nR (.cells Tryz.zeroCells49 49)).trans (hU3.out.below nR));have hr3:=Hd (hra.out.only (D:=λ_=>False) (Only.ofBelow hb3.out) (λe=>e) (λk e=>e.elim));have hz3:=Hd ((hb3.out.block _ (Zb hza.out)).trans hza.out);have k0:=hrk0.out _ _ hP3.out;obtain⟨a3,c3,hq3,_⟩:=hr3.out;rw[hs] at hq3;have j1:=Za hq3 1;have hbw3:=Hd (hba.out.trans (hb3.out.mono hba.out.size));clear hq3))
 with_reducible refine(Z2 k 1 4 _).mono ?_
 rintro e w4 ⟨rfl,rfl⟩
 go_wp2_with fail
 with_reducible refine(hrest.out _ _ hP3.out hr3.out oX oX).mono ?_
 rintro e w5 ⟨v5,rfl,hP5,hr5,ho5⟩
 have hz5:=Hd (ho5.heap hz3.out oX)
 have hbw5:=Hd (hbw3.out.trans (ho5.below hbw3.out.size (λk e=>by omega)))
 obtain⟨a5,c5,hq5,_⟩:=hr5
 clear j1 k0
 rw[h2] at hq5
 have j1:=Za hq5 1
 have j0:=Za hq5 0
 clear hq5 ho5
 replace hP5:=Hd hP5
 have hH5:=Hd (H.out.below hbw5.out)
 go_wp2_with fail
 have hd0:Hid (Below w.heap.size w w5.drew):=Hd (hbw5.out.drew)
 have hzd:Hid (w5.drew.heap[w.heap.size]? = some (.cells Tryz.zeroCells49 49 (0,0))):=Hd hz5.out
 have hcW:=λW h=>(hce.out W h).2.1
 have hraw:=True.intro
 have lkB:∀ W:World,Below w.heap.size w W->∀ (x:Operand) (v:Value),True->True->True->True:=λ_ _ _ _ _ _ _=>trivial
 clear hraw lkB
 refine wp_region_held_drew (S:=(Below w.heap.size w)) kX hd0.out (λhOn=>?_)
 generalize World.drew w5=wd at*
 refine tk 0 hOn ?_
 refine tk 1 hOn ?_
 refine rd 2 (λKz hKz=>?_)
 rw[if_pos (by rfl)]
 (with_reducible refine Zu 49 (.tmp 2) (.tmp 37) rfl w.heap.size _ Tryz.zeroCells49 rfl rfl hzd iZ rfl hZo ?_)
 intro w9 hU9
 have hS:=hOn.trans (hU9.out.below nR)
 have hres:=Hd hU9.out.here
 refine hKz.out _ _ hS ?_
 clear hKz Kz hOn hS
 intro hOn
 try simp only[Act.put]
 refine tk 3 hOn ?_
 refine dnE ?_
 all_goals
  go_wp2_with fail
  refine Zl rfl rfl hu rfl iZ hres.out ?_
  exact⟨_,hZe.out _,.inr (.inl ⟨2-1,dX,dX,rfl⟩),hOn⟩
theorem Rq(bs:List UInt8)(a:Option Addr)(c n:Nat)(w:World)(ea:Nat->Addr)(k:Int)(hk:nN (bs,false) 1=k)(y:Rc)(s2:List UInt8×Bool)(hs:(nB (bs,false) 1).2=false)(hi4:inB k 1 4=true)(hrest:∀ W pp,W.heap[pp]? = some (.cells (Rc.ofKind k).list.toArray 49 (0,0))->RdM W (w.heap.size+1) w.heap.size (nB (bs,false) 1).1 (nB (bs,false) 1).2->pp≠w.heap.size+1->w.heap.size<=pp->Calls Tryz.prog 65 #[.pointer (some ⟨w.heap.size+1,0,none⟩),.pointer (some ⟨pp,0,none⟩)] W λe w2=>∃ v,e=.returned v/\w2.heap[pp]? = some (.cells y.list.toArray 49 (0,0))/\RdM w2 (w.heap.size+1) w.heap.size s2.1 s2.2/\Only (λk=>k=pp\/k=w.heap.size+1) W w2)(h2:s2.2=false)(h3:0<s2.1.length)(ha:ArgB w a c bs)(hn:bs.length=n)(hm:n<=1000)(haf:∀ ad,a=some ad->∃ b o,ad=⟨b,o,none⟩/\b<w.heap.size)(H:Errs 298 errGs w ea) :
  Calls Tryz.prog 29 #[.slice a n c] w (UU ea 3 w):=by
 obtain⟨w1,hw1⟩:∃ w1,w1=(w.alloc (.cells Tryz.zeroCells49 49)).alloc (.cells #[.slice a n c,.bool false] 140):=⟨_,rfl⟩
 have hb1:Below w.heap.size w w1:=by rw[hw1];exact(bR.alloc nR _).alloc sX _
 have hs1:w1.heap.size=w.heap.size+2:=by rw[hw1];simp
 have hz1:w1.heap[w.heap.size]? = some (.cells Tryz.zeroCells49 49 (0,0)):=by rw[hw1,Zz,if_neg sX,Zz,if_pos rfl]
 have hq1:w1.heap[w.heap.size+1]? = some (.cells #[.slice a n c,.bool false] 140 (0,0)):=by rw[hw1,Zz,if_pos sX]
 have hr1:RdM w1 (w.heap.size+1) w.heap.size (bs,false).1 (bs,false).2:=by
  refine⟨a,c,by rw[hn];exact hq1,ha.below hb1,λad e=>?_⟩
  obtain⟨b,o,h1,h2⟩:=haf ad e
  exact⟨b,o,h1,oX,h2⟩
 have hn0:∀ W,RdM W (w.heap.size+1) w.heap.size (bs,false).1 (bs,false).2->Calls Tryz.prog 63 #[.pointer (some ⟨w.heap.size+1,0,none⟩),.int .i64 1] W λe w2=>e=.returned (.int .i64 k)/\RdM w2 (w.heap.size+1) w.heap.size (nB (bs,false) 1).1 (nB (bs,false) 1).2/\Only (λk=>k=w.heap.size+1) W w2:=by
  intro W h
  have h:=Z9 (w.heap.size+1) w.heap.size (bs,false) 1 W h dX (by show bs.length<=1000000;omega)
  rw[hk] at h
  exact h
 have hbd:=Hd (QI k)
 have s78:(Rc.ofKind k).list.toArray.size=78:=by rw[List.size_toArray,Rc.len (x:=Rc.ofKind k) Zr Zr]
 have i8:(Tryz.prog.info? 49).map (·.size)=some (Rc.ofKind k).list.toArray.size:=by rw[s78];kernel_rfl
 have z8:(Tryz.zeroCells49).size=(Rc.ofKind k).list.toArray.size:=by rw[s78];kernel_rfl
 have hVo:=Rc.all_one (Rc.ofKind k)
 have iZ:(Tryz.prog.info? 49).map (·.size)=some (Tryz.zeroCells49).size:=kX
 have hZo:(Tryz.zeroCells49).all (·.oneCell')=true:=by rw[Rc.zeroG];exact Rc.all_one Rc.zero
 have hu:=Tryz.underlying49
 have hrk0:∀ (W:World) b,W.heap[b]? = some (.cells (Rc.ofKind k).list.toArray 49 (0,0))->W.cell? ⟨b,0,none⟩=some (.int .i64 k):=λW b h=>by rw[Za h];rfl
 have hce:=Hd (XP H)
 generalize (Rc.ofKind k).list.toArray=RK at*
 have hZe:Hid (∀ v,Ending.returned (.tuple #[.agg Tryz.zeroCells49,v])=Ending.returned (.tuple #[.agg Rc.zero.list.toArray,v])):=Hd (λv=>by rw[Rc.zeroG])
 clear s78
 generalize nB (bs,false) 1=s1 at*
 obtain⟨q,hq⟩:∃ q,q=w.heap.size+1:=⟨_,rfl⟩
 obtain⟨B,hBd⟩:∃ B,B=w.heap.size:=⟨_,rfl⟩
 replace hw1:=Hd hw1
 replace hn0:=Hd hn0
 replace hr1:=Hd hr1
 replace hz1:=Hd hz1
 replace hb1:=Hd hb1
 replace H:=Hd H
 replace hrk0:=Hd hrk0
 clear hn hm haf ha hq1 hk
 replace hrest:=Hd hrest
 go_enter Tryz.func29,Tryz.ntmps29
 go_wp2_with fail
 rw[<-hw1.out]
 with_reducible refine(hn0.out _ hr1.out).mono ?_
 rintro e wa ⟨rfl,hra,hoa⟩
 have hza:=Hd (hoa.heap hz1.out oX)
 have hsa:=hoa.size
 have hOa:Only (λk=>k=w.heap.size+1) w1 wa:=hoa
 have hna:w.heap.size+1<wa.heap.size:=oX
 have hZp:=Hd (heap_alloc_new wa (.cells Tryz.zeroCells49 49))
 have hba:Below w.heap.size w wa:=hb1.out.trans (hoa.below oX (λk e=>by omega))
 replace hra:=Hd hra
 replace hba:=Hd hba
 clear hoa hOa
 go_wp2_with (first
  | ((with_reducible refine wL (.build 49 _) ?_);refine Z3 rfl 49 [(0,.tmp 14)] rfl [(0,.int .i64 k)] rfl _ (hbd.out _) ?_)
  | ((with_reducible refine wL (.store 49 (.tmp 5) _) ?_);(refine Zc rfl 49 (.tmp 5) (.tmp 15) rfl wa.heap.size _ RK rfl rfl hZp i8 z8 hVo ?_);intro w3 hU3;have hP3:=Hd hU3.out.here;have hb3:=Hd ((Below.alloc (Below.refl wa.heap.size wa) nR (.cells Tryz.zeroCells49 49)).trans (hU3.out.below nR));have hr3:=Hd (hra.out.only (D:=λ_=>False) (Only.ofBelow hb3.out) (λe=>e) (λk e=>e.elim));have hz3:=Hd ((hb3.out.block _ (Zb hza.out)).trans hza.out);have k0:=hrk0.out _ _ hP3.out;obtain⟨a3,c3,hq3,_⟩:=hr3.out;rw[hs] at hq3;have j1:=Za hq3 1;have hbw3:=Hd (hba.out.trans (hb3.out.mono hba.out.size));clear hq3))
 with_reducible refine(Z2 k 1 4 _).mono ?_
 rintro e w4 ⟨rfl,rfl⟩
 go_wp2_with fail
 with_reducible refine(hrest.out _ _ hP3.out hr3.out oX oX).mono ?_
 rintro e w5 ⟨v5,rfl,hP5,hr5,ho5⟩
 have hz5:=Hd (ho5.heap hz3.out oX)
 have hbw5:=Hd (hbw3.out.trans (ho5.below hbw3.out.size (λk e=>by omega)))
 obtain⟨a5,c5,hq5,_⟩:=hr5
 clear j1 k0
 rw[h2] at hq5
 have hlt:(0:Int)<(s2.1.length:Int):=oX
 generalize (s2.1.length:Nat)=L2 at*
 have j1:=Za hq5 1
 have j0:=Za hq5 0
 clear hq5 ho5
 replace hP5:=Hd hP5
 have hH5:=Hd (H.out.below hbw5.out)
 go_wp2_with fail
 have hd0:Hid (Below w.heap.size w w5.drew):=Hd (hbw5.out.drew)
 have hzd:Hid (w5.drew.heap[w.heap.size]? = some (.cells Tryz.zeroCells49 49 (0,0))):=Hd hz5.out
 have hcW:=λW h=>(hce.out W h).2.2
 have hraw:=True.intro
 have lkB:∀ W:World,Below w.heap.size w W->∀ (x:Operand) (v:Value),True->True->True->True:=λ_ _ _ _ _ _ _=>trivial
 clear hraw lkB
 refine wp_region_held_drew (S:=(Below w.heap.size w)) kX hd0.out (λhOn=>?_)
 generalize World.drew w5=wd at*
 refine tk 0 hOn ?_
 refine tk 1 hOn ?_
 refine rd 2 (λKz hKz=>?_)
 rw[if_pos (by rfl)]
 (with_reducible refine Zu 49 (.tmp 2) (.tmp 46) rfl w.heap.size _ Tryz.zeroCells49 rfl rfl hzd iZ rfl hZo ?_)
 intro w9 hU9
 have hS:=hOn.trans (hU9.out.below nR)
 have hres:=Hd hU9.out.here
 refine hKz.out _ _ hS ?_
 clear hKz Kz hOn hS
 intro hOn
 try simp only[Act.put]
 refine tk 3 hOn ?_
 refine dnE ?_
 all_goals
  go_wp2_with fail
  refine Zl rfl rfl hu rfl iZ hres.out ?_
  exact⟨_,hZe.out _,.inr (.inl ⟨3-1,dX,dX,rfl⟩),hOn⟩
theorem Lp(bs:List UInt8)(a:Option Addr)(c n:Nat)(w:World)(ea:Nat->Addr)(k:Int)(hk:nN (bs,false) 1=k)(y:Rc)(hy:y.Ok)(s2:List UInt8×Bool)(hs:(nB (bs,false) 1).2=false)(hi4:inB k 1 4=true)(hrest:∀ W pp,W.heap[pp]? = some (.cells (Rc.ofKind k).list.toArray 49 (0,0))->RdM W (w.heap.size+1) w.heap.size (nB (bs,false) 1).1 (nB (bs,false) 1).2->pp≠w.heap.size+1->w.heap.size<=pp->Calls Tryz.prog 65 #[.pointer (some ⟨w.heap.size+1,0,none⟩),.pointer (some ⟨pp,0,none⟩)] W λe w2=>e=.returned (.slice none 0 0)/\w2.heap[pp]? = some (.cells y.list.toArray 49 (0,0))/\RdM w2 (w.heap.size+1) w.heap.size s2.1 s2.2/\Only (λk=>k=pp\/k=w.heap.size+1) W w2)(h2:s2.2=false)(h3:s2.1.length=0)(hc:y.chk≠0)(ha:ArgB w a c bs)(hn:bs.length=n)(hm:n<=1000)(haf:∀ ad,a=some ad->∃ b o,ad=⟨b,o,none⟩/\b<w.heap.size)(H:Errs 298 errGs w ea) :
  Calls Tryz.prog 29 #[.slice a n c] w (UU ea y.chk w):=by
 obtain⟨w1,hw1⟩:∃ w1,w1=(w.alloc (.cells Tryz.zeroCells49 49)).alloc (.cells #[.slice a n c,.bool false] 140):=⟨_,rfl⟩
 have hb1:Below w.heap.size w w1:=by rw[hw1];exact(bR.alloc nR _).alloc sX _
 have hs1:w1.heap.size=w.heap.size+2:=by rw[hw1];simp
 have hz1:w1.heap[w.heap.size]? = some (.cells Tryz.zeroCells49 49 (0,0)):=by rw[hw1,Zz,if_neg sX,Zz,if_pos rfl]
 have hq1:w1.heap[w.heap.size+1]? = some (.cells #[.slice a n c,.bool false] 140 (0,0)):=by rw[hw1,Zz,if_pos sX]
 have hr1:RdM w1 (w.heap.size+1) w.heap.size (bs,false).1 (bs,false).2:=by
  refine⟨a,c,by rw[hn];exact hq1,ha.below hb1,λad e=>?_⟩
  obtain⟨b,o,h1,h2⟩:=haf ad e
  exact⟨b,o,h1,oX,h2⟩
 have hn0:∀ W,RdM W (w.heap.size+1) w.heap.size (bs,false).1 (bs,false).2->Calls Tryz.prog 63 #[.pointer (some ⟨w.heap.size+1,0,none⟩),.int .i64 1] W λe w2=>e=.returned (.int .i64 k)/\RdM w2 (w.heap.size+1) w.heap.size (nB (bs,false) 1).1 (nB (bs,false) 1).2/\Only (λk=>k=w.heap.size+1) W w2:=by
  intro W h
  have h:=Z9 (w.heap.size+1) w.heap.size (bs,false) 1 W h dX (by show bs.length<=1000000;omega)
  rw[hk] at h
  exact h
 have hbd:=Hd (QI k)
 have s78:(Rc.ofKind k).list.toArray.size=78:=by rw[List.size_toArray,Rc.len (x:=Rc.ofKind k) Zr Zr]
 have i8:(Tryz.prog.info? 49).map (·.size)=some (Rc.ofKind k).list.toArray.size:=by rw[s78];kernel_rfl
 have z8:(Tryz.zeroCells49).size=(Rc.ofKind k).list.toArray.size:=by rw[s78];kernel_rfl
 have hVo:=Rc.all_one (Rc.ofKind k)
 have iZ:(Tryz.prog.info? 49).map (·.size)=some (Tryz.zeroCells49).size:=kX
 have hZo:(Tryz.zeroCells49).all (·.oneCell')=true:=by rw[Rc.zeroG];exact Rc.all_one Rc.zero
 have hu:=Tryz.underlying49
 have hrk0:∀ (W:World) b,W.heap[b]? = some (.cells (Rc.ofKind k).list.toArray 49 (0,0))->W.cell? ⟨b,0,none⟩=some (.int .i64 k):=λW b h=>by rw[Za h];rfl
 have hce:=Hd (XP H)
 have iX:(Tryz.prog.info? 49).map (·.size)=some y.list.toArray.size:=by rw[Rc.size hy];kernel_rfl
 have hck:∀ W,Errs 298 errGs W ea->Calls Tryz.prog 39 #[.agg y.list.toArray] W (λe w2=>∃ v,e=.returned v/\ErrIs ea w2 v y.chk/\Below W.heap.size W w2):=λW h=>Vq y hy ea W h
 generalize y.chk=N at*
 generalize y.list.toArray=X at*
 replace hck:=Hd hck
 clear hy
 generalize (Rc.ofKind k).list.toArray=RK at*
 have hZe:Hid (∀ v,Ending.returned (.tuple #[.agg Tryz.zeroCells49,v])=Ending.returned (.tuple #[.agg Rc.zero.list.toArray,v])):=Hd (λv=>by rw[Rc.zeroG])
 clear s78
 generalize nB (bs,false) 1=s1 at*
 obtain⟨q,hq⟩:∃ q,q=w.heap.size+1:=⟨_,rfl⟩
 obtain⟨B,hBd⟩:∃ B,B=w.heap.size:=⟨_,rfl⟩
 replace hw1:=Hd hw1
 replace hn0:=Hd hn0
 replace hr1:=Hd hr1
 replace hz1:=Hd hz1
 replace hb1:=Hd hb1
 replace H:=Hd H
 replace hrk0:=Hd hrk0
 clear hn hm haf ha hq1 hk
 replace hrest:=Hd hrest
 go_enter Tryz.func29,Tryz.ntmps29
 go_wp2_with fail
 rw[<-hw1.out]
 with_reducible refine(hn0.out _ hr1.out).mono ?_
 rintro e wa ⟨rfl,hra,hoa⟩
 have hza:=Hd (hoa.heap hz1.out oX)
 have hsa:=hoa.size
 have hOa:Only (λk=>k=w.heap.size+1) w1 wa:=hoa
 have hna:w.heap.size+1<wa.heap.size:=oX
 have hZp:=Hd (heap_alloc_new wa (.cells Tryz.zeroCells49 49))
 have hba:Below w.heap.size w wa:=hb1.out.trans (hoa.below oX (λk e=>by omega))
 replace hra:=Hd hra
 replace hba:=Hd hba
 clear hoa hOa
 go_wp2_with (first
  | ((with_reducible refine wL (.build 49 _) ?_);refine Z3 rfl 49 [(0,.tmp 14)] rfl [(0,.int .i64 k)] rfl _ (hbd.out _) ?_)
  | ((with_reducible refine wL (.store 49 (.tmp 5) _) ?_);(refine Zc rfl 49 (.tmp 5) (.tmp 15) rfl wa.heap.size _ RK rfl rfl hZp i8 z8 hVo ?_);intro w3 hU3;have hP3:=Hd hU3.out.here;have hb3:=Hd ((Below.alloc (Below.refl wa.heap.size wa) nR (.cells Tryz.zeroCells49 49)).trans (hU3.out.below nR));have hr3:=Hd (hra.out.only (D:=λ_=>False) (Only.ofBelow hb3.out) (λe=>e) (λk e=>e.elim));have hz3:=Hd ((hb3.out.block _ (Zb hza.out)).trans hza.out);have k0:=hrk0.out _ _ hP3.out;obtain⟨a3,c3,hq3,_⟩:=hr3.out;rw[hs] at hq3;have j1:=Za hq3 1;have hbw3:=Hd (hba.out.trans (hb3.out.mono hba.out.size));clear hq3))
 with_reducible refine(Z2 k 1 4 _).mono ?_
 rintro e w4 ⟨rfl,rfl⟩
 go_wp2_with fail
 with_reducible refine(hrest.out _ _ hP3.out hr3.out oX oX).mono ?_
 rintro e w5 ⟨rfl,hP5,hr5,ho5⟩
 have hz5:=Hd (ho5.heap hz3.out oX)
 have hbw5:=Hd (hbw3.out.trans (ho5.below hbw3.out.size (λk e=>by omega)))
 obtain⟨a5,c5,hq5,_⟩:=hr5
 clear j1 k0
 rw[h2] at hq5
 rw[h3] at hq5
 have j1:=Za hq5 1
 have j0:=Za hq5 0
 clear hq5 ho5
 replace hP5:=Hd hP5
 have hH5:=Hd (H.out.below hbw5.out)
 go_wp2_with (with_reducible refine Zd rfl 49 (.tmp 5) rfl wa.heap.size X _ rfl hP5 hu rfl iX ?_)
 with_reducible refine(hck.out _ hH5.out).mono ?_
 rintro e w6 ⟨v6,rfl,hv6,hb6⟩
 have hz6:=Hd ((hb6.block _ (Zb hz5.out)).trans hz5.out)
 have hbw6:=Hd (hbw5.out.trans (hb6.mono hbw5.out.size))
 have hv6a:=Hd hv6
 have hq1:=hv6.neq
 have hq2:=hv6.guard
 have hnn:(N != 0)=true:=by simpa using hc
 rw[hnn] at hq1
 clear hb6 hv6 hnn
 go_wp2_with (first
  | ((with_reducible refine wL (.store 49 (.tmp 2) _) ?_);(refine Zc rfl 49 (.tmp 2) (.tmp 66) rfl w.heap.size _ Tryz.zeroCells49 rfl rfl hz6 iZ rfl hZo ?_);intro w10 hU10))
 refine Zl rfl rfl hu rfl iZ hU10.out.here ?_
 exact⟨v6,hZe.out v6,hv6a.out.upd hU10.out hz6.out dX,hbw6.out.trans (hU10.out.below nR)⟩
theorem WR(bs:List UInt8)(a:Option Addr)(c n:Nat)(w:World)(ea:Nat->Addr)(k:Int)(hk:nN (bs,false) 1=k)(y:Rc)(s2:List UInt8×Bool)(xs:List UInt8)(i:Nat)(hs:(nB (bs,false) 1).2=false)(hi4:inB k 1 4=true)(hrest:∀ W pp,W.heap[pp]? = some (.cells (Rc.ofKind k).list.toArray 49 (0,0))->RdM W (w.heap.size+1) w.heap.size (nB (bs,false) 1).1 (nB (bs,false) 1).2->pp≠w.heap.size+1->w.heap.size<=pp->Calls Tryz.prog 65 #[.pointer (some ⟨w.heap.size+1,0,none⟩),.pointer (some ⟨pp,0,none⟩)] W λe w2=>∃ g cc,e=.returned (.slice (some ⟨g,0,none⟩) 9 cc)/\ArgB w2 (some ⟨g,0,none⟩) cc xs/\w2.heap[pp]? = some (.cells y.list.toArray 49 (0,0))/\RdM w2 (w.heap.size+1) w.heap.size s2.1 s2.2/\Only (λk=>k=pp\/k=w.heap.size+1) W w2)(h2:s2.2=false)(h3:s2.1.length=0)(hpar:∀ W g cc,ArgB W (some ⟨g,0,none⟩) cc xs->Errs 298 errGs W ea->Calls Tryz.prog 66 #[.slice (some ⟨g,0,none⟩) 9 cc] W λe w2=>∃ v,e=.returned (.tuple #[.agg #[.int .i64 0,.int .i64 0,.int .i64 0,.int .i64 0,.int .i64 0,.int .i64 0],v])/\ErrIs ea w2 v (i+1)/\Below W.heap.size W w2)(ha:ArgB w a c bs)(hn:bs.length=n)(hm:n<=1000)(haf:∀ ad,a=some ad->∃ b o,ad=⟨b,o,none⟩/\b<w.heap.size)(H:Errs 298 errGs w ea) :
  Calls Tryz.prog 29 #[.slice a n c] w (UU ea (i+1) w):=by
 obtain⟨w1,hw1⟩:∃ w1,w1=(w.alloc (.cells Tryz.zeroCells49 49)).alloc (.cells #[.slice a n c,.bool false] 140):=⟨_,rfl⟩
 have hb1:Below w.heap.size w w1:=by rw[hw1];exact(bR.alloc nR _).alloc sX _
 have hs1:w1.heap.size=w.heap.size+2:=by rw[hw1];simp
 have hz1:w1.heap[w.heap.size]? = some (.cells Tryz.zeroCells49 49 (0,0)):=by rw[hw1,Zz,if_neg sX,Zz,if_pos rfl]
 have hq1:w1.heap[w.heap.size+1]? = some (.cells #[.slice a n c,.bool false] 140 (0,0)):=by rw[hw1,Zz,if_pos sX]
 have hr1:RdM w1 (w.heap.size+1) w.heap.size (bs,false).1 (bs,false).2:=by
  refine⟨a,c,by rw[hn];exact hq1,ha.below hb1,λad e=>?_⟩
  obtain⟨b,o,h1,h2⟩:=haf ad e
  exact⟨b,o,h1,oX,h2⟩
 have hn0:∀ W,RdM W (w.heap.size+1) w.heap.size (bs,false).1 (bs,false).2->Calls Tryz.prog 63 #[.pointer (some ⟨w.heap.size+1,0,none⟩),.int .i64 1] W λe w2=>e=.returned (.int .i64 k)/\RdM w2 (w.heap.size+1) w.heap.size (nB (bs,false) 1).1 (nB (bs,false) 1).2/\Only (λk=>k=w.heap.size+1) W w2:=by
  intro W h
  have h:=Z9 (w.heap.size+1) w.heap.size (bs,false) 1 W h dX (by show bs.length<=1000000;omega)
  rw[hk] at h
  exact h
 have hbd:=Hd (QI k)
 have s78:(Rc.ofKind k).list.toArray.size=78:=by rw[List.size_toArray,Rc.len (x:=Rc.ofKind k) Zr Zr]
 have i8:(Tryz.prog.info? 49).map (·.size)=some (Rc.ofKind k).list.toArray.size:=by rw[s78];kernel_rfl
 have z8:(Tryz.zeroCells49).size=(Rc.ofKind k).list.toArray.size:=by rw[s78];kernel_rfl
 have hVo:=Rc.all_one (Rc.ofKind k)
 have iZ:(Tryz.prog.info? 49).map (·.size)=some (Tryz.zeroCells49).size:=kX
 have hZo:(Tryz.zeroCells49).all (·.oneCell')=true:=by rw[Rc.zeroG];exact Rc.all_one Rc.zero
 have hu:=Tryz.underlying49
 have hrk0:∀ (W:World) b,W.heap[b]? = some (.cells (Rc.ofKind k).list.toArray 49 (0,0))->W.cell? ⟨b,0,none⟩=some (.int .i64 k):=λW b h=>by rw[Za h];rfl
 have hce:=Hd (XP H)
 obtain⟨PP,hPP⟩:∃ PP:Array Value,PP=#[.int .i64 0,.int .i64 0,.int .i64 0,.int .i64 0,.int .i64 0,.int .i64 0]:=⟨_,rfl⟩
 rw[<-hPP] at hpar
 have ip:(Tryz.prog.info? 45).map (·.size)=some PP.size:=by rw[hPP];kernel_rfl
 have zp:(#[.int .i64 0,.int .i64 0,.int .i64 0,.int .i64 0,.int .i64 0,.int .i64 0]:Array Value).size=PP.size:=by rw[hPP]
 have op:PP.all (·.oneCell')=true:=by rw[hPP];simp[Value.oneCell']
 clear hPP
 replace hpar:=Hd hpar
 generalize (Rc.ofKind k).list.toArray=RK at*
 have hZe:Hid (∀ v,Ending.returned (.tuple #[.agg Tryz.zeroCells49,v])=Ending.returned (.tuple #[.agg Rc.zero.list.toArray,v])):=Hd (λv=>by rw[Rc.zeroG])
 clear s78
 generalize nB (bs,false) 1=s1 at*
 obtain⟨q,hq⟩:∃ q,q=w.heap.size+1:=⟨_,rfl⟩
 obtain⟨B,hBd⟩:∃ B,B=w.heap.size:=⟨_,rfl⟩
 replace hw1:=Hd hw1
 replace hn0:=Hd hn0
 replace hr1:=Hd hr1
 replace hz1:=Hd hz1
 replace hb1:=Hd hb1
 replace H:=Hd H
 replace hrk0:=Hd hrk0
 clear hn hm haf ha hq1 hk
 replace hrest:=Hd hrest
 go_enter Tryz.func29,Tryz.ntmps29
 go_wp2_with fail
 rw[<-hw1.out]
 with_reducible refine(hn0.out _ hr1.out).mono ?_
 rintro e wa ⟨rfl,hra,hoa⟩
 have hza:=Hd (hoa.heap hz1.out oX)
 have hsa:=hoa.size
 have hOa:Only (λk=>k=w.heap.size+1) w1 wa:=hoa
 have hna:w.heap.size+1<wa.heap.size:=oX
 have hZp:=Hd (heap_alloc_new wa (.cells Tryz.zeroCells49 49))
 have hba:Below w.heap.size w wa:=hb1.out.trans (hoa.below oX (λk e=>by omega))
 replace hra:=Hd hra
 replace hba:=Hd hba
 clear hoa hOa
 go_wp2_with (first
  | ((with_reducible refine wL (.build 49 _) ?_);refine Z3 rfl 49 [(0,.tmp 14)] rfl [(0,.int .i64 k)] rfl _ (hbd.out _) ?_)
  | ((with_reducible refine wL (.store 49 (.tmp 5) _) ?_);(refine Zc rfl 49 (.tmp 5) (.tmp 15) rfl wa.heap.size _ RK rfl rfl hZp i8 z8 hVo ?_);intro w3 hU3;have hP3:=Hd hU3.out.here;have hb3:=Hd ((Below.alloc (Below.refl wa.heap.size wa) nR (.cells Tryz.zeroCells49 49)).trans (hU3.out.below nR));have hr3:=Hd (hra.out.only (D:=λ_=>False) (Only.ofBelow hb3.out) (λe=>e) (λk e=>e.elim));have hz3:=Hd ((hb3.out.block _ (Zb hza.out)).trans hza.out);have k0:=hrk0.out _ _ hP3.out;obtain⟨a3,c3,hq3,_⟩:=hr3.out;rw[hs] at hq3;have j1:=Za hq3 1;have hbw3:=Hd (hba.out.trans (hb3.out.mono hba.out.size));clear hq3))
 with_reducible refine(Z2 k 1 4 _).mono ?_
 rintro e w4 ⟨rfl,rfl⟩
 go_wp2_with fail
 with_reducible refine(hrest.out _ _ hP3.out hr3.out oX oX).mono ?_
 rintro e w5 ⟨gp,cp,rfl,hgp,hP5,hr5,ho5⟩
 have hz5:=Hd (ho5.heap hz3.out oX)
 have hbw5:=Hd (hbw3.out.trans (ho5.below hbw3.out.size (λk e=>by omega)))
 obtain⟨a5,c5,hq5,_⟩:=hr5
 clear j1 k0
 rw[h2] at hq5
 rw[h3] at hq5
 have j1:=Za hq5 1
 have j0:=Za hq5 0
 clear hq5 ho5
 replace hP5:=Hd hP5
 have hH5:=Hd (H.out.below hbw5.out)
 replace hgp:=Hd hgp
 have hnl:=λW=>@Lib.run_eql_slice_nil Tryz.prog W 24 5 (some ⟨gp,0,none⟩) 9 cp 0 0 Tryz.underlying24
 go_wp2_with fail
 with_reducible refine(hpar.out _ _ _ hgp.out hH5.out).mono ?_
 rintro e w6 ⟨v6,rfl,hv6,hb6⟩
 have hz6:=Hd ((hb6.block _ (Zb hz5.out)).trans hz5.out)
 have hbw6:=Hd (hbw5.out.trans (hb6.mono hbw5.out.size))
 have hv6a:=Hd hv6
 have hs6:w.heap.size<=w6.heap.size:=hbw6.out.size
 have hq1:=hv6.neq
 have hq2:=hv6.guard
 have hnn:((i+1) != 0)=true:=sX
 rw[hnn] at hq1
 clear hb6 j0 j1 hv6 hnn
 have hZ7:=Hd (heap_alloc_new w6 (.cells #[.int .i64 0,.int .i64 0,.int .i64 0,.int .i64 0,.int .i64 0,.int .i64 0] 45))
 go_wp2_with (first
  | ((with_reducible refine wL (.store 45 (.tmp 7) _) ?_);(refine Zc rfl 45 (.tmp 7) (.tmp 54) rfl w6.heap.size _ PP rfl rfl hZ7 ip zp op ?_);intro w8 hU8;have hb8:=Hd ((Below.alloc (Below.refl w6.heap.size w6) nR _).trans (hU8.out.below nR));have hz8:=Hd ((hb8.out.block _ (Zb hz6.out)).trans hz6.out);have hbw8:=Hd (hbw6.out.trans (hb8.out.mono hbw6.out.size));have hv8:=Hd (hv6a.out.below hb8.out))
  | ((with_reducible refine wL (.store 49 (.tmp 2) _) ?_);(refine Zc rfl 49 (.tmp 2) (.tmp 58) rfl w.heap.size _ Tryz.zeroCells49 rfl rfl hz8 iZ rfl hZo ?_);intro w10 hU10))
 refine Zl rfl rfl hu rfl iZ hU10.out.here ?_
 exact⟨v6,hZe.out v6,hv8.out.upd hU10.out hz8.out dX,hbw8.out.trans (hU10.out.below nR)⟩
theorem RN(bs:List UInt8)(a:Option Addr)(c n:Nat)(w:World)(ea:Nat->Addr)(k:Int)(hk:nN (bs,false) 1=k)(y:Rc)(hy:y.Ok)(y0:Rc)(hy0:y0.Ok)(hyp:y={ y0 with p:=y.p })(s2:List UInt8×Bool)(xs:List UInt8)(hs:(nB (bs,false) 1).2=false)(hi4:inB k 1 4=true)(hrest:∀ W pp,W.heap[pp]? = some (.cells (Rc.ofKind k).list.toArray 49 (0,0))->RdM W (w.heap.size+1) w.heap.size (nB (bs,false) 1).1 (nB (bs,false) 1).2->pp≠w.heap.size+1->w.heap.size<=pp->Calls Tryz.prog 65 #[.pointer (some ⟨w.heap.size+1,0,none⟩),.pointer (some ⟨pp,0,none⟩)] W λe w2=>∃ g cc,e=.returned (.slice (some ⟨g,0,none⟩) 9 cc)/\ArgB w2 (some ⟨g,0,none⟩) cc xs/\w2.heap[pp]? = some (.cells y0.list.toArray 49 (0,0))/\RdM w2 (w.heap.size+1) w.heap.size s2.1 s2.2/\Only (λk=>k=pp\/k=w.heap.size+1) W w2)(h2:s2.2=false)(h3:s2.1.length=0)(hpar:∀ W g cc,ArgB W (some ⟨g,0,none⟩) cc xs->Errs 298 errGs W ea->Calls Tryz.prog 66 #[.slice (some ⟨g,0,none⟩) 9 cc] W λe w2=>e=.returned (.tuple #[.agg y.p.list.toArray,.nilIface])/\Below W.heap.size W w2)(hc:y.chk≠0)(ha:ArgB w a c bs)(hn:bs.length=n)(hm:n<=1000)(haf:∀ ad,a=some ad->∃ b o,ad=⟨b,o,none⟩/\b<w.heap.size)(H:Errs 298 errGs w ea) :
  Calls Tryz.prog 29 #[.slice a n c] w (UU ea y.chk w):=by
 obtain⟨w1,hw1⟩:∃ w1,w1=(w.alloc (.cells Tryz.zeroCells49 49)).alloc (.cells #[.slice a n c,.bool false] 140):=⟨_,rfl⟩
 have hb1:Below w.heap.size w w1:=by rw[hw1];exact(bR.alloc nR _).alloc sX _
 have hs1:w1.heap.size=w.heap.size+2:=by rw[hw1];simp
 have hz1:w1.heap[w.heap.size]? = some (.cells Tryz.zeroCells49 49 (0,0)):=by rw[hw1,Zz,if_neg sX,Zz,if_pos rfl]
 have hq1:w1.heap[w.heap.size+1]? = some (.cells #[.slice a n c,.bool false] 140 (0,0)):=by rw[hw1,Zz,if_pos sX]
 have hr1:RdM w1 (w.heap.size+1) w.heap.size (bs,false).1 (bs,false).2:=by
  refine⟨a,c,by rw[hn];exact hq1,ha.below hb1,λad e=>?_⟩
  obtain⟨b,o,h1,h2⟩:=haf ad e
  exact⟨b,o,h1,oX,h2⟩
 have hn0:∀ W,RdM W (w.heap.size+1) w.heap.size (bs,false).1 (bs,false).2->Calls Tryz.prog 63 #[.pointer (some ⟨w.heap.size+1,0,none⟩),.int .i64 1] W λe w2=>e=.returned (.int .i64 k)/\RdM w2 (w.heap.size+1) w.heap.size (nB (bs,false) 1).1 (nB (bs,false) 1).2/\Only (λk=>k=w.heap.size+1) W w2:=by
  intro W h
  have h:=Z9 (w.heap.size+1) w.heap.size (bs,false) 1 W h dX (by show bs.length<=1000000;omega)
  rw[hk] at h
  exact h
 have hbd:=Hd (QI k)
 have s78:(Rc.ofKind k).list.toArray.size=78:=by rw[List.size_toArray,Rc.len (x:=Rc.ofKind k) Zr Zr]
 have i8:(Tryz.prog.info? 49).map (·.size)=some (Rc.ofKind k).list.toArray.size:=by rw[s78];kernel_rfl
 have z8:(Tryz.zeroCells49).size=(Rc.ofKind k).list.toArray.size:=by rw[s78];kernel_rfl
 have hVo:=Rc.all_one (Rc.ofKind k)
 have iZ:(Tryz.prog.info? 49).map (·.size)=some (Tryz.zeroCells49).size:=kX
 have hZo:(Tryz.zeroCells49).all (·.oneCell')=true:=by rw[Rc.zeroG];exact Rc.all_one Rc.zero
 have hu:=Tryz.underlying49
 have hrk0:∀ (W:World) b,W.heap[b]? = some (.cells (Rc.ofKind k).list.toArray 49 (0,0))->W.cell? ⟨b,0,none⟩=some (.int .i64 k):=λW b h=>by rw[Za h];rfl
 have hce:=Hd (XP H)
 have iX:(Tryz.prog.info? 49).map (·.size)=some y.list.toArray.size:=by rw[Rc.size hy];kernel_rfl
 have hck:∀ W,Errs 298 errGs W ea->Calls Tryz.prog 39 #[.agg y.list.toArray] W (λe w2=>∃ v,e=.returned v/\ErrIs ea w2 v y.chk/\Below W.heap.size W w2):=λW h=>Vq y hy ea W h
 have hpat:Qw y0.list.toArray 4 y.p.list.toArray.toList=y.list.toArray:=by rw[List.toList_toArray,Rc.patch_p,<-hyp]
 have hpsz:4+y.p.list.toArray.size<=y0.list.toArray.size:=by rw[List.size_toArray,List.size_toArray,Rc.len (x:=y0) hy0.root hy0.file,P6.len];decide
 have ip:(Tryz.prog.info? 45).map (·.size)=some y.p.list.toArray.size:=by rw[List.size_toArray,P6.len];kernel_rfl
 have zp:(#[.int .i64 0,.int .i64 0,.int .i64 0,.int .i64 0,.int .i64 0,.int .i64 0]:Array Value).size=y.p.list.toArray.size:=rfl
 have op:=JN (P6.one y.p)
 have hup:=Tryz.underlying45
 replace hpat:=Hd hpat
 generalize y.p.list.toArray=PP at*
 generalize hY0:y0.list.toArray=Y at*
 clear hY0 hyp hy0
 replace hpar:=Hd hpar
 generalize y.chk=N at*
 generalize y.list.toArray=X at*
 replace hck:=Hd hck
 clear hy
 generalize (Rc.ofKind k).list.toArray=RK at*
 have hZe:Hid (∀ v,Ending.returned (.tuple #[.agg Tryz.zeroCells49,v])=Ending.returned (.tuple #[.agg Rc.zero.list.toArray,v])):=Hd (λv=>by rw[Rc.zeroG])
 clear s78
 generalize nB (bs,false) 1=s1 at*
 obtain⟨q,hq⟩:∃ q,q=w.heap.size+1:=⟨_,rfl⟩
 obtain⟨B,hBd⟩:∃ B,B=w.heap.size:=⟨_,rfl⟩
 replace hw1:=Hd hw1
 replace hn0:=Hd hn0
 replace hr1:=Hd hr1
 replace hz1:=Hd hz1
 replace hb1:=Hd hb1
 replace H:=Hd H
 replace hrk0:=Hd hrk0
 clear hn hm haf ha hq1 hk
 replace hrest:=Hd hrest
 go_enter Tryz.func29,Tryz.ntmps29
 go_wp2_with fail
 rw[<-hw1.out]
 with_reducible refine(hn0.out _ hr1.out).mono ?_
 rintro e wa ⟨rfl,hra,hoa⟩
 have hza:=Hd (hoa.heap hz1.out oX)
 have hsa:=hoa.size
 have hOa:Only (λk=>k=w.heap.size+1) w1 wa:=hoa
 have hna:w.heap.size+1<wa.heap.size:=oX
 have hZp:=Hd (heap_alloc_new wa (.cells Tryz.zeroCells49 49))
 have hba:Below w.heap.size w wa:=hb1.out.trans (hoa.below oX (λk e=>by omega))
 replace hra:=Hd hra
 replace hba:=Hd hba
 clear hoa hOa
 go_wp2_with (first
  | ((with_reducible refine wL (.build 49 _) ?_);refine Z3 rfl 49 [(0,.tmp 14)] rfl [(0,.int .i64 k)] rfl _ (hbd.out _) ?_)
  | ((with_reducible refine wL (.store 49 (.tmp 5) _) ?_);(refine Zc rfl 49 (.tmp 5) (.tmp 15) rfl wa.heap.size _ RK rfl rfl hZp i8 z8 hVo ?_);intro w3 hU3;have hP3:=Hd hU3.out.here;have hb3:=Hd ((Below.alloc (Below.refl wa.heap.size wa) nR (.cells Tryz.zeroCells49 49)).trans (hU3.out.below nR));have hr3:=Hd (hra.out.only (D:=λ_=>False) (Only.ofBelow hb3.out) (λe=>e) (λk e=>e.elim));have hz3:=Hd ((hb3.out.block _ (Zb hza.out)).trans hza.out);have k0:=hrk0.out _ _ hP3.out;obtain⟨a3,c3,hq3,_⟩:=hr3.out;rw[hs] at hq3;have j1:=Za hq3 1;have hbw3:=Hd (hba.out.trans (hb3.out.mono hba.out.size));clear hq3))
 with_reducible refine(Z2 k 1 4 _).mono ?_
 rintro e w4 ⟨rfl,rfl⟩
 go_wp2_with fail
 with_reducible refine(hrest.out _ _ hP3.out hr3.out oX oX).mono ?_
 rintro e w5 ⟨gp,cp,rfl,hgp,hP5,hr5,ho5⟩
 have hz5:=Hd (ho5.heap hz3.out oX)
 have hbw5:=Hd (hbw3.out.trans (ho5.below hbw3.out.size (λk e=>by omega)))
 obtain⟨a5,c5,hq5,_⟩:=hr5
 clear j1 k0
 rw[h2] at hq5
 rw[h3] at hq5
 have j1:=Za hq5 1
 have j0:=Za hq5 0
 clear hq5 ho5
 replace hP5:=Hd hP5
 have hH5:=Hd (H.out.below hbw5.out)
 replace hgp:=Hd hgp
 have hnl:=λW=>@Lib.run_eql_slice_nil Tryz.prog W 24 5 (some ⟨gp,0,none⟩) 9 cp 0 0 Tryz.underlying24
 go_wp2_with fail
 with_reducible refine(hpar.out _ _ _ hgp.out hH5.out).mono ?_
 rintro e w7 ⟨rfl,hb7⟩
 have hP7:=Hd ((hb7.block _ (Zb hP5.out)).trans hP5.out)
 have hz7:=Hd ((hb7.block _ (Zb hz5.out)).trans hz5.out)
 have hbw7:=Hd (hbw5.out.trans (hb7.mono hbw5.out.size))
 have hs7:w.heap.size<=w7.heap.size:=hbw7.out.size
 clear hb7 j0 j1
 have hZ7:=Hd (heap_alloc_new w7 (.cells #[.int .i64 0,.int .i64 0,.int .i64 0,.int .i64 0,.int .i64 0,.int .i64 0] 45))
 go_wp2_with (first
  | ((with_reducible refine wL (.store 45 (.tmp 7) _) ?_);(refine Zc rfl 45 (.tmp 7) (.tmp 54) rfl w7.heap.size _ PP rfl rfl hZ7 ip zp op ?_);intro w8 hU8;have hb8:=Hd ((Below.alloc (Below.refl w7.heap.size w7) nR _).trans (hU8.out.below nR));have hP8:=Hd ((hb8.out.block _ (Zb hP7.out)).trans hP7.out);have hz8:=Hd ((hb8.out.block _ (Zb hz7.out)).trans hz7.out);have hbw8:=Hd (hbw7.out.trans (hb8.out.mono hbw7.out.size));have hp8:=Hd hU8.out.here)
  | ((with_reducible refine wL (.load 45 (.tmp 7)) ?_);refine Zd rfl 45 (.tmp 7) rfl w7.heap.size PP _ rfl hp8 hup rfl ip ?_)
  | ((with_reducible refine wL (.store 45 (.tmp 61) _) ?_);(refine ZZ rfl 45 49 (.tmp 61) (.tmp 60) rfl wa.heap.size 4 Y PP rfl rfl hP8 ip hpsz op ?_);intro w9 hU9;rw[hpat.out] at hU9;have hP9:=Hd hU9.out.here;have hz9:=Hd ((hU9.out.block _ oX).trans hz8.out);have hbw9:=Hd (hbw8.out.trans (hU9.out.below oX)))
  | (with_reducible refine Zd rfl 49 (.tmp 5) rfl wa.heap.size X _ rfl hP9 hu rfl iX ?_))
 with_reducible refine(hck.out _ (H.out.below hbw9.out)).mono ?_
 rintro e w6 ⟨v6,rfl,hv6,hb6⟩
 have hz6:=Hd ((hb6.block _ (Zb hz9.out)).trans hz9.out)
 have hbw6:=Hd (hbw9.out.trans (hb6.mono hbw9.out.size))
 have hv6a:=Hd hv6
 have hq1:=hv6.neq
 have hq2:=hv6.guard
 have hnn:(N != 0)=true:=by simpa using hc
 rw[hnn] at hq1
 clear hb6 hv6 hnn
 go_wp2_with (first
  | ((with_reducible refine wL (.store 49 (.tmp 2) _) ?_);(refine Zc rfl 49 (.tmp 2) (.tmp 66) rfl w.heap.size _ Tryz.zeroCells49 rfl rfl hz6 iZ rfl hZo ?_);intro w10 hU10))
 refine Zl rfl rfl hu rfl iZ hU10.out.here ?_
 exact⟨v6,hZe.out v6,hv6a.out.upd hU10.out hz6.out dX,hbw6.out.trans (hU10.out.below nR)⟩
end Go.Proofs.YtpdhceiodgnbmaaGreatDoor
