import Derived.Test.YtpdhceiodgnbmaaGreatDoorF0ReplaysSaid
import Derived.Test.YtpdhceiodgnbmaaGreatDoorF1ReplaysSaid
import Derived.Test.YtpdhceiodgnbmaaGreatDoorF30ReplaysSaid
import Derived.Test.YtpdhceiodgnbmaaGreatDoorF3ReplaysSaid
import Derived.Test.YtpdhceiodgnbmaaGreatDoorF31ReplaysSaid
set_option linter.unusedVariables false
set_option linter.unusedSimpArgs false
set_option linter.unnecessarySimpa false
set_option maxRecDepth 100000
set_option maxHeartbeats 8000000
namespace Go.Proofs.YtpdhceiodgnbmaaGreatDoor
open Go.RowKit
theorem VH{w:World}{b o c:Nat}{bs:List UInt8}(h:ArgB w (some ⟨b,o,none⟩) c bs)(i:Nat)(hi:i<bs.length):w.cell? ⟨b,o+i,none⟩=some (.int .u8 ((bs.getD i 0).toNat:Int)):=by
 obtain⟨b2,off,e,hc⟩:=h.row i hi
 cases e
 exact hc
theorem U0(x:Rc):(nB (x.out,false) 1).2=false:=by
 have h:¬x.out.length<1:=by
  unfold Rc.out Rc.head
  split
  ·simp
  ·split
   ·simp
   ·split<;>simp
 show YJ x.out false 1=false
 unfold YJ
 refine if_neg λhh=>?_
 rcases hh with hh|hh
 ·cases hh
 ·exact h hh
theorem Pk(p:P6)(h:Qb p.s p.n p.k p.d p.t p.r=none)(g cc:Nat)(w:World)(hA:ArgB w (some ⟨g,0,none⟩) cc (ZD p.s p.n p.k p.d p.t p.r))(ea:Nat->Addr)(H:Errs 298 Zq w ea) :
  Calls Tryz.prog 66 #[.slice (some ⟨g,0,none⟩) 9 cc] w λe w2=>e=.returned (.tuple #[.agg p.list.toArray,.nilIface])/\Below w.heap.size w w2:=by
 obtain⟨s,n,k,d,t,r⟩:=p
 obtain⟨hs,hn,hk,hd,ht,hr⟩:U1 s n k d t r:=V9 h
 replace hA:ArgB w (some ⟨g,0,none⟩) cc (ZD s n k d t r):=hA
 replace h:Qb s n k d t r=none:=h
 have hc:=VH hA
 have hl:(ZD s n k d t r).length=9:=rfl
 have v1:((b8 (s / 256)).toNat:Int)*256+(b8 s).toNat=s:=by rw[Q8 (s / 256) oX,Jy s];omega
 have v2:((b8 (d / 256)).toNat:Int)*256+(b8 d).toNat=d:=by rw[Q8 (d / 256) oX,Jy d];omega
 have v3:((b8 (t / 256)).toNat:Int)*256+(b8 t).toNat=t:=by rw[Q8 (t / 256) oX,Jy t];omega
 have v4:=Q8 n oX
 have v5:=Q8 k oX
 have v6:=Q8 r oX
 have hh:Qb (((b8 (s / 256)).toNat:Int)*256+(b8 s).toNat) ((b8 n).toNat:Int) ((b8 k).toNat:Int) (((b8 (d / 256)).toNat:Int)*256+(b8 d).toNat) (((b8 (t / 256)).toNat:Int)*256+(b8 t).toNat) ((b8 r).toNat:Int)=none:=by rw[v1,v2,v3,v4,v5,v6];exact h
 have hp:=UK g 0 cc (b8 (s / 256)) (b8 s) (b8 n) (b8 k) (b8 (d / 256)) (b8 d) (b8 (t / 256)) (b8 t) (b8 r) (by have:=hA.len;rw[hl] at this;exact this) w hh (pz ea) (Ub H) (hc 0 (by rw[hl];decide)) (hc 1 (by rw[hl];decide)) (hc 2 (by rw[hl];decide)) (hc 3 (by rw[hl];decide)) (hc 4 (by rw[hl];decide)) (hc 5 (by rw[hl];decide)) (hc 6 (by rw[hl];decide)) (hc 7 (by rw[hl];decide)) (hc 8 (by rw[hl];decide))
 rw[v1,v2,v3,v4,v5,v6] at hp
 exact hp
theorem Mb(W:World):(Instr.build 49 #[(0,.int .i64 1)]).run Tryz.prog W=.ok (.agg (Rc.ofKind 1).list.toArray) W:=by
 refine run_build W _ _ _ ?_
 kernel_rfl
theorem MJ(W:World):(Instr.build 49 #[(0,.int .i64 2)]).run Tryz.prog W=.ok (.agg (Rc.ofKind 2).list.toArray) W:=by
 refine run_build W _ _ _ ?_
 kernel_rfl
theorem Mf(W:World):(Instr.build 49 #[(0,.int .i64 3)]).run Tryz.prog W=.ok (.agg (Rc.ofKind 3).list.toArray) W:=by
 refine run_build W _ _ _ ?_
 kernel_rfl
theorem Mp(W:World):(Instr.build 49 #[(0,.int .i64 4)]).run Tryz.prog W=.ok (.agg (Rc.ofKind 4).list.toArray) W:=by
 refine run_build W _ _ _ ?_
 kernel_rfl
def Jl(x:Rc)(w:World)(e:Ending)(w':World):Prop:=e=.returned (.tuple #[.agg x.list.toArray,.nilIface])/\Below w.heap.size w w'
theorem MY(x:Rc)(hx:x.Ok)(hk:x.kind=4)(hc:x.chk=0)(a:Option Addr)(c:Nat)(n:Nat)(w:World)(ha:ArgB w a c x.out)(hn:x.out.length=n)(hm:n<=1000)(haf:∀ ad,a=some ad->∃ b o,ad=⟨b,o,none⟩/\b<w.heap.size)(ea:Nat->Addr)(H:Errs 298 Zq w ea) :
  Calls Tryz.prog 29 #[.slice a n c] w (Jl x w):=by
 have hbk:=D7 x hk hc
 obtain⟨w1,hw1⟩:∃ w1,w1=(w.alloc (.cells Tryz.zeroCells49 49)).alloc (.cells #[.slice a n c,.bool false] 140):=⟨_,rfl⟩
 have hb1:Below w.heap.size w w1:=by rw[hw1];exact(bR.alloc nR _).alloc sX _
 have hs1:w1.heap.size=w.heap.size+2:=by rw[hw1];simp
 have hz1:w1.heap[w.heap.size]? = some (.cells Tryz.zeroCells49 49 (0,0)):=by rw[hw1,Zk,if_neg sX,Zk,if_pos rfl]
 have hq1:w1.heap[w.heap.size+1]? = some (.cells #[.slice a n c,.bool false] 140 (0,0)):=by rw[hw1,Zk,if_pos sX]
 have hr1:RdM w1 (w.heap.size+1) w.heap.size (x.out,false).1 (x.out,false).2:=by
  refine⟨a,c,by rw[hn];exact hq1,ha.below hb1,λad e=>?_⟩
  obtain⟨b,o,h1,h2⟩:=haf ad e
  exact⟨b,o,h1,oX,h2⟩
 have hn0:∀ W,RdM W (w.heap.size+1) w.heap.size (x.out,false).1 (x.out,false).2->Calls Tryz.prog 63 #[.pointer (some ⟨w.heap.size+1,0,none⟩),.int .i64 1] W λe w2=>e=.returned (.int .i64 4)/\RdM w2 (w.heap.size+1) w.heap.size (nB (x.out,false) 1).1 (nB (x.out,false) 1).2/\Only (λk=>k=w.heap.size+1) W w2:=by
  intro W h
  have h:=Z7 (w.heap.size+1) w.heap.size (x.out,false) 1 W h dX (by show x.out.length<=1000000;omega)
  rw[hbk.1] at h
  exact h
 have hsf:=U0 x
 have hml:(nB (x.out,false) 1).1.length<=1000000:=Nat.le_trans (Qz _ _) (by show x.out.length<=1000000;omega)
 have hrest:∀ W pp,W.heap[pp]? = some (.cells (Rc.ofKind 4).list.toArray 49 (0,0))->RdM W (w.heap.size+1) w.heap.size (nB (x.out,false) 1).1 (nB (x.out,false) 1).2->pp≠w.heap.size+1->w.heap.size<=pp->Calls Tryz.prog 65 #[.pointer (some ⟨w.heap.size+1,0,none⟩),.pointer (some ⟨pp,0,none⟩)] W λe w2=>e=.returned (.slice none 0 0)/\w2.heap[pp]? = some (.cells x.list.toArray 49 (0,0))/\RdM w2 (w.heap.size+1) w.heap.size [] false/\Only (λk=>k=pp\/k=w.heap.size+1) W w2:=λW pp h1 h2 h3 h4=>by
  have h:=Hl pp (w.heap.size+1) w.heap.size (Rc.ofKind 4) (nB (x.out,false) 1) W Zh Zh rfl h1 h2 h3 h4 hml
  rw[hbk.2.1,hbk.2.2] at h
  exact h
 have hck:=Hd (λW h=>Ue x hx hc ea W h)
 have hbd:=Hd Mp
 have s78:(Rc.ofKind 4).list.toArray.size=78:=by rw[List.size_toArray,Rc.len (x:=Rc.ofKind 4) Zh Zh]
 have i8:(Tryz.prog.info? 49).map (·.size)=some (Rc.ofKind 4).list.toArray.size:=by rw[s78];kernel_rfl
 have z8:(Tryz.zeroCells49).size=(Rc.ofKind 4).list.toArray.size:=by rw[s78];kernel_rfl
 have hVo:=Rc.all_one (Rc.ofKind 4)
 have iX:(Tryz.prog.info? 49).map (·.size)=some x.list.toArray.size:=by rw[Rc.size hx];kernel_rfl
 have zX:(Tryz.zeroCells49).size=x.list.toArray.size:=by rw[Rc.size hx];kernel_rfl
 have hXo:=Rc.all_one x
 have hu:=Tryz.underlying49
 have hrk0:∀ (W:World) b,W.heap[b]? = some (.cells (Rc.ofKind 4).list.toArray 49 (0,0))->W.cell? ⟨b,0,none⟩=some (.int .i64 4):=λW b h=>by rw[Za h];rfl
 generalize (Rc.ofKind 4).list.toArray=RK at*
 have hpost:∀ W,Below w.heap.size w W->Jl x w (.returned (.tuple #[.agg x.list.toArray,.nilIface])) W:=λW h=>⟨rfl,h⟩
 generalize hX:x.list.toArray=X at*
 generalize nB (x.out,false) 1=s1 at*
 obtain⟨q,hq⟩:∃ q,q=w.heap.size+1:=⟨_,rfl⟩
 obtain⟨B,hBd⟩:∃ B,B=w.heap.size:=⟨_,rfl⟩
 replace hw1:=Hd hw1
 replace hn0:=Hd hn0
 replace hrest:=Hd hrest
 replace hr1:=Hd hr1
 replace hz1:=Hd hz1
 replace hb1:=Hd hb1
 replace H:=Hd H
 replace hpost:=Hd hpost
 replace hrk0:=Hd hrk0
 clear hbk hn hm haf ha hq1 hml hX hc hk hx
 go_enter Tryz.func29,Tryz.ntmps29
 go_wp2_with fail
 rw[<-hw1.out]
 with_reducible refine(hn0.out _ hr1.out).mono ?_
 rintro e wa ⟨rfl,hra,hoa⟩
 have hza:=Hd (hoa.heap hz1.out oX)
 have hsa:=hoa.size
 have hOa:Only (λk=>k=w.heap.size+1) w1 wa:=hoa
 have hna:w.heap.size+1<wa.heap.size:=oX
 have hZp:=Hd (heap_alloc_new wa (.cells Tryz.zeroCells49 49))
 have hba:Below w.heap.size w wa:=hb1.out.trans (hoa.below oX (λk e=>by omega))
 replace hra:=Hd hra
 replace hba:=Hd hba
 clear hoa hOa
 go_wp2_with (first
  | ((with_reducible refine wL (.build 49 _) ?_);refine Zm rfl 49 [(0,.tmp 14)] rfl [(0,.int .i64 4)] rfl _ (hbd.out _) ?_)
  | ((with_reducible refine wL (.store 49 (.tmp 5) _) ?_);(refine Zc rfl 49 (.tmp 5) (.tmp 15) rfl wa.heap.size _ RK rfl rfl hZp i8 z8 hVo ?_);intro w3 hU3;have hP3:=Hd hU3.out.here;have hb3:=Hd ((Below.alloc (Below.refl wa.heap.size wa) nR (.cells Tryz.zeroCells49 49)).trans (hU3.out.below nR));have hr3:=Hd (hra.out.only (D:=λ_=>False) (Only.ofBelow hb3.out) (λe=>e) (λk e=>e.elim));have hz3:=Hd ((hb3.out.block _ (Zb hza.out)).trans hza.out);have k0:=hrk0.out _ _ hP3.out;obtain⟨a3,c3,hq3,_⟩:=hr3.out;rw[hsf] at hq3;have j1:=Za hq3 1;have hbw3:=Hd (hba.out.trans (hb3.out.mono hba.out.size));clear hq3))
 with_reducible refine(Z2 4 1 4 _).mono ?_
 rintro e w4 ⟨rfl,rfl⟩
 have hi4:inB 4 1 4=true:=dX
 go_wp2_with fail
 with_reducible refine(hrest.out _ _ hP3.out hr3.out oX oX).mono ?_
 rintro e w5 ⟨rfl,hP5,hr5,ho5⟩
 have hz5:=Hd (ho5.heap hz3.out oX)
 have hbw5:=Hd (hbw3.out.trans (ho5.below hbw3.out.size (λk e=>by omega)))
 obtain⟨a5,c5,hq5,_⟩:=hr5
 clear j1 k0
 have j1:=Za hq5 1
 have j0:=Za hq5 0
 clear hq5 ho5
 replace hP5:=Hd hP5
 have hH5:=Hd (H.out.below hbw5.out)
 go_wp2_with (with_reducible refine Ze rfl 49 (.tmp 5) rfl wa.heap.size X _ rfl hP5 hu rfl iX ?_)
 with_reducible refine(hck.out _ hH5.out).mono ?_
 rintro e w6 ⟨rfl,hb6⟩
 have hP6:=Hd ((hb6.block _ (Zb hP5.out)).trans hP5.out)
 have hz6:=Hd ((hb6.block _ (Zb hz5.out)).trans hz5.out)
 have hbw6:=Hd (hbw5.out.trans (hb6.mono hbw5.out.size))
 clear hb6 j0 j1
 go_wp2_with (first
  | (with_reducible refine Ze rfl 49 (.tmp 5) rfl wa.heap.size X _ rfl hP6 hu rfl iX ?_)
  | ((with_reducible refine wL (.store 49 (.tmp 2) _) ?_);(refine Zc rfl 49 (.tmp 2) (.tmp 68) rfl w.heap.size _ X rfl rfl hz6 iX zX hXo ?_);intro w10 hU10))
 exact Zf rfl rfl hu rfl iX hU10.out.here (hpost.out _ (hbw6.out.trans (hU10.out.below nR)))
theorem NS(x:Rc)(hx:x.Ok)(hk:x.kind=3)(hc:x.chk=0)(a:Option Addr)(c:Nat)(n:Nat)(w:World)(ha:ArgB w a c x.out)(hn:x.out.length=n)(hm:n<=1000)(haf:∀ ad,a=some ad->∃ b o,ad=⟨b,o,none⟩/\b<w.heap.size)(ea:Nat->Addr)(H:Errs 298 Zq w ea) :
  Calls Tryz.prog 29 #[.slice a n c] w (Jl x w):=by
 have hbk:=D1 x hk hc
 obtain⟨w1,hw1⟩:∃ w1,w1=(w.alloc (.cells Tryz.zeroCells49 49)).alloc (.cells #[.slice a n c,.bool false] 140):=⟨_,rfl⟩
 have hb1:Below w.heap.size w w1:=by rw[hw1];exact(bR.alloc nR _).alloc sX _
 have hs1:w1.heap.size=w.heap.size+2:=by rw[hw1];simp
 have hz1:w1.heap[w.heap.size]? = some (.cells Tryz.zeroCells49 49 (0,0)):=by rw[hw1,Zk,if_neg sX,Zk,if_pos rfl]
 have hq1:w1.heap[w.heap.size+1]? = some (.cells #[.slice a n c,.bool false] 140 (0,0)):=by rw[hw1,Zk,if_pos sX]
 have hr1:RdM w1 (w.heap.size+1) w.heap.size (x.out,false).1 (x.out,false).2:=by
  refine⟨a,c,by rw[hn];exact hq1,ha.below hb1,λad e=>?_⟩
  obtain⟨b,o,h1,h2⟩:=haf ad e
  exact⟨b,o,h1,oX,h2⟩
 have hn0:∀ W,RdM W (w.heap.size+1) w.heap.size (x.out,false).1 (x.out,false).2->Calls Tryz.prog 63 #[.pointer (some ⟨w.heap.size+1,0,none⟩),.int .i64 1] W λe w2=>e=.returned (.int .i64 3)/\RdM w2 (w.heap.size+1) w.heap.size (nB (x.out,false) 1).1 (nB (x.out,false) 1).2/\Only (λk=>k=w.heap.size+1) W w2:=by
  intro W h
  have h:=Z7 (w.heap.size+1) w.heap.size (x.out,false) 1 W h dX (by show x.out.length<=1000000;omega)
  rw[hbk.1] at h
  exact h
 have hsf:=U0 x
 have hml:(nB (x.out,false) 1).1.length<=1000000:=Nat.le_trans (Qz _ _) (by show x.out.length<=1000000;omega)
 have hrest:∀ W pp,W.heap[pp]? = some (.cells (Rc.ofKind 3).list.toArray 49 (0,0))->RdM W (w.heap.size+1) w.heap.size (nB (x.out,false) 1).1 (nB (x.out,false) 1).2->pp≠w.heap.size+1->w.heap.size<=pp->Calls Tryz.prog 65 #[.pointer (some ⟨w.heap.size+1,0,none⟩),.pointer (some ⟨pp,0,none⟩)] W λe w2=>e=.returned (.slice none 0 0)/\w2.heap[pp]? = some (.cells x.list.toArray 49 (0,0))/\RdM w2 (w.heap.size+1) w.heap.size [] false/\Only (λk=>k=pp\/k=w.heap.size+1) W w2:=λW pp h1 h2 h3 h4=>by
  have h:=Hn pp (w.heap.size+1) w.heap.size (Rc.ofKind 3) (nB (x.out,false) 1) W Zh Zh rfl h1 h2 h3 h4 hml
  rw[hbk.2.1,hbk.2.2] at h
  exact h
 have hck:=Hd (λW h=>Ue x hx hc ea W h)
 have hbd:=Hd Mf
 have s78:(Rc.ofKind 3).list.toArray.size=78:=by rw[List.size_toArray,Rc.len (x:=Rc.ofKind 3) Zh Zh]
 have i8:(Tryz.prog.info? 49).map (·.size)=some (Rc.ofKind 3).list.toArray.size:=by rw[s78];kernel_rfl
 have z8:(Tryz.zeroCells49).size=(Rc.ofKind 3).list.toArray.size:=by rw[s78];kernel_rfl
 have hVo:=Rc.all_one (Rc.ofKind 3)
 have iX:(Tryz.prog.info? 49).map (·.size)=some x.list.toArray.size:=by rw[Rc.size hx];kernel_rfl
 have zX:(Tryz.zeroCells49).size=x.list.toArray.size:=by rw[Rc.size hx];kernel_rfl
 have hXo:=Rc.all_one x
 have hu:=Tryz.underlying49
 have hrk0:∀ (W:World) b,W.heap[b]? = some (.cells (Rc.ofKind 3).list.toArray 49 (0,0))->W.cell? ⟨b,0,none⟩=some (.int .i64 3):=λW b h=>by rw[Za h];rfl
 generalize (Rc.ofKind 3).list.toArray=RK at*
 have hpost:∀ W,Below w.heap.size w W->Jl x w (.returned (.tuple #[.agg x.list.toArray,.nilIface])) W:=λW h=>⟨rfl,h⟩
 generalize hX:x.list.toArray=X at*
 generalize nB (x.out,false) 1=s1 at*
 obtain⟨q,hq⟩:∃ q,q=w.heap.size+1:=⟨_,rfl⟩
 obtain⟨B,hBd⟩:∃ B,B=w.heap.size:=⟨_,rfl⟩
 replace hw1:=Hd hw1
 replace hn0:=Hd hn0
 replace hrest:=Hd hrest
 replace hr1:=Hd hr1
 replace hz1:=Hd hz1
 replace hb1:=Hd hb1
 replace H:=Hd H
 replace hpost:=Hd hpost
 replace hrk0:=Hd hrk0
 clear hbk hn hm haf ha hq1 hml hX hc hk hx
 go_enter Tryz.func29,Tryz.ntmps29
 go_wp2_with fail
 rw[<-hw1.out]
 with_reducible refine(hn0.out _ hr1.out).mono ?_
 rintro e wa ⟨rfl,hra,hoa⟩
 have hza:=Hd (hoa.heap hz1.out oX)
 have hsa:=hoa.size
 have hOa:Only (λk=>k=w.heap.size+1) w1 wa:=hoa
 have hna:w.heap.size+1<wa.heap.size:=oX
 have hZp:=Hd (heap_alloc_new wa (.cells Tryz.zeroCells49 49))
 have hba:Below w.heap.size w wa:=hb1.out.trans (hoa.below oX (λk e=>by omega))
 replace hra:=Hd hra
 replace hba:=Hd hba
 clear hoa hOa
 go_wp2_with (first
  | ((with_reducible refine wL (.build 49 _) ?_);refine Zm rfl 49 [(0,.tmp 14)] rfl [(0,.int .i64 3)] rfl _ (hbd.out _) ?_)
  | ((with_reducible refine wL (.store 49 (.tmp 5) _) ?_);(refine Zc rfl 49 (.tmp 5) (.tmp 15) rfl wa.heap.size _ RK rfl rfl hZp i8 z8 hVo ?_);intro w3 hU3;have hP3:=Hd hU3.out.here;have hb3:=Hd ((Below.alloc (Below.refl wa.heap.size wa) nR (.cells Tryz.zeroCells49 49)).trans (hU3.out.below nR));have hr3:=Hd (hra.out.only (D:=λ_=>False) (Only.ofBelow hb3.out) (λe=>e) (λk e=>e.elim));have hz3:=Hd ((hb3.out.block _ (Zb hza.out)).trans hza.out);have k0:=hrk0.out _ _ hP3.out;obtain⟨a3,c3,hq3,_⟩:=hr3.out;rw[hsf] at hq3;have j1:=Za hq3 1;have hbw3:=Hd (hba.out.trans (hb3.out.mono hba.out.size));clear hq3))
 with_reducible refine(Z2 3 1 4 _).mono ?_
 rintro e w4 ⟨rfl,rfl⟩
 have hi4:inB 3 1 4=true:=dX
 go_wp2_with fail
 with_reducible refine(hrest.out _ _ hP3.out hr3.out oX oX).mono ?_
 rintro e w5 ⟨rfl,hP5,hr5,ho5⟩
 have hz5:=Hd (ho5.heap hz3.out oX)
 have hbw5:=Hd (hbw3.out.trans (ho5.below hbw3.out.size (λk e=>by omega)))
 obtain⟨a5,c5,hq5,_⟩:=hr5
 clear j1 k0
 have j1:=Za hq5 1
 have j0:=Za hq5 0
 clear hq5 ho5
 replace hP5:=Hd hP5
 have hH5:=Hd (H.out.below hbw5.out)
 go_wp2_with (with_reducible refine Ze rfl 49 (.tmp 5) rfl wa.heap.size X _ rfl hP5 hu rfl iX ?_)
 with_reducible refine(hck.out _ hH5.out).mono ?_
 rintro e w6 ⟨rfl,hb6⟩
 have hP6:=Hd ((hb6.block _ (Zb hP5.out)).trans hP5.out)
 have hz6:=Hd ((hb6.block _ (Zb hz5.out)).trans hz5.out)
 have hbw6:=Hd (hbw5.out.trans (hb6.mono hbw5.out.size))
 clear hb6 j0 j1
 go_wp2_with (first
  | (with_reducible refine Ze rfl 49 (.tmp 5) rfl wa.heap.size X _ rfl hP6 hu rfl iX ?_)
  | ((with_reducible refine wL (.store 49 (.tmp 2) _) ?_);(refine Zc rfl 49 (.tmp 2) (.tmp 68) rfl w.heap.size _ X rfl rfl hz6 iX zX hXo ?_);intro w10 hU10))
 exact Zf rfl rfl hu rfl iX hU10.out.here (hpost.out _ (hbw6.out.trans (hU10.out.below nR)))
theorem Mc(x:Rc)(hx:x.Ok)(hk:x.kind=2)(hc:x.chk=0)(a:Option Addr)(c:Nat)(n:Nat)(w:World)(ha:ArgB w a c x.out)(hn:x.out.length=n)(hm:n<=1000)(haf:∀ ad,a=some ad->∃ b o,ad=⟨b,o,none⟩/\b<w.heap.size)(ea:Nat->Addr)(H:Errs 298 Zq w ea) :
  Calls Tryz.prog 29 #[.slice a n c] w (Jl x w):=by
 have hbk:=Dw x hk hc
 obtain⟨w1,hw1⟩:∃ w1,w1=(w.alloc (.cells Tryz.zeroCells49 49)).alloc (.cells #[.slice a n c,.bool false] 140):=⟨_,rfl⟩
 have hb1:Below w.heap.size w w1:=by rw[hw1];exact(bR.alloc nR _).alloc sX _
 have hs1:w1.heap.size=w.heap.size+2:=by rw[hw1];simp
 have hz1:w1.heap[w.heap.size]? = some (.cells Tryz.zeroCells49 49 (0,0)):=by rw[hw1,Zk,if_neg sX,Zk,if_pos rfl]
 have hq1:w1.heap[w.heap.size+1]? = some (.cells #[.slice a n c,.bool false] 140 (0,0)):=by rw[hw1,Zk,if_pos sX]
 have hr1:RdM w1 (w.heap.size+1) w.heap.size (x.out,false).1 (x.out,false).2:=by
  refine⟨a,c,by rw[hn];exact hq1,ha.below hb1,λad e=>?_⟩
  obtain⟨b,o,h1,h2⟩:=haf ad e
  exact⟨b,o,h1,oX,h2⟩
 have hn0:∀ W,RdM W (w.heap.size+1) w.heap.size (x.out,false).1 (x.out,false).2->Calls Tryz.prog 63 #[.pointer (some ⟨w.heap.size+1,0,none⟩),.int .i64 1] W λe w2=>e=.returned (.int .i64 2)/\RdM w2 (w.heap.size+1) w.heap.size (nB (x.out,false) 1).1 (nB (x.out,false) 1).2/\Only (λk=>k=w.heap.size+1) W w2:=by
  intro W h
  have h:=Z7 (w.heap.size+1) w.heap.size (x.out,false) 1 W h dX (by show x.out.length<=1000000;omega)
  rw[hbk.1] at h
  exact h
 have hsf:=U0 x
 have hml:(nB (x.out,false) 1).1.length<=1000000:=Nat.le_trans (Qz _ _) (by show x.out.length<=1000000;omega)
 have hrest:∀ W pp,W.heap[pp]? = some (.cells (Rc.ofKind 2).list.toArray 49 (0,0))->RdM W (w.heap.size+1) w.heap.size (nB (x.out,false) 1).1 (nB (x.out,false) 1).2->pp≠w.heap.size+1->w.heap.size<=pp->Calls Tryz.prog 65 #[.pointer (some ⟨w.heap.size+1,0,none⟩),.pointer (some ⟨pp,0,none⟩)] W λe w2=>e=.returned (.slice none 0 0)/\w2.heap[pp]? = some (.cells x.list.toArray 49 (0,0))/\RdM w2 (w.heap.size+1) w.heap.size [] false/\Only (λk=>k=pp\/k=w.heap.size+1) W w2:=λW pp h1 h2 h3 h4=>by
  have h:=Hx pp (w.heap.size+1) w.heap.size (Rc.ofKind 2) (nB (x.out,false) 1) W Zh Zh rfl h1 h2 h3 h4 hml
  rw[hbk.2.1,hbk.2.2] at h
  exact h
 have hck:=Hd (λW h=>Ue x hx hc ea W h)
 have hbd:=Hd MJ
 have s78:(Rc.ofKind 2).list.toArray.size=78:=by rw[List.size_toArray,Rc.len (x:=Rc.ofKind 2) Zh Zh]
 have i8:(Tryz.prog.info? 49).map (·.size)=some (Rc.ofKind 2).list.toArray.size:=by rw[s78];kernel_rfl
 have z8:(Tryz.zeroCells49).size=(Rc.ofKind 2).list.toArray.size:=by rw[s78];kernel_rfl
 have hVo:=Rc.all_one (Rc.ofKind 2)
 have iX:(Tryz.prog.info? 49).map (·.size)=some x.list.toArray.size:=by rw[Rc.size hx];kernel_rfl
 have zX:(Tryz.zeroCells49).size=x.list.toArray.size:=by rw[Rc.size hx];kernel_rfl
 have hXo:=Rc.all_one x
 have hu:=Tryz.underlying49
 have hrk0:∀ (W:World) b,W.heap[b]? = some (.cells (Rc.ofKind 2).list.toArray 49 (0,0))->W.cell? ⟨b,0,none⟩=some (.int .i64 2):=λW b h=>by rw[Za h];rfl
 generalize (Rc.ofKind 2).list.toArray=RK at*
 have hpost:∀ W,Below w.heap.size w W->Jl x w (.returned (.tuple #[.agg x.list.toArray,.nilIface])) W:=λW h=>⟨rfl,h⟩
 generalize hX:x.list.toArray=X at*
 generalize nB (x.out,false) 1=s1 at*
 obtain⟨q,hq⟩:∃ q,q=w.heap.size+1:=⟨_,rfl⟩
 obtain⟨B,hBd⟩:∃ B,B=w.heap.size:=⟨_,rfl⟩
 replace hw1:=Hd hw1
 replace hn0:=Hd hn0
 replace hrest:=Hd hrest
 replace hr1:=Hd hr1
 replace hz1:=Hd hz1
 replace hb1:=Hd hb1
 replace H:=Hd H
 replace hpost:=Hd hpost
 replace hrk0:=Hd hrk0
 clear hbk hn hm haf ha hq1 hml hX hc hk hx
 go_enter Tryz.func29,Tryz.ntmps29
 go_wp2_with fail
 rw[<-hw1.out]
 with_reducible refine(hn0.out _ hr1.out).mono ?_
 rintro e wa ⟨rfl,hra,hoa⟩
 have hza:=Hd (hoa.heap hz1.out oX)
 have hsa:=hoa.size
 have hOa:Only (λk=>k=w.heap.size+1) w1 wa:=hoa
 have hna:w.heap.size+1<wa.heap.size:=oX
 have hZp:=Hd (heap_alloc_new wa (.cells Tryz.zeroCells49 49))
 have hba:Below w.heap.size w wa:=hb1.out.trans (hoa.below oX (λk e=>by omega))
 replace hra:=Hd hra
 replace hba:=Hd hba
 clear hoa hOa
 go_wp2_with (first
  | ((with_reducible refine wL (.build 49 _) ?_);refine Zm rfl 49 [(0,.tmp 14)] rfl [(0,.int .i64 2)] rfl _ (hbd.out _) ?_)
  | ((with_reducible refine wL (.store 49 (.tmp 5) _) ?_);(refine Zc rfl 49 (.tmp 5) (.tmp 15) rfl wa.heap.size _ RK rfl rfl hZp i8 z8 hVo ?_);intro w3 hU3;have hP3:=Hd hU3.out.here;have hb3:=Hd ((Below.alloc (Below.refl wa.heap.size wa) nR (.cells Tryz.zeroCells49 49)).trans (hU3.out.below nR));have hr3:=Hd (hra.out.only (D:=λ_=>False) (Only.ofBelow hb3.out) (λe=>e) (λk e=>e.elim));have hz3:=Hd ((hb3.out.block _ (Zb hza.out)).trans hza.out);have k0:=hrk0.out _ _ hP3.out;obtain⟨a3,c3,hq3,_⟩:=hr3.out;rw[hsf] at hq3;have j1:=Za hq3 1;have hbw3:=Hd (hba.out.trans (hb3.out.mono hba.out.size));clear hq3))
 with_reducible refine(Z2 2 1 4 _).mono ?_
 rintro e w4 ⟨rfl,rfl⟩
 have hi4:inB 2 1 4=true:=dX
 go_wp2_with fail
 with_reducible refine(hrest.out _ _ hP3.out hr3.out oX oX).mono ?_
 rintro e w5 ⟨rfl,hP5,hr5,ho5⟩
 have hz5:=Hd (ho5.heap hz3.out oX)
 have hbw5:=Hd (hbw3.out.trans (ho5.below hbw3.out.size (λk e=>by omega)))
 obtain⟨a5,c5,hq5,_⟩:=hr5
 clear j1 k0
 have j1:=Za hq5 1
 have j0:=Za hq5 0
 clear hq5 ho5
 replace hP5:=Hd hP5
 have hH5:=Hd (H.out.below hbw5.out)
 go_wp2_with (with_reducible refine Ze rfl 49 (.tmp 5) rfl wa.heap.size X _ rfl hP5 hu rfl iX ?_)
 with_reducible refine(hck.out _ hH5.out).mono ?_
 rintro e w6 ⟨rfl,hb6⟩
 have hP6:=Hd ((hb6.block _ (Zb hP5.out)).trans hP5.out)
 have hz6:=Hd ((hb6.block _ (Zb hz5.out)).trans hz5.out)
 have hbw6:=Hd (hbw5.out.trans (hb6.mono hbw5.out.size))
 clear hb6 j0 j1
 go_wp2_with (first
  | (with_reducible refine Ze rfl 49 (.tmp 5) rfl wa.heap.size X _ rfl hP6 hu rfl iX ?_)
  | ((with_reducible refine wL (.store 49 (.tmp 2) _) ?_);(refine Zc rfl 49 (.tmp 2) (.tmp 68) rfl w.heap.size _ X rfl rfl hz6 iX zX hXo ?_);intro w10 hU10))
 exact Zf rfl rfl hu rfl iX hU10.out.here (hpost.out _ (hbw6.out.trans (hU10.out.below nR)))
end Go.Proofs.YtpdhceiodgnbmaaGreatDoor
