import Derived.Test.YtpdhceiodgnbmaaGreatDoorF0Safe21Said
import Derived.Test.YtpdhceiodgnbmaaGreatDoorF1Safe21Said
import Derived.Test.YtpdhceiodgnbmaaGreatDoorF27Safe21Said
import Derived.Test.YtpdhceiodgnbmaaGreatDoorF20Safe21Said
import Derived.Test.YtpdhceiodgnbmaaGreatDoorF29Safe21Said
import Derived.Test.YtpdhceiodgnbmaaGreatDoorF2Safe21Said
import Derived.Test.YtpdhceiodgnbmaaGreatDoorF16Safe21Said
import Derived.Barred
import Derived.Test.YtpdhceiodgnbmaaGreatDoorF22Safe21Said
import Derived.Test.YtpdhceiodgnbmaaGreatDoorF24Safe21Said
set_option linter.unusedVariables false
set_option linter.unusedSimpArgs false
set_option linter.unnecessarySimpa false
set_option maxRecDepth 100000
set_option maxHeartbeats 8000000
namespace Go.Proofs.YtpdhceiodgnbmaaGreatDoor
open Go.RowKit
def RdE(w:World)(q:Nat)(sh:Bool):Prop:=∃ a c,w.heap[q]? = some (.cells #[.slice a 0 c,.bool sh] 140 (0,0))
theorem RdE.only{w w':World}{q:Nat}{sh:Bool}{D:Nat->Prop}(h:RdE w q sh)(hO:Only D w w')(hq:¬D q):RdE w' q sh:=by
 obtain⟨a,c,h1⟩:=h
 exact⟨a,c,hO.heap h1 hq⟩
def DN(w:World)(q:Nat)(e:Ending)(w':World):Prop:=∃ a c,e=.returned (.slice a 1 c)/\ArgB w' a c [0]/\RdE w' q true/\Only (λk=>k=q) w w'
theorem Ds(q:Nat)(w:World)(h:RdE w q false):Calls Tryz.prog 103 #[.pointer (some ⟨q,0,none⟩),.int .i64 1] w (DN w q):=by
 obtain⟨i0,hi,hz0,hz1,hz2⟩:=info_parts Tryz.infoByteP
 obtain⟨a,c,hq⟩:=h
 have c0:=Za hq 0
 have c1:=Za hq 1
 have f1:=Zj hq 1
 have hlt:=Zb hq
 obtain⟨w2,hw2⟩:∃ w2,w2=w.setCell ⟨q,1,none⟩ (.bool true):=⟨_,rfl⟩
 have hU:=(Upd.refl hq).setCell (j:=1) (.bool true)
 rw[<-hw2] at hU
 replace hw2:=Hd hw2
 replace hU:=Hd hU
 replace hq:=Hd hq
 have hpost:∀ w4,OwnB w.heap.size w4 (.slice (some ⟨w2.heap.size,0,none⟩) 1 1) (List.replicate 1 0)->Only (λk=>k=q) w w4->w4.heap[q]? = some (.cells #[.slice a 0 c,.bool true] 140 (0,0))->DN w q (.returned (.slice (some ⟨w2.heap.size,0,none⟩) 1 1)) w4:=λw4 h1 h2 h3=>by
  obtain⟨a4,c4,e4,h4,_⟩:=h1.arg
  rw[List.length_replicate] at e4
  cases e4
  exact⟨_,_,rfl,h4,⟨a,c,h3⟩,h2⟩
 replace hpost:=Hd hpost
 go_enter Tryz.func103,Tryz.ntmps103
 go_wp2_with (at_make;rw[<-hw2.out];go_must (refine wpList_make_full _ rfl _ _ 24 rfl w.heap.size 5 i0 (.int .u8 0) 1 Tryz.underlying24 hi hz0 hz1 _ _ _ _ 1 rfl rfl oX oX (by rw[hz2];omega) c6X (by have:=hU.out.size;omega) ?_))
 intro w4 hown4 hg4
 have hO4:=OwnB.made hown4
 rw[Ut] at hO4
 have h4:=(hg4.block q (by have:=hU.out.size;omega) sX).trans hU.out.here
 have hOn:Only (λk=>k=q) w w4:=(Only.ofUpd (D:=λk=>k=q) hU.out rfl).trans (Only.ofGrown (D:=λ_=>False) hg4 (λk e=>by cases e)) (λ_ _ e=>e.elim)
 replace hO4:=Hd hO4
 replace h4:=Hd h4
 replace hOn:=Hd hOn
 clear hown4 hg4
 go_wp2_with fail
 go_ret
 exact hpost.out w4 hO4.out hOn.out h4.out
def BX(w:World)(q:Nat)(e:Ending)(w':World):Prop:=e=.returned (.int .i64 0)/\RdE w' q true/\Only (λk=>k=q) w w'
theorem Rf(q:Nat)(w:World)(h:RdE w q false):Calls Tryz.prog 63 #[.pointer (some ⟨q,0,none⟩),.int .i64 1] w (BX w q):=by
 have htk:=Hd (Ds q w h)
 clear h
 go_enter Tryz.func63,Tryz.ntmps63
 go_wp2_with fail
 with_reducible refine htk.out.mono ?_
 rintro e w2 ⟨a,c,rfl,ha,hrd,hO⟩
 obtain⟨g,off,e0,hc⟩:=ha.row 0 dX
 subst e0
 replace hc:w2.cell? ⟨g,off,none⟩=some (.int .u8 0):=hc
 have hfin:=Hd (show BX w q (.returned (.int .i64 0)) w2 from⟨rfl,hrd,hO⟩)
 have hor:bits .or .i64 (0:Int) 0=0:=dX
 clear hrd hO htk ha
 go_wp2_with fail
 refine wp_loop_rounds 2 ?_
 rw[rounds_succ]
 go_wp2_with fail
 rw[rounds_succ]
 go_wp2_with fail
 go_ret
 exact hfin.out
theorem WE(a:Option Addr)(c:Nat)(w:World)(ea:Nat->Addr)(H:Errs 298 errGs w ea) :
  Calls Tryz.prog 29 #[.slice a 0 c] w (UU ea 2 w):=by
 obtain⟨w1,hw1⟩:∃ w1,w1=(w.alloc (.cells Tryz.zeroCells49 49)).alloc (.cells #[.slice a 0 c,.bool false] 140):=⟨_,rfl⟩
 have hb1:Below w.heap.size w w1:=by rw[hw1];exact(bR.alloc nR _).alloc sX _
 have hs1:w1.heap.size=w.heap.size+2:=by rw[hw1];simp
 have hz1:w1.heap[w.heap.size]? = some (.cells Tryz.zeroCells49 49 (0,0)):=by rw[hw1,Zz,if_neg sX,Zz,if_pos rfl]
 have hq1:w1.heap[w.heap.size+1]? = some (.cells #[.slice a 0 c,.bool false] 140 (0,0)):=by rw[hw1,Zz,if_pos sX]
 have hr1:RdE w1 (w.heap.size+1) false:=⟨a,c,hq1⟩
 obtain⟨k,hk⟩:∃ k:Int,k=0:=⟨_,rfl⟩
 have hn0:∀ W,RdE W (w.heap.size+1) false->Calls Tryz.prog 63 #[.pointer (some ⟨w.heap.size+1,0,none⟩),.int .i64 1] W λe w2=>e=.returned (.int .i64 k)/\RdE w2 (w.heap.size+1) true/\Only (λk=>k=w.heap.size+1) W w2:=λW h=>by
  rw[hk]
  exact Rf (w.heap.size+1) W h
 have hbd:=Hd (QI k)
 have s78:(Rc.ofKind k).list.toArray.size=78:=by rw[List.size_toArray,Rc.len (x:=Rc.ofKind k) Zr Zr]
 have i8:(Tryz.prog.info? 49).map (·.size)=some (Rc.ofKind k).list.toArray.size:=by rw[s78];kernel_rfl
 have z8:(Tryz.zeroCells49).size=(Rc.ofKind k).list.toArray.size:=by rw[s78];kernel_rfl
 have hVo:=Rc.all_one (Rc.ofKind k)
 have iZ:(Tryz.prog.info? 49).map (·.size)=some (Tryz.zeroCells49).size:=kX
 have hZo:(Tryz.zeroCells49).all (·.oneCell')=true:=by rw[Rc.zeroG];exact Rc.all_one Rc.zero
 have hu:=Tryz.underlying49
 have hrk0:∀ (W:World) b,W.heap[b]? = some (.cells (Rc.ofKind k).list.toArray 49 (0,0))->W.cell? ⟨b,0,none⟩=some (.int .i64 k):=λW b h=>by rw[Za h];rfl
 have hce:=Hd (XP H)
 generalize (Rc.ofKind k).list.toArray=RK at*
 have hZe:Hid (∀ v,Ending.returned (.tuple #[.agg Tryz.zeroCells49,v])=Ending.returned (.tuple #[.agg Rc.zero.list.toArray,v])):=Hd (λv=>by rw[Rc.zeroG])
 clear s78
 obtain⟨q,hq⟩:∃ q,q=w.heap.size+1:=⟨_,rfl⟩
 obtain⟨B,hBd⟩:∃ B,B=w.heap.size:=⟨_,rfl⟩
 replace hw1:=Hd hw1
 replace hn0:=Hd hn0
 replace hr1:=Hd hr1
 replace hz1:=Hd hz1
 replace hb1:=Hd hb1
 replace H:=Hd H
 replace hrk0:=Hd hrk0
 clear hq1 hk
 go_enter Tryz.func29,Tryz.ntmps29
 go_wp2_with fail
 rw[<-hw1.out]
 with_reducible refine(hn0.out _ hr1.out).mono ?_
 rintro e wa ⟨rfl,hra,hoa⟩
 have hza:=Hd (hoa.heap hz1.out oX)
 have hsa:=hoa.size
 have hOa:Only (λk=>k=w.heap.size+1) w1 wa:=hoa
 have hna:w.heap.size+1<wa.heap.size:=oX
 have hZp:=Hd (heap_alloc_new wa (.cells Tryz.zeroCells49 49))
 have hba:Below w.heap.size w wa:=hb1.out.trans (hoa.below oX (λk e=>by omega))
 replace hra:=Hd hra
 replace hba:=Hd hba
 clear hoa hOa
 go_wp2_with (first
  | ((with_reducible refine wL (.build 49 _) ?_);refine Z3 rfl 49 [(0,.tmp 14)] rfl [(0,.int .i64 k)] rfl _ (hbd.out _) ?_)
  | ((with_reducible refine wL (.store 49 (.tmp 5) _) ?_);(refine Zc rfl 49 (.tmp 5) (.tmp 15) rfl wa.heap.size _ RK rfl rfl hZp i8 z8 hVo ?_);intro w3 hU3;have hP3:=Hd hU3.out.here;have hb3:=Hd ((Below.alloc (Below.refl wa.heap.size wa) nR (.cells Tryz.zeroCells49 49)).trans (hU3.out.below nR));have hr3:=Hd (hra.out.only (D:=λ_=>False) (Only.ofBelow hb3.out) (λe=>e));have hz3:=Hd ((hb3.out.block _ (Zb hza.out)).trans hza.out);have k0:=hrk0.out _ _ hP3.out;obtain⟨a3,c3,hq3⟩:=hr3.out;have j1:=Za hq3 1;have hbw3:=Hd (hba.out.trans (hb3.out.mono hba.out.size));clear hq3))
 have hd0:Hid (Below w.heap.size w w3.drew):=Hd (hbw3.out.drew)
 have hzd:Hid (w3.drew.heap[w.heap.size]? = some (.cells Tryz.zeroCells49 49 (0,0))):=Hd hz3.out
 have hcW:=λW h=>(hce.out W h).2.1
 have hraw:=True.intro
 have lkB:∀ W:World,Below w.heap.size w W->∀ (x:Operand) (v:Value),True->True->True->True:=λ_ _ _ _ _ _ _=>trivial
 clear hraw lkB
 refine wp_region_held_drew (S:=(Below w.heap.size w)) kX hd0.out (λhOn=>?_)
 generalize World.drew w3=wd at*
 refine tk 0 hOn ?_
 refine tk 1 hOn ?_
 refine rd 2 (λKz hKz=>?_)
 rw[if_pos (by rfl)]
 (with_reducible refine Zu 49 (.tmp 2) (.tmp 21) rfl w.heap.size _ Tryz.zeroCells49 rfl rfl hzd iZ rfl hZo ?_)
 intro w9 hU9
 have hS:=hOn.trans (hU9.out.below nR)
 have hres:=Hd hU9.out.here
 refine hKz.out _ _ hS ?_
 clear hKz Kz hOn hS
 intro hOn
 try simp only[Act.put]
 refine tk 3 hOn ?_
 refine dnE ?_
 all_goals
  go_wp2_with fail
  refine Zl rfl rfl hu rfl iZ hres.out ?_
  exact⟨_,hZe.out _,.inr (.inl ⟨2-1,dX,dX,rfl⟩),hOn⟩
noncomputable def prs(bs:List UInt8):Rc×Nat:=if bs.length=0 then (Rc.zero,2) else if h:bs.length<=500 then ((Vh bs h).choose,(Vh bs h).choose_spec.choose) else (Rc.zero,0)
theorem MS{bs:List UInt8}(h:bs.length<=500):(prs bs).1.Ok/\((prs bs).2=0->(prs bs).1.chk=0/\(prs bs).1.out=bs)/\(prs bs).2<=20/\
 (∀ (a:Option Addr) (c:Nat) (w:World) (ea:Nat->Addr),ArgB w a c bs->Errs 298 errGs w ea->
  Calls Tryz.prog 29 #[.slice a bs.length c] w λe w2=>∃ v,e=.returned (.tuple #[.agg (prs bs).1.list.toArray,v])/\ErrIs ea w2 v (prs bs).2/\Below w.heap.size w w2):=by
 by_cases h0:bs.length=0
 ·have e:prs bs=(Rc.zero,2):=by unfold prs;rw[if_pos h0]
  rw[e]
  have e2:bs=[]:=List.length_eq_zero_iff.1 h0
  subst e2
  exact⟨Rc.zero_ok,(λh=>by cases h),dX,λa c w ea ha H=>WE a c w ea H⟩
 ·have e:prs bs=((Vh bs h).choose,(Vh bs h).choose_spec.choose):=by unfold prs;rw[if_neg h0,dif_pos h]
  rw[e]
  obtain⟨q1,q2,q3,q4⟩:=(Vh bs h).choose_spec.choose_spec
  refine⟨q1,q2,q3,λa c w ea ha H=>q4 a c w ea ha (λad e=>?_) H⟩
  obtain⟨b,o,e2,hc⟩:=ha.row 0 oX
  rw[e2] at e
  cases e
  exact⟨b,o,rfl,World.block_lt_of_cell? w _ hc⟩
noncomputable def Y7(m:St)(bs:List UInt8):St×Nat:=if (prs bs).2≠0 then (⟨[],[]⟩,(prs bs).2) else if (Zi m (prs bs).1).2≠0 then (⟨[],[]⟩,(Zi m (prs bs).1).2) else Zi m (prs bs).1
noncomputable def Z5:St->List (List UInt8)->St×Nat
 | m,[]=>(m,0)
 | m,b::bs=>if (Y7 m b).2≠0 then (⟨[],[]⟩,(Y7 m b).2) else Z5 (Y7 m b).1 bs
theorem YF(m:St)(b:List UInt8)(bs:List (List UInt8)):Z5 m (b::bs)=if (Y7 m b).2≠0 then (⟨[],[]⟩,(Y7 m b).2) else Z5 (Y7 m b).1 bs:=rfl
theorem Kf:∀ (l:List (List UInt8)) (m0:St) (k:Nat),k<=l.length->(Z5 m0 (l.take k)).2=0->Z5 m0 l=Z5 (Z5 m0 (l.take k)).1 (l.drop k)
 | _,_,0,_,_=>rfl
 | [],_,k+1,h,_=>absurd h sX
 | b::bs,m0,k+1,h,h0=>by
  rw[List.take_succ_cons,YF] at h0
  rw[List.take_succ_cons,List.drop_succ_cons,YF,YF]
  by_cases hb:(Y7 m0 b).2≠0
  ·rw[if_pos hb] at h0;exact absurd h0 hb
  ·rw[if_neg hb] at h0
   rw[if_neg hb,if_neg hb]
   exact Kf bs _ k (by simpa using h) h0
theorem To(m:St)(l:List (List UInt8))(b:List UInt8)(h:(Z5 m l).2=0):Z5 m (l++[b])=if (Y7 (Z5 m l).1 b).2≠0 then (⟨[],[]⟩,(Y7 (Z5 m l).1 b).2) else ((Y7 (Z5 m l).1 b).1,0):=by
 have:=Kf (l++[b]) m l.length sX (by simpa using h)
 rw[List.take_left,List.drop_left] at this
 rw[this,YF]
 rfl
structure SB (k:Nat) (m:St):Prop where
 its:m.its.length<=4
 ens:m.ens.length<=k
 us:∀ y∈m.its,y.u<=(k:Int)/\y.r<=(k:Int)
theorem SB.mono{k k':Nat}{m:St}(h:SB k m)(hk:k<=k'):SB k' m:=⟨h.its,Nat.le_trans h.ens hk,λy hy=>by have:=h.us y hy;omega⟩
theorem Qu(k:Nat):SB k ⟨[],[]⟩:=⟨Nat.zero_le _,Nat.zero_le _,λy hy=>absurd hy List.not_mem_nil⟩
theorem SB.get{k:Nat}{m:St}(h:SB k m)(i:Nat)(hi:i<m.its.length):(m.its.getD i default).u<=(k:Int)/\(m.its.getD i default).r<=(k:Int):=by
 rw[List.getD_eq_getElem?_getD,List.getElem?_eq_getElem hi,Option.getD_some]
 exact h.us _ (List.getElem_mem hi)
theorem N5{k:Nat}{m:St}(h:SB k m)(x:Rc):SB (k+1) (Zi m x).1:=by
 unfold Zi
 split
 ·exact Qu _
 split
 ·unfold YP
  split
  ·exact Qu _
  split
  ·exact Qu _
  split
  ·exact Qu _
  refine⟨?_,Nat.le_succ_of_le h.ens,λy hy=>?_⟩
  ·simp only[List.length_append,List.length_singleton];omega
  ·rcases List.mem_append.1 hy with hy|hy
   ·have:=h.us y hy;omega
   ·rw[List.mem_singleton.1 hy]
    show (0:Int)<=_/\(0:Int)<=_
    omega
 split
 ·unfold YZ
  split
  ·exact Qu _
  next hi=>
  split
  ·exact Qu _
  split
  ·exact Qu _
  split
  ·exact Qu _
  have hg:=h.get x.obj.toNat oX
  refine⟨by rw[List.length_set];exact h.its,?_,λy hy=>?_⟩
  ·simp only[List.length_append,List.length_singleton];have:=h.ens;omega
  ·rcases List.mem_or_eq_of_mem_set hy with hy|hy
   ·have:=h.us y hy;omega
   ·rw[hy]
    unfold JA
    split
    ·exact⟨by show _+1<=_;omega,by show (m.its.getD x.obj.toNat default).r<=_;omega⟩
    ·exact⟨by show (m.its.getD x.obj.toNat default).u<=_;omega,by show _+1<=_;omega⟩
 split
 ·unfold Vx
  split
  ·exact Qu _
  next hi=>
  split
  ·exact Qu _
  have hg:=h.get x.obj.toNat oX
  refine⟨by rw[List.length_set];exact h.its,Nat.le_succ_of_le h.ens,λy hy=>?_⟩
  rcases List.mem_or_eq_of_mem_set hy with hy|hy
  ·have:=h.us y hy;omega
  ·rw[hy]
   exact⟨by show (m.its.getD x.obj.toNat default).u<=_;omega,by show (m.its.getD x.obj.toNat default).r<=_;omega⟩
 ·unfold YR
  split
  ·exact Qu _
  split
  ·exact Qu _
  split
  ·exact Qu _
  exact⟨h.its,by rw[List.length_set];exact Nat.le_succ_of_le h.ens,λy hy=>by have:=h.us y hy;omega⟩
theorem BA{k:Nat}{m:St}(h:SB k m)(b:List UInt8):SB (k+1) (Y7 m b).1:=by
 unfold Y7
 split
 ·exact Qu _
 split
 ·exact Qu _
 ·exact N5 h _
theorem UO:∀ (l:List (List UInt8)) (k:Nat) (m:St),SB k m->SB (k+l.length) (Z5 m l).1
 | [],k,m,h=>h
 | b::bs,k,m,h=>by
  rw[YF]
  split
  ·exact Qu _
  ·have:=UO bs (k+1) _ (BA h b)
   rwa [show k+1+bs.length=k+(b::bs).length by simp;omega] at this
theorem W6{P:Program}{f:FuncId}{args:Array Value}{w:World}{R1 R2:Value->World->Prop}(h1:Calls P f args w λe w'=>∃ v,e=.returned v/\R1 v w')(h2:Calls P f args w λe w'=>∃ v,e=.returned v/\R2 v w')(hi:P.inits.idxOf? f=none):∃ v w1 w2,R1 v w1/\R2 v w2:=by
 obtain⟨n1,v1,w1,e1,r1⟩:=Calls.done (R:=R1) (h1.mono (by rintro e w' ⟨v,rfl,h⟩;exact h)) hi
 obtain⟨n2,v2,w2,e2,r2⟩:=Calls.done (R:=R2) (h2.mono (by rintro e w' ⟨v,rfl,h⟩;exact h)) hi
 have:=runN_same_end e1 e2
 cases this
 exact⟨_,w1,w2,r1,r2⟩
theorem Tz{x y:Rc}(hx:x.Ok)(hy:y.Ok)(h:x.list=y.list)(w:World):x=y:=by
 have h1:=(Nq x y hx hy w).2
 have h2:=(Nq x x hx hx w).2
 rw[<-h,h2] at h1
 simpa using h1
theorem Kr(x:Rc)(hx:x.Ok)(hc:x.chk=0):1<=x.out.length/\x.out.length<=400:=by
 have hl:x.kind=1->x.name.size<=12:=λh=>Gh ((Rc.chk0 hc).2.2.2 h).1
 have hb:(ZF x.p.s x.p.n x.p.k x.p.d x.p.t x.p.r).length=9:=rfl
 unfold Rc.out Rc.head
 split
 ·next h=>
  have:=hl h
  simp[Zm,hx.root,hx.file,hb]
  omega
 ·split
  ·simp[Zm]
  ·split<;>simp[Zm]
theorem Bo(x:Rc)(hx:x.Ok)(hc:x.chk=0)(w:World)(ea:Nat->Addr)(H:Errs 298 errGs w ea):prs x.out=(x,0):=by
 obtain⟨l1,l4⟩:=Kr x hx hc
 have hB:Below w.heap.size w (w.alloc (.cells (cB x.out).toArray 5)):=bR.alloc nR _
 have hA:=L1 w 5 x.out _ rfl oX
 obtain⟨p1,_,_,p4⟩:=MS (bs:=x.out) oX
 have c1:=p4 _ _ _ ea hA (H.below hB)
 have c2:=J7 x hx hc _ _ _ _ hA rfl oX (λad e=>by cases e;exact⟨_,_,rfl,sX⟩) ea (H.below hB)
 obtain⟨v,w1,w2,r1,r2⟩:=W6 (R1:=λv w2=>∃ u,v=.tuple #[.agg (prs x.out).1.list.toArray,u]/\ErrIs ea w2 u (prs x.out).2) (R2:=λv w2=>v=.tuple #[.agg x.list.toArray,.nilIface]) (c1.mono (by rintro e w' ⟨u,rfl,h,_⟩;exact⟨_,rfl,u,rfl,h⟩)) (c2.mono (by rintro e w' ⟨rfl,_⟩;exact⟨_,rfl,rfl⟩)) kX
 obtain⟨u,e1,e2⟩:=r1
 rw[r2] at e1
 simp only[Value.tuple.injEq,Array.mk.injEq,List.cons.injEq,and_true,Value.agg.injEq] at e1
 obtain⟨e3,rfl⟩:=e1
 have h0:(prs x.out).2=0:=by
  rcases e2 with ⟨h,_⟩|⟨i,_,_,h⟩|⟨i,_,_,_,_,_,h,_⟩
  ·exact h
  ·cases h
  ·cases h
 have hxy:x=(prs x.out).1:=Tz hx p1 (by simpa using e3) w
 exact Prod.ext hxy.symm h0
def XW:St->List Rc->Prop
 | _,[]=>True
 | m,x::xs=>x.Ok/\(Zi m x).2=0/\XW (Zi m x).1 xs
def Qx:St->List Rc->St
 | m,[]=>m
 | m,x::xs=>Qx (Zi m x).1 xs
theorem XG{m:St}{x:Rc}(h:(Zi m x).2=0):x.chk=0:=by
 by_cases hc:x.chk=0
 ·exact hc
 ·unfold Zi at h
  rw[if_pos hc] at h
  exact absurd h hc
theorem Jo:∀ (xs:List Rc) (m:St) (x:Rc),XW m xs->x.Ok->(Zi (Qx m xs) x).2=0->XW m (xs++[x])
 | [],_,_,_,hx,h=>⟨hx,h,trivial⟩
 | y::ys,m,x,h,hx,h2=>⟨h.1,h.2.1,Jo ys _ x h.2.2 hx h2⟩
theorem Jt:∀ (xs:List Rc) (m:St) (x:Rc),Qx m (xs++[x])=(Zi (Qx m xs) x).1
 | [],_,_=>rfl
 | y::ys,m,x=>Jt ys _ x
theorem JG(w:World)(ea:Nat->Addr)(H:Errs 298 errGs w ea):∀ (xs:List Rc) (m:St),XW m xs->Z5 m (xs.map Rc.out)=(Qx m xs,0)
 | [],m,_=>rfl
 | x::xs,m,h=>by
  have hc:=XG h.2.1
  have hs:Y7 m x.out=((Zi m x).1,0):=by
   unfold Y7
   rw[Bo x h.1 hc w ea H]
   simp only[ne_eq,not_true_eq_false,if_false]
   rw[if_neg (by rw[h.2.1];simp)]
   exact Prod.ext rfl h.2.1
  rw[List.map_cons,YF,hs]
  simp only[ne_eq,not_true_eq_false,if_false]
  exact JG w ea H xs _ h.2.2
theorem UC:∀ (xs:List Rc) (m:St) (k:Nat),SB k m->SB (k+xs.length) (Qx m xs)
 | [],m,k,h=>h
 | x::xs,m,k,h=>by
  have:=UC xs _ (k+1) (N5 h x)
  rwa [show k+1+xs.length=k+(x::xs).length by simp;omega] at this
def QN:Nat->List (List UInt8)->List (List UInt8)->List (List UInt8)
 | _,ps,[]=>ps
 | n,ps,b::bs=>QN (n+1) (Qc n ps b) bs
theorem JV:∀ (bs:List (List UInt8)) (n:Nat) (ps:List (List UInt8)) (b:List UInt8),QN n ps (bs++[b])=Qc (n+bs.length) (QN n ps bs) b
 | [],n,ps,b=>rfl
 | c::bs,n,ps,b=>by
  rw[List.cons_append,QN,QN,JV bs (n+1),List.length_cons,show n+1+bs.length=n+(bs.length+1) by omega]
theorem Vd:∀ (bs:List (List UInt8)) (n:Nat) (ps:List (List UInt8)),n+bs.length<=1000000->ps.length=ZX 64 n->(QN n ps bs).length=ZX 64 (n+bs.length)
 | [],n,ps,_,h=>h
 | b::bs,n,ps,hn,h=>by
  rw[List.length_cons] at hn
  rw[QN,Vd bs (n+1) _ oX (TZ oX h),List.length_cons,show n+1+bs.length=n+(bs.length+1) by omega]
structure EnvL (base:Nat) (w:World) (e ea:Nat->Addr):Prop where
 d:∀ W,Below base w W->DErr W e
 s:∀ W,Below base w W->ShaK W/\ShaF W
 h:∀ W,Below base w W->Errs 298 errGs W ea
 p:13<base
theorem EnvL.below{base:Nat}{w w':World}{e ea:Nat->Addr}(h:EnvL base w e ea)(hb:Below base w w'):EnvL base w' e ea:=
 ⟨λW hW=>h.d W (hb.trans hW),λW hW=>h.s W (hb.trans hW),λW hW=>h.h W (hb.trans hW),h.p⟩
theorem EnvL.full{base:Nat}{w:World}{e ea:Nat->Addr}(h:EnvL base w e ea):FullE w:=⟨_,(h.h w bR).var 11 dX⟩
theorem LdM.powE{base:Nat}{w:World}{l:Nat}{V:LV}{P:LP}{e ea:Nat->Addr}(h:LdM base w l V P)(hE:EnvL base w e ea):13≠V.B:=λeq=>by
 have:=(h.lt V.B (.inr (.inr (.inr (.inr (.inl rfl)))))).1
 have:=hE.p
 omega
structure LInv (P:LP) (rcs:List Rc):Prop where
 dead:P.dead=false
 recs:P.recs=rcs.map Rc.out
 fol:XW ⟨[],[]⟩ rcs
 m:P.m=Qx ⟨[],[]⟩ rcs
 n:P.n=P.recs.length
 ps:P.ps=QN 0 [] P.recs
 le:rcs.length<=100
theorem LInv.len{P:LP}{rcs:List Rc}(h:LInv P rcs):P.recs.length=rcs.length:=by rw[h.recs,List.length_map]
theorem LInv.sb{P:LP}{rcs:List Rc}(h:LInv P rcs):SB rcs.length P.m:=by
 have:=UC rcs ⟨[],[]⟩ 0 (Qu 0)
 rw[<-h.m,Nat.zero_add] at this
 exact this
theorem LInv.l1{P:LP}{rcs:List Rc}(h:LInv P rcs):P.m.its.length<=1000:=by have:=h.sb.its;omega
theorem LInv.l2{P:LP}{rcs:List Rc}(h:LInv P rcs):P.m.ens.length<=1000:=by have:=h.sb.ens;have:=h.le;omega
theorem LInv.hub{P:LP}{rcs:List Rc}(h:LInv P rcs):∀ y∈P.m.its,y.u<=1000000/\y.r<=1000000:=λy hy=>by
 have:=h.sb.us y hy
 have:=h.le
 omega
theorem LInv.ones{P:LP}{rcs:List Rc}(h:LInv P rcs):P.ps.length=ZX 64 P.n:=by
 have:=Vd P.recs 0 [] (by have:=h.len;have:=h.le;omega) rfl
 rw[h.ps,h.n,this,Nat.zero_add]
theorem LInv.next{P P':LP}{rcs:List Rc}{x:Rc}(h:LInv P rcs)(hx:x.Ok)(hf:(Zi P.m x).2=0)(hl:rcs.length<100)(h1:P'.dead=false)(h2:P'.recs=P.recs++[x.out])(h3:P'.m=(Zi P.m x).1)(h4:P'.n=P.n+1)(h5:P'.ps=Qc P.n P.ps x.out):LInv P' (rcs++[x]):=by
 refine⟨h1,by rw[h2,h.recs,List.map_append];rfl,Jo _ _ _ h.fol hx (by rw[<-h.m];exact hf),by rw[h3,Jt,<-h.m],by rw[h4,h2,h.n,List.length_append];rfl,?_,by rw[List.length_append];exact hl⟩
 rw[h5,h2,JV,<-h.ps,h.n,Nat.zero_add]
def ROs(V:LV)(P:LP)(x:Rc):JPred:=λmn p recs sure dead=>mn<=V.mn+434/\P.p.l-435<=p.l/\p.l<=P.p.l/\dead=false/\recs=P.recs++[x.out]/\sure=P.recs.length+1/\SafeA p recs sure/\p.ws=[]/\okR x.out/\Zh P.recs+(34+x.out.length)<=3840/\x.Ok/\(Zi P.m x).2=0
def RBs(V:LV)(P:LP)(x:Rc):JPred:=λmn p recs sure dead=>mn<=V.mn+434/\p.ws.length<=434/\P.p.l-435<=p.l/\p.l<=P.p.l/\
 ((dead=false/\recs=P.recs/\sure=P.sure/\p=P.p)\/(dead=true/\sure=P.sure/\(recs=P.recs\/recs=P.recs++[x.out])/\SafeD p (P.recs++[x.out]) P.sure/\p.n=60/\okR x.out/\Zh P.recs+(34+x.out.length)<=3840/\x.Ok/\(Zi P.m x).2=0))
theorem D0{base:Nat}{w:World}{l:Nat}{V:LV}{P:LP}{rcs:List Rc}{e ea:Nat->Addr}(h:LdM base w l V P)(hb:base<=w.heap.size)(hI:LInv P rcs)(hE:EnvL base w e ea)(hS:SafeA P.p P.recs P.sure)(hws:P.p.ws=[])(hmn:V.mn<=40000)(hpl : -200000<=P.p.l/\P.p.l<=200000)(x:Rc)(hx:x.Ok) :
  Calls Tryz.prog 81 #[.pointer (some ⟨l,0,none⟩),.agg x.list.toArray] w (Gf base w l V P (Zi P.m x).1 (Qc P.n P.ps x.out) (ROs V P x) (RBs V P x)):=by
 have H:=hE.h w bR
 have h0:P.p.ws.length=0:=by rw[hws];rfl
 by_cases hn:(Zi P.m x).2=0
 ·have hc:=XG hn
  obtain⟨o1,o4⟩:=Kr x hx hc
  refine Nm h hb x hx hI.l1 hI.l2 hI.hub ea H hn _ _ _ (λW hW=>Gy x hx hc ea W (H.below hW)) (λW a c hW hA hAo=>?_) (λW a c hW hf hA=>?_)
  ·have hWb:Below base w W:=hW.mono hb
   have hEW:=hE.below hWb
   have hj:=(h.below hW).jd
   rw[hI.dead] at hj
   have hlt:=λk hk=>(h.lt k hk).2
   refine(Bv hj (Nat.le_trans hb hW.size) hS oX hmn hpl e (h.powE hE) hEW.d hEW.full (hEW.s W bR).1 (hEW.s W bR).2 x.out oX a c hA (λ_ b o s eq=>by
    obtain⟨q1,q2⟩:=hAo b o s eq
    exact⟨λhh=>by have:=hlt b (.inr (.inr (.inr (.inl hh))));omega,λhh=>by have:=hlt b (.inr (.inr (.inr (.inr hh))));omega,q2⟩)).mono ?_
   rintro y w' ⟨mn',v',rv',F',p',recs',sure',dead',hst,b1,b2,b3,b4,hcase⟩
   have hEw:EnvL base w' e ea:=hEW.below (hst.only.below (Nat.le_trans hb hW.size) (λk hk=>hk.elim (λq=>(hj.jm.lt k q).1) (λq=>(hj.dm.lt k q).1)))
   refine⟨mn',v',rv',F',p',recs',sure',dead',hst,?_⟩
   rcases hcase with ⟨rfl,c1,c2,c3,c4,c5,c6,c7,c8⟩|⟨hs,c1,c2,c3,c4⟩|⟨hf,c1,c2,c3,c4,c5,c6,c7⟩
   ·exact .inl ⟨rfl,oX,b3,b4,c1,c2,c3,c4,c5,c7,c8,hx,hn⟩
   ·obtain⟨v,rfl,hv⟩:=hs.badE hEw.h
    exact .inr ⟨v,rfl,hv,oX,oX,b3,b4,.inl ⟨c1,c2,c3,c4⟩⟩
   ·obtain⟨v,rfl,hv⟩:=hf.badE hEw.h
    exact .inr ⟨v,rfl,hv,oX,oX,b3,b4,.inr ⟨c1,c2,c3,c4,c5,c6,c7,hx,hn⟩⟩
  ·exact VI hf (Nat.le_trans hb hW.size) (by rw[hI.n,hI.len];have:=hI.le;omega) hI.ones a c x.out hA oX (λW' hW'=>(hE.s W' (hW.trans hW')).1) (λW' hW'=>(hE.s W' (hW.trans hW')).2)
 ·exact Hp h hb x hx hI.l1 hI.l2 hI.hub ea H hn _ _ _ ⟨oX,oX,oX,Int.le_refl _,.inl ⟨hI.dead,rfl,rfl,rfl⟩⟩ hE.h
def ROg(V:LV)(P:LP)(nn:Nat)(x:Rc):JPred:=λmn p recs sure dead=>mn<=V.mn+500/\P.p.l-500<=p.l/\p.l<=P.p.l/\dead=false/\recs=P.recs++[x.out]/\sure=P.recs.length+1/\Good p nn recs/\okR x.out/\Zh P.recs+(34+x.out.length)<=64*nn/\x.Ok/\(Zi P.m x).2=0
def RBg(V:LV)(P:LP)(nn:Nat)(x:Rc):JPred:=λmn p recs sure dead=>mn=V.mn/\p=P.p/\recs=P.recs/\sure=P.sure/\dead=false/\((Zi P.m x).2≠0\/¬Zh P.recs+(34+x.out.length)<=64*nn)
theorem NK{base:Nat}{w:World}{l:Nat}{V:LV}{P:LP}{rcs:List Rc}{e ea:Nat->Addr}(h:LdM base w l V P)(hb:base<=w.heap.size)(hI:LInv P rcs)(hE:EnvL base w e ea)(nn:Nat)(hG:Good P.p nn P.recs)(hnn:nn<=1000)(hEn:Zh P.recs<=64*nn)(hmn:V.mn<=50000)(hpl : -200000<=P.p.l/\P.p.l<=200000)(x:Rc)(hx:x.Ok) :
  Calls Tryz.prog 81 #[.pointer (some ⟨l,0,none⟩),.agg x.list.toArray] w (Gf base w l V P (Zi P.m x).1 (Qc P.n P.ps x.out) (ROg V P nn x) (RBg V P nn x)):=by
 have H:=hE.h w bR
 by_cases hn:(Zi P.m x).2=0
 ·have hc:=XG hn
  obtain⟨o1,o4⟩:=Kr x hx hc
  refine Nm h hb x hx hI.l1 hI.l2 hI.hub ea H hn _ _ _ (λW hW=>Gy x hx hc ea W (H.below hW)) (λW a c hW hA hAo=>?_) (λW a c hW hf hA=>?_)
  ·have hWb:Below base w W:=hW.mono hb
   have hEW:=hE.below hWb
   have hj:=(h.below hW).jd
   rw[hI.dead] at hj
   have hlt:=λk hk=>(h.lt k hk).2
   have hAD:∀ b o s,a=some ⟨b,o,s⟩->¬JF V.J V.F V.rv b/\¬Zw V.B V.mb V.v b/\b<W.heap.size:=λb o s eq=>by
    obtain⟨q1,q2⟩:=hAo b o s eq
    exact⟨λhh=>by have:=hlt b (.inr (.inr (.inr (.inl hh))));omega,λhh=>by have:=hlt b (.inr (.inr (.inr (.inr hh))));omega,q2⟩
   by_cases hfit:Zh P.recs+(34+x.out.length)<=64*nn
   ·refine(DI hj (Nat.le_trans hb hW.size) nn hG hnn hmn hpl e (h.powE hE) hEW.d (hEW.s W bR).1 (hEW.s W bR).2 x.out o1 o4 hfit a c hA hAD).mono ?_
    rintro y w' ⟨rfl,mn',v',rv',F',p',b1,hst,hG',b3,b4⟩
    exact⟨mn',v',rv',F',p',_,_,_,hst,.inl ⟨rfl,b1,b3,b4,rfl,rfl,rfl,hG',⟨o1,o4⟩,hfit,hx,hn⟩⟩
   ·refine(Nn W V.J a x.out.length c (KM hj nn hG.n hnn hEn hEW.full a x.out.length c o1 o4 (by unfold Xi;omega))).mono ?_
    rintro y w' ⟨hs,hb'⟩
    have hEw:EnvL base w' e ea:=hEW.below (hb'.mono (Nat.le_trans hb hW.size))
    obtain⟨v,rfl,hv⟩:=SentR.badE (x:=y) (w:=w') hs hEw.h
    exact⟨V.mn,V.v,V.rv,V.F,P.p,P.recs,P.sure,false,(JStep.same hj).grow hb',.inr ⟨v,rfl,hv,rfl,rfl,rfl,rfl,rfl,.inr hfit⟩⟩
  ·exact VI hf (Nat.le_trans hb hW.size) (by rw[hI.n,hI.len];have:=hI.le;omega) hI.ones a c x.out hA oX (λW' hW'=>(hE.s W' (hW.trans hW')).1) (λW' hW'=>(hE.s W' (hW.trans hW')).2)
 ·exact Hp h hb x hx hI.l1 hI.l2 hI.hub ea H hn _ _ _ ⟨rfl,rfl,rfl,rfl,hI.dead,.inl hn⟩ hE.h
def PutV(base:Nat)(w:World)(l:Nat)(V:LV)(P:LP)(m':St)(ps':List (List UInt8))(RO RB:JPred)(W:World)(v:Value)(w':World):Prop:=
 ∃ V' p' recs' sure' dead',(V'.J=V.J/\V'.B=V.B/\V'.mb=V.mb/\V'.f=V.f)/\(∀ k,LdD l V' k->LdD l V k\/W.heap.size<=k)/\
  ((v=.nilIface/\RO V'.mn p' recs' sure' dead'/\LStep base w w' l V V' ⟨p',recs',sure',dead',P.n+1,ps',m'⟩)\/
  (BadE base v w'/\RB V'.mn p' recs' sure' dead'/\LStep base w w' l V V' ⟨p',recs',sure',dead',P.n,P.ps,P.m⟩))
section
variable {base l:Nat} {w W w1 w2:World} {V:LV} {P:LP} {m':St} {ps':List (List UInt8)} {RO RB:JPred} {v:Value}
theorem PutV.size(h:PutV base w l V P m' ps' RO RB W v w1):w.heap.size<=w1.heap.size:=by
 obtain⟨V',p',recs',sure',dead',_,_,h|h⟩:=h
 ·exact h.2.2.only.size
 ·exact h.2.2.only.size
theorem LStep.aside{V':LV}{P':LP}(h:LStep base w w1 l V V' P')(hn:∀ k,LdD l V' k->LdD l V k\/W.heap.size<=k)(hL:LdM base w l V P){b:Nat}(hb:w.heap.size<=b)(hbW:b<W.heap.size)(hO:Only (λk=>k=b) w1 w2):LStep base w w2 l V V' P':=by
 refine⟨h.ok.only hO (λk hk e=>?_),h.only.trans hO (λk hk e=>absurd hk oX),h.new⟩
 subst e
 rcases hn k hk with q|q
 ·have:=(hL.lt k q).2
  omega
 ·omega
theorem DK{x:Array Value}(hL:LdM base w l V P)(hn:base<=w.heap.size)(hW:Below w.heap.size w W)(h:Calls Tryz.prog 81 #[.pointer (some ⟨l,0,none⟩),.agg x] W (Gf base W l V P m' ps' RO RB)) :
  Calls Tryz.prog 81 #[.pointer (some ⟨l,0,none⟩),.agg x] W (PQK base w.heap.size (PutV base w l V P m' ps' RO RB) W):=by
 refine h.mono ?_
 rintro e w' ⟨V',p',recs',sure',dead',h1,h2,h3,h4,h5⟩
 have hg:∀ {P'},LStep base W w' l V V' P'->LStep base w w' l V V' P':=λhs=>(LStep.grow (LStep.same hL) hW).trans hs
 have hk:∀ {P'},LStep base W w' l V V' P'->∀ b,w.heap.size<=b->b<W.heap.size->w'.heap[b]? = W.heap[b]? := λhs b hb hbW=>hs.only.block b hbW (λhd=>by have:=(hL.lt b hd).2;omega)
 rcases h5 with ⟨rfl,q1,q2⟩|⟨v,rfl,q0,q1,q2⟩
 ·exact⟨⟨_,rfl,.inl rfl,V',p',recs',sure',dead',⟨h1,h2,h3,h4⟩,q2.new,.inl ⟨rfl,q1,hg q2⟩⟩,hk q2⟩
 ·exact⟨⟨_,rfl,.inr q0,V',p',recs',sure',dead',⟨h1,h2,h3,h4⟩,q2.new,.inr ⟨q0,q1,hg q2⟩⟩,hk q2⟩
end
theorem L8{n:Int}(hn:inI n){x:ActL}(hx:x.Ok):(X6 n x.name x.p x.t1 x.t2 x.tick).Ok:=
 ⟨by show inI 1;decide,hn,by show inI 0;decide,hx.name,hx.p,hx.t1,hx.t2,by show inI 0;decide,by show inI 0;decide,by show inI 0;decide,hx.tick⟩
theorem Ll{o t:Int}(h1:inI o)(h2:inI t):(Ve o t).Ok:=
 ⟨by show inI 4;decide,h1,Rc.zero_ok.id,Rc.zero_ok.name,Rc.zero_ok.p,Rc.zero_ok.root,Rc.zero_ok.file,Rc.zero_ok.way,Rc.zero_ok.index,Rc.zero_ok.verdict,h2⟩
theorem Lt{o i y x t:Int}(h1:inI o)(h2:inI i)(h3:inI y)(h4:inI x)(h5:inI t):(Xm o i y x t).Ok:=
 ⟨by show inI 2;decide,h1,h2,Rc.zero_ok.name,Rc.zero_ok.p,Rc.zero_ok.root,Rc.zero_ok.file,h3,h4,Rc.zero_ok.verdict,h5⟩
theorem PT{o i v t:Int}(h1:inI o)(h2:inI i)(h3:inI v)(h4:inI t):(Xo o i v t).Ok:=
 ⟨by show inI 3;decide,h1,h2,Rc.zero_ok.name,Rc.zero_ok.p,Rc.zero_ok.root,Rc.zero_ok.file,Rc.zero_ok.way,Rc.zero_ok.index,h3,h4⟩
theorem Dq{y:It}(hy:y.Ok)(way:Int):inI (Qa y way).1:=by
 unfold Qa
 split
 ·exact hy.u
 ·exact hy.r
theorem M9{m:St}{o i y x t:Int}(h:(Zi m (Xm o i y x t)).2=0):(Zi m (Xm o i y x t)).1.ens.length=m.ens.length+1:=by
 unfold Zi at h ⊢
 split
 ·next hc=>rw[if_pos hc] at h;exact absurd h hc
 ·next hc=>
  rw[if_neg hc] at h
  rw[if_neg (show ¬(Xm o i y x t).kind=1 by show ¬(2:Int)=1;decide),if_pos (show (Xm o i y x t).kind=2 from rfl)] at h ⊢
  unfold YZ at h ⊢
  split
  ·next q=>rw[if_pos q] at h;cases h
  ·next q=>
   rw[if_neg q] at h
   split
   ·next q2=>rw[if_pos q2] at h;cases h
   ·next q2=>
    rw[if_neg q2] at h
    split
    ·next q3=>rw[if_pos q3] at h;cases h
    ·next q3=>
     rw[if_neg q3] at h
     split
     ·next q4=>rw[if_pos q4] at h;cases h
     ·simp
def Rk(base:Nat)(w:World)(l:Nat)(V:LV)(P:LP)(a:ActL)(RO RB:Rc->JPred)(e:Ending)(w':World):Prop:=
 ∃ (k:Nat) (V':LV) (p':DP) (recs':List (List UInt8)) (sure':Nat) (dead':Bool),e=.returned (.int .i64 (k:Int))/\(V'.J=V.J/\V'.B=V.B/\V'.mb=V.mb/\V'.f=V.f)/\
  ((k=0/\∃ x,Yx P.m a=some x/\RO x V'.mn p' recs' sure' dead'/\LStep base w w' l V V' ⟨p',recs',sure',dead',P.n+1,Qc P.n P.ps x.out,(Zi P.m x).1⟩)\/
  (k≠0/\((∃ x,Yx P.m a=some x/\RB x V'.mn p' recs' sure' dead')\/(Yx P.m a=none/\V'.mn=V.mn/\p'=P.p/\recs'=P.recs/\sure'=P.sure/\dead'=P.dead))/\LStep base w w' l V V' ⟨p',recs',sure',dead',P.n,P.ps,P.m⟩))
theorem DoQ.act{base:Nat}{w:World}{l:Nat}{V:LV}{P:LP}{a:ActL}{RO RB:Rc->JPred}{x:Rc}{e:Ending}{w':World}(hx:Yx P.m a=some x)(h:DoQ base (PutV base w l V P (Zi P.m x).1 (Qc P.n P.ps x.out) (RO x) (RB x)) w e w'):Rk base w l V P a RO RB e w':=by
 obtain⟨k,W,v,w1,he,hW,⟨V',p',recs',sure',dead',hs,hnew,hq⟩,hb,hk⟩:=h
 refine⟨k,V',p',recs',sure',dead',he,hs,?_⟩
 rcases hq with ⟨rfl,q1,q2⟩|⟨q0,q1,q2⟩
 ·rcases hk with ⟨hk,_⟩|⟨_,hk⟩
  ·exact .inl ⟨hk,x,hx,q1,q2.grow hb⟩
  ·exfalso
   have h1:=hk.1 w
   have h2:(binOp .neq 30 .nilIface .nilIface).run Tryz.prog w=.ok (.bool false) w:=kX
   rw[h1] at h2
   cases h2
 ·rcases hk with ⟨_,rfl⟩|⟨hk,_⟩
  ·exfalso
   have h1:=q0.1.1 w
   have h2:(binOp .neq 30 .nilIface .nilIface).run Tryz.prog w=.ok (.bool false) w:=kX
   rw[h1] at h2
   cases h2
  ·exact .inr ⟨hk,.inl ⟨x,hx,q1⟩,q2.grow hb⟩
theorem DoQ.none{base:Nat}{w:World}{l:Nat}{V:LV}{P:LP}{a:ActL}{RO RB:Rc->JPred}{e:Ending}{w':World}(hx:Yx P.m a=none)(h:DoQ base (PutV base w l V P P.m P.ps (λ_ _ _ _ _=>False) (λmn p recs sure dead=>mn=V.mn/\p=P.p/\recs=P.recs/\sure=P.sure/\dead=P.dead)) w e w'):Rk base w l V P a RO RB e w':=by
 obtain⟨k,W,v,w1,he,hW,⟨V',p',recs',sure',dead',hs,hnew,hq⟩,hb,hk⟩:=h
 refine⟨k,V',p',recs',sure',dead',he,hs,?_⟩
 rcases hq with ⟨rfl,q1,q2⟩|⟨q0,q1,q2⟩
 ·exact q1.elim
 ·rcases hk with ⟨_,rfl⟩|⟨hk,_⟩
  ·exfalso
   have h1:=q0.1.1 w
   have h2:(binOp .neq 30 .nilIface .nilIface).run Tryz.prog w=.ok (.bool false) w:=kX
   rw[h1] at h2
   cases h2
  ·exact .inr ⟨hk,.inr ⟨hx,q1⟩,q2.grow hb⟩
theorem Cb{base:Nat}{w:World}{l:Nat}{V:LV}{P:LP}(hL:LdM base w l V P)(hn:base<=w.heap.size)(l1:P.m.its.length<=1000)(l2:P.m.ens.length<=1000)(ea:Nat->Addr)(H:∀ W,Below base w W->Errs 298 errGs W ea)(a:ActL)(ha:a.Ok)(RO RB:Rc->JPred)(hRO:∀ x mn p r s d,RO x mn p r s d->(Zi P.m x).2=0)
  (hput:∀ x,x.Ok->∀ W,Below w.heap.size w W->Calls Tryz.prog 81 #[.pointer (some ⟨l,0,none⟩),.agg x.list.toArray] W (Gf base W l V P (Zi P.m x).1 (Qc P.n P.ps x.out) (RO x) (RB x))) :
  Calls Tryz.prog 24 #[.pointer (some ⟨l,0,none⟩),.agg a.list.toArray] w (Rk base w l V P a RO RB):=by
 have hQs:∀ {m' ps' RO' RB'} W v w',PutV base w l V P m' ps' RO' RB' W v w'->base<=w'.heap.size:=λW v w' h=>Nat.le_trans hn h.size
 have href:∀ W,Below w.heap.size w W->∀ v w',BadE base v w'->Below W.heap.size W w'->PutV base w l V P P.m P.ps (λ_ _ _ _ _=>False) (λmn p recs sure dead=>mn=V.mn/\p=P.p/\recs=P.recs/\sure=P.sure/\dead=P.dead) W v w':=λW hW v w' hv hb=>
  ⟨V,P.p,P.recs,P.sure,P.dead,⟨rfl,rfl,rfl,rfl⟩,λk hk=>.inl hk,.inr ⟨hv,⟨rfl,rfl,rfl,rfl,rfl⟩,(LStep.same hL).grow (hW.trans (hb.mono hW.size))⟩⟩
 have HW:∀ {W},Below w.heap.size w W->∀ W',Below base W W'->Errs 298 errGs W' ea:=λhW W' hW'=>H W' ((hW.mono hn).trans hW')
 have iN:inI (P.m.its.length:Int):=⟨oX,oX⟩
 have iE:inI (P.m.ens.length:Int):=⟨oX,oX⟩
 have hK:∀ {W} x,x.Ok->Below w.heap.size w W->∀ W',Below W.heap.size W W'->Calls Tryz.prog 81 #[.pointer (some ⟨l,0,none⟩),.agg x.list.toArray] W' (PQK base W.heap.size (PutV base w l V P (Zi P.m x).1 (Qc P.n P.ps x.out) (RO x) (RB x)) W'):=fun {W} x hx hW W' hW'=>by
  have hWW:=hW.trans (hW'.mono hW.size)
  refine(DK hL hn hWW (hput x hx W' hWW)).mono ?_
  rintro e w' ⟨q1,q2⟩
  exact⟨q1,λb hb hb'=>q2 b (Nat.le_trans hW.size hb) hb'⟩
 by_cases h0:a.kind=0
 ·have hx:Yx P.m a=some (X6 (P.m.its.length:Int) a.name a.p a.t1 a.t2 a.tick):=by unfold Yx;rw[if_pos h0];rfl
  refine(Cc l a ha h0 (PutV base w l V P _ _ _ _) (λW hW=>DL (hL.below hW) a.name a.p a.t1 a.t2 a.tick ha.t1 ha.t2 _ (hK _ (L8 iN ha) hW))).mono λe w' h=>h.act hx
 ·by_cases h1:a.kind=1
  ·by_cases hw:a.way=1\/a.way=2
   ·by_cases ho:0<=a.obj/\a.obj<P.m.its.length
    ·obtain⟨i,hi⟩:∃ i:Nat,a.obj=(i:Int):=⟨a.obj.toNat,oX⟩
     have hil:i<P.m.its.length:=oX
     have hgd:P.m.its.getD a.obj.toNat default=P.m.its[i]:=by rw[hi,List.getD_eq_getElem?_getD,Int.toNat_natCast,List.getElem?_eq_getElem hil];rfl
     have hx:Yx P.m a=some (Xm (i:Int) (P.m.ens.length:Int) a.way (Qa P.m.its[i] a.way).1 a.tick):=by
      unfold Yx
      rw[if_neg h0,if_pos h1,if_neg oX,if_neg oX,hgd,hi]
     have hyo:=hL.st.okN _ (List.getElem_mem hil)
     have hok:=Lt (o:=(i:Int)) (by rw[<-hi];exact ha.obj) iE ha.way (Dq hyo a.way) ha.tick
     refine(H0 l a h1 (PutV base w l V P _ _ (RO (Xm (i:Int) (P.m.ens.length:Int) a.way (Qa P.m.its[i] a.way).1 a.tick)) (RB (Xm (i:Int) (P.m.ens.length:Int) a.way (Qa P.m.its[i] a.way).1 a.tick))) (λW hW=>?_) hQs).mono λe w' h=>h.act hx
     rw[hi]
     refine W8 (hL.below hW) l1 l2 i hil a.way a.tick hw _ (hK _ hok hW) (λW1 w' hW1 hq=>?_) (λW1 v1 w1 w2 C C' hW1 hlt hq hb hU=>?_) (Nat.le_trans hn hW.size)
     ·obtain⟨V',p',recs',sure',dead',hs,hnew,⟨_,q1,q2⟩|⟨q0,_⟩⟩:=hq
      ·have hm:=M9 (hRO _ _ _ _ _ _ q1)
       exact⟨V',_,q2.ok,by rw[hm];omega,by rw[hm];omega⟩
      ·exfalso
       have h1:=q0.1.1 w
       have h2:(binOp .neq 30 .nilIface .nilIface).run Tryz.prog w=.ok (.bool false) w:=kX
       rw[h1] at h2
       cases h2
     ·have hO:Only (λk=>k=W.heap.size) w1 w2:=Only.ofUpd hU rfl
      obtain⟨V',p',recs',sure',dead',hs,hnew,h|h⟩:=hq
      ·exact⟨V',p',recs',sure',dead',hs,hnew,.inl ⟨h.1,h.2.1,h.2.2.aside hnew hL hW.size hlt hO⟩⟩
      ·exact⟨V',p',recs',sure',dead',hs,hnew,.inr ⟨h.1.soft (Soft.ofUpd hU hb ⟨dX,dX⟩ (Nat.le_trans hn hW.size)),h.2.1,h.2.2.aside hnew hL hW.size hlt hO⟩⟩
    ·have hx:Yx P.m a=none:=by unfold Yx;rw[if_neg h0,if_pos h1,if_neg oX,if_pos oX]
     exact(H0 l a h1 (PutV base w l V P _ _ _ _) (λW hW=>Dp (hL.below hW) l1 l2 a.obj a.way a.tick hw ho ea (Nat.le_trans hn hW.size) (HW hW) _ (href W hW)) hQs).mono λe w' h=>h.none hx
   ·have hx:Yx P.m a=none:=by unfold Yx;rw[if_neg h0,if_pos h1,if_pos oX]
    exact(H0 l a h1 (PutV base w l V P _ _ _ _) (λW hW=>LJ (base:=base) l a.obj a.way a.tick oX oX ea (Nat.le_trans hn hW.size) (HW hW) _ (href W hW)) hQs).mono λe w' h=>h.none hx
  ·by_cases h4:a.kind=4
   ·have hx:Yx P.m a=some (Ve a.obj a.tick):=by unfold Yx;rw[if_neg h0,if_neg h1,if_pos h4]
    exact(Bm l a h4 (PutV base w l V P _ _ _ _) (λW hW=>Wk base l a.obj a.tick W _ (hK _ (Ll ha.obj ha.tick) hW))).mono λe w' h=>h.act hx
   ·by_cases hi:0<=a.id/\a.id<P.m.ens.length
    ·obtain⟨i,hii⟩:∃ i:Nat,a.id=(i:Int):=⟨a.id.toNat,oX⟩
     have hil:i<P.m.ens.length:=oX
     have hgd:P.m.ens.getD a.id.toNat default=P.m.ens[i]:=by rw[hii,List.getD_eq_getElem?_getD,Int.toNat_natCast,List.getElem?_eq_getElem hil];rfl
     have hx:Yx P.m a=some (Xo P.m.ens[i].o (i:Int) a.verdict a.tick):=by
      unfold Yx
      rw[if_neg h0,if_neg h1,if_neg h4,if_neg oX,hgd,hii]
     have hok:=PT (hL.st.okV _ (List.getElem_mem hil)).2.1 (i:=(i:Int)) (by rw[<-hii];exact ha.id) ha.verdict ha.tick
     refine(Ht l a h0 h1 h4 (PutV base w l V P _ _ (RO (Xo P.m.ens[i].o (i:Int) a.verdict a.tick)) (RB (Xo P.m.ens[i].o (i:Int) a.verdict a.tick))) (λW hW=>?_)).mono λe w' h=>h.act hx
     rw[hii]
     exact Hq (hL.below hW) l1 l2 i hil a.verdict a.tick _ (hK _ hok hW)
    ·have hx:Yx P.m a=none:=by unfold Yx;rw[if_neg h0,if_neg h1,if_neg h4,if_pos oX]
     exact(Ht l a h0 h1 h4 (PutV base w l V P _ _ _ _) (λW hW=>WM (hL.below hW) l1 l2 a.id hi a.verdict a.tick ea (Nat.le_trans hn hW.size) (HW hW) _ (href W hW))).mono λe w' h=>h.none hx
end Go.Proofs.YtpdhceiodgnbmaaGreatDoor
