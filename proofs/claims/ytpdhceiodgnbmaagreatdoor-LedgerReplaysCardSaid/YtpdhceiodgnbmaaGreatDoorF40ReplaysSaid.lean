import Derived.Test.YtpdhceiodgnbmaaGreatDoorF0ReplaysSaid
import Derived.Test.YtpdhceiodgnbmaaGreatDoorF1ReplaysSaid
import Derived.Test.YtpdhceiodgnbmaaGreatDoorF32ReplaysSaid
import Derived.Test.YtpdhceiodgnbmaaGreatDoorF8ReplaysSaid
import Derived.Test.YtpdhceiodgnbmaaGreatDoorF39ReplaysSaid
import Derived.Test.YtpdhceiodgnbmaaGreatDoorF2ReplaysSaid
import Derived.Test.YtpdhceiodgnbmaaGreatDoorF12ReplaysSaid
import Derived.Test.YtpdhceiodgnbmaaGreatDoorF16ReplaysSaid
import Derived.Test.YtpdhceiodgnbmaaGreatDoorF26ReplaysSaid
import Derived.Test.YtpdhceiodgnbmaaGreatDoorF10ReplaysSaid
import Derived.Test.YtpdhceiodgnbmaaGreatDoorF4ReplaysSaid
set_option linter.unusedVariables false
set_option linter.unusedSimpArgs false
set_option linter.unnecessarySimpa false
set_option maxRecDepth 100000
set_option maxHeartbeats 8000000
namespace Go.Proofs.YtpdhceiodgnbmaaGreatDoor
open Go.RowKit
def RdE(w:World)(q:Nat)(sh:Bool):Prop:=∃ a c,w.heap[q]? = some (.cells #[.slice a 0 c,.bool sh] 140 (0,0))
theorem RdE.only{w w':World}{q:Nat}{sh:Bool}{D:Nat->Prop}(h:RdE w q sh)(hO:Only D w w')(hq:¬D q):RdE w' q sh:=by
 obtain⟨a,c,h1⟩:=h
 exact⟨a,c,hO.heap h1 hq⟩
def WU(w:World)(q:Nat)(e:Ending)(w':World):Prop:=∃ a c,e=.returned (.slice a 1 c)/\ArgB w' a c [0]/\RdE w' q true/\Only (λk=>k=q) w w'
theorem Wq(q:Nat)(w:World)(h:RdE w q false):Calls Tryz.prog 103 #[.pointer (some ⟨q,0,none⟩),.int .i64 1] w (WU w q):=by
 obtain⟨i0,hi,hz0,hz1,hz2⟩:=info_parts Tryz.infoByteP
 obtain⟨a,c,hq⟩:=h
 have c0:=Za hq 0
 have c1:=Za hq 1
 have f1:=Zo hq 1
 have hlt:=Zb hq
 obtain⟨w2,hw2⟩:∃ w2,w2=w.setCell ⟨q,1,none⟩ (.bool true):=⟨_,rfl⟩
 have hU:=(Upd.refl hq).setCell (j:=1) (.bool true)
 rw[<-hw2] at hU
 replace hw2:=Hd hw2
 replace hU:=Hd hU
 replace hq:=Hd hq
 have hpost:∀ w4,OwnB w.heap.size w4 (.slice (some ⟨w2.heap.size,0,none⟩) 1 1) (List.replicate 1 0)->Only (λk=>k=q) w w4->w4.heap[q]? = some (.cells #[.slice a 0 c,.bool true] 140 (0,0))->WU w q (.returned (.slice (some ⟨w2.heap.size,0,none⟩) 1 1)) w4:=λw4 h1 h2 h3=>by
  obtain⟨a4,c4,e4,h4,_⟩:=h1.arg
  rw[List.length_replicate] at e4
  cases e4
  exact⟨_,_,rfl,h4,⟨a,c,h3⟩,h2⟩
 replace hpost:=Hd hpost
 go_enter Tryz.func103,Tryz.ntmps103
 go_wp2_with (at_make;rw[<-hw2.out];go_must (refine wpList_make_full _ rfl _ _ 24 rfl w.heap.size 5 i0 (.int .u8 0) 1 Tryz.underlying24 hi hz0 hz1 _ _ _ _ 1 rfl rfl oX oX (by rw[hz2];omega) (by unfold maxLen;omega) (by have:=hU.out.size;omega) ?_))
 intro w4 hown4 hg4
 have hO4:=OwnB.made hown4
 rw[Vz] at hO4
 have h4:=(hg4.block q (by have:=hU.out.size;omega) sX).trans hU.out.here
 have hOn:Only (λk=>k=q) w w4:=(Only.ofUpd (D:=λk=>k=q) hU.out rfl).trans (Only.ofGrown (D:=λ_=>False) hg4 (λk e=>by cases e)) (λ_ _ e=>e.elim)
 replace hO4:=Hd hO4
 replace h4:=Hd h4
 replace hOn:=Hd hOn
 clear hown4 hg4
 go_wp2_with fail
 go_ret
 exact hpost.out w4 hO4.out hOn.out h4.out
def Db(w:World)(q:Nat)(e:Ending)(w':World):Prop:=e=.returned (.int .i64 0)/\RdE w' q true/\Only (λk=>k=q) w w'
theorem HU(q:Nat)(w:World)(h:RdE w q false):Calls Tryz.prog 63 #[.pointer (some ⟨q,0,none⟩),.int .i64 1] w (Db w q):=by
 have htk:=Hd (Wq q w h)
 clear h
 go_enter Tryz.func63,Tryz.ntmps63
 go_wp2_with fail
 with_reducible refine htk.out.mono ?_
 rintro e w2 ⟨a,c,rfl,ha,hrd,hO⟩
 obtain⟨g,off,e0,hc⟩:=ha.row 0 dX
 subst e0
 replace hc:w2.cell? ⟨g,off,none⟩=some (.int .u8 0):=hc
 have hfin:=Hd (show Db w q (.returned (.int .i64 0)) w2 from⟨rfl,hrd,hO⟩)
 have hor:bits .or .i64 (0:Int) 0=0:=dX
 clear hrd hO htk ha
 go_wp2_with fail
 refine wp_loop_rounds 2 ?_
 rw[rounds_succ]
 go_wp2_with fail
 rw[rounds_succ]
 go_wp2_with fail
 go_ret
 exact hfin.out
theorem P8(a:Option Addr)(c:Nat)(w:World)(ea:Nat->Addr)(H:Errs 298 Zq w ea) :
  Calls Tryz.prog 29 #[.slice a 0 c] w (Ur ea 2 w):=by
 obtain⟨w1,hw1⟩:∃ w1,w1=(w.alloc (.cells Tryz.zeroCells49 49)).alloc (.cells #[.slice a 0 c,.bool false] 140):=⟨_,rfl⟩
 have hb1:Below w.heap.size w w1:=by rw[hw1];exact(bR.alloc nR _).alloc sX _
 have hs1:w1.heap.size=w.heap.size+2:=by rw[hw1];simp
 have hz1:w1.heap[w.heap.size]? = some (.cells Tryz.zeroCells49 49 (0,0)):=by rw[hw1,Zk,if_neg sX,Zk,if_pos rfl]
 have hq1:w1.heap[w.heap.size+1]? = some (.cells #[.slice a 0 c,.bool false] 140 (0,0)):=by rw[hw1,Zk,if_pos sX]
 have hr1:RdE w1 (w.heap.size+1) false:=⟨a,c,hq1⟩
 obtain⟨k,hk⟩:∃ k:Int,k=0:=⟨_,rfl⟩
 have hn0:∀ W,RdE W (w.heap.size+1) false->Calls Tryz.prog 63 #[.pointer (some ⟨w.heap.size+1,0,none⟩),.int .i64 1] W λe w2=>e=.returned (.int .i64 k)/\RdE w2 (w.heap.size+1) true/\Only (λk=>k=w.heap.size+1) W w2:=λW h=>by
  rw[hk]
  exact HU (w.heap.size+1) W h
 have hbd:=Hd (Yl k)
 have s78:(Rc.ofKind k).list.toArray.size=78:=by rw[List.size_toArray,Rc.len (x:=Rc.ofKind k) Zh Zh]
 have i8:(Tryz.prog.info? 49).map (·.size)=some (Rc.ofKind k).list.toArray.size:=by rw[s78];kernel_rfl
 have z8:(Tryz.zeroCells49).size=(Rc.ofKind k).list.toArray.size:=by rw[s78];kernel_rfl
 have hVo:=Rc.all_one (Rc.ofKind k)
 have iZ:(Tryz.prog.info? 49).map (·.size)=some (Tryz.zeroCells49).size:=kX
 have hZo:(Tryz.zeroCells49).all (·.oneCell')=true:=by rw[Rc.zeroG];exact Rc.all_one Rc.zero
 have hu:=Tryz.underlying49
 have hrk0:∀ (W:World) b,W.heap[b]? = some (.cells (Rc.ofKind k).list.toArray 49 (0,0))->W.cell? ⟨b,0,none⟩=some (.int .i64 k):=λW b h=>by rw[Za h];rfl
 have hce:=Hd (X9 H)
 generalize (Rc.ofKind k).list.toArray=RK at*
 have hZe:Hid (∀ v,Ending.returned (.tuple #[.agg Tryz.zeroCells49,v])=Ending.returned (.tuple #[.agg Rc.zero.list.toArray,v])):=Hd (λv=>by rw[Rc.zeroG])
 clear s78
 obtain⟨q,hq⟩:∃ q,q=w.heap.size+1:=⟨_,rfl⟩
 obtain⟨B,hBd⟩:∃ B,B=w.heap.size:=⟨_,rfl⟩
 replace hw1:=Hd hw1
 replace hn0:=Hd hn0
 replace hr1:=Hd hr1
 replace hz1:=Hd hz1
 replace hb1:=Hd hb1
 replace H:=Hd H
 replace hrk0:=Hd hrk0
 clear hq1 hk
 go_enter Tryz.func29,Tryz.ntmps29
 go_wp2_with fail
 rw[<-hw1.out]
 with_reducible refine(hn0.out _ hr1.out).mono ?_
 rintro e wa ⟨rfl,hra,hoa⟩
 have hza:=Hd (hoa.heap hz1.out oX)
 have hsa:=hoa.size
 have hOa:Only (λk=>k=w.heap.size+1) w1 wa:=hoa
 have hna:w.heap.size+1<wa.heap.size:=oX
 have hZp:=Hd (heap_alloc_new wa (.cells Tryz.zeroCells49 49))
 have hba:Below w.heap.size w wa:=hb1.out.trans (hoa.below oX (λk e=>by omega))
 replace hra:=Hd hra
 replace hba:=Hd hba
 clear hoa hOa
 go_wp2_with (first
  | ((with_reducible refine wL (.build 49 _) ?_);refine Zm rfl 49 [(0,.tmp 14)] rfl [(0,.int .i64 k)] rfl _ (hbd.out _) ?_)
  | ((with_reducible refine wL (.store 49 (.tmp 5) _) ?_);(refine Zc rfl 49 (.tmp 5) (.tmp 15) rfl wa.heap.size _ RK rfl rfl hZp i8 z8 hVo ?_);intro w3 hU3;have hP3:=Hd hU3.out.here;have hb3:=Hd ((Below.alloc (Below.refl wa.heap.size wa) nR (.cells Tryz.zeroCells49 49)).trans (hU3.out.below nR));have hr3:=Hd (hra.out.only (D:=λ_=>False) (Only.ofBelow hb3.out) (λe=>e));have hz3:=Hd ((hb3.out.block _ (Zb hza.out)).trans hza.out);have k0:=hrk0.out _ _ hP3.out;obtain⟨a3,c3,hq3⟩:=hr3.out;have j1:=Za hq3 1;have hbw3:=Hd (hba.out.trans (hb3.out.mono hba.out.size));clear hq3))
 have hd0:Hid (Below w.heap.size w w3.drew):=Hd (hbw3.out.drew)
 have hzd:Hid (w3.drew.heap[w.heap.size]? = some (.cells Tryz.zeroCells49 49 (0,0))):=Hd hz3.out
 have hcW:=λW h=>(hce.out W h).2.1
 have hraw:=True.intro
 have lkB:∀ W:World,Below w.heap.size w W->∀ (x:Operand) (v:Value),True->True->True->True:=λ_ _ _ _ _ _ _=>trivial
 clear hraw lkB
 refine wp_region_held_drew (S:=(Below w.heap.size w)) kX hd0.out (λhOn=>?_)
 generalize World.drew w3=wd at*
 refine tk 0 hOn ?_
 refine tk 1 hOn ?_
 refine rd 2 (λKz hKz=>?_)
 rw[if_pos (by rfl)]
 (with_reducible refine Zs 49 (.tmp 2) (.tmp 21) rfl w.heap.size _ Tryz.zeroCells49 rfl rfl hzd iZ rfl hZo ?_)
 intro w9 hU9
 have hS:=hOn.trans (hU9.out.below nR)
 have hres:=Hd hU9.out.here
 refine hKz.out _ _ hS ?_
 clear hKz Kz hOn hS
 intro hOn
 try simp only[Act.put]
 refine tk 3 hOn ?_
 refine dnE ?_
 all_goals
  go_wp2_with fail
  refine Zf rfl rfl hu rfl iZ hres.out ?_
  exact⟨_,hZe.out _,.inr (.inl ⟨2-1,dX,dX,rfl⟩),hOn⟩
noncomputable def prs(bs:List UInt8):Rc×Nat:=if bs.length=0 then (Rc.zero,2) else if h:bs.length<=500 then ((JE bs h).choose,(JE bs h).choose_spec.choose) else (Rc.zero,0)
theorem NQ{bs:List UInt8}(h:bs.length<=500):(prs bs).1.Ok/\((prs bs).2=0->(prs bs).1.chk=0/\(prs bs).1.out=bs)/\(prs bs).2<=20/\
 (∀ (a:Option Addr) (c:Nat) (w:World) (ea:Nat->Addr),ArgB w a c bs->Errs 298 Zq w ea->
  Calls Tryz.prog 29 #[.slice a bs.length c] w λe w2=>∃ v,e=.returned (.tuple #[.agg (prs bs).1.list.toArray,v])/\ErrIs ea w2 v (prs bs).2/\Below w.heap.size w w2)/\
 (∀ (a:Option Addr) (c:Nat) (w:World),ArgB w a c bs->Calls Tryz.prog 37 #[.slice a bs.length c] w (QV (prs bs).1 (prs bs).2 w)):=by
 by_cases h0:bs.length=0
 ·have e:prs bs=(Rc.zero,2):=by unfold prs;rw[if_pos h0]
  rw[e]
  have e2:bs=[]:=List.length_eq_zero_iff.1 h0
  subst e2
  exact⟨Rc.zero_ok,(λh=>by cases h),dX,λa c w ea ha H=>P8 a c w ea H,λa c w ha=>UQ a c w⟩
 ·have e:prs bs=((JE bs h).choose,(JE bs h).choose_spec.choose):=by unfold prs;rw[if_neg h0,dif_pos h]
  rw[e]
  obtain⟨q1,q2,q3,q4,q5⟩:=(JE bs h).choose_spec.choose_spec
  refine⟨q1,q2,q3,λa c w ea ha H=>q4 a c w ea ha (λad e=>?_) H,q5⟩
  obtain⟨b,o,e2,hc⟩:=ha.row 0 oX
  rw[e2] at e
  cases e
  exact⟨b,o,rfl,World.block_lt_of_cell? w _ hc⟩
noncomputable def YU(m:St)(bs:List UInt8):St×Nat:=if (prs bs).2≠0 then (⟨[],[]⟩,(prs bs).2) else if (Zw m (prs bs).1).2≠0 then (⟨[],[]⟩,(Zw m (prs bs).1).2) else Zw m (prs bs).1
noncomputable def ZH:St->List (List UInt8)->St×Nat
 | m,[]=>(m,0)
 | m,b::bs=>if (YU m b).2≠0 then (⟨[],[]⟩,(YU m b).2) else ZH (YU m b).1 bs
theorem YF(m:St)(b:List UInt8)(bs:List (List UInt8)):ZH m (b::bs)=if (YU m b).2≠0 then (⟨[],[]⟩,(YU m b).2) else ZH (YU m b).1 bs:=rfl
theorem JS:∀ (l:List (List UInt8)) (m0:St) (k:Nat),k<=l.length->(ZH m0 (l.take k)).2=0->ZH m0 l=ZH (ZH m0 (l.take k)).1 (l.drop k)
 | _,_,0,_,_=>rfl
 | [],_,k+1,h,_=>absurd h sX
 | b::bs,m0,k+1,h,h0=>by
  rw[List.take_succ_cons,YF] at h0
  rw[List.take_succ_cons,List.drop_succ_cons,YF,YF]
  by_cases hb:(YU m0 b).2≠0
  ·rw[if_pos hb] at h0;exact absurd h0 hb
  ·rw[if_neg hb] at h0
   rw[if_neg hb,if_neg hb]
   exact JS bs _ k (by simpa using h) h0
theorem UN(m:St)(l:List (List UInt8))(b:List UInt8)(h:(ZH m l).2=0):ZH m (l++[b])=if (YU (ZH m l).1 b).2≠0 then (⟨[],[]⟩,(YU (ZH m l).1 b).2) else ((YU (ZH m l).1 b).1,0):=by
 have:=JS (l++[b]) m l.length sX (by simpa using h)
 rw[List.take_left,List.drop_left] at this
 rw[this,YF]
 rfl
structure SB (k:Nat) (m:St):Prop where
 its:m.its.length<=4
 ens:m.ens.length<=k
 us:∀ y∈m.its,y.u<=(k:Int)/\y.r<=(k:Int)
theorem SB.mono{k k':Nat}{m:St}(h:SB k m)(hk:k<=k'):SB k' m:=⟨h.its,Nat.le_trans h.ens hk,λy hy=>by have:=h.us y hy;omega⟩
theorem Qs(k:Nat):SB k ⟨[],[]⟩:=⟨Nat.zero_le _,Nat.zero_le _,λy hy=>absurd hy List.not_mem_nil⟩
theorem SB.get{k:Nat}{m:St}(h:SB k m)(i:Nat)(hi:i<m.its.length):(m.its.getD i default).u<=(k:Int)/\(m.its.getD i default).r<=(k:Int):=by
 rw[List.getD_eq_getElem?_getD,List.getElem?_eq_getElem hi,Option.getD_some]
 exact h.us _ (List.getElem_mem hi)
theorem Rg{k:Nat}{m:St}(h:SB k m)(x:Rc):SB (k+1) (Zw m x).1:=by
 unfold Zw
 split
 ·exact Qs _
 split
 ·unfold Yz
  split
  ·exact Qs _
  split
  ·exact Qs _
  split
  ·exact Qs _
  refine⟨?_,Nat.le_succ_of_le h.ens,λy hy=>?_⟩
  ·simp only[List.length_append,List.length_singleton];omega
  ·rcases List.mem_append.1 hy with hy|hy
   ·have:=h.us y hy;omega
   ·rw[List.mem_singleton.1 hy]
    show (0:Int)<=_/\(0:Int)<=_
    omega
 split
 ·unfold Xb
  split
  ·exact Qs _
  next hi=>
  split
  ·exact Qs _
  split
  ·exact Qs _
  split
  ·exact Qs _
  have hg:=h.get x.obj.toNat oX
  refine⟨by rw[List.length_set];exact h.its,?_,λy hy=>?_⟩
  ·simp only[List.length_append,List.length_singleton];have:=h.ens;omega
  ·rcases List.mem_or_eq_of_mem_set hy with hy|hy
   ·have:=h.us y hy;omega
   ·rw[hy]
    unfold JU
    split
    ·exact⟨by show _+1<=_;omega,by show (m.its.getD x.obj.toNat default).r<=_;omega⟩
    ·exact⟨by show (m.its.getD x.obj.toNat default).u<=_;omega,by show _+1<=_;omega⟩
 split
 ·unfold XG
  split
  ·exact Qs _
  next hi=>
  split
  ·exact Qs _
  have hg:=h.get x.obj.toNat oX
  refine⟨by rw[List.length_set];exact h.its,Nat.le_succ_of_le h.ens,λy hy=>?_⟩
  rcases List.mem_or_eq_of_mem_set hy with hy|hy
  ·have:=h.us y hy;omega
  ·rw[hy]
   exact⟨by show (m.its.getD x.obj.toNat default).u<=_;omega,by show (m.its.getD x.obj.toNat default).r<=_;omega⟩
 ·unfold Yw
  split
  ·exact Qs _
  split
  ·exact Qs _
  split
  ·exact Qs _
  exact⟨h.its,by rw[List.length_set];exact Nat.le_succ_of_le h.ens,λy hy=>by have:=h.us y hy;omega⟩
theorem L4{k:Nat}{m:St}(h:SB k m)(b:List UInt8):SB (k+1) (YU m b).1:=by
 unfold YU
 split
 ·exact Qs _
 split
 ·exact Qs _
 ·exact Rg h _
theorem Va:∀ (l:List (List UInt8)) (k:Nat) (m:St),SB k m->SB (k+l.length) (ZH m l).1
 | [],k,m,h=>h
 | b::bs,k,m,h=>by
  rw[YF]
  split
  ·exact Qs _
  ·have:=Va bs (k+1) _ (L4 h b)
   rwa [show k+1+bs.length=k+(b::bs).length by simp;omega] at this
theorem Kw(a0:Option Addr)(c0:Nat)(bs:List (List UInt8))(w:World)(hA:ArgBB w a0 c0 bs)(hl:bs.length<=1000)(h5:∀ b∈bs,b.length<=500)(ea:Nat->Addr)(H:Errs 298 Zq w ea) :
  Calls Tryz.prog 8 #[.slice a0 bs.length c0] w (Zv ea (ZH ⟨[],[]⟩ bs).1 (ZH ⟨[],[]⟩ bs).2 w):=by
 obtain⟨FM,hFM⟩:∃ FM,FM=ZH ⟨[],[]⟩ bs:=⟨_,rfl⟩
 rw[<-hFM]
 obtain⟨N,hN⟩:∃ N,N=bs.length:=⟨_,rfl⟩
 rw[<-hN] at hl ⊢
 have hlN:N<=1000:=hl
 obtain⟨aO,aS,hs2,hB⟩:=Y6 w #[.slice none 0 0,.slice none 0 0] #[.slice none 0 0,.slice none 0 0] 28 28 _ rfl
 obtain⟨w2,hw2⟩:∃ w2,w2=(w.alloc (.cells #[.slice none 0 0,.slice none 0 0] 28)).alloc (.cells #[.slice none 0 0,.slice none 0 0] 28):=⟨_,rfl⟩
 rw[<-hw2] at aO aS hs2 hB
 have iS:(Tryz.prog.info? 28).map (·.size)=some 2:=kX
 have iZ:(Tryz.prog.info? 28).map (·.size)=some (#[.slice none 0 0,.slice none 0 0]:Array Value).size:=kX
 have i78:(Tryz.prog.info? 49).map (·.size)=some 78:=kX
 have z78:(Tryz.zeroCells49).size=78:=kX
 have hpost:Hid (∀ (n:Nat) (v:Value) W,Below w.heap.size w W->ErrIs ea W v n->Zv ea ⟨[],[]⟩ n w (.returned (.tuple #[.agg #[.slice none 0 0,.slice none 0 0],v])) W):=Hd (λn v W h2 h3=>⟨_,_,rfl,ZT W,h3,h2,Z9 _⟩)
 replace hA:=Hd hA
 replace hFM:=Hd hFM
 replace hN:=Hd hN
 replace hw2:=Hd hw2
 replace aO:=Hd aO
 replace aS:=Hd aS
 replace hB:=Hd hB
 replace hs2:=Hd hs2
 replace h5:=Hd h5
 clear hl
 replace H:=Hd H
 go_enter Tryz.func8,Tryz.ntmps8
 go_wp2_with fail
 rw[<-hw2.out]
 clear hw2
 generalize w2=wS at*
 skip
 skip
 skip
 skip
 skip
 refine Qf [(false,6),(true,3),(false,2),(true,24),(false,1)] _ [] (λU wr=>∃ (k:Nat) (m:St) (C:Array Value),k<=N/\U 11=.int .i64 (k:Nat)/\Below w.heap.size w wr/\wr.heap[w.heap.size]? = some (.cells #[.slice none 0 0,.slice none 0 0] 28 (0,0))/\wr.heap[w.heap.size+1]? = some (.cells C 28 (0,0))/\ArgS wr (.agg C) m/\FreshS (w.heap.size+2) (.agg C)/\ZH ⟨[],[]⟩ (bs.take k)=(m,0)) (λU _=>N-(intOf (U 11)).toNat) ?_ ?_
 ·simp only[List.getD_cons_zero,List.getD_cons_succ]
  exact⟨0,⟨[],[]⟩,_,Nat.zero_le _,rfl,hB.out,aO.out,aS.out,ZT _,Z9 _,rfl⟩
 ·clear aO aS hB
  intro U wr hrel KK hback l' hl'
  obtain⟨k,m,C,hk,hU0,hbw,bO,bS,hm,hfr,hrep⟩:=hrel
  simp only[Qq,Qk,cond_true,cond_false,Nat.reduceAdd,hU0] at hl'
  subst hl'
  have hsb:SB k m:=by
   have:=Va (bs.take k) 0 ⟨[],[]⟩ (Qs 0)
   rw[hrep] at this
   exact this.mono sY
  have hC2:C.size=2:=by
   obtain⟨a,c,a',c',e,_⟩:=hm.form
   cases e
   rfl
  have h1C:C.all (·.oneCell')=true:=by
   obtain⟨a,c,a',c',e,_⟩:=hm.form
   cases e
   simp[Value.oneCell']
  have iC:(Tryz.prog.info? 28).map (·.size)=some C.size:=by rw[hC2];exact iS
  have hszw:=hbw.size
  replace hU0:=Hd hU0
  replace hbw:=Hd hbw
  replace bO:=Hd bO
  replace bS:=Hd bS
  replace hm:=Hd hm
  replace hfr:=Hd hfr
  replace hrep:=Hd hrep
  replace hsb:=Hd hsb
  by_cases hlt:k<N
  ·have hlt2:(k:Int)<(N:Int):=oX
   have hkN:k<bs.length:=by rw[<-hN.out];exact hlt
   obtain⟨b1,o1,rfl,ai,ci,hce,hAi⟩:=(hA.out.below hbw.out).row k hkN
   have hmem:bs.getD k []∈bs:=by rw[List.getD_eq_getElem?_getD,List.getElem?_eq_getElem hkN];exact List.getElem_mem hkN
   have hb5:=h5.out _ hmem
   have htk:bs.take (k+1)=bs.take k++[bs.getD k []]:=by rw[List.take_add_one,List.getD_eq_getElem?_getD,List.getElem?_eq_getElem hkN];rfl
   have hdrop:bs.drop k=bs.getD k []::bs.drop (k+1):=by rw[List.getD_eq_getElem?_getD,List.getElem?_eq_getElem hkN,List.drop_eq_getElem_cons hkN];rfl
   have hfull:FM=ZH m (bs.drop k):=by rw[hFM.out,JS bs ⟨[],[]⟩ k oX (by rw[hrep.out]),hrep.out]
   rw[hdrop,YF] at hfull
   have hsnoc:=UN ⟨[],[]⟩ (bs.take k) (bs.getD k []) (by rw[hrep.out])
   rw[<-htk,hrep.out] at hsnoc
   clear hdrop htk hmem
   generalize bs.getD k []=b at*
   obtain⟨hyo,hy0,hy20,hpG,hpR⟩:=NQ hb5
   have hst:YU m b=if (prs b).2≠0 then (⟨[],[]⟩,(prs b).2) else if (Zw m (prs b).1).2≠0 then (⟨[],[]⟩,(Zw m (prs b).1).2) else Zw m (prs b).1:=rfl
   have hcall:=Hd (hpG ai ci wr ea hAi (H.out.below hbw.out))
   have hfol:=Hd (λ(W:World) (vm:Value) (hv:ArgS W vm m) (HW:Errs 298 Zq W ea)=>VC vm m (prs b).1 hyo W hv (by have:=hsb.out.its;omega) (by have:=hsb.out.ens;omega) (λy hy=>by have:=hsb.out.us y hy;omega) ea HW)
   have hRs:(prs b).1.list.toArray.size=78:=Rc.size hyo
   have hR1:=Rc.all_one (prs b).1
   have iR:(Tryz.prog.info? 49).map (·.size)=some (prs b).1.list.toArray.size:=by rw[hRs];exact i78
   have zR:(Tryz.zeroCells49).size=(prs b).1.list.toArray.size:=by rw[hRs];exact z78
   obtain⟨L,hL⟩:∃ L,L=b.length:=⟨_,rfl⟩
   rw[<-hL] at hcall hce
   replace hL:=Hd hL
   clear hpG hpR hAi hRs
   obtain⟨FF,hFF⟩:∃ FF,FF=Zw m (prs b).1:=⟨_,rfl⟩
   rw[<-hFF] at hfol hst
   replace hFF:=Hd hFF
   generalize hPA:(prs b).1.list.toArray=PA at*
   generalize (prs b).2=PN at*
   replace hPA:=Hd hPA
   replace hst:=Hd hst
   replace hfull:=Hd hfull
   replace hsnoc:=Hd hsnoc
   replace hyo:=Hd hyo
   replace hy0:=Hd hy0
   go_wp2_with fail
   with_reducible refine hcall.out.mono ?_
   clear hcall
   rintro e w3 ⟨v3,rfl,hv3,hb3⟩
   have hnq:=hv3.neq
   have hgd:=hv3.guard
   clear hce
   replace bO:=Hd ((hb3.block _ (Zb bO.out)).trans bO.out)
   replace bS:=Hd ((hb3.block _ (Zb bS.out)).trans bS.out)
   replace hm:=Hd (hm.out.below hb3 nR)
   have hbw3:=Hd (hbw.out.trans (hb3.mono hszw))
   have hsz3:=hbw3.out.size
   have hZ3:=Hd (heap_alloc_new w3 (.cells Tryz.zeroCells49 49))
   clear hb3
   by_cases hn0:PN=0
   rotate_left
   ·have hne:(PN != 0)=true:=by simpa using hn0
    replace hfull:=hfull.out
    rw[hst.out,if_pos hn0,if_pos hn0] at hfull
    have hfull:=Hd hfull
    rw[hne] at hnq
    clear hfol hback
    go_wp2_with (first
     | ((with_reducible refine wL (.store 49 (.tmp 7) _) ?_);(refine Zc rfl 49 (.tmp 7) (.tmp 18) rfl w3.heap.size _ PA rfl rfl hZ3 iR zR hR1 ?_);intro w4 hU4;have hb4:Below w3.heap.size w3 w4:=(Below.alloc (Below.refl w3.heap.size w3) nR _).trans (hU4.out.below nR);have aR4:=Hd hU4.out.here;have bO4:=Hd ((hb4.block _ (Zb bO.out)).trans bO.out);have bS4:=Hd ((hb4.block _ (Zb bS.out)).trans bS.out);have hm4:=Hd (hm.out.below hb4 nR);have hbw4:=Hd (hbw3.out.trans (hb4.mono hsz3));have hsz4:=hbw4.out.size;have hv4:=Hd (hv3.below hb4))
     | ((with_reducible refine wL (.store 28 (.tmp 2) _) ?_);(refine Zc rfl 28 (.tmp 2) (.tmp 22) rfl w.heap.size #[.slice none 0 0,.slice none 0 0] #[.slice none 0 0,.slice none 0 0] rfl rfl bO4 iZ rfl (by simp[Value.oneCell']) ?_);intro w9 hU9;have hS:=Hd (hbw4.out.trans (hU9.out.below nR));have hres:=Hd hU9.out.here))
    refine Zf rfl rfl Tryz.underlying28 rfl kX hres.out ?_
    show Zv ea FM.1 FM.2 w _ _
    rw[hfull.out]
    exact hpost.out PN v3 _ hS.out (hv4.out.updS hU9.out bO4.out dX)
   obtain⟨hch,hout⟩:=hy0.out hn0
   subst hn0
   rw[show ((0:Nat) != 0)=false from rfl] at hnq
   rw[if_neg dX] at hst
   go_wp2_with (first
    | ((with_reducible refine wL (.store 49 (.tmp 7) _) ?_);(refine Zc rfl 49 (.tmp 7) (.tmp 18) rfl w3.heap.size _ PA rfl rfl hZ3 iR zR hR1 ?_);intro w4 hU4;have hb4:Below w3.heap.size w3 w4:=(Below.alloc (Below.refl w3.heap.size w3) nR _).trans (hU4.out.below nR);have aR4:=Hd hU4.out.here;have bO4:=Hd ((hb4.block _ (Zb bO.out)).trans bO.out);have bS4:=Hd ((hb4.block _ (Zb bS.out)).trans bS.out);have hm4:=Hd (hm.out.below hb4 nR);have hbw4:=Hd (hbw3.out.trans (hb4.mono hsz3));have hsz4:=hbw4.out.size;have hv4:=Hd (hv3.below hb4))
    | ((with_reducible refine wL (.load 28 (.tmp 4)) ?_);refine Ze rfl 28 (.tmp 4) rfl (w.heap.size+1) C _ rfl bS4 Tryz.underlying28 rfl iC ?_)
    | ((with_reducible refine wL (.load 49 (.tmp 7)) ?_);refine Ze rfl 49 (.tmp 7) rfl w3.heap.size PA _ rfl aR4 Tryz.underlying49 rfl iR ?_))
   with_reducible refine(hfol.out _ _ hm4.out (H.out.below hbw4.out)).mono ?_
   clear hfol hnq hgd
   rintro e w5 ⟨vm,v5,rfl,hm5,hv5,hb5,hf5⟩
   have hnq:=hv5.neq
   have hgd:=hv5.guard
   replace hv5:=Hd hv5
   obtain⟨C5,rfl⟩:∃ C5,vm=.agg C5:=by
    obtain⟨a,c,a',c',e,_⟩:=hm5.form
    exact⟨_,e⟩
   have hC5:C.size=C5.size:=by
    obtain⟨a,c,a',c',e,_⟩:=hm5.form
    cases e
    exact hC2
   have h1C5:C5.all (·.oneCell')=true:=by
    obtain⟨a,c,a',c',e,_⟩:=hm5.form
    cases e
    simp[Value.oneCell']
   have iC5:(Tryz.prog.info? 28).map (·.size)=some C5.size:=by rw[<-hC5];exact iC
   have bO5:=Hd ((hb5.block _ (Zb bO4.out)).trans bO4.out)
   have bS5:=Hd ((hb5.block _ (Zb bS4.out)).trans bS4.out)
   have hbw5:=Hd (hbw4.out.trans (hb5.mono hsz4))
   have hlt1:=Zb bS4.out
   have hf5':=Hd (hf5.mono (B':=w.heap.size+2) oX)
   replace hm5:=Hd hm5
   clear hb5 hf5
   by_cases hn1:FF.2=0
   rotate_left
   ·have hne:(FF.2 != 0)=true:=by simpa using hn1
    replace hfull:=hfull.out
    rw[hst.out,if_pos hn1,if_pos hn1] at hfull
    have hfull:=Hd hfull
    rw[hne] at hnq
    clear hback
    go_wp2_with (first
     | ((with_reducible refine wL (.store 28 (.tmp 4) _) ?_);(refine Zc rfl 28 (.tmp 4) (.tmp 28) rfl (w.heap.size+1) _ C5 rfl rfl bS5 iC5 hC5 h1C5 ?_);intro w6 hU6;have hbw6:=Hd (hbw5.out.trans (hU6.out.below oX));have bO6:=Hd ((hU6.out.block _ oX).trans bO5.out);have bS6:=Hd hU6.out.here;have hm6:=Hd (hm5.out.upd hf5'.out hU6.out oX);have hv6:=Hd (hv5.out.updS hU6.out bS5.out dX))
     | ((with_reducible refine wL (.store 28 (.tmp 2) _) ?_);(refine Zc rfl 28 (.tmp 2) (.tmp 32) rfl w.heap.size #[.slice none 0 0,.slice none 0 0] #[.slice none 0 0,.slice none 0 0] rfl rfl bO6 iZ rfl (by simp[Value.oneCell']) ?_);intro w9 hU9;have hS:=Hd (hbw6.out.trans (hU9.out.below nR));have hres:=Hd hU9.out.here))
    refine Zf rfl rfl Tryz.underlying28 rfl kX hres.out ?_
    show Zv ea FM.1 FM.2 w _ _
    rw[hfull.out]
    exact hpost.out FF.2 v5 _ hS.out (hv6.out.updS hU9.out bO6.out dX)
   rw[if_neg (by simpa using hn1)] at hst
   rw[hn1,show ((0:Nat) != 0)=false from rfl] at hnq
   rw[hst.out,if_neg (by simpa using hn1)] at hsnoc
   replace hsnoc:=Hd hsnoc.out
   replace hn1:=Hd hn1
   clear hfull
   go_wp2_with ((with_reducible refine wL (.store 28 (.tmp 4) _) ?_);(refine Zc rfl 28 (.tmp 4) (.tmp 28) rfl (w.heap.size+1) _ C5 rfl rfl bS5 iC5 hC5 h1C5 ?_);intro w6 hU6;have hbw6:=Hd (hbw5.out.trans (hU6.out.below oX));have bO6:=Hd ((hU6.out.block _ oX).trans bO5.out);have bS6:=Hd hU6.out.here;have hm6:=Hd (hm5.out.upd hf5'.out hU6.out oX);have hv6:=Hd (hv5.out.updS hU6.out bS5.out dX))
   refine hback.out _ _ kX ?_ ?_
   ·simp only[List.getD_cons_zero,List.getD_cons_succ]
    exact⟨k+1,FF.1,C5,oX,by go_num,hbw6.out,bO6.out,bS6.out,hm6.out,hf5'.out,hsnoc.out⟩
   ·have hU0:=hU0.out
    simp only[List.getD_cons_zero,List.getD_cons_succ,hU0,intOf]
    omega
  ·obtain rfl:k=N:=oX
   have hfull:=Hd (show FM=(m,0) by rw[hFM.out,<-hrep.out,hN.out,List.take_length])
   clear hback
   have hCz:(#[.slice none 0 0,.slice none 0 0]:Array Value).size=C.size:=by rw[hC2];rfl
   go_wp2_with (first
    | ((with_reducible refine wL (.load 28 (.tmp 4)) ?_);refine Ze rfl 28 (.tmp 4) rfl (w.heap.size+1) C _ rfl bS Tryz.underlying28 rfl iC ?_)
    | ((with_reducible refine wL (.store 28 (.tmp 2) _) ?_);(refine Zc rfl 28 (.tmp 2) (.tmp 35) rfl w.heap.size _ C rfl rfl bO iC hCz h1C ?_);intro w9 hU9;have hS:=Hd (hbw.out.trans (hU9.out.below nR));have hres:=Hd hU9.out.here))
   refine Zf rfl rfl Tryz.underlying28 rfl iC hres.out ?_
   show Zv ea FM.1 FM.2 w _ _
   rw[hfull.out]
   exact⟨_,_,rfl,hm.out.upd hfr.out hU9.out oX,.inl ⟨rfl,rfl⟩,hS.out,hfr.out.mono oX⟩
def LP.new(n:Nat):LP:=⟨DP.new (n:Int),[],0,false,0,[],⟨[],[]⟩⟩
def Dv(base:Nat)(w:World)(B mb mn n:Nat)(e:Ending)(w':World):Prop:=
 ∃ l V,e=.returned (.tuple #[.pointer (some ⟨l,0,none⟩),.nilIface])/\LdM base w' l V (LP.new n)/\V.B=B/\V.mb=mb/\V.mn<=mn+20000/\Below base w w'
theorem HC{base:Nat}{w:World}{B mb mn:Nat}{v:Value}(n:Nat)(h:DM base w B mb mn v (DP.new (n:Int)))(hb:base<=w.heap.size)(h1:1<=n)(hn:n<=1000)(hmn:mn<=20000)(e:Nat->Addr)(hBE:13≠B)(hEb:∀ W,Below base w W->DErr W e)(hK:ShaK w)(hF:ShaF w)(ea:Nat->Addr)(H:Errs 298 Zq w ea)(hHb:∀ W,Below base w W->Errs 298 Zq W ea) :
  Calls Tryz.prog 28 #[.pointer (some ⟨B,0,none⟩)] w (Dv base w B mb mn n):=by
 have hop:=Hd (Px h hb (GV n) h1 hn oX ⟨by show (-100000:Int)<=0;decide,by show (0:Int)<=100000;decide⟩ e hBE hEb hK hF (Nat.zero_le _) (λr hr=>absurd hr List.not_mem_nil))
 have iS:(Tryz.prog.info? 28).map (·.size)=some 2:=kX
 replace h:=Hd h
 replace hHb:=Hd hHb
 clear hK hF hEb H
 go_enter Tryz.func28,Tryz.ntmps28
 go_wp2_with fail
 with_reducible refine hop.out.mono ?_
 clear hop
 rintro x w2 ⟨J,rv,F,v2,mn2,rfl,hm2,hj2,hs2,hnew2⟩
 have hb2:Below base w w2:=hs2.below h.out hb
 have hz2:base<=w2.heap.size:=Nat.le_trans hb hb2.size
 have hre:=Hd (US hj2.jm dX)
 replace hj2:=Hd hj2
 replace hb2:=Hd hb2
 replace hm2:=Hd hm2
 clear hs2 hnew2
 go_wp2_with fail
 with_reducible refine hre.out.mono ?_
 clear hre
 rintro x w3 ⟨v3,F3,rfl,hrow,hF3,hb3⟩
 obtain⟨a3,c3,rfl,hA3⟩:=hrow.argBB
 have hB3:=hb2.out.trans (hb3.mono hz2)
 have hj3:=Hd (hj2.out.below hb3)
 have hrp:Calls Tryz.prog 8 #[.slice a3 0 c3] w3 (Zv ea ⟨[],[]⟩ 0 w3):=Kw a3 c3 [] w3 hA3 dX (λb hb=>absurd hb List.not_mem_nil) ea (hHb.out w3 hB3)
 replace hrp:=Hd hrp
 replace hB3:=Hd hB3
 clear hrow hF3 hb3 hA3
 go_wp2_with fail
 with_reducible refine hrp.out.mono ?_
 clear hrp
 rintro x w4 ⟨vm,v4,rfl,hm4,hv4,hb4,hf4⟩
 obtain⟨a4,c4,a5,c5,hvm⟩:=hm4.shape
 replace hvm:vm=.agg #[.slice a4 0 c4,.slice a5 0 c5]:=hvm
 subst hvm
 obtain rfl:=ErrIs.zero hv4
 have hB4:=Hd (hB3.out.trans (hb4.mono (Nat.le_trans hb hB3.out.size)))
 have hj4:=Hd (hj3.out.below hb4)
 have hZ4:=Hd (heap_alloc_new w4 (.cells #[.slice none 0 0,.slice none 0 0] 28))
 have iC:(Tryz.prog.info? 28).map (·.size)=some (#[.slice a4 0 c4,.slice a5 0 c5]:Array Value).size:=kX
 replace hm4:Hid (ArgS w4 (.agg #[.slice a4 0 c4,.slice a5 0 c5]) ⟨[],[]⟩):=Hd hm4
 clear hv4 hb4 hf4
 obtain⟨w5,hw5e⟩:∃ w5,w5=w4.alloc (.cells #[.slice a4 0 c4,.slice a5 0 c5] 28):=⟨_,rfl⟩
 have hb5:Below w4.heap.size w4 w5:=by rw[hw5e];exact bR.alloc nR _
 have aS5:Hid (w5.heap[w4.heap.size]? = some (.cells #[.slice a4 0 c4,.slice a5 0 c5] 28 (0,0))):=Hd (by rw[hw5e];exact heap_alloc_new w4 _)
 have hj5:=Hd (hj4.out.below hb5)
 have hm5:=Hd (hm4.out.below hb5 nR)
 have hB5:=Hd (hB4.out.trans (hb5.mono (Nat.le_trans hb hB4.out.size)))
 have hgn:=Hd (G7 w5)
 replace hw5e:=Hd hw5e
 clear hb5 hZ4
 go_wp2_with fail
 rw[<-hw5e.out]
 with_reducible refine hgn.out.mono ?_
 clear hgn
 rintro x w6 ⟨rfl,hf6,hb6⟩
 have aS6:=Hd ((hb6.block _ (Zb aS5.out)).trans aS5.out)
 have hj6:=Hd (hj5.out.below hb6)
 have hm6:=Hd (hm5.out.below hb6 nR)
 have hB6:=Hd (hB5.out.trans (hb6.mono (Nat.le_trans hb hB5.out.size)))
 have hre:=Hd (US hj6.out.jm dX)
 replace hf6:=Hd hf6
 clear hb6
 go_wp2_with fail
 with_reducible refine hre.out.mono ?_
 clear hre
 rintro x w7 ⟨v7,F7,rfl,hrow,hF7,hb7⟩
 obtain⟨a7,c7,rfl,_⟩:=hrow.argBB
 have aS7:=Hd ((hb7.block _ (Zb aS6.out)).trans aS6.out)
 have hj7:=Hd (hj6.out.below hb7)
 have hm7:=Hd (hm6.out.below hb7 nR)
 have hf7:=Hd (hf6.out.below hb7)
 have hB7:=Hd (hB6.out.trans (hb7.mono (Nat.le_trans hb hB6.out.size)))
 clear hrow hF7 hb7
 simp only[List.length_nil]
 go_wp2_with fail
 refine wp_loop_rounds 1 ?_
 rw[rounds_succ]
 go_wp2_with ((with_reducible refine wL (.load 28 (.tmp 6)) ?_);refine Ze rfl 28 (.tmp 6) rfl w4.heap.size #[.slice a4 0 c4,.slice a5 0 c5] _ rfl aS7 Tryz.underlying28 rfl iC ?_)
 go_ret2
 have hG:Below w7.heap.size w7 (w7.alloc (.cells #[.pointer (some ⟨J,0,none⟩),.slice a4 0 c4,.slice a5 0 c5,.pointer (some ⟨w5.heap.size,0,none⟩)] 124)):=bR.alloc nR _
 have hat:=heap_alloc_new w7 (.cells #[.pointer (some ⟨J,0,none⟩),.slice a4 0 c4,.slice a5 0 c5,.pointer (some ⟨w5.heap.size,0,none⟩)] 124 (0,0))
 have hnoS:∀ k,¬SD (.slice a4 0 c4) (.slice a5 0 c5) k:=by
  rintro k (⟨o,s,n,c2,e,hn⟩|⟨o,s,n,c2,e,hn⟩)
  ·cases e;omega
  ·cases e;omega
 have hj5l:∀ k,JF J F rv k\/ZE B mb v2 k->k<w5.heap.size:=λk hk=>by
  rcases hk with q|q
  ·exact(hj5.out.jm.lt k q).2
  ·exact(hj5.out.dm.lt k q).2
 have hfl:=Zb hf7.out.at_
 have hw5:=hB5.out.size
 have hfr:FrM base (w7.alloc (.cells #[.pointer (some ⟨J,0,none⟩),.slice a4 0 c4,.slice a5 0 c5,.pointer (some ⟨w5.heap.size,0,none⟩)] 124)) w5.heap.size 0 (.slice none 0 0) []:=
  ⟨(hf7.out.below hG).at_,RowsOf.nil _ _,by simp[Value.ownBlock],oX⟩
 have hnF:∀ k,FrD w5.heap.size (.slice none 0 0) k->k=w5.heap.size:=λk hk=>by
  rcases hk with q|q
  ·exact q
  ·simp[Value.ownBlock] at q
 exact⟨w7.heap.size,⟨J,B,mb,mn2,w5.heap.size,v2,rv,.slice none 0 0,.slice a4 0 c4,.slice a5 0 c5,F⟩,rfl,⟨hj7.out.below hG,hat,hm7.out.below hG nR,hfr,by have:=hB7.out.size;omega,λk hk=>absurd hk (hnoS k),hnoS _,λhk=>by have:=hnF _ hk;omega,λhk=>by have:=hj5l _ hk;omega,λk hk=>absurd hk (hnoS k),λk hk=>absurd hk (hnoS k),λk hk hd=>by have:=hnF _ hk;have:=hj5l _ hd;omega⟩,rfl,rfl,hm2.out,hB7.out.trans (hG.mono (Nat.le_trans hb hB7.out.size))⟩
theorem JT(C:Array Value)(o:Nat)(u:Value)(h:o<C.size):ZU C o [u]=C.setIfInBounds o u:=by
 rw[<-Ku C o u [] h,G2]
theorem YB(fn:Nat->Option (Nat×Nat))(C:Array Value)(i o:Nat)(v:Value)(ps:List (Nat×Value))(h1:fn i=some (o,v.cells.size))(hs:o+v.cells.size<=C.size) :
  Instr.fill fn C ((i,v)::ps)=Instr.fill fn (ZU C o v.cells.toList) ps:=by
 conv=>lhs;unfold Instr.fill
 simp only[h1]
 rw[if_neg sY]
 obtain⟨g1,g2⟩:=Go.Great.foldl_set o v.cells.toList 0 C
 have hll:v.cells.toList.length=v.cells.size:=Array.length_toList ..
 generalize hl:v.cells.toList=l at*
 have hfold:Array.foldl (λcs (x:Value×Nat)=>cs.setIfInBounds (o+x.2) x.1) C v.cells.zipIdx=ZU C o l:=by
  rw[<-Array.foldl_toList,Array.toList_zipIdx,hl]
  apply Array.ext_getElem?
  intro k
  rw[g2 k]
  unfold ZU
  simp only[Nat.add_zero,List.getElem?_toArray]
  have hC:C.toList.length=C.size:=Array.length_toList ..
  by_cases hk:o<=k/\k<o+l.length/\k<C.size
  ·rw[if_pos hk,List.getElem?_append_right (by rw[List.length_take];omega),List.getElem?_append_left (by rw[List.length_take];omega)]
   congr 1
   rw[List.length_take];omega
  ·rw[if_neg hk]
   by_cases hk1:k<o
   ·rw[List.getElem?_append_left (by rw[List.length_take];omega),List.getElem?_take,if_pos hk1,Array.getElem?_toList]
   ·rw[List.getElem?_append_right (by rw[List.length_take];omega),List.getElem?_append_right (by rw[List.length_take];omega),List.getElem?_drop,List.length_take,<-Array.getElem?_toList]
    congr 1
    omega
 rw[hfold]
theorem WF(fn:Nat->Option (Nat×Nat))(C:Array Value):Instr.fill fn C []=some C:=by simp[Instr.fill]
theorem GM{P:Program}{t:TypeId}{fs:Array Field}{places:List (Nat×Nat)}{Z:List Value}(hz:(P.info? t).map (λi=>i.zero.map (·.cells.toList))=some (some Z))(hu:P.underlying t=some (.struct fs))(hp:fs.toList.mapM (λf=>(P.info? f.type).map λi=>(f.offset,i.size))=some places)
  (ps:List (Nat×Value)):P.built t ps=Instr.fill (λi=>places.toArray[i]?) Z.toArray ps:=by
 obtain⟨it,hit,h2⟩:=Option.map_eq_some_iff.1 hz
 obtain⟨z,hz1,hz2⟩:=Option.map_eq_some_iff.1 h2
 unfold Program.built
 simp only[hit,hu,hz1,hp]
 have hz3:z.cells=Z.toArray:=by rw[<-hz2]
 rw[hz3]
def Ph(w:World)(m:St)(e:Ending)(w':World):Prop:=∃ v v',e=.returned (.agg #[v,v'])/\RowsOf RI 58 76 w.heap.size w' (λ_=>False) v m.its/\RowsOf RE 66 7 w.heap.size w' (λ_=>False) v' m.ens/\Below w.heap.size w w'
theorem Rt{base:Nat}{w:World}{l:Nat}{V:LV}{P:LP}(h:LdM base w l V P)(l1:P.m.its.length<=1000)(l2:P.m.ens.length<=1000):Calls Tryz.prog 23 #[.pointer (some ⟨l,0,none⟩)] w (Ph w P.m):=by
 obtain⟨w1,hw1⟩:∃ w1,w1=w.alloc (.cells #[.slice none 0 0,.slice none 0 0] 28):=⟨_,rfl⟩
 have hb1:Below w.heap.size w w1:=by rw[hw1];exact bR.alloc nR _
 have a1:w1.heap[w.heap.size]? = some (.cells #[.slice none 0 0,.slice none 0 0] 28 (0,0)):=by rw[hw1];exact heap_alloc_new w _
 have h1:=h.below hb1
 have c1:w1.cell? ⟨l,1,none⟩=some V.sI:=by rw[Za h1.at_];rfl
 have c2:w1.cell? ⟨l,2,none⟩=some V.sE:=by rw[Za h1.at_];rfl
 have hcp:=Hd (X8 _ P.m w1 h1.st l1 l2)
 obtain⟨sI,hsI⟩:∃ sI,sI=V.sI:=⟨_,rfl⟩
 obtain⟨sE,hsE⟩:∃ sE,sE=V.sE:=⟨_,rfl⟩
 rw[<-hsI] at c1 hcp
 rw[<-hsE] at c2 hcp
 have hs1:w1.heap.size=w.heap.size+1:=by rw[hw1];simp
 replace hw1:=Hd hw1
 replace hb1:=Hd hb1
 replace a1:=Hd a1
 replace hs1:=Hd hs1
 clear h h1 hsI hsE l1 l2
 go_enter Tryz.func23,Tryz.ntmps23
 go_upto_region 1 with fail
 rw[<-hw1.out]
 go_wp2_with fail
 with_reducible refine hcp.out.mono ?_
 clear hcp
 rintro e w2 ⟨v,v',rfl,hrI,hrE,_,hb2⟩
 have a2:=Hd ((hb2.block _ (Zb a1.out)).trans a1.out)
 obtain⟨a4,c4,hv4,_⟩:=hrI.form
 obtain⟨a5,c5,hv5,_⟩:=hrE.form
 subst hv4 hv5
 have iC:(Tryz.prog.info? 28).map (·.size)=some (#[.slice a4 P.m.its.length c4,.slice a5 P.m.ens.length c5]:Array Value).size:=kX
 have hB2:=Hd (hb1.out.trans (hb2.mono hb1.out.size))
 have hn4:=Hd (λk (hk:(Value.slice a4 P.m.its.length c4).ownBlock=some k)=>(hrI.ownLt k hk).1)
 have hn5:=Hd (λk (hk:(Value.slice a5 P.m.ens.length c5).ownBlock=some k)=>(hrE.ownLt k hk).1)
 replace hrI:=Hd hrI
 replace hrE:=Hd hrE
 clear hb2
 go_wp2_with ((with_reducible refine wL (.store 28 (.tmp 2) _) ?_);(refine Zc rfl 28 (.tmp 2) (.tmp 7) rfl w.heap.size #[.slice none 0 0,.slice none 0 0] #[.slice a4 P.m.its.length c4,.slice a5 P.m.ens.length c5] rfl rfl a2 iC rfl (by simp[Value.oneCell']) ?_);intro w3 hU3)
 refine ZM rfl rfl Tryz.underlying28 rfl iC hU3.out.here ?_
 have hO:Only (λk=>k=w.heap.size) w2 w3:=Only.ofUpd hU3.out rfl
 have hlt:=hs1.out
 exact⟨_,_,rfl,(hrI.out.only Zt hO (λk hk=>hk.elim) (λk hk e=>by have:=hn4.out k hk;omega)).mono oX,(hrE.out.only Zr hO (λk hk=>hk.elim) (λk hk e=>by have:=hn5.out k hk;omega)).mono oX,hB2.out.trans (hU3.out.below nR)⟩
def VF(n:Int)(s:ByteArray)(p:P6)(root file:List UInt8)(t:Int):Rc:=⟨1,n,0,s,p,root,file,0,0,0,t⟩
theorem Gs(n:Int)(s:ByteArray)(p:P6)(root file:List UInt8)(t:Int)(h1:root.length=32)(h2:file.length=32)(W:World) :
  (Instr.build 49 #[(0,.int .i64 1),(1,.int .i64 n),(3,.string s),(4,.agg p.list.toArray),(5,.agg (cB root).toArray),(6,.agg (cB file).toArray),(10,.int .i64 t)]).run Tryz.prog W=.ok (.agg (VF n s p root file t).list.toArray) W:=by
 refine run_build W _ _ _ ?_
 have hz:z32.length=32:=Zh
 have s78:∀ y:Rc,y.root.length=32->y.file.length=32->y.list.toArray.size=78:=λy q1 q2=>by rw[List.size_toArray,Rc.len q1 q2]
 rw[GM (P:=Tryz.prog) (t:=49) (Z:=Rc.zero.list) (places:=[(0,1),(1,1),(2,1),(3,1),(4,6),(10,32),(42,32),(74,1),(75,1),(76,1),(77,1)]) kX Tryz.underlying49 kX]
 rw[YB _ _ 0 0 _ _ rfl (by rw[s78 _ hz hz];exact Nat.le_of_ble_eq_true rfl),show (Value.int .i64 1).cells.toList=[.int .i64 1] from rfl,JT _ _ _ (by rw[s78 _ hz hz];decide),Rc.set0]
 rw[YB _ _ 1 1 _ _ rfl (by rw[s78 _ hz hz];exact Nat.le_of_ble_eq_true rfl),show (Value.int .i64 n).cells.toList=[.int .i64 n] from rfl,JT _ _ _ (by rw[s78 _ hz hz];decide),Rc.set1]
 rw[YB _ _ 3 3 _ _ rfl (by rw[s78 _ hz hz];exact Nat.le_of_ble_eq_true rfl),show (Value.string s).cells.toList=[.string s] from rfl,JT _ _ _ (by rw[s78 _ hz hz];decide),Rc.set3]
 rw[YB _ _ 4 4 _ _ rfl (by rw[s78 _ hz hz];exact Nat.le_of_ble_eq_true rfl),show (Value.agg p.list.toArray).cells.toList=p.list from rfl,Rc.patch_p]
 rw[YB _ _ 5 10 (.agg (cB root).toArray) _ (by show _=some (10,(cB root).toArray.size);rw[List.size_toArray,Zg,h1];rfl) (by rw[s78 _ hz hz];show 10+(cB root).toArray.size<=78;rw[List.size_toArray,Zg,h1];decide),show (Value.agg (cB root).toArray).cells.toList=cB root from rfl,Rc.patch_root hz h1]
 rw[YB _ _ 6 42 (.agg (cB file).toArray) _ (by show _=some (42,(cB file).toArray.size);rw[List.size_toArray,Zg,h2];rfl) (by rw[s78 _ h1 hz];show 42+(cB file).toArray.size<=78;rw[List.size_toArray,Zg,h2];decide),show (Value.agg (cB file).toArray).cells.toList=cB file from rfl,Rc.patch_file h1 hz h2]
 rw[YB _ _ 10 77 _ _ rfl (by rw[s78 _ h1 h2];exact Nat.le_of_ble_eq_true rfl),show (Value.int .i64 t).cells.toList=[.int .i64 t] from rfl,JT _ _ _ (by rw[s78 _ h1 h2];decide),Rc.set77 h1 h2,WF]
 rfl
end Go.Proofs.YtpdhceiodgnbmaaGreatDoor
