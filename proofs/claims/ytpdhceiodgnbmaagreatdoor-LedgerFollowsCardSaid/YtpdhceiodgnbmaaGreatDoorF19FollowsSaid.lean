import Derived.Test.YtpdhceiodgnbmaaGreatDoorF0FollowsSaid
import Derived.Test.YtpdhceiodgnbmaaGreatDoorF1FollowsSaid
import Derived.Test.YtpdhceiodgnbmaaGreatDoorF18FollowsSaid
import Derived.RangeFuncWrites
import Derived.RangeFuncLeaves
import Derived.TacticsInMore
set_option linter.unusedVariables false
set_option linter.unusedSimpArgs false
set_option linter.unnecessarySimpa false
set_option maxRecDepth 100000
set_option maxHeartbeats 8000000
namespace Go.Proofs.YtpdhceiodgnbmaaGreatDoor
open Go.RowKit Go.Shelf
@[irreducible] def zero32:Array Value:=(cB (tab 32 λ_=>0)).toArray
theorem QH(w:World):(zeroValue 47).run Tryz.prog w=.ok (.agg zero32) w:=kX
theorem Yi:zero32.size=32:=kX
theorem QS:zero32≠#[]:=λe=>by have:=Yi;rw[e] at this;cases this
theorem UH:zero32=(cB (tab 32 λ_=>0)).toArray:=by unfold zero32;rfl
section
variable {w:World} {ops:Array Oper} {rest:List Oper} {o:Oper} {a:Act} {Q:Exit->Act->World->Prop}
theorem XU(hgd:o.guard=none)(s x:Operand)(ho:o.op=.call { callee:=.builtin .append,args:=#[s,x],argTypes:=#[24,24] })
  (base:Nat) (v:Value) (bs:List UInt8) (hs:a.eval s=v) (hown:Hid (OwnB base w v bs))
  (u:UInt8) (z:Int) (hz:z=(u.toNat:Int)) (hx:a.eval x=.slice (some ⟨w.heap.size,0,none⟩) 1 1) (hl:bs.length<=1000000) (hbase:base<=w.heap.size)
  (h:∀ v' w',Hid (OwnB base w' v' (bs++[u]))->Hid (Below base w w')->wpList Tryz.prog ops Q rest (a.put o.dst v') w') :
  wpList Tryz.prog ops Q (o::rest) a (w.alloc (.cells #[.int .u8 z] 5)):=by
 subst hz
 exact KO hgd s x ho base v bs hs hown u hx hl hbase h
end
def QU(m:List UInt8)(k:Nat):List UInt8:=m.drop (64*(m.length / 64))++[128]++List.replicate k 0
theorem XD(m:List UInt8)(k:Nat):(QU m k).length=m.length % 64+1+k:=by simp[QU];omega
theorem Mo(m:List UInt8)(k:Nat):QU m (k+1)=QU m k++[0]:=by simp[QU,List.replicate_succ']
def Uy(n j:Nat):UInt8:=UInt8.ofNat (8*n / 2 ^ (8*(7-j)))
def QD(m:List UInt8)(j:Nat):List UInt8:=QU m (Y1 m.length)++(List.range j).map (Uy m.length)
theorem NU(m:List UInt8)(j:Nat):QD m (j+1)=QD m j++[Uy m.length j]:=by simp[QD,List.range_succ]
theorem KR(m:List UInt8)(j:Nat):(QD m j).length=m.length % 64+1+Y1 m.length+j:=by simp[QD,XD]
theorem Gt(m:List UInt8):QD m 8=(X2 m).drop (64*(m.length / 64)):=by
 unfold QD QU X2 be8 Uy
 rw[List.append_assoc,List.append_assoc,List.append_assoc,List.append_assoc,List.drop_append_of_le_length oX]
theorem RG(n j:Nat):(n:Int)*8 / 2 ^ (56-8*j) % 256=((Uy n j).toNat:Int):=by
 unfold Uy
 rw[UInt8.toNat_ofNat',Nat.mul_comm 8 n,show 8*(7-j)=56-8*j from by omega]
 rw[show ((n:Int)*8)=((n*8:Nat):Int) from by omega,show (2:Int) ^ (56-8*j)=((2 ^ (56-8*j):Nat):Int) from by simp,<-Int.natCast_ediv]
 omega
def Rs:Value->Nat
 | .slice _ n _=>n
 | _=>0
theorem Pt(m:List UInt8)(q:Nat)(h:(QD m 8).length=64*q):sha m=QN (ZE (ZE ZQ m (m.length / 64)) (QD m 8) q):=by
 have h2:=Gt m
 have h3:(X2 m).length=64*(m.length / 64)+64*q:=by
  have h4:(X2 m).length-64*(m.length / 64)=64*q:=by rw[<-List.length_drop,<-h2,h]
  have h5:m.length<=(X2 m).length:=by simp[X2]
  omega
 have h6:ZE ZQ (X2 m) (m.length / 64)=ZE ZQ m (m.length / 64):=by
  have:=XC ZQ m ([128]++List.replicate (Y1 m.length) 0++be8 (8*m.length)) (m.length / 64) oX
  rw[<-this]
  simp[X2,List.append_assoc]
 unfold sha
 rw[show (X2 m).length / 64=m.length / 64+q from by omega,UI,h6,<-h2]
theorem Hm(s:S8)(i k:Nat)(hi:i<8)(hk:k<4):((cf (QN s) (4*i+k)).toNat:Int)=wn (sAt s i) / 2 ^ (24-8*k) % 256:=by
 have h:cf (QN s) (4*i+k)=UInt8.ofNat ((sAt s i).toNat / 2 ^ (24-8*k)):=by
  have hi':i=0\/i=1\/i=2\/i=3\/i=4\/i=5\/i=6\/i=7:=oX
  have hk':k=0\/k=1\/k=2\/k=3:=oX
  rcases hi' with rfl|rfl|rfl|rfl|rfl|rfl|rfl|rfl<;>rcases hk' with rfl|rfl|rfl|rfl<;>simp[QN,YJ,cf,sAt]
 rw[h,UInt8.toNat_ofNat']
 unfold wn
 rw[show (2:Int) ^ (24-8*k)=((2 ^ (24-8*k):Nat):Int) from by simp,<-Int.natCast_ediv]
 omega
def Yc(s:S8)(n i:Nat):UInt8:=if i<n then cf (QN s) i else 0
theorem NH(s:S8):tab 32 (Yc s 0)=tab 32 λ_=>0:=JN λi _=>by unfold Yc;rw[if_neg (Nat.not_lt_zero i)]
theorem H2(s:S8)(n:Nat):(tab 32 (Yc s n)).set n (cf (QN s) n)=tab 32 (Yc s (n+1)):=by
 rw[RC]
 refine JN λi _=>?_
 unfold Yc
 by_cases h:i=n
 ·subst h;rw[if_pos rfl,if_pos (Nat.lt_succ_self i)]
 ·rw[if_neg h]
  by_cases h2:i<n
  ·rw[if_pos h2,if_pos oX]
  ·rw[if_neg h2,if_neg oX]
theorem H3(s:S8):tab 32 (Yc s 32)=QN s:=by
 have h:tab 32 (Yc s 32)=tab (QN s).length (cf (QN s)):=JN λi hi=>by unfold Yc;rw[if_pos hi]
 rw[h,Pz]
theorem Pa(l:List UInt8)(j:Nat)(x:UInt8):(cB l).toArray.setIfInBounds j (.int .u8 (x.toNat:Int))=(cB (l.set j x)).toArray:=by
 simp[cB,List.map_set]
theorem PQ(l:List UInt8){j:Nat}(h:j<l.length):(cB l).toArray[j]? = some (.int .u8 ((cf l j).toNat:Int)):=by
 simp[cB,cf,h]
theorem PZ(s:S8)(t:Nat)(h:t<8)(w:World):(Instr.index 273 (.agg (c8 s)) (.int .i64 (t:Int))).run Tryz.prog w=.ok (.int .u32 (wn (sAt s t))) w:=by
 have hs:(sizeOf 239).run Tryz.prog w=.ok 1 w:=kX
 have hp:(part 239 (c8 s) t).run Tryz.prog w=.ok (.int .u32 (wn (sAt s t))) w:=by
  simp[part,isAgg,run_underlying Tryz.underlying239]
  have:=Mt s h
  simp[this]
 have ht:(t:Int)<8:=oX
 simp[Instr.index,asIntOf,run_underlying Tryz.underlying273,hs,hp,h]
structure OutSt (w:World) (f:Nat->UInt8) (W:World):Prop where
 row:W.heap[w.heap.size]? = some (.cells (cB (tab 32 f)).toArray 47 (0,0))
 bel:Below w.heap.size w W
theorem OutSt.cell{w:World}{f:Nat->UInt8}{W:World}(h:OutSt w f W){j:Nat}(hj:j<32):W.cell? ⟨w.heap.size,j,none⟩=some (.int .u8 ((f j).toNat:Int)):=by
 rw[Za h.row,PQ _ (by rw[QF];exact hj),Jh,if_pos hj]
theorem OutSt.free{w:World}{f:Nat->UInt8}{W:World}(h:OutSt w f W)(j:Nat):W.frozen? ⟨w.heap.size,j,none⟩=false:=Zm h.row _
theorem OutSt.set{w:World}{s:S8}{n:Nat}{W:World}(h:OutSt w (Yc s n) W):OutSt w (Yc s (n+1)) (W.setCell ⟨w.heap.size,n,none⟩ (.int .u8 ((cf (QN s) n).toNat:Int))):=by
 have hu:=(Upd.refl h.row).setCell (j:=n) (.int .u8 ((cf (QN s) n).toNat:Int))
 have hu2:=hu.to (show _=Obj.cells (cB (tab 32 (Yc s (n+1)))).toArray 47 (0,0) from by rw[Pa,H2])
 exact⟨hu2.here,h.bel.trans (hu2.below nR)⟩
structure ChSt (w:World) (p Bs Ns:Nat) (v:Value) (T:List UInt8) (S:S8) (W:World):Prop where
 row:W.heap[p]? = some (.cells (c8 S) 273 (0,0))
 bB:Boxed W Bs 24 v
 bN:Boxed W Ns 3 (.int .i64 64)
 own:OwnB (w.heap.size+1) W v T
 res:W.heap[w.heap.size]? = some (.cells zero32 47 (0,0))
 bel:Below w.heap.size w W
 ne:p≠Bs/\p≠Ns/\w.heap.size<p
theorem Xk{W W':World}{row:Option Nat}{b:Nat}{o:Obj}(h:W.heap[b]? = some o)(ho:o.isCells=true)(hg:W.grownBy W' row)(hr:∀ r,row=some r->∃ o:Obj,W.heap[r]? = some o/\o.isCells=false):W'.heap[b]? = some o:=
 (hg.block b (Zb h) (λe=>by obtain⟨o',h',h2⟩:=hr b e.symm;rw[h] at h';cases h';rw[ho] at h2;cases h2)).trans h
theorem OwnB.keptIn{base:Nat}{W W':World}{row:Option Nat}{v:Value}{bs:List UInt8}(h:OwnB base W v bs)(hg:W.grownBy W' row)(hr:∀ r,row=some r->∃ o:Obj,W.heap[r]? = some o/\o.isCells=false):OwnB base W' v bs:=by
 refine⟨h.1,?_⟩
 rcases h.2 with h2|⟨g,cap,cur,e1,e2,e3,e4⟩
 ·exact .inl h2
 ·exact .inr ⟨g,cap,cur,e1,e2,Xk e3 rfl hg hr,e4⟩
theorem ChSt.kept{w:World}{p Bs Ns:Nat}{v:Value}{T:List UInt8}{S:S8}{W W':World}{row:Option Nat}{B:Nat}(h:ChSt w p Bs Ns v T S W)(hB:w.heap.size<=B)(hg:W.grownBy W' row)(hr:∀ r,row=some r->B<=r/\∃ o:Obj,W.heap[r]? = some o/\o.isCells=false):ChSt w p Bs Ns v T S W':=
 have hr2:=λr e=>(hr r e).2
 ⟨Xk h.row rfl hg hr2,Xk h.bB rfl hg hr2,Xk h.bN rfl hg hr2,h.own.keptIn hg hr2,Xk h.res rfl hg hr2,h.bel.grown hg h.bel.size (λk e=>Nat.le_trans hB (hr k e).1),h.ne⟩
theorem MC{w:World}{a:Option Addr}{c c':Nat}{bs:List UInt8}(h:ArgB w a c bs)(h1:bs.length<=c')(h2:c'<=maxLen)(h3:a=none->c'=0):ArgB w a c' bs:=⟨h1,h2,h3,h.row⟩
theorem HH{base g c:Nat}{W:World}{T:List UInt8}(h:OwnB base W (.slice (some ⟨g,0,none⟩) T.length c) T)(x:Nat)(hx:64*x+64<=T.length):ArgB W (some ⟨g,64*x,none⟩) 64 ((T.drop (64*x)).take 64):=by
 obtain⟨a',c',hv,hr,_⟩:=h.arg
 cases hv
 have h1:=VQ hr (64*x) oX
 rw[Nat.zero_add] at h1
 have h2:=VW h1 64 (by rw[List.length_drop];omega)
 exact MC h2 (by rw[List.length_take,List.length_drop];omega) (by unfold maxLen;omega) (λe=>by cases e)
section
attribute [local go_sem] Oper.semAt_some
variable {F:Fence} {n:Nat} {P:Program} {ops:Array Oper} {rest:List Oper} {o:Oper} {a:Act} {w:World} {Q:Exit->Act->World->Prop}
theorem J2(hgd:o.guard=none)(ty:TypeId)(x y:Operand)(ho:o.op=.store ty x y)(g:Nat)(c c':Array Value)
  (hx:a.eval x=.pointer (some ⟨g,0,none⟩)) (hy:a.eval y=.agg c') (hg:Hid (w.heap[g]? = some (.cells c ty (0,0)))) (hi:(P.info? ty).map (·.size)=some c'.size) (hs:c.size=c'.size) (h1:c'.all (·.oneCell')=true)
  (h:∀ w',Hid (Upd g (.cells c' ty (0,0)) w w')->wpListIn F n P ops Q rest (a.put o.dst undef) w'):wpListIn F n P ops Q (o::rest) a w:=by
 refine wpListIn_plain hgd λK hK=>?_
 have h2:=hK _ _ (h _ (Hd (Upd.setRow (cs:=c') hg.out)))
 refine⟨λf hf=>(by simp[Oper.about,ho] at hf),?_⟩
 rw[Oper.semAt_eq _ _ _ (by rw[ho];simp)]
 unfold execOp
 simp only[ho,hx,hy,Instr.storeAt,Instr.sureAddr,Sem.run_bind,Sem.run_pure,Result.andThen_ok,run_storeVar_row w g ty ty c c' hg.out hi hs h1]
 exact h2
theorem Vd(hgd:o.guard=none)(ty:TypeId)(x:Operand)(ho:o.op=.load ty x)(g:Nat)(c:Array Value)(d:TypeDesc)
  (hx:a.eval x=.pointer (some ⟨g,0,none⟩)) (hg:Hid (w.heap[g]? = some (.cells c ty (0,0)))) (hu:P.underlying ty=some d) (hd:(match d with | .struct _ | .array _ _=>true|_=>false)=true) (hi:(P.info? ty).map (·.size)=some c.size)
  (h:wpListIn F n P ops Q rest (a.put o.dst (.agg c)) w):wpListIn F n P ops Q (o::rest) a w:=by
 refine wpListIn_plain hgd λK hK=>?_
 have h2:=hK _ _ h
 refine⟨λf hf=>(by simp[Oper.about,ho] at hf),?_⟩
 rw[Oper.semAt_eq _ _ _ (by rw[ho];simp)]
 unfold execOp
 simp only[ho,hx,Instr.loadAt,Instr.sureAddr,Sem.run_bind,Sem.run_pure,Result.andThen_ok,run_loadVar_row w g ty ty c (0,0) d hg.out hu hd hi]
 exact h2
end
structure SumSt (w:World) (v:Value) (bs:List UInt8) (W:World):Prop where
 own:OwnB (w.heap.size+1) W v bs
 res:W.heap[w.heap.size]? = some (.cells zero32 47 (0,0))
 bel:Below w.heap.size w W
 siz:w.heap.size+1<=W.heap.size
theorem SumSt.next{w:World}{v v':Value}{bs bs':List UInt8}{W W':World}(h:SumSt w v bs W)(ho:OwnB (w.heap.size+1) W' v' bs')(hb:Below (w.heap.size+1) W W'):SumSt w v' bs' W':=
 ⟨ho,(hb.block _ (Nat.lt_succ_self _)).trans h.res,h.bel.trans (hb.mono (Nat.le_succ _)),Nat.le_trans h.siz hb.size⟩
attribute [local go_sem] Oper.semAt_some in
theorem RK(w0:World)(b:Nat)(m:List UInt8)(w:World)(hH:JJ w0 b m w)(hK:ShaK w0)(hm:m.length<=200000) :
  Calls Tryz.prog 139 #[.pointer (some ⟨b,0,none⟩)] w λe w'=>e=.returned (.agg (cB (sha m)).toArray)/\Below w.heap.size w w':=by
 obtain⟨a1,n1,c1,hA,hO,hbb⟩:=hH
 have zr:=QH
 have zn:=QS
 have hpl0:=XD m 0
 have e8:w.cell? ⟨b,8,none⟩=some (.slice a1 n1 c1):=hA.restAt
 obtain⟨a1',c1',hv,hR,_⟩:=hO.arg
 rw[List.length_drop] at hv
 cases hv
 obtain⟨A1,hA1⟩:∃ A,A=w.alloc (.cells zero32 47):=⟨_,rfl⟩
 have hb1:Below w.heap.size w A1:=by rw[hA1];exact(Below.refl w.heap.size w).alloc nR _
 have hs1:A1.heap.size=w.heap.size+1:=by rw[hA1];simp
 have hz1:A1.heap[w.heap.size]? = some (.cells zero32 47 (0,0)):=by rw[hA1];exact heap_alloc_new w _
 have e81:A1.cell? ⟨b,8,none⟩=some (.slice a1 (m.length-64*(m.length / 64)) c1):=(hb1.cell (Zb hA.blk)).trans e8
 have hcl:=Xj a1 c1 (m.drop (64*(m.length / 64))) A1 (hR.below hb1) (by rw[List.length_drop];omega)
 rw[List.length_drop] at hcl
 replace hcl:=Hd hcl
 rw[hA1] at e81
 replace hA1:=Hd hA1
 have hlr:=Hd (show (m.drop (64*(m.length / 64))).length<=64 from by rw[List.length_drop];omega)
 replace hb1:=Hd hb1
 replace hs1:=Hd hs1
 replace hz1:=Hd hz1
 have hBel:=Hd hA.bel
 replace hA:=Hd hA
 replace hK:=Hd hK
 replace hO:=Hd hO
 replace hpl0:=Hd hpl0
 clear e8 hR
 generalize m.length-64*(m.length / 64)=n1 at*
 have zr8:=UL
 have zn8:=K8
 refine(callsIn_wide (n:=5)).1 ?_
 refine callsIn_of_wp_marks Tryz.func139 rfl trivial ?_ rfl
 refine wpIn_wide.2 ?_
 simp only[Tryz.ntmps139,List.size_toArray,List.length_cons,List.length_nil,Nat.reduceAdd,Nat.reduceSub,Array.replicate_succ,Array.replicate_zero,List.push_toArray,List.append_toArray,List.nil_append,List.cons_append]
 go_wp2_with fail
 rw[<-hA1.out]
 with_reducible refine hcl.out.mono ?_
 rintro e w1 ⟨v,rfl,ho,hd⟩
 rw[hs1.out] at ho hd
 have hsz:=hd.size
 replace ho:=Hd ho
 have hl64:(m.drop (64*(m.length / 64))).length<=1000000:=by have:=hlr.out;omega
 have hsz1:w.heap.size+1<=w1.heap.size:=by rw[<-hs1.out];exact hsz
 clear hsz
 go_wp2_with (at_builtin;go_must (refine XU rfl (.tmp 15) (.tmp 16) rfl (w.heap.size+1) v _ rfl ho 128 128 rfl rfl hl64 hsz1 ?_))
 intro v2 w2 ho2 hd2
 have hS:=Hd (show SumSt w v2 (QU m 0) w2 from⟨by simpa[QU] using ho2.out,(hd2.out.block _ (Nat.lt_succ_self _)).trans ((hd.block _ (Nat.lt_succ_self _)).trans hz1.out),hb1.out.trans ((hd.mono (Nat.le_succ _)).trans (hd2.out.mono (Nat.le_succ _))),Nat.le_trans hsz1 hd2.out.size⟩)
 clear ho2 hd2 ho hcl hd hz1 e81 hsz1 hl64
 go_wp2_with fail
 go_loopw [3] (λv wr=>∃ k:Nat,k<=Y1 m.length/\SumSt w v (QU m k) wr)
  (λv _=>Y1 m.length+65-Rs v)
 case atStart=>exact⟨0,Nat.zero_le _,hS.out⟩
 case round=>
  clear hS
  obtain⟨k,hk,hS⟩:=hrel
  obtain⟨a3,c3,rfl,_,_⟩:=hS.own.arg
  have hpl:=XD m k
  have hps:=Hd (Mo m k)
  have hown:=Hd hS.own
  have hsiz:=hS.siz
  replace hS:=Hd hS
  by_cases hlt:k<Y1 m.length
  ·have hne:¬(((QU m k).length:Int) % 64=56):=by unfold Y1 at hlt;omega
   have hll:(QU m k).length<=1000000:=by unfold Y1 at hlt;omega
   replace hpl:=Hd hpl
   generalize hT:QU m k=T at*
   go_wp2_with (at_builtin;go_must (refine XU rfl (.tmp 22) (.tmp 23) rfl (w.heap.size+1) _ T rfl hown 0 0 rfl rfl hll hsiz ?_))
   intro v5 w5 ho5 hd5
   have hS5:=Hd (hS.out.next (by rw[<-hps.out] at ho5;exact ho5.out) hd5.out)
   obtain⟨a5,c5,hv5,_,_⟩:=ho5.out.arg
   rw[hv5] at hS5 ⊢
   clear ho5 hd5
   go_wp2_with fail
   go_roundw
   case rel=>exact⟨k+1,oX,hS5.out⟩
   case measure=>have:=hpl.out;simp[Rs];omega
  ·obtain rfl:k=Y1 m.length:=oX
   have hne:((QU m (Y1 m.length)).length:Int) % 64=56:=by unfold Y1 at hpl ⊢;omega
   have hpl2:=Hd hpl
   clear hpl
   generalize hT:QU m (Y1 m.length)=T at*
   go_wp2_with fail
   go_loopw [3,4] (λv j wr=>∃ k:Nat,k<=8/\j=.int .i64 (56-8*(k:Int))/\SumSt w v (QD m k) wr)
    (λ_ j _=>(intOf j+8).toNat)
   case atStart=>exact⟨0,Nat.zero_le _,rfl,by unfold QD;rw[hT];simpa using hS.out⟩
   case round=>
    clear hS hown hsiz hne hpl2
    obtain⟨k,hk,rfl,hS⟩:=hrel
    obtain⟨a3,c3,rfl,_,_⟩:=hS.own.arg
    have hpl:=KR m k
    have hps:=Hd (NU m k)
    have hown:=Hd hS.own
    have hsiz:=hS.siz
    have e9:=(hS.bel.cell (Zb hA.out.blk)).trans hA.out.countAt
    replace hS:=Hd hS
    by_cases hlt:k<8
    ·have hll:(QD m k).length<=1000000:=by unfold Y1 at hpl;omega
     have hby:=Hd (RG m.length k)
     clear hpl
     generalize hT:QD m k=T2 at*
     have hge:(0:Int)<=56-8*(k:Int):=oX
     go_wp2_with (at_builtin;go_must (refine XU rfl (.tmp 29) (.tmp 39) rfl (w.heap.size+1) _ T2 rfl hown (Uy m.length k) _ hby.out rfl hll hsiz ?_))
     intro v5 w5 ho5 hd5
     have hS5:=Hd (hS.out.next (by rw[<-hps.out] at ho5;exact ho5.out) hd5.out)
     obtain⟨a5,c5,hv5,_,_⟩:=ho5.out.arg
     rw[hv5] at hS5 ⊢
     clear ho5 hd5 e9
     go_wp2_with fail
     go_roundw
     case rel=>exact⟨k+1,oX,by go_num,hS5.out⟩
     case measure=>simp[intOf];omega
    ·obtain rfl:k=8:=oX
     clear e9
     have hform:=hS.out.own.form oX
     have hlq:(QD m 8).length=64*((QD m 8).length / 64):=by unfold Y1 at hpl;omega
     have hql:(QD m 8).length / 64<=10000:=by unfold Y1 at hpl;omega
     clear hpl
     replace hlq:=Hd hlq
     replace hform:=Hd hform
     replace hql:=Hd hql
     have hA5:=hA.out.grown (hS.out.bel)
     obtain⟨g0,g1,g2,g3,g4,g5,g6,g7⟩:=hA5.words
     have hlt56:(56:Int)-8*((8:Nat):Int)<0:=oX
     generalize hT:QD m 8=T2 at*
     generalize hSS:ZE ZQ m (m.length / 64)=S at*
     have hrw2:Hid ((wr.alloc (.cells zero8 273)).heap[wr.heap.size]? = some (.cells zero8 273 (0,0))):=Hd (heap_alloc_new wr _)
     have hszE:(Tryz.prog.info? 273).map (·.size)=some (#[.int .u32 (wn S.a),.int .u32 (wn S.b),.int .u32 (wn S.c),.int .u32 (wn S.d),.int .u32 (wn S.e),.int .u32 (wn S.f),.int .u32 (wn S.g),.int .u32 (wn S.h)]:Array Value).size:=kX
     have hsE:zero8.size=(#[.int .u32 (wn S.a),.int .u32 (wn S.b),.int .u32 (wn S.c),.int .u32 (wn S.d),.int .u32 (wn S.e),.int .u32 (wn S.f),.int .u32 (wn S.g),.int .u32 (wn S.h)]:Array Value).size:=Xz
     have hoE:(#[.int .u32 (wn S.a),.int .u32 (wn S.b),.int .u32 (wn S.c),.int .u32 (wn S.d),.int .u32 (wn S.e),.int .u32 (wn S.f),.int .u32 (wn S.g),.int .u32 (wn S.h)]:Array Value).all (·.oneCell')=true:=J6 S
     go_wp2_with (with_reducible refine Zc rfl 273 (.tmp 5) (.tmp 44) rfl wr.heap.size zero8 #[.int .u32 (wn S.a),.int .u32 (wn S.b),.int .u32 (wn S.c),.int .u32 (wn S.d),.int .u32 (wn S.e),.int .u32 (wn S.f),.int .u32 (wn S.g),.int .u32 (wn S.h)] rfl rfl hrw2 hszE hsE hoE ?_)
     intro w7 hU7
     have hrow7:w7.heap[wr.heap.size]? = some (.cells (c8 S) 273 (0,0)):=hU7.out.here
     have hb7:Below wr.heap.size wr w7:=((Below.refl wr.heap.size wr).alloc nR _).trans (hU7.out.below nR)
     have hown7:OwnB (w.heap.size+1) w7 (.slice a3 T2.length c3) T2:=hown.out.below hb7 nR
     have hres7:=(hb7.block _ (Zb hS.out.res)).trans hS.out.res
     have hbel7:=hS.out.bel.trans (hb7.mono hS.out.bel.size)
     have hp7:=hU7.out.size
     clear hrw2 hszE hsE hoE g0 g1 g2 g3 g4 g5 g6 g7 hA5 hU7
     obtain⟨g,c,hv,hg⟩:=hform.out
     replace hlq:=hlq.out
     replace hql:=hql.out
     cases hv
     obtain⟨q,hqd⟩:∃ q,q=T2.length / 64:=⟨_,rfl⟩
     rw[<-hqd] at hlq hql
     rw[hlq] at hown7 ⊢
     have hqc:64*q<=c3:=by
      obtain⟨a',c',hv,hr,_⟩:=hown.out.arg
      cases hv
      have:=hr.len
      omega
     have hchk:=Hd (λW=>callsIn_wide.1 (TQ Fence.wide 1 trivial rfl (some ⟨g,0,none⟩) (64*q) c3 W))
     obtain⟨p,hp⟩:∃ p,p=wr.heap.size:=⟨_,rfl⟩
     have hp7':w7.heap.size=p+1:=by rw[hp7,hp];simp
     have hpw:w.heap.size<p:=by rw[hp];exact hS.out.siz
     rw[<-hp] at hrow7 ⊢
     have hCh:ChSt w p (p+1) (p+2) (.slice (some ⟨g,0,none⟩) (64*q) c3) T2 S ((w7.alloc (.cells #[.slice (some ⟨g,0,none⟩) (64*q) c3] 24)).alloc (.cells #[.int .i64 64] 3)):=by
      have hbA:Below w7.heap.size w7 ((w7.alloc (.cells #[.slice (some ⟨g,0,none⟩) (64*q) c3] 24)).alloc (.cells #[.int .i64 64] 3)):=((Below.refl _ w7).alloc nR _).alloc sX _
      have hBs:=Boxed.new w7 24 (.slice (some ⟨g,0,none⟩) (64*q) c3)
      have hNs:=Boxed.new (w7.alloc (.cells #[.slice (some ⟨g,0,none⟩) (64*q) c3] 24)) 3 (.int .i64 64)
      rw[World.size_alloc,hp7'] at hNs
      rw[hp7'] at hBs
      exact⟨(hbA.block p oX).trans hrow7,hBs.alloc _,hNs,hown7.below hbA nR,(hbA.block _ (Zb hres7)).trans hres7,hbel7.trans (hbA.mono hbel7.size),oX,oX,hpw⟩
     clear hS hown hsiz hg hrow7 hb7 hown7 hres7 hbel7 hp7 hA hbb hb1 hO hlr hs1 hpl0
     replace hCh:=Hd hCh
     have hTq:=Hd hlq
     replace hql:=Hd hql
     replace hqd:=Hd hqd
     clear hlq
     replace hp7':=Hd hp7'
     clear hp
     go_wp2_with fail
     with_reducible refine(hchk.out w7).mono ?_
     rintro e w8 ⟨rfl,rfl⟩
     rw[hp7'.out]
     have hTl:T2.length=64*q:=hTq.out
     generalize ((w7.alloc (.cells #[.slice (some ⟨g,0,none⟩) (64*q) c3] 24)).alloc (.cells #[.int .i64 64] 3))=W0 at*
     go_wp2_with fail
     refine(wpIn_wide (n:=3)).1 ?_
     apply wpIn_rangeFunc_ownG (n:=3) (w:=W0) rfl dX (gf:=178) (lb:=#[.pointer (some ⟨p+1,0,none⟩),.pointer (some ⟨p+2,0,none⟩)]) rfl trivial (enters_of Tryz.func178 kX rfl)
      (Gz Fence.wide (3-1) trivial rfl dX (p+1) (p+2) w.heap.size g 0 c3 q hqc hql.out W0 hCh.out.bB hCh.out.bN) Jb (RU hCh.out.bel.size (hCh.out.bB.lt) (hCh.out.bN.lt)) bR (λ_=>rfl)
      (λpre W=>ChSt w p (p+1) (p+2) (.slice (some ⟨g,0,none⟩) (64*q) c3) T2 (Xe S T2 (pre.map Fin.val)) W)
      (λ_ _ _=>False)
      (λs A B row hs hg hr=>ChSt.kept hs hCh.out.bel.size hg hr)
      (λ_ _ _ _ _ hs _ _=>hs)
      hCh.out
     case hassign=>
      intro l x W K hK
      gi_wp2
      exact hK
     case hbody=>
      rintro l pre ⟨x,hx⟩ W hI hl
      have hta:=Hd (λW h1 h2=>Uo (Xe S T2 (pre.map Fin.val)) (some ⟨g,64*x,none⟩) 64 ((T2.drop (64*x)).take 64) W h1 (by rw[List.length_take,List.length_drop];omega) h2)
      have hag:=HH (by rw[hTl];exact hI.own) x oX
      have hnx:=Hd (Uh S T2 (pre.map Fin.val) x)
      have hKW:ShaK W:=hK.out.below (hBel.out.trans (hI.bel.mono hBel.out.size))
      have hrow:=Hd hI.row
      have hsz:=Je (Xe S T2 (pre.map Fin.val))
      replace hI:=Hd hI
      generalize Xe S T2 (pre.map Fin.val)=s1 at*
      have hu0:Tryz.prog.underlying 273=some (.array 8 239):=Tryz.underlying273
      have hsz8:∀ s,(Tryz.prog.info? 273).map (·.size)=some (c8 s).size:=λs=>by kernel_rfl
      have hszC:=hsz8 s1
      have hszD:=hsz8 (Qt s1 ((T2.drop (64*x)).take 64))
      have hsCD:(c8 s1).size=(c8 (Qt s1 ((T2.drop (64*x)).take 64))).size:=by rw[Je,Je]
      clear hsz8
      have hone:=J6 (Qt s1 ((T2.drop (64*x)).take 64))
      generalize Qt s1 ((T2.drop (64*x)).take 64)=s2 at*
      generalize hC1:c8 s1=C1 at*
      generalize hC2:c8 s2=C2 at*
      replace hC1:=Hd hC1
      replace hC2:=Hd hC2
      gi_wp2_with (with_reducible refine Vd rfl 273 (.tmp 5) rfl p C1 (.array 8 239) rfl hrow hu0 rfl hszC ?_)
      refine⟨trivial,(CallsIn.inRound l (callsIn_wide.2 (hta.out _ hag hKW))).mono ?_⟩
      rintro e w2 ⟨rfl,hd⟩
      have hrow2:Hid (w2.heap[p]? = some (.cells C1 273 (0,0))):=Hd ((hd.block p (Zb hrow.out)).trans hrow.out)
      replace hd:=Hd hd
      gi_wp2_with (with_reducible refine J2 rfl 273 (.tmp 5) (.tmp 50) rfl p C1 C2 rfl rfl hrow2 hszD hsCD hone ?_)
      intro w3 hU
      gi_wp2_with fail
      have hU2:=hU.out
      have hne:=hI.out.ne
      have hbd:=hd.out
      have hb3:Below w.heap.size W w3:=(hbd.mono hI.out.bel.size).trans (hU2.below oX)
      refine⟨⟨Nat.le_trans hbd.size (by rw[hU2.size];exact Nat.le_refl _),λk o _ hk ho=>?_⟩,⟨hb3,?_,?_⟩,?_⟩
      ·have hkp:k≠p:=by
        rintro rfl
        rw[hrow.out] at hk
        cases hk
        cases ho
       rw[hU2.block k hkp,hbd.block k (Zb hk)]
       exact hk
      ·rw[hU2.block _ (λe=>hne.1 e.symm),hbd.block _ (Zb hI.out.bB)]
      ·rw[hU2.block _ (λe=>hne.2.1 e.symm),hbd.block _ (Zb hI.out.bN)]
      ·show ChSt w p (p+1) (p+2) _ T2 (Xe S T2 ((pre++[(⟨x,hx⟩:Fin q)]).map Fin.val)) w3
       rw[List.map_append]
       show ChSt w p (p+1) (p+2) _ T2 (Xe S T2 (pre.map Fin.val++[x])) w3
       rw[hnx.out]
       have hown2:=hI.out.own.below hbd nR
       refine⟨by rw[hC2.out];exact hU2.here,?_,?_,?_,?_,hI.out.bel.trans hb3,hne⟩
       ·exact(hU2.block _ (λe=>hne.1 e.symm)).trans ((hbd.block _ (Zb hI.out.bB)).trans hI.out.bB)
       ·exact(hU2.block _ (λe=>hne.2.1 e.symm)).trans ((hbd.block _ (Zb hI.out.bN)).trans hI.out.bN)
       ·refine hown2.upd hU2 (λcur fz e=>?_)
        rw[hrow2.out] at e
        have:273=5:=by injection e with e;injection e
        exact absurd this dX
       ·exact(hU2.block _ oX).trans ((hbd.block _ (Zb hI.out.res)).trans hI.out.res)
     case hstop=>
      rintro D c pre W _ _ h _
      exact h.elim
     case hdone=>
      rintro D ys W hD hys hI hK
      have hfin:ChSt w p (p+1) (p+2) (.slice (some ⟨g,0,none⟩) (64*q) c3) T2 (ZE S T2 q) W:=by rw[<-VX,<-hys];exact hI
      have hrowF:=hfin.row
      have hu0:Tryz.prog.underlying 273=some (.array 8 239):=Tryz.underlying273
      have hszC:(Tryz.prog.info? 273).map (·.size)=some (c8 (ZE S T2 q)).size:=kX
      have hbA:Below W.heap.size W (W.alloc (.cells zero32 47)):=(Below.refl _ W).alloc nR _
      have hO0:OutSt W (Yc (ZE S T2 q) 0) (W.alloc (.cells zero32 47)):=⟨by rw[NH,<-UH];exact heap_alloc_new W _,hbA⟩
      have hidx:=λt h w=>PZ (ZE S T2 q) t h w
      have hrowA:Hid ((W.alloc (.cells zero32 47)).heap[p]? = some (.cells (c8 (ZE S T2 q)) 273 (0,0))):=Hd ((hbA.block p (Zb hrowF)).trans hrowF)
      generalize hF:ZE S T2 q=F8 at*
      generalize hC:c8 F8=C at*
      replace hF:=Hd hF
      replace hC:=Hd hC
      replace hidx:=Hd hidx
      replace hO0:=Hd hO0
      replace hfin:=Hd hfin
      clear hI hys hrowF hbA hTl
      replace hD:=Hd hD
      replace hK:=Hd hK
      go_wp2_with (with_reducible refine Ze rfl 273 (.tmp 5) rfl p C (.array 8 239) rfl hrowA hu0 rfl hszC ?_)
      go_loopw [8,9,10,52] (λ_ _ _ j wr=>∃ i:Nat,i<=8/\j=.int .i64 i/\OutSt W (Yc F8 (4*i)) wr)
       (λ_ _ _ j _=>8-(intOf j).toNat)
      case atStart=>exact⟨0,Nat.zero_le _,rfl,hO0.out⟩
      case round=>
       clear hO0
       obtain⟨i,hi,rfl,hO⟩:=hrel
       replace hO:=Hd hO
       by_cases hlt:i<8
       ·have hix:=hidx.out i hlt
        have hi8:(i:Int)<8:=oX
        go_wp2_with fail
        go_loopw [10,56] (λ_ j wr=>∃ k:Nat,k<=4/\j=.int .i64 k/\OutSt W (Yc F8 (4*i+k)) wr)
         (λ_ j _=>4-(intOf j).toNat)
        case atStart=>exact⟨0,Nat.zero_le _,rfl,hO.out⟩
        case round=>
         clear hO
         obtain⟨k,hk,rfl,hO⟩:=hrel
         by_cases hlk:k<4
         ·have hb:=Hd (Hm F8 i k hlt hlk)
          have hc:=hO.cell (j:=4*i+k) oX
          have hf:=hO.free (4*i+k)
          have hS2:=Hd hO.set
          replace hO:=Hd hO
          have hk4:(k:Int)<4:=oX
          go_wp2_with fail
          exact⟨⟨k+1,oX,by go_num,by rw[<-hb.out];exact hS2.out⟩,by simp[intOf];omega⟩
         ·obtain rfl:k=4:=oX
          replace hO:=Hd hO
          go_wp2_with fail
          exact⟨⟨i+1,oX,by go_num,hO.out⟩,by simp[intOf];omega⟩
       ·obtain rfl:i=8:=oX
        have hO2:=hO.out
        rw[show 4*8=32 from rfl] at hO2
        have hro:=Hd hO2.row
        have hres:=Hd ((hO2.bel.block _ (Zb hfin.out.res)).trans hfin.out.res)
        have hbel:=Hd hO2.bel
        have hDg:cB (tab 32 (Yc F8 32))=cB (sha m):=by
         rw[H3,Pt m q (by rw[hT];exact hTq.out),hT,hSS,hF.out]
        rw[hDg] at hro
        have hu1:Tryz.prog.underlying 47=some (.array 32 5):=Tryz.underlying47
        have hszS:(Tryz.prog.info? 47).map (·.size)=some (cB (sha m)).toArray.size:=by rw[List.size_toArray,Zd,Yd];kernel_rfl
        have hsZ:zero32.size=(cB (sha m)).toArray.size:=by rw[Yi,List.size_toArray,Zd,Yd]
        have hone:(cB (sha m)).toArray.all (·.oneCell')=true:=by
         rw[List.all_toArray,List.all_eq_true]
         exact ZU _
        generalize hDD:(cB (sha m)).toArray=DD at*
        clear hO hO2 hDg hidx hrowA
        go_wp2_with (first|with_reducible refine Ze rfl 47 (.tmp 7) rfl W.heap.size DD (.array 32 5) rfl hro hu1 rfl hszS ?_|with_reducible refine Zc rfl 47 (.tmp 2) (.tmp 72) rfl w.heap.size zero32 DD rfl rfl hres hszS hsZ hone ?_)
        intro w9 hU9
        go_wp2_with fail
        have hDp:w.heap.size<D:=by
         have h1:=hCh.out.ne.2.2
         have h2:=Zb hCh.out.row
         have h3:=hD.out
         omega
        have hU:=hU9.out
        have hK9:w9.heap[D]? = some (.deferred (some [])):=(hU.block D oX).trans ((hbel.out.block D (Zb hK.out)).trans hK.out)
        have hb9:Below w.heap.size w w9:=hfin.out.bel.trans ((hbel.out.mono hfin.out.bel.size).trans (hU.below nR))
        refine⟨sX,.inl ⟨_,_,rfl,run_takeDeferred hK9,?_⟩⟩
        refine⟨.agg DD,?_,by rw[hDD],hb9.trans (belowK_b (w:=w) nR w9 D _ _ oX hK9 rfl rfl)⟩
        have hh:(w9.putObj D (.deferred none)).heap[w.heap.size]? = some (.cells DD 47 (0,0)):=(World.putObj_heap_other oX).trans hU.here
        rw[Xo rfl]
        simp[asAddr,Result.andThen,run_loadVar_row _ w.heap.size _ _ DD (0,0) _ hh hu1 rfl hszS]
end Go.Proofs.YtpdhceiodgnbmaaGreatDoor
