import Derived.Test.YtpdhceiodgnbmaaGreatDoorF0Safe21Said
import Derived.Test.YtpdhceiodgnbmaaGreatDoorF1Safe21Said
import Derived.Test.YtpdhceiodgnbmaaGreatDoorF6Safe21Said
import Derived.RangeFuncWrites
import Derived.RangeFuncLeaves
import Derived.TacticsInMore
import Derived.Test.YtpdhceiodgnbmaaGreatDoorF5Safe21Said
set_option linter.unusedVariables false
set_option linter.unusedSimpArgs false
set_option linter.unnecessarySimpa false
set_option maxRecDepth 100000
set_option maxHeartbeats 8000000
namespace Go.Proofs.YtpdhceiodgnbmaaGreatDoor
open Go.RowKit Go.Shelf
@[irreducible] def zero32:Array Value:=(cB (tab 32 λ_=>0)).toArray
theorem QF(w:World):(zeroValue 47).run Tryz.prog w=.ok (.agg zero32) w:=kX
theorem QG:zero32.size=32:=kX
theorem Qg:zero32≠#[]:=λe=>by have:=QG;rw[e] at this;cases this
theorem P7:zero32.all (·.oneCell')=true:=kX
theorem Kl:zero32=(cB (tab 32 λ_=>0)).toArray:=by unfold zero32;rfl
section
variable {w:World} {ops:Array Oper} {rest:List Oper} {o:Oper} {a:Act} {Q:Exit->Act->World->Prop}
theorem YS(hgd:o.guard=none)(s x:Operand)(ho:o.op=.call { callee:=.builtin .append,args:=#[s,x],argTypes:=#[24,24] })
  (base:Nat) (v:Value) (bs:List UInt8) (hs:a.eval s=v) (hown:Hid (OwnB base w v bs))
  (u:UInt8) (z:Int) (hz:z=(u.toNat:Int)) (hx:a.eval x=.slice (some ⟨w.heap.size,0,none⟩) 1 1) (hl:bs.length<=1000000) (hbase:base<=w.heap.size)
  (h:∀ v' w',Hid (OwnB base w' v' (bs++[u]))->Hid (Below base w w')->wpList Tryz.prog ops Q rest (a.put o.dst v') w') :
  wpList Tryz.prog ops Q (o::rest) a (w.alloc (.cells #[.int .u8 z] 5)):=by
 subst hz
 exact Ho hgd s x ho base v bs hs hown u hx hl hbase h
end
def Y5(m:List UInt8)(k:Nat):List UInt8:=m.drop (64*(m.length / 64))++[128]++List.replicate k 0
theorem Vl(m:List UInt8)(k:Nat):(Y5 m k).length=m.length % 64+1+k:=by simp[Y5];omega
theorem RY(m:List UInt8)(k:Nat):Y5 m (k+1)=Y5 m k++[0]:=by simp[Y5,List.replicate_succ']
def Uk(n j:Nat):UInt8:=UInt8.ofNat (8*n / 2 ^ (8*(7-j)))
def Yo(m:List UInt8)(j:Nat):List UInt8:=Y5 m (Qn m.length)++(List.range j).map (Uk m.length)
theorem TR(m:List UInt8)(j:Nat):Yo m (j+1)=Yo m j++[Uk m.length j]:=by simp[Yo,List.range_succ]
theorem H6(m:List UInt8)(j:Nat):(Yo m j).length=m.length % 64+1+Qn m.length+j:=by simp[Yo,Vl]
theorem HR(m:List UInt8):Yo m 8=(XH m).drop (64*(m.length / 64)):=by
 unfold Yo Y5 XH be8 Uk
 rw[List.append_assoc,List.append_assoc,List.append_assoc,List.append_assoc,List.drop_append_of_le_length oX]
theorem TD(n j:Nat):(n:Int)*8 / 2 ^ (56-8*j) % 256=((Uk n j).toNat:Int):=by
 unfold Uk
 rw[UInt8.toNat_ofNat',Nat.mul_comm 8 n,show 8*(7-j)=56-8*j from by omega]
 rw[show ((n:Int)*8)=((n*8:Nat):Int) from by omega,show (2:Int) ^ (56-8*j)=((2 ^ (56-8*j):Nat):Int) from by simp,<-Int.natCast_ediv]
 omega
def Mw:Value->Nat
 | .slice _ n _=>n
 | _=>0
theorem Cd(m:List UInt8)(q:Nat)(h:(Yo m 8).length=64*q):sha m=Ql (ZK (ZK Z6 m (m.length / 64)) (Yo m 8) q):=by
 have h2:=HR m
 have h3:(XH m).length=64*(m.length / 64)+64*q:=by
  have h4:(XH m).length-64*(m.length / 64)=64*q:=by rw[<-List.length_drop,<-h2,h]
  have h5:m.length<=(XH m).length:=by simp[XH]
  omega
 have h6:ZK Z6 (XH m) (m.length / 64)=ZK Z6 m (m.length / 64):=by
  have:=Vg Z6 m ([128]++List.replicate (Qn m.length) 0++be8 (8*m.length)) (m.length / 64) oX
  rw[<-this]
  simp[XH,List.append_assoc]
 unfold sha
 rw[show (XH m).length / 64=m.length / 64+q from by omega,Me,h6,<-h2]
theorem Jw(s:S8)(i k:Nat)(hi:i<8)(hk:k<4):((cf (Ql s) (4*i+k)).toNat:Int)=wn (sAt s i) / 2 ^ (24-8*k) % 256:=by
 have h:cf (Ql s) (4*i+k)=UInt8.ofNat ((sAt s i).toNat / 2 ^ (24-8*k)):=by
  have hi':i=0\/i=1\/i=2\/i=3\/i=4\/i=5\/i=6\/i=7:=oX
  have hk':k=0\/k=1\/k=2\/k=3:=oX
  rcases hi' with rfl|rfl|rfl|rfl|rfl|rfl|rfl|rfl<;>rcases hk' with rfl|rfl|rfl|rfl<;>simp[Ql,Jd,cf,sAt]
 rw[h,UInt8.toNat_ofNat']
 unfold wn
 rw[show (2:Int) ^ (24-8*k)=((2 ^ (24-8*k):Nat):Int) from by simp,<-Int.natCast_ediv]
 omega
def Q4(s:S8)(n i:Nat):UInt8:=if i<n then cf (Ql s) i else 0
theorem GW(s:S8):tab 32 (Q4 s 0)=tab 32 λ_=>0:=UF λi _=>by unfold Q4;rw[if_neg (Nat.not_lt_zero i)]
theorem NS(s:S8)(n:Nat):(tab 32 (Q4 s n)).set n (cf (Ql s) n)=tab 32 (Q4 s (n+1)):=by
 rw[B4]
 refine UF λi _=>?_
 unfold Q4
 by_cases h:i=n
 ·subst h;rw[if_pos rfl,if_pos (Nat.lt_succ_self i)]
 ·rw[if_neg h]
  by_cases h2:i<n
  ·rw[if_pos h2,if_pos oX]
  ·rw[if_neg h2,if_neg oX]
theorem NZ(s:S8):tab 32 (Q4 s 32)=Ql s:=by
 have h:tab 32 (Q4 s 32)=tab (Ql s).length (cf (Ql s)):=UF λi hi=>by unfold Q4;rw[if_pos hi]
 rw[h,BO]
theorem T8(l:List UInt8)(j:Nat)(x:UInt8):(cB l).toArray.setIfInBounds j (.int .u8 (x.toNat:Int))=(cB (l.set j x)).toArray:=by
 simp[cB,List.map_set]
theorem Rg(l:List UInt8){j:Nat}(h:j<l.length):(cB l).toArray[j]? = some (.int .u8 ((cf l j).toNat:Int)):=by
 simp[cB,cf,h]
theorem CK(s:S8)(t:Nat)(h:t<8)(w:World):(Instr.index 273 (.agg (c8 s)) (.int .i64 (t:Int))).run Tryz.prog w=.ok (.int .u32 (wn (sAt s t))) w:=by
 have hs:(sizeOf 239).run Tryz.prog w=.ok 1 w:=kX
 have hp:(part 239 (c8 s) t).run Tryz.prog w=.ok (.int .u32 (wn (sAt s t))) w:=by
  simp[part,isAgg,run_underlying Tryz.underlying239]
  have:=G3 s h
  simp[this]
 have ht:(t:Int)<8:=oX
 simp[Instr.index,asIntOf,run_underlying Tryz.underlying273,hs,hp,h]
structure OutSt (w:World) (f:Nat->UInt8) (W:World):Prop where
 row:W.heap[w.heap.size]? = some (.cells (cB (tab 32 f)).toArray 47 (0,0))
 bel:Below w.heap.size w W
theorem OutSt.cell{w:World}{f:Nat->UInt8}{W:World}(h:OutSt w f W){j:Nat}(hj:j<32):W.cell? ⟨w.heap.size,j,none⟩=some (.int .u8 ((f j).toNat:Int)):=by
 rw[Za h.row,Rg _ (by rw[QE];exact hj),JR,if_pos hj]
theorem OutSt.free{w:World}{f:Nat->UInt8}{W:World}(h:OutSt w f W)(j:Nat):W.frozen? ⟨w.heap.size,j,none⟩=false:=Zj h.row _
theorem OutSt.set{w:World}{s:S8}{n:Nat}{W:World}(h:OutSt w (Q4 s n) W):OutSt w (Q4 s (n+1)) (W.setCell ⟨w.heap.size,n,none⟩ (.int .u8 ((cf (Ql s) n).toNat:Int))):=by
 have hu:=(Upd.refl h.row).setCell (j:=n) (.int .u8 ((cf (Ql s) n).toNat:Int))
 have hu2:=hu.to (show _=Obj.cells (cB (tab 32 (Q4 s (n+1)))).toArray 47 (0,0) from by rw[T8,NS])
 exact⟨hu2.here,h.bel.trans (hu2.below nR)⟩
structure ChSt (w:World) (p Bs Ns:Nat) (v:Value) (T:List UInt8) (S:S8) (W:World):Prop where
 row:W.heap[p]? = some (.cells (c8 S) 273 (0,0))
 bB:Boxed W Bs 24 v
 bN:Boxed W Ns 3 (.int .i64 64)
 own:OwnB (w.heap.size+1) W v T
 res:W.heap[w.heap.size]? = some (.cells zero32 47 (0,0))
 bel:Below w.heap.size w W
 ne:p≠Bs/\p≠Ns/\w.heap.size<p
theorem Ju{W W':World}{row:Option Nat}{b:Nat}{o:Obj}(h:W.heap[b]? = some o)(ho:o.isCells=true)(hg:W.grownBy W' row)(hr:∀ r,row=some r->∃ o:Obj,W.heap[r]? = some o/\o.isCells=false):W'.heap[b]? = some o:=
 (hg.block b (Zb h) (λe=>by obtain⟨o',h',h2⟩:=hr b e.symm;rw[h] at h';cases h';rw[ho] at h2;cases h2)).trans h
theorem OwnB.keptIn{base:Nat}{W W':World}{row:Option Nat}{v:Value}{bs:List UInt8}(h:OwnB base W v bs)(hg:W.grownBy W' row)(hr:∀ r,row=some r->∃ o:Obj,W.heap[r]? = some o/\o.isCells=false):OwnB base W' v bs:=by
 refine⟨h.1,?_⟩
 rcases h.2 with h2|⟨g,cap,cur,e1,e2,e3,e4⟩
 ·exact .inl h2
 ·exact .inr ⟨g,cap,cur,e1,e2,Ju e3 rfl hg hr,e4⟩
theorem ChSt.kept{w:World}{p Bs Ns:Nat}{v:Value}{T:List UInt8}{S:S8}{W W':World}{row:Option Nat}{B:Nat}(h:ChSt w p Bs Ns v T S W)(hB:w.heap.size<=B)(hg:W.grownBy W' row)(hr:∀ r,row=some r->B<=r/\∃ o:Obj,W.heap[r]? = some o/\o.isCells=false):ChSt w p Bs Ns v T S W':=
 have hr2:=λr e=>(hr r e).2
 ⟨Ju h.row rfl hg hr2,Ju h.bB rfl hg hr2,Ju h.bN rfl hg hr2,h.own.keptIn hg hr2,Ju h.res rfl hg hr2,h.bel.grown hg h.bel.size (λk e=>Nat.le_trans hB (hr k e).1),h.ne⟩
theorem Ro{w:World}{a:Option Addr}{c c':Nat}{bs:List UInt8}(h:ArgB w a c bs)(h1:bs.length<=c')(h2:c'<=maxLen)(h3:a=none->c'=0):ArgB w a c' bs:=⟨h1,h2,h3,h.row⟩
theorem Wx{base g c:Nat}{W:World}{T:List UInt8}(h:OwnB base W (.slice (some ⟨g,0,none⟩) T.length c) T)(x:Nat)(hx:64*x+64<=T.length):ArgB W (some ⟨g,64*x,none⟩) 64 ((T.drop (64*x)).take 64):=by
 obtain⟨a',c',hv,hr,_⟩:=h.arg
 cases hv
 have h1:=GJ hr (64*x) oX
 rw[Nat.zero_add] at h1
 have h2:=GQ h1 64 c3X
 exact Ro h2 (by rw[List.length_take,List.length_drop];omega) c6X (λe=>by cases e)
section
attribute [local go_sem] Oper.semAt_some
variable {F:Fence} {n:Nat} {P:Program} {ops:Array Oper} {rest:List Oper} {o:Oper} {a:Act} {w:World} {Q:Exit->Act->World->Prop}
theorem UZ(hgd:o.guard=none)(ty:TypeId)(x y:Operand)(ho:o.op=.store ty x y)(g:Nat)(c c':Array Value)
  (hx:a.eval x=.pointer (some ⟨g,0,none⟩)) (hy:a.eval y=.agg c') (hg:Hid (w.heap[g]? = some (.cells c ty (0,0)))) (hi:(P.info? ty).map (·.size)=some c'.size) (hs:c.size=c'.size) (h1:c'.all (·.oneCell')=true)
  (h:∀ w',Hid (Upd g (.cells c' ty (0,0)) w w')->wpListIn F n P ops Q rest (a.put o.dst undef) w'):wpListIn F n P ops Q (o::rest) a w:=by
 refine wpListIn_plain hgd λK hK=>?_
 have h2:=hK _ _ (h _ (Hd (Upd.setRow (cs:=c') hg.out)))
 refine⟨λf hf=>(by simp[Oper.about,ho] at hf),?_⟩
 rw[Oper.semAt_eq _ _ _ (by rw[ho];simp)]
 unfold execOp
 simp only[ho,hx,hy,Instr.storeAt,Instr.sureAddr,Sem.run_bind,Sem.run_pure,Result.andThen_ok,run_storeVar_row w g ty ty c c' hg.out hi hs h1]
 exact h2
theorem Kv(hgd:o.guard=none)(ty:TypeId)(x:Operand)(ho:o.op=.load ty x)(g:Nat)(c:Array Value)(d:TypeDesc)
  (hx:a.eval x=.pointer (some ⟨g,0,none⟩)) (hg:Hid (w.heap[g]? = some (.cells c ty (0,0)))) (hu:P.underlying ty=some d) (hd:(match d with | .struct _ | .array _ _=>true|_=>false)=true) (hi:(P.info? ty).map (·.size)=some c.size)
  (h:wpListIn F n P ops Q rest (a.put o.dst (.agg c)) w):wpListIn F n P ops Q (o::rest) a w:=by
 refine wpListIn_plain hgd λK hK=>?_
 have h2:=hK _ _ h
 refine⟨λf hf=>(by simp[Oper.about,ho] at hf),?_⟩
 rw[Oper.semAt_eq _ _ _ (by rw[ho];simp)]
 unfold execOp
 simp only[ho,hx,Instr.loadAt,Instr.sureAddr,Sem.run_bind,Sem.run_pure,Result.andThen_ok,run_loadVar_row w g ty ty c (0,0) d hg.out hu hd hi]
 exact h2
end
structure SumSt (w:World) (v:Value) (bs:List UInt8) (W:World):Prop where
 own:OwnB (w.heap.size+1) W v bs
 res:W.heap[w.heap.size]? = some (.cells zero32 47 (0,0))
 bel:Below w.heap.size w W
 siz:w.heap.size+1<=W.heap.size
theorem SumSt.next{w:World}{v v':Value}{bs bs':List UInt8}{W W':World}(h:SumSt w v bs W)(ho:OwnB (w.heap.size+1) W' v' bs')(hb:Below (w.heap.size+1) W W'):SumSt w v' bs' W':=
 ⟨ho,(hb.block _ (Nat.lt_succ_self _)).trans h.res,h.bel.trans (hb.mono (Nat.le_succ _)),Nat.le_trans h.siz hb.size⟩
attribute [local go_sem] Oper.semAt_some in
theorem BE(w0:World)(b:Nat)(m:List UInt8)(w:World)(hH:UD w0 b m w)(hK:ShaK w0)(hm:m.length<=200000) :
  Calls Tryz.prog 139 #[.pointer (some ⟨b,0,none⟩)] w λe w'=>e=.returned (.agg (cB (sha m)).toArray)/\Below w.heap.size w w':=by
 obtain⟨a1,n1,c1,hA,hO,hbb⟩:=hH
 have zr:=QF
 have zn:=Qg
 have hpl0:=Vl m 0
 have e8:w.cell? ⟨b,8,none⟩=some (.slice a1 n1 c1):=hA.restAt
 obtain⟨a1',c1',hv,hR,_⟩:=hO.arg
 rw[List.length_drop] at hv
 cases hv
 obtain⟨A1,hA1⟩:∃ A,A=w.alloc (.cells zero32 47):=⟨_,rfl⟩
 have hb1:Below w.heap.size w A1:=by rw[hA1];exact(Below.refl w.heap.size w).alloc nR _
 have hs1:A1.heap.size=w.heap.size+1:=by rw[hA1];simp
 have hz1:A1.heap[w.heap.size]? = some (.cells zero32 47 (0,0)):=by rw[hA1];exact heap_alloc_new w _
 have e81:A1.cell? ⟨b,8,none⟩=some (.slice a1 (m.length-64*(m.length / 64)) c1):=(hb1.cell (Zb hA.blk)).trans e8
 have hcl:=XM a1 c1 (m.drop (64*(m.length / 64))) A1 (hR.below hb1) c3X
 rw[List.length_drop] at hcl
 replace hcl:=Hd hcl
 rw[hA1] at e81
 replace hA1:=Hd hA1
 have hlr:=Hd (show (m.drop (64*(m.length / 64))).length<=64 from by rw[List.length_drop];omega)
 replace hb1:=Hd hb1
 replace hs1:=Hd hs1
 replace hz1:=Hd hz1
 have hBel:=Hd hA.bel
 replace hA:=Hd hA
 replace hK:=Hd hK
 replace hO:=Hd hO
 replace hpl0:=Hd hpl0
 clear e8 hR
 generalize m.length-64*(m.length / 64)=n1 at*
 have zr8:=Mf
 have zn8:=KX
 refine(callsIn_wide (n:=5)).1 ?_
 refine callsIn_of_wp_marks Tryz.func139 rfl trivial ?_ rfl
 refine wpIn_wide.2 ?_
 simp only[Tryz.ntmps139,List.size_toArray,List.length_cons,List.length_nil,Nat.reduceAdd,Nat.reduceSub,Array.replicate_succ,Array.replicate_zero,List.push_toArray,List.append_toArray,List.nil_append,List.cons_append]
 go_wp2_with fail
 rw[<-hA1.out]
 with_reducible refine hcl.out.mono ?_
 rintro e w1 ⟨v,rfl,ho,hd⟩
 rw[hs1.out] at ho hd
 have hsz:=hd.size
 replace ho:=Hd ho
 have hl64:(m.drop (64*(m.length / 64))).length<=1000000:=by have:=hlr.out;omega
 have hsz1:w.heap.size+1<=w1.heap.size:=by rw[<-hs1.out];exact hsz
 clear hsz
 go_wp2_with (at_builtin;go_must (refine YS rfl (.tmp 15) (.tmp 16) rfl (w.heap.size+1) v _ rfl ho 128 128 rfl rfl hl64 hsz1 ?_))
 intro v2 w2 ho2 hd2
 have hS:=Hd (show SumSt w v2 (Y5 m 0) w2 from⟨by simpa[Y5] using ho2.out,(hd2.out.block _ (Nat.lt_succ_self _)).trans ((hd.block _ (Nat.lt_succ_self _)).trans hz1.out),hb1.out.trans ((hd.mono (Nat.le_succ _)).trans (hd2.out.mono (Nat.le_succ _))),Nat.le_trans hsz1 hd2.out.size⟩)
 clear ho2 hd2 ho hcl hd hz1 e81 hsz1 hl64
 go_wp2_with fail
 go_loopw [3] (λv wr=>∃ k:Nat,k<=Qn m.length/\SumSt w v (Y5 m k) wr)
  (λv _=>Qn m.length+65-Mw v)
 case atStart=>exact⟨0,Nat.zero_le _,hS.out⟩
 case round=>
  clear hS
  obtain⟨k,hk,hS⟩:=hrel
  obtain⟨a3,c3,rfl,_,_⟩:=hS.own.arg
  have hpl:=Vl m k
  have hps:=Hd (RY m k)
  have hown:=Hd hS.own
  have hsiz:=hS.siz
  replace hS:=Hd hS
  by_cases hlt:k<Qn m.length
  ·have hne:¬(((Y5 m k).length:Int) % 64=56):=by unfold Qn at hlt;omega
   have hll:(Y5 m k).length<=1000000:=by unfold Qn at hlt;omega
   replace hpl:=Hd hpl
   generalize hT:Y5 m k=T at*
   go_wp2_with (at_builtin;go_must (refine YS rfl (.tmp 22) (.tmp 23) rfl (w.heap.size+1) _ T rfl hown 0 0 rfl rfl hll hsiz ?_))
   intro v5 w5 ho5 hd5
   have hS5:=Hd (hS.out.next (by rw[<-hps.out] at ho5;exact ho5.out) hd5.out)
   obtain⟨a5,c5,hv5,_,_⟩:=ho5.out.arg
   rw[hv5] at hS5 ⊢
   clear ho5 hd5
   go_wp2_with fail
   go_roundw
   case rel=>exact⟨k+1,oX,hS5.out⟩
   case measure=>have:=hpl.out;simp[Mw];omega
  ·obtain rfl:k=Qn m.length:=oX
   have hne:((Y5 m (Qn m.length)).length:Int) % 64=56:=by unfold Qn at hpl ⊢;omega
   have hpl2:=Hd hpl
   clear hpl
   generalize hT:Y5 m (Qn m.length)=T at*
   go_wp2_with fail
   go_loopw [3,4] (λv j wr=>∃ k:Nat,k<=8/\j=.int .i64 (56-8*(k:Int))/\SumSt w v (Yo m k) wr)
    (λ_ j _=>(intOf j+8).toNat)
   case atStart=>exact⟨0,Nat.zero_le _,rfl,by unfold Yo;rw[hT];simpa using hS.out⟩
   case round=>
    clear hS hown hsiz hne hpl2
    obtain⟨k,hk,rfl,hS⟩:=hrel
    obtain⟨a3,c3,rfl,_,_⟩:=hS.own.arg
    have hpl:=H6 m k
    have hps:=Hd (TR m k)
    have hown:=Hd hS.own
    have hsiz:=hS.siz
    have e9:=(hS.bel.cell (Zb hA.out.blk)).trans hA.out.countAt
    replace hS:=Hd hS
    by_cases hlt:k<8
    ·have hll:(Yo m k).length<=1000000:=by unfold Qn at hpl;omega
     have hby:=Hd (TD m.length k)
     clear hpl
     generalize hT:Yo m k=T2 at*
     have hge:(0:Int)<=56-8*(k:Int):=oX
     go_wp2_with (at_builtin;go_must (refine YS rfl (.tmp 29) (.tmp 39) rfl (w.heap.size+1) _ T2 rfl hown (Uk m.length k) _ hby.out rfl hll hsiz ?_))
     intro v5 w5 ho5 hd5
     have hS5:=Hd (hS.out.next (by rw[<-hps.out] at ho5;exact ho5.out) hd5.out)
     obtain⟨a5,c5,hv5,_,_⟩:=ho5.out.arg
     rw[hv5] at hS5 ⊢
     clear ho5 hd5 e9
     go_wp2_with fail
     go_roundw
     case rel=>exact⟨k+1,oX,by go_num,hS5.out⟩
     case measure=>simp[intOf];omega
    ·obtain rfl:k=8:=oX
     clear e9
     have hform:=hS.out.own.form oX
     have hlq:(Yo m 8).length=64*((Yo m 8).length / 64):=by unfold Qn at hpl;omega
     have hql:(Yo m 8).length / 64<=10000:=by unfold Qn at hpl;omega
     clear hpl
     replace hlq:=Hd hlq
     replace hform:=Hd hform
     replace hql:=Hd hql
     have hA5:=hA.out.grown (hS.out.bel)
     obtain⟨g0,g1,g2,g3,g4,g5,g6,g7⟩:=hA5.words
     have hlt56:(56:Int)-8*((8:Nat):Int)<0:=oX
     generalize hT:Yo m 8=T2 at*
     generalize hSS:ZK Z6 m (m.length / 64)=S at*
     have hrw2:Hid ((wr.alloc (.cells zero8 273)).heap[wr.heap.size]? = some (.cells zero8 273 (0,0))):=Hd (heap_alloc_new wr _)
     have hszE:(Tryz.prog.info? 273).map (·.size)=some (#[.int .u32 (wn S.a),.int .u32 (wn S.b),.int .u32 (wn S.c),.int .u32 (wn S.d),.int .u32 (wn S.e),.int .u32 (wn S.f),.int .u32 (wn S.g),.int .u32 (wn S.h)]:Array Value).size:=kX
     have hsE:zero8.size=(#[.int .u32 (wn S.a),.int .u32 (wn S.b),.int .u32 (wn S.c),.int .u32 (wn S.d),.int .u32 (wn S.e),.int .u32 (wn S.f),.int .u32 (wn S.g),.int .u32 (wn S.h)]:Array Value).size:=XZ
     have hoE:(#[.int .u32 (wn S.a),.int .u32 (wn S.b),.int .u32 (wn S.c),.int .u32 (wn S.d),.int .u32 (wn S.e),.int .u32 (wn S.f),.int .u32 (wn S.g),.int .u32 (wn S.h)]:Array Value).all (·.oneCell')=true:=VX S
     go_wp2_with (with_reducible refine Zc rfl 273 (.tmp 5) (.tmp 44) rfl wr.heap.size zero8 #[.int .u32 (wn S.a),.int .u32 (wn S.b),.int .u32 (wn S.c),.int .u32 (wn S.d),.int .u32 (wn S.e),.int .u32 (wn S.f),.int .u32 (wn S.g),.int .u32 (wn S.h)] rfl rfl hrw2 hszE hsE hoE ?_)
     intro w7 hU7
     have hrow7:w7.heap[wr.heap.size]? = some (.cells (c8 S) 273 (0,0)):=hU7.out.here
     have hb7:Below wr.heap.size wr w7:=((Below.refl wr.heap.size wr).alloc nR _).trans (hU7.out.below nR)
     have hown7:OwnB (w.heap.size+1) w7 (.slice a3 T2.length c3) T2:=hown.out.below hb7 nR
     have hres7:=(hb7.block _ (Zb hS.out.res)).trans hS.out.res
     have hbel7:=hS.out.bel.trans (hb7.mono hS.out.bel.size)
     have hp7:=hU7.out.size
     clear hrw2 hszE hsE hoE g0 g1 g2 g3 g4 g5 g6 g7 hA5 hU7
     obtain⟨g,c,hv,hg⟩:=hform.out
     replace hlq:=hlq.out
     replace hql:=hql.out
     cases hv
     obtain⟨q,hqd⟩:∃ q,q=T2.length / 64:=⟨_,rfl⟩
     rw[<-hqd] at hlq hql
     rw[hlq] at hown7 ⊢
     have hqc:64*q<=c3:=by
      obtain⟨a',c',hv,hr,_⟩:=hown.out.arg
      cases hv
      have:=hr.len
      omega
     have hchk:=Hd (λW=>callsIn_wide.1 (Dc Fence.wide 1 trivial rfl (some ⟨g,0,none⟩) (64*q) c3 W))
     obtain⟨p,hp⟩:∃ p,p=wr.heap.size:=⟨_,rfl⟩
     have hp7':w7.heap.size=p+1:=by rw[hp7,hp];simp
     have hpw:w.heap.size<p:=by rw[hp];exact hS.out.siz
     rw[<-hp] at hrow7 ⊢
     have hCh:ChSt w p (p+1) (p+2) (.slice (some ⟨g,0,none⟩) (64*q) c3) T2 S ((w7.alloc (.cells #[.slice (some ⟨g,0,none⟩) (64*q) c3] 24)).alloc (.cells #[.int .i64 64] 3)):=by
      have hbA:Below w7.heap.size w7 ((w7.alloc (.cells #[.slice (some ⟨g,0,none⟩) (64*q) c3] 24)).alloc (.cells #[.int .i64 64] 3)):=((Below.refl _ w7).alloc nR _).alloc sX _
      have hBs:=Boxed.new w7 24 (.slice (some ⟨g,0,none⟩) (64*q) c3)
      have hNs:=Boxed.new (w7.alloc (.cells #[.slice (some ⟨g,0,none⟩) (64*q) c3] 24)) 3 (.int .i64 64)
      rw[World.size_alloc,hp7'] at hNs
      rw[hp7'] at hBs
      exact⟨(hbA.block p oX).trans hrow7,hBs.alloc _,hNs,hown7.below hbA nR,(hbA.block _ (Zb hres7)).trans hres7,hbel7.trans (hbA.mono hbel7.size),oX,oX,hpw⟩
     clear hS hown hsiz hg hrow7 hb7 hown7 hres7 hbel7 hp7 hA hbb hb1 hO hlr hs1 hpl0
     replace hCh:=Hd hCh
     have hTq:=Hd hlq
     replace hql:=Hd hql
     replace hqd:=Hd hqd
     clear hlq
     replace hp7':=Hd hp7'
     clear hp
     go_wp2_with fail
     with_reducible refine(hchk.out w7).mono ?_
     rintro e w8 ⟨rfl,rfl⟩
     rw[hp7'.out]
     have hTl:T2.length=64*q:=hTq.out
     generalize ((w7.alloc (.cells #[.slice (some ⟨g,0,none⟩) (64*q) c3] 24)).alloc (.cells #[.int .i64 64] 3))=W0 at*
     go_wp2_with fail
     refine(wpIn_wide (n:=3)).1 ?_
     apply wpIn_rangeFunc_ownG (n:=3) (w:=W0) rfl dX (gf:=178) (lb:=#[.pointer (some ⟨p+1,0,none⟩),.pointer (some ⟨p+2,0,none⟩)]) rfl trivial (enters_of Tryz.func178 kX rfl)
      (Te Fence.wide (3-1) trivial rfl dX (p+1) (p+2) w.heap.size g 0 c3 q hqc hql.out W0 hCh.out.bB hCh.out.bN) Ub (BK hCh.out.bel.size (hCh.out.bB.lt) (hCh.out.bN.lt)) bR (λ_=>rfl)
      (λpre W=>ChSt w p (p+1) (p+2) (.slice (some ⟨g,0,none⟩) (64*q) c3) T2 (Jp S T2 (pre.map Fin.val)) W)
      (λ_ _ _=>False)
      (λs A B row hs hg hr=>ChSt.kept hs hCh.out.bel.size hg hr)
      (λ_ _ _ _ _ hs _ _=>hs)
      hCh.out
     case hassign=>
      intro l x W K hK
      gi_wp2
      exact hK
     case hbody=>
      rintro l pre ⟨x,hx⟩ W hI hl
      have hta:=Hd (λW h1 h2=>GN (Jp S T2 (pre.map Fin.val)) (some ⟨g,64*x,none⟩) 64 ((T2.drop (64*x)).take 64) W h1 (by rw[List.length_take,List.length_drop];omega) h2)
      have hag:=Wx (by rw[hTl];exact hI.own) x oX
      have hnx:=Hd (Gq S T2 (pre.map Fin.val) x)
      have hKW:ShaK W:=hK.out.below (hBel.out.trans (hI.bel.mono hBel.out.size))
      have hrow:=Hd hI.row
      have hsz:=JO (Jp S T2 (pre.map Fin.val))
      replace hI:=Hd hI
      generalize Jp S T2 (pre.map Fin.val)=s1 at*
      have hu0:Tryz.prog.underlying 273=some (.array 8 239):=Tryz.underlying273
      have hsz8:∀ s,(Tryz.prog.info? 273).map (·.size)=some (c8 s).size:=λs=>by kernel_rfl
      have hszC:=hsz8 s1
      have hszD:=hsz8 (Q5 s1 ((T2.drop (64*x)).take 64))
      have hsCD:(c8 s1).size=(c8 (Q5 s1 ((T2.drop (64*x)).take 64))).size:=by rw[JO,JO]
      clear hsz8
      have hone:=VX (Q5 s1 ((T2.drop (64*x)).take 64))
      generalize Q5 s1 ((T2.drop (64*x)).take 64)=s2 at*
      generalize hC1:c8 s1=C1 at*
      generalize hC2:c8 s2=C2 at*
      replace hC1:=Hd hC1
      replace hC2:=Hd hC2
      gi_wp2_with (with_reducible refine Kv rfl 273 (.tmp 5) rfl p C1 (.array 8 239) rfl hrow hu0 rfl hszC ?_)
      refine⟨trivial,(CallsIn.inRound l (callsIn_wide.2 (hta.out _ hag hKW))).mono ?_⟩
      rintro e w2 ⟨rfl,hd⟩
      have hrow2:Hid (w2.heap[p]? = some (.cells C1 273 (0,0))):=Hd ((hd.block p (Zb hrow.out)).trans hrow.out)
      replace hd:=Hd hd
      gi_wp2_with (with_reducible refine UZ rfl 273 (.tmp 5) (.tmp 50) rfl p C1 C2 rfl rfl hrow2 hszD hsCD hone ?_)
      intro w3 hU
      gi_wp2_with fail
      have hU2:=hU.out
      have hne:=hI.out.ne
      have hbd:=hd.out
      have hb3:Below w.heap.size W w3:=(hbd.mono hI.out.bel.size).trans (hU2.below oX)
      refine⟨⟨Nat.le_trans hbd.size (by rw[hU2.size];exact Nat.le_refl _),λk o _ hk ho=>?_⟩,⟨hb3,?_,?_⟩,?_⟩
      ·have hkp:k≠p:=by
        rintro rfl
        rw[hrow.out] at hk
        cases hk
        cases ho
       rw[hU2.block k hkp,hbd.block k (Zb hk)]
       exact hk
      ·rw[hU2.block _ (λe=>hne.1 e.symm),hbd.block _ (Zb hI.out.bB)]
      ·rw[hU2.block _ (λe=>hne.2.1 e.symm),hbd.block _ (Zb hI.out.bN)]
      ·show ChSt w p (p+1) (p+2) _ T2 (Jp S T2 ((pre++[(⟨x,hx⟩:Fin q)]).map Fin.val)) w3
       rw[List.map_append]
       show ChSt w p (p+1) (p+2) _ T2 (Jp S T2 (pre.map Fin.val++[x])) w3
       rw[hnx.out]
       have hown2:=hI.out.own.below hbd nR
       refine⟨by rw[hC2.out];exact hU2.here,?_,?_,?_,?_,hI.out.bel.trans hb3,hne⟩
       ·exact(hU2.block _ (λe=>hne.1 e.symm)).trans ((hbd.block _ (Zb hI.out.bB)).trans hI.out.bB)
       ·exact(hU2.block _ (λe=>hne.2.1 e.symm)).trans ((hbd.block _ (Zb hI.out.bN)).trans hI.out.bN)
       ·refine hown2.upd hU2 (λcur fz e=>?_)
        rw[hrow2.out] at e
        have:273=5:=by injection e with e;injection e
        exact absurd this dX
       ·exact(hU2.block _ oX).trans ((hbd.block _ (Zb hI.out.res)).trans hI.out.res)
     case hstop=>
      rintro D c pre W _ _ h _
      exact h.elim
     case hdone=>
      rintro D ys W hD hys hI hK
      have hfin:ChSt w p (p+1) (p+2) (.slice (some ⟨g,0,none⟩) (64*q) c3) T2 (ZK S T2 q) W:=by rw[<-GR,<-hys];exact hI
      have hrowF:=hfin.row
      have hu0:Tryz.prog.underlying 273=some (.array 8 239):=Tryz.underlying273
      have hszC:(Tryz.prog.info? 273).map (·.size)=some (c8 (ZK S T2 q)).size:=kX
      have hbA:Below W.heap.size W (W.alloc (.cells zero32 47)):=(Below.refl _ W).alloc nR _
      have hO0:OutSt W (Q4 (ZK S T2 q) 0) (W.alloc (.cells zero32 47)):=⟨by rw[GW,<-Kl];exact heap_alloc_new W _,hbA⟩
      have hidx:=λt h w=>CK (ZK S T2 q) t h w
      have hrowA:Hid ((W.alloc (.cells zero32 47)).heap[p]? = some (.cells (c8 (ZK S T2 q)) 273 (0,0))):=Hd ((hbA.block p (Zb hrowF)).trans hrowF)
      generalize hF:ZK S T2 q=F8 at*
      generalize hC:c8 F8=C at*
      replace hF:=Hd hF
      replace hC:=Hd hC
      replace hidx:=Hd hidx
      replace hO0:=Hd hO0
      replace hfin:=Hd hfin
      clear hI hys hrowF hbA hTl
      replace hD:=Hd hD
      replace hK:=Hd hK
      go_wp2_with (with_reducible refine Zd rfl 273 (.tmp 5) rfl p C (.array 8 239) rfl hrowA hu0 rfl hszC ?_)
      go_loopw [8,9,10,52] (λ_ _ _ j wr=>∃ i:Nat,i<=8/\j=.int .i64 i/\OutSt W (Q4 F8 (4*i)) wr)
       (λ_ _ _ j _=>8-(intOf j).toNat)
      case atStart=>exact⟨0,Nat.zero_le _,rfl,hO0.out⟩
      case round=>
       clear hO0
       obtain⟨i,hi,rfl,hO⟩:=hrel
       replace hO:=Hd hO
       by_cases hlt:i<8
       ·have hix:=hidx.out i hlt
        have hi8:(i:Int)<8:=oX
        go_wp2_with fail
        go_loopw [10,56] (λ_ j wr=>∃ k:Nat,k<=4/\j=.int .i64 k/\OutSt W (Q4 F8 (4*i+k)) wr)
         (λ_ j _=>4-(intOf j).toNat)
        case atStart=>exact⟨0,Nat.zero_le _,rfl,hO.out⟩
        case round=>
         clear hO
         obtain⟨k,hk,rfl,hO⟩:=hrel
         by_cases hlk:k<4
         ·have hb:=Hd (Jw F8 i k hlt hlk)
          have hc:=hO.cell (j:=4*i+k) oX
          have hf:=hO.free (4*i+k)
          have hS2:=Hd hO.set
          replace hO:=Hd hO
          have hk4:(k:Int)<4:=oX
          go_wp2_with fail
          exact⟨⟨k+1,oX,by go_num,by rw[<-hb.out];exact hS2.out⟩,by simp[intOf];omega⟩
         ·obtain rfl:k=4:=oX
          replace hO:=Hd hO
          go_wp2_with fail
          exact⟨⟨i+1,oX,by go_num,hO.out⟩,by simp[intOf];omega⟩
       ·obtain rfl:i=8:=oX
        have hO2:=hO.out
        rw[show 4*8=32 from rfl] at hO2
        have hro:=Hd hO2.row
        have hres:=Hd ((hO2.bel.block _ (Zb hfin.out.res)).trans hfin.out.res)
        have hbel:=Hd hO2.bel
        have hDg:cB (tab 32 (Q4 F8 32))=cB (sha m):=by
         rw[NZ,Cd m q (by rw[hT];exact hTq.out),hT,hSS,hF.out]
        rw[hDg] at hro
        have hu1:Tryz.prog.underlying 47=some (.array 32 5):=Tryz.underlying47
        have hszS:(Tryz.prog.info? 47).map (·.size)=some (cB (sha m)).toArray.size:=by rw[List.size_toArray,Ze,Qp];kernel_rfl
        have hsZ:zero32.size=(cB (sha m)).toArray.size:=by rw[QG,List.size_toArray,Ze,Qp]
        have hone:(cB (sha m)).toArray.all (·.oneCell')=true:=by
         rw[List.all_toArray,List.all_eq_true]
         exact ZI _
        generalize hDD:(cB (sha m)).toArray=DD at*
        clear hO hO2 hDg hidx hrowA
        go_wp2_with (first|with_reducible refine Zd rfl 47 (.tmp 7) rfl W.heap.size DD (.array 32 5) rfl hro hu1 rfl hszS ?_|with_reducible refine Zc rfl 47 (.tmp 2) (.tmp 72) rfl w.heap.size zero32 DD rfl rfl hres hszS hsZ hone ?_)
        intro w9 hU9
        go_wp2_with fail
        have hDp:w.heap.size<D:=by
         have h1:=hCh.out.ne.2.2
         have h2:=Zb hCh.out.row
         have h3:=hD.out
         omega
        have hU:=hU9.out
        have hK9:w9.heap[D]? = some (.deferred (some [])):=(hU.block D oX).trans ((hbel.out.block D (Zb hK.out)).trans hK.out)
        have hb9:Below w.heap.size w w9:=hfin.out.bel.trans ((hbel.out.mono hfin.out.bel.size).trans (hU.below nR))
        refine⟨sX,.inl ⟨_,_,rfl,run_takeDeferred hK9,?_⟩⟩
        refine⟨.agg DD,?_,by rw[hDD],hb9.trans (belowK_b (w:=w) nR w9 D _ _ oX hK9 rfl rfl)⟩
        have hh:(w9.putObj D (.deferred none)).heap[w.heap.size]? = some (.cells DD 47 (0,0)):=(World.putObj_heap_other oX).trans hU.here
        rw[J4 rfl]
        simp[asAddr,Result.andThen,run_loadVar_row _ w.heap.size _ _ DD (0,0) _ hh hu1 rfl hszS]
open Go.RowKit
structure ArgBB (w:World) (a:Option Addr) (cap:Nat) (ps:List (List UInt8)):Prop where
 len:ps.length<=cap
 most:cap<=maxLen
 nil:a=none->cap=0
 row:∀ i,i<ps.length->∃ b off,a=some ⟨b,off,none⟩/\∃ ai ci,w.cell? ⟨b,off+i,none⟩=some (.slice ai (ps.getD i []).length ci)/\ArgB w ai ci (ps.getD i [])
theorem ArgBB.below{w w':World}{a:Option Addr}{cap:Nat}{ps:List (List UInt8)}(h:ArgBB w a cap ps)(hb:Below w.heap.size w w'):ArgBB w' a cap ps:=
 ⟨h.len,h.most,h.nil,λi hi=>by
  obtain⟨b,off,e,ai,ci,hc,hr⟩:=h.row i hi
  exact⟨b,off,e,ai,ci,(hb.cell (World.block_lt_of_cell? w _ hc)).trans hc,hr.below hb⟩⟩
theorem J5(ps:List (List UInt8))(i:Nat)(h:i<ps.length):(ps.take (i+1)).flatten=(ps.take i).flatten++ps.getD i []:=by
 rw[List.take_add_one,List.flatten_append]
 simp[List.getD_eq_getElem?_getD,h]
theorem XT(ps:List (List UInt8))(i:Nat):(ps.take i).flatten.length<=ps.flatten.length:=by
 conv=>rhs;rw[<-List.take_append_drop i ps]
 rw[List.flatten_append,List.length_append]
 omega
theorem Bu(ps:List (List UInt8))(i:Nat):(ps.getD i []).length<=ps.flatten.length:=by
 by_cases h:i<ps.length
 ·have h1:=J5 ps i h
  have h2:=XT ps (i+1)
  rw[h1,List.length_append] at h2
  omega
 ·rw[List.getD_eq_getElem?_getD,List.getElem?_eq_none oX]
  exact Nat.zero_le _
theorem Kj(a:Option Addr)(ca:Nat)(ps:List (List UInt8))(w:World)(h:ArgBB w a ca ps)(hl:ps.flatten.length<=100000)(hn:ps.length<=100000)(hK:ShaK w)(hF:ShaF w) :
  Calls Tryz.prog 117 #[.slice a ps.length ca] w λe w'=>e=.returned (.agg (cB (sha ps.flatten)).toArray)/\Below w.heap.size w w':=by
 have zr:=QF
 have zn:=Qg
 obtain⟨A,hA⟩:∃ A,A=w.alloc (.cells zero32 47):=⟨_,rfl⟩
 have hbA:Below w.heap.size w A:=by rw[hA];exact(Below.refl _ w).alloc nR _
 have hsA:A.heap.size=w.heap.size+1:=by rw[hA];simp
 have hzA:A.heap[w.heap.size]? = some (.cells zero32 47 (0,0)):=by rw[hA];exact heap_alloc_new w _
 have hnew:=Hd (Dw A (hF.below hbA))
 have hKA:=Hd (hK.below hbA)
 have hPA:=Hd (h.below hbA)
 replace hbA:=Hd hbA
 replace hsA:=Hd hsA
 replace hzA:=Hd hzA
 replace hA:=Hd hA
 clear hF hK h
 go_enter Tryz.func117,Tryz.ntmps117
 go_wp2_with fail
 rw[<-hA.out]
 with_reducible refine hnew.out.mono ?_
 rintro e w1 ⟨rfl,hH⟩
 replace hH:=Hd hH
 obtain⟨b,hb⟩:∃ b,b=A.heap.size:=⟨_,rfl⟩
 rw[<-hb] at hH ⊢
 replace hb:=Hd hb
 go_wp2_with fail
 go_loopw [5,9] (λ_ j wr=>∃ i:Nat,i<=ps.length/\j=.int .i64 i/\UD A b (ps.take i).flatten wr)
  (λ_ j _=>ps.length-(intOf j).toNat)
 case atStart=>exact⟨0,Nat.zero_le _,rfl,hH.out⟩
 case round=>
  clear hH
  obtain⟨i,hi,rfl,hH⟩:=hrel
  have hH0:=hH
  obtain⟨_,_,_,hHat,_,_⟩:=hH0
  have hBel:=hHat.bel
  clear hHat
  replace hH:=Hd hH
  by_cases hlt:i<ps.length
  ·obtain⟨pb,po,rfl,ai,ci,hc,hr⟩:=hPA.out.row i hlt
   replace hc:=(hBel.cell (World.block_lt_of_cell? A _ hc)).trans hc
   have hput:=Hd (Bn A b (ps.take i).flatten ai ci (ps.getD i []) wr hH.out hr hKA.out (by have:=XT ps i;omega) (by have:=Bu ps i;omega))
   have hnx:=Hd (J5 ps i hlt)
   have hil:(i:Int)<ps.length:=oX
   replace hr:=Hd hr
   generalize ps.getD i []=pi at*
   go_wp2_with fail
   with_reducible refine hput.out.mono ?_
   rintro e w2 ⟨rfl,hH2⟩
   replace hH2:=Hd hH2
   go_wp2_with fail
   go_roundw
   case rel=>exact⟨i+1,oX,by go_num,by rw[hnx.out];exact hH2.out⟩
   case measure=>simp[intOf];omega
  ·obtain rfl:i=ps.length:=oX
   have hsum:=Hd (BE A b (ps.take ps.length).flatten wr hH.out hKA.out (by have:=XT ps ps.length;omega))
   rw[List.take_length] at hsum
   have hszS:(Tryz.prog.info? 47).map (·.size)=some (cB (sha ps.flatten)).toArray.size:=by rw[List.size_toArray,Ze,Qp];kernel_rfl
   have hsZ:zero32.size=(cB (sha ps.flatten)).toArray.size:=by rw[QG,List.size_toArray,Ze,Qp]
   have hone:(cB (sha ps.flatten)).toArray.all (·.oneCell')=true:=by
    rw[List.all_toArray,List.all_eq_true]
    exact ZI _
   have hu1:Tryz.prog.underlying 47=some (.array 32 5):=Tryz.underlying47
   generalize hDD:(cB (sha ps.flatten)).toArray=DD at*
   replace hDD:=Hd hDD
   replace hBel:=Hd hBel
   go_wp2_with fail
   with_reducible refine hsum.out.mono ?_
   rintro e w3 ⟨rfl,hd⟩
   have hb3:=Hd (hBel.out.trans (hd.mono hBel.out.size))
   have hres:=Hd ((hb3.out.block _ (by rw[hsA.out];omega)).trans hzA.out)
   replace hd:=Hd hd
   go_wp2_with (with_reducible refine Zc rfl 47 (.tmp 2) (.tmp 18) rfl w.heap.size zero32 DD rfl rfl hres hszS hsZ hone ?_)
   intro w9 hU9
   go_wp2_with fail
   refine ZE rfl rfl hu1 rfl hszS hU9.out.here ⟨by rw[hDD.out],?_⟩
   exact hbA.out.trans ((hb3.out.mono hbA.out.size).trans (hU9.out.below nR))
end Go.Proofs.YtpdhceiodgnbmaaGreatDoor
namespace Go.Proofs.YtpdhceiodgnbmaaGreatDoor
open Go.RowKit
def lnB(n:Nat):List UInt8:=[UInt8.ofNat (n / 256),UInt8.ofNat n]
def Zn(h r:List UInt8):List UInt8:=sha (h++(lnB r.length++r))
theorem Qh(h r:List UInt8):(Zn h r).length=32:=Qp _
def Zp(h r:List UInt8):List UInt8:=lnB r.length++(Zn h r++r)
theorem QW(h r:List UInt8):(Zp h r).length=34+r.length:=by simp[Zp,lnB,Qh];omega
def ZT(b:List UInt8):Nat:=(b.getD 0 0).toNat*256+(b.getD 1 0).toNat
def Zy(b h:List UInt8):Option (List UInt8):=
 if b.length<34 then none else if ZT b<1\/400<ZT b\/b.length<34+ZT b then none
 else if (b.drop 2).take 32=Zn h ((b.drop 34).take (ZT b)) then some ((b.drop 34).take (ZT b)) else none
theorem YT{b h r:List UInt8}(e:Zy b h=some r):1<=r.length/\r.length<=400/\34+r.length<=b.length/\r.length=ZT b/\r=(b.drop 34).take r.length/\(b.drop 2).take 32=Zn h r:=by
 unfold Zy at e
 split at e
 ·cases e
 ·split at e
  ·cases e
  ·next h2=>
   split at e
   ·next h3=>
    injection e with e
    have hl:r.length=ZT b:=by rw[<-e,List.length_take,List.length_drop];omega
    refine⟨oX,oX,oX,hl,?_,?_⟩
    ·rw[hl,e]
    ·rw[h3,e]
   ·cases e
def Uj:Nat->List UInt8->List UInt8->List (List UInt8)
 | 0,_,_=>[]
 | k+1,b,h=>match Zy b h with
  | none=>[]
  | some r=>r::Uj k (b.drop (34+r.length)) (Zn h r)
def ZC(b h:List UInt8):List (List UInt8):=Uj (b.length+1) b h
theorem PG(k:Nat):∀ (j:Nat) (b h:List UInt8),b.length<k->b.length<j->Uj k b h=Uj j b h:=by
 induction k with
 | zero=>intro j b h h1;omega
 | succ k ih=>
  intro j b h h1 h2
  cases j with
  | zero=>omega
  | succ j=>
   simp only[Uj]
   cases e:Zy b h with
   | none=>rfl
   | some r=>
    have:=YT e
    simp only
    rw[ih j (b.drop (34+r.length)) (Zn h r) c3X c3X]
theorem YI{b h:List UInt8}(e:Zy b h=none):ZC b h=[]:=by simp[ZC,Uj,e]
theorem Xk{b h r:List UInt8}(e:Zy b h=some r):ZC b h=r::ZC (b.drop (34+r.length)) (Zn h r):=by
 have:=YT e
 rw[ZC,Uj,e]
 simp only
 rw[ZC,PG _ (((b.drop (34+r.length)).length)+1) _ _ c3X oX]
def Zg(h:List UInt8)(l:List (List UInt8)):List UInt8:=l.foldl Zn h
theorem Yn(h:List UInt8)(l:List (List UInt8))(r:List UInt8):Zg h (l++[r])=Zn (Zg h l) r:=by simp[Zg]
theorem Qj{h:List UInt8}(hl:h.length=32)(l:List (List UInt8)):(Zg h l).length=32:=by
 have:∀ (l:List (List UInt8)) (h:List UInt8),h.length=32->(Zg h l).length=32:=by
  intro l
  induction l with
  | nil=>intro h hl;exact hl
  | cons r l ih=>intro h _;exact ih (Zn h r) (Qh h r)
 exact this l h hl
def Yt:List UInt8->List (List UInt8)->List (List UInt8)
 | _,[]=>[]
 | h,r::l=>Zn h r::Yt (Zn h r) l
theorem K9(l:List (List UInt8)):∀ (h r:List UInt8),Yt h (l++[r])=Yt h l++[Zn (Zg h l) r]:=by
 induction l with
 | nil=>intro h r;rfl
 | cons q l ih=>intro h r;simp only[List.cons_append,Yt,ih];rfl
theorem YK(l:List (List UInt8)):∀ h,(Yt h l).length=l.length:=by
 induction l with
 | nil=>intro h;rfl
 | cons q l ih=>intro h;simp[Yt,ih]
theorem HT(l:List (List UInt8))(h:List UInt8)(hl:0<l.length):(Yt h l).getD (l.length-1) []=Zg h l:=by
 obtain⟨m,r,rfl⟩:∃ m r,l=m++[r]:=by
  rcases List.eq_nil_or_concat l with e|⟨m,r,e⟩
  ·subst e;simp at hl
  ·exact⟨m,r,by rw[e,List.concat_eq_append]⟩
 rw[K9,Yn]
 have:=YK m h
 simp[List.getD_eq_getElem?_getD,this]
def ZW:List UInt8->List (List UInt8)->List UInt8
 | _,[]=>[]
 | h,r::l=>Zp h r++ZW (Zn h r) l
theorem JZ(l:List (List UInt8)):∀ (h r:List UInt8),ZW h (l++[r])=ZW h l++Zp (Zg h l) r:=by
 induction l with
 | nil=>intro h r;simp[ZW,Zg]
 | cons q l ih=>intro h r;simp only[List.cons_append,ZW,ih,List.append_assoc];rfl
def Zh(l:List (List UInt8)):Nat:=(l.map λr=>34+r.length).sum
theorem QK(l:List (List UInt8))(r:List UInt8):Zh (l++[r])=Zh l+(34+r.length):=by simp[Zh]
theorem YN(l:List (List UInt8)):∀ h,(ZW h l).length=Zh l:=by
 induction l with
 | nil=>intro h;rfl
 | cons q l ih=>intro h;rw[ZW,List.length_append,ih,QW];simp[Zh]
def okR(r:List UInt8):Prop:=1<=r.length/\r.length<=400
theorem V0{n:Nat}(h:n<=60000):(UInt8.ofNat (n / 256)).toNat=n / 256:=by rw[UInt8.toNat_ofNat'];omega
theorem Vp(n:Nat):(UInt8.ofNat n).toNat=n % 256:=by rw[UInt8.toNat_ofNat']
theorem Rh{r t:List UInt8}{h:List UInt8}(hr:r.length<=400):ZT (Zp h r++t)=r.length:=by
 show (UInt8.ofNat (r.length / 256)).toNat*256+(UInt8.ofNat r.length).toNat=r.length
 rw[V0 oX,Vp]
 omega
theorem UX{h r t:List UInt8}(hr:okR r):Zy (Zp h r++t) h=some r:=by
 have hn:=Rh (t:=t) (h:=h) hr.2
 have hl:=QW h r
 have h34:(Zp h r++t).drop 34=r++t:=by
  rw[Zp,show lnB r.length++(Zn h r++r)++t=(lnB r.length++Zn h r)++(r++t) by simp[List.append_assoc]]
  rw[List.drop_append_of_le_length (by simp[lnB,Qh]),List.drop_of_length_le (by simp[lnB,Qh])]
  rfl
 have h2:((Zp h r++t).drop 2).take 32=Zn h r:=by
  show ((Zn h r++r)++t).take 32=_
  rw[List.append_assoc,<-Qh h r,List.take_left]
 have h1:=hr.1
 have h400:=hr.2
 unfold Zy
 rw[if_neg (by rw[List.length_append];omega),hn,if_neg (by rw[List.length_append];omega),h34,List.take_left,if_pos h2]
theorem Pi(h r t:List UInt8):(Zp h r++t).drop (34+r.length)=t:=by rw[<-QW h r,List.drop_left]
theorem H3(l:List (List UInt8)):∀ (h t:List UInt8),(∀ r∈l,okR r)->Zy t (Zg h l)=none->ZC (ZW h l++t) h=l:=by
 induction l with
 | nil=>intro h t _ e;exact YI e
 | cons r l ih=>
  intro h t hr e
  rw[ZW,List.append_assoc,Xk (UX (hr r (List.mem_cons_self ..))),Pi,ih _ _ (λq hq=>hr q (List.mem_cons_of_mem _ hq)) e]
theorem UK{t h:List UInt8}(hz:∀ i,i<2->t.getD i 0=0):Zy t h=none:=by
 have hn:ZT t=0:=by unfold ZT;rw[hz 0 oX,hz 1 oX];rfl
 unfold Zy
 split
 ·rfl
 ·rw[if_pos oX]
theorem Gd(k:Nat):∀ (b h:List UInt8),b.length<k->∀ r∈ZC b h,okR r:=by
 induction k with
 | zero=>intro b h hk;omega
 | succ k ih=>
  intro b h hk r hr
  cases e:Zy b h with
  | none=>rw[YI e] at hr;cases hr
  | some q=>
   have hq:=YT e
   rw[Xk e] at hr
   rcases List.mem_cons.1 hr with rfl|hr
   ·exact⟨hq.1,hq.2.1⟩
   ·exact ih _ _ c3X r hr
theorem Cw{b:List UInt8}(h:2<=b.length):b.take 2=[b.getD 0 0,b.getD 1 0]:=by
 match b,h with
 | x::y::t,_=>rfl
theorem N4(k:Nat):∀ (b h:List UInt8),b.length<k->Zh (ZC b h)<=b.length/\b.take (Zh (ZC b h))=ZW h (ZC b h)/\Zy (b.drop (Zh (ZC b h))) (Zg h (ZC b h))=none:=by
 induction k with
 | zero=>intro b h hk;omega
 | succ k ih=>
  intro b h hk
  cases e:Zy b h with
  | none=>rw[YI e];exact⟨Nat.zero_le _,rfl,e⟩
  | some q=>
   obtain⟨q1,q2,q3,q4,q5,q6⟩:=YT e
   obtain⟨k1,k2,k3⟩:=ih (b.drop (34+q.length)) (Zn h q) c3X
   rw[Xk e]
   have hend:Zh (q::ZC (b.drop (34+q.length)) (Zn h q))=34+q.length+Zh (ZC (b.drop (34+q.length)) (Zn h q)):=by simp[Zh]
   rw[hend]
   rw[List.length_drop] at k1
   refine⟨oX,?_,?_⟩
   ·rw[List.take_add,k2,ZW]
    congr 1
    have hn:lnB q.length=b.take 2:=by
     have hb:=Cw (show 2<=b.length by omega)
     have e0:UInt8.ofNat (q.length / 256)=b.getD 0 0:=by
      apply UInt8.toNat_inj.1
      rw[V0 oX,q4]
      unfold ZT
      have:=(b.getD 1 0).toNat_lt
      omega
     have e1:UInt8.ofNat q.length=b.getD 1 0:=by
      apply UInt8.toNat_inj.1
      rw[Vp,q4]
      unfold ZT
      have:=(b.getD 1 0).toNat_lt
      omega
     rw[lnB,e0,e1,hb]
    have hs:b.take (34+q.length)=b.take 2++((b.drop 2).take 32++(b.drop 34).take q.length):=by
     rw[show 34+q.length=2+(32+q.length) by omega,List.take_add,List.take_add,List.drop_drop]
    rw[hs,Zp,hn,q6,<-q5]
   ·rw[<-List.drop_drop]
    exact k3
end Go.Proofs.YtpdhceiodgnbmaaGreatDoor
namespace Go.Proofs.YtpdhceiodgnbmaaGreatDoor
open Go.RowKit
theorem Uy{l:List UInt8}{i:Nat}(h:i<l.length):(cB l)[i]? = some (.int .u8 ((l.getD i 0).toNat:Int)):=by simp[cB,h]
theorem QH{W:World}{g:Nat}{l:List UInt8}{t:TypeId}{c:Nat}(h:W.heap[g]? = some (.cells (cB l).toArray t (0,0)))(hl:l.length<=c)(hc:c<=1000000):ArgB W (some ⟨g,0,none⟩) c l:=by
 refine⟨hl,by unfold maxLen;omega,(λe=>by cases e),λi hi=>⟨g,0,rfl,?_⟩⟩
 rw[Nat.zero_add,Za h,List.getElem?_toArray,Uy hi]
theorem PE{w:World}{g:Nat}{o:Obj}(h:w.heap[g]? = some o):∀ W,Grown w W->W.heap[g]? = some o:=λ_ hW=>(hW.block g (Zb h)).trans h
theorem K8{w:World}{a a' a'':Option Addr}{c c' c'':Nat}{p q r:List UInt8}{g:Nat}(h:ArgB w a c p)(h':ArgB w a' c' q)(h'':ArgB w a'' c'' r)(hg:w.heap[g]? = some (.cells #[.slice a p.length c,.slice a' q.length c',.slice a'' r.length c''] 24 (0,0))):ArgBB w (some ⟨g,0,none⟩) 3 [p,q,r]:=by
 refine⟨Nat.le_refl _,by unfold maxLen;omega,(λe=>by cases e),λi hi=>⟨g,0,rfl,?_⟩⟩
 have hi2:i<3:=by simpa using hi
 match i,hi2 with
 | 0,_=>exact⟨a,c,by rw[Za hg];rfl,h⟩
 | 1,_=>exact⟨a',c',by rw[Za hg];rfl,h'⟩
 | 2,_=>exact⟨a'',c'',by rw[Za hg];rfl,h''⟩
theorem Qb{l:List UInt8}(h:l.length=32):(Tryz.prog.info? 47).map (·.size)=some (cB l).toArray.size:=by rw[List.size_toArray,Ze,h];kernel_rfl
theorem YM(l:List UInt8):(cB l).toArray.all (·.oneCell')=true:=by
 rw[List.all_toArray,List.all_eq_true]
 exact ZI _
theorem YQ{l:List UInt8}(h:l.length=32):zero32.size=(cB l).toArray.size:=by rw[QG,List.size_toArray,Ze,h]
end Go.Proofs.YtpdhceiodgnbmaaGreatDoor
namespace Go.Proofs.YtpdhceiodgnbmaaGreatDoor
open Go.RowKit
theorem H7(n:Nat)(hn:n<=1000)(w:World):Calls Tryz.prog 158 #[.int .i64 (n:Int)] w λx w'=>x=.returned (.slice (some ⟨w.heap.size,0,none⟩) 2 2)/\ArgB w' (some ⟨w.heap.size,0,none⟩) 2 (lnB n)/\Below w.heap.size w w':=by
 have hl:ArgB (w.alloc (.cells (cB (lnB n)).toArray 5)) (some ⟨w.heap.size,0,none⟩) 2 (lnB n):=QH (heap_alloc_new w _) (by simp[lnB]) dX
 have hb:Below w.heap.size w (w.alloc (.cells (cB (lnB n)).toArray 5)):=bR.alloc nR _
 have e0:(((UInt8.ofNat (n / 256)).toNat:Nat):Int)=(n:Int) / 256:=by rw[V0 oX];omega
 have e1:(((UInt8.ofNat n).toNat:Nat):Int)=(n:Int) % 256:=by rw[Vp];omega
 have hcells:(cB (lnB n)).toArray=#[.int .u8 ((n:Int) / 256),.int .u8 ((n:Int) % 256)]:=by
  rw[<-e0,<-e1];rfl
 rw[hcells] at hl hb
 replace hl:=Hd hl
 replace hb:=Hd hb
 have h1:(n:Int) / 256 % 256=(n:Int) / 256:=oX
 clear hcells e0 e1
 go_enter Tryz.func158,Tryz.ntmps158
 go_wp2_with fail
 go_ret
 exact⟨rfl,hl.out,hb.out⟩
theorem J1(n:Int)(w:World):Calls Tryz.prog 157 #[.int .i64 n] w λx w'=>x=.returned (.bool (decide (1<=n/\n<=400)))/\w=w':=by
 by_cases h1:1<=n
 ·by_cases h2:n<=400
  ·go_enter Tryz.func157,Tryz.ntmps157
   go_wp2_with fail
   go_ret
   exact⟨by simp[h1,h2],rfl⟩
  ·have h3:decide (n<=400)=false:=by simpa using h2
   go_enter Tryz.func157,Tryz.ntmps157
   go_wp2_with fail
   go_ret
   exact⟨by simp[h2],rfl⟩
 ·have h3:decide (1<=n)=false:=by simpa using h1
  go_enter Tryz.func157,Tryz.ntmps157
  go_wp2_with fail
  go_ret
  exact⟨by simp[h1],rfl⟩
end Go.Proofs.YtpdhceiodgnbmaaGreatDoor
namespace Go.Proofs.YtpdhceiodgnbmaaGreatDoor
open Go.RowKit
theorem Vo(h r:List UInt8)(hh:h.length=32)(a:Option Addr)(c:Nat)(w:World)(ha:ArgB w a c r)(hr:r.length<=1000)(hK:ShaK w)(hF:ShaF w) :
  Calls Tryz.prog 128 #[.agg (cB h).toArray,.slice a r.length c] w λx w'=>x=.returned (.agg (cB (Zn h r)).toArray)/\Below w.heap.size w w':=by
 have zr:=QF
 have zn:=Qg
 have hN:=Qh h r
 obtain⟨N,hNd⟩:∃ N,N=(cB (Zn h r)).toArray:=⟨_,rfl⟩
 have tD:=Qb hN
 have t32:=YQ hN
 have tO:=YM (Zn h r)
 have hsh:=λ(W:World) (g:Nat) hA hB hC=>Kj (some ⟨g,0,none⟩) 3 [h,lnB r.length,r] W hA (by simp[hh,lnB];omega) sX hB hC
 rw[show sha [h,lnB r.length,r].flatten=Zn h r by simp[Zn],show [h,lnB r.length,r].length=3 from rfl] at hsh
 rw[<-hNd] at tD t32 tO hsh ⊢
 obtain⟨H,hHd⟩:∃ H,H=(cB h).toArray:=⟨_,rfl⟩
 rw[<-hHd]
 have hbx:=heap_alloc_new w (.cells (cB h).toArray 47 (0,0))
 rw[<-hHd] at hbx
 obtain⟨A,hA⟩:∃ A,A=(w.alloc (.cells H 47)).alloc (.cells zero32 47):=⟨_,rfl⟩
 have hw0:Below w.heap.size w A:=by rw[hA];exact((Below.refl _ w).alloc nR _).alloc sX _
 have hx:A.heap[w.heap.size]? = some (.cells (cB h).toArray 47 (0,0)):=by rw[hA,<-hHd];exact(Below.heap_alloc _ _ _ sX).trans hbx
 have hZ:A.drew.heap[w.heap.size+1]? = some (.cells zero32 47 (0,0)):=by
  have:=heap_alloc_new (w.alloc (.cells H 47)) (.cells zero32 47 (0,0))
  rw[World.size_alloc] at this
  rw[hA];exact this
 have hd1:=hw0.drew
 have hah:ArgB A.drew (some ⟨w.heap.size,0,none⟩) 32 h:=QH hx oX dX
 have har:ArgB A.drew a c r:=ha.below hd1
 obtain⟨p,hp⟩:∃ p,p=w.heap.size+1:=⟨_,rfl⟩
 rw[<-hp] at hZ
 have hpl:w.heap.size<=p:=oX
 have hlt:p<A.drew.heap.size:=Zb hZ
 have hsz:=λW=>H7 r.length hr W
 have hmk:=λW ax cx ay cy az cz g (h1:ArgB W ax cx h) (h2:ArgB W ay cy (lnB r.length)) (h3:ArgB W az cz r)=>K8 (g:=g) h1 h2 h3
 rw[hh,show (lnB r.length).length=2 from rfl] at hmk
 clear hbx hx
 replace hNd:=Hd hNd
 replace hHd:=Hd hHd
 replace hsh:=Hd hsh
 replace hmk:=Hd hmk
 replace hsz:=Hd hsz
 replace hZ:=Hd hZ
 replace hp:=Hd hp
 replace hd1:=Hd hd1
 replace hA:=Hd hA
 replace hK:=Hd hK
 replace hF:=Hd hF
 replace hah:=Hd hah
 replace har:=Hd har
 replace hh:=Hd hh
 replace hN:=Hd hN
 clear ha
 go_enter Tryz.func128,Tryz.ntmps128
 go_wp2_with fail
 rw[<-hA.out,<-hp.out]
 refine wp_region_held_drew (S:=(Below w.heap.size w)) kX hd1.out (λhOn=>?_)
 generalize World.drew A=wd at*
 refine tk 0 hOn ?_
 refine tk 1 hOn ?_
 refine tk 2 hOn ?_
 refine tk 4 hOn ?_
 refine rd 3 (λKz hKz=>?_)
 go_simp
 (with_reducible refine(hsz.out _).mono ?_)
 rintro e w3 ⟨rfl,hl3,hnew⟩
 replace hZ:=Hd (PE hZ.out _ hnew)
 replace hah:=Hd (hah.out.below hnew)
 replace har:=Hd (har.out.below hnew)
 replace hl3:=Hd hl3
 clear hsz
 focus (go_wp2_with fail)
 refine hKz.out _ _ (Below.trans hOn (Below.mono hnew (Below.size hOn))) ?_
 clear hKz Kz hOn
 intro hOn
 try clear hnew
 try simp only[Act.put,sL,sZ,sS]
 refine rd 5 (λKz hKz=>?_)
 go_simp
 focus (try go_wp2_with fail)
 (with_reducible refine Zq (t:=24) ?_)
 intro w5 hx5 hnew
 have hq5:=Hd (hmk.out _ _ _ _ _ _ _ _ (hah.out.below hnew) (hl3.out.below hnew) (har.out.below hnew) hx5.out)
 replace hZ:=Hd (PE hZ.out _ hnew)
 refine hKz.out _ _ (Below.trans hOn (Below.mono hnew (Below.size hOn))) ?_
 clear hKz Kz hOn
 intro hOn
 try clear hnew
 try simp only[Act.put,sL,sZ,sS]
 refine rd 6 (λKz hKz=>?_)
 go_simp
 (with_reducible refine(hsh.out _ _ hq5.out (hK.out.below hOn) (hF.out.below hOn)).mono ?_)
 rintro e w8 ⟨rfl,hnew⟩
 replace hZ:=Hd (PE hZ.out _ hnew)
 focus (go_wp2_with fail)
 refine hKz.out _ _ (Below.trans hOn (Below.mono hnew (Below.size hOn))) ?_
 clear hKz Kz hOn
 intro hOn
 try clear hnew
 try simp only[Act.put,sL,sZ,sS]
 refine rd 7 (λKz hKz=>?_)
 rw[if_pos (by rfl)]
 (with_reducible refine Zu 47 (.tmp 4) (.tmp 11) rfl p zero32 N rfl rfl hZ tD t32 tO ?_)
 intro w9 hU9
 have hS:=hOn.trans (hU9.out.below hpl)
 refine hKz.out _ _ hS ?_
 clear hKz Kz hOn hS
 intro hOn
 try simp only[Act.put]
 refine dnE ?_
 have hu1:Tryz.prog.underlying 47=some (.array 32 5):=Tryz.underlying47
 go_wp2_with fail
 refine ZE rfl rfl hu1 rfl tD hU9.out.here ⟨rfl,hOn⟩
end Go.Proofs.YtpdhceiodgnbmaaGreatDoor
