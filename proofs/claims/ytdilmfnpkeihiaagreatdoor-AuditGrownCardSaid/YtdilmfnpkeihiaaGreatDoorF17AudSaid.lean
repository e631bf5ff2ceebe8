import Derived.Test.YtdilmfnpkeihiaaGreatDoorF0AudSaid
import Derived.Test.YtdilmfnpkeihiaaGreatDoorF2AudSaid
import Derived.Test.YtdilmfnpkeihiaaGreatDoorF16AudSaid
import Derived.Test.YtdilmfnpkeihiaaGreatDoorF6AudSaid
set_option linter.unusedVariables false
set_option linter.unusedSimpArgs false
set_option linter.unnecessarySimpa false
set_option maxRecDepth 100000
set_option maxHeartbeats 8000000
namespace Go.Proofs.YtdilmfnpkeihiaaGreatDoor
open Go.RowKit
@[irreducible] def zero64:Array Value:=(cW (Zn 64 λ_=>0)).toArray
theorem U0(w:World):(zeroValue 237).run Tryz.prog w=.ok (.agg zero64) w:=kX
theorem Xc:zero64.size=64:=kX
theorem Ke:zero64≠#[]:=λe=>by have:=Xc;rw[e] at this;cases this
theorem Kf:zero64=(cW (Zn 64 λ_=>0)).toArray:=by unfold zero64;rfl
structure WdSt (w:World) (r o:Nat) (f:Nat->W32) (W:World):Prop where
 row:W.heap[o]? = some (.cells (cW (Zn 64 f)).toArray 237 (0,0))
 res:W.heap[r]? = some (.cells zero64 237 (0,0))
 bel:Below w.heap.size w W
theorem WdSt.drawn{w:World}{r o:Nat}{f:Nat->W32}{W W':World}(h:WdSt w r o f W)(hd:Drawn W W'):WdSt w r o f W':=by
 obtain⟨n,rfl⟩:=hd
 exact⟨h.row,h.res,below_drewN h.bel n⟩
theorem WdSt.set{w:World}{r o:Nat}{f:Nat->W32}{W:World}(h:WdSt w r o f W)(h1:r≠o)(h3:w.heap.size<=o)(j:Nat)(x:W32) :
  WdSt w r o (λi=>if i=j then x else f i) (W.setCell ⟨o,j,none⟩ (.int .u32 (wn x))):=by
 have hu:=(Upd.refl h.row).setCell (j:=j) (.int .u32 (wn x))
 refine⟨?_,(hu.block r h1).trans h.res,h.bel.trans (hu.below h3)⟩
 rw[<-Jv,<-Km];exact hu.here
theorem WdSt.congr{w:World}{r o:Nat}{f g:Nat->W32}{W:World}(h:WdSt w r o f W)(e:∀ i,i<64->f i=g i):WdSt w r o g W:=
 ⟨by rw[<-Qg e];exact h.row,h.res,h.bel⟩
theorem WdSt.cell{w:World}{r o:Nat}{f:Nat->W32}{W:World}(h:WdSt w r o f W){j:Nat}(hj:j<64):W.cell? ⟨o,j,none⟩=some (.int .u32 (wn (f j))):=by
 rw[Za h.row,Jp hj]
theorem WdSt.free{w:World}{r o:Nat}{f:Nat->W32}{W:World}(h:WdSt w r o f W)(j:Nat):W.frozen? ⟨o,j,none⟩=false:=Zg h.row _
def Q3(o t:Nat)(bs:List UInt8)(W:World):Prop:=∀ i,i<t->W.cell? ⟨o,i,none⟩=some (.int .u32 (wn (wAt bs i)))
def ZW(b:List UInt8)(t j i:Nat):W32:=if i<t then YE b i else if i=t then QE b t j else 0
def ZY(b:List UInt8)(t i:Nat):W32:=if i<t then wAt b i else 0
theorem JV(b:List UInt8):Zn 64 (ZW b 0 0)=Zn 64 λ_=>0:=by
 refine Qg λi _=>?_
 unfold ZW
 rw[if_neg (Nat.not_lt_zero i)]
 split<;>rfl
theorem VZ(b:List UInt8)(t j:Nat):ZW b t j t=QE b t j:=by
 unfold ZW;rw[if_neg (Nat.lt_irrefl t),if_pos rfl]
theorem UY(b:List UInt8)(t j j':Nat):∀ i,i<64->(if i=t then QE b t j' else ZW b t j i)=ZW b t j' i:=by
 intro i _
 unfold ZW
 by_cases h:i=t
 ·subst h;rw[if_pos rfl,if_neg (Nat.lt_irrefl i),if_pos rfl]
 ·rw[if_neg h,if_neg h,if_neg h]
theorem VY(b:List UInt8)(t:Nat):∀ i,i<64->ZW b t 4 i=ZW b (t+1) 0 i:=by
 intro i _
 unfold ZW
 by_cases h:i<t
 ·rw[if_pos h,if_pos oX]
 ·rw[if_neg h]
  by_cases h2:i=t
  ·subst h2;rw[if_pos rfl,if_pos oX,Ku]
  ·rw[if_neg h2,if_neg oX]
   split<;>rfl
theorem Uj(b:List UInt8):∀ i,i<64->ZW b 16 0 i=ZY b 16 i:=by
 intro i _
 unfold ZW ZY
 by_cases h:i<16
 ·rw[if_pos h,if_pos h,GN b i h]
 ·rw[if_neg h,if_neg h];split<;>rfl
theorem Vq(b:List UInt8)(t:Nat):∀ i,i<64->(if i=t then wAt b t else ZY b t i)=ZY b (t+1) i:=by
 intro i _
 unfold ZY
 by_cases h:i=t
 ·subst h;rw[if_pos rfl,if_pos oX]
 ·rw[if_neg h]
  by_cases h2:i<t
  ·rw[if_pos h2,if_pos oX]
  ·rw[if_neg h2,if_neg oX]
theorem Vm(b:List UInt8):Zn 64 (ZY b 64)=Zn 64 (wAt b):=Qg λi hi=>by unfold ZY;rw[if_pos hi]
theorem VD(a:Option Addr)(ca:Nat)(bs:List UInt8)(w:World)(ha:ArgB w a ca bs)(h64:bs.length=64) :
  Calls Tryz.prog 121 #[.slice a 64 ca] w λe w'=>e=.returned (.agg (cW (Zn 64 (wAt bs))).toArray)/\Below w.heap.size w w':=by
 have zr:=U0
 have zn:=Ke
 have hca:=ha.len
 rw[h64] at hca
 obtain⟨b0,off,rfl,_⟩:=ha.row 0 oX
 have hcell:∀ W,Below w.heap.size w W->∀ i,i<64->W.cell? ⟨b0,off+i,none⟩=some (.int .u8 ((cf bs i).toNat:Int)):=by
  intro W hW i hi
  obtain⟨b',off',e,hc⟩:=(ha.below hW).row i oX
  cases e
  exact hc
 replace hcell:=Hd hcell
 have ha0:=Hd ha
 replace h64:=Hd h64
 obtain⟨W0,hW0⟩:∃ W0,W0=((w.alloc (.cells zero64 237)).alloc (.cells zero64 237)):=⟨_,rfl⟩
 have q0:W0.heap[w.heap.size]? = some (.cells zero64 237 (0,0)):=by
  rw[hW0,Below.heap_alloc _ _ _ sX];exact heap_alloc_new w _
 have q1:W0.heap[w.heap.size+1]? = some (.cells zero64 237 (0,0)):=by
  have:=heap_alloc_new (w.alloc (.cells zero64 237)) (.cells zero64 237)
  rw[<-hW0] at this;simpa using this
 have q3:Below w.heap.size w W0:=by rw[hW0];exact((Below.refl w.heap.size w).alloc nR _).alloc sX _
 replace hW0:=Hd hW0
 replace q0:=Hd q0
 replace q1:=Hd q1
 replace q3:=Hd q3
 clear ha
 go_enter Tryz.func121,Tryz.ntmps121
 go_wp2_with fail
 rw[<-hW0.out]
 obtain⟨o0,ho0⟩:∃ o0,o0=w.heap.size+1:=⟨_,rfl⟩
 obtain⟨r0,hr0⟩:∃ r0,r0=w.heap.size:=⟨_,rfl⟩
 have hro:r0≠o0:=oX
 have hob:w.heap.size<=o0:=oX
 rw[<-ho0] at q1 ⊢
 rw[<-hr0] at q0 ⊢
 have hrb:=Hd (show w.heap.size<=r0 from by omega)
 have hI:=Hd (show WdSt w r0 o0 (ZW bs 0 0) W0 from⟨by rw[JV,<-Kf];exact q1.out,q0.out,q3.out⟩)
 replace hro:=Hd hro
 replace hob:=Hd hob
 clear ho0 hr0 q0 q1 q3 zr zn hW0
 go_loopw [4,6,8] (λ_ _ j wr=>∃ t:Nat,t<=16/\j=.int .i64 t/\WdSt w r0 o0 (ZW bs t 0) wr)
  (λ_ _ j _=>16-(intOf j).toNat)
 case atStart=>exact⟨0,Nat.zero_le _,rfl,hI.out⟩
 case round=>
  clear hI
  obtain⟨t,ht,rfl,hI⟩:=hrel
  by_cases hlt:t<16
  ·have k1:=IntWalk.i64_in (4*(t:Int)) oX
   have k2:=IntWalk.i64_in (4*(t:Int)+4) oX
   have k3:(0:Int)<=4*(t:Int):=oX
   have k4:4*(t:Int)+4<=(ca:Int):=oX
   have k5:(4*(t:Int)).toNat=4*t:=oX
   have k6:(4*(t:Int)+4).toNat-4*t=4:=oX
   have k7:4*(t:Int)<=4*(t:Int)+4:=oX
   have hnx:=Hd (VY bs t)
   replace hI:=Hd hI
   have hdt:decide ((t:Int)<16)=true:=decide_eq_true oX
   go_wp2_with fail
   try rw[hdt]
   go_loopw [6,19] (λ_ j wq=>∃ m:Nat,m<=4/\j=.int .i64 m/\WdSt w r0 o0 (ZW bs t m) wq)
    (λ_ j _=>4-(intOf j).toNat)
   case atStart=>exact⟨0,Nat.zero_le _,rfl,hI.out⟩
   case round=>
    clear hI
    obtain⟨m,hm,rfl,hI⟩:=hrel
    by_cases hmm:m<4
    ·have cx:=hcell.out wr hI.bel (4*t+m) oX
     rw[<-Nat.add_assoc] at cx
     have c1:=hI.cell (j:=t) oX
     rw[VZ] at c1
     have f1:=hI.free t
     have hor:=KY (QE bs t m) (cf bs (4*t+m))
     have hnx2:=Hd (WdSt.congr (hI.set hro.out hob.out t (QE bs t (m+1))) (UY bs t m (m+1)))
     rw[show (QE bs t m <<< 8) ||| (cf bs (4*t+m)).toUInt32=QE bs t (m+1) from rfl] at hor
     generalize QE bs t (m+1)=y at*
     generalize QE bs t m=x at*
     generalize cf bs (4*t+m)=c at*
     replace hI:=Hd hI
     go_wp2_with fail
     go_roundw
     case rel=>exact⟨m+1,oX,by go_num,hnx2.out⟩
     case measure=>simp[intOf];omega
    ·obtain rfl:m=4:=oX
     have hI2:=Hd (hI.congr hnx.out)
     go_wp2_with fail
     go_roundw
     case rel=>exact⟨t+1,oX,by go_num,hI2.out⟩
     case measure=>simp[intOf];omega
  ·obtain rfl:t=16:=oX
   have hI:=Hd (hI.congr (Uj bs))
   go_wp2_with fail
   rw[show ((16:Nat):Int)=16 from rfl]
   go_loopw [7] (λtt wq=>∃ t:Nat,16<=t/\t<=64/\tt=.int .i64 t/\WdSt w r0 o0 (ZY bs t) wq)
    (λtt _=>64-(intOf tt).toNat)
   case atStart=>exact⟨16,Nat.le_refl _,oX,rfl,hI.out⟩
   case round=>
    clear hI
    obtain⟨t,ht1,ht2,rfl,hI⟩:=hrel
    by_cases hlt:t<64
    ·have k1:=IntWalk.i64_in ((t:Int)-2) oX
     have k2:=IntWalk.i64_in ((t:Int)-7) oX
     have k3:=IntWalk.i64_in ((t:Int)-15) oX
     have k4:=IntWalk.i64_in ((t:Int)-16) oX
     have n1:((t:Int)-2).toNat=t-2:=oX
     have n2:((t:Int)-7).toNat=t-7:=oX
     have n3:((t:Int)-15).toNat=t-15:=oX
     have n4:((t:Int)-16).toNat=t-16:=oX
     have l1:(0:Int)<=(t:Int)-2:=oX
     have l2:(0:Int)<=(t:Int)-7:=oX
     have l3:(0:Int)<=(t:Int)-15:=oX
     have l4:(0:Int)<=(t:Int)-16:=oX
     have m1:(2:Int)<=(t:Int):=oX
     have m2:(7:Int)<=(t:Int):=oX
     have m3:(15:Int)<=(t:Int):=oX
     have m4:(16:Int)<=(t:Int):=oX
     have u1:(t:Int)-2<64:=oX
     have u2:(t:Int)-7<64:=oX
     have u3:(t:Int)-15<64:=oX
     have u4:(t:Int)-16<64:=oX
     have ca1:∀ W,Q3 o0 t bs W->W.cell? ⟨o0,t-2,none⟩=some (.int .u32 (wn (wAt bs (t-2)))):=λW h=>h _ oX
     have cb1:∀ W,Q3 o0 t bs W->W.cell? ⟨o0,t-7,none⟩=some (.int .u32 (wn (wAt bs (t-7)))):=λW h=>h _ oX
     have cc1:∀ W,Q3 o0 t bs W->W.cell? ⟨o0,t-15,none⟩=some (.int .u32 (wn (wAt bs (t-15)))):=λW h=>h _ oX
     have cd1:∀ W,Q3 o0 t bs W->W.cell? ⟨o0,t-16,none⟩=some (.int .u32 (wn (wAt bs (t-16)))):=λW h=>h _ oX
     have hSa:∀ W,WdSt w r0 o0 (ZY bs t) W->Q3 o0 t bs W:=λW h=>by
      intro i hi
      rw[h.cell oX];unfold ZY;rw[if_pos hi]
     have hSb:∀ W,WdSt w r0 o0 (ZY bs (t+1)) W->Q3 o0 t bs W:=λW h=>by
      intro i hi
      rw[h.cell oX];unfold ZY;rw[if_pos oX]
     have hwa:=KU bs t ht1
     have hfin:=Vq bs t
     rw[hwa] at hfin
     replace hfin:=Hd hfin
     clear hwa
     generalize wAt bs (t-2)=xa at*
     generalize wAt bs (t-7)=xb at*
     generalize wAt bs (t-15)=xc at*
     generalize wAt bs (t-16)=xd at*
     have a1:=Qt (QS xa) xb
     have a2:=Qt (QS xa+xb) (Yk xc)
     have a3:=Qt (QS xa+xb+Yk xc) xd
     have hI:=Hd hI
     have hS0:=hSa _ (hI.out.drawn ⟨1,rfl⟩)
     go_wp2_with fail
     refine wp_region_held_drew (S:=Q3 o0 t bs) kX hS0 (λhOn=>?_)
     replace hI:=Hd (hI.out.drawn (show Drawn wr wr.drew from⟨1,rfl⟩))
     generalize wr.drew=wr at hOn hI ⊢
     refine tk 0 hOn ?_
     refine tk 1 hOn ?_
     refine tk 2 hOn ?_
     refine tk 3 hOn ?_
     refine tk 4 hOn ?_
     refine tk 6 hOn ?_
     refine tk 7 hOn ?_
     refine tk 8 hOn ?_
     refine tk 9 hOn ?_
     refine tk 11 hOn ?_
     refine tk 12 hOn ?_
     refine tk 13 hOn ?_
     refine tk 14 hOn ?_
     refine tk 17 hOn ?_
     refine tk 18 hOn ?_
     refine tk 19 hOn ?_
     refine tk 20 hOn ?_
     refine rds [5] ?_
     refine AllReadyH.cons (by simp only[List.getElem?_toArray,List.getElem?_cons_succ,List.getElem?_cons_zero];rfl) (λK hK=>?_) AllReadyH.nil
     go_simp
     with_reducible refine(Us xa _).mono ?_
     rintro e w4 ⟨rfl,hd⟩
     replace hI:=Hd (hI.out.drawn hd)
     have hS4:=hSa _ hI.out
     clear hd
     go_wp2_with fail
     refine hK.out _ _ hS4 (λhNext=>?_)
     clear hS4
     clear hK K hOn
     have hOn:=hNext
     clear hNext
     try simp only[Act.put,sL,sZ,sS]
     refine tk 10 hOn ?_
     refine rds [15] ?_
     refine AllReadyH.cons (by simp only[List.getElem?_toArray,List.getElem?_cons_succ,List.getElem?_cons_zero];rfl) (λK hK=>?_) AllReadyH.nil
     go_simp
     with_reducible refine(VR xc _).mono ?_
     rintro e w4 ⟨rfl,hd⟩
     replace hI:=Hd (hI.out.drawn hd)
     have hS4:=hSa _ hI.out
     clear hd
     go_wp2_with fail
     refine hK.out _ _ hS4 (λhNext=>?_)
     clear hS4
     clear hK K hOn
     have hOn:=hNext
     clear hNext
     try simp only[Act.put,sL,sZ,sS]
     refine tk 16 hOn ?_
     refine tk 21 hOn ?_
     refine tk 22 hOn ?_
     refine rds [23] ?_
     refine AllReadyH.cons (by simp only[List.getElem?_toArray,List.getElem?_cons_succ,List.getElem?_cons_zero];rfl) (λK hK=>?_) AllReadyH.nil
     have c1:=hI.out.cell (j:=t) oX
     have f1:=hI.out.free t
     go_simp
     have hI6:=Hd (WdSt.congr (hI.out.set hro.out hob.out t (QS xa+xb+Yk xc+xd)) hfin.out)
     have hS6:=hSb _ hI6.out
     refine hK.out _ _ hS6 (λhNext=>?_)
     clear hK K hOn
     have hOn:=hNext
     clear hNext
     try simp only[Act.put,sL,sZ,sS]
     refine dnE ?_
     go_wp2_with fail
     exact⟨⟨t+1,oX,oX,by go_num,hI6.out⟩,by simp[intOf];omega⟩
    ·obtain rfl:t=64:=oX
     have hrw:=hI.row
     rw[Vm] at hrw
     have hrs:=hI.res
     have hbl:=Hd hI.bel
     have hu0:Tryz.prog.underlying 237=some (.array 64 203):=Tryz.underlying237
     have hone:=UI (Zn 64 (wAt bs))
     have hsz:(Tryz.prog.info? 237).map (·.size)=some (cW (Zn 64 (wAt bs))).toArray.size:=by
      rw[List.size_toArray,Y2,Qa];kernel_rfl
     have hs2:zero64.size=(cW (Zn 64 (wAt bs))).toArray.size:=by rw[Xc,List.size_toArray,Y2,Qa]
     generalize hC:(cW (Zn 64 (wAt bs))).toArray=C at*
     replace hrw:=Hd hrw
     replace hrs:=Hd hrs
     go_wp2_with (first|with_reducible refine Ze rfl 237 (.tmp 3) rfl o0 C (.array 64 203) rfl hrw hu0 rfl hsz ?_|with_reducible refine Zd rfl 237 (.tmp 2) (.tmp 61) rfl r0 zero64 C rfl rfl hrs hsz hs2 hone ?_)
     intro w8 hU
     go_wp2_with fail
     exact Zm rfl rfl hu0 rfl hsz hU.out.here ⟨by rw[hC],hbl.out.trans (hU.out.below hrb.out)⟩
end Go.Proofs.YtdilmfnpkeihiaaGreatDoor
