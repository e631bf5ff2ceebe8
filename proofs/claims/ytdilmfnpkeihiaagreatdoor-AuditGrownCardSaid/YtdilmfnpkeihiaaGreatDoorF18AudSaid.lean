import Derived.Test.YtdilmfnpkeihiaaGreatDoorF0AudSaid
import Derived.Test.YtdilmfnpkeihiaaGreatDoorF2AudSaid
import Derived.Test.YtdilmfnpkeihiaaGreatDoorF17AudSaid
set_option linter.unusedVariables false
set_option linter.unusedSimpArgs false
set_option linter.unnecessarySimpa false
set_option maxRecDepth 100000
set_option maxHeartbeats 8000000
namespace Go.Proofs.YtdilmfnpkeihiaaGreatDoor
open Go.RowKit
def sAt(s:S8):Nat->W32
 | 0=>s.a
 | 1=>s.b
 | 2=>s.c
 | 3=>s.d
 | 4=>s.e
 | 5=>s.f
 | 6=>s.g
 | 7=>s.h
 | _=>0
def c8(s:S8):Array Value:=(cW (Zn 8 (sAt s))).toArray
theorem Ne(s:S8):c8 s=#[.int .u32 (wn s.a),.int .u32 (wn s.b),.int .u32 (wn s.c),.int .u32 (wn s.d),.int .u32 (wn s.e),.int .u32 (wn s.f),.int .u32 (wn s.g),.int .u32 (wn s.h)]:=rfl
theorem Yj(s:S8):(c8 s).size=8:=rfl
theorem YC(s:S8):(c8 s).all (·.oneCell')=true:=UI _
theorem Up(s:S8){i:Nat}(h:i<8):(c8 s)[i]? = some (.int .u32 (wn (sAt s i))):=Jp h
theorem Gq(a b c d e f g h kk ww:W32):(Obj.cells #[.int .u32 (wn (h+Z9 e+chW e f g+kk+ww+(Qz a+Q1 a b c))),.int .u32 (wn a),.int .u32 (wn b),.int .u32 (wn c),.int .u32 (wn (d+(h+Z9 e+chW e f g+kk+ww))),.int .u32 (wn e),.int .u32 (wn f),.int .u32 (wn g)] 205 (0,0))=
  .cells (cW (Zn 8 (sAt (YD ⟨a,b,c,d,e,f,g,h⟩ kk ww)))).toArray 205 (0,0):=by
 have e1:YD ⟨a,b,c,d,e,f,g,h⟩ kk ww=⟨h+Z9 e+chW e f g+kk+ww+(Qz a+Q1 a b c),a,b,c,d+(h+Z9 e+chW e f g+kk+ww),e,f,g⟩:=rfl
 rw[e1]
 generalize h+Z9 e+chW e f g+kk+ww=t1
 generalize t1+(Qz a+Q1 a b c)=x0
 generalize d+t1=x4
 rfl
@[irreducible] def zero8:Array Value:=(cW (Zn 8 λ_=>0)).toArray
theorem XZ(w:World):(zeroValue 205).run Tryz.prog w=.ok (.agg zero8) w:=kX
theorem QH:zero8.size=8:=kX
theorem JR:zero8≠#[]:=λe=>by have:=QH;rw[e] at this;cases this
def ShaK(w:World):Prop:=∀ t,t<64->w.cell? ⟨15,t,none⟩=some (.int .u32 (wn (kAt t)))
theorem ShaK.below{w w':World}(h:ShaK w)(hb:Below w.heap.size w w'):ShaK w':=λt ht=>(hb.cell (World.block_lt_of_cell? w _ (h t ht))).trans (h t ht)
theorem Nx(f:Nat->W32)(t:Nat)(h:t<64)(w:World):(Instr.index 237 (.agg (cW (Zn 64 f)).toArray) (.int .i64 (t:Int))).run Tryz.prog w=.ok (.int .u32 (wn (f t))) w:=by
 have hs:(sizeOf 203).run Tryz.prog w=.ok 1 w:=kX
 have hp:(part 203 (cW (Zn 64 f)).toArray t).run Tryz.prog w=.ok (.int .u32 (wn (f t))) w:=by
  simp[part,isAgg,run_underlying Tryz.underlying203]
  have:=Jp (f:=f) h
  simp at this
  simp[this]
 have ht:(t:Int)<64:=oX
 simp[Instr.index,asIntOf,run_underlying Tryz.underlying237,hs,hp,h]
structure TkSt (w:World) (p q o:Nat) (f:Nat->W32) (s:S8) (W:World):Prop where
 row:W.heap[p]? = some (.cells (cW (Zn 8 f)).toArray 205 (0,0))
 res:W.heap[q]? = some (.cells zero8 205 (0,0))
 was:W.heap[o]? = some (.cells (c8 s) 205 (0,0))
 bel:Below w.heap.size w W
theorem TkSt.drewN{w:World}{p q o:Nat}{f:Nat->W32}{s:S8}{W:World}(h:TkSt w p q o f s W)(n:Nat):TkSt w p q o f s (W.drewN n):=⟨h.row,h.res,h.was,below_drewN h.bel n⟩
theorem TkSt.upd{w:World}{p q o:Nat}{f g:Nat->W32}{s:S8}{W W':World}(h:TkSt w p q o f s W)(hu:Upd p (.cells (cW (Zn 8 g)).toArray 205 (0,0)) W W')(h1:q≠p)(h2:o≠p)(h3:w.heap.size<=p):TkSt w p q o g s W':=
 ⟨hu.here,(hu.block q h1).trans h.res,(hu.block o h2).trans h.was,h.bel.trans (hu.below h3)⟩
theorem TkSt.cell{w:World}{p q o:Nat}{f:Nat->W32}{s:S8}{W:World}(h:TkSt w p q o f s W){j:Nat}(hj:j<8):W.cell? ⟨p,j,none⟩=some (.int .u32 (wn (f j))):=by
 rw[Za h.row,Jp hj]
theorem TkSt.wasAt{w:World}{p q o:Nat}{f:Nat->W32}{s:S8}{W:World}(h:TkSt w p q o f s W){j:Nat}(hj:j<8):W.cell? ⟨o,j,none⟩=some (.int .u32 (wn (sAt s j))):=by
 rw[Za h.was,Up s hj]
theorem TkSt.free{w:World}{p q o:Nat}{f:Nat->W32}{s:S8}{W:World}(h:TkSt w p q o f s W)(j:Nat):W.frozen? ⟨p,j,none⟩=false:=Zg h.row _
def Ql(r s:S8)(k i:Nat):W32:=if i<k then sAt r i+sAt s i else sAt r i
theorem XS(r s:S8)(k:Nat):Zn 8 (λi=>if i=k then sAt r k+sAt s k else Ql r s k i)=Zn 8 (Ql r s (k+1)):=by
 refine Qg λi _=>?_
 unfold Ql
 by_cases h:i=k
 ·subst h;rw[if_pos rfl,if_pos oX]
 ·rw[if_neg h]
  by_cases h2:i<k
  ·rw[if_pos h2,if_pos oX]
  ·rw[if_neg h2,if_neg oX]
theorem Un(r s:S8):Zn 8 (Ql r s 8)=Zn 8 (sAt (Gd r s)):=by
 refine Qg λi hi=>?_
 unfold Ql
 rw[if_pos hi]
 match i,hi with
 | 0,_=>rfl
 | 1,_=>rfl
 | 2,_=>rfl
 | 3,_=>rfl
 | 4,_=>rfl
 | 5,_=>rfl
 | 6,_=>rfl
 | 7,_=>rfl
theorem VE(r s:S8):Zn 8 (Ql r s 0)=Zn 8 (sAt r):=by
 refine Qg λi _=>?_
 unfold Ql;rw[if_neg (Nat.not_lt_zero i)]
theorem Xj(s:S8)(a:Option Addr)(ca:Nat)(bs:List UInt8)(w:World)(ha:ArgB w a ca bs)(h64:bs.length=64)(hK:ShaK w) :
  Calls Tryz.prog 105 #[.agg (c8 s),.slice a 64 ca] w λe w'=>e=.returned (.agg (c8 (ZB s bs)))/\Below w.heap.size w w':=by
 have zr:=XZ
 have zn:=JR
 have hu0:Tryz.prog.underlying 205=some (.array 8 203):=Tryz.underlying205
 have hsz:∀ s,(Tryz.prog.info? 205).map (·.size)=some (c8 s).size:=λs=>by kernel_rfl
 have hs0:zero8.size=(c8 s).size:=by rw[QH,Yj]
 have hone:=YC s
 replace ha:=Hd ha
 replace h64:=Hd h64
 have hK0:=Hd hK
 have hend:=Hd (show Gd (ZH bs s 64) s=ZB s bs from rfl)
 have hsp:=Hd (λw h=>VD a ca bs w h h64.out)
 have hr0:=Hd (show ZH bs s 0=s from rfl)
 have hrw:=Hd (show (w.alloc (.cells (c8 s) 205)).heap[w.heap.size]? = some (.cells (c8 s) 205 (0,0)) from heap_alloc_new w _)
 obtain⟨A1,hA1⟩:∃ A,A=w.alloc (.cells (c8 s) 205):=⟨_,rfl⟩
 obtain⟨A2,hA2⟩:∃ A,A=A1.alloc (.cells zero8 205):=⟨_,rfl⟩
 obtain⟨A3,hA3⟩:∃ A,A=A2.alloc (.cells zero8 205):=⟨_,rfl⟩
 have z1:A1.heap.size=w.heap.size+1:=by rw[hA1];simp
 have z2:A2.heap.size=w.heap.size+2:=by rw[hA2];simp[z1]
 have p1:A1.heap[w.heap.size]? = some (.cells (c8 s) 205 (0,0)):=by rw[hA1];exact heap_alloc_new w _
 have p2:A2.heap[w.heap.size]? = some (.cells (c8 s) 205 (0,0)):=by rw[hA2,Below.heap_alloc _ _ _ oX];exact p1
 have q2:A2.heap[w.heap.size+1]? = some (.cells zero8 205 (0,0)):=by rw[hA2,<-z1];exact heap_alloc_new A1 _
 have p3:A3.heap[w.heap.size]? = some (.cells (c8 s) 205 (0,0)):=by rw[hA3,Below.heap_alloc _ _ _ oX];exact p2
 have q3:A3.heap[w.heap.size+1]? = some (.cells zero8 205 (0,0)):=by rw[hA3,Below.heap_alloc _ _ _ oX];exact q2
 have o3:A3.heap[w.heap.size+2]? = some (.cells zero8 205 (0,0)):=by rw[hA3,<-z2];exact heap_alloc_new A2 _
 have b3:Below w.heap.size w A3:=by rw[hA3,hA2,hA1];exact(((Below.refl w.heap.size w).alloc nR _).alloc sX _).alloc sY _
 rw[hA2,hA1] at hA3
 rw[hA2,hA1] at p2
 replace p2:=Hd p2
 replace p3:=Hd p3
 replace q3:=Hd q3
 rw[hA3] at o3
 replace o3:=Hd o3
 replace hA3:=Hd hA3
 replace b3:=Hd b3
 have hszC:=hsz s
 clear hA1 hA2 z1 z2 p1 q2 hrw
 generalize hC:c8 s=C at*
 go_enter Tryz.func105,Tryz.ntmps105
 go_wp2_with (first|with_reducible refine Ze rfl 205 (.tmp 2) rfl w.heap.size C (.array 8 203) rfl p2 hu0 rfl hszC ?_|with_reducible refine Zd rfl 205 (.tmp 5) (.tmp 13) rfl (w.heap.size+2) zero8 C rfl rfl o3 hszC hs0 hone ?_)
 intro W0 hU
 obtain⟨p0,hp0⟩:∃ p,p=w.heap.size:=⟨_,rfl⟩
 obtain⟨q0,hq0⟩:∃ q,q=w.heap.size+1:=⟨_,rfl⟩
 obtain⟨o0,ho0⟩:∃ o,o=w.heap.size+1+1:=⟨_,rfl⟩
 have hqp:q0≠p0:=oX
 have hop:o0≠p0:=oX
 have hpb:w.heap.size<=p0:=oX
 have hqb:=Hd (show w.heap.size<=q0 from by omega)
 have hoe:w.heap.size+2=o0:=oX
 have hI:TkSt w p0 q0 o0 (sAt s) s W0:=by
  have hU2:=hU.out
  rw[hoe] at hU2
  rw[<-hA3.out] at hU2
  have hwas:=hU2.here
  rw[<-hC] at hwas
  refine⟨?_,?_,hwas,b3.out.trans (hU2.below oX)⟩
  ·rw[hU2.block p0 (λe=>hop e.symm),hp0,p3.out,<-hC];rfl
  ·rw[hU2.block q0 oX,hq0];exact q3.out
 rw[<-ho0,<-hq0,<-hp0]
 replace hI:=Hd hI
 replace hqp:=Hd hqp
 replace hop:=Hd hop
 replace hpb:=Hd hpb
 clear hp0 hq0 ho0 hoe hU p2 p3 q3 o3 hA3 b3 zr zn
 go_wp2_with fail
 with_reducible refine(hsp.out _ (ha.out.below hI.out.bel)).mono ?_
 rintro e w2 ⟨rfl,hd⟩
 have hI2:TkSt w p0 q0 o0 (sAt s) s w2:=⟨(hd.block _ (Zb hI.out.row)).trans hI.out.row,(hd.block _ (Zb hI.out.res)).trans hI.out.res,(hd.block _ (Zb hI.out.was)).trans hI.out.was,hI.out.bel.trans (hd.mono hI.out.bel.size)⟩
 replace hI:=Hd hI2
 have hidx:=λt h w=>Nx (wAt bs) t h w
 replace hidx:=Hd hidx
 clear hI2 hd hsp ha hK
 generalize (cW (Zn 64 (wAt bs))).toArray=CW at*
 go_wp2_with fail
 go_loopw [6,7,8,9,10,11,16] (λ_ _ _ _ _ _ j wr=>∃ t:Nat,t<=64/\j=.int .i64 t/\TkSt w p0 q0 o0 (sAt (ZH bs s t)) s wr)
  (λ_ _ _ _ _ _ j _=>64-(intOf j).toNat)
 case atStart=>exact⟨0,Nat.zero_le _,rfl,hI.out⟩
 case round=>
  clear hI
  obtain⟨t,ht,rfl,hI⟩:=hrel
  by_cases hlt:t<64
  ·have hk:=λn=>(show (wr.drewN n).cell? ⟨15,t,none⟩=some (.int .u32 (wn (kAt t))) from hK0.out.below hI.bel t hlt)
   have hk0:=hK0.out.below hI.bel t hlt
   have hix:=hidx.out t hlt
   have hnx:=Hd (show ZH bs s (t+1)=YD (ZH bs s t) (kAt t) (wAt bs t) from rfl)
   have e0:=hI.cell (j:=0) oX
   have e1:=hI.cell (j:=1) oX
   have e2:=hI.cell (j:=2) oX
   have e3:=hI.cell (j:=3) oX
   have e4:=hI.cell (j:=4) oX
   have e5:=hI.cell (j:=5) oX
   have e6:=hI.cell (j:=6) oX
   have e7:=hI.cell (j:=7) oX
   have hrow:=Hd hI.row
   generalize ZH bs s t=r at*
   obtain⟨ra,rb,rc,rd,re,rf,rg,rh⟩:=r
   simp only[sAt] at e0 e1 e2 e3 e4 e5 e6 e7
   have htk:(t:Int)<64:=oX
   have b1:=Xq re rf
   have b2:bits BinOp.xor IntKind.u32 IntKind.u32.max (wn re)=wn (~~~re):=Nu re
   have b3:=Xq (~~~re) rg
   have b4:=QY (re &&& rf) (~~~re &&& rg)
   have b5:=Xq ra rb
   have b6:=Xq ra rc
   have b7:=QY (ra &&& rb) (ra &&& rc)
   have b8:=Xq rb rc
   have b9:=QY ((ra &&& rb) ^^^ (ra &&& rc)) (rb &&& rc)
   rw[show (re &&& rf) ^^^ (~~~re &&& rg)=chW re rf rg from rfl] at b4
   rw[show ((ra &&& rb) ^^^ (ra &&& rc)) ^^^ (rb &&& rc)=Q1 ra rb rc from rfl] at b9
   have d1:=Qt rh (Z9 re)
   have d2:=Qt (rh+Z9 re) (chW re rf rg)
   have d3:=Qt (rh+Z9 re+chW re rf rg) (kAt t)
   have d4:=Qt (rh+Z9 re+chW re rf rg+kAt t) (wAt bs t)
   have d5:=Qt (Qz ra) (Q1 ra rb rc)
   have d6:=Qt (rh+Z9 re+chW re rf rg+kAt t+wAt bs t) (Qz ra+Q1 ra rb rc)
   have d7:=Qt rd (rh+Z9 re+chW re rf rg+kAt t+wAt bs t)
   replace hI:=Hd hI
   generalize kAt t=kk at*
   generalize wAt bs t=ww at*
   go_wp2_with fail
   go_quiet ((go_at_call 122;with_reducible exact Xe (KP re _)))
   go_wp2_with fail
   with_reducible refine(Gc ra _).mono ?_
   rintro e w6 ⟨rfl,rfl⟩
   have hrw2:Hid ((wr.drewN nq).heap[p0]? = some (.cells (cW (Zn 8 (sAt ⟨ra,rb,rc,rd,re,rf,rg,rh⟩))).toArray 205 (0,0))):=Hd hrow.out
   have hszE:(Tryz.prog.info? 205).map (·.size)=some (#[.int .u32 (wn (rh+Z9 re+chW re rf rg+kk+ww+(Qz ra+Q1 ra rb rc))),.int .u32 (wn ra),.int .u32 (wn rb),.int .u32 (wn rc),.int .u32 (wn (rd+(rh+Z9 re+chW re rf rg+kk+ww))),.int .u32 (wn re),.int .u32 (wn rf),.int .u32 (wn rg)]:Array Value).size:=hsz ⟨rh+Z9 re+chW re rf rg+kk+ww+(Qz ra+Q1 ra rb rc),ra,rb,rc,rd+(rh+Z9 re+chW re rf rg+kk+ww),re,rf,rg⟩
   have hsE:(cW (Zn 8 (sAt ⟨ra,rb,rc,rd,re,rf,rg,rh⟩))).toArray.size=(#[.int .u32 (wn (rh+Z9 re+chW re rf rg+kk+ww+(Qz ra+Q1 ra rb rc))),.int .u32 (wn ra),.int .u32 (wn rb),.int .u32 (wn rc),.int .u32 (wn (rd+(rh+Z9 re+chW re rf rg+kk+ww))),.int .u32 (wn re),.int .u32 (wn rf),.int .u32 (wn rg)]:Array Value).size:=by rw[List.size_toArray,Y2,Qa];rfl
   have hoE:(#[.int .u32 (wn (rh+Z9 re+chW re rf rg+kk+ww+(Qz ra+Q1 ra rb rc))),.int .u32 (wn ra),.int .u32 (wn rb),.int .u32 (wn rc),.int .u32 (wn (rd+(rh+Z9 re+chW re rf rg+kk+ww))),.int .u32 (wn re),.int .u32 (wn rf),.int .u32 (wn rg)]:Array Value).all (·.oneCell')=true:=YC ⟨rh+Z9 re+chW re rf rg+kk+ww+(Qz ra+Q1 ra rb rc),ra,rb,rc,rd+(rh+Z9 re+chW re rf rg+kk+ww),re,rf,rg⟩
   go_wp2_with (with_reducible refine Zd rfl 205 (.tmp 2) (.tmp 87) rfl p0 _ #[.int .u32 (wn (rh+Z9 re+chW re rf rg+kk+ww+(Qz ra+Q1 ra rb rc))),.int .u32 (wn ra),.int .u32 (wn rb),.int .u32 (wn rc),.int .u32 (wn (rd+(rh+Z9 re+chW re rf rg+kk+ww))),.int .u32 (wn re),.int .u32 (wn rf),.int .u32 (wn rg)] rfl rfl hrw2 hszE hsE hoE ?_)
   intro w7 hU7
   have hI7:=Hd ((hI.out.drewN nq).upd (g:=sAt (YD ⟨ra,rb,rc,rd,re,rf,rg,rh⟩ kk ww)) (hU7.out.to (Gq _ _ _ _ _ _ _ _ _ _)) hqp.out hop.out hpb.out)
   go_wp2_with fail
   go_roundw
   case rel=>exact⟨t+1,oX,by go_num,by rw[hnx.out];exact hI7.out⟩
   case measure=>simp[intOf];omega
  ·obtain rfl:t=64:=oX
   have hI2:=Hd (show TkSt w p0 q0 o0 (sAt (ZH bs s 64)) s wr from hI)
   have hfull:=Hd (Un (ZH bs s 64) s)
   rw[hend.out] at hfull
   have hI3:TkSt w p0 q0 o0 (Ql (ZH bs s 64) s 0) s wr:=⟨by rw[VE];exact hI.row,hI.res,hI.was,hI.bel⟩
   generalize ZH bs s 64=r at*
   replace hI3:=Hd hI3
   clear hI2 hI
   go_wp2_with fail
   go_loopw [12,89] (λ_ j wq=>∃ k:Nat,k<=8/\j=.int .i64 k/\TkSt w p0 q0 o0 (Ql r s k) s wq) (λ_ j _=>8-(intOf j).toNat)
   case atStart=>exact⟨0,Nat.zero_le _,rfl,hI3.out⟩
   case round=>
    clear hI3
    obtain⟨k,hk,rfl,hI⟩:=hrel
    by_cases hlt:k<8
    ·have c1:=hI.cell (j:=k) hlt
     have c2:=hI.wasAt (j:=k) hlt
     have f1:=hI.free k
     rw[show Ql r s k k=sAt r k from by unfold Ql;rw[if_neg (Nat.lt_irrefl k)]] at c1
     have ha1:=Qt (sAt r k) (sAt s k)
     have hset:=Hd (XS r s k)
     have hU1:=Hd (((Upd.refl (hI.drewN 1).row).setCell (j:=k) (.int .u32 (wn (sAt r k+sAt s k)))).to (show _=Obj.cells (cW (Zn 8 (Ql r s (k+1)))).toArray 205 (0,0) from by rw[Km,Jv,XS]))
     have hkk:(k:Int)<8:=oX
     replace hI:=Hd hI
     generalize hx:sAt r k=x at*
     generalize hy:sAt s k=y at*
     go_wp2_with fail
     go_region
     all_goals
      go_wp2_with fail
      go_roundw
      case rel=>exact⟨k+1,oX,by go_num,((hI.out.drewN 1).upd hU1.out hqp.out hop.out hpb.out)⟩
      case measure=>simp[intOf];omega
    ·obtain rfl:k=8:=oX
     have hrw:=hI.row
     rw[hfull.out] at hrw
     have hrs:=hI.res
     have hbl:=Hd hI.bel
     have hszC2:=hsz (ZB s bs)
     have hs1:zero8.size=(c8 (ZB s bs)).size:=by rw[QH,Yj]
     have hone2:=YC (ZB s bs)
     rw[show (cW (Zn 8 (sAt (ZB s bs)))).toArray=c8 (ZB s bs) from rfl] at hrw
     generalize hD:c8 (ZB s bs)=D at*
     replace hrw:=Hd hrw
     replace hrs:=Hd hrs
     go_wp2_with (first|with_reducible refine Ze rfl 205 (.tmp 2) rfl p0 D (.array 8 203) rfl hrw hu0 rfl hszC2 ?_|with_reducible refine Zd rfl 205 (.tmp 4) (.tmp 101) rfl q0 zero8 D rfl rfl hrs hszC2 hs1 hone2 ?_)
     intro w8 hU
     go_wp2_with fail
     exact Zm rfl rfl hu0 rfl hszC2 hU.out.here ⟨by rw[hD],hbl.out.trans (hU.out.below hqb.out)⟩
end Go.Proofs.YtdilmfnpkeihiaaGreatDoor
