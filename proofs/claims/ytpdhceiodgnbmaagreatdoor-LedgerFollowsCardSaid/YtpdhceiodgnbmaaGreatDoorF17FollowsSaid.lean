import Derived.Test.YtpdhceiodgnbmaaGreatDoorF0FollowsSaid
import Derived.Test.YtpdhceiodgnbmaaGreatDoorF1FollowsSaid
import Derived.Test.YtpdhceiodgnbmaaGreatDoorF16FollowsSaid
set_option linter.unusedVariables false
set_option linter.unusedSimpArgs false
set_option linter.unnecessarySimpa false
set_option maxRecDepth 100000
set_option maxHeartbeats 8000000
namespace Go.Proofs.YtpdhceiodgnbmaaGreatDoor
open Go.RowKit
def sAt(s:S8):Nat->W32
 | 0=>s.a
 | 1=>s.b
 | 2=>s.c
 | 3=>s.d
 | 4=>s.e
 | 5=>s.f
 | 6=>s.g
 | 7=>s.h
 | _=>0
def c8(s:S8):Array Value:=(cW (Z4 8 (sAt s))).toArray
theorem P4(s:S8):c8 s=#[.int .u32 (wn s.a),.int .u32 (wn s.b),.int .u32 (wn s.c),.int .u32 (wn s.d),.int .u32 (wn s.e),.int .u32 (wn s.f),.int .u32 (wn s.g),.int .u32 (wn s.h)]:=rfl
theorem Je(s:S8):(c8 s).size=8:=rfl
theorem J6(s:S8):(c8 s).all (·.oneCell')=true:=HU _
theorem Mt(s:S8){i:Nat}(h:i<8):(c8 s)[i]? = some (.int .u32 (wn (sAt s i))):=Ko h
theorem Rg(a b c d e f g h kk ww:W32):(Obj.cells #[.int .u32 (wn (h+Qr e+chW e f g+kk+ww+(YS a+YV a b c))),.int .u32 (wn a),.int .u32 (wn b),.int .u32 (wn c),.int .u32 (wn (d+(h+Qr e+chW e f g+kk+ww))),.int .u32 (wn e),.int .u32 (wn f),.int .u32 (wn g)] 273 (0,0))=
  .cells (cW (Z4 8 (sAt (J3 ⟨a,b,c,d,e,f,g,h⟩ kk ww)))).toArray 273 (0,0):=by
 have e1:J3 ⟨a,b,c,d,e,f,g,h⟩ kk ww=⟨h+Qr e+chW e f g+kk+ww+(YS a+YV a b c),a,b,c,d+(h+Qr e+chW e f g+kk+ww),e,f,g⟩:=rfl
 rw[e1]
 generalize h+Qr e+chW e f g+kk+ww=t1
 generalize t1+(YS a+YV a b c)=x0
 generalize d+t1=x4
 rfl
@[irreducible] def zero8:Array Value:=(cW (Z4 8 λ_=>0)).toArray
theorem UL(w:World):(zeroValue 273).run Tryz.prog w=.ok (.agg zero8) w:=kX
theorem Xz:zero8.size=8:=kX
theorem K8:zero8≠#[]:=λe=>by have:=Xz;rw[e] at this;cases this
def ShaK(w:World):Prop:=∀ t,t<64->w.cell? ⟨23,t,none⟩=some (.int .u32 (wn (kAt t)))
theorem ShaK.below{w w':World}(h:ShaK w)(hb:Below w.heap.size w w'):ShaK w':=λt ht=>(hb.cell (World.block_lt_of_cell? w _ (h t ht))).trans (h t ht)
theorem PM(f:Nat->W32)(t:Nat)(h:t<64)(w:World):(Instr.index 241 (.agg (cW (Z4 64 f)).toArray) (.int .i64 (t:Int))).run Tryz.prog w=.ok (.int .u32 (wn (f t))) w:=by
 have hs:(sizeOf 239).run Tryz.prog w=.ok 1 w:=kX
 have hp:(part 239 (cW (Z4 64 f)).toArray t).run Tryz.prog w=.ok (.int .u32 (wn (f t))) w:=by
  simp[part,isAgg,run_underlying Tryz.underlying239]
  have:=Ko (f:=f) h
  simp at this
  simp[this]
 have ht:(t:Int)<64:=oX
 simp[Instr.index,asIntOf,run_underlying Tryz.underlying241,hs,hp,h]
structure TkSt (w:World) (p q o:Nat) (f:Nat->W32) (s:S8) (W:World):Prop where
 row:W.heap[p]? = some (.cells (cW (Z4 8 f)).toArray 273 (0,0))
 res:W.heap[q]? = some (.cells zero8 273 (0,0))
 was:W.heap[o]? = some (.cells (c8 s) 273 (0,0))
 bel:Below w.heap.size w W
theorem TkSt.drewN{w:World}{p q o:Nat}{f:Nat->W32}{s:S8}{W:World}(h:TkSt w p q o f s W)(n:Nat):TkSt w p q o f s (W.drewN n):=⟨h.row,h.res,h.was,below_drewN h.bel n⟩
theorem TkSt.upd{w:World}{p q o:Nat}{f g:Nat->W32}{s:S8}{W W':World}(h:TkSt w p q o f s W)(hu:Upd p (.cells (cW (Z4 8 g)).toArray 273 (0,0)) W W')(h1:q≠p)(h2:o≠p)(h3:w.heap.size<=p):TkSt w p q o g s W':=
 ⟨hu.here,(hu.block q h1).trans h.res,(hu.block o h2).trans h.was,h.bel.trans (hu.below h3)⟩
theorem TkSt.cell{w:World}{p q o:Nat}{f:Nat->W32}{s:S8}{W:World}(h:TkSt w p q o f s W){j:Nat}(hj:j<8):W.cell? ⟨p,j,none⟩=some (.int .u32 (wn (f j))):=by
 rw[Za h.row,Ko hj]
theorem TkSt.wasAt{w:World}{p q o:Nat}{f:Nat->W32}{s:S8}{W:World}(h:TkSt w p q o f s W){j:Nat}(hj:j<8):W.cell? ⟨o,j,none⟩=some (.int .u32 (wn (sAt s j))):=by
 rw[Za h.was,Mt s hj]
theorem TkSt.free{w:World}{p q o:Nat}{f:Nat->W32}{s:S8}{W:World}(h:TkSt w p q o f s W)(j:Nat):W.frozen? ⟨p,j,none⟩=false:=Zm h.row _
def Y8(r s:S8)(k i:Nat):W32:=if i<k then sAt r i+sAt s i else sAt r i
theorem UC(r s:S8)(k:Nat):Z4 8 (λi=>if i=k then sAt r k+sAt s k else Y8 r s k i)=Z4 8 (Y8 r s (k+1)):=by
 refine Yu λi _=>?_
 unfold Y8
 by_cases h:i=k
 ·subst h;rw[if_pos rfl,if_pos oX]
 ·rw[if_neg h]
  by_cases h2:i<k
  ·rw[if_pos h2,if_pos oX]
  ·rw[if_neg h2,if_neg oX]
theorem N2(r s:S8):Z4 8 (Y8 r s 8)=Z4 8 (sAt (TD r s)):=by
 refine Yu λi hi=>?_
 unfold Y8
 rw[if_pos hi]
 match i,hi with
 | 0,_=>rfl
 | 1,_=>rfl
 | 2,_=>rfl
 | 3,_=>rfl
 | 4,_=>rfl
 | 5,_=>rfl
 | 6,_=>rfl
 | 7,_=>rfl
theorem Ms(r s:S8):Z4 8 (Y8 r s 0)=Z4 8 (sAt r):=by
 refine Yu λi _=>?_
 unfold Y8;rw[if_neg (Nat.not_lt_zero i)]
theorem Uo(s:S8)(a:Option Addr)(ca:Nat)(bs:List UInt8)(w:World)(ha:ArgB w a ca bs)(h64:bs.length=64)(hK:ShaK w) :
  Calls Tryz.prog 165 #[.agg (c8 s),.slice a 64 ca] w λe w'=>e=.returned (.agg (c8 (Qt s bs)))/\Below w.heap.size w w':=by
 have zr:=UL
 have zn:=K8
 have hu0:Tryz.prog.underlying 273=some (.array 8 239):=Tryz.underlying273
 have hsz:∀ s,(Tryz.prog.info? 273).map (·.size)=some (c8 s).size:=λs=>by kernel_rfl
 have hs0:zero8.size=(c8 s).size:=by rw[Xz,Je]
 have hone:=J6 s
 replace ha:=Hd ha
 replace h64:=Hd h64
 have hK0:=Hd hK
 have hend:=Hd (show TD (Q6 bs s 64) s=Qt s bs from rfl)
 have hsp:=Hd (λw h=>Mz a ca bs w h h64.out)
 have hr0:=Hd (show Q6 bs s 0=s from rfl)
 have hrw:=Hd (show (w.alloc (.cells (c8 s) 273)).heap[w.heap.size]? = some (.cells (c8 s) 273 (0,0)) from heap_alloc_new w _)
 obtain⟨A1,hA1⟩:∃ A,A=w.alloc (.cells (c8 s) 273):=⟨_,rfl⟩
 obtain⟨A2,hA2⟩:∃ A,A=A1.alloc (.cells zero8 273):=⟨_,rfl⟩
 obtain⟨A3,hA3⟩:∃ A,A=A2.alloc (.cells zero8 273):=⟨_,rfl⟩
 have z1:A1.heap.size=w.heap.size+1:=by rw[hA1];simp
 have z2:A2.heap.size=w.heap.size+2:=by rw[hA2];simp[z1]
 have p1:A1.heap[w.heap.size]? = some (.cells (c8 s) 273 (0,0)):=by rw[hA1];exact heap_alloc_new w _
 have p2:A2.heap[w.heap.size]? = some (.cells (c8 s) 273 (0,0)):=by rw[hA2,Below.heap_alloc _ _ _ oX];exact p1
 have q2:A2.heap[w.heap.size+1]? = some (.cells zero8 273 (0,0)):=by rw[hA2,<-z1];exact heap_alloc_new A1 _
 have p3:A3.heap[w.heap.size]? = some (.cells (c8 s) 273 (0,0)):=by rw[hA3,Below.heap_alloc _ _ _ oX];exact p2
 have q3:A3.heap[w.heap.size+1]? = some (.cells zero8 273 (0,0)):=by rw[hA3,Below.heap_alloc _ _ _ oX];exact q2
 have o3:A3.heap[w.heap.size+2]? = some (.cells zero8 273 (0,0)):=by rw[hA3,<-z2];exact heap_alloc_new A2 _
 have b3:Below w.heap.size w A3:=by rw[hA3,hA2,hA1];exact(((Below.refl w.heap.size w).alloc nR _).alloc sX _).alloc sY _
 rw[hA2,hA1] at hA3
 rw[hA2,hA1] at p2
 replace p2:=Hd p2
 replace p3:=Hd p3
 replace q3:=Hd q3
 rw[hA3] at o3
 replace o3:=Hd o3
 replace hA3:=Hd hA3
 replace b3:=Hd b3
 have hszC:=hsz s
 clear hA1 hA2 z1 z2 p1 q2 hrw
 generalize hC:c8 s=C at*
 go_enter Tryz.func165,Tryz.ntmps165
 go_wp2_with (first|with_reducible refine Ze rfl 273 (.tmp 2) rfl w.heap.size C (.array 8 239) rfl p2 hu0 rfl hszC ?_|with_reducible refine Zc rfl 273 (.tmp 5) (.tmp 13) rfl (w.heap.size+2) zero8 C rfl rfl o3 hszC hs0 hone ?_)
 intro W0 hU
 obtain⟨p0,hp0⟩:∃ p,p=w.heap.size:=⟨_,rfl⟩
 obtain⟨q0,hq0⟩:∃ q,q=w.heap.size+1:=⟨_,rfl⟩
 obtain⟨o0,ho0⟩:∃ o,o=w.heap.size+1+1:=⟨_,rfl⟩
 have hqp:q0≠p0:=oX
 have hop:o0≠p0:=oX
 have hpb:w.heap.size<=p0:=oX
 have hqb:=Hd (show w.heap.size<=q0 from by omega)
 have hoe:w.heap.size+2=o0:=oX
 have hI:TkSt w p0 q0 o0 (sAt s) s W0:=by
  have hU2:=hU.out
  rw[hoe] at hU2
  rw[<-hA3.out] at hU2
  have hwas:=hU2.here
  rw[<-hC] at hwas
  refine⟨?_,?_,hwas,b3.out.trans (hU2.below oX)⟩
  ·rw[hU2.block p0 (λe=>hop e.symm),hp0,p3.out,<-hC];rfl
  ·rw[hU2.block q0 oX,hq0];exact q3.out
 rw[<-ho0,<-hq0,<-hp0]
 replace hI:=Hd hI
 replace hqp:=Hd hqp
 replace hop:=Hd hop
 replace hpb:=Hd hpb
 clear hp0 hq0 ho0 hoe hU p2 p3 q3 o3 hA3 b3 zr zn
 go_wp2_with fail
 with_reducible refine(hsp.out _ (ha.out.below hI.out.bel)).mono ?_
 rintro e w2 ⟨rfl,hd⟩
 have hI2:TkSt w p0 q0 o0 (sAt s) s w2:=⟨(hd.block _ (Zb hI.out.row)).trans hI.out.row,(hd.block _ (Zb hI.out.res)).trans hI.out.res,(hd.block _ (Zb hI.out.was)).trans hI.out.was,hI.out.bel.trans (hd.mono hI.out.bel.size)⟩
 replace hI:=Hd hI2
 have hidx:=λt h w=>PM (wAt bs) t h w
 replace hidx:=Hd hidx
 clear hI2 hd hsp ha hK
 generalize (cW (Z4 64 (wAt bs))).toArray=CW at*
 go_wp2_with fail
 go_loopw [6,7,8,9,10,11,16] (λ_ _ _ _ _ _ j wr=>∃ t:Nat,t<=64/\j=.int .i64 t/\TkSt w p0 q0 o0 (sAt (Q6 bs s t)) s wr)
  (λ_ _ _ _ _ _ j _=>64-(intOf j).toNat)
 case atStart=>exact⟨0,Nat.zero_le _,rfl,hI.out⟩
 case round=>
  clear hI
  obtain⟨t,ht,rfl,hI⟩:=hrel
  by_cases hlt:t<64
  ·have hk:=λn=>(show (wr.drewN n).cell? ⟨23,t,none⟩=some (.int .u32 (wn (kAt t))) from hK0.out.below hI.bel t hlt)
   have hk0:=hK0.out.below hI.bel t hlt
   have hix:=hidx.out t hlt
   have hnx:=Hd (show Q6 bs s (t+1)=J3 (Q6 bs s t) (kAt t) (wAt bs t) from rfl)
   have e0:=hI.cell (j:=0) oX
   have e1:=hI.cell (j:=1) oX
   have e2:=hI.cell (j:=2) oX
   have e3:=hI.cell (j:=3) oX
   have e4:=hI.cell (j:=4) oX
   have e5:=hI.cell (j:=5) oX
   have e6:=hI.cell (j:=6) oX
   have e7:=hI.cell (j:=7) oX
   have hrow:=Hd hI.row
   generalize Q6 bs s t=r at*
   obtain⟨ra,rb,rc,rd,re,rf,rg,rh⟩:=r
   simp only[sAt] at e0 e1 e2 e3 e4 e5 e6 e7
   have htk:(t:Int)<64:=oX
   have b1:=Uj re rf
   have b2:bits BinOp.xor IntKind.u32 IntKind.u32.max (wn re)=wn (~~~re):=PN re
   have b3:=Uj (~~~re) rg
   have b4:=XH (re &&& rf) (~~~re &&& rg)
   have b5:=Uj ra rb
   have b6:=Uj ra rc
   have b7:=XH (ra &&& rb) (ra &&& rc)
   have b8:=Uj rb rc
   have b9:=XH ((ra &&& rb) ^^^ (ra &&& rc)) (rb &&& rc)
   rw[show (re &&& rf) ^^^ (~~~re &&& rg)=chW re rf rg from rfl] at b4
   rw[show ((ra &&& rb) ^^^ (ra &&& rc)) ^^^ (rb &&& rc)=YV ra rb rc from rfl] at b9
   have d1:=YM rh (Qr re)
   have d2:=YM (rh+Qr re) (chW re rf rg)
   have d3:=YM (rh+Qr re+chW re rf rg) (kAt t)
   have d4:=YM (rh+Qr re+chW re rf rg+kAt t) (wAt bs t)
   have d5:=YM (YS ra) (YV ra rb rc)
   have d6:=YM (rh+Qr re+chW re rf rg+kAt t+wAt bs t) (YS ra+YV ra rb rc)
   have d7:=YM rd (rh+Qr re+chW re rf rg+kAt t+wAt bs t)
   replace hI:=Hd hI
   generalize kAt t=kk at*
   generalize wAt bs t=ww at*
   go_wp2_with fail
   go_quiet ((go_at_call 177;with_reducible exact VD (Tw re _)))
   go_wp2_with fail
   with_reducible refine(T9 ra _).mono ?_
   rintro e w6 ⟨rfl,rfl⟩
   have hrw2:Hid ((wr.drewN nq).heap[p0]? = some (.cells (cW (Z4 8 (sAt ⟨ra,rb,rc,rd,re,rf,rg,rh⟩))).toArray 273 (0,0))):=Hd hrow.out
   have hszE:(Tryz.prog.info? 273).map (·.size)=some (#[.int .u32 (wn (rh+Qr re+chW re rf rg+kk+ww+(YS ra+YV ra rb rc))),.int .u32 (wn ra),.int .u32 (wn rb),.int .u32 (wn rc),.int .u32 (wn (rd+(rh+Qr re+chW re rf rg+kk+ww))),.int .u32 (wn re),.int .u32 (wn rf),.int .u32 (wn rg)]:Array Value).size:=hsz ⟨rh+Qr re+chW re rf rg+kk+ww+(YS ra+YV ra rb rc),ra,rb,rc,rd+(rh+Qr re+chW re rf rg+kk+ww),re,rf,rg⟩
   have hsE:(cW (Z4 8 (sAt ⟨ra,rb,rc,rd,re,rf,rg,rh⟩))).toArray.size=(#[.int .u32 (wn (rh+Qr re+chW re rf rg+kk+ww+(YS ra+YV ra rb rc))),.int .u32 (wn ra),.int .u32 (wn rb),.int .u32 (wn rc),.int .u32 (wn (rd+(rh+Qr re+chW re rf rg+kk+ww))),.int .u32 (wn re),.int .u32 (wn rf),.int .u32 (wn rg)]:Array Value).size:=by rw[List.size_toArray,JH,Yk];rfl
   have hoE:(#[.int .u32 (wn (rh+Qr re+chW re rf rg+kk+ww+(YS ra+YV ra rb rc))),.int .u32 (wn ra),.int .u32 (wn rb),.int .u32 (wn rc),.int .u32 (wn (rd+(rh+Qr re+chW re rf rg+kk+ww))),.int .u32 (wn re),.int .u32 (wn rf),.int .u32 (wn rg)]:Array Value).all (·.oneCell')=true:=J6 ⟨rh+Qr re+chW re rf rg+kk+ww+(YS ra+YV ra rb rc),ra,rb,rc,rd+(rh+Qr re+chW re rf rg+kk+ww),re,rf,rg⟩
   go_wp2_with (with_reducible refine Zc rfl 273 (.tmp 2) (.tmp 87) rfl p0 _ #[.int .u32 (wn (rh+Qr re+chW re rf rg+kk+ww+(YS ra+YV ra rb rc))),.int .u32 (wn ra),.int .u32 (wn rb),.int .u32 (wn rc),.int .u32 (wn (rd+(rh+Qr re+chW re rf rg+kk+ww))),.int .u32 (wn re),.int .u32 (wn rf),.int .u32 (wn rg)] rfl rfl hrw2 hszE hsE hoE ?_)
   intro w7 hU7
   have hI7:=Hd ((hI.out.drewN nq).upd (g:=sAt (J3 ⟨ra,rb,rc,rd,re,rf,rg,rh⟩ kk ww)) (hU7.out.to (Rg _ _ _ _ _ _ _ _ _ _)) hqp.out hop.out hpb.out)
   go_wp2_with fail
   go_roundw
   case rel=>exact⟨t+1,oX,by go_num,by rw[hnx.out];exact hI7.out⟩
   case measure=>simp[intOf];omega
  ·obtain rfl:t=64:=oX
   have hI2:=Hd (show TkSt w p0 q0 o0 (sAt (Q6 bs s 64)) s wr from hI)
   have hfull:=Hd (N2 (Q6 bs s 64) s)
   rw[hend.out] at hfull
   have hI3:TkSt w p0 q0 o0 (Y8 (Q6 bs s 64) s 0) s wr:=⟨by rw[Ms];exact hI.row,hI.res,hI.was,hI.bel⟩
   generalize Q6 bs s 64=r at*
   replace hI3:=Hd hI3
   clear hI2 hI
   go_wp2_with fail
   go_loopw [12,89] (λ_ j wq=>∃ k:Nat,k<=8/\j=.int .i64 k/\TkSt w p0 q0 o0 (Y8 r s k) s wq) (λ_ j _=>8-(intOf j).toNat)
   case atStart=>exact⟨0,Nat.zero_le _,rfl,hI3.out⟩
   case round=>
    clear hI3
    obtain⟨k,hk,rfl,hI⟩:=hrel
    by_cases hlt:k<8
    ·have c1:=hI.cell (j:=k) hlt
     have c2:=hI.wasAt (j:=k) hlt
     have f1:=hI.free k
     rw[show Y8 r s k k=sAt r k from by unfold Y8;rw[if_neg (Nat.lt_irrefl k)]] at c1
     have ha1:=YM (sAt r k) (sAt s k)
     have hset:=Hd (UC r s k)
     have hU1:=Hd (((Upd.refl (hI.drewN 1).row).setCell (j:=k) (.int .u32 (wn (sAt r k+sAt s k)))).to (show _=Obj.cells (cW (Z4 8 (Y8 r s (k+1)))).toArray 273 (0,0) from by rw[HR,KC,UC]))
     have hkk:(k:Int)<8:=oX
     replace hI:=Hd hI
     generalize hx:sAt r k=x at*
     generalize hy:sAt s k=y at*
     go_wp2_with fail
     go_region
     all_goals
      go_wp2_with fail
      go_roundw
      case rel=>exact⟨k+1,oX,by go_num,((hI.out.drewN 1).upd hU1.out hqp.out hop.out hpb.out)⟩
      case measure=>simp[intOf];omega
    ·obtain rfl:k=8:=oX
     have hrw:=hI.row
     rw[hfull.out] at hrw
     have hrs:=hI.res
     have hbl:=Hd hI.bel
     have hszC2:=hsz (Qt s bs)
     have hs1:zero8.size=(c8 (Qt s bs)).size:=by rw[Xz,Je]
     have hone2:=J6 (Qt s bs)
     rw[show (cW (Z4 8 (sAt (Qt s bs)))).toArray=c8 (Qt s bs) from rfl] at hrw
     generalize hD:c8 (Qt s bs)=D at*
     replace hrw:=Hd hrw
     replace hrs:=Hd hrs
     go_wp2_with (first|with_reducible refine Ze rfl 273 (.tmp 2) rfl p0 D (.array 8 239) rfl hrw hu0 rfl hszC2 ?_|with_reducible refine Zc rfl 273 (.tmp 4) (.tmp 101) rfl q0 zero8 D rfl rfl hrs hszC2 hs1 hone2 ?_)
     intro w8 hU
     go_wp2_with fail
     exact Z7 rfl rfl hu0 rfl hszC2 hU.out.here ⟨by rw[hD],hbl.out.trans (hU.out.below hqb.out)⟩
end Go.Proofs.YtpdhceiodgnbmaaGreatDoor
