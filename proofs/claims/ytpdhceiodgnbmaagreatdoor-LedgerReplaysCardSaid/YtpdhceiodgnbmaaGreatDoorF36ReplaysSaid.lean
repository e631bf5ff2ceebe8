import Derived.Test.YtpdhceiodgnbmaaGreatDoorF0ReplaysSaid
import Derived.Test.YtpdhceiodgnbmaaGreatDoorF1ReplaysSaid
import Derived.Test.YtpdhceiodgnbmaaGreatDoorF30ReplaysSaid
import Derived.Test.YtpdhceiodgnbmaaGreatDoorF25ReplaysSaid
import Derived.Deep.CutRange
import Derived.Test.YtpdhceiodgnbmaaGreatDoorF35ReplaysSaid
import Derived.Test.YtpdhceiodgnbmaaGreatDoorF27ReplaysSaid
set_option linter.unusedVariables false
set_option linter.unusedSimpArgs false
set_option linter.unnecessarySimpa false
set_option maxRecDepth 100000
set_option maxHeartbeats 8000000
namespace Go.Proofs.YtpdhceiodgnbmaaGreatDoor
open Go.RowKit
def Ls(s n k d t r:Int)(b:Option (ByteArray×Int×Nat)):Value:=match b with
 | some (_,_,i)=>.tuple #[.agg #[.int .i64 0,.int .i64 0,.int .i64 0,.int .i64 0,.int .i64 0,.int .i64 0],.int .i64 ((i+1:Nat):Int)]
 | none=>.tuple #[.agg #[.int .i64 s,.int .i64 n,.int .i64 k,.int .i64 d,.int .i64 t,.int .i64 r],.int .i64 0]
theorem Yj{w:World}{x:Addr}{v:Value}(h:w.cell? x=some v):∀ W,Grown w W->W.cell? x=some v:=λ_ hW=>(hW.cell (World.block_lt_of_cell? w _ h)).trans h
theorem M4(b off c:Nat)(x0 x1 x2 x3 x4 x5 x6 x7 x8:UInt8)(_:9<=c)(w:World)(B:Option (ByteArray×Int×Nat))(h:Qb ((x0.toNat:Int)*256+x1.toNat) (x2.toNat:Int) (x3.toNat:Int) ((x4.toNat:Int)*256+x5.toNat) ((x6.toNat:Int)*256+x7.toNat) (x8.toNat:Int)=B)
  (h0:w.cell? ⟨b,off,none⟩=some (.int .u8 (x0.toNat:Int))) (h1:w.cell? ⟨b,off+1,none⟩=some (.int .u8 (x1.toNat:Int))) (h2:w.cell? ⟨b,off+2,none⟩=some (.int .u8 (x2.toNat:Int))) (h3:w.cell? ⟨b,off+3,none⟩=some (.int .u8 (x3.toNat:Int)))
  (h4:w.cell? ⟨b,off+4,none⟩=some (.int .u8 (x4.toNat:Int))) (h5:w.cell? ⟨b,off+5,none⟩=some (.int .u8 (x5.toNat:Int))) (h6:w.cell? ⟨b,off+6,none⟩=some (.int .u8 (x6.toNat:Int))) (h7:w.cell? ⟨b,off+7,none⟩=some (.int .u8 (x7.toNat:Int))) (h8:w.cell? ⟨b,off+8,none⟩=some (.int .u8 (x8.toNat:Int))) :
  Calls Tryz.prog 83 #[.slice (some ⟨b,off,none⟩) 9 c] w λe w'=>e=.returned (Ls ((x0.toNat:Int)*256+x1.toNat) (x2.toNat:Int) (x3.toNat:Int) ((x4.toNat:Int)*256+x5.toNat) ((x6.toNat:Int)*256+x7.toNat) (x8.toNat:Int) B)/\Below w.heap.size w w':=by
 have q0:=Z3 h0
 have q1:=Z3 h1
 have q2:=Z3 h2
 have q3:=Z3 h3
 have q4:=Z3 h4
 have q5:=Z3 h5
 have q6:=Z3 h6
 have q7:=Z3 h7
 have q8:=Z3 h8
 have l0:=x0.toNat_lt
 have l1:=x1.toNat_lt
 have l2:=x2.toNat_lt
 have l3:=x3.toNat_lt
 have l4:=x4.toNat_lt
 have l5:=x5.toNat_lt
 have l6:=x6.toNat_lt
 have l7:=x7.toNat_lt
 have l8:=x8.toNat_lt
 clear h0 h1 h2 h3 h4 h5 h6 h7 h8
 have e0:IntKind.i64.wrap (x0.toNat:Int)=x0.toNat:=IntWalk.i64_in _ oX
 have e1:IntKind.i64.wrap (x1.toNat:Int)=x1.toNat:=IntWalk.i64_in _ oX
 have e2:IntKind.i64.wrap (x2.toNat:Int)=x2.toNat:=IntWalk.i64_in _ oX
 have e3:IntKind.i64.wrap (x3.toNat:Int)=x3.toNat:=IntWalk.i64_in _ oX
 have e4:IntKind.i64.wrap (x4.toNat:Int)=x4.toNat:=IntWalk.i64_in _ oX
 have e5:IntKind.i64.wrap (x5.toNat:Int)=x5.toNat:=IntWalk.i64_in _ oX
 have e6:IntKind.i64.wrap (x6.toNat:Int)=x6.toNat:=IntWalk.i64_in _ oX
 have e7:IntKind.i64.wrap (x7.toNat:Int)=x7.toNat:=IntWalk.i64_in _ oX
 have e8:IntKind.i64.wrap (x8.toNat:Int)=x8.toNat:=IntWalk.i64_in _ oX
 have m0:IntKind.i64.wrap ((x0.toNat:Int)*256)=(x0.toNat:Int)*256:=IntWalk.i64_in _ oX
 have s0:IntKind.i64.wrap ((x0.toNat:Int)*256+x1.toNat)=(x0.toNat:Int)*256+x1.toNat:=IntWalk.i64_in _ oX
 have m4:IntKind.i64.wrap ((x4.toNat:Int)*256)=(x4.toNat:Int)*256:=IntWalk.i64_in _ oX
 have s4:IntKind.i64.wrap ((x4.toNat:Int)*256+x5.toNat)=(x4.toNat:Int)*256+x5.toNat:=IntWalk.i64_in _ oX
 have m6:IntKind.i64.wrap ((x6.toNat:Int)*256)=(x6.toNat:Int)*256:=IntWalk.i64_in _ oX
 have s6:IntKind.i64.wrap ((x6.toNat:Int)*256+x7.toNat)=(x6.toNat:Int)*256+x7.toNat:=IntWalk.i64_in _ oX
 have hb0:=Hd (Below.refl w.heap.size w)
 go_enter Tryz.func83,Tryz.ntmps83
 go_wp2_with fail
 generalize hW:w.alloc (.cells #[.int .i64 0,.int .i64 0,.int .i64 0,.int .i64 0,.int .i64 0,.int .i64 0] 52)=W1 at*
 replace q0:=Yj (hW▸q0 (.cells #[.int .i64 0,.int .i64 0,.int .i64 0,.int .i64 0,.int .i64 0,.int .i64 0] 52))
 replace q1:=Yj (hW▸q1 (.cells #[.int .i64 0,.int .i64 0,.int .i64 0,.int .i64 0,.int .i64 0,.int .i64 0] 52))
 replace q2:=Yj (hW▸q2 (.cells #[.int .i64 0,.int .i64 0,.int .i64 0,.int .i64 0,.int .i64 0,.int .i64 0] 52))
 replace q3:=Yj (hW▸q3 (.cells #[.int .i64 0,.int .i64 0,.int .i64 0,.int .i64 0,.int .i64 0,.int .i64 0] 52))
 replace q4:=Yj (hW▸q4 (.cells #[.int .i64 0,.int .i64 0,.int .i64 0,.int .i64 0,.int .i64 0,.int .i64 0] 52))
 replace q5:=Yj (hW▸q5 (.cells #[.int .i64 0,.int .i64 0,.int .i64 0,.int .i64 0,.int .i64 0,.int .i64 0] 52))
 replace q6:=Yj (hW▸q6 (.cells #[.int .i64 0,.int .i64 0,.int .i64 0,.int .i64 0,.int .i64 0,.int .i64 0] 52))
 replace q7:=Yj (hW▸q7 (.cells #[.int .i64 0,.int .i64 0,.int .i64 0,.int .i64 0,.int .i64 0,.int .i64 0] 52))
 replace q8:=Yj (hW▸q8 (.cells #[.int .i64 0,.int .i64 0,.int .i64 0,.int .i64 0,.int .i64 0,.int .i64 0] 52))
 go_cut [4] from 12 to 54 (λs4 wx=>s4=.pointer (some ⟨W1.heap.size,0,none⟩)/\wx=W1.drew.alloc (.cells #[.int .i64 ((x0.toNat:Int)*256+x1.toNat),.int .i64 (x2.toNat:Int),.int .i64 (x3.toNat:Int),.int .i64 ((x4.toNat:Int)*256+x5.toNat),.int .i64 ((x6.toNat:Int)*256+x7.toNat),.int .i64 (x8.toNat:Int)] 52))
 case first=>
  refine J6 kX (λhOn=>?_)
  refine tk 0 hOn ?_
  refine tk 1 hOn ?_
  refine tk 2 hOn ?_
  refine tk 3 hOn ?_
  refine tk 4 hOn ?_
  refine tk 5 hOn ?_
  refine tk 6 hOn ?_
  refine tk 7 hOn ?_
  refine tk 8 hOn ?_
  refine tk 9 hOn ?_
  refine tk 10 hOn ?_
  refine tk 11 hOn ?_
  refine tk 12 hOn ?_
  refine tk 13 hOn ?_
  refine tk 14 hOn ?_
  refine tk 15 hOn ?_
  refine tk 16 hOn ?_
  refine tk 17 hOn ?_
  refine tk 18 hOn ?_
  refine tk 19 hOn ?_
  refine tk 20 hOn ?_
  refine tk 21 hOn ?_
  refine tk 22 hOn ?_
  refine tk 23 hOn ?_
  refine tk 24 hOn ?_
  refine tk 25 hOn ?_
  refine tk 26 hOn ?_
  refine tk 27 hOn ?_
  refine tk 28 hOn ?_
  refine tk 29 hOn ?_
  refine tk 30 hOn ?_
  refine tk 31 hOn ?_
  refine tk 32 hOn ?_
  refine tk 33 hOn ?_
  refine tk 34 hOn ?_
  refine tk 35 hOn ?_
  refine tk 36 hOn ?_
  refine tk 37 hOn ?_
  refine tk 38 hOn ?_
  refine tk 39 hOn ?_
  refine tk 40 hOn ?_
  refine tk 41 hOn ?_
  refine tk 42 hOn ?_
  refine rds [43] ?_
  refine AllReadyH.cons (by simp only[List.getElem?_toArray,List.getElem?_cons_succ,List.getElem?_cons_zero];rfl) (λK hK=>?_) AllReadyH.nil
  go_simp
  try go_wp2_with fail
  refine hK.out _ _ (by first|exact Grown.drew (Grown.refl _)|exact Grown.alloc (Grown.drew (Grown.refl _)) _) (λhNext=>?_)
  clear hK K hOn
  have hOn:=hNext
  clear hNext
  try simp only[Act.put,sL,sZ,sS]
  refine rds [44] ?_
  refine AllReadyH.cons (by simp only[List.getElem?_toArray,List.getElem?_cons_succ,List.getElem?_cons_zero];rfl) (λK hK=>?_) AllReadyH.nil
  rw[if_pos (by rfl)]
  refine Qj (w:=W1.drew) 52 (.tmp 4) (.tmp 54) rfl _ #[.int .i64 ((x0.toNat:Int)*256+x1.toNat),.int .i64 (x2.toNat:Int),.int .i64 (x3.toNat:Int),.int .i64 ((x4.toNat:Int)*256+x5.toNat),.int .i64 ((x6.toNat:Int)*256+x7.toNat),.int .i64 (x8.toNat:Int)] rfl rfl kX rfl (by simp[Value.oneCell']) ?_
  refine hK.out _ _ (by first|exact Grown.drew (Grown.refl _)|exact Grown.alloc (Grown.drew (Grown.refl _)) _) (λhNext=>?_)
  clear hK K hOn
  have hOn:=hNext
  clear hNext
  try simp only[Act.put]
  refine dnE ?_
  go_wp2_with fail
  go_meet
  exact⟨rfl,rfl⟩
 case rest=>
  obtain⟨rfl,hwc⟩:=hcut
  have hp:=heap_alloc_new W1.drew (.cells #[.int .i64 ((x0.toNat:Int)*256+x1.toNat),.int .i64 (x2.toNat:Int),.int .i64 (x3.toNat:Int),.int .i64 ((x4.toNat:Int)*256+x5.toNat),.int .i64 ((x6.toNat:Int)*256+x7.toNat),.int .i64 (x8.toNat:Int)] 52)
  rw[<-hwc] at hp
  have hg:w.heap.size<W1.heap.size:=by rw[<-hW];simp
  have hz0:W1.heap[w.heap.size]? = some (.cells #[.int .i64 0,.int .i64 0,.int .i64 0,.int .i64 0,.int .i64 0,.int .i64 0] 52):=by rw[<-hW];exact heap_alloc_new w _
  have hBW:Grown W1 wc:=by rw[hwc];exact Grown.alloc (Grown.drew (Grown.refl _)) _
  have hzz:=Hd ((hBW.block w.heap.size oX).trans hz0)
  have hbw:Below w.heap.size w W1:=by rw[<-hW];exact bR.alloc nR _
  replace hb0:=Hd (hbw.trans (hBW.mono hbw.size))
  have hp:=Hd (show wc.heap[W1.heap.size]? = _ from hp)
  clear q0 q1 q2 q3 q4 q5 q6 q7 q8 hwc hz0 hBW hbw e0 e1 e2 e3 e4 e5 e6 e7 e8 m0 m4 m6 s0 s4 s6
  have hcall:=KF ((x0.toNat:Int)*256+x1.toNat) (x2.toNat:Int) (x3.toNat:Int) ((x4.toNat:Int)*256+x5.toNat) ((x6.toNat:Int)*256+x7.toNat) (x8.toNat:Int) wc
  rw[h] at hcall
  clear h
  cases B with
  | none=>
   unfold YS at hcall
   replace hcall:=Hd hcall
   go_wp2_with (refine Ze rfl 52 (.tmp 4) rfl W1.heap.size #[.int .i64 ((x0.toNat:Int)*256+x1.toNat),.int .i64 (x2.toNat:Int),.int .i64 (x3.toNat:Int),.int .i64 ((x4.toNat:Int)*256+x5.toNat),.int .i64 ((x6.toNat:Int)*256+x7.toNat),.int .i64 (x8.toNat:Int)] _ rfl hp Tryz.underlying52 rfl kX ?_)
   refine hcall.out.mono ?_
   rintro e w5 ⟨rfl,hb⟩
   replace hp:=Hd ((hb.block _ (Zb hp.out)).trans hp.out)
   replace hzz:=Hd ((hb.block _ (Zb hzz.out)).trans hzz.out)
   replace hb0:=Hd (hb0.out.trans (hb.mono hb0.out.size))
   clear hb hcall
   go_wp2_with (first|(refine Ze rfl 52 (.tmp 4) rfl W1.heap.size #[.int .i64 ((x0.toNat:Int)*256+x1.toNat),.int .i64 (x2.toNat:Int),.int .i64 (x3.toNat:Int),.int .i64 ((x4.toNat:Int)*256+x5.toNat),.int .i64 ((x6.toNat:Int)*256+x7.toNat),.int .i64 (x8.toNat:Int)] _ rfl hp Tryz.underlying52 rfl kX ?_)|(refine Zc rfl 52 (.tmp 2) (.tmp 65) rfl w.heap.size _ #[.int .i64 ((x0.toNat:Int)*256+x1.toNat),.int .i64 (x2.toNat:Int),.int .i64 (x3.toNat:Int),.int .i64 ((x4.toNat:Int)*256+x5.toNat),.int .i64 ((x6.toNat:Int)*256+x7.toNat),.int .i64 (x8.toNat:Int)] rfl rfl hzz kX rfl (by simp[Value.oneCell']) ?_;intro wS hU))
   refine YD rfl rfl rfl Tryz.underlying52 rfl kX hU.out.here ?_
   exact⟨rfl,hb0.out.trans (hU.out.below nR)⟩
  | some y=>
   obtain⟨F,V,i⟩:=y
   unfold YS at hcall
   obtain⟨I,hI,hI3⟩:∃ I:Int,((i+1:Nat):Int)=I/\(I != 0)=true:=⟨_,rfl,by rw[bne_iff_ne];omega⟩
   simp only[hI] at hcall ⊢
   replace hI:=Hd hI
   replace hcall:=Hd hcall
   go_wp2_with (refine Ze rfl 52 (.tmp 4) rfl W1.heap.size #[.int .i64 ((x0.toNat:Int)*256+x1.toNat),.int .i64 (x2.toNat:Int),.int .i64 (x3.toNat:Int),.int .i64 ((x4.toNat:Int)*256+x5.toNat),.int .i64 ((x6.toNat:Int)*256+x7.toNat),.int .i64 (x8.toNat:Int)] _ rfl hp Tryz.underlying52 rfl kX ?_)
   refine hcall.out.mono ?_
   rintro e w5 ⟨rfl,hb⟩
   replace hzz:=Hd ((hb.block _ (Zb hzz.out)).trans hzz.out)
   replace hb0:=Hd (hb0.out.trans (hb.mono hb0.out.size))
   clear hb hcall
   go_wp2_with (refine Zc rfl 52 (.tmp 2) (.tmp 63) rfl w.heap.size _ #[.int .i64 0,.int .i64 0,.int .i64 0,.int .i64 0,.int .i64 0,.int .i64 0] rfl rfl hzz kX rfl (by simp[Value.oneCell']) ?_;intro wS hU)
   refine YD rfl rfl rfl Tryz.underlying52 rfl kX hU.out.here ?_
   exact⟨by rw[<-hI.out];rfl,hb0.out.trans (hU.out.below nR)⟩
theorem Gr{w:World}{b o c:Nat}{bs:List UInt8}(h:ArgB w (some ⟨b,o,none⟩) c bs)(k n:Nat)(hk:k+n<=bs.length):∀ j v,(cB (cut bs k n))[j]? = some v->w.cell? (Addr.add ⟨b,o+k,none⟩ j)=some v:=by
 intro j v hv
 rw[show Addr.add ⟨b,o+k,none⟩ j=⟨b,o+k+j,none⟩ from by simp[Addr.add]]
 obtain⟨h1,h2⟩:=QU h k n hk
 rw[cB,List.getElem?_map] at hv
 obtain⟨x,hx,rfl⟩:=Option.map_eq_some_iff.1 hv
 obtain⟨hj,e⟩:=List.getElem?_eq_some_iff.1 hx
 obtain⟨b2,off,e2,hc⟩:=h1.row j hj
 cases e2
 rw[List.getD_eq_getElem?_getD,hx] at hc
 exact hc
theorem Gj{K:Act->World->Prop}{Q:Exit->Act->World->Prop}{o:Oper}{a:Act}{w:World}(d s:Operand)(ho:o.op=.call { callee:=.builtin .copy,args:=#[d,s],argTypes:=#[24,24] })
  (g off dLen dCap:Nat) (p:Addr) (sLen sCap:Nat) (cur:Array Value) (t:TypeId) (cs:List Value) (hd:a.eval d=.slice (some ⟨g,off,none⟩) dLen dCap) (hs:a.eval s=.slice (some p) sLen sCap)
  (hg:Hid (w.heap[g]? = some (.cells cur t (0,0)))) (hn:cs.length=Nat.min sLen dLen) (hsrc:∀ j v,cs[j]? = some v->w.cell? (p.add j)=some v) (hfit:off+cs.length<=cur.size) (h1:∀ v∈cs,v.oneCell'=true)
  (hK:∀ w',Hid (Upd g (.cells (ZU cur off cs) t (0,0)) w w')->K (a.put o.dst (goInt cs.length)) w'):o.wp Tryz.prog a w K Q:=by
 have hu:Tryz.prog.underlying 24=some (.slice 5):=Tryz.underlying24
 have hsz:(Tryz.prog.info? 5).map (·.size)=some 1:=kX
 have hr:=λty=>run_copy_row (P:=Tryz.prog) w 24 24 ty 5 g off dLen dCap p sLen sCap cur t cs hu hsz hg.out hn hsrc hfit h1
 have hU:=Upd.setRow (cs:=(cur.toList.take off++cs++cur.toList.drop (off+cs.length)).toArray) hg.out
 rw[List.append_assoc] at hU
 unfold Oper.wp execOp
 simp only[ho,resolve,invoke,builtin,Sem.run_bind,Sem.run_pure,Result.andThen_ok,List.map_toArray,List.map_cons,List.map_nil,hd,hs,hr,List.append_assoc]
 exact hK _ (Hd hU)
def yR1(bs:List UInt8)(m:Nat)(q:P6):Rc:={ Rc.ofKind 1 with obj:=ZJ (cut bs 1 8) 0,tick:=ZJ (cut bs (83+m) 8) 0,name:=⟨(cut bs 10 m).toArray⟩,p:=q,root:=cut bs (19+m) 32,file:=cut bs (51+m) 32 }
theorem Mm(bs:List UInt8)(b o c:Nat)(m:Nat)(q:P6)(y:Rc)(hyy:y=yR1 bs m q)(hy:y.Ok)(w:World)(ha:ArgB w (some ⟨b,o,none⟩) c bs)(hn:bs.length=(91+m))(hm:(91+m)<=1000)(hk:((bs.getD 0 0).toNat:Int)=1)(h9:(bs.getD 9 0).toNat=m)(hpar:∀ W,Below w.heap.size w W->Calls Tryz.prog 83 #[.slice (some ⟨b,o+(10+m),none⟩) 9 (c-(10+m))] W λe w2=>e=.returned (.tuple #[.agg q.list.toArray,.int .i64 0])/\Below W.heap.size W w2):Calls Tryz.prog 37 #[.slice (some ⟨b,o,none⟩) (91+m) c] w (QB y w):=by
 have hca:=λW hW=>Qm ha W hW
 have hnc:=Hd (λW hW=>Q1 ha oX W hW)
 rw[hn] at hca
 rw[hn] at hnc
 have hbl:b<w.heap.size:=Q3 ha oX
 have hbd:=Hd (ZF (1))
 have s78:(Rc.ofKind (1)).list.toArray.size=78:=by rw[List.size_toArray,Rc.len (x:=Rc.ofKind (1)) Zh Zh]
 have i8:(Tryz.prog.info? 54).map (·.size)=some (Rc.ofKind (1)).list.toArray.size:=by rw[s78];kernel_rfl
 have z8:(Tryz.zeroCells54).size=(Rc.ofKind (1)).list.toArray.size:=by rw[s78];kernel_rfl
 have hVo:=Rc.all_one (Rc.ofKind (1))
 have iZ:(Tryz.prog.info? 54).map (·.size)=some (Tryz.zeroCells54).size:=kX
 have hZo:(Tryz.zeroCells54).all (·.oneCell')=true:=by rw[Rc.zeroR];exact Rc.all_one Rc.zero
 have hu:=Tryz.underlying54
 have i1:(Tryz.prog.info? 3).map (·.size)=some 1:=kX
 have hrk0:∀ (W:World) g,W.heap[g]? = some (.cells (Rc.ofKind (1)).list.toArray 54 (0,0))->W.cell? ⟨g,0,none⟩=some (.int .i64 (1)):=λW g h=>by rw[Za h];rfl
 replace hrk0:=Hd hrk0
 unfold yR1 at hyy
 have hm9:m<=255:=by have:=(bs.getD 9 0).toNat_lt;omega
 have hno:=Hd (λW hW=>hnc.out W hW 1 8 oX)
 have hnt:=Hd (λW hW=>hnc.out W hW (83+m) 8 oX)
 generalize ZJ (cut bs 1 8) 0=vo at*
 generalize ZJ (cut bs (83+m) 8) 0=vt at*
 have h9c:=λW hW=>hca W hW 9 oX
 rw[h9] at h9c
 replace h9c:=Hd h9c
 have hst0:(Rc.ofKind 1).list.toArray.setIfInBounds 1 (.int .i64 vo)=({ Rc.ofKind 1 with obj:=vo }:Rc).list.toArray:=Rc.set1 (Rc.ofKind 1) vo
 have hj0:1<(Rc.ofKind 1).list.toArray.size:=by rw[List.size_toArray,Rc.len (x:=Rc.ofKind 1) Zh Zh];decide
 have hst1:({ Rc.ofKind 1 with obj:=vo }:Rc).list.toArray.setIfInBounds 77 (.int .i64 vt)=({ Rc.ofKind 1 with obj:=vo,tick:=vt }:Rc).list.toArray:=Rc.set77 (x:=({ Rc.ofKind 1 with obj:=vo }:Rc)) Zh Zh vt
 have hj1:77<({ Rc.ofKind 1 with obj:=vo }:Rc).list.toArray.size:=by rw[List.size_toArray,Rc.len (x:=({ Rc.ofKind 1 with obj:=vo }:Rc)) Zh Zh];decide
 obtain⟨nm,hnm⟩:∃ nm:ByteArray,nm=⟨(cut bs 10 m).toArray⟩:=⟨_,rfl⟩
 rw[<-hnm] at hyy
 have hst2:({ Rc.ofKind 1 with obj:=vo,tick:=vt }:Rc).list.toArray.setIfInBounds 3 (.string nm)=({ Rc.ofKind 1 with obj:=vo,tick:=vt,name:=nm }:Rc).list.toArray:=Rc.set3 (({ Rc.ofKind 1 with obj:=vo,tick:=vt }:Rc)) nm
 have hj2:3<({ Rc.ofKind 1 with obj:=vo,tick:=vt }:Rc).list.toArray.size:=by rw[List.size_toArray,Rc.len (x:=({ Rc.ofKind 1 with obj:=vo,tick:=vt }:Rc)) Zh Zh];decide
 have hpt0:ZU ({ Rc.ofKind 1 with obj:=vo,tick:=vt,name:=nm }:Rc).list.toArray 4 q.list.toArray.toList=({ Rc.ofKind 1 with obj:=vo,tick:=vt,name:=nm,p:=q }:Rc).list.toArray:=by rw[List.toList_toArray];exact Rc.patch_p _ _
 have hps0:4+q.list.toArray.size<=({ Rc.ofKind 1 with obj:=vo,tick:=vt,name:=nm }:Rc).list.toArray.size:=by rw[List.size_toArray,List.size_toArray,Rc.len (x:=({ Rc.ofKind 1 with obj:=vo,tick:=vt,name:=nm }:Rc)) Zh Zh,P6.len];decide
 obtain⟨rt,hrt⟩:∃ rt,rt=cut bs (19+m) 32:=⟨_,rfl⟩
 have hrl:rt.length=32:=by rw[hrt];exact(QU ha (19+m) 32 oX).2
 rw[<-hrt] at hyy
 have hpt1:ZU ({ Rc.ofKind 1 with obj:=vo,tick:=vt,name:=nm,p:=q }:Rc).list.toArray 10 (cB rt)=({ Rc.ofKind 1 with obj:=vo,tick:=vt,name:=nm,p:=q,root:=rt }:Rc).list.toArray:=Rc.patch_root (x:=({ Rc.ofKind 1 with obj:=vo,tick:=vt,name:=nm,p:=q }:Rc)) Zh hrl
 have hps1:10+32<=({ Rc.ofKind 1 with obj:=vo,tick:=vt,name:=nm,p:=q }:Rc).list.toArray.size:=by rw[List.size_toArray,Rc.len (x:=({ Rc.ofKind 1 with obj:=vo,tick:=vt,name:=nm,p:=q }:Rc)) Zh Zh];decide
 obtain⟨fl,hfl⟩:∃ fl,fl=cut bs (51+m) 32:=⟨_,rfl⟩
 have hfll:fl.length=32:=by rw[hfl];exact(QU ha (51+m) 32 oX).2
 rw[<-hfl] at hyy
 have hpt2:ZU ({ Rc.ofKind 1 with obj:=vo,tick:=vt,name:=nm,p:=q,root:=rt }:Rc).list.toArray 42 (cB fl)=({ Rc.ofKind 1 with obj:=vo,tick:=vt,name:=nm,p:=q,root:=rt,file:=fl }:Rc).list.toArray:=Rc.patch_file (x:=({ Rc.ofKind 1 with obj:=vo,tick:=vt,name:=nm,p:=q,root:=rt }:Rc)) hrl Zh hfll
 have hps2:42+32<=({ Rc.ofKind 1 with obj:=vo,tick:=vt,name:=nm,p:=q,root:=rt }:Rc).list.toArray.size:=by rw[List.size_toArray,Rc.len (x:=({ Rc.ofKind 1 with obj:=vo,tick:=vt,name:=nm,p:=q,root:=rt }:Rc)) hrl Zh];decide
 have iY:(Tryz.prog.info? 54).map (·.size)=some y.list.toArray.size:=by rw[Rc.size hy];kernel_rfl
 have zY:(Tryz.zeroCells54).size=y.list.toArray.size:=by rw[Rc.size hy];kernel_rfl
 have hYo:=Rc.all_one y
 have ip:(Tryz.prog.info? 52).map (·.size)=some q.list.toArray.size:=by rw[List.size_toArray,P6.len];kernel_rfl
 have zp:(#[.int .i64 0,.int .i64 0,.int .i64 0,.int .i64 0,.int .i64 0,.int .i64 0]:Array Value).size=q.list.toArray.size:=Eq.symm (by rw[List.size_toArray,P6.len];rfl)
 have op:=X5 (P6.one q)
 have hup:=Tryz.underlying52
 have hck:=Hd (λW=>Yv y hy W)
 have hkY:∀ (W:World) g,W.heap[g]? = some (.cells { Rc.ofKind 1 with obj:=vo,tick:=vt }.list.toArray 54 (0,0))->W.cell? ⟨g,0,none⟩=some (.int .i64 1):=λW g h=>by rw[Za h];rfl
 have hch:Hid (((y.chk:Int)=0->∀ W,Below w.heap.size w W->QB y w (.returned (.tuple #[.agg y.list.toArray,.int .i64 0])) W)/\(((y.chk:Int) != 0)=true->∀ W,Below w.heap.size w W->QB y w (.returned (.tuple #[.agg Rc.zero.list.toArray,.int .i64 (y.chk:Int)])) W)):=Hd ⟨λe W hW=>⟨by rw[if_pos oX,e],hW⟩,λe W hW=>⟨by rw[if_neg (by simpa using e)],hW⟩⟩
 have hM0:Hid ((y.chk:Int)=0\/((y.chk:Int) != 0)=true):=Hd (by by_cases h:(y.chk:Int)=0;exact .inl h;exact .inr (by simpa using h))
 rw[<-hyy] at hpt2
 have hl1:(cB rt).length=Nat.min 32 32:=by rw[Zg,hrl];rfl
 have hl2:(cB fl).length=Nat.min 32 32:=by rw[Zg,hfll];rfl
 have hac:=λW (hW:Below w.heap.size w W)=>ha.below hW
 have hbn:bs.length=91+m:=hn
 replace hbn:=Hd hbn
 have hf1:=hps1
 have hf2:=hps2
 rw[<-show (cB rt).length=32 from hl1] at hf1
 rw[<-show (cB fl).length=32 from hl2] at hf2
 generalize (y.chk:Int)=M at*
 generalize hYl:y.list.toArray=Y at*
 generalize ({ Rc.ofKind 1 with obj:=vo }:Rc).list.toArray=R1 at*
 generalize ({ Rc.ofKind 1 with obj:=vo,tick:=vt }:Rc).list.toArray=R2 at*
 generalize ({ Rc.ofKind 1 with obj:=vo,tick:=vt,name:=nm }:Rc).list.toArray=R3 at*
 generalize ({ Rc.ofKind 1 with obj:=vo,tick:=vt,name:=nm,p:=q }:Rc).list.toArray=R4 at*
 generalize ({ Rc.ofKind 1 with obj:=vo,tick:=vt,name:=nm,p:=q,root:=rt }:Rc).list.toArray=R5 at*
 generalize hPP:q.list.toArray=PP at*
 replace hkY:=Hd hkY
 replace hac:=Hd hac
 replace hpar:=Hd hpar
 clear hyy hYl hy
 replace hst0:=Hd hst0
 replace hpt0:=Hd hpt0
 replace hst1:=Hd hst1
 replace hpt1:=Hd hpt1
 replace hst2:=Hd hst2
 replace hpt2:=Hd hpt2
 have hcl:91+m<=c:=by have:=ha.len;omega
 replace hnm:=Hd hnm
 replace hrt:=Hd hrt
 replace hfl:=Hd hfl
 replace hrl:=Hd hrl
 replace hfll:=Hd hfll
 clear ha hn hm
 generalize hRK:(Rc.ofKind (1)).list.toArray=RK at*
 have hZe:Hid (∀ m:Int,Ending.returned (.tuple #[.agg Tryz.zeroCells54,.int .i64 m])=Ending.returned (.tuple #[.agg Rc.zero.list.toArray,.int .i64 m])):=Hd (λv=>by rw[Rc.zeroR])
 replace hRK:=Hd hRK
 have hz1:Hid (((w.alloc (.cells Tryz.zeroCells54 54)).alloc (.cells Tryz.zeroCells54 54)).heap[w.heap.size]? = some (.cells Tryz.zeroCells54 54 (0,0))):=Hd (by rw[Zk,if_neg sX,Zk,if_pos rfl])
 have hZp:Hid (((w.alloc (.cells Tryz.zeroCells54 54)).alloc (.cells Tryz.zeroCells54 54)).heap[w.heap.size+1]? = some (.cells Tryz.zeroCells54 54 (0,0))):=Hd (by rw[Zk,if_pos sX])
 have hb1:Below w.heap.size w (w.alloc (.cells Tryz.zeroCells54 54)):=bR.alloc nR _
 have hb2:=Hd (hb1.alloc sX (.cells Tryz.zeroCells54 54))
 have hs2:((w.alloc (.cells Tryz.zeroCells54 54)).alloc (.cells Tryz.zeroCells54 54)).heap.size=w.heap.size+2:=sX
 replace hca:=Hd hca
 have hc0:=hca.out _ hb1 0 oX
 rw[Nat.add_zero] at hc0
 replace hb1:=Hd hb1
 replace hs2:=Hd hs2
 rw[hk] at hc0
 clear hk
 go_enter Tryz.func37,Tryz.ntmps37
 go_wp2_with (first
  | ((with_reducible refine wL (.build 54 _) ?_);refine Zm rfl 54 [(0,.tmp 17)] rfl [(0,.int .i64 (1))] rfl _ (hbd.out _) ?_)
  | ((with_reducible refine wL (.store 54 (.tmp 4) _) ?_);(refine Zc rfl 54 (.tmp 4) (.tmp 18) rfl (w.heap.size+1) _ RK rfl rfl hZp i8 z8 hVo ?_);intro w3 hU3;have hP3:=Hd hU3.out.here;have hbw3:=Hd (hb2.out.trans (hU3.out.below oX));have hz3:=Hd ((hU3.out.block _ oX).trans hz1.out);have hs3:w.heap.size+2=w3.heap.size:=hs2.out.symm.trans hU3.out.size.symm;replace hs3:=Hd hs3;have k0:=hrk0.out _ _ hP3.out;have hb4:Below w3.heap.size w3 (w3.alloc (.cells #[.int .i64 0,.int .i64 0,.int .i64 30,.int .i64 26,.int .i64 17] 3)):=bR.alloc nR _;have hz4:=Hd ((hb4.block _ (Zb hz3.out)).trans hz3.out);have hP4:=Hd ((hb4.block _ (Zb hP3.out)).trans hP3.out);have hbw4:=Hd (hbw3.out.trans (hb4.mono hbw3.out.size));clear hb4;have k0f:=hrk0.out _ _ hP4.out;have k9:=h9c.out _ hbw3.out;have k9f:=h9c.out _ hbw4.out))
 obtain⟨w4,hw4⟩:∃ W,W=w3.alloc (.cells #[.int .i64 0,.int .i64 0,.int .i64 30,.int .i64 26,.int .i64 17] 3):=⟨_,rfl⟩
 rw[<-hw4] at hz4 hP4 hbw4 k0f k9f ⊢
 have hs4:w.heap.size+2<=w4.heap.size:=by rw[hw4];have:=hs3.out;simp;omega
 clear hw4 k0 k0f k9
 have k0:=hrk0.out _ _ hP4.out
 obtain⟨M8,hM8⟩:∃ M8:Nat,M8=83+m:=⟨_,rfl⟩
 rw[show (10+(m:Int)+9+64+8)=(M8:Int)+8 from by omega]
 have hcm:M8+8<=c:=oX
 have hcm2:(M8:Int)<=(c:Int):=oX
 have hcm3:¬(c=M8):=oX
 have e9:IntKind.i64.wrap (10+(m:Int)+9)=10+(m:Int)+9:=IntWalk.i64_in _ oX
 have e41:IntKind.i64.wrap (10+(m:Int)+41)=10+(m:Int)+41:=IntWalk.i64_in _ oX
 have e73:IntKind.i64.wrap (10+(m:Int)+73)=10+(m:Int)+73:=IntWalk.i64_in _ oX
 have is1:(Tryz.prog.info? 9).map (·.size)=some 1:=kX
 with_reducible refine(hno.out _ hbw4.out).mono ?_
 rintro e w5 ⟨rfl,hx5⟩
 obtain rfl:=hx5.symm
 go_wp2_with ((with_reducible refine wL (.store 3 (.tmp 61) _) ?_);(refine Zu rfl 3 54 (.tmp 61) (.tmp 60) rfl (w.heap.size+1) 1 RK (.int .i64 vo) rfl rfl hP4 hj0 i1 rfl ?_);intro w6 hU6;rw[hst0.out] at hU6;have hP6:=Hd hU6.out.here;have hz6:=Hd ((hU6.out.block _ oX).trans hz4.out);have hbw6:=Hd (hbw4.out.trans (hU6.out.below oX)))
 rw[show 91+m-(83+m)=8 from by omega]
 with_reducible refine(hnt.out _ hbw6.out).mono ?_
 rintro e w7 ⟨rfl,hx7⟩
 obtain rfl:=hx7.symm
 go_wp2_with (first
  | ((with_reducible refine wL (.store 3 (.tmp 67) _) ?_);(refine Zu rfl 3 54 (.tmp 67) (.tmp 66) rfl (w.heap.size+1) 77 R1 (.int .i64 vt) rfl rfl hP6 hj1 i1 rfl ?_);intro w8 hU8;rw[hst1.out] at hU8;have hP8:=Hd hU8.out.here;have hz8:=Hd ((hU8.out.block _ oX).trans hz6.out);have hbw8:=Hd (hbw6.out.trans (hU8.out.below oX));have k1:=hkY.out _ _ hP8.out;have k91:=h9c.out _ hbw8.out;have cvn:=T4 (QU (hac.out _ hbw8.out) 10 m (by rw[hbn.out];omega)).1 m (QU (hac.out _ hbw8.out) 10 m (by rw[hbn.out];omega)).2;rw[<-hnm.out] at cvn)
  | ((with_reducible refine wL (.store 9 (.tmp 81) _) ?_);(refine Zu rfl 9 54 (.tmp 81) (.tmp 80) rfl (w.heap.size+1) 3 R2 (.string nm) rfl rfl hP8 hj2 is1 rfl ?_);intro w9 hU9;rw[hst2.out] at hU9;have hP9:=Hd hU9.out.here;have hz9:=Hd ((hU9.out.block _ oX).trans hz8.out);have hbw9:=Hd (hbw8.out.trans (hU9.out.below oX))))
 with_reducible refine(hpar.out _ hbw9.out).mono ?_
 rintro e w10 ⟨rfl,hb10⟩
 have hP10:=Hd ((hb10.block _ (Zb hP9.out)).trans hP9.out)
 have hz10:=Hd ((hb10.block _ (Zb hz9.out)).trans hz9.out)
 have hbw10:=Hd (hbw9.out.trans (hb10.mono hbw9.out.size))
 have hs10:w.heap.size<=w10.heap.size:=hbw10.out.size
 clear hb10 k1 k91 cvn
 have hZ7:=Hd (heap_alloc_new w10 (.cells #[.int .i64 0,.int .i64 0,.int .i64 0,.int .i64 0,.int .i64 0,.int .i64 0] 52))
 go_wp2_with (first
  | ((with_reducible refine wL (.store 52 (.tmp 7) _) ?_);(refine Zc rfl 52 (.tmp 7) (.tmp 89) rfl w10.heap.size _ PP rfl rfl hZ7 ip zp op ?_);intro w11 hU11;have hb11:=Hd ((Below.alloc (Below.refl w10.heap.size w10) nR _).trans (hU11.out.below nR));have hP11:=Hd ((hb11.out.block _ (Zb hP10.out)).trans hP10.out);have hz11:=Hd ((hb11.out.block _ (Zb hz10.out)).trans hz10.out);have hbw11:=Hd (hbw10.out.trans (hb11.out.mono hbw10.out.size));have hp11:=Hd hU11.out.here)
  | ((with_reducible refine wL (.load 52 (.tmp 7)) ?_);refine Ze rfl 52 (.tmp 7) rfl w10.heap.size PP _ rfl hp11 hup rfl ip ?_)
  | ((with_reducible refine wL (.store 52 (.tmp 96) _) ?_);(refine ZK rfl 52 54 (.tmp 96) (.tmp 95) rfl (w.heap.size+1) 4 R3 PP rfl rfl hP11 ip hps0 op ?_);intro w12 hU12;rw[hpt0.out] at hU12;have hP12:=Hd hU12.out.here;have hz12:=Hd ((hU12.out.block _ oX).trans hz11.out);have hbw12:=Hd (hbw11.out.trans (hU12.out.below oX))))
 have hda:Hid (Only (λk=>k=w.heap.size+1) w12 w12.drew):=Hd (Only.refl _ _).drew
 have hSBa:Hid (∀ W,Only (λk=>k=w.heap.size+1) w12 W->Below w.heap.size w W):=Hd (λW h=>hbw12.out.trans (h.below hbw12.out.size (λk e=>by omega)))
 have hPda:Hid (w12.drew.heap[w.heap.size+1]? = some (.cells R4 54 (0,0))):=Hd hP12.out
 have hsra:Hid (∀ W,Only (λk=>k=w.heap.size+1) w12 W->∀ j v,(cB rt)[j]? = some v->W.cell? (Addr.add ⟨b,o+(10+m+9),none⟩ j)=some v):=Hd (λW h=>by rw[hrt.out,show o+(10+m+9)=o+(19+m) from by omega];exact Gr (hac.out W (hSBa.out W h)) (19+m) 32 (by rw[hbn.out];omega))
 refine wp_region_held_drew (S:=(Only (λk=>k=w.heap.size+1) w12)) kX hda.out (λhOn=>?_)
 generalize World.drew w12=wd at*
 refine tk 0 hOn ?_
 refine tk 1 hOn ?_
 refine tk 2 hOn ?_
 refine tk 3 hOn ?_
 refine tk 4 hOn ?_
 refine tk 5 hOn ?_
 refine tk 6 hOn ?_
 refine rd 7 (λKz hKz=>?_)
 go_simp
 focus (try go_wp2_with fail)
 refine hKz.out _ _ (by first|exact hOn|exact Grown.alloc hOn _|exact Below.alloc hOn (Below.size hOn) _|exact Grown.alloc (Grown.refl _) _) ?_
 clear hKz Kz hOn
 intro hOn
 try simp only[Act.put,sL,sZ,sS]
 refine rd 8 (λKz hKz=>?_)
 rw[if_pos (by rfl)]
 (refine Gj (.tmp 98) (.tmp 104) rfl (w.heap.size+1) 10 32 32 ⟨b,o+(10+m+9),none⟩ 32 (c-(10+m+9)) R4 54 (cB rt) rfl rfl hPda hl1 (hsra.out _ hOn) hf1 (ZQ rt) ?_)
 intro w13 hU13
 rw[hpt1.out] at hU13
 have hS:=hOn.trans (Only.ofUpd (D:=λk=>k=w.heap.size+1) hU13.out rfl) (λ_ _ e=>e)
 have hP13:=Hd hU13.out.here
 refine hKz.out _ _ hS ?_
 clear hKz Kz hOn hS
 intro hOn
 try simp only[Act.put]
 refine dnE ?_
 all_goals
  have hz13:=Hd (hOn.heap hz12.out oX)
  have hbw13:=Hd (hSBa.out _ hOn)
  clear hOn hSBa hda hPda hsra
  go_wp2_with fail
  have hdb:Hid (Only (λk=>k=w.heap.size+1) w13 w13.drew):=Hd (Only.refl _ _).drew
  have hSBb:Hid (∀ W,Only (λk=>k=w.heap.size+1) w13 W->Below w.heap.size w W):=Hd (λW h=>hbw13.out.trans (h.below hbw13.out.size (λk e=>by omega)))
  have hPdb:Hid (w13.drew.heap[w.heap.size+1]? = some (.cells R5 54 (0,0))):=Hd hP13.out
  have hsrb:Hid (∀ W,Only (λk=>k=w.heap.size+1) w13 W->∀ j v,(cB fl)[j]? = some v->W.cell? (Addr.add ⟨b,o+(10+m+41),none⟩ j)=some v):=Hd (λW h=>by rw[hfl.out,show o+(10+m+41)=o+(51+m) from by omega];exact Gr (hac.out W (hSBb.out W h)) (51+m) 32 (by rw[hbn.out];omega))
  refine wp_region_held_drew (S:=(Only (λk=>k=w.heap.size+1) w13)) kX hdb.out (λhOn=>?_)
  generalize World.drew w13=wd at*
  refine tk 0 hOn ?_
  refine tk 1 hOn ?_
  refine tk 2 hOn ?_
  refine tk 3 hOn ?_
  refine tk 4 hOn ?_
  refine tk 5 hOn ?_
  refine tk 6 hOn ?_
  refine rd 7 (λKz hKz=>?_)
  go_simp
  focus (try go_wp2_with fail)
  refine hKz.out _ _ (by first|exact hOn|exact Grown.alloc hOn _|exact Below.alloc hOn (Below.size hOn) _|exact Grown.alloc (Grown.refl _) _) ?_
  clear hKz Kz hOn
  intro hOn
  try simp only[Act.put,sL,sZ,sS]
  refine rd 8 (λKz hKz=>?_)
  rw[if_pos (by rfl)]
  (refine Gj (.tmp 107) (.tmp 113) rfl (w.heap.size+1) 42 32 32 ⟨b,o+(10+m+41),none⟩ 32 (c-(10+m+41)) R5 54 (cB fl) rfl rfl hPdb hl2 (hsrb.out _ hOn) hf2 (ZQ fl) ?_)
  intro w14 hU14
  rw[hpt2.out] at hU14
  have hS:=hOn.trans (Only.ofUpd (D:=λk=>k=w.heap.size+1) hU14.out rfl) (λ_ _ e=>e)
  have hP14:=Hd hU14.out.here
  refine hKz.out _ _ hS ?_
  clear hKz Kz hOn hS
  intro hOn
  try simp only[Act.put]
  refine dnE ?_
  all_goals
   have hz14:=Hd (hOn.heap hz13.out oX)
   have hbw14:=Hd (hSBb.out _ hOn)
   clear hOn hSBb hdb hPdb hsrb
   go_wp2_with (with_reducible refine Ze rfl 54 (.tmp 4) rfl (w.heap.size+1) Y _ rfl hP14 hu rfl iY ?_)
   with_reducible refine(hck.out _).mono ?_
   rintro e wc ⟨rfl,hbc⟩
   have hzc:=Hd ((hbc.block _ (Zb hz14.out)).trans hz14.out)
   have hPc:=Hd ((hbc.block _ (Zb hP14.out)).trans hP14.out)
   have hbwc:=Hd (hbw14.out.trans (hbc.mono hbw14.out.size))
   clear hbc
   rcases hM0.out with hm0|hm0
   ·have hn0:(M != 0)=false:=by rw[hm0];rfl
    replace hm0:=Hd hm0
    go_wp2_with (first
     | (with_reducible refine Ze rfl 54 (.tmp 4) rfl (w.heap.size+1) Y _ rfl hPc hu rfl iY ?_)
     | ((with_reducible refine wL (.store 54 (.tmp 2) _) ?_);(refine Zc rfl 54 (.tmp 2) (.tmp 147) rfl w.heap.size _ Y rfl rfl hzc iY zY hYo ?_);intro w15 hU15))
    refine Zf rfl rfl hu rfl iY hU15.out.here ?_
    exact hch.out.1 hm0.out _ (hbwc.out.trans (hU15.out.below nR))
   ·go_wp2_with (first
     | ((with_reducible refine wL (.store 54 (.tmp 2) _) ?_);(refine Zc rfl 54 (.tmp 2) (.tmp 145) rfl w.heap.size _ Tryz.zeroCells54 rfl rfl hzc iZ rfl hZo ?_);intro w10 hU10))
    refine Zf rfl rfl hu rfl iZ hU10.out.here ?_
    have hfin:=hch.out.2 hm0 _ (hbwc.out.trans (hU10.out.below nR))
    rw[<-hZe.out M] at hfin
    exact hfin
end Go.Proofs.YtpdhceiodgnbmaaGreatDoor
