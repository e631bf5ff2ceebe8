import Derived.Test.YtpdhceiodgnbmaaGreatDoorF0Safe21Said
import Derived.Test.YtpdhceiodgnbmaaGreatDoorF1Safe21Said
import Derived.Test.YtpdhceiodgnbmaaGreatDoorF16Safe21Said
set_option linter.unusedVariables false
set_option linter.unusedSimpArgs false
set_option linter.unnecessarySimpa false
set_option maxRecDepth 100000
set_option maxHeartbeats 8000000
namespace Go.Proofs.YtpdhceiodgnbmaaGreatDoor
open Go.RowKit
theorem PO(w:World):(zeroValue 240).run Tryz.prog w=.ok (.agg zero8) w:=kX
theorem Vu(w:World):(zeroValue 46).run Tryz.prog w=.ok (.agg zero32) w:=kX
def RefK(w:World):Prop:=∀ t,t<64->w.cell? ⟨21,t,none⟩=some (.int .u32 (wn (kAt t)))
theorem RefK.below{w w':World}(h:RefK w)(hb:Below w.heap.size w w'):RefK w':=λt ht=>(hb.cell (World.block_lt_of_cell? w _ (h t ht))).trans (h t ht)
def RefF(w:World):Prop:=∃ t fr,w.heap[20]? = some (.cells (c8 Z6) t fr)
theorem RefF.below{w w':World}(h:RefF w)(hb:Below w.heap.size w w'):RefF w':=by
 obtain⟨t,fr,h⟩:=h
 exact⟨t,fr,(hb.block _ (Zb h)).trans h⟩
section
variable {P:Program} {ops:Array Oper} {rest:List Oper} {o:Oper} {a:Act} {w:World} {Q:Exit->Act->World->Prop}
theorem KR(hgd:o.guard=none)(ty:TypeId)(x:Operand)(ho:o.op=.load ty x)(g:Nat)(c:Array Value)(t:TypeId)(fr:Nat×Nat)(d:TypeDesc)
  (hx:a.eval x=.pointer (some ⟨g,0,none⟩)) (hg:Hid (w.heap[g]? = some (.cells c t fr))) (hu:P.underlying ty=some d) (hd:(match d with | .struct _ | .array _ _=>true|_=>false)=true) (hi:(P.info? ty).map (·.size)=some c.size)
  (h:wpList P ops Q rest (a.put o.dst (.agg c)) w):wpList P ops Q (o::rest) a w:=by
 refine wpList_plain hgd λK hK=>?_
 have h2:=hK _ _ h
 unfold Oper.wp execOp
 simp only[ho,hx,Instr.loadAt,Instr.sureAddr,Sem.run_bind,Sem.run_pure,Result.andThen_ok,run_loadVar_row w g t ty c fr d hg.out hu hd hi]
 exact h2
end
def XD(m:List UInt8)(k:Nat):List UInt8:=m++[128]++List.replicate k 0
theorem K7(m:List UInt8)(k:Nat):(XD m k).length=m.length+1+k:=by simp[XD];omega
theorem Wq(m:List UInt8)(k:Nat):XD m (k+1)=XD m k++[0]:=by simp[XD,List.replicate_succ']
def Ji(m:List UInt8)(j:Nat):List UInt8:=XD m (Qn m.length)++(List.range j).map (Uk m.length)
theorem Ln(m:List UInt8):Ji m 0=XD m (Qn m.length):=by simp[Ji]
theorem WA(m:List UInt8)(j:Nat):Ji m (j+1)=Ji m j++[Uk m.length j]:=by simp[Ji,List.range_succ]
theorem T0(m:List UInt8)(j:Nat):(Ji m j).length=m.length+1+Qn m.length+j:=by simp[Ji,K7]
theorem Gv(m:List UInt8):Ji m 8=XH m:=rfl
structure AllSt (w:World) (v:Value) (bs:List UInt8) (W:World):Prop where
 own:OwnB (w.heap.size+1) W v bs
 res:W.heap[w.heap.size]? = some (.cells zero32 46 (0,0))
 bel:Below w.heap.size w W
 siz:w.heap.size+1<=W.heap.size
theorem AllSt.next{w:World}{v v':Value}{bs bs':List UInt8}{W W':World}(h:AllSt w v bs W)(ho:OwnB (w.heap.size+1) W' v' bs')(hb:Below (w.heap.size+1) W W'):AllSt w v' bs' W':=
 ⟨ho,(hb.block _ (Nat.lt_succ_self _)).trans h.res,h.bel.trans (hb.mono (Nat.le_succ _)),Nat.le_trans h.siz hb.size⟩
theorem Hc(m:List UInt8):(XH m).length=m.length+1+Qn m.length+8:=by simp[XH,be8];omega
theorem OwnB.block{base:Nat}{w:World}{a:Option Addr}{n c:Nat}{bs:List UInt8}(h:OwnB base w (.slice a n c) bs)(hn:0<bs.length):∃ g,a=some ⟨g,0,none⟩/\∃ cur:Array Value,w.heap[g]? = some (.cells cur 5 (0,0))/\∀ i,i<bs.length->cur[i]? = some (.int .u8 ((cf bs i).toNat:Int)):=by
 rcases h.2 with ⟨hv,hx⟩|⟨g,cap,cur,e1,e2,e3,e4,e5,e6,e7⟩
 ·omega
 ·cases e1
  refine⟨g,rfl,cur,e3,λi hi=>?_⟩
  have h1:=Rg bs hi
  rw[<-e7] at h1
  simp[hi] at h1
  simpa using h1
structure RSt (w:World) (g:Nat) (cur:Array Value) (W:World):Prop where
 all:W.heap[g]? = some (.cells cur 5 (0,0))
 res:W.heap[w.heap.size]? = some (.cells zero32 46 (0,0))
 bel:Below w.heap.size w W
theorem RSt.grown{w:World}{g:Nat}{cur:Array Value}{W W':World}(h:RSt w g cur W)(hb:Grown W W'):RSt w g cur W':=
 ⟨(hb.block g (Zb h.all)).trans h.all,(hb.block _ (Zb h.res)).trans h.res,h.bel.trans (hb.mono h.bel.size)⟩
structure BSt (w:World) (g sb:Nat) (cur:Array Value) (S:S8) (W:World):Prop where
 rs:RSt w g cur W
 st:W.heap[sb]? = some (.cells (c8 S) 240 (0,0))
structure WSt (w:World) (g sb wb:Nat) (cur:Array Value) (S:S8) (f:Nat->W32) (W:World):Prop where
 bs:BSt w g sb cur S W
 row:W.heap[wb]? = some (.cells (cW (ZO 64 f)).toArray 241 (0,0))
section
variable {w W W':World} {g sb wb:Nat} {cur:Array Value} {S:S8} {f:Nat->W32}
theorem BSt.grown(h:BSt w g sb cur S W)(hb:Grown W W'):BSt w g sb cur S W':=⟨h.rs.grown hb,(hb.block _ (Zb h.st)).trans h.st⟩
theorem WSt.grown(h:WSt w g sb wb cur S f W)(hb:Grown W W'):WSt w g sb wb cur S f W':=⟨h.bs.grown hb,(hb.block _ (Zb h.row)).trans h.row⟩
theorem WSt.cell(h:WSt w g sb wb cur S f W){j:Nat}(hj:j<64):W.cell? ⟨wb,j,none⟩=some (.int .u32 (wn (f j))):=by rw[Za h.row,GP hj]
theorem WSt.free(h:WSt w g sb wb cur S f W)(j:Nat):W.frozen? ⟨wb,j,none⟩=false:=Zj h.row _
theorem WSt.sAt(h:BSt w g sb cur S W){j:Nat}(hj:j<8):W.cell? ⟨sb,j,none⟩=some (.int .u32 (wn (sAt S j))):=by rw[Za h.st,G3 S hj]
theorem WSt.set(h:WSt w g sb wb cur S f W)(h1:g≠wb)(h2:sb≠wb)(h3:w.heap.size<wb)(t:Nat)(x:W32):WSt w g sb wb cur S (λj=>if j=t then x else f j) (W.setCell ⟨wb,t,none⟩ (.int .u32 (wn x))):=by
 have hu:=((Upd.refl h.row).setCell (j:=t) (.int .u32 (wn x))).to (show _=Obj.cells (cW (ZO 64 λj=>if j=t then x else f j)).toArray 241 (0,0) from by rw[H8,Gi])
 exact⟨⟨⟨(hu.block _ h1).trans h.bs.rs.all,(hu.block _ oX).trans h.bs.rs.res,h.bs.rs.bel.trans (hu.below oX)⟩,(hu.block _ h2).trans h.bs.st⟩,hu.here⟩
theorem WSt.congr{f':Nat->W32}(h:WSt w g sb wb cur S f W)(hf:∀ i,i<64->f i=f' i):WSt w g sb wb cur S f' W:=⟨h.bs,by rw[<-YH hf];exact h.row⟩
end
theorem UR(x y:W32):(wn y+wn x) % 4294967296=wn (x+y):=by rw[Int.add_comm];exact Q3 x y
theorem BSt.put8{w W:World}{g sb:Nat}{cur:Array Value}{S:S8}(h:BSt w g sb cur S W)(h1:g≠sb)(h2:w.heap.size<sb)(x:S8) :
  BSt w g sb cur x ((((((((W.setCell ⟨sb,0,none⟩ (.int .u32 (wn x.a))).setCell ⟨sb,1,none⟩ (.int .u32 (wn x.b))).setCell ⟨sb,2,none⟩ (.int .u32 (wn x.c))).setCell ⟨sb,3,none⟩ (.int .u32 (wn x.d))).setCell ⟨sb,4,none⟩ (.int .u32 (wn x.e))).setCell ⟨sb,5,none⟩ (.int .u32 (wn x.f))).setCell ⟨sb,6,none⟩ (.int .u32 (wn x.g))).setCell ⟨sb,7,none⟩ (.int .u32 (wn x.h))):=by
 have hu:=((((((((Upd.refl h.st).setCell (j:=0) (.int .u32 (wn x.a))).setCell (j:=1) (.int .u32 (wn x.b))).setCell (j:=2) (.int .u32 (wn x.c))).setCell (j:=3) (.int .u32 (wn x.d))).setCell (j:=4) (.int .u32 (wn x.e))).setCell (j:=5) (.int .u32 (wn x.f))).setCell (j:=6) (.int .u32 (wn x.g))).setCell (j:=7) (.int .u32 (wn x.h))
 have hu2:=hu.to (show _=Obj.cells (c8 x) 240 (0,0) from by rw[MM,MM];simp)
 exact⟨⟨(hu2.block _ h1).trans h.rs.all,(hu2.block _ oX).trans h.rs.res,h.rs.bel.trans (hu2.below oX)⟩,hu2.here⟩
theorem Cv(s:S8)(t:Nat)(h:t<8)(w:World):(Instr.index 240 (.agg (c8 s)) (.int .i64 (t:Int))).run Tryz.prog w=.ok (.int .u32 (wn (sAt s t))) w:=by
 have hs:(sizeOf 239).run Tryz.prog w=.ok 1 w:=kX
 have hp:(part 239 (c8 s) t).run Tryz.prog w=.ok (.int .u32 (wn (sAt s t))) w:=by
  simp[part,isAgg,run_underlying Tryz.underlying239]
  have:=G3 s h
  simp[this]
 have ht:(t:Int)<8:=oX
 simp[Instr.index,asIntOf,run_underlying Tryz.underlying240,hs,hp,h]
structure OSt (w:World) (ob:Nat) (f:Nat->UInt8) (W:World):Prop where
 row:W.heap[ob]? = some (.cells (cB (tab 32 f)).toArray 46 (0,0))
 res:W.heap[w.heap.size]? = some (.cells zero32 46 (0,0))
 bel:Below w.heap.size w W
section
variable {w W:World} {ob:Nat} {f:Nat->UInt8} {s:S8} {n:Nat}
theorem OSt.cell(h:OSt w ob f W){j:Nat}(hj:j<32):W.cell? ⟨ob,j,none⟩=some (.int .u8 ((f j).toNat:Int)):=by
 rw[Za h.row,Rg _ (by rw[QE];exact hj),JR,if_pos hj]
theorem OSt.free(h:OSt w ob f W)(j:Nat):W.frozen? ⟨ob,j,none⟩=false:=Zj h.row _
theorem OSt.set(h:OSt w ob (Q4 s n) W)(h1:w.heap.size<ob):OSt w ob (Q4 s (n+1)) (W.setCell ⟨ob,n,none⟩ (.int .u8 ((cf (Ql s) n).toNat:Int))):=by
 have hu:=(Upd.refl h.row).setCell (j:=n) (.int .u8 ((cf (Ql s) n).toNat:Int))
 have hu2:=hu.to (show _=Obj.cells (cB (tab 32 (Q4 s (n+1)))).toArray 46 (0,0) from by rw[T8,NS])
 exact⟨hu2.here,(hu2.block _ oX).trans h.res,h.bel.trans (hu2.below oX)⟩
end
theorem R7(b:List UInt8)(t:Nat):∀ i,i<64->(if i=t then XY b t else QL b t 0 i)=QL b (t+1) 0 i:=by
 intro i hi
 rw[<-Mj]
 rw[Mk b t 0 4 i hi,Gs b t i hi]
theorem Dr(M:List UInt8)(K n:Nat)(h:n<64):cf ((M.drop K).take 64) n=cf M (K+n):=by
 rw[B3,if_pos h,DX]
theorem Xw(x:W32)(n:Nat)(h:1<=n/\n<=31)(z:Int)(w:World)(hz:z=(n:Int)):Calls Tryz.prog 133 #[.int .u32 (wn x),.int .u64 z] w λe w'=>e=.returned (.int .u32 (wn (ZD x n)))/\w=w':=by
 subst hz
 exact WZ x n h.1 h.2 w
theorem Pv(a:Option Addr)(cap:Nat)(m:List UInt8)(w:World)(h:ArgB w a cap m)(hl:m.length<=100000)(hK:RefK w)(hF:RefF w) :
  Calls Tryz.prog 108 #[.slice a m.length cap] w λe w'=>e=.returned (.agg (cB (sha m)).toArray)/\Below w.heap.size w w':=by
 have zr:=Vu
 have zn:=Qg
 have hown:=JK (w.alloc (.cells zero32 46)) (w.heap.size+1) sX
 have hb0:Below w.heap.size w ((w.alloc (.cells zero32 46)).alloc (.cells #[] 5)):=((Below.refl _ w).alloc nR _).alloc sX _
 have hres0:((w.alloc (.cells zero32 46)).alloc (.cells #[] 5)).heap[w.heap.size]? = some (.cells zero32 46 (0,0)):=by
  rw[Below.heap_alloc _ _ _ sX];exact heap_alloc_new w _
 have ha2:=Hd (h.below hb0)
 have hnum:w.heap.size+1<=((w.alloc (.cells zero32 46)).alloc (.cells #[] 5)).heap.size:=sX
 rw[show (w.alloc (.cells zero32 46)).heap.size=w.heap.size+1 from by simp] at hown
 replace hown:=Hd hown
 replace hb0:=Hd hb0
 replace hres0:=Hd hres0
 go_enter Tryz.func108,Tryz.ntmps108
 go_wp2_with (at_builtin;go_must (refine YU rfl (.tmp 27) (.tmp 28) rfl (w.heap.size+1) _ [] rfl hown a cap m m.length rfl (Hd rfl) ha2 sX oX hnum ?_))
 intro v2 w2 ho2 hd2
 have hS:=Hd (show AllSt w v2 m w2 from⟨by simpa using ho2.out,(hd2.out.block _ (Nat.lt_succ_self _)).trans hres0.out,hb0.out.trans (hd2.out.mono (Nat.le_succ _)),Nat.le_trans hnum hd2.out.size⟩)
 have hown2:=Hd hS.out.own
 have hsz2:=hS.out.siz
 clear ho2 hd2 hown ha2 hnum hb0 hres0
 go_wp2_with (at_builtin;go_must (refine YS rfl (.tmp 29) (.tmp 30) rfl (w.heap.size+1) _ m rfl hown2 128 128 rfl rfl oX hsz2 ?_))
 intro v3 w3 ho3 hd3
 replace hS:=Hd (show AllSt w v3 (XD m 0) w3 from hS.out.next (by simpa[XD] using ho3.out) hd3.out)
 clear ho3 hd3 hown2 hsz2
 go_wp2_with fail
 go_loopw [3] (λv wr=>∃ k:Nat,k<=Qn m.length/\AllSt w v (XD m k) wr)
  (λv _=>Qn m.length+m.length+1-Mw v)
 case atStart=>exact⟨0,Nat.zero_le _,hS.out⟩
 case round=>
  clear hS
  obtain⟨k,hk,hS⟩:=hrel
  obtain⟨a3,c3,rfl,_,_⟩:=hS.own.arg
  have hpl:=K7 m k
  have hps:=Hd (Wq m k)
  have hown:=Hd hS.own
  have hsiz:=hS.siz
  replace hS:=Hd hS
  by_cases hlt:k<Qn m.length
  ·have hne:¬(((XD m k).length:Int) % 64=56):=by unfold Qn at hlt;omega
   have hll:(XD m k).length<=1000000:=by unfold Qn at hlt;omega
   replace hpl:=Hd hpl
   generalize hT:XD m k=T at*
   go_wp2_with (at_builtin;go_must (refine YS rfl (.tmp 36) (.tmp 37) rfl (w.heap.size+1) _ T rfl hown 0 0 rfl rfl hll hsiz ?_))
   intro v5 w5 ho5 hd5
   have hS5:=Hd (hS.out.next (by rw[<-hps.out] at ho5;exact ho5.out) hd5.out)
   obtain⟨a5,c5,hv5,_,_⟩:=ho5.out.arg
   rw[hv5] at hS5 ⊢
   clear ho5 hd5
   go_wp2_with fail
   go_roundw
   case rel=>exact⟨k+1,oX,hS5.out⟩
   case measure=>have:=hpl.out;simp[Mw];omega
  ·obtain rfl:k=Qn m.length:=oX
   have hne:((XD m (Qn m.length)).length:Int) % 64=56:=by unfold Qn at hpl ⊢;omega
   have hpl2:=Hd hpl
   have hml:m.length<=100000:=hl
   clear hpl
   have hz0:=Hd (Ln m)
   generalize hT:XD m (Qn m.length)=T at*
   go_wp2_with fail
   go_loopw [3,5] (λv j wr=>∃ k:Nat,k<=8/\j=.int .i64 (7-(k:Int))/\AllSt w v (Ji m k) wr)
    (λ_ j _=>(intOf j+8).toNat)
   case atStart=>exact⟨0,Nat.zero_le _,rfl,by rw[hz0.out];exact hS.out⟩
   case round=>
    clear hS hown hsiz hne hpl2
    obtain⟨k,hk,rfl,hS⟩:=hrel
    obtain⟨a3,c3,rfl,_,_⟩:=hS.own.arg
    have hpl:=T0 m k
    have hps:=Hd (WA m k)
    have hown:=Hd hS.own
    have hsiz:=hS.siz
    replace hS:=Hd hS
    by_cases hlt:k<8
    ·have hll:(Ji m k).length<=1000000:=by unfold Qn at hpl;omega
     have hby:=Hd (TD m.length k)
     have hge:(0:Int)<=7-(k:Int):=oX
     clear hpl
     generalize hT:Ji m k=T2 at*
     go_wp2_with (at_builtin;go_must (refine YS rfl (.tmp 47) (.tmp 54) rfl (w.heap.size+1) _ T2 rfl hown (Uk m.length k) _ ?hz rfl hll hsiz ?_))
     case hz=>rw[show 8*(7-k)=56-8*k from by omega];exact hby.out
     intro v5 w5 ho5 hd5
     have hS5:=Hd (hS.out.next (by rw[<-hps.out] at ho5;exact ho5.out) hd5.out)
     obtain⟨a5,c5,hv5,_,_⟩:=ho5.out.arg
     rw[hv5] at hS5 ⊢
     clear ho5 hd5
     go_wp2_with fail
     go_roundw
     case rel=>exact⟨k+1,oX,by go_num,hS5.out⟩
     case measure=>simp[intOf];omega
    ·obtain rfl:k=8:=oX
     have hLq:(Ji m 8).length % 64=0:=by unfold Qn at hpl;omega
     have hLl:(Ji m 8).length<=200000:=by unfold Qn at hpl;omega
     rw[Gv] at hLq hLl hS hown
     obtain⟨g,hg0,cur,hgb,hcur⟩:=hS.out.own.block (by rw[Hc];omega)
     cases hg0
     have hlt7:¬(0:Int)<=7-((8:Nat):Int):=oX
     rw[Gv]
     have hRow:=Hd (show RSt w g cur wr from⟨hgb,hS.out.res,hS.out.bel⟩)
     have hsz8:=heap_alloc_new wr (.cells (c8 Z6) 240)
     obtain⟨tF,fF,hFw⟩:=hF.below hS.out.bel
     replace hFw:=Hd hFw
     have hsF:(Tryz.prog.info? 240).map (·.size)=some (c8 Z6).size:=kX
     have hs8:zero8.size=(c8 Z6).size:=by rw[XZ,JO]
     have ho8:=VX Z6
     have hu8:Tryz.prog.underlying 240=some (.array 8 239):=Tryz.underlying240
     clear hpl hS hown hsiz hps hz0 hl hml
     have zr8:=PO
     have zn8:=KX
     have zr6:=G5
     have zn6:=NU
     have hI:=Hd (show BSt w g wr.heap.size cur Z6 (wr.alloc (.cells (c8 Z6) 240)) from⟨hRow.out.grown (bR.alloc nR _),heap_alloc_new wr _⟩)
     have hgs:=Hd (show g≠wr.heap.size from by have:=Zb hRow.out.all;omega)
     have hws:=Hd (show w.heap.size<wr.heap.size from by have:=Zb hRow.out.res;omega)
     clear hsz8 hRow hgb
     generalize hC8:c8 Z6=C8 at*
     generalize hM:XH m=M at*
     replace hM:=Hd hM
     go_wp2_with (first|with_reducible refine KR rfl 240 (.global 20) rfl 20 C8 tF fF (.array 8 239) rfl hFw hu8 rfl hsF ?_|with_reducible refine QA rfl 240 (.tmp 6) (.tmp 56) rfl zero8 C8 rfl rfl hsF hs8 ho8 ?_)
     rename_i hQ _
     clear hFw hsF hs8 ho8 hlt7
     obtain⟨sb,hsb⟩:∃ sb,sb=wr.heap.size:=⟨_,rfl⟩
     obtain⟨W,hW⟩:∃ W,W=wr.alloc (.cells C8 240):=⟨_,rfl⟩
     rw[<-hW,<-hsb] at hI ⊢
     rw[<-hsb] at hgs hws
     replace hsb:=Hd hsb
     replace hW:=Hd hW
     clear hC8
     obtain⟨L,hL⟩:∃ L,L=M.length:=⟨_,rfl⟩
     rw[<-hL] at hLq hLl hcur ⊢
     replace hcur:=Hd hcur
     replace hL:=Hd hL
     replace hgs:=Hd hgs
     replace hws:=Hd hws
     refine Z8 [(false,7),(true,17),(false,33),(true,214)] _ [] (λU wr=>∃ q:Nat,64*q<=L/\U 7=.int .i64 ((64*q:Nat):Int)/\BSt w g sb cur (ZK Z6 M q) wr)
      (λU _=>L-(intOf (U 7)).toNat) ?_ ?_
     ·simp only[List.getD_cons_zero,List.getD_cons_succ]
      exact⟨0,oX,rfl,hI.out⟩
     ·clear hI
      intro U wr hrel KK hback l' hl'
      obtain⟨q,hq,h7,hI⟩:=hrel
      simp only[ZU,ZG,cond_true,cond_false,Nat.reduceAdd,h7] at hl'
      subst hl'
      replace h7:=Hd h7
      by_cases hlt:64*q<L
      ·have hnext:=Hd (show ZK Z6 M (q+1)=Q5 (ZK Z6 M q) ((M.drop (64*q)).take 64) from rfl)
       have hch:=Hd (λn h=>Dr M (64*q) n h)
       have hKL:64*q+64<=L:=oX
       have hkq:=Hd (show 64*(q+1)=64*q+64 from by omega)
       obtain⟨K,hK0⟩:∃ K,K=64*q:=⟨_,rfl⟩
       rw[<-hK0] at hlt hch hnext hKL hkq ⊢
       replace hK0:=Hd hK0
       generalize ZK Z6 M q=S at*
       generalize (M.drop K).take 64=ch at*
       have hlti:(K:Int)<(L:Int):=oX
       have hst0:=Hd (show WSt w g sb wr.heap.size cur S (QL ch 0 0) (wr.alloc (.cells zero64 241)) from⟨hI.grown (bR.alloc nR _),by rw[K4,<-UI];exact heap_alloc_new wr _⟩)
       have hgw:=Hd (show g≠wr.heap.size from by have:=Zb hI.rs.all;omega)
       have hsw:=Hd (show sb≠wr.heap.size from by have:=Zb hI.st;omega)
       have hww:=Hd (show w.heap.size<wr.heap.size from by have:=Zb hI.rs.res;omega)
       have hs64:zero64.size=zero64.size:=rfl
       have hi64:(Tryz.prog.info? 241).map (·.size)=some zero64.size:=kX
       have ho64:zero64.all (·.oneCell')=true:=by rw[UI];exact Hu _
       replace hs64:=Hd hs64
       clear hI
       go_wp2_with (with_reducible refine QA rfl 241 (.tmp 8) (.tmp 63) rfl zero64 zero64 rfl rfl hi64 hs64.out ho64 ?_)
       obtain⟨wb,hwb⟩:∃ wb,wb=wr.heap.size:=⟨_,rfl⟩
       obtain⟨W1,hW1⟩:∃ W,W=wr.alloc (.cells zero64 241):=⟨_,rfl⟩
       rw[<-hW1,<-hwb] at hst0
       rw[<-hwb] at hgw hsw hww
       rw[<-hW1,<-hwb]
       replace hwb:=Hd hwb
       replace hW1:=Hd hW1
       clear ho64 hi64
       go_wp2_with fail
       refine Z8 [(false,9),(true,1),(false,54),(true,47)] _ [] (λV wq=>∃ t:Nat,t<=16/\V 9=.int .i64 t/\WSt w g sb wb cur S (QL ch t 0) wq)
        (λV _=>16-(intOf (V 9)).toNat) ?_ ?_
       ·simp only[List.getD_cons_zero,List.getD_cons_succ]
        exact⟨0,Nat.zero_le _,rfl,hst0.out⟩
       ·clear hst0
        intro V wr hrel K1 hbk1 l' hl'
        obtain⟨t,ht,h9,hI⟩:=hrel
        simp only[ZU,ZG,cond_true,cond_false,Nat.reduceAdd,h9] at hl'
        subst hl'
        replace h9:=Hd h9
        by_cases hlt:t<16
        ·have hlt16:(t:Int)<16:=oX
         have hx:∀ j,j<4->∀ W,RSt w g cur W->W.cell? ⟨g,K+4*t+j,none⟩=some (.int .u8 ((cf ch (4*t+j)).toNat:Int)):=λj hj W hW=>by
          rw[Za hW.all,hcur.out _ oX,hch.out _ oX,Nat.add_assoc]
         have x0:=hx 0 oX
         have x1:=hx 1 oX
         have x2:=hx 2 oX
         have x3:=hx 3 oX
         simp only[Nat.add_zero] at x0
         have hwR:=Hd (LQ ch t)
         generalize cf ch (4*t)=c0 at*
         generalize cf ch (4*t+1)=c1 at*
         generalize cf ch (4*t+2)=c2 at*
         generalize cf ch (4*t+3)=c3 at*
         have f1:=hI.free t
         have d1:=hI.cell (j:=t) oX
         have n0:=IntWalk.i64_in (4*(t:Int)) oX
         have n1:=IntWalk.i64_in ((K:Int)+4*(t:Int)) oX
         have n2:=IntWalk.i64_in ((K:Int)+4*(t:Int)+1) oX
         have n3:=IntWalk.i64_in ((K:Int)+4*(t:Int)+2) oX
         have n4:=IntWalk.i64_in ((K:Int)+4*(t:Int)+3) oX
         have m1:(0:Int)<=(K:Int)+4*(t:Int):=oX
         have m2:(0:Int)<=(K:Int)+4*(t:Int)+1:=oX
         have m3:(0:Int)<=(K:Int)+4*(t:Int)+2:=oX
         have m4:(0:Int)<=(K:Int)+4*(t:Int)+3:=oX
         have p1:(K:Int)+4*(t:Int)<L:=oX
         have p2:(K:Int)+4*(t:Int)+1<L:=oX
         have p3:(K:Int)+4*(t:Int)+2<L:=oX
         have p4:(K:Int)+4*(t:Int)+3<L:=oX
         have q1:((K:Int)+4*(t:Int)).toNat=K+4*t:=oX
         have q2:((K:Int)+4*(t:Int)+1).toNat=K+4*t+1:=oX
         have q3:((K:Int)+4*(t:Int)+2).toNat=K+4*t+2:=oX
         have q4:((K:Int)+4*(t:Int)+3).toNat=K+4*t+3:=oX
         replace hI:=Hd hI
         clear hx
         go_wp2_with fail
         replace hI:=Hd (hI.out.grown (Below.refl _ wr).drew)
         have hbd:=hI.out.bs.rs
         have e0:(c0.toNat:Int) % 4294967296=wn c0.toUInt32:=by rw[<-Mt];have:=c0.toNat_lt;omega
         have e1:(c1.toNat:Int) % 4294967296=wn c1.toUInt32:=by rw[<-Mt];have:=c1.toNat_lt;omega
         have e2:(c2.toNat:Int) % 4294967296=wn c2.toUInt32:=by rw[<-Mt];have:=c2.toNat_lt;omega
         have e3:(c3.toNat:Int) % 4294967296=wn c3.toUInt32:=by rw[<-Mt];have:=c3.toNat_lt;omega
         have s0:wn c0.toUInt32*(16777216:Int) % (4294967296:Int)=wn (c0.toUInt32 <<< 24):=Kt c0.toUInt32 24 oX
         have s1:wn c1.toUInt32*(65536:Int) % (4294967296:Int)=wn (c1.toUInt32 <<< 16):=Kt c1.toUInt32 16 oX
         have s2:wn c2.toUInt32*(256:Int) % (4294967296:Int)=wn (c2.toUInt32 <<< 8):=Kt c2.toUInt32 8 oX
         have b1:=Ny (c0.toUInt32 <<< 24) (c1.toUInt32 <<< 16)
         have b2:=Ny (c0.toUInt32 <<< 24 ||| c1.toUInt32 <<< 16) (c2.toUInt32 <<< 8)
         have b3:=Ny (c0.toUInt32 <<< 24 ||| c1.toUInt32 <<< 16 ||| c2.toUInt32 <<< 8) c3.toUInt32
         replace hwR:=Hd (show c0.toUInt32 <<< 24 ||| c1.toUInt32 <<< 16 ||| c2.toUInt32 <<< 8 ||| c3.toUInt32=XY ch t from hwR.out)
         refine wp_region_held_drew (S:=(RSt w g cur)) kX hbd (λhOn=>?_)
         generalize World.drew wr=wd at*
         refine tk 0 hOn ?_
         refine tk 1 hOn ?_
         refine tk 2 hOn ?_
         refine tk 3 hOn ?_
         refine tk 4 hOn ?_
         refine tk 5 hOn ?_
         refine tk 6 hOn ?_
         refine tk 7 hOn ?_
         refine tk 8 hOn ?_
         refine tk 9 hOn ?_
         refine tk 10 hOn ?_
         refine tk 11 hOn ?_
         refine tk 12 hOn ?_
         refine tk 13 hOn ?_
         refine tk 14 hOn ?_
         refine tk 15 hOn ?_
         refine tk 16 hOn ?_
         refine tk 17 hOn ?_
         refine tk 18 hOn ?_
         refine tk 19 hOn ?_
         refine tk 20 hOn ?_
         refine tk 21 hOn ?_
         refine tk 22 hOn ?_
         refine tk 23 hOn ?_
         refine tk 24 hOn ?_
         refine tk 25 hOn ?_
         refine tk 26 hOn ?_
         refine tk 27 hOn ?_
         refine tk 28 hOn ?_
         refine tk 29 hOn ?_
         refine tk 30 hOn ?_
         refine tk 31 hOn ?_
         refine tk 32 hOn ?_
         refine tk 33 hOn ?_
         refine tk 34 hOn ?_
         refine tk 35 hOn ?_
         refine tk 36 hOn ?_
         refine tk 37 hOn ?_
         refine tk 38 hOn ?_
         refine tk 39 hOn ?_
         refine tk 40 hOn ?_
         refine tk 41 hOn ?_
         refine rd 42 (λKz hKz=>?_)
         go_simp
         try go_wp2_with fail
         refine hKz.out _ _ c1X ?_
         clear hKz Kz hOn
         intro hOn
         try simp only[Act.put,sL,sZ,sS]
         refine rd 43 (λKz hKz=>?_)
         have hI6:=Hd (show WSt w g sb wb cur S (QL ch (t+1) 0) (wd.setCell ⟨wb,t,none⟩ (.int .u32 (wn (c0.toUInt32 <<< 24 ||| c1.toUInt32 <<< 16 ||| c2.toUInt32 <<< 8 ||| c3.toUInt32)))) from WSt.congr (hI.out.set hgw.out hsw.out hww.out t _) (λi hi=>by rw[<-R7 ch t i hi,<-hwR.out]))
         have hS:=hI6.out.bs.rs
         rw[if_pos (by rfl)]
         have f1:=hI.out.free t
         have d1:=hI.out.cell (j:=t) oX
         go_simp
         refine hKz.out _ _ hS ?_
         clear hKz Kz hOn hS
         intro hOn
         try simp only[Act.put]
         refine dnE ?_
         go_wp2_with fail
         refine hbk1.out _ _ kX ?_ ?_
         ·simp only[List.getD_cons_zero,List.getD_cons_succ]
          exact⟨t+1,oX,by go_num,hI6.out⟩
         ·have h9:=h9.out
          simp only[List.getD_cons_zero,List.getD_cons_succ,h9,intOf]
          omega
        ·obtain rfl:t=16:=oX
         have hI2:=Hd (WSt.congr hI (GA ch))
         clear hI h9 hbk1
         go_wp2_with fail
         refine Z8 [(false,10),(true,3),(false,98),(true,41)] _ [] (λV wq=>∃ t:Nat,16<=t/\t<=64/\V 10=.int .i64 t/\WSt w g sb wb cur S (Qe ch t) wq)
          (λV _=>64-(intOf (V 10)).toNat) ?_ ?_
         ·simp only[List.getD_cons_zero,List.getD_cons_succ]
          exact⟨16,Nat.le_refl _,oX,rfl,hI2.out⟩
         ·clear hI2
          intro V2 wr hrel K2 hbk2 l' hl'
          obtain⟨t,ht1,ht2,h9,hI⟩:=hrel
          simp only[ZU,ZG,cond_true,cond_false,Nat.reduceAdd,h9] at hl'
          subst hl'
          replace h9:=Hd h9
          by_cases hlt:t<64
          ·have k1:=IntWalk.i64_in ((t:Int)-2) oX
           have k2:=IntWalk.i64_in ((t:Int)-7) oX
           have k3:=IntWalk.i64_in ((t:Int)-15) oX
           have k4:=IntWalk.i64_in ((t:Int)-16) oX
           have n1:((t:Int)-2).toNat=t-2:=oX
           have n2:((t:Int)-7).toNat=t-7:=oX
           have n3:((t:Int)-15).toNat=t-15:=oX
           have n4:((t:Int)-16).toNat=t-16:=oX
           have l1:(0:Int)<=(t:Int)-2:=oX
           have l2:(0:Int)<=(t:Int)-7:=oX
           have l3:(0:Int)<=(t:Int)-15:=oX
           have l4:(0:Int)<=(t:Int)-16:=oX
           have m1:(2:Int)<=(t:Int):=oX
           have m2:(7:Int)<=(t:Int):=oX
           have m3:(15:Int)<=(t:Int):=oX
           have m4:(16:Int)<=(t:Int):=oX
           have u1:(t:Int)-2<64:=oX
           have u2:(t:Int)-7<64:=oX
           have u3:(t:Int)-15<64:=oX
           have u4:(t:Int)-16<64:=oX
           have ca1:∀ W,QB wb t ch W->W.cell? ⟨wb,t-2,none⟩=some (.int .u32 (wn (wAt ch (t-2)))):=λW h=>h _ oX
           have cb1:∀ W,QB wb t ch W->W.cell? ⟨wb,t-7,none⟩=some (.int .u32 (wn (wAt ch (t-7)))):=λW h=>h _ oX
           have cc1:∀ W,QB wb t ch W->W.cell? ⟨wb,t-15,none⟩=some (.int .u32 (wn (wAt ch (t-15)))):=λW h=>h _ oX
           have cd1:∀ W,QB wb t ch W->W.cell? ⟨wb,t-16,none⟩=some (.int .u32 (wn (wAt ch (t-16)))):=λW h=>h _ oX
           have hSa:∀ W,WSt w g sb wb cur S (Qe ch t) W->QB wb t ch W:=λW h=>by
            intro i hi
            rw[h.cell oX];unfold Qe;rw[if_pos hi]
           have hSb:∀ W,WSt w g sb wb cur S (Qe ch (t+1)) W->QB wb t ch W:=λW h=>by
            intro i hi
            rw[h.cell oX];unfold Qe;rw[if_pos oX]
           have hwa:=M8 ch t ht1
           have hfin:=KE ch t
           rw[hwa] at hfin
           replace hfin:=Hd hfin
           replace hSa:=Hd hSa
           replace hSb:=Hd hSb
           clear hwa
           generalize wAt ch (t-2)=xa at*
           generalize wAt ch (t-7)=xb at*
           generalize wAt ch (t-15)=xc at*
           generalize wAt ch (t-16)=xd at*
           have x1:=QT (ZD xa 17) (ZD xa 19)
           have x2:bits BinOp.xor IntKind.u32 (wn (ZD xa 17 ^^^ ZD xa 19)) (wn (xa >>> 10))=wn (YL xa):=QT _ _
           have x3:=QT (ZD xc 7) (ZD xc 18)
           have x4:bits BinOp.xor IntKind.u32 (wn (ZD xc 7 ^^^ ZD xc 18)) (wn (xc >>> 3))=wn (Xz xc):=QT _ _
           have z1:wn xa / (1024:Int)=wn (xa >>> 10):=GS xa 10 oX
           have z2:wn xc / (8:Int)=wn (xc >>> 3):=GS xc 3 oX
           have a1:=Q3 (YL xa) xb
           have a2:=Q3 (YL xa+xb) (Xz xc)
           have a3:=Q3 (YL xa+xb+Xz xc) xd
           replace hI:=Hd (hI.grown (Below.refl _ wr).drew)
           have hbd:=hSa.out _ hI.out
           have hti:(t:Int)<64:=oX
           go_wp2_with fail
           refine wp_region_held_drew (S:=(QB wb t ch)) kX hbd (λhOn=>?_)
           generalize World.drew wr=wd at*
           refine tk 0 hOn ?_
           refine tk 1 hOn ?_
           refine tk 2 hOn ?_
           refine tk 3 hOn ?_
           refine tk 4 hOn ?_
           refine tk 5 hOn ?_
           refine tk 6 hOn ?_
           refine tk 7 hOn ?_
           refine tk 8 hOn ?_
           refine tk 9 hOn ?_
           refine dnE ?_
           go_wp2_with fail
           replace hI:=Hd (hI.out.grown (Below.refl _ wd).drew)
           have hbd2:=hSa.out _ hI.out
           generalize hq1:wd=wp at*
           refine wp_region_held_drew (S:=(QB wb t ch)) kX hbd2 (λhOn=>?_)
           generalize World.drew wp=wd at*
           refine tk 0 hOn ?_
           refine tk 1 hOn ?_
           refine tk 3 hOn ?_
           refine tk 6 hOn ?_
           refine tk 7 hOn ?_
           refine tk 9 hOn ?_
           refine tk 10 hOn ?_
           refine tk 11 hOn ?_
           refine tk 12 hOn ?_
           refine tk 14 hOn ?_
           refine tk 16 hOn ?_
           refine tk 19 hOn ?_
           refine tk 20 hOn ?_
           refine tk 23 hOn ?_
           refine tk 24 hOn ?_
           refine tk 25 hOn ?_
           refine tk 26 hOn ?_
           refine rd 2 (λKz hKz=>?_)
           go_simp
           (with_reducible refine(Xw xa 17 oX _ _ oX).mono ?_)
           rintro e w4 ⟨rfl,rfl⟩
           have hS:=hOn
           go_wp2_with fail
           refine hKz.out _ _ hS ?_
           clear hKz Kz hOn hS
           intro hOn
           try simp only[Act.put,sL,sZ,sS]
           refine rd 4 (λKz hKz=>?_)
           go_simp
           (with_reducible refine(Xw xa 19 oX _ _ oX).mono ?_)
           rintro e w4 ⟨rfl,rfl⟩
           have hS:=hOn
           go_wp2_with fail
           refine hKz.out _ _ hS ?_
           clear hKz Kz hOn hS
           intro hOn
           try simp only[Act.put,sL,sZ,sS]
           refine tk 5 hOn ?_
           refine tk 8 hOn ?_
           refine tk 13 hOn ?_
           refine rd 15 (λKz hKz=>?_)
           go_simp
           (with_reducible refine(Xw xc 7 oX _ _ oX).mono ?_)
           rintro e w4 ⟨rfl,rfl⟩
           have hS:=hOn
           go_wp2_with fail
           refine hKz.out _ _ hS ?_
           clear hKz Kz hOn hS
           intro hOn
           try simp only[Act.put,sL,sZ,sS]
           refine rd 17 (λKz hKz=>?_)
           go_simp
           (with_reducible refine(Xw xc 18 oX _ _ oX).mono ?_)
           rintro e w4 ⟨rfl,rfl⟩
           have hS:=hOn
           go_wp2_with fail
           refine hKz.out _ _ hS ?_
           clear hKz Kz hOn hS
           intro hOn
           try simp only[Act.put,sL,sZ,sS]
           refine tk 18 hOn ?_
           refine tk 21 hOn ?_
           refine tk 22 hOn ?_
           refine tk 27 hOn ?_
           refine tk 28 hOn ?_
           refine rd 29 (λKz hKz=>?_)
           have hI6:=Hd (show WSt w g sb wb cur S (Qe ch (t+1)) (wd.setCell ⟨wb,t,none⟩ (.int .u32 (wn (YL xa+xb+Xz xc+xd)))) from WSt.congr (hI.out.set hgw.out hsw.out hww.out t _) hfin.out)
           have hS:=hSb.out _ hI6.out
           rw[if_pos (by rfl)]
           have f1:=hI.out.free t
           have d1:=hI.out.cell (j:=t) oX
           go_simp
           refine hKz.out _ _ hS ?_
           clear hKz Kz hOn hS
           intro hOn
           try simp only[Act.put]
           refine dnE ?_
           go_wp2_with fail
           refine hbk2.out _ _ kX ?_ ?_
           ·simp only[List.getD_cons_zero,List.getD_cons_succ]
            exact⟨t+1,oX,oX,by go_num,hI6.out⟩
           ·have h9:=h9.out
            simp only[List.getD_cons_zero,List.getD_cons_succ,h9,intOf]
            omega
          ·obtain rfl:t=64:=oX
           have hI2:=Hd hI
           have qq:∀ j,j<8->∀ W,BSt w g sb cur S W->W.cell? ⟨sb,j,none⟩=some (.int .u32 (wn (sAt S j))):=λj hj W hW=>WSt.sAt hW hj
           have q0:=qq 0 oX
           have q1:=qq 1 oX
           have q2:=qq 2 oX
           have q3:=qq 3 oX
           have q4:=qq 4 oX
           have q5:=qq 5 oX
           have q6:=qq 6 oX
           have q7:=qq 7 oX
           simp only[sAt] at q0 q1 q2 q3 q4 q5 q6 q7
           replace hI:=Hd (hI2.out.grown (Below.refl _ wr).drew)
           have hbd:=hI.out.bs
           clear hI2 h9 hbk2 qq
           go_wp2_with fail
           refine wp_region_held_drew (S:=(BSt w g sb cur S)) kX hbd (λhOn=>?_)
           generalize World.drew wr=wd at*
           refine tk 0 hOn ?_
           refine tk 1 hOn ?_
           refine tk 2 hOn ?_
           refine tk 3 hOn ?_
           refine tk 4 hOn ?_
           refine tk 5 hOn ?_
           refine tk 6 hOn ?_
           refine tk 7 hOn ?_
           refine tk 8 hOn ?_
           refine tk 9 hOn ?_
           refine tk 10 hOn ?_
           refine tk 11 hOn ?_
           refine tk 12 hOn ?_
           refine tk 13 hOn ?_
           refine tk 14 hOn ?_
           refine tk 15 hOn ?_
           refine tk 16 hOn ?_
           refine tk 17 hOn ?_
           refine tk 18 hOn ?_
           refine tk 19 hOn ?_
           refine tk 20 hOn ?_
           refine tk 21 hOn ?_
           refine tk 22 hOn ?_
           refine tk 23 hOn ?_
           refine dnE ?_
           go_wp2_with fail
           refine Z8 [(false,13),(true,11),(false,144),(true,63)] _ [] (λV wq=>∃ t:Nat,t<=64/\V 21=.int .i64 t/\(V 13=.int .u32 (wn (ZN ch S t).a)/\V 14=.int .u32 (wn (ZN ch S t).b)/\V 15=.int .u32 (wn (ZN ch S t).c)/\V 16=.int .u32 (wn (ZN ch S t).d)/\
             V 17=.int .u32 (wn (ZN ch S t).e)/\V 18=.int .u32 (wn (ZN ch S t).f)/\V 19=.int .u32 (wn (ZN ch S t).g)/\V 20=.int .u32 (wn (ZN ch S t).h))/\WSt w g sb wb cur S (Qe ch 64) wq)
            (λV _=>64-(intOf (V 21)).toNat) ?_ ?_
           ·simp only[List.getD_cons_zero,List.getD_cons_succ]
            exact⟨0,Nat.zero_le _,rfl,⟨rfl,rfl,rfl,rfl,rfl,rfl,rfl,rfl⟩,hI.out⟩
           ·clear hI q0 q1 q2 q3 q4 q5 q6 q7
            intro V3 wr hrel K3 hbk3 l' hl'
            obtain⟨t,ht,h9,⟨v13,v14,v15,v16,v17,v18,v19,v20⟩,hI⟩:=hrel
            simp only[ZU,ZG,cond_true,cond_false,Nat.reduceAdd,h9,v13,v14,v15,v16,v17,v18,v19,v20] at hl'
            subst hl'
            replace h9:=Hd h9
            clear v13 v14 v15 v16 v17 v18 v19 v20
            by_cases hlt:t<64
            ·have hti:(t:Int)<64:=oX
             have ck:∀ W,WSt w g sb wb cur S (Qe ch 64) W->W.cell? ⟨21,t,none⟩=some (.int .u32 (wn (kAt t))):=λW h=>hK.below h.bs.rs.bel t hlt
             have cw:∀ W,WSt w g sb wb cur S (Qe ch 64) W->W.cell? ⟨wb,t,none⟩=some (.int .u32 (wn (wAt ch t))):=λW h=>by
              rw[h.cell hlt];unfold Qe;rw[if_pos hlt]
             have hnx:=Hd (show ZN ch S (t+1)=VU (ZN ch S t) (kAt t) (wAt ch t) from rfl)
             generalize ZN ch S t=r at*
             obtain⟨ra,rb,rc,rdz,re,rf,rg,rh⟩:=r
             have b1:=Js re rf
             have b2:bits BinOp.xor IntKind.u32 IntKind.u32.max (wn re)=wn (~~~re):=DH re
             have b3:=Js (~~~re) rg
             have b4:=QT (re &&& rf) (~~~re &&& rg)
             have b5:=Js ra rb
             have b6:=Js ra rc
             have b7:=QT (ra &&& rb) (ra &&& rc)
             have b8:=Js rb rc
             have b9:=QT ((ra &&& rb) ^^^ (ra &&& rc)) (rb &&& rc)
             rw[show (re &&& rf) ^^^ (~~~re &&& rg)=chW re rf rg from rfl] at b4
             rw[show ((ra &&& rb) ^^^ (ra &&& rc)) ^^^ (rb &&& rc)=Xt ra rb rc from rfl] at b9
             have y1:=QT (ZD re 6) (ZD re 11)
             have y2:bits BinOp.xor IntKind.u32 (wn (ZD re 6 ^^^ ZD re 11)) (wn (ZD re 25))=wn (Qo re):=QT _ _
             have y3:=QT (ZD ra 2) (ZD ra 13)
             have y4:bits BinOp.xor IntKind.u32 (wn (ZD ra 2 ^^^ ZD ra 13)) (wn (ZD ra 22))=wn (Xr ra):=QT _ _
             generalize kAt t=kk at*
             generalize wAt ch t=ww at*
             have d1:=Q3 rh (Qo re)
             have d2:=Q3 (rh+Qo re) (chW re rf rg)
             have d3:=Q3 (rh+Qo re+chW re rf rg) kk
             have d4:=Q3 (rh+Qo re+chW re rf rg+kk) ww
             have d5:=Q3 (Xr ra) (Xt ra rb rc)
             have d6:=Q3 (rh+Qo re+chW re rf rg+kk+ww) (Xr ra+Xt ra rb rc)
             have d7:=Q3 rdz (rh+Qo re+chW re rf rg+kk+ww)
             replace hI:=Hd (hI.grown (Below.refl _ wr).drew)
             have hbd:=hI.out
             go_wp2_with fail
             refine wp_region_held_drew (S:=(WSt w g sb wb cur S (Qe ch 64))) kX hbd (λhOn=>?_)
             generalize World.drew wr=wd at*
             refine tk 0 hOn ?_
             refine tk 1 hOn ?_
             refine tk 3 hOn ?_
             refine tk 6 hOn ?_
             refine tk 10 hOn ?_
             refine tk 11 hOn ?_
             refine tk 12 hOn ?_
             refine tk 13 hOn ?_
             refine tk 14 hOn ?_
             refine tk 15 hOn ?_
             refine tk 16 hOn ?_
             refine tk 17 hOn ?_
             refine tk 19 hOn ?_
             refine tk 20 hOn ?_
             refine tk 21 hOn ?_
             refine tk 23 hOn ?_
             refine tk 24 hOn ?_
             refine tk 25 hOn ?_
             refine rd 2 (λKz hKz=>?_)
             go_simp
             (with_reducible refine(Xw re 6 oX _ _ oX).mono ?_)
             rintro e w4 ⟨rfl,rfl⟩
             have hS:=hOn
             go_wp2_with fail
             refine hKz.out _ _ hS ?_
             clear hKz Kz hOn hS
             intro hOn
             try simp only[Act.put,sL,sZ,sS]
             refine rd 4 (λKz hKz=>?_)
             go_simp
             (with_reducible refine(Xw re 11 oX _ _ oX).mono ?_)
             rintro e w4 ⟨rfl,rfl⟩
             have hS:=hOn
             go_wp2_with fail
             refine hKz.out _ _ hS ?_
             clear hKz Kz hOn hS
             intro hOn
             try simp only[Act.put,sL,sZ,sS]
             refine tk 5 hOn ?_
             refine rd 7 (λKz hKz=>?_)
             go_simp
             (with_reducible refine(Xw re 25 oX _ _ oX).mono ?_)
             rintro e w4 ⟨rfl,rfl⟩
             have hS:=hOn
             go_wp2_with fail
             refine hKz.out _ _ hS ?_
             clear hKz Kz hOn hS
             intro hOn
             try simp only[Act.put,sL,sZ,sS]
             refine tk 8 hOn ?_
             refine tk 9 hOn ?_
             refine tk 18 hOn ?_
             refine tk 22 hOn ?_
             refine tk 26 hOn ?_
             refine tk 27 hOn ?_
             refine dnE ?_
             go_wp2_with fail
             with_reducible refine(Xw ra 2 oX _ _ oX).mono ?_
             rintro e w4 ⟨rfl,rfl⟩
             go_wp2_with fail
             with_reducible refine(Xw ra 13 oX _ _ oX).mono ?_
             rintro e w4 ⟨rfl,rfl⟩
             go_wp2_with fail
             with_reducible refine(Xw ra 22 oX _ _ oX).mono ?_
             rintro e w4 ⟨rfl,rfl⟩
             go_wp2_with fail
             refine hbk3.out _ _ kX ?_ ?_
             ·simp only[List.getD_cons_zero,List.getD_cons_succ]
              exact⟨t+1,oX,by go_num,by rw[hnx.out];exact⟨rfl,rfl,rfl,rfl,rfl,rfl,rfl,rfl⟩,hI.out⟩
             ·have h9:=h9.out
              simp only[List.getD_cons_zero,List.getD_cons_succ,h9,intOf]
              omega
            ·obtain rfl:t=64:=oX
             have htk:=Hd (show Q5 S ch=MP (ZN ch S 64) S from rfl)
             have q0:=WSt.sAt hI.bs (j:=0) oX
             have q1:=WSt.sAt hI.bs (j:=1) oX
             have q2:=WSt.sAt hI.bs (j:=2) oX
             have q3:=WSt.sAt hI.bs (j:=3) oX
             have q4:=WSt.sAt hI.bs (j:=4) oX
             have q5:=WSt.sAt hI.bs (j:=5) oX
             have q6:=WSt.sAt hI.bs (j:=6) oX
             have q7:=WSt.sAt hI.bs (j:=7) oX
             simp only[sAt] at q0 q1 q2 q3 q4 q5 q6 q7
             have f0:∀ j,wr.frozen? ⟨sb,j,none⟩=false:=λj=>Zj hI.bs.st _
             generalize ZN ch S 64=r at*
             have p0:=UR r.a S.a
             have p1:=UR r.b S.b
             have p2:=UR r.c S.c
             have p3:=UR r.d S.d
             have p4:=UR r.e S.e
             have p5:=UR r.f S.f
             have p6:=UR r.g S.g
             have p7:=UR r.h S.h
             have hput:=Hd (BSt.put8 hI.bs hgs.out hws.out (MP r S))
             replace hI:=Hd hI
             clear h9 hbk3
             go_wp2_with fail
             refine hback.out _ _ kX ?_ ?_
             ·simp only[List.getD_cons_zero,List.getD_cons_succ]
              exact⟨q+1,by have:=hkq.out;have:=hKL;omega,by rw[hkq.out];go_num,by rw[hnext.out,htk.out];exact hput.out⟩
             ·have h7:=h7.out
              have hk0:=hK0.out
              have e1:((K:Int)+64).toNat=K+64:=oX
              have e2:((64*q:Nat):Int).toNat=64*q:=oX
              simp only[List.getD_cons_zero,List.getD_cons_succ,h7,intOf,e1,<-hk0]
              first|omega|(rw[Int.toNat_natCast];omega)
      ·have hq64:64*q=L:=oX
       have hqL:q=L / 64:=oX
       have hsha:=Hd (show sha m=Ql (ZK Z6 M q) from by unfold sha;rw[hM.out,<-hL.out,<-hqL])
       have hlti:¬((64*q:Nat):Int)<(L:Int):=oX
       generalize ZK Z6 M q=S at*
       have hI0:=Hd (show OSt w wr.heap.size (Q4 S 0) (wr.alloc (.cells zero32 46)) from⟨by rw[GW,<-Kl];exact heap_alloc_new wr _,(hI.rs.grown (bR.alloc nR _)).res,(hI.rs.grown (bR.alloc nR _)).bel⟩)
       have hst:=Hd (show (wr.alloc (.cells zero32 46)).heap[sb]? = some (.cells (c8 S) 240 (0,0)) from(hI.grown (bR.alloc nR _)).st)
       have how:=Hd (show w.heap.size<wr.heap.size from by have:=Zb hI.rs.res;omega)
       have hidx:=Hd (λi h W=>Cv S i h W)
       have hi32:(Tryz.prog.info? 46).map (·.size)=some zero32.size:=kX
       have ho32:zero32.all (·.oneCell')=true:=P7
       have hs32:zero32.size=zero32.size:=rfl
       replace hs32:=Hd hs32
       have hsF:(Tryz.prog.info? 240).map (·.size)=some (c8 S).size:=kX
       clear hI h7 hback
       generalize c8 S=D8 at*
       go_wp2_with (first|with_reducible refine QA rfl 46 (.tmp 24) (.tmp 271) rfl zero32 zero32 rfl rfl hi32 hs32.out ho32 ?_|with_reducible refine Zd rfl 240 (.tmp 6) rfl sb D8 (.array 8 239) rfl hst hu8 rfl hsF ?_)
       go_wp2_with fail
       obtain⟨ob,hob⟩:∃ ob,ob=wr.heap.size:=⟨_,rfl⟩
       obtain⟨W1,hW1⟩:∃ W,W=wr.alloc (.cells zero32 46):=⟨_,rfl⟩
       rw[<-hW1,<-hob] at hI0
       rw[<-hob] at how
       rw[<-hW1,<-hob]
       replace hob:=Hd hob
       replace hW1:=Hd hW1
       clear ho32 hi32 hst hsF
       refine Z8 [(false,25),(true,2),(false,246),(true,31)] _ [] (λV wq=>∃ i:Nat,i<=8/\V 273=.int .i64 i/\OSt w ob (Q4 S (4*i)) wq)
        (λV _=>8-(intOf (V 273)).toNat) ?_ ?_
       ·simp only[List.getD_cons_zero,List.getD_cons_succ]
        exact⟨0,Nat.zero_le _,rfl,hI0.out⟩
       ·clear hI0
        intro V wr hrel K1 hbk1 l' hl'
        obtain⟨i,hi,h9,hO⟩:=hrel
        simp only[ZU,ZG,cond_true,cond_false,Nat.reduceAdd,h9] at hl'
        subst hl'
        replace h9:=Hd h9
        by_cases hlt:i<8
        ·have hix:=hidx.out i hlt
         have hi8:(i:Int)<8:=oX
         have c0:=hO.cell (j:=4*i) oX
         have c1:=hO.cell (j:=4*i+1) oX
         have c2:=hO.cell (j:=4*i+2) oX
         have c3:=hO.cell (j:=4*i+3) oX
         have f0:∀ j,wr.frozen? ⟨ob,j,none⟩=false:=λj=>hO.free j
         have v0:wn (sAt S i) / (16777216:Int) % (256:Int)=((cf (Ql S) (4*i)).toNat:Int):=(Jw S i 0 hlt oX).symm
         have v1:wn (sAt S i) / (65536:Int) % (256:Int)=((cf (Ql S) (4*i+1)).toNat:Int):=(Jw S i 1 hlt oX).symm
         have v2:wn (sAt S i) / (256:Int) % (256:Int)=((cf (Ql S) (4*i+2)).toNat:Int):=(Jw S i 2 hlt oX).symm
         have v3:wn (sAt S i) % (256:Int)=((cf (Ql S) (4*i+3)).toNat:Int):=by
          have:=Jw S i 3 hlt oX
          simp at this
          omega
         have e1:(4*(i:Int)).toNat=4*i:=oX
         have e2:(4*(i:Int)+1).toNat=4*i+1:=oX
         have e3:(4*(i:Int)+2).toNat=4*i+2:=oX
         have e4:(4*(i:Int)+3).toNat=4*i+3:=oX
         have hO4:=Hd (show OSt w ob (Q4 S (4*i+4)) _ from((hO.set how.out).set how.out |>.set how.out).set how.out)
         replace hO:=Hd hO
         generalize sAt S i=x at*
         generalize cf (Ql S) (4*i)=y0 at*
         go_wp2_with fail
         refine hbk1.out _ _ kX ?_ ?_
         ·simp only[List.getD_cons_zero,List.getD_cons_succ]
          exact⟨i+1,oX,by go_num,hO4.out⟩
         ·have h9:=h9.out
          simp only[List.getD_cons_zero,List.getD_cons_succ,h9,intOf]
          omega
        ·obtain rfl:i=8:=oX
         have hrow:=Hd hO.row
         have hres:=Hd hO.res
         have hbel:=Hd hO.bel
         have hDg:cB (tab 32 (Q4 S (4*8)))=cB (sha m):=by rw[show 4*8=32 from rfl,NZ,hsha.out]
         rw[hDg] at hrow
         have hu1:Tryz.prog.underlying 46=some (.array 32 5):=Tryz.underlying46
         have hszS:(Tryz.prog.info? 46).map (·.size)=some (cB (sha m)).toArray.size:=by rw[List.size_toArray,Ze,Qp];kernel_rfl
         have hsZ:zero32.size=(cB (sha m)).toArray.size:=by rw[QG,List.size_toArray,Ze,Qp]
         have hone:(cB (sha m)).toArray.all (·.oneCell')=true:=by
          rw[List.all_toArray,List.all_eq_true]
          exact ZI _
         generalize hDD:(cB (sha m)).toArray=DD at*
         clear hO hDg hidx h9 hbk1
         go_wp2_with (first|with_reducible refine Zd rfl 46 (.tmp 24) rfl ob DD (.array 32 5) rfl hrow hu1 rfl hszS ?_|with_reducible refine Zc rfl 46 (.tmp 2) (.tmp 304) rfl w.heap.size zero32 DD rfl rfl hres hszS hsZ hone ?_)
         intro w9 hU9
         go_wp2_with fail
         exact ZE rfl rfl hu1 rfl hszS hU9.out.here ⟨by rw[hDD],hbel.out.trans (hU9.out.below nR)⟩
end Go.Proofs.YtpdhceiodgnbmaaGreatDoor
