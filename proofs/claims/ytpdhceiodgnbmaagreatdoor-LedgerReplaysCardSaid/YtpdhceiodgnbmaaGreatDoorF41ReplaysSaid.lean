import Derived.Test.YtpdhceiodgnbmaaGreatDoorF0ReplaysSaid
import Derived.Test.YtpdhceiodgnbmaaGreatDoorF1ReplaysSaid
import Derived.Test.YtpdhceiodgnbmaaGreatDoorF40ReplaysSaid
import Derived.Test.YtpdhceiodgnbmaaGreatDoorF34ReplaysSaid
import Derived.Test.YtpdhceiodgnbmaaGreatDoorF17ReplaysSaid
import Derived.Test.YtpdhceiodgnbmaaGreatDoorF24ReplaysSaid
import Derived.Test.YtpdhceiodgnbmaaGreatDoorF2ReplaysSaid
import Derived.Test.YtpdhceiodgnbmaaGreatDoorF8ReplaysSaid
import Derived.Test.YtpdhceiodgnbmaaGreatDoorF29ReplaysSaid
import Derived.Test.YtpdhceiodgnbmaaGreatDoorF30ReplaysSaid
import Derived.Test.YtpdhceiodgnbmaaGreatDoorF10ReplaysSaid
set_option linter.unusedVariables false
set_option linter.unusedSimpArgs false
set_option linter.unnecessarySimpa false
set_option maxRecDepth 100000
set_option maxHeartbeats 8000000
namespace Go.Proofs.YtpdhceiodgnbmaaGreatDoor
open Go.RowKit
theorem Dm{base:Nat}{w:World}{l:Nat}{V:LV}{P:LP}(h:LdM base w l V P)(s:ByteArray)(q:P6)(root file:List UInt8)(t:Int)(h1:root.length=32)(h2:file.length=32)(Q:World->Ending->World->Prop)(hQ:∀ W e w',Q W e w'->e=.returned .nilIface)(hput:∀ W,Below w.heap.size w W->Calls Tryz.prog 81 #[.pointer (some ⟨l,0,none⟩),.agg (VF (P.m.its.length:Int) s q root file t).list.toArray] W (Q W)) :
  Calls Tryz.prog 36 #[.pointer (some ⟨l,0,none⟩),.string s,.agg q.list.toArray,.agg (cB root).toArray,.agg (cB file).toArray,.int .i64 t] w (λe w'=>e=.returned (.tuple #[.int .i64 (P.m.its.length:Int),.nilIface])/\∃ W,Below w.heap.size w W/\Q W (.returned .nilIface) w'):=by
 have hbd:=Hd (λ(n:Int) W=>Gs n s q root file t h1 h2 W)
 have iP:(Tryz.prog.info? 45).map (·.size)=some q.list.toArray.size:=kX
 have iR:(Tryz.prog.info? 47).map (·.size)=some (cB root).toArray.size:=by rw[List.size_toArray,Zg,h1];kernel_rfl
 have iF:(Tryz.prog.info? 47).map (·.size)=some (cB file).toArray.size:=by rw[List.size_toArray,Zg,h2];kernel_rfl
 generalize q.list.toArray=PA at*
 generalize (cB root).toArray=RA at*
 generalize (cB file).toArray=FA at*
 obtain⟨a4,c4,a5,c5,hsh⟩:=h.st.shape
 simp only[Value.agg.injEq,Array.mk.injEq,List.cons.injEq,and_true] at hsh
 obtain⟨hsI,hsE⟩:=hsh
 obtain⟨b8,b9,b10,hs3,hB⟩:=Z4 w PA RA FA 45 47 47 _ rfl
 obtain⟨w1,hw1⟩:∃ w1,w1=((w.alloc (.cells PA 45)).alloc (.cells RA 47)).alloc (.cells FA 47):=⟨_,rfl⟩
 rw[<-hw1] at b8 b9 b10 hs3 hB
 have hl1:=h.below hB
 obtain⟨N,hN⟩:∃ N,N=P.m.its.length:=⟨_,rfl⟩
 have c1:w1.cell? ⟨l,1,none⟩=some (.slice a4 N c4):=by rw[Za hl1.at_,hN,<-hsI];rfl
 rw[<-hN] at hput ⊢
 obtain⟨X,hX⟩:∃ X,X=(VF (N:Int) s q root file t).list.toArray:=⟨_,rfl⟩
 have hbN:=Hd (λW=>hbd.out (N:Int) W)
 rw[<-hX] at hput hbN
 replace hput:=Hd hput
 replace hX:=Hd hX
 replace hw1:=Hd hw1
 replace b8:=Hd b8
 replace b9:=Hd b9
 replace b10:=Hd b10
 replace hB:=Hd hB
 replace hN:=Hd hN
 clear h hl1 hs3 hsI hsE h1 h2
 go_enter Tryz.func36,Tryz.ntmps36
 go_upto_region 1 with fail
 rw[<-hw1.out]
 go_wp2_with (first
  | ((with_reducible refine wL (.load 45 (.tmp 8)) ?_);refine Ze rfl 45 (.tmp 8) rfl w.heap.size PA _ rfl b8 Tryz.underlying45 rfl iP ?_)
  | ((with_reducible refine wL (.load 47 (.tmp 9)) ?_);refine Ze rfl 47 (.tmp 9) rfl (w.heap.size+1) RA _ rfl b9 Tryz.underlying47 rfl iR ?_)
  | ((with_reducible refine wL (.load 47 (.tmp 10)) ?_);refine Ze rfl 47 (.tmp 10) rfl (w.heap.size+2) FA _ rfl b10 Tryz.underlying47 rfl iF ?_)
  | ((with_reducible refine wL (.build 49 _) ?_);refine Zm rfl 49 [(0,.const (.int .i64 1)),(1,.tmp 23),(3,.tmp 24),(4,.tmp 25),(5,.tmp 26),(6,.tmp 27),(10,.tmp 28)] rfl [(0,.int .i64 1),(1,.int .i64 (N:Int)),(3,.string s),(4,.agg PA),(5,.agg RA),(6,.agg FA),(10,.int .i64 t)] rfl _ (hbN.out _) ?_))
 with_reducible refine(hput.out _ hB.out).mono ?_
 clear hput
 rintro e w2 hq
 obtain rfl:=hQ _ _ _ hq
 replace hq:=Hd hq
 clear hQ c1
 go_wp2_with fail
 go_ret2
 exact⟨rfl,_,hB.out,hq.out⟩
theorem Lz{base:Nat}{w:World}{l:Nat}{V:LV}{P:LP}(h:LdM base w l V P)(s:ByteArray)(q:P6)(root file:List UInt8)(t:Int)(h1:root.length=32)(h2:file.length=32)(ea:Nat->Addr)(k:Nat)(hk:k≠0)(hput:∀ W,Below w.heap.size w W->Calls Tryz.prog 81 #[.pointer (some ⟨l,0,none⟩),.agg (VF (P.m.its.length:Int) s q root file t).list.toArray] W (λe w'=>∃ v,e=.returned v/\ErrIs ea w' v k/\Below W.heap.size W w')) :
  Calls Tryz.prog 36 #[.pointer (some ⟨l,0,none⟩),.string s,.agg q.list.toArray,.agg (cB root).toArray,.agg (cB file).toArray,.int .i64 t] w (λe w'=>∃ v,e=.returned (.tuple #[.int .i64 0,v])/\ErrIs ea w' v k/\Below w.heap.size w w'):=by
 have hbd:=Hd (λ(n:Int) W=>Gs n s q root file t h1 h2 W)
 have iP:(Tryz.prog.info? 45).map (·.size)=some q.list.toArray.size:=kX
 have iR:(Tryz.prog.info? 47).map (·.size)=some (cB root).toArray.size:=by rw[List.size_toArray,Zg,h1];kernel_rfl
 have iF:(Tryz.prog.info? 47).map (·.size)=some (cB file).toArray.size:=by rw[List.size_toArray,Zg,h2];kernel_rfl
 generalize q.list.toArray=PA at*
 generalize (cB root).toArray=RA at*
 generalize (cB file).toArray=FA at*
 obtain⟨a4,c4,a5,c5,hsh⟩:=h.st.shape
 simp only[Value.agg.injEq,Array.mk.injEq,List.cons.injEq,and_true] at hsh
 obtain⟨hsI,hsE⟩:=hsh
 obtain⟨b8,b9,b10,hs3,hB⟩:=Z4 w PA RA FA 45 47 47 _ rfl
 obtain⟨w1,hw1⟩:∃ w1,w1=((w.alloc (.cells PA 45)).alloc (.cells RA 47)).alloc (.cells FA 47):=⟨_,rfl⟩
 rw[<-hw1] at b8 b9 b10 hs3 hB
 have hl1:=h.below hB
 obtain⟨N,hN⟩:∃ N,N=P.m.its.length:=⟨_,rfl⟩
 have c1:w1.cell? ⟨l,1,none⟩=some (.slice a4 N c4):=by rw[Za hl1.at_,hN,<-hsI];rfl
 rw[<-hN] at hput
 obtain⟨X,hX⟩:∃ X,X=(VF (N:Int) s q root file t).list.toArray:=⟨_,rfl⟩
 have hbN:=Hd (λW=>hbd.out (N:Int) W)
 rw[<-hX] at hput hbN
 replace hput:=Hd hput
 replace hX:=Hd hX
 replace hw1:=Hd hw1
 replace b8:=Hd b8
 replace b9:=Hd b9
 replace b10:=Hd b10
 replace hB:=Hd hB
 replace hN:=Hd hN
 clear h hl1 hs3 hsI hsE h1 h2
 go_enter Tryz.func36,Tryz.ntmps36
 go_upto_region 1 with fail
 rw[<-hw1.out]
 go_wp2_with (first
  | ((with_reducible refine wL (.load 45 (.tmp 8)) ?_);refine Ze rfl 45 (.tmp 8) rfl w.heap.size PA _ rfl b8 Tryz.underlying45 rfl iP ?_)
  | ((with_reducible refine wL (.load 47 (.tmp 9)) ?_);refine Ze rfl 47 (.tmp 9) rfl (w.heap.size+1) RA _ rfl b9 Tryz.underlying47 rfl iR ?_)
  | ((with_reducible refine wL (.load 47 (.tmp 10)) ?_);refine Ze rfl 47 (.tmp 10) rfl (w.heap.size+2) FA _ rfl b10 Tryz.underlying47 rfl iF ?_)
  | ((with_reducible refine wL (.build 49 _) ?_);refine Zm rfl 49 [(0,.const (.int .i64 1)),(1,.tmp 23),(3,.tmp 24),(4,.tmp 25),(5,.tmp 26),(6,.tmp 27),(10,.tmp 28)] rfl [(0,.int .i64 1),(1,.int .i64 (N:Int)),(3,.string s),(4,.agg PA),(5,.agg RA),(6,.agg FA),(10,.int .i64 t)] rfl _ (hbN.out _) ?_))
 with_reducible refine(hput.out _ hB.out).mono ?_
 clear hput
 rintro e w2 ⟨v,rfl,hv,hb2⟩
 have hnq:=hv.neq
 have hgd:=hv.guard
 rw[show (k != 0)=true from by simpa using hk] at hnq
 have hB2:=Hd (hB.out.trans (hb2.mono hB.out.size))
 replace hv:=Hd hv
 clear hb2 hk c1
 go_wp2_with fail
 go_ret2
 exact⟨_,rfl,hv.out,hB2.out⟩
def Pa(w:World)(n:Nat)(e:Ending)(w':World):Prop:=
 ∃ l V,e=.returned (.tuple #[.pointer (some ⟨l,0,none⟩),.pointer (some ⟨V.B,0,none⟩)])/\LdM w.heap.size w' l V (LP.new n)/\V.mn<=20000/\Below w.heap.size w w'
theorem P9(n:Nat)(w:World)(h1:1<=n)(hn:n<=1000)(e:Nat->Addr)(hE:DErr w e)(hK:ShaK w)(hF:ShaF w)(ea:Nat->Addr)(H:Errs 298 Zq w ea) :
  Calls Tryz.prog 21 #[.int .i64 (n:Int)] w (Pa w n):=by
 have hnw:=Hd (WC (n:Int) oX oX w)
 have hd:=Dj (n:Int) w w.heap.size nR
 have hB2:13<w.heap.size:=World.block_lt_of_cell? w _ hE.power
 have hb1:Below w.heap.size w ((w.alloc (.map #[] 0)).alloc (.cells (Qp (n:Int) w.heap.size (.slice none 0 0) false 0 false) 120)):=(bR.alloc nR _).alloc sX _
 generalize hW1:(w.alloc (.map #[] 0)).alloc (.cells (Qp (n:Int) w.heap.size (.slice none 0 0) false 0 false) 120)=w1 at*
 have hBE:13≠w.heap.size+1:=oX
 have hlo:=Hd (HC n hd hb1.size h1 hn dX e hBE (λW hW=>hE.below (hb1.trans hW)) (hK.below hb1) (hF.below hb1) ea (H.below hb1) (λW hW=>H.below (hb1.trans hW)))
 replace hb1:=Hd hb1
 replace hW1:=Hd hW1
 clear hd hBE hB2 hE hK hF H h1 hn
 go_enter Tryz.func21,Tryz.ntmps21
 go_wp2_with fail
 with_reducible refine hnw.out.mono ?_
 rintro x w' ⟨rfl,hq⟩
 obtain rfl:w1=w':=hq.symm
 clear hq hnw hW1
 go_wp2_with fail
 with_reducible refine hlo.out.mono ?_
 clear hlo
 rintro x w2 ⟨l,V,rfl,hL,hVB,hVm,hmn,hb2⟩
 have hB2:=Hd (hb1.out.trans hb2)
 replace hL:=Hd hL
 go_wp2_with fail
 go_ret2
 exact⟨l,V,by rw[hVB];rfl,hL.out,oX,hB2.out⟩
def rcA:Rc:=VF 0 ⟨#[97]⟩ ⟨3,0,1,1,1,0⟩ (List.replicate 32 0) (List.replicate 32 0) 0
theorem Dh:rcA.Ok:=⟨dX,dX,dX,dX,⟨dX,dX,dX,dX,dX,dX⟩,dX,dX,dX,dX,dX,dX⟩
theorem Hg:Zw ⟨[],[]⟩ rcA=(⟨[rcA.it],[]⟩,0):=kX
def rcB:Rc:=VF 1 ⟨#[97]⟩ ⟨3,0,1,1,1,0⟩ (List.replicate 32 0) (List.replicate 32 0) 0
theorem LK:rcB.Ok:=⟨dX,dX,dX,dX,⟨dX,dX,dX,dX,dX,dX⟩,dX,dX,dX,dX,dX,dX⟩
theorem Ll:(Zw ⟨[rcA.it],[]⟩ rcB).2=10:=kX
theorem KQ:rcA.out.length=92:=kX
theorem LdM.powB{base:Nat}{w:World}{l:Nat}{V:LV}{P:LP}(h:LdM base w l V P)(hb:13<base):13≠V.B:=λe=>by
 have:=(h.lt V.B (.inr (.inr (.inr (.inr (.inl rfl)))))).1
 omega
theorem PR{base:Nat}{w:World}{l:Nat}{V:LV}{P:LP}(h:LdM base w l V P)(hb:base<=w.heap.size)(x:Rc)(hx:x.Ok)(l1:P.m.its.length<=1000)(l2:P.m.ens.length<=1000)(hub:∀ y∈P.m.its,y.u<=1000000/\y.r<=1000000)(ea:Nat->Addr)(H:Errs 298 Zq w ea)(hn:(Zw P.m x).2=0)(hk1:x.kind=1)
  (nn:Nat) (hG:Good P.p nn P.recs) (hnn:nn<=1000) (hmn:V.mn<=50000) (hpl : -200000<=P.p.l/\P.p.l<=200000) (hd:P.dead=false) (e:Nat->Addr) (hE:∀ W,Below base w W->DErr W e) (hK:ShaK w) (hF:ShaF w) (hKb:∀ W,Below base w W->ShaK W/\ShaF W) (hpw:13<base) (hfit:Zp P.recs+(34+x.out.length)<=64*nn) (h1o:1<=x.out.length) (h400:x.out.length<=400) (h2:P.n % 2=0) (hn2:P.n<=1000000) (hps:P.ps.length<=1000000) :
  Calls Tryz.prog 81 #[.pointer (some ⟨l,0,none⟩),.agg x.list.toArray] w (GE base w l V P nn (Zw P.m x).1 x.out (P.ps++[Yr x.out])):=by
 refine Da h hb x hx l1 l2 hub ea H hn nn _ (λW hW=>Wt x hx hk1 (H4 hn) ea W (H.below hW)) (λW a c hW hA hAo=>?_) (λW a c hW hf hA=>?_)
 ·have hWb:Below base w W:=hW.mono hb
  have hj:=(h.below hW).jd
  rw[hd] at hj
  have hlt:=λk hk=>(h.lt k hk).2
  exact Dr hj (Nat.le_trans hb hW.size) nn hG hnn hmn hpl e (h.powB hpw) (λW' hW'=>hE W' (hWb.trans hW')) (hKb W hWb).1 (hKb W hWb).2 x.out h1o h400 hfit a c hA (λb o s eq=>by
   obtain⟨q1,q2⟩:=hAo b o s eq
   exact⟨λhh=>by have:=hlt b (.inr (.inr (.inr (.inl hh))));omega,λhh=>by have:=hlt b (.inr (.inr (.inr (.inr hh))));omega,q2⟩)
 ·exact GK hf (Nat.le_trans hb hW.size) h2 hn2 hps a c x.out hA oX (hKb W hW).1 (hKb W hW).2
theorem Ha(w:World)(e:Nat->Addr)(hE:DErr w e)(hK:ShaK w)(hF:ShaF w)(ea:Nat->Addr)(H:Errs 298 Zq w ea):Calls Tryz.prog 7 #[] w λx w'=>x=.returned (.bool true)/\Below w.heap.size w w':=by
 have hfr:Calls Tryz.prog 21 #[.int .i64 20] w (Pa w 20):=P9 20 w dX dX e hE hK hF ea H
 replace hfr:=Hd hfr
 have hpw:13<w.heap.size:=World.block_lt_of_cell? w _ hE.power
 have hKb:∀ W,Below w.heap.size w W->ShaK W/\ShaF W:=λW hW=>⟨hK.below hW,hF.below hW⟩
 have hEb:∀ W,Below w.heap.size w W->DErr W e:=λW hW=>hE.below hW
 have hHb:∀ W,Below w.heap.size w W->Errs 298 Zq W ea:=λW hW=>H.below hW
 have hA1:=Hd (λ(w1:World) (l:Nat) (V:LV) (hb1:Below w.heap.size w w1) (h:LdM w.heap.size w1 l V (LP.new 20)) (hmn:V.mn<=20000)=>show Calls Tryz.prog 36 #[.pointer (some ⟨l,0,none⟩),.string ⟨#[97]⟩,.agg #[.int .i64 3,.int .i64 0,.int .i64 1,.int .i64 1,.int .i64 1,.int .i64 0],.agg #[.int .u8 0,.int .u8 0,.int .u8 0,.int .u8 0,.int .u8 0,.int .u8 0,.int .u8 0,.int .u8 0,.int .u8 0,.int .u8 0,.int .u8 0,.int .u8 0,.int .u8 0,.int .u8 0,.int .u8 0,.int .u8 0,.int .u8 0,.int .u8 0,.int .u8 0,.int .u8 0,.int .u8 0,.int .u8 0,.int .u8 0,.int .u8 0,.int .u8 0,.int .u8 0,.int .u8 0,.int .u8 0,.int .u8 0,.int .u8 0,.int .u8 0,.int .u8 0],.agg #[.int .u8 0,.int .u8 0,.int .u8 0,.int .u8 0,.int .u8 0,.int .u8 0,.int .u8 0,.int .u8 0,.int .u8 0,.int .u8 0,.int .u8 0,.int .u8 0,.int .u8 0,.int .u8 0,.int .u8 0,.int .u8 0,.int .u8 0,.int .u8 0,.int .u8 0,.int .u8 0,.int .u8 0,.int .u8 0,.int .u8 0,.int .u8 0,.int .u8 0,.int .u8 0,.int .u8 0,.int .u8 0,.int .u8 0,.int .u8 0,.int .u8 0,.int .u8 0],.int .i64 0] w1 (λe w'=>e=.returned (.tuple #[.int .i64 0,.nilIface])/\∃ W,Below w1.heap.size w1 W/\GE w.heap.size W l V (LP.new 20) 20 ⟨[rcA.it],[]⟩ rcA.out ([]++[Yr rcA.out]) (.returned .nilIface) w') from
  Dm h ⟨#[97]⟩ ⟨3,0,1,1,1,0⟩ (List.replicate 32 0) (List.replicate 32 0) 0 dX dX (λW e w'=>GE w.heap.size W l V (LP.new 20) 20 ⟨[rcA.it],[]⟩ rcA.out ([]++[Yr rcA.out]) e w') (λW e w' hq=>hq.1) (λW hW=>by
   have hbW:Below w.heap.size w W:=hb1.trans (hW.mono hb1.size)
   have:=PR (h.below hW) hbW.size rcA Dh dX dX (λy hy=>absurd hy List.not_mem_nil) ea (hHb W hbW) (by show (Zw ⟨[],[]⟩ rcA).2=0;rw[Hg]) rfl 20 (GV 20) dX oX ⟨by show (-200000:Int)<=0;decide,by show (0:Int)<=200000;decide⟩ rfl e (λW' hW'=>hEb W' (hbW.trans hW')) (hKb W hbW).1 (hKb W hbW).2 (λW' hW'=>hKb W' (hbW.trans hW')) hpw (by rw[KQ];decide) (by rw[KQ];decide) (by rw[KQ];decide) rfl dX dX
   rw[show (Zw (LP.new 20).m rcA).1=(⟨[rcA.it],[]⟩:St) from by show (Zw ⟨[],[]⟩ rcA).1=_;rw[Hg]] at this
   exact this))
 have hA2:=Hd (λ(w1:World) (l:Nat) (V:LV) (P:LP) (hb1:Below w.heap.size w w1) (h:LdM w.heap.size w1 l V P) (hm:P.m=⟨[rcA.it],[]⟩)=>show Calls Tryz.prog 36 #[.pointer (some ⟨l,0,none⟩),.string ⟨#[97]⟩,.agg #[.int .i64 3,.int .i64 0,.int .i64 1,.int .i64 1,.int .i64 1,.int .i64 0],.agg #[.int .u8 0,.int .u8 0,.int .u8 0,.int .u8 0,.int .u8 0,.int .u8 0,.int .u8 0,.int .u8 0,.int .u8 0,.int .u8 0,.int .u8 0,.int .u8 0,.int .u8 0,.int .u8 0,.int .u8 0,.int .u8 0,.int .u8 0,.int .u8 0,.int .u8 0,.int .u8 0,.int .u8 0,.int .u8 0,.int .u8 0,.int .u8 0,.int .u8 0,.int .u8 0,.int .u8 0,.int .u8 0,.int .u8 0,.int .u8 0,.int .u8 0,.int .u8 0],.agg #[.int .u8 0,.int .u8 0,.int .u8 0,.int .u8 0,.int .u8 0,.int .u8 0,.int .u8 0,.int .u8 0,.int .u8 0,.int .u8 0,.int .u8 0,.int .u8 0,.int .u8 0,.int .u8 0,.int .u8 0,.int .u8 0,.int .u8 0,.int .u8 0,.int .u8 0,.int .u8 0,.int .u8 0,.int .u8 0,.int .u8 0,.int .u8 0,.int .u8 0,.int .u8 0,.int .u8 0,.int .u8 0,.int .u8 0,.int .u8 0,.int .u8 0,.int .u8 0],.int .i64 0] w1 (λe w'=>∃ v,e=.returned (.tuple #[.int .i64 0,v])/\ErrIs ea w' v 10/\Below w1.heap.size w1 w') from
  Lz h ⟨#[97]⟩ ⟨3,0,1,1,1,0⟩ (List.replicate 32 0) (List.replicate 32 0) 0 dX dX ea 10 dX (λW hW=>by
   have hbW:Below w.heap.size w W:=hb1.trans (hW.mono hb1.size)
   have h2:(Zw P.m rcB).2=10:=by rw[hm];exact Ll
   have:=Lr (h.below hW) rcB LK (by rw[hm];decide) (by rw[hm];decide) (λy hy=>by rw[hm] at hy;rw[List.mem_singleton.1 hy];exact⟨dX,dX⟩) ea (hHb W hbW) (by rw[h2];decide)
   rw[h2] at this
   rw[hm]
   exact this))
 replace hHb:=Hd hHb
 clear hE hK hF H hpw hKb hEb
 go_enter Tryz.func7,Tryz.ntmps7
 go_wp2_with fail
 with_reducible refine hfr.out.mono ?_
 clear hfr
 rintro x w1 ⟨l,V,rfl,hL1,hmn1,hb1⟩
 obtain⟨w2,hw2⟩:∃ w2,w2=w1.alloc (.cells #[.int .i64 3,.int .i64 0,.int .i64 1,.int .i64 1,.int .i64 1,.int .i64 0] 45):=⟨_,rfl⟩
 have hG2:Below w1.heap.size w1 w2:=by rw[hw2];exact bR.alloc nR _
 have aP2:w2.heap[w1.heap.size]? = some (.cells #[.int .i64 3,.int .i64 0,.int .i64 1,.int .i64 1,.int .i64 1,.int .i64 0] 45 (0,0)):=by rw[hw2];exact heap_alloc_new w1 _
 have hB2:Below w.heap.size w w2:=hb1.trans (hG2.mono hb1.size)
 have hc1:=Hd (hA1.out w2 l V hB2 (hL1.below hG2) hmn1)
 have hlt:=Hd (λk (hk:LdD l V k)=>(hL1.lt k hk).2)
 have hL2:=Hd (hL1.below hG2)
 have iP:(Tryz.prog.info? 45).map (·.size)=some (#[.int .i64 3,.int .i64 0,.int .i64 1,.int .i64 1,.int .i64 1,.int .i64 0]:Array Value).size:=kX
 replace hw2:=Hd hw2
 replace aP2:=Hd aP2
 replace hB2:=Hd hB2
 clear hA1 hL1 hb1 hG2 hmn1
 go_wp2_with fail
 rw[<-hw2.out]
 with_reducible refine hc1.out.mono ?_
 clear hc1
 rintro x w3 ⟨rfl,W,hW,hput⟩
 obtain⟨-,V',p',hst,-,hVB,-,-,-,-,-,-⟩:=hput
 have hLW:=hL2.out.below hW
 have hBW:=hB2.out.trans (hW.mono hB2.out.size)
 have hB3:=hBW.trans (hst.below hLW hBW.size)
 have aP3:=Hd (hst.only.heap ((hW.block _ (Zb aP2.out)).trans aP2.out) (λhd=>by have:=hlt.out _ hd;omega))
 have hL3:=hst.ok
 have hc2:=Hd (hA2.out w3 l V' _ hB3 hL3 rfl)
 replace hL3:=Hd hL3
 replace hB3:=Hd hB3
 clear hst hLW hBW hW hA2
 go_wp2_with ((with_reducible refine wL (.load 45 (.tmp 3)) ?_);refine Ze rfl 45 (.tmp 3) rfl w1.heap.size #[.int .i64 3,.int .i64 0,.int .i64 1,.int .i64 1,.int .i64 1,.int .i64 0] _ rfl aP3 Tryz.underlying45 rfl iP ?_)
 with_reducible refine hc2.out.mono ?_
 clear hc2
 rintro x w4 ⟨v,rfl,hv,hb4⟩
 have hB4:=hB3.out.trans (hb4.mono hB3.out.size)
 have hL4:=Hd (hL3.out.below hb4)
 have hnum:=Hd (Ro hv (hHb.out w4 hB4))
 replace hB4:=Hd hB4
 clear hv hb4
 go_wp2_with fail
 with_reducible refine hnum.out.mono ?_
 clear hnum
 rintro x w5 ⟨rfl,hb5⟩
 have hB5:=Hd (hB4.out.trans (hb5.mono hB4.out.size))
 have hsp:=Hd (Rt (hL4.out.below hb5) (by show 1<=1000;decide) (by show 0<=1000;decide))
 clear hb5
 go_wp2_with fail
 with_reducible refine hsp.out.mono ?_
 clear hsp
 rintro x w6 ⟨v6,v6',rfl,hrI,hrE,hb6⟩
 obtain⟨a6,c6,hv6,_⟩:=hrI.form
 replace hv6:v6=.slice a6 1 c6:=hv6
 subst hv6
 obtain⟨a7,c7,hv7,_⟩:=hrE.form
 replace hv7:v6'=.slice a7 0 c7:=hv7
 subst hv7
 have hfd:∀ W,(Instr.field 28 (.agg #[.slice a6 1 c6,.slice a7 0 c7]) 0).run Tryz.prog W=.ok (.slice a6 1 c6) W:=λW=>by kernel_rfl
 have hB6:=Hd (hB5.out.trans (hb6.mono hB5.out.size))
 clear hb6 hrI hrE
 go_wp2_with fail
 go_ret
 exact⟨rfl,hB6.out⟩
section
variable {α:Type} {en:α->List Value} {e:TypeId} {size base:Nat} {w:World} {P:Program} {ops:Array Oper} {rest:List Oper} {o:Oper} {a:Act} {Q:Exit->Act->World->Prop} {K:Act->World->Prop}
theorem M5{g:Nat}{xs:List α}{ad:Option Addr}{c:Nat}(t ty:TypeId)(ht:P.underlying t=some (.slice e))(bytes:Nat)(hi:(P.info? e).map (λi=>(i.zero.map (·.cells.size),i.size,i.bytes))=some (some size,size,bytes))(hsz:0<size)
  (h:RowAt en size w ad xs) (hlen:∀ y∈xs,(en y).length=size) (hone:∀ y∈xs,∀ u∈en y,u.oneCell'=true) (hg:w.heap[g]? = some (.cells #[] e (0,0))) (hbg:base<=g) (hl:xs.length<=1000000) (hb8:bytes<=10000) :
  ∃ v' w',(Builtin.append_ #[t,t] ty #[.slice (some ⟨g,0,none⟩) 0 0,.slice ad xs.length c]).run P w=.ok v' w'/\w'.ownsRow base e size v' xs.length (xs.flatMap en)/\Only (λk=>k=g) w w'/\∀ k,v'.ownBlock=some k->k=g\/k=w.heap.size:=by
 obtain⟨ie,hie,h2⟩:=Option.map_eq_some_iff.1 hi
 simp only[Prod.mk.injEq] at h2
 obtain⟨hz,hs1,hby⟩:=h2
 obtain⟨z,hz1,hz2⟩:=Option.map_eq_some_iff.1 hz
 have hgl:=Zb hg
 have hown:=Tj (size:=size) hg hbg
 cases ad with
 | none=>
  have hx0:xs=[]:=by
   cases xs with
   | nil=>rfl
   | cons x xs=>obtain⟨b,o,e,_⟩:=h 0 sX;cases e
  subst hx0
  refine⟨_,w,?_,by simpa using hown,Only.refl _ _,λk hk=>.inl (by simpa[Value.ownBlock] using hk.symm)⟩
  simp[Builtin.append_,run_underlying ht,sizeOf,typeInfo,hie,Builtin.lenOf,Builtin.firstCells,storeCells]
 | some ad=>
  have hcells:∀ j u,(xs.flatMap en)[j]? = some u->w.cell? (ad.add j)=some u:=λj u hu=>by
   cases xs with
   | nil=>simp at hu
   | cons x0 xt=>
    obtain⟨b,o,e,_⟩:=h 0 sX
    cases e
    rw[Addr.add_mid]
    exact Vx hsz hlen (λk hk=>by obtain⟨b',o',e',h'⟩:=h k hk;cases e';exact h') j u hu
  obtain⟨v',w',hr,m1,m2,_,m4⟩:=run_append_own_at (P:=P) w base t ty e ie z size bytes ht hie hz1 hs1 hby hz2 hsz _ 0 [] hown ad xs.length c (xs.flatMap en) (Xu xs hlen) hcells (λu hu=>by
   obtain⟨y,hy,hu2⟩:=List.mem_flatMap.1 hu
   exact hone y hy u hu2) (by unfold maxLen;omega)
   (by rw[Nat.zero_add];exact Nat.le_trans (Nat.mul_le_mul hl hb8) dX) oX
  rw[Nat.zero_add,List.nil_append] at m1
  refine⟨v',w',hr,m1,Only.ofGrown m2 (λk hk=>by simpa[Value.ownBlock] using hk.symm),λk hk=>?_⟩
  rcases m4 with m4|m4
  ·rw[m4] at hk;exact .inl (by simpa[Value.ownBlock] using hk.symm)
  ·rw[m4] at hk;exact .inr (by simpa using hk.symm)
theorem UR{g:Nat}{xs:List α}{ad:Option Addr}{c N:Nat}(s x:Operand)(t:TypeId)(ho:o.op=.call { callee:=.builtin .append,args:=#[s,x],argTypes:=#[t,t] })
  (ht:P.underlying t=some (.slice e)) (bytes:Nat) (hi:(P.info? e).map (λi=>(i.zero.map (·.cells.size),i.size,i.bytes))=some (some size,size,bytes)) (hsz:0<size)
  (hx:a.eval x=.slice ad N c) (hN:xs.length=N) (h:Hid (RowAt en size w ad xs)) (hlen:Hid (∀ y∈xs,(en y).length=size)) (hone:Hid (∀ y∈xs,∀ u∈en y,u.oneCell'=true))
  (hs:a.eval s=.slice (some ⟨g,0,none⟩) 0 0) (hg:Hid (w.heap[g]? = some (.cells #[] e (0,0)))) (hbg:base<=g) (hl:xs.length<=1000000) (hb8:bytes<=10000)
  (hK:∀ v' w',Hid (w'.ownsRow base e size v' xs.length (xs.flatMap en))->Hid (Only (λk=>k=g) w w')->Hid (∀ k,v'.ownBlock=some k->k=g\/k=w.heap.size)->K (a.put o.dst v') w'):o.wp P a w K Q:=by
 subst hN
 obtain⟨v',w',hr,k1,k2,k3⟩:=M5 (c:=c) (base:=base) t o.type ht bytes hi hsz h.out hlen.out hone.out hg.out hbg hl hb8
 unfold Oper.wp execOp
 simp only[ho,resolve,invoke,builtin,Sem.run_bind,Sem.run_pure,Result.andThen_ok,List.map_toArray,List.map_cons,List.map_nil,hs,hx,hr]
 exact hK v' w' (Hd k1) (Hd k2) (Hd k3)
end
def Z6(m:St)(n:Nat)(w:World)(e:Ending)(w':World):Prop:=∃ vm,e=.returned (.tuple #[vm,.int .i64 (n:Int)])/\ArgS w' vm m/\Below w.heap.size w w'/\FreshS w.heap.size vm
section
variable {α β:Type} {R:World->(Nat->Prop)->α->List Value->Prop} {R':World->(Nat->Prop)->β->List Value->Prop} {e e' t:TypeId} {size size' base base' k b:Nat} {w:World} {F F':Nat->Prop} {v v':Value} {ps:List α} {qs:List β}
theorem Kx(h:RowsOf R e size base w F v ps)(hk:v.ownBlock=some k):∃ c,w.heap[k]? = some (.cells c e (0,0)):=by
 obtain⟨⟨css,k1,k2,k3⟩,k4,k5⟩:=h
 rcases k2.2 with ⟨rfl,h0⟩|⟨g0,cap,cur,rfl,hb0,hh,_⟩
 ·simp[Value.ownBlock] at hk
 ·have:g0=k:=by simpa[Value.ownBlock] using hk
  subst this
  exact⟨_,hh⟩
theorem J8{a:Nat}{c c':Array Value}{f f':Nat×Nat}(h:w.heap[a]? = some (.cells c e f))(h':w.heap[b]? = some (.cells c' t f'))(ht:e≠t):a≠b:=λq=>by
 rw[q,h'] at h
 injection h with h
 injection h with _ h5 _
 exact ht h5.symm
theorem Xh{c':Array Value}{f':Nat×Nat}(h:RowsOf R e size base w F v ps)(hk:v.ownBlock=some k)(h':w.heap[b]? = some (.cells c' t f'))(ht:e≠t):k≠b:=by
 obtain⟨c,hc⟩:=Kx h hk
 exact J8 hc h' ht
theorem T5(h:RowsOf R e size base w F v ps)(h':RowsOf R' e' size' base' w F' v' qs)(ht:e≠e'):∀ k,v.ownBlock=some k->v'.ownBlock≠some k:=λk hk hk'=>by
 obtain⟨c,hc⟩:=Kx h' hk'
 exact Xh h hk hc ht rfl
end
structure Cp21 (m:St) (B:Nat) (wx:World) (g:Nat) (vI vE:Value):Prop where
 at_:wx.heap[g]? = some (.cells #[vI,vE] 36 (0,0))
 le:B<=g
 ri:RowsOf RI 63 76 B wx (λ_=>False) vI m.its
 re:RowsOf RE 105 7 B wx (λ_=>False) vE m.ens
theorem H5{ns:List It}{s:ByteArray}{i:Nat}(hi:i<ns.length)(h:ns[i].s=s):(ZS ns s).2=true:=by
 unfold ZS
 cases hf:ns.findIdx? (λx=>decide (x.s=s)) with
 | none=>
  have:=List.findIdx?_eq_none_iff.1 hf _ (List.getElem_mem hi)
  simp[h] at this
 | some i=>rfl
theorem Vi{ns:List It}{s:ByteArray}(h:∀ i (hi:i<ns.length),ns[i].s≠s):(ZS ns s).2=false:=by
 unfold ZS
 have hf:ns.findIdx? (λx=>decide (x.s=s))=none:=by
  rw[List.findIdx?_eq_none_iff]
  intro x hx
  obtain⟨i,hi,rfl⟩:=List.getElem_of_mem hx
  exact decide_eq_false (h i hi)
 rw[hf]
theorem Pl(a b c d e:Int)(W:World):(Instr.build 105 #[(0,.int .i64 a),(1,.int .i64 b),(2,.int .i64 c),(3,.int .i64 d),(4,.int .i64 e),(5,.int .i64 0),(6,.int .i64 0)]).run Tryz.prog W=.ok (.agg (⟨a,b,c,d,e,0,0⟩:En).list.toArray) W:=by
 refine run_build W _ _ _ ?_
 kernel_rfl
def WR(m:St)(vo:Int)(fm:St×Nat):Prop:=
 ((m.its.length:Int)<=vo->fm=(⟨[],[]⟩,11))/\(∀ i (hi:i<m.its.length),vo=(i:Int)->m.its[i].k=true->fm=(⟨[],[]⟩,13))/\
 (∀ i (hi:i<m.its.length),vo=(i:Int)->m.its[i].k=false->fm=(⟨m.its.set i { m.its[i] with k:=true },m.ens⟩,0))
def Hp(m:St)(vo vi vv vt:Int)(fm:St×Nat):Prop:=
 ((m.ens.length:Int)<=vi->fm=(⟨[],[]⟩,11))/\(∀ i (hi:i<m.ens.length),vi=(i:Int)->m.ens[i].o≠vo->fm=(⟨[],[]⟩,11))/\
 (∀ i (hi:i<m.ens.length),vi=(i:Int)->m.ens[i].o=vo->m.ens[i].v≠0->fm=(⟨[],[]⟩,13))/\
 (∀ i (hi:i<m.ens.length),vi=(i:Int)->m.ens[i].o=vo->m.ens[i].v=0->fm=(⟨m.its,m.ens.set i { m.ens[i] with v:=vv,a:=vt }⟩,0))
def Hs(m:St)(vo:Int)(vn:ByteArray)(IT:It)(fm:St×Nat):Prop:=
 (∀ i (hi:i<m.its.length),m.its[i].s=vn->fm=(⟨[],[]⟩,10))/\((∀ i (hi:i<m.its.length),m.its[i].s≠vn)->4<=m.its.length->fm=(⟨[],[]⟩,12))/\
 ((∀ i (hi:i<m.its.length),m.its[i].s≠vn)->m.its.length<4->vo≠(m.its.length:Int)->fm=(⟨[],[]⟩,4))/\
 ((∀ i (hi:i<m.its.length),m.its[i].s≠vn)->m.its.length<4->vo=(m.its.length:Int)->fm=(⟨m.its++[IT],m.ens⟩,0))
def Rx(m:St)(vo vi vw vx vt:Int)(fm:St×Nat):Prop:=
 ((m.its.length:Int)<=vo->fm=(⟨[],[]⟩,11))/\(∀ i (hi:i<m.its.length),vo=(i:Int)->m.its[i].k=false->fm=(⟨[],[]⟩,13))/\
 (vw=2->∀ i (hi:i<m.its.length),vo=(i:Int)->m.its[i].k=true->¬m.its[i].u<m.its[i].p.n->fm=(⟨[],[]⟩,18))/\
 (vw=2->∀ i (hi:i<m.its.length),vo=(i:Int)->m.its[i].k=true->m.its[i].u<m.its[i].p.n->(vi≠(m.ens.length:Int)\/vx≠m.its[i].u)->fm=(⟨[],[]⟩,4))/\
 (vw=2->∀ i (hi:i<m.its.length),vo=(i:Int)->m.its[i].k=true->m.its[i].u<m.its[i].p.n->vi=(m.ens.length:Int)->vx=m.its[i].u->fm=(⟨m.its.set i { m.its[i] with u:=m.its[i].u+1 },m.ens++[⟨vi,vo,vw,vx,vt,0,0⟩]⟩,0))/\
 (vw≠2->∀ i (hi:i<m.its.length),vo=(i:Int)->m.its[i].k=true->(vi≠(m.ens.length:Int)\/vx≠m.its[i].r)->fm=(⟨[],[]⟩,4))/\
 (vw≠2->∀ i (hi:i<m.its.length),vo=(i:Int)->m.its[i].k=true->vi=(m.ens.length:Int)->vx=m.its[i].r->fm=(⟨m.its.set i { m.its[i] with r:=m.its[i].r+1 },m.ens++[⟨vi,vo,vw,vx,vt,0,0⟩]⟩,0))
theorem Jc{m:St}{x:Rc}(hc:x.chk=0):Zw m x=if x.kind=1 then Yz m x else if x.kind=2 then Xb m x else if x.kind=4 then XG m x else Yw m x:=by
 unfold Zw
 rw[if_neg (by rw[hc];decide)]
theorem Ys{α:Type}{l:List α}{i:Nat}(d:α)(hi:i<l.length):l.getD i d=l[i]:=by rw[List.getD_eq_getElem?_getD,List.getElem?_eq_getElem hi,Option.getD_some]
theorem Dy(m:St)(x:Rc)(h0:0<=x.obj):WR m x.obj (XG m x):=by
 unfold XG
 refine⟨λh=>by rw[if_pos (.inr h)],λi hi h hk=>?_,λi hi h hk=>?_⟩
 ·rw[if_neg oX,h,Int.toNat_natCast,Ys _ hi,if_pos hk]
 ·rw[if_neg oX,h,Int.toNat_natCast,Ys _ hi,if_neg (by rw[hk];decide)]
theorem Lh(m:St)(x:Rc)(h0:0<=x.id):Hp m x.obj x.id x.verdict x.tick (Yw m x):=by
 unfold Yw
 refine⟨λh=>by rw[if_pos (.inr h)],λi hi h hk=>?_,λi hi h hk hv=>?_,λi hi h hk hv=>?_⟩
 ·rw[if_neg oX,h,Int.toNat_natCast,Ys _ hi,if_pos hk]
 ·rw[if_neg oX,h,Int.toNat_natCast,Ys _ hi,if_neg (λe=>e hk),if_pos hv]
 ·rw[if_neg oX,h,Int.toNat_natCast,Ys _ hi,if_neg (λe=>e hk),if_neg (λe=>e hv)]
theorem Lm(m:St)(x:Rc):Hs m x.obj x.name x.it (Yz m x):=by
 unfold Yz
 refine⟨λi hi h=>by rw[if_pos (H5 hi h)],λh h2=>?_,λh h2 h3=>?_,λh h2 h3=>?_⟩
 ·rw[if_neg (by rw[Vi h];decide),if_pos h2]
 ·rw[if_neg (by rw[Vi h];decide),if_neg oX,if_pos h3]
 ·rw[if_neg (by rw[Vi h];decide),if_neg oX,if_neg oX]
theorem De(m:St)(x:Rc)(h0:0<=x.obj):Rx m x.obj x.id x.way x.index x.tick (Xb m x):=by
 unfold Xb
 have n2:∀ y:It,x.way=2->ZY y x.way=(y.u,decide (y.u<y.p.n)):=λy hw=>by unfold ZY;rw[if_pos hw]
 have n1:∀ y:It,x.way≠2->ZY y x.way=(y.r,true):=λy hw=>by unfold ZY;rw[if_neg hw]
 have u2:∀ y:It,x.way=2->JU y x.way={ y with u:=y.u+1 }:=λy hw=>by unfold JU;rw[if_pos hw]
 have u1:∀ y:It,x.way≠2->JU y x.way={ y with r:=y.r+1 }:=λy hw=>by unfold JU;rw[if_neg hw]
 refine⟨λh=>by rw[if_pos (.inr h)],λi hi h hk=>?_,λhw i hi h hk hu=>?_,λhw i hi h hk hu hh=>?_,λhw i hi h hk hu h4 h5=>?_,λhw i hi h hk hh=>?_,λhw i hi h hk h4 h5=>?_⟩
 ·rw[if_neg oX,h,Int.toNat_natCast,Ys _ hi,if_pos hk]
 ·rw[if_neg oX,h,Int.toNat_natCast,Ys _ hi,if_neg (by rw[hk];decide),n2 _ hw,if_pos (by simpa using hu)]
 ·rw[if_neg oX,h,Int.toNat_natCast,Ys _ hi,if_neg (by rw[hk];decide),n2 _ hw,if_neg (by simpa using hu),if_pos hh]
 ·rw[if_neg oX,h,Int.toNat_natCast,Ys _ hi,if_neg (by rw[hk];decide),n2 _ hw,if_neg (by simpa using hu),if_neg (by rintro(q|q);exact q h4;exact q h5),u2 _ hw]
 ·rw[if_neg oX,h,Int.toNat_natCast,Ys _ hi,if_neg (by rw[hk];decide),n1 _ hw,if_neg sX,if_pos hh]
 ·rw[if_neg oX,h,Int.toNat_natCast,Ys _ hi,if_neg (by rw[hk];decide),n1 _ hw,if_neg sX,if_neg (by rintro(q|q);exact q h4;exact q h5),u1 _ hw]
end Go.Proofs.YtpdhceiodgnbmaaGreatDoor
