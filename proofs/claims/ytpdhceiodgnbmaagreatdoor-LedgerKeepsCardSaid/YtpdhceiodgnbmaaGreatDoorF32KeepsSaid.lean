import Derived.Test.YtpdhceiodgnbmaaGreatDoorF31KeepsSaid
import Derived.Test.YtpdhceiodgnbmaaGreatDoorF30KeepsSaid
set_option linter.all false
set_option maxRecDepth 100000
set_option maxHeartbeats 8000000
namespace Go.Proofs.YtpdhceiodgnbmaaGreatDoor
open Go.RowKit
def y9(base:Nat)(Q:World->Value->World->Prop)(w:World)(e:Ending)(w':World):Prop:=∃ (k:Nat) (W:World) (v:Value) (w1:World),e=.returned (.int .i64 (k:Int))/\Below w.heap.size w W/\Q W v w1/\Below w1.heap.size w1 w'/\((k=0/\v=.nilIface)\/(k≠0/\Nt v))
theorem FP{base:Nat}{v:Value}{w w':World}(h:v=.nilIface\/fP base v w)(hb:Below w.heap.size w w')(hB:base<=w.heap.size):Calls Tryz.prog 10 #[v] w' λe w2=>∃ k:Nat,e=.returned (.int .i64 (k:Int))/\Below w'.heap.size w' w2/\((k=0/\v=.nilIface)\/(k≠0/\Nt v)):=by
 rcases h with rfl|h
 ·refine(NW w').mono ?_;rintro e w2 ⟨rfl,rfl⟩;exact⟨0,rfl,Below.refl _ _,.inl ⟨rfl,rfl⟩⟩
 ·refine(h.2 w' (gJ.ofBelow hb hB)).mono ?_;rintro e w2 ⟨k,hk,_,rfl,hb⟩;exact⟨k,rfl,hb,.inr ⟨hk,h.1⟩⟩
theorem Cp{base:Nat}{v:Value}{w:World}(h:v=.nilIface\/fP base v w):Calls Tryz.prog 10 #[v] w λe w'=>∃ k:Nat,e=.returned (.int .i64 (k:Int))/\Below w.heap.size w w'/\((k=0/\v=.nilIface)\/(k≠0/\Nt v)):=by
 rcases h with rfl|h
 ·refine(NW w).mono ?_;rintro e w' ⟨rfl,rfl⟩;exact⟨0,rfl,Below.refl _ _,.inl ⟨rfl,rfl⟩⟩
 ·refine(h.2 w (gJ.refl _ _)).mono ?_;rintro e w' ⟨k,hk,_,rfl,hb⟩;exact⟨k,rfl,hb,.inr ⟨hk,h.1⟩⟩
theorem EH{base:Nat}{w:World}(l:Nat)(x:aY)(hx:x.Ok)(hk:x.kind=0)(Q:World->Value->World->Prop)(hc:∀ W,Below w.heap.size w W->Calls Tryz.prog 36 #[.pointer (some ⟨l,0,none⟩),.string x.name,.agg x.p.list.toArray,.agg (cB x.t1).toArray,.agg (cB x.t2).toArray,.int .i64 x.tick] W (IV base EY Q W)) :
  Calls Tryz.prog 24 #[.pointer (some ⟨l,0,none⟩),.agg x.list.toArray] w (y9 base Q w):=by
 obtain⟨w1,hw1⟩:∃ w1,w1=w.alloc (.cells x.list.toArray 80):=⟨_,rfl⟩;have hB:Below w.heap.size w w1:=by rw[hw1];exact bR.alloc nZ _
 have aX:w1.heap[w.heap.size]? = some (.cells x.list.toArray 80 (0,0)):=by rw[hw1];exact heap_alloc_new w _
 have q0:w1.cell? ⟨w.heap.size,0,none⟩=some (.int .i64 x.kind):=by rw[Za aX,List.getElem?_toArray];exact x.c0
 have q1:w1.cell? ⟨w.heap.size,1,none⟩=some (.int .i64 x.obj):=by rw[Za aX,List.getElem?_toArray];exact x.c1
 have q2:w1.cell? ⟨w.heap.size,2,none⟩=some (.int .i64 x.way):=by rw[Za aX,List.getElem?_toArray];exact x.c2
 have q3:w1.cell? ⟨w.heap.size,3,none⟩=some (.int .i64 x.id):=by rw[Za aX,List.getElem?_toArray];exact x.c3
 have q4:w1.cell? ⟨w.heap.size,4,none⟩=some (.int .i64 x.verdict):=by rw[Za aX,List.getElem?_toArray];exact x.c4
 have q5:w1.cell? ⟨w.heap.size,5,none⟩=some (.int .i64 x.tick):=by rw[Za aX,List.getElem?_toArray];exact x.c5
 have q7:w1.cell? ⟨w.heap.size,7,none⟩=some (.string x.name):=by rw[Za aX,List.getElem?_toArray];exact x.c7
 have pu:=Hd (Qm aX (o:=8) (n:=6) x.sub_p);have hr1:=Hd (Qm aX (o:=14) (n:=32) (aY.sub_1 hx.t1));have hr2:=Hd (Qm aX (o:=46) (n:=32) (aY.sub_2 hx.t1 hx.t2));have iP:(Tryz.prog.info? 45).map (·.size)=some x.p.list.length:=kX;have i1:(Tryz.prog.info? 46).map (·.size)=some (cB x.t1).length:=by rw[Zc,hx.t1];kernel_rfl
 have i2:(Tryz.prog.info? 46).map (·.size)=some (cB x.t2).length:=by rw[Zc,hx.t2];kernel_rfl
 have hcw:=hc w1 hB;obtain⟨PA,qF⟩:=aA x.p.list.toArray;obtain⟨RA,xI⟩:∃ RA,RA=(cB x.t1).toArray:=⟨_,rfl⟩;obtain⟨FA,xJ⟩:∃ FA,FA=(cB x.t2).toArray:=⟨_,rfl⟩;rw[<-qF,<-xI,<-xJ] at hcw;rw[hk] at q0;replace hcw:=Hd hcw;replace qF:=Hd qF;replace xI:=Hd xI;replace xJ:=Hd xJ;replace hx:=Hd hx;clear hc aX hk;obtain⟨XX,mK⟩:=aA x.list.toArray;rw[<-mK] at hw1;generalize x.obj=vo at*;generalize x.way=vw at*;generalize x.id=vi at*;generalize x.verdict=vv at*;generalize x.tick=vt at*;generalize x.name=vn at*;rw[<-mK];replace hw1:=Hd hw1;replace mK:=Hd mK;replace hB:=Hd hB;go_enter Tryz.func24,Tryz.ntmps24;go_upto_region 1 with fail;rw[<-hw1.out];go_wp2_with (first
  | ((with_reducible refine wL (.load 45 (.tmp 17)) ?_);refine Zx rfl 45 (.tmp 17) rfl w.heap.size 8 rfl x.p.list _ pu.out Tryz.underlying45 rfl iP PA qF ?_)
  | ((with_reducible refine wL (.load 46 (.tmp 20)) ?_);refine Zx rfl 46 (.tmp 20) rfl w.heap.size 14 rfl (cB x.t1) _ hr1.out Tryz.underlying46 rfl i1 RA xI ?_)
  | ((with_reducible refine wL (.load 46 (.tmp 23)) ?_);refine Zx rfl 46 (.tmp 23) rfl w.heap.size 46 rfl (cB x.t2) _ hr2.out Tryz.underlying46 rfl i2 FA xJ ?_))
 with_reducible refine hcw.out.mono ?_
 clear hcw;rintro e w6 ⟨WW,u,v,mP,rfl,⟨n,rfl⟩,hv,hq⟩;have hnm:=Hd (Cp hv);replace hq:=Hd hq;replace mP:=Hd (hB.out.trans (mP.mono hB.out.size));clear hv;go_wp2_with fail;with_reducible refine hnm.out.mono ?_
 clear hnm;rintro e w7 ⟨k,rfl,bV,kg⟩;replace bV:=Hd bV;replace kg:=Hd kg;go_wp2_with fail;go_ret;exact⟨k,_,_,_,rfl,mP.out,hq.out,bV.out,kg.out⟩
theorem H0{base:Nat}{w:World}(l:Nat)(x:aY)(hk:x.kind=1)(Q:World->Value->World->Prop)(hc:∀ W,Below w.heap.size w W->Calls Tryz.prog 54 #[.pointer (some ⟨l,0,none⟩),.int .i64 x.obj,.int .i64 x.way,.int .i64 x.tick] W (IV base OJ Q W))(hQs:∀ W v w',Q W v w'->base<=w'.heap.size) :
  Calls Tryz.prog 24 #[.pointer (some ⟨l,0,none⟩),.agg x.list.toArray] w (y9 base Q w):=by
 obtain⟨w1,hw1⟩:∃ w1,w1=w.alloc (.cells x.list.toArray 80):=⟨_,rfl⟩;have hB:Below w.heap.size w w1:=by rw[hw1];exact bR.alloc nZ _
 have aX:w1.heap[w.heap.size]? = some (.cells x.list.toArray 80 (0,0)):=by rw[hw1];exact heap_alloc_new w _
 have q0:w1.cell? ⟨w.heap.size,0,none⟩=some (.int .i64 x.kind):=by rw[Za aX,List.getElem?_toArray];exact x.c0
 have q1:w1.cell? ⟨w.heap.size,1,none⟩=some (.int .i64 x.obj):=by rw[Za aX,List.getElem?_toArray];exact x.c1
 have q2:w1.cell? ⟨w.heap.size,2,none⟩=some (.int .i64 x.way):=by rw[Za aX,List.getElem?_toArray];exact x.c2
 have q3:w1.cell? ⟨w.heap.size,3,none⟩=some (.int .i64 x.id):=by rw[Za aX,List.getElem?_toArray];exact x.c3
 have q4:w1.cell? ⟨w.heap.size,4,none⟩=some (.int .i64 x.verdict):=by rw[Za aX,List.getElem?_toArray];exact x.c4
 have q5:w1.cell? ⟨w.heap.size,5,none⟩=some (.int .i64 x.tick):=by rw[Za aX,List.getElem?_toArray];exact x.c5
 have q7:w1.cell? ⟨w.heap.size,7,none⟩=some (.string x.name):=by rw[Za aX,List.getElem?_toArray];exact x.c7
 have hcw:=hc w1 hB;rw[hk] at q0;replace hcw:=Hd hcw;clear hc aX hk;obtain⟨XX,mK⟩:=aA x.list.toArray;rw[<-mK] at hw1;generalize x.obj=vo at*;generalize x.way=vw at*;generalize x.id=vi at*;generalize x.verdict=vv at*;generalize x.tick=vt at*;generalize x.name=vn at*;rw[<-mK];replace hw1:=Hd hw1;replace mK:=Hd mK;replace hB:=Hd hB;go_enter Tryz.func24,Tryz.ntmps24;go_upto_region 1 with fail;rw[<-hw1.out];go_wp2_with fail;with_reducible refine hcw.out.mono ?_
 clear hcw;rintro e w6 ⟨WW,u,v,mP,rfl,⟨y,rfl⟩,hv,hq⟩;obtain⟨YA,OL⟩:=aA y.list.toArray;have iY:(Tryz.prog.info? 66).map (·.size)=some YA.size:=by rw[OL];kernel_rfl
 have sY:(#[.int .i64 0,.int .i64 0,.int .i64 0,.int .i64 0,.int .i64 0,.int .i64 0,.int .i64 0]:Array Value).size=YA.size:=by rw[OL];rfl
 have h1Y:YA.all (·.oneCell')=true:=by rw[OL];exact Go.Proofs.YtpdhceiodgnbmaaGreatDoor.all_one (En.list_one _)
 rw[<-OL];have qM:=Hd (heap_alloc_new w6 (.cells #[.int .i64 0,.int .i64 0,.int .i64 0,.int .i64 0,.int .i64 0,.int .i64 0,.int .i64 0] 66));have hsz6:=Hd (hQs _ _ _ hq);replace OL:=Hd OL;replace hv:=Hd hv;replace hq:=Hd hq;replace mP:=Hd (hB.out.trans (mP.mono hB.out.size));go_wp2_with ((with_reducible refine wL (.store 66 (.tmp 7) _) ?_);(refine Zd rfl 66 (.tmp 7) (.tmp 43) rfl w6.heap.size _ YA rfl rfl qM iY sY h1Y ?_);intro w9 au;have jf:=Hd (show Below w6.heap.size w6 w9 from(Below.alloc (Below.refl w6.heap.size w6) nZ _).trans (au.out.below nZ)));have hnm:=Hd (FP hv.out jf.out hsz6.out);with_reducible refine hnm.out.mono ?_
 clear hnm;rintro e w7 ⟨k,rfl,bV,kg⟩;have hb76:=Hd (jf.out.trans (bV.mono jf.out.size));replace kg:=Hd kg;clear bV;go_wp2_with fail;go_ret;exact⟨k,_,_,_,rfl,mP.out,hq.out,hb76.out,kg.out⟩
theorem Ej{base:Nat}{w:World}(l:Nat)(x:aY)(hk:x.kind=4)(Q:World->Value->World->Prop)(hc:∀ W,Below w.heap.size w W->Calls Tryz.prog 55 #[.pointer (some ⟨l,0,none⟩),.int .i64 x.obj,.int .i64 x.tick] W (PQR base Q W)) :
  Calls Tryz.prog 24 #[.pointer (some ⟨l,0,none⟩),.agg x.list.toArray] w (y9 base Q w):=by
 obtain⟨w1,hw1⟩:∃ w1,w1=w.alloc (.cells x.list.toArray 80):=⟨_,rfl⟩;have hB:Below w.heap.size w w1:=by rw[hw1];exact bR.alloc nZ _
 have aX:w1.heap[w.heap.size]? = some (.cells x.list.toArray 80 (0,0)):=by rw[hw1];exact heap_alloc_new w _
 have q0:w1.cell? ⟨w.heap.size,0,none⟩=some (.int .i64 x.kind):=by rw[Za aX,List.getElem?_toArray];exact x.c0
 have q1:w1.cell? ⟨w.heap.size,1,none⟩=some (.int .i64 x.obj):=by rw[Za aX,List.getElem?_toArray];exact x.c1
 have q2:w1.cell? ⟨w.heap.size,2,none⟩=some (.int .i64 x.way):=by rw[Za aX,List.getElem?_toArray];exact x.c2
 have q3:w1.cell? ⟨w.heap.size,3,none⟩=some (.int .i64 x.id):=by rw[Za aX,List.getElem?_toArray];exact x.c3
 have q4:w1.cell? ⟨w.heap.size,4,none⟩=some (.int .i64 x.verdict):=by rw[Za aX,List.getElem?_toArray];exact x.c4
 have q5:w1.cell? ⟨w.heap.size,5,none⟩=some (.int .i64 x.tick):=by rw[Za aX,List.getElem?_toArray];exact x.c5
 have q7:w1.cell? ⟨w.heap.size,7,none⟩=some (.string x.name):=by rw[Za aX,List.getElem?_toArray];exact x.c7
 have hcw:=hc w1 hB;rw[hk] at q0;replace hcw:=Hd hcw;clear hc aX hk;obtain⟨XX,mK⟩:=aA x.list.toArray;rw[<-mK] at hw1;generalize x.obj=vo at*;generalize x.way=vw at*;generalize x.id=vi at*;generalize x.verdict=vv at*;generalize x.tick=vt at*;generalize x.name=vn at*;rw[<-mK];replace hw1:=Hd hw1;replace mK:=Hd mK;replace hB:=Hd hB;go_enter Tryz.func24,Tryz.ntmps24;go_upto_region 1 with fail;rw[<-hw1.out];go_wp2_with fail;with_reducible refine hcw.out.mono ?_
 clear hcw;rintro e w6 ⟨WW,mP,v,rfl,hv,hq⟩;have hnm:=Hd (Cp hv);replace hq:=Hd hq;replace mP:=Hd (hB.out.trans (mP.mono hB.out.size));clear hv;go_wp2_with fail;with_reducible refine hnm.out.mono ?_
 clear hnm;rintro e w7 ⟨k,rfl,bV,kg⟩;replace bV:=Hd bV;replace kg:=Hd kg;go_wp2_with fail;go_ret;exact⟨k,_,_,_,rfl,mP.out,hq.out,bV.out,kg.out⟩
theorem Hx{base:Nat}{w:World}(l:Nat)(x:aY)(hk0:x.kind≠0)(hk1:x.kind≠1)(hk4:x.kind≠4)(Q:World->Value->World->Prop)(hc:∀ W,Below w.heap.size w W->Calls Tryz.prog 56 #[.pointer (some ⟨l,0,none⟩),.int .i64 x.id,.int .i64 x.verdict,.int .i64 x.tick] W (PQR base Q W)) :
  Calls Tryz.prog 24 #[.pointer (some ⟨l,0,none⟩),.agg x.list.toArray] w (y9 base Q w):=by
 obtain⟨w1,hw1⟩:∃ w1,w1=w.alloc (.cells x.list.toArray 80):=⟨_,rfl⟩;have hB:Below w.heap.size w w1:=by rw[hw1];exact bR.alloc nZ _
 have aX:w1.heap[w.heap.size]? = some (.cells x.list.toArray 80 (0,0)):=by rw[hw1];exact heap_alloc_new w _
 have q0:w1.cell? ⟨w.heap.size,0,none⟩=some (.int .i64 x.kind):=by rw[Za aX,List.getElem?_toArray];exact x.c0
 have q1:w1.cell? ⟨w.heap.size,1,none⟩=some (.int .i64 x.obj):=by rw[Za aX,List.getElem?_toArray];exact x.c1
 have q2:w1.cell? ⟨w.heap.size,2,none⟩=some (.int .i64 x.way):=by rw[Za aX,List.getElem?_toArray];exact x.c2
 have q3:w1.cell? ⟨w.heap.size,3,none⟩=some (.int .i64 x.id):=by rw[Za aX,List.getElem?_toArray];exact x.c3
 have q4:w1.cell? ⟨w.heap.size,4,none⟩=some (.int .i64 x.verdict):=by rw[Za aX,List.getElem?_toArray];exact x.c4
 have q5:w1.cell? ⟨w.heap.size,5,none⟩=some (.int .i64 x.tick):=by rw[Za aX,List.getElem?_toArray];exact x.c5
 have q7:w1.cell? ⟨w.heap.size,7,none⟩=some (.string x.name):=by rw[Za aX,List.getElem?_toArray];exact x.c7
 have hcw:=hc w1 hB;have t0:(x.kind==0)=false:=by simpa using hk0
 have t1:(x.kind==1)=false:=by simpa using hk1
 have t4:(x.kind==4)=false:=by simpa using hk4
 replace hcw:=Hd hcw;clear hc aX hk0 hk1 hk4;obtain⟨XX,mK⟩:=aA x.list.toArray;rw[<-mK] at hw1;generalize x.kind=vk at*;generalize x.obj=vo at*;generalize x.way=vw at*;generalize x.id=vi at*;generalize x.verdict=vv at*;generalize x.tick=vt at*;generalize x.name=vn at*;rw[<-mK];replace hw1:=Hd hw1;replace mK:=Hd mK;replace hB:=Hd hB;go_enter Tryz.func24,Tryz.ntmps24;go_upto_region 1 with fail;rw[<-hw1.out];go_wp2_with fail;with_reducible refine hcw.out.mono ?_
 clear hcw;rintro e w6 ⟨WW,mP,v,rfl,hv,hq⟩;have hnm:=Hd (Cp hv);replace hq:=Hd hq;replace mP:=Hd (hB.out.trans (mP.mono hB.out.size));clear hv;go_wp2_with fail;with_reducible refine hnm.out.mono ?_
 clear hnm;rintro e w7 ⟨k,rfl,bV,kg⟩;replace bV:=Hd bV;replace kg:=Hd kg;go_wp2_with fail;go_ret;exact⟨k,_,_,_,rfl,mP.out,hq.out,bV.out,kg.out⟩
def iU(base:Nat)(w:World)(l:Nat)(V:LV)(P:LP)(m':St)(ps':List (List UInt8))(RO RB:fq)(W:World)(v:Value)(w':World):Prop:=
 ∃ V' p' bF ah aj,(V'.J=V.J/\V'.B=V.B/\V'.mb=V.mb/\V'.f=V.f)/\(∀ k,kZ l V' k->kZ l V k\/W.heap.size<=k)/\
  ((v=.nilIface/\RO V'.mn p' bF ah aj/\ae base w w' l V V' ⟨p',bF,ah,aj,P.n+1,ps',m'⟩)\/
  (fP base v w'/\RB V'.mn p' bF ah aj/\ae base w w' l V V' ⟨p',bF,ah,aj,P.n,P.ps,P.m⟩))
section
variable {base l:Nat} {w W w1 w2:World} {V:LV} {P:LP} {m':St} {ps':List (List UInt8)} {RO RB:fq} {v:Value}
theorem iU.size(h:iU base w l V P m' ps' RO RB W v w1):w.heap.size<=w1.heap.size:=by
 obtain⟨V',p',bF,ah,aj,_,_,h|h⟩:=h
 ·exact h.2.2.only.size
 ·exact h.2.2.only.size
theorem ae.aside{V':LV}{P':LP}(h:ae base w w1 l V V' P')(hn:∀ k,kZ l V' k->kZ l V k\/W.heap.size<=k)(hL:d9 base w l V P){b:Nat}(hb:w.heap.size<=b)(hbW:b<W.heap.size)(hO:Only (λk=>k=b) w1 w2):ae base w w2 l V V' P':=by
 refine⟨h.ok.only hO (λk hk e=>?_),h.only.trans hO (λk hk e=>absurd hk aB),h.new⟩;subst e;rcases hn k hk with q|q
 ·have:=(hL.lt k q).2;omega
 ·omega
theorem Fs{x:Array Value}(hL:d9 base w l V P)(hn:base<=w.heap.size)(hW:Below w.heap.size w W)(h:Calls Tryz.prog 81 #[.pointer (some ⟨l,0,none⟩),.agg x] W (HK base W l V P m' ps' RO RB)) :
  Calls Tryz.prog 81 #[.pointer (some ⟨l,0,none⟩),.agg x] W (OI base w.heap.size (iU base w l V P m' ps' RO RB) W):=by
 refine h.mono ?_;rintro e w' ⟨V',p',bF,ah,aj,h1,h2,h3,h4,h5⟩;have hg:∀ {P'},ae base W w' l V V' P'->ae base w w' l V V' P':=λhs=>(ae.grow (ae.same hL) hW).trans hs;have hk:∀ {P'},ae base W w' l V V' P'->∀ b,w.heap.size<=b->b<W.heap.size->w'.heap[b]? = W.heap[b]? := λhs b hb hbW=>hs.only.block b hbW (λhd=>by have:=(hL.lt b hd).2;omega);rcases h5 with ⟨rfl,q1,q2⟩|⟨v,rfl,q0,q1,q2⟩
 ·exact⟨⟨_,rfl,.inl rfl,V',p',bF,ah,aj,⟨h1,h2,h3,h4⟩,q2.new,.inl ⟨rfl,q1,hg q2⟩⟩,hk q2⟩
 ·exact⟨⟨_,rfl,.inr q0,V',p',bF,ah,aj,⟨h1,h2,h3,h4⟩,q2.new,.inr ⟨q0,q1,hg q2⟩⟩,hk q2⟩
end
theorem DY{n:Int}(hn:cO n){x:aY}(hx:x.Ok):(Jg n x.name x.p x.t1 x.t2 x.tick).Ok:=
 ⟨by show cO 1;decide,hn,by show cO 0;decide,hx.name,hx.p,hx.t1,hx.t2,by show cO 0;decide,by show cO 0;decide,by show cO 0;decide,hx.tick⟩
theorem Dy{o t:Int}(h1:cO o)(h2:cO t):(Uy o t).Ok:=
 ⟨by show cO 4;decide,h1,Rc.zero_ok.id,Rc.zero_ok.name,Rc.zero_ok.p,Rc.zero_ok.root,Rc.zero_ok.file,Rc.zero_ok.way,Rc.zero_ok.index,Rc.zero_ok.verdict,h2⟩
theorem BO{o i y x t:Int}(h1:cO o)(h2:cO i)(h3:cO y)(h4:cO x)(h5:cO t):(XC o i y x t).Ok:=
 ⟨by show cO 2;decide,h1,h2,Rc.zero_ok.name,Rc.zero_ok.p,Rc.zero_ok.root,Rc.zero_ok.file,h3,h4,Rc.zero_ok.verdict,h5⟩
theorem Wd{o i v t:Int}(h1:cO o)(h2:cO i)(h3:cO v)(h4:cO t):(XW o i v t).Ok:=
 ⟨by show cO 3;decide,h1,h2,Rc.zero_ok.name,Rc.zero_ok.p,Rc.zero_ok.root,Rc.zero_ok.file,Rc.zero_ok.way,Rc.zero_ok.index,h3,h4⟩
theorem BV{y:It}(hy:y.Ok)(way:Int):cO (Qo y way).1:=by
 unfold Qo;split
 ·exact hy.u
 ·exact hy.r
theorem C3{m:St}{o i y x t:Int}(h:(Zm m (XC o i y x t)).2=0):(Zm m (XC o i y x t)).1.ens.length=m.ens.length+1:=by
 unfold Zm at h ⊢;split
 ·next hc=>rw[if_pos hc] at h;exact absurd h hc
 ·next hc=>
  rw[if_neg hc] at h;rw[if_neg (show ¬(XC o i y x t).kind=1 by show ¬(2:Int)=1;decide),if_pos (show (XC o i y x t).kind=2 from rfl)] at h ⊢;unfold X6 at h ⊢;split
  ·next q=>rw[if_pos q] at h;cases h
  ·next q=>
   rw[if_neg q] at h;split
   ·next q2=>rw[if_pos q2] at h;cases h
   ·next q2=>
    rw[if_neg q2] at h;split
    ·next q3=>rw[if_pos q3] at h;cases h
    ·next q3=>
     rw[if_neg q3] at h;split
     ·next q4=>rw[if_pos q4] at h;cases h
     ·simp
def PF(base:Nat)(w:World)(l:Nat)(V:LV)(P:LP)(a:aY)(RO RB:Rc->fq)(e:Ending)(w':World):Prop:=
 ∃ (k:Nat) (V':LV) (p':DP) (bF:List (List UInt8)) (ah:Nat) (aj:Bool),e=.returned (.int .i64 (k:Int))/\(V'.J=V.J/\V'.B=V.B/\V'.mb=V.mb/\V'.f=V.f)/\
  ((k=0/\∃ x,YY P.m a=some x/\RO x V'.mn p' bF ah aj/\ae base w w' l V V' ⟨p',bF,ah,aj,P.n+1,QU P.n P.ps x.out,(Zm P.m x).1⟩)\/
  (k≠0/\((∃ x,YY P.m a=some x/\RB x V'.mn p' bF ah aj)\/(YY P.m a=none/\V'.mn=V.mn/\p'=P.p/\bF=P.recs/\ah=P.sure/\aj=P.dead))/\ae base w w' l V V' ⟨p',bF,ah,aj,P.n,P.ps,P.m⟩))
theorem y9.act{base:Nat}{w:World}{l:Nat}{V:LV}{P:LP}{a:aY}{RO RB:Rc->fq}{x:Rc}{e:Ending}{w':World}(hx:YY P.m a=some x)(h:y9 base (iU base w l V P (Zm P.m x).1 (QU P.n P.ps x.out) (RO x) (RB x)) w e w'):PF base w l V P a RO RB e w':=by
 obtain⟨k,W,v,w1,he,hW,⟨V',p',bF,ah,aj,hs,hnew,hq⟩,hb,hk⟩:=h;refine⟨k,V',p',bF,ah,aj,he,hs,?_⟩;rcases hq with ⟨rfl,q1,q2⟩|⟨q0,q1,q2⟩
 ·rcases hk with ⟨hk,_⟩|⟨_,hk⟩
  ·exact .inl ⟨hk,x,hx,q1,q2.grow hb⟩
  ·exfalso;have h1:=hk.1 w;have h2:(binOp .neq 30 .nilIface .nilIface).run Tryz.prog w=.ok (.bool false) w:=kX;rw[h1] at h2;cases h2
 ·rcases hk with ⟨_,rfl⟩|⟨hk,_⟩
  ·exfalso;have h1:=q0.1.1 w;have h2:(binOp .neq 30 .nilIface .nilIface).run Tryz.prog w=.ok (.bool false) w:=kX;rw[h1] at h2;cases h2
  ·exact .inr ⟨hk,.inl ⟨x,hx,q1⟩,q2.grow hb⟩
theorem y9.none{base:Nat}{w:World}{l:Nat}{V:LV}{P:LP}{a:aY}{RO RB:Rc->fq}{e:Ending}{w':World}(hx:YY P.m a=none)(h:y9 base (iU base w l V P P.m P.ps (λ_ _ _ _ _=>False) (λmn p recs sure dead=>mn=V.mn/\p=P.p/\recs=P.recs/\sure=P.sure/\dead=P.dead)) w e w'):PF base w l V P a RO RB e w':=by
 obtain⟨k,W,v,w1,he,hW,⟨V',p',bF,ah,aj,hs,hnew,hq⟩,hb,hk⟩:=h;refine⟨k,V',p',bF,ah,aj,he,hs,?_⟩;rcases hq with ⟨rfl,q1,q2⟩|⟨q0,q1,q2⟩
 ·exact q1.elim
 ·rcases hk with ⟨_,rfl⟩|⟨hk,_⟩
  ·exfalso;have h1:=q0.1.1 w;have h2:(binOp .neq 30 .nilIface .nilIface).run Tryz.prog w=.ok (.bool false) w:=kX;rw[h1] at h2;cases h2
  ·exact .inr ⟨hk,.inr ⟨hx,q1⟩,q2.grow hb⟩
theorem FO{base:Nat}{w:World}{l:Nat}{V:LV}{P:LP}(hL:d9 base w l V P)(hn:base<=w.heap.size)(l1:P.m.its.length<=1000)(l2:P.m.ens.length<=1000)(ea:Nat->Addr)(H:∀ W,Below base w W->aQ 298 aK W ea)(a:aY)(ha:a.Ok)(RO RB:Rc->fq)(hRO:∀ x mn p r s d,RO x mn p r s d->(Zm P.m x).2=0)
  (hput:∀ x,x.Ok->∀ W,Below w.heap.size w W->Calls Tryz.prog 81 #[.pointer (some ⟨l,0,none⟩),.agg x.list.toArray] W (HK base W l V P (Zm P.m x).1 (QU P.n P.ps x.out) (RO x) (RB x))) :
  Calls Tryz.prog 24 #[.pointer (some ⟨l,0,none⟩),.agg a.list.toArray] w (PF base w l V P a RO RB):=by
 have hQs:∀ {m' ps' RO' RB'} W v w',iU base w l V P m' ps' RO' RB' W v w'->base<=w'.heap.size:=λW v w' h=>Nat.le_trans hn h.size;have jl:∀ W,Below w.heap.size w W->∀ v w',fP base v w'->Below W.heap.size W w'->iU base w l V P P.m P.ps (λ_ _ _ _ _=>False) (λmn p recs sure dead=>mn=V.mn/\p=P.p/\recs=P.recs/\sure=P.sure/\dead=P.dead) W v w':=λW hW v w' hv hb=>
  ⟨V,P.p,P.recs,P.sure,P.dead,⟨rfl,rfl,rfl,rfl⟩,λk hk=>.inl hk,.inr ⟨hv,⟨rfl,rfl,rfl,rfl,rfl⟩,(ae.same hL).grow (hW.trans (hb.mono hW.size))⟩⟩
 have HW:∀ {W},Below w.heap.size w W->∀ W',Below base W W'->aQ 298 aK W' ea:=λhW W' hW'=>H W' ((hW.mono hn).trans hW');have iN:cO (P.m.its.length:Int):=⟨aB,aB⟩;have iE:cO (P.m.ens.length:Int):=⟨aB,aB⟩;have hK:∀ {W} x,x.Ok->Below w.heap.size w W->∀ W',Below W.heap.size W W'->Calls Tryz.prog 81 #[.pointer (some ⟨l,0,none⟩),.agg x.list.toArray] W' (OI base W.heap.size (iU base w l V P (Zm P.m x).1 (QU P.n P.ps x.out) (RO x) (RB x)) W'):=fun {W} x hx hW W' hW'=>by
  have mP:=hW.trans (hW'.mono hW.size);refine(Fs hL hn mP (hput x hx W' mP)).mono ?_;rintro e w' ⟨q1,q2⟩;exact⟨q1,λb hb hb'=>q2 b (Nat.le_trans hW.size hb) hb'⟩
 by_cases h0:a.kind=0
 ·have hx:YY P.m a=some (Jg (P.m.its.length:Int) a.name a.p a.t1 a.t2 a.tick):=by unfold YY;rw[if_pos h0];rfl
  refine(EH l a ha h0 (iU base w l V P _ _ _ _) (λW hW=>FE (hL.below hW) a.name a.p a.t1 a.t2 a.tick ha.t1 ha.t2 _ (hK _ (DY iN ha) hW))).mono λe w' h=>h.act hx
 ·by_cases h1:a.kind=1
  ·by_cases hw:a.way=1\/a.way=2
   ·by_cases ho:0<=a.obj/\a.obj<P.m.its.length
    ·obtain⟨i,hi⟩:∃ i:Nat,a.obj=(i:Int):=⟨a.obj.toNat,aB⟩;have hil:i<P.m.its.length:=aB;have hgd:P.m.its.getD a.obj.toNat default=P.m.its[i]:=by rw[hi,List.getD_eq_getElem?_getD,Int.toNat_natCast,List.getElem?_eq_getElem hil];rfl
     have hx:YY P.m a=some (XC (i:Int) (P.m.ens.length:Int) a.way (Qo P.m.its[i] a.way).1 a.tick):=by
      unfold YY;rw[if_neg h0,if_pos h1,if_neg aB,if_neg aB,hgd,hi]
     have rH:=hL.st.okN _ (List.getElem_mem hil);have hok:=BO (o:=(i:Int)) (by rw[<-hi];exact ha.obj) iE ha.way (BV rH a.way) ha.tick;refine(H0 l a h1 (iU base w l V P _ _ (RO (XC (i:Int) (P.m.ens.length:Int) a.way (Qo P.m.its[i] a.way).1 a.tick)) (RB (XC (i:Int) (P.m.ens.length:Int) a.way (Qo P.m.its[i] a.way).1 a.tick))) (λW hW=>?_) hQs).mono λe w' h=>h.act hx;rw[hi];refine EX (hL.below hW) l1 l2 i hil a.way a.tick hw _ (hK _ hok hW) (λW1 w' hW1 hq=>?_) (λW1 v1 w1 w2 C C' hW1 hlt hq hb hU=>?_) (Nat.le_trans hn hW.size)
     ·obtain⟨V',p',bF,ah,aj,hs,hnew,⟨_,q1,q2⟩|⟨q0,_⟩⟩:=hq
      ·have hm:=C3 (hRO _ _ _ _ _ _ q1);exact⟨V',_,q2.ok,by rw[hm];omega,by rw[hm];omega⟩
      ·exfalso;have h1:=q0.1.1 w;have h2:(binOp .neq 30 .nilIface .nilIface).run Tryz.prog w=.ok (.bool false) w:=kX;rw[h1] at h2;cases h2
     ·have hO:Only (λk=>k=W.heap.size) w1 w2:=Only.ofUpd hU rfl;obtain⟨V',p',bF,ah,aj,hs,hnew,h|h⟩:=hq
      ·exact⟨V',p',bF,ah,aj,hs,hnew,.inl ⟨h.1,h.2.1,h.2.2.aside hnew hL hW.size hlt hO⟩⟩
      ·exact⟨V',p',bF,ah,aj,hs,hnew,.inr ⟨h.1.soft (gJ.ofUpd hU hb ⟨dX,dX⟩ (Nat.le_trans hn hW.size)),h.2.1,h.2.2.aside hnew hL hW.size hlt hO⟩⟩
    ·have hx:YY P.m a=none:=by unfold YY;rw[if_neg h0,if_pos h1,if_neg aB,if_pos aB]
     exact(H0 l a h1 (iU base w l V P _ _ _ _) (λW hW=>BM (hL.below hW) l1 l2 a.obj a.way a.tick hw ho ea (Nat.le_trans hn hW.size) (HW hW) _ (jl W hW)) hQs).mono λe w' h=>h.none hx
   ·have hx:YY P.m a=none:=by unfold YY;rw[if_neg h0,if_pos h1,if_pos aB]
    exact(H0 l a h1 (iU base w l V P _ _ _ _) (λW hW=>Bt (base:=base) l a.obj a.way a.tick aB aB ea (Nat.le_trans hn hW.size) (HW hW) _ (jl W hW)) hQs).mono λe w' h=>h.none hx
  ·by_cases h4:a.kind=4
   ·have hx:YY P.m a=some (Uy a.obj a.tick):=by unfold YY;rw[if_neg h0,if_neg h1,if_pos h4]
    exact(Ej l a h4 (iU base w l V P _ _ _ _) (λW hW=>EZ base l a.obj a.tick W _ (hK _ (Dy ha.obj ha.tick) hW))).mono λe w' h=>h.act hx
   ·by_cases hi:0<=a.id/\a.id<P.m.ens.length
    ·obtain⟨i,hii⟩:∃ i:Nat,a.id=(i:Int):=⟨a.id.toNat,aB⟩;have hil:i<P.m.ens.length:=aB;have hgd:P.m.ens.getD a.id.toNat default=P.m.ens[i]:=by rw[hii,List.getD_eq_getElem?_getD,Int.toNat_natCast,List.getElem?_eq_getElem hil];rfl
     have hx:YY P.m a=some (XW P.m.ens[i].o (i:Int) a.verdict a.tick):=by
      unfold YY;rw[if_neg h0,if_neg h1,if_neg h4,if_neg aB,hgd,hii]
     have hok:=Wd (hL.st.okV _ (List.getElem_mem hil)).2.1 (i:=(i:Int)) (by rw[<-hii];exact ha.id) ha.verdict ha.tick;refine(Hx l a h0 h1 h4 (iU base w l V P _ _ (RO (XW P.m.ens[i].o (i:Int) a.verdict a.tick)) (RB (XW P.m.ens[i].o (i:Int) a.verdict a.tick))) (λW hW=>?_)).mono λe w' h=>h.act hx;rw[hii];exact B3 (hL.below hW) l1 l2 i hil a.verdict a.tick _ (hK _ hok hW)
    ·have hx:YY P.m a=none:=by unfold YY;rw[if_neg h0,if_neg h1,if_neg h4,if_pos aB]
     exact(Hx l a h0 h1 h4 (iU base w l V P _ _ _ _) (λW hW=>DO (hL.below hW) l1 l2 a.id hi a.verdict a.tick ea (Nat.le_trans hn hW.size) (HW hW) _ (jl W hW))).mono λe w' h=>h.none hx
theorem Lg(a0:Option Addr)(c0:Nat)(bs:List (List UInt8))(w:World)(hA:eQ w a0 c0 bs)(hl:bs.length<=1000)(h5:∀ b∈bs,b.length<=500)(ea:Nat->Addr)(H:aQ 298 aK w ea) :
  Calls Tryz.prog 8 #[.slice a0 bs.length c0] w (ZJ ea (Qj ⟨[],[]⟩ bs).1 (Qj ⟨[],[]⟩ bs).2 w):=by
 obtain⟨FM,hFM⟩:∃ FM,FM=Qj ⟨[],[]⟩ bs:=⟨_,rfl⟩;rw[<-hFM];obtain⟨N,hN⟩:=aA bs.length;rw[<-hN] at hl ⊢;have hlN:N<=1000:=hl;obtain⟨aO,aS,hs2,hB⟩:=YJ w #[.slice none 0 0,.slice none 0 0] #[.slice none 0 0,.slice none 0 0] 28 28 _ rfl;obtain⟨w2,hw2⟩:∃ w2,w2=(w.alloc (.cells #[.slice none 0 0,.slice none 0 0] 28)).alloc (.cells #[.slice none 0 0,.slice none 0 0] 28):=⟨_,rfl⟩;rw[<-hw2] at aO aS hs2 hB;have iS:(Tryz.prog.info? 28).map (·.size)=some 2:=kX;have iZ:(Tryz.prog.info? 28).map (·.size)=some (#[.slice none 0 0,.slice none 0 0]:Array Value).size:=kX;have i78:(Tryz.prog.info? 49).map (·.size)=some 78:=kX;have z78:(Tryz.zeroCells49).size=78:=kX;have hpost:Hid (∀ (n:Nat) (v:Value) W,Below w.heap.size w W->aT ea W v n->ZJ ea ⟨[],[]⟩ n w (.returned (.tuple #[.agg #[.slice none 0 0,.slice none 0 0],v])) W):=Hd (λn v W h2 h3=>⟨_,_,rfl,YW W,h3,h2,Yj _⟩);replace hA:=Hd hA;replace hFM:=Hd hFM;replace hN:=Hd hN;replace hw2:=Hd hw2;replace aO:=Hd aO;replace aS:=Hd aS;replace hB:=Hd hB;replace hs2:=Hd hs2;replace h5:=Hd h5;clear hl;replace H:=Hd H;go_enter Tryz.func8,Tryz.ntmps8;go_wp2_with fail;rw[<-hw2.out];clear hw2;generalize w2=wS at*;skip;skip;skip;skip;skip
 refine ZG [(false,6),(true,3),(false,2),(true,24),(false,1)] _ [] (λU wr=>∃ (k:Nat) (m:St) (C:Array Value),k<=N/\U 11=.int .i64 (k:Nat)/\Below w.heap.size w wr/\wr.heap[w.heap.size]? = some (.cells #[.slice none 0 0,.slice none 0 0] 28 (0,0))/\wr.heap[w.heap.size+1]? = some (.cells C 28 (0,0))/\bJ wr (.agg C) m/\dV (w.heap.size+2) (.agg C)/\Qj ⟨[],[]⟩ (bs.take k)=(m,0)) (λU _=>N-(intOf (U 11)).toNat) ?_ ?_
 ·simp only[List.getD_cons_zero,List.getD_cons_succ];exact⟨0,⟨[],[]⟩,_,Nat.zero_le _,rfl,hB.out,aO.out,aS.out,YW _,Yj _,rfl⟩
 ·clear aO aS hB;intro U wr hrel KK hback l' hl';obtain⟨k,m,C,hk,kw,hbw,bO,bS,hm,hfr,hrep⟩:=hrel;simp only[ZQ,ZM,cond_true,cond_false,Nat.reduceAdd,kw] at hl';subst hl';have hsb:SB k m:=by
   have:=Mw (bs.take k) 0 ⟨[],[]⟩ (QJ 0);rw[hrep] at this;exact this.mono bf
  have hC2:C.size=2:=by
   obtain⟨a,c,a',c',e,_⟩:=hm.form;cases e;rfl
  have ll:C.all (·.oneCell')=true:=by
   obtain⟨a,c,a',c',e,_⟩:=hm.form;cases e;simp[Value.oneCell']
  have iC:(Tryz.prog.info? 28).map (·.size)=some C.size:=by rw[hC2];exact iS
  have gW:=hbw.size;replace kw:=Hd kw;replace hbw:=Hd hbw;replace bO:=Hd bO;replace bS:=Hd bS;replace hm:=Hd hm;replace hfr:=Hd hfr;replace hrep:=Hd hrep;replace hsb:=Hd hsb;by_cases hlt:k<N
  ·have hlt2:(k:Int)<(N:Int):=aB;have hkN:k<bs.length:=by rw[<-hN.out];exact hlt
   obtain⟨b1,o1,rfl,ai,ci,hce,vg⟩:=(hA.out.below hbw.out).row k hkN;have hmem:bs.getD k []∈bs:=by rw[List.getD_eq_getElem?_getD,List.getElem?_eq_getElem hkN];exact List.getElem_mem hkN
   have hb5:=h5.out _ hmem;have htk:bs.take (k+1)=bs.take k++[bs.getD k []]:=by rw[List.take_add_one,List.getD_eq_getElem?_getD,List.getElem?_eq_getElem hkN];rfl
   have hdrop:bs.drop k=bs.getD k []::bs.drop (k+1):=by rw[List.getD_eq_getElem?_getD,List.getElem?_eq_getElem hkN,List.drop_eq_getElem_cons hkN];rfl
   have hfull:FM=Qj m (bs.drop k):=by rw[hFM.out,UT bs ⟨[],[]⟩ k aB (by rw[hrep.out]),hrep.out]
   rw[hdrop,YS] at hfull;have kP:=Rp ⟨[],[]⟩ (bs.take k) (bs.getD k []) (by rw[hrep.out]);rw[<-htk,hrep.out] at kP;clear hdrop htk hmem;generalize bs.getD k []=b at*;obtain⟨rH,hy0,hy20,hpG⟩:=MY hb5;have hst:Xa m b=if (gN b).2≠0 then (⟨[],[]⟩,(gN b).2) else if (Zm m (gN b).1).2≠0 then (⟨[],[]⟩,(Zm m (gN b).1).2) else Zm m (gN b).1:=rfl;have hcall:=Hd (hpG ai ci wr ea vg (H.out.below hbw.out));have x9:=Hd (λ(W:World) (vm:Value) (hv:bJ W vm m) (HW:aQ 298 aK W ea)=>U9 vm m (gN b).1 rH W hv (by have:=hsb.out.its;omega) (by have:=hsb.out.ens;omega) (λy hy=>by have:=hsb.out.us y hy;omega) ea HW);have hRs:(gN b).1.list.toArray.size=78:=Rc.size rH;have qm:=Rc.all_one (gN b).1;have iR:(Tryz.prog.info? 49).map (·.size)=some (gN b).1.list.toArray.size:=by rw[hRs];exact i78
   have zR:(Tryz.zeroCells49).size=(gN b).1.list.toArray.size:=by rw[hRs];exact z78
   obtain⟨L,hL⟩:=aA b.length;rw[<-hL] at hcall hce;replace hL:=Hd hL;clear hpG vg hRs;obtain⟨FF,hFF⟩:=aA (Zm m (gN b).1);rw[<-hFF] at x9 hst;replace hFF:=Hd hFF;generalize qF:(gN b).1.list.toArray=PA at*;generalize (gN b).2=PN at*;replace qF:=Hd qF;replace hst:=Hd hst;replace hfull:=Hd hfull;replace kP:=Hd kP;replace rH:=Hd rH;replace hy0:=Hd hy0;go_wp2_with fail;with_reducible refine hcall.out.mono ?_
   clear hcall;rintro e w3 ⟨v3,rfl,hv3,hb3⟩;have hnq:=hv3.neq;have hgd:=hv3.guard;clear hce;replace bO:=Hd ((hb3.block _ (Zb bO.out)).trans bO.out);replace bS:=Hd ((hb3.block _ (Zb bS.out)).trans bS.out);replace hm:=Hd (hm.out.below hb3 nZ);have dM:=Hd (hbw.out.trans (hb3.mono gW));have xU:=dM.out.size;have hZ3:=Hd (heap_alloc_new w3 (.cells Tryz.zeroCells49 49));clear hb3;by_cases hn0:PN=0;rotate_left
   ·have hne:(PN != 0)=true:=by simpa using hn0
    replace hfull:=hfull.out;rw[hst.out,if_pos hn0,if_pos hn0] at hfull;have hfull:=Hd hfull;rw[hne] at hnq;clear x9 hback;go_wp2_with (first
     | ((with_reducible refine wL (.store 49 (.tmp 7) _) ?_);(refine Zd rfl 49 (.tmp 7) (.tmp 18) rfl w3.heap.size _ PA rfl rfl hZ3 iR zR qm ?_);intro w4 eZ;have hb4:Below w3.heap.size w3 w4:=(Below.alloc (Below.refl w3.heap.size w3) nZ _).trans (eZ.out.below nZ);have aR4:=Hd eZ.out.here;have bO4:=Hd ((hb4.block _ (Zb bO.out)).trans bO.out);have bS4:=Hd ((hb4.block _ (Zb bS.out)).trans bS.out);have dU:=Hd (hm.out.below hb4 nZ);have rR:=Hd (dM.out.trans (hb4.mono xU));have hsz4:=rR.out.size;have hv4:=Hd (hv3.below hb4))
     | ((with_reducible refine wL (.store 28 (.tmp 2) _) ?_);(refine Zd rfl 28 (.tmp 2) (.tmp 22) rfl w.heap.size #[.slice none 0 0,.slice none 0 0] #[.slice none 0 0,.slice none 0 0] rfl rfl bO4 iZ rfl jK ?_);intro w9 au;have hS:=Hd (rR.out.trans (au.out.below nZ));have hres:=Hd au.out.here))
    refine Zj rfl rfl Tryz.underlying28 rfl kX hres.out ?_;show ZJ ea FM.1 FM.2 w _ _;rw[hfull.out];exact hpost.out PN v3 _ hS.out (hv4.out.updS au.out bO4.out dX)
   obtain⟨hch,hout⟩:=hy0.out hn0;subst hn0;rw[show ((0:Nat) != 0)=false from rfl] at hnq;rw[if_neg dX] at hst;go_wp2_with (first
    | ((with_reducible refine wL (.store 49 (.tmp 7) _) ?_);(refine Zd rfl 49 (.tmp 7) (.tmp 18) rfl w3.heap.size _ PA rfl rfl hZ3 iR zR qm ?_);intro w4 eZ;have hb4:Below w3.heap.size w3 w4:=(Below.alloc (Below.refl w3.heap.size w3) nZ _).trans (eZ.out.below nZ);have aR4:=Hd eZ.out.here;have bO4:=Hd ((hb4.block _ (Zb bO.out)).trans bO.out);have bS4:=Hd ((hb4.block _ (Zb bS.out)).trans bS.out);have dU:=Hd (hm.out.below hb4 nZ);have rR:=Hd (dM.out.trans (hb4.mono xU));have hsz4:=rR.out.size;have hv4:=Hd (hv3.below hb4))
    | ((with_reducible refine wL (.load 28 (.tmp 4)) ?_);refine Ze rfl 28 (.tmp 4) rfl (w.heap.size+1) C _ rfl bS4 Tryz.underlying28 rfl iC ?_)
    | ((with_reducible refine wL (.load 49 (.tmp 7)) ?_);refine Ze rfl 49 (.tmp 7) rfl w3.heap.size PA _ rfl aR4 Tryz.underlying49 rfl iR ?_))
   with_reducible refine(x9.out _ _ dU.out (H.out.below rR.out)).mono ?_
   clear x9 hnq hgd;rintro e w5 ⟨vm,v5,rfl,ku,hv5,hb5,hf5⟩;have hnq:=hv5.neq;have hgd:=hv5.guard;replace hv5:=Hd hv5;obtain⟨C5,rfl⟩:∃ C5,vm=.agg C5:=by
    obtain⟨a,c,a',c',e,_⟩:=ku.form;exact⟨_,e⟩
   have AB:C.size=C5.size:=by
    obtain⟨a,c,a',c',e,_⟩:=ku.form;cases e;exact hC2
   have h1C5:C5.all (·.oneCell')=true:=by
    obtain⟨a,c,a',c',e,_⟩:=ku.form;cases e;simp[Value.oneCell']
   have iC5:(Tryz.prog.info? 28).map (·.size)=some C5.size:=by rw[<-AB];exact iC
   have bO5:=Hd ((hb5.block _ (Zb bO4.out)).trans bO4.out);have bS5:=Hd ((hb5.block _ (Zb bS4.out)).trans bS4.out);have bQ:=Hd (rR.out.trans (hb5.mono hsz4));have hlt1:=Zb bS4.out;have IX:=Hd (hf5.mono (B':=w.heap.size+2) aB);replace ku:=Hd ku;clear hb5 hf5;by_cases hn1:FF.2=0;rotate_left
   ·have hne:(FF.2 != 0)=true:=by simpa using hn1
    replace hfull:=hfull.out;rw[hst.out,if_pos hn1,if_pos hn1] at hfull;have hfull:=Hd hfull;rw[hne] at hnq;clear hback;go_wp2_with (first
     | ((with_reducible refine wL (.store 28 (.tmp 4) _) ?_);(refine Zd rfl 28 (.tmp 4) (.tmp 28) rfl (w.heap.size+1) _ C5 rfl rfl bS5 iC5 AB h1C5 ?_);intro w6 dK;have iO:=Hd (bQ.out.trans (dK.out.below aB));have bO6:=Hd ((dK.out.block _ aB).trans bO5.out);have bS6:=Hd dK.out.here;have sH:=Hd (ku.out.upd IX.out dK.out aB);have hv6:=Hd (hv5.out.updS dK.out bS5.out dX))
     | ((with_reducible refine wL (.store 28 (.tmp 2) _) ?_);(refine Zd rfl 28 (.tmp 2) (.tmp 32) rfl w.heap.size #[.slice none 0 0,.slice none 0 0] #[.slice none 0 0,.slice none 0 0] rfl rfl bO6 iZ rfl jK ?_);intro w9 au;have hS:=Hd (iO.out.trans (au.out.below nZ));have hres:=Hd au.out.here))
    refine Zj rfl rfl Tryz.underlying28 rfl kX hres.out ?_;show ZJ ea FM.1 FM.2 w _ _;rw[hfull.out];exact hpost.out FF.2 v5 _ hS.out (hv6.out.updS au.out bO6.out dX)
   rw[if_neg (by simpa using hn1)] at hst;rw[hn1,show ((0:Nat) != 0)=false from rfl] at hnq;rw[hst.out,if_neg (by simpa using hn1)] at kP;replace kP:=Hd kP.out;replace hn1:=Hd hn1;clear hfull;go_wp2_with ((with_reducible refine wL (.store 28 (.tmp 4) _) ?_);(refine Zd rfl 28 (.tmp 4) (.tmp 28) rfl (w.heap.size+1) _ C5 rfl rfl bS5 iC5 AB h1C5 ?_);intro w6 dK;have iO:=Hd (bQ.out.trans (dK.out.below aB));have bO6:=Hd ((dK.out.block _ aB).trans bO5.out);have bS6:=Hd dK.out.here;have sH:=Hd (ku.out.upd IX.out dK.out aB);have hv6:=Hd (hv5.out.updS dK.out bS5.out dX));refine hback.out _ _ kX ?_ ?_
   ·simp only[List.getD_cons_zero,List.getD_cons_succ];exact⟨k+1,FF.1,C5,aB,by go_num,iO.out,bO6.out,bS6.out,sH.out,IX.out,kP.out⟩
   ·have kw:=kw.out;simp only[List.getD_cons_zero,List.getD_cons_succ,kw,intOf];omega
  ·obtain rfl:k=N:=aB;have hfull:=Hd (show FM=(m,0) by rw[hFM.out,<-hrep.out,hN.out,List.take_length]);clear hback;have hCz:(#[.slice none 0 0,.slice none 0 0]:Array Value).size=C.size:=by rw[hC2];rfl
   go_wp2_with (first
    | ((with_reducible refine wL (.load 28 (.tmp 4)) ?_);refine Ze rfl 28 (.tmp 4) rfl (w.heap.size+1) C _ rfl bS Tryz.underlying28 rfl iC ?_)
    | ((with_reducible refine wL (.store 28 (.tmp 2) _) ?_);(refine Zd rfl 28 (.tmp 2) (.tmp 35) rfl w.heap.size _ C rfl rfl bO iC hCz ll ?_);intro w9 au;have hS:=Hd (hbw.out.trans (au.out.below nZ));have hres:=Hd au.out.here))
   refine Zj rfl rfl Tryz.underlying28 rfl iC hres.out ?_;show ZJ ea FM.1 FM.2 w _ _;rw[hfull.out];exact⟨_,_,rfl,hm.out.upd hfr.out au.out aB,.inl ⟨rfl,rfl⟩,hS.out,hfr.out.mono aB⟩
theorem aY.list_one(x:aY):∀ u∈x.list,u.oneCell'=true:=by
 intro u hu;unfold aY.list at hu;rcases List.mem_append.1 hu with h|h
 ·simp only[List.mem_cons,List.not_mem_nil,or_false] at h;rcases h with h|h|h|h|h|h|h|h<;>subst h<;>rfl
 rcases List.mem_append.1 h with h|h
 ·exact P6.one _ u h
 rcases List.mem_append.1 h with h|h
 ·exact Zw _ u h
 rcases List.mem_append.1 h with h|h
 ·exact Zw _ u h
 simp only[List.mem_cons,List.not_mem_nil,or_false] at h;rcases h with h|h|h<;>subst h<;>rfl
theorem aY.size{x:aY}(h:x.Ok):x.list.toArray.size=81:=by rw[List.size_toArray,aY.len h.t1 h.t2]
structure p8 (w:World) (a:Option Addr) (xs:List aY):Prop where
 row:aU aY.list 81 w a xs
 ok:∀ x∈xs,x.Ok
theorem p8.below{w w':World}{a:Option Addr}{xs:List aY}(h:p8 w a xs)(hb:Below w.heap.size w w'):p8 w' a xs:=
 ⟨λk hk=>by obtain⟨b,o,e,hr⟩:=h.row k hk;exact⟨b,o,e,Q1 hr hb nZ⟩,h.ok⟩
def CJ(w:World)(m:Nat)(xs:List aY)(x:Ending)(w':World):Prop:=∃ r,x=.returned (.bool r)/\(r=false->xs.length<=m/\∀ x∈xs,x.name.size<=100)/\Below w.heap.size w w'
theorem Pe(a0:Option Addr)(c0:Nat)(xs:List aY)(m:Nat)(hm:m<=1000)(w:World)(hA:p8 w a0 xs) :
  Calls Tryz.prog 20 #[.slice a0 xs.length c0,.int .i64 (m:Int)] w (CJ w m xs):=by
 obtain⟨N,hN⟩:=aA xs.length;rw[<-hN];have zA:(Tryz.zeroCells80).size=81:=kX;have iA:(Tryz.prog.info? 80).map (·.size)=some 81:=kX;replace hA:=Hd hA;replace hN:=Hd hN;by_cases hlm:m<N
 ·have hlm2:(m:Int)<(N:Int):=aB;go_enter Tryz.func20,Tryz.ntmps20;go_wp2_with fail;go_ret;exact⟨true,rfl,λh=>(by cases h),Below.refl _ _⟩
 ·have hlm2:¬((m:Int)<(N:Int)):=aB;go_enter Tryz.func20,Tryz.ntmps20;go_wp2_with fail;refine ZG [(false,6),(true,1),(false,6),(true,9)] _ [] (λU wr=>∃ k:Nat,k<=N/\U 13=.int .i64 k/\Below w.heap.size w wr/\∀ x∈xs.take k,x.name.size<=100) (λU _=>N-(intOf (U 13)).toNat) ?_ ?_
  ·simp only[List.getD_cons_zero,List.getD_cons_succ];exact⟨0,Nat.zero_le _,rfl,Below.refl _ _,λx hx=>by simp at hx⟩
  ·intro U wr hrel KK hback l' hl';obtain⟨k,hk,kw,hbw,hsm⟩:=hrel;simp only[ZQ,ZM,cond_true,cond_false,Nat.reduceAdd,kw] at hl';subst hl';replace kw:=Hd kw;have gW:=hbw.size;by_cases hlt:k<N
   ·have hlt2:(k:Int)<(N:Int):=aB;have hkN:k<xs.length:=by rw[<-hN.out];exact hlt
    obtain⟨b1,o1,rfl,hr⟩:=(hA.out.below hbw).row k hkN;have hok:=hA.out.ok _ (List.getElem_mem hkN);have htk:xs.take (k+1)=xs.take k++[xs[k]]:=by rw[List.take_add_one,List.getElem?_eq_getElem hkN];rfl
    generalize xs[k]=x at*;obtain⟨XA,ak⟩:=aA x.list.toArray;have hs:XA.size=81:=by rw[ak];exact aY.size hok
    have iX:(Tryz.prog.info? 80).map (·.size)=some XA.size:=by rw[hs];exact iA
    have zX:(Tryz.zeroCells80).size=XA.size:=by rw[hs];exact zA
    have yu:(Tryz.prog.info? 80).map (·.size)=some x.list.length:=by rw[aY.len hok.t1 hok.t2];exact iA
    have h1X:XA.all (·.oneCell')=true:=by rw[ak];exact Go.Proofs.YtpdhceiodgnbmaaGreatDoor.all_one (aY.list_one x)
    have kg:Hid (∀ (W:World) b,W.heap[b]? = some (.cells XA 80 (0,0))->W.cell? ⟨b,7,none⟩=some (.string x.name)):=Hd (λW b h=>by
     rw[Za h,ak,List.getElem?_toArray];exact x.c7)
    have hZ:=Hd (heap_alloc_new wr (.cells Tryz.zeroCells80 80));obtain⟨Z,hZs⟩:=aA x.name.size;replace ak:=Hd ak;replace hr:=Hd hr;replace hbw:=Hd hbw;replace hsm:=Hd hsm;replace htk:=Hd htk;replace hok:=Hd hok;have hnm:=hZs.symm;replace hZs:=Hd hZs;clear hs;by_cases hz:100<Z
    ·have hz2:(100:Int)<(x.name.size:Int):=by rw[hnm];omega
     clear hnm;go_wp2_with (first
      | ((with_reducible refine wL (.load 80 (.tmp 15)) ?_);refine Zx rfl 80 (.tmp 15) rfl b1 (o1+k*81) rfl x.list _ hr.out Tryz.underlying80 rfl yu XA ak ?_)
      | ((with_reducible refine wL (.store 80 (.tmp 6) _) ?_);(refine Zd rfl 80 (.tmp 6) (.tmp 16) rfl wr.heap.size _ XA rfl rfl hZ iX zX h1X ?_);intro w5 dG;have hb5:=Hd (hbw.out.trans (show Below w.heap.size wr w5 from((Below.alloc (Below.refl w.heap.size wr) gW _).trans (dG.out.below gW))));have y7:=kg.out _ _ dG.out.here))
     go_ret;exact⟨true,rfl,λh=>(by cases h),hb5.out⟩
    ·have hz2:¬((100:Int)<(x.name.size:Int)):=by rw[hnm];omega
     clear hnm;go_wp2_with (first
      | ((with_reducible refine wL (.load 80 (.tmp 15)) ?_);refine Zx rfl 80 (.tmp 15) rfl b1 (o1+k*81) rfl x.list _ hr.out Tryz.underlying80 rfl yu XA ak ?_)
      | ((with_reducible refine wL (.store 80 (.tmp 6) _) ?_);(refine Zd rfl 80 (.tmp 6) (.tmp 16) rfl wr.heap.size _ XA rfl rfl hZ iX zX h1X ?_);intro w5 dG;have hb5:=Hd (hbw.out.trans (show Below w.heap.size wr w5 from((Below.alloc (Below.refl w.heap.size wr) gW _).trans (dG.out.below gW))));have y7:=kg.out _ _ dG.out.here))
     refine hback.out _ _ kX ?_ ?_
     ·simp only[List.getD_cons_zero,List.getD_cons_succ];exact⟨k+1,aB,by congr 1,hb5.out,λy hy=>by
       rw[htk.out] at hy;rcases List.mem_append.1 hy with hy|hy
       ·exact hsm.out y hy
       ·rw[List.mem_singleton.1 hy,<-hZs.out];omega⟩
     ·have:=kw.out;simp only[List.getD_cons_zero,List.getD_cons_succ,this,intOf];omega
   ·obtain rfl:k=N:=aB;rw[hN.out,List.take_length] at hsm;have hle:k<=m:=aB;replace hsm:=Hd hsm;replace hbw:=Hd hbw;have xG:¬((k:Int)<(k:Int)):=aB;clear hlm2;go_wp2_with fail;go_ret;exact⟨false,rfl,λ_=>⟨by rw[<-hN.out];exact hle,hsm.out⟩,hbw.out⟩
theorem H5(m:St):K9 m m=true:=by unfold K9;rw[decide_eq_true rfl,decide_eq_true rfl];rfl
structure p9 (w:World) (l:Nat) (V:LV) (b n0:Nat) (m:St):Prop where
 ex:∃ sI sE,w.heap[b]? = some (.cells #[sI,sE] 28 (0,0))/\bJ w (.agg #[sI,sE]) m/\∀ k,SD sI sE k->¬kZ l V k/\k≠b/\n0<=k
 ap:¬kZ l V b
theorem p9.step{base:Nat}{w w':World}{l:Nat}{V V':LV}{P':LP}{b n0:Nat}{m:St}(h:p9 w l V b n0 m)(hs:ae base w w' l V V' P'):p9 w' l V' b n0 m:=by
 obtain⟨sI,sE,h1,h2,h3⟩:=h.ex;have hap:∀ k,k<w.heap.size->¬kZ l V k->¬kZ l V' k:=λk hk hn hd=>(hs.new k hd).elim hn (λq=>by omega);exact⟨⟨sI,sE,hs.only.heap h1 h.ap,h2.only hs.only (λk hk=>(h3 k hk).1),λk hk=>⟨hap k (h2.sd_lt k hk) (h3 k hk).1,(h3 k hk).2⟩⟩,hap b (Zb h1) h.ap⟩
theorem p9.below{w w':World}{l:Nat}{V:LV}{b n0:Nat}{m:St}(h:p9 w l V b n0 m)(hb:Below w.heap.size w w'):p9 w' l V b n0 m:=by
 obtain⟨sI,sE,h1,h2,h3⟩:=h.ex;exact⟨⟨sI,sE,(hb.block _ (Zb h1)).trans h1,h2.below hb nZ,h3⟩,h.ap⟩
structure KL (base:Nat) (W:World) (l:Nat) (V:LV) (P:LP) (bH:List Rc):Prop where
 ld:d9 base W l V P
 inv:fV P bH
 good:Good P.p 60 P.recs
 en:Zn P.recs<=3840
 mn:V.mn<=20000+500*bH.length
 l1 : -(500*(bH.length:Int))<=P.p.l
 l2:P.p.l<=100
theorem KL.new{base:Nat}{W:World}{l:Nat}{V:LV}(h:d9 base W l V (LP.new 60))(hm:V.mn<=20000):KL base W l V (LP.new 60) []:=by
 have he:Zn (LP.new 60).recs<=3840:=by
  show Zn []<=3840;decide
 have hp1:(LP.new 60).p.l=0:=rfl;refine⟨h,⟨rfl,rfl,trivial,rfl,rfl,rfl,Nat.zero_le _⟩,Gt 60,he,?_,?_,?_⟩
 ·rw[List.length_nil];omega
 ·rw[hp1,List.length_nil];omega
 ·rw[hp1];omega
theorem KL.below{base:Nat}{W W':World}{l:Nat}{V:LV}{P:LP}{bH:List Rc}(h:KL base W l V P bH)(hb:Below W.heap.size W W'):KL base W' l V P bH:=⟨h.ld.below hb,h.inv,h.good,h.en,h.mn,h.l1,h.l2⟩
theorem KL.only{base:Nat}{W W':World}{l:Nat}{V:LV}{P:LP}{bH:List Rc}{D:Nat->Prop}(h:KL base W l V P bH)(hO:Only D W W')(hd:∀ k,kZ l V k->¬D k):KL base W' l V P bH:=⟨h.ld.only hO hd,h.inv,h.good,h.en,h.mn,h.l1,h.l2⟩
theorem KL.act{base:Nat}{W w':World}{l:Nat}{V:LV}{P:LP}{bH:List Rc}{a:aY}{e:Ending}(h:KL base W l V P bH)(hlt:bH.length<100)(hA:PF base W l V P a (ROg V P 60) (RBg V P 60) e w') :
  ∃ k:Nat,e=.returned (.int .i64 (k:Int))/\∃ V' P' t,KL base w' l V' P' (bH++t)/\t.length<=1/\Kps P.m P'.m/\ae base W w' l V V' P':=by
 obtain⟨hL,hI,hG,hE,h1,h2,h3⟩:=h;obtain⟨k,V',p',bF,ah,aj,rfl,hv,hc⟩:=hA;refine⟨k,rfl,?_⟩;rcases hc with ⟨hk,x,hx,hro,hst⟩|⟨hk,hrb,hst⟩
 ·obtain⟨r1,r2,r3,r4,r5,r6,r7,r8,r9,r10,r11⟩:=hro;have hl:(bH++[x]).length=bH.length+1:=by rw[List.length_append];rfl
  refine⟨V',_,[x],⟨hst.ok,hI.next r10 r11 hlt r4 r5 rfl rfl rfl,r7,?_,aB,?_,?_⟩,Nat.le_refl _,(N7 r11 hI.ids).1,hst⟩
  ·show Zn bF<=3840;rw[r5,XV];omega
  ·show -(500*((bH++[x]).length:Int))<=p'.l;omega
  ·show p'.l<=100;omega
 ·have hsame:V'.mn=V.mn/\p'=P.p/\bF=P.recs/\aj=false:=by
   rcases hrb with ⟨x,hx,q1,q2,q3,q4,q5,q6⟩|⟨hx,q1,q2,q3,q4,q5⟩
   ·exact⟨q1,q2,q3,q5⟩
   ·exact⟨q1,q2,q3,q5.trans hI.dead⟩
  obtain⟨q1,rfl,rfl,rfl⟩:=hsame;refine⟨V',_,[],⟨hst.ok,?_,hG,hE,?_,?_,h3⟩,Nat.zero_le _,Kps.refl _,hst⟩
  ·rw[List.append_nil];exact⟨rfl,hI.recs,hI.fol,hI.m,hI.n,hI.ps,hI.le⟩
  ·rw[List.append_nil];omega
  ·rw[List.append_nil];exact h2
noncomputable def QK(bH:List Rc):List UInt8:=QS ((bH.map Rc.out).map Zr)
theorem Y0(bH:List Rc):(QK bH).length=32:=by
 unfold QK;by_cases h0:(bH.map Rc.out).map Zr=[]
 ·unfold QS;rw[if_pos h0];exact Zy _
 ·refine(J4 (Nat.pos_of_ne_zero (λe=>h0 (List.length_eq_zero_iff.1 e)))).len32 (λx hx=>?_);obtain⟨y,_,rfl⟩:=List.mem_map.1 hx;exact Zy _
theorem TI(bH t:List Rc):QK bH=QS ((((bH++t).map Rc.out).map Zr).take bH.length):=by
 unfold QK;congr 1;rw[List.map_append,List.map_append];rw[List.take_left' (by rw[List.length_map,List.length_map])]
theorem Hs(a0:Option Addr)(c0:Nat)(bH:List Rc)(w:World)(hA:eQ w a0 c0 (bH.map Rc.out))(hl:∀ b∈bH.map Rc.out,b.length<=1000)(hn:bH.length<=256)(hK:gY w)(hF:gZ w) :
  Calls Tryz.prog 32 #[.slice a0 bH.length c0] w λe w'=>e=.returned (.agg (cB (QK bH)).toArray)/\Below w.heap.size w w':=by
 have:=DB a0 c0 (bH.map Rc.out) (QK bH) w (by
  by_cases h0:bH=[]
  ·subst h0;exact .inl ⟨rfl,by unfold QK QS;simp⟩
  ·refine .inr (J4 ?_);rw[List.length_map,List.length_map];exact Nat.pos_of_ne_zero (λe=>h0 (List.length_eq_zero_iff.1 e))) hA hl (by rw[List.length_map];exact hn) hK hF
 rwa [List.length_map] at this
theorem EK{base:Nat}{w:World}{l:Nat}{V:LV}{P:LP}(h:d9 base w l V P)(s:ByteArray)(q:P6)(root file:List UInt8)(t:Int)(h1:root.length=32)(h2:file.length=32)(Q:World->Ending->World->Prop)(hQ:∀ W e w',Q W e w'->e=.returned .nilIface)(hput:∀ W,Below w.heap.size w W->Calls Tryz.prog 81 #[.pointer (some ⟨l,0,none⟩),.agg (Jg (P.m.its.length:Int) s q root file t).list.toArray] W (Q W)) :
  Calls Tryz.prog 36 #[.pointer (some ⟨l,0,none⟩),.string s,.agg q.list.toArray,.agg (cB root).toArray,.agg (cB file).toArray,.int .i64 t] w (λe w'=>e=.returned (.tuple #[.int .i64 (P.m.its.length:Int),.nilIface])/\∃ W,Below w.heap.size w W/\Q W (.returned .nilIface) w'):=by
 have hbd:=Hd (λ(n:Int) W=>Kb n s q root file t h1 h2 W);have iP:(Tryz.prog.info? 45).map (·.size)=some q.list.toArray.size:=kX;have iR:(Tryz.prog.info? 47).map (·.size)=some (cB root).toArray.size:=by rw[List.size_toArray,Zc,h1];kernel_rfl
 have iF:(Tryz.prog.info? 47).map (·.size)=some (cB file).toArray.size:=by rw[List.size_toArray,Zc,h2];kernel_rfl
 generalize q.list.toArray=PA at*;generalize (cB root).toArray=RA at*;generalize (cB file).toArray=FA at*;obtain⟨a4,c4,a5,c5,hsh⟩:=h.st.shape;simp only[Value.agg.injEq,Array.mk.injEq,List.cons.injEq,and_true] at hsh;obtain⟨hsI,je⟩:=hsh;obtain⟨b8,b9,b10,hs3,hB⟩:=Qb w PA RA FA 45 47 47 _ rfl;obtain⟨w1,hw1⟩:∃ w1,w1=((w.alloc (.cells PA 45)).alloc (.cells RA 47)).alloc (.cells FA 47):=⟨_,rfl⟩;rw[<-hw1] at b8 b9 b10 hs3 hB;have hl1:=h.below hB;obtain⟨N,hN⟩:=aA P.m.its.length;have c1:w1.cell? ⟨l,1,none⟩=some (.slice a4 N c4):=by rw[Za hl1.at_,hN,<-hsI];rfl
 rw[<-hN] at hput ⊢;obtain⟨X,hX⟩:∃ X,X=(Jg (N:Int) s q root file t).list.toArray:=⟨_,rfl⟩;have hbN:=Hd (λW=>hbd.out (N:Int) W);rw[<-hX] at hput hbN;replace hput:=Hd hput;replace hX:=Hd hX;replace hw1:=Hd hw1;replace b8:=Hd b8;replace b9:=Hd b9;replace b10:=Hd b10;replace hB:=Hd hB;replace hN:=Hd hN;clear h hl1 hs3 hsI je h1 h2;go_enter Tryz.func36,Tryz.ntmps36;go_upto_region 1 with fail;rw[<-hw1.out];go_wp2_with (first
  | ((with_reducible refine wL (.load 45 (.tmp 8)) ?_);refine Ze rfl 45 (.tmp 8) rfl w.heap.size PA _ rfl b8 Tryz.underlying45 rfl iP ?_)
  | ((with_reducible refine wL (.load 47 (.tmp 9)) ?_);refine Ze rfl 47 (.tmp 9) rfl (w.heap.size+1) RA _ rfl b9 Tryz.underlying47 rfl iR ?_)
  | ((with_reducible refine wL (.load 47 (.tmp 10)) ?_);refine Ze rfl 47 (.tmp 10) rfl (w.heap.size+2) FA _ rfl b10 Tryz.underlying47 rfl iF ?_)
  | ((with_reducible refine wL (.build 49 _) ?_);refine Z4 rfl 49 [(0,.const (.int .i64 1)),(1,.tmp 23),(3,.tmp 24),(4,.tmp 25),(5,.tmp 26),(6,.tmp 27),(10,.tmp 28)] rfl [(0,.int .i64 1),(1,.int .i64 (N:Int)),(3,.string s),(4,.agg PA),(5,.agg RA),(6,.agg FA),(10,.int .i64 t)] rfl _ (hbN.out _) ?_))
 with_reducible refine(hput.out _ hB.out).mono ?_
 clear hput;rintro e w2 hq;obtain rfl:=hQ _ _ _ hq;replace hq:=Hd hq;clear hQ c1;go_wp2_with fail;go_ret2;exact⟨rfl,_,hB.out,hq.out⟩
theorem CS{base:Nat}{w:World}{l:Nat}{V:LV}{P:LP}(h:d9 base w l V P)(s:ByteArray)(q:P6)(root file:List UInt8)(t:Int)(h1:root.length=32)(h2:file.length=32)(ea:Nat->Addr)(k:Nat)(hk:k≠0)(hput:∀ W,Below w.heap.size w W->Calls Tryz.prog 81 #[.pointer (some ⟨l,0,none⟩),.agg (Jg (P.m.its.length:Int) s q root file t).list.toArray] W (λe w'=>∃ v,e=.returned v/\aT ea w' v k/\Below W.heap.size W w')) :
  Calls Tryz.prog 36 #[.pointer (some ⟨l,0,none⟩),.string s,.agg q.list.toArray,.agg (cB root).toArray,.agg (cB file).toArray,.int .i64 t] w (λe w'=>∃ v,e=.returned (.tuple #[.int .i64 0,v])/\aT ea w' v k/\Below w.heap.size w w'):=by
 have hbd:=Hd (λ(n:Int) W=>Kb n s q root file t h1 h2 W);have iP:(Tryz.prog.info? 45).map (·.size)=some q.list.toArray.size:=kX;have iR:(Tryz.prog.info? 47).map (·.size)=some (cB root).toArray.size:=by rw[List.size_toArray,Zc,h1];kernel_rfl
 have iF:(Tryz.prog.info? 47).map (·.size)=some (cB file).toArray.size:=by rw[List.size_toArray,Zc,h2];kernel_rfl
 generalize q.list.toArray=PA at*;generalize (cB root).toArray=RA at*;generalize (cB file).toArray=FA at*;obtain⟨a4,c4,a5,c5,hsh⟩:=h.st.shape;simp only[Value.agg.injEq,Array.mk.injEq,List.cons.injEq,and_true] at hsh;obtain⟨hsI,je⟩:=hsh;obtain⟨b8,b9,b10,hs3,hB⟩:=Qb w PA RA FA 45 47 47 _ rfl;obtain⟨w1,hw1⟩:∃ w1,w1=((w.alloc (.cells PA 45)).alloc (.cells RA 47)).alloc (.cells FA 47):=⟨_,rfl⟩;rw[<-hw1] at b8 b9 b10 hs3 hB;have hl1:=h.below hB;obtain⟨N,hN⟩:=aA P.m.its.length;have c1:w1.cell? ⟨l,1,none⟩=some (.slice a4 N c4):=by rw[Za hl1.at_,hN,<-hsI];rfl
 rw[<-hN] at hput;obtain⟨X,hX⟩:∃ X,X=(Jg (N:Int) s q root file t).list.toArray:=⟨_,rfl⟩;have hbN:=Hd (λW=>hbd.out (N:Int) W);rw[<-hX] at hput hbN;replace hput:=Hd hput;replace hX:=Hd hX;replace hw1:=Hd hw1;replace b8:=Hd b8;replace b9:=Hd b9;replace b10:=Hd b10;replace hB:=Hd hB;replace hN:=Hd hN;clear h hl1 hs3 hsI je h1 h2;go_enter Tryz.func36,Tryz.ntmps36;go_upto_region 1 with fail;rw[<-hw1.out];go_wp2_with (first
  | ((with_reducible refine wL (.load 45 (.tmp 8)) ?_);refine Ze rfl 45 (.tmp 8) rfl w.heap.size PA _ rfl b8 Tryz.underlying45 rfl iP ?_)
  | ((with_reducible refine wL (.load 47 (.tmp 9)) ?_);refine Ze rfl 47 (.tmp 9) rfl (w.heap.size+1) RA _ rfl b9 Tryz.underlying47 rfl iR ?_)
  | ((with_reducible refine wL (.load 47 (.tmp 10)) ?_);refine Ze rfl 47 (.tmp 10) rfl (w.heap.size+2) FA _ rfl b10 Tryz.underlying47 rfl iF ?_)
  | ((with_reducible refine wL (.build 49 _) ?_);refine Z4 rfl 49 [(0,.const (.int .i64 1)),(1,.tmp 23),(3,.tmp 24),(4,.tmp 25),(5,.tmp 26),(6,.tmp 27),(10,.tmp 28)] rfl [(0,.int .i64 1),(1,.int .i64 (N:Int)),(3,.string s),(4,.agg PA),(5,.agg RA),(6,.agg FA),(10,.int .i64 t)] rfl _ (hbN.out _) ?_))
 with_reducible refine(hput.out _ hB.out).mono ?_
 clear hput;rintro e w2 ⟨v,rfl,hv,hb2⟩;have hnq:=hv.neq;have hgd:=hv.guard;rw[show (k != 0)=true from by simpa using hk] at hnq;have hB2:=Hd (hB.out.trans (hb2.mono hB.out.size));replace hv:=Hd hv;clear hb2 hk c1;go_wp2_with fail;go_ret2;exact⟨_,rfl,hv.out,hB2.out⟩
def HI(w:World)(n:Nat)(e:Ending)(w':World):Prop:=
 ∃ l V,e=.returned (.tuple #[.pointer (some ⟨l,0,none⟩),.pointer (some ⟨V.B,0,none⟩)])/\d9 w.heap.size w' l V (LP.new n)/\V.mn<=20000/\Below w.heap.size w w'
theorem Mj(n:Nat)(w:World)(h1:1<=n)(hn:n<=1000)(e:Nat->Addr)(hE:dJ w e)(hK:bP w)(hF:bZ w)(ea:Nat->Addr)(H:aQ 298 aK w ea) :
  Calls Tryz.prog 21 #[.int .i64 (n:Int)] w (HI w n):=by
 have hnw:=Hd (B0 (n:Int) aB aB w);have hd:=EI (n:Int) w w.heap.size nZ;have hB2:13<w.heap.size:=World.block_lt_of_cell? w _ hE.power;have hb1:Below w.heap.size w ((w.alloc (.map #[] 0)).alloc (.cells (Q7 (n:Int) w.heap.size (.slice none 0 0) false 0 false) 120)):=(bR.alloc nZ _).alloc sX _;generalize hW1:(w.alloc (.map #[] 0)).alloc (.cells (Q7 (n:Int) w.heap.size (.slice none 0 0) false 0 false) 120)=w1 at*;have j6:13≠w.heap.size+1:=aB;have hlo:=Hd (Pp n hd hb1.size h1 hn dX e j6 (λW hW=>hE.below (hb1.trans hW)) (hK.below hb1) (hF.below hb1) ea (H.below hb1) (λW hW=>H.below (hb1.trans hW)));replace hb1:=Hd hb1;replace hW1:=Hd hW1;clear hd j6 hB2 hE hK hF H h1 hn;go_enter Tryz.func21,Tryz.ntmps21;go_wp2_with fail;with_reducible refine hnw.out.mono ?_
 rintro x w' ⟨rfl,hq⟩;obtain rfl:w1=w':=hq.symm;clear hq hnw hW1;go_wp2_with fail;with_reducible refine hlo.out.mono ?_
 clear hlo;rintro x w2 ⟨l,V,rfl,hL,OM,hVm,jO,hb2⟩;have hB2:=Hd (hb1.out.trans hb2);replace hL:=Hd hL;go_wp2_with fail;go_ret2;exact⟨l,V,by rw[OM];rfl,hL.out,aB,hB2.out⟩
def nu:Rc:=Jg 0 ⟨#[97]⟩ ⟨3,0,1,1,1,0⟩ (List.replicate 32 0) (List.replicate 32 0) 0
theorem EU:nu.Ok:=⟨dX,dX,dX,dX,⟨dX,dX,dX,dX,dX,dX⟩,dX,dX,dX,dX,dX,dX⟩
theorem RV:Zm ⟨[],[]⟩ nu=(⟨[nu.it],[]⟩,0):=kX
def rcB:Rc:=Jg 1 ⟨#[97]⟩ ⟨3,0,1,1,1,0⟩ (List.replicate 32 0) (List.replicate 32 0) 0
theorem Fj:rcB.Ok:=⟨dX,dX,dX,dX,⟨dX,dX,dX,dX,dX,dX⟩,dX,dX,dX,dX,dX,dX⟩
theorem CN:(Zm ⟨[nu.it],[]⟩ rcB).2=10:=kX
theorem NG:nu.out.length=92:=kX
theorem d9.powB{base:Nat}{w:World}{l:Nat}{V:LV}{P:LP}(h:d9 base w l V P)(hb:13<base):13≠V.B:=λe=>by
 have:=(h.lt V.B (.inr (.inr (.inr (.inr (.inl rfl)))))).1;omega
theorem Cz{base:Nat}{w:World}{l:Nat}{V:LV}{P:LP}(h:d9 base w l V P)(hb:base<=w.heap.size)(x:Rc)(hx:x.Ok)(l1:P.m.its.length<=1000)(l2:P.m.ens.length<=1000)(hub:∀ y∈P.m.its,y.u<=1000000/\y.r<=1000000)(ea:Nat->Addr)(H:aQ 298 aK w ea)(hn:(Zm P.m x).2=0)(hk1:x.kind=1)
  (nn:Nat) (hG:Good P.p nn P.recs) (hnn:nn<=1000) (jO:V.mn<=50000) (hpl : -200000<=P.p.l/\P.p.l<=200000) (hd:P.dead=false) (e:Nat->Addr) (hE:∀ W,Below base w W->dJ W e) (hK:bP w) (hF:bZ w) (hKb:∀ W,Below base w W->bP W/\bZ W) (hpw:13<base) (hfit:Zn P.recs+(34+x.out.length)<=64*nn) (h1o:1<=x.out.length) (Oe:x.out.length<=400) (h2:P.n % 2=0) (hn2:P.n<=1000000) (hps:P.ps.length<=1000000) :
  Calls Tryz.prog 81 #[.pointer (some ⟨l,0,none⟩),.agg x.list.toArray] w (MS base w l V P nn (Zm P.m x).1 x.out (P.ps++[Zr x.out])):=by
 refine Fg h hb x hx l1 l2 hub ea H hn nn _ (λW hW=>HY x hx hk1 (WX hn) ea W (H.below hW)) (λW a c hW hA Ap=>?_) (λW a c hW hf hA=>?_)
 ·have hWb:Below base w W:=hW.mono hb;have hj:=(h.below hW).jd;rw[hd] at hj;have hlt:=λk hk=>(h.lt k hk).2;exact CD hj (Nat.le_trans hb hW.size) nn hG hnn jO hpl e (h.powB hpw) (λW' hW'=>hE W' (hWb.trans hW')) (hKb W hWb).1 (hKb W hWb).2 x.out h1o Oe hfit a c hA (λb o s eq=>by
   obtain⟨q1,q2⟩:=Ap b o s eq;exact⟨λhh=>by have:=hlt b (.inr (.inr (.inr (.inl hh))));omega,λhh=>by have:=hlt b (.inr (.inr (.inr (.inr hh))));omega,q2⟩)
 ·exact UU hf (Nat.le_trans hb hW.size) h2 hn2 hps a c x.out hA aB (hKb W hW).1 (hKb W hW).2
theorem T0(w:World)(e:Nat->Addr)(hE:dJ w e)(hK:bP w)(hF:bZ w)(ea:Nat->Addr)(H:aQ 298 aK w ea):Calls Tryz.prog 7 #[] w λx w'=>x=.returned (.bool true)/\Below w.heap.size w w':=by
 have hfr:Calls Tryz.prog 21 #[.int .i64 20] w (HI w 20):=Mj 20 w dX dX e hE hK hF ea H;replace hfr:=Hd hfr;have hpw:13<w.heap.size:=World.block_lt_of_cell? w _ hE.power;have hKb:∀ W,Below w.heap.size w W->bP W/\bZ W:=λW hW=>⟨hK.below hW,hF.below hW⟩;have fe:∀ W,Below w.heap.size w W->dJ W e:=λW hW=>hE.below hW;have wG:∀ W,Below w.heap.size w W->aQ 298 aK W ea:=λW hW=>H.below hW
 have hA1:=Hd (λ(w1:World) (l:Nat) (V:LV) (hb1:Below w.heap.size w w1) (h:d9 w.heap.size w1 l V (LP.new 20)) (jO:V.mn<=20000)=>show Calls Tryz.prog 36 #[.pointer (some ⟨l,0,none⟩),.string ⟨#[97]⟩,.agg #[.int .i64 3,.int .i64 0,.int .i64 1,.int .i64 1,.int .i64 1,.int .i64 0],.agg #[.int .u8 0,.int .u8 0,.int .u8 0,.int .u8 0,.int .u8 0,.int .u8 0,.int .u8 0,.int .u8 0,.int .u8 0,.int .u8 0,.int .u8 0,.int .u8 0,.int .u8 0,.int .u8 0,.int .u8 0,.int .u8 0,.int .u8 0,.int .u8 0,.int .u8 0,.int .u8 0,.int .u8 0,.int .u8 0,.int .u8 0,.int .u8 0,.int .u8 0,.int .u8 0,.int .u8 0,.int .u8 0,.int .u8 0,.int .u8 0,.int .u8 0,.int .u8 0],.agg #[.int .u8 0,.int .u8 0,.int .u8 0,.int .u8 0,.int .u8 0,.int .u8 0,.int .u8 0,.int .u8 0,.int .u8 0,.int .u8 0,.int .u8 0,.int .u8 0,.int .u8 0,.int .u8 0,.int .u8 0,.int .u8 0,.int .u8 0,.int .u8 0,.int .u8 0,.int .u8 0,.int .u8 0,.int .u8 0,.int .u8 0,.int .u8 0,.int .u8 0,.int .u8 0,.int .u8 0,.int .u8 0,.int .u8 0,.int .u8 0,.int .u8 0,.int .u8 0],.int .i64 0] w1 (λe w'=>e=.returned (.tuple #[.int .i64 0,.nilIface])/\∃ W,Below w1.heap.size w1 W/\MS w.heap.size W l V (LP.new 20) 20 ⟨[nu.it],[]⟩ nu.out ([]++[Zr nu.out]) (.returned .nilIface) w') from
  EK h ⟨#[97]⟩ ⟨3,0,1,1,1,0⟩ (List.replicate 32 0) (List.replicate 32 0) 0 dX dX (λW e w'=>MS w.heap.size W l V (LP.new 20) 20 ⟨[nu.it],[]⟩ nu.out ([]++[Zr nu.out]) e w') (λW e w' hq=>hq.1) (λW hW=>by
   have hbW:Below w.heap.size w W:=hb1.trans (hW.mono hb1.size);have:=Cz (h.below hW) hbW.size nu EU dX dX (λy hy=>absurd hy List.not_mem_nil) ea (wG W hbW) (by show (Zm ⟨[],[]⟩ nu).2=0;rw[RV]) rfl 20 (Gt 20) dX aB ⟨by show (-200000:Int)<=0;decide,by show (0:Int)<=200000;decide⟩ rfl e (λW' hW'=>fe W' (hbW.trans hW')) (hKb W hbW).1 (hKb W hbW).2 (λW' hW'=>hKb W' (hbW.trans hW')) hpw (by rw[NG];decide) (by rw[NG];decide) (by rw[NG];decide) rfl dX dX;rw[show (Zm (LP.new 20).m nu).1=(⟨[nu.it],[]⟩:St) from by show (Zm ⟨[],[]⟩ nu).1=_;rw[RV]] at this;exact this))
 have hA2:=Hd (λ(w1:World) (l:Nat) (V:LV) (P:LP) (hb1:Below w.heap.size w w1) (h:d9 w.heap.size w1 l V P) (hm:P.m=⟨[nu.it],[]⟩)=>show Calls Tryz.prog 36 #[.pointer (some ⟨l,0,none⟩),.string ⟨#[97]⟩,.agg #[.int .i64 3,.int .i64 0,.int .i64 1,.int .i64 1,.int .i64 1,.int .i64 0],.agg #[.int .u8 0,.int .u8 0,.int .u8 0,.int .u8 0,.int .u8 0,.int .u8 0,.int .u8 0,.int .u8 0,.int .u8 0,.int .u8 0,.int .u8 0,.int .u8 0,.int .u8 0,.int .u8 0,.int .u8 0,.int .u8 0,.int .u8 0,.int .u8 0,.int .u8 0,.int .u8 0,.int .u8 0,.int .u8 0,.int .u8 0,.int .u8 0,.int .u8 0,.int .u8 0,.int .u8 0,.int .u8 0,.int .u8 0,.int .u8 0,.int .u8 0,.int .u8 0],.agg #[.int .u8 0,.int .u8 0,.int .u8 0,.int .u8 0,.int .u8 0,.int .u8 0,.int .u8 0,.int .u8 0,.int .u8 0,.int .u8 0,.int .u8 0,.int .u8 0,.int .u8 0,.int .u8 0,.int .u8 0,.int .u8 0,.int .u8 0,.int .u8 0,.int .u8 0,.int .u8 0,.int .u8 0,.int .u8 0,.int .u8 0,.int .u8 0,.int .u8 0,.int .u8 0,.int .u8 0,.int .u8 0,.int .u8 0,.int .u8 0,.int .u8 0,.int .u8 0],.int .i64 0] w1 (λe w'=>∃ v,e=.returned (.tuple #[.int .i64 0,v])/\aT ea w' v 10/\Below w1.heap.size w1 w') from
  CS h ⟨#[97]⟩ ⟨3,0,1,1,1,0⟩ (List.replicate 32 0) (List.replicate 32 0) 0 dX dX ea 10 dX (λW hW=>by
   have hbW:Below w.heap.size w W:=hb1.trans (hW.mono hb1.size);have h2:(Zm P.m rcB).2=10:=by rw[hm];exact CN
   have:=RX (h.below hW) rcB Fj (by rw[hm];decide) (by rw[hm];decide) (λy hy=>by rw[hm] at hy;rw[List.mem_singleton.1 hy];exact⟨dX,dX⟩) ea (wG W hbW) (by rw[h2];decide);rw[h2] at this;rw[hm];exact this))
 replace wG:=Hd wG;clear hE hK hF H hpw hKb fe;go_enter Tryz.func7,Tryz.ntmps7;go_wp2_with fail;with_reducible refine hfr.out.mono ?_
 clear hfr;rintro x w1 ⟨l,V,rfl,hL1,hmn1,hb1⟩;obtain⟨w2,hw2⟩:∃ w2,w2=w1.alloc (.cells #[.int .i64 3,.int .i64 0,.int .i64 1,.int .i64 1,.int .i64 1,.int .i64 0] 45):=⟨_,rfl⟩;have hG2:Below w1.heap.size w1 w2:=by rw[hw2];exact bR.alloc nZ _
 have aP2:w2.heap[w1.heap.size]? = some (.cells #[.int .i64 3,.int .i64 0,.int .i64 1,.int .i64 1,.int .i64 1,.int .i64 0] 45 (0,0)):=by rw[hw2];exact heap_alloc_new w1 _
 have hB2:Below w.heap.size w w2:=hb1.trans (hG2.mono hb1.size);have hc1:=Hd (hA1.out w2 l V hB2 (hL1.below hG2) hmn1);have hlt:=Hd (λk (hk:kZ l V k)=>(hL1.lt k hk).2);have hL2:=Hd (hL1.below hG2);have iP:(Tryz.prog.info? 45).map (·.size)=some (#[.int .i64 3,.int .i64 0,.int .i64 1,.int .i64 1,.int .i64 1,.int .i64 0]:Array Value).size:=kX;replace hw2:=Hd hw2;replace aP2:=Hd aP2;replace hB2:=Hd hB2;clear hA1 hL1 hb1 hG2 hmn1;go_wp2_with fail;rw[<-hw2.out];with_reducible refine hc1.out.mono ?_
 clear hc1;rintro x w3 ⟨rfl,W,hW,hput⟩;obtain⟨-,V',p',hst,-,OM,-,-,-,-,-,-⟩:=hput;have hLW:=hL2.out.below hW;have hBW:=hB2.out.trans (hW.mono hB2.out.size);have hB3:=hBW.trans (hst.below hLW hBW.size);have aP3:=Hd (hst.only.heap ((hW.block _ (Zb aP2.out)).trans aP2.out) (λhd=>by have:=hlt.out _ hd;omega));have hL3:=hst.ok;have hc2:=Hd (hA2.out w3 l V' _ hB3 hL3 rfl);replace hL3:=Hd hL3;replace hB3:=Hd hB3;clear hst hLW hBW hW hA2;go_wp2_with ((with_reducible refine wL (.load 45 (.tmp 3)) ?_);refine Ze rfl 45 (.tmp 3) rfl w1.heap.size #[.int .i64 3,.int .i64 0,.int .i64 1,.int .i64 1,.int .i64 1,.int .i64 0] _ rfl aP3 Tryz.underlying45 rfl iP ?_);with_reducible refine hc2.out.mono ?_
 clear hc2;rintro x w4 ⟨v,rfl,hv,hb4⟩;have hB4:=hB3.out.trans (hb4.mono hB3.out.size);have hL4:=Hd (hL3.out.below hb4);have j5:=Hd (HN hv (wG.out w4 hB4));replace hB4:=Hd hB4;clear hv hb4;go_wp2_with fail;with_reducible refine j5.out.mono ?_
 clear j5;rintro x w5 ⟨rfl,hb5⟩;have jX:=Hd (hB4.out.trans (hb5.mono hB4.out.size));have hsp:=Hd (Kd (hL4.out.below hb5) (by show 1<=1000;decide) (by show 0<=1000;decide));clear hb5;go_wp2_with fail;with_reducible refine hsp.out.mono ?_
 clear hsp;rintro x w6 ⟨v6,v6',rfl,ni,nk,hb6⟩;obtain⟨a6,c6,hv6,_⟩:=ni.form;replace hv6:v6=.slice a6 1 c6:=hv6;subst hv6;obtain⟨a7,c7,hv7,_⟩:=nk.form;replace hv7:v6'=.slice a7 0 c7:=hv7;subst hv7;have hfd:∀ W,(Instr.field 28 (.agg #[.slice a6 1 c6,.slice a7 0 c7]) 0).run Tryz.prog W=.ok (.slice a6 1 c6) W:=λW=>by kernel_rfl
 have uq:=Hd (jX.out.trans (hb6.mono jX.out.size));clear hb6 ni nk;go_wp2_with fail;go_ret;exact⟨rfl,uq.out⟩
end Go.Proofs.YtpdhceiodgnbmaaGreatDoor
