import Derived.Test.YtpdhceiodgnbmaaGreatDoorF0Safe21Said
import Derived.Test.YtpdhceiodgnbmaaGreatDoorF1Safe21Said
import Derived.Test.YtpdhceiodgnbmaaGreatDoorF23Safe21Said
import Derived.Test.YtpdhceiodgnbmaaGreatDoorF22Safe21Said
import Derived.Test.YtpdhceiodgnbmaaGreatDoorF15Safe21Said
import Derived.WalkKit
import Derived.LaidEql
import Derived.Stop.Asserts
import Derived.RowKitTokens
import Derived.Test.YtpdhceiodgnbmaaGreatDoorF14Safe21Said
import Derived.Test.YtpdhceiodgnbmaaGreatDoorF20Safe21Said
import Derived.Test.YtpdhceiodgnbmaaGreatDoorF8Safe21Said
set_option linter.unusedVariables false
set_option linter.unusedSimpArgs false
set_option linter.unnecessarySimpa false
set_option maxRecDepth 100000
set_option maxHeartbeats 8000000
namespace Go.Proofs.YtpdhceiodgnbmaaGreatDoor
open Go.RowKit
set_option linter.unusedSimpArgs false
def DoQ(base:Nat)(Q:World->Value->World->Prop)(w:World)(e:Ending)(w':World):Prop:=∃ (k:Nat) (W:World) (v:Value) (w1:World),e=.returned (.int .i64 (k:Int))/\Below w.heap.size w W/\Q W v w1/\Below w1.heap.size w1 w'/\((k=0/\v=.nilIface)\/(k≠0/\JI v))
theorem CQ{base:Nat}{v:Value}{w w':World}(h:v=.nilIface\/BadE base v w)(hb:Below w.heap.size w w')(hB:base<=w.heap.size):Calls Tryz.prog 10 #[v] w' λe w2=>∃ k:Nat,e=.returned (.int .i64 (k:Int))/\Below w'.heap.size w' w2/\((k=0/\v=.nilIface)\/(k≠0/\JI v)):=by
 rcases h with rfl|h
 ·refine(Ni w').mono ?_
  rintro e w2 ⟨rfl,rfl⟩
  exact⟨0,rfl,Below.refl _ _,.inl ⟨rfl,rfl⟩⟩
 ·refine(h.2 w' (Soft.ofBelow hb hB)).mono ?_
  rintro e w2 ⟨k,hk,_,rfl,hb⟩
  exact⟨k,rfl,hb,.inr ⟨hk,h.1⟩⟩
theorem LX{base:Nat}{v:Value}{w:World}(h:v=.nilIface\/BadE base v w):Calls Tryz.prog 10 #[v] w λe w'=>∃ k:Nat,e=.returned (.int .i64 (k:Int))/\Below w.heap.size w w'/\((k=0/\v=.nilIface)\/(k≠0/\JI v)):=by
 rcases h with rfl|h
 ·refine(Ni w).mono ?_
  rintro e w' ⟨rfl,rfl⟩
  exact⟨0,rfl,Below.refl _ _,.inl ⟨rfl,rfl⟩⟩
 ·refine(h.2 w (Soft.refl _ _)).mono ?_
  rintro e w' ⟨k,hk,_,rfl,hb⟩
  exact⟨k,rfl,hb,.inr ⟨hk,h.1⟩⟩
theorem Cc{base:Nat}{w:World}(l:Nat)(x:ActL)(hx:x.Ok)(hk:x.kind=0)(Q:World->Value->World->Prop)(hc:∀ W,Below w.heap.size w W->Calls Tryz.prog 36 #[.pointer (some ⟨l,0,none⟩),.string x.name,.agg x.p.list.toArray,.agg (cB x.t1).toArray,.agg (cB x.t2).toArray,.int .i64 x.tick] W (PQ2 base LY Q W)) :
  Calls Tryz.prog 24 #[.pointer (some ⟨l,0,none⟩),.agg x.list.toArray] w (DoQ base Q w):=by
 obtain⟨w1,hw1⟩:∃ w1,w1=w.alloc (.cells x.list.toArray 80):=⟨_,rfl⟩
 have hB:Below w.heap.size w w1:=by rw[hw1];exact bR.alloc nR _
 have aX:w1.heap[w.heap.size]? = some (.cells x.list.toArray 80 (0,0)):=by rw[hw1];exact heap_alloc_new w _
 have q0:w1.cell? ⟨w.heap.size,0,none⟩=some (.int .i64 x.kind):=by rw[Za aX,List.getElem?_toArray];exact x.c0
 have q1:w1.cell? ⟨w.heap.size,1,none⟩=some (.int .i64 x.obj):=by rw[Za aX,List.getElem?_toArray];exact x.c1
 have q2:w1.cell? ⟨w.heap.size,2,none⟩=some (.int .i64 x.way):=by rw[Za aX,List.getElem?_toArray];exact x.c2
 have q3:w1.cell? ⟨w.heap.size,3,none⟩=some (.int .i64 x.id):=by rw[Za aX,List.getElem?_toArray];exact x.c3
 have q4:w1.cell? ⟨w.heap.size,4,none⟩=some (.int .i64 x.verdict):=by rw[Za aX,List.getElem?_toArray];exact x.c4
 have q5:w1.cell? ⟨w.heap.size,5,none⟩=some (.int .i64 x.tick):=by rw[Za aX,List.getElem?_toArray];exact x.c5
 have q7:w1.cell? ⟨w.heap.size,7,none⟩=some (.string x.name):=by rw[Za aX,List.getElem?_toArray];exact x.c7
 have hrp:=Hd (ZM aX (o:=8) (n:=6) x.sub_p)
 have hr1:=Hd (ZM aX (o:=14) (n:=32) (ActL.sub_1 hx.t1))
 have hr2:=Hd (ZM aX (o:=46) (n:=32) (ActL.sub_2 hx.t1 hx.t2))
 have iP:(Tryz.prog.info? 45).map (·.size)=some x.p.list.length:=kX
 have i1:(Tryz.prog.info? 46).map (·.size)=some (cB x.t1).length:=by rw[Ze,hx.t1];kernel_rfl
 have i2:(Tryz.prog.info? 46).map (·.size)=some (cB x.t2).length:=by rw[Ze,hx.t2];kernel_rfl
 have hcw:=hc w1 hB
 obtain⟨PA,hPA⟩:∃ PA,PA=x.p.list.toArray:=⟨_,rfl⟩
 obtain⟨RA,hRA⟩:∃ RA,RA=(cB x.t1).toArray:=⟨_,rfl⟩
 obtain⟨FA,hFA⟩:∃ FA,FA=(cB x.t2).toArray:=⟨_,rfl⟩
 rw[<-hPA,<-hRA,<-hFA] at hcw
 rw[hk] at q0
 replace hcw:=Hd hcw
 replace hPA:=Hd hPA
 replace hRA:=Hd hRA
 replace hFA:=Hd hFA
 replace hx:=Hd hx
 clear hc aX hk
 obtain⟨XX,hXX⟩:∃ XX,XX=x.list.toArray:=⟨_,rfl⟩
 rw[<-hXX] at hw1
 generalize x.obj=vo at*
 generalize x.way=vw at*
 generalize x.id=vi at*
 generalize x.verdict=vv at*
 generalize x.tick=vt at*
 generalize x.name=vn at*
 rw[<-hXX]
 replace hw1:=Hd hw1
 replace hXX:=Hd hXX
 replace hB:=Hd hB
 go_enter Tryz.func24,Tryz.ntmps24
 go_upto_region 1 with fail
 rw[<-hw1.out]
 go_wp2_with (first
  | ((with_reducible refine wL (.load 45 (.tmp 17)) ?_);refine Z0 rfl 45 (.tmp 17) rfl w.heap.size 8 rfl x.p.list _ hrp.out Tryz.underlying45 rfl iP PA hPA ?_)
  | ((with_reducible refine wL (.load 46 (.tmp 20)) ?_);refine Z0 rfl 46 (.tmp 20) rfl w.heap.size 14 rfl (cB x.t1) _ hr1.out Tryz.underlying46 rfl i1 RA hRA ?_)
  | ((with_reducible refine wL (.load 46 (.tmp 23)) ?_);refine Z0 rfl 46 (.tmp 23) rfl w.heap.size 46 rfl (cB x.t2) _ hr2.out Tryz.underlying46 rfl i2 FA hFA ?_))
 with_reducible refine hcw.out.mono ?_
 clear hcw
 rintro e w6 ⟨WW,u,v,hWW,rfl,⟨n,rfl⟩,hv,hq⟩
 have hnm:=Hd (LX hv)
 replace hq:=Hd hq
 replace hWW:=Hd (hB.out.trans (hWW.mono hB.out.size))
 clear hv
 go_wp2_with fail
 with_reducible refine hnm.out.mono ?_
 clear hnm
 rintro e w7 ⟨k,rfl,hb7,hk7⟩
 replace hb7:=Hd hb7
 replace hk7:=Hd hk7
 go_wp2_with fail
 go_ret
 exact⟨k,_,_,_,rfl,hWW.out,hq.out,hb7.out,hk7.out⟩
theorem H0{base:Nat}{w:World}(l:Nat)(x:ActL)(hk:x.kind=1)(Q:World->Value->World->Prop)(hc:∀ W,Below w.heap.size w W->Calls Tryz.prog 54 #[.pointer (some ⟨l,0,none⟩),.int .i64 x.obj,.int .i64 x.way,.int .i64 x.tick] W (PQ2 base EnV Q W))(hQs:∀ W v w',Q W v w'->base<=w'.heap.size) :
  Calls Tryz.prog 24 #[.pointer (some ⟨l,0,none⟩),.agg x.list.toArray] w (DoQ base Q w):=by
 obtain⟨w1,hw1⟩:∃ w1,w1=w.alloc (.cells x.list.toArray 80):=⟨_,rfl⟩
 have hB:Below w.heap.size w w1:=by rw[hw1];exact bR.alloc nR _
 have aX:w1.heap[w.heap.size]? = some (.cells x.list.toArray 80 (0,0)):=by rw[hw1];exact heap_alloc_new w _
 have q0:w1.cell? ⟨w.heap.size,0,none⟩=some (.int .i64 x.kind):=by rw[Za aX,List.getElem?_toArray];exact x.c0
 have q1:w1.cell? ⟨w.heap.size,1,none⟩=some (.int .i64 x.obj):=by rw[Za aX,List.getElem?_toArray];exact x.c1
 have q2:w1.cell? ⟨w.heap.size,2,none⟩=some (.int .i64 x.way):=by rw[Za aX,List.getElem?_toArray];exact x.c2
 have q3:w1.cell? ⟨w.heap.size,3,none⟩=some (.int .i64 x.id):=by rw[Za aX,List.getElem?_toArray];exact x.c3
 have q4:w1.cell? ⟨w.heap.size,4,none⟩=some (.int .i64 x.verdict):=by rw[Za aX,List.getElem?_toArray];exact x.c4
 have q5:w1.cell? ⟨w.heap.size,5,none⟩=some (.int .i64 x.tick):=by rw[Za aX,List.getElem?_toArray];exact x.c5
 have q7:w1.cell? ⟨w.heap.size,7,none⟩=some (.string x.name):=by rw[Za aX,List.getElem?_toArray];exact x.c7
 have hcw:=hc w1 hB
 rw[hk] at q0
 replace hcw:=Hd hcw
 clear hc aX hk
 obtain⟨XX,hXX⟩:∃ XX,XX=x.list.toArray:=⟨_,rfl⟩
 rw[<-hXX] at hw1
 generalize x.obj=vo at*
 generalize x.way=vw at*
 generalize x.id=vi at*
 generalize x.verdict=vv at*
 generalize x.tick=vt at*
 generalize x.name=vn at*
 rw[<-hXX]
 replace hw1:=Hd hw1
 replace hXX:=Hd hXX
 replace hB:=Hd hB
 go_enter Tryz.func24,Tryz.ntmps24
 go_upto_region 1 with fail
 rw[<-hw1.out]
 go_wp2_with fail
 with_reducible refine hcw.out.mono ?_
 clear hcw
 rintro e w6 ⟨WW,u,v,hWW,rfl,⟨y,rfl⟩,hv,hq⟩
 obtain⟨YA,hYA⟩:∃ YA,YA=y.list.toArray:=⟨_,rfl⟩
 have iY:(Tryz.prog.info? 66).map (·.size)=some YA.size:=by rw[hYA];kernel_rfl
 have sY:(#[.int .i64 0,.int .i64 0,.int .i64 0,.int .i64 0,.int .i64 0,.int .i64 0,.int .i64 0]:Array Value).size=YA.size:=by rw[hYA];rfl
 have h1Y:YA.all (·.oneCell')=true:=by rw[hYA];exact Go.Proofs.YtpdhceiodgnbmaaGreatDoor.all_one (En.list_one _)
 rw[<-hYA]
 have hZ6:=Hd (heap_alloc_new w6 (.cells #[.int .i64 0,.int .i64 0,.int .i64 0,.int .i64 0,.int .i64 0,.int .i64 0,.int .i64 0] 66))
 have hsz6:=Hd (hQs _ _ _ hq)
 replace hYA:=Hd hYA
 replace hv:=Hd hv
 replace hq:=Hd hq
 replace hWW:=Hd (hB.out.trans (hWW.mono hB.out.size))
 go_wp2_with ((with_reducible refine wL (.store 66 (.tmp 7) _) ?_);(refine Zc rfl 66 (.tmp 7) (.tmp 43) rfl w6.heap.size _ YA rfl rfl hZ6 iY sY h1Y ?_);intro w9 hU9;have hb9:=Hd (show Below w6.heap.size w6 w9 from(Below.alloc (Below.refl w6.heap.size w6) nR _).trans (hU9.out.below nR)))
 have hnm:=Hd (CQ hv.out hb9.out hsz6.out)
 with_reducible refine hnm.out.mono ?_
 clear hnm
 rintro e w7 ⟨k,rfl,hb7,hk7⟩
 have hb76:=Hd (hb9.out.trans (hb7.mono hb9.out.size))
 replace hk7:=Hd hk7
 clear hb7
 go_wp2_with fail
 go_ret
 exact⟨k,_,_,_,rfl,hWW.out,hq.out,hb76.out,hk7.out⟩
theorem Bm{base:Nat}{w:World}(l:Nat)(x:ActL)(hk:x.kind=4)(Q:World->Value->World->Prop)(hc:∀ W,Below w.heap.size w W->Calls Tryz.prog 55 #[.pointer (some ⟨l,0,none⟩),.int .i64 x.obj,.int .i64 x.tick] W (PQR base Q W)) :
  Calls Tryz.prog 24 #[.pointer (some ⟨l,0,none⟩),.agg x.list.toArray] w (DoQ base Q w):=by
 obtain⟨w1,hw1⟩:∃ w1,w1=w.alloc (.cells x.list.toArray 80):=⟨_,rfl⟩
 have hB:Below w.heap.size w w1:=by rw[hw1];exact bR.alloc nR _
 have aX:w1.heap[w.heap.size]? = some (.cells x.list.toArray 80 (0,0)):=by rw[hw1];exact heap_alloc_new w _
 have q0:w1.cell? ⟨w.heap.size,0,none⟩=some (.int .i64 x.kind):=by rw[Za aX,List.getElem?_toArray];exact x.c0
 have q1:w1.cell? ⟨w.heap.size,1,none⟩=some (.int .i64 x.obj):=by rw[Za aX,List.getElem?_toArray];exact x.c1
 have q2:w1.cell? ⟨w.heap.size,2,none⟩=some (.int .i64 x.way):=by rw[Za aX,List.getElem?_toArray];exact x.c2
 have q3:w1.cell? ⟨w.heap.size,3,none⟩=some (.int .i64 x.id):=by rw[Za aX,List.getElem?_toArray];exact x.c3
 have q4:w1.cell? ⟨w.heap.size,4,none⟩=some (.int .i64 x.verdict):=by rw[Za aX,List.getElem?_toArray];exact x.c4
 have q5:w1.cell? ⟨w.heap.size,5,none⟩=some (.int .i64 x.tick):=by rw[Za aX,List.getElem?_toArray];exact x.c5
 have q7:w1.cell? ⟨w.heap.size,7,none⟩=some (.string x.name):=by rw[Za aX,List.getElem?_toArray];exact x.c7
 have hcw:=hc w1 hB
 rw[hk] at q0
 replace hcw:=Hd hcw
 clear hc aX hk
 obtain⟨XX,hXX⟩:∃ XX,XX=x.list.toArray:=⟨_,rfl⟩
 rw[<-hXX] at hw1
 generalize x.obj=vo at*
 generalize x.way=vw at*
 generalize x.id=vi at*
 generalize x.verdict=vv at*
 generalize x.tick=vt at*
 generalize x.name=vn at*
 rw[<-hXX]
 replace hw1:=Hd hw1
 replace hXX:=Hd hXX
 replace hB:=Hd hB
 go_enter Tryz.func24,Tryz.ntmps24
 go_upto_region 1 with fail
 rw[<-hw1.out]
 go_wp2_with fail
 with_reducible refine hcw.out.mono ?_
 clear hcw
 rintro e w6 ⟨WW,hWW,v,rfl,hv,hq⟩
 have hnm:=Hd (LX hv)
 replace hq:=Hd hq
 replace hWW:=Hd (hB.out.trans (hWW.mono hB.out.size))
 clear hv
 go_wp2_with fail
 with_reducible refine hnm.out.mono ?_
 clear hnm
 rintro e w7 ⟨k,rfl,hb7,hk7⟩
 replace hb7:=Hd hb7
 replace hk7:=Hd hk7
 go_wp2_with fail
 go_ret
 exact⟨k,_,_,_,rfl,hWW.out,hq.out,hb7.out,hk7.out⟩
theorem Ht{base:Nat}{w:World}(l:Nat)(x:ActL)(hk0:x.kind≠0)(hk1:x.kind≠1)(hk4:x.kind≠4)(Q:World->Value->World->Prop)(hc:∀ W,Below w.heap.size w W->Calls Tryz.prog 56 #[.pointer (some ⟨l,0,none⟩),.int .i64 x.id,.int .i64 x.verdict,.int .i64 x.tick] W (PQR base Q W)) :
  Calls Tryz.prog 24 #[.pointer (some ⟨l,0,none⟩),.agg x.list.toArray] w (DoQ base Q w):=by
 obtain⟨w1,hw1⟩:∃ w1,w1=w.alloc (.cells x.list.toArray 80):=⟨_,rfl⟩
 have hB:Below w.heap.size w w1:=by rw[hw1];exact bR.alloc nR _
 have aX:w1.heap[w.heap.size]? = some (.cells x.list.toArray 80 (0,0)):=by rw[hw1];exact heap_alloc_new w _
 have q0:w1.cell? ⟨w.heap.size,0,none⟩=some (.int .i64 x.kind):=by rw[Za aX,List.getElem?_toArray];exact x.c0
 have q1:w1.cell? ⟨w.heap.size,1,none⟩=some (.int .i64 x.obj):=by rw[Za aX,List.getElem?_toArray];exact x.c1
 have q2:w1.cell? ⟨w.heap.size,2,none⟩=some (.int .i64 x.way):=by rw[Za aX,List.getElem?_toArray];exact x.c2
 have q3:w1.cell? ⟨w.heap.size,3,none⟩=some (.int .i64 x.id):=by rw[Za aX,List.getElem?_toArray];exact x.c3
 have q4:w1.cell? ⟨w.heap.size,4,none⟩=some (.int .i64 x.verdict):=by rw[Za aX,List.getElem?_toArray];exact x.c4
 have q5:w1.cell? ⟨w.heap.size,5,none⟩=some (.int .i64 x.tick):=by rw[Za aX,List.getElem?_toArray];exact x.c5
 have q7:w1.cell? ⟨w.heap.size,7,none⟩=some (.string x.name):=by rw[Za aX,List.getElem?_toArray];exact x.c7
 have hcw:=hc w1 hB
 have t0:(x.kind==0)=false:=by simpa using hk0
 have t1:(x.kind==1)=false:=by simpa using hk1
 have t4:(x.kind==4)=false:=by simpa using hk4
 replace hcw:=Hd hcw
 clear hc aX hk0 hk1 hk4
 obtain⟨XX,hXX⟩:∃ XX,XX=x.list.toArray:=⟨_,rfl⟩
 rw[<-hXX] at hw1
 generalize x.kind=vk at*
 generalize x.obj=vo at*
 generalize x.way=vw at*
 generalize x.id=vi at*
 generalize x.verdict=vv at*
 generalize x.tick=vt at*
 generalize x.name=vn at*
 rw[<-hXX]
 replace hw1:=Hd hw1
 replace hXX:=Hd hXX
 replace hB:=Hd hB
 go_enter Tryz.func24,Tryz.ntmps24
 go_upto_region 1 with fail
 rw[<-hw1.out]
 go_wp2_with fail
 with_reducible refine hcw.out.mono ?_
 clear hcw
 rintro e w6 ⟨WW,hWW,v,rfl,hv,hq⟩
 have hnm:=Hd (LX hv)
 replace hq:=Hd hq
 replace hWW:=Hd (hB.out.trans (hWW.mono hB.out.size))
 clear hv
 go_wp2_with fail
 with_reducible refine hnm.out.mono ?_
 clear hnm
 rintro e w7 ⟨k,rfl,hb7,hk7⟩
 replace hb7:=Hd hb7
 replace hk7:=Hd hk7
 go_wp2_with fail
 go_ret
 exact⟨k,_,_,_,rfl,hWW.out,hq.out,hb7.out,hk7.out⟩
def PutLaw(Q:World->Value->World->Prop)(w:World)(e:Ending)(w':World):Prop:=∃ (W:World) (v u:Value),e=.returned u/\Below w.heap.size w W/\Q W v w'
theorem Dn{base:Nat}{w:World}(l:Nat)(r:Rc)(hr:r.Ok)(hk:r.kind=1)(Q:World->Value->World->Prop)(hc:∀ W,Below w.heap.size w W->Calls Tryz.prog 36 #[.pointer (some ⟨l,0,none⟩),.string r.name,.agg r.p.list.toArray,.agg (cB r.root).toArray,.agg (cB r.file).toArray,.int .i64 r.tick] W (PQ2 base LY Q W)) :
  Calls Tryz.prog 30 #[.pointer (some ⟨l,0,none⟩),.agg r.list.toArray] w (PutLaw Q w):=by
 obtain⟨w1,hw1⟩:∃ w1,w1=w.alloc (.cells r.list.toArray 49):=⟨_,rfl⟩
 have hB:Below w.heap.size w w1:=by rw[hw1];exact bR.alloc nR _
 have aX:w1.heap[w.heap.size]? = some (.cells r.list.toArray 49 (0,0)):=by rw[hw1];exact heap_alloc_new w _
 obtain⟨q0,q1,q2,q3,q7,q8,q9,q10⟩:=Rc.kept0 r hr _ _ _ aX
 have hcw:=hc w1 hB
 rw[hk] at q0
 have hrp:=Hd (ZM aX (o:=4) (n:=6) r.sub_p)
 have hr1:=Hd (ZM aX (o:=10) (n:=32) (Rc.sub_root hr.root))
 have hr2:=Hd (ZM aX (o:=42) (n:=32) (Rc.sub_file hr.root hr.file))
 have iP:(Tryz.prog.info? 45).map (·.size)=some r.p.list.length:=kX
 have i1:(Tryz.prog.info? 47).map (·.size)=some (cB r.root).length:=by rw[Ze,hr.root];kernel_rfl
 have i2:(Tryz.prog.info? 47).map (·.size)=some (cB r.file).length:=by rw[Ze,hr.file];kernel_rfl
 obtain⟨PA,hPA⟩:∃ PA,PA=r.p.list.toArray:=⟨_,rfl⟩
 obtain⟨RA,hRA⟩:∃ RA,RA=(cB r.root).toArray:=⟨_,rfl⟩
 obtain⟨FA,hFA⟩:∃ FA,FA=(cB r.file).toArray:=⟨_,rfl⟩
 rw[<-hPA,<-hRA,<-hFA] at hcw
 replace hPA:=Hd hPA
 replace hRA:=Hd hRA
 replace hFA:=Hd hFA
 replace hcw:=Hd hcw
 replace hr:=Hd hr
 clear hc aX hk
 obtain⟨XX,hXX⟩:∃ XX,XX=r.list.toArray:=⟨_,rfl⟩
 rw[<-hXX] at hw1
 generalize r.obj=vo at*
 generalize r.way=vw at*
 generalize r.id=vi at*
 generalize r.verdict=vv at*
 generalize r.tick=vt at*
 generalize r.name=vn at*
 rw[<-hXX]
 replace hw1:=Hd hw1
 replace hXX:=Hd hXX
 replace hB:=Hd hB
 go_enter Tryz.func30,Tryz.ntmps30
 go_upto_region 1 with fail
 rw[<-hw1.out]
 go_wp2_with (first
  | ((with_reducible refine wL (.load 45 (.tmp 20)) ?_);refine Z0 rfl 45 (.tmp 20) rfl w.heap.size 4 rfl r.p.list _ hrp.out Tryz.underlying45 rfl iP PA hPA ?_)
  | ((with_reducible refine wL (.load 47 (.tmp 22)) ?_);refine Z0 rfl 47 (.tmp 22) rfl w.heap.size 10 rfl (cB r.root) _ hr1.out Tryz.underlying47 rfl i1 RA hRA ?_)
  | ((with_reducible refine wL (.load 47 (.tmp 24)) ?_);refine Z0 rfl 47 (.tmp 24) rfl w.heap.size 42 rfl (cB r.file) _ hr2.out Tryz.underlying47 rfl i2 FA hFA ?_))
 with_reducible refine hcw.out.mono ?_
 clear hcw
 rintro e w6 ⟨WW,u,v,hWW,rfl,⟨n,rfl⟩,hv,hq⟩
 replace hq:=Hd hq
 replace hWW:=Hd (hB.out.trans (hWW.mono hB.out.size))
 clear hv
 go_wp2_with fail
 go_end0
 exact⟨_,_,_,rfl,hWW.out,hq.out⟩
theorem L9{base:Nat}{w:World}(l:Nat)(r:Rc)(hr:r.Ok)(hk:r.kind=2)(Q:World->Value->World->Prop)(hc:∀ W,Below w.heap.size w W->Calls Tryz.prog 54 #[.pointer (some ⟨l,0,none⟩),.int .i64 r.obj,.int .i64 r.way,.int .i64 r.tick] W (PQ2 base EnV Q W)) :
  Calls Tryz.prog 30 #[.pointer (some ⟨l,0,none⟩),.agg r.list.toArray] w (PutLaw Q w):=by
 obtain⟨w1,hw1⟩:∃ w1,w1=w.alloc (.cells r.list.toArray 49):=⟨_,rfl⟩
 have hB:Below w.heap.size w w1:=by rw[hw1];exact bR.alloc nR _
 have aX:w1.heap[w.heap.size]? = some (.cells r.list.toArray 49 (0,0)):=by rw[hw1];exact heap_alloc_new w _
 obtain⟨q0,q1,q2,q3,q7,q8,q9,q10⟩:=Rc.kept0 r hr _ _ _ aX
 have hcw:=hc w1 hB
 rw[hk] at q0
 replace hcw:=Hd hcw
 replace hr:=Hd hr
 clear hc aX hk
 obtain⟨XX,hXX⟩:∃ XX,XX=r.list.toArray:=⟨_,rfl⟩
 rw[<-hXX] at hw1
 generalize r.obj=vo at*
 generalize r.way=vw at*
 generalize r.id=vi at*
 generalize r.verdict=vv at*
 generalize r.tick=vt at*
 generalize r.name=vn at*
 rw[<-hXX]
 replace hw1:=Hd hw1
 replace hXX:=Hd hXX
 replace hB:=Hd hB
 go_enter Tryz.func30,Tryz.ntmps30
 go_upto_region 1 with fail
 rw[<-hw1.out]
 go_wp2_with fail
 with_reducible refine hcw.out.mono ?_
 clear hcw
 rintro e w6 ⟨WW,u,v,hWW,rfl,⟨n,rfl⟩,hv,hq⟩
 replace hq:=Hd hq
 replace hWW:=Hd (hB.out.trans (hWW.mono hB.out.size))
 clear hv
 go_wp2_with fail
 go_end0
 exact⟨_,_,_,rfl,hWW.out,hq.out⟩
theorem WV{base:Nat}{w:World}(l:Nat)(r:Rc)(hr:r.Ok)(hk:r.kind=4)(Q:World->Value->World->Prop)(hc:∀ W,Below w.heap.size w W->Calls Tryz.prog 55 #[.pointer (some ⟨l,0,none⟩),.int .i64 r.obj,.int .i64 r.tick] W (PQR base Q W)) :
  Calls Tryz.prog 30 #[.pointer (some ⟨l,0,none⟩),.agg r.list.toArray] w (PutLaw Q w):=by
 obtain⟨w1,hw1⟩:∃ w1,w1=w.alloc (.cells r.list.toArray 49):=⟨_,rfl⟩
 have hB:Below w.heap.size w w1:=by rw[hw1];exact bR.alloc nR _
 have aX:w1.heap[w.heap.size]? = some (.cells r.list.toArray 49 (0,0)):=by rw[hw1];exact heap_alloc_new w _
 obtain⟨q0,q1,q2,q3,q7,q8,q9,q10⟩:=Rc.kept0 r hr _ _ _ aX
 have hcw:=hc w1 hB
 rw[hk] at q0
 replace hcw:=Hd hcw
 replace hr:=Hd hr
 clear hc aX hk
 obtain⟨XX,hXX⟩:∃ XX,XX=r.list.toArray:=⟨_,rfl⟩
 rw[<-hXX] at hw1
 generalize r.obj=vo at*
 generalize r.way=vw at*
 generalize r.id=vi at*
 generalize r.verdict=vv at*
 generalize r.tick=vt at*
 generalize r.name=vn at*
 rw[<-hXX]
 replace hw1:=Hd hw1
 replace hXX:=Hd hXX
 replace hB:=Hd hB
 go_enter Tryz.func30,Tryz.ntmps30
 go_upto_region 1 with fail
 rw[<-hw1.out]
 go_wp2_with fail
 with_reducible refine hcw.out.mono ?_
 clear hcw
 rintro e w6 ⟨WW,hWW,v,rfl,hv,hq⟩
 replace hq:=Hd hq
 replace hWW:=Hd (hB.out.trans (hWW.mono hB.out.size))
 clear hv
 go_wp2_with fail
 go_end0
 exact⟨_,_,_,rfl,hWW.out,hq.out⟩
theorem P5{base:Nat}{w:World}(l:Nat)(r:Rc)(hr:r.Ok)(hk:r.kind=3)(Q:World->Value->World->Prop)(hc:∀ W,Below w.heap.size w W->Calls Tryz.prog 56 #[.pointer (some ⟨l,0,none⟩),.int .i64 r.id,.int .i64 r.verdict,.int .i64 r.tick] W (PQR base Q W)) :
  Calls Tryz.prog 30 #[.pointer (some ⟨l,0,none⟩),.agg r.list.toArray] w (PutLaw Q w):=by
 obtain⟨w1,hw1⟩:∃ w1,w1=w.alloc (.cells r.list.toArray 49):=⟨_,rfl⟩
 have hB:Below w.heap.size w w1:=by rw[hw1];exact bR.alloc nR _
 have aX:w1.heap[w.heap.size]? = some (.cells r.list.toArray 49 (0,0)):=by rw[hw1];exact heap_alloc_new w _
 obtain⟨q0,q1,q2,q3,q7,q8,q9,q10⟩:=Rc.kept0 r hr _ _ _ aX
 have hcw:=hc w1 hB
 rw[hk] at q0
 replace hcw:=Hd hcw
 replace hr:=Hd hr
 clear hc aX hk
 obtain⟨XX,hXX⟩:∃ XX,XX=r.list.toArray:=⟨_,rfl⟩
 rw[<-hXX] at hw1
 generalize r.obj=vo at*
 generalize r.way=vw at*
 generalize r.id=vi at*
 generalize r.verdict=vv at*
 generalize r.tick=vt at*
 generalize r.name=vn at*
 rw[<-hXX]
 replace hw1:=Hd hw1
 replace hXX:=Hd hXX
 replace hB:=Hd hB
 go_enter Tryz.func30,Tryz.ntmps30
 go_upto_region 1 with fail
 rw[<-hw1.out]
 go_wp2_with fail
 with_reducible refine hcw.out.mono ?_
 clear hcw
 rintro e w6 ⟨WW,hWW,v,rfl,hv,hq⟩
 replace hq:=Hd hq
 replace hWW:=Hd (hB.out.trans (hWW.mono hB.out.size))
 clear hv
 go_wp2_with fail
 go_end0
 exact⟨_,_,_,rfl,hWW.out,hq.out⟩
open Go.RowKit Go.Extern.Stop Go.Stop Go.Extern
theorem Tryz.noIsF(v:Value)(xT:TypeId)(w:World):(Instr.typeAssert (.iface 232 v) xT 214 true).run Tryz.prog w=.ok (.tuple #[.nilIface,.bool false]) w:=run_typeAssert_lacksB Tryz.underlying214 kX kX v xT w
theorem Tryz.hasUnwrapF(v:Value)(xT:TypeId)(w:World):(Instr.typeAssert (.iface 232 v) xT 217 true).run Tryz.prog w=.ok (.tuple #[.iface 232 v,.bool true]) w:=run_typeAssert_hasB Tryz.underlying217 kX v xT w
theorem Tryz.methodUnwrapF(v:Value)(w:World):(Go.method 434 232 v "Unwrap").run Tryz.prog w=.ok (222,v) w:=kX
theorem HF(pb po:Nat)(b:Addr)(w:World)(h1:w.cell? ⟨pb,po+2,none⟩=some (.iface 298 (.pointer (some b)))) :
  Calls Tryz.prog 38 #[.iface 232 (.pointer (some ⟨pb,po,none⟩)),.iface 298 (.pointer (some b))] w λe w'=>e=.returned (.bool true)/\w=w':=by
 obtain⟨i,hi,hcmp⟩:=Option.map_eq_some_iff.1 Tryz.isComp
 obtain⟨j,hj,hjs⟩:=Option.map_eq_some_iff.1 Tryz.isSize
 have h8:=@run_callFunc_extern Tryz.prog 84 _ Extern.ReflectliteType.typeOf Tryz.func84 kX kX kX kX
 have h32:=@run_callFunc_extern Tryz.prog 210 _ Vc Tryz.func210 kX kX kX kX
 have tT:=Tryz.isTypeOf
 have cT:=Tryz.isComparable
 have mR:=Tryz.isMethodComparable
 have nE:=Tryz.noIsE
 have uE:=Tryz.noUnwrapE
 have vE:=Tryz.noUnwrapsE
 have nW:=Tryz.noIsF
 have uW:=Tryz.hasUnwrapF
 have mU:=Tryz.methodUnwrapF
 have heq:=run_eql_iface_ptr_same (P:=Tryz.prog) w b Tryz.underlying30 Tryz.underlying298 hi hcmp hj
 have hty:=run_eql_iface_types (P:=Tryz.prog) 232 298 (.pointer (some ⟨pb,po,none⟩)) (.pointer (some b)) Tryz.underlying30 dX w
 go_enter Tryz.func38,Tryz.ntmps38
 go_wp2
 refine wp_loop_rounds 2 ?_
 rw[rounds_succ]
 go_wp2
 rw[rounds_succ]
 go_wp2
 go_ret
 exact⟨rfl,rfl⟩
theorem Hh(pb po:Nat)(b a:Addr)(ca cb:Array Value)(ta tb:TypeId)(w:World)(h1:w.cell? ⟨pb,po+2,none⟩=some (.iface 298 (.pointer (some a))))(hne:a≠b)(ha:w.heap[a.block]? = some (.cells ca ta (0,0)))(hb:w.heap[b.block]? = some (.cells cb tb (0,0))) :
  Calls Tryz.prog 38 #[.iface 232 (.pointer (some ⟨pb,po,none⟩)),.iface 298 (.pointer (some b))] w λe w'=>e=.returned (.bool false)/\w=w':=by
 obtain⟨i,hi,hcmp⟩:=Option.map_eq_some_iff.1 Tryz.isComp
 obtain⟨j,hj,hjs⟩:=Option.map_eq_some_iff.1 Tryz.isSize
 have h8:=@run_callFunc_extern Tryz.prog 84 _ Extern.ReflectliteType.typeOf Tryz.func84 kX kX kX kX
 have h32:=@run_callFunc_extern Tryz.prog 210 _ Vc Tryz.func210 kX kX kX kX
 have tT:=Tryz.isTypeOf
 have cT:=Tryz.isComparable
 have mR:=Tryz.isMethodComparable
 have nE:=Tryz.noIsE
 have uE:=Tryz.noUnwrapE
 have vE:=Tryz.noUnwrapsE
 have nW:=Tryz.noIsF
 have uW:=Tryz.hasUnwrapF
 have mU:=Tryz.methodUnwrapF
 have heq:=run_eql_iface_ptr_other (P:=Tryz.prog) w Tryz.underlying30 Tryz.underlying298 hi hcmp hj (by rw[hjs];decide) hne ha hb
 have hty:=run_eql_iface_types (P:=Tryz.prog) 232 298 (.pointer (some ⟨pb,po,none⟩)) (.pointer (some b)) Tryz.underlying30 dX w
 go_enter Tryz.func38,Tryz.ntmps38
 go_wp2
 refine wp_loop_rounds 2 ?_
 rw[rounds_succ]
 go_wp2
 rw[rounds_succ]
 go_wp2
 go_ret
 exact⟨rfl,rfl⟩
theorem Bj(g:Nat)(F:ByteArray)(V:Int)(i:Nat)(hi:i<20)(a:Nat->Addr)(w:World)(H:Errs 298 errGs w a)(hg:w.heap[g]? = some (.cells #[.string F,.int .i64 V,.iface 298 (.pointer (some (a i)))] 234 (0,0))) :
  Calls Tryz.prog 10 #[.iface 232 (.pointer (some ⟨g,0,none⟩))] w λe w'=>e=.returned (.int .i64 ((i+1:Nat):Int))/\Below w.heap.size w w':=by
 obtain⟨g0,g1,g2,g3,g4,g5,g6,g7,g8,g9,g10,g11,g12,g13,g14,g15,g16,g17,g18,g19⟩:=Qs H
 have H:=Hd H
 go_enter Tryz.func10,Tryz.ntmps10
 go_wp2_with fail
 obtain⟨w1,hw1⟩:∃ w1,w1=w.alloc (Obj.cells (Jm a) 30):=⟨_,rfl⟩
 have hcl:∀ m,m<20->w1.cell? ⟨w.heap.size,m,none⟩=some (.iface 298 (.pointer (some (a m)))):=by
  intro m hm
  rw[hw1,Za (heap_alloc_new w _)]
  exact Uo a m hm
 have hb1:Below w.heap.size w w1:=by rw[hw1];exact bR.alloc nR _
 have H1:=Hd (H.out.below hb1)
 have hw:=Hd (Za ((hb1.block g (Zb hg)).trans hg) 2)
 clear hg
 have hcl:=Hd hcl
 unfold Jm at hw1
 rw[<-hw1]
 clear hw1 H
 clear g0 g1 g2 g3 g4 g5 g6 g7 g8 g9 g10 g11 g12 g13 g14 g15 g16 g17 g18 g19
 go_loop [31] (λj=>∃ m:Nat,m<=i/\j=.int .i64 m) (λj=>i-(intOf j).toNat)
 case atStart=>exact⟨0,Nat.zero_le _,rfl⟩
 case round=>
  obtain⟨m,hm,rfl⟩:=hrel
  have hc:=hcl.out m oX
  by_cases hlt:m<i
  ·obtain⟨c1,t1,o1⟩:=H1.out.obj i hi
   obtain⟨c2,t2,o2⟩:=H1.out.obj m (by show m<20;omega)
   have hne:a i≠a m:=λe=>by have:=H1.out.inj' dX i m hi (by show m<20;omega) e;omega
   have o1:=Hd o1
   have o2:=Hd o2
   have hne:=Hd hne
   go_wp2_with fail
   refine(Hh g 0 (a m) (a i) c1 c2 t1 t2 _ hw.out hne.out o1.out o2.out).mono ?_
   rintro e w2 ⟨rfl,rfl⟩
   go_wp2_with fail
   exact⟨⟨m+1,oX,by go_num⟩,by simp[intOf];omega⟩
  ·obtain rfl:m=i:=oX
   go_wp2_with fail
   refine(HF g 0 (a m) _ hw.out).mono ?_
   rintro e w2 ⟨rfl,rfl⟩
   go_wp2_with fail
   go_ret
   exact⟨rfl,hb1⟩
theorem Wf(u:Addr):JI (.iface 232 (.pointer (some u))):=⟨λW=>by show _=_;kernel_rfl,λW i=>by show _=_;kernel_rfl⟩
theorem Nl{w:World}{ea:Nat->Addr}(H:Errs 298 errGs w ea)(i:Nat)(hi:i<20){a:Addr}(h:w.cell? ⟨errGs.getD i 0,0,none⟩=some (.iface 298 (.pointer (some a)))):a=ea i:=by
 have:=H.var i hi
 rw[h] at this
 simpa using this
theorem FltR.badE{B:Nat}{x:Ending}{w:World}{ea:Nat->Addr}(h:FltR x w)(H:∀ W,Below B w W->Errs 298 errGs W ea):∃ v,x=.returned v/\BadE B v w:=by
 obtain⟨g,F,V,a,hx,hg,hp⟩:=h
 obtain⟨i,hi,hgi⟩:∃ i,i<20/\errGs.getD i 0=13:=⟨13,dX,dX⟩
 rw[<-hgi] at hp
 obtain rfl:=Nl (H w bR) i hi hp
 refine⟨_,hx,Wf _,λW hW=>(Bj g F V i hi ea W (H W hW.bel) (hW.err _ _ _ _ hg (.inr rfl))).mono ?_⟩
 rintro e w' ⟨rfl,hb⟩
 exact⟨i+1,oX,oX,rfl,hb⟩
theorem SentR.badE{B:Nat}{x:Ending}{w:World}{ea:Nat->Addr}(h:SentR x w)(HB:∀ W,Below B w W->Errs 298 errGs W ea):∃ v,x=.returned v/\BadE B v w:=by
 have H:=HB w bR
 obtain⟨u,hx,hc⟩:=h
 have hh:∃ i,i<20/\u=ea i:=by
  rcases hc with hc|hc
  ·exact⟨7,dX,Nl H 7 dX (by rw[show errGs.getD 7 0=7 from by decide];exact hc)⟩
  ·exact⟨11,dX,Nl H 11 dX (by rw[show errGs.getD 11 0=11 from by decide];exact hc)⟩
 obtain⟨i,hi,rfl⟩:=hh
 exact⟨_,hx,ErrIs.badE (n:=i+1) (.inr (.inl ⟨i,hi,rfl,rfl⟩)) oX HB⟩
def z32a:Array Value:=#[.int .u8 0,.int .u8 0,.int .u8 0,.int .u8 0,.int .u8 0,.int .u8 0,.int .u8 0,.int .u8 0,.int .u8 0,.int .u8 0,.int .u8 0,.int .u8 0,.int .u8 0,.int .u8 0,.int .u8 0,.int .u8 0,.int .u8 0,.int .u8 0,.int .u8 0,.int .u8 0,.int .u8 0,.int .u8 0,.int .u8 0,.int .u8 0,.int .u8 0,.int .u8 0,.int .u8 0,.int .u8 0,.int .u8 0,.int .u8 0,.int .u8 0,.int .u8 0]
def ZH:List UInt8->Nat->Nat
 | [],s=>s
 | b::r,s=>ZH r (min s 2199023255552*256+b.toNat)
theorem Bt(m:Nat)(b:UInt8)(hm:m<=2199023255552):bits .or .i64 ((m:Int)*256) (b.toNat:Int)=((m*256+b.toNat:Nat):Int):=by
 have hb:=b.toNat_lt
 have h2:=Nat.shiftLeft_add_eq_or_of_lt (i:=8) (b:=b.toNat) hb m
 rw[Nat.shiftLeft_eq] at h2
 have:=GT (m*256) b.toNat oX oX
 rw[show ((m:Int)*256)=((m*256:Nat):Int) from by omega,this]
 rw[show m*2 ^ 8=m*256 from rfl] at h2
 rw[h2]
def Nf(w:World)(q B:Nat)(bs:List UInt8)(sh:Bool)(n:Nat)(e:Ending)(w':World):Prop:=
 e=.returned (.int .i64 (ZH (Qk bs sh n) 0:Nat))/\RdM w' q B (YB bs sh n) (YE bs sh n)/\Only (λk=>k=q) w w'
theorem Rw(q B:Nat)(bs:List UInt8)(sh:Bool)(n:Nat)(w:World)(h:RdM w q B bs sh)(hn:n<=8)(hm:bs.length<=1000000):Calls Tryz.prog 63 #[.pointer (some ⟨q,0,none⟩),.int .i64 (n:Int)] w (Nf w q B bs sh n):=by
 have htk:=Hd (Gj q B bs sh n w h oX hm)
 have hlen:=Y1 bs sh n
 have hpost:=Hd (λ(w':World) (S:Nat) (h1:ZH (Qk bs sh n) 0=S) (h2:RdM w' q B (YB bs sh n) (YE bs sh n)) (h3:Only (λk=>k=q) w w')=>(⟨by rw[h1],h2,h3⟩:Nf w q B bs sh n (.returned (.int .i64 (S:Int))) w'))
 clear h
 go_enter Tryz.func63,Tryz.ntmps63
 go_wp2_with fail
 with_reducible refine htk.out.mono ?_
 rintro e w2 ⟨a,c,rfl,ha,_,hrd,hO⟩
 have hfin:∀ S:Nat,ZH (Qk bs sh n) 0=S->Nf w q B bs sh n (.returned (.int .i64 (S:Int))) w2:=λS h1=>hpost.out w2 S h1 hrd hO
 clear hrd hO hpost htk
 generalize Qk bs sh n=xs at*
 subst hlen
 obtain⟨L,hL⟩:∃ L,L=xs.length:=⟨_,rfl⟩
 rw[<-hL]
 rw[<-hL] at hn
 replace hfin:=Hd hfin
 replace hL:=Hd hL
 replace ha:=Hd ha
 go_wp2_with fail
 go_loop [5,7,12] (λs _ j=>∃ (k:Nat) (S:Nat),k<=L/\j=.int .i64 k/\s=.int .i64 (S:Int)/\S<=562949953421567/\ZH xs 0=ZH (xs.drop k) S) (λ_ _ j=>L-(intOf j).toNat)
 case atStart=>exact⟨0,0,Nat.zero_le _,rfl,rfl,oX,by rw[List.drop_zero]⟩
 case round=>
  obtain⟨k,S,hk,rfl,rfl,hS1,hrec⟩:=hrel
  by_cases hlt:k<L
  ·have hkb:k<xs.length:=by rw[<-hL.out];exact hlt
   obtain⟨g,off,e0,hc⟩:=ha.out.row k hkb
   have hli:(k:Int)<L:=oX
   rw[DY xs k hkb] at hrec
   subst e0
   generalize xs.getD k 0=b at*
   have hb:=b.toNat_lt
   obtain⟨M,hM⟩:∃ M,M=min S 2199023255552:=⟨_,rfl⟩
   have hmn:(if (2199023255552:Int)<(S:Int) then (2199023255552:Int) else (S:Int))=(M:Int):=by split<;>omega
   have hmn2:min (S:Int) 2199023255552=(M:Int):=oX
   have hMl:M<=2199023255552:=oX
   have hr:ZH xs 0=ZH (xs.drop (k+1)) (M*256+b.toNat):=by rw[hrec,hM];rfl
   have hw1:IntKind.i64.wrap ((M:Int)*256)=(M:Int)*256:=IntWalk.i64_in _ oX
   have hw4:wrap64 ((M:Int)*256)=(M:Int)*256:=IntWalk.wrap64_in _ oX
   have hw2:IntKind.i64.wrap (b.toNat:Int)=(b.toNat:Int):=IntWalk.i64_in _ oX
   have hor:=Bt M b hMl
   have hbd:=Hd (show M*256+b.toNat<=562949953421567 from by omega)
   clear hrec
   replace hM:=Hd hM
   replace hr:=Hd hr
   go_wp2_with fail
   exact⟨⟨k+1,M*256+b.toNat,oX,by go_num,by first|rfl|go_num,hbd.out,hr.out⟩,by simp[intOf];omega⟩
  ·obtain rfl:k=L:=oX
   have hr:ZH xs 0=S:=by rw[hrec,hL.out,List.drop_length];rfl
   clear hrec
   replace hr:=Hd hr
   go_wp2_with fail
   go_ret
   exact hfin.out S hr.out
section
variable {P:Program} {ops:Array Oper} {rest:List Oper} {o:Oper} {a:Act} {w:World} {Q:Exit->Act->World->Prop}
theorem PM(hgd:o.guard=none)(arr:TypeId)(x:Operand)(ho:o.op=.sliceToArrayPointer arr x)(ad:Addr)(l c n:Nat)(e:TypeId)(hx:a.eval x=.slice (some ad) l c)(hu:P.underlying arr=some (.array n e))(hl:n<=l)
  (h:wpList P ops Q rest (a.put o.dst (.pointer (some ad))) w):wpList P ops Q (o::rest) a w:=by
 refine wpList_plain hgd λK hK=>?_
 have h2:=hK _ _ h
 have hn:¬l<n:=oX
 unfold Oper.wp execOp
 simp only[ho,hx,Instr.arrayAt,run_underlying hu,Sem.run_bind,Sem.run_pure,Result.andThen_ok,if_neg hn]
 exact h2
end
theorem Tj{w:World}{b o c:Nat}{xs:List UInt8}(h:ArgB w (some ⟨b,o,none⟩) c xs):w.rangeAt b o (cB xs):=λj v hv=>by
 have hj:j<xs.length:=by have:=(List.getElem?_eq_some_iff.1 hv).1;rwa [Ze] at this
 obtain⟨b',o',e,hc⟩:=h.row j hj
 cases e
 rw[hc,<-hv]
 simp[cB,hj]
def TB(w:World)(q B:Nat)(bs:List UInt8)(sh:Bool)(e:Ending)(w':World):Prop:=
 e=.returned (.agg (cB (Qk bs sh 32)).toArray)/\RdM w' q B (YB bs sh 32) (YE bs sh 32)/\Only (λk=>k=q) w w'
theorem R9(q B:Nat)(bs:List UInt8)(sh:Bool)(w:World)(h:RdM w q B bs sh)(hm:bs.length<=1000000)(hB:B<=w.heap.size):Calls Tryz.prog 104 #[.pointer (some ⟨q,0,none⟩)] w (TB w q B bs sh):=by
 have htk:∀ W,RdM W q B bs sh->Calls Tryz.prog 103 #[.pointer (some ⟨q,0,none⟩),.int .i64 32] W (Jj W q B bs sh 32):=λW h=>Gj q B bs sh 32 W h oX hm
 replace htk:=Hd htk
 have hlt:q<w.heap.size:=by obtain⟨a,c,h1,_⟩:=h;exact Zb h1
 have hlen:=Y1 bs sh 32
 obtain⟨w1,hw1⟩:∃ w1,w1=w.alloc (.cells #[.int .u8 0,.int .u8 0,.int .u8 0,.int .u8 0,.int .u8 0,.int .u8 0,.int .u8 0,.int .u8 0,.int .u8 0,.int .u8 0,.int .u8 0,.int .u8 0,.int .u8 0,.int .u8 0,.int .u8 0,.int .u8 0,.int .u8 0,.int .u8 0,.int .u8 0,.int .u8 0,.int .u8 0,.int .u8 0,.int .u8 0,.int .u8 0,.int .u8 0,.int .u8 0,.int .u8 0,.int .u8 0,.int .u8 0,.int .u8 0,.int .u8 0,.int .u8 0] 47):=⟨_,rfl⟩
 have h1:RdM w1 q B bs sh:=by
  rw[hw1]
  exact h.only (D:=λ_=>False) (Only.ofBelow (bR.alloc nR _)) (λe=>e) (λk e=>e.elim)
 replace h1:=Hd h1
 have hz1:w1.heap[w.heap.size]? = some (.cells z32a 47 (0,0)):=by rw[hw1];exact heap_alloc_new w (.cells z32a 47)
 have hb1:Below w.heap.size w w1:=by rw[hw1];exact bR.alloc nR _
 have hi5:(Tryz.prog.info? 47).map (·.size)=some (cB (Qk bs sh 32)).toArray.size:=by rw[List.size_toArray,Ze,hlen];kernel_rfl
 have hi6:(Tryz.prog.info? 47).map (·.size)=some (cB (Qk bs sh 32)).length:=by rw[Ze,hlen];kernel_rfl
 have hz5:z32a.size=(cB (Qk bs sh 32)).toArray.size:=by show 32=_;rw[List.size_toArray,Ze,hlen]
 have ho5:=JN (ZI (Qk bs sh 32))
 have hud:=Tryz.underlying47
 replace hw1:=Hd hw1
 have hlw1:w.heap.size<w1.heap.size:=Zb hz1
 replace hz1:=Hd hz1
 replace hb1:=Hd hb1
 go_enter Tryz.func104,Tryz.ntmps104
 go_wp2_with fail
 rw[<-hw1.out]
 with_reducible refine(htk.out _ h1.out).mono ?_
 rintro e w2 ⟨a,c,rfl,ha,hne,hrd,hO⟩
 have hz2:=Hd (hO.heap hz1.out oX)
 have had:∃ b o,a=some ⟨b,o,none⟩:=by
  cases a with
  | none=>have h2:=ha.nil rfl;have h3:=ha.len;rw[hlen] at h3;omega
  | some ad=>obtain⟨b,o,rfl,_⟩:=hne ad rfl;exact⟨b,o,rfl⟩
 obtain⟨b,o,rfl⟩:=had
 have hr:=Hd (Tj ha)
 have hpost:∀ w3,Hid (Upd w.heap.size (.cells (cB (Qk bs sh 32)).toArray 47 (0,0)) w2 w3)->TB w q B bs sh (.returned (.agg (cB (Qk bs sh 32)).toArray)) w3:=λw3 hU=>by
  have hO3:Only (λk=>k=w.heap.size) w2 w3:=Only.ofUpd hU.out rfl
  have hO12:Only (λk=>k=q) w w2:=(Only.ofBelow (D:=λk=>k=q) hb1.out).trans hO (λ_ _ e=>e)
  refine⟨rfl,?_,hO12.trans hO3 (λk hk e=>by omega)⟩
  exact hrd.only hO3 oX (λk hk=>by omega)
 generalize hX:(cB (Qk bs sh 32)).toArray=X at*
 generalize cB (Qk bs sh 32)=lx at*
 clear ha hne hrd hO htk h1
 replace hpost:=Hd hpost
 go_wp2_with (first
  | (refine PM rfl 47 (.tmp 4) rfl ⟨b,o,none⟩ 32 c 32 _ rfl hud nR ?_)
  | ((with_reducible refine wL (.load 47 (.tmp 5)) ?_);refine wpList_load_mid rfl 47 (.tmp 5) rfl b o rfl lx _ hr.out hud rfl hi6 ?_;rw[hX])
  | ((with_reducible refine wL (.store 47 (.tmp 2) _) ?_);(refine Zc rfl 47 (.tmp 2) (.tmp 6) rfl w.heap.size z32a X rfl rfl hz2 hi5 hz5 ho5 ?_);intro w3 hU3))
 exact ZE rfl rfl hud rfl hi5 hU3.out.here (hpost.out w3 hU3)
end Go.Proofs.YtpdhceiodgnbmaaGreatDoor
