import Derived.Test.YtpdhceiodgnbmaaGreatDoorF0Safe21Said
import Derived.Test.YtpdhceiodgnbmaaGreatDoorF1Safe21Said
import Derived.Test.YtpdhceiodgnbmaaGreatDoorF22Safe21Said
import Derived.Test.YtpdhceiodgnbmaaGreatDoorF15Safe21Said
import Derived.Test.YtpdhceiodgnbmaaGreatDoorF14Safe21Said
import Derived.Test.YtpdhceiodgnbmaaGreatDoorF25Safe21Said
import Derived.Test.YtpdhceiodgnbmaaGreatDoorF24Safe21Said
import Derived.Test.YtpdhceiodgnbmaaGreatDoorF2Safe21Said
set_option linter.unusedVariables false
set_option linter.unusedSimpArgs false
set_option linter.unnecessarySimpa false
set_option maxRecDepth 100000
set_option maxHeartbeats 8000000
namespace Go.Proofs.YtpdhceiodgnbmaaGreatDoor
open Go.RowKit
theorem MX{K:Act->World->Prop}{Q:Exit->Act->World->Prop}{o:Oper}{a:Act}{w:World}(x:Operand)(ho:o.op=.convert 9 24 x)(s:ByteArray)(hx:a.eval x=.string s)(hs:s.size<=1000000)
  (h:∀ v' w',Hid (MarkB w.heap.size w' v' s.data.toList)->Hid (Below w.heap.size w w')->K (a.put o.dst v') w'):o.wp Tryz.prog a w K Q:=by
 have hrun:=run_bytes_of_string (P:=Tryz.prog) w 9 24 5 s Tryz.underlying9 Tryz.underlying24 Tryz.underlying5
 have hge:=grownCap_ge w s.size 0 5
 have hcm:=grownCap_le_maxLen w s.size 0 5 c6X
 have hlen:s.data.toList.length=s.size:=sX
 generalize grownCap w s.size 0 5=cap at*
 have hsz:(bytesRow s cap).size=cap:=by simp[bytesRow];omega
 have hnew:(w.drew.alloc (.cells (bytesRow s cap) 5 ((bytesRow s cap).size,(bytesRow s cap).size+1))).heap[w.heap.size]? = some (.cells (bytesRow s cap) 5 ((bytesRow s cap).size,(bytesRow s cap).size+1)):=heap_alloc_new w.drew _
 unfold Oper.wp
 simp[execOp,ho,hx,hrun,Result.andThen,-World.alloc_eq,-World.drew_eq]
 refine h _ _ (Hd ⟨w.heap.size,cap,by rw[hlen],Nat.le_refl _,Zb hnew,oX,hcm,λi hi=>?_,λj hj1 hj2=>⟨?_,?_⟩⟩) (Hd ((Below.refl w.heap.size w).drew.alloc nR _))
 ·simp only[World.cell?,hnew]
  rw[hlen] at hi
  rw[bytesRow,Array.getElem?_append_left (by simpa using hi)]
  simp[cf,hi]
 ·simp only[World.cell?,hnew]
  simp[hsz];omega
 ·have hfz:∀ W:World,W.heap[w.heap.size]? = some (.cells (bytesRow s cap) 5 ((bytesRow s cap).size,(bytesRow s cap).size+1))->W.frozen? ⟨w.heap.size,j,none⟩=false:=λW hW=>by
   simp only[World.frozen?,hW,hsz,Bool.and_eq_false_iff,decide_eq_false_iff_not]
   left;omega
  exact hfz _ hnew
theorem Gh{s:ByteArray}(h:Vb s.data.toList=true):s.size<=12:=by
 have hl:s.data.toList.length=s.size:=sX
 unfold Vb at h
 simp at h
 omega
theorem NQ{W:World}{b o:Nat}{bs:List UInt8}(h:W.rangeAt b o (cB bs))(hl:bs.length=32):ArgB W (some ⟨b,o,none⟩) 32 bs:=by
 refine⟨oX,c6X,(λe=>by cases e),λi hi=>⟨_,_,rfl,?_⟩⟩
 refine h i _ ?_
 simp[cB,hi]
theorem WU(x:Rc)(hx:x.Ok)(T:TypeId){W:World}{b:Nat}(h:W.heap[b]? = some (.cells x.list.toArray T (0,0))):ArgB W (some ⟨b,10,none⟩) 32 x.root:=NQ (ZM h (Rc.sub_root hx.root)) hx.root
theorem Lj(x:Rc)(hx:x.Ok)(T:TypeId){W:World}{b:Nat}(h:W.heap[b]? = some (.cells x.list.toArray T (0,0))):ArgB W (some ⟨b,42,none⟩) 32 x.file:=NQ (ZM h (Rc.sub_file hx.root hx.file)) hx.file
theorem DB{w:World}{B:Nat}{p0 p1 p2 p3 p4 p5 p6:List UInt8}{a0 a1 a2 a3 a4 a5 a6:Option Addr}{c0 c1 c2 c3 c4 c5 c6 l0 l1 l2 l3 l4 l5 l6:Nat}(hB:w.heap[B]? = some (.cells #[.slice a0 l0 c0,.slice a1 l1 c1,.slice a2 l2 c2,.slice a3 l3 c3,.slice a4 l4 c4,.slice a5 l5 c5,.slice a6 l6 c6] 24 (0,0)))
  (e0:p0.length=l0) (e1:p1.length=l1) (e2:p2.length=l2) (e3:p3.length=l3) (e4:p4.length=l4) (e5:p5.length=l5) (e6:p6.length=l6) (h0:ArgB w a0 c0 p0) (h1:ArgB w a1 c1 p1) (h2:ArgB w a2 c2 p2) (h3:ArgB w a3 c3 p3) (h4:ArgB w a4 c4 p4) (h5:ArgB w a5 c5 p5) (h6:ArgB w a6 c6 p6):RowsAt w B [p0,p1,p2,p3,p4,p5,p6]:=by
 intro k hk
 match k,hk with
 | 0,_=>exact⟨a0,c0,by rw[Za hB];show some (Value.slice a0 l0 c0)=_;rw[<-e0];rfl,h0⟩
 | 1,_=>exact⟨a1,c1,by rw[Za hB];show some (Value.slice a1 l1 c1)=_;rw[<-e1];rfl,h1⟩
 | 2,_=>exact⟨a2,c2,by rw[Za hB];show some (Value.slice a2 l2 c2)=_;rw[<-e2];rfl,h2⟩
 | 3,_=>exact⟨a3,c3,by rw[Za hB];show some (Value.slice a3 l3 c3)=_;rw[<-e3];rfl,h3⟩
 | 4,_=>exact⟨a4,c4,by rw[Za hB];show some (Value.slice a4 l4 c4)=_;rw[<-e4];rfl,h4⟩
 | 5,_=>exact⟨a5,c5,by rw[Za hB];show some (Value.slice a5 l5 c5)=_;rw[<-e5];rfl,h5⟩
 | 6,_=>exact⟨a6,c6,by rw[Za hB];show some (Value.slice a6 l6 c6)=_;rw[<-e6];rfl,h6⟩
theorem Ya(v:Int)(h1:0<=v)(h2:v<9223372036854775808)(r:Nat)(hr:r<8):(Zx v (7-r)).toNat=v.toNat / 256 ^ r % 256:=by
 have h:=Wp v r hr
 unfold Dz Nc at h
 have e:(v % 18446744073709551616).toNat=v.toNat:=oX
 rw[e] at h
 omega
theorem Yu(v:Int)(h1:0<=v)(h2:v<=1099511627776):((ZH (Zk v) 0:Nat):Int)=v:=by
 have b0:=Ya v h1 oX 7 dX
 have b1:=Ya v h1 oX 6 dX
 have b2:=Ya v h1 oX 5 dX
 have b3:=Ya v h1 oX 4 dX
 have b4:=Ya v h1 oX 3 dX
 have b5:=Ya v h1 oX 2 dX
 have b6:=Ya v h1 oX 1 dX
 have b7:=Ya v h1 oX 0 dX
 simp only[Nat.reduceSub,Nat.reducePow,Nat.div_one] at b0 b1 b2 b3 b4 b5 b6 b7
 have e:Zk v=[Zx v 0,Zx v 1,Zx v 2,Zx v 3,Zx v 4,Zx v 5,Zx v 6,Zx v 7]:=rfl
 rw[e]
 simp only[ZH,b0,b1,b2,b3,b4,b5,b6,b7]
 omega
theorem PV(v:Int)(h1:0<=v)(h2:v<=1048576):((ZH ((Zk v).drop 4) 0:Nat):Int)=v:=by
 have b4:=Ya v h1 oX 3 dX
 have b5:=Ya v h1 oX 2 dX
 have b6:=Ya v h1 oX 1 dX
 have b7:=Ya v h1 oX 0 dX
 simp only[Nat.reduceSub,Nat.reducePow,Nat.div_one] at b4 b5 b6 b7
 have e:(Zk v).drop 4=[Zx v 4,Zx v 5,Zx v 6,Zx v 7]:=rfl
 rw[e]
 simp only[ZH,b4,b5,b6,b7]
 omega
theorem Yf(b:UInt8):ZH [b] 0=b.toNat:=by simp[ZH]
theorem got(A R:List UInt8)(n:Nat)(h:A.length=n):nO (A++R,false) n=A/\nB (A++R,false) n=(R,false):=by
 subst h
 have hs:¬(false=true\/(A++R).length<A.length):=sX
 unfold nO nB Qk YB YE
 simp only[if_neg hs]
 simp
theorem Q7(A R:List UInt8)(n:Nat)(h:A.length=n):nN (A++R,false) n=(ZH A 0:Nat):=by
 have:=(got A R n h).1
 unfold nO at this
 unfold nN
 rw[this]
theorem YX(s:ByteArray):s=⟨#[]⟩↔s.size=0:=by
 constructor
 ·intro h;rw[h];rfl
 ·intro h
  apply VF
  exact List.length_eq_zero_iff.1 (by simpa using h)
theorem bz1(x:Rc)(hk:x.kind=1):x.bare=Rc.zero↔x.id=0/\x.way=0/\x.index=0/\x.verdict=0:=by
 unfold Rc.bare
 rw[if_pos hk]
 unfold Rc.zero
 simp only[Rc.mk.injEq,YX,true_and,and_true]
theorem bz2(x:Rc)(hk:x.kind=2):x.bare=Rc.zero↔x.name.size=0/\x.p=P6.zero/\x.root=z32/\x.file=z32/\x.verdict=0:=by
 unfold Rc.bare
 rw[if_neg oX,if_pos hk]
 unfold Rc.zero
 simp only[Rc.mk.injEq,YX,true_and,and_true]
theorem bz3(x:Rc)(hk:x.kind=3):x.bare=Rc.zero↔x.name.size=0/\x.p=P6.zero/\x.root=z32/\x.file=z32/\x.way=0/\x.index=0:=by
 unfold Rc.bare
 rw[if_neg oX,if_neg oX,if_pos hk]
 unfold Rc.zero
 simp only[Rc.mk.injEq,YX,true_and,and_true]
theorem bz4(x:Rc)(hk:x.kind=4):x.bare=Rc.zero↔x.name.size=0/\x.p=P6.zero/\x.root=z32/\x.file=z32/\x.verdict=0/\x.way=0/\x.index=0/\x.id=0:=by
 unfold Rc.bare
 rw[if_neg oX,if_neg oX,if_neg oX]
 unfold Rc.zero
 simp only[Rc.mk.injEq,YX,true_and,and_true]
 constructor<;>(intro h;simp_all)
def Rc.ofKind(k:Int):Rc:={ Rc.zero with kind:=k }
theorem Jy{x y:Rc}(h0:x.kind=y.kind)(h1:x.obj=y.obj)(h2:x.id=y.id)(h3:x.name=y.name)(h4:x.p=y.p)(h5:x.root=y.root)(h6:x.file=y.file)(h7:x.way=y.way)(h8:x.index=y.index)(h9:x.verdict=y.verdict)(h10:x.tick=y.tick):x=y:=by
 cases x;cases y
 simp only at*
 subst h0 h1 h2 h3 h4 h5 h6 h7 h8 h9 h10
 rfl
theorem Xq{x:Rc}(h:x.nums=true):(0<=x.obj/\x.obj<=1099511627776)/\(0<=x.tick/\x.tick<=1099511627776)/\(x.kind=2->(1<=x.way/\x.way<=2)/\(0<=x.index/\x.index<=1048576)/\(0<=x.id/\x.id<=1099511627776))/\(x.kind=3->(1<=x.verdict/\x.verdict<=3)/\(0<=x.id/\x.id<=1099511627776)):=by
 unfold Rc.nums XS at h
 by_cases h2:x.kind=2
 ·simp[h2,inB] at h
  exact⟨oX,oX,λ_=>⟨oX,oX,oX⟩,λe=>by omega⟩
 ·by_cases h3:x.kind=3
  ·simp[h3,inB] at h
   exact⟨oX,oX,λe=>by omega,λ_=>⟨oX,oX⟩⟩
  ·simp[h2,h3,inB] at h
   exact⟨oX,oX,λe=>absurd e h2,λe=>absurd e h3⟩
theorem Pw(x:Rc)(hk:x.kind=2)(hc:x.chk=0):nN (x.out,false) 1=2/\(Rc.ofKind 2).rest2 (nB (x.out,false) 1)=x/\Va (nB (x.out,false) 1)=([],false):=by
 obtain⟨_,hn,hz,_⟩:=Rc.chk0 hc
 obtain⟨r1,r2,r3,_⟩:=Xq hn
 obtain⟨r3,r4,r5⟩:=r3 hk
 obtain⟨z1,z2,z3,z4,z5⟩:=(bz2 x hk).1 hz
 have ho:x.out=[b8 2]++(Zk x.obj++(Zk x.id++([b8 x.way]++((Zk x.index).drop 4++(Zk x.tick++[]))))):=by
  unfold Rc.out Rc.head
  rw[if_neg oX,if_pos hk,hk]
  simp
 have a1:=got [b8 2] (Zk x.obj++(Zk x.id++([b8 x.way]++((Zk x.index).drop 4++(Zk x.tick++[]))))) 1 rfl
 have b1:=Q7 [b8 2] (Zk x.obj++(Zk x.id++([b8 x.way]++((Zk x.index).drop 4++(Zk x.tick++[]))))) 1 rfl
 have a2:=got (Zk x.obj) (Zk x.id++([b8 x.way]++((Zk x.index).drop 4++(Zk x.tick++[])))) 8 (Zm _)
 have b2:=Q7 (Zk x.obj) (Zk x.id++([b8 x.way]++((Zk x.index).drop 4++(Zk x.tick++[])))) 8 (Zm _)
 have a3:=got (Zk x.id) ([b8 x.way]++((Zk x.index).drop 4++(Zk x.tick++[]))) 8 (Zm _)
 have b3:=Q7 (Zk x.id) ([b8 x.way]++((Zk x.index).drop 4++(Zk x.tick++[]))) 8 (Zm _)
 have a4:=got [b8 x.way] ((Zk x.index).drop 4++(Zk x.tick++[])) 1 rfl
 have b4:=Q7 [b8 x.way] ((Zk x.index).drop 4++(Zk x.tick++[])) 1 rfl
 have a5:=got ((Zk x.index).drop 4) (Zk x.tick++[]) 4 (by rw[List.length_drop,Zm])
 have b5:=Q7 ((Zk x.index).drop 4) (Zk x.tick++[]) 4 (by rw[List.length_drop,Zm])
 have a6:=got (Zk x.tick) [] 8 (Zm _)
 have b6:=Q7 (Zk x.tick) [] 8 (Zm _)
 rw[ho]
 refine⟨by rw[b1,Yf];decide,?_,?_⟩
 ·rw[a1.2]
  unfold Rc.rest2
  rw[a2.2,a3.2,a4.2,a5.2,b2,b3,b4,b5,b6,Yu _ r1.1 r1.2,Yu _ r2.1 r2.2,Yu _ r5.1 r5.2,PV _ r4.1 r4.2,Yf,Q0 _ oX]
  exact Jy hk.symm rfl rfl ((YX _).2 z1).symm z2.symm z3.symm z4.symm rfl rfl z5.symm rfl
 ·rw[a1.2]
  unfold Va
  rw[a2.2,a3.2,a4.2,a5.2,a6.2]
theorem TY(x:Rc)(hk:x.kind=3)(hc:x.chk=0):nN (x.out,false) 1=3/\(Rc.ofKind 3).rest3 (nB (x.out,false) 1)=x/\JX (nB (x.out,false) 1)=([],false):=by
 obtain⟨_,hn,hz,_⟩:=Rc.chk0 hc
 obtain⟨r1,r2,_,r3⟩:=Xq hn
 obtain⟨r3,r5⟩:=r3 hk
 obtain⟨z1,z2,z3,z4,z5,z6⟩:=(bz3 x hk).1 hz
 have ho:x.out=[b8 3]++(Zk x.obj++(Zk x.id++([b8 x.verdict]++(Zk x.tick++[])))):=by
  unfold Rc.out Rc.head
  rw[if_neg oX,if_neg oX,if_pos hk,hk]
  simp
 have a1:=got [b8 3] (Zk x.obj++(Zk x.id++([b8 x.verdict]++(Zk x.tick++[])))) 1 rfl
 have b1:=Q7 [b8 3] (Zk x.obj++(Zk x.id++([b8 x.verdict]++(Zk x.tick++[])))) 1 rfl
 have a2:=got (Zk x.obj) (Zk x.id++([b8 x.verdict]++(Zk x.tick++[]))) 8 (Zm _)
 have b2:=Q7 (Zk x.obj) (Zk x.id++([b8 x.verdict]++(Zk x.tick++[]))) 8 (Zm _)
 have a3:=got (Zk x.id) ([b8 x.verdict]++(Zk x.tick++[])) 8 (Zm _)
 have b3:=Q7 (Zk x.id) ([b8 x.verdict]++(Zk x.tick++[])) 8 (Zm _)
 have a4:=got [b8 x.verdict] (Zk x.tick++[]) 1 rfl
 have b4:=Q7 [b8 x.verdict] (Zk x.tick++[]) 1 rfl
 have a6:=got (Zk x.tick) [] 8 (Zm _)
 have b6:=Q7 (Zk x.tick) [] 8 (Zm _)
 rw[ho]
 refine⟨by rw[b1,Yf];decide,?_,?_⟩
 ·rw[a1.2]
  unfold Rc.rest3
  rw[a2.2,a3.2,a4.2,b2,b3,b4,b6,Yu _ r1.1 r1.2,Yu _ r2.1 r2.2,Yu _ r5.1 r5.2,Yf,Q0 _ oX]
  exact Jy hk.symm rfl rfl ((YX _).2 z1).symm z2.symm z3.symm z4.symm z5.symm z6.symm rfl rfl
 ·rw[a1.2]
  unfold JX
  rw[a2.2,a3.2,a4.2,a6.2]
theorem Rv(x:Rc)(hk:x.kind=4)(hc:x.chk=0):nN (x.out,false) 1=4/\(Rc.ofKind 4).rest4 (nB (x.out,false) 1)=x/\JW (nB (x.out,false) 1)=([],false):=by
 obtain⟨_,hn,hz,_⟩:=Rc.chk0 hc
 obtain⟨r1,r2,_,_⟩:=Xq hn
 obtain⟨z1,z2,z3,z4,z5,z6,z7,z8⟩:=(bz4 x hk).1 hz
 have ho:x.out=[b8 4]++(Zk x.obj++(Zk x.tick++[])):=by
  unfold Rc.out Rc.head
  rw[if_neg oX,if_neg oX,if_neg oX,hk]
  simp
 have a1:=got [b8 4] (Zk x.obj++(Zk x.tick++[])) 1 rfl
 have b1:=Q7 [b8 4] (Zk x.obj++(Zk x.tick++[])) 1 rfl
 have a2:=got (Zk x.obj) (Zk x.tick++[]) 8 (Zm _)
 have b2:=Q7 (Zk x.obj) (Zk x.tick++[]) 8 (Zm _)
 have a6:=got (Zk x.tick) [] 8 (Zm _)
 have b6:=Q7 (Zk x.tick) [] 8 (Zm _)
 rw[ho]
 refine⟨by rw[b1,Yf];decide,?_,?_⟩
 ·rw[a1.2]
  unfold Rc.rest4
  rw[a2.2,b2,b6,Yu _ r1.1 r1.2,Yu _ r2.1 r2.2]
  exact Jy hk.symm rfl z8.symm ((YX _).2 z1).symm z2.symm z3.symm z4.symm z6.symm z7.symm z5.symm rfl
 ·rw[a1.2]
  unfold JW
  rw[a2.2,a6.2]
theorem CB(x:Rc)(hx:x.Ok)(hk:x.kind=1)(hc:x.chk=0):nN (x.out,false) 1=1/\(Rc.ofKind 1).rest1 (nB (x.out,false) 1)={ x with p:=P6.zero }/\Yq (nB (x.out,false) 1)=([],false)/\nO (Y2 (nB (x.out,false) 1)) 9=ZF x.p.s x.p.n x.p.k x.p.d x.p.t x.p.r:=by
 obtain⟨_,hn,hz,hl⟩:=Rc.chk0 hc
 obtain⟨hlab,_⟩:=hl hk
 have hs12:=Gh hlab
 obtain⟨r1,r2,_,_⟩:=Xq hn
 obtain⟨z1,z2,z3,z4⟩:=(bz1 x hk).1 hz
 have hnl:x.name.data.toList.length=x.name.size:=sX
 have ho:x.out=[b8 1]++(Zk x.obj++([b8 (x.name.size:Int)]++(x.name.data.toList++(ZF x.p.s x.p.n x.p.k x.p.d x.p.t x.p.r++(x.root++(x.file++(Zk x.tick++[]))))))):=by
  unfold Rc.out Rc.head
  rw[if_pos hk,hk]
  simp
 have a1:=got [b8 1] (Zk x.obj++([b8 (x.name.size:Int)]++(x.name.data.toList++(ZF x.p.s x.p.n x.p.k x.p.d x.p.t x.p.r++(x.root++(x.file++(Zk x.tick++[]))))))) 1 rfl
 have b1:=Q7 [b8 1] (Zk x.obj++([b8 (x.name.size:Int)]++(x.name.data.toList++(ZF x.p.s x.p.n x.p.k x.p.d x.p.t x.p.r++(x.root++(x.file++(Zk x.tick++[]))))))) 1 rfl
 have a2:=got (Zk x.obj) ([b8 (x.name.size:Int)]++(x.name.data.toList++(ZF x.p.s x.p.n x.p.k x.p.d x.p.t x.p.r++(x.root++(x.file++(Zk x.tick++[])))))) 8 (Zm _)
 have b2:=Q7 (Zk x.obj) ([b8 (x.name.size:Int)]++(x.name.data.toList++(ZF x.p.s x.p.n x.p.k x.p.d x.p.t x.p.r++(x.root++(x.file++(Zk x.tick++[])))))) 8 (Zm _)
 have a3:=got [b8 (x.name.size:Int)] (x.name.data.toList++(ZF x.p.s x.p.n x.p.k x.p.d x.p.t x.p.r++(x.root++(x.file++(Zk x.tick++[]))))) 1 rfl
 have b3:H5 ([b8 (x.name.size:Int)]++(x.name.data.toList++(ZF x.p.s x.p.n x.p.k x.p.d x.p.t x.p.r++(x.root++(x.file++(Zk x.tick++[]))))),false) 1=x.name.size:=by
  have h:=Q7 [b8 (x.name.size:Int)] (x.name.data.toList++(ZF x.p.s x.p.n x.p.k x.p.d x.p.t x.p.r++(x.root++(x.file++(Zk x.tick++[]))))) 1 rfl
  rw[Yf,Q0 _ oX,Cq] at h
  omega
 have a4:=got x.name.data.toList (ZF x.p.s x.p.n x.p.k x.p.d x.p.t x.p.r++(x.root++(x.file++(Zk x.tick++[])))) x.name.size hnl
 have a5:=got (ZF x.p.s x.p.n x.p.k x.p.d x.p.t x.p.r) (x.root++(x.file++(Zk x.tick++[]))) 9 rfl
 have a6:=got x.root (x.file++(Zk x.tick++[])) 32 hx.root
 have a7:=got x.file (Zk x.tick++[]) 32 hx.file
 have a8:=got (Zk x.tick) [] 8 (Zm _)
 have b8':=Q7 (Zk x.tick) [] 8 (Zm _)
 rw[ho]
 have e3:Yp (nB ([b8 1]++(Zk x.obj++([b8 (x.name.size:Int)]++(x.name.data.toList++(ZF x.p.s x.p.n x.p.k x.p.d x.p.t x.p.r++(x.root++(x.file++(Zk x.tick++[]))))))),false) 1)=x.name.size:=by
  unfold Yp
  rw[a1.2,a2.2,b3]
 refine⟨by rw[b1,Yf];decide,?_,?_,?_⟩
 ·unfold Rc.rest1 Xd XF XB Y2 Xb
  rw[e3,a1.2,a2.2,a3.2,a4.2,a5.2,a6.2,a7.2,b2,b8',a4.1,a6.1,a7.1,Yu _ r1.1 r1.2,Yu _ r2.1 r2.2]
  exact Jy hk.symm rfl z1.symm (VF sX) rfl rfl rfl z2.symm z3.symm z4.symm rfl
 ·unfold Yq Xd XF XB Y2 Xb
  rw[e3,a1.2,a2.2,a3.2,a4.2,a5.2,a6.2,a7.2,a8.2]
 ·unfold Y2 Xb
  rw[e3,a1.2,a2.2,a3.2,a4.2,a5.1]
theorem TC:∀ (bs:List UInt8) (s:Nat),2199023255552<=s->2199023255552<=ZH bs s
 | [],_,h=>h
 | b::r,s,h=>TC r _ (by rw[Nat.min_eq_right h];omega)
def beN:List UInt8->Nat->Nat
 | [],s=>s
 | b::r,s=>beN r (s*256+b.toNat)
theorem TO:∀ (bs:List UInt8) (s:Nat),ZH bs s<2199023255552->ZH bs s=beN bs s
 | [],_,_=>rfl
 | b::r,s,h=>by
  have h2:ZH r (min s 2199023255552*256+b.toNat)<2199023255552:=h
  by_cases hs:s<=2199023255552
  ·show ZH r (min s 2199023255552*256+b.toNat)=beN r (s*256+b.toNat)
   rw[Nat.min_eq_left hs] at h2 ⊢
   exact TO r _ h2
  ·have:=TC r (min s 2199023255552*256+b.toNat) oX
   omega
theorem CL{l:List UInt8}(h:l.length=8):∃ b0 b1 b2 b3 b4 b5 b6 b7,l=[b0,b1,b2,b3,b4,b5,b6,b7]:=by
 match l,h with
 | [b0,b1,b2,b3,b4,b5,b6,b7],_=>exact⟨b0,b1,b2,b3,b4,b5,b6,b7,rfl⟩
theorem CH{l:List UInt8}(h:l.length=4):∃ b0 b1 b2 b3,l=[b0,b1,b2,b3]:=by
 match l,h with
 | [b0,b1,b2,b3],_=>exact⟨b0,b1,b2,b3,rfl⟩
theorem CO{l:List UInt8}(h:l.length=1):∃ b0,l=[b0]:=by
 match l,h with
 | [b0],_=>exact⟨b0,rfl⟩
theorem GK(v:Int):Zk v=[Zx v (7-7),Zx v (7-6),Zx v (7-5),Zx v (7-4),Zx v (7-3),Zx v (7-2),Zx v (7-1),Zx v (7-0)]:=rfl
theorem Yk(v:Nat)(h:v<9223372036854775808)(r:Nat)(hr:r<8)(b:UInt8)(hb:v / 256 ^ r % 256=b.toNat):Zx (v:Int) (7-r)=b:=by
 refine UInt8.toNat_inj.1 ?_
 rw[Ya (v:Int) oX oX r hr,Int.toNat_natCast,hb]
theorem WY(l:List UInt8)(h8:l.length=8)(h:ZH l 0<=1099511627776):Zk ((ZH l 0:Nat):Int)=l:=by
 obtain⟨b0,b1,b2,b3,b4,b5,b6,b7,rfl⟩:=CL h8
 have hbe:ZH [b0,b1,b2,b3,b4,b5,b6,b7] 0=beN [b0,b1,b2,b3,b4,b5,b6,b7] 0:=TO _ _ oX
 rw[hbe] at h ⊢
 obtain⟨v,hv⟩:∃ v,v=beN [b0,b1,b2,b3,b4,b5,b6,b7] 0:=⟨_,rfl⟩
 rw[<-hv] at h ⊢
 simp only[beN] at hv
 have k0:=b0.toNat_lt
 have k1:=b1.toNat_lt
 have k2:=b2.toNat_lt
 have k3:=b3.toNat_lt
 have k4:=b4.toNat_lt
 have k5:=b5.toNat_lt
 have k6:=b6.toNat_lt
 have k7:=b7.toNat_lt
 rw[GK,Yk v oX 7 dX b0 oX,Yk v oX 6 dX b1 oX,Yk v oX 5 dX b2 oX,Yk v oX 4 dX b3 oX,Yk v oX 3 dX b4 oX,Yk v oX 2 dX b5 oX,Yk v oX 1 dX b6 oX,Yk v oX 0 dX b7 oX]
theorem W9(l:List UInt8)(h4:l.length=4):(Zk ((ZH l 0:Nat):Int)).drop 4=l:=by
 obtain⟨b0,b1,b2,b3,rfl⟩:=CH h4
 have k0:=b0.toNat_lt
 have k1:=b1.toNat_lt
 have k2:=b2.toNat_lt
 have k3:=b3.toNat_lt
 obtain⟨v,hv⟩:∃ v,v=ZH [b0,b1,b2,b3] 0:=⟨_,rfl⟩
 rw[<-hv]
 simp only[ZH] at hv
 have e:((Zk (v:Int)).drop 4)=[Zx v (7-3),Zx v (7-2),Zx v (7-1),Zx v (7-0)]:=by rw[GK];rfl
 rw[e,Yk v oX 3 dX b0 oX,Yk v oX 2 dX b1 oX,Yk v oX 1 dX b2 oX,Yk v oX 0 dX b3 oX]
theorem Jl(b:UInt8):b8 ((b.toNat:Nat):Int)=b:=by
 refine UInt8.toNat_inj.1 ?_
 have h:=Q0 (b.toNat:Int) ⟨oX,by have:=b.toNat_lt;omega⟩
 omega
def nBs:List UInt8×Bool->List Nat->List UInt8×Bool
 | s,[]=>s
 | s,n::r=>nBs (nB s n) r
theorem BI(l:List UInt8)(n:Nat):nB (l,true) n=(l,true):=by
 unfold nB YB YE
 rw[if_pos (.inl rfl),if_pos (.inl rfl)]
theorem M3(l:List UInt8):∀ ns,nBs (l,true) ns=(l,true)
 | []=>rfl
 | n::r=>by show nBs (nB (l,true) n) r=_;rw[BI];exact M3 l r
theorem H9{l:List UInt8}{n:Nat}(h:l.length<n):nB (l,false) n=(l,true):=by
 unfold nB YB YE
 rw[if_pos (.inr h),if_pos (.inr h)]
theorem Mx{l:List UInt8}{n:Nat}(h:n<=l.length):nB (l,false) n=(l.drop n,false):=by
 have hh:¬(false=true\/l.length<n):=λe=>e.elim (λe=>Bool.noConfusion e) (λe=>absurd e oX)
 unfold nB YB YE
 rw[if_neg hh,if_neg hh]
theorem XK:∀ (ns:List Nat) (l:List UInt8),l.length<ns.sum->(nBs (l,false) ns).2=true
 | [],l,h=>by simp at h
 | n::r,l,h=>by
  rw[List.sum_cons] at h
  show (nBs (nB (l,false) n) r).2=true
  by_cases hn:l.length<n
  ·rw[H9 hn,M3]
  ·rw[Mx oX]
   exact XK r _ c3X
theorem QS:∀ (ns:List Nat) (l:List UInt8),ns.sum<=l.length->nBs (l,false) ns=(l.drop ns.sum,false)
 | [],l,_=>by simp[nBs]
 | n::r,l,h=>by
  rw[List.sum_cons] at h ⊢
  show nBs (nB (l,false) n) r=_
  rw[Mx oX,QS r _ c3X,List.drop_drop]
theorem VZ:∀ (bs:List UInt8) (s:Nat),s<=562949953421567->ZH bs s<=562949953421567
 | [],_,h=>h
 | b::r,s,h=>VZ r _ (by have:=b.toNat_lt;omega)
theorem Gm{w:World}{b o c:Nat}{bs:List UInt8}(h:ArgB w (some ⟨b,o,none⟩) c bs)(i:Nat)(hi:i<bs.length):w.cell? ⟨b,o+i,none⟩=some (.int .u8 ((bs.getD i 0).toNat:Int)):=by
 obtain⟨b2,off,e,hc⟩:=h.row i hi
 cases e
 exact hc
theorem T7(x:Rc):(nB (x.out,false) 1).2=false:=by
 have h:¬x.out.length<1:=by
  unfold Rc.out Rc.head
  split
  ·simp
  ·split
   ·simp
   ·split<;>simp
 show YE x.out false 1=false
 unfold YE
 refine if_neg λhh=>?_
 rcases hh with hh|hh
 ·cases hh
 ·exact h hh
theorem Wr(p:P6)(h:Qi p.s p.n p.k p.d p.t p.r=none)(g cc:Nat)(w:World)(hA:ArgB w (some ⟨g,0,none⟩) cc (ZF p.s p.n p.k p.d p.t p.r))(ea:Nat->Addr)(H:Errs 298 errGs w ea) :
  Calls Tryz.prog 66 #[.slice (some ⟨g,0,none⟩) 9 cc] w λe w2=>e=.returned (.tuple #[.agg p.list.toArray,.nilIface])/\Below w.heap.size w w2:=by
 obtain⟨s,n,k,d,t,r⟩:=p
 obtain⟨hs,hn,hk,hd,ht,hr⟩:Kn s n k d t r:=Up h
 replace hA:ArgB w (some ⟨g,0,none⟩) cc (ZF s n k d t r):=hA
 replace h:Qi s n k d t r=none:=h
 have hc:=Gm hA
 have hl:(ZF s n k d t r).length=9:=rfl
 have v1:((b8 (s / 256)).toNat:Int)*256+(b8 s).toNat=s:=by rw[Q0 (s / 256) oX,Vf s];omega
 have v2:((b8 (d / 256)).toNat:Int)*256+(b8 d).toNat=d:=by rw[Q0 (d / 256) oX,Vf d];omega
 have v3:((b8 (t / 256)).toNat:Int)*256+(b8 t).toNat=t:=by rw[Q0 (t / 256) oX,Vf t];omega
 have v4:=Q0 n oX
 have v5:=Q0 k oX
 have v6:=Q0 r oX
 have hh:Qi (((b8 (s / 256)).toNat:Int)*256+(b8 s).toNat) ((b8 n).toNat:Int) ((b8 k).toNat:Int) (((b8 (d / 256)).toNat:Int)*256+(b8 d).toNat) (((b8 (t / 256)).toNat:Int)*256+(b8 t).toNat) ((b8 r).toNat:Int)=none:=by rw[v1,v2,v3,v4,v5,v6];exact h
 have hp:=KJ g 0 cc (b8 (s / 256)) (b8 s) (b8 n) (b8 k) (b8 (d / 256)) (b8 d) (b8 (t / 256)) (b8 t) (b8 r) (by have:=hA.len;rw[hl] at this;exact this) w hh (pz ea) (UJ H) (hc 0 (by rw[hl];decide)) (hc 1 (by rw[hl];decide)) (hc 2 (by rw[hl];decide)) (hc 3 (by rw[hl];decide)) (hc 4 (by rw[hl];decide)) (hc 5 (by rw[hl];decide)) (hc 6 (by rw[hl];decide)) (hc 7 (by rw[hl];decide)) (hc 8 (by rw[hl];decide))
 rw[v1,v2,v3,v4,v5,v6] at hp
 exact hp
theorem QI(k:Int)(W:World):(Instr.build 49 #[(0,.int .i64 k)]).run Tryz.prog W=.ok (.agg (Rc.ofKind k).list.toArray) W:=by
 refine run_build W _ _ _ ?_
 kernel_rfl
def Ko(x:Rc)(w:World)(e:Ending)(w':World):Prop:=e=.returned (.tuple #[.agg x.list.toArray,.nilIface])/\Below w.heap.size w w'
theorem VQ(k:Int)(hk3:k=2\/k=3\/k=4)(x:Rc)(hx:x.Ok)(hk:x.kind=k)(hc:x.chk=0)(a:Option Addr)(c:Nat)(n:Nat)(w:World)(ha:ArgB w a c x.out)(hn:x.out.length=n)(hm:n<=1000)(haf:∀ ad,a=some ad->∃ b o,ad=⟨b,o,none⟩/\b<w.heap.size)(ea:Nat->Addr)(H:Errs 298 errGs w ea) :
  Calls Tryz.prog 29 #[.slice a n c] w (Ko x w):=by
 have hk1:nN (x.out,false) 1=k:=by
  rcases hk3 with rfl|rfl|rfl
  ·exact(Pw x hk hc).1
  ·exact(TY x hk hc).1
  ·exact(Rv x hk hc).1
 obtain⟨w1,hw1⟩:∃ w1,w1=(w.alloc (.cells Tryz.zeroCells49 49)).alloc (.cells #[.slice a n c,.bool false] 140):=⟨_,rfl⟩
 have hb1:Below w.heap.size w w1:=by rw[hw1];exact(bR.alloc nR _).alloc sX _
 have hs1:w1.heap.size=w.heap.size+2:=by rw[hw1];simp
 have hz1:w1.heap[w.heap.size]? = some (.cells Tryz.zeroCells49 49 (0,0)):=by rw[hw1,Zz,if_neg sX,Zz,if_pos rfl]
 have hq1:w1.heap[w.heap.size+1]? = some (.cells #[.slice a n c,.bool false] 140 (0,0)):=by rw[hw1,Zz,if_pos sX]
 have hr1:RdM w1 (w.heap.size+1) w.heap.size (x.out,false).1 (x.out,false).2:=by
  refine⟨a,c,by rw[hn];exact hq1,ha.below hb1,λad e=>?_⟩
  obtain⟨b,o,h1,h2⟩:=haf ad e
  exact⟨b,o,h1,oX,h2⟩
 have hn0:∀ W,RdM W (w.heap.size+1) w.heap.size (x.out,false).1 (x.out,false).2->Calls Tryz.prog 63 #[.pointer (some ⟨w.heap.size+1,0,none⟩),.int .i64 1] W λe w2=>e=.returned (.int .i64 k)/\RdM w2 (w.heap.size+1) w.heap.size (nB (x.out,false) 1).1 (nB (x.out,false) 1).2/\Only (λk=>k=w.heap.size+1) W w2:=by
  intro W h
  have h:=Z9 (w.heap.size+1) w.heap.size (x.out,false) 1 W h dX (by show x.out.length<=1000000;omega)
  rw[hk1] at h
  exact h
 have hsf:=T7 x
 have hml:(nB (x.out,false) 1).1.length<=1000000:=Nat.le_trans (QO _ _) (by show x.out.length<=1000000;omega)
 have hrest:∀ W pp,W.heap[pp]? = some (.cells (Rc.ofKind k).list.toArray 49 (0,0))->RdM W (w.heap.size+1) w.heap.size (nB (x.out,false) 1).1 (nB (x.out,false) 1).2->pp≠w.heap.size+1->w.heap.size<=pp->Calls Tryz.prog 65 #[.pointer (some ⟨w.heap.size+1,0,none⟩),.pointer (some ⟨pp,0,none⟩)] W λe w2=>e=.returned (.slice none 0 0)/\w2.heap[pp]? = some (.cells x.list.toArray 49 (0,0))/\RdM w2 (w.heap.size+1) w.heap.size [] false/\Only (λk=>k=pp\/k=w.heap.size+1) W w2:=λW pp h1 h2 h3 h4=>by
  rcases hk3 with rfl|rfl|rfl
  ·have h:=TQ pp (w.heap.size+1) w.heap.size (Rc.ofKind 2) (nB (x.out,false) 1) W Zr Zr rfl h1 h2 h3 h4 hml
   rw[(Pw x hk hc).2.1,(Pw x hk hc).2.2] at h
   exact h
  ·have h:=TG pp (w.heap.size+1) w.heap.size (Rc.ofKind 3) (nB (x.out,false) 1) W Zr Zr rfl h1 h2 h3 h4 hml
   rw[(TY x hk hc).2.1,(TY x hk hc).2.2] at h
   exact h
  ·have h:=TN pp (w.heap.size+1) w.heap.size (Rc.ofKind 4) (nB (x.out,false) 1) W Zr Zr rfl h1 h2 h3 h4 hml
   rw[(Rv x hk hc).2.1,(Rv x hk hc).2.2] at h
   exact h
 have hck:=Hd (λW h=>VY x hx hc ea W h)
 have hbd:=Hd (QI k)
 have s78:(Rc.ofKind k).list.toArray.size=78:=by rw[List.size_toArray,Rc.len (x:=Rc.ofKind k) Zr Zr]
 have i8:(Tryz.prog.info? 49).map (·.size)=some (Rc.ofKind k).list.toArray.size:=by rw[s78];kernel_rfl
 have z8:(Tryz.zeroCells49).size=(Rc.ofKind k).list.toArray.size:=by rw[s78];kernel_rfl
 have hVo:=Rc.all_one (Rc.ofKind k)
 have iX:(Tryz.prog.info? 49).map (·.size)=some x.list.toArray.size:=by rw[Rc.size hx];kernel_rfl
 have zX:(Tryz.zeroCells49).size=x.list.toArray.size:=by rw[Rc.size hx];kernel_rfl
 have hXo:=Rc.all_one x
 have hu:=Tryz.underlying49
 have hrk0:∀ (W:World) b,W.heap[b]? = some (.cells (Rc.ofKind k).list.toArray 49 (0,0))->W.cell? ⟨b,0,none⟩=some (.int .i64 k):=λW b h=>by rw[Za h];rfl
 generalize (Rc.ofKind k).list.toArray=RK at*
 have hpost:∀ W,Below w.heap.size w W->Ko x w (.returned (.tuple #[.agg x.list.toArray,.nilIface])) W:=λW h=>⟨rfl,h⟩
 generalize hX:x.list.toArray=X at*
 generalize nB (x.out,false) 1=s1 at*
 obtain⟨q,hq⟩:∃ q,q=w.heap.size+1:=⟨_,rfl⟩
 obtain⟨B,hBd⟩:∃ B,B=w.heap.size:=⟨_,rfl⟩
 replace hw1:=Hd hw1
 replace hn0:=Hd hn0
 replace hrest:=Hd hrest
 replace hr1:=Hd hr1
 replace hz1:=Hd hz1
 replace hb1:=Hd hb1
 replace H:=Hd H
 replace hpost:=Hd hpost
 replace hrk0:=Hd hrk0
 clear hn hm haf ha hq1 hml hX hc hk hx
 go_enter Tryz.func29,Tryz.ntmps29
 go_wp2_with fail
 rw[<-hw1.out]
 with_reducible refine(hn0.out _ hr1.out).mono ?_
 rintro e wa ⟨rfl,hra,hoa⟩
 have hza:=Hd (hoa.heap hz1.out oX)
 have hsa:=hoa.size
 have hOa:Only (λk=>k=w.heap.size+1) w1 wa:=hoa
 have hna:w.heap.size+1<wa.heap.size:=oX
 have hZp:=Hd (heap_alloc_new wa (.cells Tryz.zeroCells49 49))
 have hba:Below w.heap.size w wa:=hb1.out.trans (hoa.below oX (λk e=>by omega))
 replace hra:=Hd hra
 replace hba:=Hd hba
 clear hoa hOa
 go_wp2_with (first
  | ((with_reducible refine wL (.build 49 _) ?_);refine Z3 rfl 49 [(0,.tmp 14)] rfl [(0,.int .i64 k)] rfl _ (hbd.out _) ?_)
  | ((with_reducible refine wL (.store 49 (.tmp 5) _) ?_);(refine Zc rfl 49 (.tmp 5) (.tmp 15) rfl wa.heap.size _ RK rfl rfl hZp i8 z8 hVo ?_);intro w3 hU3;have hP3:=Hd hU3.out.here;have hb3:=Hd ((Below.alloc (Below.refl wa.heap.size wa) nR (.cells Tryz.zeroCells49 49)).trans (hU3.out.below nR));have hr3:=Hd (hra.out.only (D:=λ_=>False) (Only.ofBelow hb3.out) (λe=>e) (λk e=>e.elim));have hz3:=Hd ((hb3.out.block _ (Zb hza.out)).trans hza.out);have k0:=hrk0.out _ _ hP3.out;obtain⟨a3,c3,hq3,_⟩:=hr3.out;rw[hsf] at hq3;have j1:=Za hq3 1;have hbw3:=Hd (hba.out.trans (hb3.out.mono hba.out.size));clear hq3))
 with_reducible refine(Z2 k 1 4 _).mono ?_
 rintro e w4 ⟨rfl,rfl⟩
 have hi4:inB k 1 4=true:=by rcases hk3 with rfl|rfl|rfl<;>decide
 go_wp2_with fail
 with_reducible refine(hrest.out _ _ hP3.out hr3.out oX oX).mono ?_
 rintro e w5 ⟨rfl,hP5,hr5,ho5⟩
 have hz5:=Hd (ho5.heap hz3.out oX)
 have hbw5:=Hd (hbw3.out.trans (ho5.below hbw3.out.size (λk e=>by omega)))
 obtain⟨a5,c5,hq5,_⟩:=hr5
 clear j1 k0
 have j1:=Za hq5 1
 have j0:=Za hq5 0
 clear hq5 ho5
 replace hP5:=Hd hP5
 have hH5:=Hd (H.out.below hbw5.out)
 go_wp2_with (with_reducible refine Zd rfl 49 (.tmp 5) rfl wa.heap.size X _ rfl hP5 hu rfl iX ?_)
 with_reducible refine(hck.out _ hH5.out).mono ?_
 rintro e w6 ⟨rfl,hb6⟩
 have hP6:=Hd ((hb6.block _ (Zb hP5.out)).trans hP5.out)
 have hz6:=Hd ((hb6.block _ (Zb hz5.out)).trans hz5.out)
 have hbw6:=Hd (hbw5.out.trans (hb6.mono hbw5.out.size))
 clear hb6 j0 j1
 go_wp2_with (first
  | (with_reducible refine Zd rfl 49 (.tmp 5) rfl wa.heap.size X _ rfl hP6 hu rfl iX ?_)
  | ((with_reducible refine wL (.store 49 (.tmp 2) _) ?_);(refine Zc rfl 49 (.tmp 2) (.tmp 68) rfl w.heap.size _ X rfl rfl hz6 iX zX hXo ?_);intro w10 hU10))
 exact Zl rfl rfl hu rfl iX hU10.out.here (hpost.out _ (hbw6.out.trans (hU10.out.below nR)))
end Go.Proofs.YtpdhceiodgnbmaaGreatDoor
