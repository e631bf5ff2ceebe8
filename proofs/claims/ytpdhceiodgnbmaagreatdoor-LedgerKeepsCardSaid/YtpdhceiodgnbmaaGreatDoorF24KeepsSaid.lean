import Derived.Test.YtpdhceiodgnbmaaGreatDoorF23KeepsSaid
import Derived.Test.YtpdhceiodgnbmaaGreatDoorF18KeepsSaid
set_option linter.all false
set_option maxRecDepth 100000
set_option maxHeartbeats 8000000
namespace Go.Proofs.YtpdhceiodgnbmaaGreatDoor
open Go.RowKit
theorem HO{K:Act->World->Prop}{Q:Exit->Act->World->Prop}{o:Oper}{a:Act}{w:World}(x:Operand)(ho:o.op=.convert 9 24 x)(s:ByteArray)(hx:a.eval x=.string s)(hs:s.size<=1000000)
  (h:∀ v' w',Hid (uM w.heap.size w' v' s.data.toList)->Hid (Below w.heap.size w w')->K (a.put o.dst v') w'):o.wp Tryz.prog a w K Q:=by
 have hrun:=run_bytes_of_string (P:=Tryz.prog) w 9 24 5 s Tryz.underlying9 Tryz.underlying24 Tryz.underlying5;have hge:=grownCap_ge w s.size 0 5;have hcm:=grownCap_le_maxLen w s.size 0 5 kS;have hlen:s.data.toList.length=s.size:=sX;generalize grownCap w s.size 0 5=cap at*;have hsz:(bytesRow s cap).size=cap:=by simp[bytesRow];omega
 have hnew:(w.drew.alloc (.cells (bytesRow s cap) 5 ((bytesRow s cap).size,(bytesRow s cap).size+1))).heap[w.heap.size]? = some (.cells (bytesRow s cap) 5 ((bytesRow s cap).size,(bytesRow s cap).size+1)):=heap_alloc_new w.drew _;unfold Oper.wp;simp[execOp,ho,hx,hrun,Result.andThen,-World.alloc_eq,-World.drew_eq];refine h _ _ (Hd ⟨w.heap.size,cap,by rw[hlen],Nat.le_refl _,Zb hnew,aB,hcm,λi hi=>?_,λj hj1 hj2=>⟨?_,?_⟩⟩) (Hd ((Below.refl w.heap.size w).drew.alloc nZ _))
 ·simp only[World.cell?,hnew];rw[hlen] at hi;rw[bytesRow,Array.getElem?_append_left (by simpa using hi)];simp[cf,hi]
 ·simp only[World.cell?,hnew];simp[hsz];omega
 ·have hfz:∀ W:World,W.heap[w.heap.size]? = some (.cells (bytesRow s cap) 5 ((bytesRow s cap).size,(bytesRow s cap).size+1))->W.frozen? ⟨w.heap.size,j,none⟩=false:=λW hW=>by
   simp only[World.frozen?,hW,hsz,Bool.and_eq_false_iff,decide_eq_false_iff_not];left;omega
  exact hfz _ hnew
theorem G5{s:ByteArray}(h:Vq s.data.toList=true):s.size<=12:=by
 have hl:s.data.toList.length=s.size:=sX;unfold Vq at h;simp at h;omega
theorem Mg{W:World}{b o:Nat}{bs:List UInt8}(h:W.rangeAt b o (cB bs))(hl:bs.length=32):aJ W (some ⟨b,o,none⟩) 32 bs:=by
 refine⟨aB,kS,(λe=>by cases e),λi hi=>⟨_,_,rfl,?_⟩⟩;refine h i _ ?_;simp[cB,hi]
theorem D6(x:Rc)(hx:x.Ok)(T:TypeId){W:World}{b:Nat}(h:W.heap[b]? = some (.cells x.list.toArray T (0,0))):aJ W (some ⟨b,10,none⟩) 32 x.root:=Mg (Qm h (Rc.sub_root hx.root)) hx.root
theorem Lt(x:Rc)(hx:x.Ok)(T:TypeId){W:World}{b:Nat}(h:W.heap[b]? = some (.cells x.list.toArray T (0,0))):aJ W (some ⟨b,42,none⟩) 32 x.file:=Mg (Qm h (Rc.sub_file hx.root hx.file)) hx.file
theorem CG{w:World}{B:Nat}{p0 p1 p2 p3 p4 p5 p6:List UInt8}{a0 a1 a2 a3 a4 a5 a6:Option Addr}{c0 c1 c2 c3 c4 c5 c6 l0 l1 l2 l3 l4 l5 l6:Nat}(hB:w.heap[B]? = some (.cells #[.slice a0 l0 c0,.slice a1 l1 c1,.slice a2 l2 c2,.slice a3 l3 c3,.slice a4 l4 c4,.slice a5 l5 c5,.slice a6 l6 c6] 24 (0,0)))
  (e0:p0.length=l0) (e1:p1.length=l1) (e2:p2.length=l2) (e3:p3.length=l3) (e4:p4.length=l4) (e5:p5.length=l5) (e6:p6.length=l6) (h0:aJ w a0 c0 p0) (h1:aJ w a1 c1 p1) (h2:aJ w a2 c2 p2) (h3:aJ w a3 c3 p3) (h4:aJ w a4 c4 p4) (h5:aJ w a5 c5 p5) (h6:aJ w a6 c6 p6):eU w B [p0,p1,p2,p3,p4,p5,p6]:=by
 intro k hk;match k,hk with
 | 0,_=>exact⟨a0,c0,by rw[Za hB];show some (Value.slice a0 l0 c0)=_;rw[<-e0];rfl,h0⟩
 | 1,_=>exact⟨a1,c1,by rw[Za hB];show some (Value.slice a1 l1 c1)=_;rw[<-e1];rfl,h1⟩
 | 2,_=>exact⟨a2,c2,by rw[Za hB];show some (Value.slice a2 l2 c2)=_;rw[<-e2];rfl,h2⟩
 | 3,_=>exact⟨a3,c3,by rw[Za hB];show some (Value.slice a3 l3 c3)=_;rw[<-e3];rfl,h3⟩
 | 4,_=>exact⟨a4,c4,by rw[Za hB];show some (Value.slice a4 l4 c4)=_;rw[<-e4];rfl,h4⟩
 | 5,_=>exact⟨a5,c5,by rw[Za hB];show some (Value.slice a5 l5 c5)=_;rw[<-e5];rfl,h5⟩
 | 6,_=>exact⟨a6,c6,by rw[Za hB];show some (Value.slice a6 l6 c6)=_;rw[<-e6];rfl,h6⟩
theorem Yo(v:Int)(h1:0<=v)(h2:v<9223372036854775808)(r:Nat)(hr:r<8):(Z1 v (7-r)).toNat=v.toNat / 256 ^ r % 256:=by
 have h:=Dp v r hr;unfold Bo NM at h;have e:(v % 18446744073709551616).toNat=v.toNat:=aB;rw[e] at h;omega
theorem Y9(v:Int)(h1:0<=v)(h2:v<=1099511627776):((ZO (Zh v) 0:Nat):Int)=v:=by
 have b0:=Yo v h1 aB 7 dX;have b1:=Yo v h1 aB 6 dX;have b2:=Yo v h1 aB 5 dX;have b3:=Yo v h1 aB 4 dX;have b4:=Yo v h1 aB 3 dX;have b5:=Yo v h1 aB 2 dX;have b6:=Yo v h1 aB 1 dX;have b7:=Yo v h1 aB 0 dX;simp only[Nat.reduceSub,Nat.reducePow,Nat.div_one] at b0 b1 b2 b3 b4 b5 b6 b7;have e:Zh v=[Z1 v 0,Z1 v 1,Z1 v 2,Z1 v 3,Z1 v 4,Z1 v 5,Z1 v 6,Z1 v 7]:=rfl;rw[e];simp only[ZO,b0,b1,b2,b3,b4,b5,b6,b7];omega
theorem Le(v:Int)(h1:0<=v)(h2:v<=1048576):((ZO ((Zh v).drop 4) 0:Nat):Int)=v:=by
 have b4:=Yo v h1 aB 3 dX;have b5:=Yo v h1 aB 2 dX;have b6:=Yo v h1 aB 1 dX;have b7:=Yo v h1 aB 0 dX;simp only[Nat.reduceSub,Nat.reducePow,Nat.div_one] at b4 b5 b6 b7;have e:(Zh v).drop 4=[Z1 v 4,Z1 v 5,Z1 v 6,Z1 v 7]:=rfl;rw[e];simp only[ZO,b4,b5,b6,b7];omega
theorem Yu(b:UInt8):ZO [b] 0=b.toNat:=by simp[ZO]
theorem got(A R:List UInt8)(n:Nat)(h:A.length=n):nO (A++R,false) n=A/\nB (A++R,false) n=(R,false):=by
 subst h;have hs:¬(false=true\/(A++R).length<A.length):=sX;unfold nO nB Qv YU YV;simp only[if_neg hs];simp
theorem QL(A R:List UInt8)(n:Nat)(h:A.length=n):nN (A++R,false) n=(ZO A 0:Nat):=by
 have:=(got A R n h).1;unfold nO at this;unfold nN;rw[this]
theorem Xs(s:ByteArray):s=⟨#[]⟩↔s.size=0:=by
 constructor
 ·intro h;rw[h];rfl
 ·intro h;apply VL;exact List.length_eq_zero_iff.1 (by simpa using h)
theorem bz1(x:Rc)(hk:x.kind=1):x.bare=Rc.zero↔x.id=0/\x.way=0/\x.index=0/\x.verdict=0:=by
 unfold Rc.bare;rw[if_pos hk];unfold Rc.zero;simp only[Rc.mk.injEq,Xs,true_and,and_true]
theorem bz2(x:Rc)(hk:x.kind=2):x.bare=Rc.zero↔x.name.size=0/\x.p=P6.zero/\x.root=z32/\x.file=z32/\x.verdict=0:=by
 unfold Rc.bare;rw[if_neg aB,if_pos hk];unfold Rc.zero;simp only[Rc.mk.injEq,Xs,true_and,and_true]
theorem bz3(x:Rc)(hk:x.kind=3):x.bare=Rc.zero↔x.name.size=0/\x.p=P6.zero/\x.root=z32/\x.file=z32/\x.way=0/\x.index=0:=by
 unfold Rc.bare;rw[if_neg aB,if_neg aB,if_pos hk];unfold Rc.zero;simp only[Rc.mk.injEq,Xs,true_and,and_true]
theorem bz4(x:Rc)(hk:x.kind=4):x.bare=Rc.zero↔x.name.size=0/\x.p=P6.zero/\x.root=z32/\x.file=z32/\x.verdict=0/\x.way=0/\x.index=0/\x.id=0:=by
 unfold Rc.bare;rw[if_neg aB,if_neg aB,if_neg aB];unfold Rc.zero;simp only[Rc.mk.injEq,Xs,true_and,and_true];constructor<;>(intro h;simp_all)
def Rc.ofKind(k:Int):Rc:={ Rc.zero with kind:=k }
theorem Nk{x y:Rc}(h0:x.kind=y.kind)(h1:x.obj=y.obj)(h2:x.id=y.id)(h3:x.name=y.name)(h4:x.p=y.p)(h5:x.root=y.root)(h6:x.file=y.file)(h7:x.way=y.way)(h8:x.index=y.index)(h9:x.verdict=y.verdict)(h10:x.tick=y.tick):x=y:=by
 cases x;cases y;simp only at*;subst h0 h1 h2 h3 h4 h5 h6 h7 h8 h9 h10;rfl
theorem XU{x:Rc}(h:x.nums=true):(0<=x.obj/\x.obj<=1099511627776)/\(0<=x.tick/\x.tick<=1099511627776)/\(x.kind=2->(1<=x.way/\x.way<=2)/\(0<=x.index/\x.index<=1048576)/\(0<=x.id/\x.id<=1099511627776))/\(x.kind=3->(1<=x.verdict/\x.verdict<=3)/\(0<=x.id/\x.id<=1099511627776)):=by
 unfold Rc.nums Ja at h;by_cases h2:x.kind=2
 ·simp[h2,dz] at h;exact⟨aB,aB,λ_=>⟨aB,aB,aB⟩,λe=>by omega⟩
 ·by_cases h3:x.kind=3
  ·simp[h3,dz] at h;exact⟨aB,aB,λe=>by omega,λ_=>⟨aB,aB⟩⟩
  ·simp[h2,h3,dz] at h;exact⟨aB,aB,λe=>absurd e h2,λe=>absurd e h3⟩
theorem Pg(x:Rc)(hk:x.kind=2)(hc:x.chk=0):nN (x.out,false) 1=2/\(Rc.ofKind 2).rest2 (nB (x.out,false) 1)=x/\Vw (nB (x.out,false) 1)=([],false):=by
 obtain⟨_,hn,hz,_⟩:=Rc.chk0 hc;obtain⟨r1,r2,r3,_⟩:=XU hn;obtain⟨r3,r4,r5⟩:=r3 hk;obtain⟨z1,z2,z3,z4,z5⟩:=(bz2 x hk).1 hz;have ho:x.out=[b8 2]++(Zh x.obj++(Zh x.id++([b8 x.way]++((Zh x.index).drop 4++(Zh x.tick++[]))))):=by
  unfold Rc.out Rc.head;rw[if_neg aB,if_pos hk,hk];simp
 have a1:=got [b8 2] (Zh x.obj++(Zh x.id++([b8 x.way]++((Zh x.index).drop 4++(Zh x.tick++[]))))) 1 rfl;have b1:=QL [b8 2] (Zh x.obj++(Zh x.id++([b8 x.way]++((Zh x.index).drop 4++(Zh x.tick++[]))))) 1 rfl;have a2:=got (Zh x.obj) (Zh x.id++([b8 x.way]++((Zh x.index).drop 4++(Zh x.tick++[])))) 8 (Zk _);have b2:=QL (Zh x.obj) (Zh x.id++([b8 x.way]++((Zh x.index).drop 4++(Zh x.tick++[])))) 8 (Zk _);have a3:=got (Zh x.id) ([b8 x.way]++((Zh x.index).drop 4++(Zh x.tick++[]))) 8 (Zk _);have b3:=QL (Zh x.id) ([b8 x.way]++((Zh x.index).drop 4++(Zh x.tick++[]))) 8 (Zk _);have a4:=got [b8 x.way] ((Zh x.index).drop 4++(Zh x.tick++[])) 1 rfl;have b4:=QL [b8 x.way] ((Zh x.index).drop 4++(Zh x.tick++[])) 1 rfl;have a5:=got ((Zh x.index).drop 4) (Zh x.tick++[]) 4 (by rw[List.length_drop,Zk]);have b5:=QL ((Zh x.index).drop 4) (Zh x.tick++[]) 4 (by rw[List.length_drop,Zk]);have a6:=got (Zh x.tick) [] 8 (Zk _);have b6:=QL (Zh x.tick) [] 8 (Zk _);rw[ho];refine⟨by rw[b1,Yu];decide,?_,?_⟩
 ·rw[a1.2];unfold Rc.rest2;rw[a2.2,a3.2,a4.2,a5.2,b2,b3,b4,b5,b6,Y9 _ r1.1 r1.2,Y9 _ r2.1 r2.2,Y9 _ r5.1 r5.2,Le _ r4.1 r4.2,Yu,Q9 _ aB];exact Nk hk.symm rfl rfl ((Xs _).2 z1).symm z2.symm z3.symm z4.symm rfl rfl z5.symm rfl
 ·rw[a1.2];unfold Vw;rw[a2.2,a3.2,a4.2,a5.2,a6.2]
theorem WO(x:Rc)(hk:x.kind=3)(hc:x.chk=0):nN (x.out,false) 1=3/\(Rc.ofKind 3).rest3 (nB (x.out,false) 1)=x/\VC (nB (x.out,false) 1)=([],false):=by
 obtain⟨_,hn,hz,_⟩:=Rc.chk0 hc;obtain⟨r1,r2,_,r3⟩:=XU hn;obtain⟨r3,r5⟩:=r3 hk;obtain⟨z1,z2,z3,z4,z5,z6⟩:=(bz3 x hk).1 hz;have ho:x.out=[b8 3]++(Zh x.obj++(Zh x.id++([b8 x.verdict]++(Zh x.tick++[])))):=by
  unfold Rc.out Rc.head;rw[if_neg aB,if_neg aB,if_pos hk,hk];simp
 have a1:=got [b8 3] (Zh x.obj++(Zh x.id++([b8 x.verdict]++(Zh x.tick++[])))) 1 rfl;have b1:=QL [b8 3] (Zh x.obj++(Zh x.id++([b8 x.verdict]++(Zh x.tick++[])))) 1 rfl;have a2:=got (Zh x.obj) (Zh x.id++([b8 x.verdict]++(Zh x.tick++[]))) 8 (Zk _);have b2:=QL (Zh x.obj) (Zh x.id++([b8 x.verdict]++(Zh x.tick++[]))) 8 (Zk _);have a3:=got (Zh x.id) ([b8 x.verdict]++(Zh x.tick++[])) 8 (Zk _);have b3:=QL (Zh x.id) ([b8 x.verdict]++(Zh x.tick++[])) 8 (Zk _);have a4:=got [b8 x.verdict] (Zh x.tick++[]) 1 rfl;have b4:=QL [b8 x.verdict] (Zh x.tick++[]) 1 rfl;have a6:=got (Zh x.tick) [] 8 (Zk _);have b6:=QL (Zh x.tick) [] 8 (Zk _);rw[ho];refine⟨by rw[b1,Yu];decide,?_,?_⟩
 ·rw[a1.2];unfold Rc.rest3;rw[a2.2,a3.2,a4.2,b2,b3,b4,b6,Y9 _ r1.1 r1.2,Y9 _ r2.1 r2.2,Y9 _ r5.1 r5.2,Yu,Q9 _ aB];exact Nk hk.symm rfl rfl ((Xs _).2 z1).symm z2.symm z3.symm z4.symm z5.symm z6.symm rfl rfl
 ·rw[a1.2];unfold VC;rw[a2.2,a3.2,a4.2,a6.2]
theorem Pr(x:Rc)(hk:x.kind=4)(hc:x.chk=0):nN (x.out,false) 1=4/\(Rc.ofKind 4).rest4 (nB (x.out,false) 1)=x/\Vz (nB (x.out,false) 1)=([],false):=by
 obtain⟨_,hn,hz,_⟩:=Rc.chk0 hc;obtain⟨r1,r2,_,_⟩:=XU hn;obtain⟨z1,z2,z3,z4,z5,z6,z7,z8⟩:=(bz4 x hk).1 hz;have ho:x.out=[b8 4]++(Zh x.obj++(Zh x.tick++[])):=by
  unfold Rc.out Rc.head;rw[if_neg aB,if_neg aB,if_neg aB,hk];simp
 have a1:=got [b8 4] (Zh x.obj++(Zh x.tick++[])) 1 rfl;have b1:=QL [b8 4] (Zh x.obj++(Zh x.tick++[])) 1 rfl;have a2:=got (Zh x.obj) (Zh x.tick++[]) 8 (Zk _);have b2:=QL (Zh x.obj) (Zh x.tick++[]) 8 (Zk _);have a6:=got (Zh x.tick) [] 8 (Zk _);have b6:=QL (Zh x.tick) [] 8 (Zk _);rw[ho];refine⟨by rw[b1,Yu];decide,?_,?_⟩
 ·rw[a1.2];unfold Rc.rest4;rw[a2.2,b2,b6,Y9 _ r1.1 r1.2,Y9 _ r2.1 r2.2];exact Nk hk.symm rfl z8.symm ((Xs _).2 z1).symm z2.symm z3.symm z4.symm z6.symm z7.symm z5.symm rfl
 ·rw[a1.2];unfold Vz;rw[a2.2,a6.2]
theorem F6(x:Rc)(hx:x.Ok)(hk:x.kind=1)(hc:x.chk=0):nN (x.out,false) 1=1/\(Rc.ofKind 1).rest1 (nB (x.out,false) 1)={ x with p:=P6.zero }/\Y3 (nB (x.out,false) 1)=([],false)/\nO (YF (nB (x.out,false) 1)) 9=ZL x.p.s x.p.n x.p.k x.p.d x.p.t x.p.r:=by
 obtain⟨_,hn,hz,hl⟩:=Rc.chk0 hc;obtain⟨hlab,_⟩:=hl hk;have hs12:=G5 hlab;obtain⟨r1,r2,_,_⟩:=XU hn;obtain⟨z1,z2,z3,z4⟩:=(bz1 x hk).1 hz;have hnl:x.name.data.toList.length=x.name.size:=sX;have ho:x.out=[b8 1]++(Zh x.obj++([b8 (x.name.size:Int)]++(x.name.data.toList++(ZL x.p.s x.p.n x.p.k x.p.d x.p.t x.p.r++(x.root++(x.file++(Zh x.tick++[]))))))):=by
  unfold Rc.out Rc.head;rw[if_pos hk,hk];simp
 have a1:=got [b8 1] (Zh x.obj++([b8 (x.name.size:Int)]++(x.name.data.toList++(ZL x.p.s x.p.n x.p.k x.p.d x.p.t x.p.r++(x.root++(x.file++(Zh x.tick++[]))))))) 1 rfl;have b1:=QL [b8 1] (Zh x.obj++([b8 (x.name.size:Int)]++(x.name.data.toList++(ZL x.p.s x.p.n x.p.k x.p.d x.p.t x.p.r++(x.root++(x.file++(Zh x.tick++[]))))))) 1 rfl;have a2:=got (Zh x.obj) ([b8 (x.name.size:Int)]++(x.name.data.toList++(ZL x.p.s x.p.n x.p.k x.p.d x.p.t x.p.r++(x.root++(x.file++(Zh x.tick++[])))))) 8 (Zk _);have b2:=QL (Zh x.obj) ([b8 (x.name.size:Int)]++(x.name.data.toList++(ZL x.p.s x.p.n x.p.k x.p.d x.p.t x.p.r++(x.root++(x.file++(Zh x.tick++[])))))) 8 (Zk _);have a3:=got [b8 (x.name.size:Int)] (x.name.data.toList++(ZL x.p.s x.p.n x.p.k x.p.d x.p.t x.p.r++(x.root++(x.file++(Zh x.tick++[]))))) 1 rfl;have b3:HT ([b8 (x.name.size:Int)]++(x.name.data.toList++(ZL x.p.s x.p.n x.p.k x.p.d x.p.t x.p.r++(x.root++(x.file++(Zh x.tick++[]))))),false) 1=x.name.size:=by
  have h:=QL [b8 (x.name.size:Int)] (x.name.data.toList++(ZL x.p.s x.p.n x.p.k x.p.d x.p.t x.p.r++(x.root++(x.file++(Zh x.tick++[]))))) 1 rfl;rw[Yu,Q9 _ aB,EM] at h;omega
 have a4:=got x.name.data.toList (ZL x.p.s x.p.n x.p.k x.p.d x.p.t x.p.r++(x.root++(x.file++(Zh x.tick++[])))) x.name.size hnl;have a5:=got (ZL x.p.s x.p.n x.p.k x.p.d x.p.t x.p.r) (x.root++(x.file++(Zh x.tick++[]))) 9 rfl;have a6:=got x.root (x.file++(Zh x.tick++[])) 32 hx.root;have a7:=got x.file (Zh x.tick++[]) 32 hx.file;have a8:=got (Zh x.tick) [] 8 (Zk _);have b8':=QL (Zh x.tick) [] 8 (Zk _);rw[ho];have e3:Y8 (nB ([b8 1]++(Zh x.obj++([b8 (x.name.size:Int)]++(x.name.data.toList++(ZL x.p.s x.p.n x.p.k x.p.d x.p.t x.p.r++(x.root++(x.file++(Zh x.tick++[]))))))),false) 1)=x.name.size:=by
  unfold Y8;rw[a1.2,a2.2,b3]
 refine⟨by rw[b1,Yu];decide,?_,?_,?_⟩
 ·unfold Rc.rest1 Xr XP XM YF Xp;rw[e3,a1.2,a2.2,a3.2,a4.2,a5.2,a6.2,a7.2,b2,b8',a4.1,a6.1,a7.1,Y9 _ r1.1 r1.2,Y9 _ r2.1 r2.2];exact Nk hk.symm rfl z1.symm (VL sX) rfl rfl rfl z2.symm z3.symm z4.symm rfl
 ·unfold Y3 Xr XP XM YF Xp;rw[e3,a1.2,a2.2,a3.2,a4.2,a5.2,a6.2,a7.2,a8.2]
 ·unfold YF Xp;rw[e3,a1.2,a2.2,a3.2,a4.2,a5.1]
theorem RG:∀ (bs:List UInt8) (s:Nat),2199023255552<=s->2199023255552<=ZO bs s
 | [],_,h=>h
 | b::r,s,h=>RG r _ (by rw[Nat.min_eq_right h];omega)
def OC:List UInt8->Nat->Nat
 | [],s=>s
 | b::r,s=>OC r (s*256+b.toNat)
theorem RN:∀ (bs:List UInt8) (s:Nat),ZO bs s<2199023255552->ZO bs s=OC bs s
 | [],_,_=>rfl
 | b::r,s,h=>by
  have h2:ZO r (min s 2199023255552*256+b.toNat)<2199023255552:=h;by_cases hs:s<=2199023255552
  ·show ZO r (min s 2199023255552*256+b.toNat)=OC r (s*256+b.toNat);rw[Nat.min_eq_left hs] at h2 ⊢;exact RN r _ h2
  ·have:=RG r (min s 2199023255552*256+b.toNat) aB;omega
theorem len8{l:List UInt8}(h:l.length=8):∃ b0 b1 b2 b3 b4 b5 b6 b7,l=[b0,b1,b2,b3,b4,b5,b6,b7]:=by
 match l,h with
 | [b0,b1,b2,b3,b4,b5,b6,b7],_=>exact⟨b0,b1,b2,b3,b4,b5,b6,b7,rfl⟩
theorem FJ{l:List UInt8}(h:l.length=4):∃ b0 b1 b2 b3,l=[b0,b1,b2,b3]:=by
 match l,h with
 | [b0,b1,b2,b3],_=>exact⟨b0,b1,b2,b3,rfl⟩
theorem FI{l:List UInt8}(h:l.length=1):∃ b0,l=[b0]:=by
 match l,h with
 | [b0],_=>exact⟨b0,rfl⟩
theorem GH(v:Int):Zh v=[Z1 v (7-7),Z1 v (7-6),Z1 v (7-5),Z1 v (7-4),Z1 v (7-3),Z1 v (7-2),Z1 v (7-1),Z1 v (7-0)]:=rfl
theorem Yz(v:Nat)(h:v<9223372036854775808)(r:Nat)(hr:r<8)(b:UInt8)(hb:v / 256 ^ r % 256=b.toNat):Z1 (v:Int) (7-r)=b:=by
 refine UInt8.toNat_inj.1 ?_;rw[Yo (v:Int) aB aB r hr,Int.toNat_natCast,hb]
theorem LE(l:List UInt8)(h8:l.length=8)(h:ZO l 0<=1099511627776):Zh ((ZO l 0:Nat):Int)=l:=by
 obtain⟨b0,b1,b2,b3,b4,b5,b6,b7,rfl⟩:=len8 h8;have hbe:ZO [b0,b1,b2,b3,b4,b5,b6,b7] 0=OC [b0,b1,b2,b3,b4,b5,b6,b7] 0:=RN _ _ aB;rw[hbe] at h ⊢;obtain⟨v,hv⟩:=aA (OC [b0,b1,b2,b3,b4,b5,b6,b7] 0);rw[<-hv] at h ⊢;simp only[OC] at hv;have k0:=b0.toNat_lt;have k1:=b1.toNat_lt;have k2:=b2.toNat_lt;have k3:=b3.toNat_lt;have k4:=b4.toNat_lt;have k5:=b5.toNat_lt;have k6:=b6.toNat_lt;have k7:=b7.toNat_lt;rw[GH,Yz v aB 7 dX b0 aB,Yz v aB 6 dX b1 aB,Yz v aB 5 dX b2 aB,Yz v aB 4 dX b3 aB,Yz v aB 3 dX b4 aB,Yz v aB 2 dX b5 aB,Yz v aB 1 dX b6 aB,Yz v aB 0 dX b7 aB]
theorem Lv(l:List UInt8)(h4:l.length=4):(Zh ((ZO l 0:Nat):Int)).drop 4=l:=by
 obtain⟨b0,b1,b2,b3,rfl⟩:=FJ h4;have k0:=b0.toNat_lt;have k1:=b1.toNat_lt;have k2:=b2.toNat_lt;have k3:=b3.toNat_lt;obtain⟨v,hv⟩:=aA (ZO [b0,b1,b2,b3] 0);rw[<-hv];simp only[ZO] at hv;have e:((Zh (v:Int)).drop 4)=[Z1 v (7-3),Z1 v (7-2),Z1 v (7-1),Z1 v (7-0)]:=by rw[GH];rfl
 rw[e,Yz v aB 3 dX b0 aB,Yz v aB 2 dX b1 aB,Yz v aB 1 dX b2 aB,Yz v aB 0 dX b3 aB]
theorem Js(b:UInt8):b8 ((b.toNat:Nat):Int)=b:=by
 refine UInt8.toNat_inj.1 ?_;have h:=Q9 (b.toNat:Int) ⟨aB,by have:=b.toNat_lt;omega⟩;omega
def sP:List UInt8×Bool->List Nat->List UInt8×Bool
 | s,[]=>s
 | s,n::r=>sP (nB s n) r
theorem Ez(l:List UInt8)(n:Nat):nB (l,true) n=(l,true):=by
 unfold nB YU YV;rw[if_pos (.inl rfl),if_pos (.inl rfl)]
theorem HA(l:List UInt8):∀ ns,sP (l,true) ns=(l,true)
 | []=>rfl
 | n::r=>by show sP (nB (l,true) n) r=_;rw[Ez];exact HA l r
theorem HS{l:List UInt8}{n:Nat}(h:l.length<n):nB (l,false) n=(l,true):=by
 unfold nB YU YV;rw[if_pos (.inr h),if_pos (.inr h)]
theorem MN{l:List UInt8}{n:Nat}(h:n<=l.length):nB (l,false) n=(l.drop n,false):=by
 have hh:¬(false=true\/l.length<n):=λe=>e.elim (λe=>Bool.noConfusion e) (λe=>absurd e aB);unfold nB YU YV;rw[if_neg hh,if_neg hh]
theorem XQ:∀ (ns:List Nat) (l:List UInt8),l.length<ns.sum->(sP (l,false) ns).2=true
 | [],l,h=>by simp at h
 | n::r,l,h=>by
  rw[List.sum_cons] at h;show (sP (nB (l,false) n) r).2=true;by_cases hn:l.length<n
  ·rw[HS hn,HA]
  ·rw[MN aB];exact XQ r _ jH
theorem Ye:∀ (ns:List Nat) (l:List UInt8),ns.sum<=l.length->sP (l,false) ns=(l.drop ns.sum,false)
 | [],l,_=>by simp[sP]
 | n::r,l,h=>by
  rw[List.sum_cons] at h ⊢;show sP (nB (l,false) n) r=_;rw[MN aB,Ye r _ jH,List.drop_drop]
theorem U0:∀ (bs:List UInt8) (s:Nat),s<=562949953421567->ZO bs s<=562949953421567
 | [],_,h=>h
 | b::r,s,h=>U0 r _ (by have:=b.toNat_lt;omega)
theorem N3{w:World}{b o c:Nat}{bs:List UInt8}(h:aJ w (some ⟨b,o,none⟩) c bs)(i:Nat)(hi:i<bs.length):w.cell? ⟨b,o+i,none⟩=some (.int .u8 ((bs.getD i 0).toNat:Int)):=by
 obtain⟨b2,off,e,hc⟩:=h.row i hi;cases e;exact hc
theorem R8(x:Rc):(nB (x.out,false) 1).2=false:=by
 have h:¬x.out.length<1:=by
  unfold Rc.out Rc.head;split
  ·simp
  ·split
   ·simp
   ·split<;>simp
 show YV x.out false 1=false;unfold YV;refine if_neg λhh=>?_;rcases hh with hh|hh
 ·cases hh
 ·exact h hh
theorem Lr(p:P6)(h:Qu p.s p.n p.k p.d p.t p.r=none)(g cc:Nat)(w:World)(hA:aJ w (some ⟨g,0,none⟩) cc (ZL p.s p.n p.k p.d p.t p.r))(ea:Nat->Addr)(H:aQ 298 aK w ea) :
  Calls Tryz.prog 66 #[.slice (some ⟨g,0,none⟩) 9 cc] w λe w2=>e=.returned (.tuple #[.agg p.list.toArray,.nilIface])/\Below w.heap.size w w2:=by
 obtain⟨s,n,k,d,t,r⟩:=p;obtain⟨hs,hn,hk,hd,ht,hr⟩:K4 s n k d t r:=UI h;replace hA:aJ w (some ⟨g,0,none⟩) cc (ZL s n k d t r):=hA;replace h:Qu s n k d t r=none:=h;have hc:=N3 hA;have hl:(ZL s n k d t r).length=9:=rfl;have v1:((b8 (s / 256)).toNat:Int)*256+(b8 s).toNat=s:=by rw[Q9 (s / 256) aB,VG s];omega
 have v2:((b8 (d / 256)).toNat:Int)*256+(b8 d).toNat=d:=by rw[Q9 (d / 256) aB,VG d];omega
 have v3:((b8 (t / 256)).toNat:Int)*256+(b8 t).toNat=t:=by rw[Q9 (t / 256) aB,VG t];omega
 have v4:=Q9 n aB;have v5:=Q9 k aB;have v6:=Q9 r aB;have hh:Qu (((b8 (s / 256)).toNat:Int)*256+(b8 s).toNat) ((b8 n).toNat:Int) ((b8 k).toNat:Int) (((b8 (d / 256)).toNat:Int)*256+(b8 d).toNat) (((b8 (t / 256)).toNat:Int)*256+(b8 t).toNat) ((b8 r).toNat:Int)=none:=by rw[v1,v2,v3,v4,v5,v6];exact h
 have hp:=KS g 0 cc (b8 (s / 256)) (b8 s) (b8 n) (b8 k) (b8 (d / 256)) (b8 d) (b8 (t / 256)) (b8 t) (b8 r) (by have:=hA.len;rw[hl] at this;exact this) w hh (pz ea) (UV H) (hc 0 (by rw[hl];decide)) (hc 1 (by rw[hl];decide)) (hc 2 (by rw[hl];decide)) (hc 3 (by rw[hl];decide)) (hc 4 (by rw[hl];decide)) (hc 5 (by rw[hl];decide)) (hc 6 (by rw[hl];decide)) (hc 7 (by rw[hl];decide)) (hc 8 (by rw[hl];decide));rw[v1,v2,v3,v4,v5,v6] at hp;exact hp
theorem QT(k:Int)(W:World):(Instr.build 49 #[(0,.int .i64 k)]).run Tryz.prog W=.ok (.agg (Rc.ofKind k).list.toArray) W:=by
 refine run_build W _ _ _ ?_;kernel_rfl
def GB(x:Rc)(w:World)(e:Ending)(w':World):Prop:=e=.returned (.tuple #[.agg x.list.toArray,.nilIface])/\Below w.heap.size w w'
theorem Uj(k:Int)(hk3:k=2\/k=3\/k=4)(x:Rc)(hx:x.Ok)(hk:x.kind=k)(hc:x.chk=0)(a:Option Addr)(c:Nat)(n:Nat)(w:World)(ha:aJ w a c x.out)(hn:x.out.length=n)(hm:n<=1000)(dR:∀ ad,a=some ad->∃ b o,ad=⟨b,o,none⟩/\b<w.heap.size)(ea:Nat->Addr)(H:aQ 298 aK w ea) :
  Calls Tryz.prog 29 #[.slice a n c] w (GB x w):=by
 have hk1:nN (x.out,false) 1=k:=by
  rcases hk3 with rfl|rfl|rfl
  ·exact(Pg x hk hc).1
  ·exact(WO x hk hc).1
  ·exact(Pr x hk hc).1
 obtain⟨w1,hw1⟩:∃ w1,w1=(w.alloc (.cells Tryz.zeroCells49 49)).alloc (.cells #[.slice a n c,.bool false] 140):=⟨_,rfl⟩;have hb1:Below w.heap.size w w1:=by rw[hw1];exact(bR.alloc nZ _).alloc sX _
 have hs1:w1.heap.size=w.heap.size+2:=by rw[hw1];simp
 have hz1:w1.heap[w.heap.size]? = some (.cells Tryz.zeroCells49 49 (0,0)):=by rw[hw1,Z5,if_neg sX,Z5,if_pos rfl]
 have hq1:w1.heap[w.heap.size+1]? = some (.cells #[.slice a n c,.bool false] 140 (0,0)):=by rw[hw1,Z5,if_pos sX]
 have hr1:bD w1 (w.heap.size+1) w.heap.size (x.out,false).1 (x.out,false).2:=by
  refine⟨a,c,by rw[hn];exact hq1,ha.below hb1,λad e=>?_⟩;obtain⟨b,o,h1,h2⟩:=dR ad e;exact⟨b,o,h1,aB,h2⟩
 have hn0:∀ W,bD W (w.heap.size+1) w.heap.size (x.out,false).1 (x.out,false).2->Calls Tryz.prog 63 #[.pointer (some ⟨w.heap.size+1,0,none⟩),.int .i64 1] W λe w2=>e=.returned (.int .i64 k)/\bD w2 (w.heap.size+1) w.heap.size (nB (x.out,false) 1).1 (nB (x.out,false) 1).2/\Only (λk=>k=w.heap.size+1) W w2:=by
  intro W h;have h:=ZD (w.heap.size+1) w.heap.size (x.out,false) 1 W h dX (by show x.out.length<=1000000;omega);rw[hk1] at h;exact h
 have Ac:=R8 x;have oD:(nB (x.out,false) 1).1.length<=1000000:=Nat.le_trans (Ya _ _) (by show x.out.length<=1000000;omega);have hrest:∀ W pp,W.heap[pp]? = some (.cells (Rc.ofKind k).list.toArray 49 (0,0))->bD W (w.heap.size+1) w.heap.size (nB (x.out,false) 1).1 (nB (x.out,false) 1).2->pp≠w.heap.size+1->w.heap.size<=pp->Calls Tryz.prog 65 #[.pointer (some ⟨w.heap.size+1,0,none⟩),.pointer (some ⟨pp,0,none⟩)] W λe w2=>e=.returned (.slice none 0 0)/\w2.heap[pp]? = some (.cells x.list.toArray 49 (0,0))/\bD w2 (w.heap.size+1) w.heap.size [] false/\Only (λk=>k=pp\/k=w.heap.size+1) W w2:=λW pp h1 h2 h3 h4=>by
  rcases hk3 with rfl|rfl|rfl
  ·have h:=RT pp (w.heap.size+1) w.heap.size (Rc.ofKind 2) (nB (x.out,false) 1) W Zu Zu rfl h1 h2 h3 h4 oD;rw[(Pg x hk hc).2.1,(Pg x hk hc).2.2] at h;exact h
  ·have h:=RP pp (w.heap.size+1) w.heap.size (Rc.ofKind 3) (nB (x.out,false) 1) W Zu Zu rfl h1 h2 h3 h4 oD;rw[(WO x hk hc).2.1,(WO x hk hc).2.2] at h;exact h
  ·have h:=RW pp (w.heap.size+1) w.heap.size (Rc.ofKind 4) (nB (x.out,false) 1) W Zu Zu rfl h1 h2 h3 h4 oD;rw[(Pr x hk hc).2.1,(Pr x hk hc).2.2] at h;exact h
 have hck:=Hd (λW h=>U1 x hx hc ea W h);have hbd:=Hd (QT k);have eG:(Rc.ofKind k).list.toArray.size=78:=by rw[List.size_toArray,Rc.len (x:=Rc.ofKind k) Zu Zu]
 have i8:(Tryz.prog.info? 49).map (·.size)=some (Rc.ofKind k).list.toArray.size:=by rw[eG];kernel_rfl
 have z8:(Tryz.zeroCells49).size=(Rc.ofKind k).list.toArray.size:=by rw[eG];kernel_rfl
 have ig:=Rc.all_one (Rc.ofKind k);have iX:(Tryz.prog.info? 49).map (·.size)=some x.list.toArray.size:=by rw[Rc.size hx];kernel_rfl
 have zX:(Tryz.zeroCells49).size=x.list.toArray.size:=by rw[Rc.size hx];kernel_rfl
 have hXo:=Rc.all_one x;have hu:=Tryz.underlying49;have dA:∀ (W:World) b,W.heap[b]? = some (.cells (Rc.ofKind k).list.toArray 49 (0,0))->W.cell? ⟨b,0,none⟩=some (.int .i64 k):=λW b h=>by rw[Za h];rfl
 generalize (Rc.ofKind k).list.toArray=RK at*;have hpost:∀ W,Below w.heap.size w W->GB x w (.returned (.tuple #[.agg x.list.toArray,.nilIface])) W:=λW h=>⟨rfl,h⟩;generalize hX:x.list.toArray=X at*;generalize nB (x.out,false) 1=s1 at*;obtain⟨q,hq⟩:=aA (w.heap.size+1);obtain⟨B,hBd⟩:=aA w.heap.size;replace hw1:=Hd hw1;replace hn0:=Hd hn0;replace hrest:=Hd hrest;replace hr1:=Hd hr1;replace hz1:=Hd hz1;replace hb1:=Hd hb1;replace H:=Hd H;replace hpost:=Hd hpost;replace dA:=Hd dA;clear hn hm dR ha hq1 oD hX hc hk hx;go_enter Tryz.func29,Tryz.ntmps29;go_wp2_with fail;rw[<-hw1.out];with_reducible refine(hn0.out _ hr1.out).mono ?_
 rintro e wa ⟨rfl,hra,hoa⟩;have hza:=Hd (hoa.heap hz1.out aB);have hsa:=hoa.size;have lD:Only (λk=>k=w.heap.size+1) w1 wa:=hoa;have hna:w.heap.size+1<wa.heap.size:=aB;have mF:=Hd (heap_alloc_new wa (.cells Tryz.zeroCells49 49));have eH:Below w.heap.size w wa:=hb1.out.trans (hoa.below aB (λk e=>by omega));replace hra:=Hd hra;replace eH:=Hd eH;clear hoa lD;go_wp2_with (first
  | ((with_reducible refine wL (.build 49 _) ?_);refine Z4 rfl 49 [(0,.tmp 14)] rfl [(0,.int .i64 k)] rfl _ (hbd.out _) ?_)
  | ((with_reducible refine wL (.store 49 (.tmp 5) _) ?_);(refine Zd rfl 49 (.tmp 5) (.tmp 15) rfl wa.heap.size _ RK rfl rfl mF i8 z8 ig ?_);intro w3 dB;have hP3:=Hd dB.out.here;have hb3:=Hd ((Below.alloc (Below.refl wa.heap.size wa) nZ (.cells Tryz.zeroCells49 49)).trans (dB.out.below nZ));have hr3:=Hd (hra.out.only (D:=λ_=>False) (Only.ofBelow hb3.out) (λe=>e) (λk e=>e.elim));have hz3:=Hd ((hb3.out.block _ (Zb hza.out)).trans hza.out);have k0:=dA.out _ _ hP3.out;obtain⟨a3,c3,hq3,_⟩:=hr3.out;rw[Ac] at hq3;have j1:=Za hq3 1;have dM:=Hd (eH.out.trans (hb3.out.mono eH.out.size));clear hq3))
 with_reducible refine(Z8 k 1 4 _).mono ?_
 rintro e w4 ⟨rfl,rfl⟩;have hi4:dz k 1 4=true:=by rcases hk3 with rfl|rfl|rfl<;>decide
 go_wp2_with fail;with_reducible refine(hrest.out _ _ hP3.out hr3.out aB aB).mono ?_
 rintro e w5 ⟨rfl,jJ,fM,dW⟩;have j3:=Hd (dW.heap hz3.out aB);have bQ:=Hd (dM.out.trans (dW.below dM.out.size (λk e=>by omega)));obtain⟨a5,c5,fA,_⟩:=fM;clear j1 k0;have j1:=Za fA 1;have j0:=Za fA 0;clear fA dW;replace jJ:=Hd jJ;have hH5:=Hd (H.out.below bQ.out);go_wp2_with (with_reducible refine Ze rfl 49 (.tmp 5) rfl wa.heap.size X _ rfl jJ hu rfl iX ?_);with_reducible refine(hck.out _ hH5.out).mono ?_
 rintro e w6 ⟨rfl,hb6⟩;have hP6:=Hd ((hb6.block _ (Zb jJ.out)).trans jJ.out);have sQ:=Hd ((hb6.block _ (Zb j3.out)).trans j3.out);have iO:=Hd (bQ.out.trans (hb6.mono bQ.out.size));clear hb6 j0 j1;go_wp2_with (first
  | (with_reducible refine Ze rfl 49 (.tmp 5) rfl wa.heap.size X _ rfl hP6 hu rfl iX ?_)
  | ((with_reducible refine wL (.store 49 (.tmp 2) _) ?_);(refine Zd rfl 49 (.tmp 2) (.tmp 68) rfl w.heap.size _ X rfl rfl sQ iX zX hXo ?_);intro w10 bK))
 exact Zj rfl rfl hu rfl iX bK.out.here (hpost.out _ (iO.out.trans (bK.out.below nZ)))
end Go.Proofs.YtpdhceiodgnbmaaGreatDoor
