import Derived.Test.YtpdhceiodgnbmaaGreatDoorF0ReplaysSaid
import Derived.Test.YtpdhceiodgnbmaaGreatDoorF1ReplaysSaid
import Derived.Test.YtpdhceiodgnbmaaGreatDoorF28ReplaysSaid
import Derived.Test.YtpdhceiodgnbmaaGreatDoorF29ReplaysSaid
import Derived.Test.YtpdhceiodgnbmaaGreatDoorF27ReplaysSaid
import Derived.Test.YtpdhceiodgnbmaaGreatDoorF25ReplaysSaid
import Derived.Test.YtpdhceiodgnbmaaGreatDoorF6ReplaysSaid
import Derived.Test.YtpdhceiodgnbmaaGreatDoorF2ReplaysSaid
import Derived.Deep.QuietTactic
import Derived.Deep.CutRange
import Derived.Deep.RegionWith
set_option linter.unusedVariables false
set_option linter.unusedSimpArgs false
set_option linter.unnecessarySimpa false
set_option maxRecDepth 100000
set_option maxHeartbeats 8000000
namespace Go.Proofs.YtpdhceiodgnbmaaGreatDoor
open Go.RowKit
def Rc.ofKind(k:Int):Rc:={ Rc.zero with kind:=k }
theorem JA{x y:Rc}(h0:x.kind=y.kind)(h1:x.obj=y.obj)(h2:x.id=y.id)(h3:x.name=y.name)(h4:x.p=y.p)(h5:x.root=y.root)(h6:x.file=y.file)(h7:x.way=y.way)(h8:x.index=y.index)(h9:x.verdict=y.verdict)(h10:x.tick=y.tick):x=y:=by
 cases x;cases y
 simp only at*
 subst h0 h1 h2 h3 h4 h5 h6 h7 h8 h9 h10
 rfl
theorem Xp{x:Rc}(h:x.nums=true):(0<=x.obj/\x.obj<=1099511627776)/\(0<=x.tick/\x.tick<=1099511627776)/\(x.kind=2->(1<=x.way/\x.way<=2)/\(0<=x.index/\x.index<=1048576)/\(0<=x.id/\x.id<=1099511627776))/\(x.kind=3->(1<=x.verdict/\x.verdict<=3)/\(0<=x.id/\x.id<=1099511627776)):=by
 unfold Rc.nums Zy at h
 by_cases h2:x.kind=2
 ·simp[h2,inB] at h
  exact⟨oX,oX,λ_=>⟨oX,oX,oX⟩,λe=>by omega⟩
 ·by_cases h3:x.kind=3
  ·simp[h3,inB] at h
   exact⟨oX,oX,λe=>by omega,λ_=>⟨oX,oX⟩⟩
  ·simp[h2,h3,inB] at h
   exact⟨oX,oX,λe=>absurd e h2,λe=>absurd e h3⟩
theorem Dw(x:Rc)(hk:x.kind=2)(hc:x.chk=0):nN (x.out,false) 1=2/\(Rc.ofKind 2).rest2 (nB (x.out,false) 1)=x/\JC (nB (x.out,false) 1)=([],false):=by
 obtain⟨_,hn,hz,_⟩:=Rc.chk0 hc
 obtain⟨r1,r2,r3,_⟩:=Xp hn
 obtain⟨r3,r4,r5⟩:=r3 hk
 obtain⟨z1,z2,z3,z4,z5⟩:=(bz2 x hk).1 hz
 have ho:x.out=[b8 2]++(Zn x.obj++(Zn x.id++([b8 x.way]++((Zn x.index).drop 4++(Zn x.tick++[]))))):=by
  unfold Rc.out Rc.head
  rw[if_neg oX,if_pos hk,hk]
  simp
 have a1:=got [b8 2] (Zn x.obj++(Zn x.id++([b8 x.way]++((Zn x.index).drop 4++(Zn x.tick++[]))))) 1 rfl
 have b1:=Q0 [b8 2] (Zn x.obj++(Zn x.id++([b8 x.way]++((Zn x.index).drop 4++(Zn x.tick++[]))))) 1 rfl
 have a2:=got (Zn x.obj) (Zn x.id++([b8 x.way]++((Zn x.index).drop 4++(Zn x.tick++[])))) 8 (Zx _)
 have b2:=Q0 (Zn x.obj) (Zn x.id++([b8 x.way]++((Zn x.index).drop 4++(Zn x.tick++[])))) 8 (Zx _)
 have a3:=got (Zn x.id) ([b8 x.way]++((Zn x.index).drop 4++(Zn x.tick++[]))) 8 (Zx _)
 have b3:=Q0 (Zn x.id) ([b8 x.way]++((Zn x.index).drop 4++(Zn x.tick++[]))) 8 (Zx _)
 have a4:=got [b8 x.way] ((Zn x.index).drop 4++(Zn x.tick++[])) 1 rfl
 have b4:=Q0 [b8 x.way] ((Zn x.index).drop 4++(Zn x.tick++[])) 1 rfl
 have a5:=got ((Zn x.index).drop 4) (Zn x.tick++[]) 4 (by rw[List.length_drop,Zx])
 have b5:=Q0 ((Zn x.index).drop 4) (Zn x.tick++[]) 4 (by rw[List.length_drop,Zx])
 have a6:=got (Zn x.tick) [] 8 (Zx _)
 have b6:=Q0 (Zn x.tick) [] 8 (Zx _)
 rw[ho]
 refine⟨by rw[b1,QR];decide,?_,?_⟩
 ·rw[a1.2]
  unfold Rc.rest2
  rw[a2.2,a3.2,a4.2,a5.2,b2,b3,b4,b5,b6,Yo _ r1.1 r1.2,Yo _ r2.1 r2.2,Yo _ r5.1 r5.2,HT _ r4.1 r4.2,QR,Q8 _ oX]
  exact JA hk.symm rfl rfl ((Xg _).2 z1).symm z2.symm z3.symm z4.symm rfl rfl z5.symm rfl
 ·rw[a1.2]
  unfold JC
  rw[a2.2,a3.2,a4.2,a5.2,a6.2]
theorem D1(x:Rc)(hk:x.kind=3)(hc:x.chk=0):nN (x.out,false) 1=3/\(Rc.ofKind 3).rest3 (nB (x.out,false) 1)=x/\JI (nB (x.out,false) 1)=([],false):=by
 obtain⟨_,hn,hz,_⟩:=Rc.chk0 hc
 obtain⟨r1,r2,_,r3⟩:=Xp hn
 obtain⟨r3,r5⟩:=r3 hk
 obtain⟨z1,z2,z3,z4,z5,z6⟩:=(bz3 x hk).1 hz
 have ho:x.out=[b8 3]++(Zn x.obj++(Zn x.id++([b8 x.verdict]++(Zn x.tick++[])))):=by
  unfold Rc.out Rc.head
  rw[if_neg oX,if_neg oX,if_pos hk,hk]
  simp
 have a1:=got [b8 3] (Zn x.obj++(Zn x.id++([b8 x.verdict]++(Zn x.tick++[])))) 1 rfl
 have b1:=Q0 [b8 3] (Zn x.obj++(Zn x.id++([b8 x.verdict]++(Zn x.tick++[])))) 1 rfl
 have a2:=got (Zn x.obj) (Zn x.id++([b8 x.verdict]++(Zn x.tick++[]))) 8 (Zx _)
 have b2:=Q0 (Zn x.obj) (Zn x.id++([b8 x.verdict]++(Zn x.tick++[]))) 8 (Zx _)
 have a3:=got (Zn x.id) ([b8 x.verdict]++(Zn x.tick++[])) 8 (Zx _)
 have b3:=Q0 (Zn x.id) ([b8 x.verdict]++(Zn x.tick++[])) 8 (Zx _)
 have a4:=got [b8 x.verdict] (Zn x.tick++[]) 1 rfl
 have b4:=Q0 [b8 x.verdict] (Zn x.tick++[]) 1 rfl
 have a6:=got (Zn x.tick) [] 8 (Zx _)
 have b6:=Q0 (Zn x.tick) [] 8 (Zx _)
 rw[ho]
 refine⟨by rw[b1,QR];decide,?_,?_⟩
 ·rw[a1.2]
  unfold Rc.rest3
  rw[a2.2,a3.2,a4.2,b2,b3,b4,b6,Yo _ r1.1 r1.2,Yo _ r2.1 r2.2,Yo _ r5.1 r5.2,QR,Q8 _ oX]
  exact JA hk.symm rfl rfl ((Xg _).2 z1).symm z2.symm z3.symm z4.symm z5.symm z6.symm rfl rfl
 ·rw[a1.2]
  unfold JI
  rw[a2.2,a3.2,a4.2,a6.2]
theorem D7(x:Rc)(hk:x.kind=4)(hc:x.chk=0):nN (x.out,false) 1=4/\(Rc.ofKind 4).rest4 (nB (x.out,false) 1)=x/\JH (nB (x.out,false) 1)=([],false):=by
 obtain⟨_,hn,hz,_⟩:=Rc.chk0 hc
 obtain⟨r1,r2,_,_⟩:=Xp hn
 obtain⟨z1,z2,z3,z4,z5,z6,z7,z8⟩:=(bz4 x hk).1 hz
 have ho:x.out=[b8 4]++(Zn x.obj++(Zn x.tick++[])):=by
  unfold Rc.out Rc.head
  rw[if_neg oX,if_neg oX,if_neg oX,hk]
  simp
 have a1:=got [b8 4] (Zn x.obj++(Zn x.tick++[])) 1 rfl
 have b1:=Q0 [b8 4] (Zn x.obj++(Zn x.tick++[])) 1 rfl
 have a2:=got (Zn x.obj) (Zn x.tick++[]) 8 (Zx _)
 have b2:=Q0 (Zn x.obj) (Zn x.tick++[]) 8 (Zx _)
 have a6:=got (Zn x.tick) [] 8 (Zx _)
 have b6:=Q0 (Zn x.tick) [] 8 (Zx _)
 rw[ho]
 refine⟨by rw[b1,QR];decide,?_,?_⟩
 ·rw[a1.2]
  unfold Rc.rest4
  rw[a2.2,b2,b6,Yo _ r1.1 r1.2,Yo _ r2.1 r2.2]
  exact JA hk.symm rfl z8.symm ((Xg _).2 z1).symm z2.symm z3.symm z4.symm z6.symm z7.symm z5.symm rfl
 ·rw[a1.2]
  unfold JH
  rw[a2.2,a6.2]
theorem D3(x:Rc)(hx:x.Ok)(hk:x.kind=1)(hc:x.chk=0):nN (x.out,false) 1=1/\(Rc.ofKind 1).rest1 (nB (x.out,false) 1)={ x with p:=P6.zero }/\Yf (nB (x.out,false) 1)=([],false)/\nO (Yy (nB (x.out,false) 1)) 9=ZD x.p.s x.p.n x.p.k x.p.d x.p.t x.p.r:=by
 obtain⟨_,hn,hz,hl⟩:=Rc.chk0 hc
 obtain⟨hlab,_⟩:=hl hk
 have hs12:=NC hlab
 obtain⟨r1,r2,_,_⟩:=Xp hn
 obtain⟨z1,z2,z3,z4⟩:=(bz1 x hk).1 hz
 have hnl:x.name.data.toList.length=x.name.size:=sX
 have ho:x.out=[b8 1]++(Zn x.obj++([b8 (x.name.size:Int)]++(x.name.data.toList++(ZD x.p.s x.p.n x.p.k x.p.d x.p.t x.p.r++(x.root++(x.file++(Zn x.tick++[]))))))):=by
  unfold Rc.out Rc.head
  rw[if_pos hk,hk]
  simp
 have a1:=got [b8 1] (Zn x.obj++([b8 (x.name.size:Int)]++(x.name.data.toList++(ZD x.p.s x.p.n x.p.k x.p.d x.p.t x.p.r++(x.root++(x.file++(Zn x.tick++[]))))))) 1 rfl
 have b1:=Q0 [b8 1] (Zn x.obj++([b8 (x.name.size:Int)]++(x.name.data.toList++(ZD x.p.s x.p.n x.p.k x.p.d x.p.t x.p.r++(x.root++(x.file++(Zn x.tick++[]))))))) 1 rfl
 have a2:=got (Zn x.obj) ([b8 (x.name.size:Int)]++(x.name.data.toList++(ZD x.p.s x.p.n x.p.k x.p.d x.p.t x.p.r++(x.root++(x.file++(Zn x.tick++[])))))) 8 (Zx _)
 have b2:=Q0 (Zn x.obj) ([b8 (x.name.size:Int)]++(x.name.data.toList++(ZD x.p.s x.p.n x.p.k x.p.d x.p.t x.p.r++(x.root++(x.file++(Zn x.tick++[])))))) 8 (Zx _)
 have a3:=got [b8 (x.name.size:Int)] (x.name.data.toList++(ZD x.p.s x.p.n x.p.k x.p.d x.p.t x.p.r++(x.root++(x.file++(Zn x.tick++[]))))) 1 rfl
 have b3:NF ([b8 (x.name.size:Int)]++(x.name.data.toList++(ZD x.p.s x.p.n x.p.k x.p.d x.p.t x.p.r++(x.root++(x.file++(Zn x.tick++[]))))),false) 1=x.name.size:=by
  have h:=Q0 [b8 (x.name.size:Int)] (x.name.data.toList++(ZD x.p.s x.p.n x.p.k x.p.d x.p.t x.p.r++(x.root++(x.file++(Zn x.tick++[]))))) 1 rfl
  rw[QR,Q8 _ oX,LN] at h
  omega
 have a4:=got x.name.data.toList (ZD x.p.s x.p.n x.p.k x.p.d x.p.t x.p.r++(x.root++(x.file++(Zn x.tick++[])))) x.name.size hnl
 have a5:=got (ZD x.p.s x.p.n x.p.k x.p.d x.p.t x.p.r) (x.root++(x.file++(Zn x.tick++[]))) 9 rfl
 have a6:=got x.root (x.file++(Zn x.tick++[])) 32 hx.root
 have a7:=got x.file (Zn x.tick++[]) 32 hx.file
 have a8:=got (Zn x.tick) [] 8 (Zx _)
 have b8':=Q0 (Zn x.tick) [] 8 (Zx _)
 rw[ho]
 have e3:Yi (nB ([b8 1]++(Zn x.obj++([b8 (x.name.size:Int)]++(x.name.data.toList++(ZD x.p.s x.p.n x.p.k x.p.d x.p.t x.p.r++(x.root++(x.file++(Zn x.tick++[]))))))),false) 1)=x.name.size:=by
  unfold Yi
  rw[a1.2,a2.2,b3]
 refine⟨by rw[b1,QR];decide,?_,?_,?_⟩
 ·unfold Rc.rest1 YV X0 X2 Yy YY
  rw[e3,a1.2,a2.2,a3.2,a4.2,a5.2,a6.2,a7.2,b2,b8',a4.1,a6.1,a7.1,Yo _ r1.1 r1.2,Yo _ r2.1 r2.2]
  exact JA hk.symm rfl z1.symm (JP sX) rfl rfl rfl z2.symm z3.symm z4.symm rfl
 ·unfold Yf YV X0 X2 Yy YY
  rw[e3,a1.2,a2.2,a3.2,a4.2,a5.2,a6.2,a7.2,a8.2]
 ·unfold Yy YY
  rw[e3,a1.2,a2.2,a3.2,a4.2,a5.1]
def Agr(a b:Int):Prop:=a=b\/(inB a 0 1099511627776=false/\inB b 0 1099511627776=false)
theorem Lw{v:Int}(h:1099511627776<v):inB v 0 1099511627776=false:=by
 unfold inB
 rw[decide_eq_false (p:=v<=1099511627776) oX,Bool.and_false]
theorem Gd:∀ (bs:List UInt8) (s:Nat),2199023255552<=s->2199023255552<=ZA bs s
 | [],_,h=>h
 | b::r,s,h=>Gd r _ (by rw[Nat.min_eq_right h];omega)
theorem Yb:∀ (bs:List UInt8) (s:Nat),Agr (ZA bs s:Nat) (ZJ bs s)
 | [],_=>.inl rfl
 | b::r,s=>by
  show Agr (ZA r (min s 2199023255552*256+b.toNat):Nat) (if (2199023255552:Int)<(s:Int) then -1 else ZJ r ((s:Int)*256+b.toNat))
  by_cases h:s<=2199023255552
  ·rw[if_neg oX,Nat.min_eq_left h]
   have:=Yb r (s*256+b.toNat)
   rw[Int.natCast_add,Int.natCast_mul] at this
   exact this
  ·rw[if_pos oX]
   have:=Gd r (min s 2199023255552*256+b.toNat) oX
   exact .inr ⟨Lw oX,dX⟩
def beN:List UInt8->Nat->Nat
 | [],s=>s
 | b::r,s=>beN r (s*256+b.toNat)
theorem Ho:∀ (bs:List UInt8) (s:Nat),ZA bs s<2199023255552->ZA bs s=beN bs s
 | [],_,_=>rfl
 | b::r,s,h=>by
  have h2:ZA r (min s 2199023255552*256+b.toNat)<2199023255552:=h
  by_cases hs:s<=2199023255552
  ·show ZA r (min s 2199023255552*256+b.toNat)=beN r (s*256+b.toNat)
   rw[Nat.min_eq_left hs] at h2 ⊢
   exact Ho r _ h2
  ·have:=Gd r (min s 2199023255552*256+b.toNat) oX
   omega
theorem DE{l:List UInt8}(h:l.length=8):∃ b0 b1 b2 b3 b4 b5 b6 b7,l=[b0,b1,b2,b3,b4,b5,b6,b7]:=by
 match l,h with
 | [b0,b1,b2,b3,b4,b5,b6,b7],_=>exact⟨b0,b1,b2,b3,b4,b5,b6,b7,rfl⟩
theorem DI{l:List UInt8}(h:l.length=4):∃ b0 b1 b2 b3,l=[b0,b1,b2,b3]:=by
 match l,h with
 | [b0,b1,b2,b3],_=>exact⟨b0,b1,b2,b3,rfl⟩
theorem DH{l:List UInt8}(h:l.length=1):∃ b0,l=[b0]:=by
 match l,h with
 | [b0],_=>exact⟨b0,rfl⟩
theorem KN(v:Int):Zn v=[Z0 v (7-7),Z0 v (7-6),Z0 v (7-5),Z0 v (7-4),Z0 v (7-3),Z0 v (7-2),Z0 v (7-1),Z0 v (7-0)]:=rfl
theorem QZ(v:Nat)(h:v<9223372036854775808)(r:Nat)(hr:r<8)(b:UInt8)(hb:v / 256 ^ r % 256=b.toNat):Z0 (v:Int) (7-r)=b:=by
 refine UInt8.toNat_inj.1 ?_
 rw[QM (v:Int) oX oX r hr,Int.toNat_natCast,hb]
theorem Rq(l:List UInt8)(h8:l.length=8)(h:ZA l 0<=1099511627776):Zn ((ZA l 0:Nat):Int)=l:=by
 obtain⟨b0,b1,b2,b3,b4,b5,b6,b7,rfl⟩:=DE h8
 have hbe:ZA [b0,b1,b2,b3,b4,b5,b6,b7] 0=beN [b0,b1,b2,b3,b4,b5,b6,b7] 0:=Ho _ _ oX
 rw[hbe] at h ⊢
 obtain⟨v,hv⟩:∃ v,v=beN [b0,b1,b2,b3,b4,b5,b6,b7] 0:=⟨_,rfl⟩
 rw[<-hv] at h ⊢
 simp only[beN] at hv
 have k0:=b0.toNat_lt
 have k1:=b1.toNat_lt
 have k2:=b2.toNat_lt
 have k3:=b3.toNat_lt
 have k4:=b4.toNat_lt
 have k5:=b5.toNat_lt
 have k6:=b6.toNat_lt
 have k7:=b7.toNat_lt
 rw[KN,QZ v oX 7 dX b0 oX,QZ v oX 6 dX b1 oX,QZ v oX 5 dX b2 oX,QZ v oX 4 dX b3 oX,QZ v oX 3 dX b4 oX,QZ v oX 2 dX b5 oX,QZ v oX 1 dX b6 oX,QZ v oX 0 dX b7 oX]
theorem RZ(l:List UInt8)(h4:l.length=4):(Zn ((ZA l 0:Nat):Int)).drop 4=l:=by
 obtain⟨b0,b1,b2,b3,rfl⟩:=DI h4
 have k0:=b0.toNat_lt
 have k1:=b1.toNat_lt
 have k2:=b2.toNat_lt
 have k3:=b3.toNat_lt
 obtain⟨v,hv⟩:∃ v,v=ZA [b0,b1,b2,b3] 0:=⟨_,rfl⟩
 rw[<-hv]
 simp only[ZA] at hv
 have e:((Zn (v:Int)).drop 4)=[Z0 v (7-3),Z0 v (7-2),Z0 v (7-1),Z0 v (7-0)]:=by rw[KN];rfl
 rw[e,QZ v oX 3 dX b0 oX,QZ v oX 2 dX b1 oX,QZ v oX 1 dX b2 oX,QZ v oX 0 dX b3 oX]
theorem XT(b:UInt8):b8 ((b.toNat:Nat):Int)=b:=by
 refine UInt8.toNat_inj.1 ?_
 have h:=Q8 (b.toNat:Int) ⟨oX,by have:=b.toNat_lt;omega⟩
 omega
theorem Yt{a b:Int}(h:Agr a b):inB a 0 1099511627776=inB b 0 1099511627776/\(inB a 0 1099511627776=true->a=b):=by
 rcases h with rfl|⟨h1,h2⟩
 ·exact⟨rfl,λ_=>rfl⟩
 ·exact⟨by rw[h1,h2],λe=>by rw[h1] at e;cases e⟩
theorem RV{a m:Int}(hm:m<=1099511627776)(h:inB a 0 m=true):inB a 0 1099511627776=true:=by
 unfold inB at h ⊢
 simp only[Bool.and_eq_true,decide_eq_true_eq] at h ⊢
 omega
theorem L3{a b m:Int}(hm:m<=1099511627776)(h:Agr a b):inB a 0 m=inB b 0 m:=by
 obtain⟨h1,h2⟩:=Yt h
 cases e:inB a 0 m
 ·cases e2:inB b 0 m
  ·rfl
  ·have h3:=RV hm e2
   rw[<-h1] at h3
   rw[h2 h3,e2] at e
   exact e.symm
 ·rw[h2 (RV hm e)] at e
  exact e.symm
theorem Uz(x y:Rc)(hk:x.kind=y.kind)(ho:Agr x.obj y.obj)(hi:Agr x.id y.id)(hx:Agr x.index y.index)(ht:Agr x.tick y.tick)(hn:x.name=y.name)(hp:x.p=y.p)(hr:x.root=y.root)(hf:x.file=y.file)(hw:x.way=y.way)(hv:x.verdict=y.verdict)
  (hid:x.kind≠2->x.kind≠3->x.id=y.id) (hix:x.kind≠2->x.index=y.index):x.chk=y.chk/\(x.chk=0->x=y):=by
 have e1:x.nums=y.nums:=by
  unfold Rc.nums Zy
  rw[hk,(Yt ho).1,(Yt ht).1,(Yt hi).1,L3 (m:=1048576) dX hx,hw,hv]
 have e2:x.nums=true->x=y:=by
  intro h
  have h0:=h
  unfold Rc.nums Zy at h
  by_cases k2:x.kind=2
  ·simp only[k2,if_true,Bool.and_eq_true] at h
   refine JA hk ((Yt ho).2 ?_) ((Yt hi).2 ?_) hn hp hr hf hw ((Yt hx).2 ?_) hv ((Yt ht).2 ?_)
   all_goals simp_all [inB]
   all_goals omega
  ·by_cases k3:x.kind=3
   ·simp[k3,Bool.and_eq_true] at h
    refine JA hk ((Yt ho).2 ?_) ((Yt hi).2 ?_) hn hp hr hf hw (hix k2) hv ((Yt ht).2 ?_)
    all_goals simp_all [inB]
   ·simp[k2,k3,Bool.and_eq_true] at h
    refine JA hk ((Yt ho).2 ?_) (hid k2 k3) hn hp hr hf hw (hix k2) hv ((Yt ht).2 ?_)
    all_goals simp_all [inB]
 cases hb:x.nums
 ·rw[hb] at e1
  have c:∀ z:Rc,z.nums=false->z.chk=if z.kind<1\/4<z.kind then 7 else 1:=by
   intro z hz
   unfold Rc.chk
   rw[hz]
   simp
  rw[c x hb,c y e1.symm,hk]
  refine⟨rfl,λh=>?_⟩
  split at h<;>cases h
 ·rw[e2 hb]
  exact⟨rfl,λ_=>rfl⟩
def nBs:List UInt8×Bool->List Nat->List UInt8×Bool
 | s,[]=>s
 | s,n::r=>nBs (nB s n) r
theorem Ly(l:List UInt8)(n:Nat):nB (l,true) n=(l,true):=by
 unfold nB YC YJ
 rw[if_pos (.inl rfl),if_pos (.inl rfl)]
theorem GT(l:List UInt8):∀ ns,nBs (l,true) ns=(l,true)
 | []=>rfl
 | n::r=>by show nBs (nB (l,true) n) r=_;rw[Ly];exact GT l r
theorem NM{l:List UInt8}{n:Nat}(h:l.length<n):nB (l,false) n=(l,true):=by
 unfold nB YC YJ
 rw[if_pos (.inr h),if_pos (.inr h)]
theorem GC{l:List UInt8}{n:Nat}(h:n<=l.length):nB (l,false) n=(l.drop n,false):=by
 have hh:¬(false=true\/l.length<n):=fun e=>e.elim (fun e=>Bool.noConfusion e) (fun e=>absurd e (by omega))
 unfold nB YC YJ
 rw[if_neg hh,if_neg hh]
theorem X7:∀ (ns:List Nat) (l:List UInt8),l.length<ns.sum->(nBs (l,false) ns).2=true
 | [],l,h=>by simp at h
 | n::r,l,h=>by
  rw[List.sum_cons] at h
  show (nBs (nB (l,false) n) r).2=true
  by_cases hn:l.length<n
  ·rw[NM hn,GT]
  ·rw[GC oX]
   exact X7 r _ (by rw[List.length_drop];omega)
theorem QF:∀ (ns:List Nat) (l:List UInt8),ns.sum<=l.length->nBs (l,false) ns=(l.drop ns.sum,false)
 | [],l,_=>by simp[nBs]
 | n::r,l,h=>by
  rw[List.sum_cons] at h ⊢
  show nBs (nB (l,false) n) r=_
  rw[GC oX,QF r _ (by rw[List.length_drop];omega),List.drop_drop]
theorem Vn:∀ (bs:List UInt8) (s:Nat),s<=562949953421567->ZA bs s<=562949953421567
 | [],_,h=>h
 | b::r,s,h=>Vn r _ (by have:=b.toNat_lt;omega)
theorem Hv:∀ (bs:List UInt8) (s:Int),0<=s->s<=562949953421567 -> -1<=ZJ bs s/\ZJ bs s<=562949953421567
 | [],_,h1,h2=>⟨Int.le_trans dX h1,h2⟩
 | b::r,s,h1,h2=>by
  show -1<=(if 2199023255552<s then -1 else ZJ r (s*256+b.toNat))/\(if 2199023255552<s then -1 else ZJ r (s*256+b.toNat))<=562949953421567
  by_cases h:2199023255552<s
  ·rw[if_pos h];decide
  ·rw[if_neg h]
   have:=b.toNat_lt
   exact Hv r _ oX oX
theorem Dg(x y:UInt8):bits BinOp.or IntKind.i64 ((x.toNat:Int)*256) (y.toNat:Int)=(x.toNat:Int)*256+y.toNat:=by
 have hx:=x.toNat_lt
 have hy:=y.toNat_lt
 have e0:((x.toNat:Int)*256)=((256*x.toNat:Nat):Int):=oX
 rw[e0]
 have e1:(BitVec.ofInt 64 ((256*x.toNat:Nat):Int)).toNat=256*x.toNat:=by rw[BitVec.ofInt_natCast,BitVec.toNat_ofNat];exact Nat.mod_eq_of_lt oX
 have e2:(BitVec.ofInt 64 (y.toNat:Int)).toNat=y.toNat:=by rw[BitVec.ofInt_natCast,BitVec.toNat_ofNat];exact Nat.mod_eq_of_lt oX
 have e3:256*x.toNat ||| y.toNat=256*x.toNat+y.toNat:=(Nat.two_pow_add_eq_or_of_lt (i:=8) oX x.toNat).symm
 show IntKind.i64.wrap ((BitVec.ofInt 64 ((256*x.toNat:Nat):Int) ||| BitVec.ofInt 64 (y.toNat:Int)).toNat:Int)=_
 rw[BitVec.toNat_or,e1,e2,e3,IntKind.wrap_i64]
 omega
theorem LB(b off m c:Nat)(x y:UInt8)(w:World)(h0:w.cell? ⟨b,off,none⟩=some (.int .u8 (x.toNat:Int)))(h1:w.cell? ⟨b,off+1,none⟩=some (.int .u8 (y.toNat:Int)))(hm:2<=m) :
  Calls Tryz.prog 105 #[.slice (some ⟨b,off,none⟩) m c] w λe w'=>e=.returned (.int .i64 ((x.toNat:Int)*256+y.toNat))/\∃ n,w'=w.drewN n:=by
 have hx:=x.toNat_lt
 have hy:=y.toNat_lt
 have m0:(0:Int)<(m:Int):=oX
 have m1:(1:Int)<(m:Int):=oX
 go_enter Tryz.func105,Tryz.ntmps105
 go_wp2_with fail
 go_quiet (fail)
 go_wp2_with fail
 go_ret
 exact⟨by rw[Dg];rfl,_,rfl⟩
theorem YD{P:Program}{fn:Func}{R:Ending->World->Prop}{p u:Tmp}{ty:TypeId}{tmps:Array Value}{W:World}{b:Nat}{c:Array Value}{y:Value}{d:TypeDesc}(h:fn.results=#[.cell p ty,.tmp u])
  (hp:tmps.getD p undef=.pointer (some ⟨b,0,none⟩)) (hy:tmps.getD u undef=y) (hu:P.underlying ty=some d) (hd:(match d with | .struct _ | .array _ _=>true|_=>false)=true) (hi:(P.info? ty).map (·.size)=some c.size) (hh:W.heap[b]? = some (.cells c ty (0,0))) (hR:R (.returned (.tuple #[.agg c,y])) W) :
  bodyPost P fn R .ret ⟨tmps,[]⟩ W:=by
 refine bodyPost_ret (v:=.tuple #[.agg c,y]) ?_ rfl hR
 have hr:(results fn tmps).run P W=((asAddr (tmps.getD p undef)).run P W).andThen λa w₁=>((loadVar ty a).run P w₁).andThen λv w₂=>.ok (.tuple #[v,tmps.getD u undef]) w₂:=by
  simp only[results,h]
  simp[Sem.run_bind,Result.andThen]
 rw[hr,hp,hy]
 simp[asAddr,Result.andThen,run_loadVar_row W b ty ty c (0,0) d hh hu hd hi]
end Go.Proofs.YtpdhceiodgnbmaaGreatDoor
