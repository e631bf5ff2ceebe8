import Derived.Test.YtdilmfnpkeihiaaGreatDoorF0AudSaid
import Derived.Test.YtdilmfnpkeihiaaGreatDoorF2AudSaid
import Derived.Laws.BitsAllLaws
import Derived.Test.YtdilmfnpkeihiaaGreatDoorF12AudSaid
set_option linter.unusedVariables false
set_option linter.unusedSimpArgs false
set_option linter.unnecessarySimpa false
set_option maxRecDepth 100000
set_option maxHeartbeats 8000000
namespace Go.Proofs.YtdilmfnpkeihiaaGreatDoor
open Go.RowKit
abbrev W32:=UInt32
theorem Xg(x:W32):x.toNat<4294967296:=x.toNat_lt
def wn(x:W32):Int:=(x.toNat:Int)
theorem Gg(x:W32):0<=wn x/\wn x<4294967296:=by have:=Xg x;unfold wn;omega
theorem Xq(x y:W32):bits BinOp.and IntKind.u32 (wn x) (wn y)=wn (x &&& y):=by
 unfold wn;rw[u32_and_nat _ _ (Xg x) (Xg y),UInt32.toNat_and]
theorem Nc(x y:W32):bits BinOp.or IntKind.u32 (wn x) (wn y)=wn (x ||| y):=by
 unfold wn;rw[u32_or_nat _ _ (Xg x) (Xg y),UInt32.toNat_or]
theorem QY(x y:W32):bits BinOp.xor IntKind.u32 (wn x) (wn y)=wn (x ^^^ y):=by
 unfold wn;rw[u32_xor_nat _ _ (Xg x) (Xg y),UInt32.toNat_xor]
theorem Nu(x:W32):bits BinOp.xor IntKind.u32 4294967295 (wn x)=wn (~~~x):=by
 have h:=QY 4294967295 x
 rw[show wn 4294967295=4294967295 from rfl] at h
 rw[h,show (4294967295:W32) ^^^ x = ~~~x from ?_]
 apply UInt32.eq_of_toBitVec_eq
 rw[UInt32.toBitVec_xor,UInt32.toBitVec_not]
 exact BitVec.allOnes_xor
theorem Qt(x y:W32):(wn x+wn y) % 4294967296=wn (x+y):=by
 unfold wn
 rw[UInt32.toNat_add]
 omega
theorem Gw(x:W32)(k:Nat)(h:k<32):wn x / ((2 ^ k:Nat):Int)=wn (x >>> UInt32.ofNat k):=by
 unfold wn
 rw[UInt32.toNat_shiftRight,Nat.shiftRight_eq_div_pow]
 have:(UInt32.ofNat k).toNat % 32=k:=sY
 rw[this,Int.natCast_ediv]
theorem G0(x:W32)(k:Nat)(h:k<32):(wn x*((2 ^ k:Nat):Int)) % 4294967296=wn (x <<< UInt32.ofNat k):=by
 unfold wn
 rw[UInt32.toNat_shiftLeft,Nat.shiftLeft_eq]
 have:(UInt32.ofNat k).toNat % 32=k:=sY
 rw[this,<-Int.natCast_mul]
 omega
def Z2(x:W32)(k:Nat):W32:=(x >>> UInt32.ofNat k) ||| (x <<< UInt32.ofNat (32-k))
def Qz(x:W32):W32:=Z2 x 2 ^^^ Z2 x 13 ^^^ Z2 x 22
def Z9(x:W32):W32:=Z2 x 6 ^^^ Z2 x 11 ^^^ Z2 x 25
def Yk(x:W32):W32:=Z2 x 7 ^^^ Z2 x 18 ^^^ (x >>> UInt32.ofNat 3)
def QS(x:W32):W32:=Z2 x 17 ^^^ Z2 x 19 ^^^ (x >>> UInt32.ofNat 10)
def chW(e f g:W32):W32:=(e &&& f) ^^^ (~~~e &&& g)
def Q1(a b c:W32):W32:=(a &&& b) ^^^ (a &&& c) ^^^ (b &&& c)
def kList:List W32:=[
 0x428a2f98,0x71374491,0xb5c0fbcf,0xe9b5dba5,0x3956c25b,0x59f111f1,0x923f82a4,0xab1c5ed5,
 0xd807aa98,0x12835b01,0x243185be,0x550c7dc3,0x72be5d74,0x80deb1fe,0x9bdc06a7,0xc19bf174,
 0xe49b69c1,0xefbe4786,0x0fc19dc6,0x240ca1cc,0x2de92c6f,0x4a7484aa,0x5cb0a9dc,0x76f988da,
 0x983e5152,0xa831c66d,0xb00327c8,0xbf597fc7,0xc6e00bf3,0xd5a79147,0x06ca6351,0x14292967,
 0x27b70a85,0x2e1b2138,0x4d2c6dfc,0x53380d13,0x650a7354,0x766a0abb,0x81c2c92e,0x92722c85,
 0xa2bfe8a1,0xa81a664b,0xc24b8b70,0xc76c51a3,0xd192e819,0xd6990624,0xf40e3585,0x106aa070,
 0x19a4c116,0x1e376c08,0x2748774c,0x34b0bcb5,0x391c0cb3,0x4ed8aa4a,0x5b9cca4f,0x682e6ff3,
 0x748f82ee,0x78a5636f,0x84c87814,0x8cc70208,0x90befffa,0xa4506ceb,0xbef9a3f7,0xc67178f2]
def kAt(t:Nat):W32:=kList.getD t 0
structure S8 where
 a:W32
 b:W32
 c:W32
 d:W32
 e:W32
 f:W32
 g:W32
 h:W32
def Zu:S8:=⟨0x6a09e667,0xbb67ae85,0x3c6ef372,0xa54ff53a,0x510e527f,0x9b05688c,0x1f83d9ab,0x5be0cd19⟩
def YD(s:S8)(k w:W32):S8:=
 let t1:=s.h+Z9 s.e+chW s.e s.f s.g+k+w
 let t2:=Qz s.a+Q1 s.a s.b s.c
 ⟨t1+t2,s.a,s.b,s.c,s.d+t1,s.e,s.f,s.g⟩
def Gd(s t:S8):S8:=⟨s.a+t.a,s.b+t.b,s.c+t.c,s.d+t.d,s.e+t.e,s.f+t.f,s.g+t.g,s.h+t.h⟩
def YE(b:List UInt8)(t:Nat):W32:=((((cf b (4*t)).toUInt32 <<< 8 ||| (cf b (4*t+1)).toUInt32) <<< 8) ||| (cf b (4*t+2)).toUInt32) <<< 8 ||| (cf b (4*t+3)).toUInt32
def Qm(b:List UInt8):Nat->List W32
 | 0=>[]
 | n+1=>Qm b n++[if n<16 then YE b n else QS ((Qm b n).getD (n-2) 0)+(Qm b n).getD (n-7) 0+Yk ((Qm b n).getD (n-15) 0)+(Qm b n).getD (n-16) 0]
def wAt(b:List UInt8)(t:Nat):W32:=(Qm b (t+1)).getD t 0
theorem ZO(b:List UInt8):∀ n,(Qm b n).length=n
 | 0=>rfl
 | n+1=>by simp[Qm,ZO b n]
theorem QQ(b:List UInt8)(t:Nat):∀ n,t<n->(Qm b n).getD t 0=wAt b t
 | 0,h=>by omega
 | n+1,h=>by
  by_cases e:t=n
  ·subst e;rfl
  ·have ih:=QQ b t n oX
   rw[Qm,List.getD_eq_getElem?_getD,List.getElem?_append_left (by rw[ZO];omega),<-List.getD_eq_getElem?_getD,ih]
theorem GN(b:List UInt8)(t:Nat)(h:t<16):wAt b t=YE b t:=by
 unfold wAt
 rw[Qm,List.getD_eq_getElem?_getD,List.getElem?_append_right (by rw[ZO];exact Nat.le_refl _),ZO,Nat.sub_self,if_pos h];rfl
theorem KU(b:List UInt8)(t:Nat)(h:16<=t):wAt b t=QS (wAt b (t-2))+wAt b (t-7)+Yk (wAt b (t-15))+wAt b (t-16):=by
 conv=>lhs;unfold wAt
 rw[Qm,List.getD_eq_getElem?_getD,List.getElem?_append_right (by rw[ZO];exact Nat.le_refl _),ZO,Nat.sub_self,if_neg oX]
 rw[QQ b (t-2) t oX,QQ b (t-7) t oX,QQ b (t-15) t oX,QQ b (t-16) t oX];rfl
def QE(b:List UInt8)(t:Nat):Nat->W32
 | 0=>0
 | j+1=>(QE b t j <<< 8) ||| (cf b (4*t+j)).toUInt32
theorem Ku(b:List UInt8)(t:Nat):QE b t 4=YE b t:=by
 have h:((0:W32) <<< 8) ||| (cf b (4*t+0)).toUInt32=(cf b (4*t)).toUInt32:=by
  rw[show (0:W32) <<< 8=0 from rfl,UInt32.zero_or];rfl
 simp only[QE,YE]
 rw[h]
theorem G4(x:W32)(c:UInt8):bits BinOp.or IntKind.u32 (wn x*256 % 4294967296) (c.toNat:Int)=wn ((x <<< 8) ||| c.toUInt32):=by
 have h1:=G0 x 8 oX
 rw[show ((2 ^ 8:Nat):Int)=256 from rfl,show UInt32.ofNat 8=8 from rfl] at h1
 rw[h1,show ((c.toNat:Nat):Int)=wn c.toUInt32 from by unfold wn;simp,Nc]
theorem KY(x:W32)(c:UInt8):bits BinOp.or IntKind.u32 (wn x*256 % 4294967296) ((c.toNat:Int) % 4294967296)=wn ((x <<< 8) ||| c.toUInt32):=by
 rw[show ((c.toNat:Int) % 4294967296)=(c.toNat:Int) from by have:=c.toNat_lt;omega]
 exact G4 x c
def ZH(b:List UInt8)(s:S8):Nat->S8
 | 0=>s
 | t+1=>YD (ZH b s t) (kAt t) (wAt b t)
def ZB(s:S8)(b:List UInt8):S8:=Gd (ZH b s 64) s
def Zr(s:S8)(m:List UInt8):Nat->S8
 | 0=>s
 | q+1=>ZB (Zr s m q) ((m.drop (64*q)).take 64)
theorem QN(s:S8)(m r:List UInt8):∀ q,64*q<=m.length->Zr s (m++r) q=Zr s m q
 | 0,_=>rfl
 | q+1,h=>by
  rw[Zr,Zr,QN s m r q oX]
  congr 1
  rw[List.drop_append_of_le_length oX,List.take_append_of_le_length (by rw[List.length_drop];omega)]
theorem XP(s:S8)(m:List UInt8)(p:Nat):∀ q,Zr s m (p+q)=Zr (Zr s m p) (m.drop (64*p)) q
 | 0=>rfl
 | q+1=>by
  rw[<-Nat.add_assoc,Zr,Zr,XP s m p q,List.drop_drop,Nat.mul_add]
def cW(l:List W32):List Value:=l.map λx=>.int .u32 (wn x)
def Zn(n:Nat)(f:Nat->W32):List W32:=(List.range n).map f
theorem Y2(l:List W32):(cW l).length=l.length:=by simp[cW]
theorem Qa(n:Nat)(f:Nat->W32):(Zn n f).length=n:=by simp[Zn]
theorem V5{n:Nat}{f:Nat->W32}{i:Nat}(h:i<n):(Zn n f)[i]? = some (f i):=by simp[Zn,h]
theorem Jp{n:Nat}{f:Nat->W32}{i:Nat}(h:i<n):(cW (Zn n f)).toArray[i]? = some (.int .u32 (wn (f i))):=by simp[cW,Zn,h]
theorem Qg{n:Nat}{f g:Nat->W32}(h:∀ i,i<n->f i=g i):Zn n f=Zn n g:=
 List.map_congr_left λi hi=>h i (List.mem_range.1 hi)
theorem Km(l:List W32)(j:Nat)(x:W32):(cW l).toArray.setIfInBounds j (.int .u32 (wn x))=(cW (l.set j x)).toArray:=by simp[cW,List.map_set]
theorem Jv(n:Nat)(f:Nat->W32)(i:Nat)(x:W32):(Zn n f).set i x=Zn n λj=>if j=i then x else f j:=by
 apply List.ext_getElem?
 intro j
 rw[List.getElem?_set]
 by_cases hj:j<n
 ·rw[V5 (f:=λj=>if j=i then x else f j) hj]
  by_cases h:i=j
  ·subst h;rw[if_pos rfl,if_pos (by rw[Qa];exact hj),if_pos rfl]
  ·rw[if_neg h,V5 hj,if_neg (λe=>h e.symm)]
 ·have h1:∀ g:Nat->W32,(Zn n g)[j]? = none:=λg=>List.getElem?_eq_none (by rw[Qa];omega)
  rw[h1,h1]
  by_cases h:i=j
  ·subst h;rw[if_pos rfl,if_neg (by rw[Qa];exact hj)]
  ·rw[if_neg h]
theorem UI(l:List W32):(cW l).toArray.all (·.oneCell')=true:=by
 rw[List.all_toArray,List.all_eq_true]
 intro v hv
 simp only[cW,List.mem_map] at hv
 obtain⟨_,_,rfl⟩:=hv
 rfl
def be8(n:Nat):List UInt8:=(List.range 8).map λi=>UInt8.ofNat (n / 2 ^ (8*(7-i)))
def Qh(n:Nat):Nat:=(119-n % 64) % 64
def QU(m:List UInt8):List UInt8:=m++[128]++List.replicate (Qh m.length) 0++be8 (8*m.length)
def Qu(x:W32):List UInt8:=[UInt8.ofNat (x.toNat / 16777216),UInt8.ofNat (x.toNat / 65536),UInt8.ofNat (x.toNat / 256),UInt8.ofNat x.toNat]
def ZR(s:S8):List UInt8:=Qu s.a++Qu s.b++Qu s.c++Qu s.d++Qu s.e++Qu s.f++Qu s.g++Qu s.h
theorem Jl(s:S8):(ZR s).length=32:=rfl
def sha(m:List UInt8):List UInt8:=ZR (Zr Zu (QU m) ((QU m).length / 64))
theorem Z5(m:List UInt8):(sha m).length=32:=Jl _
end Go.Proofs.YtdilmfnpkeihiaaGreatDoor
