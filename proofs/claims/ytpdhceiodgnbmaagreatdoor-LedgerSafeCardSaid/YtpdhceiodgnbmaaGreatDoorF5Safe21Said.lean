import Derived.Test.YtpdhceiodgnbmaaGreatDoorF0Safe21Said
import Derived.Test.YtpdhceiodgnbmaaGreatDoorF1Safe21Said
import Derived.Laws.BitsAllLaws
import Derived.Test.YtpdhceiodgnbmaaGreatDoorF2Safe21Said
import Derived.RangeFuncBox
import Derived.RangeFuncLeaves
import Derived.RangeFuncCalls
import Derived.Shelf.Abstract
import Derived.OwnWalkIn
import Derived.TacticsInMore
import Derived.LoopNIn
import Derived.LoopIn
import Derived.Test.YtpdhceiodgnbmaaGreatDoorRows
import Derived.IntWalk
set_option linter.unusedVariables false
set_option linter.unusedSimpArgs false
set_option linter.unnecessarySimpa false
set_option maxRecDepth 100000
set_option maxHeartbeats 8000000
namespace Go.Proofs.YtpdhceiodgnbmaaGreatDoor
open Go.RowKit
abbrev W32:=UInt32
theorem KU(x:W32):x.toNat<4294967296:=x.toNat_lt
def wn(x:W32):Int:=(x.toNat:Int)
theorem MD(x:W32):0<=wn x/\wn x<4294967296:=by have:=KU x;unfold wn;omega
theorem Js(x y:W32):bits BinOp.and IntKind.u32 (wn x) (wn y)=wn (x &&& y):=by
 unfold wn;rw[u32_and_nat _ _ (KU x) (KU y),UInt32.toNat_and]
theorem Ny(x y:W32):bits BinOp.or IntKind.u32 (wn x) (wn y)=wn (x ||| y):=by
 unfold wn;rw[u32_or_nat _ _ (KU x) (KU y),UInt32.toNat_or]
theorem QT(x y:W32):bits BinOp.xor IntKind.u32 (wn x) (wn y)=wn (x ^^^ y):=by
 unfold wn;rw[u32_xor_nat _ _ (KU x) (KU y),UInt32.toNat_xor]
theorem DH(x:W32):bits BinOp.xor IntKind.u32 4294967295 (wn x)=wn (~~~x):=by
 have h:=QT 4294967295 x
 rw[show wn 4294967295=4294967295 from rfl] at h
 rw[h,show (4294967295:W32) ^^^ x = ~~~x from ?_]
 apply UInt32.eq_of_toBitVec_eq
 rw[UInt32.toBitVec_xor,UInt32.toBitVec_not]
 exact BitVec.allOnes_xor
theorem Q3(x y:W32):(wn x+wn y) % 4294967296=wn (x+y):=by
 unfold wn
 rw[UInt32.toNat_add]
 omega
theorem GS(x:W32)(k:Nat)(h:k<32):wn x / ((2 ^ k:Nat):Int)=wn (x >>> UInt32.ofNat k):=by
 unfold wn
 rw[UInt32.toNat_shiftRight,Nat.shiftRight_eq_div_pow]
 have:(UInt32.ofNat k).toNat % 32=k:=sYq
 rw[this,Int.natCast_ediv]
theorem Kt(x:W32)(k:Nat)(h:k<32):(wn x*((2 ^ k:Nat):Int)) % 4294967296=wn (x <<< UInt32.ofNat k):=by
 unfold wn
 rw[UInt32.toNat_shiftLeft,Nat.shiftLeft_eq]
 have:(UInt32.ofNat k).toNat % 32=k:=sYq
 rw[this,<-Int.natCast_mul]
 omega
def ZD(x:W32)(k:Nat):W32:=(x >>> UInt32.ofNat k) ||| (x <<< UInt32.ofNat (32-k))
def Xr(x:W32):W32:=ZD x 2 ^^^ ZD x 13 ^^^ ZD x 22
def Qo(x:W32):W32:=ZD x 6 ^^^ ZD x 11 ^^^ ZD x 25
def Xz(x:W32):W32:=ZD x 7 ^^^ ZD x 18 ^^^ (x >>> UInt32.ofNat 3)
def YL(x:W32):W32:=ZD x 17 ^^^ ZD x 19 ^^^ (x >>> UInt32.ofNat 10)
def chW(e f g:W32):W32:=(e &&& f) ^^^ (~~~e &&& g)
def Xt(a b c:W32):W32:=(a &&& b) ^^^ (a &&& c) ^^^ (b &&& c)
def kList:List W32:=[
 0x428a2f98,0x71374491,0xb5c0fbcf,0xe9b5dba5,0x3956c25b,0x59f111f1,0x923f82a4,0xab1c5ed5,
 0xd807aa98,0x12835b01,0x243185be,0x550c7dc3,0x72be5d74,0x80deb1fe,0x9bdc06a7,0xc19bf174,
 0xe49b69c1,0xefbe4786,0x0fc19dc6,0x240ca1cc,0x2de92c6f,0x4a7484aa,0x5cb0a9dc,0x76f988da,
 0x983e5152,0xa831c66d,0xb00327c8,0xbf597fc7,0xc6e00bf3,0xd5a79147,0x06ca6351,0x14292967,
 0x27b70a85,0x2e1b2138,0x4d2c6dfc,0x53380d13,0x650a7354,0x766a0abb,0x81c2c92e,0x92722c85,
 0xa2bfe8a1,0xa81a664b,0xc24b8b70,0xc76c51a3,0xd192e819,0xd6990624,0xf40e3585,0x106aa070,
 0x19a4c116,0x1e376c08,0x2748774c,0x34b0bcb5,0x391c0cb3,0x4ed8aa4a,0x5b9cca4f,0x682e6ff3,
 0x748f82ee,0x78a5636f,0x84c87814,0x8cc70208,0x90befffa,0xa4506ceb,0xbef9a3f7,0xc67178f2]
def kAt(t:Nat):W32:=kList.getD t 0
structure S8 where
 a:W32
 b:W32
 c:W32
 d:W32
 e:W32
 f:W32
 g:W32
 h:W32
def Z6:S8:=⟨0x6a09e667,0xbb67ae85,0x3c6ef372,0xa54ff53a,0x510e527f,0x9b05688c,0x1f83d9ab,0x5be0cd19⟩
def VU(s:S8)(k w:W32):S8:=
 let t1:=s.h+Qo s.e+chW s.e s.f s.g+k+w
 let t2:=Xr s.a+Xt s.a s.b s.c
 ⟨t1+t2,s.a,s.b,s.c,s.d+t1,s.e,s.f,s.g⟩
def MP(s t:S8):S8:=⟨s.a+t.a,s.b+t.b,s.c+t.c,s.d+t.d,s.e+t.e,s.f+t.f,s.g+t.g,s.h+t.h⟩
def XY(b:List UInt8)(t:Nat):W32:=((((cf b (4*t)).toUInt32 <<< 8 ||| (cf b (4*t+1)).toUInt32) <<< 8) ||| (cf b (4*t+2)).toUInt32) <<< 8 ||| (cf b (4*t+3)).toUInt32
def X7(b:List UInt8):Nat->List W32
 | 0=>[]
 | n+1=>X7 b n++[if n<16 then XY b n else YL ((X7 b n).getD (n-2) 0)+(X7 b n).getD (n-7) 0+Xz ((X7 b n).getD (n-15) 0)+(X7 b n).getD (n-16) 0]
def wAt(b:List UInt8)(t:Nat):W32:=(X7 b (t+1)).getD t 0
theorem Yz(b:List UInt8):∀ n,(X7 b n).length=n
 | 0=>rfl
 | n+1=>by simp[X7,Yz b n]
theorem JS(b:List UInt8)(t:Nat):∀ n,t<n->(X7 b n).getD t 0=wAt b t
 | 0,h=>by omega
 | n+1,h=>by
  by_cases e:t=n
  ·subst e;rfl
  ·have ih:=JS b t n oX
   rw[X7,List.getD_eq_getElem?_getD,List.getElem?_append_left (by rw[Yz];omega),<-List.getD_eq_getElem?_getD,ih]
theorem DU(b:List UInt8)(t:Nat)(h:t<16):wAt b t=XY b t:=by
 unfold wAt
 rw[X7,List.getD_eq_getElem?_getD,List.getElem?_append_right (by rw[Yz];exact Nat.le_refl _),Yz,Nat.sub_self,if_pos h];rfl
theorem M8(b:List UInt8)(t:Nat)(h:16<=t):wAt b t=YL (wAt b (t-2))+wAt b (t-7)+Xz (wAt b (t-15))+wAt b (t-16):=by
 conv=>lhs;unfold wAt
 rw[X7,List.getD_eq_getElem?_getD,List.getElem?_append_right (by rw[Yz];exact Nat.le_refl _),Yz,Nat.sub_self,if_neg oX]
 rw[JS b (t-2) t oX,JS b (t-7) t oX,JS b (t-15) t oX,JS b (t-16) t oX];rfl
def J2(b:List UInt8)(t:Nat):Nat->W32
 | 0=>0
 | j+1=>(J2 b t j <<< 8) ||| (cf b (4*t+j)).toUInt32
theorem Mj(b:List UInt8)(t:Nat):J2 b t 4=XY b t:=by
 have h:((0:W32) <<< 8) ||| (cf b (4*t+0)).toUInt32=(cf b (4*t)).toUInt32:=by
  rw[show (0:W32) <<< 8=0 from rfl,UInt32.zero_or];rfl
 simp only[J2,XY]
 rw[h]
theorem BH(x:W32)(c:UInt8):bits BinOp.or IntKind.u32 (wn x*256 % 4294967296) (c.toNat:Int)=wn ((x <<< 8) ||| c.toUInt32):=by
 have h1:=Kt x 8 oX
 rw[show ((2 ^ 8:Nat):Int)=256 from rfl,show UInt32.ofNat 8=8 from rfl] at h1
 rw[h1,show ((c.toNat:Nat):Int)=wn c.toUInt32 from by unfold wn;simp,Ny]
theorem De(x:W32)(c:UInt8):bits BinOp.or IntKind.u32 (wn x*256 % 4294967296) ((c.toNat:Int) % 4294967296)=wn ((x <<< 8) ||| c.toUInt32):=by
 rw[show ((c.toNat:Int) % 4294967296)=(c.toNat:Int) from by have:=c.toNat_lt;omega]
 exact BH x c
def ZN(b:List UInt8)(s:S8):Nat->S8
 | 0=>s
 | t+1=>VU (ZN b s t) (kAt t) (wAt b t)
def Q5(s:S8)(b:List UInt8):S8:=MP (ZN b s 64) s
def ZK(s:S8)(m:List UInt8):Nat->S8
 | 0=>s
 | q+1=>Q5 (ZK s m q) ((m.drop (64*q)).take 64)
theorem Vg(s:S8)(m r:List UInt8):∀ q,64*q<=m.length->ZK s (m++r) q=ZK s m q
 | 0,_=>rfl
 | q+1,h=>by
  rw[ZK,ZK,Vg s m r q oX]
  congr 1
  rw[List.drop_append_of_le_length oX,List.take_append_of_le_length c3X]
theorem Me(s:S8)(m:List UInt8)(p:Nat):∀ q,ZK s m (p+q)=ZK (ZK s m p) (m.drop (64*p)) q
 | 0=>rfl
 | q+1=>by
  rw[<-Nat.add_assoc,ZK,ZK,Me s m p q,List.drop_drop,Nat.mul_add]
def cW(l:List W32):List Value:=l.map λx=>.int .u32 (wn x)
def ZO(n:Nat)(f:Nat->W32):List W32:=(List.range n).map f
theorem UN(l:List W32):(cW l).length=l.length:=by simp[cW]
theorem YO(n:Nat)(f:Nat->W32):(ZO n f).length=n:=by simp[ZO]
theorem TM{n:Nat}{f:Nat->W32}{i:Nat}(h:i<n):(ZO n f)[i]? = some (f i):=by simp[ZO,h]
theorem GP{n:Nat}{f:Nat->W32}{i:Nat}(h:i<n):(cW (ZO n f)).toArray[i]? = some (.int .u32 (wn (f i))):=by simp[cW,ZO,h]
theorem YH{n:Nat}{f g:Nat->W32}(h:∀ i,i<n->f i=g i):ZO n f=ZO n g:=
 List.map_congr_left λi hi=>h i (List.mem_range.1 hi)
theorem H8(l:List W32)(j:Nat)(x:W32):(cW l).toArray.setIfInBounds j (.int .u32 (wn x))=(cW (l.set j x)).toArray:=by simp[cW,List.map_set]
theorem Gi(n:Nat)(f:Nat->W32)(i:Nat)(x:W32):(ZO n f).set i x=ZO n λj=>if j=i then x else f j:=by
 apply List.ext_getElem?
 intro j
 rw[List.getElem?_set]
 by_cases hj:j<n
 ·rw[TM (f:=λj=>if j=i then x else f j) hj]
  by_cases h:i=j
  ·subst h;rw[if_pos rfl,if_pos (by rw[YO];exact hj),if_pos rfl]
  ·rw[if_neg h,TM hj,if_neg (λe=>h e.symm)]
 ·have h1:∀ g:Nat->W32,(ZO n g)[j]? = none:=λg=>List.getElem?_eq_none (by rw[YO];omega)
  rw[h1,h1]
  by_cases h:i=j
  ·subst h;rw[if_pos rfl,if_neg (by rw[YO];exact hj)]
  ·rw[if_neg h]
theorem Hu(l:List W32):(cW l).toArray.all (·.oneCell')=true:=by
 rw[List.all_toArray,List.all_eq_true]
 intro v hv
 simp only[cW,List.mem_map] at hv
 obtain⟨_,_,rfl⟩:=hv
 rfl
def be8(n:Nat):List UInt8:=(List.range 8).map λi=>UInt8.ofNat (n / 2 ^ (8*(7-i)))
def Qn(n:Nat):Nat:=(119-n % 64) % 64
def XH(m:List UInt8):List UInt8:=m++[128]++List.replicate (Qn m.length) 0++be8 (8*m.length)
def Jd(x:W32):List UInt8:=[UInt8.ofNat (x.toNat / 16777216),UInt8.ofNat (x.toNat / 65536),UInt8.ofNat (x.toNat / 256),UInt8.ofNat x.toNat]
def Ql(s:S8):List UInt8:=Jd s.a++Jd s.b++Jd s.c++Jd s.d++Jd s.e++Jd s.f++Jd s.g++Jd s.h
theorem Mp(s:S8):(Ql s).length=32:=rfl
def sha(m:List UInt8):List UInt8:=Ql (ZK Z6 (XH m) ((XH m).length / 64))
theorem Qp(m:List UInt8):(sha m).length=32:=Mp _
open Go.RowKit Go.Shelf
attribute [local go_sem] Oper.semAt_some
def upto{α:Type}(f:Nat->α)(k:Nat):List α:=(List.range k).map f
theorem VC{α:Type}(f:Nat->α)(k:Nat):upto f (k+1)=upto f k++[f k]:=by simp[upto,List.range_succ]
theorem Tl{α:Type}(f:Nat->α)(k:Nat):(upto f k).length=k:=by simp[upto]
theorem Cz(a:Nat)(h1:1<=a)(h2:a<=31):bits BinOp.and IntKind.u64 (18446744073709551616-(a:Int)) 31=32-(a:Int):=by
 have h:=u64_and_nat (18446744073709551616-a) 31 oX oX
 rw[show ((18446744073709551616-a:Nat):Int)=18446744073709551616-(a:Int) from by omega,show ((31:Nat):Int)=31 from rfl] at h
 rw[h]
 have e:(18446744073709551616-a) &&& 31=(18446744073709551616-a) % 32:=Nat.and_two_pow_sub_one_eq_mod _ 5
 rw[e]
 omega
theorem D9(a:Nat)(h1:1<=a)(h2:a<=31):IntKind.u64.wrap (-(a:Int))=18446744073709551616-(a:Int):=by
 rw[IntKind.wrap_u64];omega
theorem Ck(x:W32)(a:Nat)(h1:1<=a)(h2:a<=31) :
  bits BinOp.or IntKind.u32 ((wn x)*2 ^ (32-a) % 4294967296) ((wn x) / 2 ^ a)=(wn (ZD x a)):=by
 have e1:(2:Int) ^ (32-a)=((2 ^ (32-a):Nat):Int):=sX
 have e2:(2:Int) ^ a=((2 ^ a:Nat):Int):=sX
 rw[e1,e2,Kt x (32-a) oX,GS x a oX,Ny]
 unfold ZD
 rw[UInt32.or_comm]
theorem Bk(x:W32)(a:Nat)(h1:1<=a)(h2:a<=31) :
  bits BinOp.or IntKind.u32 ((wn x) / 2 ^ a) ((wn x)*2 ^ (32-a) % 4294967296)=(wn (ZD x a)):=by
 have e1:(2:Int) ^ (32-a)=((2 ^ (32-a):Nat):Int):=sX
 have e2:(2:Int) ^ a=((2 ^ a:Nat):Int):=sX
 rw[e1,e2,Kt x (32-a) oX,GS x a oX,Ny]
 rfl
theorem Vj(x:W32)(a:Nat)(h1:1<=a)(h2:a<=31)(w:World):Calls Tryz.prog 183 #[.int .u32 (wn x),.int .i64 (-(a:Int))] w λe w'=>e=.returned (.int .u32 (wn (ZD x a)))/\w=w':=by
 have hand:bits BinOp.and IntKind.u64 (IntKind.u64.wrap (-(a:Int))) 31=32-(a:Int):=by rw[D9 a h1 h2];exact Cz a h1 h2
 have hl:=MD x
 have hs0:(0:Int)<=32-(a:Int):=oX
 have hs1:32-(a:Int)<=32:=oX
 have hs2:32-(32-(a:Int))=(a:Int):=oX
 have hs3:=IntWalk.u64_in (a:Int) oX
 have hs4:(0:Int)<=(a:Int):=oX
 have hs5:(a:Int)<=32:=oX
 have hrot:=Ck x a h1 h2
 go_enter Tryz.func183,Tryz.ntmps183
 go_wp2_with fail
 go_ret
 exact⟨rfl,rfl⟩
theorem G0(x:W32)(a b c:Nat)(ha:1<=a/\a<=31)(hb:1<=b/\b<=31)(hc:1<=c/\c<=31)(w:World) :
  Calls Tryz.prog 177 #[.int .u32 (wn x),.int .i64 (a:Int),.int .i64 (b:Int),.int .i64 (c:Int)] w λe w'=>e=.returned (.int .u32 (wn (ZD x a ^^^ ZD x b ^^^ ZD x c)))/\w=w':=by
 have h1:=QT (ZD x a) (ZD x b)
 have h2:=QT (ZD x a ^^^ ZD x b) (ZD x c)
 go_enter Tryz.func177,Tryz.ntmps177
 go_wp2_with fail
 with_reducible refine(Vj x a ha.1 ha.2 _).mono ?_
 rintro e w1 ⟨rfl,rfl⟩
 go_wp2_with fail
 with_reducible refine(Vj x b hb.1 hb.2 _).mono ?_
 rintro e w1 ⟨rfl,rfl⟩
 go_wp2_with fail
 with_reducible refine(Vj x c hc.1 hc.2 _).mono ?_
 rintro e w1 ⟨rfl,rfl⟩
 go_wp2_with fail
 go_ret
 exact⟨rfl,rfl⟩
theorem NM(x:W32)(a b c:Nat)(ha:1<=a/\a<=31)(hb:1<=b/\b<=31)(hc:1<=c/\c<=31)(w:World) :
  Calls Tryz.prog 182 #[.int .u32 (wn x),.int .i64 (a:Int),.int .i64 (b:Int),.int .i64 (c:Int)] w λe w'=>e=.returned (.int .u32 (wn (ZD x a ^^^ ZD x b ^^^ (x >>> UInt32.ofNat c))))/\Drawn w w':=by
 have h1:=QT (ZD x a) (ZD x b)
 have h2:=QT (ZD x a ^^^ ZD x b) (x >>> UInt32.ofNat c)
 have h3:wn x / 2 ^ c=wn (x >>> UInt32.ofNat c):=by
  rw[<-GS x c oX];simp
 have hc0:(0:Int)<=(c:Int):=oX
 have hc1:(c:Int)<=32:=oX
 go_enter Tryz.func182,Tryz.ntmps182
 go_wp2_with fail
 go_quiet (first|(go_at_call 183;with_reducible exact KS (Vj x a ha.1 ha.2 _))|(go_at_call 183;with_reducible exact KS (Vj x b hb.1 hb.2 _)))
 go_wp2_with fail
 go_ret
 exact⟨rfl,_,rfl⟩
theorem WZ(x:W32)(a:Nat)(h1:1<=a)(h2:a<=31)(w:World):Calls Tryz.prog 133 #[.int .u32 (wn x),.int .u64 (a:Int)] w λe w'=>e=.returned (.int .u32 (wn (ZD x a)))/\w=w':=by
 have hs0:(0:Int)<=32-(a:Int):=oX
 have hs1:32-(a:Int)<=32:=oX
 have hs3:=IntWalk.u64_in (32-(a:Int)) oX
 have hs4:(0:Int)<=(a:Int):=oX
 have hs5:(a:Int)<=32:=oX
 have hl:=MD x
 have hrot:=Bk x a h1 h2
 go_enter Tryz.func133,Tryz.ntmps133
 go_wp2_with fail
 go_ret
 exact⟨rfl,rfl⟩
theorem PX(x:W32)(w:World):Calls Tryz.prog 182 #[.int .u32 (wn x),.int .i64 17,.int .i64 19,.int .i64 10] w λe w'=>e=.returned (.int .u32 (wn (YL x)))/\Drawn w w':=
 NM x 17 19 10 oX oX oX w
theorem RQ(x:W32)(w:World):Calls Tryz.prog 182 #[.int .u32 (wn x),.int .i64 7,.int .i64 18,.int .i64 3] w λe w'=>e=.returned (.int .u32 (wn (Xz x)))/\Drawn w w':=
 NM x 7 18 3 oX oX oX w
theorem Lz(x:W32)(w:World):Calls Tryz.prog 177 #[.int .u32 (wn x),.int .i64 6,.int .i64 11,.int .i64 25] w λe w'=>e=.returned (.int .u32 (wn (Qo x)))/\w=w':=
 G0 x 6 11 25 oX oX oX w
theorem Da(x:W32)(w:World):Calls Tryz.prog 177 #[.int .u32 (wn x),.int .i64 2,.int .i64 13,.int .i64 22] w λe w'=>e=.returned (.int .u32 (wn (Xr x)))/\w=w':=
 G0 x 2 13 22 oX oX oX w
@[irreducible] def zero64:Array Value:=(cW (ZO 64 λ_=>0)).toArray
theorem G5(w:World):(zeroValue 241).run Tryz.prog w=.ok (.agg zero64) w:=kX
theorem KN:zero64.size=64:=kX
theorem NU:zero64≠#[]:=λe=>by have:=KN;rw[e] at this;cases this
theorem UI:zero64=(cW (ZO 64 λ_=>0)).toArray:=by unfold zero64;rfl
structure WdSt (w:World) (r o:Nat) (f:Nat->W32) (W:World):Prop where
 row:W.heap[o]? = some (.cells (cW (ZO 64 f)).toArray 241 (0,0))
 res:W.heap[r]? = some (.cells zero64 241 (0,0))
 bel:Below w.heap.size w W
theorem WdSt.drawn{w:World}{r o:Nat}{f:Nat->W32}{W W':World}(h:WdSt w r o f W)(hd:Drawn W W'):WdSt w r o f W':=by
 obtain⟨n,rfl⟩:=hd
 exact⟨h.row,h.res,below_drewN h.bel n⟩
theorem WdSt.set{w:World}{r o:Nat}{f:Nat->W32}{W:World}(h:WdSt w r o f W)(h1:r≠o)(h3:w.heap.size<=o)(j:Nat)(x:W32) :
  WdSt w r o (λi=>if i=j then x else f i) (W.setCell ⟨o,j,none⟩ (.int .u32 (wn x))):=by
 have hu:=(Upd.refl h.row).setCell (j:=j) (.int .u32 (wn x))
 refine⟨?_,(hu.block r h1).trans h.res,h.bel.trans (hu.below h3)⟩
 rw[<-Gi,<-H8];exact hu.here
theorem WdSt.congr{w:World}{r o:Nat}{f g:Nat->W32}{W:World}(h:WdSt w r o f W)(e:∀ i,i<64->f i=g i):WdSt w r o g W:=
 ⟨by rw[<-YH e];exact h.row,h.res,h.bel⟩
theorem WdSt.cell{w:World}{r o:Nat}{f:Nat->W32}{W:World}(h:WdSt w r o f W){j:Nat}(hj:j<64):W.cell? ⟨o,j,none⟩=some (.int .u32 (wn (f j))):=by
 rw[Za h.row,GP hj]
theorem WdSt.free{w:World}{r o:Nat}{f:Nat->W32}{W:World}(h:WdSt w r o f W)(j:Nat):W.frozen? ⟨o,j,none⟩=false:=Zj h.row _
def QB(o t:Nat)(bs:List UInt8)(W:World):Prop:=∀ i,i<t->W.cell? ⟨o,i,none⟩=some (.int .u32 (wn (wAt bs i)))
def QL(b:List UInt8)(t j i:Nat):W32:=if i<t then XY b i else if i=t then J2 b t j else 0
def Qe(b:List UInt8)(t i:Nat):W32:=if i<t then wAt b i else 0
theorem K4(b:List UInt8):ZO 64 (QL b 0 0)=ZO 64 λ_=>0:=by
 refine YH λi _=>?_
 unfold QL
 rw[if_neg (Nat.not_lt_zero i)]
 split<;>rfl
theorem Pj(b:List UInt8)(t j:Nat):QL b t j t=J2 b t j:=by
 unfold QL;rw[if_neg (Nat.lt_irrefl t),if_pos rfl]
theorem Mk(b:List UInt8)(t j j':Nat):∀ i,i<64->(if i=t then J2 b t j' else QL b t j i)=QL b t j' i:=by
 intro i _
 unfold QL
 by_cases h:i=t
 ·subst h;rw[if_pos rfl,if_neg (Nat.lt_irrefl i),if_pos rfl]
 ·rw[if_neg h,if_neg h,if_neg h]
theorem Gs(b:List UInt8)(t:Nat):∀ i,i<64->QL b t 4 i=QL b (t+1) 0 i:=by
 intro i _
 unfold QL
 by_cases h:i<t
 ·rw[if_pos h,if_pos oX]
 ·rw[if_neg h]
  by_cases h2:i=t
  ·subst h2;rw[if_pos rfl,if_pos oX,Mj]
  ·rw[if_neg h2,if_neg oX]
   split<;>rfl
theorem GA(b:List UInt8):∀ i,i<64->QL b 16 0 i=Qe b 16 i:=by
 intro i _
 unfold QL Qe
 by_cases h:i<16
 ·rw[if_pos h,if_pos h,DU b i h]
 ·rw[if_neg h,if_neg h];split<;>rfl
theorem KE(b:List UInt8)(t:Nat):∀ i,i<64->(if i=t then wAt b t else Qe b t i)=Qe b (t+1) i:=by
 intro i _
 unfold Qe
 by_cases h:i=t
 ·subst h;rw[if_pos rfl,if_pos oX]
 ·rw[if_neg h]
  by_cases h2:i<t
  ·rw[if_pos h2,if_pos oX]
  ·rw[if_neg h2,if_neg oX]
theorem T1(b:List UInt8):ZO 64 (Qe b 64)=ZO 64 (wAt b):=YH λi hi=>by unfold Qe;rw[if_pos hi]
theorem Pc(a:Option Addr)(ca:Nat)(bs:List UInt8)(w:World)(ha:ArgB w a ca bs)(h64:bs.length=64) :
  Calls Tryz.prog 176 #[.slice a 64 ca] w λe w'=>e=.returned (.agg (cW (ZO 64 (wAt bs))).toArray)/\Below w.heap.size w w':=by
 have zr:=G5
 have zn:=NU
 have hca:=ha.len
 rw[h64] at hca
 obtain⟨b0,off,rfl,_⟩:=ha.row 0 oX
 have hcell:∀ W,Below w.heap.size w W->∀ i,i<64->W.cell? ⟨b0,off+i,none⟩=some (.int .u8 ((cf bs i).toNat:Int)):=by
  intro W hW i hi
  obtain⟨b',off',e,hc⟩:=(ha.below hW).row i oX
  cases e
  exact hc
 replace hcell:=Hd hcell
 have ha0:=Hd ha
 replace h64:=Hd h64
 obtain⟨W0,hW0⟩:∃ W0,W0=((w.alloc (.cells zero64 241)).alloc (.cells zero64 241)):=⟨_,rfl⟩
 have q0:W0.heap[w.heap.size]? = some (.cells zero64 241 (0,0)):=by
  rw[hW0,Below.heap_alloc _ _ _ sX];exact heap_alloc_new w _
 have q1:W0.heap[w.heap.size+1]? = some (.cells zero64 241 (0,0)):=by
  have:=heap_alloc_new (w.alloc (.cells zero64 241)) (.cells zero64 241)
  rw[<-hW0] at this;simpa using this
 have q3:Below w.heap.size w W0:=by rw[hW0];exact((Below.refl w.heap.size w).alloc nR _).alloc sX _
 replace hW0:=Hd hW0
 replace q0:=Hd q0
 replace q1:=Hd q1
 replace q3:=Hd q3
 clear ha
 go_enter Tryz.func176,Tryz.ntmps176
 go_wp2_with fail
 rw[<-hW0.out]
 obtain⟨o0,ho0⟩:∃ o0,o0=w.heap.size+1:=⟨_,rfl⟩
 obtain⟨r0,hr0⟩:∃ r0,r0=w.heap.size:=⟨_,rfl⟩
 have hro:r0≠o0:=oX
 have hob:w.heap.size<=o0:=oX
 rw[<-ho0] at q1 ⊢
 rw[<-hr0] at q0 ⊢
 have hrb:=Hd (show w.heap.size<=r0 from by omega)
 have hI:=Hd (show WdSt w r0 o0 (QL bs 0 0) W0 from⟨by rw[K4,<-UI];exact q1.out,q0.out,q3.out⟩)
 replace hro:=Hd hro
 replace hob:=Hd hob
 clear ho0 hr0 q0 q1 q3 zr zn hW0
 go_loopw [4,6,8] (λ_ _ j wr=>∃ t:Nat,t<=16/\j=.int .i64 t/\WdSt w r0 o0 (QL bs t 0) wr)
  (λ_ _ j _=>16-(intOf j).toNat)
 case atStart=>exact⟨0,Nat.zero_le _,rfl,hI.out⟩
 case round=>
  clear hI
  obtain⟨t,ht,rfl,hI⟩:=hrel
  by_cases hlt:t<16
  ·have k1:=IntWalk.i64_in (4*(t:Int)) oX
   have k2:=IntWalk.i64_in (4*(t:Int)+4) oX
   have k3:(0:Int)<=4*(t:Int):=oX
   have k4:4*(t:Int)+4<=(ca:Int):=oX
   have k5:(4*(t:Int)).toNat=4*t:=oX
   have k6:(4*(t:Int)+4).toNat-4*t=4:=oX
   have k7:4*(t:Int)<=4*(t:Int)+4:=oX
   have hnx:=Hd (Gs bs t)
   replace hI:=Hd hI
   have hdt:decide ((t:Int)<16)=true:=decide_eq_true oX
   go_wp2_with fail
   try rw[hdt]
   go_loopw [6,19] (λ_ j wq=>∃ m:Nat,m<=4/\j=.int .i64 m/\WdSt w r0 o0 (QL bs t m) wq)
    (λ_ j _=>4-(intOf j).toNat)
   case atStart=>exact⟨0,Nat.zero_le _,rfl,hI.out⟩
   case round=>
    clear hI
    obtain⟨m,hm,rfl,hI⟩:=hrel
    by_cases hmm:m<4
    ·have cx:=hcell.out wr hI.bel (4*t+m) oX
     rw[<-Nat.add_assoc] at cx
     have c1:=hI.cell (j:=t) oX
     rw[Pj] at c1
     have f1:=hI.free t
     have hor:=De (J2 bs t m) (cf bs (4*t+m))
     have hnx2:=Hd (WdSt.congr (hI.set hro.out hob.out t (J2 bs t (m+1))) (Mk bs t m (m+1)))
     rw[show (J2 bs t m <<< 8) ||| (cf bs (4*t+m)).toUInt32=J2 bs t (m+1) from rfl] at hor
     generalize J2 bs t (m+1)=y at*
     generalize J2 bs t m=x at*
     generalize cf bs (4*t+m)=c at*
     replace hI:=Hd hI
     go_wp2_with fail
     go_roundw
     case rel=>exact⟨m+1,oX,by go_num,hnx2.out⟩
     case measure=>simp[intOf];omega
    ·obtain rfl:m=4:=oX
     have hI2:=Hd (hI.congr hnx.out)
     go_wp2_with fail
     go_roundw
     case rel=>exact⟨t+1,oX,by go_num,hI2.out⟩
     case measure=>simp[intOf];omega
  ·obtain rfl:t=16:=oX
   have hI:=Hd (hI.congr (GA bs))
   go_wp2_with fail
   rw[show ((16:Nat):Int)=16 from rfl]
   go_loopw [7] (λtt wq=>∃ t:Nat,16<=t/\t<=64/\tt=.int .i64 t/\WdSt w r0 o0 (Qe bs t) wq)
    (λtt _=>64-(intOf tt).toNat)
   case atStart=>exact⟨16,Nat.le_refl _,oX,rfl,hI.out⟩
   case round=>
    clear hI
    obtain⟨t,ht1,ht2,rfl,hI⟩:=hrel
    by_cases hlt:t<64
    ·have k1:=IntWalk.i64_in ((t:Int)-2) oX
     have k2:=IntWalk.i64_in ((t:Int)-7) oX
     have k3:=IntWalk.i64_in ((t:Int)-15) oX
     have k4:=IntWalk.i64_in ((t:Int)-16) oX
     have n1:((t:Int)-2).toNat=t-2:=oX
     have n2:((t:Int)-7).toNat=t-7:=oX
     have n3:((t:Int)-15).toNat=t-15:=oX
     have n4:((t:Int)-16).toNat=t-16:=oX
     have l1:(0:Int)<=(t:Int)-2:=oX
     have l2:(0:Int)<=(t:Int)-7:=oX
     have l3:(0:Int)<=(t:Int)-15:=oX
     have l4:(0:Int)<=(t:Int)-16:=oX
     have m1:(2:Int)<=(t:Int):=oX
     have m2:(7:Int)<=(t:Int):=oX
     have m3:(15:Int)<=(t:Int):=oX
     have m4:(16:Int)<=(t:Int):=oX
     have u1:(t:Int)-2<64:=oX
     have u2:(t:Int)-7<64:=oX
     have u3:(t:Int)-15<64:=oX
     have u4:(t:Int)-16<64:=oX
     have ca1:∀ W,QB o0 t bs W->W.cell? ⟨o0,t-2,none⟩=some (.int .u32 (wn (wAt bs (t-2)))):=λW h=>h _ oX
     have cb1:∀ W,QB o0 t bs W->W.cell? ⟨o0,t-7,none⟩=some (.int .u32 (wn (wAt bs (t-7)))):=λW h=>h _ oX
     have cc1:∀ W,QB o0 t bs W->W.cell? ⟨o0,t-15,none⟩=some (.int .u32 (wn (wAt bs (t-15)))):=λW h=>h _ oX
     have cd1:∀ W,QB o0 t bs W->W.cell? ⟨o0,t-16,none⟩=some (.int .u32 (wn (wAt bs (t-16)))):=λW h=>h _ oX
     have hSa:∀ W,WdSt w r0 o0 (Qe bs t) W->QB o0 t bs W:=λW h=>by
      intro i hi
      rw[h.cell oX];unfold Qe;rw[if_pos hi]
     have hSb:∀ W,WdSt w r0 o0 (Qe bs (t+1)) W->QB o0 t bs W:=λW h=>by
      intro i hi
      rw[h.cell oX];unfold Qe;rw[if_pos oX]
     have hwa:=M8 bs t ht1
     have hfin:=KE bs t
     rw[hwa] at hfin
     replace hfin:=Hd hfin
     clear hwa
     generalize wAt bs (t-2)=xa at*
     generalize wAt bs (t-7)=xb at*
     generalize wAt bs (t-15)=xc at*
     generalize wAt bs (t-16)=xd at*
     have a1:=Q3 (YL xa) xb
     have a2:=Q3 (YL xa+xb) (Xz xc)
     have a3:=Q3 (YL xa+xb+Xz xc) xd
     have hI:=Hd hI
     have hS0:=hSa _ (hI.out.drawn ⟨1,rfl⟩)
     go_wp2_with fail
     refine wp_region_held_drew (S:=QB o0 t bs) kX hS0 (λhOn=>?_)
     replace hI:=Hd (hI.out.drawn (show Drawn wr wr.drew from⟨1,rfl⟩))
     generalize wr.drew=wr at hOn hI ⊢
     refine tk 0 hOn ?_
     refine tk 1 hOn ?_
     refine tk 2 hOn ?_
     refine tk 3 hOn ?_
     refine tk 4 hOn ?_
     refine tk 6 hOn ?_
     refine tk 7 hOn ?_
     refine tk 8 hOn ?_
     refine tk 9 hOn ?_
     refine tk 11 hOn ?_
     refine tk 12 hOn ?_
     refine tk 13 hOn ?_
     refine tk 14 hOn ?_
     refine tk 17 hOn ?_
     refine tk 18 hOn ?_
     refine tk 19 hOn ?_
     refine tk 20 hOn ?_
     refine rds [5] ?_
     refine AllReadyH.cons c2X (λK hK=>?_) AllReadyH.nil
     go_simp
     with_reducible refine(PX xa _).mono ?_
     rintro e w4 ⟨rfl,hd⟩
     replace hI:=Hd (hI.out.drawn hd)
     have hS4:=hSa _ hI.out
     clear hd
     go_wp2_with fail
     refine hK.out _ _ hS4 (λhNext=>?_)
     clear hS4
     clear hK K hOn
     have hOn:=hNext
     clear hNext
     try simp only[Act.put,sL,sZ,sS]
     refine tk 10 hOn ?_
     refine rds [15] ?_
     refine AllReadyH.cons c2X (λK hK=>?_) AllReadyH.nil
     go_simp
     with_reducible refine(RQ xc _).mono ?_
     rintro e w4 ⟨rfl,hd⟩
     replace hI:=Hd (hI.out.drawn hd)
     have hS4:=hSa _ hI.out
     clear hd
     go_wp2_with fail
     refine hK.out _ _ hS4 (λhNext=>?_)
     clear hS4
     clear hK K hOn
     have hOn:=hNext
     clear hNext
     try simp only[Act.put,sL,sZ,sS]
     refine tk 16 hOn ?_
     refine tk 21 hOn ?_
     refine tk 22 hOn ?_
     refine rds [23] ?_
     refine AllReadyH.cons c2X (λK hK=>?_) AllReadyH.nil
     have c1:=hI.out.cell (j:=t) oX
     have f1:=hI.out.free t
     go_simp
     have hI6:=Hd (WdSt.congr (hI.out.set hro.out hob.out t (YL xa+xb+Xz xc+xd)) hfin.out)
     have hS6:=hSb _ hI6.out
     refine hK.out _ _ hS6 (λhNext=>?_)
     clear hK K hOn
     have hOn:=hNext
     clear hNext
     try simp only[Act.put,sL,sZ,sS]
     refine dnE ?_
     go_wp2_with fail
     exact⟨⟨t+1,oX,oX,by go_num,hI6.out⟩,by simp[intOf];omega⟩
    ·obtain rfl:t=64:=oX
     have hrw:=hI.row
     rw[T1] at hrw
     have hrs:=hI.res
     have hbl:=Hd hI.bel
     have hu0:Tryz.prog.underlying 241=some (.array 64 239):=Tryz.underlying241
     have hone:=Hu (ZO 64 (wAt bs))
     have hsz:(Tryz.prog.info? 241).map (·.size)=some (cW (ZO 64 (wAt bs))).toArray.size:=by
      rw[List.size_toArray,UN,YO];kernel_rfl
     have hs2:zero64.size=(cW (ZO 64 (wAt bs))).toArray.size:=by rw[KN,List.size_toArray,UN,YO]
     generalize hC:(cW (ZO 64 (wAt bs))).toArray=C at*
     replace hrw:=Hd hrw
     replace hrs:=Hd hrs
     go_wp2_with (first|with_reducible refine Zd rfl 241 (.tmp 3) rfl o0 C (.array 64 239) rfl hrw hu0 rfl hsz ?_|with_reducible refine Zc rfl 241 (.tmp 2) (.tmp 61) rfl r0 zero64 C rfl rfl hrs hsz hs2 hone ?_)
     intro w8 hU
     go_wp2_with fail
     exact ZE rfl rfl hu0 rfl hsz hU.out.here ⟨by rw[hC],hbl.out.trans (hU.out.below hrb.out)⟩
def sAt(s:S8):Nat->W32
 | 0=>s.a
 | 1=>s.b
 | 2=>s.c
 | 3=>s.d
 | 4=>s.e
 | 5=>s.f
 | 6=>s.g
 | 7=>s.h
 | _=>0
def c8(s:S8):Array Value:=(cW (ZO 8 (sAt s))).toArray
theorem MM(s:S8):c8 s=#[.int .u32 (wn s.a),.int .u32 (wn s.b),.int .u32 (wn s.c),.int .u32 (wn s.d),.int .u32 (wn s.e),.int .u32 (wn s.f),.int .u32 (wn s.g),.int .u32 (wn s.h)]:=rfl
theorem JO(s:S8):(c8 s).size=8:=rfl
theorem VX(s:S8):(c8 s).all (·.oneCell')=true:=Hu _
theorem G3(s:S8){i:Nat}(h:i<8):(c8 s)[i]? = some (.int .u32 (wn (sAt s i))):=GP h
theorem Lw(a b c d e f g h kk ww:W32):(Obj.cells #[.int .u32 (wn (h+Qo e+chW e f g+kk+ww+(Xr a+Xt a b c))),.int .u32 (wn a),.int .u32 (wn b),.int .u32 (wn c),.int .u32 (wn (d+(h+Qo e+chW e f g+kk+ww))),.int .u32 (wn e),.int .u32 (wn f),.int .u32 (wn g)] 273 (0,0))=
  .cells (cW (ZO 8 (sAt (VU ⟨a,b,c,d,e,f,g,h⟩ kk ww)))).toArray 273 (0,0):=by
 have e1:VU ⟨a,b,c,d,e,f,g,h⟩ kk ww=⟨h+Qo e+chW e f g+kk+ww+(Xr a+Xt a b c),a,b,c,d+(h+Qo e+chW e f g+kk+ww),e,f,g⟩:=rfl
 rw[e1]
 generalize h+Qo e+chW e f g+kk+ww=t1
 generalize t1+(Xr a+Xt a b c)=x0
 generalize d+t1=x4
 rfl
@[irreducible] def zero8:Array Value:=(cW (ZO 8 λ_=>0)).toArray
theorem Mf(w:World):(zeroValue 273).run Tryz.prog w=.ok (.agg zero8) w:=kX
theorem XZ:zero8.size=8:=kX
theorem KX:zero8≠#[]:=λe=>by have:=XZ;rw[e] at this;cases this
def ShaK(w:World):Prop:=∀ t,t<64->w.cell? ⟨23,t,none⟩=some (.int .u32 (wn (kAt t)))
theorem ShaK.below{w w':World}(h:ShaK w)(hb:Below w.heap.size w w'):ShaK w':=λt ht=>(hb.cell (World.block_lt_of_cell? w _ (h t ht))).trans (h t ht)
theorem Cx(f:Nat->W32)(t:Nat)(h:t<64)(w:World):(Instr.index 241 (.agg (cW (ZO 64 f)).toArray) (.int .i64 (t:Int))).run Tryz.prog w=.ok (.int .u32 (wn (f t))) w:=by
 have hs:(sizeOf 239).run Tryz.prog w=.ok 1 w:=kX
 have hp:(part 239 (cW (ZO 64 f)).toArray t).run Tryz.prog w=.ok (.int .u32 (wn (f t))) w:=by
  simp[part,isAgg,run_underlying Tryz.underlying239]
  have:=GP (f:=f) h
  simp at this
  simp[this]
 have ht:(t:Int)<64:=oX
 simp[Instr.index,asIntOf,run_underlying Tryz.underlying241,hs,hp,h]
structure TkSt (w:World) (p q o:Nat) (f:Nat->W32) (s:S8) (W:World):Prop where
 row:W.heap[p]? = some (.cells (cW (ZO 8 f)).toArray 273 (0,0))
 res:W.heap[q]? = some (.cells zero8 273 (0,0))
 was:W.heap[o]? = some (.cells (c8 s) 273 (0,0))
 bel:Below w.heap.size w W
theorem TkSt.drewN{w:World}{p q o:Nat}{f:Nat->W32}{s:S8}{W:World}(h:TkSt w p q o f s W)(n:Nat):TkSt w p q o f s (W.drewN n):=⟨h.row,h.res,h.was,below_drewN h.bel n⟩
theorem TkSt.upd{w:World}{p q o:Nat}{f g:Nat->W32}{s:S8}{W W':World}(h:TkSt w p q o f s W)(hu:Upd p (.cells (cW (ZO 8 g)).toArray 273 (0,0)) W W')(h1:q≠p)(h2:o≠p)(h3:w.heap.size<=p):TkSt w p q o g s W':=
 ⟨hu.here,(hu.block q h1).trans h.res,(hu.block o h2).trans h.was,h.bel.trans (hu.below h3)⟩
theorem TkSt.cell{w:World}{p q o:Nat}{f:Nat->W32}{s:S8}{W:World}(h:TkSt w p q o f s W){j:Nat}(hj:j<8):W.cell? ⟨p,j,none⟩=some (.int .u32 (wn (f j))):=by
 rw[Za h.row,GP hj]
theorem TkSt.wasAt{w:World}{p q o:Nat}{f:Nat->W32}{s:S8}{W:World}(h:TkSt w p q o f s W){j:Nat}(hj:j<8):W.cell? ⟨o,j,none⟩=some (.int .u32 (wn (sAt s j))):=by
 rw[Za h.was,G3 s hj]
theorem TkSt.free{w:World}{p q o:Nat}{f:Nat->W32}{s:S8}{W:World}(h:TkSt w p q o f s W)(j:Nat):W.frozen? ⟨p,j,none⟩=false:=Zj h.row _
def X4(r s:S8)(k i:Nat):W32:=if i<k then sAt r i+sAt s i else sAt r i
theorem NW(r s:S8)(k:Nat):ZO 8 (λi=>if i=k then sAt r k+sAt s k else X4 r s k i)=ZO 8 (X4 r s (k+1)):=by
 refine YH λi _=>?_
 unfold X4
 by_cases h:i=k
 ·subst h;rw[if_pos rfl,if_pos oX]
 ·rw[if_neg h]
  by_cases h2:i<k
  ·rw[if_pos h2,if_pos oX]
  ·rw[if_neg h2,if_neg oX]
theorem PK(r s:S8):ZO 8 (X4 r s 8)=ZO 8 (sAt (MP r s)):=by
 refine YH λi hi=>?_
 unfold X4
 rw[if_pos hi]
 match i,hi with
 | 0,_=>rfl
 | 1,_=>rfl
 | 2,_=>rfl
 | 3,_=>rfl
 | 4,_=>rfl
 | 5,_=>rfl
 | 6,_=>rfl
 | 7,_=>rfl
theorem RU(r s:S8):ZO 8 (X4 r s 0)=ZO 8 (sAt r):=by
 refine YH λi _=>?_
 unfold X4;rw[if_neg (Nat.not_lt_zero i)]
theorem GN(s:S8)(a:Option Addr)(ca:Nat)(bs:List UInt8)(w:World)(ha:ArgB w a ca bs)(h64:bs.length=64)(hK:ShaK w) :
  Calls Tryz.prog 165 #[.agg (c8 s),.slice a 64 ca] w λe w'=>e=.returned (.agg (c8 (Q5 s bs)))/\Below w.heap.size w w':=by
 have zr:=Mf
 have zn:=KX
 have hu0:Tryz.prog.underlying 273=some (.array 8 239):=Tryz.underlying273
 have hsz:∀ s,(Tryz.prog.info? 273).map (·.size)=some (c8 s).size:=λs=>by kernel_rfl
 have hs0:zero8.size=(c8 s).size:=by rw[XZ,JO]
 have hone:=VX s
 replace ha:=Hd ha
 replace h64:=Hd h64
 have hK0:=Hd hK
 have hend:=Hd (show MP (ZN bs s 64) s=Q5 s bs from rfl)
 have hsp:=Hd (λw h=>Pc a ca bs w h h64.out)
 have hr0:=Hd (show ZN bs s 0=s from rfl)
 have hrw:=Hd (show (w.alloc (.cells (c8 s) 273)).heap[w.heap.size]? = some (.cells (c8 s) 273 (0,0)) from heap_alloc_new w _)
 obtain⟨A1,hA1⟩:∃ A,A=w.alloc (.cells (c8 s) 273):=⟨_,rfl⟩
 obtain⟨A2,hA2⟩:∃ A,A=A1.alloc (.cells zero8 273):=⟨_,rfl⟩
 obtain⟨A3,hA3⟩:∃ A,A=A2.alloc (.cells zero8 273):=⟨_,rfl⟩
 have z1:A1.heap.size=w.heap.size+1:=by rw[hA1];simp
 have z2:A2.heap.size=w.heap.size+2:=by rw[hA2];simp[z1]
 have p1:A1.heap[w.heap.size]? = some (.cells (c8 s) 273 (0,0)):=by rw[hA1];exact heap_alloc_new w _
 have p2:A2.heap[w.heap.size]? = some (.cells (c8 s) 273 (0,0)):=by rw[hA2,Below.heap_alloc _ _ _ oX];exact p1
 have q2:A2.heap[w.heap.size+1]? = some (.cells zero8 273 (0,0)):=by rw[hA2,<-z1];exact heap_alloc_new A1 _
 have p3:A3.heap[w.heap.size]? = some (.cells (c8 s) 273 (0,0)):=by rw[hA3,Below.heap_alloc _ _ _ oX];exact p2
 have q3:A3.heap[w.heap.size+1]? = some (.cells zero8 273 (0,0)):=by rw[hA3,Below.heap_alloc _ _ _ oX];exact q2
 have o3:A3.heap[w.heap.size+2]? = some (.cells zero8 273 (0,0)):=by rw[hA3,<-z2];exact heap_alloc_new A2 _
 have b3:Below w.heap.size w A3:=by rw[hA3,hA2,hA1];exact(((Below.refl w.heap.size w).alloc nR _).alloc sX _).alloc sYq _
 rw[hA2,hA1] at hA3
 rw[hA2,hA1] at p2
 replace p2:=Hd p2
 replace p3:=Hd p3
 replace q3:=Hd q3
 rw[hA3] at o3
 replace o3:=Hd o3
 replace hA3:=Hd hA3
 replace b3:=Hd b3
 have hszC:=hsz s
 clear hA1 hA2 z1 z2 p1 q2 hrw
 generalize hC:c8 s=C at*
 go_enter Tryz.func165,Tryz.ntmps165
 go_wp2_with (first|with_reducible refine Zd rfl 273 (.tmp 2) rfl w.heap.size C (.array 8 239) rfl p2 hu0 rfl hszC ?_|with_reducible refine Zc rfl 273 (.tmp 5) (.tmp 13) rfl (w.heap.size+2) zero8 C rfl rfl o3 hszC hs0 hone ?_)
 intro W0 hU
 obtain⟨p0,hp0⟩:∃ p,p=w.heap.size:=⟨_,rfl⟩
 obtain⟨q0,hq0⟩:∃ q,q=w.heap.size+1:=⟨_,rfl⟩
 obtain⟨o0,ho0⟩:∃ o,o=w.heap.size+1+1:=⟨_,rfl⟩
 have hqp:q0≠p0:=oX
 have hop:o0≠p0:=oX
 have hpb:w.heap.size<=p0:=oX
 have hqb:=Hd (show w.heap.size<=q0 from by omega)
 have hoe:w.heap.size+2=o0:=oX
 have hI:TkSt w p0 q0 o0 (sAt s) s W0:=by
  have hU2:=hU.out
  rw[hoe] at hU2
  rw[<-hA3.out] at hU2
  have hwas:=hU2.here
  rw[<-hC] at hwas
  refine⟨?_,?_,hwas,b3.out.trans (hU2.below oX)⟩
  ·rw[hU2.block p0 (λe=>hop e.symm),hp0,p3.out,<-hC];rfl
  ·rw[hU2.block q0 oX,hq0];exact q3.out
 rw[<-ho0,<-hq0,<-hp0]
 replace hI:=Hd hI
 replace hqp:=Hd hqp
 replace hop:=Hd hop
 replace hpb:=Hd hpb
 clear hp0 hq0 ho0 hoe hU p2 p3 q3 o3 hA3 b3 zr zn
 go_wp2_with fail
 with_reducible refine(hsp.out _ (ha.out.below hI.out.bel)).mono ?_
 rintro e w2 ⟨rfl,hd⟩
 have hI2:TkSt w p0 q0 o0 (sAt s) s w2:=⟨(hd.block _ (Zb hI.out.row)).trans hI.out.row,(hd.block _ (Zb hI.out.res)).trans hI.out.res,(hd.block _ (Zb hI.out.was)).trans hI.out.was,hI.out.bel.trans (hd.mono hI.out.bel.size)⟩
 replace hI:=Hd hI2
 have hidx:=λt h w=>Cx (wAt bs) t h w
 replace hidx:=Hd hidx
 clear hI2 hd hsp ha hK
 generalize (cW (ZO 64 (wAt bs))).toArray=CW at*
 go_wp2_with fail
 go_loopw [6,7,8,9,10,11,16] (λ_ _ _ _ _ _ j wr=>∃ t:Nat,t<=64/\j=.int .i64 t/\TkSt w p0 q0 o0 (sAt (ZN bs s t)) s wr)
  (λ_ _ _ _ _ _ j _=>64-(intOf j).toNat)
 case atStart=>exact⟨0,Nat.zero_le _,rfl,hI.out⟩
 case round=>
  clear hI
  obtain⟨t,ht,rfl,hI⟩:=hrel
  by_cases hlt:t<64
  ·have hk:=λn=>(show (wr.drewN n).cell? ⟨23,t,none⟩=some (.int .u32 (wn (kAt t))) from hK0.out.below hI.bel t hlt)
   have hk0:=hK0.out.below hI.bel t hlt
   have hix:=hidx.out t hlt
   have hnx:=Hd (show ZN bs s (t+1)=VU (ZN bs s t) (kAt t) (wAt bs t) from rfl)
   have e0:=hI.cell (j:=0) oX
   have e1:=hI.cell (j:=1) oX
   have e2:=hI.cell (j:=2) oX
   have e3:=hI.cell (j:=3) oX
   have e4:=hI.cell (j:=4) oX
   have e5:=hI.cell (j:=5) oX
   have e6:=hI.cell (j:=6) oX
   have e7:=hI.cell (j:=7) oX
   have hrow:=Hd hI.row
   generalize ZN bs s t=r at*
   obtain⟨ra,rb,rc,rd,re,rf,rg,rh⟩:=r
   simp only[sAt] at e0 e1 e2 e3 e4 e5 e6 e7
   have htk:(t:Int)<64:=oX
   have b1:=Js re rf
   have b2:bits BinOp.xor IntKind.u32 IntKind.u32.max (wn re)=wn (~~~re):=DH re
   have b3:=Js (~~~re) rg
   have b4:=QT (re &&& rf) (~~~re &&& rg)
   have b5:=Js ra rb
   have b6:=Js ra rc
   have b7:=QT (ra &&& rb) (ra &&& rc)
   have b8:=Js rb rc
   have b9:=QT ((ra &&& rb) ^^^ (ra &&& rc)) (rb &&& rc)
   rw[show (re &&& rf) ^^^ (~~~re &&& rg)=chW re rf rg from rfl] at b4
   rw[show ((ra &&& rb) ^^^ (ra &&& rc)) ^^^ (rb &&& rc)=Xt ra rb rc from rfl] at b9
   have d1:=Q3 rh (Qo re)
   have d2:=Q3 (rh+Qo re) (chW re rf rg)
   have d3:=Q3 (rh+Qo re+chW re rf rg) (kAt t)
   have d4:=Q3 (rh+Qo re+chW re rf rg+kAt t) (wAt bs t)
   have d5:=Q3 (Xr ra) (Xt ra rb rc)
   have d6:=Q3 (rh+Qo re+chW re rf rg+kAt t+wAt bs t) (Xr ra+Xt ra rb rc)
   have d7:=Q3 rd (rh+Qo re+chW re rf rg+kAt t+wAt bs t)
   replace hI:=Hd hI
   generalize kAt t=kk at*
   generalize wAt bs t=ww at*
   go_wp2_with fail
   go_quiet ((go_at_call 177;with_reducible exact KS (Lz re _)))
   go_wp2_with fail
   with_reducible refine(Da ra _).mono ?_
   rintro e w6 ⟨rfl,rfl⟩
   have hrw2:Hid ((wr.drewN nq).heap[p0]? = some (.cells (cW (ZO 8 (sAt ⟨ra,rb,rc,rd,re,rf,rg,rh⟩))).toArray 273 (0,0))):=Hd hrow.out
   have hszE:(Tryz.prog.info? 273).map (·.size)=some (#[.int .u32 (wn (rh+Qo re+chW re rf rg+kk+ww+(Xr ra+Xt ra rb rc))),.int .u32 (wn ra),.int .u32 (wn rb),.int .u32 (wn rc),.int .u32 (wn (rd+(rh+Qo re+chW re rf rg+kk+ww))),.int .u32 (wn re),.int .u32 (wn rf),.int .u32 (wn rg)]:Array Value).size:=hsz ⟨rh+Qo re+chW re rf rg+kk+ww+(Xr ra+Xt ra rb rc),ra,rb,rc,rd+(rh+Qo re+chW re rf rg+kk+ww),re,rf,rg⟩
   have hsE:(cW (ZO 8 (sAt ⟨ra,rb,rc,rd,re,rf,rg,rh⟩))).toArray.size=(#[.int .u32 (wn (rh+Qo re+chW re rf rg+kk+ww+(Xr ra+Xt ra rb rc))),.int .u32 (wn ra),.int .u32 (wn rb),.int .u32 (wn rc),.int .u32 (wn (rd+(rh+Qo re+chW re rf rg+kk+ww))),.int .u32 (wn re),.int .u32 (wn rf),.int .u32 (wn rg)]:Array Value).size:=by rw[List.size_toArray,UN,YO];rfl
   have hoE:(#[.int .u32 (wn (rh+Qo re+chW re rf rg+kk+ww+(Xr ra+Xt ra rb rc))),.int .u32 (wn ra),.int .u32 (wn rb),.int .u32 (wn rc),.int .u32 (wn (rd+(rh+Qo re+chW re rf rg+kk+ww))),.int .u32 (wn re),.int .u32 (wn rf),.int .u32 (wn rg)]:Array Value).all (·.oneCell')=true:=VX ⟨rh+Qo re+chW re rf rg+kk+ww+(Xr ra+Xt ra rb rc),ra,rb,rc,rd+(rh+Qo re+chW re rf rg+kk+ww),re,rf,rg⟩
   go_wp2_with (with_reducible refine Zc rfl 273 (.tmp 2) (.tmp 87) rfl p0 _ #[.int .u32 (wn (rh+Qo re+chW re rf rg+kk+ww+(Xr ra+Xt ra rb rc))),.int .u32 (wn ra),.int .u32 (wn rb),.int .u32 (wn rc),.int .u32 (wn (rd+(rh+Qo re+chW re rf rg+kk+ww))),.int .u32 (wn re),.int .u32 (wn rf),.int .u32 (wn rg)] rfl rfl hrw2 hszE hsE hoE ?_)
   intro w7 hU7
   have hI7:=Hd ((hI.out.drewN nq).upd (g:=sAt (VU ⟨ra,rb,rc,rd,re,rf,rg,rh⟩ kk ww)) (hU7.out.to (Lw _ _ _ _ _ _ _ _ _ _)) hqp.out hop.out hpb.out)
   go_wp2_with fail
   go_roundw
   case rel=>exact⟨t+1,oX,by go_num,by rw[hnx.out];exact hI7.out⟩
   case measure=>simp[intOf];omega
  ·obtain rfl:t=64:=oX
   have hI2:=Hd (show TkSt w p0 q0 o0 (sAt (ZN bs s 64)) s wr from hI)
   have hfull:=Hd (PK (ZN bs s 64) s)
   rw[hend.out] at hfull
   have hI3:TkSt w p0 q0 o0 (X4 (ZN bs s 64) s 0) s wr:=⟨by rw[RU];exact hI.row,hI.res,hI.was,hI.bel⟩
   generalize ZN bs s 64=r at*
   replace hI3:=Hd hI3
   clear hI2 hI
   go_wp2_with fail
   go_loopw [12,89] (λ_ j wq=>∃ k:Nat,k<=8/\j=.int .i64 k/\TkSt w p0 q0 o0 (X4 r s k) s wq) (λ_ j _=>8-(intOf j).toNat)
   case atStart=>exact⟨0,Nat.zero_le _,rfl,hI3.out⟩
   case round=>
    clear hI3
    obtain⟨k,hk,rfl,hI⟩:=hrel
    by_cases hlt:k<8
    ·have c1:=hI.cell (j:=k) hlt
     have c2:=hI.wasAt (j:=k) hlt
     have f1:=hI.free k
     rw[show X4 r s k k=sAt r k from by unfold X4;rw[if_neg (Nat.lt_irrefl k)]] at c1
     have ha1:=Q3 (sAt r k) (sAt s k)
     have hset:=Hd (NW r s k)
     have hU1:=Hd (((Upd.refl (hI.drewN 1).row).setCell (j:=k) (.int .u32 (wn (sAt r k+sAt s k)))).to (show _=Obj.cells (cW (ZO 8 (X4 r s (k+1)))).toArray 273 (0,0) from by rw[H8,Gi,NW]))
     have hkk:(k:Int)<8:=oX
     replace hI:=Hd hI
     generalize hx:sAt r k=x at*
     generalize hy:sAt s k=y at*
     go_wp2_with fail
     go_region
     all_goals
      go_wp2_with fail
      go_roundw
      case rel=>exact⟨k+1,oX,by go_num,((hI.out.drewN 1).upd hU1.out hqp.out hop.out hpb.out)⟩
      case measure=>simp[intOf];omega
    ·obtain rfl:k=8:=oX
     have hrw:=hI.row
     rw[hfull.out] at hrw
     have hrs:=hI.res
     have hbl:=Hd hI.bel
     have hszC2:=hsz (Q5 s bs)
     have hs1:zero8.size=(c8 (Q5 s bs)).size:=by rw[XZ,JO]
     have hone2:=VX (Q5 s bs)
     rw[show (cW (ZO 8 (sAt (Q5 s bs)))).toArray=c8 (Q5 s bs) from rfl] at hrw
     generalize hD:c8 (Q5 s bs)=D at*
     replace hrw:=Hd hrw
     replace hrs:=Hd hrs
     go_wp2_with (first|with_reducible refine Zd rfl 273 (.tmp 2) rfl p0 D (.array 8 239) rfl hrw hu0 rfl hszC2 ?_|with_reducible refine Zc rfl 273 (.tmp 4) (.tmp 101) rfl q0 zero8 D rfl rfl hrs hszC2 hs1 hone2 ?_)
     intro w8 hU
     go_wp2_with fail
     exact ZE rfl rfl hu0 rfl hszC2 hU.out.here ⟨by rw[hD],hbl.out.trans (hU.out.below hqb.out)⟩
end Go.Proofs.YtpdhceiodgnbmaaGreatDoor
