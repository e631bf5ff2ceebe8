import Derived.Test.YtpdhceiodgnbmaaGreatDoorF0FollowsSaid
import Derived.Test.YtpdhceiodgnbmaaGreatDoorF1FollowsSaid
import Derived.Laws.BitsAllLaws
import Derived.Test.YtpdhceiodgnbmaaGreatDoorF5FollowsSaid
import Derived.RangeFuncBox
import Derived.RangeFuncLeaves
import Derived.RangeFuncCalls
import Derived.Shelf.Abstract
import Derived.OwnWalkIn
import Derived.TacticsInMore
import Derived.LoopNIn
import Derived.LoopIn
import Derived.Test.YtpdhceiodgnbmaaGreatDoorRows
import Derived.IntWalk
import Derived.Test.YtpdhceiodgnbmaaGreatDoorF3FollowsSaid
set_option linter.unusedVariables false
set_option linter.unusedSimpArgs false
set_option linter.unnecessarySimpa false
set_option maxRecDepth 100000
set_option maxHeartbeats 8000000
namespace Go.Proofs.YtpdhceiodgnbmaaGreatDoor
open Go.RowKit
abbrev W32:=UInt32
theorem V0(x:W32):x.toNat<4294967296:=x.toNat_lt
def wn(x:W32):Int:=(x.toNat:Int)
theorem TR(x:W32):0<=wn x/\wn x<4294967296:=by have:=V0 x;unfold wn;omega
theorem Uj(x y:W32):bits BinOp.and IntKind.u32 (wn x) (wn y)=wn (x &&& y):=by
 unfold wn;rw[u32_and_nat _ _ (V0 x) (V0 y),UInt32.toNat_and]
theorem P5(x y:W32):bits BinOp.or IntKind.u32 (wn x) (wn y)=wn (x ||| y):=by
 unfold wn;rw[u32_or_nat _ _ (V0 x) (V0 y),UInt32.toNat_or]
theorem XH(x y:W32):bits BinOp.xor IntKind.u32 (wn x) (wn y)=wn (x ^^^ y):=by
 unfold wn;rw[u32_xor_nat _ _ (V0 x) (V0 y),UInt32.toNat_xor]
theorem PN(x:W32):bits BinOp.xor IntKind.u32 4294967295 (wn x)=wn (~~~x):=by
 have h:=XH 4294967295 x
 rw[show wn 4294967295=4294967295 from rfl] at h
 rw[h,show (4294967295:W32) ^^^ x = ~~~x from ?_]
 apply UInt32.eq_of_toBitVec_eq
 rw[UInt32.toBitVec_xor,UInt32.toBitVec_not]
 exact BitVec.allOnes_xor
theorem YM(x y:W32):(wn x+wn y) % 4294967296=wn (x+y):=by
 unfold wn
 rw[UInt32.toNat_add]
 omega
theorem Rq(x:W32)(k:Nat)(h:k<32):wn x / ((2 ^ k:Nat):Int)=wn (x >>> UInt32.ofNat k):=by
 unfold wn
 rw[UInt32.toNat_shiftRight,Nat.shiftRight_eq_div_pow]
 have:(UInt32.ofNat k).toNat % 32=k:=sY
 rw[this,Int.natCast_ediv]
theorem Rr(x:W32)(k:Nat)(h:k<32):(wn x*((2 ^ k:Nat):Int)) % 4294967296=wn (x <<< UInt32.ofNat k):=by
 unfold wn
 rw[UInt32.toNat_shiftLeft,Nat.shiftLeft_eq]
 have:(UInt32.ofNat k).toNat % 32=k:=sY
 rw[this,<-Int.natCast_mul]
 omega
def Qk(x:W32)(k:Nat):W32:=(x >>> UInt32.ofNat k) ||| (x <<< UInt32.ofNat (32-k))
def YS(x:W32):W32:=Qk x 2 ^^^ Qk x 13 ^^^ Qk x 22
def Qr(x:W32):W32:=Qk x 6 ^^^ Qk x 11 ^^^ Qk x 25
def Jg(x:W32):W32:=Qk x 7 ^^^ Qk x 18 ^^^ (x >>> UInt32.ofNat 3)
def X6(x:W32):W32:=Qk x 17 ^^^ Qk x 19 ^^^ (x >>> UInt32.ofNat 10)
def chW(e f g:W32):W32:=(e &&& f) ^^^ (~~~e &&& g)
def YV(a b c:W32):W32:=(a &&& b) ^^^ (a &&& c) ^^^ (b &&& c)
def kList:List W32:=[
 0x428a2f98,0x71374491,0xb5c0fbcf,0xe9b5dba5,0x3956c25b,0x59f111f1,0x923f82a4,0xab1c5ed5,
 0xd807aa98,0x12835b01,0x243185be,0x550c7dc3,0x72be5d74,0x80deb1fe,0x9bdc06a7,0xc19bf174,
 0xe49b69c1,0xefbe4786,0x0fc19dc6,0x240ca1cc,0x2de92c6f,0x4a7484aa,0x5cb0a9dc,0x76f988da,
 0x983e5152,0xa831c66d,0xb00327c8,0xbf597fc7,0xc6e00bf3,0xd5a79147,0x06ca6351,0x14292967,
 0x27b70a85,0x2e1b2138,0x4d2c6dfc,0x53380d13,0x650a7354,0x766a0abb,0x81c2c92e,0x92722c85,
 0xa2bfe8a1,0xa81a664b,0xc24b8b70,0xc76c51a3,0xd192e819,0xd6990624,0xf40e3585,0x106aa070,
 0x19a4c116,0x1e376c08,0x2748774c,0x34b0bcb5,0x391c0cb3,0x4ed8aa4a,0x5b9cca4f,0x682e6ff3,
 0x748f82ee,0x78a5636f,0x84c87814,0x8cc70208,0x90befffa,0xa4506ceb,0xbef9a3f7,0xc67178f2]
def kAt(t:Nat):W32:=kList.getD t 0
structure S8 where
 a:W32
 b:W32
 c:W32
 d:W32
 e:W32
 f:W32
 g:W32
 h:W32
def ZQ:S8:=⟨0x6a09e667,0xbb67ae85,0x3c6ef372,0xa54ff53a,0x510e527f,0x9b05688c,0x1f83d9ab,0x5be0cd19⟩
def J3(s:S8)(k w:W32):S8:=
 let t1:=s.h+Qr s.e+chW s.e s.f s.g+k+w
 let t2:=YS s.a+YV s.a s.b s.c
 ⟨t1+t2,s.a,s.b,s.c,s.d+t1,s.e,s.f,s.g⟩
def TD(s t:S8):S8:=⟨s.a+t.a,s.b+t.b,s.c+t.c,s.d+t.d,s.e+t.e,s.f+t.f,s.g+t.g,s.h+t.h⟩
def JT(b:List UInt8)(t:Nat):W32:=((((cf b (4*t)).toUInt32 <<< 8 ||| (cf b (4*t+1)).toUInt32) <<< 8) ||| (cf b (4*t+2)).toUInt32) <<< 8 ||| (cf b (4*t+3)).toUInt32
def YA(b:List UInt8):Nat->List W32
 | 0=>[]
 | n+1=>YA b n++[if n<16 then JT b n else X6 ((YA b n).getD (n-2) 0)+(YA b n).getD (n-7) 0+Jg ((YA b n).getD (n-15) 0)+(YA b n).getD (n-16) 0]
def wAt(b:List UInt8)(t:Nat):W32:=(YA b (t+1)).getD t 0
theorem QM(b:List UInt8):∀ n,(YA b n).length=n
 | 0=>rfl
 | n+1=>by simp[YA,QM b n]
theorem X5(b:List UInt8)(t:Nat):∀ n,t<n->(YA b n).getD t 0=wAt b t
 | 0,h=>by omega
 | n+1,h=>by
  by_cases e:t=n
  ·subst e;rfl
  ·have ih:=X5 b t n oX
   rw[YA,List.getD_eq_getElem?_getD,List.getElem?_append_left (by rw[QM];omega),<-List.getD_eq_getElem?_getD,ih]
theorem R7(b:List UInt8)(t:Nat)(h:t<16):wAt b t=JT b t:=by
 unfold wAt
 rw[YA,List.getD_eq_getElem?_getD,List.getElem?_append_right (by rw[QM];exact Nat.le_refl _),QM,Nat.sub_self,if_pos h];rfl
theorem Tz(b:List UInt8)(t:Nat)(h:16<=t):wAt b t=X6 (wAt b (t-2))+wAt b (t-7)+Jg (wAt b (t-15))+wAt b (t-16):=by
 conv=>lhs;unfold wAt
 rw[YA,List.getD_eq_getElem?_getD,List.getElem?_append_right (by rw[QM];exact Nat.le_refl _),QM,Nat.sub_self,if_neg oX]
 rw[X5 b (t-2) t oX,X5 b (t-7) t oX,X5 b (t-15) t oX,X5 b (t-16) t oX];rfl
def Xm(b:List UInt8)(t:Nat):Nat->W32
 | 0=>0
 | j+1=>(Xm b t j <<< 8) ||| (cf b (4*t+j)).toUInt32
theorem HA(b:List UInt8)(t:Nat):Xm b t 4=JT b t:=by
 have h:((0:W32) <<< 8) ||| (cf b (4*t+0)).toUInt32=(cf b (4*t)).toUInt32:=by
  rw[show (0:W32) <<< 8=0 from rfl,UInt32.zero_or];rfl
 simp only[Xm,JT]
 rw[h]
theorem RT(x:W32)(c:UInt8):bits BinOp.or IntKind.u32 (wn x*256 % 4294967296) (c.toNat:Int)=wn ((x <<< 8) ||| c.toUInt32):=by
 have h1:=Rr x 8 oX
 rw[show ((2 ^ 8:Nat):Int)=256 from rfl,show UInt32.ofNat 8=8 from rfl] at h1
 rw[h1,show ((c.toNat:Nat):Int)=wn c.toUInt32 from by unfold wn;simp,P5]
theorem Rp(x:W32)(c:UInt8):bits BinOp.or IntKind.u32 (wn x*256 % 4294967296) ((c.toNat:Int) % 4294967296)=wn ((x <<< 8) ||| c.toUInt32):=by
 rw[show ((c.toNat:Int) % 4294967296)=(c.toNat:Int) from by have:=c.toNat_lt;omega]
 exact RT x c
def Q6(b:List UInt8)(s:S8):Nat->S8
 | 0=>s
 | t+1=>J3 (Q6 b s t) (kAt t) (wAt b t)
def Qt(s:S8)(b:List UInt8):S8:=TD (Q6 b s 64) s
def ZE(s:S8)(m:List UInt8):Nat->S8
 | 0=>s
 | q+1=>Qt (ZE s m q) ((m.drop (64*q)).take 64)
theorem XC(s:S8)(m r:List UInt8):∀ q,64*q<=m.length->ZE s (m++r) q=ZE s m q
 | 0,_=>rfl
 | q+1,h=>by
  rw[ZE,ZE,XC s m r q oX]
  congr 1
  rw[List.drop_append_of_le_length oX,List.take_append_of_le_length (by rw[List.length_drop];omega)]
theorem UI(s:S8)(m:List UInt8)(p:Nat):∀ q,ZE s m (p+q)=ZE (ZE s m p) (m.drop (64*p)) q
 | 0=>rfl
 | q+1=>by
  rw[<-Nat.add_assoc,ZE,ZE,UI s m p q,List.drop_drop,Nat.mul_add]
def cW(l:List W32):List Value:=l.map λx=>.int .u32 (wn x)
def Z4(n:Nat)(f:Nat->W32):List W32:=(List.range n).map f
theorem JH(l:List W32):(cW l).length=l.length:=by simp[cW]
theorem Yk(n:Nat)(f:Nat->W32):(Z4 n f).length=n:=by simp[Z4]
theorem Ne{n:Nat}{f:Nat->W32}{i:Nat}(h:i<n):(Z4 n f)[i]? = some (f i):=by simp[Z4,h]
theorem Ko{n:Nat}{f:Nat->W32}{i:Nat}(h:i<n):(cW (Z4 n f)).toArray[i]? = some (.int .u32 (wn (f i))):=by simp[cW,Z4,h]
theorem Yu{n:Nat}{f g:Nat->W32}(h:∀ i,i<n->f i=g i):Z4 n f=Z4 n g:=
 List.map_congr_left λi hi=>h i (List.mem_range.1 hi)
theorem HR(l:List W32)(j:Nat)(x:W32):(cW l).toArray.setIfInBounds j (.int .u32 (wn x))=(cW (l.set j x)).toArray:=by simp[cW,List.map_set]
theorem KC(n:Nat)(f:Nat->W32)(i:Nat)(x:W32):(Z4 n f).set i x=Z4 n λj=>if j=i then x else f j:=by
 apply List.ext_getElem?
 intro j
 rw[List.getElem?_set]
 by_cases hj:j<n
 ·rw[Ne (f:=λj=>if j=i then x else f j) hj]
  by_cases h:i=j
  ·subst h;rw[if_pos rfl,if_pos (by rw[Yk];exact hj),if_pos rfl]
  ·rw[if_neg h,Ne hj,if_neg (λe=>h e.symm)]
 ·have h1:∀ g:Nat->W32,(Z4 n g)[j]? = none:=λg=>List.getElem?_eq_none (by rw[Yk];omega)
  rw[h1,h1]
  by_cases h:i=j
  ·subst h;rw[if_pos rfl,if_neg (by rw[Yk];exact hj)]
  ·rw[if_neg h]
theorem HU(l:List W32):(cW l).toArray.all (·.oneCell')=true:=by
 rw[List.all_toArray,List.all_eq_true]
 intro v hv
 simp only[cW,List.mem_map] at hv
 obtain⟨_,_,rfl⟩:=hv
 rfl
def be8(n:Nat):List UInt8:=(List.range 8).map λi=>UInt8.ofNat (n / 2 ^ (8*(7-i)))
def Y1(n:Nat):Nat:=(119-n % 64) % 64
def X2(m:List UInt8):List UInt8:=m++[128]++List.replicate (Y1 m.length) 0++be8 (8*m.length)
def YJ(x:W32):List UInt8:=[UInt8.ofNat (x.toNat / 16777216),UInt8.ofNat (x.toNat / 65536),UInt8.ofNat (x.toNat / 256),UInt8.ofNat x.toNat]
def QN(s:S8):List UInt8:=YJ s.a++YJ s.b++YJ s.c++YJ s.d++YJ s.e++YJ s.f++YJ s.g++YJ s.h
theorem Kk(s:S8):(QN s).length=32:=rfl
def sha(m:List UInt8):List UInt8:=QN (ZE ZQ (X2 m) ((X2 m).length / 64))
theorem Yd(m:List UInt8):(sha m).length=32:=Kk _
open Go.RowKit Go.Shelf
attribute [local go_sem] Oper.semAt_some
def upto{α:Type}(f:Nat->α)(k:Nat):List α:=(List.range k).map f
theorem XP{α:Type}(f:Nat->α)(k:Nat):upto f (k+1)=upto f k++[f k]:=by simp[upto,List.range_succ]
theorem Gv{α:Type}(f:Nat->α)(k:Nat):(upto f k).length=k:=by simp[upto]
theorem PS(a:Nat)(h1:1<=a)(h2:a<=31):bits BinOp.and IntKind.u64 (18446744073709551616-(a:Int)) 31=32-(a:Int):=by
 have h:=u64_and_nat (18446744073709551616-a) 31 oX oX
 rw[show ((18446744073709551616-a:Nat):Int)=18446744073709551616-(a:Int) from by omega,show ((31:Nat):Int)=31 from rfl] at h
 rw[h]
 have e:(18446744073709551616-a) &&& 31=(18446744073709551616-a) % 32:=Nat.and_two_pow_sub_one_eq_mod _ 5
 rw[e]
 omega
theorem Tr(a:Nat)(h1:1<=a)(h2:a<=31):IntKind.u64.wrap (-(a:Int))=18446744073709551616-(a:Int):=by
 rw[IntKind.wrap_u64];omega
theorem P3(x:W32)(a:Nat)(h1:1<=a)(h2:a<=31) :
  bits BinOp.or IntKind.u32 ((wn x)*2 ^ (32-a) % 4294967296) ((wn x) / 2 ^ a)=(wn (Qk x a)):=by
 have e1:(2:Int) ^ (32-a)=((2 ^ (32-a):Nat):Int):=sX
 have e2:(2:Int) ^ a=((2 ^ a:Nat):Int):=sX
 rw[e1,e2,Rr x (32-a) oX,Rq x a oX,P5]
 unfold Qk
 rw[UInt32.or_comm]
theorem X4(x:W32)(a:Nat)(h1:1<=a)(h2:a<=31)(w:World):Calls Tryz.prog 183 #[.int .u32 (wn x),.int .i64 (-(a:Int))] w λe w'=>e=.returned (.int .u32 (wn (Qk x a)))/\w=w':=by
 have hand:bits BinOp.and IntKind.u64 (IntKind.u64.wrap (-(a:Int))) 31=32-(a:Int):=by rw[Tr a h1 h2];exact PS a h1 h2
 have hl:=TR x
 have hs0:(0:Int)<=32-(a:Int):=oX
 have hs1:32-(a:Int)<=32:=oX
 have hs2:32-(32-(a:Int))=(a:Int):=oX
 have hs3:=IntWalk.u64_in (a:Int) oX
 have hs4:(0:Int)<=(a:Int):=oX
 have hs5:(a:Int)<=32:=oX
 have hrot:=P3 x a h1 h2
 go_enter Tryz.func183,Tryz.ntmps183
 go_wp2_with fail
 go_ret
 exact⟨rfl,rfl⟩
theorem Us(x:W32)(a b c:Nat)(ha:1<=a/\a<=31)(hb:1<=b/\b<=31)(hc:1<=c/\c<=31)(w:World) :
  Calls Tryz.prog 177 #[.int .u32 (wn x),.int .i64 (a:Int),.int .i64 (b:Int),.int .i64 (c:Int)] w λe w'=>e=.returned (.int .u32 (wn (Qk x a ^^^ Qk x b ^^^ Qk x c)))/\w=w':=by
 have h1:=XH (Qk x a) (Qk x b)
 have h2:=XH (Qk x a ^^^ Qk x b) (Qk x c)
 go_enter Tryz.func177,Tryz.ntmps177
 go_wp2_with fail
 with_reducible refine(X4 x a ha.1 ha.2 _).mono ?_
 rintro e w1 ⟨rfl,rfl⟩
 go_wp2_with fail
 with_reducible refine(X4 x b hb.1 hb.2 _).mono ?_
 rintro e w1 ⟨rfl,rfl⟩
 go_wp2_with fail
 with_reducible refine(X4 x c hc.1 hc.2 _).mono ?_
 rintro e w1 ⟨rfl,rfl⟩
 go_wp2_with fail
 go_ret
 exact⟨rfl,rfl⟩
theorem UY(x:W32)(a b c:Nat)(ha:1<=a/\a<=31)(hb:1<=b/\b<=31)(hc:1<=c/\c<=31)(w:World) :
  Calls Tryz.prog 182 #[.int .u32 (wn x),.int .i64 (a:Int),.int .i64 (b:Int),.int .i64 (c:Int)] w λe w'=>e=.returned (.int .u32 (wn (Qk x a ^^^ Qk x b ^^^ (x >>> UInt32.ofNat c))))/\Drawn w w':=by
 have h1:=XH (Qk x a) (Qk x b)
 have h2:=XH (Qk x a ^^^ Qk x b) (x >>> UInt32.ofNat c)
 have h3:wn x / 2 ^ c=wn (x >>> UInt32.ofNat c):=by
  rw[<-Rq x c oX];simp
 have hc0:(0:Int)<=(c:Int):=oX
 have hc1:(c:Int)<=32:=oX
 go_enter Tryz.func182,Tryz.ntmps182
 go_wp2_with fail
 go_quiet (first|(go_at_call 183;with_reducible exact VD (X4 x a ha.1 ha.2 _))|(go_at_call 183;with_reducible exact VD (X4 x b hb.1 hb.2 _)))
 go_wp2_with fail
 go_ret
 exact⟨rfl,_,rfl⟩
theorem Mm(x:W32)(w:World):Calls Tryz.prog 182 #[.int .u32 (wn x),.int .i64 17,.int .i64 19,.int .i64 10] w λe w'=>e=.returned (.int .u32 (wn (X6 x)))/\Drawn w w':=
 UY x 17 19 10 oX oX oX w
theorem MJ(x:W32)(w:World):Calls Tryz.prog 182 #[.int .u32 (wn x),.int .i64 7,.int .i64 18,.int .i64 3] w λe w'=>e=.returned (.int .u32 (wn (Jg x)))/\Drawn w w':=
 UY x 7 18 3 oX oX oX w
theorem Tw(x:W32)(w:World):Calls Tryz.prog 177 #[.int .u32 (wn x),.int .i64 6,.int .i64 11,.int .i64 25] w λe w'=>e=.returned (.int .u32 (wn (Qr x)))/\w=w':=
 Us x 6 11 25 oX oX oX w
theorem T9(x:W32)(w:World):Calls Tryz.prog 177 #[.int .u32 (wn x),.int .i64 2,.int .i64 13,.int .i64 22] w λe w'=>e=.returned (.int .u32 (wn (YS x)))/\w=w':=
 Us x 2 13 22 oX oX oX w
@[irreducible] def zero64:Array Value:=(cW (Z4 64 λ_=>0)).toArray
theorem NJ(w:World):(zeroValue 241).run Tryz.prog w=.ok (.agg zero64) w:=kX
theorem Ve:zero64.size=64:=kX
theorem Hl:zero64≠#[]:=λe=>by have:=Ve;rw[e] at this;cases this
theorem MZ:zero64=(cW (Z4 64 λ_=>0)).toArray:=by unfold zero64;rfl
structure WdSt (w:World) (r o:Nat) (f:Nat->W32) (W:World):Prop where
 row:W.heap[o]? = some (.cells (cW (Z4 64 f)).toArray 241 (0,0))
 res:W.heap[r]? = some (.cells zero64 241 (0,0))
 bel:Below w.heap.size w W
theorem WdSt.drawn{w:World}{r o:Nat}{f:Nat->W32}{W W':World}(h:WdSt w r o f W)(hd:Drawn W W'):WdSt w r o f W':=by
 obtain⟨n,rfl⟩:=hd
 exact⟨h.row,h.res,below_drewN h.bel n⟩
theorem WdSt.set{w:World}{r o:Nat}{f:Nat->W32}{W:World}(h:WdSt w r o f W)(h1:r≠o)(h3:w.heap.size<=o)(j:Nat)(x:W32) :
  WdSt w r o (λi=>if i=j then x else f i) (W.setCell ⟨o,j,none⟩ (.int .u32 (wn x))):=by
 have hu:=(Upd.refl h.row).setCell (j:=j) (.int .u32 (wn x))
 refine⟨?_,(hu.block r h1).trans h.res,h.bel.trans (hu.below h3)⟩
 rw[<-KC,<-HR];exact hu.here
theorem WdSt.congr{w:World}{r o:Nat}{f g:Nat->W32}{W:World}(h:WdSt w r o f W)(e:∀ i,i<64->f i=g i):WdSt w r o g W:=
 ⟨by rw[<-Yu e];exact h.row,h.res,h.bel⟩
theorem WdSt.cell{w:World}{r o:Nat}{f:Nat->W32}{W:World}(h:WdSt w r o f W){j:Nat}(hj:j<64):W.cell? ⟨o,j,none⟩=some (.int .u32 (wn (f j))):=by
 rw[Za h.row,Ko hj]
theorem WdSt.free{w:World}{r o:Nat}{f:Nat->W32}{W:World}(h:WdSt w r o f W)(j:Nat):W.frozen? ⟨o,j,none⟩=false:=Zm h.row _
def YX(o t:Nat)(bs:List UInt8)(W:World):Prop:=∀ i,i<t->W.cell? ⟨o,i,none⟩=some (.int .u32 (wn (wAt bs i)))
def QW(b:List UInt8)(t j i:Nat):W32:=if i<t then JT b i else if i=t then Xm b t j else 0
def Yg(b:List UInt8)(t i:Nat):W32:=if i<t then wAt b i else 0
theorem GI(b:List UInt8):Z4 64 (QW b 0 0)=Z4 64 λ_=>0:=by
 refine Yu λi _=>?_
 unfold QW
 rw[if_neg (Nat.not_lt_zero i)]
 split<;>rfl
theorem NN(b:List UInt8)(t j:Nat):QW b t j t=Xm b t j:=by
 unfold QW;rw[if_neg (Nat.lt_irrefl t),if_pos rfl]
theorem HX(b:List UInt8)(t j j':Nat):∀ i,i<64->(if i=t then Xm b t j' else QW b t j i)=QW b t j' i:=by
 intro i _
 unfold QW
 by_cases h:i=t
 ·subst h;rw[if_pos rfl,if_neg (Nat.lt_irrefl i),if_pos rfl]
 ·rw[if_neg h,if_neg h,if_neg h]
theorem MB(b:List UInt8)(t:Nat):∀ i,i<64->QW b t 4 i=QW b (t+1) 0 i:=by
 intro i _
 unfold QW
 by_cases h:i<t
 ·rw[if_pos h,if_pos oX]
 ·rw[if_neg h]
  by_cases h2:i=t
  ·subst h2;rw[if_pos rfl,if_pos oX,HA]
  ·rw[if_neg h2,if_neg oX]
   split<;>rfl
theorem NV(b:List UInt8):∀ i,i<64->QW b 16 0 i=Yg b 16 i:=by
 intro i _
 unfold QW Yg
 by_cases h:i<16
 ·rw[if_pos h,if_pos h,R7 b i h]
 ·rw[if_neg h,if_neg h];split<;>rfl
theorem Gq(b:List UInt8)(t:Nat):∀ i,i<64->(if i=t then wAt b t else Yg b t i)=Yg b (t+1) i:=by
 intro i _
 unfold Yg
 by_cases h:i=t
 ·subst h;rw[if_pos rfl,if_pos oX]
 ·rw[if_neg h]
  by_cases h2:i<t
  ·rw[if_pos h2,if_pos oX]
  ·rw[if_neg h2,if_neg oX]
theorem GJ(b:List UInt8):Z4 64 (Yg b 64)=Z4 64 (wAt b):=Yu λi hi=>by unfold Yg;rw[if_pos hi]
theorem Mz(a:Option Addr)(ca:Nat)(bs:List UInt8)(w:World)(ha:ArgB w a ca bs)(h64:bs.length=64) :
  Calls Tryz.prog 176 #[.slice a 64 ca] w λe w'=>e=.returned (.agg (cW (Z4 64 (wAt bs))).toArray)/\Below w.heap.size w w':=by
 have zr:=NJ
 have zn:=Hl
 have hca:=ha.len
 rw[h64] at hca
 obtain⟨b0,off,rfl,_⟩:=ha.row 0 oX
 have hcell:∀ W,Below w.heap.size w W->∀ i,i<64->W.cell? ⟨b0,off+i,none⟩=some (.int .u8 ((cf bs i).toNat:Int)):=by
  intro W hW i hi
  obtain⟨b',off',e,hc⟩:=(ha.below hW).row i oX
  cases e
  exact hc
 replace hcell:=Hd hcell
 have ha0:=Hd ha
 replace h64:=Hd h64
 obtain⟨W0,hW0⟩:∃ W0,W0=((w.alloc (.cells zero64 241)).alloc (.cells zero64 241)):=⟨_,rfl⟩
 have q0:W0.heap[w.heap.size]? = some (.cells zero64 241 (0,0)):=by
  rw[hW0,Below.heap_alloc _ _ _ sX];exact heap_alloc_new w _
 have q1:W0.heap[w.heap.size+1]? = some (.cells zero64 241 (0,0)):=by
  have:=heap_alloc_new (w.alloc (.cells zero64 241)) (.cells zero64 241)
  rw[<-hW0] at this;simpa using this
 have q3:Below w.heap.size w W0:=by rw[hW0];exact((Below.refl w.heap.size w).alloc nR _).alloc sX _
 replace hW0:=Hd hW0
 replace q0:=Hd q0
 replace q1:=Hd q1
 replace q3:=Hd q3
 clear ha
 go_enter Tryz.func176,Tryz.ntmps176
 go_wp2_with fail
 rw[<-hW0.out]
 obtain⟨o0,ho0⟩:∃ o0,o0=w.heap.size+1:=⟨_,rfl⟩
 obtain⟨r0,hr0⟩:∃ r0,r0=w.heap.size:=⟨_,rfl⟩
 have hro:r0≠o0:=oX
 have hob:w.heap.size<=o0:=oX
 rw[<-ho0] at q1 ⊢
 rw[<-hr0] at q0 ⊢
 have hrb:=Hd (show w.heap.size<=r0 from by omega)
 have hI:=Hd (show WdSt w r0 o0 (QW bs 0 0) W0 from⟨by rw[GI,<-MZ];exact q1.out,q0.out,q3.out⟩)
 replace hro:=Hd hro
 replace hob:=Hd hob
 clear ho0 hr0 q0 q1 q3 zr zn hW0
 go_loopw [4,6,8] (λ_ _ j wr=>∃ t:Nat,t<=16/\j=.int .i64 t/\WdSt w r0 o0 (QW bs t 0) wr)
  (λ_ _ j _=>16-(intOf j).toNat)
 case atStart=>exact⟨0,Nat.zero_le _,rfl,hI.out⟩
 case round=>
  clear hI
  obtain⟨t,ht,rfl,hI⟩:=hrel
  by_cases hlt:t<16
  ·have k1:=IntWalk.i64_in (4*(t:Int)) oX
   have k2:=IntWalk.i64_in (4*(t:Int)+4) oX
   have k3:(0:Int)<=4*(t:Int):=oX
   have k4:4*(t:Int)+4<=(ca:Int):=oX
   have k5:(4*(t:Int)).toNat=4*t:=oX
   have k6:(4*(t:Int)+4).toNat-4*t=4:=oX
   have k7:4*(t:Int)<=4*(t:Int)+4:=oX
   have hnx:=Hd (MB bs t)
   replace hI:=Hd hI
   have hdt:decide ((t:Int)<16)=true:=decide_eq_true oX
   go_wp2_with fail
   try rw[hdt]
   go_loopw [6,19] (λ_ j wq=>∃ m:Nat,m<=4/\j=.int .i64 m/\WdSt w r0 o0 (QW bs t m) wq)
    (λ_ j _=>4-(intOf j).toNat)
   case atStart=>exact⟨0,Nat.zero_le _,rfl,hI.out⟩
   case round=>
    clear hI
    obtain⟨m,hm,rfl,hI⟩:=hrel
    by_cases hmm:m<4
    ·have cx:=hcell.out wr hI.bel (4*t+m) oX
     rw[<-Nat.add_assoc] at cx
     have c1:=hI.cell (j:=t) oX
     rw[NN] at c1
     have f1:=hI.free t
     have hor:=Rp (Xm bs t m) (cf bs (4*t+m))
     have hnx2:=Hd (WdSt.congr (hI.set hro.out hob.out t (Xm bs t (m+1))) (HX bs t m (m+1)))
     rw[show (Xm bs t m <<< 8) ||| (cf bs (4*t+m)).toUInt32=Xm bs t (m+1) from rfl] at hor
     generalize Xm bs t (m+1)=y at*
     generalize Xm bs t m=x at*
     generalize cf bs (4*t+m)=c at*
     replace hI:=Hd hI
     go_wp2_with fail
     go_roundw
     case rel=>exact⟨m+1,oX,by go_num,hnx2.out⟩
     case measure=>simp[intOf];omega
    ·obtain rfl:m=4:=oX
     have hI2:=Hd (hI.congr hnx.out)
     go_wp2_with fail
     go_roundw
     case rel=>exact⟨t+1,oX,by go_num,hI2.out⟩
     case measure=>simp[intOf];omega
  ·obtain rfl:t=16:=oX
   have hI:=Hd (hI.congr (NV bs))
   go_wp2_with fail
   rw[show ((16:Nat):Int)=16 from rfl]
   go_loopw [7] (λtt wq=>∃ t:Nat,16<=t/\t<=64/\tt=.int .i64 t/\WdSt w r0 o0 (Yg bs t) wq)
    (λtt _=>64-(intOf tt).toNat)
   case atStart=>exact⟨16,Nat.le_refl _,oX,rfl,hI.out⟩
   case round=>
    clear hI
    obtain⟨t,ht1,ht2,rfl,hI⟩:=hrel
    by_cases hlt:t<64
    ·have k1:=IntWalk.i64_in ((t:Int)-2) oX
     have k2:=IntWalk.i64_in ((t:Int)-7) oX
     have k3:=IntWalk.i64_in ((t:Int)-15) oX
     have k4:=IntWalk.i64_in ((t:Int)-16) oX
     have n1:((t:Int)-2).toNat=t-2:=oX
     have n2:((t:Int)-7).toNat=t-7:=oX
     have n3:((t:Int)-15).toNat=t-15:=oX
     have n4:((t:Int)-16).toNat=t-16:=oX
     have l1:(0:Int)<=(t:Int)-2:=oX
     have l2:(0:Int)<=(t:Int)-7:=oX
     have l3:(0:Int)<=(t:Int)-15:=oX
     have l4:(0:Int)<=(t:Int)-16:=oX
     have m1:(2:Int)<=(t:Int):=oX
     have m2:(7:Int)<=(t:Int):=oX
     have m3:(15:Int)<=(t:Int):=oX
     have m4:(16:Int)<=(t:Int):=oX
     have u1:(t:Int)-2<64:=oX
     have u2:(t:Int)-7<64:=oX
     have u3:(t:Int)-15<64:=oX
     have u4:(t:Int)-16<64:=oX
     have ca1:∀ W,YX o0 t bs W->W.cell? ⟨o0,t-2,none⟩=some (.int .u32 (wn (wAt bs (t-2)))):=λW h=>h _ oX
     have cb1:∀ W,YX o0 t bs W->W.cell? ⟨o0,t-7,none⟩=some (.int .u32 (wn (wAt bs (t-7)))):=λW h=>h _ oX
     have cc1:∀ W,YX o0 t bs W->W.cell? ⟨o0,t-15,none⟩=some (.int .u32 (wn (wAt bs (t-15)))):=λW h=>h _ oX
     have cd1:∀ W,YX o0 t bs W->W.cell? ⟨o0,t-16,none⟩=some (.int .u32 (wn (wAt bs (t-16)))):=λW h=>h _ oX
     have hSa:∀ W,WdSt w r0 o0 (Yg bs t) W->YX o0 t bs W:=λW h=>by
      intro i hi
      rw[h.cell oX];unfold Yg;rw[if_pos hi]
     have hSb:∀ W,WdSt w r0 o0 (Yg bs (t+1)) W->YX o0 t bs W:=λW h=>by
      intro i hi
      rw[h.cell oX];unfold Yg;rw[if_pos oX]
     have hwa:=Tz bs t ht1
     have hfin:=Gq bs t
     rw[hwa] at hfin
     replace hfin:=Hd hfin
     clear hwa
     generalize wAt bs (t-2)=xa at*
     generalize wAt bs (t-7)=xb at*
     generalize wAt bs (t-15)=xc at*
     generalize wAt bs (t-16)=xd at*
     have a1:=YM (X6 xa) xb
     have a2:=YM (X6 xa+xb) (Jg xc)
     have a3:=YM (X6 xa+xb+Jg xc) xd
     have hI:=Hd hI
     have hS0:=hSa _ (hI.out.drawn ⟨1,rfl⟩)
     go_wp2_with fail
     refine wp_region_held_drew (S:=YX o0 t bs) kX hS0 (λhOn=>?_)
     replace hI:=Hd (hI.out.drawn (show Drawn wr wr.drew from⟨1,rfl⟩))
     generalize wr.drew=wr at hOn hI ⊢
     refine tk 0 hOn ?_
     refine tk 1 hOn ?_
     refine tk 2 hOn ?_
     refine tk 3 hOn ?_
     refine tk 4 hOn ?_
     refine tk 6 hOn ?_
     refine tk 7 hOn ?_
     refine tk 8 hOn ?_
     refine tk 9 hOn ?_
     refine tk 11 hOn ?_
     refine tk 12 hOn ?_
     refine tk 13 hOn ?_
     refine tk 14 hOn ?_
     refine tk 17 hOn ?_
     refine tk 18 hOn ?_
     refine tk 19 hOn ?_
     refine tk 20 hOn ?_
     refine rds [5] ?_
     refine AllReadyH.cons (by simp only[List.getElem?_toArray,List.getElem?_cons_succ,List.getElem?_cons_zero];rfl) (λK hK=>?_) AllReadyH.nil
     go_simp
     with_reducible refine(Mm xa _).mono ?_
     rintro e w4 ⟨rfl,hd⟩
     replace hI:=Hd (hI.out.drawn hd)
     have hS4:=hSa _ hI.out
     clear hd
     go_wp2_with fail
     refine hK.out _ _ hS4 (λhNext=>?_)
     clear hS4
     clear hK K hOn
     have hOn:=hNext
     clear hNext
     try simp only[Act.put,sL,sZ,sS]
     refine tk 10 hOn ?_
     refine rds [15] ?_
     refine AllReadyH.cons (by simp only[List.getElem?_toArray,List.getElem?_cons_succ,List.getElem?_cons_zero];rfl) (λK hK=>?_) AllReadyH.nil
     go_simp
     with_reducible refine(MJ xc _).mono ?_
     rintro e w4 ⟨rfl,hd⟩
     replace hI:=Hd (hI.out.drawn hd)
     have hS4:=hSa _ hI.out
     clear hd
     go_wp2_with fail
     refine hK.out _ _ hS4 (λhNext=>?_)
     clear hS4
     clear hK K hOn
     have hOn:=hNext
     clear hNext
     try simp only[Act.put,sL,sZ,sS]
     refine tk 16 hOn ?_
     refine tk 21 hOn ?_
     refine tk 22 hOn ?_
     refine rds [23] ?_
     refine AllReadyH.cons (by simp only[List.getElem?_toArray,List.getElem?_cons_succ,List.getElem?_cons_zero];rfl) (λK hK=>?_) AllReadyH.nil
     have c1:=hI.out.cell (j:=t) oX
     have f1:=hI.out.free t
     go_simp
     have hI6:=Hd (WdSt.congr (hI.out.set hro.out hob.out t (X6 xa+xb+Jg xc+xd)) hfin.out)
     have hS6:=hSb _ hI6.out
     refine hK.out _ _ hS6 (λhNext=>?_)
     clear hK K hOn
     have hOn:=hNext
     clear hNext
     try simp only[Act.put,sL,sZ,sS]
     refine dnE ?_
     go_wp2_with fail
     exact⟨⟨t+1,oX,oX,by go_num,hI6.out⟩,by simp[intOf];omega⟩
    ·obtain rfl:t=64:=oX
     have hrw:=hI.row
     rw[GJ] at hrw
     have hrs:=hI.res
     have hbl:=Hd hI.bel
     have hu0:Tryz.prog.underlying 241=some (.array 64 239):=Tryz.underlying241
     have hone:=HU (Z4 64 (wAt bs))
     have hsz:(Tryz.prog.info? 241).map (·.size)=some (cW (Z4 64 (wAt bs))).toArray.size:=by
      rw[List.size_toArray,JH,Yk];kernel_rfl
     have hs2:zero64.size=(cW (Z4 64 (wAt bs))).toArray.size:=by rw[Ve,List.size_toArray,JH,Yk]
     generalize hC:(cW (Z4 64 (wAt bs))).toArray=C at*
     replace hrw:=Hd hrw
     replace hrs:=Hd hrs
     go_wp2_with (first|with_reducible refine Ze rfl 241 (.tmp 3) rfl o0 C (.array 64 239) rfl hrw hu0 rfl hsz ?_|with_reducible refine Zc rfl 241 (.tmp 2) (.tmp 61) rfl r0 zero64 C rfl rfl hrs hsz hs2 hone ?_)
     intro w8 hU
     go_wp2_with fail
     exact Z7 rfl rfl hu0 rfl hsz hU.out.here ⟨by rw[hC],hbl.out.trans (hU.out.below hrb.out)⟩
end Go.Proofs.YtpdhceiodgnbmaaGreatDoor
