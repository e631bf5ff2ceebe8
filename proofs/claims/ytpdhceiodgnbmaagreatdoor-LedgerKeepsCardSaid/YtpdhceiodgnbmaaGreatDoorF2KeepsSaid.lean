import Derived.Test.YtpdhceiodgnbmaaGreatDoorF1KeepsSaid
import Derived.Deep.WholeRow
set_option linter.all false
set_option maxRecDepth 100000
set_option maxHeartbeats 8000000
namespace Go.Proofs.YtpdhceiodgnbmaaGreatDoor
section
open Go.RowKit
abbrev bL:=UInt32
theorem Gz(x:bL):x.toNat<4294967296:=x.toNat_lt
def wn(x:bL):Int:=(x.toNat:Int)
theorem Tk(x:bL):0<=wn x/\wn x<4294967296:=by have:=Gz x;unfold wn;omega
theorem J6(x y:bL):bits BinOp.and IntKind.u32 (wn x) (wn y)=wn (x &&& y):=by
 unfold wn;rw[u32_and_nat _ _ (Gz x) (Gz y),UInt32.toNat_and]
theorem NV(x y:bL):bits BinOp.or IntKind.u32 (wn x) (wn y)=wn (x ||| y):=by
 unfold wn;rw[u32_or_nat _ _ (Gz x) (Gz y),UInt32.toNat_or]
theorem Yi(x y:bL):bits BinOp.xor IntKind.u32 (wn x) (wn y)=wn (x ^^^ y):=by
 unfold wn;rw[u32_xor_nat _ _ (Gz x) (Gz y),UInt32.toNat_xor]
theorem C7(x:bL):bits BinOp.xor IntKind.u32 4294967295 (wn x)=wn (~~~x):=by
 have h:=Yi 4294967295 x;rw[show wn 4294967295=4294967295 from rfl] at h;rw[h,show (4294967295:bL) ^^^ x = ~~~x from ?_];apply UInt32.eq_of_toBitVec_eq;rw[UInt32.toBitVec_xor,UInt32.toBitVec_not];exact BitVec.allOnes_xor
theorem QG(x y:bL):(wn x+wn y) % 4294967296=wn (x+y):=by
 unfold wn;rw[UInt32.toNat_add];omega
theorem Nh(x:bL)(k:Nat)(h:k<32):wn x / ((2 ^ k:Nat):Int)=wn (x >>> UInt32.ofNat k):=by
 unfold wn;rw[UInt32.toNat_shiftRight,Nat.shiftRight_eq_div_pow];have:(UInt32.ofNat k).toNat % 32=k:=bf;rw[this,Int.natCast_ediv]
theorem K5(x:bL)(k:Nat)(h:k<32):(wn x*((2 ^ k:Nat):Int)) % 4294967296=wn (x <<< UInt32.ofNat k):=by
 unfold wn;rw[UInt32.toNat_shiftLeft,Nat.shiftLeft_eq];have:(UInt32.ofNat k).toNat % 32=k:=bf;rw[this,<-Int.natCast_mul];omega
def ZI(x:bL)(k:Nat):bL:=(x >>> UInt32.ofNat k) ||| (x <<< UInt32.ofNat (32-k))
def X1(x:bL):bL:=ZI x 2 ^^^ ZI x 13 ^^^ ZI x 22
def Qy(x:bL):bL:=ZI x 6 ^^^ ZI x 11 ^^^ ZI x 25
def X9(x:bL):bL:=ZI x 7 ^^^ ZI x 18 ^^^ (x >>> UInt32.ofNat 3)
def Xd(x:bL):bL:=ZI x 17 ^^^ ZI x 19 ^^^ (x >>> UInt32.ofNat 10)
def iV(e f g:bL):bL:=(e &&& f) ^^^ (~~~e &&& g)
def X0(a b c:bL):bL:=(a &&& b) ^^^ (a &&& c) ^^^ (b &&& c)
def sV:List bL:=[
 0x428a2f98,0x71374491,0xb5c0fbcf,0xe9b5dba5,0x3956c25b,0x59f111f1,0x923f82a4,0xab1c5ed5,
 0xd807aa98,0x12835b01,0x243185be,0x550c7dc3,0x72be5d74,0x80deb1fe,0x9bdc06a7,0xc19bf174,
 0xe49b69c1,0xefbe4786,0x0fc19dc6,0x240ca1cc,0x2de92c6f,0x4a7484aa,0x5cb0a9dc,0x76f988da,
 0x983e5152,0xa831c66d,0xb00327c8,0xbf597fc7,0xc6e00bf3,0xd5a79147,0x06ca6351,0x14292967,
 0x27b70a85,0x2e1b2138,0x4d2c6dfc,0x53380d13,0x650a7354,0x766a0abb,0x81c2c92e,0x92722c85,
 0xa2bfe8a1,0xa81a664b,0xc24b8b70,0xc76c51a3,0xd192e819,0xd6990624,0xf40e3585,0x106aa070,
 0x19a4c116,0x1e376c08,0x2748774c,0x34b0bcb5,0x391c0cb3,0x4ed8aa4a,0x5b9cca4f,0x682e6ff3,
 0x748f82ee,0x78a5636f,0x84c87814,0x8cc70208,0x90befffa,0xa4506ceb,0xbef9a3f7,0xc67178f2]
def oZ(t:Nat):bL:=sV.getD t 0
structure S8 where
 a:bL
 b:bL
 c:bL
 d:bL
 e:bL
 f:bL
 g:bL
 h:bL
def ZB:S8:=⟨0x6a09e667,0xbb67ae85,0x3c6ef372,0xa54ff53a,0x510e527f,0x9b05688c,0x1f83d9ab,0x5be0cd19⟩
def Uv(s:S8)(k w:bL):S8:=
 let t1:=s.h+Qy s.e+iV s.e s.f s.g+k+w
 let t2:=X1 s.a+X0 s.a s.b s.c
 ⟨t1+t2,s.a,s.b,s.c,s.d+t1,s.e,s.f,s.g⟩
def Hc(s t:S8):S8:=⟨s.a+t.a,s.b+t.b,s.c+t.c,s.d+t.d,s.e+t.e,s.f+t.f,s.g+t.g,s.h+t.h⟩
def Jb(b:List UInt8)(t:Nat):bL:=((((cf b (4*t)).toUInt32 <<< 8 ||| (cf b (4*t+1)).toUInt32) <<< 8) ||| (cf b (4*t+2)).toUInt32) <<< 8 ||| (cf b (4*t+3)).toUInt32
def XG(b:List UInt8):Nat->List bL
 | 0=>[]
 | n+1=>XG b n++[if n<16 then Jb b n else Xd ((XG b n).getD (n-2) 0)+(XG b n).getD (n-7) 0+X9 ((XG b n).getD (n-15) 0)+(XG b n).getD (n-16) 0]
def ed(b:List UInt8)(t:Nat):bL:=(XG b (t+1)).getD t 0
theorem YE(b:List UInt8):∀ n,(XG b n).length=n
 | 0=>rfl
 | n+1=>by simp[XG,YE b n]
theorem Vt(b:List UInt8)(t:Nat):∀ n,t<n->(XG b n).getD t 0=ed b t
 | 0,h=>by omega
 | n+1,h=>by
  by_cases e:t=n
  ·subst e;rfl
  ·have ih:=Vt b t n aB;rw[XG,List.getD_eq_getElem?_getD,List.getElem?_append_left (by rw[YE];omega),<-List.getD_eq_getElem?_getD,ih]
theorem CT(b:List UInt8)(t:Nat)(h:t<16):ed b t=Jb b t:=by
 unfold ed;rw[XG,List.getD_eq_getElem?_getD,List.getElem?_append_right (by rw[YE];exact Nat.le_refl _),YE,Nat.sub_self,if_pos h];rfl
theorem Ta(b:List UInt8)(t:Nat)(h:16<=t):ed b t=Xd (ed b (t-2))+ed b (t-7)+X9 (ed b (t-15))+ed b (t-16):=by
 conv=>lhs;unfold ed
 rw[XG,List.getD_eq_getElem?_getD,List.getElem?_append_right (by rw[YE];exact Nat.le_refl _),YE,Nat.sub_self,if_neg aB];rw[Vt b (t-2) t aB,Vt b (t-7) t aB,Vt b (t-15) t aB,Vt b (t-16) t aB];rfl
def JP(b:List UInt8)(t:Nat):Nat->bL
 | 0=>0
 | j+1=>(JP b t j <<< 8) ||| (cf b (4*t+j)).toUInt32
theorem M6(b:List UInt8)(t:Nat):JP b t 4=Jb b t:=by
 have h:((0:bL) <<< 8) ||| (cf b (4*t+0)).toUInt32=(cf b (4*t)).toUInt32:=by
  rw[show (0:bL) <<< 8=0 from rfl,UInt32.zero_or];rfl
 simp only[JP,Jb];rw[h]
theorem CZ(x:bL)(c:UInt8):bits BinOp.or IntKind.u32 (wn x*256 % 4294967296) (c.toNat:Int)=wn ((x <<< 8) ||| c.toUInt32):=by
 have h1:=K5 x 8 aB;rw[show ((2 ^ 8:Nat):Int)=256 from rfl,show UInt32.ofNat 8=8 from rfl] at h1;rw[h1,show ((c.toNat:Nat):Int)=wn c.toUInt32 from by unfold wn;simp,NV]
theorem Bu(x:bL)(c:UInt8):bits BinOp.or IntKind.u32 (wn x*256 % 4294967296) ((c.toNat:Int) % 4294967296)=wn ((x <<< 8) ||| c.toUInt32):=by
 rw[show ((c.toNat:Int) % 4294967296)=(c.toNat:Int) from by have:=c.toNat_lt;omega];exact CZ x c
def ZT(b:List UInt8)(s:S8):Nat->S8
 | 0=>s
 | t+1=>Uv (ZT b s t) (oZ t) (ed b t)
def QH(s:S8)(b:List UInt8):S8:=Hc (ZT b s 64) s
def ZP(s:S8)(m:List UInt8):Nat->S8
 | 0=>s
 | q+1=>QH (ZP s m q) ((m.drop (64*q)).take 64)
theorem V0(s:S8)(m r:List UInt8):∀ q,64*q<=m.length->ZP s (m++r) q=ZP s m q
 | 0,_=>rfl
 | q+1,h=>by
  rw[ZP,ZP,V0 s m r q aB];congr 1;rw[List.drop_append_of_le_length aB,List.take_append_of_le_length jH]
theorem M4(s:S8)(m:List UInt8)(p:Nat):∀ q,ZP s m (p+q)=ZP (ZP s m p) (m.drop (64*p)) q
 | 0=>rfl
 | q+1=>by
  rw[<-Nat.add_assoc,ZP,ZP,M4 s m p q,List.drop_drop,Nat.mul_add]
def cW(l:List bL):List Value:=l.map λx=>.int .u32 (wn x)
def ZW(n:Nat)(f:Nat->bL):List bL:=(List.range n).map f
theorem Kl(l:List bL):(cW l).length=l.length:=by simp[cW]
theorem Xe(n:Nat)(f:Nat->bL):(ZW n f).length=n:=by simp[ZW]
theorem Rv{n:Nat}{f:Nat->bL}{i:Nat}(h:i<n):(ZW n f)[i]? = some (f i):=by simp[ZW,h]
theorem N6{n:Nat}{f:Nat->bL}{i:Nat}(h:i<n):(cW (ZW n f)).toArray[i]? = some (.int .u32 (wn (f i))):=by simp[cW,ZW,h]
theorem YR{n:Nat}{f g:Nat->bL}(h:∀ i,i<n->f i=g i):ZW n f=ZW n g:=
 List.map_congr_left λi hi=>h i (List.mem_range.1 hi)
theorem Tu(l:List bL)(j:Nat)(x:bL):(cW l).toArray.setIfInBounds j (.int .u32 (wn x))=(cW (l.set j x)).toArray:=by simp[cW,List.map_set]
theorem Gx(n:Nat)(f:Nat->bL)(i:Nat)(x:bL):(ZW n f).set i x=ZW n λj=>if j=i then x else f j:=by
 apply List.ext_getElem?
 intro j;rw[List.getElem?_set];by_cases hj:j<n
 ·rw[Rv (f:=λj=>if j=i then x else f j) hj];by_cases h:i=j
  ·subst h;rw[if_pos rfl,if_pos (by rw[Xe];exact hj),if_pos rfl]
  ·rw[if_neg h,Rv hj,if_neg (λe=>h e.symm)]
 ·have h1:∀ g:Nat->bL,(ZW n g)[j]? = none:=λg=>List.getElem?_eq_none (by rw[Xe];omega);rw[h1,h1];by_cases h:i=j
  ·subst h;rw[if_pos rfl,if_neg (by rw[Xe];exact hj)]
  ·rw[if_neg h]
theorem HP(l:List bL):(cW l).toArray.all (·.oneCell')=true:=by
 rw[List.all_toArray,List.all_eq_true];intro v hv;simp only[cW,List.mem_map] at hv;obtain⟨_,_,rfl⟩:=hv;rfl
def be8(n:Nat):List UInt8:=(List.range 8).map λi=>UInt8.ofNat (n / 2 ^ (8*(7-i)))
def Qw(n:Nat):Nat:=(119-n % 64) % 64
def XK(m:List UInt8):List UInt8:=m++[128]++List.replicate (Qw m.length) 0++be8 (8*m.length)
def Jh(x:bL):List UInt8:=[UInt8.ofNat (x.toNat / 16777216),UInt8.ofNat (x.toNat / 65536),UInt8.ofNat (x.toNat / 256),UInt8.ofNat x.toNat]
def Qx(s:S8):List UInt8:=Jh s.a++Jh s.b++Jh s.c++Jh s.d++Jh s.e++Jh s.f++Jh s.g++Jh s.h
theorem MM(s:S8):(Qx s).length=32:=rfl
def sha(m:List UInt8):List UInt8:=Qx (ZP ZB (XK m) ((XK m).length / 64))
theorem Zy(m:List UInt8):(sha m).length=32:=MM _
theorem Fr(a:Nat)(h1:1<=a)(h2:a<=31):bits BinOp.and IntKind.u64 (18446744073709551616-(a:Int)) 31=32-(a:Int):=by
 have h:=u64_and_nat (18446744073709551616-a) 31 aB aB;rw[show ((18446744073709551616-a:Nat):Int)=18446744073709551616-(a:Int) from by omega,show ((31:Nat):Int)=31 from rfl] at h;rw[h];have e:(18446744073709551616-a) &&& 31=(18446744073709551616-a) % 32:=Nat.and_two_pow_sub_one_eq_mod _ 5;rw[e];omega
theorem Bb(a:Nat)(h1:1<=a)(h2:a<=31):IntKind.u64.wrap (-(a:Int))=18446744073709551616-(a:Int):=by
 rw[IntKind.wrap_u64];omega
theorem EL(x:bL)(a:Nat)(h1:1<=a)(h2:a<=31) :
  bits BinOp.or IntKind.u32 ((wn x)*2 ^ (32-a) % 4294967296) ((wn x) / 2 ^ a)=(wn (ZI x a)):=by
 have e1:(2:Int) ^ (32-a)=((2 ^ (32-a):Nat):Int):=sX;have e2:(2:Int) ^ a=((2 ^ a:Nat):Int):=sX;rw[e1,e2,K5 x (32-a) aB,Nh x a aB,NV];unfold ZI;rw[UInt32.or_comm]
theorem Ev(x:bL)(a:Nat)(h1:1<=a)(h2:a<=31) :
  bits BinOp.or IntKind.u32 ((wn x) / 2 ^ a) ((wn x)*2 ^ (32-a) % 4294967296)=(wn (ZI x a)):=by
 have e1:(2:Int) ^ (32-a)=((2 ^ (32-a):Nat):Int):=sX;have e2:(2:Int) ^ a=((2 ^ a:Nat):Int):=sX;rw[e1,e2,K5 x (32-a) aB,Nh x a aB,NV];rfl
theorem VH(x:bL)(a:Nat)(h1:1<=a)(h2:a<=31)(w:World):Calls Tryz.prog 183 #[.int .u32 (wn x),.int .i64 (-(a:Int))] w λe w'=>e=.returned (.int .u32 (wn (ZI x a)))/\w=w':=by
 have hand:bits BinOp.and IntKind.u64 (IntKind.u64.wrap (-(a:Int))) 31=32-(a:Int):=by rw[Bb a h1 h2];exact Fr a h1 h2
 have hl:=Tk x;have hs0:(0:Int)<=32-(a:Int):=aB;have hs1:32-(a:Int)<=32:=aB;have hs2:32-(32-(a:Int))=(a:Int):=aB;have hs3:=IntWalk.u64_in (a:Int) aB;have hs4:(0:Int)<=(a:Int):=aB;have hs5:(a:Int)<=32:=aB;have hrot:=EL x a h1 h2;go_enter Tryz.func183,Tryz.ntmps183;go_wp2_with fail;go_ret;exact⟨rfl,rfl⟩
theorem GN(x:bL)(a b c:Nat)(ha:1<=a/\a<=31)(hb:1<=b/\b<=31)(hc:1<=c/\c<=31)(w:World) :
  Calls Tryz.prog 177 #[.int .u32 (wn x),.int .i64 (a:Int),.int .i64 (b:Int),.int .i64 (c:Int)] w λe w'=>e=.returned (.int .u32 (wn (ZI x a ^^^ ZI x b ^^^ ZI x c)))/\w=w':=by
 have h1:=Yi (ZI x a) (ZI x b);have h2:=Yi (ZI x a ^^^ ZI x b) (ZI x c);go_enter Tryz.func177,Tryz.ntmps177;go_wp2_with fail;with_reducible refine(VH x a ha.1 ha.2 _).mono ?_
 rintro e w1 ⟨rfl,rfl⟩;go_wp2_with fail;with_reducible refine(VH x b hb.1 hb.2 _).mono ?_
 rintro e w1 ⟨rfl,rfl⟩;go_wp2_with fail;with_reducible refine(VH x c hc.1 hc.2 _).mono ?_
 rintro e w1 ⟨rfl,rfl⟩;go_wp2_with fail;go_ret;exact⟨rfl,rfl⟩
theorem Mr(x:bL)(a b c:Nat)(ha:1<=a/\a<=31)(hb:1<=b/\b<=31)(hc:1<=c/\c<=31)(w:World) :
  Calls Tryz.prog 182 #[.int .u32 (wn x),.int .i64 (a:Int),.int .i64 (b:Int),.int .i64 (c:Int)] w λe w'=>e=.returned (.int .u32 (wn (ZI x a ^^^ ZI x b ^^^ (x >>> UInt32.ofNat c))))/\eP w w':=by
 have h1:=Yi (ZI x a) (ZI x b);have h2:=Yi (ZI x a ^^^ ZI x b) (x >>> UInt32.ofNat c);have h3:wn x / 2 ^ c=wn (x >>> UInt32.ofNat c):=by
  rw[<-Nh x c aB];simp
 have hc0:(0:Int)<=(c:Int):=aB;have hc1:(c:Int)<=32:=aB;go_enter Tryz.func182,Tryz.ntmps182;go_wp2_with fail;go_quiet (first|(go_at_call 183;with_reducible exact G0 (VH x a ha.1 ha.2 _))|(go_at_call 183;with_reducible exact G0 (VH x b hb.1 hb.2 _)));go_wp2_with fail;go_ret;exact⟨rfl,_,rfl⟩
theorem DE(x:bL)(a:Nat)(h1:1<=a)(h2:a<=31)(w:World):Calls Tryz.prog 133 #[.int .u32 (wn x),.int .u64 (a:Int)] w λe w'=>e=.returned (.int .u32 (wn (ZI x a)))/\w=w':=by
 have hs0:(0:Int)<=32-(a:Int):=aB;have hs1:32-(a:Int)<=32:=aB;have hs3:=IntWalk.u64_in (32-(a:Int)) aB;have hs4:(0:Int)<=(a:Int):=aB;have hs5:(a:Int)<=32:=aB;have hl:=Tk x;have hrot:=Ev x a h1 h2;go_enter Tryz.func133,Tryz.ntmps133;go_wp2_with fail;go_ret;exact⟨rfl,rfl⟩
theorem Wf(x:bL)(w:World):Calls Tryz.prog 182 #[.int .u32 (wn x),.int .i64 17,.int .i64 19,.int .i64 10] w λe w'=>e=.returned (.int .u32 (wn (Xd x)))/\eP w w':=
 Mr x 17 19 10 aB aB aB w
theorem WM(x:bL)(w:World):Calls Tryz.prog 182 #[.int .u32 (wn x),.int .i64 7,.int .i64 18,.int .i64 3] w λe w'=>e=.returned (.int .u32 (wn (X9 x)))/\eP w w':=
 Mr x 7 18 3 aB aB aB w
theorem Be(x:bL)(w:World):Calls Tryz.prog 177 #[.int .u32 (wn x),.int .i64 6,.int .i64 11,.int .i64 25] w λe w'=>e=.returned (.int .u32 (wn (Qy x)))/\w=w':=
 GN x 6 11 25 aB aB aB w
theorem Bw(x:bL)(w:World):Calls Tryz.prog 177 #[.int .u32 (wn x),.int .i64 2,.int .i64 13,.int .i64 22] w λe w'=>e=.returned (.int .u32 (wn (X1 x)))/\w=w':=
 GN x 2 13 22 aB aB aB w
section
variable {P:Program} {ops:Array Oper} {rest:List Oper} {o:Oper} {a:Act} {w:World} {Q:Exit->Act->World->Prop}
theorem Xk{K:Act->World->Prop}(ty:TypeId)(x y:Operand)(ho:o.op=.store ty x y)(c c':Array Value)
  (hx:a.eval x=.pointer (some ⟨w.heap.size,0,none⟩)) (hy:a.eval y=.agg c') (hi:(P.info? ty).map (·.size)=some c'.size) (hs:c.size=c'.size) (h1:c'.all (·.oneCell')=true)
  (h:K (a.put o.dst undef) (w.alloc (.cells c' ty))):o.wp P a (w.alloc (.cells c ty)) K Q:=by
 unfold Oper.wp execOp;simp only[ho,hx,hy,run_storeAt_new w ty c c' hi hs h1,Sem.run_bind,Sem.run_pure,Result.andThen_ok];exact h
theorem QQ(hgd:o.guard=none)(ty:TypeId)(x y:Operand)(ho:o.op=.store ty x y)(c c':Array Value)
  (hx:a.eval x=.pointer (some ⟨w.heap.size,0,none⟩)) (hy:a.eval y=.agg c') (hi:(P.info? ty).map (·.size)=some c'.size) (hs:c.size=c'.size) (h1:c'.all (·.oneCell')=true)
  (h:wpList P ops Q rest (a.put o.dst undef) (w.alloc (.cells c' ty))):wpList P ops Q (o::rest) a (w.alloc (.cells c ty)):=
 wpList_plain hgd λ_ hK=>Xk ty x y ho c c' hx hy hi hs h1 (hK _ _ h)
theorem Xb{fn:Func}{p:Tmp}{ty:TypeId}(h:fn.results=#[.cell p ty])(tmps:Array Value)(w:World) :
  (results fn tmps).run P w=((asAddr (tmps.getD p undef)).run P w).andThen λa w₁=>(loadVar ty a).run P w₁:=by
 simp only[results,h];simp[Sem.run_bind,Result.andThen]
theorem Vx{fn:Func}{R:Ending->World->Prop}{p:Tmp}{ty:TypeId}{tmps:Array Value}{c:Array Value}{n:Nat}{e:TypeId}(h:fn.results=#[.cell p ty])
  (hp:tmps.getD p undef=.pointer (some ⟨w.heap.size,0,none⟩)) (hu:P.underlying ty=some (.array n e)) (hi:(P.info? ty).map (·.size)=some c.size) (hR:R (.returned (.agg c)) (w.alloc (.cells c ty))) :
  bodyPost P fn R .ret ⟨tmps,[]⟩ (w.alloc (.cells c ty)):=by
 refine bodyPost_ret (v:=.agg c) ?_ rfl hR;rw[Xb h,hp];simp[asAddr,Result.andThen,run_loadVar_new w ty c n e hu hi]
end
theorem Z2{P:Program}{fn:Func}{R:Ending->World->Prop}{p:Tmp}{ty:TypeId}{tmps:Array Value}{W:World}{b:Nat}{c:Array Value}{d:TypeDesc}(h:fn.results=#[.cell p ty])
  (hp:tmps.getD p undef=.pointer (some ⟨b,0,none⟩)) (hu:P.underlying ty=some d) (hd:(match d with | .struct _ | .array _ _=>true|_=>false)=true) (hi:(P.info? ty).map (·.size)=some c.size) (hh:W.heap[b]? = some (.cells c ty (0,0))) (hR:R (.returned (.agg c)) W) :
  bodyPost P fn R .ret ⟨tmps,[]⟩ W:=by
 refine bodyPost_ret (v:=.agg c) ?_ rfl hR;rw[Xb h,hp];simp[asAddr,Result.andThen,run_loadVar_row W b ty ty c (0,0) d hh hu hd hi]
theorem ag.setRow{b:Nat}{old cs:Array Value}{t:TypeId}{fz:Nat×Nat}{w:World}(hg:w.heap[b]? = some (.cells old t fz)):ag b (.cells cs t fz) w (w.setRow b cs):=by
 refine⟨rfl,rfl,rfl,by simp[World.setRow],λk hk=>?_,setRow_heap w b old cs t fz hg⟩;simp only[World.setRow,Array.getElem?_modify];rw[if_neg (λe=>hk e.symm)]
section
variable {P:Program} {ops:Array Oper} {rest:List Oper} {o:Oper} {a:Act} {w:World} {Q:Exit->Act->World->Prop}
theorem Zd(hgd:o.guard=none)(ty:TypeId)(x y:Operand)(ho:o.op=.store ty x y)(g:Nat)(c c':Array Value)
  (hx:a.eval x=.pointer (some ⟨g,0,none⟩)) (hy:a.eval y=.agg c') (hg:Hid (w.heap[g]? = some (.cells c ty (0,0)))) (hi:(P.info? ty).map (·.size)=some c'.size) (hs:c.size=c'.size) (h1:c'.all (·.oneCell')=true)
  (h:∀ w',Hid (ag g (.cells c' ty (0,0)) w w')->wpList P ops Q rest (a.put o.dst undef) w'):wpList P ops Q (o::rest) a w:=by
 refine wpList_plain hgd λK hK=>?_;have h2:=hK _ _ (h _ (Hd (ag.setRow (cs:=c') hg.out)));unfold Oper.wp execOp;simp only[ho,hx,hy,Instr.storeAt,Instr.sureAddr,Sem.run_bind,Sem.run_pure,Result.andThen_ok,run_storeVar_row w g ty ty c c' hg.out hi hs h1];exact h2
theorem Zl{K:Act->World->Prop}(ty:TypeId)(x y:Operand)(ho:o.op=.store ty x y)(g:Nat)(c c':Array Value)
  (hx:a.eval x=.pointer (some ⟨g,0,none⟩)) (hy:a.eval y=.agg c') (hg:Hid (w.heap[g]? = some (.cells c ty (0,0)))) (hi:(P.info? ty).map (·.size)=some c'.size) (hs:c.size=c'.size) (h1:c'.all (·.oneCell')=true)
  (h:∀ w',Hid (ag g (.cells c' ty (0,0)) w w')->K (a.put o.dst undef) w'):o.wp P a w K Q:=by
 have h2:=h _ (Hd (ag.setRow (cs:=c') hg.out));unfold Oper.wp execOp;simp only[ho,hx,hy,Instr.storeAt,Instr.sureAddr,Sem.run_bind,Sem.run_pure,Result.andThen_ok,run_storeVar_row w g ty ty c c' hg.out hi hs h1];exact h2
theorem Ze(hgd:o.guard=none)(ty:TypeId)(x:Operand)(ho:o.op=.load ty x)(g:Nat)(c:Array Value)(d:TypeDesc)
  (hx:a.eval x=.pointer (some ⟨g,0,none⟩)) (hg:Hid (w.heap[g]? = some (.cells c ty (0,0)))) (hu:P.underlying ty=some d) (hd:(match d with | .struct _ | .array _ _=>true|_=>false)=true) (hi:(P.info? ty).map (·.size)=some c.size)
  (h:wpList P ops Q rest (a.put o.dst (.agg c)) w):wpList P ops Q (o::rest) a w:=by
 refine wpList_plain hgd λK hK=>?_;have h2:=hK _ _ h;unfold Oper.wp execOp;simp only[ho,hx,Instr.loadAt,Instr.sureAddr,Sem.run_bind,Sem.run_pure,Result.andThen_ok,run_loadVar_row w g ty ty c (0,0) d hg.out hu hd hi];exact h2
end
@[irreducible] def bU:Array Value:=(cW (ZW 64 λ_=>0)).toArray
theorem Nv(w:World):(zeroValue 241).run Tryz.prog w=.ok (.agg bU) w:=kX
theorem Gc:bU.size=64:=kX
theorem MD:bU≠#[]:=λe=>by have:=Gc;rw[e] at this;cases this
theorem Kv:bU=(cW (ZW 64 λ_=>0)).toArray:=by unfold bU;rfl
structure eu (w:World) (r o:Nat) (f:Nat->bL) (W:World):Prop where
 row:W.heap[o]? = some (.cells (cW (ZW 64 f)).toArray 241 (0,0))
 res:W.heap[r]? = some (.cells bU 241 (0,0))
 bel:Below w.heap.size w W
theorem eu.drawn{w:World}{r o:Nat}{f:Nat->bL}{W W':World}(h:eu w r o f W)(hd:eP W W'):eu w r o f W':=by
 obtain⟨n,rfl⟩:=hd;exact⟨h.row,h.res,below_drewN h.bel n⟩
theorem eu.set{w:World}{r o:Nat}{f:Nat->bL}{W:World}(h:eu w r o f W)(h1:r≠o)(h3:w.heap.size<=o)(j:Nat)(x:bL) :
  eu w r o (λi=>if i=j then x else f i) (W.setCell ⟨o,j,none⟩ (.int .u32 (wn x))):=by
 have hu:=(ag.refl h.row).setCell (j:=j) (.int .u32 (wn x));refine⟨?_,(hu.block r h1).trans h.res,h.bel.trans (hu.below h3)⟩;rw[<-Gx,<-Tu];exact hu.here
theorem eu.congr{w:World}{r o:Nat}{f g:Nat->bL}{W:World}(h:eu w r o f W)(e:∀ i,i<64->f i=g i):eu w r o g W:=
 ⟨by rw[<-YR e];exact h.row,h.res,h.bel⟩
theorem eu.cell{w:World}{r o:Nat}{f:Nat->bL}{W:World}(h:eu w r o f W){j:Nat}(hj:j<64):W.cell? ⟨o,j,none⟩=some (.int .u32 (wn (f j))):=by
 rw[Za h.row,N6 hj]
theorem eu.free{w:World}{r o:Nat}{f:Nat->bL}{W:World}(h:eu w r o f W)(j:Nat):W.frozen? ⟨o,j,none⟩=false:=Zg h.row _
def QP(o t:Nat)(bs:List UInt8)(W:World):Prop:=∀ i,i<t->W.cell? ⟨o,i,none⟩=some (.int .u32 (wn (ed bs i)))
def QZ(b:List UInt8)(t j i:Nat):bL:=if i<t then Jb b i else if i=t then JP b t j else 0
def Qk(b:List UInt8)(t i:Nat):bL:=if i<t then ed b i else 0
theorem Gb(b:List UInt8):ZW 64 (QZ b 0 0)=ZW 64 λ_=>0:=by
 refine YR λi _=>?_;unfold QZ;rw[if_neg (Nat.not_lt_zero i)];split<;>rfl
theorem Pq(b:List UInt8)(t j:Nat):QZ b t j t=JP b t j:=by
 unfold QZ;rw[if_neg (Nat.lt_irrefl t),if_pos rfl]
theorem Mi(b:List UInt8)(t j j':Nat):∀ i,i<64->(if i=t then JP b t j' else QZ b t j i)=QZ b t j' i:=by
 intro i _;unfold QZ;by_cases h:i=t
 ·subst h;rw[if_pos rfl,if_neg (Nat.lt_irrefl i),if_pos rfl]
 ·rw[if_neg h,if_neg h,if_neg h]
theorem GX(b:List UInt8)(t:Nat):∀ i,i<64->QZ b t 4 i=QZ b (t+1) 0 i:=by
 intro i _;unfold QZ;by_cases h:i<t
 ·rw[if_pos h,if_pos aB]
 ·rw[if_neg h];by_cases h2:i=t
  ·subst h2;rw[if_pos rfl,if_pos aB,M6]
  ·rw[if_neg h2,if_neg aB];split<;>rfl
theorem Nz(b:List UInt8):∀ i,i<64->QZ b 16 0 i=Qk b 16 i:=by
 intro i _;unfold QZ Qk;by_cases h:i<16
 ·rw[if_pos h,if_pos h,CT b i h]
 ·rw[if_neg h,if_neg h];split<;>rfl
theorem KY(b:List UInt8)(t:Nat):∀ i,i<64->(if i=t then ed b t else Qk b t i)=Qk b (t+1) i:=by
 intro i _;unfold Qk;by_cases h:i=t
 ·subst h;rw[if_pos rfl,if_pos aB]
 ·rw[if_neg h];by_cases h2:i<t
  ·rw[if_pos h2,if_pos aB]
  ·rw[if_neg h2,if_neg aB]
theorem T7(b:List UInt8):ZW 64 (Qk b 64)=ZW 64 (ed b):=YR λi hi=>by unfold Qk;rw[if_pos hi]
theorem PS(a:Option Addr)(ca:Nat)(bs:List UInt8)(w:World)(ha:aJ w a ca bs)(h64:bs.length=64) :
  Calls Tryz.prog 176 #[.slice a 64 ca] w λe w'=>e=.returned (.agg (cW (ZW 64 (ed bs))).toArray)/\Below w.heap.size w w':=by
 have zr:=Nv;have zn:=MD;have hca:=ha.len;rw[h64] at hca;obtain⟨b0,off,rfl,_⟩:=ha.row 0 aB;have hcell:∀ W,Below w.heap.size w W->∀ i,i<64->W.cell? ⟨b0,off+i,none⟩=some (.int .u8 ((cf bs i).toNat:Int)):=by
  intro W hW i hi;obtain⟨b',off',e,hc⟩:=(ha.below hW).row i aB;cases e;exact hc
 replace hcell:=Hd hcell;have ha0:=Hd ha;replace h64:=Hd h64;obtain⟨W0,hW0⟩:∃ W0,W0=((w.alloc (.cells bU 241)).alloc (.cells bU 241)):=⟨_,rfl⟩;have q0:W0.heap[w.heap.size]? = some (.cells bU 241 (0,0)):=by
  rw[hW0,Below.heap_alloc _ _ _ sX];exact heap_alloc_new w _
 have q1:W0.heap[w.heap.size+1]? = some (.cells bU 241 (0,0)):=by
  have:=heap_alloc_new (w.alloc (.cells bU 241)) (.cells bU 241);rw[<-hW0] at this;simpa using this
 have q3:Below w.heap.size w W0:=by rw[hW0];exact((Below.refl w.heap.size w).alloc nZ _).alloc sX _
 replace hW0:=Hd hW0;replace q0:=Hd q0;replace q1:=Hd q1;replace q3:=Hd q3;clear ha;go_enter Tryz.func176,Tryz.ntmps176;go_wp2_with fail;rw[<-hW0.out];obtain⟨o0,ho0⟩:=aA (w.heap.size+1);obtain⟨r0,hr0⟩:=aA w.heap.size;have hro:r0≠o0:=aB;have qi:w.heap.size<=o0:=aB;rw[<-ho0] at q1 ⊢;rw[<-hr0] at q0 ⊢;have hrb:=Hd (show w.heap.size<=r0 from by omega);have hI:=Hd (show eu w r0 o0 (QZ bs 0 0) W0 from⟨by rw[Gb,<-Kv];exact q1.out,q0.out,q3.out⟩);replace hro:=Hd hro;replace qi:=Hd qi;clear ho0 hr0 q0 q1 q3 zr zn hW0;go_loopw [4,6,8] (λ_ _ j wr=>∃ t:Nat,t<=16/\j=.int .i64 t/\eu w r0 o0 (QZ bs t 0) wr)
  (λ_ _ j _=>16-(intOf j).toNat)
 case atStart=>exact⟨0,Nat.zero_le _,rfl,hI.out⟩
 case round=>
  clear hI;obtain⟨t,ht,rfl,hI⟩:=hrel;by_cases hlt:t<16
  ·have k1:=IntWalk.i64_in (4*(t:Int)) aB;have k2:=IntWalk.i64_in (4*(t:Int)+4) aB;have k3:(0:Int)<=4*(t:Int):=aB;have k4:4*(t:Int)+4<=(ca:Int):=aB;have k5:(4*(t:Int)).toNat=4*t:=aB;have k6:(4*(t:Int)+4).toNat-4*t=4:=aB;have k7:4*(t:Int)<=4*(t:Int)+4:=aB;have hnx:=Hd (GX bs t);replace hI:=Hd hI;have hdt:decide ((t:Int)<16)=true:=decide_eq_true aB;go_wp2_with fail;try rw[hdt]
   go_loopw [6,19] (λ_ j wq=>∃ m:Nat,m<=4/\j=.int .i64 m/\eu w r0 o0 (QZ bs t m) wq)
    (λ_ j _=>4-(intOf j).toNat)
   case atStart=>exact⟨0,Nat.zero_le _,rfl,hI.out⟩
   case round=>
    clear hI;obtain⟨m,hm,rfl,hI⟩:=hrel;by_cases hmm:m<4
    ·have cx:=hcell.out wr hI.bel (4*t+m) aB;rw[<-Nat.add_assoc] at cx;have c1:=hI.cell (j:=t) aB;rw[Pq] at c1;have f1:=hI.free t;have hor:=Bu (JP bs t m) (cf bs (4*t+m));have hnx2:=Hd (eu.congr (hI.set hro.out qi.out t (JP bs t (m+1))) (Mi bs t m (m+1)));rw[show (JP bs t m <<< 8) ||| (cf bs (4*t+m)).toUInt32=JP bs t (m+1) from rfl] at hor;generalize JP bs t (m+1)=y at*;generalize JP bs t m=x at*;generalize cf bs (4*t+m)=c at*;replace hI:=Hd hI;go_wp2_with fail;go_roundw
     case rel=>exact⟨m+1,aB,by go_num,hnx2.out⟩
     case measure=>simp[intOf];omega
    ·obtain rfl:m=4:=aB;have hI2:=Hd (hI.congr hnx.out);go_wp2_with fail;go_roundw
     case rel=>exact⟨t+1,aB,by go_num,hI2.out⟩
     case measure=>simp[intOf];omega
  ·obtain rfl:t=16:=aB;have hI:=Hd (hI.congr (Nz bs));go_wp2_with fail;rw[show ((16:Nat):Int)=16 from rfl];go_loopw [7] (λtt wq=>∃ t:Nat,16<=t/\t<=64/\tt=.int .i64 t/\eu w r0 o0 (Qk bs t) wq)
    (λtt _=>64-(intOf tt).toNat)
   case atStart=>exact⟨16,Nat.le_refl _,aB,rfl,hI.out⟩
   case round=>
    clear hI;obtain⟨t,ht1,ht2,rfl,hI⟩:=hrel;by_cases hlt:t<64
    ·have k1:=IntWalk.i64_in ((t:Int)-2) aB;have k2:=IntWalk.i64_in ((t:Int)-7) aB;have k3:=IntWalk.i64_in ((t:Int)-15) aB;have k4:=IntWalk.i64_in ((t:Int)-16) aB;have n1:((t:Int)-2).toNat=t-2:=aB;have n2:((t:Int)-7).toNat=t-7:=aB;have n3:((t:Int)-15).toNat=t-15:=aB;have n4:((t:Int)-16).toNat=t-16:=aB;have l1:(0:Int)<=(t:Int)-2:=aB;have l2:(0:Int)<=(t:Int)-7:=aB;have l3:(0:Int)<=(t:Int)-15:=aB;have l4:(0:Int)<=(t:Int)-16:=aB;have m1:(2:Int)<=(t:Int):=aB;have m2:(7:Int)<=(t:Int):=aB;have m3:(15:Int)<=(t:Int):=aB;have m4:(16:Int)<=(t:Int):=aB;have u1:(t:Int)-2<64:=aB;have u2:(t:Int)-7<64:=aB;have u3:(t:Int)-15<64:=aB;have u4:(t:Int)-16<64:=aB;have ca1:∀ W,QP o0 t bs W->W.cell? ⟨o0,t-2,none⟩=some (.int .u32 (wn (ed bs (t-2)))):=λW h=>h _ aB;have cb1:∀ W,QP o0 t bs W->W.cell? ⟨o0,t-7,none⟩=some (.int .u32 (wn (ed bs (t-7)))):=λW h=>h _ aB;have cc1:∀ W,QP o0 t bs W->W.cell? ⟨o0,t-15,none⟩=some (.int .u32 (wn (ed bs (t-15)))):=λW h=>h _ aB;have cd1:∀ W,QP o0 t bs W->W.cell? ⟨o0,t-16,none⟩=some (.int .u32 (wn (ed bs (t-16)))):=λW h=>h _ aB;have yI:∀ W,eu w r0 o0 (Qk bs t) W->QP o0 t bs W:=λW h=>by
      intro i hi;rw[h.cell aB];unfold Qk;rw[if_pos hi]
     have hSb:∀ W,eu w r0 o0 (Qk bs (t+1)) W->QP o0 t bs W:=λW h=>by
      intro i hi;rw[h.cell aB];unfold Qk;rw[if_pos aB]
     have OV:=Ta bs t ht1;have hfin:=KY bs t;rw[OV] at hfin;replace hfin:=Hd hfin;clear OV;generalize ed bs (t-2)=xa at*;generalize ed bs (t-7)=xb at*;generalize ed bs (t-15)=xc at*;generalize ed bs (t-16)=xd at*;have a1:=QG (Xd xa) xb;have a2:=QG (Xd xa+xb) (X9 xc);have a3:=QG (Xd xa+xb+X9 xc) xd;have hI:=Hd hI;have hS0:=yI _ (hI.out.drawn ⟨1,rfl⟩);go_wp2_with fail;refine wp_region_held_drew (S:=QP o0 t bs) kX hS0 (λaD=>?_);replace hI:=Hd (hI.out.drawn (show eP wr wr.drew from⟨1,rfl⟩));generalize wr.drew=wr at aD hI ⊢;refine tk 0 aD ?_;refine tk 1 aD ?_;refine tk 2 aD ?_;refine tk 3 aD ?_;refine tk 4 aD ?_;refine tk 6 aD ?_;refine tk 7 aD ?_;refine tk 8 aD ?_;refine tk 9 aD ?_;refine tk 11 aD ?_;refine tk 12 aD ?_;refine tk 13 aD ?_;refine tk 14 aD ?_;refine tk 17 aD ?_;refine tk 18 aD ?_;refine tk 19 aD ?_;refine tk 20 aD ?_;refine fZ [5] ?_;refine AllReadyH.cons jr (λK hK=>?_) AllReadyH.nil;go_simp;with_reducible refine(Wf xa _).mono ?_
     rintro e w4 ⟨rfl,hd⟩;replace hI:=Hd (hI.out.drawn hd);have yJ:=yI _ hI.out;clear hd;go_wp2_with fail;refine hK.out _ _ yJ (λhNext=>?_);clear yJ;clear hK K aD;have aD:=hNext;clear hNext;try simp only[Act.put,sL,sZ,sS]
     refine tk 10 aD ?_;refine fZ [15] ?_;refine AllReadyH.cons jr (λK hK=>?_) AllReadyH.nil;go_simp;with_reducible refine(WM xc _).mono ?_
     rintro e w4 ⟨rfl,hd⟩;replace hI:=Hd (hI.out.drawn hd);have yJ:=yI _ hI.out;clear hd;go_wp2_with fail;refine hK.out _ _ yJ (λhNext=>?_);clear yJ;clear hK K aD;have aD:=hNext;clear hNext;try simp only[Act.put,sL,sZ,sS]
     refine tk 16 aD ?_;refine tk 21 aD ?_;refine tk 22 aD ?_;refine fZ [23] ?_;refine AllReadyH.cons jr (λK hK=>?_) AllReadyH.nil;have c1:=hI.out.cell (j:=t) aB;have f1:=hI.out.free t;go_simp;have og:=Hd (eu.congr (hI.out.set hro.out qi.out t (Xd xa+xb+X9 xc+xd)) hfin.out);have hS6:=hSb _ og.out;refine hK.out _ _ hS6 (λhNext=>?_);clear hK K aD;have aD:=hNext;clear hNext;try simp only[Act.put,sL,sZ,sS]
     refine bz ?_;go_wp2_with fail;exact⟨⟨t+1,aB,aB,by go_num,og.out⟩,by simp[intOf];omega⟩
    ·obtain rfl:t=64:=aB;have hrw:=hI.row;rw[T7] at hrw;have hrs:=hI.res;have hbl:=Hd hI.bel;have hu0:Tryz.prog.underlying 241=some (.array 64 239):=Tryz.underlying241;have hone:=HP (ZW 64 (ed bs));have hsz:(Tryz.prog.info? 241).map (·.size)=some (cW (ZW 64 (ed bs))).toArray.size:=by
      rw[List.size_toArray,Kl,Xe];kernel_rfl
     have hs2:bU.size=(cW (ZW 64 (ed bs))).toArray.size:=by rw[Gc,List.size_toArray,Kl,Xe]
     generalize hC:(cW (ZW 64 (ed bs))).toArray=C at*;replace hrw:=Hd hrw;replace hrs:=Hd hrs;go_wp2_with (first|with_reducible refine Ze rfl 241 (.tmp 3) rfl o0 C (.array 64 239) rfl hrw hu0 rfl hsz ?_|with_reducible refine Zd rfl 241 (.tmp 2) (.tmp 61) rfl r0 bU C rfl rfl hrs hsz hs2 hone ?_);intro w8 hU;go_wp2_with fail;exact Z2 rfl rfl hu0 rfl hsz hU.out.here ⟨by rw[hC],hbl.out.trans (hU.out.below hrb.out)⟩
def sAt(s:S8):Nat->bL
 | 0=>s.a
 | 1=>s.b
 | 2=>s.c
 | 3=>s.d
 | 4=>s.e
 | 5=>s.f
 | 6=>s.g
 | 7=>s.h
 | _=>0
def c8(s:S8):Array Value:=(cW (ZW 8 (sAt s))).toArray
theorem Tr(s:S8):c8 s=#[.int .u32 (wn s.a),.int .u32 (wn s.b),.int .u32 (wn s.c),.int .u32 (wn s.d),.int .u32 (wn s.e),.int .u32 (wn s.f),.int .u32 (wn s.g),.int .u32 (wn s.h)]:=rfl
theorem Vi(s:S8):(c8 s).size=8:=rfl
theorem Ut(s:S8):(c8 s).all (·.oneCell')=true:=HP _
theorem GK(s:S8){i:Nat}(h:i<8):(c8 s)[i]? = some (.int .u32 (wn (sAt s i))):=N6 h
theorem Bd(a b c d e f g h kk ww:bL):(Obj.cells #[.int .u32 (wn (h+Qy e+iV e f g+kk+ww+(X1 a+X0 a b c))),.int .u32 (wn a),.int .u32 (wn b),.int .u32 (wn c),.int .u32 (wn (d+(h+Qy e+iV e f g+kk+ww))),.int .u32 (wn e),.int .u32 (wn f),.int .u32 (wn g)] 273 (0,0))=
  .cells (cW (ZW 8 (sAt (Uv ⟨a,b,c,d,e,f,g,h⟩ kk ww)))).toArray 273 (0,0):=by
 have e1:Uv ⟨a,b,c,d,e,f,g,h⟩ kk ww=⟨h+Qy e+iV e f g+kk+ww+(X1 a+X0 a b c),a,b,c,d+(h+Qy e+iV e f g+kk+ww),e,f,g⟩:=rfl;rw[e1];generalize h+Qy e+iV e f g+kk+ww=t1;generalize t1+(X1 a+X0 a b c)=x0;generalize d+t1=x4;rfl
@[irreducible] def dL:Array Value:=(cW (ZW 8 λ_=>0)).toArray
theorem M0(w:World):(zeroValue 273).run Tryz.prog w=.ok (.agg dL) w:=kX
theorem Jf:dL.size=8:=kX
theorem Gq:dL≠#[]:=λe=>by have:=Jf;rw[e] at this;cases this
def bP(w:World):Prop:=∀ t,t<64->w.cell? ⟨23,t,none⟩=some (.int .u32 (wn (oZ t)))
theorem bP.below{w w':World}(h:bP w)(hb:Below w.heap.size w w'):bP w':=λt ht=>(hb.cell (World.block_lt_of_cell? w _ (h t ht))).trans (h t ht)
theorem Fl(f:Nat->bL)(t:Nat)(h:t<64)(w:World):(Instr.index 241 (.agg (cW (ZW 64 f)).toArray) (.int .i64 (t:Int))).run Tryz.prog w=.ok (.int .u32 (wn (f t))) w:=by
 have hs:(sizeOf 239).run Tryz.prog w=.ok 1 w:=kX;have hp:(part 239 (cW (ZW 64 f)).toArray t).run Tryz.prog w=.ok (.int .u32 (wn (f t))) w:=by
  simp[part,isAgg,run_underlying Tryz.underlying239];have:=N6 (f:=f) h;simp at this;simp[this]
 have ht:(t:Int)<64:=aB;simp[Instr.index,asIntOf,run_underlying Tryz.underlying241,hs,hp,h]
structure fu (w:World) (p q o:Nat) (f:Nat->bL) (s:S8) (W:World):Prop where
 row:W.heap[p]? = some (.cells (cW (ZW 8 f)).toArray 273 (0,0))
 res:W.heap[q]? = some (.cells dL 273 (0,0))
 was:W.heap[o]? = some (.cells (c8 s) 273 (0,0))
 bel:Below w.heap.size w W
theorem fu.drewN{w:World}{p q o:Nat}{f:Nat->bL}{s:S8}{W:World}(h:fu w p q o f s W)(n:Nat):fu w p q o f s (W.drewN n):=⟨h.row,h.res,h.was,below_drewN h.bel n⟩
theorem fu.upd{w:World}{p q o:Nat}{f g:Nat->bL}{s:S8}{W W':World}(h:fu w p q o f s W)(hu:ag p (.cells (cW (ZW 8 g)).toArray 273 (0,0)) W W')(h1:q≠p)(h2:o≠p)(h3:w.heap.size<=p):fu w p q o g s W':=
 ⟨hu.here,(hu.block q h1).trans h.res,(hu.block o h2).trans h.was,h.bel.trans (hu.below h3)⟩
theorem fu.cell{w:World}{p q o:Nat}{f:Nat->bL}{s:S8}{W:World}(h:fu w p q o f s W){j:Nat}(hj:j<8):W.cell? ⟨p,j,none⟩=some (.int .u32 (wn (f j))):=by
 rw[Za h.row,N6 hj]
theorem fu.wasAt{w:World}{p q o:Nat}{f:Nat->bL}{s:S8}{W:World}(h:fu w p q o f s W){j:Nat}(hj:j<8):W.cell? ⟨o,j,none⟩=some (.int .u32 (wn (sAt s j))):=by
 rw[Za h.was,GK s hj]
theorem fu.free{w:World}{p q o:Nat}{f:Nat->bL}{s:S8}{W:World}(h:fu w p q o f s W)(j:Nat):W.frozen? ⟨p,j,none⟩=false:=Zg h.row _
def XH(r s:S8)(k i:Nat):bL:=if i<k then sAt r i+sAt s i else sAt r i
theorem Mu(r s:S8)(k:Nat):ZW 8 (λi=>if i=k then sAt r k+sAt s k else XH r s k i)=ZW 8 (XH r s (k+1)):=by
 refine YR λi _=>?_;unfold XH;by_cases h:i=k
 ·subst h;rw[if_pos rfl,if_pos aB]
 ·rw[if_neg h];by_cases h2:i<k
  ·rw[if_pos h2,if_pos aB]
  ·rw[if_neg h2,if_neg aB]
theorem P3(r s:S8):ZW 8 (XH r s 8)=ZW 8 (sAt (Hc r s)):=by
 refine YR λi hi=>?_;unfold XH;rw[if_pos hi];match i,hi with
 | 0,_=>rfl
 | 1,_=>rfl
 | 2,_=>rfl
 | 3,_=>rfl
 | 4,_=>rfl
 | 5,_=>rfl
 | 6,_=>rfl
 | 7,_=>rfl
theorem Pu(r s:S8):ZW 8 (XH r s 0)=ZW 8 (sAt r):=by
 refine YR λi _=>?_;unfold XH;rw[if_neg (Nat.not_lt_zero i)]
theorem GT(s:S8)(a:Option Addr)(ca:Nat)(bs:List UInt8)(w:World)(ha:aJ w a ca bs)(h64:bs.length=64)(hK:bP w) :
  Calls Tryz.prog 165 #[.agg (c8 s),.slice a 64 ca] w λe w'=>e=.returned (.agg (c8 (QH s bs)))/\Below w.heap.size w w':=by
 have zr:=M0;have zn:=Gq;have hu0:Tryz.prog.underlying 273=some (.array 8 239):=Tryz.underlying273;have hsz:∀ s,(Tryz.prog.info? 273).map (·.size)=some (c8 s).size:=λs=>by kernel_rfl
 have hs0:dL.size=(c8 s).size:=by rw[Jf,Vi]
 have hone:=Ut s;replace ha:=Hd ha;replace h64:=Hd h64;have wM:=Hd hK;have hend:=Hd (show Hc (ZT bs s 64) s=QH s bs from rfl);have hsp:=Hd (λw h=>PS a ca bs w h h64.out);have hr0:=Hd (show ZT bs s 0=s from rfl);have hrw:=Hd (show (w.alloc (.cells (c8 s) 273)).heap[w.heap.size]? = some (.cells (c8 s) 273 (0,0)) from heap_alloc_new w _);obtain⟨A1,hA1⟩:∃ A,A=w.alloc (.cells (c8 s) 273):=⟨_,rfl⟩;obtain⟨A2,hA2⟩:∃ A,A=A1.alloc (.cells dL 273):=⟨_,rfl⟩;obtain⟨A3,hA3⟩:∃ A,A=A2.alloc (.cells dL 273):=⟨_,rfl⟩;have z1:A1.heap.size=w.heap.size+1:=by rw[hA1];simp
 have z2:A2.heap.size=w.heap.size+2:=by rw[hA2];simp[z1]
 have p1:A1.heap[w.heap.size]? = some (.cells (c8 s) 273 (0,0)):=by rw[hA1];exact heap_alloc_new w _
 have p2:A2.heap[w.heap.size]? = some (.cells (c8 s) 273 (0,0)):=by rw[hA2,Below.heap_alloc _ _ _ aB];exact p1
 have q2:A2.heap[w.heap.size+1]? = some (.cells dL 273 (0,0)):=by rw[hA2,<-z1];exact heap_alloc_new A1 _
 have p3:A3.heap[w.heap.size]? = some (.cells (c8 s) 273 (0,0)):=by rw[hA3,Below.heap_alloc _ _ _ aB];exact p2
 have q3:A3.heap[w.heap.size+1]? = some (.cells dL 273 (0,0)):=by rw[hA3,Below.heap_alloc _ _ _ aB];exact q2
 have o3:A3.heap[w.heap.size+2]? = some (.cells dL 273 (0,0)):=by rw[hA3,<-z2];exact heap_alloc_new A2 _
 have b3:Below w.heap.size w A3:=by rw[hA3,hA2,hA1];exact(((Below.refl w.heap.size w).alloc nZ _).alloc sX _).alloc bf _
 rw[hA2,hA1] at hA3;rw[hA2,hA1] at p2;replace p2:=Hd p2;replace p3:=Hd p3;replace q3:=Hd q3;rw[hA3] at o3;replace o3:=Hd o3;replace hA3:=Hd hA3;replace b3:=Hd b3;have qj:=hsz s;clear hA1 hA2 z1 z2 p1 q2 hrw;generalize hC:c8 s=C at*;go_enter Tryz.func165,Tryz.ntmps165;go_wp2_with (first|with_reducible refine Ze rfl 273 (.tmp 2) rfl w.heap.size C (.array 8 239) rfl p2 hu0 rfl qj ?_|with_reducible refine Zd rfl 273 (.tmp 5) (.tmp 13) rfl (w.heap.size+2) dL C rfl rfl o3 qj hs0 hone ?_);intro W0 hU;obtain⟨p0,hp0⟩:∃ p,p=w.heap.size:=⟨_,rfl⟩;obtain⟨q0,hq0⟩:∃ q,q=w.heap.size+1:=⟨_,rfl⟩;obtain⟨o0,ho0⟩:∃ o,o=w.heap.size+1+1:=⟨_,rfl⟩;have hqp:q0≠p0:=aB;have hop:o0≠p0:=aB;have hpb:w.heap.size<=p0:=aB;have hqb:=Hd (show w.heap.size<=q0 from by omega);have hoe:w.heap.size+2=o0:=aB;have hI:fu w p0 q0 o0 (sAt s) s W0:=by
  have gQ:=hU.out;rw[hoe] at gQ;rw[<-hA3.out] at gQ;have oh:=gQ.here;rw[<-hC] at oh;refine⟨?_,?_,oh,b3.out.trans (gQ.below aB)⟩
  ·rw[gQ.block p0 (λe=>hop e.symm),hp0,p3.out,<-hC];rfl
  ·rw[gQ.block q0 aB,hq0];exact q3.out
 rw[<-ho0,<-hq0,<-hp0];replace hI:=Hd hI;replace hqp:=Hd hqp;replace hop:=Hd hop;replace hpb:=Hd hpb;clear hp0 hq0 ho0 hoe hU p2 p3 q3 o3 hA3 b3 zr zn;go_wp2_with fail;with_reducible refine(hsp.out _ (ha.out.below hI.out.bel)).mono ?_
 rintro e w2 ⟨rfl,hd⟩;have hI2:fu w p0 q0 o0 (sAt s) s w2:=⟨(hd.block _ (Zb hI.out.row)).trans hI.out.row,(hd.block _ (Zb hI.out.res)).trans hI.out.res,(hd.block _ (Zb hI.out.was)).trans hI.out.was,hI.out.bel.trans (hd.mono hI.out.bel.size)⟩;replace hI:=Hd hI2;have hidx:=λt h w=>Fl (ed bs) t h w;replace hidx:=Hd hidx;clear hI2 hd hsp ha hK;generalize (cW (ZW 64 (ed bs))).toArray=CW at*;go_wp2_with fail;go_loopw [6,7,8,9,10,11,16] (λ_ _ _ _ _ _ j wr=>∃ t:Nat,t<=64/\j=.int .i64 t/\fu w p0 q0 o0 (sAt (ZT bs s t)) s wr)
  (λ_ _ _ _ _ _ j _=>64-(intOf j).toNat)
 case atStart=>exact⟨0,Nat.zero_le _,rfl,hI.out⟩
 case round=>
  clear hI;obtain⟨t,ht,rfl,hI⟩:=hrel;by_cases hlt:t<64
  ·have hk:=λn=>(show (wr.drewN n).cell? ⟨23,t,none⟩=some (.int .u32 (wn (oZ t))) from wM.out.below hI.bel t hlt);have hk0:=wM.out.below hI.bel t hlt;have hix:=hidx.out t hlt;have hnx:=Hd (show ZT bs s (t+1)=Uv (ZT bs s t) (oZ t) (ed bs t) from rfl);have e0:=hI.cell (j:=0) aB;have e1:=hI.cell (j:=1) aB;have e2:=hI.cell (j:=2) aB;have e3:=hI.cell (j:=3) aB;have e4:=hI.cell (j:=4) aB;have e5:=hI.cell (j:=5) aB;have e6:=hI.cell (j:=6) aB;have e7:=hI.cell (j:=7) aB;have hrow:=Hd hI.row;generalize ZT bs s t=r at*;obtain⟨ra,rb,rc,ry,re,rf,rg,rh⟩:=r;simp only[sAt] at e0 e1 e2 e3 e4 e5 e6 e7;have htk:(t:Int)<64:=aB;have b1:=J6 re rf;have b2:bits BinOp.xor IntKind.u32 IntKind.u32.max (wn re)=wn (~~~re):=C7 re;have b3:=J6 (~~~re) rg;have b4:=Yi (re &&& rf) (~~~re &&& rg);have b5:=J6 ra rb;have b6:=J6 ra rc;have b7:=Yi (ra &&& rb) (ra &&& rc);have b8:=J6 rb rc;have b9:=Yi ((ra &&& rb) ^^^ (ra &&& rc)) (rb &&& rc);rw[show (re &&& rf) ^^^ (~~~re &&& rg)=iV re rf rg from rfl] at b4;rw[show ((ra &&& rb) ^^^ (ra &&& rc)) ^^^ (rb &&& rc)=X0 ra rb rc from rfl] at b9;have d1:=QG rh (Qy re);have d2:=QG (rh+Qy re) (iV re rf rg);have d3:=QG (rh+Qy re+iV re rf rg) (oZ t);have d4:=QG (rh+Qy re+iV re rf rg+oZ t) (ed bs t);have d5:=QG (X1 ra) (X0 ra rb rc);have d6:=QG (rh+Qy re+iV re rf rg+oZ t+ed bs t) (X1 ra+X0 ra rb rc);have d7:=QG ry (rh+Qy re+iV re rf rg+oZ t+ed bs t);replace hI:=Hd hI;generalize oZ t=kk at*;generalize ed bs t=ww at*;go_wp2_with fail
   go_quiet ((go_at_call 177;with_reducible exact G0 (Be re _)));go_wp2_with fail;with_reducible refine(Bw ra _).mono ?_
   rintro e w6 ⟨rfl,rfl⟩;have hrw2:Hid ((wr.drewN nq).heap[p0]? = some (.cells (cW (ZW 8 (sAt ⟨ra,rb,rc,ry,re,rf,rg,rh⟩))).toArray 273 (0,0))):=Hd hrow.out;have sW:(Tryz.prog.info? 273).map (·.size)=some (#[.int .u32 (wn (rh+Qy re+iV re rf rg+kk+ww+(X1 ra+X0 ra rb rc))),.int .u32 (wn ra),.int .u32 (wn rb),.int .u32 (wn rc),.int .u32 (wn (ry+(rh+Qy re+iV re rf rg+kk+ww))),.int .u32 (wn re),.int .u32 (wn rf),.int .u32 (wn rg)]:Array Value).size:=hsz ⟨rh+Qy re+iV re rf rg+kk+ww+(X1 ra+X0 ra rb rc),ra,rb,rc,ry+(rh+Qy re+iV re rf rg+kk+ww),re,rf,rg⟩;have je:(cW (ZW 8 (sAt ⟨ra,rb,rc,ry,re,rf,rg,rh⟩))).toArray.size=(#[.int .u32 (wn (rh+Qy re+iV re rf rg+kk+ww+(X1 ra+X0 ra rb rc))),.int .u32 (wn ra),.int .u32 (wn rb),.int .u32 (wn rc),.int .u32 (wn (ry+(rh+Qy re+iV re rf rg+kk+ww))),.int .u32 (wn re),.int .u32 (wn rf),.int .u32 (wn rg)]:Array Value).size:=by rw[List.size_toArray,Kl,Xe];rfl
   have hoE:(#[.int .u32 (wn (rh+Qy re+iV re rf rg+kk+ww+(X1 ra+X0 ra rb rc))),.int .u32 (wn ra),.int .u32 (wn rb),.int .u32 (wn rc),.int .u32 (wn (ry+(rh+Qy re+iV re rf rg+kk+ww))),.int .u32 (wn re),.int .u32 (wn rf),.int .u32 (wn rg)]:Array Value).all (·.oneCell')=true:=Ut ⟨rh+Qy re+iV re rf rg+kk+ww+(X1 ra+X0 ra rb rc),ra,rb,rc,ry+(rh+Qy re+iV re rf rg+kk+ww),re,rf,rg⟩;go_wp2_with (with_reducible refine Zd rfl 273 (.tmp 2) (.tmp 87) rfl p0 _ #[.int .u32 (wn (rh+Qy re+iV re rf rg+kk+ww+(X1 ra+X0 ra rb rc))),.int .u32 (wn ra),.int .u32 (wn rb),.int .u32 (wn rc),.int .u32 (wn (ry+(rh+Qy re+iV re rf rg+kk+ww))),.int .u32 (wn re),.int .u32 (wn rf),.int .u32 (wn rg)] rfl rfl hrw2 sW je hoE ?_);intro w7 aZ;have hI7:=Hd ((hI.out.drewN nq).upd (g:=sAt (Uv ⟨ra,rb,rc,ry,re,rf,rg,rh⟩ kk ww)) (aZ.out.to (Bd _ _ _ _ _ _ _ _ _ _)) hqp.out hop.out hpb.out);go_wp2_with fail;go_roundw
   case rel=>exact⟨t+1,aB,by go_num,by rw[hnx.out];exact hI7.out⟩
   case measure=>simp[intOf];omega
  ·obtain rfl:t=64:=aB;have hI2:=Hd (show fu w p0 q0 o0 (sAt (ZT bs s 64)) s wr from hI);have hfull:=Hd (P3 (ZT bs s 64) s);rw[hend.out] at hfull;have hI3:fu w p0 q0 o0 (XH (ZT bs s 64) s 0) s wr:=⟨by rw[Pu];exact hI.row,hI.res,hI.was,hI.bel⟩;generalize ZT bs s 64=r at*;replace hI3:=Hd hI3;clear hI2 hI;go_wp2_with fail;go_loopw [12,89] (λ_ j wq=>∃ k:Nat,k<=8/\j=.int .i64 k/\fu w p0 q0 o0 (XH r s k) s wq) (λ_ j _=>8-(intOf j).toNat)
   case atStart=>exact⟨0,Nat.zero_le _,rfl,hI3.out⟩
   case round=>
    clear hI3;obtain⟨k,hk,rfl,hI⟩:=hrel;by_cases hlt:k<8
    ·have c1:=hI.cell (j:=k) hlt;have c2:=hI.wasAt (j:=k) hlt;have f1:=hI.free k;rw[show XH r s k k=sAt r k from by unfold XH;rw[if_neg (Nat.lt_irrefl k)]] at c1;have ha1:=QG (sAt r k) (sAt s k);have hset:=Hd (Mu r s k);have rz:=Hd (((ag.refl (hI.drewN 1).row).setCell (j:=k) (.int .u32 (wn (sAt r k+sAt s k)))).to (show _=Obj.cells (cW (ZW 8 (XH r s (k+1)))).toArray 273 (0,0) from by rw[Tu,Gx,Mu]));have hkk:(k:Int)<8:=aB;replace hI:=Hd hI;generalize hx:sAt r k=x at*;generalize hy:sAt s k=y at*;go_wp2_with fail
     go_region
     all_goals
      go_wp2_with fail;go_roundw
      case rel=>exact⟨k+1,aB,by go_num,((hI.out.drewN 1).upd rz.out hqp.out hop.out hpb.out)⟩
      case measure=>simp[intOf];omega
    ·obtain rfl:k=8:=aB;have hrw:=hI.row;rw[hfull.out] at hrw;have hrs:=hI.res;have hbl:=Hd hI.bel;have si:=hsz (QH s bs);have hs1:dL.size=(c8 (QH s bs)).size:=by rw[Jf,Vi]
     have OW:=Ut (QH s bs);rw[show (cW (ZW 8 (sAt (QH s bs)))).toArray=c8 (QH s bs) from rfl] at hrw;generalize hD:c8 (QH s bs)=D at*;replace hrw:=Hd hrw;replace hrs:=Hd hrs;go_wp2_with (first|with_reducible refine Ze rfl 273 (.tmp 2) rfl p0 D (.array 8 239) rfl hrw hu0 rfl si ?_|with_reducible refine Zd rfl 273 (.tmp 4) (.tmp 101) rfl q0 dL D rfl rfl hrs si hs1 OW ?_);intro w8 hU;go_wp2_with fail;exact Z2 rfl rfl hu0 rfl si hU.out.here ⟨by rw[hD],hbl.out.trans (hU.out.below hqb.out)⟩
def Yh(s:S8)(a:Option Addr)(n c:Nat)(k:Int):Array Value:=
 #[.int .u32 (wn s.a),.int .u32 (wn s.b),.int .u32 (wn s.c),.int .u32 (wn s.d),.int .u32 (wn s.e),.int .u32 (wn s.f),.int .u32 (wn s.g),.int .u32 (wn s.h),.slice a n c,.int .i64 k]
structure bC (w0:World) (b:Nat) (s:S8) (a:Option Addr) (n c:Nat) (k:Int) (W:World):Prop where
 blk:W.heap[b]? = some (.cells (Yh s a n c k) 275 (0,0))
 bel:Below w0.heap.size w0 W
def YQ(b:Nat)(a:Option Addr)(n c:Nat)(W:World):Prop:=W.cell? ⟨b,8,none⟩=some (.slice a n c)
section
variable {w0:World} {b:Nat} {s:S8} {a:Option Addr} {n c:Nat} {k:Int} {W W':World}
theorem bC.restAt(h:bC w0 b s a n c k W):YQ b a n c W:=by unfold YQ;rw[Za h.blk];rfl
theorem bC.countAt(h:bC w0 b s a n c k W):W.cell? ⟨b,9,none⟩=some (.int .i64 k):=by rw[Za h.blk];rfl
theorem bC.words(h:bC w0 b s a n c k W):W.cell? ⟨b,0,none⟩=some (.int .u32 (wn s.a))/\W.cell? ⟨b,1,none⟩=some (.int .u32 (wn s.b))/\W.cell? ⟨b,2,none⟩=some (.int .u32 (wn s.c))/\W.cell? ⟨b,3,none⟩=some (.int .u32 (wn s.d))/\
  W.cell? ⟨b,4,none⟩=some (.int .u32 (wn s.e))/\W.cell? ⟨b,5,none⟩=some (.int .u32 (wn s.f))/\W.cell? ⟨b,6,none⟩=some (.int .u32 (wn s.g))/\W.cell? ⟨b,7,none⟩=some (.int .u32 (wn s.h)):=by
 refine⟨?_,?_,?_,?_,?_,?_,?_,?_⟩<;>(rw[Za h.blk];rfl)
theorem bC.free(h:bC w0 b s a n c k W)(j:Nat):W.frozen? ⟨b,j,none⟩=false:=Zg h.blk _
theorem bC.grown(h:bC w0 b s a n c k W)(hd:Below W.heap.size W W'):bC w0 b s a n c k W':=⟨(hd.block _ (Zb h.blk)).trans h.blk,h.bel.trans (hd.mono h.bel.size)⟩
theorem bC.put8(h:bC w0 b s a n c k W)(hb:w0.heap.size<=b)(s':S8):bC w0 b s' a n c k
  ((((((((W.setCell ⟨b,0,none⟩ (.int .u32 (wn s'.a))).setCell ⟨b,1,none⟩ (.int .u32 (wn s'.b))).setCell ⟨b,2,none⟩ (.int .u32 (wn s'.c))).setCell ⟨b,3,none⟩ (.int .u32 (wn s'.d))).setCell ⟨b,4,none⟩ (.int .u32 (wn s'.e))).setCell ⟨b,5,none⟩ (.int .u32 (wn s'.f))).setCell ⟨b,6,none⟩ (.int .u32 (wn s'.g))).setCell ⟨b,7,none⟩ (.int .u32 (wn s'.h))):=by
 have hu:=((((((((ag.refl h.blk).setCell (j:=0) (.int .u32 (wn s'.a))).setCell (j:=1) (.int .u32 (wn s'.b))).setCell (j:=2) (.int .u32 (wn s'.c))).setCell (j:=3) (.int .u32 (wn s'.d))).setCell (j:=4) (.int .u32 (wn s'.e))).setCell (j:=5) (.int .u32 (wn s'.f))).setCell (j:=6) (.int .u32 (wn s'.g))).setCell (j:=7) (.int .u32 (wn s'.h));have hu2:=hu.to (show _=Obj.cells (Yh s' a n c k) 275 (0,0) from by simp[Yh]);exact⟨hu2.here,h.bel.trans (hu2.below hb)⟩
theorem bC.putRest(h:bC w0 b s a n c k W)(hb:w0.heap.size<=b)(a':Option Addr)(n' c':Nat):bC w0 b s a' n' c' k (W.setCell ⟨b,8,none⟩ (.slice a' n' c')):=by
 have hu:=(ag.refl h.blk).setCell (j:=8) (.slice a' n' c');have hu2:=hu.to (show _=Obj.cells (Yh s a' n' c' k) 275 (0,0) from by simp[Yh]);exact⟨hu2.here,h.bel.trans (hu2.below hb)⟩
theorem bC.putCount(h:bC w0 b s a n c k W)(hb:w0.heap.size<=b)(k':Int):bC w0 b s a n c k' (W.setCell ⟨b,9,none⟩ (.int .i64 k')):=by
 have hu:=(ag.refl h.blk).setCell (j:=9) (.int .i64 k');have hu2:=hu.to (show _=Obj.cells (Yh s a n c k') 275 (0,0) from by simp[Yh]);exact⟨hu2.here,h.bel.trans (hu2.below hb)⟩
end
def UZ(w0:World)(b:Nat)(m:List UInt8)(W:World):Prop:=
 ∃ a n c,bC w0 b (ZP ZB m (m.length / 64)) a n c (m.length:Int) W/\aN w0.heap.size W (.slice a n c) (m.drop (64*(m.length / 64)))/\w0.heap.size<=b
def bZ(w:World):Prop:=∀ i,i<8->w.cell? ⟨22,i,none⟩=some (.int .u32 (wn (sAt ZB i)))
theorem bZ.below{w w':World}(h:bZ w)(hb:Below w.heap.size w w'):bZ w':=λt ht=>(hb.cell (World.block_lt_of_cell? w _ (h t ht))).trans (h t ht)
theorem Ex(w:World)(hF:bZ w):Calls Tryz.prog 137 #[] w λe w'=>e=.returned (.pointer (some ⟨w.heap.size,0,none⟩))/\w'=w.alloc (.cells (Yh ZB none 0 0 0) 275):=by
 have e0:=hF 0 aB;have e1:=hF 1 aB;have e2:=hF 2 aB;have e3:=hF 3 aB;have e4:=hF 4 aB;have e5:=hF 5 aB;have e6:=hF 6 aB;have e7:=hF 7 aB;clear hF;go_enter Tryz.func137,Tryz.ntmps137;go_wp2_with fail;go_ret;exact⟨rfl,rfl⟩
theorem Ca(w:World)(hF:bZ w):Calls Tryz.prog 137 #[] w λe w'=>e=.returned (.pointer (some ⟨w.heap.size,0,none⟩))/\UZ w w.heap.size [] w':=by
 refine(Ex w hF).mono ?_;rintro e w' ⟨rfl,rfl⟩;refine⟨rfl,none,0,0,⟨heap_alloc_new w _,(Below.refl w.heap.size w).alloc nZ _⟩,aN.nil _ _,Nat.le_refl _⟩
theorem aN.upd{base b:Nat}{o:Obj}{W W':World}{v:Value}{bs:List UInt8}(h:aN base W v bs)(hu:ag b o W W')(hne:∀ cur fz,W.heap[b]? ≠ some (.cells cur 5 fz)):aN base W' v bs:=by
 refine⟨h.1,?_⟩;rcases h.2 with h2|⟨g,cap,cur,e1,e2,e3,e4⟩
 ·exact .inl h2
 ·refine .inr ⟨g,cap,cur,e1,e2,?_,e4⟩;rw[hu.block g (λe=>hne cur (0,0) (by rw[<-e];exact e3))];exact e3
theorem bC.other{w0:World}{b:Nat}{s:S8}{a:Option Addr}{n c:Nat}{k:Int}{W:World}(h:bC w0 b s a n c k W):∀ cur fz,W.heap[b]? ≠ some (.cells cur 5 fz):=by
 intro cur fz e;rw[h.blk] at e;have:275=5:=by injection e with e;injection e
 exact absurd this dX
theorem Fc{base b:Nat}{W:World}{v:Value}{bs:List UInt8}(h:aN base W v bs)(hne:∀ cur fz,W.heap[b]? ≠ some (.cells cur 5 fz)):some b≠v.ownBlock:=by
 intro e;rcases h.2 with ⟨rfl,_⟩|⟨g,cap,cur,rfl,e2,e3,e4⟩
 ·simp[Value.ownBlock] at e
 ·simp[Value.ownBlock] at e;subst e;exact hne _ _ e3
section
variable {w:World} {ops:Array Oper} {rest:List Oper} {o:Oper} {a:Act} {Q:Exit->Act->World->Prop}
theorem Ba(hgd:o.guard=none)(s x:Operand)(ho:o.op=.call { callee:=.builtin .append,args:=#[s,x],argTypes:=#[24,24] })
  (base:Nat) (v:Value) (bs:List UInt8) (hs:a.eval s=v) (hown:Hid (aN base w v bs))
  (ao:Option Addr) (c:Nat) (ys:List UInt8) (m:Nat) (hx:a.eval x=.slice ao m c) (hm:Hid (ys.length=m)) (hy:Hid (aJ w ao c ys)) (hl:bs.length<=1000000) (hl2:m<=1000000) (hbase:base<=w.heap.size)
  (h:∀ v' w',Hid (aN base w' v' (bs++ys))->Hid (Below base w w')->Hid (w.grownBy w' v.ownBlock)->wpList Tryz.prog ops Q rest (a.put o.dst v') w') :
  wpList Tryz.prog ops Q (o::rest) a w:=by
 obtain⟨i0,hi,hz0,hz1,hz2⟩:=info_parts Tryz.infoByteP;refine UL hgd s x 24 ho base 5 i0 (.int .u8 0) 1 Tryz.underlying24 hi hz0 hz1 hz2 rfl v bs.length (cB bs) hs (Hd hown.out) ao m c (cB ys) hx (Hd (by rw[Zc];exact hm.out)) (Hd (At.ofB hy.out.row)) (Hd hy.out.nil) (Zw ys) kS aB hbase ?_;intro v' w' h1 h2;refine h v' w' (Hd ?_) (Hd ((Below.refl base w).grown h2.out hbase (λk hk=>(World.ownsRow.lt hown.out k hk).1))) h2;unfold aN;rw[YI,List.length_append,hm.out];exact h1.out
end
theorem GO{W:World}{g off c:Nat}{l:List UInt8}(h:aJ W (some ⟨g,off,none⟩) c l)(k:Nat)(hk:k<=l.length):aJ W (some ⟨g,off+k,none⟩) (c-k) (l.drop k):=by
 have:=h.len;have:=h.most;refine⟨by rw[List.length_drop];omega,aB,(λe=>by cases e),λi hi=>?_⟩;rw[List.length_drop] at hi;obtain⟨b',o',e,hc⟩:=h.row (k+i) aB;cases e;refine⟨g,off+k,rfl,?_⟩;rw[Nat.add_assoc,hc];simp[List.getD_eq_getElem?_getD,List.getElem?_drop]
theorem TX{W:World}{g off c:Nat}{l:List UInt8}(h:aJ W (some ⟨g,off,none⟩) c l)(k:Nat)(hk:c<=k):aJ W (some ⟨g,off,none⟩) 0 (l.drop k):=by
 have:=h.len;rw[List.drop_eq_nil_of_le aB];exact⟨Nat.le_refl _,Nat.zero_le _,(λe=>by cases e),λi hi=>by simp at hi⟩
theorem GR{w:World}{a:Option Addr}{c:Nat}{bs:List UInt8}(h:aJ w a c bs)(n:Nat)(hn:n<=bs.length):aJ w a c (bs.take n):=by
 refine⟨by rw[List.length_take];have:=h.len;omega,h.most,h.nil,?_⟩
 have:=(At.ofB h.row).take n;apply At.toB;rw[show cB (bs.take n)=(cB bs).take n from by simp[cB]];exact this
theorem YT{W:World}{c b j:Nat}{v:Value}{l:List UInt8}{a:Option Addr}(hg:∀ g' off',a=some ⟨g',off',none⟩->g'≠b)(h:aJ W a c l):aJ (W.setCell ⟨b,j,none⟩ v) a c l:=by
 refine⟨h.len,h.most,h.nil,λi hi=>?_⟩;obtain⟨g',o',e,hc⟩:=h.row i hi;refine⟨g',o',e,?_⟩;rw[World.cell?_setCell_other _ _ _ _ (λe2=>hg g' o' e (by have:=congrArg Addr.block e2;first|exact this|exact this.symm))];exact hc
theorem LJ{W:World}{g off c1:Nat}{l:List UInt8}(_:True)(h:aJ W (some ⟨g,off,none⟩) c1 l)(hl:64<=l.length):aJ W (if c1=64 then some ⟨g,off,none⟩ else some ⟨g,off+64,none⟩) (c1-64) (l.drop 64):=by
 by_cases hc:c1=64
 ·rw[if_pos hc,hc];exact TX h 64 aB
 ·rw[if_neg hc];exact GO h 64 hl
theorem CL{w0 W:World}{b:Nat}{s:S8}{a:Option Addr}{n c:Nat}{k:Int}(h:bC w0 b s a n c k W){g off c1:Nat}{l:List UInt8}(hr:aJ W (some ⟨g,off,none⟩) c1 l)(hl:0<l.length):g≠b:=by
 rintro rfl;obtain⟨b',o',e,hc⟩:=hr.row 0 hl;cases e;rw[Nat.add_zero,Za h.blk] at hc;match off with
 | 0=>simp[Yh] at hc
 | 1=>simp[Yh] at hc
 | 2=>simp[Yh] at hc
 | 3=>simp[Yh] at hc
 | 4=>simp[Yh] at hc
 | 5=>simp[Yh] at hc
 | 6=>simp[Yh] at hc
 | 7=>simp[Yh] at hc
 | 8=>simp[Yh] at hc
 | 9=>simp[Yh] at hc
 | n+10=>simp[Yh] at hc
def Ma(b:Nat)(w:World):Nat:=match w.cell? ⟨b,8,none⟩ with|some (.slice _ n _)=>n|_=>0
theorem GQ{b:Nat}{a:Option Addr}{n c:Nat}{w:World}(h:YQ b a n c w):Ma b w=n:=by unfold Ma;unfold YQ at h;rw[h]
theorem E8(w0:World)(b:Nat)(m:List UInt8)(a:Option Addr)(ca:Nat)(bs:List UInt8)(w:World)(hH:UZ w0 b m w)(ha:aJ w0 a ca bs)(hK:bP w0)(hm:m.length<=100000)(hl:bs.length<=100000) :
  Calls Tryz.prog 138 #[.pointer (some ⟨b,0,none⟩),.slice a bs.length ca] w λe w'=>e=.returned (.pointer (some ⟨b,0,none⟩))/\UZ w0 b (m++bs) w':=by
 obtain⟨a1,n1,c1,hA,hO,hbb⟩:=hH;have e8:w.cell? ⟨b,8,none⟩=some (.slice a1 n1 c1):=hA.restAt;have e9:=hA.countAt;have f8:=hA.free 8;have f9:=hA.free 9;have hA1:=Hd (hA.putCount hbb ((m.length:Int)+bs.length));have kT:=Hd (hO.upd ((ag.refl hA.blk).setCell (j:=9) (.int .i64 ((m.length:Int)+bs.length))) hA.other);have haW:=Hd (ha.below hA1.out.bel);have oD:(m.drop (64*(m.length / 64))).length<=1000000:=by rw[List.length_drop];omega
 replace ha:=Hd ha;have wM:=Hd hK;have hbb:=Hd hbb;have hsz:w0.heap.size<=(w.setCell ⟨b,9,none⟩ (.int .i64 ((m.length:Int)+bs.length))).heap.size:=hA1.out.bel.size;have hst:=Hd (V0 ZB m bs (m.length / 64) aB);have hdr:=Hd (show (m++bs).drop (64*(m.length / 64))=m.drop (64*(m.length / 64))++bs from List.drop_append_of_le_length aB);have hM:=Hd (show ((m++bs).length:Int)=(m.length:Int)+bs.length from by simp);have Ip:(m++bs).length<=200000:=by rw[List.length_append];omega
 have hq0:=Hd (show 64*(m.length / 64)<=(m++bs).length from by rw[List.length_append];omega);obtain⟨M,hMe⟩:=aA (m++bs);rw[<-hMe] at hst hdr hM Ip hq0 ⊢;replace hMe:=Hd hMe;replace Ip:=Hd Ip;replace oD:=Hd oD;clear hA hO hK;go_enter Tryz.func138,Tryz.ntmps138;go_wp2_with (at_builtin;go_must (refine Ba rfl (.tmp 18) (.tmp 19) rfl w0.heap.size _ _ rfl kT a ca bs _ rfl (Hd rfl) haW oD.out aB hsz ?_));intro v2 w2 hown2 hb2 hg2;have hA2:bC w0 b (ZP ZB M (m.length / 64)) a1 n1 c1 (M.length:Int) w2:=by
  rw[hst.out,hM.out];exact⟨(hg2.out.block b (Zb hA1.out.blk) (Fc kT.out hA1.out.other)).trans hA1.out.blk,hA1.out.bel.trans hb2.out⟩
 rw[<-hdr.out] at hown2;obtain⟨a2,c2,hv2,hR2,_⟩:=hown2.out.arg;rw[List.length_drop] at hv2;subst hv2;have f82:=hA2.free 8;have e82:w2.cell? ⟨b,8,none⟩=some (.slice a1 n1 c1):=hA2.restAt;have hA3:=Hd (hA2.putRest hbb.out a2 (M.length-64*(m.length / 64)) c2);have zQ:=Hd (show aJ (w2.setCell ⟨b,8,none⟩ (.slice a2 (M.length-64*(m.length / 64)) c2)) a2 c2 (M.drop (64*(m.length / 64))) from by
  have hO3:=hown2.out.upd ((ag.refl hA2.blk).setCell (j:=8) (.slice a2 (M.length-64*(m.length / 64)) c2)) hA2.other;obtain⟨a3,c3,hv,hR,_⟩:=hO3.arg;rw[List.length_drop] at hv;obtain⟨rfl,rfl⟩:a2=a3/\c2=c3:=by simpa using hv
  exact hR)
 clear hA1 kT hA2 hown2 hb2 hg2 hR2 hst hdr e8 e9 f8 f9 haW hM hsz;obtain⟨q1,hq1⟩:∃ q,q=m.length / 64:=⟨_,rfl⟩;rw[<-hq1] at hA3 zQ hq0 ⊢;clear hq1 oD;go_wp2_with fail;go_loopw [] (λwr=>∃ (q:Nat) (a1:Option Addr) (n1 c1:Nat),bC w0 b (ZP ZB M q) a1 n1 c1 (M.length:Int) wr/\aJ wr a1 c1 (M.drop (64*q))/\n1=M.length-64*q/\64*q<=M.length) (λwr=>Ma b wr)
 case atStart=>exact⟨q1,_,_,_,hA3.out,zQ.out,rfl,hq0.out⟩
 case round=>
  clear hA3 zQ hq0 e82 f82;obtain⟨q,a1,n1,c1,hA,hR,hn1,hq⟩:=hrel;subst hn1;have oD:=Ip.out;have zS:wr.cell? ⟨b,8,none⟩=some (.slice a1 (M.length-64*q) c1):=hA.restAt;have hlen:=hR.len;have OX:=hR.most;rw[List.length_drop] at hlen;by_cases hlt:64<=M.length-64*q
  ·obtain⟨g,off,rfl,_⟩:=hR.row 0 jH;obtain⟨r0,r1,r2,r3,r4,r5,r6,r7⟩:=hA.words;have hS0:YQ b (some ⟨g,off,none⟩) (M.length-64*q) c1 wr.drew:=zS;have zT:=λW (h:aJ W (some ⟨g,off,none⟩) c1 ((M.drop (64*q)).take 64)) (h2:bP W)=>GT (ZP ZB M q) (some ⟨g,off,none⟩) c1 ((M.drop (64*q)).take 64) W h (by rw[List.length_take,List.length_drop];omega) h2;simp only[Tr] at zT;replace zT:=Hd zT;have hag:aJ wr (some ⟨g,off,none⟩) c1 ((M.drop (64*q)).take 64):=GR hR 64 jH;have hcl:(64:Int)<=((M.length-64*q:Nat):Int):=aB;have hcc:(64:Int)<=(c1:Int):=aB;have hI:=Hd (show bC w0 b (ZP ZB M q) (some ⟨g,off,none⟩) (M.length-64*q) c1 (M.length:Int) wr.drew from⟨hA.blk,hA.bel.trans (eP.below ⟨1,rfl⟩ _)⟩);have hK1:=Hd (show bP wr.drew from wM.out.below hI.out.bel);replace hag:=Hd (show aJ wr.drew (some ⟨g,off,none⟩) c1 ((M.drop (64*q)).take 64) from hag.below (eP.below ⟨1,rfl⟩ _));have hgb:=Hd trivial;have OY:=CL hA hR jH;have lX:=Hd (show ∀ g' off',(if c1=64 then some (⟨g,off,none⟩:Addr) else some ⟨g,off+64,none⟩)=some ⟨g',off',none⟩->g'≠b from by
    intro g' off' e;split at e<;>(cases e;exact OY))
   have iH:=Hd (show YQ b (some ⟨g,off,none⟩) (M.length-64*q) c1 wr from zS);replace hR:=Hd (hR.below (w':=wr.drew) (eP.below ⟨1,rfl⟩ _));clear OY;obtain⟨n1,hn1⟩:∃ n,n=M.length-64*q:=⟨_,rfl⟩;rw[<-hn1] at zS hS0 hI hcl hlt;replace hn1:=Hd hn1;have hrc:∀ W,YQ b (some ⟨g,off,none⟩) n1 c1 W->W.cell? ⟨b,8,none⟩=some (.slice (some ⟨g,off,none⟩) n1 c1):=λ_ h=>h;go_wp2_with fail;refine wp_region_held_drew (S:=YQ b (some ⟨g,off,none⟩) n1 c1) kX hS0 (λaD=>?_);refine tk 0 aD ?_;refine tk 1 aD ?_;refine tk 2 aD ?_;refine tk 3 aD ?_;refine tk 5 aD ?_;refine tk 6 aD ?_;refine tk 7 aD ?_;refine tk 8 aD ?_;refine tk 9 aD ?_;refine fZ [4] ?_;refine AllReadyH.cons jr (λK hK=>?_) AllReadyH.nil;go_simp;refine hK.out _ _ hS0 (λhNext=>?_);clear hK K aD;have aD:=hNext;clear hNext;try simp only[Act.put,sL,sZ,sS]
   refine fZ [10] ?_;refine AllReadyH.cons jr (λK hK=>?_) AllReadyH.nil;go_simp;with_reducible refine(zT.out _ hag.out hK1.out).mono ?_
   rintro e w4 ⟨rfl,hd⟩;have sD:=Hd (hI.out.grown hd);replace hR:=Hd (hR.out.below hd);have yJ:=sD.out.restAt;clear hd;go_wp2_with fail;refine hK.out _ _ yJ (λhNext=>?_);clear yJ;clear hK K aD;have aD:=hNext;clear hNext;try simp only[Act.put,sL,sZ,sS]
   refine tk 11 aD ?_;refine tk 12 aD ?_;refine fZ [13] ?_;refine AllReadyH.cons jr (λK hK=>?_) AllReadyH.nil;obtain⟨g0,g1,g2,g3,g4,g5,g6,g7⟩:=sD.out.words;have f0:=sD.out.free 0;have f1:=sD.out.free 1;have f2:=sD.out.free 2;have f3:=sD.out.free 3;have f4:=sD.out.free 4;have f5:=sD.out.free 5;have f6:=sD.out.free 6;have f7:=sD.out.free 7;have og:=Hd (sD.out.put8 hbb.out (QH (ZP ZB M q) ((M.drop (64*q)).take 64)));have hS6:=og.out.restAt;go_simp;refine hK.out _ _ hS6 (λhNext=>?_);clear hS6;clear hK K aD;have aD:=hNext;clear hNext;try simp only[Act.put,sL,sZ,sS]
   refine bz ?_;clear g0 g1 g2 g3 g4 g5 g6 g7 f0 f1 f2 f3 f4 f5 f6 f7 sD;have r8:=og.out.restAt;unfold YQ at r8;have f8:=og.out.free 8;clear hrc zS hS0 zT r0 r1 r2 r3 r4 r5 r6 r7;go_wp2_with fail;have hI7:=Hd (og.out.putRest hbb.out (if c1=64 then some ⟨g,off,none⟩ else some ⟨g,off+64,none⟩) (n1-64) (c1-64));have OZ:=Hd (LJ hgb.out hR.out (by rw[List.length_drop];have:=hn1.out;omega));have hnn:=hn1.out;rw[List.drop_drop] at OZ;refine⟨⟨q+1,_,_,_,hI7.out,YT lX.out (YT lX.out (YT lX.out (YT lX.out (YT lX.out (YT lX.out (YT lX.out (YT lX.out (YT lX.out ?_)))))))),aB,aB⟩,?_⟩
   ·exact OZ.out
   ·rw[GQ hI7.out.restAt,GQ iH.out];omega
  ·have zU:q=M.length / 64:=aB;have hI:=Hd hA;have hcl:=XY a1 c1 (M.drop (64*q)) wr hR jH;rw[List.length_drop] at hcl;replace hcl:=Hd hcl;replace hR:=Hd hR;obtain⟨n1,hn1⟩:∃ n,n=M.length-64*q:=⟨_,rfl⟩;rw[<-hn1] at zS hI hcl hlt;replace hn1:=Hd hn1;have hlt2:(n1:Int)<64:=aB;go_wp2_with fail;with_reducible refine hcl.out.mono ?_
   rintro e w5 ⟨v,rfl,ho,hd⟩;have Oa:=hI.out.grown hd;have hne5:=Oa.other;obtain⟨a5,c5,hv,_,_⟩:=ho.arg;rw[List.length_drop,<-hn1.out] at hv;subst hv;have r8:w5.cell? ⟨b,8,none⟩=some (.slice a1 n1 c1):=Oa.restAt;have f8:=Oa.free 8;have zV:=Hd ((ho.mono (base':=w0.heap.size) hI.out.bel.size).upd ((ag.refl Oa.blk).setCell (j:=8) (.slice a5 n1 c5)) hne5);have og:=Hd (Oa.putRest hbb.out a5 n1 c5);clear ho hd hcl hne5;go_wp2_with fail;go_ret;refine⟨rfl,a5,n1,c5,?_,?_,hbb.out⟩
   ·rw[<-zU];exact og.out
   ·rw[<-zU];exact zV.out
open Go.RowKit Go.Shelf
attribute [local go_sem] Oper.semAt_some
def dQ(n₀ Bs Ns:Nat)(W W':World):Prop:=Below n₀ W W'/\W'.heap[Bs]? = W.heap[Bs]? /\ W'.heap[Ns]? = W.heap[Ns]?
theorem dQ.refl(n₀ Bs Ns:Nat)(W:World):dQ n₀ Bs Ns W W:=⟨Below.refl _ _,rfl,rfl⟩
theorem Xf{n₀ Bs Ns:Nat}{A B C:World}(h:dQ n₀ Bs Ns A B)(k:dQ n₀ Bs Ns B C):dQ n₀ Bs Ns A C:=⟨h.1.trans k.1,k.2.1.trans h.2.1,k.2.2.trans h.2.2⟩
theorem GJ(n₀ Bs Ns:Nat)(W:World):dQ n₀ Bs Ns W W.drew:=⟨(Below.refl _ W).drew,rfl,rfl⟩
theorem Pa{n₀ Bs Ns:Nat}{w:World}(hn:n₀<=w.heap.size)(hB:Bs<w.heap.size)(hN:Ns<w.heap.size)(W:World)(l:Nat)(o o':Obj)(hl:w.heap.size<=l)(h:W.heap[l]? = some o)(h1:o.isCells=false)(h2:o.isWalk=false):dQ n₀ Bs Ns W (W.putObj l o'):=
 ⟨belowK_b hn W l o o' hl h h1 h2,World.putObj_heap_other aB,World.putObj_heap_other aB⟩
theorem Lx(F:Fence)(n:Nat)(h7:F.fn 178)(hro:F.round=none)(hn:1<=n)(l Bs Ns n₀ g off cap q:Nat)(hq:64*q<=cap)(hcap:q<=10000)(J Jx:List Nat->World->Prop)(hJd:∀ pre W,J pre W->J pre W.drew)
  (hY:∀ pre x W,J pre W->pre.length<q->x<q->YieldAt F (n-1) Tryz.prog l #[.slice (some ⟨g,off+64*x,none⟩) 64 64] W λe W'=>
   (e=.returned (.bool true)/\J (pre++[x]) W'/\dQ n₀ Bs Ns W W')\/(e=.returned (.bool false)/\Jx (pre++[x]) W'))
  (W:World) (mO:Boxed W Bs 24 (.slice (some ⟨g,off,none⟩) (64*q) cap)) (hNs:Boxed W Ns 3 (.int .i64 64)) (h0:J [] W) :
  CallsIn F n Tryz.prog 178 #[.func (.yield l) #[] #[],.pointer (some ⟨Bs,0,none⟩),.pointer (some ⟨Ns,0,none⟩)] W λe W'=>(∃ v,e=.returned v)/\
   ((∃ ys,ys=upto (λk=>k) q/\J ys W')\/(∃ pre,(∃ k,k<=q/\pre=upto (λk=>k) k)/\Jx pre W')):=by
 refine callsIn_of_wp Tryz.func178 rfl h7 ?_ hro;simp only[Tryz.ntmps178,List.size_toArray,List.length_cons,List.length_nil,Nat.reduceAdd,Nat.reduceSub,Array.replicate_succ,Array.replicate_zero,List.push_toArray,List.append_toArray,List.nil_append,List.cons_append];gi_wp2;gi_loopw [4,5] (λi _ wr=>∃ k:Nat,k<=q/\i=.int .i64 ((64*k:Nat):Int)/\J (upto (λk=>k) k) wr/\dQ n₀ Bs Ns W wr)
  (λi _ _=>64*q-(intOf i).toNat)
 case atStart=>exact⟨0,Nat.zero_le _,rfl,h0,dQ.refl _ _ _ _⟩
 case round=>
  obtain⟨k,hk,rfl,hJs,hnx⟩:=hrel;have hBx:=(show Boxed wr Bs 24 (.slice (some ⟨g,off,none⟩) (64*q) cap) from hnx.2.1.trans mO).cell;have hNx:=(show Boxed wr Ns 3 (.int .i64 64) from hnx.2.2.trans hNs).cell;by_cases hlt:k<q
  ·obtain⟨fn,tmps,assign,body,hy,hR⟩:=hY _ k wr.drew (hJd _ _ hJs) (by rw[KQ];omega) hlt;obtain⟨K,hK⟩:=aA (64*k);obtain⟨Q,hQ⟩:=aA (64*q);rw[<-hQ] at hBx;rw[<-hK];rw[<-hK] at hy;have k1:(K:Int)<(Q:Int):=aB;have k2:K+64<=Q:=aB;have k3:(64:Int)<=(Q:Int)-(K:Int):=aB;have k4:(0:Int)<=(K:Int):=aB;have k5:(K:Int)<=(Q:Int):=aB;have k6:(K:Int)+64<=(cap:Int):=aB;have k7:=IntWalk.i64_in ((K:Int)+64) aB;have k8:(64:Int)<=((Q-K:Nat):Int):=aB;have k10:¬(cap=K):=aB;have k9:((K:Int)+64).toNat-K=64:=aB;replace hK:=Hd hK;replace hQ:=Hd hQ;gi_wp2
   gi_region
   all_goals gi_wp2
   all_goals (refine hR.mono ?_)
   all_goals (rintro e W3 (⟨rfl,hJ3,hk3⟩|⟨rfl,hJx3⟩))
   all_goals (try (have hN3:=(show Boxed W3 Ns 3 (.int .i64 64) from hk3.2.2.trans (hnx.2.2.trans hNs)).cell))
   all_goals gi_wp2
   all_goals (try (refine bodyPost_ret (results_none rfl _ _ _) rfl ⟨⟨_,rfl⟩,.inr ⟨_,⟨k+1,aB,by rw[Xn]⟩,hJx3⟩⟩))
   all_goals (try go_roundw)
   any_goals (case rel=>exact⟨k+1,aB,by rw[hK.out];go_num,by rw[Xn];exact hJ3,Xf hnx (Xf (GJ n₀ Bs Ns wr) hk3)⟩)
   any_goals (case measure=>(have:=hK.out;have:=hQ.out;simp[intOf];omega))
   all_goals exact⟨⟨k+1,aB,by rw[hK.out];go_num,by rw[Xn];exact hJ3,Xf hnx (Xf (GJ n₀ Bs Ns wr) hk3)⟩,by have:=hK.out;have:=hQ.out;simp[intOf];omega⟩
  ·obtain rfl:k=q:=aB;gi_wp2
   go_end0
   exact⟨⟨_,rfl⟩,.inl ⟨_,rfl,hJs⟩⟩
attribute [local go_sem] Oper.semAt_some
theorem Cj(F:Fence)(n:Nat)(h5:F.fn 166)(hro:F.round=none)(a:Option Addr)(len cap:Nat)(w:World) :
  CallsIn F n Tryz.prog 166 #[.slice a len cap,.int .i64 64] w λe w'=>e=.returned (.func (.func 178) #[] #[.pointer (some ⟨w.heap.size,0,none⟩),.pointer (some ⟨w.heap.size+1,0,none⟩)])/\
   w'=(w.alloc (.cells #[.slice a len cap] 24)).alloc (.cells #[.int .i64 64] 3):=by
 refine callsIn_of_wp Tryz.func166 rfl h5 ?_ hro;simp only[Tryz.ntmps166,List.size_toArray,List.length_cons,List.length_nil,Nat.reduceAdd,Nat.reduceSub,Array.replicate_succ,Array.replicate_zero,List.push_toArray,List.append_toArray,List.nil_append,List.cons_append];gi_wp2;go_ret;exact⟨rfl,rfl⟩
theorem TT(F:Fence)(n:Nat)(h8:F.fn 178)(hro:F.round=none)(hn:1<=n)(Bs Ns n₀ g off cap q:Nat)(hq:64*q<=cap)(hcap:q<=10000)(w:World)
  (hB:Boxed w Bs 24 (.slice (some ⟨g,off,none⟩) (64*q) cap)) (hN:Boxed w Ns 3 (.int .i64 64)) :
  SeqStopsK F n Tryz.prog 178 #[.pointer (some ⟨Bs,0,none⟩),.pointer (some ⟨Ns,0,none⟩)] (λx:Fin q=>#[Value.slice (some ⟨g,off+64*x.val,none⟩) 64 64]) (dQ n₀ Bs Ns) (λys=>ys.map Fin.val=upto (λk=>k) q)
   (λ_=>True) q w:=by
 intro l J Jx W hW hJ _ hY h0;refine(Lx F n h8 hro hn l Bs Ns n₀ g off cap q hq hcap (λns W=>∃ fs:List (Fin q),fs.map Fin.val=ns/\J fs W) (λns W=>∃ fs:List (Fin q),fs.map Fin.val=ns/\Jx fs W)
  (λpre W h=>?_) ?_ W ((hW.block Bs hB.lt).trans hB) ((hW.block Ns hN.lt).trans hN) ⟨[],rfl,h0⟩).mono ?_
 ·obtain⟨fs,h1,h2⟩:=h;exact⟨fs,h1,hJ fs W W.drew none h2 ⟨rfl,rfl,rfl,Nat.le_refl _,λ_ _ _=>rfl⟩ (λr e=>by cases e)⟩
 ·rintro pre x W1 ⟨fs,h1,h2⟩ hl hx;obtain⟨fn,tmps,assign,body,hy,hR⟩:=hY fs ⟨x,hx⟩ W1 h2 (by rw[<-h1,List.length_map] at hl;exact hl);refine⟨fn,tmps,assign,body,hy,hR.mono ?_⟩;rintro e W' (⟨e1,e2,e3⟩|⟨e1,e2⟩)
  ·exact .inl ⟨e1,⟨fs++[⟨x,hx⟩],by rw[List.map_append,h1];rfl,e2⟩,e3⟩
  ·exact .inr ⟨e1,⟨fs++[⟨x,hx⟩],by rw[List.map_append,h1];rfl,e2⟩⟩
 ·rintro e W' ⟨hv,(⟨ys,rfl,fs,h1,h2⟩|⟨pre,_,fs,_,h2⟩)⟩
  ·exact⟨hv,.inl ⟨fs,h1,h2⟩⟩
  ·exact⟨hv,.inr ⟨fs,trivial,h2⟩⟩
def J5(s:S8)(m:List UInt8)(ns:List Nat):S8:=ns.foldl (λs x=>QH s ((m.drop (64*x)).take 64)) s
theorem Nn(s:S8)(m:List UInt8)(ns:List Nat)(x:Nat):J5 s m (ns++[x])=QH (J5 s m ns) ((m.drop (64*x)).take 64):=by simp[J5]
theorem N5(s:S8)(m:List UInt8):∀ q,J5 s m (upto (λk=>k) q)=ZP s m q
 | 0=>rfl
 | q+1=>by rw[Xn,Nn,N5 s m q,ZP]
end
end Go.Proofs.YtpdhceiodgnbmaaGreatDoor
