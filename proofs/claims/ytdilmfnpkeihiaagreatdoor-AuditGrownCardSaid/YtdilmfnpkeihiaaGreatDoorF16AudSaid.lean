import Derived.Test.YtdilmfnpkeihiaaGreatDoorF0AudSaid
import Derived.Test.YtdilmfnpkeihiaaGreatDoorF2AudSaid
import Derived.RangeFuncBox
import Derived.RangeFuncLeaves
import Derived.RangeFuncCalls
import Derived.Shelf.Abstract
import Derived.OwnWalkIn
import Derived.TacticsInMore
import Derived.LoopNIn
import Derived.LoopIn
import Derived.Test.YtdilmfnpkeihiaaGreatDoorRows
import Derived.Test.YtdilmfnpkeihiaaGreatDoorF1AudSaid
import Derived.Test.YtdilmfnpkeihiaaGreatDoorF15AudSaid
import Derived.IntWalk
set_option linter.unusedVariables false
set_option linter.unusedSimpArgs false
set_option linter.unnecessarySimpa false
set_option maxRecDepth 100000
set_option maxHeartbeats 8000000
namespace Go.Proofs.YtdilmfnpkeihiaaGreatDoor
open Go.RowKit Go.Shelf
attribute [local go_sem] Oper.semAt_some
def upto{α:Type}(f:Nat->α)(k:Nat):List α:=(List.range k).map f
theorem Yb{α:Type}(f:Nat->α)(k:Nat):upto f (k+1)=upto f k++[f k]:=by simp[upto,List.range_succ]
theorem JY{α:Type}(f:Nat->α)(k:Nat):(upto f k).length=k:=by simp[upto]
open Go.RowKit
theorem Nq(a:Nat)(h1:1<=a)(h2:a<=31):bits BinOp.and IntKind.u64 (18446744073709551616-(a:Int)) 31=32-(a:Int):=by
 have h:=u64_and_nat (18446744073709551616-a) 31 oX oX
 rw[show ((18446744073709551616-a:Nat):Int)=18446744073709551616-(a:Int) from by omega,show ((31:Nat):Int)=31 from rfl] at h
 rw[h]
 have e:(18446744073709551616-a) &&& 31=(18446744073709551616-a) % 32:=Nat.and_two_pow_sub_one_eq_mod _ 5
 rw[e]
 omega
theorem Gl(a:Nat)(h1:1<=a)(h2:a<=31):IntKind.u64.wrap (-(a:Int))=18446744073709551616-(a:Int):=by
 rw[IntKind.wrap_u64];omega
theorem Nj(x:W32)(a:Nat)(h1:1<=a)(h2:a<=31) :
  bits BinOp.or IntKind.u32 ((wn x)*2 ^ (32-a) % 4294967296) ((wn x) / 2 ^ a)=(wn (Z2 x a)):=by
 have e1:(2:Int) ^ (32-a)=((2 ^ (32-a):Nat):Int):=sX
 have e2:(2:Int) ^ a=((2 ^ a:Nat):Int):=sX
 rw[e1,e2,G0 x (32-a) oX,Gw x a oX,Nc]
 unfold Z2
 rw[UInt32.or_comm]
theorem QT(x:W32)(a:Nat)(h1:1<=a)(h2:a<=31)(w:World):Calls Tryz.prog 135 #[.int .u32 (wn x),.int .i64 (-(a:Int))] w λe w'=>e=.returned (.int .u32 (wn (Z2 x a)))/\w=w':=by
 have hand:bits BinOp.and IntKind.u64 (IntKind.u64.wrap (-(a:Int))) 31=32-(a:Int):=by rw[Gl a h1 h2];exact Nq a h1 h2
 have hl:=Gg x
 have hs0:(0:Int)<=32-(a:Int):=oX
 have hs1:32-(a:Int)<=32:=oX
 have hs2:32-(32-(a:Int))=(a:Int):=oX
 have hs3:=IntWalk.u64_in (a:Int) oX
 have hs4:(0:Int)<=(a:Int):=oX
 have hs5:(a:Int)<=32:=oX
 have hrot:=Nj x a h1 h2
 go_enter Tryz.func135,Tryz.ntmps135
 go_wp2_with fail
 go_ret
 exact⟨rfl,rfl⟩
theorem Xl(x:W32)(a b c:Nat)(ha:1<=a/\a<=31)(hb:1<=b/\b<=31)(hc:1<=c/\c<=31)(w:World) :
  Calls Tryz.prog 122 #[.int .u32 (wn x),.int .i64 (a:Int),.int .i64 (b:Int),.int .i64 (c:Int)] w λe w'=>e=.returned (.int .u32 (wn (Z2 x a ^^^ Z2 x b ^^^ Z2 x c)))/\w=w':=by
 have h1:=QY (Z2 x a) (Z2 x b)
 have h2:=QY (Z2 x a ^^^ Z2 x b) (Z2 x c)
 go_enter Tryz.func122,Tryz.ntmps122
 go_wp2_with fail
 with_reducible refine(QT x a ha.1 ha.2 _).mono ?_
 rintro e w1 ⟨rfl,rfl⟩
 go_wp2_with fail
 with_reducible refine(QT x b hb.1 hb.2 _).mono ?_
 rintro e w1 ⟨rfl,rfl⟩
 go_wp2_with fail
 with_reducible refine(QT x c hc.1 hc.2 _).mono ?_
 rintro e w1 ⟨rfl,rfl⟩
 go_wp2_with fail
 go_ret
 exact⟨rfl,rfl⟩
theorem XY(x:W32)(a b c:Nat)(ha:1<=a/\a<=31)(hb:1<=b/\b<=31)(hc:1<=c/\c<=31)(w:World) :
  Calls Tryz.prog 134 #[.int .u32 (wn x),.int .i64 (a:Int),.int .i64 (b:Int),.int .i64 (c:Int)] w λe w'=>e=.returned (.int .u32 (wn (Z2 x a ^^^ Z2 x b ^^^ (x >>> UInt32.ofNat c))))/\Drawn w w':=by
 have h1:=QY (Z2 x a) (Z2 x b)
 have h2:=QY (Z2 x a ^^^ Z2 x b) (x >>> UInt32.ofNat c)
 have h3:wn x / 2 ^ c=wn (x >>> UInt32.ofNat c):=by
  rw[<-Gw x c oX];simp
 have hc0:(0:Int)<=(c:Int):=oX
 have hc1:(c:Int)<=32:=oX
 go_enter Tryz.func134,Tryz.ntmps134
 go_wp2_with fail
 go_quiet (first|(go_at_call 135;with_reducible exact Xe (QT x a ha.1 ha.2 _))|(go_at_call 135;with_reducible exact Xe (QT x b hb.1 hb.2 _)))
 go_wp2_with fail
 go_ret
 exact⟨rfl,_,rfl⟩
theorem Us(x:W32)(w:World):Calls Tryz.prog 134 #[.int .u32 (wn x),.int .i64 17,.int .i64 19,.int .i64 10] w λe w'=>e=.returned (.int .u32 (wn (QS x)))/\Drawn w w':=
 XY x 17 19 10 oX oX oX w
theorem VR(x:W32)(w:World):Calls Tryz.prog 134 #[.int .u32 (wn x),.int .i64 7,.int .i64 18,.int .i64 3] w λe w'=>e=.returned (.int .u32 (wn (Yk x)))/\Drawn w w':=
 XY x 7 18 3 oX oX oX w
theorem KP(x:W32)(w:World):Calls Tryz.prog 122 #[.int .u32 (wn x),.int .i64 6,.int .i64 11,.int .i64 25] w λe w'=>e=.returned (.int .u32 (wn (Z9 x)))/\w=w':=
 Xl x 6 11 25 oX oX oX w
theorem Gc(x:W32)(w:World):Calls Tryz.prog 122 #[.int .u32 (wn x),.int .i64 2,.int .i64 13,.int .i64 22] w λe w'=>e=.returned (.int .u32 (wn (Qz x)))/\w=w':=
 Xl x 2 13 22 oX oX oX w
end Go.Proofs.YtdilmfnpkeihiaaGreatDoor
