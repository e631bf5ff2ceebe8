import Derived.Test.YtpdhceiodgnbmaaGreatDoorF0Safe21Said
import Derived.Test.YtpdhceiodgnbmaaGreatDoorF1Safe21Said
import Derived.Test.YtpdhceiodgnbmaaGreatDoorF3Safe21Said
import Derived.LoopN
import Derived.Deep.CutRange
import Derived.WalkKit
import Derived.LaidEql
import Derived.Stop.Asserts
import Derived.RowKitTokens
import Derived.Test.YtpdhceiodgnbmaaGreatDoorRows
import Derived.Outline
import Derived.OrdersIn
import Derived.RangeFuncWrites
import Derived.RangeFuncCalls
import Derived.OwnWalkIn
import Derived.Deep.MidRow
import Derived.Deep.RegionHeld3
set_option linter.unusedVariables false
set_option linter.unusedSimpArgs false
set_option linter.unnecessarySimpa false
set_option maxRecDepth 100000
set_option maxHeartbeats 8000000
namespace Go.Proofs.YtpdhceiodgnbmaaGreatDoor
open Go.RowKit
def Q6(n:Int):Int:=if n<=8 then 1 else (n+7) / 8
def Qr(n:Int):List Int:=if Q6 n<=223 then [Q6 n] else [223,Q6 n-223]
def Yc(n:Int):Int:=if Q6 n<=223 then Q6 n+32 else Q6 n+64
theorem Kg(n:Int)(h:0<=n/\n<=2000):1<=Q6 n/\Q6 n<=250:=by unfold Q6;split<;>omega
theorem Ls(n:Int)(h:n<0\/2000<n)(z:Addr)(w:World)(hz:w.cell? ⟨7,0,none⟩=some (.iface 298 (.pointer (some z)))):Calls Tryz.prog 154 #[.int .i64 n] w λe w'=>e=.returned (.tuple #[.slice none 0 0,.iface 298 (.pointer (some z))])/\∃ n,w'=w.drewN n:=by
 rcases h with h|h
 all_goals
  go_enter Tryz.func154,Tryz.ntmps154
  go_wp2_with fail
  go_quiet (fail)
  go_wp2
  go_ret2
  exact⟨rfl,_,rfl⟩
theorem TV(n:Int)(h:0<=n/\n<=2000)(w:World):Calls Tryz.prog 154 #[.int .i64 n] w λe w'=>∃ v,e=.returned (.tuple #[v,.nilIface])/\OwnI w.heap.size w' v (Qr n)/\Below w.heap.size w w':=by
 have hL:=Kg n h
 have hLm:(n<=8/\Q6 n=1)\/(8<n/\Q6 n=(n+7) / 8):=by unfold Q6;split<;>omega
 have hS:(Q6 n<=223/\Qr n=[Q6 n])\/(223<Q6 n/\Qr n=[223,Q6 n-223]):=by
  by_cases h:Q6 n<=223
  ·exact .inl ⟨h,by simp[Qr,h]⟩
  ·exact .inr ⟨oX,by simp[Qr,h]⟩
 have hown0:=Hd (OwnI.nil w.heap.size w)
 have hb0:=Hd (Below.refl w.heap.size w)
 generalize Q6 n=L at*
 have hm:max ((n+7) / 8) 1=L:=oX
 generalize Qr n=S at*
 replace hS:=Hd hS
 go_enter Tryz.func154,Tryz.ntmps154
 go_wp2_with fail
 case' inl=>rw[show Value.int IntKind.i64 1=Value.int IntKind.i64 L from by rw[show L=1 from by omega]]
 case' inr=>rw[show (n+8-1) / 8=L from by omega]
 all_goals
  clear hLm hm
  go_loopw [5,4] (λv j wr=>∃ (zs:List Int) (l:Int),j=.int .i64 l/\OwnI w.heap.size wr v zs/\Below w.heap.size w wr/\((zs=[]/\l=L)\/(l=0/\zs=S)\/(l=L-223/\223<L/\zs=[223])))
   (λ_ j _=>(intOf j).toNat)
  case atStart=>exact⟨[],L,rfl,hown0.out,hb0.out,.inl ⟨rfl,rfl⟩⟩
  case round=>
   clear hown0 hb0
   obtain⟨zs,l,rfl,hown,hbel,hph⟩:=hrel
   have hsz:=hbel.size
   have hlb:0<=l/\l<=250/\zs.length<=2:=by
    rcases hph with ⟨rfl,rfl⟩|⟨rfl,rfl⟩|⟨rfl,_,rfl⟩
    ·exact⟨oX,oX,sX⟩
    ·refine⟨oX,oX,?_⟩
     rcases hS.out with ⟨_,rfl⟩|⟨_,rfl⟩<;>simp
    ·exact⟨oX,oX,sX⟩
   have hnext:0<l->(l<=223->zs++[l]=S)/\(223<l->zs++[223]=[223]/\l=L):=by
    intro h0
    rcases hph with ⟨rfl,rfl⟩|⟨rfl,rfl⟩|⟨rfl,h2,rfl⟩
    ·refine⟨λh1=>?_,λh1=>⟨rfl,rfl⟩⟩
     rcases hS.out with ⟨_,rfl⟩|⟨_,rfl⟩
     ·rfl
     ·omega
    ·omega
    ·refine⟨λh1=>?_,λh1=>by omega⟩
     rcases hS.out with ⟨_,rfl⟩|⟨_,rfl⟩
     ·omega
     ·rfl
   replace hbel:=Hd hbel
   replace hown:=Hd hown
   by_cases hl:0<l
   ·replace hnext:=Hd (hnext hl)
    clear hph
    by_cases h223:l<=223
    ·have hd2:¬223<l:=oX
     go_wp2_with (at_builtin;go_must (refine Hx rfl (.tmp 23) (.tmp 25) rfl w.heap.size _ zs rfl hown l rfl oX hsz ?_))
     intro v' w' ho' hb'
     replace hb':=Hd (hbel.out.trans hb'.out)
     go_wp2_with fail
     go_roundw
     case rel=>exact⟨S,0,by go_num,(hnext.out.1 h223)▸ho'.out,hb'.out,.inr (.inl ⟨rfl,rfl⟩)⟩
     case measure=>simp[intOf];omega
    ·have hd2:223<l:=oX
     go_wp2_with (at_builtin;go_must (refine Hx rfl (.tmp 23) (.tmp 25) rfl w.heap.size _ zs rfl hown 223 rfl oX hsz ?_))
     intro v' w' ho' hb'
     replace hb':=Hd (hbel.out.trans hb'.out)
     go_wp2_with fail
     go_roundw
     case rel=>
      obtain⟨e1,rfl⟩:=hnext.out.2 hd2
      exact⟨[223],l-223,by go_num,e1▸ho'.out,hb'.out,.inr (.inr ⟨rfl,hd2,rfl⟩)⟩
     case measure=>simp[intOf];omega
   ·obtain rfl:l=0:=oX
    have hz:zs=S:=by
     rcases hph with ⟨rfl,h⟩|⟨_,rfl⟩|⟨_,_,rfl⟩
     ·omega
     ·rfl
     ·omega
    clear hph hnext
    subst hz
    go_wp2_with fail
    go_ret2
    exact⟨_,rfl,hown.out,hbel.out⟩
def X9(zs:List Int):Nat->Int
 | 0=>0
 | k+1=>X9 zs k+(zs.getD k 0+32)
theorem Tb(n:Int)(h:0<=n/\n<=2000):(Qr n).length<=2/\(∀ k,k<(Qr n).length->0<=(Qr n).getD k 0/\(Qr n).getD k 0<=250)/\(∀ k,k<=(Qr n).length->0<=X9 (Qr n) k/\X9 (Qr n) k<=600)/\X9 (Qr n) (Qr n).length=Yc n:=by
 have hL:=Kg n h
 unfold Yc Qr
 split
 ·refine⟨sX,λk hk=>?_,λk hk=>?_,by simp[X9]⟩
  ·obtain rfl:k=0:=by simpa using hk
   simp;omega
  ·rcases(show k=0\/k=1 from by simp at hk;omega) with rfl|rfl
   ·simp[X9]
   ·simp[X9];omega
 ·refine⟨sX,λk hk=>?_,λk hk=>?_,by simp[X9];omega⟩
  ·rcases(show k=0\/k=1 from by simp at hk;omega) with rfl|rfl
   ·simp
   ·simp;omega
  ·rcases(show k=0\/k=1\/k=2 from by simp at hk;omega) with rfl|rfl|rfl
   ·simp[X9]
   ·simp[X9]
   ·simp[X9];omega
theorem Dj(n:Int)(h:n<0\/2000<n)(z:Addr)(w:World)(hz:w.cell? ⟨7,0,none⟩=some (.iface 298 (.pointer (some z)))):Calls Tryz.prog 123 #[.int .i64 n] w λe w'=>e=.returned (.tuple #[.int .i64 0,.iface 298 (.pointer (some z))])/\∃ n,w'=w.drewN n:=by
 go_enter Tryz.func123,Tryz.ntmps123
 go_wp2_with fail
 refine(Ls n h z _ hz).mono ?_
 rintro e w1 ⟨rfl,k,rfl⟩
 go_wp2_with fail
 go_loopw [6,16] (λs j wr=>s=.int .i64 0/\j=.int .i64 0/\wr=w.drewN k) (λ_ _ _=>0)
 case atStart=>exact⟨rfl,rfl,rfl⟩
 case round=>
  obtain⟨rfl,rfl,rfl⟩:=hrel
  go_wp2_with fail
  go_ret2
  exact⟨rfl,_,rfl⟩
theorem Xh(n:Int)(h:0<=n/\n<=2000)(w:World):Calls Tryz.prog 123 #[.int .i64 n] w λe w'=>e=.returned (.tuple #[.int .i64 (Yc n),.nilIface])/\Below w.heap.size w w':=by
 obtain⟨f1,f2,f3,f4⟩:=Tb n h
 have hs:=Hd (TV n h w)
 generalize Qr n=S at*
 generalize Yc n=T at*
 subst f4
 go_enter Tryz.func123,Tryz.ntmps123
 go_wp2_with fail
 refine hs.out.mono ?_
 rintro e w1 ⟨v,rfl,ho,hb⟩
 clear hs
 obtain⟨a,c,rfl,g1,g2,g3,hrow,_⟩:=ho.row
 clear ho
 replace hb:=Hd hb
 replace hrow:=Hd hrow
 replace f2:=Hd f2
 replace f3:=Hd f3
 go_wp2_with fail
 go_loopw [6,8,16] (λs _ j wr=>∃ k:Nat,k<=S.length/\s=.int .i64 (X9 S k)/\j=.int .i64 k/\wr=w1) (λ_ _ j _=>S.length-(intOf j).toNat)
 case atStart=>exact⟨0,Nat.zero_le _,rfl,rfl,rfl⟩
 case round=>
  obtain⟨k,hk,rfl,rfl,rfl⟩:=hrel
  have b1:=f3.out k hk
  by_cases hlt:k<S.length
  ·obtain⟨b,off,rfl,hc⟩:=hrow.out k hlt
   have b2:=f2.out k hlt
   have hs2:=Hd (show X9 S (k+1)=X9 S k+(S.getD k 0+32) from rfl)
   generalize S.getD k 0=x at*
   generalize X9 S k=y at*
   go_wp2_with fail
   go_roundw
   case rel=>exact⟨k+1,oX,by rw[hs2.out],by go_num,by first|rfl|trivial⟩
   case measure=>simp[intOf];omega
  ·obtain rfl:k=S.length:=oX
   go_wp2_with fail
   go_ret2
   exact⟨rfl,hb.out⟩
def Gr:List Nat:=[0,7,17]
abbrev ParErrs (w:World) (z:Nat->Addr):Prop:=Errs 298 Gr w z
theorem ParErrs.range{w:World}{z:Nat->Addr}(h:ParErrs w z):w.cell? ⟨0,0,none⟩=some (.iface 298 (.pointer (some (z 0)))):=h.var 0 dX
theorem ParErrs.size{w:World}{z:Nat->Addr}(h:ParErrs w z):w.cell? ⟨7,0,none⟩=some (.iface 298 (.pointer (some (z 1)))):=h.var 1 dX
theorem ParErrs.budget{w:World}{z:Nat->Addr}(h:ParErrs w z):w.cell? ⟨17,0,none⟩=some (.iface 298 (.pointer (some (z 2)))):=h.var 2 dX
def YV(s n k d t r:Int):Value:=.agg #[.int .i64 s,.int .i64 n,.int .i64 k,.int .i64 d,.int .i64 t,.int .i64 r]
theorem QJ{w:World}{x:Addr}{v:Value}(h:w.cell? x=some v)(o1:Obj):(w.alloc o1).cell? x=some v:=
 (((Below.refl w.heap.size w).alloc nR o1).cell (World.block_lt_of_cell? w _ h)).trans h
theorem UW{w:World}{x:Addr}{v:Value}(h:w.cell? x=some v)(o1 o2:Obj):((w.alloc o1).alloc o2).cell? x=some v:=QJ (QJ h o1) o2
def QU(s n k d t r M:Int)(z:Nat->Addr):Array Value:=#[
 .string ⟨#[115,105,122,101]⟩,.int .i64 s,.int .i64 0,.int .i64 2000,.iface 298 (.pointer (some (z 1))),
 .string ⟨#[115,101,110,116,105,110,101,108,115]⟩,.int .i64 n,.int .i64 0,.int .i64 8,.iface 298 (.pointer (some (z 2))),
 .string ⟨#[115,112,111,116,115]⟩,.int .i64 k,.int .i64 1,.int .i64 M,.iface 298 (.pointer (some (z 0))),
 .string ⟨#[112,101,114,105,111,100]⟩,.int .i64 d,.int .i64 1,.int .i64 10000,.iface 298 (.pointer (some (z 0))),
 .string ⟨#[112,97,116,105,101,110,99,101]⟩,.int .i64 t,.int .i64 1,.int .i64 d,.iface 298 (.pointer (some (z 0))),
 .string ⟨#[114,101,116,114,105,101,115]⟩,.int .i64 r,.int .i64 0,.int .i64 5,.iface 298 (.pointer (some (z 0)))]
def Yj(s n k d t r M:Int)(z:Nat->Addr):Value:=.agg (QU s n k d t r M z)
theorem GB(s n k d t r c:Int)(z:Nat->Addr)(w:World)(hE:ParErrs w z) :
  Calls Tryz.prog 124 #[YV s n k d t r,.int .i64 c] w λe w'=>∃ M,(12<=c->M=12)/\e=.returned (Yj s n k d t r M z)/\Below w.heap.size w w':=by
 have h1:=hE.range
 have h2:=hE.size
 have h3:=hE.budget
 have q1:=UW h1
 have q2:=UW h2
 have q3:=UW h3
 clear h1 h2 h3
 have hb0:=Hd (Below.refl w.heap.size w)
 unfold YV
 rcases(show c<12\/c=12\/12<c from by omega) with hc|rfl|hc
 ·go_enter Tryz.func124,Tryz.ntmps124
  go_upto_region 1 with fail
  generalize hz:(#[
   .string ⟨#[]⟩,.int .i64 0,.int .i64 0,.int .i64 0,.nilIface,.string ⟨#[]⟩,.int .i64 0,.int .i64 0,.int .i64 0,.nilIface,.string ⟨#[]⟩,.int .i64 0,.int .i64 0,.int .i64 0,.nilIface,
   .string ⟨#[]⟩,.int .i64 0,.int .i64 0,.int .i64 0,.nilIface,.string ⟨#[]⟩,.int .i64 0,.int .i64 0,.int .i64 0,.nilIface,.string ⟨#[]⟩,.int .i64 0,.int .i64 0,.int .i64 0,.nilIface]:Array Value)=zb
  replace hz:zb.size=30:=by rw[<-hz];rfl
  go_wp2_with (refine QA (w:=w.alloc _) rfl 225 (.tmp 4) (.tmp 33) rfl _ (QU s n k d t r c z) (by simp only[World.size_alloc];rfl) rfl kX (by rw[hz];rfl) (by simp[QU,Value.oneCell']) ?_)
  refine JT (w:=w.alloc _) (c:=QU s n k d t r c z) rfl (by simp only[World.size_alloc];rfl) Tryz.underlying225 kX ?_
  exact⟨c,oX,rfl,(hb0.out.alloc nR _).alloc sX _⟩
 ·go_enter Tryz.func124,Tryz.ntmps124
  go_upto_region 1 with fail
  generalize hz:(#[
   .string ⟨#[]⟩,.int .i64 0,.int .i64 0,.int .i64 0,.nilIface,.string ⟨#[]⟩,.int .i64 0,.int .i64 0,.int .i64 0,.nilIface,.string ⟨#[]⟩,.int .i64 0,.int .i64 0,.int .i64 0,.nilIface,
   .string ⟨#[]⟩,.int .i64 0,.int .i64 0,.int .i64 0,.nilIface,.string ⟨#[]⟩,.int .i64 0,.int .i64 0,.int .i64 0,.nilIface,.string ⟨#[]⟩,.int .i64 0,.int .i64 0,.int .i64 0,.nilIface]:Array Value)=zb
  replace hz:zb.size=30:=by rw[<-hz];rfl
  go_wp2_with (refine QA (w:=w.alloc _) rfl 225 (.tmp 4) (.tmp 33) rfl _ (QU s n k d t r 12 z) (by simp only[World.size_alloc];rfl) rfl kX (by rw[hz];rfl) (by simp[QU,Value.oneCell']) ?_)
  refine JT (w:=w.alloc _) (c:=QU s n k d t r 12 z) rfl (by simp only[World.size_alloc];rfl) Tryz.underlying225 kX ?_
  exact⟨12,oX,rfl,(hb0.out.alloc nR _).alloc sX _⟩
 ·go_enter Tryz.func124,Tryz.ntmps124
  go_upto_region 1 with fail
  generalize hz:(#[
   .string ⟨#[]⟩,.int .i64 0,.int .i64 0,.int .i64 0,.nilIface,.string ⟨#[]⟩,.int .i64 0,.int .i64 0,.int .i64 0,.nilIface,.string ⟨#[]⟩,.int .i64 0,.int .i64 0,.int .i64 0,.nilIface,
   .string ⟨#[]⟩,.int .i64 0,.int .i64 0,.int .i64 0,.nilIface,.string ⟨#[]⟩,.int .i64 0,.int .i64 0,.int .i64 0,.nilIface,.string ⟨#[]⟩,.int .i64 0,.int .i64 0,.int .i64 0,.nilIface]:Array Value)=zb
  replace hz:zb.size=30:=by rw[<-hz];rfl
  go_wp2_with (refine QA (w:=w.alloc _) rfl 225 (.tmp 4) (.tmp 33) rfl _ (QU s n k d t r 12 z) (by simp only[World.size_alloc];rfl) rfl kX (by rw[hz];rfl) (by simp[QU,Value.oneCell']) ?_)
  refine JT (w:=w.alloc _) (c:=QU s n k d t r 12 z) rfl (by simp only[World.size_alloc];rfl) Tryz.underlying225 kX ?_
  exact⟨12,oX,rfl,(hb0.out.alloc nR _).alloc sX _⟩
def Kn(s n k d t r:Int):Prop:=(0<=s/\s<=2000)/\(0<=n/\n<=8)/\(1<=k/\k<=12)/\(1<=d/\d<=10000)/\(1<=t/\t<=d)/\(0<=r/\r<=5)
theorem Jn(n:Int)(h:0<=n/\n<=2000):33<=Yc n/\Yc n<=600:=by
 have:=Kg n h
 unfold Yc
 split<;>omega
theorem Kh{w w':World}{a b c d e f:Value}{t:TypeId}(h:w'.heap[w.heap.size]? = some (.cells #[a,b,c,d,e,f] t (0,0))) :
  w'.cell? ⟨w.heap.size,0,none⟩=some a/\w'.cell? ⟨w.heap.size,1,none⟩=some b/\w'.cell? ⟨w.heap.size,2,none⟩=some c/\w'.cell? ⟨w.heap.size,3,none⟩=some d/\w'.cell? ⟨w.heap.size,4,none⟩=some e/\w'.cell? ⟨w.heap.size,5,none⟩=some f:=by
 simp[Za h]
theorem Gc(s n k d t r M:Int)(z:Nat->Addr)(w:World):(Instr.index 225 (Yj s n k d t r M z) (.int .i64 0)).run Tryz.prog w=.ok (.agg #[.string ⟨#[115,105,122,101]⟩,.int .i64 s,.int .i64 0,.int .i64 2000,.iface 298 (.pointer (some (z 1)))]) w:=kX
theorem Ng(s n k d t r M:Int)(z:Nat->Addr)(w:World):(Instr.index 225 (Yj s n k d t r M z) (.int .i64 1)).run Tryz.prog w=.ok (.agg #[.string ⟨#[115,101,110,116,105,110,101,108,115]⟩,.int .i64 n,.int .i64 0,.int .i64 8,.iface 298 (.pointer (some (z 2)))]) w:=kX
theorem MT(s n k d t r M:Int)(z:Nat->Addr)(w:World):(Instr.index 225 (Yj s n k d t r M z) (.int .i64 2)).run Tryz.prog w=.ok (.agg #[.string ⟨#[115,112,111,116,115]⟩,.int .i64 k,.int .i64 1,.int .i64 M,.iface 298 (.pointer (some (z 0)))]) w:=kX
theorem Pm(s n k d t r M:Int)(z:Nat->Addr)(w:World):(Instr.index 225 (Yj s n k d t r M z) (.int .i64 3)).run Tryz.prog w=.ok (.agg #[.string ⟨#[112,101,114,105,111,100]⟩,.int .i64 d,.int .i64 1,.int .i64 10000,.iface 298 (.pointer (some (z 0)))]) w:=kX
theorem LK(s n k d t r M:Int)(z:Nat->Addr)(w:World):(Instr.index 225 (Yj s n k d t r M z) (.int .i64 4)).run Tryz.prog w=.ok (.agg #[.string ⟨#[112,97,116,105,101,110,99,101]⟩,.int .i64 t,.int .i64 1,.int .i64 d,.iface 298 (.pointer (some (z 0)))]) w:=kX
theorem Cf(s n k d t r M:Int)(z:Nat->Addr)(w:World):(Instr.index 225 (Yj s n k d t r M z) (.int .i64 5)).run Tryz.prog w=.ok (.agg #[.string ⟨#[114,101,116,114,105,101,115]⟩,.int .i64 r,.int .i64 0,.int .i64 5,.iface 298 (.pointer (some (z 0)))]) w:=kX
theorem Yl(w:World)(o:Obj)(n:Nat)(h:n=w.heap.size):(w.alloc o).heap[n]? = some o:=h▸heap_alloc_new w o
theorem Xn(s n k d t r c:Int)(z:Nat->Addr)(w:World)(hE:ParErrs w z) :
  Calls Tryz.prog 124 #[.agg #[.int .i64 s,.int .i64 n,.int .i64 k,.int .i64 d,.int .i64 t,.int .i64 r],.int .i64 c] w λe w'=>∃ M,(12<=c->M=12)/\e=.returned (Yj s n k d t r M z)/\Below w.heap.size w w':=GB s n k d t r c z w hE
def Vk(base:Nat)(w:World)(v:Value)(F:ByteArray)(V:Int)(x:Addr):Prop:=
 ∃ g,v=.iface 227 (.pointer (some ⟨g,0,none⟩))/\base<=g/\w.heap[g]? = some (.cells #[.string F,.int .i64 V,.iface 298 (.pointer (some x))] 229 (0,0))
theorem Hm(s n k d t r:Int)(h:Kn s n k d t r)(z:Nat->Addr)(w:World)(hE:ParErrs w z) :
  Calls Tryz.prog 88 #[YV s n k d t r] w λe w'=>e=.returned .nilIface/\Below w.heap.size w w':=by
 obtain⟨hs,hn,hk,hd,ht,hr⟩:=h
 have hT:=Jn s hs
 have hb1:=Hd ((Below.refl w.heap.size w).alloc nR (.cells #[.int .i64 s,.int .i64 n,.int .i64 k,.int .i64 d,.int .i64 t,.int .i64 r] 45))
 have hbox:=Hd (heap_alloc_new w (.cells #[.int .i64 s,.int .i64 n,.int .i64 k,.int .i64 d,.int .i64 t,.int .i64 r] 45))
 have hcall:=Hd (Xh s hs (w.alloc (.cells #[.int .i64 s,.int .i64 n,.int .i64 k,.int .i64 d,.int .i64 t,.int .i64 r] 45)))
 replace hE:=Hd (hE.below hb1.out)
 generalize Yc s=T at*
 unfold YV
 go_enter Tryz.func88,Tryz.ntmps88
 go_wp2_with fail
 with_reducible refine hcall.out.mono ?_
 rintro e w1 ⟨rfl,hb2⟩
 replace hE:=Hd (hE.out.below hb2)
 replace hbox:=Hd ((hb2.block _ c4X).trans hbox.out)
 replace hb1:=Hd (hb1.out.trans (hb2.mono c4X))
 obtain⟨c0,c1,c2,c3,c4,c5⟩:=Kh hbox.out
 clear hb2 hcall
 go_wp2_with fail
 have hcall:=GB s n k d t r (T+n) z w1 hE.out
 unfold YV Yj QU at hcall
 replace hcall:=Hd hcall
 with_reducible refine hcall.out.mono ?_
 rintro e w2 ⟨M,hM,rfl,hb2⟩
 obtain rfl:=hM oX
 replace hb1:=Hd (hb1.out.trans (hb2.mono hb1.out.size))
 have hsz:=hb1.out.size
 clear hb2 hcall hM c0 c1 c2 c3 c4 c5 hbox hE
 go_wp2_with fail
 have i0:=Gc s n k d t r 12 z
 have i1:=Ng s n k d t r 12 z
 have i2:=MT s n k d t r 12 z
 have i3:=Pm s n k d t r 12 z
 have i4:=LK s n k d t r 12 z
 have i5:=Cf s n k d t r 12 z
 unfold Yj QU at i0 i1 i2 i3 i4 i5
 refine wp_loop_rounds 7 ?_
 rw[rounds_succ]
 go_wp2_with fail
 rw[rounds_succ]
 go_wp2_with fail
 rw[rounds_succ]
 go_wp2_with fail
 rw[rounds_succ]
 go_wp2_with fail
 rw[rounds_succ]
 go_wp2_with fail
 rw[rounds_succ]
 go_wp2_with fail
 rw[rounds_succ]
 go_wp2_with fail
 go_ret
 exact⟨rfl,(((((((hb1.out).alloc oX _).alloc sYq _).alloc sYq _).alloc sYq _).alloc sYq _).alloc sYq _)⟩
theorem Ph(s n k d t r:Int)(hb:s<0\/2000<s)(z:Nat->Addr)(w:World)(hE:ParErrs w z)(hn : -9223372036854775808<=n/\n<=9223372036854775807) :
  Calls Tryz.prog 88 #[YV s n k d t r] w λe w'=>∃ v,e=.returned v/\Vk w.heap.size w' v ⟨#[115,105,122,101]⟩ s (z 1)/\Below w.heap.size w w':=by
 have hb1:=Hd ((Below.refl w.heap.size w).alloc nR (.cells #[.int .i64 s,.int .i64 n,.int .i64 k,.int .i64 d,.int .i64 t,.int .i64 r] 45))
 have hbox:=Hd (heap_alloc_new w (.cells #[.int .i64 s,.int .i64 n,.int .i64 k,.int .i64 d,.int .i64 t,.int .i64 r] 45))
 replace hE:=Hd (hE.below hb1.out)
 have hcall:=Hd (Dj s hb (z 1) (w.alloc (.cells #[.int .i64 s,.int .i64 n,.int .i64 k,.int .i64 d,.int .i64 t,.int .i64 r] 45)) (ParErrs.size hE.out))
 unfold YV
 rcases hb with hb|hb
 all_goals
  go_enter Tryz.func88,Tryz.ntmps88
  go_wp2_with fail
  with_reducible refine hcall.out.mono ?_
  rintro e w1 ⟨rfl,q,hq⟩
  have hb2:Below (w.alloc (.cells #[.int .i64 s,.int .i64 n,.int .i64 k,.int .i64 d,.int .i64 t,.int .i64 r] 45)).heap.size (w.alloc (.cells #[.int .i64 s,.int .i64 n,.int .i64 k,.int .i64 d,.int .i64 t,.int .i64 r] 45)) w1:=by subst hq;exact below_drewN bR _
  clear hq
  replace hE:=Hd (hE.out.below hb2)
  replace hbox:=Hd ((hb2.block _ c4X).trans hbox.out)
  replace hb1:=Hd (hb1.out.trans (hb2.mono c4X))
  obtain⟨c0,c1,c2,c3,c4,c5⟩:=Kh hbox.out
  clear hb2 hcall
  go_wp2_with fail
  with_reducible refine(Xn s n k d t r _ z w1 hE.out).mono ?_
  rintro e w2 ⟨M,hM,rfl,hb2⟩
  replace hb1:=Hd (hb1.out.trans (hb2.mono hb1.out.size))
  have hsz:=hb1.out.size
  clear hb2 hM c0 c1 c2 c3 c4 c5 hbox hE
  unfold Yj QU
  go_wp2_with fail
  have i0:=Gc s n k d t r M z
  unfold Yj QU at i0
  refine wp_loop_rounds 1 ?_
  rw[rounds_succ]
  go_wp2_with fail
  go_ret
  exact⟨_,rfl,⟨_,rfl,oX,Yl _ _ _ sX⟩,((hb1.out.alloc oX _).alloc sYq _)⟩
theorem Rt(s n k d t r:Int)(hs:0<=s/\s<=2000)(hb:n<0\/8<n)(z:Nat->Addr)(w:World)(hE:ParErrs w z) :
  Calls Tryz.prog 88 #[YV s n k d t r] w λe w'=>∃ v,e=.returned v/\Vk w.heap.size w' v ⟨#[115,101,110,116,105,110,101,108,115]⟩ n (z 2)/\Below w.heap.size w w':=by
 have hT:=Jn s hs
 have hb1:=Hd ((Below.refl w.heap.size w).alloc nR (.cells #[.int .i64 s,.int .i64 n,.int .i64 k,.int .i64 d,.int .i64 t,.int .i64 r] 45))
 have hbox:=Hd (heap_alloc_new w (.cells #[.int .i64 s,.int .i64 n,.int .i64 k,.int .i64 d,.int .i64 t,.int .i64 r] 45))
 replace hE:=Hd (hE.below hb1.out)
 have hcall:=Hd (Xh s hs (w.alloc (.cells #[.int .i64 s,.int .i64 n,.int .i64 k,.int .i64 d,.int .i64 t,.int .i64 r] 45)))
 generalize Yc s=T at*
 unfold YV
 rcases hb with hb|hb
 all_goals
  go_enter Tryz.func88,Tryz.ntmps88
  go_wp2_with fail
  with_reducible refine hcall.out.mono ?_
  rintro e w1 ⟨rfl,hb2⟩
  replace hE:=Hd (hE.out.below hb2)
  replace hbox:=Hd ((hb2.block _ c4X).trans hbox.out)
  replace hb1:=Hd (hb1.out.trans (hb2.mono c4X))
  obtain⟨c0,c1,c2,c3,c4,c5⟩:=Kh hbox.out
  clear hb2 hcall
  go_wp2_with fail
  with_reducible refine(Xn s n k d t r _ z w1 hE.out).mono ?_
  rintro e w2 ⟨M,hM,rfl,hb2⟩
  replace hb1:=Hd (hb1.out.trans (hb2.mono hb1.out.size))
  have hsz:=hb1.out.size
  clear hb2 hM c0 c1 c2 c3 c4 c5 hbox hE
  unfold Yj QU
  go_wp2_with fail
  have i0:=Gc s n k d t r M z
  have i1:=Ng s n k d t r M z
  unfold Yj QU at i0 i1
  refine wp_loop_rounds 2 ?_
  rw[rounds_succ]
  go_wp2_with fail
  rw[rounds_succ]
  go_wp2_with fail
  go_ret
  exact⟨_,rfl,⟨_,rfl,oX,Yl _ _ _ sX⟩,(((hb1.out.alloc oX _).alloc sYq _).alloc sYq _)⟩
theorem Pp(s n k d t r:Int)(hs:0<=s/\s<=2000)(hn:0<=n/\n<=8)(hb:k<1\/12<k)(z:Nat->Addr)(w:World)(hE:ParErrs w z) :
  Calls Tryz.prog 88 #[YV s n k d t r] w λe w'=>∃ v,e=.returned v/\Vk w.heap.size w' v ⟨#[115,112,111,116,115]⟩ k (z 0)/\Below w.heap.size w w':=by
 have hT:=Jn s hs
 have hb1:=Hd ((Below.refl w.heap.size w).alloc nR (.cells #[.int .i64 s,.int .i64 n,.int .i64 k,.int .i64 d,.int .i64 t,.int .i64 r] 45))
 have hbox:=Hd (heap_alloc_new w (.cells #[.int .i64 s,.int .i64 n,.int .i64 k,.int .i64 d,.int .i64 t,.int .i64 r] 45))
 replace hE:=Hd (hE.below hb1.out)
 have hcall:=Hd (Xh s hs (w.alloc (.cells #[.int .i64 s,.int .i64 n,.int .i64 k,.int .i64 d,.int .i64 t,.int .i64 r] 45)))
 generalize Yc s=T at*
 unfold YV
 rcases hb with hb|hb
 all_goals
  go_enter Tryz.func88,Tryz.ntmps88
  go_wp2_with fail
  with_reducible refine hcall.out.mono ?_
  rintro e w1 ⟨rfl,hb2⟩
  replace hE:=Hd (hE.out.below hb2)
  replace hbox:=Hd ((hb2.block _ c4X).trans hbox.out)
  replace hb1:=Hd (hb1.out.trans (hb2.mono c4X))
  obtain⟨c0,c1,c2,c3,c4,c5⟩:=Kh hbox.out
  clear hb2 hcall
  go_wp2_with fail
  with_reducible refine(Xn s n k d t r _ z w1 hE.out).mono ?_
  rintro e w2 ⟨M,hM,rfl,hb2⟩
  obtain rfl:=hM oX
  replace hb1:=Hd (hb1.out.trans (hb2.mono hb1.out.size))
  have hsz:=hb1.out.size
  clear hb2 hM c0 c1 c2 c3 c4 c5 hbox hE
  unfold Yj QU
  go_wp2_with fail
  have i0:=Gc s n k d t r 12 z
  have i1:=Ng s n k d t r 12 z
  have i2:=MT s n k d t r 12 z
  unfold Yj QU at i0 i1 i2
  refine wp_loop_rounds 3 ?_
  rw[rounds_succ]
  go_wp2_with fail
  rw[rounds_succ]
  go_wp2_with fail
  rw[rounds_succ]
  go_wp2_with fail
  go_ret
  exact⟨_,rfl,⟨_,rfl,oX,Yl _ _ _ sX⟩,((((hb1.out.alloc oX _).alloc sYq _).alloc sYq _).alloc sYq _)⟩
theorem Rl(s n k d t r:Int)(hs:0<=s/\s<=2000)(hn:0<=n/\n<=8)(hk:1<=k/\k<=12)(hb:d<1\/10000<d)(z:Nat->Addr)(w:World)(hE:ParErrs w z) :
  Calls Tryz.prog 88 #[YV s n k d t r] w λe w'=>∃ v,e=.returned v/\Vk w.heap.size w' v ⟨#[112,101,114,105,111,100]⟩ d (z 0)/\Below w.heap.size w w':=by
 have hT:=Jn s hs
 have hb1:=Hd ((Below.refl w.heap.size w).alloc nR (.cells #[.int .i64 s,.int .i64 n,.int .i64 k,.int .i64 d,.int .i64 t,.int .i64 r] 45))
 have hbox:=Hd (heap_alloc_new w (.cells #[.int .i64 s,.int .i64 n,.int .i64 k,.int .i64 d,.int .i64 t,.int .i64 r] 45))
 replace hE:=Hd (hE.below hb1.out)
 have hcall:=Hd (Xh s hs (w.alloc (.cells #[.int .i64 s,.int .i64 n,.int .i64 k,.int .i64 d,.int .i64 t,.int .i64 r] 45)))
 generalize Yc s=T at*
 unfold YV
 rcases hb with hb|hb
 all_goals
  go_enter Tryz.func88,Tryz.ntmps88
  go_wp2_with fail
  with_reducible refine hcall.out.mono ?_
  rintro e w1 ⟨rfl,hb2⟩
  replace hE:=Hd (hE.out.below hb2)
  replace hbox:=Hd ((hb2.block _ c4X).trans hbox.out)
  replace hb1:=Hd (hb1.out.trans (hb2.mono c4X))
  obtain⟨c0,c1,c2,c3,c4,c5⟩:=Kh hbox.out
  clear hb2 hcall
  go_wp2_with fail
  with_reducible refine(Xn s n k d t r _ z w1 hE.out).mono ?_
  rintro e w2 ⟨M,hM,rfl,hb2⟩
  obtain rfl:=hM oX
  replace hb1:=Hd (hb1.out.trans (hb2.mono hb1.out.size))
  have hsz:=hb1.out.size
  clear hb2 hM c0 c1 c2 c3 c4 c5 hbox hE
  unfold Yj QU
  go_wp2_with fail
  have i0:=Gc s n k d t r 12 z
  have i1:=Ng s n k d t r 12 z
  have i2:=MT s n k d t r 12 z
  have i3:=Pm s n k d t r 12 z
  unfold Yj QU at i0 i1 i2 i3
  refine wp_loop_rounds 4 ?_
  rw[rounds_succ]
  go_wp2_with fail
  rw[rounds_succ]
  go_wp2_with fail
  rw[rounds_succ]
  go_wp2_with fail
  rw[rounds_succ]
  go_wp2_with fail
  go_ret
  exact⟨_,rfl,⟨_,rfl,oX,Yl _ _ _ sX⟩,(((((hb1.out.alloc oX _).alloc sYq _).alloc sYq _).alloc sYq _).alloc sYq _)⟩
theorem Pa(s n k d t r:Int)(hs:0<=s/\s<=2000)(hn:0<=n/\n<=8)(hk:1<=k/\k<=12)(hd:1<=d/\d<=10000)(hb:t<1\/d<t)(z:Nat->Addr)(w:World)(hE:ParErrs w z) :
  Calls Tryz.prog 88 #[YV s n k d t r] w λe w'=>∃ v,e=.returned v/\Vk w.heap.size w' v ⟨#[112,97,116,105,101,110,99,101]⟩ t (z 0)/\Below w.heap.size w w':=by
 have hT:=Jn s hs
 have hb1:=Hd ((Below.refl w.heap.size w).alloc nR (.cells #[.int .i64 s,.int .i64 n,.int .i64 k,.int .i64 d,.int .i64 t,.int .i64 r] 45))
 have hbox:=Hd (heap_alloc_new w (.cells #[.int .i64 s,.int .i64 n,.int .i64 k,.int .i64 d,.int .i64 t,.int .i64 r] 45))
 replace hE:=Hd (hE.below hb1.out)
 have hcall:=Hd (Xh s hs (w.alloc (.cells #[.int .i64 s,.int .i64 n,.int .i64 k,.int .i64 d,.int .i64 t,.int .i64 r] 45)))
 generalize Yc s=T at*
 unfold YV
 rcases hb with hb|hb
 all_goals
  go_enter Tryz.func88,Tryz.ntmps88
  go_wp2_with fail
  with_reducible refine hcall.out.mono ?_
  rintro e w1 ⟨rfl,hb2⟩
  replace hE:=Hd (hE.out.below hb2)
  replace hbox:=Hd ((hb2.block _ c4X).trans hbox.out)
  replace hb1:=Hd (hb1.out.trans (hb2.mono c4X))
  obtain⟨c0,c1,c2,c3,c4,c5⟩:=Kh hbox.out
  clear hb2 hcall
  go_wp2_with fail
  with_reducible refine(Xn s n k d t r _ z w1 hE.out).mono ?_
  rintro e w2 ⟨M,hM,rfl,hb2⟩
  obtain rfl:=hM oX
  replace hb1:=Hd (hb1.out.trans (hb2.mono hb1.out.size))
  have hsz:=hb1.out.size
  clear hb2 hM c0 c1 c2 c3 c4 c5 hbox hE
  unfold Yj QU
  go_wp2_with fail
  have i0:=Gc s n k d t r 12 z
  have i1:=Ng s n k d t r 12 z
  have i2:=MT s n k d t r 12 z
  have i3:=Pm s n k d t r 12 z
  have i4:=LK s n k d t r 12 z
  unfold Yj QU at i0 i1 i2 i3 i4
  refine wp_loop_rounds 5 ?_
  rw[rounds_succ]
  go_wp2_with fail
  rw[rounds_succ]
  go_wp2_with fail
  rw[rounds_succ]
  go_wp2_with fail
  rw[rounds_succ]
  go_wp2_with fail
  rw[rounds_succ]
  go_wp2_with fail
  go_ret
  exact⟨_,rfl,⟨_,rfl,oX,Yl _ _ _ sX⟩,((((((hb1.out.alloc oX _).alloc sYq _).alloc sYq _).alloc sYq _).alloc sYq _).alloc sYq _)⟩
theorem Re(s n k d t r:Int)(hs:0<=s/\s<=2000)(hn:0<=n/\n<=8)(hk:1<=k/\k<=12)(hd:1<=d/\d<=10000)(ht:1<=t/\t<=d)(hb:r<0\/5<r)(z:Nat->Addr)(w:World)(hE:ParErrs w z) :
  Calls Tryz.prog 88 #[YV s n k d t r] w λe w'=>∃ v,e=.returned v/\Vk w.heap.size w' v ⟨#[114,101,116,114,105,101,115]⟩ r (z 0)/\Below w.heap.size w w':=by
 have hT:=Jn s hs
 have hb1:=Hd ((Below.refl w.heap.size w).alloc nR (.cells #[.int .i64 s,.int .i64 n,.int .i64 k,.int .i64 d,.int .i64 t,.int .i64 r] 45))
 have hbox:=Hd (heap_alloc_new w (.cells #[.int .i64 s,.int .i64 n,.int .i64 k,.int .i64 d,.int .i64 t,.int .i64 r] 45))
 replace hE:=Hd (hE.below hb1.out)
 have hcall:=Hd (Xh s hs (w.alloc (.cells #[.int .i64 s,.int .i64 n,.int .i64 k,.int .i64 d,.int .i64 t,.int .i64 r] 45)))
 generalize Yc s=T at*
 unfold YV
 rcases hb with hb|hb
 all_goals
  go_enter Tryz.func88,Tryz.ntmps88
  go_wp2_with fail
  with_reducible refine hcall.out.mono ?_
  rintro e w1 ⟨rfl,hb2⟩
  replace hE:=Hd (hE.out.below hb2)
  replace hbox:=Hd ((hb2.block _ c4X).trans hbox.out)
  replace hb1:=Hd (hb1.out.trans (hb2.mono c4X))
  obtain⟨c0,c1,c2,c3,c4,c5⟩:=Kh hbox.out
  clear hb2 hcall
  go_wp2_with fail
  with_reducible refine(Xn s n k d t r _ z w1 hE.out).mono ?_
  rintro e w2 ⟨M,hM,rfl,hb2⟩
  obtain rfl:=hM oX
  replace hb1:=Hd (hb1.out.trans (hb2.mono hb1.out.size))
  have hsz:=hb1.out.size
  clear hb2 hM c0 c1 c2 c3 c4 c5 hbox hE
  unfold Yj QU
  go_wp2_with fail
  have i0:=Gc s n k d t r 12 z
  have i1:=Ng s n k d t r 12 z
  have i2:=MT s n k d t r 12 z
  have i3:=Pm s n k d t r 12 z
  have i4:=LK s n k d t r 12 z
  have i5:=Cf s n k d t r 12 z
  unfold Yj QU at i0 i1 i2 i3 i4 i5
  refine wp_loop_rounds 6 ?_
  rw[rounds_succ]
  go_wp2_with fail
  rw[rounds_succ]
  go_wp2_with fail
  rw[rounds_succ]
  go_wp2_with fail
  rw[rounds_succ]
  go_wp2_with fail
  rw[rounds_succ]
  go_wp2_with fail
  rw[rounds_succ]
  go_wp2_with fail
  go_ret
  exact⟨_,rfl,⟨_,rfl,oX,Yl _ _ _ sX⟩,(((((((hb1.out.alloc oX _).alloc sYq _).alloc sYq _).alloc sYq _).alloc sYq _).alloc sYq _).alloc sYq _)⟩
open Go.RowKit Go.Extern.Stop Go.Stop Go.Extern
theorem ND(s n k d t r:Int)(h:Kn s n k d t r)(z:Nat->Addr)(w:World)(hE:ParErrs w z) :
  Calls Tryz.prog 88 #[.agg #[.int .i64 s,.int .i64 n,.int .i64 k,.int .i64 d,.int .i64 t,.int .i64 r]] w λe w'=>e=.returned .nilIface/\Below w.heap.size w w':=Hm s n k d t r h z w hE
def Qi(s n k d t r:Int):Option (ByteArray×Int×Nat):=
 if s<0\/2000<s then some (⟨#[115,105,122,101]⟩,s,7)
 else if n<0\/8<n then some (⟨#[115,101,110,116,105,110,101,108,115]⟩,n,17)
 else if k<1\/12<k then some (⟨#[115,112,111,116,115]⟩,k,0)
 else if d<1\/10000<d then some (⟨#[112,101,114,105,111,100]⟩,d,0)
 else if t<1\/d<t then some (⟨#[112,97,116,105,101,110,99,101]⟩,t,0)
 else if r<0\/5<r then some (⟨#[114,101,116,114,105,101,115]⟩,r,0)
 else none
theorem VJ(s n k d t r:Int) :
  ((s<0\/2000<s)/\Qi s n k d t r=some (⟨#[115,105,122,101]⟩,s,7))\/
  ((0<=s/\s<=2000)/\(n<0\/8<n)/\Qi s n k d t r=some (⟨#[115,101,110,116,105,110,101,108,115]⟩,n,17))\/
  ((0<=s/\s<=2000)/\(0<=n/\n<=8)/\(k<1\/12<k)/\Qi s n k d t r=some (⟨#[115,112,111,116,115]⟩,k,0))\/
  ((0<=s/\s<=2000)/\(0<=n/\n<=8)/\(1<=k/\k<=12)/\(d<1\/10000<d)/\Qi s n k d t r=some (⟨#[112,101,114,105,111,100]⟩,d,0))\/
  ((0<=s/\s<=2000)/\(0<=n/\n<=8)/\(1<=k/\k<=12)/\(1<=d/\d<=10000)/\(t<1\/d<t)/\Qi s n k d t r=some (⟨#[112,97,116,105,101,110,99,101]⟩,t,0))\/
  ((0<=s/\s<=2000)/\(0<=n/\n<=8)/\(1<=k/\k<=12)/\(1<=d/\d<=10000)/\(1<=t/\t<=d)/\(r<0\/5<r)/\Qi s n k d t r=some (⟨#[114,101,116,114,105,101,115]⟩,r,0))\/
  ((0<=s/\s<=2000)/\(0<=n/\n<=8)/\(1<=k/\k<=12)/\(1<=d/\d<=10000)/\(1<=t/\t<=d)/\(0<=r/\r<=5)/\Qi s n k d t r=none):=by
 unfold Qi
 by_cases h1:s<0\/2000<s
 ·exact .inl ⟨h1,by rw[if_pos h1]⟩
 by_cases h2:n<0\/8<n
 ·exact .inr (.inl ⟨oX,h2,by rw[if_neg h1,if_pos h2]⟩)
 by_cases h3:k<1\/12<k
 ·exact .inr (.inr (.inl ⟨oX,oX,h3,by rw[if_neg h1,if_neg h2,if_pos h3]⟩))
 by_cases h4:d<1\/10000<d
 ·exact .inr (.inr (.inr (.inl ⟨oX,oX,oX,h4,by rw[if_neg h1,if_neg h2,if_neg h3,if_pos h4]⟩)))
 by_cases h5:t<1\/d<t
 ·exact .inr (.inr (.inr (.inr (.inl ⟨oX,oX,oX,oX,h5,by rw[if_neg h1,if_neg h2,if_neg h3,if_neg h4,if_pos h5]⟩))))
 by_cases h6:r<0\/5<r
 ·exact .inr (.inr (.inr (.inr (.inr (.inl ⟨oX,oX,oX,oX,oX,h6,by rw[if_neg h1,if_neg h2,if_neg h3,if_neg h4,if_neg h5,if_pos h6]⟩)))))
 ·exact .inr (.inr (.inr (.inr (.inr (.inr ⟨oX,oX,oX,oX,oX,oX,by rw[if_neg h1,if_neg h2,if_neg h3,if_neg h4,if_neg h5,if_neg h6]⟩)))))
theorem Tryz.isTypeOf(v:Value)(w:World):(Extern.ReflectliteType.typeOf #[.iface 298 v]).run Tryz.prog w=.ok (.iface 212 (.agg #[.pointer (some ⟨27,298,none⟩)])) w:=kX
noncomputable def Vc:Array Value->Sem Value:=Extern.ReflectliteType.method λt=>do Extern.Rtype.noPackHeld "Comparable" t;pure (.bool (<-typeInfo t).comparable)
theorem Tryz.isComparable(w:World):(Vc #[.agg #[.pointer (some ⟨27,298,none⟩)]]).run Tryz.prog w=.ok (.bool true) w:=kX
theorem Tryz.isMethodComparable(v:Value)(w:World):(Go.method 434 212 v "Comparable").run Tryz.prog w=.ok (210,v) w:=kX
theorem Tryz.isComp:(Tryz.prog.info? 298).map (·.comparable)=some true:=kX
theorem Tryz.isSize:(Tryz.prog.info? 322).map (·.size)=some 1:=kX
theorem Tryz.noIsE(v:Value)(xT:TypeId)(w:World):(Instr.typeAssert (.iface 298 v) xT 214 true).run Tryz.prog w=.ok (.tuple #[.nilIface,.bool false]) w:=run_typeAssert_lacksB Tryz.underlying214 kX kX v xT w
theorem Tryz.noUnwrapE(v:Value)(xT:TypeId)(w:World):(Instr.typeAssert (.iface 298 v) xT 217 true).run Tryz.prog w=.ok (.tuple #[.nilIface,.bool false]) w:=run_typeAssert_lacksB Tryz.underlying217 kX kX v xT w
theorem Tryz.noUnwrapsE(v:Value)(xT:TypeId)(w:World):(Instr.typeAssert (.iface 298 v) xT 219 true).run Tryz.prog w=.ok (.tuple #[.nilIface,.bool false]) w:=run_typeAssert_lacksB Tryz.underlying219 kX kX v xT w
theorem Bb(a:Addr)(w:World) :
  Calls Tryz.prog 38 #[.iface 298 (.pointer (some a)),.iface 298 (.pointer (some a))] w λe w'=>e=.returned (.bool true)/\w=w':=by
 obtain⟨i,hi,hcmp⟩:=Option.map_eq_some_iff.1 Tryz.isComp
 obtain⟨j,hj,hjs⟩:=Option.map_eq_some_iff.1 Tryz.isSize
 have h8:=@run_callFunc_extern Tryz.prog 84 _ Extern.ReflectliteType.typeOf Tryz.func84 kX kX kX kX
 have h32:=@run_callFunc_extern Tryz.prog 210 _ Vc Tryz.func210 kX kX kX kX
 have tT:=Tryz.isTypeOf
 have cT:=Tryz.isComparable
 have mR:=Tryz.isMethodComparable
 have heq:=run_eql_iface_ptr_same (P:=Tryz.prog) w a Tryz.underlying30 Tryz.underlying298 hi hcmp hj
 go_enter Tryz.func38,Tryz.ntmps38
 go_wp2
 refine wp_loop_rounds 1 ?_
 rw[rounds_succ]
 go_wp2
 go_ret
 exact⟨rfl,rfl⟩
theorem L0(a b:Addr)(ca cb:Array Value)(ta tb:TypeId)(w:World)(hne:a≠b)(ha:w.heap[a.block]? = some (.cells ca ta (0,0)))(hb:w.heap[b.block]? = some (.cells cb tb (0,0))) :
  Calls Tryz.prog 38 #[.iface 298 (.pointer (some a)),.iface 298 (.pointer (some b))] w λe w'=>e=.returned (.bool false)/\w=w':=by
 obtain⟨i,hi,hcmp⟩:=Option.map_eq_some_iff.1 Tryz.isComp
 obtain⟨j,hj,hjs⟩:=Option.map_eq_some_iff.1 Tryz.isSize
 have h8:=@run_callFunc_extern Tryz.prog 84 _ Extern.ReflectliteType.typeOf Tryz.func84 kX kX kX kX
 have h32:=@run_callFunc_extern Tryz.prog 210 _ Vc Tryz.func210 kX kX kX kX
 have tT:=Tryz.isTypeOf
 have cT:=Tryz.isComparable
 have mR:=Tryz.isMethodComparable
 have nE:=Tryz.noIsE
 have uE:=Tryz.noUnwrapE
 have vE:=Tryz.noUnwrapsE
 have heq:=run_eql_iface_ptr_other (P:=Tryz.prog) w Tryz.underlying30 Tryz.underlying298 hi hcmp hj (by rw[hjs];decide) hne ha hb
 go_enter Tryz.func38,Tryz.ntmps38
 go_wp2
 refine wp_loop_rounds 1 ?_
 rw[rounds_succ]
 go_wp2
 go_ret
 exact⟨rfl,rfl⟩
def errGs:List Nat:=[0,1,2,3,4,5,6,7,8,9,10,11,12,13,14,15,16,17,18,19]
theorem Qs{w:World}{a:Nat->Addr}(H:Errs 298 errGs w a) :
  w.cell? ⟨0,0,none⟩=some (.iface 298 (.pointer (some (a 0))))/\
  w.cell? ⟨1,0,none⟩=some (.iface 298 (.pointer (some (a 1))))/\
  w.cell? ⟨2,0,none⟩=some (.iface 298 (.pointer (some (a 2))))/\
  w.cell? ⟨3,0,none⟩=some (.iface 298 (.pointer (some (a 3))))/\
  w.cell? ⟨4,0,none⟩=some (.iface 298 (.pointer (some (a 4))))/\
  w.cell? ⟨5,0,none⟩=some (.iface 298 (.pointer (some (a 5))))/\
  w.cell? ⟨6,0,none⟩=some (.iface 298 (.pointer (some (a 6))))/\
  w.cell? ⟨7,0,none⟩=some (.iface 298 (.pointer (some (a 7))))/\
  w.cell? ⟨8,0,none⟩=some (.iface 298 (.pointer (some (a 8))))/\
  w.cell? ⟨9,0,none⟩=some (.iface 298 (.pointer (some (a 9))))/\
  w.cell? ⟨10,0,none⟩=some (.iface 298 (.pointer (some (a 10))))/\
  w.cell? ⟨11,0,none⟩=some (.iface 298 (.pointer (some (a 11))))/\
  w.cell? ⟨12,0,none⟩=some (.iface 298 (.pointer (some (a 12))))/\
  w.cell? ⟨13,0,none⟩=some (.iface 298 (.pointer (some (a 13))))/\
  w.cell? ⟨14,0,none⟩=some (.iface 298 (.pointer (some (a 14))))/\
  w.cell? ⟨15,0,none⟩=some (.iface 298 (.pointer (some (a 15))))/\
  w.cell? ⟨16,0,none⟩=some (.iface 298 (.pointer (some (a 16))))/\
  w.cell? ⟨17,0,none⟩=some (.iface 298 (.pointer (some (a 17))))/\
  w.cell? ⟨18,0,none⟩=some (.iface 298 (.pointer (some (a 18))))/\
  w.cell? ⟨19,0,none⟩=some (.iface 298 (.pointer (some (a 19)))):=
 ⟨H.var 0 dX,H.var 1 dX,H.var 2 dX,H.var 3 dX,H.var 4 dX,H.var 5 dX,H.var 6 dX,H.var 7 dX,H.var 8 dX,H.var 9 dX,H.var 10 dX,H.var 11 dX,H.var 12 dX,H.var 13 dX,H.var 14 dX,H.var 15 dX,H.var 16 dX,H.var 17 dX,H.var 18 dX,H.var 19 dX⟩
def Jm(a:Nat->Addr):Array Value:=#[.iface 298 (.pointer (some (a 0))),.iface 298 (.pointer (some (a 1))),.iface 298 (.pointer (some (a 2))),.iface 298 (.pointer (some (a 3))),.iface 298 (.pointer (some (a 4))),.iface 298 (.pointer (some (a 5))),.iface 298 (.pointer (some (a 6))),.iface 298 (.pointer (some (a 7))),.iface 298 (.pointer (some (a 8))),.iface 298 (.pointer (some (a 9))),.iface 298 (.pointer (some (a 10))),.iface 298 (.pointer (some (a 11))),.iface 298 (.pointer (some (a 12))),.iface 298 (.pointer (some (a 13))),.iface 298 (.pointer (some (a 14))),.iface 298 (.pointer (some (a 15))),.iface 298 (.pointer (some (a 16))),.iface 298 (.pointer (some (a 17))),.iface 298 (.pointer (some (a 18))),.iface 298 (.pointer (some (a 19)))]
theorem Uo(a:Nat->Addr)(m:Nat)(h:m<20):(Jm a)[m]? = some (.iface 298 (.pointer (some (a m)))):=by
 match m,h with
 | 0,_=>rfl
 | 1,_=>rfl
 | 2,_=>rfl
 | 3,_=>rfl
 | 4,_=>rfl
 | 5,_=>rfl
 | 6,_=>rfl
 | 7,_=>rfl
 | 8,_=>rfl
 | 9,_=>rfl
 | 10,_=>rfl
 | 11,_=>rfl
 | 12,_=>rfl
 | 13,_=>rfl
 | 14,_=>rfl
 | 15,_=>rfl
 | 16,_=>rfl
 | 17,_=>rfl
 | 18,_=>rfl
 | 19,_=>rfl
 | n+20,h=>omega
theorem Ni(w:World):Calls Tryz.prog 10 #[.nilIface] w λe w'=>e=.returned (.int .i64 0)/\w=w':=by
 go_enter Tryz.func10,Tryz.ntmps10
 go_wp2_with fail
 go_ret
 exact⟨rfl,rfl⟩
theorem BC(i:Nat)(hi:i<20)(a:Nat->Addr)(w:World)(H:Errs 298 errGs w a) :
  Calls Tryz.prog 10 #[.iface 298 (.pointer (some (a i)))] w λe w'=>e=.returned (.int .i64 ((i+1:Nat):Int))/\Below w.heap.size w w':=by
 obtain⟨g0,g1,g2,g3,g4,g5,g6,g7,g8,g9,g10,g11,g12,g13,g14,g15,g16,g17,g18,g19⟩:=Qs H
 have H:=Hd H
 go_enter Tryz.func10,Tryz.ntmps10
 go_wp2_with fail
 obtain⟨w1,hw1⟩:∃ w1,w1=w.alloc (Obj.cells (Jm a) 30):=⟨_,rfl⟩
 have hcl:∀ m,m<20->w1.cell? ⟨w.heap.size,m,none⟩=some (.iface 298 (.pointer (some (a m)))):=by
  intro m hm
  rw[hw1,Za (heap_alloc_new w _)]
  exact Uo a m hm
 have hb1:Below w.heap.size w w1:=by rw[hw1];exact bR.alloc nR _
 have H1:=Hd (H.out.below hb1)
 have hcl:=Hd hcl
 unfold Jm at hw1
 rw[<-hw1]
 clear hw1 H
 clear g0 g1 g2 g3 g4 g5 g6 g7 g8 g9 g10 g11 g12 g13 g14 g15 g16 g17 g18 g19
 go_loop [31] (λj=>∃ m:Nat,m<=i/\j=.int .i64 m) (λj=>i-(intOf j).toNat)
 case atStart=>exact⟨0,Nat.zero_le _,rfl⟩
 case round=>
  obtain⟨m,hm,rfl⟩:=hrel
  have hc:=hcl.out m oX
  by_cases hlt:m<i
  ·obtain⟨c1,t1,o1⟩:=H1.out.obj i hi
   obtain⟨c2,t2,o2⟩:=H1.out.obj m (by show m<20;omega)
   have hne:a i≠a m:=λe=>by have:=H1.out.inj' dX i m hi (by show m<20;omega) e;omega
   have o1:=Hd o1
   have o2:=Hd o2
   have hne:=Hd hne
   go_wp2_with fail
   refine(L0 (a i) (a m) c1 c2 t1 t2 _ hne.out o1.out o2.out).mono ?_
   rintro e w2 ⟨rfl,rfl⟩
   go_wp2_with fail
   exact⟨⟨m+1,oX,by go_num⟩,by simp[intOf];omega⟩
  ·obtain rfl:m=i:=oX
   go_wp2_with fail
   refine(Bb (a m) _).mono ?_
   rintro e w2 ⟨rfl,rfl⟩
   go_wp2_with fail
   go_ret
   exact⟨rfl,hb1⟩
theorem Tryz.noIsW(v:Value)(xT:TypeId)(w:World):(Instr.typeAssert (.iface 227 v) xT 214 true).run Tryz.prog w=.ok (.tuple #[.nilIface,.bool false]) w:=run_typeAssert_lacksB Tryz.underlying214 kX kX v xT w
theorem Tryz.hasUnwrapW(v:Value)(xT:TypeId)(w:World):(Instr.typeAssert (.iface 227 v) xT 217 true).run Tryz.prog w=.ok (.tuple #[.iface 227 v,.bool true]) w:=run_typeAssert_hasB Tryz.underlying217 kX v xT w
theorem Tryz.methodUnwrap(v:Value)(w:World):(Go.method 434 227 v "Unwrap").run Tryz.prog w=.ok (220,v) w:=kX
theorem MW(pb po:Nat)(b:Addr)(w:World)(h1:w.cell? ⟨pb,po+2,none⟩=some (.iface 298 (.pointer (some b)))) :
  Calls Tryz.prog 38 #[.iface 227 (.pointer (some ⟨pb,po,none⟩)),.iface 298 (.pointer (some b))] w λe w'=>e=.returned (.bool true)/\w=w':=by
 obtain⟨i,hi,hcmp⟩:=Option.map_eq_some_iff.1 Tryz.isComp
 obtain⟨j,hj,hjs⟩:=Option.map_eq_some_iff.1 Tryz.isSize
 have h8:=@run_callFunc_extern Tryz.prog 84 _ Extern.ReflectliteType.typeOf Tryz.func84 kX kX kX kX
 have h32:=@run_callFunc_extern Tryz.prog 210 _ Vc Tryz.func210 kX kX kX kX
 have tT:=Tryz.isTypeOf
 have cT:=Tryz.isComparable
 have mR:=Tryz.isMethodComparable
 have nE:=Tryz.noIsE
 have uE:=Tryz.noUnwrapE
 have vE:=Tryz.noUnwrapsE
 have nW:=Tryz.noIsW
 have uW:=Tryz.hasUnwrapW
 have mU:=Tryz.methodUnwrap
 have heq:=run_eql_iface_ptr_same (P:=Tryz.prog) w b Tryz.underlying30 Tryz.underlying298 hi hcmp hj
 have hty:=run_eql_iface_types (P:=Tryz.prog) 227 298 (.pointer (some ⟨pb,po,none⟩)) (.pointer (some b)) Tryz.underlying30 dX w
 go_enter Tryz.func38,Tryz.ntmps38
 go_wp2
 refine wp_loop_rounds 2 ?_
 rw[rounds_succ]
 go_wp2
 rw[rounds_succ]
 go_wp2
 go_ret
 exact⟨rfl,rfl⟩
theorem Ml(pb po:Nat)(b a:Addr)(ca cb:Array Value)(ta tb:TypeId)(w:World)(h1:w.cell? ⟨pb,po+2,none⟩=some (.iface 298 (.pointer (some a))))(hne:a≠b)(ha:w.heap[a.block]? = some (.cells ca ta (0,0)))(hb:w.heap[b.block]? = some (.cells cb tb (0,0))) :
  Calls Tryz.prog 38 #[.iface 227 (.pointer (some ⟨pb,po,none⟩)),.iface 298 (.pointer (some b))] w λe w'=>e=.returned (.bool false)/\w=w':=by
 obtain⟨i,hi,hcmp⟩:=Option.map_eq_some_iff.1 Tryz.isComp
 obtain⟨j,hj,hjs⟩:=Option.map_eq_some_iff.1 Tryz.isSize
 have h8:=@run_callFunc_extern Tryz.prog 84 _ Extern.ReflectliteType.typeOf Tryz.func84 kX kX kX kX
 have h32:=@run_callFunc_extern Tryz.prog 210 _ Vc Tryz.func210 kX kX kX kX
 have tT:=Tryz.isTypeOf
 have cT:=Tryz.isComparable
 have mR:=Tryz.isMethodComparable
 have nE:=Tryz.noIsE
 have uE:=Tryz.noUnwrapE
 have vE:=Tryz.noUnwrapsE
 have nW:=Tryz.noIsW
 have uW:=Tryz.hasUnwrapW
 have mU:=Tryz.methodUnwrap
 have heq:=run_eql_iface_ptr_other (P:=Tryz.prog) w Tryz.underlying30 Tryz.underlying298 hi hcmp hj (by rw[hjs];decide) hne ha hb
 have hty:=run_eql_iface_types (P:=Tryz.prog) 227 298 (.pointer (some ⟨pb,po,none⟩)) (.pointer (some b)) Tryz.underlying30 dX w
 go_enter Tryz.func38,Tryz.ntmps38
 go_wp2
 refine wp_loop_rounds 2 ?_
 rw[rounds_succ]
 go_wp2
 rw[rounds_succ]
 go_wp2
 go_ret
 exact⟨rfl,rfl⟩
theorem D6(g:Nat)(F:ByteArray)(V:Int)(i:Nat)(hi:i<20)(a:Nat->Addr)(w:World)(H:Errs 298 errGs w a)(hg:w.heap[g]? = some (.cells #[.string F,.int .i64 V,.iface 298 (.pointer (some (a i)))] 229 (0,0))) :
  Calls Tryz.prog 10 #[.iface 227 (.pointer (some ⟨g,0,none⟩))] w λe w'=>e=.returned (.int .i64 ((i+1:Nat):Int))/\Below w.heap.size w w':=by
 obtain⟨g0,g1,g2,g3,g4,g5,g6,g7,g8,g9,g10,g11,g12,g13,g14,g15,g16,g17,g18,g19⟩:=Qs H
 have H:=Hd H
 go_enter Tryz.func10,Tryz.ntmps10
 go_wp2_with fail
 obtain⟨w1,hw1⟩:∃ w1,w1=w.alloc (Obj.cells (Jm a) 30):=⟨_,rfl⟩
 have hcl:∀ m,m<20->w1.cell? ⟨w.heap.size,m,none⟩=some (.iface 298 (.pointer (some (a m)))):=by
  intro m hm
  rw[hw1,Za (heap_alloc_new w _)]
  exact Uo a m hm
 have hb1:Below w.heap.size w w1:=by rw[hw1];exact bR.alloc nR _
 have H1:=Hd (H.out.below hb1)
 have hw:=Hd (Za ((hb1.block g (Zb hg)).trans hg) 2)
 clear hg
 have hcl:=Hd hcl
 unfold Jm at hw1
 rw[<-hw1]
 clear hw1 H
 clear g0 g1 g2 g3 g4 g5 g6 g7 g8 g9 g10 g11 g12 g13 g14 g15 g16 g17 g18 g19
 go_loop [31] (λj=>∃ m:Nat,m<=i/\j=.int .i64 m) (λj=>i-(intOf j).toNat)
 case atStart=>exact⟨0,Nat.zero_le _,rfl⟩
 case round=>
  obtain⟨m,hm,rfl⟩:=hrel
  have hc:=hcl.out m oX
  by_cases hlt:m<i
  ·obtain⟨c1,t1,o1⟩:=H1.out.obj i hi
   obtain⟨c2,t2,o2⟩:=H1.out.obj m (by show m<20;omega)
   have hne:a i≠a m:=λe=>by have:=H1.out.inj' dX i m hi (by show m<20;omega) e;omega
   have o1:=Hd o1
   have o2:=Hd o2
   have hne:=Hd hne
   go_wp2_with fail
   refine(Ml g 0 (a m) (a i) c1 c2 t1 t2 _ hw.out hne.out o1.out o2.out).mono ?_
   rintro e w2 ⟨rfl,rfl⟩
   go_wp2_with fail
   exact⟨⟨m+1,oX,by go_num⟩,by simp[intOf];omega⟩
  ·obtain rfl:m=i:=oX
   go_wp2_with fail
   refine(MW g 0 (a m) _ hw.out).mono ?_
   rintro e w2 ⟨rfl,rfl⟩
   go_wp2_with fail
   go_ret
   exact⟨rfl,hb1⟩
def pz(ea:Nat->Addr)(j:Nat):Addr:=ea (if j=0 then 0 else if j=1 then 7 else 17)
theorem UJ{w:World}{ea:Nat->Addr}(H:Errs 298 errGs w ea):ParErrs w (pz ea):=by
 refine⟨λi hi=>?_,λi hi=>?_,λi j hi hj e=>?_⟩
 ·rcases(show i=0\/i=1\/i=2 from by simp[Gr] at hi;omega) with rfl|rfl|rfl
  ·exact H.var 0 dX
  ·exact H.var 7 dX
  ·exact H.var 17 dX
 ·rcases(show i=0\/i=1\/i=2 from by simp[Gr] at hi;omega) with rfl|rfl|rfl
  ·exact H.obj 0 dX
  ·exact H.obj 7 dX
  ·exact H.obj 17 dX
 ·have hi':i=0\/i=1\/i=2:=by simp[Gr] at hi;omega
  have hj':j=0\/j=1\/j=2:=by simp[Gr] at hj;omega
  have h3:=H.inj (if i=0 then 0 else if i=1 then 7 else 17) (if j=0 then 0 else if j=1 then 7 else 17) (by show _<20;split<;>(try split)<;>omega) (by show _<20;split<;>(try split)<;>omega) e
  rcases hi' with rfl|rfl|rfl<;>rcases hj' with rfl|rfl|rfl<;>first|rfl|exact absurd h3 dX
theorem Up{s n k d t r:Int}(h:Qi s n k d t r=none):Kn s n k d t r:=by
 rcases VJ s n k d t r with ⟨_,h'⟩|⟨_,_,h'⟩|⟨_,_,_,h'⟩|⟨_,_,_,_,h'⟩|⟨_,_,_,_,_,h'⟩|⟨_,_,_,_,_,_,h'⟩|⟨h1,h2,h3,h4,h5,h6,_⟩
 all_goals first|(rw[h] at h';cases h')|exact⟨h1,h2,h3,h4,h5,h6⟩
theorem Uz{s n k d t r V:Int}{F:ByteArray}{i:Nat}(h:Qi s n k d t r=some (F,V,i)):i<20:=by
 rcases VJ s n k d t r with ⟨_,h'⟩|⟨_,_,h'⟩|⟨_,_,_,h'⟩|⟨_,_,_,_,h'⟩|⟨_,_,_,_,_,h'⟩|⟨_,_,_,_,_,_,h'⟩|⟨h1,h2,h3,h4,h5,h6,h'⟩
 all_goals (rw[h] at h';first|(cases h';omega)|cases h')
theorem KF(s n k d t r:Int)(F:ByteArray)(V:Int)(i:Nat)(h:Qi s n k d t r=some (F,V,i))(hn : -9223372036854775808<=n/\n<=9223372036854775807)(ea:Nat->Addr)(w:World)(H:Errs 298 errGs w ea) :
  Calls Tryz.prog 88 #[.agg #[.int .i64 s,.int .i64 n,.int .i64 k,.int .i64 d,.int .i64 t,.int .i64 r]] w λe w'=>∃ g,e=.returned (.iface 227 (.pointer (some ⟨g,0,none⟩)))/\w.heap.size<=g/\w'.heap[g]? = some (.cells #[.string F,.int .i64 V,.iface 298 (.pointer (some (ea i)))] 229 (0,0))/\Below w.heap.size w w':=by
 have hE:=UJ H
 have fin:∀ F' V' i',(Calls Tryz.prog 88 #[YV s n k d t r] w λe w'=>∃ v,e=.returned v/\Vk w.heap.size w' v F' V' (ea i')/\Below w.heap.size w w')->Qi s n k d t r=some (F',V',i')->Calls Tryz.prog 88 #[.agg #[.int .i64 s,.int .i64 n,.int .i64 k,.int .i64 d,.int .i64 t,.int .i64 r]] w λe w'=>∃ g,e=.returned (.iface 227 (.pointer (some ⟨g,0,none⟩)))/\w.heap.size<=g/\w'.heap[g]? = some (.cells #[.string F,.int .i64 V,.iface 298 (.pointer (some (ea i)))] 229 (0,0))/\Below w.heap.size w w':=by
  intro F' V' i' hc h'
  rw[h] at h'
  cases h'
  refine Calls.mono hc ?_
  rintro e w' ⟨v,rfl,⟨g,rfl,h1,h2⟩,hb⟩
  exact⟨g,rfl,h1,h2,hb⟩
 rcases VJ s n k d t r with ⟨h1,h'⟩|⟨h1,h2,h'⟩|⟨h1,h2,h3,h'⟩|⟨h1,h2,h3,h4,h'⟩|⟨h1,h2,h3,h4,h5,h'⟩|⟨h1,h2,h3,h4,h5,h6,h'⟩|⟨h1,h2,h3,h4,h5,h6,h'⟩
 ·exact fin _ _ _ (Ph s n k d t r h1 (pz ea) w hE hn) h'
 ·exact fin _ _ _ (Rt s n k d t r h1 h2 (pz ea) w hE) h'
 ·exact fin _ _ _ (Pp s n k d t r h1 h2 h3 (pz ea) w hE) h'
 ·exact fin _ _ _ (Rl s n k d t r h1 h2 h3 h4 (pz ea) w hE) h'
 ·exact fin _ _ _ (Pa s n k d t r h1 h2 h3 h4 h5 (pz ea) w hE) h'
 ·exact fin _ _ _ (Re s n k d t r h1 h2 h3 h4 h5 h6 (pz ea) w hE) h'
 ·rw[h] at h';cases h'
def MJ(base:Nat)(w:World)(F:ByteArray)(V:Int)(x:Addr)(g:Nat):Prop:=base<=g/\w.heap[g]? = some (.cells #[.string F,.int .i64 V,.iface 298 (.pointer (some x))] 229 (0,0))
section
variable (s n k d t r:Int) (F:ByteArray) (V:Int) (i:Nat) (ea:Nat->Addr) (w:World)
end
theorem MR(fn:Nat->Option (Nat×Nat)):∀ (vs:List Value) (i:Nat) (pre rest:List Value),GU fn i pre.length vs->(vs.map (·.cells.size)).sum<=rest.length->
  Instr.fill fn (pre++rest).toArray ((vs.zipIdx i).map λx=>(x.2,x.1))=some (pre++(vs.flatMap (·.cells.toList)++rest.drop (vs.map (·.cells.size)).sum)).toArray
 | [],i,pre,rest,_,hr=>by simp[Instr.fill]
 | v::vs,i,pre,rest,hp,hr=>by
  obtain⟨h1,h2⟩:=hp
  simp only[List.map_cons,List.sum_cons] at hr
  simp only[List.zipIdx_cons,List.map_cons]
  unfold Instr.fill
  simp only[h1]
  rw[if_neg sYq]
  obtain⟨g1,g2⟩:=Go.Great.foldl_set pre.length v.cells.toList 0 (pre++rest).toArray
  have hll:v.cells.toList.length=v.cells.size:=Array.length_toList ..
  generalize hl:v.cells.toList=l at*
  have e:(l.zipIdx 0).foldl (λcs (x:Value×Nat)=>cs.setIfInBounds (pre.length+x.2) x.1) (pre++rest).toArray=((pre++l)++rest.drop v.cells.size).toArray:=by
   apply Array.ext_getElem?
   intro k
   rw[g2 k]
   simp only[Nat.add_zero,List.size_toArray,List.length_append,List.getElem?_toArray]
   by_cases hk:pre.length<=k/\k<pre.length+l.length/\k<pre.length+rest.length
   ·rw[if_pos hk,List.append_assoc,List.getElem?_append_right hk.1,List.getElem?_append_left oX]
   ·rw[if_neg hk]
    by_cases hk1:k<pre.length
    ·rw[List.getElem?_append_left hk1,List.append_assoc,List.getElem?_append_left hk1]
    ·rw[List.getElem?_append_right oX,List.getElem?_append_right (by rw[List.length_append];omega),List.length_append,List.getElem?_drop]
     congr 1
     omega
  have hfold:Array.foldl (λcs (x:Value×Nat)=>cs.setIfInBounds (pre.length+x.2) x.1) (pre++rest).toArray v.cells.zipIdx=((pre++l)++rest.drop v.cells.size).toArray:=by
   rw[<-e,<-Array.foldl_toList,Array.toList_zipIdx,hl]
  rw[hfold]
  have ih:=MR fn vs (i+1) (pre++l) (rest.drop v.cells.size) (by rw[List.length_append,hll];exact h2) c3X
  rw[ih]
  simp[hl,List.drop_drop]
theorem WB{P:Program}{t:TypeId}{fs:Array Field}{places:List (Nat×Nat)}{Z:List Value}(hz:(P.info? t).map (λi=>i.zero.map (·.cells.toList))=some (some Z))(hu:P.underlying t=some (.struct fs))(hp:fs.toList.mapM (λf=>(P.info? f.type).map λi=>(f.offset,i.size))=some places)
  (vs:List Value) (hpl:GU (places.toArray[·]?) 0 0 vs) (hn:(vs.map (·.cells.size)).sum<=Z.length):P.built t ((vs.zipIdx 0).map λx=>(x.2,x.1))=some (vs.flatMap (·.cells.toList)++Z.drop (vs.map (·.cells.size)).sum).toArray:=by
 obtain⟨it,hit,h2⟩:=Option.map_eq_some_iff.1 hz
 obtain⟨z,hz1,hz2⟩:=Option.map_eq_some_iff.1 h2
 unfold Program.built
 simp only[hit,hu,hz1,hp]
 have h:=MR (λi=>places.toArray[i]?) vs 0 [] z.cells.toList hpl (by rw[hz2];exact hn)
 have hz3:z.cells=Z.toArray:=by rw[<-hz2]
 rw[hz2] at h
 rw[hz3]
 simpa using h
section
variable {P:Program} {ops:Array Oper} {rest:List Oper} {o:Oper} {a:Act} {w:World} {Q:Exit->Act->World->Prop}
theorem Kx(w:World)(b j:Nat)(ty T:TypeId)(C:Array Value)(v:Value)(hg:w.heap[b]? = some (.cells C T (0,0)))(hj:j<C.size)(hi:(P.info? ty).map (·.size)=some 1)(h1:v.oneCell'=true) :
  (storeVar ty ⟨b,j,none⟩ v).run P w=.ok () (w.setCell ⟨b,j,none⟩ v):=by
 have ht:=VV hg j 1 oX
 have:=run_storeCells_cells (P:=P) b j [v] 0 w (λi hi=>by simpa using (ht i (by simpa using hi)).1) (λi hi=>by simpa using (ht i (by simpa using hi)).2) (λx hx=>by simp at hx;subst hx;exact h1)
 have hc:v.cells=#[v]:=by cases v<;>first|rfl|cases h1
 cases hq:P.info? ty with
 | none=>simp[hq] at hi
 | some i=>
  have hs:i.size=1:=by simpa[hq] using hi
  simp only[Nat.add_zero] at this
  simp[storeVar,sizeOf,typeInfo,hq,hc,hs,this,World.setCells]
theorem Mo{K:Act->World->Prop}(ty T:TypeId)(x y:Operand)(ho:o.op=.store ty x y)(g j:Nat)(C:Array Value)(v:Value)
  (hx:a.eval x=.pointer (some ⟨g,j,none⟩)) (hy:a.eval y=v) (hg:Hid (w.heap[g]? = some (.cells C T (0,0)))) (hj:j<C.size) (hi:(P.info? ty).map (·.size)=some 1) (h1:v.oneCell'=true)
  (h:∀ w',Hid (Upd g (.cells (C.setIfInBounds j v) T (0,0)) w w')->K (a.put o.dst undef) w'):o.wp P a w K Q:=by
 unfold Oper.wp execOp
 simp only[ho,hx,hy,Instr.storeAt,Instr.sureAddr,Sem.run_bind,Sem.run_pure,Result.andThen_ok,Kx w g j ty T C v hg.out hj hi h1]
 exact h _ (Hd ((Upd.refl hg.out).setCell v))
theorem J6(hgd:o.guard=none)(ty T:TypeId)(x y:Operand)(ho:o.op=.store ty x y)(g j:Nat)(C:Array Value)(v:Value)
  (hx:a.eval x=.pointer (some ⟨g,j,none⟩)) (hy:a.eval y=v) (hg:Hid (w.heap[g]? = some (.cells C T (0,0)))) (hj:j<C.size) (hi:(P.info? ty).map (·.size)=some 1) (h1:v.oneCell'=true)
  (h:∀ w',Hid (Upd g (.cells (C.setIfInBounds j v) T (0,0)) w w')->wpList P ops Q rest (a.put o.dst undef) w'):wpList P ops Q (o::rest) a w:=
 wpList_plain hgd λK hK=>Mo (K:=K) ty T x y ho g j C v hx hy hg hj hi h1 (λw' hw=>hK _ _ (h w' hw))
end
section
variable {P:Program} {ops:Array Oper} {Q:Exit->Act->World->Prop} {md:Region.Mode} {l n:Nat}
end
open Go Go.RowKit Lean Elab Tactic Meta
end Go.Proofs.YtpdhceiodgnbmaaGreatDoor
