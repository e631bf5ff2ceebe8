import Derived.Test.YtpdhceiodgnbmaaGreatDoorF0FollowsSaid
import Derived.Test.YtpdhceiodgnbmaaGreatDoorF1FollowsSaid
import Derived.Test.YtpdhceiodgnbmaaGreatDoorF7FollowsSaid
import Derived.LoopN
import Derived.Test.YtpdhceiodgnbmaaGreatDoorF3FollowsSaid
import Derived.Deep.CutRange
set_option linter.unusedVariables false
set_option linter.unusedSimpArgs false
set_option linter.unnecessarySimpa false
set_option maxRecDepth 100000
set_option maxHeartbeats 8000000
namespace Go.Proofs.YtpdhceiodgnbmaaGreatDoor
open Go.RowKit
def Z6(n:Int):Int:=if n<=8 then 1 else (n+7) / 8
def Z3(n:Int):List Int:=if Z6 n<=223 then [Z6 n] else [223,Z6 n-223]
def ZI(n:Int):Int:=if Z6 n<=223 then Z6 n+32 else Z6 n+64
theorem XL(n:Int)(h:0<=n/\n<=2000):1<=Z6 n/\Z6 n<=250:=by unfold Z6;split<;>omega
theorem Rh(n:Int)(h:n<0\/2000<n)(z:Addr)(w:World)(hz:w.cell? ⟨7,0,none⟩=some (.iface 298 (.pointer (some z)))):Calls Tryz.prog 154 #[.int .i64 n] w λe w'=>e=.returned (.tuple #[.slice none 0 0,.iface 298 (.pointer (some z))])/\∃ n,w'=w.drewN n:=by
 rcases h with h|h
 all_goals
  go_enter Tryz.func154,Tryz.ntmps154
  go_wp2_with fail
  go_quiet (fail)
  go_wp2
  go_ret2
  exact⟨rfl,_,rfl⟩
theorem Nx(n:Int)(h:0<=n/\n<=2000)(w:World):Calls Tryz.prog 154 #[.int .i64 n] w λe w'=>∃ v,e=.returned (.tuple #[v,.nilIface])/\OwnI w.heap.size w' v (Z3 n)/\Below w.heap.size w w':=by
 have hL:=XL n h
 have hLm:(n<=8/\Z6 n=1)\/(8<n/\Z6 n=(n+7) / 8):=by unfold Z6;split<;>omega
 have hS:(Z6 n<=223/\Z3 n=[Z6 n])\/(223<Z6 n/\Z3 n=[223,Z6 n-223]):=by
  by_cases h:Z6 n<=223
  ·exact .inl ⟨h,by simp[Z3,h]⟩
  ·exact .inr ⟨oX,by simp[Z3,h]⟩
 have hown0:=Hd (OwnI.nil w.heap.size w)
 have hb0:=Hd (Below.refl w.heap.size w)
 generalize Z6 n=L at*
 have hm:max ((n+7) / 8) 1=L:=oX
 generalize Z3 n=S at*
 replace hS:=Hd hS
 go_enter Tryz.func154,Tryz.ntmps154
 go_wp2_with fail
 case' inl=>rw[show Value.int IntKind.i64 1=Value.int IntKind.i64 L from by rw[show L=1 from by omega]]
 case' inr=>rw[show (n+8-1) / 8=L from by omega]
 all_goals
  clear hLm hm
  go_loopw [5,4] (λv j wr=>∃ (zs:List Int) (l:Int),j=.int .i64 l/\OwnI w.heap.size wr v zs/\Below w.heap.size w wr/\((zs=[]/\l=L)\/(l=0/\zs=S)\/(l=L-223/\223<L/\zs=[223])))
   (λ_ j _=>(intOf j).toNat)
  case atStart=>exact⟨[],L,rfl,hown0.out,hb0.out,.inl ⟨rfl,rfl⟩⟩
  case round=>
   clear hown0 hb0
   obtain⟨zs,l,rfl,hown,hbel,hph⟩:=hrel
   have hsz:=hbel.size
   have hlb:0<=l/\l<=250/\zs.length<=2:=by
    rcases hph with ⟨rfl,rfl⟩|⟨rfl,rfl⟩|⟨rfl,_,rfl⟩
    ·exact⟨oX,oX,sX⟩
    ·refine⟨oX,oX,?_⟩
     rcases hS.out with ⟨_,rfl⟩|⟨_,rfl⟩<;>simp
    ·exact⟨oX,oX,sX⟩
   have hnext:0<l->(l<=223->zs++[l]=S)/\(223<l->zs++[223]=[223]/\l=L):=by
    intro h0
    rcases hph with ⟨rfl,rfl⟩|⟨rfl,rfl⟩|⟨rfl,h2,rfl⟩
    ·refine⟨λh1=>?_,λh1=>⟨rfl,rfl⟩⟩
     rcases hS.out with ⟨_,rfl⟩|⟨_,rfl⟩
     ·rfl
     ·omega
    ·omega
    ·refine⟨λh1=>?_,λh1=>by omega⟩
     rcases hS.out with ⟨_,rfl⟩|⟨_,rfl⟩
     ·omega
     ·rfl
   replace hbel:=Hd hbel
   replace hown:=Hd hown
   by_cases hl:0<l
   ·replace hnext:=Hd (hnext hl)
    clear hph
    by_cases h223:l<=223
    ·have hd2:¬223<l:=oX
     go_wp2_with (at_builtin;go_must (refine Yn rfl (.tmp 23) (.tmp 25) rfl w.heap.size _ zs rfl hown l rfl oX hsz ?_))
     intro v' w' ho' hb'
     replace hb':=Hd (hbel.out.trans hb'.out)
     go_wp2_with fail
     go_roundw
     case rel=>exact⟨S,0,by go_num,(hnext.out.1 h223)▸ho'.out,hb'.out,.inr (.inl ⟨rfl,rfl⟩)⟩
     case measure=>simp[intOf];omega
    ·have hd2:223<l:=oX
     go_wp2_with (at_builtin;go_must (refine Yn rfl (.tmp 23) (.tmp 25) rfl w.heap.size _ zs rfl hown 223 rfl oX hsz ?_))
     intro v' w' ho' hb'
     replace hb':=Hd (hbel.out.trans hb'.out)
     go_wp2_with fail
     go_roundw
     case rel=>
      obtain⟨e1,rfl⟩:=hnext.out.2 hd2
      exact⟨[223],l-223,by go_num,e1▸ho'.out,hb'.out,.inr (.inr ⟨rfl,hd2,rfl⟩)⟩
     case measure=>simp[intOf];omega
   ·obtain rfl:l=0:=oX
    have hz:zs=S:=by
     rcases hph with ⟨rfl,h⟩|⟨_,rfl⟩|⟨_,_,rfl⟩
     ·omega
     ·rfl
     ·omega
    clear hph hnext
    subst hz
    go_wp2_with fail
    go_ret2
    exact⟨_,rfl,hown.out,hbel.out⟩
def QZ(zs:List Int):Nat->Int
 | 0=>0
 | k+1=>QZ zs k+(zs.getD k 0+32)
theorem Vg(n:Int)(h:0<=n/\n<=2000):(Z3 n).length<=2/\(∀ k,k<(Z3 n).length->0<=(Z3 n).getD k 0/\(Z3 n).getD k 0<=250)/\(∀ k,k<=(Z3 n).length->0<=QZ (Z3 n) k/\QZ (Z3 n) k<=600)/\QZ (Z3 n) (Z3 n).length=ZI n:=by
 have hL:=XL n h
 unfold ZI Z3
 split
 ·refine⟨sX,λk hk=>?_,λk hk=>?_,by simp[QZ]⟩
  ·obtain rfl:k=0:=by simpa using hk
   simp;omega
  ·rcases(show k=0\/k=1 from by simp at hk;omega) with rfl|rfl
   ·simp[QZ]
   ·simp[QZ];omega
 ·refine⟨sX,λk hk=>?_,λk hk=>?_,by simp[QZ];omega⟩
  ·rcases(show k=0\/k=1 from by simp at hk;omega) with rfl|rfl
   ·simp
   ·simp;omega
  ·rcases(show k=0\/k=1\/k=2 from by simp at hk;omega) with rfl|rfl|rfl
   ·simp[QZ]
   ·simp[QZ]
   ·simp[QZ];omega
theorem T7(n:Int)(h:n<0\/2000<n)(z:Addr)(w:World)(hz:w.cell? ⟨7,0,none⟩=some (.iface 298 (.pointer (some z)))):Calls Tryz.prog 123 #[.int .i64 n] w λe w'=>e=.returned (.tuple #[.int .i64 0,.iface 298 (.pointer (some z))])/\∃ n,w'=w.drewN n:=by
 go_enter Tryz.func123,Tryz.ntmps123
 go_wp2_with fail
 refine(Rh n h z _ hz).mono ?_
 rintro e w1 ⟨rfl,k,rfl⟩
 go_wp2_with fail
 go_loopw [6,16] (λs j wr=>s=.int .i64 0/\j=.int .i64 0/\wr=w.drewN k) (λ_ _ _=>0)
 case atStart=>exact⟨rfl,rfl,rfl⟩
 case round=>
  obtain⟨rfl,rfl,rfl⟩:=hrel
  go_wp2_with fail
  go_ret2
  exact⟨rfl,_,rfl⟩
theorem Yy(n:Int)(h:0<=n/\n<=2000)(w:World):Calls Tryz.prog 123 #[.int .i64 n] w λe w'=>e=.returned (.tuple #[.int .i64 (ZI n),.nilIface])/\Below w.heap.size w w':=by
 obtain⟨f1,f2,f3,f4⟩:=Vg n h
 have hs:=Hd (Nx n h w)
 generalize Z3 n=S at*
 generalize ZI n=T at*
 subst f4
 go_enter Tryz.func123,Tryz.ntmps123
 go_wp2_with fail
 refine hs.out.mono ?_
 rintro e w1 ⟨v,rfl,ho,hb⟩
 clear hs
 obtain⟨a,c,rfl,g1,g2,g3,hrow,_⟩:=ho.row
 clear ho
 replace hb:=Hd hb
 replace hrow:=Hd hrow
 replace f2:=Hd f2
 replace f3:=Hd f3
 go_wp2_with fail
 go_loopw [6,8,16] (λs _ j wr=>∃ k:Nat,k<=S.length/\s=.int .i64 (QZ S k)/\j=.int .i64 k/\wr=w1) (λ_ _ j _=>S.length-(intOf j).toNat)
 case atStart=>exact⟨0,Nat.zero_le _,rfl,rfl,rfl⟩
 case round=>
  obtain⟨k,hk,rfl,rfl,rfl⟩:=hrel
  have b1:=f3.out k hk
  by_cases hlt:k<S.length
  ·obtain⟨b,off,rfl,hc⟩:=hrow.out k hlt
   have b2:=f2.out k hlt
   have hs2:=Hd (show QZ S (k+1)=QZ S k+(S.getD k 0+32) from rfl)
   generalize S.getD k 0=x at*
   generalize QZ S k=y at*
   go_wp2_with fail
   go_roundw
   case rel=>exact⟨k+1,oX,by rw[hs2.out],by go_num,by first|rfl|trivial⟩
   case measure=>simp[intOf];omega
  ·obtain rfl:k=S.length:=oX
   go_wp2_with fail
   go_ret2
   exact⟨rfl,hb.out⟩
def Uf:List Nat:=[0,7,17]
abbrev ParErrs (w:World) (z:Nat->Addr):Prop:=Errs 298 Uf w z
theorem ParErrs.range{w:World}{z:Nat->Addr}(h:ParErrs w z):w.cell? ⟨0,0,none⟩=some (.iface 298 (.pointer (some (z 0)))):=h.var 0 dX
theorem ParErrs.size{w:World}{z:Nat->Addr}(h:ParErrs w z):w.cell? ⟨7,0,none⟩=some (.iface 298 (.pointer (some (z 1)))):=h.var 1 dX
theorem ParErrs.budget{w:World}{z:Nat->Addr}(h:ParErrs w z):w.cell? ⟨17,0,none⟩=some (.iface 298 (.pointer (some (z 2)))):=h.var 2 dX
def Yl(s n k d t r:Int):Value:=.agg #[.int .i64 s,.int .i64 n,.int .i64 k,.int .i64 d,.int .i64 t,.int .i64 r]
theorem UM{w:World}{x:Addr}{v:Value}(h:w.cell? x=some v)(o1:Obj):(w.alloc o1).cell? x=some v:=
 (((Below.refl w.heap.size w).alloc nR o1).cell (World.block_lt_of_cell? w _ h)).trans h
theorem JK{w:World}{x:Addr}{v:Value}(h:w.cell? x=some v)(o1 o2:Obj):((w.alloc o1).alloc o2).cell? x=some v:=UM (UM h o1) o2
def Qw(s n k d t r M:Int)(z:Nat->Addr):Array Value:=#[
 .string ⟨#[115,105,122,101]⟩,.int .i64 s,.int .i64 0,.int .i64 2000,.iface 298 (.pointer (some (z 1))),
 .string ⟨#[115,101,110,116,105,110,101,108,115]⟩,.int .i64 n,.int .i64 0,.int .i64 8,.iface 298 (.pointer (some (z 2))),
 .string ⟨#[115,112,111,116,115]⟩,.int .i64 k,.int .i64 1,.int .i64 M,.iface 298 (.pointer (some (z 0))),
 .string ⟨#[112,101,114,105,111,100]⟩,.int .i64 d,.int .i64 1,.int .i64 10000,.iface 298 (.pointer (some (z 0))),
 .string ⟨#[112,97,116,105,101,110,99,101]⟩,.int .i64 t,.int .i64 1,.int .i64 d,.iface 298 (.pointer (some (z 0))),
 .string ⟨#[114,101,116,114,105,101,115]⟩,.int .i64 r,.int .i64 0,.int .i64 5,.iface 298 (.pointer (some (z 0)))]
def Q4(s n k d t r M:Int)(z:Nat->Addr):Value:=.agg (Qw s n k d t r M z)
theorem Ur(s n k d t r c:Int)(z:Nat->Addr)(w:World)(hE:ParErrs w z) :
  Calls Tryz.prog 124 #[Yl s n k d t r,.int .i64 c] w λe w'=>∃ M,(12<=c->M=12)/\e=.returned (Q4 s n k d t r M z)/\Below w.heap.size w w':=by
 have h1:=hE.range
 have h2:=hE.size
 have h3:=hE.budget
 have q1:=JK h1
 have q2:=JK h2
 have q3:=JK h3
 clear h1 h2 h3
 have hb0:=Hd (Below.refl w.heap.size w)
 unfold Yl
 rcases(show c<12\/c=12\/12<c from by omega) with hc|rfl|hc
 ·go_enter Tryz.func124,Tryz.ntmps124
  go_upto_region 1 with fail
  generalize hz:(#[
   .string ⟨#[]⟩,.int .i64 0,.int .i64 0,.int .i64 0,.nilIface,.string ⟨#[]⟩,.int .i64 0,.int .i64 0,.int .i64 0,.nilIface,.string ⟨#[]⟩,.int .i64 0,.int .i64 0,.int .i64 0,.nilIface,
   .string ⟨#[]⟩,.int .i64 0,.int .i64 0,.int .i64 0,.nilIface,.string ⟨#[]⟩,.int .i64 0,.int .i64 0,.int .i64 0,.nilIface,.string ⟨#[]⟩,.int .i64 0,.int .i64 0,.int .i64 0,.nilIface]:Array Value)=zb
  replace hz:zb.size=30:=by rw[<-hz];rfl
  go_wp2_with (refine YB (w:=w.alloc _) rfl 225 (.tmp 4) (.tmp 33) rfl _ (Qw s n k d t r c z) (by simp only[World.size_alloc];rfl) rfl kX (by rw[hz];rfl) (by simp[Qw,Value.oneCell']) ?_)
  refine XB (w:=w.alloc _) (c:=Qw s n k d t r c z) rfl (by simp only[World.size_alloc];rfl) Tryz.underlying225 kX ?_
  exact⟨c,oX,rfl,(hb0.out.alloc nR _).alloc sX _⟩
 ·go_enter Tryz.func124,Tryz.ntmps124
  go_upto_region 1 with fail
  generalize hz:(#[
   .string ⟨#[]⟩,.int .i64 0,.int .i64 0,.int .i64 0,.nilIface,.string ⟨#[]⟩,.int .i64 0,.int .i64 0,.int .i64 0,.nilIface,.string ⟨#[]⟩,.int .i64 0,.int .i64 0,.int .i64 0,.nilIface,
   .string ⟨#[]⟩,.int .i64 0,.int .i64 0,.int .i64 0,.nilIface,.string ⟨#[]⟩,.int .i64 0,.int .i64 0,.int .i64 0,.nilIface,.string ⟨#[]⟩,.int .i64 0,.int .i64 0,.int .i64 0,.nilIface]:Array Value)=zb
  replace hz:zb.size=30:=by rw[<-hz];rfl
  go_wp2_with (refine YB (w:=w.alloc _) rfl 225 (.tmp 4) (.tmp 33) rfl _ (Qw s n k d t r 12 z) (by simp only[World.size_alloc];rfl) rfl kX (by rw[hz];rfl) (by simp[Qw,Value.oneCell']) ?_)
  refine XB (w:=w.alloc _) (c:=Qw s n k d t r 12 z) rfl (by simp only[World.size_alloc];rfl) Tryz.underlying225 kX ?_
  exact⟨12,oX,rfl,(hb0.out.alloc nR _).alloc sX _⟩
 ·go_enter Tryz.func124,Tryz.ntmps124
  go_upto_region 1 with fail
  generalize hz:(#[
   .string ⟨#[]⟩,.int .i64 0,.int .i64 0,.int .i64 0,.nilIface,.string ⟨#[]⟩,.int .i64 0,.int .i64 0,.int .i64 0,.nilIface,.string ⟨#[]⟩,.int .i64 0,.int .i64 0,.int .i64 0,.nilIface,
   .string ⟨#[]⟩,.int .i64 0,.int .i64 0,.int .i64 0,.nilIface,.string ⟨#[]⟩,.int .i64 0,.int .i64 0,.int .i64 0,.nilIface,.string ⟨#[]⟩,.int .i64 0,.int .i64 0,.int .i64 0,.nilIface]:Array Value)=zb
  replace hz:zb.size=30:=by rw[<-hz];rfl
  go_wp2_with (refine YB (w:=w.alloc _) rfl 225 (.tmp 4) (.tmp 33) rfl _ (Qw s n k d t r 12 z) (by simp only[World.size_alloc];rfl) rfl kX (by rw[hz];rfl) (by simp[Qw,Value.oneCell']) ?_)
  refine XB (w:=w.alloc _) (c:=Qw s n k d t r 12 z) rfl (by simp only[World.size_alloc];rfl) Tryz.underlying225 kX ?_
  exact⟨12,oX,rfl,(hb0.out.alloc nR _).alloc sX _⟩
def Ut(s n k d t r:Int):Prop:=(0<=s/\s<=2000)/\(0<=n/\n<=8)/\(1<=k/\k<=12)/\(1<=d/\d<=10000)/\(1<=t/\t<=d)/\(0<=r/\r<=5)
theorem Q2(n:Int)(h:0<=n/\n<=2000):33<=ZI n/\ZI n<=600:=by
 have:=XL n h
 unfold ZI
 split<;>omega
theorem YQ{w w':World}{a b c d e f:Value}{t:TypeId}(h:w'.heap[w.heap.size]? = some (.cells #[a,b,c,d,e,f] t (0,0))) :
  w'.cell? ⟨w.heap.size,0,none⟩=some a/\w'.cell? ⟨w.heap.size,1,none⟩=some b/\w'.cell? ⟨w.heap.size,2,none⟩=some c/\w'.cell? ⟨w.heap.size,3,none⟩=some d/\w'.cell? ⟨w.heap.size,4,none⟩=some e/\w'.cell? ⟨w.heap.size,5,none⟩=some f:=by
 simp[Za h]
theorem VK(s n k d t r M:Int)(z:Nat->Addr)(w:World):(Instr.index 225 (Q4 s n k d t r M z) (.int .i64 0)).run Tryz.prog w=.ok (.agg #[.string ⟨#[115,105,122,101]⟩,.int .i64 s,.int .i64 0,.int .i64 2000,.iface 298 (.pointer (some (z 1)))]) w:=kX
theorem U5(s n k d t r M:Int)(z:Nat->Addr)(w:World):(Instr.index 225 (Q4 s n k d t r M z) (.int .i64 1)).run Tryz.prog w=.ok (.agg #[.string ⟨#[115,101,110,116,105,110,101,108,115]⟩,.int .i64 n,.int .i64 0,.int .i64 8,.iface 298 (.pointer (some (z 2)))]) w:=kX
theorem KS(s n k d t r M:Int)(z:Nat->Addr)(w:World):(Instr.index 225 (Q4 s n k d t r M z) (.int .i64 2)).run Tryz.prog w=.ok (.agg #[.string ⟨#[115,112,111,116,115]⟩,.int .i64 k,.int .i64 1,.int .i64 M,.iface 298 (.pointer (some (z 0)))]) w:=kX
theorem Mq(s n k d t r M:Int)(z:Nat->Addr)(w:World):(Instr.index 225 (Q4 s n k d t r M z) (.int .i64 3)).run Tryz.prog w=.ok (.agg #[.string ⟨#[112,101,114,105,111,100]⟩,.int .i64 d,.int .i64 1,.int .i64 10000,.iface 298 (.pointer (some (z 0)))]) w:=kX
theorem T4(s n k d t r M:Int)(z:Nat->Addr)(w:World):(Instr.index 225 (Q4 s n k d t r M z) (.int .i64 4)).run Tryz.prog w=.ok (.agg #[.string ⟨#[112,97,116,105,101,110,99,101]⟩,.int .i64 t,.int .i64 1,.int .i64 d,.iface 298 (.pointer (some (z 0)))]) w:=kX
theorem Pp(s n k d t r M:Int)(z:Nat->Addr)(w:World):(Instr.index 225 (Q4 s n k d t r M z) (.int .i64 5)).run Tryz.prog w=.ok (.agg #[.string ⟨#[114,101,116,114,105,101,115]⟩,.int .i64 r,.int .i64 0,.int .i64 5,.iface 298 (.pointer (some (z 0)))]) w:=kX
theorem Q9(w:World)(o:Obj)(n:Nat)(h:n=w.heap.size):(w.alloc o).heap[n]? = some o:=h▸heap_alloc_new w o
theorem Yx(s n k d t r c:Int)(z:Nat->Addr)(w:World)(hE:ParErrs w z) :
  Calls Tryz.prog 124 #[.agg #[.int .i64 s,.int .i64 n,.int .i64 k,.int .i64 d,.int .i64 t,.int .i64 r],.int .i64 c] w λe w'=>∃ M,(12<=c->M=12)/\e=.returned (Q4 s n k d t r M z)/\Below w.heap.size w w':=Ur s n k d t r c z w hE
def X9(base:Nat)(w:World)(v:Value)(F:ByteArray)(V:Int)(x:Addr):Prop:=
 ∃ g,v=.iface 227 (.pointer (some ⟨g,0,none⟩))/\base<=g/\w.heap[g]? = some (.cells #[.string F,.int .i64 V,.iface 298 (.pointer (some x))] 229 (0,0))
theorem Gg(s n k d t r:Int)(h:Ut s n k d t r)(z:Nat->Addr)(w:World)(hE:ParErrs w z) :
  Calls Tryz.prog 88 #[Yl s n k d t r] w λe w'=>e=.returned .nilIface/\Below w.heap.size w w':=by
 obtain⟨hs,hn,hk,hd,ht,hr⟩:=h
 have hT:=Q2 s hs
 have hb1:=Hd ((Below.refl w.heap.size w).alloc nR (.cells #[.int .i64 s,.int .i64 n,.int .i64 k,.int .i64 d,.int .i64 t,.int .i64 r] 45))
 have hbox:=Hd (heap_alloc_new w (.cells #[.int .i64 s,.int .i64 n,.int .i64 k,.int .i64 d,.int .i64 t,.int .i64 r] 45))
 have hcall:=Hd (Yy s hs (w.alloc (.cells #[.int .i64 s,.int .i64 n,.int .i64 k,.int .i64 d,.int .i64 t,.int .i64 r] 45)))
 replace hE:=Hd (hE.below hb1.out)
 generalize ZI s=T at*
 unfold Yl
 go_enter Tryz.func88,Tryz.ntmps88
 go_wp2_with fail
 with_reducible refine hcall.out.mono ?_
 rintro e w1 ⟨rfl,hb2⟩
 replace hE:=Hd (hE.out.below hb2)
 replace hbox:=Hd ((hb2.block _ (by rw[World.size_alloc];omega)).trans hbox.out)
 replace hb1:=Hd (hb1.out.trans (hb2.mono (by rw[World.size_alloc];omega)))
 obtain⟨c0,c1,c2,c3,c4,c5⟩:=YQ hbox.out
 clear hb2 hcall
 go_wp2_with fail
 have hcall:=Ur s n k d t r (T+n) z w1 hE.out
 unfold Yl Q4 Qw at hcall
 replace hcall:=Hd hcall
 with_reducible refine hcall.out.mono ?_
 rintro e w2 ⟨M,hM,rfl,hb2⟩
 obtain rfl:=hM oX
 replace hb1:=Hd (hb1.out.trans (hb2.mono hb1.out.size))
 have hsz:=hb1.out.size
 clear hb2 hcall hM c0 c1 c2 c3 c4 c5 hbox hE
 go_wp2_with fail
 have i0:=VK s n k d t r 12 z
 have i1:=U5 s n k d t r 12 z
 have i2:=KS s n k d t r 12 z
 have i3:=Mq s n k d t r 12 z
 have i4:=T4 s n k d t r 12 z
 have i5:=Pp s n k d t r 12 z
 unfold Q4 Qw at i0 i1 i2 i3 i4 i5
 refine wp_loop_rounds 7 ?_
 rw[rounds_succ]
 go_wp2_with fail
 rw[rounds_succ]
 go_wp2_with fail
 rw[rounds_succ]
 go_wp2_with fail
 rw[rounds_succ]
 go_wp2_with fail
 rw[rounds_succ]
 go_wp2_with fail
 rw[rounds_succ]
 go_wp2_with fail
 rw[rounds_succ]
 go_wp2_with fail
 go_ret
 exact⟨rfl,(((((((hb1.out).alloc oX _).alloc sY _).alloc sY _).alloc sY _).alloc sY _).alloc sY _)⟩
theorem MS(s n k d t r:Int)(hb:s<0\/2000<s)(z:Nat->Addr)(w:World)(hE:ParErrs w z)(hn : -9223372036854775808<=n/\n<=9223372036854775807) :
  Calls Tryz.prog 88 #[Yl s n k d t r] w λe w'=>∃ v,e=.returned v/\X9 w.heap.size w' v ⟨#[115,105,122,101]⟩ s (z 1)/\Below w.heap.size w w':=by
 have hb1:=Hd ((Below.refl w.heap.size w).alloc nR (.cells #[.int .i64 s,.int .i64 n,.int .i64 k,.int .i64 d,.int .i64 t,.int .i64 r] 45))
 have hbox:=Hd (heap_alloc_new w (.cells #[.int .i64 s,.int .i64 n,.int .i64 k,.int .i64 d,.int .i64 t,.int .i64 r] 45))
 replace hE:=Hd (hE.below hb1.out)
 have hcall:=Hd (T7 s hb (z 1) (w.alloc (.cells #[.int .i64 s,.int .i64 n,.int .i64 k,.int .i64 d,.int .i64 t,.int .i64 r] 45)) (ParErrs.size hE.out))
 unfold Yl
 rcases hb with hb|hb
 all_goals
  go_enter Tryz.func88,Tryz.ntmps88
  go_wp2_with fail
  with_reducible refine hcall.out.mono ?_
  rintro e w1 ⟨rfl,q,hq⟩
  have hb2:Below (w.alloc (.cells #[.int .i64 s,.int .i64 n,.int .i64 k,.int .i64 d,.int .i64 t,.int .i64 r] 45)).heap.size (w.alloc (.cells #[.int .i64 s,.int .i64 n,.int .i64 k,.int .i64 d,.int .i64 t,.int .i64 r] 45)) w1:=by subst hq;exact below_drewN bR _
  clear hq
  replace hE:=Hd (hE.out.below hb2)
  replace hbox:=Hd ((hb2.block _ (by rw[World.size_alloc];omega)).trans hbox.out)
  replace hb1:=Hd (hb1.out.trans (hb2.mono (by rw[World.size_alloc];omega)))
  obtain⟨c0,c1,c2,c3,c4,c5⟩:=YQ hbox.out
  clear hb2 hcall
  go_wp2_with fail
  with_reducible refine(Yx s n k d t r _ z w1 hE.out).mono ?_
  rintro e w2 ⟨M,hM,rfl,hb2⟩
  replace hb1:=Hd (hb1.out.trans (hb2.mono hb1.out.size))
  have hsz:=hb1.out.size
  clear hb2 hM c0 c1 c2 c3 c4 c5 hbox hE
  unfold Q4 Qw
  go_wp2_with fail
  have i0:=VK s n k d t r M z
  unfold Q4 Qw at i0
  refine wp_loop_rounds 1 ?_
  rw[rounds_succ]
  go_wp2_with fail
  go_ret
  exact⟨_,rfl,⟨_,rfl,oX,Q9 _ _ _ sX⟩,((hb1.out.alloc oX _).alloc sY _)⟩
theorem N5(s n k d t r:Int)(hs:0<=s/\s<=2000)(hb:n<0\/8<n)(z:Nat->Addr)(w:World)(hE:ParErrs w z) :
  Calls Tryz.prog 88 #[Yl s n k d t r] w λe w'=>∃ v,e=.returned v/\X9 w.heap.size w' v ⟨#[115,101,110,116,105,110,101,108,115]⟩ n (z 2)/\Below w.heap.size w w':=by
 have hT:=Q2 s hs
 have hb1:=Hd ((Below.refl w.heap.size w).alloc nR (.cells #[.int .i64 s,.int .i64 n,.int .i64 k,.int .i64 d,.int .i64 t,.int .i64 r] 45))
 have hbox:=Hd (heap_alloc_new w (.cells #[.int .i64 s,.int .i64 n,.int .i64 k,.int .i64 d,.int .i64 t,.int .i64 r] 45))
 replace hE:=Hd (hE.below hb1.out)
 have hcall:=Hd (Yy s hs (w.alloc (.cells #[.int .i64 s,.int .i64 n,.int .i64 k,.int .i64 d,.int .i64 t,.int .i64 r] 45)))
 generalize ZI s=T at*
 unfold Yl
 rcases hb with hb|hb
 all_goals
  go_enter Tryz.func88,Tryz.ntmps88
  go_wp2_with fail
  with_reducible refine hcall.out.mono ?_
  rintro e w1 ⟨rfl,hb2⟩
  replace hE:=Hd (hE.out.below hb2)
  replace hbox:=Hd ((hb2.block _ (by rw[World.size_alloc];omega)).trans hbox.out)
  replace hb1:=Hd (hb1.out.trans (hb2.mono (by rw[World.size_alloc];omega)))
  obtain⟨c0,c1,c2,c3,c4,c5⟩:=YQ hbox.out
  clear hb2 hcall
  go_wp2_with fail
  with_reducible refine(Yx s n k d t r _ z w1 hE.out).mono ?_
  rintro e w2 ⟨M,hM,rfl,hb2⟩
  replace hb1:=Hd (hb1.out.trans (hb2.mono hb1.out.size))
  have hsz:=hb1.out.size
  clear hb2 hM c0 c1 c2 c3 c4 c5 hbox hE
  unfold Q4 Qw
  go_wp2_with fail
  have i0:=VK s n k d t r M z
  have i1:=U5 s n k d t r M z
  unfold Q4 Qw at i0 i1
  refine wp_loop_rounds 2 ?_
  rw[rounds_succ]
  go_wp2_with fail
  rw[rounds_succ]
  go_wp2_with fail
  go_ret
  exact⟨_,rfl,⟨_,rfl,oX,Q9 _ _ _ sX⟩,(((hb1.out.alloc oX _).alloc sY _).alloc sY _)⟩
theorem Mp(s n k d t r:Int)(hs:0<=s/\s<=2000)(hn:0<=n/\n<=8)(hb:k<1\/12<k)(z:Nat->Addr)(w:World)(hE:ParErrs w z) :
  Calls Tryz.prog 88 #[Yl s n k d t r] w λe w'=>∃ v,e=.returned v/\X9 w.heap.size w' v ⟨#[115,112,111,116,115]⟩ k (z 0)/\Below w.heap.size w w':=by
 have hT:=Q2 s hs
 have hb1:=Hd ((Below.refl w.heap.size w).alloc nR (.cells #[.int .i64 s,.int .i64 n,.int .i64 k,.int .i64 d,.int .i64 t,.int .i64 r] 45))
 have hbox:=Hd (heap_alloc_new w (.cells #[.int .i64 s,.int .i64 n,.int .i64 k,.int .i64 d,.int .i64 t,.int .i64 r] 45))
 replace hE:=Hd (hE.below hb1.out)
 have hcall:=Hd (Yy s hs (w.alloc (.cells #[.int .i64 s,.int .i64 n,.int .i64 k,.int .i64 d,.int .i64 t,.int .i64 r] 45)))
 generalize ZI s=T at*
 unfold Yl
 rcases hb with hb|hb
 all_goals
  go_enter Tryz.func88,Tryz.ntmps88
  go_wp2_with fail
  with_reducible refine hcall.out.mono ?_
  rintro e w1 ⟨rfl,hb2⟩
  replace hE:=Hd (hE.out.below hb2)
  replace hbox:=Hd ((hb2.block _ (by rw[World.size_alloc];omega)).trans hbox.out)
  replace hb1:=Hd (hb1.out.trans (hb2.mono (by rw[World.size_alloc];omega)))
  obtain⟨c0,c1,c2,c3,c4,c5⟩:=YQ hbox.out
  clear hb2 hcall
  go_wp2_with fail
  with_reducible refine(Yx s n k d t r _ z w1 hE.out).mono ?_
  rintro e w2 ⟨M,hM,rfl,hb2⟩
  obtain rfl:=hM oX
  replace hb1:=Hd (hb1.out.trans (hb2.mono hb1.out.size))
  have hsz:=hb1.out.size
  clear hb2 hM c0 c1 c2 c3 c4 c5 hbox hE
  unfold Q4 Qw
  go_wp2_with fail
  have i0:=VK s n k d t r 12 z
  have i1:=U5 s n k d t r 12 z
  have i2:=KS s n k d t r 12 z
  unfold Q4 Qw at i0 i1 i2
  refine wp_loop_rounds 3 ?_
  rw[rounds_succ]
  go_wp2_with fail
  rw[rounds_succ]
  go_wp2_with fail
  rw[rounds_succ]
  go_wp2_with fail
  go_ret
  exact⟨_,rfl,⟨_,rfl,oX,Q9 _ _ _ sX⟩,((((hb1.out.alloc oX _).alloc sY _).alloc sY _).alloc sY _)⟩
theorem M4(s n k d t r:Int)(hs:0<=s/\s<=2000)(hn:0<=n/\n<=8)(hk:1<=k/\k<=12)(hb:d<1\/10000<d)(z:Nat->Addr)(w:World)(hE:ParErrs w z) :
  Calls Tryz.prog 88 #[Yl s n k d t r] w λe w'=>∃ v,e=.returned v/\X9 w.heap.size w' v ⟨#[112,101,114,105,111,100]⟩ d (z 0)/\Below w.heap.size w w':=by
 have hT:=Q2 s hs
 have hb1:=Hd ((Below.refl w.heap.size w).alloc nR (.cells #[.int .i64 s,.int .i64 n,.int .i64 k,.int .i64 d,.int .i64 t,.int .i64 r] 45))
 have hbox:=Hd (heap_alloc_new w (.cells #[.int .i64 s,.int .i64 n,.int .i64 k,.int .i64 d,.int .i64 t,.int .i64 r] 45))
 replace hE:=Hd (hE.below hb1.out)
 have hcall:=Hd (Yy s hs (w.alloc (.cells #[.int .i64 s,.int .i64 n,.int .i64 k,.int .i64 d,.int .i64 t,.int .i64 r] 45)))
 generalize ZI s=T at*
 unfold Yl
 rcases hb with hb|hb
 all_goals
  go_enter Tryz.func88,Tryz.ntmps88
  go_wp2_with fail
  with_reducible refine hcall.out.mono ?_
  rintro e w1 ⟨rfl,hb2⟩
  replace hE:=Hd (hE.out.below hb2)
  replace hbox:=Hd ((hb2.block _ (by rw[World.size_alloc];omega)).trans hbox.out)
  replace hb1:=Hd (hb1.out.trans (hb2.mono (by rw[World.size_alloc];omega)))
  obtain⟨c0,c1,c2,c3,c4,c5⟩:=YQ hbox.out
  clear hb2 hcall
  go_wp2_with fail
  with_reducible refine(Yx s n k d t r _ z w1 hE.out).mono ?_
  rintro e w2 ⟨M,hM,rfl,hb2⟩
  obtain rfl:=hM oX
  replace hb1:=Hd (hb1.out.trans (hb2.mono hb1.out.size))
  have hsz:=hb1.out.size
  clear hb2 hM c0 c1 c2 c3 c4 c5 hbox hE
  unfold Q4 Qw
  go_wp2_with fail
  have i0:=VK s n k d t r 12 z
  have i1:=U5 s n k d t r 12 z
  have i2:=KS s n k d t r 12 z
  have i3:=Mq s n k d t r 12 z
  unfold Q4 Qw at i0 i1 i2 i3
  refine wp_loop_rounds 4 ?_
  rw[rounds_succ]
  go_wp2_with fail
  rw[rounds_succ]
  go_wp2_with fail
  rw[rounds_succ]
  go_wp2_with fail
  rw[rounds_succ]
  go_wp2_with fail
  go_ret
  exact⟨_,rfl,⟨_,rfl,oX,Q9 _ _ _ sX⟩,(((((hb1.out.alloc oX _).alloc sY _).alloc sY _).alloc sY _).alloc sY _)⟩
theorem MA(s n k d t r:Int)(hs:0<=s/\s<=2000)(hn:0<=n/\n<=8)(hk:1<=k/\k<=12)(hd:1<=d/\d<=10000)(hb:t<1\/d<t)(z:Nat->Addr)(w:World)(hE:ParErrs w z) :
  Calls Tryz.prog 88 #[Yl s n k d t r] w λe w'=>∃ v,e=.returned v/\X9 w.heap.size w' v ⟨#[112,97,116,105,101,110,99,101]⟩ t (z 0)/\Below w.heap.size w w':=by
 have hT:=Q2 s hs
 have hb1:=Hd ((Below.refl w.heap.size w).alloc nR (.cells #[.int .i64 s,.int .i64 n,.int .i64 k,.int .i64 d,.int .i64 t,.int .i64 r] 45))
 have hbox:=Hd (heap_alloc_new w (.cells #[.int .i64 s,.int .i64 n,.int .i64 k,.int .i64 d,.int .i64 t,.int .i64 r] 45))
 replace hE:=Hd (hE.below hb1.out)
 have hcall:=Hd (Yy s hs (w.alloc (.cells #[.int .i64 s,.int .i64 n,.int .i64 k,.int .i64 d,.int .i64 t,.int .i64 r] 45)))
 generalize ZI s=T at*
 unfold Yl
 rcases hb with hb|hb
 all_goals
  go_enter Tryz.func88,Tryz.ntmps88
  go_wp2_with fail
  with_reducible refine hcall.out.mono ?_
  rintro e w1 ⟨rfl,hb2⟩
  replace hE:=Hd (hE.out.below hb2)
  replace hbox:=Hd ((hb2.block _ (by rw[World.size_alloc];omega)).trans hbox.out)
  replace hb1:=Hd (hb1.out.trans (hb2.mono (by rw[World.size_alloc];omega)))
  obtain⟨c0,c1,c2,c3,c4,c5⟩:=YQ hbox.out
  clear hb2 hcall
  go_wp2_with fail
  with_reducible refine(Yx s n k d t r _ z w1 hE.out).mono ?_
  rintro e w2 ⟨M,hM,rfl,hb2⟩
  obtain rfl:=hM oX
  replace hb1:=Hd (hb1.out.trans (hb2.mono hb1.out.size))
  have hsz:=hb1.out.size
  clear hb2 hM c0 c1 c2 c3 c4 c5 hbox hE
  unfold Q4 Qw
  go_wp2_with fail
  have i0:=VK s n k d t r 12 z
  have i1:=U5 s n k d t r 12 z
  have i2:=KS s n k d t r 12 z
  have i3:=Mq s n k d t r 12 z
  have i4:=T4 s n k d t r 12 z
  unfold Q4 Qw at i0 i1 i2 i3 i4
  refine wp_loop_rounds 5 ?_
  rw[rounds_succ]
  go_wp2_with fail
  rw[rounds_succ]
  go_wp2_with fail
  rw[rounds_succ]
  go_wp2_with fail
  rw[rounds_succ]
  go_wp2_with fail
  rw[rounds_succ]
  go_wp2_with fail
  go_ret
  exact⟨_,rfl,⟨_,rfl,oX,Q9 _ _ _ sX⟩,((((((hb1.out.alloc oX _).alloc sY _).alloc sY _).alloc sY _).alloc sY _).alloc sY _)⟩
theorem Mf(s n k d t r:Int)(hs:0<=s/\s<=2000)(hn:0<=n/\n<=8)(hk:1<=k/\k<=12)(hd:1<=d/\d<=10000)(ht:1<=t/\t<=d)(hb:r<0\/5<r)(z:Nat->Addr)(w:World)(hE:ParErrs w z) :
  Calls Tryz.prog 88 #[Yl s n k d t r] w λe w'=>∃ v,e=.returned v/\X9 w.heap.size w' v ⟨#[114,101,116,114,105,101,115]⟩ r (z 0)/\Below w.heap.size w w':=by
 have hT:=Q2 s hs
 have hb1:=Hd ((Below.refl w.heap.size w).alloc nR (.cells #[.int .i64 s,.int .i64 n,.int .i64 k,.int .i64 d,.int .i64 t,.int .i64 r] 45))
 have hbox:=Hd (heap_alloc_new w (.cells #[.int .i64 s,.int .i64 n,.int .i64 k,.int .i64 d,.int .i64 t,.int .i64 r] 45))
 replace hE:=Hd (hE.below hb1.out)
 have hcall:=Hd (Yy s hs (w.alloc (.cells #[.int .i64 s,.int .i64 n,.int .i64 k,.int .i64 d,.int .i64 t,.int .i64 r] 45)))
 generalize ZI s=T at*
 unfold Yl
 rcases hb with hb|hb
 all_goals
  go_enter Tryz.func88,Tryz.ntmps88
  go_wp2_with fail
  with_reducible refine hcall.out.mono ?_
  rintro e w1 ⟨rfl,hb2⟩
  replace hE:=Hd (hE.out.below hb2)
  replace hbox:=Hd ((hb2.block _ (by rw[World.size_alloc];omega)).trans hbox.out)
  replace hb1:=Hd (hb1.out.trans (hb2.mono (by rw[World.size_alloc];omega)))
  obtain⟨c0,c1,c2,c3,c4,c5⟩:=YQ hbox.out
  clear hb2 hcall
  go_wp2_with fail
  with_reducible refine(Yx s n k d t r _ z w1 hE.out).mono ?_
  rintro e w2 ⟨M,hM,rfl,hb2⟩
  obtain rfl:=hM oX
  replace hb1:=Hd (hb1.out.trans (hb2.mono hb1.out.size))
  have hsz:=hb1.out.size
  clear hb2 hM c0 c1 c2 c3 c4 c5 hbox hE
  unfold Q4 Qw
  go_wp2_with fail
  have i0:=VK s n k d t r 12 z
  have i1:=U5 s n k d t r 12 z
  have i2:=KS s n k d t r 12 z
  have i3:=Mq s n k d t r 12 z
  have i4:=T4 s n k d t r 12 z
  have i5:=Pp s n k d t r 12 z
  unfold Q4 Qw at i0 i1 i2 i3 i4 i5
  refine wp_loop_rounds 6 ?_
  rw[rounds_succ]
  go_wp2_with fail
  rw[rounds_succ]
  go_wp2_with fail
  rw[rounds_succ]
  go_wp2_with fail
  rw[rounds_succ]
  go_wp2_with fail
  rw[rounds_succ]
  go_wp2_with fail
  rw[rounds_succ]
  go_wp2_with fail
  go_ret
  exact⟨_,rfl,⟨_,rfl,oX,Q9 _ _ _ sX⟩,(((((((hb1.out.alloc oX _).alloc sY _).alloc sY _).alloc sY _).alloc sY _).alloc sY _).alloc sY _)⟩
end Go.Proofs.YtpdhceiodgnbmaaGreatDoor
