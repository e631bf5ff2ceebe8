import Derived.Test.YtpdhceiodgnbmaaGreatDoorF0FollowsSaid
import Derived.Test.YtpdhceiodgnbmaaGreatDoorF1FollowsSaid
import Derived.Test.YtpdhceiodgnbmaaGreatDoorF8FollowsSaid
import Derived.WalkKit
import Derived.LaidEql
import Derived.Stop.Asserts
import Derived.RowKitTokens
import Derived.Test.YtpdhceiodgnbmaaGreatDoorF3FollowsSaid
import Derived.Test.YtpdhceiodgnbmaaGreatDoorRows
import Derived.Test.YtpdhceiodgnbmaaGreatDoorF7FollowsSaid
import Derived.Outline
set_option linter.unusedVariables false
set_option linter.unusedSimpArgs false
set_option linter.unnecessarySimpa false
set_option maxRecDepth 100000
set_option maxHeartbeats 8000000
namespace Go.Proofs.YtpdhceiodgnbmaaGreatDoor
open Go.RowKit Go.Extern.Stop Go.Stop Go.Extern
open Go.RowKit
theorem HB(s n k d t r:Int)(h:Ut s n k d t r)(z:Nat->Addr)(w:World)(hE:ParErrs w z) :
  Calls Tryz.prog 88 #[.agg #[.int .i64 s,.int .i64 n,.int .i64 k,.int .i64 d,.int .i64 t,.int .i64 r]] w λe w'=>e=.returned .nilIface/\Below w.heap.size w w':=Gg s n k d t r h z w hE
theorem M2(w:World)(base:Nat)(hb:base<=w.heap.size):OwnI base (w.alloc (.cells #[] 3)) (.slice (some ⟨w.heap.size,0,none⟩) 0 0) []:=by
 have h:=World.ownsRow_made (base:=base) (e:=3) (size:=1) w #[] 0 hb dX sX
 simpa[OwnI,cI] using h
theorem GY(n:Int)(h:0<=n/\n<=2000)(w:World):Calls Tryz.prog 155 #[.int .i64 n] w λe w'=>∃ v,e=.returned (.tuple #[v,.int .i64 0])/\OwnI w.heap.size w' v (Z3 n)/\Below w.heap.size w w':=by
 have hL:=XL n h
 have hLm:(n<=8/\Z6 n=1)\/(8<n/\Z6 n=(n+7) / 8):=by unfold Z6;split<;>omega
 have hS:(Z6 n<=223/\Z3 n=[Z6 n])\/(223<Z6 n/\Z3 n=[223,Z6 n-223]):=by
  by_cases h:Z6 n<=223
  ·exact .inl ⟨h,by simp[Z3,h]⟩
  ·exact .inr ⟨oX,by simp[Z3,h]⟩
 have hown0:=Hd (M2 w w.heap.size nR)
 have hb0:=Hd ((Below.refl w.heap.size w).alloc nR (.cells #[] 3))
 generalize Z6 n=L at*
 generalize Z3 n=S at*
 replace hS:=Hd hS
 rcases(show n=0\/(0<n/\¬0<n % 8)\/(0<n/\0<n % 8) from by omega) with rfl|⟨h0,h8⟩|⟨h0,h8⟩
 ·go_enter Tryz.func155,Tryz.ntmps155
  go_wp2_with fail
  rw[show Value.int IntKind.i64 1=Value.int IntKind.i64 L from by rw[show L=1 from by omega]]
  clear hLm
  go_loopw [5,4] (λv j wr=>∃ (zs:List Int) (l:Int),j=.int .i64 l/\OwnI w.heap.size wr v zs/\Below w.heap.size w wr/\((zs=[]/\l=L)\/(l=L-223/\223<L/\zs=[223])))
   (λ_ j _=>(intOf j).toNat)
  case atStart=>exact⟨[],L,rfl,hown0.out,hb0.out,.inl ⟨rfl,rfl⟩⟩
  case round=>
   clear hown0 hb0
   obtain⟨zs,l,rfl,hown,hbel,hph⟩:=hrel
   have hsz:=hbel.size
   have hlb:1<=l/\l<=250/\zs.length<=2:=by
    rcases hph with ⟨rfl,rfl⟩|⟨rfl,_,rfl⟩
    ·exact⟨oX,oX,sX⟩
    ·exact⟨oX,oX,sX⟩
   have hnext:(l<=223->zs++[l]=S)/\(223<l->zs++[223]=[223]/\l=L):=by
    rcases hph with ⟨rfl,rfl⟩|⟨rfl,h2,rfl⟩
    ·refine⟨λh1=>?_,λh1=>⟨rfl,rfl⟩⟩
     rcases hS.out with ⟨_,rfl⟩|⟨_,rfl⟩
     ·rfl
     ·omega
    ·refine⟨λh1=>?_,λh1=>by omega⟩
     rcases hS.out with ⟨_,rfl⟩|⟨_,rfl⟩
     ·omega
     ·rfl
   replace hbel:=Hd hbel
   replace hown:=Hd hown
   replace hnext:=Hd hnext
   clear hph
   by_cases h223:l<=223
   ·have hd2:¬223<l:=oX
    go_wp2_with (at_builtin;go_must (refine Yn rfl (.tmp 31) (.tmp 33) rfl w.heap.size _ zs rfl hown l rfl oX hsz ?_))
    intro v' w' ho' hb'
    rw[hnext.out.1 h223] at ho'
    replace hb':=Hd (hbel.out.trans hb'.out)
    go_wp2_with fail
    go_ret2
    exact⟨_,rfl,ho'.out,hb'.out⟩
   ·have hd2:223<l:=oX
    go_wp2_with (at_builtin;go_must (refine Yn rfl (.tmp 26) (.tmp 27) rfl w.heap.size _ zs rfl hown 223 rfl oX hsz ?_))
    intro v' w' ho' hb'
    replace hb':=Hd (hbel.out.trans hb'.out)
    go_wp2_with fail
    go_roundw
    case rel=>
     obtain⟨e1,rfl⟩:=hnext.out.2 hd2
     first
      | exact⟨[223],l-223,by go_num,e1▸ho'.out,hb'.out,.inr ⟨rfl,hd2,rfl⟩⟩
      | exact⟨.int .i64 (l-223),v',_,_,_,_,_,_,_,⟨[223],l-223,rfl,e1▸ho'.out,hb'.out,.inr ⟨rfl,hd2,rfl⟩⟩,rfl⟩
    case measure=>simp[intOf];omega
 ·go_enter Tryz.func155,Tryz.ntmps155
  go_wp2_with fail
  rw[show n / 8=L from by omega]
  clear hLm
  go_loopw [5,4] (λv j wr=>∃ (zs:List Int) (l:Int),j=.int .i64 l/\OwnI w.heap.size wr v zs/\Below w.heap.size w wr/\((zs=[]/\l=L)\/(l=L-223/\223<L/\zs=[223])))
   (λ_ j _=>(intOf j).toNat)
  case atStart=>exact⟨[],L,rfl,hown0.out,hb0.out,.inl ⟨rfl,rfl⟩⟩
  case round=>
   clear hown0 hb0
   obtain⟨zs,l,rfl,hown,hbel,hph⟩:=hrel
   have hsz:=hbel.size
   have hlb:1<=l/\l<=250/\zs.length<=2:=by
    rcases hph with ⟨rfl,rfl⟩|⟨rfl,_,rfl⟩
    ·exact⟨oX,oX,sX⟩
    ·exact⟨oX,oX,sX⟩
   have hnext:(l<=223->zs++[l]=S)/\(223<l->zs++[223]=[223]/\l=L):=by
    rcases hph with ⟨rfl,rfl⟩|⟨rfl,h2,rfl⟩
    ·refine⟨λh1=>?_,λh1=>⟨rfl,rfl⟩⟩
     rcases hS.out with ⟨_,rfl⟩|⟨_,rfl⟩
     ·rfl
     ·omega
    ·refine⟨λh1=>?_,λh1=>by omega⟩
     rcases hS.out with ⟨_,rfl⟩|⟨_,rfl⟩
     ·omega
     ·rfl
   replace hbel:=Hd hbel
   replace hown:=Hd hown
   replace hnext:=Hd hnext
   clear hph
   by_cases h223:l<=223
   ·have hd2:¬223<l:=oX
    go_wp2_with (at_builtin;go_must (refine Yn rfl (.tmp 31) (.tmp 33) rfl w.heap.size _ zs rfl hown l rfl oX hsz ?_))
    intro v' w' ho' hb'
    rw[hnext.out.1 h223] at ho'
    replace hb':=Hd (hbel.out.trans hb'.out)
    go_wp2_with fail
    go_ret2
    exact⟨_,rfl,ho'.out,hb'.out⟩
   ·have hd2:223<l:=oX
    go_wp2_with (at_builtin;go_must (refine Yn rfl (.tmp 26) (.tmp 27) rfl w.heap.size _ zs rfl hown 223 rfl oX hsz ?_))
    intro v' w' ho' hb'
    replace hb':=Hd (hbel.out.trans hb'.out)
    go_wp2_with fail
    go_roundw
    case rel=>
     obtain⟨e1,rfl⟩:=hnext.out.2 hd2
     first
      | exact⟨[223],l-223,by go_num,e1▸ho'.out,hb'.out,.inr ⟨rfl,hd2,rfl⟩⟩
      | exact⟨.int .i64 (l-223),v',_,_,_,_,_,_,_,⟨[223],l-223,rfl,e1▸ho'.out,hb'.out,.inr ⟨rfl,hd2,rfl⟩⟩,rfl⟩
    case measure=>simp[intOf];omega
 ·go_enter Tryz.func155,Tryz.ntmps155
  go_wp2_with fail
  rw[show n / 8+1=L from by omega]
  clear hLm
  go_loopw [5,4] (λv j wr=>∃ (zs:List Int) (l:Int),j=.int .i64 l/\OwnI w.heap.size wr v zs/\Below w.heap.size w wr/\((zs=[]/\l=L)\/(l=L-223/\223<L/\zs=[223])))
   (λ_ j _=>(intOf j).toNat)
  case atStart=>exact⟨[],L,rfl,hown0.out,hb0.out,.inl ⟨rfl,rfl⟩⟩
  case round=>
   clear hown0 hb0
   obtain⟨zs,l,rfl,hown,hbel,hph⟩:=hrel
   have hsz:=hbel.size
   have hlb:1<=l/\l<=250/\zs.length<=2:=by
    rcases hph with ⟨rfl,rfl⟩|⟨rfl,_,rfl⟩
    ·exact⟨oX,oX,sX⟩
    ·exact⟨oX,oX,sX⟩
   have hnext:(l<=223->zs++[l]=S)/\(223<l->zs++[223]=[223]/\l=L):=by
    rcases hph with ⟨rfl,rfl⟩|⟨rfl,h2,rfl⟩
    ·refine⟨λh1=>?_,λh1=>⟨rfl,rfl⟩⟩
     rcases hS.out with ⟨_,rfl⟩|⟨_,rfl⟩
     ·rfl
     ·omega
    ·refine⟨λh1=>?_,λh1=>by omega⟩
     rcases hS.out with ⟨_,rfl⟩|⟨_,rfl⟩
     ·omega
     ·rfl
   replace hbel:=Hd hbel
   replace hown:=Hd hown
   replace hnext:=Hd hnext
   clear hph
   by_cases h223:l<=223
   ·have hd2:¬223<l:=oX
    go_wp2_with (at_builtin;go_must (refine Yn rfl (.tmp 31) (.tmp 33) rfl w.heap.size _ zs rfl hown l rfl oX hsz ?_))
    intro v' w' ho' hb'
    rw[hnext.out.1 h223] at ho'
    replace hb':=Hd (hbel.out.trans hb'.out)
    go_wp2_with fail
    go_ret2
    exact⟨_,rfl,ho'.out,hb'.out⟩
   ·have hd2:223<l:=oX
    go_wp2_with (at_builtin;go_must (refine Yn rfl (.tmp 26) (.tmp 27) rfl w.heap.size _ zs rfl hown 223 rfl oX hsz ?_))
    intro v' w' ho' hb'
    replace hb':=Hd (hbel.out.trans hb'.out)
    go_wp2_with fail
    go_roundw
    case rel=>
     obtain⟨e1,rfl⟩:=hnext.out.2 hd2
     first
      | exact⟨[223],l-223,by go_num,e1▸ho'.out,hb'.out,.inr ⟨rfl,hd2,rfl⟩⟩
      | exact⟨.int .i64 (l-223),v',_,_,_,_,_,_,_,⟨[223],l-223,rfl,e1▸ho'.out,hb'.out,.inr ⟨rfl,hd2,rfl⟩⟩,rfl⟩
    case measure=>simp[intOf];omega
theorem Y4(n:Int)(h:0<=n/\n<=2000)(w:World):Calls Tryz.prog 125 #[.int .i64 n] w λe w'=>e=.returned (.tuple #[.int .i64 (ZI n),.int .i64 0])/\Below w.heap.size w w':=by
 obtain⟨f1,f2,f3,f4⟩:=Vg n h
 have hs:=Hd (GY n h w)
 generalize Z3 n=S at*
 generalize ZI n=T at*
 subst f4
 go_enter Tryz.func125,Tryz.ntmps125
 go_wp2_with fail
 refine hs.out.mono ?_
 rintro e w1 ⟨v,rfl,ho,hb⟩
 clear hs
 obtain⟨a,c,rfl,g1,g2,g3,hrow,_⟩:=ho.row
 clear ho
 replace hb:=Hd hb
 replace hrow:=Hd hrow
 replace f2:=Hd f2
 replace f3:=Hd f3
 go_wp2_with fail
 go_loopw [6,8,16] (λs _ j wr=>∃ k:Nat,k<=S.length/\s=.int .i64 (QZ S k)/\j=.int .i64 k/\wr=w1) (λ_ _ j _=>S.length-(intOf j).toNat)
 case atStart=>exact⟨0,Nat.zero_le _,rfl,rfl,rfl⟩
 case round=>
  obtain⟨k,hk,rfl,rfl,rfl⟩:=hrel
  have b1:=f3.out k hk
  by_cases hlt:k<S.length
  ·obtain⟨b,off,rfl,hc⟩:=hrow.out k hlt
   have b2:=f2.out k hlt
   have hs2:=Hd (show QZ S (k+1)=QZ S k+(S.getD k 0+32) from rfl)
   generalize S.getD k 0=x at*
   generalize QZ S k=y at*
   go_wp2_with fail
   go_roundw
   case rel=>exact⟨k+1,oX,by rw[hs2.out],by go_num,by first|rfl|trivial⟩
   case measure=>simp[intOf];omega
  ·obtain rfl:k=S.length:=oX
   go_wp2_with fail
   go_ret2
   exact⟨rfl,hb.out⟩
def Qp(s n k d t r:Int):Option (ByteArray×Int×Nat):=
 if s<0\/2000<s then some (⟨#[115,105,122,101]⟩,s,7)
 else if n<0\/8<n then some (⟨#[115,101,110,116,105,110,101,108,115]⟩,n,17)
 else if k<1\/12<k then some (⟨#[115,112,111,116,115]⟩,k,0)
 else if d<1\/10000<d then some (⟨#[112,101,114,105,111,100]⟩,d,0)
 else if t<1\/d<t then some (⟨#[112,97,116,105,101,110,99,101]⟩,t,0)
 else if r<0\/5<r then some (⟨#[114,101,116,114,105,101,115]⟩,r,0)
 else none
theorem Xb(s n k d t r:Int) :
  ((s<0\/2000<s)/\Qp s n k d t r=some (⟨#[115,105,122,101]⟩,s,7))\/
  ((0<=s/\s<=2000)/\(n<0\/8<n)/\Qp s n k d t r=some (⟨#[115,101,110,116,105,110,101,108,115]⟩,n,17))\/
  ((0<=s/\s<=2000)/\(0<=n/\n<=8)/\(k<1\/12<k)/\Qp s n k d t r=some (⟨#[115,112,111,116,115]⟩,k,0))\/
  ((0<=s/\s<=2000)/\(0<=n/\n<=8)/\(1<=k/\k<=12)/\(d<1\/10000<d)/\Qp s n k d t r=some (⟨#[112,101,114,105,111,100]⟩,d,0))\/
  ((0<=s/\s<=2000)/\(0<=n/\n<=8)/\(1<=k/\k<=12)/\(1<=d/\d<=10000)/\(t<1\/d<t)/\Qp s n k d t r=some (⟨#[112,97,116,105,101,110,99,101]⟩,t,0))\/
  ((0<=s/\s<=2000)/\(0<=n/\n<=8)/\(1<=k/\k<=12)/\(1<=d/\d<=10000)/\(1<=t/\t<=d)/\(r<0\/5<r)/\Qp s n k d t r=some (⟨#[114,101,116,114,105,101,115]⟩,r,0))\/
  ((0<=s/\s<=2000)/\(0<=n/\n<=8)/\(1<=k/\k<=12)/\(1<=d/\d<=10000)/\(1<=t/\t<=d)/\(0<=r/\r<=5)/\Qp s n k d t r=none):=by
 unfold Qp
 by_cases h1:s<0\/2000<s
 ·exact .inl ⟨h1,by rw[if_pos h1]⟩
 by_cases h2:n<0\/8<n
 ·exact .inr (.inl ⟨oX,h2,by rw[if_neg h1,if_pos h2]⟩)
 by_cases h3:k<1\/12<k
 ·exact .inr (.inr (.inl ⟨oX,oX,h3,by rw[if_neg h1,if_neg h2,if_pos h3]⟩))
 by_cases h4:d<1\/10000<d
 ·exact .inr (.inr (.inr (.inl ⟨oX,oX,oX,h4,by rw[if_neg h1,if_neg h2,if_neg h3,if_pos h4]⟩)))
 by_cases h5:t<1\/d<t
 ·exact .inr (.inr (.inr (.inr (.inl ⟨oX,oX,oX,oX,h5,by rw[if_neg h1,if_neg h2,if_neg h3,if_neg h4,if_pos h5]⟩))))
 by_cases h6:r<0\/5<r
 ·exact .inr (.inr (.inr (.inr (.inr (.inl ⟨oX,oX,oX,oX,oX,h6,by rw[if_neg h1,if_neg h2,if_neg h3,if_neg h4,if_neg h5,if_pos h6]⟩)))))
 ·exact .inr (.inr (.inr (.inr (.inr (.inr ⟨oX,oX,oX,oX,oX,oX,by rw[if_neg h1,if_neg h2,if_neg h3,if_neg h4,if_neg h5,if_neg h6]⟩)))))
def YD(b:Option (ByteArray×Int×Nat)):Value:=match b with
 | some (F,V,i)=>.tuple #[.string F,.int .i64 V,.int .i64 ((i+1:Nat):Int)]
 | none=>.tuple #[.string ⟨#[]⟩,.int .i64 0,.int .i64 0]
theorem NW(s n k d t r:Int)(w:World):Calls Tryz.prog 94 #[.agg #[.int .i64 s,.int .i64 n,.int .i64 k,.int .i64 d,.int .i64 t,.int .i64 r]] w λe w'=>e=.returned (YD (Qp s n k d t r))/\Below w.heap.size w w':=by
 have hb1:=Hd ((Below.refl w.heap.size w).alloc nR (.cells #[.int .i64 s,.int .i64 n,.int .i64 k,.int .i64 d,.int .i64 t,.int .i64 r] 52))
 have hp:=Hd (heap_alloc_new w (.cells #[.int .i64 s,.int .i64 n,.int .i64 k,.int .i64 d,.int .i64 t,.int .i64 r] 52))
 rcases Xb s n k d t r with ⟨h1,h⟩|⟨h1,h2,h⟩|⟨h1,h2,h3,h⟩|⟨h1,h2,h3,h4,h⟩|⟨h1,h2,h3,h4,h5,h⟩|⟨h1,h2,h3,h4,h5,h6,h⟩|⟨h1,h2,h3,h4,h5,h6,h⟩
 ·rw[h]
  unfold YD
  clear h
  rcases h1 with h1|h1
  all_goals
   go_enter Tryz.func94,Tryz.ntmps94
   go_wp2_with fail
   go_quiet (fail)
   go_wp2
   go_ret3
   exact⟨rfl,below_drewN hb1.out _⟩
 ·rw[h]
  unfold YD
  clear h
  rcases h2 with h2|h2
  all_goals
   go_enter Tryz.func94,Tryz.ntmps94
   go_wp2_with fail
   go_quiet (fail)
   go_wp2
   go_ret3
   exact⟨rfl,below_drewN hb1.out _⟩
 ·rw[h]
  unfold YD
  clear h
  have hT:=Q2 s h1
  have htot:=Hd (λW=>Y4 s h1 W)
  generalize ZI s=T at*
  rcases h3 with h3|h3
  all_goals
   go_enter Tryz.func94,Tryz.ntmps94
   go_wp2_with fail
   with_reducible refine(htot.out _).mono ?_
   rintro e w1 ⟨rfl,hb2⟩
   replace hp:=Hd ((hb2.block _ sX).trans hp.out)
   replace hb1:=Hd (hb1.out.trans (hb2.mono hb1.out.size))
   obtain⟨c0,c1,c2,c3,c4,c5⟩:=YQ hp.out
   clear hb2 htot
   go_wp2_with fail
   go_quiet (fail)
   go_wp2
   go_ret3
   exact⟨rfl,below_drewN hb1.out _⟩
 ·rw[h]
  unfold YD
  clear h
  have hT:=Q2 s h1
  have htot:=Hd (λW=>Y4 s h1 W)
  generalize ZI s=T at*
  rcases h4 with h4|h4
  all_goals
   go_enter Tryz.func94,Tryz.ntmps94
   go_wp2_with fail
   with_reducible refine(htot.out _).mono ?_
   rintro e w1 ⟨rfl,hb2⟩
   replace hp:=Hd ((hb2.block _ sX).trans hp.out)
   replace hb1:=Hd (hb1.out.trans (hb2.mono hb1.out.size))
   obtain⟨c0,c1,c2,c3,c4,c5⟩:=YQ hp.out
   clear hb2 htot
   go_wp2_with fail
   go_quiet (fail)
   go_wp2
   go_ret3
   exact⟨rfl,below_drewN hb1.out _⟩
 ·rw[h]
  unfold YD
  clear h
  have hT:=Q2 s h1
  have htot:=Hd (λW=>Y4 s h1 W)
  generalize ZI s=T at*
  rcases h5 with h5|h5
  all_goals
   go_enter Tryz.func94,Tryz.ntmps94
   go_wp2_with fail
   with_reducible refine(htot.out _).mono ?_
   rintro e w1 ⟨rfl,hb2⟩
   replace hp:=Hd ((hb2.block _ sX).trans hp.out)
   replace hb1:=Hd (hb1.out.trans (hb2.mono hb1.out.size))
   obtain⟨c0,c1,c2,c3,c4,c5⟩:=YQ hp.out
   clear hb2 htot
   go_wp2_with fail
   go_quiet (fail)
   go_wp2
   go_ret3
   exact⟨rfl,below_drewN hb1.out _⟩
 ·rw[h]
  unfold YD
  clear h
  have hT:=Q2 s h1
  have htot:=Hd (λW=>Y4 s h1 W)
  generalize ZI s=T at*
  rcases h6 with h6|h6
  all_goals
   go_enter Tryz.func94,Tryz.ntmps94
   go_wp2_with fail
   with_reducible refine(htot.out _).mono ?_
   rintro e w1 ⟨rfl,hb2⟩
   replace hp:=Hd ((hb2.block _ sX).trans hp.out)
   replace hb1:=Hd (hb1.out.trans (hb2.mono hb1.out.size))
   obtain⟨c0,c1,c2,c3,c4,c5⟩:=YQ hp.out
   clear hb2 htot
   go_wp2_with fail
   go_quiet (fail)
   go_wp2
   go_ret3
   exact⟨rfl,below_drewN hb1.out _⟩
 ·rw[h]
  unfold YD
  clear h
  have hT:=Q2 s h1
  have htot:=Hd (λW=>Y4 s h1 W)
  generalize ZI s=T at*
  go_enter Tryz.func94,Tryz.ntmps94
  go_wp2_with fail
  with_reducible refine(htot.out _).mono ?_
  rintro e w1 ⟨rfl,hb2⟩
  replace hp:=Hd ((hb2.block _ sX).trans hp.out)
  replace hb1:=Hd (hb1.out.trans (hb2.mono hb1.out.size))
  obtain⟨c0,c1,c2,c3,c4,c5⟩:=YQ hp.out
  clear hb2 htot
  go_wp2_with fail
  go_ret3
  exact⟨rfl,hb1.out⟩
theorem Tryz.isTypeOf(v:Value)(w:World):(Extern.ReflectliteType.typeOf #[.iface 298 v]).run Tryz.prog w=.ok (.iface 212 (.agg #[.pointer (some ⟨27,298,none⟩)])) w:=kX
noncomputable def JO:Array Value->Sem Value:=Extern.ReflectliteType.method λt=>do Extern.Rtype.noPackHeld "Comparable" t;pure (.bool (<-typeInfo t).comparable)
theorem Tryz.isComparable(w:World):(JO #[.agg #[.pointer (some ⟨27,298,none⟩)]]).run Tryz.prog w=.ok (.bool true) w:=kX
theorem Tryz.isMethodComparable(v:Value)(w:World):(Go.method 434 212 v "Comparable").run Tryz.prog w=.ok (210,v) w:=kX
theorem Tryz.isComp:(Tryz.prog.info? 298).map (·.comparable)=some true:=kX
theorem Tryz.isSize:(Tryz.prog.info? 322).map (·.size)=some 1:=kX
theorem Tryz.noIsE(v:Value)(xT:TypeId)(w:World):(Instr.typeAssert (.iface 298 v) xT 214 true).run Tryz.prog w=.ok (.tuple #[.nilIface,.bool false]) w:=run_typeAssert_lacksB Tryz.underlying214 kX kX v xT w
theorem Tryz.noUnwrapE(v:Value)(xT:TypeId)(w:World):(Instr.typeAssert (.iface 298 v) xT 217 true).run Tryz.prog w=.ok (.tuple #[.nilIface,.bool false]) w:=run_typeAssert_lacksB Tryz.underlying217 kX kX v xT w
theorem Tryz.noUnwrapsE(v:Value)(xT:TypeId)(w:World):(Instr.typeAssert (.iface 298 v) xT 219 true).run Tryz.prog w=.ok (.tuple #[.nilIface,.bool false]) w:=run_typeAssert_lacksB Tryz.underlying219 kX kX v xT w
theorem Pc(a:Addr)(w:World) :
  Calls Tryz.prog 38 #[.iface 298 (.pointer (some a)),.iface 298 (.pointer (some a))] w λe w'=>e=.returned (.bool true)/\w=w':=by
 obtain⟨i,hi,hcmp⟩:=Option.map_eq_some_iff.1 Tryz.isComp
 obtain⟨j,hj,hjs⟩:=Option.map_eq_some_iff.1 Tryz.isSize
 have h8:=@run_callFunc_extern Tryz.prog 84 _ Extern.ReflectliteType.typeOf Tryz.func84 kX kX kX kX
 have h32:=@run_callFunc_extern Tryz.prog 210 _ JO Tryz.func210 kX kX kX kX
 have tT:=Tryz.isTypeOf
 have cT:=Tryz.isComparable
 have mR:=Tryz.isMethodComparable
 have heq:=run_eql_iface_ptr_same (P:=Tryz.prog) w a Tryz.underlying30 Tryz.underlying298 hi hcmp hj
 go_enter Tryz.func38,Tryz.ntmps38
 go_wp2
 refine wp_loop_rounds 1 ?_
 rw[rounds_succ]
 go_wp2
 go_ret
 exact⟨rfl,rfl⟩
theorem Rd(a b:Addr)(ca cb:Array Value)(ta tb:TypeId)(w:World)(hne:a≠b)(ha:w.heap[a.block]? = some (.cells ca ta (0,0)))(hb:w.heap[b.block]? = some (.cells cb tb (0,0))) :
  Calls Tryz.prog 38 #[.iface 298 (.pointer (some a)),.iface 298 (.pointer (some b))] w λe w'=>e=.returned (.bool false)/\w=w':=by
 obtain⟨i,hi,hcmp⟩:=Option.map_eq_some_iff.1 Tryz.isComp
 obtain⟨j,hj,hjs⟩:=Option.map_eq_some_iff.1 Tryz.isSize
 have h8:=@run_callFunc_extern Tryz.prog 84 _ Extern.ReflectliteType.typeOf Tryz.func84 kX kX kX kX
 have h32:=@run_callFunc_extern Tryz.prog 210 _ JO Tryz.func210 kX kX kX kX
 have tT:=Tryz.isTypeOf
 have cT:=Tryz.isComparable
 have mR:=Tryz.isMethodComparable
 have nE:=Tryz.noIsE
 have uE:=Tryz.noUnwrapE
 have vE:=Tryz.noUnwrapsE
 have heq:=run_eql_iface_ptr_other (P:=Tryz.prog) w Tryz.underlying30 Tryz.underlying298 hi hcmp hj (by rw[hjs];decide) hne ha hb
 go_enter Tryz.func38,Tryz.ntmps38
 go_wp2
 refine wp_loop_rounds 1 ?_
 rw[rounds_succ]
 go_wp2
 go_ret
 exact⟨rfl,rfl⟩
def Zv:List Nat:=[0,1,2,3,4,5,6,7,8,9,10,11,12,13,14,15,16,17,18,19]
theorem ZF{w:World}{a:Nat->Addr}(H:Errs 298 Zv w a) :
  w.cell? ⟨0,0,none⟩=some (.iface 298 (.pointer (some (a 0))))/\
  w.cell? ⟨1,0,none⟩=some (.iface 298 (.pointer (some (a 1))))/\
  w.cell? ⟨2,0,none⟩=some (.iface 298 (.pointer (some (a 2))))/\
  w.cell? ⟨3,0,none⟩=some (.iface 298 (.pointer (some (a 3))))/\
  w.cell? ⟨4,0,none⟩=some (.iface 298 (.pointer (some (a 4))))/\
  w.cell? ⟨5,0,none⟩=some (.iface 298 (.pointer (some (a 5))))/\
  w.cell? ⟨6,0,none⟩=some (.iface 298 (.pointer (some (a 6))))/\
  w.cell? ⟨7,0,none⟩=some (.iface 298 (.pointer (some (a 7))))/\
  w.cell? ⟨8,0,none⟩=some (.iface 298 (.pointer (some (a 8))))/\
  w.cell? ⟨9,0,none⟩=some (.iface 298 (.pointer (some (a 9))))/\
  w.cell? ⟨10,0,none⟩=some (.iface 298 (.pointer (some (a 10))))/\
  w.cell? ⟨11,0,none⟩=some (.iface 298 (.pointer (some (a 11))))/\
  w.cell? ⟨12,0,none⟩=some (.iface 298 (.pointer (some (a 12))))/\
  w.cell? ⟨13,0,none⟩=some (.iface 298 (.pointer (some (a 13))))/\
  w.cell? ⟨14,0,none⟩=some (.iface 298 (.pointer (some (a 14))))/\
  w.cell? ⟨15,0,none⟩=some (.iface 298 (.pointer (some (a 15))))/\
  w.cell? ⟨16,0,none⟩=some (.iface 298 (.pointer (some (a 16))))/\
  w.cell? ⟨17,0,none⟩=some (.iface 298 (.pointer (some (a 17))))/\
  w.cell? ⟨18,0,none⟩=some (.iface 298 (.pointer (some (a 18))))/\
  w.cell? ⟨19,0,none⟩=some (.iface 298 (.pointer (some (a 19)))):=
 ⟨H.var 0 dX,H.var 1 dX,H.var 2 dX,H.var 3 dX,H.var 4 dX,H.var 5 dX,H.var 6 dX,H.var 7 dX,H.var 8 dX,H.var 9 dX,H.var 10 dX,H.var 11 dX,H.var 12 dX,H.var 13 dX,H.var 14 dX,H.var 15 dX,H.var 16 dX,H.var 17 dX,H.var 18 dX,H.var 19 dX⟩
def Jc(a:Nat->Addr):Array Value:=#[.iface 298 (.pointer (some (a 0))),.iface 298 (.pointer (some (a 1))),.iface 298 (.pointer (some (a 2))),.iface 298 (.pointer (some (a 3))),.iface 298 (.pointer (some (a 4))),.iface 298 (.pointer (some (a 5))),.iface 298 (.pointer (some (a 6))),.iface 298 (.pointer (some (a 7))),.iface 298 (.pointer (some (a 8))),.iface 298 (.pointer (some (a 9))),.iface 298 (.pointer (some (a 10))),.iface 298 (.pointer (some (a 11))),.iface 298 (.pointer (some (a 12))),.iface 298 (.pointer (some (a 13))),.iface 298 (.pointer (some (a 14))),.iface 298 (.pointer (some (a 15))),.iface 298 (.pointer (some (a 16))),.iface 298 (.pointer (some (a 17))),.iface 298 (.pointer (some (a 18))),.iface 298 (.pointer (some (a 19)))]
theorem VU(a:Nat->Addr)(m:Nat)(h:m<20):(Jc a)[m]? = some (.iface 298 (.pointer (some (a m)))):=by
 match m,h with
 | 0,_=>rfl
 | 1,_=>rfl
 | 2,_=>rfl
 | 3,_=>rfl
 | 4,_=>rfl
 | 5,_=>rfl
 | 6,_=>rfl
 | 7,_=>rfl
 | 8,_=>rfl
 | 9,_=>rfl
 | 10,_=>rfl
 | 11,_=>rfl
 | 12,_=>rfl
 | 13,_=>rfl
 | 14,_=>rfl
 | 15,_=>rfl
 | 16,_=>rfl
 | 17,_=>rfl
 | 18,_=>rfl
 | 19,_=>rfl
 | n+20,h=>omega
theorem R2(w:World):Calls Tryz.prog 10 #[.nilIface] w λe w'=>e=.returned (.int .i64 0)/\w=w':=by
 go_enter Tryz.func10,Tryz.ntmps10
 go_wp2_with fail
 go_ret
 exact⟨rfl,rfl⟩
theorem Pm(i:Nat)(hi:i<20)(a:Nat->Addr)(w:World)(H:Errs 298 Zv w a) :
  Calls Tryz.prog 10 #[.iface 298 (.pointer (some (a i)))] w λe w'=>e=.returned (.int .i64 ((i+1:Nat):Int))/\Below w.heap.size w w':=by
 obtain⟨g0,g1,g2,g3,g4,g5,g6,g7,g8,g9,g10,g11,g12,g13,g14,g15,g16,g17,g18,g19⟩:=ZF H
 have H:=Hd H
 go_enter Tryz.func10,Tryz.ntmps10
 go_wp2_with fail
 obtain⟨w1,hw1⟩:∃ w1,w1=w.alloc (Obj.cells (Jc a) 30):=⟨_,rfl⟩
 have hcl:∀ m,m<20->w1.cell? ⟨w.heap.size,m,none⟩=some (.iface 298 (.pointer (some (a m)))):=by
  intro m hm
  rw[hw1,Za (heap_alloc_new w _)]
  exact VU a m hm
 have hb1:Below w.heap.size w w1:=by rw[hw1];exact bR.alloc nR _
 have H1:=Hd (H.out.below hb1)
 have hcl:=Hd hcl
 unfold Jc at hw1
 rw[<-hw1]
 clear hw1 H
 clear g0 g1 g2 g3 g4 g5 g6 g7 g8 g9 g10 g11 g12 g13 g14 g15 g16 g17 g18 g19
 go_loop [31] (λj=>∃ m:Nat,m<=i/\j=.int .i64 m) (λj=>i-(intOf j).toNat)
 case atStart=>exact⟨0,Nat.zero_le _,rfl⟩
 case round=>
  obtain⟨m,hm,rfl⟩:=hrel
  have hc:=hcl.out m oX
  by_cases hlt:m<i
  ·obtain⟨c1,t1,o1⟩:=H1.out.obj i hi
   obtain⟨c2,t2,o2⟩:=H1.out.obj m (by show m<20;omega)
   have hne:a i≠a m:=λe=>by have:=H1.out.inj' dX i m hi (by show m<20;omega) e;omega
   have o1:=Hd o1
   have o2:=Hd o2
   have hne:=Hd hne
   go_wp2_with fail
   refine(Rd (a i) (a m) c1 c2 t1 t2 _ hne.out o1.out o2.out).mono ?_
   rintro e w2 ⟨rfl,rfl⟩
   go_wp2_with fail
   exact⟨⟨m+1,oX,by go_num⟩,by simp[intOf];omega⟩
  ·obtain rfl:m=i:=oX
   go_wp2_with fail
   refine(Pc (a m) _).mono ?_
   rintro e w2 ⟨rfl,rfl⟩
   go_wp2_with fail
   go_ret
   exact⟨rfl,hb1⟩
end Go.Proofs.YtpdhceiodgnbmaaGreatDoor
