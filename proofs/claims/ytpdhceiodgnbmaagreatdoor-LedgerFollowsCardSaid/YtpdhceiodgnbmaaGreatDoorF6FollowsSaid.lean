import Derived.Test.YtpdhceiodgnbmaaGreatDoorF0FollowsSaid
import Derived.Test.YtpdhceiodgnbmaaGreatDoorF1FollowsSaid
import Derived.Test.YtpdhceiodgnbmaaGreatDoorF5FollowsSaid
import Derived.Lib.AppendZeros
import Derived.Test.YtpdhceiodgnbmaaGreatDoorF3FollowsSaid
import Derived.Deep.MidRow
import Derived.Lib.SmallJoins
import Derived.Deep.Slices
import Derived.Deep.Fields
import Derived.ChangeSame
set_option linter.unusedVariables false
set_option linter.unusedSimpArgs false
set_option linter.unnecessarySimpa false
set_option maxRecDepth 100000
set_option maxHeartbeats 8000000
namespace Go.Proofs.YtpdhceiodgnbmaaGreatDoor
open Go.RowKit
theorem TA(n:Nat)(w:World)(h1:1<=n)(h2:n<=1000000):Calls Tryz.prog 167 #[.slice none 0 0,.int .i64 (n:Int)] w λe w'=>∃ v,e=.returned v/\OwnB w.heap.size w' v []/\Below w.heap.size w w':=by
 obtain⟨i0,hi,hz0,hz1,hz2⟩:=info_parts Tryz.infoByteP
 have happ:=Lib.run_append_nil_zeros (P:=Tryz.prog) w 24 3 24 5 i0 (.int .u8 0) .i64 .i64 Tryz.underlying24 Tryz.underlying3 hi hz0 n oX oX oX (by rw[hz2];omega)
 generalize hcap:grownCap w n 0 5=cap2 at happ
 have hcapge:n<=cap2:=by rw[<-hcap];exact grownCap_ge w _ 0 5
 have hcaple:cap2<=maxLen:=by rw[<-hcap];exact grownCap_le_maxLen w _ 0 5 (by unfold maxLen;omega)
 generalize hZ:(Builtin.zeroCells (Value.int .u8 0).cells n++Builtin.zeroCells (Value.int .u8 0).cells (cap2-n))=Z at happ
 have hZs:Z.size=cap2:=by rw[<-hZ];simp[size_zeroCells,Value.cells];omega
 clear hcap hZ
 have hZs:=Hd hZs
 have h3:=Hd hcaple
 clear hcaple
 have happ:=Hd happ
 go_enter Tryz.func167,Tryz.ntmps167
 go_wp2_with (at_builtin;refine Lib.wpList_append_run _ rfl _ _ _ _ rfl _ _ rfl rfl _ _ happ.out ?_)
 go_ret
 refine⟨_,rfl,?_,?_⟩
 ·exact⟨rfl,.inr ⟨w.heap.size,cap2,Z,rfl,Nat.le_refl _,heap_alloc_new w _,Nat.zero_le _,h3.out,by rw[Nat.mul_one];exact hZs.out,rfl⟩⟩
 ·exact Below.alloc (Drawn.below ⟨1,rfl⟩ _) nR _
def RowsAt(w:World)(b:Nat)(ps:List (List UInt8)):Prop:=∀ k,k<ps.length->∃ a c,w.cell? ⟨b,k,none⟩=some (.slice a (ps.getD k []).length c)/\ArgB w a c (ps.getD k [])
theorem RowsAt.below{w w':World}{b:Nat}{ps:List (List UInt8)}(h:RowsAt w b ps)(hb:Below w.heap.size w w'):RowsAt w' b ps:=λk hk=>by
 obtain⟨a,c,h1,h2⟩:=h k hk
 exact⟨a,c,(hb.cell (World.block_lt_of_cell? w _ h1)).trans h1,h2.below hb⟩
def Q3(ps:List (List UInt8))(k:Nat):Nat:=((ps.take k).flatten).length
theorem Gm{ps:List (List UInt8)}{k:Nat}(h:k<ps.length):(ps.take (k+1)).flatten=(ps.take k).flatten++ps.getD k []:=by
 rw[List.take_succ_eq_append_getElem h,List.flatten_append,List.getD_eq_getElem?_getD,List.getElem?_eq_getElem h]
 simp
theorem Vh{ps:List (List UInt8)}{k:Nat}(h:k<ps.length):Q3 ps (k+1)=Q3 ps k+(ps.getD k []).length:=by
 unfold Q3
 rw[Gm h,List.length_append]
theorem UJ(ps:List (List UInt8))(k:Nat):Q3 ps k<=ps.flatten.length:=by
 have h:(ps.take k).flatten.length+(ps.drop k).flatten.length=ps.flatten.length:=by rw[<-List.length_append,<-List.flatten_append,List.take_append_drop]
 unfold Q3
 omega
theorem Vl(b:Nat)(ps:List (List UInt8))(w:World)(hA:RowsAt w b ps)(hm:ps.length<=100000)(h1:1<=ps.flatten.length)(h2:ps.flatten.length<=1000000) :
  Calls Tryz.prog 140 #[.slice (some ⟨b,0,none⟩) ps.length ps.length] w λe w'=>∃ v,e=.returned v/\OwnB w.heap.size w' v ps.flatten/\Below w.heap.size w w':=by
 obtain⟨L,hL⟩:∃ L,L=ps.length:=⟨_,rfl⟩
 have hA2:=Hd hA
 rw[<-hL]
 replace hL:=Hd hL
 have hLm:L<=100000:=by rw[hL.out];exact hm
 go_enter Tryz.func140,Tryz.ntmps140
 go_wp2_with fail
 go_loop [3,5,11] (λs _ j=>∃ k:Nat,k<=L/\j=.int .i64 k/\s=.int .i64 (Q3 ps k)) (λ_ _ j=>L-(intOf j).toNat)
 case atStart=>exact⟨0,Nat.zero_le _,rfl,rfl⟩
 case round=>
  obtain⟨k,hk,rfl,rfl⟩:=hrel
  by_cases hlt:k<L
  ·have hkp:k<ps.length:=by rw[<-hL.out];exact hlt
   obtain⟨ai,ci,hc,ha⟩:=hA2.out k hkp
   have hli:(k:Int)<L:=oX
   have hs:=Vh hkp
   have hle:=UJ ps (k+1)
   have hneg:¬((Q3 ps k:Int)+(ps.getD k []).length<0):=oX
   have hs2:=Hd (show ((Q3 ps k:Int)+(ps.getD k []).length)=(Q3 ps (k+1):Int) from by omega)
   have hb:Q3 ps (k+1)<=1000000:=oX
   generalize (ps.getD k []).length=l at*
   generalize Q3 ps k=S at*
   have hw:IntKind.i64.wrap ((S:Int)+l)=(S:Int)+l:=IntWalk.i64_in _ oX
   clear hs hle ha
   go_wp2_with fail
   exact⟨⟨k+1,oX,by go_num,by rw[<-hs2.out]⟩,by simp[intOf];omega⟩
  ·obtain rfl:k=L:=oX
   have hfl:Q3 ps k=ps.flatten.length:=by unfold Q3;rw[hL.out,List.take_length]
   rw[hfl]
   clear hfl
   have hg:=Hd (TA ps.flatten.length w h1 oX)
   have hfn:=Hd (show ∀ i,Q3 ps i<=ps.flatten.length from UJ ps)
   generalize ps.flatten.length=nn at*
   go_wp2_with fail
   with_reducible refine hg.out.mono ?_
   rintro e w1 ⟨v,rfl,ho,hb1⟩
   replace ho:=Hd ho
   replace hb1:=Hd hb1
   clear hg
   go_wp2_with fail
   go_loopw [6,8,27] (λv _ j wr=>∃ i:Nat,i<=k/\j=.int .i64 i/\OwnB w.heap.size wr v (ps.take i).flatten/\Below w.heap.size w wr) (λ_ _ j _=>k-(intOf j).toNat)
   case atStart=>exact⟨0,Nat.zero_le _,rfl,ho.out,hb1.out⟩
   case round=>
    clear ho hb1
    obtain⟨i,hi,rfl,hown,hbel⟩:=hrel
    have hsz:=hbel.size
    have hA3:=hA2.out.below hbel
    replace hbel:=Hd hbel
    replace hown:=Hd hown
    by_cases hil:i<k
    ·have hip:i<ps.length:=by rw[<-hL.out];exact hil
     obtain⟨ai,ci,hc,ha⟩:=hA3 i hip
     have hli:(i:Int)<k:=oX
     have htk:=Hd (Gm hip)
     have hlx:=Hd (Eq.refl (ps.getD i []).length)
     have hle:=hfn.out i
     have hle2:=hfn.out (i+1)
     have hsu:=Vh hip
     have hz1:(ps.take i).flatten.length<=1000000:=by unfold Q3 at hle;omega
     have hz2:(ps.getD i []).length<=1000000:=oX
     clear hle hle2 hsu hA3
     replace ha:=Hd ha
     generalize ps.getD i []=p at*
     go_wp2_with (at_builtin;go_must (refine Uz rfl (.tmp 31) (.tmp 32) rfl w.heap.size _ (ps.take i).flatten rfl hown ai ci p _ rfl hlx ha oX oX hsz ?_))
     intro v' w3 hown3 hb3
     go_wp2_with fail
     go_roundw
     case rel=>exact⟨i+1,oX,by go_num,by rw[htk.out];exact hown3.out,hbel.out.trans hb3.out⟩
     case measure=>simp[intOf];omega
    ·obtain rfl:i=k:=oX
     rw[show ps.take i=ps from by rw[hL.out,List.take_length]] at hown
     clear hA3
     go_wp2_with fail
     go_ret
     exact⟨_,rfl,hown.out,hbel.out⟩
theorem ZX(w:World)(o:Obj)(k:Nat):(w.alloc o).heap[k]? = if k=w.heap.size then some o else w.heap[k]? := by
 show (w.heap.push o)[k]? = _
 rw[Array.getElem?_push]
def inB(x lo hi:Int):Bool:=decide (lo<=x)&&decide (x<=hi)
theorem Z5(x lo hi:Int)(w:World):Calls Tryz.prog 64 #[.int .i64 x,.int .i64 lo,.int .i64 hi] w λe w'=>e=.returned (.bool (inB x lo hi))/\w=w':=by
 unfold inB
 cases h1:decide (lo<=x)<;>cases h2:decide (x<=hi)
 all_goals
  go_enter Tryz.func64,Tryz.ntmps64
  go_wp2_with fail
  go_ret
  exact⟨rfl,rfl⟩
def Zp(k o i y x v t:Int):Bool:=
 inB o 0 1099511627776&&inB t 0 1099511627776&&(if k=2 then inB y 1 2&&inB x 0 1048576&&inB i 0 1099511627776 else if k=3 then inB v 1 3&&inB i 0 1099511627776 else true)
theorem Kl(R:Array Value)(k o i y x v t:Int)(hs:R.size=78)(r0:∀ h,R[0]'h=.int .i64 k)(r1:∀ h,R[1]'h=.int .i64 o)(r7:∀ h,R[77]'h=.int .i64 t)(h2:k≠2)(h3:k≠3)(w:World) :
  Calls Tryz.prog 86 #[.agg R] w λe w'=>e=.returned (.bool (Zp k o i y x v t))/\Below w.heap.size w w':=by
 have hb:=Hd (show Below w.heap.size w (w.alloc (.cells R 49)) from bR.alloc nR _)
 have e2:(k==2)=false:=by simpa using h2
 have e3:(k==3)=false:=by simpa using h3
 have hn:Zp k o i y x v t=(inB o 0 1099511627776&&inB t 0 1099511627776):=by unfold Zp;rw[if_neg h2,if_neg h3,Bool.and_true]
 rw[hn]
 clear hn h2 h3
 go_enter Tryz.func86,Tryz.ntmps86
 go_wp2_with fail
 with_reducible refine(Z5 o 0 1099511627776 _).mono ?_
 rintro e w1 ⟨rfl,rfl⟩
 cases h0:inB o 0 1099511627776
 ·replace h0:=Hd h0
  go_wp2_with fail
  go_ret
  exact⟨by rw[h0.out];rfl,hb.out⟩
 ·replace h0:=Hd h0
  go_wp2_with fail
  with_reducible refine(Z5 t 0 1099511627776 _).mono ?_
  rintro e w1 ⟨rfl,rfl⟩
  go_wp2_with fail
  go_ret
  exact⟨by rw[h0.out,Bool.true_and];rfl,hb.out⟩
theorem Kh(R:Array Value)(o i y x v t:Int)(hs:R.size=78)(r0:∀ h,R[0]'h=.int .i64 3)(r1:∀ h,R[1]'h=.int .i64 o)(r2:∀ h,R[2]'h=.int .i64 i)(r6:∀ h,R[76]'h=.int .i64 v)(r7:∀ h,R[77]'h=.int .i64 t)(w:World) :
  Calls Tryz.prog 86 #[.agg R] w λe w'=>e=.returned (.bool (Zp 3 o i y x v t))/\Below w.heap.size w w':=by
 have hb:=Hd (show Below w.heap.size w (w.alloc (.cells R 49)) from bR.alloc nR _)
 have hn:Zp 3 o i y x v t=(inB o 0 1099511627776&&inB t 0 1099511627776&&(inB v 1 3&&inB i 0 1099511627776)):=rfl
 rw[hn]
 clear hn
 go_enter Tryz.func86,Tryz.ntmps86
 go_wp2_with fail
 with_reducible refine(Z5 o 0 1099511627776 _).mono ?_
 rintro e w1 ⟨rfl,rfl⟩
 cases h0:inB o 0 1099511627776
 ·replace h0:=Hd h0
  go_wp2_with fail
  go_ret
  exact⟨by rw[h0.out];rfl,hb.out⟩
 ·replace h0:=Hd h0
  go_wp2_with fail
  with_reducible refine(Z5 t 0 1099511627776 _).mono ?_
  rintro e w1 ⟨rfl,rfl⟩
  cases h1:inB t 0 1099511627776
  ·replace h1:=Hd h1
   go_wp2_with fail
   go_ret
   exact⟨by rw[h0.out,h1.out];rfl,hb.out⟩
  ·replace h1:=Hd h1
   go_wp2_with fail
   with_reducible refine(Z5 v 1 3 _).mono ?_
   rintro e w1 ⟨rfl,rfl⟩
   cases h2:inB v 1 3
   ·replace h2:=Hd h2
    go_wp2_with fail
    go_ret
    exact⟨by rw[h0.out,h1.out,h2.out];rfl,hb.out⟩
   ·replace h2:=Hd h2
    go_wp2_with fail
    with_reducible refine(Z5 i 0 1099511627776 _).mono ?_
    rintro e w1 ⟨rfl,rfl⟩
    go_wp2_with fail
    go_ret
    exact⟨by rw[h0.out,h1.out,h2.out];rfl,hb.out⟩
theorem Na(R:Array Value)(o i y x v t:Int)(hs:R.size=78)(r0:∀ h,R[0]'h=.int .i64 2)(r1:∀ h,R[1]'h=.int .i64 o)(r2:∀ h,R[2]'h=.int .i64 i)(r4:∀ h,R[74]'h=.int .i64 y)(r5:∀ h,R[75]'h=.int .i64 x)(r7:∀ h,R[77]'h=.int .i64 t)(w:World) :
  Calls Tryz.prog 86 #[.agg R] w λe w'=>e=.returned (.bool (Zp 2 o i y x v t))/\Below w.heap.size w w':=by
 have hb:=Hd (show Below w.heap.size w (w.alloc (.cells R 49)) from bR.alloc nR _)
 have hn:Zp 2 o i y x v t=(inB o 0 1099511627776&&inB t 0 1099511627776&&(inB y 1 2&&inB x 0 1048576&&inB i 0 1099511627776)):=rfl
 rw[hn]
 clear hn
 go_enter Tryz.func86,Tryz.ntmps86
 go_wp2_with fail
 with_reducible refine(Z5 o 0 1099511627776 _).mono ?_
 rintro e w1 ⟨rfl,rfl⟩
 cases h0:inB o 0 1099511627776
 ·replace h0:=Hd h0
  go_wp2_with fail
  go_ret
  exact⟨by rw[h0.out];rfl,hb.out⟩
 ·replace h0:=Hd h0
  go_wp2_with fail
  with_reducible refine(Z5 t 0 1099511627776 _).mono ?_
  rintro e w1 ⟨rfl,rfl⟩
  cases h1:inB t 0 1099511627776
  ·replace h1:=Hd h1
   go_wp2_with fail
   go_ret
   exact⟨by rw[h0.out,h1.out];rfl,hb.out⟩
  ·replace h1:=Hd h1
   go_wp2_with fail
   with_reducible refine(Z5 y 1 2 _).mono ?_
   rintro e w1 ⟨rfl,rfl⟩
   cases h2:inB y 1 2
   ·replace h2:=Hd h2
    go_wp2_with fail
    go_ret
    exact⟨by rw[h0.out,h1.out,h2.out];rfl,hb.out⟩
   ·replace h2:=Hd h2
    go_wp2_with fail
    with_reducible refine(Z5 x 0 1048576 _).mono ?_
    rintro e w1 ⟨rfl,rfl⟩
    cases h3:inB x 0 1048576
    ·replace h3:=Hd h3
     go_wp2_with fail
     go_ret
     exact⟨by rw[h0.out,h1.out,h2.out,h3.out];rfl,hb.out⟩
    ·replace h3:=Hd h3
     go_wp2_with fail
     with_reducible refine(Z5 i 0 1099511627776 _).mono ?_
     rintro e w1 ⟨rfl,rfl⟩
     go_wp2_with fail
     go_ret
     exact⟨by rw[h0.out,h1.out,h2.out,h3.out];rfl,hb.out⟩
theorem Pd(R:Array Value)(i:Nat)(v:Value)(h:(R.all (·.oneCell'))=true)(hv:v.oneCell'=true):((R.setIfInBounds i v).all (·.oneCell'))=true:=by
 rw[Array.all_eq_true'] at h ⊢
 intro x hx
 rcases Array.mem_or_eq_of_mem_setIfInBounds hx with hx|rfl
 ·exact h x hx
 ·exact hv
theorem VH(R:Array Value)(i:Nat)(k:IntKind)(z:Int)(h:(R.all (·.oneCell'))=true):((R.setIfInBounds i (.int k z)).all (·.oneCell'))=true:=Pd R i _ h rfl
theorem TN(R:Array Value)(hs:R.size=78)(r0:∀ h,R[0]'h=.int .i64 2)(hone:(R.all (·.oneCell'))=true)(w:World) :
  Calls Tryz.prog 89 #[.agg R] w λe w'=>e=.returned (.agg ((((((R.setIfInBounds 1 (Value.int IntKind.i64 0)).setIfInBounds 77 (Value.int IntKind.i64 0)).setIfInBounds 74 (Value.int IntKind.i64 0)).setIfInBounds 75 (Value.int IntKind.i64 0)).setIfInBounds 2 (Value.int IntKind.i64 0)).setIfInBounds 0 (Value.int IntKind.i64 0)))/\Below w.heap.size w w':=by
 obtain⟨V,hV⟩:∃ V,V=((((((R.setIfInBounds 1 (Value.int IntKind.i64 0)).setIfInBounds 77 (Value.int IntKind.i64 0)).setIfInBounds 74 (Value.int IntKind.i64 0)).setIfInBounds 75 (Value.int IntKind.i64 0)).setIfInBounds 2 (Value.int IntKind.i64 0)).setIfInBounds 0 (Value.int IntKind.i64 0)):=⟨_,rfl⟩
 have hVs:V.size=78:=by rw[hV];simp[hs]
 have hVo:(V.all (·.oneCell'))=true:=by rw[hV];(repeat with_reducible refine VH _ _ _ _ ?_);with_reducible exact hone
 rw[<-hV]
 have hld:=Hd (show ((w.alloc (Obj.cells ((((((R.setIfInBounds 1 (Value.int IntKind.i64 0)).setIfInBounds 77 (Value.int IntKind.i64 0)).setIfInBounds 74 (Value.int IntKind.i64 0)).setIfInBounds 75 (Value.int IntKind.i64 0)).setIfInBounds 2 (Value.int IntKind.i64 0)).setIfInBounds 0 (Value.int IntKind.i64 0)) 49)).alloc (Obj.cells Tryz.zeroCells49 49)).heap[w.heap.size]? = some (.cells V 49 (0,0)) from by
  rw[ZX,if_neg sX,ZX,if_pos rfl,hV])
 have hst:=Hd (show ((w.alloc (Obj.cells ((((((R.setIfInBounds 1 (Value.int IntKind.i64 0)).setIfInBounds 77 (Value.int IntKind.i64 0)).setIfInBounds 74 (Value.int IntKind.i64 0)).setIfInBounds 75 (Value.int IntKind.i64 0)).setIfInBounds 2 (Value.int IntKind.i64 0)).setIfInBounds 0 (Value.int IntKind.i64 0)) 49)).alloc (Obj.cells Tryz.zeroCells49 49)).heap[w.heap.size+1]? = some (.cells Tryz.zeroCells49 49 (0,0)) from by
  rw[ZX,if_pos sX])
 have hb:=Hd (show Below w.heap.size w ((w.alloc (Obj.cells ((((((R.setIfInBounds 1 (Value.int IntKind.i64 0)).setIfInBounds 77 (Value.int IntKind.i64 0)).setIfInBounds 74 (Value.int IntKind.i64 0)).setIfInBounds 75 (Value.int IntKind.i64 0)).setIfInBounds 2 (Value.int IntKind.i64 0)).setIfInBounds 0 (Value.int IntKind.i64 0)) 49)).alloc (Obj.cells Tryz.zeroCells49 49)) from(bR.alloc nR _).alloc sX _)
 have hzc:=Tryz.underlying49
 have hsz:(Tryz.prog.info? 49).map (·.size)=some V.size:=by rw[hVs];kernel_rfl
 have hzz:(Tryz.zeroCells49).size=V.size:=by rw[hVs];kernel_rfl
 clear hVs
 replace hV:=Hd hV
 go_enter Tryz.func89,Tryz.ntmps89
 go_wp2_with (first|with_reducible refine Ze rfl 49 (.tmp 1) rfl w.heap.size V _ rfl hld hzc rfl hsz ?_|with_reducible refine Zc rfl 49 (.tmp 2) (.tmp 26) rfl (w.heap.size+1) _ V rfl rfl hst hsz hzz hVo ?_)
 intro w3 hU
 have hb3:=Hd (hb.out.trans (hU.out.below (Nat.le_succ _)))
 have hr3:=Hd hU.out.here
 clear hU hst hld
 go_wp2_with fail
 exact Z7 rfl rfl hzc rfl hsz hr3.out ⟨rfl,hb3.out⟩
theorem Mr(R:Array Value)(hs:R.size=78)(r0:∀ h,R[0]'h=.int .i64 3)(hone:(R.all (·.oneCell'))=true)(w:World) :
  Calls Tryz.prog 89 #[.agg R] w λe w'=>e=.returned (.agg (((((R.setIfInBounds 1 (Value.int IntKind.i64 0)).setIfInBounds 77 (Value.int IntKind.i64 0)).setIfInBounds 76 (Value.int IntKind.i64 0)).setIfInBounds 2 (Value.int IntKind.i64 0)).setIfInBounds 0 (Value.int IntKind.i64 0)))/\Below w.heap.size w w':=by
 obtain⟨V,hV⟩:∃ V,V=(((((R.setIfInBounds 1 (Value.int IntKind.i64 0)).setIfInBounds 77 (Value.int IntKind.i64 0)).setIfInBounds 76 (Value.int IntKind.i64 0)).setIfInBounds 2 (Value.int IntKind.i64 0)).setIfInBounds 0 (Value.int IntKind.i64 0)):=⟨_,rfl⟩
 have hVs:V.size=78:=by rw[hV];simp[hs]
 have hVo:(V.all (·.oneCell'))=true:=by rw[hV];(repeat with_reducible refine VH _ _ _ _ ?_);with_reducible exact hone
 rw[<-hV]
 have hld:=Hd (show ((w.alloc (Obj.cells (((((R.setIfInBounds 1 (Value.int IntKind.i64 0)).setIfInBounds 77 (Value.int IntKind.i64 0)).setIfInBounds 76 (Value.int IntKind.i64 0)).setIfInBounds 2 (Value.int IntKind.i64 0)).setIfInBounds 0 (Value.int IntKind.i64 0)) 49)).alloc (Obj.cells Tryz.zeroCells49 49)).heap[w.heap.size]? = some (.cells V 49 (0,0)) from by
  rw[ZX,if_neg sX,ZX,if_pos rfl,hV])
 have hst:=Hd (show ((w.alloc (Obj.cells (((((R.setIfInBounds 1 (Value.int IntKind.i64 0)).setIfInBounds 77 (Value.int IntKind.i64 0)).setIfInBounds 76 (Value.int IntKind.i64 0)).setIfInBounds 2 (Value.int IntKind.i64 0)).setIfInBounds 0 (Value.int IntKind.i64 0)) 49)).alloc (Obj.cells Tryz.zeroCells49 49)).heap[w.heap.size+1]? = some (.cells Tryz.zeroCells49 49 (0,0)) from by
  rw[ZX,if_pos sX])
 have hb:=Hd (show Below w.heap.size w ((w.alloc (Obj.cells (((((R.setIfInBounds 1 (Value.int IntKind.i64 0)).setIfInBounds 77 (Value.int IntKind.i64 0)).setIfInBounds 76 (Value.int IntKind.i64 0)).setIfInBounds 2 (Value.int IntKind.i64 0)).setIfInBounds 0 (Value.int IntKind.i64 0)) 49)).alloc (Obj.cells Tryz.zeroCells49 49)) from(bR.alloc nR _).alloc sX _)
 have hzc:=Tryz.underlying49
 have hsz:(Tryz.prog.info? 49).map (·.size)=some V.size:=by rw[hVs];kernel_rfl
 have hzz:(Tryz.zeroCells49).size=V.size:=by rw[hVs];kernel_rfl
 clear hVs
 replace hV:=Hd hV
 go_enter Tryz.func89,Tryz.ntmps89
 go_wp2_with (first|with_reducible refine Ze rfl 49 (.tmp 1) rfl w.heap.size V _ rfl hld hzc rfl hsz ?_|with_reducible refine Zc rfl 49 (.tmp 2) (.tmp 26) rfl (w.heap.size+1) _ V rfl rfl hst hsz hzz hVo ?_)
 intro w3 hU
 have hb3:=Hd (hb.out.trans (hU.out.below (Nat.le_succ _)))
 have hr3:=Hd hU.out.here
 clear hU hst hld
 go_wp2_with fail
 exact Z7 rfl rfl hzc rfl hsz hr3.out ⟨rfl,hb3.out⟩
theorem MP(R:Array Value)(k:Int)(h1:k≠1)(h2:k≠2)(h3:k≠3)(hs:R.size=78)(r0:∀ h,R[0]'h=.int .i64 k)(hone:(R.all (·.oneCell'))=true)(w:World) :
  Calls Tryz.prog 89 #[.agg R] w λe w'=>e=.returned (.agg (((R.setIfInBounds 1 (Value.int IntKind.i64 0)).setIfInBounds 77 (Value.int IntKind.i64 0)).setIfInBounds 0 (Value.int IntKind.i64 0)))/\Below w.heap.size w w':=by
 have e1:(k==1)=false:=by simpa using h1
 have e2:(k==2)=false:=by simpa using h2
 have e3:(k==3)=false:=by simpa using h3
 clear h1 h2 h3
 obtain⟨V,hV⟩:∃ V,V=(((R.setIfInBounds 1 (Value.int IntKind.i64 0)).setIfInBounds 77 (Value.int IntKind.i64 0)).setIfInBounds 0 (Value.int IntKind.i64 0)):=⟨_,rfl⟩
 have hVs:V.size=78:=by rw[hV];simp[hs]
 have hVo:(V.all (·.oneCell'))=true:=by rw[hV];(repeat with_reducible refine VH _ _ _ _ ?_);with_reducible exact hone
 rw[<-hV]
 have hld:=Hd (show ((w.alloc (Obj.cells (((R.setIfInBounds 1 (Value.int IntKind.i64 0)).setIfInBounds 77 (Value.int IntKind.i64 0)).setIfInBounds 0 (Value.int IntKind.i64 0)) 49)).alloc (Obj.cells Tryz.zeroCells49 49)).heap[w.heap.size]? = some (.cells V 49 (0,0)) from by
  rw[ZX,if_neg sX,ZX,if_pos rfl,hV])
 have hst:=Hd (show ((w.alloc (Obj.cells (((R.setIfInBounds 1 (Value.int IntKind.i64 0)).setIfInBounds 77 (Value.int IntKind.i64 0)).setIfInBounds 0 (Value.int IntKind.i64 0)) 49)).alloc (Obj.cells Tryz.zeroCells49 49)).heap[w.heap.size+1]? = some (.cells Tryz.zeroCells49 49 (0,0)) from by
  rw[ZX,if_pos sX])
 have hb:=Hd (show Below w.heap.size w ((w.alloc (Obj.cells (((R.setIfInBounds 1 (Value.int IntKind.i64 0)).setIfInBounds 77 (Value.int IntKind.i64 0)).setIfInBounds 0 (Value.int IntKind.i64 0)) 49)).alloc (Obj.cells Tryz.zeroCells49 49)) from(bR.alloc nR _).alloc sX _)
 have hzc:=Tryz.underlying49
 have hsz:(Tryz.prog.info? 49).map (·.size)=some V.size:=by rw[hVs];kernel_rfl
 have hzz:(Tryz.zeroCells49).size=V.size:=by rw[hVs];kernel_rfl
 clear hVs
 replace hV:=Hd hV
 go_enter Tryz.func89,Tryz.ntmps89
 go_wp2_with (first|with_reducible refine Ze rfl 49 (.tmp 1) rfl w.heap.size V _ rfl hld hzc rfl hsz ?_|with_reducible refine Zc rfl 49 (.tmp 2) (.tmp 26) rfl (w.heap.size+1) _ V rfl rfl hst hsz hzz hVo ?_)
 intro w3 hU
 have hb3:=Hd (hb.out.trans (hU.out.below (Nat.le_succ _)))
 have hr3:=Hd hU.out.here
 clear hU hst hld
 go_wp2_with fail
 exact Z7 rfl rfl hzc rfl hsz hr3.out ⟨rfl,hb3.out⟩
def ZG(C:Array Value)(o:Nat)(vs:List Value):Array Value:=(C.toList.take o++(vs++C.toList.drop (o+vs.length))).toArray
theorem VS(C:Array Value)(o:Nat)(v:Value)(r:List Value)(h:o<C.size):ZG (C.setIfInBounds o v) (o+1) r=ZG C o (v::r):=by
 unfold ZG
 congr 1
 rw[Array.toList_setIfInBounds,List.length_cons]
 have h':o<C.toList.length:=by simpa using h
 have e1:(C.toList.set o v).take (o+1)=C.toList.take o++[v]:=by
  rw[List.take_set,List.take_succ_eq_append_getElem h',List.set_append]
  have:(C.toList.take o).length=o:=sY
  simp[this]
 have e2:(C.toList.set o v).drop (o+1+r.length)=C.toList.drop (o+(r.length+1)):=by
  rw[List.drop_set_of_lt oX]
  congr 1;omega
 rw[e1,e2]
 simp
theorem MG(C:Array Value)(o:Nat)(vs:List Value)(h:o+vs.length<=C.size):(ZG C o vs).size=C.size:=by
 simp[ZG];omega
theorem UO(C:Array Value)(o:Nat):ZG C o []=C:=by simp[ZG]
theorem Upd.setCells{b:Nat}{t:TypeId}{fz:Nat×Nat}{w:World}:∀ (vs:List Value) (o:Nat) (C:Array Value) (w':World),Upd b (.cells C t fz) w w'->o+vs.length<=C.size->Upd b (.cells (ZG C o vs) t fz) w (w'.setCells b o vs)
 | [],o,C,w',h,_=>by rw[UO];exact h
 | v::r,o,C,w',h,hl=>by
  rw[List.length_cons] at hl
  rw[World.setCells,<-VS C o v r oX]
  exact Upd.setCells r (o+1) _ _ (h.setCell v) (by rw[Array.size_setIfInBounds];omega)
theorem YW{w:World}{b:Nat}{C:Array Value}{t:TypeId}(h:w.heap[b]? = some (.cells C t (0,0)))(o n:Nat)(hn:o+n<=C.size):w.there b o n:=λj hj=>by
 refine⟨?_,Zm h _⟩
 rw[Za h,Array.getElem?_eq_getElem oX]
 rfl
section
variable {P:Program} {ops:Array Oper} {rest:List Oper} {o:Oper} {a:Act} {w:World} {Q:Exit->Act->World->Prop}
theorem Qu(hgd:o.guard=none)(ty T:TypeId)(x y:Operand)(ho:o.op=.store ty x y)(g off:Nat)(C c':Array Value)
  (hx:a.eval x=.pointer (some ⟨g,off,none⟩)) (hy:a.eval y=.agg c') (hg:Hid (w.heap[g]? = some (.cells C T (0,0)))) (hi:(P.info? ty).map (·.size)=some c'.size) (hs:off+c'.size<=C.size) (h1:c'.all (·.oneCell')=true)
  (h:∀ w',Hid (Upd g (.cells (ZG C off c'.toList) T (0,0)) w w')->wpList P ops Q rest (a.put o.dst undef) w'):wpList P ops Q (o::rest) a w:=
 wpList_store_mid hgd ty x y ho g off c' hx hy (YW hg.out off c'.size hs) hi h1 (h _ (Hd (Upd.setCells c'.toList off C w (Upd.refl hg.out) (by simpa using hs))))
end
open Go.RowKit Go.ChangeShapes Go.WideShapes
section
variable {H:Type} {enc:TypeId×Value->H} {P:Program} {w:World}
end
open Go.RowKit Go.ChangeShapes Go.WideShapes Go.Deep
section
variable {H:Type} {enc:TypeId×Value->H} {P:Program} {w:World} {base:Nat} {spare:Nat->Bool} {held:Bool}
end
end Go.Proofs.YtpdhceiodgnbmaaGreatDoor
