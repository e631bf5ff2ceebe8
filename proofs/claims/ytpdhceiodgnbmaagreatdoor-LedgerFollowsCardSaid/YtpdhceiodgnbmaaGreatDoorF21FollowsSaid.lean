import Derived.Test.YtpdhceiodgnbmaaGreatDoorF0FollowsSaid
import Derived.Test.YtpdhceiodgnbmaaGreatDoorF1FollowsSaid
import Derived.Laws.BitsAllLaws
import Derived.IntWalk
import Derived.Test.YtpdhceiodgnbmaaGreatDoorF5FollowsSaid
import Derived.Test.YtpdhceiodgnbmaaGreatDoorF2FollowsSaid
import Derived.Maps.Own
import Derived.Maps.Views
import Derived.Maps.OwnOps
import Derived.Test.YtpdhceiodgnbmaaGreatDoorF7FollowsSaid
import Derived.Test.YtpdhceiodgnbmaaGreatDoorF3FollowsSaid
import Derived.Laws.Tables
import Derived.Great.BuildSlice
import Derived.Great.FillDense
import Derived.Deep.MidRow
import Derived.Maps.AppendAt
import Derived.Laws.CopyRow
set_option linter.unusedVariables false
set_option linter.unusedSimpArgs false
set_option linter.unnecessarySimpa false
set_option maxRecDepth 100000
set_option maxHeartbeats 8000000
namespace Go.Proofs.YtpdhceiodgnbmaaGreatDoor
open Go.RowKit
theorem Gn(n:Nat)(h:n<9223372036854775808):IntKind.i64.wrap (n:Int)=(n:Int):=IntWalk.i64_in (n:Int) oX
theorem PI(a b:Nat)(ha:a<9223372036854775808)(hb:b<9223372036854775808):bits .xor .i64 (a:Int) (b:Int)=((a ^^^ b:Nat):Int):=by
 have hx:a ^^^ b<2 ^ 63:=Nat.xor_lt_two_pow oX oX
 show IntKind.i64.wrap ((BitVec.ofInt 64 (a:Int) ^^^ BitVec.ofInt 64 (b:Int)).toNat:Int)=_
 rw[BitVec.toNat_xor,ofInt_u64 a oX,ofInt_u64 b oX]
 exact Gn _ oX
theorem M5(a b:Nat)(ha:a<9223372036854775808)(hb:b<9223372036854775808):bits .or .i64 (a:Int) (b:Int)=((a ||| b:Nat):Int):=by
 have hx:a ||| b<2 ^ 63:=Nat.or_lt_two_pow oX oX
 show IntKind.i64.wrap ((BitVec.ofInt 64 (a:Int) ||| BitVec.ofInt 64 (b:Int)).toNat:Int)=_
 rw[BitVec.toNat_or,ofInt_u64 a oX,ofInt_u64 b oX]
 exact Gn _ oX
theorem G4(a b:Nat)(ha:a<9223372036854775808)(hb:b<9223372036854775808):bits .and .i64 (a:Int) (b:Int)=((a &&& b:Nat):Int):=by
 have hx:a &&& b<2 ^ 63:=Nat.and_lt_two_pow _ oX
 show IntKind.i64.wrap ((BitVec.ofInt 64 (a:Int) &&& BitVec.ofInt 64 (b:Int)).toNat:Int)=_
 rw[BitVec.toNat_and,ofInt_u64 a oX,ofInt_u64 b oX]
 exact Gn _ oX
theorem Tv(a b k:Nat)(ha:a<1048576)(hk:k<=20)(hb:b<2 ^ k):bits .or .i64 (wrap64 ((a:Int)*(2:Int) ^ k)) (b:Int)=((a*2 ^ k+b:Nat):Int):=by
 have hp2:2 ^ k<=2 ^ 20:=Nat.pow_le_pow_right oX hk
 have hm:a*2 ^ k<1048576*2 ^ 20:=Nat.lt_of_le_of_lt (Nat.mul_le_mul_left _ hp2) (Nat.mul_lt_mul_of_pos_right ha dX)
 have e:(a:Int)*(2:Int) ^ k=((a*2 ^ k:Nat):Int):=sX
 have h2:=Nat.shiftLeft_add_eq_or_of_lt hb a
 rw[Nat.shiftLeft_eq] at h2
 rw[e,h2]
 obtain⟨y,hy⟩:∃ y,y=a*2 ^ k:=⟨_,rfl⟩
 rw[<-hy] at hm ⊢
 rw[IntWalk.wrap64_in (y:Int) oX]
 exact M5 y b oX oX
open Go.RowKit Go.Maps
def Ys(bs:List UInt8):Value:=.agg (cB bs).toArray
theorem Pu{a b:List UInt8}(h:cB a=cB b):a=b:=by
 have:∀ (a b:List UInt8),cB a=cB b->a=b:=by
  intro a
  induction a with
  | nil=>intro b h;cases b with
   | nil=>rfl
   | cons y b=>simp[cB] at h
  | cons x a ih=>
   intro b h
   cases b with
   | nil=>simp[cB] at h
   | cons y b=>
    simp only[cB,List.map_cons,List.cons.injEq,Value.int.injEq,true_and] at h
    have h1:x=y:=UInt8.toNat_inj.1 oX
    rw[h1,ih b h.2]
 exact this a b h
theorem T1{a b:List UInt8}(h:Ys a=Ys b):a=b:=by
 unfold Ys at h
 injection h with h
 exact Pu (by simpa using congrArg Array.toList h)
open Classical in
noncomputable def Gb(v:Value):Option (DataW Unit×List MemPlace):=if h:∃ bs:List UInt8,bs.length=64/\v=Ys bs then some (.lit (.string h.choose),[]) else none
theorem UB{bs:List UInt8}(hl:bs.length=64):Gb (Ys bs)=some (.lit (.string bs),[]):=by
 have h:∃ b:List UInt8,b.length=64/\Ys bs=Ys b:=⟨bs,hl,rfl⟩
 unfold Gb
 rw[dif_pos h,<-T1 h.choose_spec.2]
theorem K6{v:Value}{bs:List UInt8}{ps:List MemPlace}(h:Gb v=some (.lit (.string bs),ps)):v=Ys bs/\bs.length=64:=by
 unfold Gb at h
 split at h
 ·next hh=>
  have e:hh.choose=bs:=by
   injection h with h
   injection h with h1 _
   injection h1 with h1
   injection h1
  rw[<-e]
  exact⟨hh.choose_spec.2,hh.choose_spec.1⟩
 ·cases h
def zSec:List UInt8:=List.replicate 64 0
def SureMap(w:World)(b n:Nat)(f:Int->List UInt8):Prop:=
 ∃ D:DataW Unit,w.ownsMap Tryz.prog 3 Gb b n D/\IsMap D/\(∀ i,(f i).length=64)/\∀ i,-9223372036854775808<=i->i<=9223372036854775807->D.atKey (.int .i64 i) (.lit (.string zSec))=.lit (.string (f i))
theorem SureMap.made(w:World):SureMap (w.alloc (.map #[] 0)) w.heap.size 0 (λ_=>zSec):=
 ⟨_,World.ownsMap_made w _ _ _,isMap_empty,λ_=>by simp[zSec],λ_ _ _=>rfl⟩
theorem SureMap.lt{w:World}{b n:Nat}{f:Int->List UInt8}(h:SureMap w b n f):b<w.heap.size:=by obtain⟨D,h,_⟩:=h;exact h.lt
theorem SureMap.only{w w':World}{b n:Nat}{f:Int->List UInt8}{D:Nat->Prop}(h:SureMap w b n f)(hO:Only D w w')(hd:¬D b):SureMap w' b n f:=by
 obtain⟨E,⟨es,clock,hb,F,hs,he⟩,h2,h3,h4⟩:=h
 exact⟨E,⟨es,clock,(hO.block b (Zb hb) hd).trans hb,F,hs,he⟩,h2,h3,h4⟩
theorem U8{i:Int}(h1 : -9223372036854775808<=i)(h2:i<=9223372036854775807):keyOf Tryz.prog 3 (.int .i64 i)=some (.int .i64 i):=
 keyOf_int_mk Tryz.underlying3 (WalkArith.wf_i64 ⟨h1,h2⟩)
theorem Vx(w:World):(zeroValue 130).run Tryz.prog w=.ok (Ys zSec) w:=by
 rw[show Ys zSec=.agg (cB zSec).toArray from rfl]
 kernel_rfl
section
variable {w:World} {ops:Array Oper} {rest:List Oper} {o:Oper} {a:Act} {Q:Exit->Act->World->Prop}
theorem G9(hg:o.guard=none)(m x:Operand)(hop:o.op=Op.lookup 117 m x false)(b n:Nat)(f:Int->List UInt8)(hm:a.eval m=.map (some b))(h:Hid (SureMap w b n f))
  (i:Int) (hx:a.eval x=.int .i64 i) (h1 : -9223372036854775808<=i) (h2:i<=9223372036854775807) (hK:wpList Tryz.prog ops Q rest (a.put o.dst (Ys (f i))) w):wpList Tryz.prog ops Q (o::rest) a w:=by
 refine wpList_plain hg λK' hK'=>?_
 obtain⟨D,ho,hD,hl,hat⟩:=h.out
 obtain⟨v,ps,hrun,hv⟩:=ho.lookup (int_keyed Tryz.underlying3) Tryz.underlying117 (Vx w) (UB (by simp[zSec])) (U8 h1 h2)
 rw[hat i h1 h2] at hv
 obtain⟨rfl,_⟩:=K6 hv
 unfold Oper.wp
 simp[execOp,hop,hm,hx,hrun,Result.andThen]
 exact hK' _ _ hK
end
structure DErr (w:World) (e:Nat->Addr):Prop where
 range:w.cell? ⟨0,0,none⟩=some (.iface 298 (.pointer (some (e 0))))
 size:w.cell? ⟨7,0,none⟩=some (.iface 298 (.pointer (some (e 1))))
 power:w.cell? ⟨13,0,none⟩=some (.iface 298 (.pointer (some (e 2))))
def ZW(n:Int)(b:Nat)(v:Value)(armed:Bool)(left:Int)(gone:Bool):Array Value:=#[.int .i64 n,.map (some b),v,.bool armed,.int .i64 left,.bool gone]
theorem TB(n:Int)(h1:1<=n)(h2:n<=2048)(w:World):Calls Tryz.prog 52 #[.int .i64 n] w λx w'=>x=.returned (.tuple #[.pointer (some ⟨w.heap.size+1,0,none⟩),.nilIface])/\w'=(w.alloc (.map #[] 0)).alloc (.cells (ZW n w.heap.size (.slice none 0 0) false 0 false) 120):=by
 have hmm:=@run_makeMap Tryz.prog
 go_enter Tryz.func52,Tryz.ntmps52
 go_wp2_with fail
 go_ret2
 exact⟨rfl,rfl⟩
theorem YH(B:Nat)(n i:Int)(h0:0<=i)(h1:i<n)(w:World)(hc:w.cell? ⟨B,0,none⟩=some (.int .i64 n)):Calls Tryz.prog 106 #[.pointer (some ⟨B,0,none⟩),.int .i64 i] w λx w'=>x=.returned .nilIface/\w=w':=by
 have h2:¬i<0:=oX
 have h3:¬n<=i:=oX
 go_enter Tryz.func106,Tryz.ntmps106
 go_wp2_with fail
 go_ret
 exact⟨rfl,rfl⟩
theorem Ta(B:Nat)(n i:Int)(h:i<0\/n<=i)(w:World)(hc:w.cell? ⟨B,0,none⟩=some (.int .i64 n))(e:Nat->Addr)(hE:DErr w e):Calls Tryz.prog 106 #[.pointer (some ⟨B,0,none⟩),.int .i64 i] w λx w'=>x=.returned (.iface 298 (.pointer (some (e 0))))/\w=w':=by
 have hk:=hE.range
 by_cases hn:i<0
 ·go_enter Tryz.func106,Tryz.ntmps106
  go_wp2_with fail
  go_ret
  exact⟨rfl,rfl⟩
 ·have hm:n<=i:=oX
  clear h
  go_enter Tryz.func106,Tryz.ntmps106
  go_wp2_with fail
  go_ret
  exact⟨rfl,rfl⟩
theorem K1(B:Nat)(armed:Bool)(l:Int)(h:armed=true->l≠0)(hl : -1000000<=l/\l<=9223372036854775807)(w:World)(c3:w.cell? ⟨B,3,none⟩=some (.bool armed))(c4:w.cell? ⟨B,4,none⟩=some (.int .i64 l))(c5:w.cell? ⟨B,5,none⟩=some (.bool false))(f4:w.frozen? ⟨B,4,none⟩=false) :
  Calls Tryz.prog 161 #[.pointer (some ⟨B,0,none⟩)] w λx w'=>x=.returned .nilIface/\w'=w.setCell ⟨B,4,none⟩ (.int .i64 (l-1)):=by
 have hw:IntKind.i64.wrap (l-1)=l-1:=IntWalk.i64_in _ oX
 cases armed
 ·clear h
  go_enter Tryz.func161,Tryz.ntmps161
  go_wp2_with fail
  go_ret
  exact⟨rfl,rfl⟩
 ·have h0:(l==0)=false:=by simpa using h rfl
  clear h
  go_enter Tryz.func161,Tryz.ntmps161
  go_wp2_with fail
  go_ret
  exact⟨rfl,rfl⟩
theorem NG(B:Nat)(armed:Bool)(l:Int)(h:armed=true->l≠0)(w:World)(e:Nat->Addr)(hE:DErr w e)(c3:w.cell? ⟨B,3,none⟩=some (.bool armed))(c4:w.cell? ⟨B,4,none⟩=some (.int .i64 l))(c5:w.cell? ⟨B,5,none⟩=some (.bool true)) :
  Calls Tryz.prog 161 #[.pointer (some ⟨B,0,none⟩)] w λx w'=>x=.returned (.iface 298 (.pointer (some (e 2))))/\w=w':=by
 have hk:=hE.power
 cases armed
 ·clear h
  go_enter Tryz.func161,Tryz.ntmps161
  go_wp2_with fail
  go_ret
  exact⟨rfl,rfl⟩
 ·have h0:(l==0)=false:=by simpa using h rfl
  clear h
  go_enter Tryz.func161,Tryz.ntmps161
  go_wp2_with fail
  go_ret
  exact⟨rfl,rfl⟩
def H6(w:World)(g:Nat)(bs:List UInt8):Prop:=w.heap[g]? = some (.cells (cB bs).toArray 130 (0,0))
theorem MV(B mb mn:Nat)(f:Int->List UInt8)(n i:Int)(h0:0<=i)(h1:i<n)(hn:n<=2048)(w:World)(hc:w.cell? ⟨B,0,none⟩=some (.int .i64 n))(hc1:w.cell? ⟨B,1,none⟩=some (.map (some mb)))(hm:SureMap w mb mn f) :
  Calls Tryz.prog 68 #[.pointer (some ⟨B,0,none⟩),.int .i64 i] w λx w'=>∃ g,x=.returned (.tuple #[.slice (some ⟨g,0,none⟩) 64 64,.nilIface])/\H6 w' g (f i)/\w.heap.size<=g/\Below w.heap.size w w':=by
 have hth:=Hd (YH B n i h0 h1 w hc)
 have hl:(f i).length=64:=by obtain⟨_,_,_,hl,_⟩:=hm;exact hl i
 replace hm:=Hd hm
 have hi1 : -9223372036854775808<=i:=oX
 have hi2:i<=9223372036854775807:=oX
 obtain⟨S,hSd⟩:∃ S,S=(cB (f i)).toArray:=⟨_,rfl⟩
 have hSV:Ys (f i)=.agg S:=by rw[hSd];rfl
 have hSs:S.size=64:=by rw[hSd];simp[Zd,hl]
 have hS1:S.all (·.oneCell')=true:=by
  rw[hSd,Array.all_eq_true']
  intro u hu
  exact ZU _ u (by simpa using hu)
 have hz:(w.alloc (.cells (cB zSec).toArray 130)).heap[w.heap.size]? = some (.cells (cB zSec).toArray 130 (0,0)):=heap_alloc_new w _
 have hsz:(Tryz.prog.info? 130).map (·.size)=some S.size:=by rw[hSs];kernel_rfl
 have hzs:(cB zSec).toArray.size=S.size:=by rw[hSs];rfl
 have hgrow:Below w.heap.size w (w.alloc (.cells (cB zSec).toArray 130)):=bR.alloc nR _
 replace hSV:=Hd hSV
 replace hSd:=Hd hSd
 replace hz:=Hd hz
 replace hgrow:=Hd hgrow
 replace hl:=Hd hl
 go_enter Tryz.func68,Tryz.ntmps68
 go_wp2_with fail
 with_reducible refine hth.out.mono ?_
 rintro x w2 ⟨rfl,hq⟩
 obtain rfl:=hq
 clear hth
 go_wp2_with (first
  | (at_lookup;go_must (refine G9 rfl _ _ rfl mb mn f rfl hm i rfl hi1 hi2 ?_);rw[hSV.out])
  | (refine Zc rfl 130 (.tmp 7) (.tmp 19) rfl w.heap.size _ S rfl rfl hz hsz hzs hS1 ?_;intro w3 hU3))
 go_ret2
 exact⟨_,rfl,by rw[H6,<-hSd.out];exact hU3.out.here,Nat.le_refl _,hgrow.out.trans (hU3.out.below nR)⟩
end Go.Proofs.YtpdhceiodgnbmaaGreatDoor
namespace Go.Proofs.YtpdhceiodgnbmaaGreatDoor
open Go.RowKit
theorem MX(cs:List Value)(off:Nat):∀ (n:Nat) (b:Array Value) (k:Nat),((cs.zipIdx n).foldl (λacc x=>acc.setIfInBounds (off+x.2) x.1) b)[k]? = if off+n<=k/\k<off+n+cs.length/\k<b.size then cs[k-(off+n)]? else b[k]? := by
 induction cs with
 | nil=>intro n b k;rw[if_neg sY];rfl
 | cons c cs ih=>
  intro n b k
  rw[List.zipIdx_cons,List.foldl_cons,ih (n+1) _ k,Array.size_setIfInBounds,Array.getElem?_setIfInBounds]
  simp only[List.length_cons]
  by_cases h2:off+(n+1)<=k/\k<off+(n+1)+cs.length/\k<b.size
  ·rw[if_pos h2,if_pos oX,show k-(off+n)=(k-(off+(n+1)))+1 by omega,List.getElem?_cons_succ]
  ·rw[if_neg h2]
   by_cases h1:off+n=k
   ·subst h1
    rw[if_pos rfl]
    by_cases h3:off+n<b.size
    ·rw[if_pos h3,if_pos ⟨Nat.le_refl _,oX,h3⟩,Nat.sub_self];rfl
    ·rw[if_neg h3,if_neg oX,Array.getElem?_eq_none oX]
   ·rw[if_neg h1,if_neg oX]
theorem Gr(i:Int)(S:Array Value)(hS:S.size=64)(W:World):(Instr.build 132 #[(0,.int .i64 i),(1,.agg S)]).run Tryz.prog W=.ok (.agg (#[.int .i64 i]++S)) W:=by
 refine run_build W _ _ _ ?_
 obtain⟨Z,hZ⟩:∃ Z:Array Value,Z=(cB (0::zSec)).toArray.setIfInBounds 0 (.int .i64 0):=⟨_,rfl⟩
 have hb:∀ parts,Tryz.prog.built 132 parts=Instr.fill (λi=>(#[(0,1),(1,64)]:Array (Nat×Nat))[i]?) ((cB (0::zSec)).toArray.setIfInBounds 0 (.int .i64 0)) parts:=λparts=>by kernel_rfl
 rw[hb,<-hZ]
 have hZs:Z.size=65:=by rw[hZ];rfl
 clear hZ hb
 simp only[Instr.fill,Value.cells,List.size_toArray,List.length_cons,List.length_nil]
 have e0:Array.foldl (λcs x=>cs.setIfInBounds (0+x.snd) x.fst) Z #[Value.int IntKind.i64 i].zipIdx=Z.setIfInBounds 0 (.int .i64 i):=by simp[Array.zipIdx]
 show (if (decide (0+1≠1) || decide (0+(0+1)>Z.size))=true then none else if (decide (S.size≠64) || decide (1+S.size>(Array.foldl (λcs x=>cs.setIfInBounds (0+x.snd) x.fst) Z #[Value.int IntKind.i64 i].zipIdx).size))=true then none else some (Array.foldl (λcs x=>cs.setIfInBounds (1+x.snd) x.fst) (Array.foldl (λcs x=>cs.setIfInBounds (0+x.snd) x.fst) Z #[Value.int IntKind.i64 i].zipIdx) S.zipIdx))=_
 rw[e0,if_neg (by simp[hZs]),if_neg (by simp[hZs,hS])]
 congr 1
 apply Array.ext_getElem?
 intro k
 rw[<-Array.foldl_toList,Array.toList_zipIdx,MX,Array.size_setIfInBounds,Array.getElem?_setIfInBounds,hZs,Array.length_toList,hS]
 rw[Array.getElem?_append]
 simp only[List.size_toArray,List.length_cons,List.length_nil]
 by_cases hk0:k=0
 ·subst hk0
  rw[if_neg oX,if_pos rfl,if_pos oX,if_pos oX]
  try rfl
 ·by_cases hk:k<65
  ·rw[if_pos oX,if_neg oX,Array.getElem?_toList]
   try rfl
  ·rw[if_neg oX,if_neg oX,if_neg oX,Array.getElem?_eq_none oX,Array.getElem?_eq_none oX]
end Go.Proofs.YtpdhceiodgnbmaaGreatDoor
namespace Go.Proofs.YtpdhceiodgnbmaaGreatDoor
open Go.RowKit
theorem Tryz.infoWriteP:(Tryz.prog.info? 132).map (λi=>(i.zero.map (·.cells.size),i.size,i.bytes))=some (some 65,65,72):=kX
theorem GK(R:Array Value)(hR:R.size=65)(W:World):(Instr.buildSlice 118 1 #[(0,.agg R)]).run Tryz.prog W=.ok (.slice (some ⟨W.heap.size,0,none⟩) 1 1) (W.alloc (.cells R 132)):=by
 obtain⟨ie,hie,h2⟩:=Option.map_eq_some_iff.1 Tryz.infoWriteP
 simp only[Prod.mk.injEq] at h2
 obtain⟨hz,hs,hb⟩:=h2
 obtain⟨z,hz1,hz2⟩:=Option.map_eq_some_iff.1 hz
 refine run_buildSlice W _ _ 1 _ R ie z Tryz.underlying118 hie hz1 (by rw[hs];decide) (by rw[hs];decide) ?_
 have h:=Go.Great.fill_whole (s:=65) dX [.agg R] ((Array.range (1*ie.size)).map (z.cells[· % z.cells.size]!)) (by simp[Value.cells,hR]) (by simp[hs])
 simpa[hs,Value.cells] using h
section
variable {ops:Array Oper} {K:Act->World->Prop} {Q:Exit->Act->World->Prop} {o:Oper} {a:Act} {w:World}
theorem Hj(t:TypeId)(x y:Operand)(ho:o.op=.build t #[(0,x),(1,y)])(vx vy:Value)(hx:a.eval x=vx)(hy:a.eval y=vy)(R:Value)(h:∀ W,(Instr.build t #[(0,vx),(1,vy)]).run Tryz.prog W=.ok R W)(hK:K (a.put o.dst R) w):o.wp Tryz.prog a w K Q:=by
 unfold Oper.wp execOp
 simp only[ho,Sem.run_bind,Sem.run_pure,Result.andThen_ok,List.map_toArray,List.map_cons,List.map_nil,hx,hy,h]
 exact hK
theorem Y0(t:TypeId)(len:Nat)(x:Operand)(ho:o.op=.buildSlice t len #[(0,x)])(vx:Value)(hx:a.eval x=vx)(R:Value)(w':World)(h:(Instr.buildSlice t len #[(0,vx)]).run Tryz.prog w=.ok R w')(hK:K (a.put o.dst R) w'):o.wp Tryz.prog a w K Q:=by
 unfold Oper.wp execOp
 simp only[ho,Sem.run_bind,Sem.run_pure,Result.andThen_ok,List.map_toArray,List.map_cons,List.map_nil,hx,h]
 exact hK
theorem Tu(s x:Operand)(ho:o.op=.call { callee:=.builtin .append,args:=#[s,x],argTypes:=#[118,118] })
  (base:Nat) (v:Value) (n:Nat) (xs:List Value) (hs:a.eval s=v) (hown:Hid (w.ownsRow base 132 65 v n xs))
  (g:Nat) (R:Array Value) (hR:R.size=65) (h1:∀ u∈R.toList,u.oneCell'=true) (hx:a.eval x=.slice (some ⟨g,0,none⟩) 1 1) (hg:Hid (w.heap[g]? = some (.cells R 132 (0,0)))) (hl:n<=1000000) (hbase:base<=w.heap.size)
  (h:∀ v' w',Hid (w'.ownsRow base 132 65 v' (n+1) (xs++R.toList))->Hid (w.grownBy w' v.ownBlock)->(v'.ownBlock=v.ownBlock\/v'.ownBlock=some w.heap.size)->K (a.put o.dst v') w'):o.wp Tryz.prog a w K Q:=by
 obtain⟨ie,hie,h2⟩:=Option.map_eq_some_iff.1 Tryz.infoWriteP
 simp only[Prod.mk.injEq] at h2
 obtain⟨hz,hsz,hby⟩:=h2
 obtain⟨z,hz1,hz2⟩:=Option.map_eq_some_iff.1 hz
 obtain⟨v',w',hr,k1,k2,_,k4⟩:=run_append_own_at (P:=Tryz.prog) w base 118 o.type 132 ie z 65 ie.bytes Tryz.underlying118 hie hz1 hsz rfl hz2 dX v n xs hown.out ⟨g,0,none⟩ 1 1 R.toList (by simp[hR])
  (λj u hu=>by
   rw[Addr.add_mid,Za hg.out,Nat.zero_add,<-Array.getElem?_toList]
   exact hu) h1 (by unfold maxLen;omega) (by rw[hby];omega) hbase
 unfold Oper.wp execOp
 simp only[ho,resolve,invoke,builtin,Sem.run_bind,Sem.run_pure,Result.andThen_ok,List.map_toArray,List.map_cons,List.map_nil,hs,hx,hr]
 exact h v' w' (Hd k1) (Hd k2) k4
end
end Go.Proofs.YtpdhceiodgnbmaaGreatDoor
namespace Go.Proofs.YtpdhceiodgnbmaaGreatDoor
open Go.RowKit Go.Maps
section
variable {ops:Array Oper} {K:Act->World->Prop} {Q:Exit->Act->World->Prop} {o:Oper} {a:Act} {w:World}
theorem GA(m x:Operand)(hop:o.op=Op.lookup 117 m x false)(b n:Nat)(f:Int->List UInt8)(hm:a.eval m=.map (some b))(h:SureMap w b n f)
  (i:Int) (hx:a.eval x=.int .i64 i) (h1 : -9223372036854775808<=i) (h2:i<=9223372036854775807):(execOp a.eval o).run Tryz.prog w=.ok (.value (Ys (f i))) w:=by
 obtain⟨D,ho,hD,hl,hat⟩:=h
 obtain⟨v,ps,hrun,hv⟩:=ho.lookup (int_keyed Tryz.underlying3) Tryz.underlying117 (Vx w) (UB (by simp[zSec])) (U8 h1 h2)
 rw[hat i h1 h2] at hv
 obtain⟨rfl,_⟩:=K6 hv
 simp[execOp,hop,hm,hx,hrun,Result.andThen]
theorem RS(m x v:Operand)(hop:o.op=Op.mapUpdate 117 m x v)(b n:Nat)(f:Int->List UInt8)(hm:a.eval m=.map (some b))(h:Hid (SureMap w b n f))(hn:n<maxLen)
  (i:Int) (hx:a.eval x=.int .i64 i) (h1 : -9223372036854775808<=i) (h2:i<=9223372036854775807) (bs:List UInt8) (hv:a.eval v=Ys bs) (hl:bs.length=64)
  (hK:∀ w',Hid (SureMap w' b (n+1) (λj=>if j=i then bs else f j))->Hid (w.grownBy w' (some b))->K (a.put o.dst undef) w'):o.wp Tryz.prog a w K Q:=by
 obtain⟨D,ho,hD,hfl,hat⟩:=h.out
 obtain⟨w',hrun,k1,k2⟩:=ho.update (int_keyed Tryz.underlying3) Tryz.underlying117 hn (U8 h1 h2) (UB hl)
 unfold Oper.wp
 simp[execOp,hop,hm,hx,hv,hrun,Result.andThen]
 refine hK w' (Hd ⟨_,k1,hD.put _ _,λj=>?_,λj j1 j2=>?_⟩) (Hd k2)
 ·show (if j=i then bs else f j).length=64
  split
  ·exact hl
  ·exact hfl j
 ·show (D.put (.int .i64 i) (.lit (.string bs))).atKey (.int .i64 j) (.lit (.string zSec))=.lit (.string (if j=i then bs else f j))
  by_cases hji:j=i
  ·subst hji
   rw[if_pos rfl]
   exact atKey_put_same hD (by simp[WideAt.IsKeyLit]) _ _
  ·rw[if_neg hji,atKey_put_other (by simpa using hji)]
   exact hat j j1 j2
theorem KD(d s:Operand)(ho:o.op=.call { callee:=.builtin .copy,args:=#[d,s],argTypes:=#[24,24] })
  (g dLen dCap:Nat) (p:Addr) (sLen sCap:Nat) (cur:Array Value) (t:TypeId) (cs:List Value) (hd:a.eval d=.slice (some ⟨g,0,none⟩) dLen dCap) (hs:a.eval s=.slice (some p) sLen sCap)
  (hg:Hid (w.heap[g]? = some (.cells cur t (0,0)))) (hn:cs.length=Nat.min sLen dLen) (hsrc:∀ j v,cs[j]? = some v->w.cell? (p.add j)=some v) (hfit:cs.length<=cur.size) (h1:∀ v∈cs,v.oneCell'=true)
  (hK:∀ w',Hid (Upd g (.cells (cs++cur.toList.drop cs.length).toArray t (0,0)) w w')->K (a.put o.dst (goInt cs.length)) w'):o.wp Tryz.prog a w K Q:=by
 have hu:Tryz.prog.underlying 24=some (.slice 5):=Tryz.underlying24
 have hsz:(Tryz.prog.info? 5).map (·.size)=some 1:=kX
 have hr:=λty=>run_copy_row (P:=Tryz.prog) w 24 24 ty 5 g 0 dLen dCap p sLen sCap cur t cs hu hsz hg.out hn hsrc oX h1
 have hU:=Upd.setRow (cs:=(cur.toList.take 0++cs++cur.toList.drop (0+cs.length)).toArray) hg.out
 unfold Oper.wp execOp
 simp only[ho,resolve,invoke,builtin,Sem.run_bind,Sem.run_pure,Result.andThen_ok,List.map_toArray,List.map_cons,List.map_nil,hd,hs,hr]
 refine hK _ (Hd ?_)
 simpa using hU
end
end Go.Proofs.YtpdhceiodgnbmaaGreatDoor
namespace Go.Proofs.YtpdhceiodgnbmaaGreatDoor
open Go.RowKit
def Qq(ws:List (Int×List UInt8)):List Value:=ws.flatMap λp=>.int .i64 p.1::cB p.2
theorem KU{w:World}{b off cap:Nat}{bs:List UInt8}(h:ArgB w (some ⟨b,off,none⟩) cap bs):w.rangeAt b off (cB bs):=by
 intro j v hv
 have hj:j<bs.length:=by
  have:=(List.getElem?_eq_some_iff.1 hv).1
  rwa [Zd] at this
 obtain⟨b',o',e,hc⟩:=h.row j hj
 cases e
 rw[hc,<-hv]
 simp[cB,hj]
theorem YO{w w':World}{D:Nat->Prop}{b off:Nat}{cs:List Value}(h:w.rangeAt b off cs)(hO:Only D w w')(hd:¬D b):w'.rangeAt b off cs:=λj v hv=>by
 have hc:=h j v hv
 exact(World.cell?_of_block (w:=w) (w':=w') (a:=⟨b,off+j,none⟩) (hO.block b (World.block_lt_of_cell? w _ hc) hd)).trans hc
theorem MM(base B mb:Nat)(n i:Int)(h0:0<=i)(h1:i<n)(T:TypeId)(v:Value)(ws:List (Int×List UInt8))(armed:Bool)(l:Int)(har:armed=true->l≠0)(hl : -1000000<=l/\l<=9223372036854775807)(w:World)(hat:w.heap[B]? = some (.cells (ZW n mb v armed l false) T (0,0)))
  (hb:base<=w.heap.size) (hown:w.ownsRow base 132 65 v ws.length (Qq ws)) (hvB:∀ k,v.ownBlock=some k->k≠B) (hws:ws.length<=1000000)
  (bb off cap:Nat) (bs:List UInt8) (hbs:bs.length=64) (ha:ArgB w (some ⟨bb,off,none⟩) cap bs) (hbB:bb≠B) (hvb:∀ k,v.ownBlock=some k->k≠bb) :
  Calls Tryz.prog 130 #[.pointer (some ⟨B,0,none⟩),.int .i64 i,.slice (some ⟨bb,off,none⟩) 64 cap] w λx w'=>x=.returned .nilIface/\
   ∃ v',w'.heap[B]? = some (.cells (ZW n mb v' armed (l-1) false) T (0,0))/\w'.ownsRow base 132 65 v' (ws.length+1) (Qq (ws++[(i,bs)]))/\Only (λk=>k=B\/v.ownBlock=some k) w w'/\(∀ k,v'.ownBlock=some k->v.ownBlock=some k\/w.heap.size<=k):=by
 have hBl:=Zb hat
 have hc:w.cell? ⟨B,0,none⟩=some (.int .i64 n):=by rw[Za hat];rfl
 have c3:w.cell? ⟨B,3,none⟩=some (.bool armed):=by rw[Za hat];rfl
 have c4:w.cell? ⟨B,4,none⟩=some (.int .i64 l):=by rw[Za hat];rfl
 have c5:w.cell? ⟨B,5,none⟩=some (.bool false):=by rw[Za hat];rfl
 have hth:=Hd (YH B n i h0 h1 w hc)
 have hde:=Hd (K1 B armed l har hl w c3 c4 c5 (Zm hat _))
 have harr:∀ W,(Instr.arrayAt 130 (.slice (some ⟨bb,off,none⟩) 64 cap)).run Tryz.prog W=.ok (.pointer (some ⟨bb,off,none⟩)) W:=λW=>by kernel_rfl
 obtain⟨S,hSd⟩:∃ S,S=(cB bs).toArray:=⟨_,rfl⟩
 have hSs:S.size=64:=by rw[hSd];simp[Zd,hbs]
 have hbuild:=Gr i S hSs
 obtain⟨R,hRd⟩:∃ R,R=#[Value.int .i64 i]++S:=⟨_,rfl⟩
 have hRs:R.size=65:=by rw[hRd];simp[hSs]
 rw[<-hRd] at hbuild
 have hslice:=GK R hRs
 have hraw:=True.intro
 have hR1:∀ u∈R.toList,u.oneCell'=true:=by
  rw[hRd,hSd]
  intro u hu
  simp only[Array.toList_append,List.mem_append,List.mem_singleton] at hu
  rcases hu with rfl|hu
  ·rfl
  ·exact ZU _ u hu
 obtain⟨w1,hw1⟩:∃ w1,w1=w.setCell ⟨B,4,none⟩ (.int .i64 (l-1)):=⟨_,rfl⟩
 have hU1:=(Upd.refl hat).setCell (j:=4) (.int .i64 (l-1))
 rw[<-hw1] at hU1
 have hO1:Only (λk=>k=B) w w1:=Only.ofUpd hU1 rfl
 have hrg:w1.rangeAt bb off (cB bs):=YO (KU ha) hO1 hbB
 have hown1:=hO1.owns hown hvB
 have hs1:=hO1.size
 have hat1:=hU1.here
 obtain⟨va,vc,hv⟩:∃ a c,v=.slice a ws.length c:=by
  rcases hown.2 with ⟨e1,h2⟩|⟨g,c,cur,e1,_⟩
  ·exact⟨none,0,by rw[e1,h2]⟩
  ·exact⟨_,c,e1⟩
 have hu:Tryz.prog.underlying 130=some (.array 64 5):=Tryz.underlying130
 have hsi:(Tryz.prog.info? 130).map (·.size)=some (cB bs).length:=by rw[Zd,hbs];kernel_rfl
 have hc2:w1.cell? ⟨B,2,none⟩=some (.slice va ws.length vc):=by rw[Za hat1,<-hv];rfl
 have hxs:Qq (ws++[(i,bs)])=Qq ws++R.toList:=by rw[hRd,hSd];simp[Qq]
 rw[hv] at hown1 hvb hvB
 replace hown1:=Hd hown1
 replace hat1:=Hd hat1
 replace hO1:=Hd hO1
 replace hU1:=Hd hU1
 replace hw1:=Hd hw1
 replace hSd:=Hd hSd
 replace hRd:=Hd hRd
 replace hxs:=Hd hxs
 replace hvb:=Hd hvb
 replace hvB:=Hd hvB
 replace hv:=Hd hv
 replace hsi:=Hd hsi
 replace hR1:=Hd hR1
 have hSd0:Hid (w1.drew.rangeAt bb off (cB bs)):=hrg
 have hownd:Hid (w1.drew.ownsRow base 132 65 (.slice va ws.length vc) ws.length (Qq ws)):=hown1
 have hatd:Hid (w1.drew.heap[B]? = some (.cells ((ZW n mb v armed l false).setIfInBounds 4 (.int .i64 (l-1))) T (0,0))):=hat1
 have hsd:w1.heap.size<=w1.drew.heap.size:=Nat.le_refl _
 have hcd:w1.drew.cell? ⟨B,2,none⟩=some (.slice va ws.length vc):=hc2
 have hgw:Hid (Only (λk=>k=B) w w1.drew):=Hd (hO1.out.drew)
 replace hrg:=Hd hrg
 clear hown ha c3 c4 c5 hat
 go_enter Tryz.func130,Tryz.ntmps130
 go_wp2_with fail
 with_reducible refine hth.out.mono ?_
 rintro x w2 ⟨rfl,hq⟩
 obtain rfl:=hq
 clear hth
 go_wp2_with fail
 with_reducible refine hde.out.mono ?_
 rintro x w2 ⟨rfl,hq⟩
 obtain rfl:w1=w2:=hw1.out.trans hq.symm
 clear hq hde hc hw1
 go_wp2_with fail
 refine wp_region_held_drew (S:=(λW':World=>W'.rangeAt bb off (cB bs))) kX hSd0.out (λhOn=>?_)
 generalize World.drew w1=wd at*
 refine tk 0 hOn ?_
 refine tk 1 hOn ?_
 refine tk 2 hOn ?_
 refine tk 3 hOn ?_
 refine tk 5 hOn ?_
 refine tk 6 hOn ?_
 repeat' first
  | exact AllReadyH.nil
  |
   first|refine acI 4 (λKz hKz=>?_) ?_|refine rdK 4 (λKz hKz=>?_)|refine acI 7 (λKz hKz=>?_) ?_|refine rdK 7 (λKz hKz=>?_)
   go_simp
   focus (try go_wp2_with fail)
   refine hKz.out _ _ (by first|exact hOn|exact Grown.alloc hOn _|exact Below.alloc hOn (Below.size hOn) _|exact Grown.alloc (Grown.refl _) _) ?_
   clear hKz Kz hOn
   intro hOn
   try simp only[Act.put,sL,sZ,sS]
  |
   first|refine acI 8 (λKz hKz=>?_) ?_|refine rdK 8 (λKz hKz=>?_)
   rw[if_pos (by rfl)]
   (refine wp_load_mid 130 (.tmp 31) rfl bb off rfl (cB bs) _ hOn hu rfl hsi.out ?_)
   have hS:=hOn
   rw[<-hSd.out]
   refine hKz.out _ _ hS ?_
   clear hKz Kz hOn hS
   intro hOn
   try simp only[Act.put]
  |
   first|refine acI 9 (λKz hKz=>?_) ?_|refine rdK 9 (λKz hKz=>?_)
   rw[if_pos (by rfl)]
   (refine Hj _ (.tmp 29) (.tmp 32) rfl (.int .i64 i) (.agg S) rfl rfl _ hbuild ?_)
   have hS:=hOn
   refine hKz.out _ _ hS ?_
   clear hKz Kz hOn hS
   intro hOn
   try simp only[Act.put]
  |
   first|refine acI 10 (λKz hKz=>?_) ?_|refine rdK 10 (λKz hKz=>?_)
   rw[if_pos (by rfl)]
   (refine Y0 _ _ (.tmp 33) rfl (.agg R) rfl _ _ (hslice _) ?_)
   (with_reducible refine Z0 (t:=132) ?_)
   intro w5 hx5 hnew
   have hS:=YO hOn (Only.ofBelow (D:=λ_=>False) hnew) (λh=>h)
   have hown5:=Hd ((Only.ofBelow (D:=λ_=>False) hnew).owns hownd.out (λ_ _ h=>h))
   have hat5:=Hd ((hnew.block B oX).trans hatd.out)
   have hs5:=hnew.size
   have hO5:=Hd (hgw.out.trans (Only.ofBelow (D:=λk=>k=B) hnew) (λ_ _ h=>h))
   have hcd5:w5.cell? ⟨B,2,none⟩=some (.slice va ws.length vc):=(hnew.cell (p:=⟨B,2,none⟩) (by show B<_;omega)).trans hcd
   refine hKz.out _ _ hS ?_
   clear hKz Kz hOn hS
   intro hOn
   try clear hnew
   try simp only[Act.put]
  | refine Qv [4,7] ?_
  | refine Qv [4,8] ?_
  | refine Qv [4,9] ?_
  | refine Qv [4,10] ?_
  | fail
 all_goals
  refine rd 11 (λKz hKz=>?_)
  rw[if_pos (by rfl)]
  (refine Tu (.tmp 28) (.tmp 34) rfl base _ ws.length (Qq ws) rfl hown5 _ R hRs hR1.out rfl hx5 hws oX ?_)
  intro v6 w6 ho6 hg6 hk6
  have hk6:=Hd hk6
  have hS:=YO hOn (Only.ofGrown (D:=λk=>(Value.slice va ws.length vc).ownBlock=some k) hg6.out (λk hk=>hk)) (λh=>hvb.out bb h rfl)
  have hat6:=Hd ((hg6.out.block B oX (λe=>hvB.out B e.symm rfl)).trans hat5.out)
  have hO6:=Hd ((hO5.out.mono (E:=λk=>k=B\/(Value.slice va ws.length vc).ownBlock=some k) (λ_ _ h=>.inl h)).trans (Only.ofGrown (D:=λk=>(Value.slice va ws.length vc).ownBlock=some k) hg6.out (λk hk=>hk)) (λ_ _ h=>.inr h))
  have hcd6:w6.cell? ⟨B,2,none⟩=some (.slice va ws.length vc):=(by rw[Za hat6.out,<-hv.out];rfl)
  have hf6:w6.frozen? ⟨B,2,none⟩=false:=Zm hat6.out _
  obtain⟨g6,c6,hv6⟩:∃ g c,v6=.slice (some ⟨g,0,none⟩) (ws.length+1) c:=(by rcases ho6.out.2 with ⟨_,h2⟩|⟨g,c,cur,e1,_⟩<;>first|omega|exact⟨g,c,e1⟩)
  subst hv6
  refine hKz.out _ _ hS ?_
  clear hKz Kz hOn hS
  intro hOn
  try simp only[Act.put]
  refine tk 12 hOn ?_
  refine tk 13 hOn ?_
  refine rd 14 (λKz hKz=>?_)
  go_simp
  have hU7:=(Upd.refl hat6.out).setCell (j:=2) (.slice (some ⟨g6,0,none⟩) (ws.length+1) c6)
  have hS:=YO hOn (Only.ofUpd hU7 rfl:Only (λk=>k=B) _ _) hbB
  replace hU7:=Hd hU7
  refine hKz.out _ _ hS ?_
  clear hKz Kz hOn hS
  intro hOn
  try simp only[Act.put]
  refine dnE ?_
 all_goals
  go_wp2_with fail
  go_ret
  refine⟨rfl,_,hU7.out.here,?_,?_,?_⟩
  ·rw[hxs.out]
   exact(Only.ofUpd hU7.out rfl:Only (λk=>k=B) _ _).owns ho6.out (λk hk e=>by
    subst e
    rcases hk6.out with h|h
    ·exact hvB.out k (h.symm.trans hk) rfl
    ·rw[hk] at h;injection h with h;omega)
  ·rw[hv.out]
   exact hO6.out.trans (Only.ofUpd hU7.out rfl:Only (λk=>k=B) _ _) (λ_ _ h=>.inl h)
  ·intro k hk
   rw[hv.out]
   rcases hk6.out with h|h
   ·exact .inl (h.symm.trans hk)
   ·rw[hk] at h;injection h with h;exact .inr oX
end Go.Proofs.YtpdhceiodgnbmaaGreatDoor
