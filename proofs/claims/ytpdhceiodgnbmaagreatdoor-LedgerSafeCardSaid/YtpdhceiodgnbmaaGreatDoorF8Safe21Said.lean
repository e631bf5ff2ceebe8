import Derived.Test.YtpdhceiodgnbmaaGreatDoorF0Safe21Said
import Derived.Test.YtpdhceiodgnbmaaGreatDoorF1Safe21Said
import Derived.Laws.BitsAllLaws
import Derived.IntWalk
import Derived.Test.YtpdhceiodgnbmaaGreatDoorF2Safe21Said
import Derived.Maps.Own
import Derived.Maps.Views
import Derived.Maps.OwnOps
import Derived.Test.YtpdhceiodgnbmaaGreatDoorF3Safe21Said
import Derived.Laws.Tables
import Derived.Great.BuildSlice
import Derived.Great.FillDense
import Derived.Deep.MidRow
import Derived.Maps.AppendAt
import Derived.Laws.CopyRow
set_option linter.unusedVariables false
set_option linter.unusedSimpArgs false
set_option linter.unnecessarySimpa false
set_option maxRecDepth 100000
set_option maxHeartbeats 8000000
namespace Go.Proofs.YtpdhceiodgnbmaaGreatDoor
open Go.RowKit
theorem Gz(n:Nat)(h:n<9223372036854775808):IntKind.i64.wrap (n:Int)=(n:Int):=IntWalk.i64_in (n:Int) oX
theorem Cr(a b:Nat)(ha:a<9223372036854775808)(hb:b<9223372036854775808):bits .xor .i64 (a:Int) (b:Int)=((a ^^^ b:Nat):Int):=by
 have hx:a ^^^ b<2 ^ 63:=Nat.xor_lt_two_pow oX oX
 show IntKind.i64.wrap ((BitVec.ofInt 64 (a:Int) ^^^ BitVec.ofInt 64 (b:Int)).toNat:Int)=_
 rw[BitVec.toNat_xor,ofInt_u64 a oX,ofInt_u64 b oX]
 exact Gz _ oX
theorem GT(a b:Nat)(ha:a<9223372036854775808)(hb:b<9223372036854775808):bits .or .i64 (a:Int) (b:Int)=((a ||| b:Nat):Int):=by
 have hx:a ||| b<2 ^ 63:=Nat.or_lt_two_pow oX oX
 show IntKind.i64.wrap ((BitVec.ofInt 64 (a:Int) ||| BitVec.ofInt 64 (b:Int)).toNat:Int)=_
 rw[BitVec.toNat_or,ofInt_u64 a oX,ofInt_u64 b oX]
 exact Gz _ oX
theorem VO(a b:Nat)(ha:a<9223372036854775808)(hb:b<9223372036854775808):bits .and .i64 (a:Int) (b:Int)=((a &&& b:Nat):Int):=by
 have hx:a &&& b<2 ^ 63:=Nat.and_lt_two_pow _ oX
 show IntKind.i64.wrap ((BitVec.ofInt 64 (a:Int) &&& BitVec.ofInt 64 (b:Int)).toNat:Int)=_
 rw[BitVec.toNat_and,ofInt_u64 a oX,ofInt_u64 b oX]
 exact Gz _ oX
theorem D3(a b k:Nat)(ha:a<1048576)(hk:k<=20)(hb:b<2 ^ k):bits .or .i64 (wrap64 ((a:Int)*(2:Int) ^ k)) (b:Int)=((a*2 ^ k+b:Nat):Int):=by
 have hp2:2 ^ k<=2 ^ 20:=Nat.pow_le_pow_right oX hk
 have hm:a*2 ^ k<1048576*2 ^ 20:=Nat.lt_of_le_of_lt (Nat.mul_le_mul_left _ hp2) (Nat.mul_lt_mul_of_pos_right ha dX)
 have e:(a:Int)*(2:Int) ^ k=((a*2 ^ k:Nat):Int):=sX
 have h2:=Nat.shiftLeft_add_eq_or_of_lt hb a
 rw[Nat.shiftLeft_eq] at h2
 rw[e,h2]
 obtain⟨y,hy⟩:∃ y,y=a*2 ^ k:=⟨_,rfl⟩
 rw[<-hy] at hm ⊢
 rw[IntWalk.wrap64_in (y:Int) oX]
 exact GT y b oX oX
open Go.RowKit Go.Maps
def YY(bs:List UInt8):Value:=.agg (cB bs).toArray
theorem Co{a b:List UInt8}(h:cB a=cB b):a=b:=by
 have:∀ (a b:List UInt8),cB a=cB b->a=b:=by
  intro a
  induction a with
  | nil=>intro b h;cases b with
   | nil=>rfl
   | cons y b=>simp[cB] at h
  | cons x a ih=>
   intro b h
   cases b with
   | nil=>simp[cB] at h
   | cons y b=>
    simp only[cB,List.map_cons,List.cons.injEq,Value.int.injEq,true_and] at h
    have h1:x=y:=UInt8.toNat_inj.1 oX
    rw[h1,ih b h.2]
 exact this a b h
theorem Dx{a b:List UInt8}(h:YY a=YY b):a=b:=by
 unfold YY at h
 injection h with h
 exact Co (by simpa using congrArg Array.toList h)
open Classical in
noncomputable def Hj(v:Value):Option (DataW Unit×List MemPlace):=if h:∃ bs:List UInt8,bs.length=64/\v=YY bs then some (.lit (.string h.choose),[]) else none
theorem Np{bs:List UInt8}(hl:bs.length=64):Hj (YY bs)=some (.lit (.string bs),[]):=by
 have h:∃ b:List UInt8,b.length=64/\YY bs=YY b:=⟨bs,hl,rfl⟩
 unfold Hj
 rw[dif_pos h,<-Dx h.choose_spec.2]
theorem MB{v:Value}{bs:List UInt8}{ps:List MemPlace}(h:Hj v=some (.lit (.string bs),ps)):v=YY bs/\bs.length=64:=by
 unfold Hj at h
 split at h
 ·next hh=>
  have e:hh.choose=bs:=by
   injection h with h
   injection h with h1 _
   injection h1 with h1
   injection h1
  rw[<-e]
  exact⟨hh.choose_spec.2,hh.choose_spec.1⟩
 ·cases h
def zSec:List UInt8:=List.replicate 64 0
def SureMap(w:World)(b n:Nat)(f:Int->List UInt8):Prop:=
 ∃ D:DataW Unit,w.ownsMap Tryz.prog 3 Hj b n D/\IsMap D/\(∀ i,(f i).length=64)/\∀ i,-9223372036854775808<=i->i<=9223372036854775807->D.atKey (.int .i64 i) (.lit (.string zSec))=.lit (.string (f i))
theorem SureMap.made(w:World):SureMap (w.alloc (.map #[] 0)) w.heap.size 0 (λ_=>zSec):=
 ⟨_,World.ownsMap_made w _ _ _,isMap_empty,λ_=>by simp[zSec],λ_ _ _=>rfl⟩
theorem SureMap.lt{w:World}{b n:Nat}{f:Int->List UInt8}(h:SureMap w b n f):b<w.heap.size:=by obtain⟨D,h,_⟩:=h;exact h.lt
theorem SureMap.only{w w':World}{b n:Nat}{f:Int->List UInt8}{D:Nat->Prop}(h:SureMap w b n f)(hO:Only D w w')(hd:¬D b):SureMap w' b n f:=by
 obtain⟨E,⟨es,clock,hb,F,hs,he⟩,h2,h3,h4⟩:=h
 exact⟨E,⟨es,clock,(hO.block b (Zb hb) hd).trans hb,F,hs,he⟩,h2,h3,h4⟩
theorem SureMap.mono{w:World}{b n n':Nat}{f:Int->List UInt8}(h:SureMap w b n f)(hn:n<=n'):SureMap w b n' f:=by
 obtain⟨E,h1,h2,h3,h4⟩:=h
 exact⟨E,h1.mono hn,h2,h3,h4⟩
theorem Nz{i:Int}(h1 : -9223372036854775808<=i)(h2:i<=9223372036854775807):keyOf Tryz.prog 3 (.int .i64 i)=some (.int .i64 i):=
 keyOf_int_mk Tryz.underlying3 (WalkArith.wf_i64 ⟨h1,h2⟩)
theorem KG(w:World):(zeroValue 130).run Tryz.prog w=.ok (YY zSec) w:=by
 rw[show YY zSec=.agg (cB zSec).toArray from rfl]
 kernel_rfl
section
variable {w:World} {ops:Array Oper} {rest:List Oper} {o:Oper} {a:Act} {Q:Exit->Act->World->Prop}
theorem HS(hg:o.guard=none)(m x:Operand)(hop:o.op=Op.lookup 117 m x false)(b n:Nat)(f:Int->List UInt8)(hm:a.eval m=.map (some b))(h:Hid (SureMap w b n f))
  (i:Int) (hx:a.eval x=.int .i64 i) (h1 : -9223372036854775808<=i) (h2:i<=9223372036854775807) (hK:wpList Tryz.prog ops Q rest (a.put o.dst (YY (f i))) w):wpList Tryz.prog ops Q (o::rest) a w:=by
 refine wpList_plain hg λK' hK'=>?_
 obtain⟨D,ho,hD,hl,hat⟩:=h.out
 obtain⟨v,ps,hrun,hv⟩:=ho.lookup (int_keyed Tryz.underlying3) Tryz.underlying117 (KG w) (Np (by simp[zSec])) (Nz h1 h2)
 rw[hat i h1 h2] at hv
 obtain⟨rfl,_⟩:=MB hv
 unfold Oper.wp
 simp[execOp,hop,hm,hx,hrun,Result.andThen]
 exact hK' _ _ hK
end
structure DErr (w:World) (e:Nat->Addr):Prop where
 range:w.cell? ⟨0,0,none⟩=some (.iface 298 (.pointer (some (e 0))))
 size:w.cell? ⟨7,0,none⟩=some (.iface 298 (.pointer (some (e 1))))
 power:w.cell? ⟨13,0,none⟩=some (.iface 298 (.pointer (some (e 2))))
def Qd(n:Int)(b:Nat)(v:Value)(armed:Bool)(left:Int)(gone:Bool):Array Value:=#[.int .i64 n,.map (some b),v,.bool armed,.int .i64 left,.bool gone]
theorem Lx(n:Int)(h1:1<=n)(h2:n<=2048)(w:World):Calls Tryz.prog 52 #[.int .i64 n] w λx w'=>x=.returned (.tuple #[.pointer (some ⟨w.heap.size+1,0,none⟩),.nilIface])/\w'=(w.alloc (.map #[] 0)).alloc (.cells (Qd n w.heap.size (.slice none 0 0) false 0 false) 120):=by
 have hmm:=@run_makeMap Tryz.prog
 go_enter Tryz.func52,Tryz.ntmps52
 go_wp2_with fail
 go_ret2
 exact⟨rfl,rfl⟩
theorem Je(B:Nat)(n i:Int)(h0:0<=i)(h1:i<n)(w:World)(hc:w.cell? ⟨B,0,none⟩=some (.int .i64 n)):Calls Tryz.prog 106 #[.pointer (some ⟨B,0,none⟩),.int .i64 i] w λx w'=>x=.returned .nilIface/\w=w':=by
 have h2:¬i<0:=oX
 have h3:¬n<=i:=oX
 go_enter Tryz.func106,Tryz.ntmps106
 go_wp2_with fail
 go_ret
 exact⟨rfl,rfl⟩
theorem Wa(B:Nat)(n i:Int)(h:i<0\/n<=i)(w:World)(hc:w.cell? ⟨B,0,none⟩=some (.int .i64 n))(e:Nat->Addr)(hE:DErr w e):Calls Tryz.prog 106 #[.pointer (some ⟨B,0,none⟩),.int .i64 i] w λx w'=>x=.returned (.iface 298 (.pointer (some (e 0))))/\w=w':=by
 have hk:=hE.range
 by_cases hn:i<0
 ·go_enter Tryz.func106,Tryz.ntmps106
  go_wp2_with fail
  go_ret
  exact⟨rfl,rfl⟩
 ·have hm:n<=i:=oX
  clear h
  go_enter Tryz.func106,Tryz.ntmps106
  go_wp2_with fail
  go_ret
  exact⟨rfl,rfl⟩
theorem M2(B:Nat)(armed:Bool)(l:Int)(h:armed=true->l≠0)(hl : -1000000<=l/\l<=9223372036854775807)(w:World)(c3:w.cell? ⟨B,3,none⟩=some (.bool armed))(c4:w.cell? ⟨B,4,none⟩=some (.int .i64 l))(c5:w.cell? ⟨B,5,none⟩=some (.bool false))(f4:w.frozen? ⟨B,4,none⟩=false) :
  Calls Tryz.prog 161 #[.pointer (some ⟨B,0,none⟩)] w λx w'=>x=.returned .nilIface/\w'=w.setCell ⟨B,4,none⟩ (.int .i64 (l-1)):=by
 have hw:IntKind.i64.wrap (l-1)=l-1:=IntWalk.i64_in _ oX
 cases armed
 ·clear h
  go_enter Tryz.func161,Tryz.ntmps161
  go_wp2_with fail
  go_ret
  exact⟨rfl,rfl⟩
 ·have h0:(l==0)=false:=by simpa using h rfl
  clear h
  go_enter Tryz.func161,Tryz.ntmps161
  go_wp2_with fail
  go_ret
  exact⟨rfl,rfl⟩
theorem RJ(B:Nat)(armed:Bool)(l:Int)(h:armed=true->l≠0)(w:World)(e:Nat->Addr)(hE:DErr w e)(c3:w.cell? ⟨B,3,none⟩=some (.bool armed))(c4:w.cell? ⟨B,4,none⟩=some (.int .i64 l))(c5:w.cell? ⟨B,5,none⟩=some (.bool true)) :
  Calls Tryz.prog 161 #[.pointer (some ⟨B,0,none⟩)] w λx w'=>x=.returned (.iface 298 (.pointer (some (e 2))))/\w=w':=by
 have hk:=hE.power
 cases armed
 ·clear h
  go_enter Tryz.func161,Tryz.ntmps161
  go_wp2_with fail
  go_ret
  exact⟨rfl,rfl⟩
 ·have h0:(l==0)=false:=by simpa using h rfl
  clear h
  go_enter Tryz.func161,Tryz.ntmps161
  go_wp2_with fail
  go_ret
  exact⟨rfl,rfl⟩
def SecBlk(w:World)(g:Nat)(bs:List UInt8):Prop:=w.heap[g]? = some (.cells (cB bs).toArray 130 (0,0))
theorem SecBlk.argB{w:World}{g:Nat}{bs:List UInt8}(h:SecBlk w g bs)(hl:bs.length=64):ArgB w (some ⟨g,0,none⟩) 64 bs:=by
 refine⟨oX,dX,(λe=>by cases e),λi hi=>⟨g,0,rfl,?_⟩⟩
 rw[Za h]
 simp[cB,hi]
theorem Md(B mb mn:Nat)(f:Int->List UInt8)(n i:Int)(h0:0<=i)(h1:i<n)(hn:n<=2048)(w:World)(hc:w.cell? ⟨B,0,none⟩=some (.int .i64 n))(hc1:w.cell? ⟨B,1,none⟩=some (.map (some mb)))(hm:SureMap w mb mn f) :
  Calls Tryz.prog 68 #[.pointer (some ⟨B,0,none⟩),.int .i64 i] w λx w'=>∃ g,x=.returned (.tuple #[.slice (some ⟨g,0,none⟩) 64 64,.nilIface])/\SecBlk w' g (f i)/\w.heap.size<=g/\Below w.heap.size w w':=by
 have hth:=Hd (Je B n i h0 h1 w hc)
 have hl:(f i).length=64:=by obtain⟨_,_,_,hl,_⟩:=hm;exact hl i
 replace hm:=Hd hm
 have hi1 : -9223372036854775808<=i:=oX
 have hi2:i<=9223372036854775807:=oX
 obtain⟨S,hSd⟩:∃ S,S=(cB (f i)).toArray:=⟨_,rfl⟩
 have hSV:YY (f i)=.agg S:=by rw[hSd];rfl
 have hSs:S.size=64:=by rw[hSd];simp[Ze,hl]
 have hS1:S.all (·.oneCell')=true:=by
  rw[hSd,Array.all_eq_true']
  intro u hu
  exact ZI _ u (by simpa using hu)
 have hz:(w.alloc (.cells (cB zSec).toArray 130)).heap[w.heap.size]? = some (.cells (cB zSec).toArray 130 (0,0)):=heap_alloc_new w _
 have hsz:(Tryz.prog.info? 130).map (·.size)=some S.size:=by rw[hSs];kernel_rfl
 have hzs:(cB zSec).toArray.size=S.size:=by rw[hSs];rfl
 have hgrow:Below w.heap.size w (w.alloc (.cells (cB zSec).toArray 130)):=bR.alloc nR _
 replace hSV:=Hd hSV
 replace hSd:=Hd hSd
 replace hz:=Hd hz
 replace hgrow:=Hd hgrow
 replace hl:=Hd hl
 go_enter Tryz.func68,Tryz.ntmps68
 go_wp2_with fail
 with_reducible refine hth.out.mono ?_
 rintro x w2 ⟨rfl,hq⟩
 obtain rfl:=hq
 clear hth
 go_wp2_with (first
  | (at_lookup;go_must (refine HS rfl _ _ rfl mb mn f rfl hm i rfl hi1 hi2 ?_);rw[hSV.out])
  | (refine Zc rfl 130 (.tmp 7) (.tmp 19) rfl w.heap.size _ S rfl rfl hz hsz hzs hS1 ?_;intro w3 hU3))
 go_ret2
 exact⟨_,rfl,by rw[SecBlk,<-hSd.out];exact hU3.out.here,Nat.le_refl _,hgrow.out.trans (hU3.out.below nR)⟩
end Go.Proofs.YtpdhceiodgnbmaaGreatDoor
namespace Go.Proofs.YtpdhceiodgnbmaaGreatDoor
open Go.RowKit
theorem WK(cs:List Value)(off:Nat):∀ (n:Nat) (b:Array Value) (k:Nat),((cs.zipIdx n).foldl (λacc x=>acc.setIfInBounds (off+x.2) x.1) b)[k]? = if off+n<=k/\k<off+n+cs.length/\k<b.size then cs[k-(off+n)]? else b[k]? := by
 induction cs with
 | nil=>intro n b k;rw[if_neg sYq];rfl
 | cons c cs ih=>
  intro n b k
  rw[List.zipIdx_cons,List.foldl_cons,ih (n+1) _ k,Array.size_setIfInBounds,Array.getElem?_setIfInBounds]
  simp only[List.length_cons]
  by_cases h2:off+(n+1)<=k/\k<off+(n+1)+cs.length/\k<b.size
  ·rw[if_pos h2,if_pos oX,show k-(off+n)=(k-(off+(n+1)))+1 by omega,List.getElem?_cons_succ]
  ·rw[if_neg h2]
   by_cases h1:off+n=k
   ·subst h1
    rw[if_pos rfl]
    by_cases h3:off+n<b.size
    ·rw[if_pos h3,if_pos ⟨Nat.le_refl _,oX,h3⟩,Nat.sub_self];rfl
    ·rw[if_neg h3,if_neg oX,Array.getElem?_eq_none oX]
   ·rw[if_neg h1,if_neg oX]
theorem T4(i:Int)(S:Array Value)(hS:S.size=64)(W:World):(Instr.build 132 #[(0,.int .i64 i),(1,.agg S)]).run Tryz.prog W=.ok (.agg (#[.int .i64 i]++S)) W:=by
 refine run_build W _ _ _ ?_
 obtain⟨Z,hZ⟩:∃ Z:Array Value,Z=(cB (0::zSec)).toArray.setIfInBounds 0 (.int .i64 0):=⟨_,rfl⟩
 have hb:∀ parts,Tryz.prog.built 132 parts=Instr.fill (λi=>(#[(0,1),(1,64)]:Array (Nat×Nat))[i]?) ((cB (0::zSec)).toArray.setIfInBounds 0 (.int .i64 0)) parts:=λparts=>by kernel_rfl
 rw[hb,<-hZ]
 have hZs:Z.size=65:=by rw[hZ];rfl
 clear hZ hb
 simp only[Instr.fill,Value.cells,List.size_toArray,List.length_cons,List.length_nil]
 have e0:Array.foldl (λcs x=>cs.setIfInBounds (0+x.snd) x.fst) Z #[Value.int IntKind.i64 i].zipIdx=Z.setIfInBounds 0 (.int .i64 i):=by simp[Array.zipIdx]
 show (if (decide (0+1≠1) || decide (0+(0+1)>Z.size))=true then none else if (decide (S.size≠64) || decide (1+S.size>(Array.foldl (λcs x=>cs.setIfInBounds (0+x.snd) x.fst) Z #[Value.int IntKind.i64 i].zipIdx).size))=true then none else some (Array.foldl (λcs x=>cs.setIfInBounds (1+x.snd) x.fst) (Array.foldl (λcs x=>cs.setIfInBounds (0+x.snd) x.fst) Z #[Value.int IntKind.i64 i].zipIdx) S.zipIdx))=_
 rw[e0,if_neg (by simp[hZs]),if_neg (by simp[hZs,hS])]
 congr 1
 apply Array.ext_getElem?
 intro k
 rw[<-Array.foldl_toList,Array.toList_zipIdx,WK,Array.size_setIfInBounds,Array.getElem?_setIfInBounds,hZs,Array.length_toList,hS]
 rw[Array.getElem?_append]
 simp only[List.size_toArray,List.length_cons,List.length_nil]
 by_cases hk0:k=0
 ·subst hk0
  rw[if_neg oX,if_pos rfl,if_pos oX,if_pos oX]
  try rfl
 ·by_cases hk:k<65
  ·rw[if_pos oX,if_neg oX,Array.getElem?_toList]
   try rfl
  ·rw[if_neg oX,if_neg oX,if_neg oX,Array.getElem?_eq_none oX,Array.getElem?_eq_none oX]
end Go.Proofs.YtpdhceiodgnbmaaGreatDoor
namespace Go.Proofs.YtpdhceiodgnbmaaGreatDoor
open Go.RowKit
theorem Tryz.infoWriteP:(Tryz.prog.info? 132).map (λi=>(i.zero.map (·.cells.size),i.size,i.bytes))=some (some 65,65,72):=kX
theorem Tv(R:Array Value)(hR:R.size=65)(W:World):(Instr.buildSlice 118 1 #[(0,.agg R)]).run Tryz.prog W=.ok (.slice (some ⟨W.heap.size,0,none⟩) 1 1) (W.alloc (.cells R 132)):=by
 obtain⟨ie,hie,h2⟩:=Option.map_eq_some_iff.1 Tryz.infoWriteP
 simp only[Prod.mk.injEq] at h2
 obtain⟨hz,hs,hb⟩:=h2
 obtain⟨z,hz1,hz2⟩:=Option.map_eq_some_iff.1 hz
 refine run_buildSlice W _ _ 1 _ R ie z Tryz.underlying118 hie hz1 (by rw[hs];decide) (by rw[hs];decide) ?_
 have h:=Go.Great.fill_whole (s:=65) dX [.agg R] ((Array.range (1*ie.size)).map (z.cells[· % z.cells.size]!)) (by simp[Value.cells,hR]) (by simp[hs])
 simpa[hs,Value.cells] using h
section
variable {ops:Array Oper} {K:Act->World->Prop} {Q:Exit->Act->World->Prop} {o:Oper} {a:Act} {w:World}
theorem Wm(t:TypeId)(x y:Operand)(ho:o.op=.build t #[(0,x),(1,y)])(vx vy:Value)(hx:a.eval x=vx)(hy:a.eval y=vy)(R:Value)(h:∀ W,(Instr.build t #[(0,vx),(1,vy)]).run Tryz.prog W=.ok R W)(hK:K (a.put o.dst R) w):o.wp Tryz.prog a w K Q:=by
 unfold Oper.wp execOp
 simp only[ho,Sem.run_bind,Sem.run_pure,Result.andThen_ok,List.map_toArray,List.map_cons,List.map_nil,hx,hy,h]
 exact hK
theorem QZ(t:TypeId)(len:Nat)(x:Operand)(ho:o.op=.buildSlice t len #[(0,x)])(vx:Value)(hx:a.eval x=vx)(R:Value)(w':World)(h:(Instr.buildSlice t len #[(0,vx)]).run Tryz.prog w=.ok R w')(hK:K (a.put o.dst R) w'):o.wp Tryz.prog a w K Q:=by
 unfold Oper.wp execOp
 simp only[ho,Sem.run_bind,Sem.run_pure,Result.andThen_ok,List.map_toArray,List.map_cons,List.map_nil,hx,h]
 exact hK
theorem D1(s x:Operand)(ho:o.op=.call { callee:=.builtin .append,args:=#[s,x],argTypes:=#[118,118] })
  (base:Nat) (v:Value) (n:Nat) (xs:List Value) (hs:a.eval s=v) (hown:Hid (w.ownsRow base 132 65 v n xs))
  (g:Nat) (R:Array Value) (hR:R.size=65) (h1:∀ u∈R.toList,u.oneCell'=true) (hx:a.eval x=.slice (some ⟨g,0,none⟩) 1 1) (hg:Hid (w.heap[g]? = some (.cells R 132 (0,0)))) (hl:n<=1000000) (hbase:base<=w.heap.size)
  (h:∀ v' w',Hid (w'.ownsRow base 132 65 v' (n+1) (xs++R.toList))->Hid (w.grownBy w' v.ownBlock)->(v'.ownBlock=v.ownBlock\/v'.ownBlock=some w.heap.size)->K (a.put o.dst v') w'):o.wp Tryz.prog a w K Q:=by
 obtain⟨ie,hie,h2⟩:=Option.map_eq_some_iff.1 Tryz.infoWriteP
 simp only[Prod.mk.injEq] at h2
 obtain⟨hz,hsz,hby⟩:=h2
 obtain⟨z,hz1,hz2⟩:=Option.map_eq_some_iff.1 hz
 obtain⟨v',w',hr,k1,k2,_,k4⟩:=run_append_own_at (P:=Tryz.prog) w base 118 o.type 132 ie z 65 ie.bytes Tryz.underlying118 hie hz1 hsz rfl hz2 dX v n xs hown.out ⟨g,0,none⟩ 1 1 R.toList (by simp[hR])
  (λj u hu=>by
   rw[Addr.add_mid,Za hg.out,Nat.zero_add,<-Array.getElem?_toList]
   exact hu) h1 c6X (by rw[hby];omega) hbase
 unfold Oper.wp execOp
 simp only[ho,resolve,invoke,builtin,Sem.run_bind,Sem.run_pure,Result.andThen_ok,List.map_toArray,List.map_cons,List.map_nil,hs,hx,hr]
 exact h v' w' (Hd k1) (Hd k2) k4
end
end Go.Proofs.YtpdhceiodgnbmaaGreatDoor
namespace Go.Proofs.YtpdhceiodgnbmaaGreatDoor
open Go.RowKit Go.Maps
section
variable {ops:Array Oper} {K:Act->World->Prop} {Q:Exit->Act->World->Prop} {o:Oper} {a:Act} {w:World}
theorem Ti(m x:Operand)(hop:o.op=Op.lookup 117 m x false)(b n:Nat)(f:Int->List UInt8)(hm:a.eval m=.map (some b))(h:SureMap w b n f)
  (i:Int) (hx:a.eval x=.int .i64 i) (h1 : -9223372036854775808<=i) (h2:i<=9223372036854775807):(execOp a.eval o).run Tryz.prog w=.ok (.value (YY (f i))) w:=by
 obtain⟨D,ho,hD,hl,hat⟩:=h
 obtain⟨v,ps,hrun,hv⟩:=ho.lookup (int_keyed Tryz.underlying3) Tryz.underlying117 (KG w) (Np (by simp[zSec])) (Nz h1 h2)
 rw[hat i h1 h2] at hv
 obtain⟨rfl,_⟩:=MB hv
 simp[execOp,hop,hm,hx,hrun,Result.andThen]
theorem Bl(m x v:Operand)(hop:o.op=Op.mapUpdate 117 m x v)(b n:Nat)(f:Int->List UInt8)(hm:a.eval m=.map (some b))(h:Hid (SureMap w b n f))(hn:n<maxLen)
  (i:Int) (hx:a.eval x=.int .i64 i) (h1 : -9223372036854775808<=i) (h2:i<=9223372036854775807) (bs:List UInt8) (hv:a.eval v=YY bs) (hl:bs.length=64)
  (hK:∀ w',Hid (SureMap w' b (n+1) (λj=>if j=i then bs else f j))->Hid (w.grownBy w' (some b))->K (a.put o.dst undef) w'):o.wp Tryz.prog a w K Q:=by
 obtain⟨D,ho,hD,hfl,hat⟩:=h.out
 obtain⟨w',hrun,k1,k2⟩:=ho.update (int_keyed Tryz.underlying3) Tryz.underlying117 hn (Nz h1 h2) (Np hl)
 unfold Oper.wp
 simp[execOp,hop,hm,hx,hv,hrun,Result.andThen]
 refine hK w' (Hd ⟨_,k1,hD.put _ _,λj=>?_,λj j1 j2=>?_⟩) (Hd k2)
 ·show (if j=i then bs else f j).length=64
  split
  ·exact hl
  ·exact hfl j
 ·show (D.put (.int .i64 i) (.lit (.string bs))).atKey (.int .i64 j) (.lit (.string zSec))=.lit (.string (if j=i then bs else f j))
  by_cases hji:j=i
  ·subst hji
   rw[if_pos rfl]
   exact atKey_put_same hD (by simp[WideAt.IsKeyLit]) _ _
  ·rw[if_neg hji,atKey_put_other (by simpa using hji)]
   exact hat j j1 j2
theorem Hi(d s:Operand)(ho:o.op=.call { callee:=.builtin .copy,args:=#[d,s],argTypes:=#[24,24] })
  (g dLen dCap:Nat) (p:Addr) (sLen sCap:Nat) (cur:Array Value) (t:TypeId) (cs:List Value) (hd:a.eval d=.slice (some ⟨g,0,none⟩) dLen dCap) (hs:a.eval s=.slice (some p) sLen sCap)
  (hg:Hid (w.heap[g]? = some (.cells cur t (0,0)))) (hn:cs.length=Nat.min sLen dLen) (hsrc:∀ j v,cs[j]? = some v->w.cell? (p.add j)=some v) (hfit:cs.length<=cur.size) (h1:∀ v∈cs,v.oneCell'=true)
  (hK:∀ w',Hid (Upd g (.cells (cs++cur.toList.drop cs.length).toArray t (0,0)) w w')->K (a.put o.dst (goInt cs.length)) w'):o.wp Tryz.prog a w K Q:=by
 have hu:Tryz.prog.underlying 24=some (.slice 5):=Tryz.underlying24
 have hsz:(Tryz.prog.info? 5).map (·.size)=some 1:=kX
 have hr:=λty=>run_copy_row (P:=Tryz.prog) w 24 24 ty 5 g 0 dLen dCap p sLen sCap cur t cs hu hsz hg.out hn hsrc oX h1
 have hU:=Upd.setRow (cs:=(cur.toList.take 0++cs++cur.toList.drop (0+cs.length)).toArray) hg.out
 unfold Oper.wp execOp
 simp only[ho,resolve,invoke,builtin,Sem.run_bind,Sem.run_pure,Result.andThen_ok,List.map_toArray,List.map_cons,List.map_nil,hd,hs,hr]
 refine hK _ (Hd ?_)
 simpa using hU
end
end Go.Proofs.YtpdhceiodgnbmaaGreatDoor
namespace Go.Proofs.YtpdhceiodgnbmaaGreatDoor
open Go.RowKit
def QD(ws:List (Int×List UInt8)):List Value:=ws.flatMap λp=>.int .i64 p.1::cB p.2
theorem M5{w:World}{b off cap:Nat}{bs:List UInt8}(h:ArgB w (some ⟨b,off,none⟩) cap bs):w.rangeAt b off (cB bs):=by
 intro j v hv
 have hj:j<bs.length:=by
  have:=(List.getElem?_eq_some_iff.1 hv).1
  rwa [Ze] at this
 obtain⟨b',o',e,hc⟩:=h.row j hj
 cases e
 rw[hc,<-hv]
 simp[cB,hj]
theorem XV{w w':World}{D:Nat->Prop}{b off:Nat}{cs:List Value}(h:w.rangeAt b off cs)(hO:Only D w w')(hd:¬D b):w'.rangeAt b off cs:=λj v hv=>by
 have hc:=h j v hv
 exact(World.cell?_of_block (w:=w) (w':=w') (a:=⟨b,off+j,none⟩) (hO.block b (World.block_lt_of_cell? w _ hc) hd)).trans hc
theorem Rd(base B mb:Nat)(n i:Int)(h0:0<=i)(h1:i<n)(T:TypeId)(v:Value)(ws:List (Int×List UInt8))(armed:Bool)(l:Int)(har:armed=true->l≠0)(hl : -1000000<=l/\l<=9223372036854775807)(w:World)(hat:w.heap[B]? = some (.cells (Qd n mb v armed l false) T (0,0)))
  (hb:base<=w.heap.size) (hown:w.ownsRow base 132 65 v ws.length (QD ws)) (hvB:∀ k,v.ownBlock=some k->k≠B) (hws:ws.length<=1000000)
  (bb off cap:Nat) (bs:List UInt8) (hbs:bs.length=64) (ha:ArgB w (some ⟨bb,off,none⟩) cap bs) (hbB:bb≠B) (hvb:∀ k,v.ownBlock=some k->k≠bb) :
  Calls Tryz.prog 130 #[.pointer (some ⟨B,0,none⟩),.int .i64 i,.slice (some ⟨bb,off,none⟩) 64 cap] w λx w'=>x=.returned .nilIface/\
   ∃ v',w'.heap[B]? = some (.cells (Qd n mb v' armed (l-1) false) T (0,0))/\w'.ownsRow base 132 65 v' (ws.length+1) (QD (ws++[(i,bs)]))/\Only (λk=>k=B\/v.ownBlock=some k) w w'/\(∀ k,v'.ownBlock=some k->v.ownBlock=some k\/w.heap.size<=k):=by
 have hBl:=Zb hat
 have hc:w.cell? ⟨B,0,none⟩=some (.int .i64 n):=by rw[Za hat];rfl
 have c3:w.cell? ⟨B,3,none⟩=some (.bool armed):=by rw[Za hat];rfl
 have c4:w.cell? ⟨B,4,none⟩=some (.int .i64 l):=by rw[Za hat];rfl
 have c5:w.cell? ⟨B,5,none⟩=some (.bool false):=by rw[Za hat];rfl
 have hth:=Hd (Je B n i h0 h1 w hc)
 have hde:=Hd (M2 B armed l har hl w c3 c4 c5 (Zj hat _))
 have harr:∀ W,(Instr.arrayAt 130 (.slice (some ⟨bb,off,none⟩) 64 cap)).run Tryz.prog W=.ok (.pointer (some ⟨bb,off,none⟩)) W:=λW=>by kernel_rfl
 obtain⟨S,hSd⟩:∃ S,S=(cB bs).toArray:=⟨_,rfl⟩
 have hSs:S.size=64:=by rw[hSd];simp[Ze,hbs]
 have hbuild:=T4 i S hSs
 obtain⟨R,hRd⟩:∃ R,R=#[Value.int .i64 i]++S:=⟨_,rfl⟩
 have hRs:R.size=65:=by rw[hRd];simp[hSs]
 rw[<-hRd] at hbuild
 have hslice:=Tv R hRs
 have hraw:=True.intro
 have hR1:∀ u∈R.toList,u.oneCell'=true:=by
  rw[hRd,hSd]
  intro u hu
  simp only[Array.toList_append,List.mem_append,List.mem_singleton] at hu
  rcases hu with rfl|hu
  ·rfl
  ·exact ZI _ u hu
 obtain⟨w1,hw1⟩:∃ w1,w1=w.setCell ⟨B,4,none⟩ (.int .i64 (l-1)):=⟨_,rfl⟩
 have hU1:=(Upd.refl hat).setCell (j:=4) (.int .i64 (l-1))
 rw[<-hw1] at hU1
 have hO1:Only (λk=>k=B) w w1:=Only.ofUpd hU1 rfl
 have hrg:w1.rangeAt bb off (cB bs):=XV (M5 ha) hO1 hbB
 have hown1:=hO1.owns hown hvB
 have hs1:=hO1.size
 have hat1:=hU1.here
 obtain⟨va,vc,hv⟩:∃ a c,v=.slice a ws.length c:=by
  rcases hown.2 with ⟨e1,h2⟩|⟨g,c,cur,e1,_⟩
  ·exact⟨none,0,by rw[e1,h2]⟩
  ·exact⟨_,c,e1⟩
 have hu:Tryz.prog.underlying 130=some (.array 64 5):=Tryz.underlying130
 have hsi:(Tryz.prog.info? 130).map (·.size)=some (cB bs).length:=by rw[Ze,hbs];kernel_rfl
 have hc2:w1.cell? ⟨B,2,none⟩=some (.slice va ws.length vc):=by rw[Za hat1,<-hv];rfl
 have hxs:QD (ws++[(i,bs)])=QD ws++R.toList:=by rw[hRd,hSd];simp[QD]
 rw[hv] at hown1 hvb hvB
 replace hown1:=Hd hown1
 replace hat1:=Hd hat1
 replace hO1:=Hd hO1
 replace hU1:=Hd hU1
 replace hw1:=Hd hw1
 replace hSd:=Hd hSd
 replace hRd:=Hd hRd
 replace hxs:=Hd hxs
 replace hvb:=Hd hvb
 replace hvB:=Hd hvB
 replace hv:=Hd hv
 replace hsi:=Hd hsi
 replace hR1:=Hd hR1
 have hSd0:Hid (w1.drew.rangeAt bb off (cB bs)):=hrg
 have hownd:Hid (w1.drew.ownsRow base 132 65 (.slice va ws.length vc) ws.length (QD ws)):=hown1
 have hatd:Hid (w1.drew.heap[B]? = some (.cells ((Qd n mb v armed l false).setIfInBounds 4 (.int .i64 (l-1))) T (0,0))):=hat1
 have hsd:w1.heap.size<=w1.drew.heap.size:=Nat.le_refl _
 have hcd:w1.drew.cell? ⟨B,2,none⟩=some (.slice va ws.length vc):=hc2
 have hgw:Hid (Only (λk=>k=B) w w1.drew):=Hd (hO1.out.drew)
 replace hrg:=Hd hrg
 clear hown ha c3 c4 c5 hat
 go_enter Tryz.func130,Tryz.ntmps130
 go_wp2_with fail
 with_reducible refine hth.out.mono ?_
 rintro x w2 ⟨rfl,hq⟩
 obtain rfl:=hq
 clear hth
 go_wp2_with fail
 with_reducible refine hde.out.mono ?_
 rintro x w2 ⟨rfl,hq⟩
 obtain rfl:w1=w2:=hw1.out.trans hq.symm
 clear hq hde hc hw1
 go_wp2_with fail
 refine wp_region_held_drew (S:=(λW':World=>W'.rangeAt bb off (cB bs))) kX hSd0.out (λhOn=>?_)
 generalize World.drew w1=wd at*
 refine tk 0 hOn ?_
 refine tk 1 hOn ?_
 refine tk 2 hOn ?_
 refine tk 3 hOn ?_
 refine tk 5 hOn ?_
 refine tk 6 hOn ?_
 repeat' first
  | exact AllReadyH.nil
  |
   first|refine acI 4 (λKz hKz=>?_) ?_|refine rdK 4 (λKz hKz=>?_)|refine acI 7 (λKz hKz=>?_) ?_|refine rdK 7 (λKz hKz=>?_)
   go_simp
   focus (try go_wp2_with fail)
   refine hKz.out _ _ c1X ?_
   clear hKz Kz hOn
   intro hOn
   try simp only[Act.put,sL,sZ,sS]
  |
   first|refine acI 8 (λKz hKz=>?_) ?_|refine rdK 8 (λKz hKz=>?_)
   rw[if_pos (by rfl)]
   (refine wp_load_mid 130 (.tmp 31) rfl bb off rfl (cB bs) _ hOn hu rfl hsi.out ?_)
   have hS:=hOn
   rw[<-hSd.out]
   refine hKz.out _ _ hS ?_
   clear hKz Kz hOn hS
   intro hOn
   try simp only[Act.put]
  |
   first|refine acI 9 (λKz hKz=>?_) ?_|refine rdK 9 (λKz hKz=>?_)
   rw[if_pos (by rfl)]
   (refine Wm _ (.tmp 29) (.tmp 32) rfl (.int .i64 i) (.agg S) rfl rfl _ hbuild ?_)
   have hS:=hOn
   refine hKz.out _ _ hS ?_
   clear hKz Kz hOn hS
   intro hOn
   try simp only[Act.put]
  |
   first|refine acI 10 (λKz hKz=>?_) ?_|refine rdK 10 (λKz hKz=>?_)
   rw[if_pos (by rfl)]
   (refine QZ _ _ (.tmp 33) rfl (.agg R) rfl _ _ (hslice _) ?_)
   (with_reducible refine Zq (t:=132) ?_)
   intro w5 hx5 hnew
   have hS:=XV hOn (Only.ofBelow (D:=λ_=>False) hnew) (λh=>h)
   have hown5:=Hd ((Only.ofBelow (D:=λ_=>False) hnew).owns hownd.out (λ_ _ h=>h))
   have hat5:=Hd ((hnew.block B oX).trans hatd.out)
   have hs5:=hnew.size
   have hO5:=Hd (hgw.out.trans (Only.ofBelow (D:=λk=>k=B) hnew) (λ_ _ h=>h))
   have hcd5:w5.cell? ⟨B,2,none⟩=some (.slice va ws.length vc):=(hnew.cell (p:=⟨B,2,none⟩) (by show B<_;omega)).trans hcd
   refine hKz.out _ _ hS ?_
   clear hKz Kz hOn hS
   intro hOn
   try clear hnew
   try simp only[Act.put]
  | refine QP [4,7] ?_
  | refine QP [4,8] ?_
  | refine QP [4,9] ?_
  | refine QP [4,10] ?_
  | fail
 all_goals
  refine rd 11 (λKz hKz=>?_)
  rw[if_pos (by rfl)]
  (refine D1 (.tmp 28) (.tmp 34) rfl base _ ws.length (QD ws) rfl hown5 _ R hRs hR1.out rfl hx5 hws oX ?_)
  intro v6 w6 ho6 hg6 hk6
  have hk6:=Hd hk6
  have hS:=XV hOn (Only.ofGrown (D:=λk=>(Value.slice va ws.length vc).ownBlock=some k) hg6.out (λk hk=>hk)) (λh=>hvb.out bb h rfl)
  have hat6:=Hd ((hg6.out.block B oX (λe=>hvB.out B e.symm rfl)).trans hat5.out)
  have hO6:=Hd ((hO5.out.mono (E:=λk=>k=B\/(Value.slice va ws.length vc).ownBlock=some k) (λ_ _ h=>.inl h)).trans (Only.ofGrown (D:=λk=>(Value.slice va ws.length vc).ownBlock=some k) hg6.out (λk hk=>hk)) (λ_ _ h=>.inr h))
  have hcd6:w6.cell? ⟨B,2,none⟩=some (.slice va ws.length vc):=(by rw[Za hat6.out,<-hv.out];rfl)
  have hf6:w6.frozen? ⟨B,2,none⟩=false:=Zj hat6.out _
  obtain⟨g6,c6,hv6⟩:∃ g c,v6=.slice (some ⟨g,0,none⟩) (ws.length+1) c:=(by rcases ho6.out.2 with ⟨_,h2⟩|⟨g,c,cur,e1,_⟩<;>first|omega|exact⟨g,c,e1⟩)
  subst hv6
  refine hKz.out _ _ hS ?_
  clear hKz Kz hOn hS
  intro hOn
  try simp only[Act.put]
  refine tk 12 hOn ?_
  refine tk 13 hOn ?_
  refine rd 14 (λKz hKz=>?_)
  go_simp
  have hU7:=(Upd.refl hat6.out).setCell (j:=2) (.slice (some ⟨g6,0,none⟩) (ws.length+1) c6)
  have hS:=XV hOn (Only.ofUpd hU7 rfl:Only (λk=>k=B) _ _) hbB
  replace hU7:=Hd hU7
  refine hKz.out _ _ hS ?_
  clear hKz Kz hOn hS
  intro hOn
  try simp only[Act.put]
  refine dnE ?_
 all_goals
  go_wp2_with fail
  go_ret
  refine⟨rfl,_,hU7.out.here,?_,?_,?_⟩
  ·rw[hxs.out]
   exact(Only.ofUpd hU7.out rfl:Only (λk=>k=B) _ _).owns ho6.out (λk hk e=>by
    subst e
    rcases hk6.out with h|h
    ·exact hvB.out k (h.symm.trans hk) rfl
    ·rw[hk] at h;injection h with h;omega)
  ·rw[hv.out]
   exact hO6.out.trans (Only.ofUpd hU7.out rfl:Only (λk=>k=B) _ _) (λ_ _ h=>.inl h)
  ·intro k hk
   rw[hv.out]
   rcases hk6.out with h|h
   ·exact .inl (h.symm.trans hk)
   ·rw[hk] at h;injection h with h;exact .inr oX
end Go.Proofs.YtpdhceiodgnbmaaGreatDoor
namespace Go.Proofs.YtpdhceiodgnbmaaGreatDoor
open Go.RowKit
section
variable {P:Program} {o:Oper} {a:Act} {w:World}
theorem Zt(ty:TypeId)(x:Operand)(ho:o.op=.load ty x)(g:Nat)(c:Array Value)(d:TypeDesc)
  (hx:a.eval x=.pointer (some ⟨g,0,none⟩)) (hg:w.heap[g]? = some (.cells c ty (0,0))) (hu:P.underlying ty=some d) (hd:(match d with | .struct _ | .array _ _=>true|_=>false)=true) (hi:(P.info? ty).map (·.size)=some c.size) :
  (execOp a.eval o).run P w=.ok (.value (.agg c)) w:=by
 unfold execOp
 simp only[ho,hx,Instr.loadAt,Instr.sureAddr,Sem.run_bind,Sem.run_pure,Result.andThen_ok,run_loadVar_row w g ty ty c (0,0) d hg hu hd hi]
end
def YW(k:Nat)(new old:List UInt8):List UInt8:=new.take k++old.drop k
theorem N7{k:Nat}{new old:List UInt8}(hk:k<=64)(h1:new.length=64)(h2:old.length=64):(YW k new old).length=64:=by
 simp[YW,h1,h2];omega
theorem N8(B mb mn:Nat)(f:Int->List UInt8)(i:Int)(hi1 : -9223372036854775808<=i)(hi2:i<=9223372036854775807)(bs:List UInt8)(hbs:bs.length=64)(k:Nat)(hk:k<=64)(K:Int)(hK:K=k)(w:World)(hc1:w.cell? ⟨B,1,none⟩=some (.map (some mb)))(hm:SureMap w mb mn f)(hn:mn<=1000000)(hmb:mb≠B) :
  Calls Tryz.prog 59 #[.pointer (some ⟨B,0,none⟩),.agg (#[.int .i64 i]++(cB bs).toArray),.int .i64 K] w λx w'=>x=.returned (.tuple #[])/\SureMap w' mb (mn+1) (λj=>if j=i then YW k bs (f i) else f j)/\Only (λb=>b=mb) w w':=by
 subst hK
 have hfl:(f i).length=64:=by obtain⟨_,_,_,hl,_⟩:=hm;exact hl i
 have hmlt:=hm.lt
 have hBlt:=World.block_lt_of_cell? w _ hc1
 obtain⟨R,hRd⟩:∃ R,R=#[Value.int .i64 i]++(cB bs).toArray:=⟨_,rfl⟩
 have hRs:R.size=65:=by rw[hRd];simp[Ze,hbs]
 have hR0:R[0]? = some (Value.int .i64 i):=by rw[hRd,Array.getElem?_append_left sX];rfl
 have hRj:∀ j,R[j+1]? = (cB bs)[j]? := by
  intro j
  rw[hRd,Array.getElem?_append_right sX]
  simp
 rw[<-hRd]
 obtain⟨w1,hw1⟩:∃ w1,w1=w.alloc (.cells R 132):=⟨_,rfl⟩
 have hg1:Grown w w1:=by rw[hw1];exact Grown.alloc (Grown.refl w) _
 have hx1:w1.heap[w.heap.size]? = some (.cells R 132 (0,0)):=by rw[hw1];exact heap_alloc_new w _
 have hs1:w1.heap.size=w.heap.size+1:=by rw[hw1];exact World.size_alloc ..
 have hsd:w.heap.size<w1.drew.heap.size:=by show _<w1.heap.size;omega
 have hO1:Only (λb=>b=mb) w w1:=Only.ofBelow hg1
 have hm1:SureMap w1 mb mn f:=hm.only (Only.ofBelow (D:=λ_=>False) hg1) (λh=>h)
 have hc11:w1.cell? ⟨B,1,none⟩=some (.map (some mb)):=(hg1.cell (p:=⟨B,1,none⟩) hBlt).trans hc1
 have hxB:∀ W,Grown w1.drew W->W.cell? ⟨B,1,none⟩=some (.map (some mb)):=λW hW=>(hW.cell (p:=⟨B,1,none⟩) (Nat.lt_of_lt_of_le hBlt hg1.size)).trans hc11
 have hxX:∀ W,Grown w1.drew W->W.cell? ⟨w.heap.size,0,none⟩=some (.int .i64 i):=λW hW=>(hW.cell (p:=⟨w.heap.size,0,none⟩) hsd).trans (by rw[show w1.drew.cell? ⟨w.heap.size,0,none⟩=w1.cell? ⟨w.heap.size,0,none⟩ from rfl,Za hx1];exact hR0)
 have hmW:∀ W,Grown w1.drew W->SureMap W mb mn f:=λW hW=>SureMap.only (w:=w1.drew) hm1 (Only.ofBelow (D:=λ_=>False) hW) (λh=>h)
 have hd1:Grown w1.drew w1.drew:=Grown.refl _
 have hgd:Hid (Grown w w1.drew):=Hd (Grown.drew hg1)
 have hxd:Hid (w1.drew.heap[w.heap.size]? = some (.cells R 132 (0,0))):=Hd hx1
 obtain⟨F,hFd⟩:∃ F,F=(cB (f i)).toArray:=⟨_,rfl⟩
 have hSV:YY (f i)=.agg F:=by rw[hFd];rfl
 have hFs:F.size=64:=by rw[hFd];simp[Ze,hfl]
 have hF1:F.all (·.oneCell')=true:=by
  rw[hFd,Array.all_eq_true']
  intro u hu
  exact ZI _ u (by simpa using hu)
 have hsz:(Tryz.prog.info? 130).map (·.size)=some F.size:=by rw[hFs];kernel_rfl
 have hzs:(cB zSec).toArray.size=F.size:=by rw[hFs];rfl
 have hraw:=True.intro
 have lkA:∀ W,Grown w1.drew W->∀ (o:Oper) (a:Act),o.op=Op.lookup 117 (.tmp 10) (.tmp 12) false->a.eval (.tmp 10)=.map (some mb)->a.eval (.tmp 12)=.int .i64 i->(execOp a.eval o).run Tryz.prog W=.ok (.value (.agg F)) W:=
  λW hW o a h1 h2 h3=>by
   rw[<-hSV]
   exact Ti _ _ h1 mb mn f h2 (hmW W hW) i h3 hi1 hi2
 replace hSV:=Hd hSV
 replace hFd:=Hd hFd
 replace hRd:=Hd hRd
 replace hw1:=Hd hw1
 replace hd1:=Hd hd1
 replace hRj:=Hd hRj
 replace hfl:=Hd hfl
 replace hbs:=Hd hbs
 replace hc1:=Hd hc1
 clear hm hg1 hx1 hO1 hm1 hc11 hs1
 go_enter Tryz.func59,Tryz.ntmps59
 go_wp2_with fail
 rw[<-hw1.out]
 refine wp_region_held_drew (S:=(Grown w1.drew)) kX hd1.out (λhOn=>?_)
 generalize World.drew w1=wd at*
 refine tk 0 hOn ?_
 refine tk 1 hOn ?_
 refine tk 2 hOn ?_
 refine tk 3 hOn ?_
 refine tk 4 hOn ?_
 refine tk 5 hOn ?_
 refine tk 6 hOn ?_ (v:=_) (hy:=Or.inl ⟨by rfl,λW hSW=>lkA W hSW _ _ rfl rfl rfl⟩)
 refine rd 7 (λKz hKz=>?_)
 go_simp
 focus (try go_wp2_with fail)
 (with_reducible refine Zq (t:=130) ?_)
 intro w5 hx5 hnew
 have hnew5:=Hd hnew
 have hS:=Grown.trans hOn hnew
 refine hKz.out _ _ hS ?_
 clear hKz Kz hOn hS
 intro hOn
 try clear hnew
 try simp only[Act.put,sL,sZ,sS]
 refine rd 8 (λKz hKz=>?_)
 rw[if_pos (by rfl)]
 (refine Zu 130 (.tmp 6) (.tmp 13) rfl _ (cB zSec).toArray F rfl rfl hx5 hsz hzs hF1 ?_)
 intro w6 hU6
 have hS:=Below.trans hOn (hU6.out.below nR)
 refine hKz.out _ _ hS ?_
 clear hKz Kz hOn hS
 intro hOn
 try simp only[Act.put]
 refine dnE ?_
 have hG6:=Hd (Grown.trans hgd.out hOn)
 have hR6:Hid (w6.heap[w.heap.size]? = some (.cells R 132 (0,0))):=Hd ((hOn.block _ hsd).trans hxd.out)
 have hF6:Hid (w6.heap[wd.heap.size]? = some (.cells F 130 (0,0))):=Hd hU6.out.here
 have hs6:=hU6.out.size
 have hs5:=hnew5.out.size
 have hx5l:=Zb hx5.out
 have hm6:=Hd (hmW _ hOn)
 clear hU6 hx5 hmW hxB hxX lkA hOn hnew5 hd1 hxd hgd
 generalize hGd:wd.heap.size=G at*
 have hfit:((cB bs).take k).length<=F.size:=by simp[Ze,hbs.out,hFs];omega
 have hck:((cB bs).take k).length=Nat.min 64 k:=by simp[Ze,hbs.out];rw[Nat.min_comm]
 have h1k:∀ v∈(cB bs).take k,v.oneCell'=true:=λv hv=>ZI _ v (List.mem_of_mem_take hv)
 have hsrc:Hid (∀ j v,((cB bs).take k)[j]? = some v->w6.drew.cell? ((⟨w.heap.size,1,none⟩:Addr).add j)=some v):=Hd (λj v hv=>by
  rw[Addr.add_mid,show w6.drew.cell? ⟨w.heap.size,1+j,none⟩=w6.cell? ⟨w.heap.size,1+j,none⟩ from rfl,Za hR6.out,Nat.add_comm 1 j,hRj.out j]
  rw[List.getElem?_take] at hv
  split at hv
  ·exact hv
  ·cases hv)
 have hk2:(k:Int)<=64:=oX
 have hFd6:Hid (w6.drew.heap[G]? = some (.cells F 130 (0,0))):=hF6
 have hmd6:Hid (SureMap w6.drew mb mn f):=Hd (SureMap.only hm6.out (Only.drew (Only.refl (λ_=>False) _)) (λh=>h))
 have hRd6:Hid (w6.drew.heap[w.heap.size]? = some (.cells R 132 (0,0))):=hR6
 have hGd6:Hid (Grown w w6.drew):=Hd (Grown.drew hG6.out)
 clear hF6 hm6 hR6 hG6
 go_wp2_with fail
 refine wp_region_held_drew (S:=(λ_:World=>True)) kX True.intro (λhOn=>?_)
 generalize World.drew w6=wd at*
 refine tk 0 hOn ?_
 refine tk 1 hOn ?_
 refine tk 2 hOn ?_
 refine tk 3 hOn ?_
 refine rd 4 (λKz hKz=>?_)
 rw[if_pos (by rfl)]
 (refine Hi (.tmp 15) (.tmp 17) rfl G k 64 ⟨w.heap.size,1,none⟩ 64 64 F 130 ((cB bs).take k) rfl rfl hFd6 hck hsrc.out hfit h1k ?_)
 intro w7 hU7
 have hS:=True.intro
 refine hKz.out _ _ hS ?_
 clear hKz Kz hOn hS
 intro hOn
 try simp only[Act.put]
 refine dnE ?_
 obtain⟨F7,hF7d⟩:∃ F7,F7=((cB bs).take k++F.toList.drop ((cB bs).take k).length).toArray:=⟨_,rfl⟩
 rw[<-hF7d] at hU7
 have hF7V:Value.agg F7=YY (YW k bs (f i)):=by
  rw[hF7d,hFd.out]
  unfold YY YW
  rw[Y4]
  simp[cB,hbs.out,Nat.min_eq_left hk,List.map_take,List.map_drop]
 have hF7s:F7.size=64:=by rw[hF7d];simp[Ze,hbs.out,hFs];omega
 have hol:(YW k bs (f i)).length=64:=N7 hk hbs.out hfl.out
 have hU7':=Hd (hU7.out)
 have hG7:Hid (Grown w w7.drew):=Hd (Grown.drew (Below.trans hGd6.out (hU7.out.below oX)))
 have hO7:Hid (Only (λb=>b=mb) w w7.drew):=Hd (Only.ofBelow hG7.out)
 have hc7:w7.drew.cell? ⟨B,1,none⟩=some (.map (some mb)):=(hG7.out.cell (p:=⟨B,1,none⟩) hBlt).trans hc1.out
 have hR7:w7.drew.heap[w.heap.size]? = some (.cells R 132 (0,0)):=(hU7.out.block _ oX).trans hRd6.out
 have hF7:w7.drew.heap[G]? = some (.cells F7 130 (0,0)):=hU7.out.here
 have hm7:Hid (SureMap w7.drew mb mn f):=Hd (SureMap.only hmd6.out (Only.ofUpd (D:=λb=>b=G) (hU7.out.drew) rfl) (λh=>by omega))
 have hO0:Only (λb=>b=mb) w7.drew w7.drew:=Only.refl _ _
 have hxB:∀ W,Only (λb=>b=mb) w7.drew W->W.cell? ⟨B,1,none⟩=some (.map (some mb)):=λW hW=>(World.cell?_of_block (hW.block B (World.block_lt_of_cell? _ _ hc7) (λe=>hmb e.symm))).trans hc7
 have hxX:∀ W,Only (λb=>b=mb) w7.drew W->W.cell? ⟨w.heap.size,0,none⟩=some (.int .i64 i):=λW hW=>by
  rw[Za (hW.heap hR7 oX)]
  exact hR0
 have rlA:∀ W,Only (λb=>b=mb) w7.drew W->W.heap[G]? = some (.cells F7 130 (0,0)):=λW hW=>hW.heap hF7 oX
 have huA:Tryz.prog.underlying 130=some (.array 64 5):=Tryz.underlying130
 have hzA:(Tryz.prog.info? 130).map (·.size)=some F7.size:=by rw[hF7s];kernel_rfl
 replace hO0:=Hd hO0
 replace hF7V:=Hd hF7V
 clear hU7 hU7' hF7d hG7 hc7 hR7 hF7 hsrc hRd6 hFd6 hmd6 hGd6
 go_wp2_with fail
 refine wp_region_held_drew (S:=(Only (λb=>b=mb) w7.drew)) kX hO0.out (λhOn=>?_)
 generalize World.drew w7=wd at*
 refine tk 0 hOn ?_
 refine tk 1 hOn ?_
 refine tk 2 hOn ?_
 refine tk 3 hOn ?_
 refine tk 4 hOn ?_
 refine tk 5 hOn ?_
 refine tk 6 hOn ?_ (v:=Value.agg _) (hy:=Or.inl ⟨by rfl,λW hSW=>Zt _ _ rfl _ _ _ rfl (rlA W hSW) huA rfl hzA⟩)
 refine rd 7 (λKz hKz=>?_)
 rw[if_pos (by rfl)]
 (refine Bl (.tmp 22) (.tmp 24) (.tmp 25) rfl mb mn f rfl hm7 c6X i rfl hi1 hi2 (YW k bs (f i)) hF7V.out hol ?_)
 intro w8 hm8 hg8
 have hS:=Only.trans hOn (Only.ofGrown (D:=λb=>b=mb) hg8.out (λb h=>by injection h with h;exact h.symm)) (λ_ _ h=>h)
 refine hKz.out _ _ hS ?_
 clear hKz Kz hOn hS
 intro hOn
 try simp only[Act.put]
 refine dnE ?_
 go_wp2_with fail
 go_end0
 exact⟨rfl,hm8.out,hO7.out.trans hOn (λ_ _ h=>h)⟩
section
variable {P:Program} {w:World} {ops:Array Oper} {rest:List Oper} {o:Oper} {a:Act} {Q:Exit->Act->World->Prop}
theorem KO(w:World)(base:Nat)(t ty e:TypeId)(i:TypeInfo)(z:Value)(bytes:Nat)(ht:P.underlying t=some (.slice e))(hi:P.info? e=some i)(hz:i.zero=some z)
  (hsize:i.size=1) (hby:i.bytes=bytes) (hzs:z.cells.size=1)
  (v:Value) (n:Nat) (xs:List Value) (hown:w.ownsRow base e 1 v n xs)
  (ad:Addr) (m c:Nat) (news:List Value) (hl:news.length=m) (hnews:∀ j u,news[j]? = some u->w.cell? (ad.add j)=some u) (h1:∀ u∈news,u.oneCell'=true)
  (h63:n+m<=maxLen) (hbytes:(n+m)*bytes<=140737488355328) (hbase:base<=w.heap.size) :
  ∃ v' w',(Builtin.append_ #[t,t] ty #[v,.slice (some ad) m c]).run P w=.ok v' w'/\w'.ownsRow base e 1 v' (n+m) (xs++news)/\w.grownBy w' v.ownBlock/\JH w v v':=by
 subst hby
 obtain⟨v',w',hr,h2,h3,_⟩:=run_append_own (P:=P) w base t ty e i z 1 i.bytes ht hi hz hsize rfl hzs oX v n xs hown ad m c news (by rw[hl,Nat.mul_one]) hnews h1 h63 hbytes hbase
 refine⟨v',w',hr,h2,h3,?_⟩
 have hlm:news.length=m*i.size:=by rw[hl,hsize,Nat.mul_one]
 have hm63:n+m<=9223372036854775807:=by unfold maxLen at h63;omega
 rcases hown.2 with ⟨rfl,rfl⟩|⟨g,cap,cur,rfl,hbg,hg,hnc,hcm,hcs,htake⟩
 ·by_cases hm:m=0
  ·subst hm
   have hv:=h2.2
   rcases hv with ⟨rfl,_⟩|⟨g,cap,cur,rfl,hbg,hg,_⟩
   ·intro k hk;simp[Value.ownBlock] at hk
   ·have hn:news=[]:=List.eq_nil_of_length_eq_zero hl
    subst hn
    exfalso
    have:(Builtin.append_ #[t,t] ty #[.slice none 0 0,.slice (some ad) 0 c]).run P w=.ok (.slice none 0 0) w:=by
     simp[Builtin.append_,run_underlying ht,sizeOf,typeInfo,hi,Builtin.lenOf,Builtin.firstCells,loadCells,loadCellsFrom]
    rw[this] at hr
    cases hr
  ·have hr2:=run_append_nil (P:=P) w t ty e i z ht hi hz ad m c news hlm hnews oX oX (by have hb:=hbytes;simp only[Nat.zero_add] at hb;omega)
   rw[hr] at hr2
   injection hr2 with e1 e2
   subst e1
   intro k hk
   simp[Value.ownBlock] at hk
   exact .inr oX
 ·by_cases hroom:n+m<=cap
  ·have hcs1:cur.size=cap:=by simpa using hcs
   have hr2:=run_append_room (P:=P) w t ty e i ht hi g n cap cur hg ad m c news hlm hnews h1 hroom (by rw[hsize,hl,Nat.mul_one,hcs1];exact hroom)
   rw[hr] at hr2
   injection hr2 with e1 e2
   subst e1
   intro k hk
   exact .inl hk
  ·have holds:∀ j u,xs[j]? = some u->w.cell? ((⟨g,0,none⟩:Addr).add j)=some u:=hown.cells (g:=g) rfl
   have hxl:xs.length=n*i.size:=by rw[hown.1,hsize]
   have hr2:=run_append_grow (P:=P) w t ty e i z ht hi hz ⟨g,0,none⟩ n cap xs hxl holds ad m c news hlm hnews oX oX (growslice_fits oX hbytes)
   rw[hr] at hr2
   injection hr2 with e1 e2
   subst e1
   intro k hk
   simp[Value.ownBlock] at hk
   exact .inr oX
end
section
variable {w:World} {ops:Array Oper} {rest:List Oper} {o:Oper} {a:Act} {Q:Exit->Act->World->Prop}
end
theorem Xa{K:Act->World->Prop}{Q:Exit->Act->World->Prop}{o:Oper}{a:Act}{w:World}(s x:Operand)(ho:o.op=.call { callee:=.builtin .append,args:=#[s,x],argTypes:=#[24,24] })
  (base:Nat) (v:Value) (bs:List UInt8) (hs:a.eval s=v) (hown:Hid (OwnB base w v bs))
  (ad:Addr) (c:Nat) (ys:List UInt8) (m:Nat) (hx:a.eval x=.slice (some ad) m c) (hm:Hid (ys.length=m)) (hy:Hid (ArgB w (some ad) c ys)) (hl:bs.length<=1000000) (hl2:m<=1000000) (hbase:base<=w.heap.size)
  (h:∀ v' w',Hid (OwnB base w' v' (bs++ys))->Hid (w.grownBy w' v.ownBlock)->Hid (JH w v v')->K (a.put o.dst v') w'):o.wp Tryz.prog a w K Q:=by
 obtain⟨i0,hi,hz0,hz1,hz2⟩:=info_parts Tryz.infoByteP
 have had:∀ j u,(cB ys)[j]? = some u->w.cell? (ad.add j)=some u:=by
  intro j u hu
  have hj:j<(cB ys).length:=(List.getElem?_eq_some_iff.1 hu).1
  have hat:=At.ofB hy.out.row
  obtain⟨b,off,e,_⟩:=hat j hj
  cases e
  refine VR (λi hi=>?_) j u hu
  obtain⟨b',off',e',hc⟩:=hat i hi
  cases e'
  exact hc
 obtain⟨v',w',hr,h2,h3,h4⟩:=KO (P:=Tryz.prog) w base 24 o.type 5 i0 (.int .u8 0) 1 Tryz.underlying24 hi hz0 hz1 hz2 rfl v bs.length (cB bs) hown.out ad m c (cB ys) (by rw[Ze];exact hm.out) had (ZI ys) c6X oX hbase
 unfold Oper.wp execOp
 simp only[ho,resolve,invoke,builtin,Sem.run_bind,Sem.run_pure,Result.andThen_ok,List.map_toArray,List.map_cons,List.map_nil,hs,hx,hr]
 refine h v' w' (Hd ?_) (Hd h3) (Hd h4)
 unfold OwnB
 rw[Y4,List.length_append,hm.out]
 exact h2
def RB(w:World)(F:Nat->Prop)(bs:List UInt8)(cs:List Value):Prop:=∃ a c,cs=[.slice a bs.length c]/\ArgB w a c bs/\∀ b o s,a=some ⟨b,o,s⟩->F b
theorem liesRB:LiesOk RB 1:=by
 refine⟨?_,?_,?_⟩
 ·rintro w w' D F x cs ⟨a,c,rfl,h1,h2⟩ hO hF
  exact⟨a,c,rfl,hO.argB h1 (λb o e=>hF b (h2 b o none e)),h2⟩
 ·rintro w F F' x cs ⟨a,c,rfl,h1,h2⟩ hF
  exact⟨a,c,rfl,h1,λb o s e=>hF b (h2 b o s e)⟩
 ·rintro w F x cs ⟨a,c,rfl,h1,h2⟩
  refine⟨rfl,λu hu=>?_⟩
  simp at hu
  subst hu
  rfl
theorem G8{base:Nat}{w:World}{v:Value}{bs:List UInt8}(h:OwnB base w v bs):RB w (λk=>v.ownBlock=some k) bs [v]:=by
 obtain⟨a,c,rfl,h1,_⟩:=h.arg
 exact⟨a,c,rfl,h1,λb o s e=>by subst e;rfl⟩
end Go.Proofs.YtpdhceiodgnbmaaGreatDoor
