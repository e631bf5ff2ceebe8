import Derived.Test.YtdilmfnpkeihiaaGreatDoorF0AudSaid
import Derived.Test.YtdilmfnpkeihiaaGreatDoorF2AudSaid
import Derived.Laws.BitsAllLaws
import Derived.IntWalk
import Derived.Test.YtdilmfnpkeihiaaGreatDoorF12AudSaid
import Derived.Test.YtdilmfnpkeihiaaGreatDoorF4AudSaid
import Derived.Maps.Own
import Derived.Maps.Views
import Derived.Maps.OwnOps
import Derived.Test.YtdilmfnpkeihiaaGreatDoorF13AudSaid
import Derived.Test.YtdilmfnpkeihiaaGreatDoorF6AudSaid
set_option linter.unusedVariables false
set_option linter.unusedSimpArgs false
set_option linter.unnecessarySimpa false
set_option maxRecDepth 100000
set_option maxHeartbeats 8000000
namespace Go.Proofs.YtdilmfnpkeihiaaGreatDoor
open Go.RowKit
theorem U8(n:Nat)(h:n<9223372036854775808):IntKind.i64.wrap (n:Int)=(n:Int):=IntWalk.i64_in (n:Int) oX
theorem Nl(a b:Nat)(ha:a<9223372036854775808)(hb:b<9223372036854775808):bits .xor .i64 (a:Int) (b:Int)=((a ^^^ b:Nat):Int):=by
 have hx:a ^^^ b<2 ^ 63:=Nat.xor_lt_two_pow oX oX
 show IntKind.i64.wrap ((BitVec.ofInt 64 (a:Int) ^^^ BitVec.ofInt 64 (b:Int)).toNat:Int)=_
 rw[BitVec.toNat_xor,ofInt_u64 a oX,ofInt_u64 b oX]
 exact U8 _ oX
theorem Ud(a b:Nat)(ha:a<9223372036854775808)(hb:b<9223372036854775808):bits .or .i64 (a:Int) (b:Int)=((a ||| b:Nat):Int):=by
 have hx:a ||| b<2 ^ 63:=Nat.or_lt_two_pow oX oX
 show IntKind.i64.wrap ((BitVec.ofInt 64 (a:Int) ||| BitVec.ofInt 64 (b:Int)).toNat:Int)=_
 rw[BitVec.toNat_or,ofInt_u64 a oX,ofInt_u64 b oX]
 exact U8 _ oX
theorem KX(a b k:Nat)(ha:a<1048576)(hk:k<=20)(hb:b<2 ^ k):bits .or .i64 (wrap64 ((a:Int)*(2:Int) ^ k)) (b:Int)=((a*2 ^ k+b:Nat):Int):=by
 have hp2:2 ^ k<=2 ^ 20:=Nat.pow_le_pow_right oX hk
 have hm:a*2 ^ k<1048576*2 ^ 20:=Nat.lt_of_le_of_lt (Nat.mul_le_mul_left _ hp2) (Nat.mul_lt_mul_of_pos_right ha dX)
 have e:(a:Int)*(2:Int) ^ k=((a*2 ^ k:Nat):Int):=sX
 have h2:=Nat.shiftLeft_add_eq_or_of_lt hb a
 rw[Nat.shiftLeft_eq] at h2
 rw[e,h2]
 obtain⟨y,hy⟩:∃ y,y=a*2 ^ k:=⟨_,rfl⟩
 rw[<-hy] at hm ⊢
 rw[IntWalk.wrap64_in (y:Int) oX]
 exact Ud y b oX oX
open Go.RowKit Go.Maps
def Qe(bs:List UInt8):Value:=.agg (cB bs).toArray
theorem Nh{a b:List UInt8}(h:cB a=cB b):a=b:=by
 have:∀ (a b:List UInt8),cB a=cB b->a=b:=by
  intro a
  induction a with
  | nil=>intro b h;cases b with
   | nil=>rfl
   | cons y b=>simp[cB] at h
  | cons x a ih=>
   intro b h
   cases b with
   | nil=>simp[cB] at h
   | cons y b=>
    simp only[cB,List.map_cons,List.cons.injEq,Value.int.injEq,true_and] at h
    have h1:x=y:=UInt8.toNat_inj.1 oX
    rw[h1,ih b h.2]
 exact this a b h
theorem K7{a b:List UInt8}(h:Qe a=Qe b):a=b:=by
 unfold Qe at h
 injection h with h
 exact Nh (by simpa using congrArg Array.toList h)
open Classical in
noncomputable def JA(v:Value):Option (DataW Unit×List MemPlace):=if h:∃ bs:List UInt8,bs.length=64/\v=Qe bs then some (.lit (.string h.choose),[]) else none
theorem XF{bs:List UInt8}(hl:bs.length=64):JA (Qe bs)=some (.lit (.string bs),[]):=by
 have h:∃ b:List UInt8,b.length=64/\Qe bs=Qe b:=⟨bs,hl,rfl⟩
 unfold JA
 rw[dif_pos h,<-K7 h.choose_spec.2]
theorem Jy{v:Value}{bs:List UInt8}{ps:List MemPlace}(h:JA v=some (.lit (.string bs),ps)):v=Qe bs/\bs.length=64:=by
 unfold JA at h
 split at h
 ·next hh=>
  have e:hh.choose=bs:=by
   injection h with h
   injection h with h1 _
   injection h1 with h1
   injection h1
  rw[<-e]
  exact⟨hh.choose_spec.2,hh.choose_spec.1⟩
 ·cases h
def zSec:List UInt8:=List.replicate 64 0
def SureMap(w:World)(b n:Nat)(f:Int->List UInt8):Prop:=
 ∃ D:DataW Unit,w.ownsMap Tryz.prog 3 JA b n D/\IsMap D/\(∀ i,(f i).length=64)/\∀ i,-9223372036854775808<=i->i<=9223372036854775807->D.atKey (.int .i64 i) (.lit (.string zSec))=.lit (.string (f i))
theorem SureMap.made(w:World):SureMap (w.alloc (.map #[] 0)) w.heap.size 0 (λ_=>zSec):=
 ⟨_,World.ownsMap_made w _ _ _,isMap_empty,λ_=>by simp[zSec],λ_ _ _=>rfl⟩
theorem SureMap.lt{w:World}{b n:Nat}{f:Int->List UInt8}(h:SureMap w b n f):b<w.heap.size:=by obtain⟨D,h,_⟩:=h;exact h.lt
theorem SureMap.only{w w':World}{b n:Nat}{f:Int->List UInt8}{D:Nat->Prop}(h:SureMap w b n f)(hO:Only D w w')(hd:¬D b):SureMap w' b n f:=by
 obtain⟨E,⟨es,clock,hb,F,hs,he⟩,h2,h3,h4⟩:=h
 exact⟨E,⟨es,clock,(hO.block b (Zb hb) hd).trans hb,F,hs,he⟩,h2,h3,h4⟩
theorem XH{i:Int}(h1 : -9223372036854775808<=i)(h2:i<=9223372036854775807):keyOf Tryz.prog 3 (.int .i64 i)=some (.int .i64 i):=
 keyOf_int_mk Tryz.underlying3 (WalkArith.wf_i64 ⟨h1,h2⟩)
theorem YX(w:World):(zeroValue 230).run Tryz.prog w=.ok (Qe zSec) w:=by
 rw[show Qe zSec=.agg (cB zSec).toArray from rfl]
 kernel_rfl
section
variable {w:World} {ops:Array Oper} {rest:List Oper} {o:Oper} {a:Act} {Q:Exit->Act->World->Prop}
theorem JZ(hg:o.guard=none)(m x:Operand)(hop:o.op=Op.lookup 97 m x false)(b n:Nat)(f:Int->List UInt8)(hm:a.eval m=.map (some b))(h:Hid (SureMap w b n f))
  (i:Int) (hx:a.eval x=.int .i64 i) (h1 : -9223372036854775808<=i) (h2:i<=9223372036854775807) (hK:wpList Tryz.prog ops Q rest (a.put o.dst (Qe (f i))) w):wpList Tryz.prog ops Q (o::rest) a w:=by
 refine wpList_plain hg λK' hK'=>?_
 obtain⟨D,ho,hD,hl,hat⟩:=h.out
 obtain⟨v,ps,hrun,hv⟩:=ho.lookup (int_keyed Tryz.underlying3) Tryz.underlying97 (YX w) (XF (by simp[zSec])) (XH h1 h2)
 rw[hat i h1 h2] at hv
 obtain⟨rfl,_⟩:=Jy hv
 unfold Oper.wp
 simp[execOp,hop,hm,hx,hrun,Result.andThen]
 exact hK' _ _ hK
end
structure DErr (w:World) (e:Nat->Addr):Prop where
 range:w.cell? ⟨0,0,none⟩=some (.iface 264 (.pointer (some (e 0))))
 size:w.cell? ⟨7,0,none⟩=some (.iface 264 (.pointer (some (e 1))))
 power:w.cell? ⟨14,0,none⟩=some (.iface 264 (.pointer (some (e 2))))
def Zx(n:Int)(b:Nat)(v:Value)(armed:Bool)(left:Int)(gone:Bool):Array Value:=#[.int .i64 n,.map (some b),v,.bool armed,.int .i64 left,.bool gone]
theorem Gf(n:Int)(h1:1<=n)(h2:n<=2048)(w:World):Calls Tryz.prog 19 #[.int .i64 n] w λx w'=>x=.returned (.tuple #[.pointer (some ⟨w.heap.size+1,0,none⟩),.nilIface])/\w'=(w.alloc (.map #[] 0)).alloc (.cells (Zx n w.heap.size (.slice none 0 0) false 0 false) 100):=by
 have hmm:=@run_makeMap Tryz.prog
 go_enter Tryz.func19,Tryz.ntmps19
 go_wp2_with fail
 go_ret2
 exact⟨rfl,rfl⟩
theorem Qx(B:Nat)(n i:Int)(h0:0<=i)(h1:i<n)(w:World)(hc:w.cell? ⟨B,0,none⟩=some (.int .i64 n)):Calls Tryz.prog 113 #[.pointer (some ⟨B,0,none⟩),.int .i64 i] w λx w'=>x=.returned .nilIface/\w=w':=by
 have h2:¬i<0:=oX
 have h3:¬n<=i:=oX
 go_enter Tryz.func113,Tryz.ntmps113
 go_wp2_with fail
 go_ret
 exact⟨rfl,rfl⟩
theorem UN(B:Nat)(n i:Int)(h:i<0\/n<=i)(w:World)(hc:w.cell? ⟨B,0,none⟩=some (.int .i64 n))(e:Nat->Addr)(hE:DErr w e):Calls Tryz.prog 113 #[.pointer (some ⟨B,0,none⟩),.int .i64 i] w λx w'=>x=.returned (.iface 264 (.pointer (some (e 0))))/\w=w':=by
 have hk:=hE.range
 by_cases hn:i<0
 ·go_enter Tryz.func113,Tryz.ntmps113
  go_wp2_with fail
  go_ret
  exact⟨rfl,rfl⟩
 ·have hm:n<=i:=oX
  clear h
  go_enter Tryz.func113,Tryz.ntmps113
  go_wp2_with fail
  go_ret
  exact⟨rfl,rfl⟩
theorem J1(B:Nat)(armed:Bool)(l:Int)(h:armed=true->l≠0)(hl : -1000000<=l/\l<=9223372036854775807)(w:World)(c3:w.cell? ⟨B,3,none⟩=some (.bool armed))(c4:w.cell? ⟨B,4,none⟩=some (.int .i64 l))(c5:w.cell? ⟨B,5,none⟩=some (.bool false))(f4:w.frozen? ⟨B,4,none⟩=false) :
  Calls Tryz.prog 119 #[.pointer (some ⟨B,0,none⟩)] w λx w'=>x=.returned .nilIface/\w'=w.setCell ⟨B,4,none⟩ (.int .i64 (l-1)):=by
 have hw:IntKind.i64.wrap (l-1)=l-1:=IntWalk.i64_in _ oX
 cases armed
 ·clear h
  go_enter Tryz.func119,Tryz.ntmps119
  go_wp2_with fail
  go_ret
  exact⟨rfl,rfl⟩
 ·have h0:(l==0)=false:=by simpa using h rfl
  clear h
  go_enter Tryz.func119,Tryz.ntmps119
  go_wp2_with fail
  go_ret
  exact⟨rfl,rfl⟩
theorem VF(B:Nat)(armed:Bool)(l:Int)(h:armed=true->l≠0)(w:World)(e:Nat->Addr)(hE:DErr w e)(c3:w.cell? ⟨B,3,none⟩=some (.bool armed))(c4:w.cell? ⟨B,4,none⟩=some (.int .i64 l))(c5:w.cell? ⟨B,5,none⟩=some (.bool true)) :
  Calls Tryz.prog 119 #[.pointer (some ⟨B,0,none⟩)] w λx w'=>x=.returned (.iface 264 (.pointer (some (e 2))))/\w=w':=by
 have hk:=hE.power
 cases armed
 ·clear h
  go_enter Tryz.func119,Tryz.ntmps119
  go_wp2_with fail
  go_ret
  exact⟨rfl,rfl⟩
 ·have h0:(l==0)=false:=by simpa using h rfl
  clear h
  go_enter Tryz.func119,Tryz.ntmps119
  go_wp2_with fail
  go_ret
  exact⟨rfl,rfl⟩
def Kg(w:World)(g:Nat)(bs:List UInt8):Prop:=w.heap[g]? = some (.cells (cB bs).toArray 230 (0,0))
theorem UP(B mb mn:Nat)(f:Int->List UInt8)(n i:Int)(h0:0<=i)(h1:i<n)(hn:n<=2048)(w:World)(hc:w.cell? ⟨B,0,none⟩=some (.int .i64 n))(hc1:w.cell? ⟨B,1,none⟩=some (.map (some mb)))(hm:SureMap w mb mn f) :
  Calls Tryz.prog 115 #[.pointer (some ⟨B,0,none⟩),.int .i64 i] w λx w'=>∃ g,x=.returned (.tuple #[.slice (some ⟨g,0,none⟩) 64 64,.nilIface])/\Kg w' g (f i)/\w.heap.size<=g/\Below w.heap.size w w':=by
 have hth:=Hd (Qx B n i h0 h1 w hc)
 have hl:(f i).length=64:=by obtain⟨_,_,_,hl,_⟩:=hm;exact hl i
 replace hm:=Hd hm
 have hi1 : -9223372036854775808<=i:=oX
 have hi2:i<=9223372036854775807:=oX
 obtain⟨S,hSd⟩:∃ S,S=(cB (f i)).toArray:=⟨_,rfl⟩
 have hSV:Qe (f i)=.agg S:=by rw[hSd];rfl
 have hSs:S.size=64:=by rw[hSd];simp[Zc,hl]
 have hS1:S.all (·.oneCell')=true:=by
  rw[hSd,Array.all_eq_true']
  intro u hu
  exact Zs _ u (by simpa using hu)
 have hz:(w.alloc (.cells (cB zSec).toArray 230)).heap[w.heap.size]? = some (.cells (cB zSec).toArray 230 (0,0)):=heap_alloc_new w _
 have hsz:(Tryz.prog.info? 230).map (·.size)=some S.size:=by rw[hSs];kernel_rfl
 have hzs:(cB zSec).toArray.size=S.size:=by rw[hSs];rfl
 have hgrow:Below w.heap.size w (w.alloc (.cells (cB zSec).toArray 230)):=bR.alloc nR _
 replace hSV:=Hd hSV
 replace hSd:=Hd hSd
 replace hz:=Hd hz
 replace hgrow:=Hd hgrow
 replace hl:=Hd hl
 go_enter Tryz.func115,Tryz.ntmps115
 go_wp2_with fail
 with_reducible refine hth.out.mono ?_
 rintro x w2 ⟨rfl,hq⟩
 obtain rfl:=hq
 clear hth
 go_wp2_with (first
  | (at_lookup;go_must (refine JZ rfl _ _ rfl mb mn f rfl hm i rfl hi1 hi2 ?_);rw[hSV.out])
  | (refine Zd rfl 230 (.tmp 7) (.tmp 19) rfl w.heap.size _ S rfl rfl hz hsz hzs hS1 ?_;intro w3 hU3))
 go_ret2
 exact⟨_,rfl,by rw[Kg,<-hSd.out];exact hU3.out.here,Nat.le_refl _,hgrow.out.trans (hU3.out.below nR)⟩
end Go.Proofs.YtdilmfnpkeihiaaGreatDoor
