import Derived.Test.YtdilmfnpkeihiaaGreatDoorF0AudSaid
import Derived.Test.YtdilmfnpkeihiaaGreatDoorF2AudSaid
import Derived.Test.YtdilmfnpkeihiaaGreatDoorF26AudSaid
import Derived.RangeFuncBox
import Derived.RangeFuncLeaves
import Derived.RangeFuncCalls
import Derived.RangeFuncNested
import Derived.Shelf.Abstract
import Derived.OwnWalkIn
import Derived.TacticsInMore
import Derived.LoopNIn
import Derived.LoopIn
import Derived.Test.YtdilmfnpkeihiaaGreatDoorF24AudSaid
set_option linter.unusedVariables false
set_option linter.unusedSimpArgs false
set_option linter.unnecessarySimpa false
set_option maxRecDepth 100000
set_option maxHeartbeats 8000000
namespace Go.Proofs.YtdilmfnpkeihiaaGreatDoor
open Go.RowKit
structure DiskOk (base:Nat) (w:World) (B:Nat) (T:TypeId) (n:Int) (mb mn:Nat) (f:Int->List UInt8) (v:Value) (ws:List (Int×List UInt8)) (armed:Bool) (l:Int) (gone:Bool):Prop where
 at_:w.heap[B]? = some (.cells (Zx n mb v armed l gone) T (0,0))
 map:SureMap w mb mn f
 row:w.ownsRow base 232 65 v ws.length (Z7 ws)
 hmB:mb≠B
 vB:∀ k,v.ownBlock=some k->k≠B/\k≠mb
 geB:base<=B
 gem:base<=mb
 lens:∀ p∈ws,p.2.length=64/\0<=p.1/\p.1<n
def Z8(B mb:Nat)(v:Value)(k:Nat):Prop:=k=B\/k=mb\/v.ownBlock=some k
theorem DiskOk.only{base:Nat}{w w':World}{B:Nat}{T:TypeId}{n:Int}{mb mn:Nat}{f:Int->List UInt8}{v:Value}{ws:List (Int×List UInt8)}{armed:Bool}{l:Int}{gone:Bool}{D:Nat->Prop}(h:DiskOk base w B T n mb mn f v ws armed l gone)(hO:Only D w w')(hd:∀ k,Z8 B mb v k->¬D k):DiskOk base w' B T n mb mn f v ws armed l gone:=
 ⟨hO.heap h.at_ (hd B (.inl rfl)),h.map.only hO (hd mb (.inr (.inl rfl))),hO.owns h.row (λk hk=>hd k (.inr (.inr hk))),h.hmB,h.vB,h.geB,h.gem,h.lens⟩
theorem DiskOk.lt{base:Nat}{w:World}{B:Nat}{T:TypeId}{n:Int}{mb mn:Nat}{f:Int->List UInt8}{v:Value}{ws:List (Int×List UInt8)}{armed:Bool}{l:Int}{gone:Bool}(h:DiskOk base w B T n mb mn f v ws armed l gone):∀ k,Z8 B mb v k->base<=k/\k<w.heap.size:=by
 rintro k (rfl|rfl|hk)
 ·exact⟨h.geB,Zb h.at_⟩
 ·exact⟨h.gem,h.map.lt⟩
 ·exact World.ownsRow.lt h.row k hk
def ZI:(Nat->Option Nat)->List (Int×List UInt8)->(Int->List UInt8)->Int->List UInt8
 | _,[],f=>f
 | ks,p::ws,f=>ZI (λj=>ks (j+1)) ws (match ks 0 with
  | some k=>λj=>if j=p.1 then Q7 k p.2 (f p.1) else f j
  | none=>f)
theorem VU(ws:List (Int×List UInt8)):∀ (ks:Nat->Option Nat) (p:Int×List UInt8) (f:Int->List UInt8),ZI ks (ws++[p]) f=match ks ws.length with
  | some k=>λj=>if j=p.1 then Q7 k p.2 (ZI ks ws f p.1) else ZI ks ws f j
  | none=>ZI ks ws f:=by
 induction ws with
 | nil=>intro ks p f;rfl
 | cons q ws ih=>
  intro ks p f
  rw[List.cons_append]
  unfold ZI
  rw[ih]
  rfl
theorem Uc{ws:List (Int×List UInt8)}{j:Nat}(hj:j<ws.length)(ks:Nat->Option Nat)(f:Int->List UInt8):ZI ks (ws.take (j+1)) f=match ks j with
  | some k=>λx=>if x=ws[j].1 then Q7 k ws[j].2 (ZI ks (ws.take j) f ws[j].1) else ZI ks (ws.take j) f x
  | none=>ZI ks (ws.take j) f:=by
 rw[List.take_succ_eq_append_getElem hj,VU,List.length_take,Nat.min_eq_left (Nat.le_of_lt hj)]
theorem Uy{ws:List (Int×List UInt8)}(h:∀ p∈ws,p.2.length=64):∀ (j:Nat) (hj:j<ws.length) (i:Nat) (u:Value),(Value.int .i64 ws[j].1::cB ws[j].2)[i]? = some u->(Z7 ws)[j*65+i]? = some u:=by
 induction ws with
 | nil=>intro j hj;exact absurd hj (Nat.not_lt_zero _)
 | cons p ws ih=>
  intro j hj i u hu
  have hp:=h p (List.mem_cons_self ..)
  have hl:(Value.int IntKind.i64 p.1::cB p.2).length=65:=by simp[Zc,hp]
  cases j with
  | zero=>
   simp only[List.getElem_cons_zero] at hu
   show (Value.int IntKind.i64 p.1::cB p.2++Z7 ws)[0*65+i]? = some u
   have hi:=(List.getElem?_eq_some_iff.1 hu).1
   rw[Nat.zero_mul,Nat.zero_add,List.getElem?_append_left hi]
   exact hu
  | succ j=>
   show (Value.int IntKind.i64 p.1::cB p.2++Z7 ws)[(j+1)*65+i]? = some u
   rw[List.getElem?_append_right oX,hl,show (j+1)*65+i-65=j*65+i by omega]
   exact ih (λq hq=>h q (List.mem_cons_of_mem _ hq)) j (by simpa using hj) i u hu
theorem XV{base:Nat}{w:World}{g m cap:Nat}{ws:List (Int×List UInt8)}(h:w.ownsRow base 232 65 (.slice (some ⟨g,0,none⟩) m cap) ws.length (Z7 ws))(hl:∀ p∈ws,p.2.length=64)(j:Nat)(hj:j<ws.length) :
  w.rangeAt g (j*65) (.int .i64 ws[j].1::cB ws[j].2):=by
 intro i u hu
 rcases h.2 with ⟨e,_⟩|⟨g',cap',cur,e1,_,e3,_,_,e6,e7⟩
 ·cases e
 ·cases e1
  rw[Za e3,<-Array.getElem?_toList]
  have h1:=Uy hl j hj i u hu
  rw[<-e7,List.getElem?_take] at h1
  split at h1
  ·exact h1
  ·cases h1
open Go.RowKit Go.Shelf
attribute [local go_sem] Oper.semAt_some
section
variable {F:Fence} {n:Nat} {P:Program} {w:World} {ops:Array Oper} {rest:List Oper} {o:Oper} {a:Act} {Q:Exit->Act->World->Prop}
theorem YO(hgd:o.guard=none)(ty:TypeId)(x:Operand)(ho:o.op=.load ty x)(b off:Nat)(hx:a.eval x=.pointer (some ⟨b,off,none⟩))(cs:List Value)(d:TypeDesc)(hc:w.rangeAt b off cs)
  (hu:P.underlying ty=some d) (hd:d.isRow=true) (hi:(P.info? ty).map (·.size)=some cs.length) (h:wpListIn F n P ops Q rest (a.put o.dst (.agg cs.toArray)) w):wpListIn F n P ops Q (o::rest) a w:=by
 refine wpListIn_plain hgd λK hK=>?_
 unfold Oper.wpIn
 refine⟨by simp[Oper.about,ho],?_⟩
 rw[Oper.semAt_plain F _ _ (by rw[ho];intro c hc';cases hc')]
 unfold execOp
 simp only[ho,hx,Instr.loadAt,Instr.sureAddr,Sem.run_bind,Sem.run_pure,Result.andThen_ok,run_loadVar_mid w b off ty cs d hc hu hd hi]
 exact hK _ _ h
theorem Y1(hgd:o.guard=none)(ty:TypeId)(x y:Operand)(ho:o.op=.store ty x y)(g:Nat)(c c':Array Value)
  (hx:a.eval x=.pointer (some ⟨g,0,none⟩)) (hy:a.eval y=.agg c') (hg:Hid (w.heap[g]? = some (.cells c ty (0,0)))) (hi:(P.info? ty).map (·.size)=some c'.size) (hs:c.size=c'.size) (h1:c'.all (·.oneCell')=true)
  (h:∀ w',Hid (Upd g (.cells c' ty (0,0)) w w')->wpListIn F n P ops Q rest (a.put o.dst undef) w'):wpListIn F n P ops Q (o::rest) a w:=by
 refine wpListIn_plain hgd λK hK=>?_
 have h2:=hK _ _ (h _ (Hd (Upd.setRow (cs:=c') hg.out)))
 unfold Oper.wpIn
 refine⟨by simp[Oper.about,ho],?_⟩
 rw[Oper.semAt_plain F _ _ (by rw[ho];intro c hc';cases hc')]
 unfold execOp
 simp only[ho,hx,hy,Instr.storeAt,Instr.sureAddr,Sem.run_bind,Sem.run_pure,Result.andThen_ok,run_storeVar_row w g ty ty c c' hg.out hi hs h1]
 exact h2
end
def ZN{α:Type}(f:Nat->α)(k:Nat):List α:=(List.range k).map f
theorem Xn{α:Type}(f:Nat->α)(k:Nat):ZN f (k+1)=ZN f k++[f k]:=by simp[ZN,List.range_succ]
theorem JC{α:Type}(f:Nat->α)(k:Nat):(ZN f k).length=k:=by simp[ZN]
def YN(l:List UInt8):List UInt8:=(l++zSec).take 64
theorem U5(l:List UInt8):(YN l).length=64:=by simp[YN,zSec]
theorem Jz{l:List UInt8}(h:l.length=64):YN l=l:=by unfold YN;rw[<-h,List.take_left]
def wR(p:Int×List UInt8):Array Value:=#[Value.int .i64 p.1]++(cB (YN p.2)).toArray
theorem XN(p:Int×List UInt8):(wR p).toList=.int .i64 p.1::cB (YN p.2):=by simp[wR]
theorem YM(p:Int×List UInt8):(wR p).size=65:=by simp[wR,Zc,U5]
theorem GW(p:Int×List UInt8):(wR p).all (·.oneCell')=true:=by
 rw[Array.all_eq_true']
 intro u hu
 have hu:=Array.mem_toList_iff.2 hu
 rw[XN] at hu
 rcases List.mem_cons.1 hu with rfl|hu
 ·rfl
 ·exact Zs _ u hu
def VL(x:Nat×(Int×List UInt8)):Array Value:=#[.int .i64 (x.1:Int),.agg (wR x.2)]
def ZQ(ws:List (Int×List UInt8))(k:Nat):Nat×(Int×List UInt8):=(ws.length-1-k,ws.getD (ws.length-1-k) (0,[]))
def RowNW(n₀:Nat)(w:World)(a:Option Addr)(ws:List (Int×List UInt8)):Prop:=
 ∀ i,i<ws.length->∃ g,a=some ⟨g,0,none⟩/\g<n₀/\(ws.getD i (0,[])).2.length=64/\w.rangeAt g (i*65) (wR (ws.getD i (0,[]))).toList
theorem RowNW.below{n₀:Nat}{A B:World}(h:Below n₀ A B){a:Option Addr}{ws:List (Int×List UInt8)}(hr:RowNW n₀ A a ws):RowNW n₀ B a ws:=by
 intro i hi
 obtain⟨g,rfl,hg,hl,hc⟩:=hr i hi
 exact⟨g,rfl,hg,hl,λj v hv=>(h.cell (p:=⟨g,i*65+j,none⟩) hg).trans (hc j v hv)⟩
def KeepW(n₀ Bs:Nat)(W W':World):Prop:=Below n₀ W W'/\W'.heap[Bs]? = W.heap[Bs]?
theorem KeepW.refl(n₀ Bs:Nat)(W:World):KeepW n₀ Bs W W:=⟨Below.refl _ _,rfl⟩
theorem Vz{n₀ Bs:Nat}{A B C:World}(h:KeepW n₀ Bs A B)(k:KeepW n₀ Bs B C):KeepW n₀ Bs A C:=⟨h.1.trans k.1,k.2.trans h.2⟩
theorem GC{n₀ Bs:Nat}{w:World}(hn:n₀<=w.heap.size)(hB:Bs<w.heap.size)(W:World)(l:Nat)(o o':Obj)(hl:w.heap.size<=l)(h:W.heap[l]? = some o)(h1:o.isCells=false)(h2:o.isWalk=false):KeepW n₀ Bs W (W.putObj l o'):=
 ⟨belowK_b hn W l o o' hl h h1 h2,World.putObj_heap_other oX⟩
theorem KeepW.boxed{n₀ Bs:Nat}{W W':World}{t:TypeId}{v:Value}(h:KeepW n₀ Bs W W')(hb:Boxed W Bs t v):Boxed W' Bs t v:=h.2.trans hb
theorem U4(F:Fence)(n:Nat)(h7:F.fn 133)(hro:F.round=none)(hn:1<=n)(l Bs n₀:Nat)(a:Option Addr)(cap:Nat)(ws:List (Int×List UInt8))(hreach:ws.length<=1000000)(J Jx:List (Nat×(Int×List UInt8))->World->Prop)
  (hY:∀ pre x W,J pre W->pre.length<ws.length->YieldAt F (n-1) Tryz.prog l (VL x) W λe W'=>
   (e=.returned (.bool true)/\J (pre++[x]) W'/\KeepW n₀ Bs W W')\/(e=.returned (.bool false)/\Jx (pre++[x]) W'))
  (W:World) (hBs:Boxed W Bs 98 (.slice a ws.length cap)) (hc:RowNW n₀ W a ws) (h0:J [] W) :
  CallsIn F n Tryz.prog 133 #[.func (.yield l) #[] #[],.pointer (some ⟨Bs,0,none⟩)] W λe W'=>(∃ v,e=.returned v)/\
   ((∃ ys,ys=ZN (ZQ ws) ws.length/\J ys W')\/(∃ pre,(∃ k,k<=ws.length/\pre=ZN (ZQ ws) k)/\Jx pre W')):=by
 refine callsIn_of_wp Tryz.func133 rfl h7 ?_ hro
 simp only[Tryz.ntmps133,List.size_toArray,List.length_cons,List.length_nil,Nat.reduceAdd,Nat.reduceSub,Array.replicate_succ,Array.replicate_zero,List.push_toArray,List.append_toArray,List.nil_append,List.cons_append]
 replace hc:=Hd hc
 have hBc:=hBs.cell
 have huW:Tryz.prog.underlying 232=some _:=Tryz.underlying232
 gi_wp2
 gi_loopw [3] (λi wr=>∃ k m:Nat,k+m=ws.length/\i=.int .i64 ((m:Int)-1)/\J (ZN (ZQ ws) k) wr/\KeepW n₀ Bs W wr)
  (λi _=>(intOf i+1).toNat)
 case atStart=>exact⟨0,ws.length,oX,rfl,h0,KeepW.refl _ _ _⟩
 case round=>
  obtain⟨k,m,hk,rfl,hJs,hnx⟩:=hrel
  have hBx:=(hnx.boxed hBs).cell
  cases m with
  | succ m=>
   obtain⟨g,rfl,hb,_,hcx⟩:=(hc.out.below hnx.1) m oX
   obtain⟨fn,tmps,assign,body,hy,hR⟩:=hY _ (m,ws.getD m (0,[])) wr hJs (by rw[JC];omega)
   have hback:ZQ ws k=(m,ws.getD m (0,[])):=by unfold ZQ;rw[show ws.length-1-k=m from by omega]
   replace hback:=Hd hback
   dsimp only [VL] at hy
   have hm1:((m+1:Nat):Int)-1=(m:Int):=oX
   rw[hm1]
   clear hm1
   generalize ws.getD m (0,[])=x at*
   have hszL:(Tryz.prog.info? 232).map (·.size)=some (wR x).toList.length:=by rw[Array.length_toList,YM];kernel_rfl
   obtain⟨X,hX⟩:∃ X,X=wR x:=⟨_,rfl⟩
   rw[<-hX] at hszL hcx hy
   replace hcx:=Hd hcx
   replace hX:=Hd hX
   replace hszL:=Hd hszL
   gi_wp2_with (refine YO rfl 232 (.tmp 15) rfl g _ rfl X.toList _ hcx.out huW rfl hszL.out ?_;rw[Array.toArray_toList])
   refine hR.mono ?_
   rintro e W3 (⟨rfl,hJ3,hk3⟩|⟨rfl,hJx3⟩)
   ·gi_wp2
    go_roundw
    case rel=>exact⟨k+1,m,oX,by go_num,by rw[Xn,hback.out];exact hJ3,Vz hnx hk3⟩
    case measure=>simp[intOf]
   ·gi_wp2
    refine bodyPost_ret (results_none rfl _ _ _) rfl ?_
    exact⟨⟨_,rfl⟩,.inr ⟨_,⟨k+1,oX,by rw[Xn,hback.out]⟩,hJx3⟩⟩
  | zero=>
   obtain rfl:k=ws.length:=oX
   gi_wp2
   go_end0
   exact⟨⟨_,rfl⟩,.inl ⟨_,rfl,hJs⟩⟩
theorem Ga(F:Fence)(n:Nat)(h5:F.fn 114)(hro:F.round=none)(a:Option Addr)(len cap:Nat)(w:World) :
  CallsIn F n Tryz.prog 114 #[.slice a len cap] w λe w'=>e=.returned (.func (.func 133) #[] #[.pointer (some ⟨w.heap.size,0,none⟩)])/\w'=w.alloc (.cells #[.slice a len cap] 98):=by
 refine callsIn_of_wp Tryz.func114 rfl h5 ?_ hro
 simp only[Tryz.ntmps114,List.size_toArray,List.length_cons,List.length_nil,Nat.reduceAdd,Nat.reduceSub,Array.replicate_succ,Array.replicate_zero,List.push_toArray,List.append_toArray,List.nil_append,List.cons_append]
 gi_wp2
 go_ret
 exact⟨rfl,rfl⟩
theorem Vk(F:Fence)(n:Nat)(h8:F.fn 133)(hro:F.round=none)(hn:1<=n)(Bs n₀:Nat)(a:Option Addr)(cap:Nat)(ws:List (Int×List UInt8))(hreach:ws.length<=1000000)(w:World)(hn₀:n₀<=w.heap.size)
  (hc:Boxed w Bs 98 (.slice a ws.length cap)) (hI:RowNW n₀ w a ws) :
  SeqStopsK F n Tryz.prog 133 #[.pointer (some ⟨Bs,0,none⟩)] VL (KeepW n₀ Bs) (λys=>ys=ZN (ZQ ws) ws.length)
   (λpre=>∃ k,k<=ws.length/\pre=ZN (ZQ ws) k) ws.length w:=λl J Jx W hW _ _ hY h0=>
 U4 F n h8 hro hn l Bs n₀ a cap ws hreach J Jx hY W ((hW.block Bs hc.lt).trans hc) (hI.below (hW.mono hn₀)) h0
theorem XU(B:Nat)(n:Int)(w:World)(h:w.cell? ⟨B,0,none⟩=some (.int .i64 n)):Calls Tryz.prog 99 #[.pointer (some ⟨B,0,none⟩)] w λx w'=>x=.returned (.int .i64 n)/\w=w':=by
 go_enter Tryz.func99,Tryz.ntmps99
 go_wp2_with fail
 go_ret
 exact⟨rfl,rfl⟩
end Go.Proofs.YtdilmfnpkeihiaaGreatDoor
