import Derived.Test.YtpdhceiodgnbmaaGreatDoorF0Safe21Said
import Derived.Test.YtpdhceiodgnbmaaGreatDoorF1Safe21Said
import Derived.Test.YtpdhceiodgnbmaaGreatDoorF8Safe21Said
import Derived.RangeFuncBox
import Derived.RangeFuncLeaves
import Derived.RangeFuncCalls
import Derived.RangeFuncNested
import Derived.Shelf.Abstract
import Derived.OwnWalkIn
import Derived.TacticsInMore
import Derived.LoopNIn
import Derived.LoopIn
set_option linter.unusedVariables false
set_option linter.unusedSimpArgs false
set_option linter.unnecessarySimpa false
set_option maxRecDepth 100000
set_option maxHeartbeats 8000000
namespace Go.Proofs.YtpdhceiodgnbmaaGreatDoor
open Go.RowKit
structure DiskOk (base:Nat) (w:World) (B:Nat) (T:TypeId) (n:Int) (mb mn:Nat) (f:Int->List UInt8) (v:Value) (ws:List (Int×List UInt8)) (armed:Bool) (l:Int) (gone:Bool):Prop where
 at_:w.heap[B]? = some (.cells (Qd n mb v armed l gone) T (0,0))
 map:SureMap w mb mn f
 row:w.ownsRow base 132 65 v ws.length (QD ws)
 hmB:mb≠B
 vB:∀ k,v.ownBlock=some k->k≠B/\k≠mb
 geB:base<=B
 gem:base<=mb
 lens:∀ p∈ws,p.2.length=64/\0<=p.1/\p.1<n
def Zw(B mb:Nat)(v:Value)(k:Nat):Prop:=k=B\/k=mb\/v.ownBlock=some k
theorem DiskOk.only{base:Nat}{w w':World}{B:Nat}{T:TypeId}{n:Int}{mb mn:Nat}{f:Int->List UInt8}{v:Value}{ws:List (Int×List UInt8)}{armed:Bool}{l:Int}{gone:Bool}{D:Nat->Prop}(h:DiskOk base w B T n mb mn f v ws armed l gone)(hO:Only D w w')(hd:∀ k,Zw B mb v k->¬D k):DiskOk base w' B T n mb mn f v ws armed l gone:=
 ⟨hO.heap h.at_ (hd B (.inl rfl)),h.map.only hO (hd mb (.inr (.inl rfl))),hO.owns h.row (λk hk=>hd k (.inr (.inr hk))),h.hmB,h.vB,h.geB,h.gem,h.lens⟩
theorem DiskOk.lt{base:Nat}{w:World}{B:Nat}{T:TypeId}{n:Int}{mb mn:Nat}{f:Int->List UInt8}{v:Value}{ws:List (Int×List UInt8)}{armed:Bool}{l:Int}{gone:Bool}(h:DiskOk base w B T n mb mn f v ws armed l gone):∀ k,Zw B mb v k->base<=k/\k<w.heap.size:=by
 rintro k (rfl|rfl|hk)
 ·exact⟨h.geB,Zb h.at_⟩
 ·exact⟨h.gem,h.map.lt⟩
 ·exact World.ownsRow.lt h.row k hk
def ZJ:(Nat->Option Nat)->List (Int×List UInt8)->(Int->List UInt8)->Int->List UInt8
 | _,[],f=>f
 | ks,p::ws,f=>ZJ (λj=>ks (j+1)) ws (match ks 0 with
  | some k=>λj=>if j=p.1 then YW k p.2 (f p.1) else f j
  | none=>f)
theorem PH(ws:List (Int×List UInt8)):∀ (ks:Nat->Option Nat) (p:Int×List UInt8) (f:Int->List UInt8),ZJ ks (ws++[p]) f=match ks ws.length with
  | some k=>λj=>if j=p.1 then YW k p.2 (ZJ ks ws f p.1) else ZJ ks ws f j
  | none=>ZJ ks ws f:=by
 induction ws with
 | nil=>intro ks p f;rfl
 | cons q ws ih=>
  intro ks p f
  rw[List.cons_append]
  unfold ZJ
  rw[ih]
  rfl
theorem YG{ws:List (Int×List UInt8)}{j:Nat}(hj:j<ws.length)(ks:Nat->Option Nat)(f:Int->List UInt8):ZJ ks (ws.take (j+1)) f=match ks j with
  | some k=>λx=>if x=ws[j].1 then YW k ws[j].2 (ZJ ks (ws.take j) f ws[j].1) else ZJ ks (ws.take j) f x
  | none=>ZJ ks (ws.take j) f:=by
 rw[List.take_succ_eq_append_getElem hj,PH,List.length_take,Nat.min_eq_left (Nat.le_of_lt hj)]
theorem RG{ws:List (Int×List UInt8)}(h:∀ p∈ws,p.2.length=64):∀ (j:Nat) (hj:j<ws.length) (i:Nat) (u:Value),(Value.int .i64 ws[j].1::cB ws[j].2)[i]? = some u->(QD ws)[j*65+i]? = some u:=by
 induction ws with
 | nil=>intro j hj;exact absurd hj (Nat.not_lt_zero _)
 | cons p ws ih=>
  intro j hj i u hu
  have hp:=h p (List.mem_cons_self ..)
  have hl:(Value.int IntKind.i64 p.1::cB p.2).length=65:=by simp[Ze,hp]
  cases j with
  | zero=>
   simp only[List.getElem_cons_zero] at hu
   show (Value.int IntKind.i64 p.1::cB p.2++QD ws)[0*65+i]? = some u
   have hi:=(List.getElem?_eq_some_iff.1 hu).1
   rw[Nat.zero_mul,Nat.zero_add,List.getElem?_append_left hi]
   exact hu
  | succ j=>
   show (Value.int IntKind.i64 p.1::cB p.2++QD ws)[(j+1)*65+i]? = some u
   rw[List.getElem?_append_right oX,hl,show (j+1)*65+i-65=j*65+i by omega]
   exact ih (λq hq=>h q (List.mem_cons_of_mem _ hq)) j (by simpa using hj) i u hu
theorem UH{base:Nat}{w:World}{g m cap:Nat}{ws:List (Int×List UInt8)}(h:w.ownsRow base 132 65 (.slice (some ⟨g,0,none⟩) m cap) ws.length (QD ws))(hl:∀ p∈ws,p.2.length=64)(j:Nat)(hj:j<ws.length) :
  w.rangeAt g (j*65) (.int .i64 ws[j].1::cB ws[j].2):=by
 intro i u hu
 rcases h.2 with ⟨e,_⟩|⟨g',cap',cur,e1,_,e3,_,_,e6,e7⟩
 ·cases e
 ·cases e1
  rw[Za e3,<-Array.getElem?_toList]
  have h1:=RG hl j hj i u hu
  rw[<-e7,List.getElem?_take] at h1
  split at h1
  ·exact h1
  ·cases h1
open Go.RowKit Go.Shelf
attribute [local go_sem] Oper.semAt_some
section
variable {F:Fence} {n:Nat} {P:Program} {w:World} {ops:Array Oper} {rest:List Oper} {o:Oper} {a:Act} {Q:Exit->Act->World->Prop}
theorem Ky(hgd:o.guard=none)(ty:TypeId)(x:Operand)(ho:o.op=.load ty x)(b off:Nat)(hx:a.eval x=.pointer (some ⟨b,off,none⟩))(cs:List Value)(d:TypeDesc)(hc:w.rangeAt b off cs)
  (hu:P.underlying ty=some d) (hd:d.isRow=true) (hi:(P.info? ty).map (·.size)=some cs.length) (h:wpListIn F n P ops Q rest (a.put o.dst (.agg cs.toArray)) w):wpListIn F n P ops Q (o::rest) a w:=by
 refine wpListIn_plain hgd λK hK=>?_
 unfold Oper.wpIn
 refine⟨by simp[Oper.about,ho],?_⟩
 rw[Oper.semAt_plain F _ _ (by rw[ho];intro c hc';cases hc')]
 unfold execOp
 simp only[ho,hx,Instr.loadAt,Instr.sureAddr,Sem.run_bind,Sem.run_pure,Result.andThen_ok,run_loadVar_mid w b off ty cs d hc hu hd hi]
 exact hK _ _ h
theorem UA(hgd:o.guard=none)(ty:TypeId)(x y:Operand)(ho:o.op=.store ty x y)(g:Nat)(c c':Array Value)
  (hx:a.eval x=.pointer (some ⟨g,0,none⟩)) (hy:a.eval y=.agg c') (hg:Hid (w.heap[g]? = some (.cells c ty (0,0)))) (hi:(P.info? ty).map (·.size)=some c'.size) (hs:c.size=c'.size) (h1:c'.all (·.oneCell')=true)
  (h:∀ w',Hid (Upd g (.cells c' ty (0,0)) w w')->wpListIn F n P ops Q rest (a.put o.dst undef) w'):wpListIn F n P ops Q (o::rest) a w:=by
 refine wpListIn_plain hgd λK hK=>?_
 have h2:=hK _ _ (h _ (Hd (Upd.setRow (cs:=c') hg.out)))
 unfold Oper.wpIn
 refine⟨by simp[Oper.about,ho],?_⟩
 rw[Oper.semAt_plain F _ _ (by rw[ho];intro c hc';cases hc')]
 unfold execOp
 simp only[ho,hx,hy,Instr.storeAt,Instr.sureAddr,Sem.run_bind,Sem.run_pure,Result.andThen_ok,run_storeVar_row w g ty ty c c' hg.out hi hs h1]
 exact h2
end
def Yy{α:Type}(f:Nat->α)(k:Nat):List α:=(List.range k).map f
theorem GL{α:Type}(f:Nat->α)(k:Nat):Yy f (k+1)=Yy f k++[f k]:=by simp[Yy,List.range_succ]
theorem Hg{α:Type}(f:Nat->α)(k:Nat):(Yy f k).length=k:=by simp[Yy]
def Ks(l:List UInt8):List UInt8:=(l++zSec).take 64
theorem Wc(l:List UInt8):(Ks l).length=64:=by simp[Ks,zSec]
theorem Hb{l:List UInt8}(h:l.length=64):Ks l=l:=by unfold Ks;rw[<-h,List.take_left]
def wR(p:Int×List UInt8):Array Value:=#[Value.int .i64 p.1]++(cB (Ks p.2)).toArray
theorem Nu(p:Int×List UInt8):(wR p).toList=.int .i64 p.1::cB (Ks p.2):=by simp[wR]
theorem Kp(p:Int×List UInt8):(wR p).size=65:=by simp[wR,Ze,Wc]
theorem BL(p:Int×List UInt8):(wR p).all (·.oneCell')=true:=by
 rw[Array.all_eq_true']
 intro u hu
 have hu:=Array.mem_toList_iff.2 hu
 rw[Nu] at hu
 rcases List.mem_cons.1 hu with rfl|hu
 ·rfl
 ·exact ZI _ u hu
def Pz(x:Nat×(Int×List UInt8)):Array Value:=#[.int .i64 (x.1:Int),.agg (wR x.2)]
def Y0(ws:List (Int×List UInt8))(k:Nat):Nat×(Int×List UInt8):=(ws.length-1-k,ws.getD (ws.length-1-k) (0,[]))
def RowNW(n₀:Nat)(w:World)(a:Option Addr)(ws:List (Int×List UInt8)):Prop:=
 ∀ i,i<ws.length->∃ g,a=some ⟨g,0,none⟩/\g<n₀/\(ws.getD i (0,[])).2.length=64/\w.rangeAt g (i*65) (wR (ws.getD i (0,[]))).toList
theorem RowNW.below{n₀:Nat}{A B:World}(h:Below n₀ A B){a:Option Addr}{ws:List (Int×List UInt8)}(hr:RowNW n₀ A a ws):RowNW n₀ B a ws:=by
 intro i hi
 obtain⟨g,rfl,hg,hl,hc⟩:=hr i hi
 exact⟨g,rfl,hg,hl,λj v hv=>(h.cell (p:=⟨g,i*65+j,none⟩) hg).trans (hc j v hv)⟩
def KeepW(n₀ Bs:Nat)(W W':World):Prop:=Below n₀ W W'/\W'.heap[Bs]? = W.heap[Bs]?
theorem KeepW.refl(n₀ Bs:Nat)(W:World):KeepW n₀ Bs W W:=⟨Below.refl _ _,rfl⟩
theorem TI{n₀ Bs:Nat}{A B C:World}(h:KeepW n₀ Bs A B)(k:KeepW n₀ Bs B C):KeepW n₀ Bs A C:=⟨h.1.trans k.1,k.2.trans h.2⟩
theorem Be{n₀ Bs:Nat}{w:World}(hn:n₀<=w.heap.size)(hB:Bs<w.heap.size)(W:World)(l:Nat)(o o':Obj)(hl:w.heap.size<=l)(h:W.heap[l]? = some o)(h1:o.isCells=false)(h2:o.isWalk=false):KeepW n₀ Bs W (W.putObj l o'):=
 ⟨belowK_b hn W l o o' hl h h1 h2,World.putObj_heap_other oX⟩
theorem KeepW.boxed{n₀ Bs:Nat}{W W':World}{t:TypeId}{v:Value}(h:KeepW n₀ Bs W W')(hb:Boxed W Bs t v):Boxed W' Bs t v:=h.2.trans hb
theorem We(F:Fence)(n:Nat)(h7:F.fn 175)(hro:F.round=none)(hn:1<=n)(l Bs n₀:Nat)(a:Option Addr)(cap:Nat)(ws:List (Int×List UInt8))(hreach:ws.length<=1000000)(J Jx:List (Nat×(Int×List UInt8))->World->Prop)
  (hY:∀ pre x W,J pre W->pre.length<ws.length->YieldAt F (n-1) Tryz.prog l (Pz x) W λe W'=>
   (e=.returned (.bool true)/\J (pre++[x]) W'/\KeepW n₀ Bs W W')\/(e=.returned (.bool false)/\Jx (pre++[x]) W'))
  (W:World) (hBs:Boxed W Bs 118 (.slice a ws.length cap)) (hc:RowNW n₀ W a ws) (h0:J [] W) :
  CallsIn F n Tryz.prog 175 #[.func (.yield l) #[] #[],.pointer (some ⟨Bs,0,none⟩)] W λe W'=>(∃ v,e=.returned v)/\
   ((∃ ys,ys=Yy (Y0 ws) ws.length/\J ys W')\/(∃ pre,(∃ k,k<=ws.length/\pre=Yy (Y0 ws) k)/\Jx pre W')):=by
 refine callsIn_of_wp Tryz.func175 rfl h7 ?_ hro
 simp only[Tryz.ntmps175,List.size_toArray,List.length_cons,List.length_nil,Nat.reduceAdd,Nat.reduceSub,Array.replicate_succ,Array.replicate_zero,List.push_toArray,List.append_toArray,List.nil_append,List.cons_append]
 replace hc:=Hd hc
 have hBc:=hBs.cell
 have huW:Tryz.prog.underlying 132=some _:=Tryz.underlying132
 gi_wp2
 gi_loopw [3] (λi wr=>∃ k m:Nat,k+m=ws.length/\i=.int .i64 ((m:Int)-1)/\J (Yy (Y0 ws) k) wr/\KeepW n₀ Bs W wr)
  (λi _=>(intOf i+1).toNat)
 case atStart=>exact⟨0,ws.length,oX,rfl,h0,KeepW.refl _ _ _⟩
 case round=>
  obtain⟨k,m,hk,rfl,hJs,hnx⟩:=hrel
  have hBx:=(hnx.boxed hBs).cell
  cases m with
  | succ m=>
   obtain⟨g,rfl,hb,_,hcx⟩:=(hc.out.below hnx.1) m oX
   obtain⟨fn,tmps,assign,body,hy,hR⟩:=hY _ (m,ws.getD m (0,[])) wr hJs (by rw[Hg];omega)
   have hback:Y0 ws k=(m,ws.getD m (0,[])):=by unfold Y0;rw[show ws.length-1-k=m from by omega]
   replace hback:=Hd hback
   dsimp only [Pz] at hy
   have hm1:((m+1:Nat):Int)-1=(m:Int):=oX
   rw[hm1]
   clear hm1
   generalize ws.getD m (0,[])=x at*
   have hszL:(Tryz.prog.info? 132).map (·.size)=some (wR x).toList.length:=by rw[Array.length_toList,Kp];kernel_rfl
   obtain⟨X,hX⟩:∃ X,X=wR x:=⟨_,rfl⟩
   rw[<-hX] at hszL hcx hy
   replace hcx:=Hd hcx
   replace hX:=Hd hX
   replace hszL:=Hd hszL
   gi_wp2_with (refine Ky rfl 132 (.tmp 15) rfl g _ rfl X.toList _ hcx.out huW rfl hszL.out ?_;rw[Array.toArray_toList])
   refine hR.mono ?_
   rintro e W3 (⟨rfl,hJ3,hk3⟩|⟨rfl,hJx3⟩)
   ·gi_wp2
    go_roundw
    case rel=>exact⟨k+1,m,oX,by go_num,by rw[GL,hback.out];exact hJ3,TI hnx hk3⟩
    case measure=>simp[intOf]
   ·gi_wp2
    refine bodyPost_ret (results_none rfl _ _ _) rfl ?_
    exact⟨⟨_,rfl⟩,.inr ⟨_,⟨k+1,oX,by rw[GL,hback.out]⟩,hJx3⟩⟩
  | zero=>
   obtain rfl:k=ws.length:=oX
   gi_wp2
   go_end0
   exact⟨⟨_,rfl⟩,.inl ⟨_,rfl,hJs⟩⟩
theorem LW(F:Fence)(n:Nat)(h5:F.fn 156)(hro:F.round=none)(a:Option Addr)(len cap:Nat)(w:World) :
  CallsIn F n Tryz.prog 156 #[.slice a len cap] w λe w'=>e=.returned (.func (.func 175) #[] #[.pointer (some ⟨w.heap.size,0,none⟩)])/\w'=w.alloc (.cells #[.slice a len cap] 118):=by
 refine callsIn_of_wp Tryz.func156 rfl h5 ?_ hro
 simp only[Tryz.ntmps156,List.size_toArray,List.length_cons,List.length_nil,Nat.reduceAdd,Nat.reduceSub,Array.replicate_succ,Array.replicate_zero,List.push_toArray,List.append_toArray,List.nil_append,List.cons_append]
 gi_wp2
 go_ret
 exact⟨rfl,rfl⟩
theorem HC(F:Fence)(n:Nat)(h8:F.fn 175)(hro:F.round=none)(hn:1<=n)(Bs n₀:Nat)(a:Option Addr)(cap:Nat)(ws:List (Int×List UInt8))(hreach:ws.length<=1000000)(w:World)(hn₀:n₀<=w.heap.size)
  (hc:Boxed w Bs 118 (.slice a ws.length cap)) (hI:RowNW n₀ w a ws) :
  SeqStopsK F n Tryz.prog 175 #[.pointer (some ⟨Bs,0,none⟩)] Pz (KeepW n₀ Bs) (λys=>ys=Yy (Y0 ws) ws.length)
   (λpre=>∃ k,k<=ws.length/\pre=Yy (Y0 ws) k) ws.length w:=λl J Jx W hW _ _ hY h0=>
 We F n h8 hro hn l Bs n₀ a cap ws hreach J Jx hY W ((hW.block Bs hc.lt).trans hc) (hI.below (hW.mono hn₀)) h0
theorem Vn(B:Nat)(n:Int)(w:World)(h:w.cell? ⟨B,0,none⟩=some (.int .i64 n)):Calls Tryz.prog 67 #[.pointer (some ⟨B,0,none⟩)] w λx w'=>x=.returned (.int .i64 n)/\w=w':=by
 go_enter Tryz.func67,Tryz.ntmps67
 go_wp2_with fail
 go_ret
 exact⟨rfl,rfl⟩
def Ym(ws:List (Int×List UInt8))(i:Int):Option (Int×List UInt8):=ws.reverse.find? (λp=>p.1==i)
def ZR(ws:List (Int×List UInt8))(f:Int->List UInt8)(i:Int):List UInt8:=match Ym ws i with
 | some p=>p.2
 | none=>f i
theorem GV(ws:List (Int×List UInt8)){k:Nat}(hk:k<=ws.length):(Yy (Y0 ws) k).map (·.2)=ws.reverse.take k:=by
 apply List.ext_getElem (by simp[Yy,hk])
 intro j h1 h2
 have hj:j<k:=by simpa[Yy] using h1
 simp[Yy,Y0]
 rw[List.getElem?_eq_getElem oX]
 rfl
theorem W5{ws:List (Int×List UInt8)}{i:Int}(f:Int->List UInt8)(h:∀ x∈Yy (Y0 ws) ws.length,x.2.1≠i):ZR ws f i=f i:=by
 have hb:=GV ws nR
 rw[List.take_of_length_le sX] at hb
 have:Ym ws i=none:=by
  unfold Ym
  rw[List.find?_eq_none]
  intro p hp
  rw[<-hb] at hp
  obtain⟨x,hx,rfl⟩:=List.mem_map.1 hp
  simpa using h x hx
 unfold ZR
 rw[this]
theorem WJ{ws:List (Int×List UInt8)}{i:Int}(f:Int->List UInt8){k:Nat}(hk:k<=ws.length){qs:List (Nat×(Int×List UInt8))}{x:Nat×(Int×List UInt8)}(hp:qs++[x]=Yy (Y0 ws) k)(h:∀ y∈qs,y.2.1≠i)(hx:x.2.1=i):ZR ws f i=x.2.2/\x.2∈ws:=by
 have hb:=GV ws hk
 rw[<-hp] at hb
 have hr:ws.reverse=((qs++[x]).map (·.2))++ws.reverse.drop k:=by rw[hb,List.take_append_drop]
 have hl:Ym ws i=some x.2:=by
  unfold Ym
  rw[hr,List.map_append,List.append_assoc,List.find?_append]
  have h0:(qs.map (·.2)).find? (λp=>p.1==i)=none:=by
   rw[List.find?_eq_none]
   intro p hp
   obtain⟨y,hy,rfl⟩:=List.mem_map.1 hp
   simpa using h y hy
  rw[h0]
  simp[hx]
 refine⟨by unfold ZR;rw[hl],?_⟩
 have:x.2∈ws.reverse:=by rw[hr];simp
 simpa using this
def RdBlk(w:World)(g off:Nat)(bs:List UInt8):Prop:=∃ pre T,List.length pre=off/\w.heap[g]? = some (.cells (pre++cB bs).toArray T (0,0))
theorem RdBlk.argB{w:World}{g off:Nat}{bs:List UInt8}(h:RdBlk w g off bs)(hl:bs.length=64):ArgB w (some ⟨g,off,none⟩) 64 bs:=by
 obtain⟨pre,T,rfl,h⟩:=h
 refine⟨oX,dX,(λe=>by cases e),λi hi=>⟨g,pre.length,rfl,?_⟩⟩
 rw[Za h]
 simp[cB,hi]
theorem Nv{P:Program}{fn:Func}{p q:Tmp}{t u:TypeId}(h:fn.results=#[.cell p t,.cell q u])(tmps:Array Value)(w:World)(x y:Addr)(v1 v2:Value)(hp:tmps.getD p undef=.pointer (some x))(hq:tmps.getD q undef=.pointer (some y))(h1:(loadVar t x).run P w=.ok v1 w)(h2:(loadVar u y).run P w=.ok v2 w) :
  (results fn tmps).run P w=.ok (.tuple #[v1,v2]) w:=by
 rw[Array.getD_eq_getD_getElem?] at hp hq
 simp[results,h,Sem.run_bind,Result.andThen,hp,hq,asAddr,h1,h2]
theorem Hf{P:Program}{w:World}{t:TypeId}{b:Nat}{v:Value}(ha:(isAgg t).run P w=.ok false w)(hc:w.cell? ⟨b,0,none⟩=some v):(loadVar t ⟨b,0,none⟩).run P w=.ok v w:=by
 simp[loadVar,Sem.run_bind,ha,go_sem,hc]
theorem Yr{W W':World}{row:Option Nat}{b:Nat}{o:Obj}(h:W.heap[b]? = some o)(ho:o.isCells=true)(hg:W.grownBy W' row)(hr:∀ r,row=some r->∃ o:Obj,W.heap[r]? = some o/\o.isCells=false):W'.heap[b]? = some o:=
 (hg.block b (Zb h) (λe=>by obtain⟨o',h',h2⟩:=hr b e.symm;rw[h] at h';cases h';rw[ho] at h2;cases h2)).trans h
theorem WQ{W W2:World}(hG:Below W.heap.size W W2):KeepsOthers W W2:=⟨hG.size,λk _ hk _=>(hG.block k (Zb hk)).trans hk⟩
theorem MG{fn:Func}{p q:Tmp}{R:Ending->World->Prop}{tmps:Array Value}{W:World}{bp bq D:Nat}{v1 v2:Value}(h:fn.results=#[.cell p 24,.cell q 30])(h1:Boxed W bp 24 v1)(h2:Boxed W bq 30 v2)(n1:bp≠D)(n2:bq≠D)(hK:W.heap[D]? = some (.deferred (some [])))
  (hR:R (.returned (.tuple #[v1,v2])) (W.putObj D (.deferred none))) (hp:tmps.getD p undef=.pointer (some ⟨bp,0,none⟩):=by rfl) (hq:tmps.getD q undef=.pointer (some ⟨bq,0,none⟩):=by rfl) :
  bodyPostM Fence.wide 3 Tryz.prog fn R .ret { tmps:=tmps,defers:=[{ target:=.collected D,args:=#[] }] } W:=by
 have k1:Boxed (W.putObj D (.deferred none)) bp 24 v1:=(World.putObj_heap_other n1).trans h1
 have k2:Boxed (W.putObj D (.deferred none)) bq 30 v2:=(World.putObj_heap_other n2).trans h2
 refine⟨sX,.inl ⟨_,_,rfl,run_takeDeferred hK,?_⟩⟩
 exact⟨_,Nv h _ _ _ _ _ _ hp hq (Hf kX k1.cell) (Hf kX k2.cell),hR⟩
section
attribute [local go_sem] Oper.semAt_some
theorem Wj(B mb mn:Nat)(f:Int->List UInt8)(n i:Int)(h0:0<=i)(h1:i<n)(hn:n<=2048)(w:World)(a:Option Addr)(cap:Nat)(ws:List (Int×List UInt8))(hws:ws.length<=1000000)(hc:w.cell? ⟨B,0,none⟩=some (.int .i64 n))(hc1:w.cell? ⟨B,1,none⟩=some (.map (some mb)))(hc2:w.cell? ⟨B,2,none⟩=some (.slice a ws.length cap))(hc5:w.cell? ⟨B,5,none⟩=some (.bool false))
  (hm:SureMap w mb mn f) (hlens:∀ p∈ws,p.2.length=64) (hr:RowNW w.heap.size w a ws) :
  Calls Tryz.prog 126 #[.pointer (some ⟨B,0,none⟩),.int .i64 i] w λx w'=>∃ g off,x=.returned (.tuple #[.slice (some ⟨g,off,none⟩) 64 64,.nilIface])/\RdBlk w' g off (ZR ws f i)/\w.heap.size<=g/\Below w.heap.size w w':=by
 refine(callsIn_wide (n:=3)).1 ?_
 refine callsIn_of_wp_marks Tryz.func126 rfl trivial ?_ rfl
 simp only[Tryz.ntmps126,List.size_toArray,List.length_cons,List.length_nil,Nat.reduceAdd,Nat.reduceSub,Array.replicate_succ,Array.replicate_zero,List.push_toArray,List.append_toArray,List.nil_append,List.cons_append]
 have hmlt:=hm.lt
 have hBl:=World.block_lt_of_cell? w _ hc
 obtain⟨w1,hw1⟩:∃ w1,w1=((w.alloc (.cells #[.int .i64 i] 3)).alloc (.cells #[.slice none 0 0] 24)).alloc (.cells #[.nilIface] 30):=⟨_,rfl⟩
 have b0:=((Boxed.new w 3 (.int .i64 i)).alloc (.cells #[.slice none 0 0] 24)).alloc (.cells #[.nilIface] 30)
 have b1:=(Boxed.new (w.alloc (.cells #[.int .i64 i] 3)) 24 (.slice none 0 0)).alloc (.cells #[.nilIface] 30)
 have b2:=Boxed.new ((w.alloc (.cells #[.int .i64 i] 3)).alloc (.cells #[.slice none 0 0] 24)) 30 .nilIface
 have hG1:Below w.heap.size w w1:=by rw[hw1];exact(((Below.refl _ w).alloc nR _).alloc sX _).alloc sYq _
 have hs1:w1.heap.size=w.heap.size+3:=by rw[hw1];simp
 rw[<-hw1] at b0 b1 b2
 simp only[World.size_alloc] at b1 b2
 have hc':w1.cell? ⟨B,0,none⟩=some (.int .i64 n):=(hG1.cell (p:=⟨B,0,none⟩) hBl).trans hc
 have hth:=Je B n i h0 h1 w1 hc'
 have hc2':w1.cell? ⟨B,2,none⟩=some (.slice a ws.length cap):=(hG1.cell (p:=⟨B,2,none⟩) hBl).trans hc2
 have hc5':w1.cell? ⟨B,5,none⟩=some (.bool false):=(hG1.cell (p:=⟨B,5,none⟩) hBl).trans hc5
 have hr1:RowNW w.heap.size w1 a ws:=hr.below hG1
 replace hth:=Hd hth
 replace hw1:=Hd hw1
 replace hr1:=Hd hr1
 replace hm:=Hd hm
 replace hs1:=Hd hs1
 replace hc:=Hd hc
 clear hr hc2 hc5
 gi_wp2_with fail
 rw[<-hw1.out]
 refine⟨trivial,(callsIn_wide.2 hth.out).mono ?_⟩
 rintro e w2 ⟨rfl,hq⟩
 obtain rfl:=hq
 clear hth
 gi_wp2_with (refine⟨trivial,?_⟩;gi_at_call 156;refine(LW Fence.wide _ trivial rfl _ _ _ _).mono ?_;rintro e w' ⟨rfl,rfl⟩)
 have b3:=Boxed.new w1 118 (.slice a ws.length cap)
 replace b0:=b0.alloc (.cells #[.slice a ws.length cap] 118)
 replace b1:=b1.alloc (.cells #[.slice a ws.length cap] 118)
 replace b2:=b2.alloc (.cells #[.slice a ws.length cap] 118)
 have hB0:Below w.heap.size w (w1.alloc (.cells #[.slice a ws.length cap] 118)):=hG1.alloc hG1.size _
 have hr0:RowNW w.heap.size (w1.alloc (.cells #[.slice a ws.length cap] 118)) a ws:=hr1.out.below ((Below.refl w.heap.size w1).alloc hG1.size _)
 have hsz:(w1.alloc (.cells #[.slice a ws.length cap] 118)).heap.size=w.heap.size+4:=by rw[World.size_alloc,hs1.out]
 rw[hs1.out] at b3 ⊢
 generalize w1.alloc (.cells #[.slice a ws.length cap] 118)=W0 at*
 clear hw1 hr1 hs1 hc' hc2' hc5' hG1
 refine wpIn_rangeFunc_ownH (n:=3) rfl dX (gf:=175) (lb:=#[.pointer (some ⟨w.heap.size+3,0,none⟩)]) rfl trivial (enters_of Tryz.func175 kX rfl)
  (HC Fence.wide (3-1) trivial rfl dX (w.heap.size+3) w.heap.size a cap ws hws W0 oX b3 hr0) TI (Be oX oX) bR (λ_=>rfl)
  (λpre W=>((Boxed W w.heap.size 3 (.int .i64 i)/\Boxed W (w.heap.size+1) 24 (.slice none 0 0)/\Boxed W (w.heap.size+1+1) 30 .nilIface/\Boxed W (w.heap.size+3) 118 (.slice a ws.length cap))/\(∀ y∈pre,y.2.1≠i))/\Below w.heap.size w W)
  (λc pre W=>c=.ret/\∃ g qs x,pre=qs++[x]/\(∀ y∈qs,y.2.1≠i)/\x.2.1=i/\w.heap.size+4<=g/\W.heap[g]? = some (.cells (wR x.2) 132 (0,0))/\Boxed W (w.heap.size+1) 24 (.slice (some ⟨g,1,none⟩) 64 64)/\Boxed W (w.heap.size+1+1) 30 .nilIface/\Below w.heap.size w W)
  ?hI ?hIx
  ⟨⟨⟨b0,b1,b2,b3⟩,λy hy=>by cases hy⟩,hB0⟩
  (λx a' W=>∃ Bx,w.heap.size+4<=Bx/\W.heap[Bx]? = some (.cells (wR x.2) 132 (0,0))/\a'={ tmps:=#[.pointer (some ⟨B,0,none⟩),.int .i64 i,undef,.pointer (some ⟨w.heap.size,0,none⟩),.pointer (some ⟨w.heap.size+1,0,none⟩),.pointer (some ⟨w.heap.size+1+1,0,none⟩),.nilIface,undef,.pointer (some ⟨Bx,0,none⟩),
   .pointer (some ⟨B,0,none⟩),.int .i64 i,.nilIface,.nilIface,.bool false,undef,.pointer (some ⟨B,0,none⟩),.pointer (some ⟨B,0,none⟩),.pointer (some ⟨B,5,none⟩),.bool false,undef,.pointer (some ⟨B,0,none⟩),.pointer (some ⟨B,0,none⟩),.pointer (some ⟨B,2,none⟩),.slice a ws.length cap,
   .func (.func 175) #[] #[.pointer (some ⟨w.heap.size+3,0,none⟩)],.int .i64 (x.1:Int),.agg (wR x.2),undef,undef,undef,undef,undef,undef,undef,undef,undef,undef,undef],defers:=[] })
  ?hAx ?assign ?body ?done ?stop
 case hI=>exact OwnFrom.and (OwnFrom.and (Own.from (λs A B row hs hg hr=>⟨Yr hs.1 rfl hg hr,Yr hs.2.1 rfl hg hr,Yr hs.2.2.1 rfl hg hr,Yr hs.2.2.2 rfl hg hr⟩) _) (ownFrom_pure _ _)) (ownFrom_below nR oX)
 case hIx=>
  rintro c s X Y row ⟨hc,g,qs,x,e1,e2,e3,e4,e5,e6,e7,e8⟩ hg hr
  exact⟨hc,g,qs,x,e1,e2,e3,e4,Yr e5 rfl hg (λr h=>(hr r h).2),Yr e6 rfl hg (λr h=>(hr r h).2),Yr e7 rfl hg (λr h=>(hr r h).2),e8.grown hg e8.size (λk e=>Nat.le_trans oX (hr k e).1)⟩
 case hAx=>
  rintro x a' s X Y row ⟨Bx,e1,e2,e3⟩ hg hr
  exact⟨Bx,e1,Yr e2 rfl hg (λr h=>(hr r h).2),e3⟩
 case assign=>
  rintro l pre x W K ⟨⟨⟨c0,c1,c2,c3⟩,hne⟩,hB⟩ hK
  have hszW:(Tryz.prog.info? 132).map (·.size)=some (wR x.2).size:=by rw[Kp];kernel_rfl
  have hX1:=BL x.2
  have hX2:=Kp x.2
  simp only[Pz]
  obtain⟨xi,xp⟩:=x
  generalize hXd:wR xp=X at*
  replace hX2:=Hd hX2
  have hB2:=hB.size
  have hl3:=c3.lt
  gi_wp2_with (refine UA rfl 132 (.tmp 8) (.tmp 26) rfl W.heap.size _ X rfl rfl (Hd (heap_alloc_new _ _)) hszW (by rw[hX2.out];rfl) hX1 ?_;intro W2 hU)
  have hG:Below W.heap.size W W2:=Below.trans ((Below.refl _ W).alloc nR _) (hU.out.below nR)
  subst hXd
  exact hK _ _ ((WQ hG).from _) ⟨hG.mono hB2,hG.block _ hl3⟩ ⟨⟨⟨(hG.block _ c0.lt).trans c0,(hG.block _ c1.lt).trans c1,(hG.block _ c2.lt).trans c2,(hG.block _ c3.lt).trans c3⟩,hne⟩,hB.trans (hG.mono hB2)⟩ ⟨W.heap.size,oX,hU.out.here,rfl⟩
 case body=>
  rintro l pre x a' W hl _ ⟨⟨⟨c0,c1,c2,c3⟩,hne⟩,hB⟩ ⟨Bx,hBx,bX,rfl⟩ hlt
  have d0:=c0.cell
  have f1:=c1.frozen
  have f2:=c2.frozen
  have g1:=c1.cell
  have g2:=c2.cell
  have k0:W.cell? ⟨Bx,0,none⟩=some (.int .i64 x.2.1):=by rw[Za bX,wR,Array.getElem?_append_left sX];rfl
  have hX2:=Kp x.2
  have l3:=c3.lt
  by_cases hx:x.2.1=i
  ·have hxb:(x.2.1==i)=true:=by simpa using hx
   replace hne:=Hd hne
   replace bX:=Hd bX
   replace hX2:=Hd hX2
   replace hx:=Hd hx
   gi_wp2_with fail
   have hb1:=c1.set (.slice (some ⟨Bx,1,none⟩) 64 64)
   have hb2:=(c2.other (B':=w.heap.size+1) oX (.slice (some ⟨Bx,1,none⟩) 64 64)).set .nilIface
   have hb1':=hb1.other (B':=w.heap.size+1+1) oX .nilIface
   have hbX:((W.setCell ⟨w.heap.size+1,0,none⟩ (.slice (some ⟨Bx,1,none⟩) 64 64)).setCell ⟨w.heap.size+1+1,0,none⟩ .nilIface).heap[Bx]? = some (.cells (wR x.2) 132 (0,0)):=by
    rw[Below.heap_setCell _ _ _ _ sYq,Below.heap_setCell _ _ _ _ sYq]
    exact bX.out
   exact⟨((KeepsOthers.setCell _ _ _).trans (KeepsOthers.setCell _ _ _)).from _,rfl,Bx,pre,x,rfl,hne.out,hx.out,hBx,hbX,hb1',hb2,(hB.setCell (p:=⟨w.heap.size+1,0,none⟩) sX _).setCell (p:=⟨w.heap.size+1+1,0,none⟩) sYq _⟩
  ·have hxb:(x.2.1==i)=false:=by simpa using hx
   replace bX:=Hd bX
   replace hX2:=Hd hX2
   gi_wp2_with fail
   exact⟨KeepsFrom.refl _ _,KeepW.refl _ _ _,⟨⟨c0,c1,c2,c3⟩,λy hy=>by
    rcases List.mem_append.1 hy with hy|hy
    ·exact hne y hy
    ·simp at hy;subst hy;exact hx⟩,hB⟩
 case done=>
  rintro D ys W hD rfl ⟨⟨⟨c0,c1,c2,c3⟩,hne⟩,hB⟩ hK
  have hseen:=Hd (W5 f hne)
  have hWD:D≠w.heap.size+1/\D≠w.heap.size+1+1:=oX
  have d0:=c0.cell
  have hcB:W.cell? ⟨B,0,none⟩=some (.int .i64 n):=(hB.cell (p:=⟨B,0,none⟩) hBl).trans hc.out
  have hcB1:W.cell? ⟨B,1,none⟩=some (.map (some mb)):=(hB.cell (p:=⟨B,1,none⟩) hBl).trans hc1
  have hsu:=Hd (Md B mb mn f n i h0 h1 hn W hcB hcB1 (hm.out.only (Only.ofBelow (D:=λ_=>False) hB) (λh=>h)))
  clear hne hc1
  gi_wp2_with fail
  refine⟨trivial,(callsIn_wide.2 hsu.out).mono ?_⟩
  rintro e W2 ⟨g,rfl,hs,hge,hb⟩
  clear hsu
  have l1:=c1.lt
  have l2:=c2.lt
  have e1:Boxed W2 (w.heap.size+1) 24 (.slice none 0 0):=(hb.block _ l1).trans c1
  have e2:Boxed W2 (w.heap.size+1+1) 30 .nilIface:=(hb.block _ l2).trans c2
  have eD:W2.heap[D]? = some (.deferred (some [])):=(hb.block _ (Zb hK)).trans hK
  have g1:=e1.cell
  have g2:=e2.cell
  have f1:=e1.frozen
  have f2:=e2.frozen
  have hWl:=hB.size
  replace hs:=Hd hs
  replace hb:=Hd hb
  replace eD:=Hd eD
  replace hB:=Hd hB
  gi_wp2_with fail
  have hb1:=(e1.set (.slice (some ⟨g,0,none⟩) 64 64)).other (B':=w.heap.size+1+1) oX .nilIface
  have hb2:=(e2.other (B':=w.heap.size+1) oX (.slice (some ⟨g,0,none⟩) 64 64)).set .nilIface
  have hSec:((W2.setCell ⟨w.heap.size+1,0,none⟩ (.slice (some ⟨g,0,none⟩) 64 64)).setCell ⟨w.heap.size+1+1,0,none⟩ .nilIface).heap[g]? = some (.cells (cB (f i)).toArray 130 (0,0)):=by
   rw[Below.heap_setCell _ _ _ _ sYq,Below.heap_setCell _ _ _ _ sYq]
   exact hs.out
  have hDe:((W2.setCell ⟨w.heap.size+1,0,none⟩ (.slice (some ⟨g,0,none⟩) 64 64)).setCell ⟨w.heap.size+1+1,0,none⟩ .nilIface).heap[D]? = some (.deferred (some [])):=by
   rw[Below.heap_setCell _ _ _ _ sYq,Below.heap_setCell _ _ _ _ sYq]
   exact eD.out
  have hBe:Below w.heap.size w ((W2.setCell ⟨w.heap.size+1,0,none⟩ (.slice (some ⟨g,0,none⟩) 64 64)).setCell ⟨w.heap.size+1+1,0,none⟩ .nilIface):=((hB.out.trans (hb.out.mono hWl)).setCell (p:=⟨w.heap.size+1,0,none⟩) sX _).setCell (p:=⟨w.heap.size+1+1,0,none⟩) sYq _
  have hgD:g≠D:=λe=>by subst e;rw[hSec] at hDe;cases hDe
  exact MG rfl hb1 hb2 oX oX hDe ⟨g,0,rfl,⟨[],130,rfl,by rw[hseen.out];exact(World.putObj_heap_other hgD).trans hSec⟩,oX,hBe.trans (belowK_b (w:=w) nR _ D _ _ oX hDe rfl rfl)⟩
 case stop=>
  rintro D c pre W hD ⟨k,hk,hp⟩ ⟨rfl,g,qs,x,e1,e2,e3,e4,e5,e6,e7,e8⟩ hK
  have hseen:=WJ f hk (e1.symm.trans hp) e2 e3
  have hgD:g≠D:=λe=>by subst e;rw[e5] at hK;cases hK
  gi_wp2
  refine MG rfl e6 e7 oX oX hK ⟨g,1,rfl,⟨[.int .i64 x.2.1],132,rfl,?_⟩,oX,e8.trans (belowK_b (w:=w) nR _ D _ _ oX hK rfl rfl)⟩
  rw[hseen.1,World.putObj_heap_other hgD,e5,<-Hb (hlens x.2 hseen.2)]
  congr 2
  apply Array.ext'
  rw[Nu]
  rfl
end
theorem WI(base B mb mn:Nat)(f:Int->List UInt8)(n:Int)(hn:n<=2048)(T:TypeId)(v:Value)(ws:List (Int×List UInt8))(armed:Bool)(l:Int)(har:armed=true->l≠0)(hl : -1000000<=l/\l<=9223372036854775807)(w:World)
  (h:DiskOk base w B T n mb mn f v ws armed l false) (hws:ws.length<=100000) (hmn:mn<=100000) :
  Calls Tryz.prog 131 #[.pointer (some ⟨B,0,none⟩)] w λx w'=>x=.returned .nilIface/\
   DiskOk base w' B T n mb (mn+ws.length) (ZJ (λ_=>some 64) ws f) (.slice none 0 0) [] armed (l-1) false/\Only (λk=>k=B\/k=mb) w w':=by
 have hat:=h.at_
 have hBl:=Zb hat
 have c3:w.cell? ⟨B,3,none⟩=some (.bool armed):=by rw[Za hat];rfl
 have c4:w.cell? ⟨B,4,none⟩=some (.int .i64 l):=by rw[Za hat];rfl
 have c5:w.cell? ⟨B,5,none⟩=some (.bool false):=by rw[Za hat];rfl
 have hde:=Hd (M2 B armed l har hl w c3 c4 c5 (Zj hat _))
 obtain⟨w1,hw1⟩:∃ w1,w1=w.setCell ⟨B,4,none⟩ (.int .i64 (l-1)):=⟨_,rfl⟩
 have hU1:=(Upd.refl hat).setCell (j:=4) (.int .i64 (l-1))
 rw[<-hw1] at hU1
 have hO1:Only (λk=>k=B) w w1:=Only.ofUpd hU1 rfl
 obtain⟨va,vc,hv⟩:∃ a c,v=.slice a ws.length c:=by
  rcases h.row.2 with ⟨e1,h2⟩|⟨g,c,cur,e1,_⟩
  ·exact⟨none,0,by rw[e1,h2]⟩
  ·exact⟨_,c,e1⟩
 have hat1:w1.heap[B]? = some (.cells (Qd n mb v armed (l-1) false) T (0,0)):=hU1.here
 have hc2:w1.cell? ⟨B,2,none⟩=some (.slice va ws.length vc):=by rw[Za hat1,<-hv];rfl
 have hm1:SureMap w1 mb mn f:=h.map.only hO1 h.hmB
 have hrow1:w1.ownsRow base 132 65 v ws.length (QD ws):=hO1.owns h.row (λk hk=>(h.vB k hk).1)
 have hlens:∀ p∈ws,p.2.length=64:=λp hp=>(h.lens p hp).1
 have hmlt:=hm1.lt
 have hs1:=hO1.size
 have hB1:=Zb hat1
 replace h:=Hd h
 replace hat1:=Hd hat1
 replace hm1:=Hd hm1
 replace hrow1:=Hd hrow1
 replace hO1:=Hd hO1
 replace hv:=Hd hv
 replace hw1:=Hd hw1
 replace hlens:=Hd hlens
 clear hU1 hat c3 c4 c5
 go_enter Tryz.func131,Tryz.ntmps131
 go_wp2_with fail
 with_reducible refine hde.out.mono ?_
 rintro x w2 ⟨rfl,hq⟩
 obtain rfl:w1=w2:=hw1.out.trans hq.symm
 clear hq hde hw1
 go_wp2_with fail
 go_loopw [17,18,19,5,20,21,22,23,16] (λ_ _ _ _ _ _ _ _ j wr=>∃ k:Nat,k<=ws.length/\j=.int .i64 k/\SureMap wr mb (mn+k) (ZJ (λ_=>some 64) (ws.take k) f)/\Only (λb=>b=mb) w1 wr) (λ_ _ _ _ _ _ _ _ j _=>ws.length-(intOf j).toNat)
 case atStart=>exact⟨0,Nat.zero_le _,rfl,hm1.out,Only.refl _ _⟩
 case round=>
  obtain⟨k,hk,rfl,hmk,hOk⟩:=hrel
  have hsk:=hOk.size
  have hwrB:=(World.cell?_of_block (hOk.block B hB1 (λe=>h.out.hmB e.symm)):wr.cell? ⟨B,1,none⟩=w1.cell? ⟨B,1,none⟩)
  have hcB:wr.cell? ⟨B,1,none⟩=some (.map (some mb)):=hwrB.trans (by rw[Za hat1.out];rfl)
  have hc2r:wr.cell? ⟨B,2,none⟩=some (.slice va ws.length vc):=(World.cell?_of_block (hOk.block B hB1 (λe=>h.out.hmB e.symm)):wr.cell? ⟨B,2,none⟩=w1.cell? ⟨B,2,none⟩).trans hc2
  have hBlk:wr.heap[B]? = some (.cells (Qd n mb v armed (l-1) false) T (0,0)):=(hOk.block B hB1 (λe=>h.out.hmB e.symm)).trans hat1.out
  have hf2r:wr.frozen? ⟨B,2,none⟩=false:=Zj hBlk _
  replace hBlk:=Hd hBlk
  have hBr:=World.block_lt_of_cell? wr _ hcB
  have hmr:=hmk.lt
  clear hwrB
  replace hcB:=Hd hcB
  replace hmk:=Hd hmk
  replace hOk:=Hd hOk
  by_cases hlt:k<ws.length
  ·have hlt2:(k:Int)<ws.length:=oX
   obtain⟨g,rfl⟩:∃ g,va=some ⟨g,0,none⟩:=by
    rcases hrow1.out.2 with ⟨e1,h2⟩|⟨g,c,cur,e1,_⟩
    ·omega
    ·rw[hv.out] at e1
     injection e1 with e1
     exact⟨g,e1⟩
   have hgm:g≠mb:=(h.out.vB g (by rw[hv.out];rfl)).2
   have hrw:wr.ownsRow base 132 65 (.slice (some ⟨g,0,none⟩) ws.length vc) ws.length (QD ws):=by
    have:=hrow1.out
    rw[hv.out] at this
    exact hOk.out.owns this (λb hb=>by cases hb;exact hgm)
   obtain⟨i,hi⟩:∃ i,i=ws[k].1:=⟨_,rfl⟩
   obtain⟨bs,hbsd⟩:∃ b,b=ws[k].2:=⟨_,rfl⟩
   have hir:=(h.out.lens ws[k] (List.getElem_mem hlt)).2
   rw[<-hi] at hir
   have hbs:bs.length=64:=by rw[hbsd];exact hlens.out _ (List.getElem_mem hlt)
   obtain⟨R,hRd⟩:∃ R,R=#[Value.int .i64 i]++(cB bs).toArray:=⟨_,rfl⟩
   have hRs:R.size=65:=by rw[hRd];simp[Ze,hbs]
   have hRl:R.toList=.int .i64 i::cB bs:=by rw[hRd];simp
   have hrg:wr.rangeAt g (k*65) R.toList:=by
    rw[hRl,hi,hbsd]
    exact UH hrw hlens.out k hlt
   have hR1:R.all (·.oneCell')=true:=by
    rw[Array.all_eq_true']
    intro u hu
    have hu:=Array.mem_toList_iff.2 hu
    rw[hRl] at hu
    rcases List.mem_cons.1 hu with rfl|hu
    ·rfl
    ·exact ZI _ u hu
   have huW:Tryz.prog.underlying 132=some _:=Tryz.underlying132
   have hszW:(Tryz.prog.info? 132).map (·.size)=some R.size:=by rw[hRs];kernel_rfl
   have hszL:(Tryz.prog.info? 132).map (·.size)=some R.toList.length:=by rw[Array.length_toList,hRs];kernel_rfl
   have hdn:∀ w3,SureMap w3 mb (mn+k) (ZJ (λ_=>some 64) (ws.take k) f)->w3.cell? ⟨B,1,none⟩=some (.map (some mb))->_:=λw3 h1 h2=>N8 B mb (mn+k) (ZJ (λ_=>some 64) (ws.take k) f) i oX oX bs hbs 64 nR 64 rfl w3 h2 h1 oX h.out.hmB
   rw[<-hRd] at hdn
   replace hrg:=Hd hrg
   replace hrw:=Hd hrw
   replace hbsd:=Hd hbsd
   replace hi:=Hd hi
   replace hRd:=Hd hRd
   replace hRl:=Hd hRl
   replace hdn:=Hd hdn
   go_wp2_with (first
    | (refine wpList_load_mid rfl 132 (.tmp 18) rfl g _ rfl R.toList _ hrg.out huW rfl hszL ?_;rw[Array.toArray_toList])
    | (refine Zc rfl 132 (.tmp 5) (.tmp 19) rfl wr.heap.size _ R rfl rfl (Hd (heap_alloc_new _ _)) hszW (by rw[hRs];rfl) hR1 ?_;intro w3 hU3)
    | (refine Zd rfl 132 (.tmp 5) rfl wr.heap.size R _ rfl (Hd hU3.out.here) huW rfl hszW ?_))
   have hG3:Grown wr w3:=Below.trans (Grown.alloc (Grown.refl wr) _) (hU3.out.below nR)
   have hm3:=hmk.out.only (Only.ofBelow (D:=λ_=>False) hG3) (λh=>h)
   have hc3:=(hG3.cell (p:=⟨B,1,none⟩) hBr).trans hcB.out
   have hcall:=Hd (hdn.out w3 hm3 hc3)
   have hO3:=Hd ((hOk.out.trans (Only.ofBelow (D:=λb=>b=mb) hG3) (λ_ _ h=>h)))
   clear hU3 hdn hm3 hc3 hG3
   with_reducible refine hcall.out.mono ?_
   rintro x w4 ⟨rfl,hm4,hO4⟩
   clear hcall
   replace hm4:=Hd hm4
   replace hO4:=Hd hO4
   go_wp2_with fail
   go_roundw
   case rel=>
    refine⟨k+1,oX,by go_num,?_,hO3.out.trans hO4.out (λ_ _ h=>h)⟩
    rw[YG hlt,<-hi.out,<-hbsd.out,<-Nat.add_assoc]
    exact hm4.out
   case measure=>simp[intOf];omega
  ·obtain rfl:k=ws.length:=oX
   go_wp2_with fail
   go_ret
   have hmk2:=hmk.out
   rw[List.take_length] at hmk2
   have hU:=(Upd.refl hBlk.out).setCell (j:=2) (.slice none 0 0)
   have hOU:Only (λb=>b=B) wr _:=Only.ofUpd hU rfl
   refine⟨rfl,⟨hU.here,hmk2.only hOU h.out.hmB,⟨rfl,.inl ⟨rfl,rfl⟩⟩,h.out.hmB,λk hk=>by(cases hk),h.out.geB,h.out.gem,λp hp=>by(cases hp)⟩,?_⟩
   exact((hO1.out.mono (E:=λk=>k=B\/k=mb) (λ_ _ h=>.inl h)).trans hOk.out (λ_ _ h=>.inr h)).trans hOU (λ_ _ h=>.inl h)
end Go.Proofs.YtpdhceiodgnbmaaGreatDoor
