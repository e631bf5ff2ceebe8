import Derived.Test.YtdilmfnpkeihiaaGreatDoorF0AudSaid
import Derived.Test.YtdilmfnpkeihiaaGreatDoorF2AudSaid
import Derived.Test.YtdilmfnpkeihiaaGreatDoorF28AudSaid
set_option linter.unusedVariables false
set_option linter.unusedSimpArgs false
set_option linter.unnecessarySimpa false
set_option maxRecDepth 100000
set_option maxHeartbeats 8000000
namespace Go.Proofs.YtdilmfnpkeihiaaGreatDoor
open Go.RowKit Go.Shelf
def Qq(ws:List (Int×List UInt8))(i:Int):Option (Int×List UInt8):=ws.reverse.find? (λp=>p.1==i)
def ZK(ws:List (Int×List UInt8))(f:Int->List UInt8)(i:Int):List UInt8:=match Qq ws i with
 | some p=>p.2
 | none=>f i
theorem X3(ws:List (Int×List UInt8)){k:Nat}(hk:k<=ws.length):(ZN (ZQ ws) k).map (·.2)=ws.reverse.take k:=by
 apply List.ext_getElem (by simp[ZN,hk])
 intro j h1 h2
 have hj:j<k:=by simpa[ZN] using h1
 simp[ZN,ZQ]
 rw[List.getElem?_eq_getElem oX]
 rfl
theorem Kq{ws:List (Int×List UInt8)}{i:Int}(f:Int->List UInt8)(h:∀ x∈ZN (ZQ ws) ws.length,x.2.1≠i):ZK ws f i=f i:=by
 have hb:=X3 ws nR
 rw[List.take_of_length_le sX] at hb
 have:Qq ws i=none:=by
  unfold Qq
  rw[List.find?_eq_none]
  intro p hp
  rw[<-hb] at hp
  obtain⟨x,hx,rfl⟩:=List.mem_map.1 hp
  simpa using h x hx
 unfold ZK
 rw[this]
theorem US{ws:List (Int×List UInt8)}{i:Int}(f:Int->List UInt8){k:Nat}(hk:k<=ws.length){qs:List (Nat×(Int×List UInt8))}{x:Nat×(Int×List UInt8)}(hp:qs++[x]=ZN (ZQ ws) k)(h:∀ y∈qs,y.2.1≠i)(hx:x.2.1=i):ZK ws f i=x.2.2/\x.2∈ws:=by
 have hb:=X3 ws hk
 rw[<-hp] at hb
 have hr:ws.reverse=((qs++[x]).map (·.2))++ws.reverse.drop k:=by rw[hb,List.take_append_drop]
 have hl:Qq ws i=some x.2:=by
  unfold Qq
  rw[hr,List.map_append,List.append_assoc,List.find?_append]
  have h0:(qs.map (·.2)).find? (λp=>p.1==i)=none:=by
   rw[List.find?_eq_none]
   intro p hp
   obtain⟨y,hy,rfl⟩:=List.mem_map.1 hp
   simpa using h y hy
  rw[h0]
  simp[hx]
 refine⟨by unfold ZK;rw[hl],?_⟩
 have:x.2∈ws.reverse:=by rw[hr];simp
 simpa using this
def RdBlk(w:World)(g off:Nat)(bs:List UInt8):Prop:=∃ pre T,List.length pre=off/\w.heap[g]? = some (.cells (pre++cB bs).toArray T (0,0))
theorem RdBlk.argB{w:World}{g off:Nat}{bs:List UInt8}(h:RdBlk w g off bs)(hl:bs.length=64):ArgB w (some ⟨g,off,none⟩) 64 bs:=by
 obtain⟨pre,T,rfl,h⟩:=h
 refine⟨oX,dX,(λe=>by cases e),λi hi=>⟨g,pre.length,rfl,?_⟩⟩
 rw[Za h]
 simp[cB,hi]
theorem XJ{P:Program}{fn:Func}{p q:Tmp}{t u:TypeId}(h:fn.results=#[.cell p t,.cell q u])(tmps:Array Value)(w:World)(x y:Addr)(v1 v2:Value)(hp:tmps.getD p undef=.pointer (some x))(hq:tmps.getD q undef=.pointer (some y))(h1:(loadVar t x).run P w=.ok v1 w)(h2:(loadVar u y).run P w=.ok v2 w) :
  (results fn tmps).run P w=.ok (.tuple #[v1,v2]) w:=by
 rw[Array.getD_eq_getD_getElem?] at hp hq
 simp[results,h,Sem.run_bind,Result.andThen,hp,hq,asAddr,h1,h2]
theorem JP{P:Program}{w:World}{t:TypeId}{b:Nat}{v:Value}(ha:(isAgg t).run P w=.ok false w)(hc:w.cell? ⟨b,0,none⟩=some v):(loadVar t ⟨b,0,none⟩).run P w=.ok v w:=by
 simp[loadVar,Sem.run_bind,ha,go_sem,hc]
theorem ZM{W W':World}{row:Option Nat}{b:Nat}{o:Obj}(h:W.heap[b]? = some o)(ho:o.isCells=true)(hg:W.grownBy W' row)(hr:∀ r,row=some r->∃ o:Obj,W.heap[r]? = some o/\o.isCells=false):W'.heap[b]? = some o:=
 (hg.block b (Zb h) (λe=>by obtain⟨o',h',h2⟩:=hr b e.symm;rw[h] at h';cases h';rw[ho] at h2;cases h2)).trans h
theorem Kh{W W2:World}(hG:Below W.heap.size W W2):KeepsOthers W W2:=⟨hG.size,λk _ hk _=>(hG.block k (Zb hk)).trans hk⟩
theorem JG{fn:Func}{p q:Tmp}{R:Ending->World->Prop}{tmps:Array Value}{W:World}{bp bq D:Nat}{v1 v2:Value}(h:fn.results=#[.cell p 52,.cell q 49])(h1:Boxed W bp 52 v1)(h2:Boxed W bq 49 v2)(n1:bp≠D)(n2:bq≠D)(hK:W.heap[D]? = some (.deferred (some [])))
  (hR:R (.returned (.tuple #[v1,v2])) (W.putObj D (.deferred none))) (hp:tmps.getD p undef=.pointer (some ⟨bp,0,none⟩):=by rfl) (hq:tmps.getD q undef=.pointer (some ⟨bq,0,none⟩):=by rfl) :
  bodyPostM Fence.wide 3 Tryz.prog fn R .ret { tmps:=tmps,defers:=[{ target:=.collected D,args:=#[] }] } W:=by
 have k1:Boxed (W.putObj D (.deferred none)) bp 52 v1:=(World.putObj_heap_other n1).trans h1
 have k2:Boxed (W.putObj D (.deferred none)) bq 49 v2:=(World.putObj_heap_other n2).trans h2
 refine⟨sX,.inl ⟨_,_,rfl,run_takeDeferred hK,?_⟩⟩
 exact⟨_,XJ h _ _ _ _ _ _ hp hq (JP kX k1.cell) (JP kX k2.cell),hR⟩
section
attribute [local go_sem] Oper.semAt_some
theorem UE(B mb mn:Nat)(f:Int->List UInt8)(n i:Int)(h0:0<=i)(h1:i<n)(hn:n<=2048)(w:World)(a:Option Addr)(cap:Nat)(ws:List (Int×List UInt8))(hws:ws.length<=1000000)(hc:w.cell? ⟨B,0,none⟩=some (.int .i64 n))(hc1:w.cell? ⟨B,1,none⟩=some (.map (some mb)))(hc2:w.cell? ⟨B,2,none⟩=some (.slice a ws.length cap))(hc5:w.cell? ⟨B,5,none⟩=some (.bool false))
  (hm:SureMap w mb mn f) (hlens:∀ p∈ws,p.2.length=64) (hr:RowNW w.heap.size w a ws) :
  Calls Tryz.prog 100 #[.pointer (some ⟨B,0,none⟩),.int .i64 i] w λx w'=>∃ g off,x=.returned (.tuple #[.slice (some ⟨g,off,none⟩) 64 64,.nilIface])/\RdBlk w' g off (ZK ws f i)/\w.heap.size<=g/\Below w.heap.size w w':=by
 refine(callsIn_wide (n:=3)).1 ?_
 refine callsIn_of_wp_marks Tryz.func100 rfl trivial ?_ rfl
 simp only[Tryz.ntmps100,List.size_toArray,List.length_cons,List.length_nil,Nat.reduceAdd,Nat.reduceSub,Array.replicate_succ,Array.replicate_zero,List.push_toArray,List.append_toArray,List.nil_append,List.cons_append]
 have hmlt:=hm.lt
 have hBl:=World.block_lt_of_cell? w _ hc
 obtain⟨w1,hw1⟩:∃ w1,w1=((w.alloc (.cells #[.int .i64 i] 3)).alloc (.cells #[.slice none 0 0] 52)).alloc (.cells #[.nilIface] 49):=⟨_,rfl⟩
 have b0:=((Boxed.new w 3 (.int .i64 i)).alloc (.cells #[.slice none 0 0] 52)).alloc (.cells #[.nilIface] 49)
 have b1:=(Boxed.new (w.alloc (.cells #[.int .i64 i] 3)) 52 (.slice none 0 0)).alloc (.cells #[.nilIface] 49)
 have b2:=Boxed.new ((w.alloc (.cells #[.int .i64 i] 3)).alloc (.cells #[.slice none 0 0] 52)) 49 .nilIface
 have hG1:Below w.heap.size w w1:=by rw[hw1];exact(((Below.refl _ w).alloc nR _).alloc sX _).alloc sY _
 have hs1:w1.heap.size=w.heap.size+3:=by rw[hw1];simp
 rw[<-hw1] at b0 b1 b2
 simp only[World.size_alloc] at b1 b2
 have hc':w1.cell? ⟨B,0,none⟩=some (.int .i64 n):=(hG1.cell (p:=⟨B,0,none⟩) hBl).trans hc
 have hth:=Qx B n i h0 h1 w1 hc'
 have hc2':w1.cell? ⟨B,2,none⟩=some (.slice a ws.length cap):=(hG1.cell (p:=⟨B,2,none⟩) hBl).trans hc2
 have hc5':w1.cell? ⟨B,5,none⟩=some (.bool false):=(hG1.cell (p:=⟨B,5,none⟩) hBl).trans hc5
 have hr1:RowNW w.heap.size w1 a ws:=hr.below hG1
 replace hth:=Hd hth
 replace hw1:=Hd hw1
 replace hr1:=Hd hr1
 replace hm:=Hd hm
 replace hs1:=Hd hs1
 replace hc:=Hd hc
 clear hr hc2 hc5
 gi_wp2_with fail
 rw[<-hw1.out]
 refine⟨trivial,(callsIn_wide.2 hth.out).mono ?_⟩
 rintro e w2 ⟨rfl,hq⟩
 obtain rfl:=hq
 clear hth
 gi_wp2_with (refine⟨trivial,?_⟩;gi_at_call 114;refine(Ga Fence.wide _ trivial rfl _ _ _ _).mono ?_;rintro e w' ⟨rfl,rfl⟩)
 have b3:=Boxed.new w1 98 (.slice a ws.length cap)
 replace b0:=b0.alloc (.cells #[.slice a ws.length cap] 98)
 replace b1:=b1.alloc (.cells #[.slice a ws.length cap] 98)
 replace b2:=b2.alloc (.cells #[.slice a ws.length cap] 98)
 have hB0:Below w.heap.size w (w1.alloc (.cells #[.slice a ws.length cap] 98)):=hG1.alloc hG1.size _
 have hr0:RowNW w.heap.size (w1.alloc (.cells #[.slice a ws.length cap] 98)) a ws:=hr1.out.below ((Below.refl w.heap.size w1).alloc hG1.size _)
 have hsz:(w1.alloc (.cells #[.slice a ws.length cap] 98)).heap.size=w.heap.size+4:=by rw[World.size_alloc,hs1.out]
 rw[hs1.out] at b3 ⊢
 generalize w1.alloc (.cells #[.slice a ws.length cap] 98)=W0 at*
 clear hw1 hr1 hs1 hc' hc2' hc5' hG1
 refine wpIn_rangeFunc_ownH (n:=3) rfl dX (gf:=133) (lb:=#[.pointer (some ⟨w.heap.size+3,0,none⟩)]) rfl trivial (enters_of Tryz.func133 kX rfl)
  (Vk Fence.wide (3-1) trivial rfl dX (w.heap.size+3) w.heap.size a cap ws hws W0 oX b3 hr0) Vz (GC oX oX) bR (λ_=>rfl)
  (λpre W=>((Boxed W w.heap.size 3 (.int .i64 i)/\Boxed W (w.heap.size+1) 52 (.slice none 0 0)/\Boxed W (w.heap.size+1+1) 49 .nilIface/\Boxed W (w.heap.size+3) 98 (.slice a ws.length cap))/\(∀ y∈pre,y.2.1≠i))/\Below w.heap.size w W)
  (λc pre W=>c=.ret/\∃ g qs x,pre=qs++[x]/\(∀ y∈qs,y.2.1≠i)/\x.2.1=i/\w.heap.size+4<=g/\W.heap[g]? = some (.cells (wR x.2) 232 (0,0))/\Boxed W (w.heap.size+1) 52 (.slice (some ⟨g,1,none⟩) 64 64)/\Boxed W (w.heap.size+1+1) 49 .nilIface/\Below w.heap.size w W)
  ?hI ?hIx
  ⟨⟨⟨b0,b1,b2,b3⟩,λy hy=>by cases hy⟩,hB0⟩
  (λx a' W=>∃ Bx,w.heap.size+4<=Bx/\W.heap[Bx]? = some (.cells (wR x.2) 232 (0,0))/\a'={ tmps:=#[.pointer (some ⟨B,0,none⟩),.int .i64 i,undef,.pointer (some ⟨w.heap.size,0,none⟩),.pointer (some ⟨w.heap.size+1,0,none⟩),.pointer (some ⟨w.heap.size+1+1,0,none⟩),.nilIface,undef,.pointer (some ⟨Bx,0,none⟩),
   .pointer (some ⟨B,0,none⟩),.int .i64 i,.nilIface,.nilIface,.bool false,undef,.pointer (some ⟨B,0,none⟩),.pointer (some ⟨B,0,none⟩),.pointer (some ⟨B,5,none⟩),.bool false,undef,.pointer (some ⟨B,0,none⟩),.pointer (some ⟨B,0,none⟩),.pointer (some ⟨B,2,none⟩),.slice a ws.length cap,
   .func (.func 133) #[] #[.pointer (some ⟨w.heap.size+3,0,none⟩)],.int .i64 (x.1:Int),.agg (wR x.2),undef,undef,undef,undef,undef,undef,undef,undef,undef,undef,undef],defers:=[] })
  ?hAx ?assign ?body ?done ?stop
 case hI=>exact OwnFrom.and (OwnFrom.and (Own.from (λs A B row hs hg hr=>⟨ZM hs.1 rfl hg hr,ZM hs.2.1 rfl hg hr,ZM hs.2.2.1 rfl hg hr,ZM hs.2.2.2 rfl hg hr⟩) _) (ownFrom_pure _ _)) (ownFrom_below nR oX)
 case hIx=>
  rintro c s X Y row ⟨hc,g,qs,x,e1,e2,e3,e4,e5,e6,e7,e8⟩ hg hr
  exact⟨hc,g,qs,x,e1,e2,e3,e4,ZM e5 rfl hg (λr h=>(hr r h).2),ZM e6 rfl hg (λr h=>(hr r h).2),ZM e7 rfl hg (λr h=>(hr r h).2),e8.grown hg e8.size (λk e=>Nat.le_trans oX (hr k e).1)⟩
 case hAx=>
  rintro x a' s X Y row ⟨Bx,e1,e2,e3⟩ hg hr
  exact⟨Bx,e1,ZM e2 rfl hg (λr h=>(hr r h).2),e3⟩
 case assign=>
  rintro l pre x W K ⟨⟨⟨c0,c1,c2,c3⟩,hne⟩,hB⟩ hK
  have hszW:(Tryz.prog.info? 232).map (·.size)=some (wR x.2).size:=by rw[YM];kernel_rfl
  have hX1:=GW x.2
  have hX2:=YM x.2
  simp only[VL]
  obtain⟨xi,xp⟩:=x
  generalize hXd:wR xp=X at*
  replace hX2:=Hd hX2
  have hB2:=hB.size
  have hl3:=c3.lt
  gi_wp2_with (refine Y1 rfl 232 (.tmp 8) (.tmp 26) rfl W.heap.size _ X rfl rfl (Hd (heap_alloc_new _ _)) hszW (by rw[hX2.out];rfl) hX1 ?_;intro W2 hU)
  have hG:Below W.heap.size W W2:=Below.trans ((Below.refl _ W).alloc nR _) (hU.out.below nR)
  subst hXd
  exact hK _ _ ((Kh hG).from _) ⟨hG.mono hB2,hG.block _ hl3⟩ ⟨⟨⟨(hG.block _ c0.lt).trans c0,(hG.block _ c1.lt).trans c1,(hG.block _ c2.lt).trans c2,(hG.block _ c3.lt).trans c3⟩,hne⟩,hB.trans (hG.mono hB2)⟩ ⟨W.heap.size,oX,hU.out.here,rfl⟩
 case body=>
  rintro l pre x a' W hl _ ⟨⟨⟨c0,c1,c2,c3⟩,hne⟩,hB⟩ ⟨Bx,hBx,bX,rfl⟩ hlt
  have d0:=c0.cell
  have f1:=c1.frozen
  have f2:=c2.frozen
  have g1:=c1.cell
  have g2:=c2.cell
  have k0:W.cell? ⟨Bx,0,none⟩=some (.int .i64 x.2.1):=by rw[Za bX,wR,Array.getElem?_append_left sX];rfl
  have hX2:=YM x.2
  have l3:=c3.lt
  by_cases hx:x.2.1=i
  ·have hxb:(x.2.1==i)=true:=by simpa using hx
   replace hne:=Hd hne
   replace bX:=Hd bX
   replace hX2:=Hd hX2
   replace hx:=Hd hx
   gi_wp2_with fail
   have hb1:=c1.set (.slice (some ⟨Bx,1,none⟩) 64 64)
   have hb2:=(c2.other (B':=w.heap.size+1) oX (.slice (some ⟨Bx,1,none⟩) 64 64)).set .nilIface
   have hb1':=hb1.other (B':=w.heap.size+1+1) oX .nilIface
   have hbX:((W.setCell ⟨w.heap.size+1,0,none⟩ (.slice (some ⟨Bx,1,none⟩) 64 64)).setCell ⟨w.heap.size+1+1,0,none⟩ .nilIface).heap[Bx]? = some (.cells (wR x.2) 232 (0,0)):=by
    rw[Below.heap_setCell _ _ _ _ sY,Below.heap_setCell _ _ _ _ sY]
    exact bX.out
   exact⟨((KeepsOthers.setCell _ _ _).trans (KeepsOthers.setCell _ _ _)).from _,rfl,Bx,pre,x,rfl,hne.out,hx.out,hBx,hbX,hb1',hb2,(hB.setCell (p:=⟨w.heap.size+1,0,none⟩) sX _).setCell (p:=⟨w.heap.size+1+1,0,none⟩) sY _⟩
  ·have hxb:(x.2.1==i)=false:=by simpa using hx
   replace bX:=Hd bX
   replace hX2:=Hd hX2
   gi_wp2_with fail
   exact⟨KeepsFrom.refl _ _,KeepW.refl _ _ _,⟨⟨c0,c1,c2,c3⟩,λy hy=>by
    rcases List.mem_append.1 hy with hy|hy
    ·exact hne y hy
    ·simp at hy;subst hy;exact hx⟩,hB⟩
 case done=>
  rintro D ys W hD rfl ⟨⟨⟨c0,c1,c2,c3⟩,hne⟩,hB⟩ hK
  have hseen:=Hd (Kq f hne)
  have hWD:D≠w.heap.size+1/\D≠w.heap.size+1+1:=oX
  have d0:=c0.cell
  have hcB:W.cell? ⟨B,0,none⟩=some (.int .i64 n):=(hB.cell (p:=⟨B,0,none⟩) hBl).trans hc.out
  have hcB1:W.cell? ⟨B,1,none⟩=some (.map (some mb)):=(hB.cell (p:=⟨B,1,none⟩) hBl).trans hc1
  have hsu:=Hd (UP B mb mn f n i h0 h1 hn W hcB hcB1 (hm.out.only (Only.ofBelow (D:=λ_=>False) hB) (λh=>h)))
  clear hne hc1
  gi_wp2_with fail
  refine⟨trivial,(callsIn_wide.2 hsu.out).mono ?_⟩
  rintro e W2 ⟨g,rfl,hs,hge,hb⟩
  clear hsu
  have l1:=c1.lt
  have l2:=c2.lt
  have e1:Boxed W2 (w.heap.size+1) 52 (.slice none 0 0):=(hb.block _ l1).trans c1
  have e2:Boxed W2 (w.heap.size+1+1) 49 .nilIface:=(hb.block _ l2).trans c2
  have eD:W2.heap[D]? = some (.deferred (some [])):=(hb.block _ (Zb hK)).trans hK
  have g1:=e1.cell
  have g2:=e2.cell
  have f1:=e1.frozen
  have f2:=e2.frozen
  have hWl:=hB.size
  replace hs:=Hd hs
  replace hb:=Hd hb
  replace eD:=Hd eD
  replace hB:=Hd hB
  gi_wp2_with fail
  have hb1:=(e1.set (.slice (some ⟨g,0,none⟩) 64 64)).other (B':=w.heap.size+1+1) oX .nilIface
  have hb2:=(e2.other (B':=w.heap.size+1) oX (.slice (some ⟨g,0,none⟩) 64 64)).set .nilIface
  have hSec:((W2.setCell ⟨w.heap.size+1,0,none⟩ (.slice (some ⟨g,0,none⟩) 64 64)).setCell ⟨w.heap.size+1+1,0,none⟩ .nilIface).heap[g]? = some (.cells (cB (f i)).toArray 230 (0,0)):=by
   rw[Below.heap_setCell _ _ _ _ sY,Below.heap_setCell _ _ _ _ sY]
   exact hs.out
  have hDe:((W2.setCell ⟨w.heap.size+1,0,none⟩ (.slice (some ⟨g,0,none⟩) 64 64)).setCell ⟨w.heap.size+1+1,0,none⟩ .nilIface).heap[D]? = some (.deferred (some [])):=by
   rw[Below.heap_setCell _ _ _ _ sY,Below.heap_setCell _ _ _ _ sY]
   exact eD.out
  have hBe:Below w.heap.size w ((W2.setCell ⟨w.heap.size+1,0,none⟩ (.slice (some ⟨g,0,none⟩) 64 64)).setCell ⟨w.heap.size+1+1,0,none⟩ .nilIface):=((hB.out.trans (hb.out.mono hWl)).setCell (p:=⟨w.heap.size+1,0,none⟩) sX _).setCell (p:=⟨w.heap.size+1+1,0,none⟩) sY _
  have hgD:g≠D:=λe=>by subst e;rw[hSec] at hDe;cases hDe
  exact JG rfl hb1 hb2 oX oX hDe ⟨g,0,rfl,⟨[],230,rfl,by rw[hseen.out];exact(World.putObj_heap_other hgD).trans hSec⟩,oX,hBe.trans (belowK_b (w:=w) nR _ D _ _ oX hDe rfl rfl)⟩
 case stop=>
  rintro D c pre W hD ⟨k,hk,hp⟩ ⟨rfl,g,qs,x,e1,e2,e3,e4,e5,e6,e7,e8⟩ hK
  have hseen:=US f hk (e1.symm.trans hp) e2 e3
  have hgD:g≠D:=λe=>by subst e;rw[e5] at hK;cases hK
  gi_wp2
  refine JG rfl e6 e7 oX oX hK ⟨g,1,rfl,⟨[.int .i64 x.2.1],232,rfl,?_⟩,oX,e8.trans (belowK_b (w:=w) nR _ D _ _ oX hK rfl rfl)⟩
  rw[hseen.1,World.putObj_heap_other hgD,e5,<-Jz (hlens x.2 hseen.2)]
  congr 2
  apply Array.ext'
  rw[XN]
  rfl
end
end Go.Proofs.YtdilmfnpkeihiaaGreatDoor
