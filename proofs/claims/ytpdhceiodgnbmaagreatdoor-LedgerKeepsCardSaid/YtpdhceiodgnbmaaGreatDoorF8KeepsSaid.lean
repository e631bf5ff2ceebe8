import Derived.Test.YtpdhceiodgnbmaaGreatDoorF7KeepsSaid
import Derived.RangeFuncNested
set_option linter.all false
set_option maxRecDepth 100000
set_option maxHeartbeats 8000000
namespace Go.Proofs.YtpdhceiodgnbmaaGreatDoor
section
open Go.RowKit
theorem P6.list_length(p:P6):p.list.length=6:=rfl
theorem P6.list_one(p:P6):∀ u∈p.list,u.oneCell'=true:=by
 intro u hu;simp only[P6.list,List.mem_cons,List.not_mem_nil,or_false] at hu;rcases hu with rfl|rfl|rfl|rfl|rfl|rfl<;>rfl
theorem all_one{l:List Value}(h:∀ u∈l,u.oneCell'=true):l.toArray.all (·.oneCell')=true:=by
 rw[Array.all_eq_true'];intro u hu;exact h u (by simpa using hu)
def aU{α:Type}(enc:α->List Value)(size:Nat)(w:World)(a:Option Addr)(xs:List α):Prop:=∀ k (h:k<xs.length),∃ b o,a=some ⟨b,o,none⟩/\w.rangeAt b (o+k*size) (enc xs[k])
theorem Q1{w w':World}{B b o:Nat}{cs:List Value}(h:w.rangeAt b o cs)(hb:Below B w w')(hB:w.heap.size<=B):w'.rangeAt b o cs:=λj v hv=>by
 have h1:=h j v hv;have h2:=World.block_lt_of_cell? w _ h1;exact(hb.cell (p:=⟨b,o+j,none⟩) (Nat.lt_of_lt_of_le h2 hB)).trans h1
theorem aU.below{α:Type}{enc:α->List Value}{size B:Nat}{w w':World}{a:Option Addr}{xs:List α}(h:aU enc size w a xs)(hb:Below B w w')(hB:w.heap.size<=B):aU enc size w' a xs:=λk hk=>by
 obtain⟨b,o,e,hr⟩:=h k hk;exact⟨b,o,e,Q1 hr hb hB⟩
theorem Kq{w:World}{x:Addr}{v:Value}(h:w.cell? x=some v)(o:Obj):(w.alloc o).cell? x=some v:=
 (((Below.refl w.heap.size w).alloc nZ o).cell (World.block_lt_of_cell? w _ h)).trans h
theorem Uk{w:World}{b:Nat}{C:Array Value}{t:TypeId}{fz:Nat×Nat}(hb:w.heap[b]? = some (.cells C t fz)){o n:Nat}{B:List Value}(h:(C.toList.drop o).take n=B):w.rangeAt b o B:=λj v hv=>by
 rw[Za hb];rw[<-h,List.getElem?_take] at hv;split at hv
 ·rw[List.getElem?_drop,Array.getElem?_toList] at hv;exact hv
 ·cases hv
def Py(w:World)(xs:List (List UInt8))(x:Ending)(w':World):Prop:=∃ v,x=.returned v/\aH RD 47 32 w.heap.size w' (λ_=>False) v xs/\Below w.heap.size w w'
theorem Lf(a:Option Addr)(c:Nat)(xs:List (List UInt8))(hok:∀ x∈xs,x.length=32)(w:World)(h:aU cB 32 w a xs)(hl:xs.length<=100000) :
  Calls Tryz.prog 134 #[.slice a xs.length c] w (Py w xs):=by
 obtain⟨i0,hi0,h2⟩:=Option.map_eq_some_iff.1 X4;simp only[Prod.mk.injEq] at h2;obtain⟨hz,hs1,hby⟩:=h2;obtain⟨z,hz1,hz2⟩:=Option.map_eq_some_iff.1 hz;have hq:=@Lib.run_eql_slice_nil Tryz.prog w 93 47 a xs.length c 0 0 Tryz.underlying93;cases a with
 | none=>
  have hx:xs=[]:=by
   cases xs with
   | nil=>rfl
   | cons x xs=>obtain⟨b,o,e,_⟩:=h 0 sX;cases e
  subst hx;have hq':=@Lib.run_eql_slice_nil Tryz.prog w 93 47 none 0 c 0 0 Tryz.underlying93;clear h hok hi0 hz hs1 hby hz1 hz2 hl hq;go_enter Tryz.func134,Tryz.ntmps134;go_wp2_with fail;go_ret;exact⟨_,rfl,aH.nil _ _,Below.refl _ _⟩
 | some ad=>
  have hlen:∀ x∈xs,(cB x).length=32:=λx hx=>by rw[Zc];exact hok x hx
  have hcells:∀ j u,(xs.flatMap cB)[j]? = some u->w.cell? (ad.add j)=some u:=λj u hu=>by
   cases xs with
   | nil=>simp at hu
   | cons x0 xt=>
    obtain⟨b,o,e,_⟩:=h 0 sX;cases e;rw[Addr.add_mid];exact Vf dX hlen (λk hk=>by obtain⟨b',o',e',h'⟩:=h k hk;cases e';exact h') j u hu
  have hfl:=QW xs hlen;have hone:∀ u∈xs.flatMap cB,u.oneCell'=true:=λu hu=>by
   obtain⟨x,_,hx⟩:=List.mem_flatMap.1 hu;exact Zw x u hx
  have hrow:∀ (W:World) v,W.ownsRow w.heap.size 47 32 v xs.length (xs.flatMap cB)->aH RD 47 32 w.heap.size W (λ_=>False) v xs:=λW v hW=>Jj (λx hx=>⟨hok x hx,rfl⟩) hW;obtain⟨N,hN⟩:=aA xs.length;rw[<-hN] at hq hfl hl hrow ⊢;generalize xs.flatMap cB=news at*;replace hcells:=Hd hcells;replace hone:=Hd hone;replace hrow:=Hd hrow;replace hfl:=Hd hfl;replace hN:=Hd hN;clear h hok hlen;go_enter Tryz.func134,Tryz.ntmps134;go_wp2_with (at_builtin;refine wpList_append_own _ rfl (.tmp 5) (.tmp 6) 93 rfl w.heap.size 47 i0 z 32 32 Tryz.underlying93 hi0 hz1 hs1 hby hz2 dX _ _ _ rfl (World.ownsRow_made w #[] 0 nZ (Nat.zero_le _) sX) ad N c news rfl ?qc1 ?qc2 ?qc3 ?qc4 ?qc5 ?qc6 ?_)
  case qc1=>exact hfl.out
  case qc2=>
   intro j u hj;exact Lib.cell?_alloc_some _ (hcells.out j u hj)
  case qc3=>exact hone.out
  case qc4=>unfold maxLen;omega
  case qc5=>omega
  case qc6=>simp
  intro v' w1 hown hgrow hnil;have hown:=Hd (show w1.ownsRow w.heap.size 47 32 v' N news by simpa using hown);have hgrow:=Hd hgrow;clear hnil;go_wp2_with fail;go_ret;exact⟨_,rfl,hrow.out _ _ hown.out,((Below.refl _ w).alloc nZ _).grown hgrow.out sX (by intro k hk;simp[Value.ownBlock] at hk;omega)⟩
open Go.RowKit Go.Shelf
section
variable {P:Program} {Q:Exit->Act->World->Prop} {w:World} {c:Code}
theorem DX(bg:List (Bool×Nat))(l:List Value)(ds:List Deferred)(R:(Nat->Value)->List Deferred->World->Prop)(M:(Nat->Value)->World->Nat)(h0:R (λi=>l.getD i undef) ds w)
  (hr:∀ U ds wr,R U ds wr->∀ K:Act->World->Prop,Hid (∀ qo ds'' w'',ZQ (λi=>qo.getD i undef) 0 bg l=qo->R (λi=>qo.getD i undef) ds'' w''->M (λi=>qo.getD i undef) w''<M U wr->K ⟨qo.toArray,ds''⟩ w'')->
   ∀ l',ZQ U 0 bg l=l'->c.wp P (Exit.then K Q) ⟨l'.toArray,ds⟩ wr):(Code.loop c).wp P Q ⟨l.toArray,ds⟩ w:=by
 refine wp_loop_ghost (λn a w'=>∃ U ds',R U ds' w'/\M U w'=n/\a=⟨(ZQ U 0 bg l).toArray,ds'⟩) (M (λi=>l.getD i undef) w) ⟨_,ds,h0,rfl,by rw[GS]⟩ ?_;rintro n a w' ⟨U,ds',hR,rfl,rfl⟩;refine hr U ds' w' hR _ (Hd ?_) _ rfl;intro qo ds'' w'' he h1 h2;exact⟨_,h2,_,ds'',h1,rfl,by rw[he]⟩
end
def CB(D:Nat):Deferred:={ target:=.collected D,args:=#[] }
structure Marks (B:Nat) (Ds:List Nat) (W:World):Prop where
 at_:∀ D∈Ds,B<=D/\W.heap[D]? = some (.deferred (some []))
 nodup:Ds.Nodup
theorem Marks.cons{B D:Nat}{Ds:List Nat}{w W:World}(h:Marks B Ds w)(hb:∀ k,k∈Ds->W.heap[k]? = w.heap[k]?)(hD:W.heap[D]? = some (.deferred (some [])))(hD2:w.heap.size<=D)(hB:B<=w.heap.size):Marks B (D::Ds) W:=by
 refine⟨λk hk=>?_,List.nodup_cons.2 ⟨λhm=>?_,h.nodup⟩⟩
 ·rcases List.mem_cons.1 hk with rfl|hk
  ·exact⟨Nat.le_trans hB hD2,hD⟩
  ·exact⟨(h.at_ k hk).1,(hb k hk).trans (h.at_ k hk).2⟩
 ·have:=Zb (h.at_ D hm).2;omega
theorem ML{P:Program}{F:Fence}{n:Nat}{fn:Func}{tmps:Array Value}{R:Ending->World->Prop}(w0:World):∀ (Ds:List Nat) (W:World),Marks w0.heap.size Ds W->(∀ W',Below w0.heap.size W W'->(∀ b,b<w0.heap.size\/(∀ D∈Ds,D≠b)->W'.heap[b]? = W.heap[b]?)->LeavesIn F n P fn tmps R [] .returning W')->
  LeavesInM F n P fn tmps R (Ds.map CB) .returning W:=by
 intro Ds;induction Ds with
 | nil=>intro W _ h;exact h W bR (λ_ _=>rfl)
 | cons D Ds ih=>
  intro W hm h;obtain⟨h1,hK⟩:=hm.at_ D (List.mem_cons_self ..);have hnd:=List.nodup_cons.1 hm.nodup;refine⟨sX,.inl ⟨_,_,rfl,run_takeDeferred hK,?_⟩⟩;refine ih _ ⟨λk hk=>⟨(hm.at_ k (List.mem_cons_of_mem _ hk)).1,?_⟩,hnd.2⟩ (λW' hb hx=>?_)
  ·refine(World.putObj_heap_other (λe=>?_)).trans (hm.at_ k (List.mem_cons_of_mem _ hk)).2;first|exact hnd.1 (e▸hk)|exact hnd.1 (e.symm▸hk)
  ·have hb0:Below w0.heap.size W (W.putObj D (.deferred none)):=belowK_b (w:=w0) nZ W D _ _ h1 hK rfl rfl;refine h W' (hb0.trans hb) (λb hbb=>?_);have e1:W'.heap[b]? = (W.putObj D (.deferred none)).heap[b]? := hx b (hbb.imp id (λh D' hD'=>h D' (List.mem_cons_of_mem _ hD')));refine e1.trans (World.putObj_heap_other ?_);rcases hbb with hbb|hbb
   ·omega
   ·have:=hbb D (List.mem_cons_self ..);first|exact this|exact λe=>this e.symm
structure fO (base:Nat) (w:World) (B:Nat) (T:TypeId) (n:Int) (mb mn:Nat) (f:Int->List UInt8) (v:Value) (ws:List (Int×List UInt8)) (armed:Bool) (l:Int) (gone:Bool):Prop where
 at_:w.heap[B]? = some (.cells (Q7 n mb v armed l gone) T (0,0))
 map:aV w mb mn f
 row:w.ownsRow base 132 65 v ws.length (Yb ws)
 hmB:mb≠B
 vB:∀ k,v.ownBlock=some k->k≠B/\k≠mb
 geB:base<=B
 gem:base<=mb
 lens:∀ p∈ws,p.2.length=64/\0<=p.1/\p.1<n
def ZR(B mb:Nat)(v:Value)(k:Nat):Prop:=k=B\/k=mb\/v.ownBlock=some k
theorem fO.only{base:Nat}{w w':World}{B:Nat}{T:TypeId}{n:Int}{mb mn:Nat}{f:Int->List UInt8}{v:Value}{ws:List (Int×List UInt8)}{armed:Bool}{l:Int}{gone:Bool}{D:Nat->Prop}(h:fO base w B T n mb mn f v ws armed l gone)(hO:Only D w w')(hd:∀ k,ZR B mb v k->¬D k):fO base w' B T n mb mn f v ws armed l gone:=
 ⟨hO.heap h.at_ (hd B (.inl rfl)),h.map.only hO (hd mb (.inr (.inl rfl))),hO.owns h.row (λk hk=>hd k (.inr (.inr hk))),h.hmB,h.vB,h.geB,h.gem,h.lens⟩
theorem fO.lt{base:Nat}{w:World}{B:Nat}{T:TypeId}{n:Int}{mb mn:Nat}{f:Int->List UInt8}{v:Value}{ws:List (Int×List UInt8)}{armed:Bool}{l:Int}{gone:Bool}(h:fO base w B T n mb mn f v ws armed l gone):∀ k,ZR B mb v k->base<=k/\k<w.heap.size:=by
 rintro k (rfl|rfl|hk)
 ·exact⟨h.geB,Zb h.at_⟩
 ·exact⟨h.gem,h.map.lt⟩
 ·exact World.ownsRow.lt h.row k hk
def Q2:(Nat->Option Nat)->List (Int×List UInt8)->(Int->List UInt8)->Int->List UInt8
 | _,[],f=>f
 | ks,p::ws,f=>Q2 (λj=>ks (j+1)) ws (match ks 0 with
  | some k=>λj=>if j=p.1 then Xu k p.2 (f p.1) else f j
  | none=>f)
theorem PV(ws:List (Int×List UInt8)):∀ (ks:Nat->Option Nat) (p:Int×List UInt8) (f:Int->List UInt8),Q2 ks (ws++[p]) f=match ks ws.length with
  | some k=>λj=>if j=p.1 then Xu k p.2 (Q2 ks ws f p.1) else Q2 ks ws f j
  | none=>Q2 ks ws f:=by
 induction ws with
 | nil=>intro ks p f;rfl
 | cons q ws ih=>
  intro ks p f;rw[List.cons_append];unfold Q2;rw[ih];rfl
theorem GM{ws:List (Int×List UInt8)}{j:Nat}(hj:j<ws.length)(ks:Nat->Option Nat)(f:Int->List UInt8):Q2 ks (ws.take (j+1)) f=match ks j with
  | some k=>λx=>if x=ws[j].1 then Xu k ws[j].2 (Q2 ks (ws.take j) f ws[j].1) else Q2 ks (ws.take j) f x
  | none=>Q2 ks (ws.take j) f:=by
 rw[List.take_succ_eq_append_getElem hj,PV,List.length_take,Nat.min_eq_left (Nat.le_of_lt hj)]
theorem W8{ws:List (Int×List UInt8)}(h:∀ p∈ws,p.2.length=64):∀ (j:Nat) (hj:j<ws.length) (i:Nat) (u:Value),(Value.int .i64 ws[j].1::cB ws[j].2)[i]? = some u->(Yb ws)[j*65+i]? = some u:=by
 induction ws with
 | nil=>intro j hj;exact absurd hj (Nat.not_lt_zero _)
 | cons p ws ih=>
  intro j hj i u hu;have hp:=h p (List.mem_cons_self ..);have hl:(Value.int IntKind.i64 p.1::cB p.2).length=65:=by simp[Zc,hp]
  cases j with
  | zero=>
   simp only[List.getElem_cons_zero] at hu;show (Value.int IntKind.i64 p.1::cB p.2++Yb ws)[0*65+i]? = some u;have hi:=(List.getElem?_eq_some_iff.1 hu).1;rw[Nat.zero_mul,Nat.zero_add,List.getElem?_append_left hi];exact hu
  | succ j=>
   show (Value.int IntKind.i64 p.1::cB p.2++Yb ws)[(j+1)*65+i]? = some u;rw[List.getElem?_append_right aB,hl,show (j+1)*65+i-65=j*65+i by omega];exact ih (λq hq=>h q (List.mem_cons_of_mem _ hq)) j (by simpa using hj) i u hu
theorem Mp{base:Nat}{w:World}{g m cap:Nat}{ws:List (Int×List UInt8)}(h:w.ownsRow base 132 65 (.slice (some ⟨g,0,none⟩) m cap) ws.length (Yb ws))(hl:∀ p∈ws,p.2.length=64)(j:Nat)(hj:j<ws.length) :
  w.rangeAt g (j*65) (.int .i64 ws[j].1::cB ws[j].2):=by
 intro i u hu;rcases h.2 with ⟨e,_⟩|⟨g',cap',cur,e1,_,e3,_,_,e6,e7⟩
 ·cases e
 ·cases e1;rw[Za e3,<-Array.getElem?_toList];have h1:=W8 hl j hj i u hu;rw[<-e7,List.getElem?_take] at h1;split at h1
  ·exact h1
  ·cases h1
attribute [local go_sem] Oper.semAt_some
section
variable {F:Fence} {n:Nat} {P:Program} {w:World} {ops:Array Oper} {rest:List Oper} {o:Oper} {a:Act} {Q:Exit->Act->World->Prop}
theorem ZY(hgd:o.guard=none)(ty:TypeId)(x:Operand)(ho:o.op=.load ty x)(b off:Nat)(hx:a.eval x=.pointer (some ⟨b,off,none⟩))(cs:List Value)(d:TypeDesc)(hc:w.rangeAt b off cs)
  (hu:P.underlying ty=some d) (hd:d.isRow=true) (hi:(P.info? ty).map (·.size)=some cs.length) (h:wpListIn F n P ops Q rest (a.put o.dst (.agg cs.toArray)) w):wpListIn F n P ops Q (o::rest) a w:=by
 refine wpListIn_plain hgd λK hK=>?_;unfold Oper.wpIn;refine⟨by simp[Oper.about,ho],?_⟩;rw[Oper.semAt_plain F _ _ (by rw[ho];intro c hc';cases hc')];unfold execOp;simp only[ho,hx,Instr.loadAt,Instr.sureAddr,Sem.run_bind,Sem.run_pure,Result.andThen_ok,run_loadVar_mid w b off ty cs d hc hu hd hi];exact hK _ _ h
theorem Qh(hgd:o.guard=none)(ty:TypeId)(x y:Operand)(ho:o.op=.store ty x y)(g:Nat)(c c':Array Value)
  (hx:a.eval x=.pointer (some ⟨g,0,none⟩)) (hy:a.eval y=.agg c') (hg:Hid (w.heap[g]? = some (.cells c ty (0,0)))) (hi:(P.info? ty).map (·.size)=some c'.size) (hs:c.size=c'.size) (h1:c'.all (·.oneCell')=true)
  (h:∀ w',Hid (ag g (.cells c' ty (0,0)) w w')->wpListIn F n P ops Q rest (a.put o.dst undef) w'):wpListIn F n P ops Q (o::rest) a w:=by
 refine wpListIn_plain hgd λK hK=>?_;have h2:=hK _ _ (h _ (Hd (ag.setRow (cs:=c') hg.out)));unfold Oper.wpIn;refine⟨by simp[Oper.about,ho],?_⟩;rw[Oper.semAt_plain F _ _ (by rw[ho];intro c hc';cases hc')];unfold execOp;simp only[ho,hx,hy,Instr.storeAt,Instr.sureAddr,Sem.run_bind,Sem.run_pure,Result.andThen_ok,run_storeVar_row w g ty ty c c' hg.out hi hs h1];exact h2
end
def ZV{α:Type}(f:Nat->α)(k:Nat):List α:=(List.range k).map f
theorem YZ{α:Type}(f:Nat->α)(k:Nat):ZV f (k+1)=ZV f k++[f k]:=by simp[ZV,List.range_succ]
theorem Vs{α:Type}(f:Nat->α)(k:Nat):(ZV f k).length=k:=by simp[ZV]
def KB(l:List UInt8):List UInt8:=(l++cK).take 64
theorem DC(l:List UInt8):(KB l).length=64:=by simp[KB,cK]
theorem Hw{l:List UInt8}(h:l.length=64):KB l=l:=by unfold KB;rw[<-h,List.take_left]
def wR(p:Int×List UInt8):Array Value:=#[Value.int .i64 p.1]++(cB (KB p.2)).toArray
theorem NZ(p:Int×List UInt8):(wR p).toList=.int .i64 p.1::cB (KB p.2):=by simp[wR]
theorem K8(p:Int×List UInt8):(wR p).size=65:=by simp[wR,Zc,DC]
theorem Fh(p:Int×List UInt8):(wR p).all (·.oneCell')=true:=by
 rw[Array.all_eq_true'];intro u hu;have hu:=Array.mem_toList_iff.2 hu;rw[NZ] at hu;rcases List.mem_cons.1 hu with rfl|hu
 ·rfl
 ·exact Zw _ u hu
def WY(x:Nat×(Int×List UInt8)):Array Value:=#[.int .i64 (x.1:Int),.agg (wR x.2)]
def YH(ws:List (Int×List UInt8))(k:Nat):Nat×(Int×List UInt8):=(ws.length-1-k,ws.getD (ws.length-1-k) (0,[]))
def ic(n₀:Nat)(w:World)(a:Option Addr)(ws:List (Int×List UInt8)):Prop:=
 ∀ i,i<ws.length->∃ g,a=some ⟨g,0,none⟩/\g<n₀/\(ws.getD i (0,[])).2.length=64/\w.rangeAt g (i*65) (wR (ws.getD i (0,[]))).toList
theorem ic.below{n₀:Nat}{A B:World}(h:Below n₀ A B){a:Option Addr}{ws:List (Int×List UInt8)}(hr:ic n₀ A a ws):ic n₀ B a ws:=by
 intro i hi;obtain⟨g,rfl,hg,hl,hc⟩:=hr i hi;exact⟨g,rfl,hg,hl,λj v hv=>(h.cell (p:=⟨g,i*65+j,none⟩) hg).trans (hc j v hv)⟩
def fG(n₀ Bs:Nat)(W W':World):Prop:=Below n₀ W W'/\W'.heap[Bs]? = W.heap[Bs]?
theorem fG.refl(n₀ Bs:Nat)(W:World):fG n₀ Bs W W:=⟨Below.refl _ _,rfl⟩
theorem RH{n₀ Bs:Nat}{A B C:World}(h:fG n₀ Bs A B)(k:fG n₀ Bs B C):fG n₀ Bs A C:=⟨h.1.trans k.1,k.2.trans h.2⟩
theorem E7{n₀ Bs:Nat}{w:World}(hn:n₀<=w.heap.size)(hB:Bs<w.heap.size)(W:World)(l:Nat)(o o':Obj)(hl:w.heap.size<=l)(h:W.heap[l]? = some o)(h1:o.isCells=false)(h2:o.isWalk=false):fG n₀ Bs W (W.putObj l o'):=
 ⟨belowK_b hn W l o o' hl h h1 h2,World.putObj_heap_other aB⟩
theorem fG.boxed{n₀ Bs:Nat}{W W':World}{t:TypeId}{v:Value}(h:fG n₀ Bs W W')(hb:Boxed W Bs t v):Boxed W' Bs t v:=h.2.trans hb
theorem D2(F:Fence)(n:Nat)(h7:F.fn 175)(hro:F.round=none)(hn:1<=n)(l Bs n₀:Nat)(a:Option Addr)(cap:Nat)(ws:List (Int×List UInt8))(gF:ws.length<=1000000)(J Jx:List (Nat×(Int×List UInt8))->World->Prop)
  (hY:∀ pre x W,J pre W->pre.length<ws.length->YieldAt F (n-1) Tryz.prog l (WY x) W λe W'=>
   (e=.returned (.bool true)/\J (pre++[x]) W'/\fG n₀ Bs W W')\/(e=.returned (.bool false)/\Jx (pre++[x]) W'))
  (W:World) (mO:Boxed W Bs 118 (.slice a ws.length cap)) (hc:ic n₀ W a ws) (h0:J [] W) :
  CallsIn F n Tryz.prog 175 #[.func (.yield l) #[] #[],.pointer (some ⟨Bs,0,none⟩)] W λe W'=>(∃ v,e=.returned v)/\
   ((∃ ys,ys=ZV (YH ws) ws.length/\J ys W')\/(∃ pre,(∃ k,k<=ws.length/\pre=ZV (YH ws) k)/\Jx pre W')):=by
 refine callsIn_of_wp Tryz.func175 rfl h7 ?_ hro;simp only[Tryz.ntmps175,List.size_toArray,List.length_cons,List.length_nil,Nat.reduceAdd,Nat.reduceSub,Array.replicate_succ,Array.replicate_zero,List.push_toArray,List.append_toArray,List.nil_append,List.cons_append];replace hc:=Hd hc;have hBc:=mO.cell;have yR:Tryz.prog.underlying 132=some _:=Tryz.underlying132;gi_wp2;gi_loopw [3] (λi wr=>∃ k m:Nat,k+m=ws.length/\i=.int .i64 ((m:Int)-1)/\J (ZV (YH ws) k) wr/\fG n₀ Bs W wr)
  (λi _=>(intOf i+1).toNat)
 case atStart=>exact⟨0,ws.length,aB,rfl,h0,fG.refl _ _ _⟩
 case round=>
  obtain⟨k,m,hk,rfl,hJs,hnx⟩:=hrel;have hBx:=(hnx.boxed mO).cell;cases m with
  | succ m=>
   obtain⟨g,rfl,hb,_,hcx⟩:=(hc.out.below hnx.1) m aB;obtain⟨fn,tmps,assign,body,hy,hR⟩:=hY _ (m,ws.getD m (0,[])) wr hJs (by rw[Vs];omega);have hback:YH ws k=(m,ws.getD m (0,[])):=by unfold YH;rw[show ws.length-1-k=m from by omega]
   replace hback:=Hd hback;dsimp only [WY] at hy;have hm1:((m+1:Nat):Int)-1=(m:Int):=aB;rw[hm1];clear hm1;generalize ws.getD m (0,[])=x at*;have gX:(Tryz.prog.info? 132).map (·.size)=some (wR x).toList.length:=by rw[Array.length_toList,K8];kernel_rfl
   obtain⟨X,hX⟩:=aA (wR x);rw[<-hX] at gX hcx hy;replace hcx:=Hd hcx;replace hX:=Hd hX;replace gX:=Hd gX;gi_wp2_with (refine ZY rfl 132 (.tmp 15) rfl g _ rfl X.toList _ hcx.out yR rfl gX.out ?_;rw[Array.toArray_toList]);refine hR.mono ?_;rintro e W3 (⟨rfl,hJ3,hk3⟩|⟨rfl,hJx3⟩)
   ·gi_wp2;go_roundw
    case rel=>exact⟨k+1,m,aB,by go_num,by rw[YZ,hback.out];exact hJ3,RH hnx hk3⟩
    case measure=>simp[intOf]
   ·gi_wp2;refine bodyPost_ret (results_none rfl _ _ _) rfl ?_;exact⟨⟨_,rfl⟩,.inr ⟨_,⟨k+1,aB,by rw[YZ,hback.out]⟩,hJx3⟩⟩
  | zero=>
   obtain rfl:k=ws.length:=aB;gi_wp2
   go_end0
   exact⟨⟨_,rfl⟩,.inl ⟨_,rfl,hJs⟩⟩
theorem Cl(F:Fence)(n:Nat)(h5:F.fn 156)(hro:F.round=none)(a:Option Addr)(len cap:Nat)(w:World) :
  CallsIn F n Tryz.prog 156 #[.slice a len cap] w λe w'=>e=.returned (.func (.func 175) #[] #[.pointer (some ⟨w.heap.size,0,none⟩)])/\w'=w.alloc (.cells #[.slice a len cap] 118):=by
 refine callsIn_of_wp Tryz.func156 rfl h5 ?_ hro;simp only[Tryz.ntmps156,List.size_toArray,List.length_cons,List.length_nil,Nat.reduceAdd,Nat.reduceSub,Array.replicate_succ,Array.replicate_zero,List.push_toArray,List.append_toArray,List.nil_append,List.cons_append];gi_wp2;go_ret;exact⟨rfl,rfl⟩
theorem TJ(F:Fence)(n:Nat)(h8:F.fn 175)(hro:F.round=none)(hn:1<=n)(Bs n₀:Nat)(a:Option Addr)(cap:Nat)(ws:List (Int×List UInt8))(gF:ws.length<=1000000)(w:World)(hn₀:n₀<=w.heap.size)
  (hc:Boxed w Bs 118 (.slice a ws.length cap)) (hI:ic n₀ w a ws) :
  SeqStopsK F n Tryz.prog 175 #[.pointer (some ⟨Bs,0,none⟩)] WY (fG n₀ Bs) (λys=>ys=ZV (YH ws) ws.length)
   (λpre=>∃ k,k<=ws.length/\pre=ZV (YH ws) k) ws.length w:=λl J Jx W hW _ _ hY h0=>
 D2 F n h8 hro hn l Bs n₀ a cap ws gF J Jx hY W ((hW.block Bs hc.lt).trans hc) (hI.below (hW.mono hn₀)) h0
attribute [local go_sem] Oper.semAt_some
def Xj(l:List UInt8):List UInt8:=(l++List.replicate 32 0).take 32
theorem VM(l:List UInt8):(Xj l).length=32:=by simp[Xj]
theorem G1{l:List UInt8}(h:l.length=32):Xj l=l:=by unfold Xj;rw[<-h,List.take_left]
def Ju(d:List UInt8):Array Value:=(cB (Xj d)).toArray
theorem Gj(p:List UInt8):(Ju p).size=32:=by simp[Ju,Zc,VM]
def MR(x:Nat×(List UInt8)):Array Value:=#[.int .i64 (x.1:Int),.agg (Ju x.2)]
def QN(ws:List ((List UInt8)))(k:Nat):Nat×(List UInt8):=(ws.length-1-k,ws.getD (ws.length-1-k) [])
def iK(n₀:Nat)(w:World)(a:Option Addr)(ws:List (List UInt8)):Prop:=
 ∀ i,i<ws.length->∃ g,a=some ⟨g,0,none⟩/\g<n₀/\w.rangeAt g (i*32) (Ju (ws.getD i [])).toList
theorem iK.below{n₀:Nat}{A B:World}(h:Below n₀ A B){a:Option Addr}{ws:List (List UInt8)}(hr:iK n₀ A a ws):iK n₀ B a ws:=by
 intro i hi;obtain⟨g,rfl,hg,hc⟩:=hr i hi;exact⟨g,rfl,hg,λj v hv=>(h.cell (p:=⟨g,i*32+j,none⟩) hg).trans (hc j v hv)⟩
def di(n₀ Bs:Nat)(W W':World):Prop:=Below n₀ W W'/\W'.heap[Bs]? = W.heap[Bs]?
theorem di.refl(n₀ Bs:Nat)(W:World):di n₀ Bs W W:=⟨Below.refl _ _,rfl⟩
theorem H4{n₀ Bs:Nat}{A B C:World}(h:di n₀ Bs A B)(k:di n₀ Bs B C):di n₀ Bs A C:=⟨h.1.trans k.1,k.2.trans h.2⟩
theorem BW{n₀ Bs:Nat}{w:World}(hn:n₀<=w.heap.size)(hB:Bs<w.heap.size)(W:World)(l:Nat)(o o':Obj)(hl:w.heap.size<=l)(h:W.heap[l]? = some o)(h1:o.isCells=false)(h2:o.isWalk=false):di n₀ Bs W (W.putObj l o'):=
 ⟨belowK_b hn W l o o' hl h h1 h2,World.putObj_heap_other aB⟩
theorem di.boxed{n₀ Bs:Nat}{W W':World}{t:TypeId}{v:Value}(h:di n₀ Bs W W')(hb:Boxed W Bs t v):Boxed W' Bs t v:=h.2.trans hb
theorem WH(F:Fence)(n:Nat)(h7:F.fn 141)(hro:F.round=none)(hn:1<=n)(l Bs n₀:Nat)(a:Option Addr)(cap:Nat)(ws:List (List UInt8))(gF:ws.length<=1000000)(J Jx:List (Nat×(List UInt8))->World->Prop)
  (hY:∀ pre x W,J pre W->pre.length<ws.length->YieldAt F (n-1) Tryz.prog l (MR x) W λe W'=>
   (e=.returned (.bool true)/\J (pre++[x]) W'/\di n₀ Bs W W')\/(e=.returned (.bool false)/\Jx (pre++[x]) W'))
  (W:World) (mO:Boxed W Bs 93 (.slice a ws.length cap)) (hc:iK n₀ W a ws) (h0:J [] W) :
  CallsIn F n Tryz.prog 141 #[.func (.yield l) #[] #[],.pointer (some ⟨Bs,0,none⟩)] W λe W'=>(∃ v,e=.returned v)/\
   ((∃ ys,ys=ZV (QN ws) ws.length/\J ys W')\/(∃ pre,(∃ k,k<=ws.length/\pre=ZV (QN ws) k)/\Jx pre W')):=by
 refine callsIn_of_wp Tryz.func141 rfl h7 ?_ hro;simp only[Tryz.ntmps141,List.size_toArray,List.length_cons,List.length_nil,Nat.reduceAdd,Nat.reduceSub,Array.replicate_succ,Array.replicate_zero,List.push_toArray,List.append_toArray,List.nil_append,List.cons_append];replace hc:=Hd hc;have hBc:=mO.cell;have yR:Tryz.prog.underlying 47=some _:=Tryz.underlying47;gi_wp2;gi_loopw [3] (λi wr=>∃ k m:Nat,k+m=ws.length/\i=.int .i64 ((m:Int)-1)/\J (ZV (QN ws) k) wr/\di n₀ Bs W wr)
  (λi _=>(intOf i+1).toNat)
 case atStart=>exact⟨0,ws.length,aB,rfl,h0,di.refl _ _ _⟩
 case round=>
  obtain⟨k,m,hk,rfl,hJs,hnx⟩:=hrel;have hBx:=(hnx.boxed mO).cell;cases m with
  | succ m=>
   obtain⟨g,rfl,hb,hcx⟩:=(hc.out.below hnx.1) m aB;obtain⟨fn,tmps,assign,body,hy,hR⟩:=hY _ (m,ws.getD m []) wr hJs (by rw[Vs];omega);have hback:QN ws k=(m,ws.getD m []):=by unfold QN;rw[show ws.length-1-k=m from by omega]
   replace hback:=Hd hback;dsimp only [MR] at hy;have hm1:((m+1:Nat):Int)-1=(m:Int):=aB;rw[hm1];clear hm1;generalize ws.getD m []=x at*;have gX:(Tryz.prog.info? 47).map (·.size)=some (Ju x).toList.length:=by rw[Array.length_toList,Gj];kernel_rfl
   obtain⟨X,hX⟩:=aA (Ju x);rw[<-hX] at gX hcx hy;replace hcx:=Hd hcx;replace hX:=Hd hX;replace gX:=Hd gX;gi_wp2_with (refine ZY rfl 47 (.tmp 15) rfl g _ rfl X.toList _ hcx.out yR rfl gX.out ?_;rw[Array.toArray_toList]);refine hR.mono ?_;rintro e W3 (⟨rfl,hJ3,hk3⟩|⟨rfl,hJx3⟩)
   ·gi_wp2;go_roundw
    case rel=>exact⟨k+1,m,aB,by go_num,by rw[YZ,hback.out];exact hJ3,H4 hnx hk3⟩
    case measure=>simp[intOf]
   ·gi_wp2;refine bodyPost_ret (results_none rfl _ _ _) rfl ?_;exact⟨⟨_,rfl⟩,.inr ⟨_,⟨k+1,aB,by rw[YZ,hback.out]⟩,hJx3⟩⟩
  | zero=>
   obtain rfl:k=ws.length:=aB;gi_wp2
   go_end0
   exact⟨⟨_,rfl⟩,.inl ⟨_,rfl,hJs⟩⟩
theorem DJ(F:Fence)(n:Nat)(h5:F.fn 119)(hro:F.round=none)(a:Option Addr)(len cap:Nat)(w:World) :
  CallsIn F n Tryz.prog 119 #[.slice a len cap] w λe w'=>e=.returned (.func (.func 141) #[] #[.pointer (some ⟨w.heap.size,0,none⟩)])/\w'=w.alloc (.cells #[.slice a len cap] 93):=by
 refine callsIn_of_wp Tryz.func119 rfl h5 ?_ hro;simp only[Tryz.ntmps119,List.size_toArray,List.length_cons,List.length_nil,Nat.reduceAdd,Nat.reduceSub,Array.replicate_succ,Array.replicate_zero,List.push_toArray,List.append_toArray,List.nil_append,List.cons_append];gi_wp2;go_ret;exact⟨rfl,rfl⟩
theorem Tm(F:Fence)(n:Nat)(h8:F.fn 141)(hro:F.round=none)(hn:1<=n)(Bs n₀:Nat)(a:Option Addr)(cap:Nat)(ws:List (List UInt8))(gF:ws.length<=1000000)(w:World)(hn₀:n₀<=w.heap.size)
  (hc:Boxed w Bs 93 (.slice a ws.length cap)) (hI:iK n₀ w a ws) :
  SeqStopsK F n Tryz.prog 141 #[.pointer (some ⟨Bs,0,none⟩)] MR (di n₀ Bs) (λys=>ys=ZV (QN ws) ws.length)
   (λpre=>∃ k,k<=ws.length/\pre=ZV (QN ws) k) ws.length w:=λl J Jx W hW _ _ hY h0=>
 WH F n h8 hro hn l Bs n₀ a cap ws gF J Jx hY W ((hW.block Bs hc.lt).trans hc) (hI.below (hW.mono hn₀)) h0
def JS(s:Stp):Array Value:=s.list.toArray
theorem G9(p:Stp):(JS p).size=3:=rfl
def MO(x:Nat×Stp):Array Value:=#[.int .i64 (x.1:Int),.agg (JS x.2)]
def JB(L k:Nat):Nat:=L-1-k
def dw(n₀:Nat)(w:World)(a:Option Addr)(ws:List Stp):Prop:=
 ∀ i,i<ws.length->∃ g,a=some ⟨g,0,none⟩/\g<n₀/\w.rangeAt g (i*3) (JS (ws.getD i ⟨false,0,0⟩)).toList
theorem dw.below{n₀:Nat}{A B:World}(h:Below n₀ A B){a:Option Addr}{ws:List Stp}(hr:dw n₀ A a ws):dw n₀ B a ws:=by
 intro i hi;obtain⟨g,rfl,hg,hc⟩:=hr i hi;exact⟨g,rfl,hg,λj v hv=>(h.cell (p:=⟨g,i*3+j,none⟩) hg).trans (hc j v hv)⟩
def dx(n₀ Bs:Nat)(W W':World):Prop:=Below n₀ W W'/\W'.heap[Bs]? = W.heap[Bs]?
theorem dx.refl(n₀ Bs:Nat)(W:World):dx n₀ Bs W W:=⟨Below.refl _ _,rfl⟩
theorem Td{n₀ Bs:Nat}{A B C:World}(h:dx n₀ Bs A B)(k:dx n₀ Bs B C):dx n₀ Bs A C:=⟨h.1.trans k.1,k.2.trans h.2⟩
theorem C4{n₀ Bs:Nat}{w:World}(hn:n₀<=w.heap.size)(hB:Bs<w.heap.size)(W:World)(l:Nat)(o o':Obj)(hl:w.heap.size<=l)(h:W.heap[l]? = some o)(h1:o.isCells=false)(h2:o.isWalk=false):dx n₀ Bs W (W.putObj l o'):=
 ⟨belowK_b hn W l o o' hl h h1 h2,World.putObj_heap_other aB⟩
theorem dx.boxed{n₀ Bs:Nat}{W W':World}{t:TypeId}{v:Value}(h:dx n₀ Bs W W')(hb:Boxed W Bs t v):Boxed W' Bs t v:=h.2.trans hb
theorem Wm(F:Fence)(n:Nat)(h7:F.fn 116)(hro:F.round=none)(hn:1<=n)(l Bs n₀:Nat)(a:Option Addr)(cap:Nat)(ws:List Stp)(gF:ws.length<=1000000)(J Jx:List Nat->World->Prop)
  (hY:∀ pre x W,J pre W->pre.length<ws.length->x<ws.length->YieldAt F (n-1) Tryz.prog l (MO (x,ws.getD x ⟨false,0,0⟩)) W λe W'=>
   (e=.returned (.bool true)/\J (pre++[x]) W'/\dx n₀ Bs W W')\/(e=.returned (.bool false)/\Jx (pre++[x]) W'))
  (W:World) (mO:Boxed W Bs 159 (.slice a ws.length cap)) (hc:dw n₀ W a ws) (h0:J [] W) :
  CallsIn F n Tryz.prog 116 #[.func (.yield l) #[] #[],.pointer (some ⟨Bs,0,none⟩)] W λe W'=>(∃ v,e=.returned v)/\
   ((∃ ys,ys=ZV (JB ws.length) ws.length/\J ys W')\/(∃ pre,(∃ k,k<=ws.length/\pre=ZV (JB ws.length) k)/\Jx pre W')):=by
 refine callsIn_of_wp Tryz.func116 rfl h7 ?_ hro;simp only[Tryz.ntmps116,List.size_toArray,List.length_cons,List.length_nil,Nat.reduceAdd,Nat.reduceSub,Array.replicate_succ,Array.replicate_zero,List.push_toArray,List.append_toArray,List.nil_append,List.cons_append];replace hc:=Hd hc;have hBc:=mO.cell;have yR:Tryz.prog.underlying 166=some _:=Tryz.underlying166;gi_wp2;gi_loopw [3] (λi wr=>∃ k m:Nat,k+m=ws.length/\i=.int .i64 ((m:Int)-1)/\J (ZV (JB ws.length) k) wr/\dx n₀ Bs W wr)
  (λi _=>(intOf i+1).toNat)
 case atStart=>exact⟨0,ws.length,aB,rfl,h0,dx.refl _ _ _⟩
 case round=>
  obtain⟨k,m,hk,rfl,hJs,hnx⟩:=hrel;have hBx:=(hnx.boxed mO).cell;cases m with
  | succ m=>
   obtain⟨g,rfl,hb,hcx⟩:=(hc.out.below hnx.1) m aB;obtain⟨fn,tmps,assign,body,hy,hR⟩:=hY _ m wr hJs (by rw[Vs];omega) aB;have hback:JB ws.length k=m:=by unfold JB;omega
   replace hback:=Hd hback;dsimp only [MO] at hy;have hm1:((m+1:Nat):Int)-1=(m:Int):=aB;rw[hm1];clear hm1;generalize ws.getD m ⟨false,0,0⟩=x at*;have gX:(Tryz.prog.info? 166).map (·.size)=some (JS x).toList.length:=by rw[Array.length_toList,G9];kernel_rfl
   obtain⟨X,hX⟩:=aA (JS x);rw[<-hX] at gX hcx hy;replace hcx:=Hd hcx;replace hX:=Hd hX;replace gX:=Hd gX;gi_wp2_with (refine ZY rfl 166 (.tmp 15) rfl g _ rfl X.toList _ hcx.out yR rfl gX.out ?_;rw[Array.toArray_toList]);refine hR.mono ?_;rintro e W3 (⟨rfl,hJ3,hk3⟩|⟨rfl,hJx3⟩)
   ·gi_wp2;go_roundw
    case rel=>exact⟨k+1,m,aB,by go_num,by rw[YZ,hback.out];exact hJ3,Td hnx hk3⟩
    case measure=>simp[intOf]
   ·gi_wp2;refine bodyPost_ret (results_none rfl _ _ _) rfl ?_;exact⟨⟨_,rfl⟩,.inr ⟨_,⟨k+1,aB,by rw[YZ,hback.out]⟩,hJx3⟩⟩
  | zero=>
   obtain rfl:k=ws.length:=aB;gi_wp2
   go_end0
   exact⟨⟨_,rfl⟩,.inl ⟨_,rfl,hJs⟩⟩
theorem Dl(F:Fence)(n:Nat)(h5:F.fn 78)(hro:F.round=none)(a:Option Addr)(len cap:Nat)(w:World) :
  CallsIn F n Tryz.prog 78 #[.slice a len cap] w λe w'=>e=.returned (.func (.func 116) #[] #[.pointer (some ⟨w.heap.size,0,none⟩)])/\w'=w.alloc (.cells #[.slice a len cap] 159):=by
 refine callsIn_of_wp Tryz.func78 rfl h5 ?_ hro;simp only[Tryz.ntmps78,List.size_toArray,List.length_cons,List.length_nil,Nat.reduceAdd,Nat.reduceSub,Array.replicate_succ,Array.replicate_zero,List.push_toArray,List.append_toArray,List.nil_append,List.cons_append];gi_wp2;go_ret;exact⟨rfl,rfl⟩
theorem MV(F:Fence)(n:Nat)(h8:F.fn 116)(hro:F.round=none)(hn:1<=n)(Bs n₀:Nat)(a:Option Addr)(cap:Nat)(ws:List Stp)(gF:ws.length<=1000000)(w:World)(hn₀:n₀<=w.heap.size)
  (hc:Boxed w Bs 159 (.slice a ws.length cap)) (hI:dw n₀ w a ws) :
  SeqStopsK F n Tryz.prog 116 #[.pointer (some ⟨Bs,0,none⟩)] (λx:Fin ws.length=>MO (x.val,ws.getD x.val ⟨false,0,0⟩)) (dx n₀ Bs) (λys=>ys.map Fin.val=ZV (JB ws.length) ws.length)
   (λ_=>True) ws.length w:=by
 intro l J Jx W hW hJ _ hY h0;refine(Wm F n h8 hro hn l Bs n₀ a cap ws gF (λns W=>∃ fs:List (Fin ws.length),fs.map Fin.val=ns/\J fs W) (λns W=>∃ fs:List (Fin ws.length),fs.map Fin.val=ns/\Jx fs W)
  ?_ W ((hW.block Bs hc.lt).trans hc) (hI.below (hW.mono hn₀)) ⟨[],rfl,h0⟩).mono ?_
 ·rintro pre x W1 ⟨fs,h1,h2⟩ hl hx;obtain⟨fn,tmps,assign,body,hy,hR⟩:=hY fs ⟨x,hx⟩ W1 h2 (by rw[<-h1,List.length_map] at hl;exact hl);refine⟨fn,tmps,assign,body,hy,hR.mono ?_⟩;rintro e W' (⟨e1,e2,e3⟩|⟨e1,e2⟩)
  ·exact .inl ⟨e1,⟨fs++[⟨x,hx⟩],by rw[List.map_append,h1];rfl,e2⟩,e3⟩
  ·exact .inr ⟨e1,⟨fs++[⟨x,hx⟩],by rw[List.map_append,h1];rfl,e2⟩⟩
 ·rintro e W' ⟨hv,(⟨ys,rfl,fs,h1,h2⟩|⟨pre,_,fs,_,h2⟩)⟩
  ·exact⟨hv,.inl ⟨fs,h1,h2⟩⟩
  ·exact⟨hv,.inr ⟨fs,trivial,h2⟩⟩
theorem Kt(B:Nat)(n:Int)(w:World)(h:w.cell? ⟨B,0,none⟩=some (.int .i64 n)):Calls Tryz.prog 67 #[.pointer (some ⟨B,0,none⟩)] w λx w'=>x=.returned (.int .i64 n)/\w=w':=by
 go_enter Tryz.func67,Tryz.ntmps67;go_wp2_with fail;go_ret;exact⟨rfl,rfl⟩
def X2(ws:List (Int×List UInt8))(i:Int):Option (Int×List UInt8):=ws.reverse.find? (λp=>p.1==i)
def Qn(ws:List (Int×List UInt8))(f:Int->List UInt8)(i:Int):List UInt8:=match X2 ws i with
 | some p=>p.2
 | none=>f i
theorem Ni(ws:List (Int×List UInt8)){k:Nat}(hk:k<=ws.length):(ZV (YH ws) k).map (·.2)=ws.reverse.take k:=by
 apply List.ext_getElem (by simp[ZV,hk]);intro j h1 h2;have hj:j<k:=by simpa[ZV] using h1
 simp[ZV,YH];rw[List.getElem?_eq_getElem aB];rfl
theorem LO{ws:List (Int×List UInt8)}{i:Int}(f:Int->List UInt8)(h:∀ x∈ZV (YH ws) ws.length,x.2.1≠i):Qn ws f i=f i:=by
 have hb:=Ni ws nZ;rw[List.take_of_length_le sX] at hb;have:X2 ws i=none:=by
  unfold X2;rw[List.find?_eq_none];intro p hp;rw[<-hb] at hp;obtain⟨x,hx,rfl⟩:=List.mem_map.1 hp;simpa using h x hx
 unfold Qn;rw[this]
theorem Lj{ws:List (Int×List UInt8)}{i:Int}(f:Int->List UInt8){k:Nat}(hk:k<=ws.length){qs:List (Nat×(Int×List UInt8))}{x:Nat×(Int×List UInt8)}(hp:qs++[x]=ZV (YH ws) k)(h:∀ y∈qs,y.2.1≠i)(hx:x.2.1=i):Qn ws f i=x.2.2/\x.2∈ws:=by
 have hb:=Ni ws hk;rw[<-hp] at hb;have hr:ws.reverse=((qs++[x]).map (·.2))++ws.reverse.drop k:=by rw[hb,List.take_append_drop]
 have hl:X2 ws i=some x.2:=by
  unfold X2;rw[hr,List.map_append,List.append_assoc,List.find?_append];have h0:(qs.map (·.2)).find? (λp=>p.1==i)=none:=by
   rw[List.find?_eq_none];intro p hp;obtain⟨y,hy,rfl⟩:=List.mem_map.1 hp;simpa using h y hy
  rw[h0];simp[hx]
 refine⟨by unfold Qn;rw[hl],?_⟩;have:x.2∈ws.reverse:=by rw[hr];simp
 simpa using this
def mX(w:World)(g off:Nat)(bs:List UInt8):Prop:=∃ pre T,List.length pre=off/\w.heap[g]? = some (.cells (pre++cB bs).toArray T (0,0))
theorem mX.argB{w:World}{g off:Nat}{bs:List UInt8}(h:mX w g off bs)(hl:bs.length=64):aJ w (some ⟨g,off,none⟩) 64 bs:=by
 obtain⟨pre,T,rfl,h⟩:=h;refine⟨aB,dX,(λe=>by cases e),λi hi=>⟨g,pre.length,rfl,?_⟩⟩;rw[Za h];simp[cB,hi]
theorem NK{P:Program}{fn:Func}{p q:Tmp}{t u:TypeId}(h:fn.results=#[.cell p t,.cell q u])(tmps:Array Value)(w:World)(x y:Addr)(v1 v2:Value)(hp:tmps.getD p undef=.pointer (some x))(hq:tmps.getD q undef=.pointer (some y))(h1:(loadVar t x).run P w=.ok v1 w)(h2:(loadVar u y).run P w=.ok v2 w) :
  (results fn tmps).run P w=.ok (.tuple #[v1,v2]) w:=by
 rw[Array.getD_eq_getD_getElem?] at hp hq;simp[results,h,Sem.run_bind,Result.andThen,hp,hq,asAddr,h1,h2]
theorem HH{P:Program}{w:World}{t:TypeId}{b:Nat}{v:Value}(ha:(isAgg t).run P w=.ok false w)(hc:w.cell? ⟨b,0,none⟩=some v):(loadVar t ⟨b,0,none⟩).run P w=.ok v w:=by
 simp[loadVar,Sem.run_bind,ha,go_sem,hc]
theorem Qq{W W':World}{row:Option Nat}{b:Nat}{o:Obj}(h:W.heap[b]? = some o)(ho:o.isCells=true)(hg:W.grownBy W' row)(hr:∀ r,row=some r->∃ o:Obj,W.heap[r]? = some o/\o.isCells=false):W'.heap[b]? = some o:=
 (hg.block b (Zb h) (λe=>by obtain⟨o',h',h2⟩:=hr b e.symm;rw[h] at h';cases h';rw[ho] at h2;cases h2)).trans h
theorem ZN{W W2:World}(hG:Below W.heap.size W W2):KeepsOthers W W2:=⟨hG.size,λk _ hk _=>(hG.block k (Zb hk)).trans hk⟩
theorem Hv{fn:Func}{p q:Tmp}{R:Ending->World->Prop}{tmps:Array Value}{W:World}{bp bq D:Nat}{v1 v2:Value}(h:fn.results=#[.cell p 24,.cell q 30])(h1:Boxed W bp 24 v1)(h2:Boxed W bq 30 v2)(n1:bp≠D)(n2:bq≠D)(hK:W.heap[D]? = some (.deferred (some [])))
  (hR:R (.returned (.tuple #[v1,v2])) (W.putObj D (.deferred none))) (hp:tmps.getD p undef=.pointer (some ⟨bp,0,none⟩):=by rfl) (hq:tmps.getD q undef=.pointer (some ⟨bq,0,none⟩):=by rfl) :
  bodyPostM Fence.wide 3 Tryz.prog fn R .ret { tmps:=tmps,defers:=[{ target:=.collected D,args:=#[] }] } W:=by
 have k1:Boxed (W.putObj D (.deferred none)) bp 24 v1:=(World.putObj_heap_other n1).trans h1;have k2:Boxed (W.putObj D (.deferred none)) bq 30 v2:=(World.putObj_heap_other n2).trans h2;refine⟨sX,.inl ⟨_,_,rfl,run_takeDeferred hK,?_⟩⟩;exact⟨_,NK h _ _ _ _ _ _ hp hq (HH kX k1.cell) (HH kX k2.cell),hR⟩
section
attribute [local go_sem] Oper.semAt_some
theorem DI(B mb mn:Nat)(f:Int->List UInt8)(n i:Int)(h0:0<=i)(h1:i<n)(hn:n<=2048)(w:World)(a:Option Addr)(cap:Nat)(ws:List (Int×List UInt8))(hws:ws.length<=1000000)(hc:w.cell? ⟨B,0,none⟩=some (.int .i64 n))(hc1:w.cell? ⟨B,1,none⟩=some (.map (some mb)))(hc2:w.cell? ⟨B,2,none⟩=some (.slice a ws.length cap))(O7:w.cell? ⟨B,5,none⟩=some (.bool false))
  (hm:aV w mb mn f) (lJ:∀ p∈ws,p.2.length=64) (hr:ic w.heap.size w a ws) :
  Calls Tryz.prog 126 #[.pointer (some ⟨B,0,none⟩),.int .i64 i] w λx w'=>∃ g off,x=.returned (.tuple #[.slice (some ⟨g,off,none⟩) 64 64,.nilIface])/\mX w' g off (Qn ws f i)/\w.heap.size<=g/\Below w.heap.size w w':=by
 refine(callsIn_wide (n:=3)).1 ?_;refine callsIn_of_wp_marks Tryz.func126 rfl trivial ?_ rfl;simp only[Tryz.ntmps126,List.size_toArray,List.length_cons,List.length_nil,Nat.reduceAdd,Nat.reduceSub,Array.replicate_succ,Array.replicate_zero,List.push_toArray,List.append_toArray,List.nil_append,List.cons_append];have Oi:=hm.lt;have hBl:=World.block_lt_of_cell? w _ hc;obtain⟨w1,hw1⟩:∃ w1,w1=((w.alloc (.cells #[.int .i64 i] 3)).alloc (.cells #[.slice none 0 0] 24)).alloc (.cells #[.nilIface] 30):=⟨_,rfl⟩;have b0:=((Boxed.new w 3 (.int .i64 i)).alloc (.cells #[.slice none 0 0] 24)).alloc (.cells #[.nilIface] 30);have b1:=(Boxed.new (w.alloc (.cells #[.int .i64 i] 3)) 24 (.slice none 0 0)).alloc (.cells #[.nilIface] 30);have b2:=Boxed.new ((w.alloc (.cells #[.int .i64 i] 3)).alloc (.cells #[.slice none 0 0] 24)) 30 .nilIface;have hG1:Below w.heap.size w w1:=by rw[hw1];exact(((Below.refl _ w).alloc nZ _).alloc sX _).alloc bf _
 have hs1:w1.heap.size=w.heap.size+3:=by rw[hw1];simp
 rw[<-hw1] at b0 b1 b2;simp only[World.size_alloc] at b1 b2;have hc':w1.cell? ⟨B,0,none⟩=some (.int .i64 n):=(hG1.cell (p:=⟨B,0,none⟩) hBl).trans hc;have hth:=Jn B n i h0 h1 w1 hc';have hc2':w1.cell? ⟨B,2,none⟩=some (.slice a ws.length cap):=(hG1.cell (p:=⟨B,2,none⟩) hBl).trans hc2;have hc5':w1.cell? ⟨B,5,none⟩=some (.bool false):=(hG1.cell (p:=⟨B,5,none⟩) hBl).trans O7;have hr1:ic w.heap.size w1 a ws:=hr.below hG1;replace hth:=Hd hth;replace hw1:=Hd hw1;replace hr1:=Hd hr1;replace hm:=Hd hm;replace hs1:=Hd hs1;replace hc:=Hd hc;clear hr hc2 O7;gi_wp2_with fail;rw[<-hw1.out];refine⟨trivial,(callsIn_wide.2 hth.out).mono ?_⟩;rintro e w2 ⟨rfl,hq⟩;obtain rfl:=hq;clear hth;gi_wp2_with (refine⟨trivial,?_⟩;gi_at_call 156;refine(Cl Fence.wide _ trivial rfl _ _ _ _).mono ?_;rintro e w' ⟨rfl,rfl⟩);have b3:=Boxed.new w1 118 (.slice a ws.length cap);replace b0:=b0.alloc (.cells #[.slice a ws.length cap] 118);replace b1:=b1.alloc (.cells #[.slice a ws.length cap] 118);replace b2:=b2.alloc (.cells #[.slice a ws.length cap] 118);have hB0:Below w.heap.size w (w1.alloc (.cells #[.slice a ws.length cap] 118)):=hG1.alloc hG1.size _;have hr0:ic w.heap.size (w1.alloc (.cells #[.slice a ws.length cap] 118)) a ws:=hr1.out.below ((Below.refl w.heap.size w1).alloc hG1.size _);have hsz:(w1.alloc (.cells #[.slice a ws.length cap] 118)).heap.size=w.heap.size+4:=by rw[World.size_alloc,hs1.out]
 rw[hs1.out] at b3 ⊢;generalize w1.alloc (.cells #[.slice a ws.length cap] 118)=W0 at*;clear hw1 hr1 hs1 hc' hc2' hc5' hG1;refine wpIn_rangeFunc_ownH (n:=3) rfl dX (gf:=175) (lb:=#[.pointer (some ⟨w.heap.size+3,0,none⟩)]) rfl trivial (enters_of Tryz.func175 kX rfl)
  (TJ Fence.wide (3-1) trivial rfl dX (w.heap.size+3) w.heap.size a cap ws hws W0 aB b3 hr0) RH (E7 aB aB) bR (λ_=>rfl)
  (λpre W=>((Boxed W w.heap.size 3 (.int .i64 i)/\Boxed W (w.heap.size+1) 24 (.slice none 0 0)/\Boxed W (w.heap.size+1+1) 30 .nilIface/\Boxed W (w.heap.size+3) 118 (.slice a ws.length cap))/\(∀ y∈pre,y.2.1≠i))/\Below w.heap.size w W)
  (λc pre W=>c=.ret/\∃ g qs x,pre=qs++[x]/\(∀ y∈qs,y.2.1≠i)/\x.2.1=i/\w.heap.size+4<=g/\W.heap[g]? = some (.cells (wR x.2) 132 (0,0))/\Boxed W (w.heap.size+1) 24 (.slice (some ⟨g,1,none⟩) 64 64)/\Boxed W (w.heap.size+1+1) 30 .nilIface/\Below w.heap.size w W)
  ?hI ?hIx
  ⟨⟨⟨b0,b1,b2,b3⟩,λy hy=>by cases hy⟩,hB0⟩
  (λx a' W=>∃ Bx,w.heap.size+4<=Bx/\W.heap[Bx]? = some (.cells (wR x.2) 132 (0,0))/\a'={ tmps:=#[.pointer (some ⟨B,0,none⟩),.int .i64 i,undef,.pointer (some ⟨w.heap.size,0,none⟩),.pointer (some ⟨w.heap.size+1,0,none⟩),.pointer (some ⟨w.heap.size+1+1,0,none⟩),.nilIface,undef,.pointer (some ⟨Bx,0,none⟩),
   .pointer (some ⟨B,0,none⟩),.int .i64 i,.nilIface,.nilIface,.bool false,undef,.pointer (some ⟨B,0,none⟩),.pointer (some ⟨B,0,none⟩),.pointer (some ⟨B,5,none⟩),.bool false,undef,.pointer (some ⟨B,0,none⟩),.pointer (some ⟨B,0,none⟩),.pointer (some ⟨B,2,none⟩),.slice a ws.length cap,
   .func (.func 175) #[] #[.pointer (some ⟨w.heap.size+3,0,none⟩)],.int .i64 (x.1:Int),.agg (wR x.2),undef,undef,undef,undef,undef,undef,undef,undef,undef,undef,undef],defers:=[] })
  ?hAx ?assign ?body ?done ?stop
 case hI=>exact OwnFrom.and (OwnFrom.and (Own.from (λs A B row hs hg hr=>⟨Qq hs.1 rfl hg hr,Qq hs.2.1 rfl hg hr,Qq hs.2.2.1 rfl hg hr,Qq hs.2.2.2 rfl hg hr⟩) _) (ownFrom_pure _ _)) (ownFrom_below nZ aB)
 case hIx=>
  rintro c s X Y row ⟨hc,g,qs,x,e1,e2,e3,e4,e5,e6,e7,e8⟩ hg hr;exact⟨hc,g,qs,x,e1,e2,e3,e4,Qq e5 rfl hg (λr h=>(hr r h).2),Qq e6 rfl hg (λr h=>(hr r h).2),Qq e7 rfl hg (λr h=>(hr r h).2),e8.grown hg e8.size (λk e=>Nat.le_trans aB (hr k e).1)⟩
 case hAx=>
  rintro x a' s X Y row ⟨Bx,e1,e2,e3⟩ hg hr;exact⟨Bx,e1,Qq e2 rfl hg (λr h=>(hr r h).2),e3⟩
 case assign=>
  rintro l pre x W K ⟨⟨⟨c0,c1,c2,c3⟩,hne⟩,hB⟩ hK;have hszW:(Tryz.prog.info? 132).map (·.size)=some (wR x.2).size:=by rw[K8];kernel_rfl
  have hX1:=Fh x.2;have hX2:=K8 x.2;simp only[WY];obtain⟨xi,xp⟩:=x;generalize O8:wR xp=X at*;replace hX2:=Hd hX2;have hB2:=hB.size;have hl3:=c3.lt;gi_wp2_with (refine Qh rfl 132 (.tmp 8) (.tmp 26) rfl W.heap.size _ X rfl rfl (Hd (heap_alloc_new _ _)) hszW (by rw[hX2.out];rfl) hX1 ?_;intro W2 hU);have hG:Below W.heap.size W W2:=Below.trans ((Below.refl _ W).alloc nZ _) (hU.out.below nZ);subst O8;exact hK _ _ ((ZN hG).from _) ⟨hG.mono hB2,hG.block _ hl3⟩ ⟨⟨⟨(hG.block _ c0.lt).trans c0,(hG.block _ c1.lt).trans c1,(hG.block _ c2.lt).trans c2,(hG.block _ c3.lt).trans c3⟩,hne⟩,hB.trans (hG.mono hB2)⟩ ⟨W.heap.size,aB,hU.out.here,rfl⟩
 case body=>
  rintro l pre x a' W hl _ ⟨⟨⟨c0,c1,c2,c3⟩,hne⟩,hB⟩ ⟨Bx,hBx,bX,rfl⟩ hlt;have d0:=c0.cell;have f1:=c1.frozen;have f2:=c2.frozen;have g1:=c1.cell;have g2:=c2.cell;have k0:W.cell? ⟨Bx,0,none⟩=some (.int .i64 x.2.1):=by rw[Za bX,wR,Array.getElem?_append_left sX];rfl
  have hX2:=K8 x.2;have l3:=c3.lt;by_cases hx:x.2.1=i
  ·have hxb:(x.2.1==i)=true:=by simpa using hx
   replace hne:=Hd hne;replace bX:=Hd bX;replace hX2:=Hd hX2;replace hx:=Hd hx;gi_wp2_with fail;have hb1:=c1.set (.slice (some ⟨Bx,1,none⟩) 64 64);have hb2:=(c2.other (B':=w.heap.size+1) aB (.slice (some ⟨Bx,1,none⟩) 64 64)).set .nilIface;have hb1':=hb1.other (B':=w.heap.size+1+1) aB .nilIface;have hbX:((W.setCell ⟨w.heap.size+1,0,none⟩ (.slice (some ⟨Bx,1,none⟩) 64 64)).setCell ⟨w.heap.size+1+1,0,none⟩ .nilIface).heap[Bx]? = some (.cells (wR x.2) 132 (0,0)):=by
    rw[Below.heap_setCell _ _ _ _ bf,Below.heap_setCell _ _ _ _ bf];exact bX.out
   exact⟨((KeepsOthers.setCell _ _ _).trans (KeepsOthers.setCell _ _ _)).from _,rfl,Bx,pre,x,rfl,hne.out,hx.out,hBx,hbX,hb1',hb2,(hB.setCell (p:=⟨w.heap.size+1,0,none⟩) sX _).setCell (p:=⟨w.heap.size+1+1,0,none⟩) bf _⟩
  ·have hxb:(x.2.1==i)=false:=by simpa using hx
   replace bX:=Hd bX;replace hX2:=Hd hX2;gi_wp2_with fail;exact⟨KeepsFrom.refl _ _,fG.refl _ _ _,⟨⟨c0,c1,c2,c3⟩,λy hy=>by
    rcases List.mem_append.1 hy with hy|hy
    ·exact hne y hy
    ·simp at hy;subst hy;exact hx⟩,hB⟩
 case done=>
  rintro D ys W hD rfl ⟨⟨⟨c0,c1,c2,c3⟩,hne⟩,hB⟩ hK;have qK:=Hd (LO f hne);have hWD:D≠w.heap.size+1/\D≠w.heap.size+1+1:=aB;have d0:=c0.cell;have hcB:W.cell? ⟨B,0,none⟩=some (.int .i64 n):=(hB.cell (p:=⟨B,0,none⟩) hBl).trans hc.out;have hcB1:W.cell? ⟨B,1,none⟩=some (.map (some mb)):=(hB.cell (p:=⟨B,1,none⟩) hBl).trans hc1;have hsu:=Hd (LI B mb mn f n i h0 h1 hn W hcB hcB1 (hm.out.only (Only.ofBelow (D:=λ_=>False) hB) (λh=>h)));clear hne hc1;gi_wp2_with fail;refine⟨trivial,(callsIn_wide.2 hsu.out).mono ?_⟩;rintro e W2 ⟨g,rfl,hs,hge,hb⟩;clear hsu;have l1:=c1.lt;have l2:=c2.lt;have e1:Boxed W2 (w.heap.size+1) 24 (.slice none 0 0):=(hb.block _ l1).trans c1;have e2:Boxed W2 (w.heap.size+1+1) 30 .nilIface:=(hb.block _ l2).trans c2;have eD:W2.heap[D]? = some (.deferred (some [])):=(hb.block _ (Zb hK)).trans hK;have g1:=e1.cell;have g2:=e2.cell;have f1:=e1.frozen;have f2:=e2.frozen;have hWl:=hB.size;replace hs:=Hd hs;replace hb:=Hd hb;replace eD:=Hd eD;replace hB:=Hd hB;gi_wp2_with fail;have hb1:=(e1.set (.slice (some ⟨g,0,none⟩) 64 64)).other (B':=w.heap.size+1+1) aB .nilIface;have hb2:=(e2.other (B':=w.heap.size+1) aB (.slice (some ⟨g,0,none⟩) 64 64)).set .nilIface;have O9:((W2.setCell ⟨w.heap.size+1,0,none⟩ (.slice (some ⟨g,0,none⟩) 64 64)).setCell ⟨w.heap.size+1+1,0,none⟩ .nilIface).heap[g]? = some (.cells (cB (f i)).toArray 130 (0,0)):=by
   rw[Below.heap_setCell _ _ _ _ bf,Below.heap_setCell _ _ _ _ bf];exact hs.out
  have hDe:((W2.setCell ⟨w.heap.size+1,0,none⟩ (.slice (some ⟨g,0,none⟩) 64 64)).setCell ⟨w.heap.size+1+1,0,none⟩ .nilIface).heap[D]? = some (.deferred (some [])):=by
   rw[Below.heap_setCell _ _ _ _ bf,Below.heap_setCell _ _ _ _ bf];exact eD.out
  have hBe:Below w.heap.size w ((W2.setCell ⟨w.heap.size+1,0,none⟩ (.slice (some ⟨g,0,none⟩) 64 64)).setCell ⟨w.heap.size+1+1,0,none⟩ .nilIface):=((hB.out.trans (hb.out.mono hWl)).setCell (p:=⟨w.heap.size+1,0,none⟩) sX _).setCell (p:=⟨w.heap.size+1+1,0,none⟩) bf _;have hgD:g≠D:=λe=>by subst e;rw[O9] at hDe;cases hDe
  exact Hv rfl hb1 hb2 aB aB hDe ⟨g,0,rfl,⟨[],130,rfl,by rw[qK.out];exact(World.putObj_heap_other hgD).trans O9⟩,aB,hBe.trans (belowK_b (w:=w) nZ _ D _ _ aB hDe rfl rfl)⟩
 case stop=>
  rintro D c pre W hD ⟨k,hk,hp⟩ ⟨rfl,g,qs,x,e1,e2,e3,e4,e5,e6,e7,e8⟩ hK;have qK:=Lj f hk (e1.symm.trans hp) e2 e3;have hgD:g≠D:=λe=>by subst e;rw[e5] at hK;cases hK
  gi_wp2;refine Hv rfl e6 e7 aB aB hK ⟨g,1,rfl,⟨[.int .i64 x.2.1],132,rfl,?_⟩,aB,e8.trans (belowK_b (w:=w) nZ _ D _ _ aB hK rfl rfl)⟩;rw[qK.1,World.putObj_heap_other hgD,e5,<-Hw (lJ x.2 qK.2)];congr 2;apply Array.ext';rw[NZ];rfl
end
section
variable {P:Program} {ops:Array Oper} {rest:List Oper} {op:Oper} {a:Act} {w:World} {Q:Exit->Act->World->Prop}
theorem YP(hw:Region.wanted op (yielded ops a.tmps)=true)(ty:TypeId)(x:Operand)(ho:op.op=.load ty x)
  (b o:Nat) (hx:a.eval x=.pointer (some ⟨b,o,none⟩)) (cs:List Value) (d:TypeDesc) (hc:w.rangeAt b o cs)
  (hu:P.underlying ty=some d) (hd:d.isRow=true) (hi:(P.info? ty).map (·.size)=some cs.length) (C:Array Value) (hC:Hid (C=cs.toArray))
  (h:wpList P ops Q rest (a.put op.dst (.agg C)) w):wpList P ops Q (op::rest) a w:=by
 refine wpList_step λK hK=>?_;rw[if_pos hw];rw[hC.out] at h;exact wp_load_mid ty x ho b o hx cs d hc hu hd hi (hK _ _ h)
theorem Zx(hgd:op.guard=none)(ty:TypeId)(x:Operand)(ho:op.op=.load ty x)
  (b o:Nat) (hx:a.eval x=.pointer (some ⟨b,o,none⟩)) (cs:List Value) (d:TypeDesc) (hc:w.rangeAt b o cs)
  (hu:P.underlying ty=some d) (hd:d.isRow=true) (hi:(P.info? ty).map (·.size)=some cs.length) (C:Array Value) (hC:Hid (C=cs.toArray))
  (h:wpList P ops Q rest (a.put op.dst (.agg C)) w):wpList P ops Q (op::rest) a w:=by
 rw[hC.out] at h;exact wpList_load_mid hgd ty x ho b o hx cs d hc hu hd hi h
end
theorem WJ(a b:bL)(k:Nat)(hk:k<32):(a ||| b) <<< UInt32.ofNat k=(a <<< UInt32.ofNat k) ||| (b <<< UInt32.ofNat k):=by
 apply UInt32.toNat_inj.1;simp only[UInt32.toNat_shiftLeft,UInt32.toNat_or];have:(UInt32.ofNat k).toNat % 32=k:=bf;rw[this];rw[Nat.shiftLeft_or_distrib,Nat.or_mod_two_pow]
theorem Ht(a:bL)(j k:Nat)(h:j+k<32):(a <<< UInt32.ofNat j) <<< UInt32.ofNat k=a <<< UInt32.ofNat (j+k):=by
 apply UInt32.toNat_inj.1;simp only[UInt32.toNat_shiftLeft];have e1:(UInt32.ofNat k).toNat % 32=k:=bf;have e2:(UInt32.ofNat j).toNat % 32=j:=bf;have e3:(UInt32.ofNat (j+k)).toNat % 32=j+k:=bf;rw[e1,e2,e3,Nat.shiftLeft_eq,Nat.shiftLeft_eq,Nat.shiftLeft_eq,Nat.pow_add];rw[Nat.mod_mul_mod];rw[Nat.mul_assoc]
def CC(b0 b1 b2 b3:UInt8):bL:=(b0.toUInt32 <<< UInt32.ofNat 24 ||| b1.toUInt32 <<< UInt32.ofNat 16) ||| b2.toUInt32 <<< UInt32.ofNat 8 ||| b3.toUInt32
theorem BQ(b:List UInt8)(t:Nat):CC (cf b (4*t)) (cf b (4*t+1)) (cf b (4*t+2)) (cf b (4*t+3))=Jb b t:=by
 unfold CC Jb;rw[show (8:bL)=UInt32.ofNat 8 from rfl,WJ _ _ 8 aB,WJ _ _ 8 aB,WJ _ _ 8 aB,Ht _ 8 8 aB,Ht _ 8 (8+8) aB,Ht _ 8 8 aB]
theorem MQ(c:UInt8):((c.toNat:Nat):Int)=wn c.toUInt32:=by unfold wn;simp
end
end Go.Proofs.YtpdhceiodgnbmaaGreatDoor
