import Derived.Test.YtpdhceiodgnbmaaGreatDoorF28KeepsSaid
import Derived.Shelf.SlicesQ.Reverse
set_option linter.all false
set_option maxRecDepth 100000
set_option maxHeartbeats 8000000
namespace Go.Proofs.YtpdhceiodgnbmaaGreatDoor
open Go.RowKit Go.Shelf
def Yg(R:List (List UInt8))(x:Nat):List UInt8:=if 2*x+2<=R.length then Zo (R.getD (2*x) []) (R.getD (2*x+1) []) else R.getD (2*x) []
theorem Co:∀ (n:Nat) (R:List (List UInt8)),R.length<=n->(List.range ((R.length+1) / 2)).map (Yg R)=oH Zo R:=by
 intro n;induction n with
 | zero=>
  intro R h;obtain rfl:=List.length_eq_zero_iff.1 (Nat.le_zero.1 h);rfl
 | succ n ih=>
  intro R h;match R with
  | []=>rfl
  | [a]=>
   have e1:([a].length+1) / 2=1:=sX;rw[e1];simp[List.range_succ,Yg,oH]
  | a::b::l=>
   have e:((a::b::l).length+1) / 2=(l.length+1) / 2+1:=by simp only[List.length_cons];omega
   rw[e,List.range_succ_eq_map,List.map_cons,List.map_map,oH];refine congr (congrArg List.cons ?_) ?_
   ·unfold Yg;rw[if_pos sX];rfl
   ·rw[<-ih l (by simp only[List.length_cons] at h;omega)];refine List.map_congr_left (λx _=>?_);show Yg (a::b::l) (x+1)=Yg l x;unfold Yg;have e1:2*(x+1)=2*x+2:=aB;rw[e1];simp only[List.length_cons];by_cases hx:2*x+2<=l.length
    ·rw[if_pos aB,if_pos hx];rfl
    ·rw[if_neg aB,if_neg hx];rfl
structure OvL (w:World) (v:Value) (R:List (List UInt8)) (d:List UInt8) (W:World):Prop where
 rows:aH RD 47 32 (w.heap.size+1) W (λ_=>False) v R
 ov:Ov Zo R d
 len:R.length<=256
 res:W.heap[w.heap.size]? = some (.cells aG 47 (0,0))
 bel:Below w.heap.size w W
structure nT (wr:World) (v u:Value) (U:List (List UInt8)) (W:World):Prop where
 at_:W.heap[wr.heap.size]? = some (.cells #[u] 93 (0,0))
 rows:aH RD 47 32 (wr.heap.size+3) W (λ_=>False) u U
 bB:Boxed W (wr.heap.size+1) 93 v
 bN:Boxed W (wr.heap.size+1+1) 3 (.int .i64 2)
 bel:Below wr.heap.size wr W
theorem nT.below{wr:World}{v u:Value}{U:List (List UInt8)}{W W':World}(h:nT wr v u U W)(hb:Below W.heap.size W W'):nT wr v u U W':=
 ⟨(hb.block _ (Zb h.at_)).trans h.at_,h.rows.below ZC hb,(hb.block _ h.bB.lt).trans h.bB,(hb.block _ h.bN.lt).trans h.bN,h.bel.trans (hb.mono h.bel.size)⟩
theorem nT.drew{wr:World}{v u:Value}{U:List (List UInt8)}{W:World}(h:nT wr v u U W):nT wr v u U W.drew:=h.below ((Below.refl _ W).drew)
theorem nT.app{wr:World}{v u u':Value}{U U':List (List UInt8)}{W W':World}(h:nT wr v u U W)(hO:Only (λk=>u.ownBlock=some k) W W')(hr:aH RD 47 32 (wr.heap.size+3) W' (λ_=>False) u' U'):W'.heap[wr.heap.size]? = some (.cells #[u] 93 (0,0))/\Boxed W' (wr.heap.size+1) 93 v/\Boxed W' (wr.heap.size+1+1) 3 (.int .i64 2)/\Below wr.heap.size wr W':=by
 have hge:=λk hk=>(h.rows.ownLt k hk).1;refine⟨hO.heap h.at_ (λe=>?_),hO.heap h.bB (λe=>?_),hO.heap h.bN (λe=>?_),h.bel.trans (hO.below h.bel.size (λk hk=>?_))⟩
 ·have:=hge _ e;omega
 ·have:=hge _ e;omega
 ·have:=hge _ e;omega
 ·have:=hge _ hk;omega
theorem JK{base size n:Nat}{e:TypeId}{v:Value}{xs:List Value}{w w':World}(h:w.ownsRow base e size v n xs)(hO:Only (λk=>v.ownBlock=some k) w w'):KeepsOthers w w':=⟨hO.size,λk o hk ho=>by
 refine(hO.block k (Zb hk) (λhv=>?_)).trans hk;rcases h.2 with ⟨rfl,_⟩|⟨g,cap,cur,rfl,_,hg,_⟩
 ·cases hv
 ·have:g=k:=by simpa[Value.ownBlock] using hv
  subst this;rw[hg] at hk;cases hk;cases ho⟩
theorem aH.owns{α:Type}{R:World->(Nat->Prop)->α->List Value->Prop}{e:TypeId}{size base:Nat}{w:World}{F:Nat->Prop}{v:Value}{ps:List α}(h:aH R e size base w F v ps):∃ xs,w.ownsRow base e size v ps.length xs:=by
 obtain⟨⟨css,h1,h2,h3⟩,h4,h5⟩:=h;exact⟨_,h2⟩
theorem YM{w w':World}{b o n:Nat}{cs:List Value}(h:w.rangeAt b o cs)(hb:Below n w w')(hbn:b<n):w'.rangeAt b o cs:=λj v hv=>(hb.cell (p:=⟨b,o+j,none⟩) hbn).trans (h j v hv)
theorem H3{base size k:Nat}{e:TypeId}{v:Value}{xs:List Value}{W W':World}{row:Option Nat}(h:W.ownsRow base e size v k xs)(hg:W.grownBy W' row)(hr:∀ r,row=some r->∃ o:Obj,W.heap[r]? = some o/\o.isCells=false):W'.ownsRow base e size v k xs:=by
 refine⟨h.1,?_⟩;rcases h.2 with h2|⟨g,cap,cur,e1,e2,e3,e4⟩
 ·exact .inl h2
 ·exact .inr ⟨g,cap,cur,e1,e2,Qf e3 rfl hg hr,e4⟩
theorem P4{e:TypeId}{base:Nat}{w w':World}{v:Value}{ps:List (List UInt8)}{row:Option Nat}(h:aH RD e 32 base w (λ_=>False) v ps)(hg:w.grownBy w' row)(hr:∀ r,row=some r->∃ o:Obj,w.heap[r]? = some o/\o.isCells=false):aH RD e 32 base w' (λ_=>False) v ps:=by
 obtain⟨⟨css,h1,h2,h3⟩,h4,h5⟩:=h;exact⟨⟨css,h1,H3 h2 hg hr,λi x cs a b=>h3 i x cs a b⟩,h4,λk hk=>hk.elim⟩
theorem nT.kept{wr:World}{v u:Value}{U:List (List UInt8)}{W W':World}{row:Option Nat}{B:Nat}(h:nT wr v u U W)(hB:wr.heap.size<=B)(hg:W.grownBy W' row)(hr:∀ r,row=some r->B<=r/\∃ o:Obj,W.heap[r]? = some o/\o.isCells=false):nT wr v u U W':=by
 have hr2:=λr e=>(hr r e).2;exact⟨Qf h.at_ rfl hg hr2,P4 h.rows hg hr2,Qf h.bB rfl hg hr2,Qf h.bN rfl hg hr2,h.bel.grown hg h.bel.size (λk e=>Nat.le_trans hB (hr k e).1)⟩
theorem R6{wr:World}{v u:Value}{a6:Option Addr}{n6 c6:Nat}{U':List (List UInt8)}{w6 w7:World}(hap:w6.heap[wr.heap.size]? = some (.cells #[u] 93 (0,0))/\Boxed w6 (wr.heap.size+1) 93 v/\Boxed w6 (wr.heap.size+1+1) 3 (.int .i64 2)/\Below wr.heap.size wr w6)
  (gL:aH RD 47 32 (wr.heap.size+3) w6 (λ_=>False) (.slice a6 n6 c6) U') (aZ:ag wr.heap.size (.cells ((#[u]:Array Value).setIfInBounds 0 (.slice a6 n6 c6)) 93 (0,0)) w6 w7):nT wr v (.slice a6 n6 c6) U' w7:=by
 obtain⟨h1,h2,h3,h4⟩:=hap;refine⟨aZ.here,gL.only ZC (Only.ofUpd (D:=λk=>k=wr.heap.size) aZ rfl) (λk hk=>hk.elim) (λk hk e=>?_),(aZ.block _ aB).trans h2,(aZ.block _ aB).trans h3,h4.trans (aZ.below nZ)⟩;have:=(gL.ownLt k hk).1;omega
theorem nT.keep{wr:World}{v u u':Value}{U U':List (List UInt8)}{W W':World}(h:nT wr v u U W)(h':nT wr v u' U' W')(hb:Below wr.heap.size W W'):dQ wr.heap.size (wr.heap.size+1) (wr.heap.size+1+1) W W':=⟨hb,h'.bB.trans h.bB.symm,h'.bN.trans h.bN.symm⟩
theorem Marks.stored{B:Nat}{Ds:List Nat}{w w':World}{b:Nat}{o:Obj}(h:Marks B Ds w)(hU:ag b o w w')(hb:b<B):Marks B Ds w':=⟨λk hk=>⟨(h.at_ k hk).1,(hU.block k (λe=>by have:=(h.at_ k hk).1;omega)).trans (h.at_ k hk).2⟩,h.nodup⟩
attribute [local go_sem] Oper.semAt_some in
theorem BJ(a0:Option Addr)(c0:Nat)(L:List (List UInt8))(d:List UInt8)(h32:∀ x∈L,x.length=32)(hO:Ov Zo L d)(hn:L.length<=256)(w:World)(hA:aU cB 32 w a0 L)(hK:bP w)(hF:bZ w) :
  Calls Tryz.prog 113 #[.slice a0 L.length c0] w λe w'=>e=.returned (.agg (cB d).toArray)/\Below w.heap.size w w':=by
 have zr:=Qe;have zn:=ZH;have hpos:=hO.pos;obtain⟨A1,hA1⟩:∃ A,A=w.alloc (.cells aG 47):=⟨_,rfl⟩;have hb1:Below w.heap.size w A1:=by rw[hA1];exact(Below.refl w.heap.size w).alloc nZ _
 have hs1:A1.heap.size=w.heap.size+1:=by rw[hA1];simp
 have hz1:A1.heap[w.heap.size]? = some (.cells aG 47 (0,0)):=by rw[hA1];exact heap_alloc_new w _
 have hcl:=Lf a0 c0 L h32 A1 (λk hk=>by obtain⟨b,o,e,h⟩:=hA k hk;exact⟨b,o,e,Q1 h hb1 nZ⟩) aB;obtain⟨N9,OE⟩:∃ N,N=L.length:=⟨_,rfl⟩;rw[<-OE] at hcl hpos ⊢;have hN0:¬((N9:Int)=0):=aB;have hN0':((N9:Int)==0)=false:=by simpa using hN0
 replace hcl:=Hd hcl;replace hA1:=Hd hA1;replace hb1:=Hd hb1;replace hs1:=Hd hs1;replace hz1:=Hd hz1;replace hK:=Hd hK;replace hF:=Hd hF;replace hO:=Hd hO;replace OE:=Hd OE;clear hA h32;refine(callsIn_wide (n:=5)).1 ?_;refine callsIn_of_wp_marks Tryz.func113 rfl trivial ?_ rfl;refine wpIn_wide.2 ?_;simp only[Tryz.ntmps113,List.size_toArray,List.length_cons,List.length_nil,Nat.reduceAdd,Nat.reduceSub,Array.replicate_succ,Array.replicate_zero,List.push_toArray,List.append_toArray,List.nil_append,List.cons_append];go_wp2_with fail;rw[<-hA1.out];with_reducible refine hcl.out.mono ?_
 clear hcl;rintro e w1 ⟨v,rfl,hr,hb⟩;have hL1:Hid (OvL w v L d w1):=Hd ⟨by rw[<-hs1.out];exact hr,hO.out,by rw[<-OE.out];rw[<-OE.out] at hn;exact hn,(hb.block _ (by rw[hs1.out];exact Nat.lt_succ_self _)).trans hz1.out,hb1.out.trans (hb.mono hb1.out.size)⟩;clear hr hb;go_wp2_with fail;have hM0:Hid (Marks A1.heap.size [] w1):=Hd ⟨λD h=>absurd h sX,List.nodup_nil⟩;refine DX [(false,3),(true,3),(false,6),(true,26),(false,3)] _ [] (λU ds wr=>∃ R Ds,ds=Ds.map CB/\Marks A1.heap.size Ds wr/\OvL w (U 3) R d wr) (λU _=>KC (U 3)) ?_ ?_
 ·simp only[List.getD_cons_zero,List.getD_cons_succ];exact⟨L,[],rfl,hM0.out,hL1.out⟩
 ·clear hL1 hz1 OE hO hN0 hN0' hpos hn hM0;intro U ds wr hrel KK hback l' hl';obtain⟨R,Ds,rfl,hM,hL⟩:=hrel;simp only[ZQ,ZM,cond_true,cond_false,Nat.reduceAdd] at hl';generalize hu3:U 3=v at*;subst hl';replace hu3:=Hd hu3;obtain⟨g0,c,hv,hnil,hc1,hc2,hg0⟩:=hL.rows.form;subst hv;have hpos:=hL.ov.pos;have hlen:=hL.len;replace hM:=Hd hM;by_cases h1:1<R.length
  ·have h1i:(1:Int)<(R.length:Int):=aB;obtain⟨gb,rfl⟩:∃ gb,g0=some ⟨gb,0,none⟩:=by
    cases g0 with
    | none=>have:=(hnil rfl).2;omega
    | some ad=>
     obtain⟨b,o,s⟩:=ad;obtain⟨rfl,rfl,_,_⟩:=hg0 b o s rfl;exact⟨b,rfl⟩
   have om:=Hd (λW=>callsIn_wide.1 (DF 1 (some ⟨gb,0,none⟩) R.length c W));obtain⟨q,hq⟩:=aA ((R.length+1) / 2);obtain⟨N,hN⟩:=aA R.length;have hC0:nT wr (.slice (some ⟨gb,0,none⟩) N c) (.slice none 0 0) [] (((wr.alloc (.cells #[.slice none 0 0] 93)).alloc (.cells #[.slice (some ⟨gb,0,none⟩) N c] 93)).alloc (.cells #[.int .i64 2] 3)):=by
    have mO:=Boxed.new (wr.alloc (.cells #[.slice none 0 0] 93)) 93 (.slice (some ⟨gb,0,none⟩) N c);have hNs:=Boxed.new ((wr.alloc (.cells #[.slice none 0 0] 93)).alloc (.cells #[.slice (some ⟨gb,0,none⟩) N c] 93)) 3 (.int .i64 2);rw[World.size_alloc] at mO;rw[World.size_alloc,World.size_alloc] at hNs;refine⟨?_,aH.nil _ _,mO.alloc _,hNs,(((Below.refl _ wr).alloc nZ _).alloc sX _).alloc bf _⟩;have h0:=heap_alloc_new wr (.cells #[.slice none 0 0] 93 (0,0));have hb2:Below (wr.heap.size+1) (wr.alloc (.cells #[.slice none 0 0] 93)) (((wr.alloc (.cells #[.slice none 0 0] 93)).alloc (.cells #[.slice (some ⟨gb,0,none⟩) N c] 93)).alloc (.cells #[.int .i64 2] 3)):=(bR.alloc sX _).alloc sX _;exact(hb2.block _ (Nat.lt_succ_self _)).trans h0
   have qd:aU cB 32 wr (some ⟨gb,0,none⟩) R:=by
    obtain⟨a,c',e,hr,_⟩:=J1 hL.rows;cases e;exact hr
   have h32:∀ x∈R,x.length=32:=λx hx=>by
    obtain⟨k,hk,rfl⟩:=List.getElem_of_mem hx;obtain⟨g,c',cs,e6,wY,h7⟩:=hL.rows.elem ZC k _ (List.getElem?_eq_getElem hk);exact wY.1
   have hgb:gb<wr.heap.size:=by
    obtain⟨_,_,_,q⟩:=hg0 gb 0 none rfl;exact q
   rw[<-hN] at om hq h1i hlen hc1 ⊢;replace hL:=Hd hL;replace hC0:=Hd hC0;replace hN:=Hd hN;replace hq:=Hd hq;go_wp2_with fail;with_reducible refine(om.out _).mono ?_
   clear om;rintro e w8 ⟨rfl,rfl⟩;rw[World.size_alloc];have hsz0:(((wr.alloc (.cells #[.slice none 0 0] 93)).alloc (.cells #[.slice (some ⟨gb,0,none⟩) N c] 93)).alloc (.cells #[.int .i64 2] 3)).heap.size=wr.heap.size+3:=sX;generalize (((wr.alloc (.cells #[.slice none 0 0] 93)).alloc (.cells #[.slice (some ⟨gb,0,none⟩) N c] 93)).alloc (.cells #[.int .i64 2] 3))=W0 at*;replace qd:=Hd qd;replace h32:=Hd h32;replace hsz0:=Hd hsz0;go_wp2_with fail;refine(wpIn_wide (n:=3)).1 ?_;refine wpIn_rangeFunc_ownH (n:=3) rfl dX (gf:=162) (lb:=#[.pointer (some ⟨wr.heap.size+1,0,none⟩),.pointer (some ⟨wr.heap.size+1+1,0,none⟩)]) rfl trivial (enters_of Tryz.func162 kX rfl)
    (Tp (3-1) dX (wr.heap.size+1) (wr.heap.size+1+1) wr.heap.size gb 0 c N q hq.out hc1 aB W0 hC0.out.bB hC0.out.bN) Xf (Pa (by have:=hsz0.out;omega) (by have:=hsz0.out;omega) (by have:=hsz0.out;omega)) bR (λ_=>rfl)
    (λpre W=>∃ u,nT wr (.slice (some ⟨gb,0,none⟩) N c) u (pre.map (λx=>Yg R x.val)) W)
    (λ_ _ _=>False)
    ?hI (λ_ _ _ _ _ hs _ _=>hs)
    ⟨_,hC0.out⟩
    (λx a' W=>a'={ tmps:=#[.slice a0 N9 c0,undef,.pointer (some ⟨w.heap.size,0,none⟩),.slice (some ⟨gb,0,none⟩) N c,.pointer (some ⟨wr.heap.size,0,none⟩),.slice (some ⟨gb,2*x.val*32,none⟩) (min 2 (N-2*x.val)) (min 2 (N-2*x.val)),
     .slice a0 N9 c0,.int .i64 (N9:Int),.bool false,undef,.slice a0 N9 c0,v,.slice (some ⟨gb,0,none⟩) N c,.int .i64 (N:Int),.bool true,.slice (some ⟨gb,0,none⟩) N c,
     .func (.func 162) #[] #[.pointer (some ⟨wr.heap.size+1,0,none⟩),.pointer (some ⟨wr.heap.size+1+1,0,none⟩)],
     .slice (some ⟨gb,2*x.val*32,none⟩) (min 2 (N-2*x.val)) (min 2 (N-2*x.val)),U 18,U 19,U 20,U 21,U 22,U 23,U 24,U 25,U 26,U 27,U 28,U 29,U 30,U 31,U 32,U 33,U 34,U 35,U 36,U 37,undef,undef,undef],defers:=[] })
    (λ_ _ _ _ _ _ hs _ _=>hs) ?assign ?body ?done ?stop
   case hI=>
    rintro s A B row ⟨u,hs⟩ hg hr;exact⟨u,hs.kept (B:=W0.heap.size) (by have:=hsz0.out;omega) hg hr⟩
   case assign=>
    rintro l pre x W K hI hK;gi_wp2;exact hK _ _ (KeepsFrom.refl _ _) (dQ.refl _ _ _ _) hI rfl
   case body=>
    rintro l pre x a' W hl _ ⟨u,hC⟩ rfl hlt;obtain⟨K,hK2⟩:=aA (2*x.val);obtain⟨O,hO2⟩:=aA (2*x.val*32);obtain⟨E,hE⟩:=aA (min 2 (N-2*x.val));have hxq:=x.isLt;have hqo:=hq.out;have hNo:=hN.out;have hKN:K<R.length:=aB;have hB1:=hC.bel;obtain⟨b1,o1,e1,r1⟩:=qd.out K hKN;cases e1;have hY1:=h32.out _ (List.getElem_mem hKN);have OG:R.getD K []=R[K]:=by rw[List.getD_eq_getElem?_getD,List.getElem?_eq_getElem hKN];rfl
    have hpre:Hid ((pre++[x]).map (λx=>Yg R x.val)=pre.map (λx=>Yg R x.val)++[Yg R x.val]):=Hd sX;have hun:(pre.map (λx=>Yg R x.val)).length<=1000000:=by rw[List.length_map];omega
    rw[<-hO2,<-hE];generalize hup:pre.map (λx=>Yg R x.val)=Up at*;have hcd:=Hd hC.drew;have hr1:Hid (W.drew.rangeAt gb O (cB R[K])):=Hd (by
     have:=YM r1 (hB1.trans ((Below.refl _ W).drew)) hgb;rwa [show 0+K*32=O by omega] at this)
    have hbase:wr.heap.size+3<=W.drew.heap.size:=by show _<=W.heap.size;have:=hsz0.out;have:=hC.bN.lt;omega
    have hS0:Below wr.heap.size W.drew W.drew/\KeepsOthers W.drew W.drew:=⟨Below.refl _ _,KeepsOthers.refl _⟩;have c4:W.drew.cell? ⟨wr.heap.size,0,none⟩=some u:=by rw[Za hcd.out.at_];rfl
    have hbd:Hid (Below wr.heap.size W W.drew):=Hd ((Below.refl _ W).drew);have hKd:Hid (KeepsOthers W W.drew):=Hd ⟨Nat.le_refl _,λ_ _ h _=>h⟩;have pW:=Tryz.underlying47;have humB:=Tryz.underlying47;have qH:=Tryz.underlying93;have gH:=Hd X4;have kV:=Hd (show ∀ k:Nat,(λ_:Nat=>False) k->(λ_:Nat=>False) k from λ_ h=>h);have hsD:=Hd (λW' (hb:Below wr.heap.size W.drew W')=>show bP W'/\bZ W' from by
     have:Below w.heap.size w W':=hL.out.bel.trans (((hB1.trans ((Below.refl _ W).drew)).trans hb).mono hL.out.bel.size);exact⟨hK.out.below this,hF.out.below this⟩)
    have hraw:=True.intro;have hWd:=hC.bel.size;replace hC:=Hd hC;replace hB1:=Hd hB1;by_cases h2:K+2<=N
    ·have hE2:E=2:=aB;subst hE2;have hK1:K+1<R.length:=aB;obtain⟨b2,o2,e2,r2⟩:=qd.out (K+1) hK1;cases e2;have hY2:=h32.out _ (List.getElem_mem hK1);have hgk1:R.getD (K+1) []=R[K+1]:=by rw[List.getD_eq_getElem?_getD,List.getElem?_eq_getElem hK1];rfl
     have uZ:Hid (Yg R x.val=Zo R[K] R[K+1]):=Hd (by unfold Yg;rw[<-hK2,if_pos aB,OG,hgk1]);have hr2:Hid (W.drew.rangeAt gb (O+32) (cB R[K+1])):=Hd (by
      have:=YM r2 (hB1.out.trans ((Below.refl _ W).drew)) hgb;rwa [show 0+(K+1)*32=O+32 by omega] at this)
     generalize R[K]=Y1 at*;generalize R[K+1]=Y2 at*;obtain⟨V1,hV1⟩:∃ V,V=(cB Y1).toArray:=⟨_,rfl⟩;obtain⟨V2,hV2⟩:∃ V,V=(cB Y2).toArray:=⟨_,rfl⟩;have hno:=Hd (λW' (hb:Below wr.heap.size W.drew W')=>J2 Y1 Y2 hY1 hY2 W' (hsD.out W' hb).1 (hsD.out W' hb).2);have hYl:=ZU Y1 Y2;obtain⟨D,hD⟩:∃ D,D=(cB (Zo Y1 Y2)).toArray:=⟨_,rfl⟩;rw[<-hV1,<-hV2,<-hD] at hno;have hDs:D.size=32:=by rw[hD,List.size_toArray,Zc,hYl]
     have ky:=Hd (λW'=>show RD W' (λ_=>False) (Zo Y1 Y2) D.toList from by rw[hD];exact⟨hYl,rfl⟩);have hsl:=Hd (λW=>Ym (P:=Tryz.prog) (t:=93) Tryz.underlying93 X4 dX dX D hDs W);have nU:(Tryz.prog.info? 47).map (·.size)=some (cB Y1).length:=by rw[Zc,hY1];kernel_rfl
     have hzmB:(Tryz.prog.info? 47).map (·.size)=some (cB Y2).length:=by rw[Zc,hY2];kernel_rfl
     have nV:=Hd hV1;have hcmB:=Hd hV2;have yt:∀ W':World,(Below wr.heap.size W.drew W'/\KeepsOthers W.drew W')->W'.rangeAt gb O (cB Y1):=λW' hS=>YM hr1.out hS.1 hgb;have rmB:∀ W':World,(Below wr.heap.size W.drew W'/\KeepsOthers W.drew W')->W'.rangeAt gb (O+32) (cB Y2):=λW' hS=>YM hr2.out hS.1 hgb;replace hV1:=Hd hV1;replace hV2:=Hd hV2;replace hD:=Hd hD;replace hS0:=Hd hS0;replace hqo:=Hd hqo;replace hNo:=Hd hNo;replace hK2:=Hd hK2;replace hO2:=Hd hO2;clear OG hgk1 r1 r2 hE;gi_wp2_with fail;refine Jk (S:=(λW':World=>Below wr.heap.size W.drew W'/\KeepsOthers W.drew W')) kX kX (λh=>Exists.elim h λ_ h=>Exists.elim h λ_ h=>h) hS0.out (λaD=>?_);generalize World.drew W=wd at*;refine tk 1 aD ?_;refine tk 2 aD ?_;refine tk 3 aD ?_ (v:=Value.agg _) (hy:=Or.inl ⟨by rfl,λW hSW=>QO _ _ rfl _ _ rfl _ _ (yt W hSW) pW rfl nU _ nV.out⟩);refine tk 4 aD ?_;refine tk 5 aD ?_;refine tk 6 aD ?_ (v:=Value.agg _) (hy:=Or.inl ⟨by rfl,λW hSW=>QO _ _ rfl _ _ rfl _ _ (rmB W hSW) humB rfl hzmB _ hcmB.out⟩);refine fZ [0,7] ?_;refine ac (λKz aF=>?_) ?_;go_simp;focus (try go_wp2_with fail)
     refine aF.out _ _ qD ?_;clear aF Kz aD;intro aD;try simp only[Act.put,sL,sZ,sS]
     refine rd 7 (λKz aF=>?_);go_simp
     (with_reducible refine(hno.out _ aD.1).mono ?_)
     rintro e w7 ⟨rfl,hnew⟩;have hS:=And.intro (Below.trans aD.1 (Below.mono hnew hcd.out.bel.size)) (aD.2.trans (ZN hnew));replace hcd:=Hd (hcd.out.below hnew);replace c4:=(show w7.cell? ⟨wr.heap.size,0,none⟩=some u from by rw[Za hcd.out.at_];rfl);focus (go_wp2_with fail)
     refine aF.out _ _ hS ?_;clear aF Kz aD hS;intro aD;try clear hnew
     try simp only[Act.put,sL,sZ,sS]
     refine rd 8 (λKz aF=>?_);rw[if_pos bT]
     (refine ZZ 93 1 (.tmp 28) rfl (.agg D) rfl _ _ (hsl.out _) ?_)
     (with_reducible refine Zp (t:=47) ?_)
     intro w5 hx5 hnew;have hS:=And.intro (Below.trans aD.1 (Below.mono hnew hcd.out.bel.size)) (aD.2.trans (ZN hnew));replace hcd:=Hd (hcd.out.below hnew);replace c4:=(show w5.cell? ⟨wr.heap.size,0,none⟩=some u from by rw[Za hcd.out.at_];rfl);have gT:wr.heap.size+3<=w5.heap.size:=(by have:=hcd.out.bN.lt;omega);have bY:=Hd hcd.out.rows;refine aF.out _ _ hS ?_;clear aF Kz aD hS;intro aD;try clear hnew
     try simp only[Act.put]
     refine rd 9 (λKz aF=>?_);rw[if_pos bT]
     (refine Yd ZC (.tmp 21) (.tmp 29) 93 rfl qH 32 gH.out dX rfl bY (Zo Y1 Y2) _ D (Hd (ky.out _)) kV (Hd (λ_ _ h=>h)) (Hd (λ_ h=>h.elim)) rfl hx5 hun dX gT ?_)
     intro v6 w6 gL eT Ab;have hap:=Hd (hcd.out.app eT.out gL.out);have hS:=And.intro (Below.trans aD.1 (eT.out.below hcd.out.bel.size (λk hk=>by have:=(hcd.out.rows.ownLt k hk).1;omega))) (aD.2.trans (bY.out.owns.elim (λ_ h=>JK h eT.out)));have xE:w6.frozen? ⟨wr.heap.size,0,none⟩=false:=Zg hap.out.1 _;have mq:w6.cell? ⟨wr.heap.size,0,none⟩=some u:=(by rw[Za hap.out.1];rfl);obtain⟨a6,n6,c6,hv6⟩:∃ a n c,v6=.slice a n c:=(by obtain⟨a,c,e,_⟩:=gL.out.form;exact⟨a,_,c,e⟩);subst hv6;refine aF.out _ _ hS ?_;clear aF Kz aD hS;intro aD;try simp only[Act.put]
     refine rd 10 (λKz aF=>?_);have aZ:=((ag.refl hap.out.1).setCell (j:=0) (.slice a6 n6 c6));go_simp
     (with_reducible refine Q0 ?_)
     intro w7 hw7;rw[<-hw7] at aZ;clear hw7;have hS:=And.intro (Below.trans aD.1 (aZ.below nZ)) (aD.2.trans (Q6 aZ hap.out.1));replace aZ:=Hd aZ;refine aF.out _ _ hS ?_;clear aF Kz aD hS;intro aD;try simp only[Act.put]
     refine bz ?_;rotate_left;refine ac (λKz aF=>?_) AllReadyH.nil;go_simp
     (with_reducible refine(hno.out _ aD.1).mono ?_)
     rintro e w7 ⟨rfl,hnew⟩;have hS:=And.intro (Below.trans aD.1 (Below.mono hnew hcd.out.bel.size)) (aD.2.trans (ZN hnew));replace hcd:=Hd (hcd.out.below hnew);replace c4:=(show w7.cell? ⟨wr.heap.size,0,none⟩=some u from by rw[Za hcd.out.at_];rfl);focus (go_wp2_with fail)
     refine aF.out _ _ hS ?_;clear aF Kz aD hS;intro aD;try clear hnew
     try simp only[Act.put,sL,sZ,sS]
     refine fZ [0,8] ?_;refine ac (λKz aF=>?_) ?_;go_simp;focus (try go_wp2_with fail)
     refine aF.out _ _ qD ?_;clear aF Kz aD;intro aD;try simp only[Act.put,sL,sZ,sS]
     refine rd 8 (λKz aF=>?_);rw[if_pos bT]
     (refine ZZ 93 1 (.tmp 28) rfl (.agg D) rfl _ _ (hsl.out _) ?_)
     (with_reducible refine Zp (t:=47) ?_)
     intro w5 hx5 hnew;have hS:=And.intro (Below.trans aD.1 (Below.mono hnew hcd.out.bel.size)) (aD.2.trans (ZN hnew));replace hcd:=Hd (hcd.out.below hnew);replace c4:=(show w5.cell? ⟨wr.heap.size,0,none⟩=some u from by rw[Za hcd.out.at_];rfl);have gT:wr.heap.size+3<=w5.heap.size:=(by have:=hcd.out.bN.lt;omega);have bY:=Hd hcd.out.rows;refine aF.out _ _ hS ?_;clear aF Kz aD hS;intro aD;try clear hnew
     try simp only[Act.put]
     refine rd 9 (λKz aF=>?_);rw[if_pos bT]
     (refine Yd ZC (.tmp 21) (.tmp 29) 93 rfl qH 32 gH.out dX rfl bY (Zo Y1 Y2) _ D (Hd (ky.out _)) kV (Hd (λ_ _ h=>h)) (Hd (λ_ h=>h.elim)) rfl hx5 hun dX gT ?_)
     intro v6 w6 gL eT Ab;have hap:=Hd (hcd.out.app eT.out gL.out);have hS:=And.intro (Below.trans aD.1 (eT.out.below hcd.out.bel.size (λk hk=>by have:=(hcd.out.rows.ownLt k hk).1;omega))) (aD.2.trans (bY.out.owns.elim (λ_ h=>JK h eT.out)));have xE:w6.frozen? ⟨wr.heap.size,0,none⟩=false:=Zg hap.out.1 _;have mq:w6.cell? ⟨wr.heap.size,0,none⟩=some u:=(by rw[Za hap.out.1];rfl);obtain⟨a6,n6,c6,hv6⟩:∃ a n c,v6=.slice a n c:=(by obtain⟨a,c,e,_⟩:=gL.out.form;exact⟨a,_,c,e⟩);subst hv6;refine aF.out _ _ hS ?_;clear aF Kz aD hS;intro aD;try simp only[Act.put]
     refine rd 10 (λKz aF=>?_);have aZ:=((ag.refl hap.out.1).setCell (j:=0) (.slice a6 n6 c6));go_simp
     (with_reducible refine Q0 ?_)
     intro w7 hw7;rw[<-hw7] at aZ;clear hw7;have hS:=And.intro (Below.trans aD.1 (aZ.below nZ)) (aD.2.trans (Q6 aZ hap.out.1));replace aZ:=Hd aZ;refine aF.out _ _ hS ?_;clear aF Kz aD hS;intro aD;try simp only[Act.put]
     refine bz ?_;rotate_left;refine ac (λKz aF=>?_) AllReadyH.nil;rw[if_pos bT]
     (refine ZZ 93 1 (.tmp 28) rfl (.agg D) rfl _ _ (hsl.out _) ?_)
     (with_reducible refine Zp (t:=47) ?_)
     intro w5 hx5 hnew;have hS:=And.intro (Below.trans aD.1 (Below.mono hnew hcd.out.bel.size)) (aD.2.trans (ZN hnew));replace hcd:=Hd (hcd.out.below hnew);replace c4:=(show w5.cell? ⟨wr.heap.size,0,none⟩=some u from by rw[Za hcd.out.at_];rfl);have gT:wr.heap.size+3<=w5.heap.size:=(by have:=hcd.out.bN.lt;omega);have bY:=Hd hcd.out.rows;refine aF.out _ _ hS ?_;clear aF Kz aD hS;intro aD;try clear hnew
     try simp only[Act.put]
     refine rd 0 (λKz aF=>?_);go_simp;focus (try go_wp2_with fail)
     refine aF.out _ _ qD ?_;clear aF Kz aD;intro aD;try simp only[Act.put,sL,sZ,sS]
     refine rd 9 (λKz aF=>?_);rw[if_pos bT]
     (refine Yd ZC (.tmp 21) (.tmp 29) 93 rfl qH 32 gH.out dX rfl bY (Zo Y1 Y2) _ D (Hd (ky.out _)) kV (Hd (λ_ _ h=>h)) (Hd (λ_ h=>h.elim)) rfl hx5 hun dX gT ?_)
     intro v6 w6 gL eT Ab;have hap:=Hd (hcd.out.app eT.out gL.out);have hS:=And.intro (Below.trans aD.1 (eT.out.below hcd.out.bel.size (λk hk=>by have:=(hcd.out.rows.ownLt k hk).1;omega))) (aD.2.trans (bY.out.owns.elim (λ_ h=>JK h eT.out)));have xE:w6.frozen? ⟨wr.heap.size,0,none⟩=false:=Zg hap.out.1 _;have mq:w6.cell? ⟨wr.heap.size,0,none⟩=some u:=(by rw[Za hap.out.1];rfl);obtain⟨a6,n6,c6,hv6⟩:∃ a n c,v6=.slice a n c:=(by obtain⟨a,c,e,_⟩:=gL.out.form;exact⟨a,_,c,e⟩);subst hv6;refine aF.out _ _ hS ?_;clear aF Kz aD hS;intro aD;try simp only[Act.put]
     refine rd 10 (λKz aF=>?_);have aZ:=((ag.refl hap.out.1).setCell (j:=0) (.slice a6 n6 c6));go_simp
     (with_reducible refine Q0 ?_)
     intro w7 hw7;rw[<-hw7] at aZ;clear hw7;have hS:=And.intro (Below.trans aD.1 (aZ.below nZ)) (aD.2.trans (Q6 aZ hap.out.1));replace aZ:=Hd aZ;refine aF.out _ _ hS ?_;clear aF Kz aD hS;intro aD;try simp only[Act.put]
     refine bz ?_;all_goals
      have h7:=R6 hap.out gL.out aZ.out;have bV:=hbd.out.trans aD.1;have kg:=hKd.out.trans aD.2;rw[<-uZ.out,<-hpre.out] at h7;replace h7:=Hd h7;replace bV:=Hd bV;clear hap;gi_wp2_with fail;exact⟨kg.from _,hC.out.keep h7.out bV.out,_,h7.out⟩
    ·have hE1:E=1:=aB;subst hE1;have uZ:Hid (Yg R x.val=R[K]):=Hd (by unfold Yg;rw[<-hK2,if_neg aB,OG]);generalize R[K]=Y1 at*;obtain⟨V1,hV1⟩:∃ V,V=(cB Y1).toArray:=⟨_,rfl⟩;have hDs:V1.size=32:=by rw[hV1,List.size_toArray,Zc,hY1]
     have ky:=Hd (λW'=>show RD W' (λ_=>False) Y1 V1.toList from by rw[hV1];exact⟨hY1,rfl⟩);have hsl:=Hd (λW=>Ym (P:=Tryz.prog) (t:=93) Tryz.underlying93 X4 dX dX V1 hDs W);have nU:(Tryz.prog.info? 47).map (·.size)=some (cB Y1).length:=by rw[Zc,hY1];kernel_rfl
     have nV:=Hd hV1;have yt:∀ W':World,(Below wr.heap.size W.drew W'/\KeepsOthers W.drew W')->W'.rangeAt gb O (cB Y1):=λW' hS=>YM hr1.out hS.1 hgb;replace hV1:=Hd hV1;replace hS0:=Hd hS0;replace hqo:=Hd hqo;replace hNo:=Hd hNo;replace hK2:=Hd hK2;replace hO2:=Hd hO2;clear OG r1 hE hsD;gi_wp2_with fail;refine Jk (S:=(λW':World=>Below wr.heap.size W.drew W'/\KeepsOthers W.drew W')) kX kX (λh=>Exists.elim h λ_ h=>Exists.elim h λ_ h=>h) hS0.out (λaD=>?_);generalize World.drew W=wd at*;refine tk 1 aD ?_;refine tk 2 aD ?_;refine tk 3 aD ?_ (v:=Value.agg _) (hy:=Or.inl ⟨by rfl,λW hSW=>QO _ _ rfl _ _ rfl _ _ (yt W hSW) pW rfl nU _ nV.out⟩);refine fZ [0,4] ?_;refine ac (λKz aF=>?_) ?_;go_simp;focus (try go_wp2_with fail)
     refine aF.out _ _ qD ?_;clear aF Kz aD;intro aD;try simp only[Act.put,sL,sZ,sS]
     refine rd 4 (λKz aF=>?_);rw[if_pos bT]
     (refine ZZ 93 1 (.tmp 34) rfl (.agg V1) rfl _ _ (hsl.out _) ?_)
     (with_reducible refine Zp (t:=47) ?_)
     intro w5 hx5 hnew;have hS:=And.intro (Below.trans aD.1 (Below.mono hnew hcd.out.bel.size)) (aD.2.trans (ZN hnew));replace hcd:=Hd (hcd.out.below hnew);replace c4:=(show w5.cell? ⟨wr.heap.size,0,none⟩=some u from by rw[Za hcd.out.at_];rfl);have gT:wr.heap.size+3<=w5.heap.size:=(by have:=hcd.out.bN.lt;omega);have bY:=Hd hcd.out.rows;refine aF.out _ _ hS ?_;clear aF Kz aD hS;intro aD;try clear hnew
     try simp only[Act.put]
     refine rd 5 (λKz aF=>?_);rw[if_pos bT]
     (refine Yd ZC (.tmp 31) (.tmp 35) 93 rfl qH 32 gH.out dX rfl bY Y1 _ V1 (Hd (ky.out _)) kV (Hd (λ_ _ h=>h)) (Hd (λ_ h=>h.elim)) rfl hx5 hun dX gT ?_)
     intro v6 w6 gL eT Ab;have hap:=Hd (hcd.out.app eT.out gL.out);have hS:=And.intro (Below.trans aD.1 (eT.out.below hcd.out.bel.size (λk hk=>by have:=(hcd.out.rows.ownLt k hk).1;omega))) (aD.2.trans (bY.out.owns.elim (λ_ h=>JK h eT.out)));have xE:w6.frozen? ⟨wr.heap.size,0,none⟩=false:=Zg hap.out.1 _;have mq:w6.cell? ⟨wr.heap.size,0,none⟩=some u:=(by rw[Za hap.out.1];rfl);obtain⟨a6,n6,c6,hv6⟩:∃ a n c,v6=.slice a n c:=(by obtain⟨a,c,e,_⟩:=gL.out.form;exact⟨a,_,c,e⟩);subst hv6;refine aF.out _ _ hS ?_;clear aF Kz aD hS;intro aD;try simp only[Act.put]
     refine rd 6 (λKz aF=>?_);have aZ:=((ag.refl hap.out.1).setCell (j:=0) (.slice a6 n6 c6));go_simp
     (with_reducible refine Q0 ?_)
     intro w7 hw7;rw[<-hw7] at aZ;clear hw7;have hS:=And.intro (Below.trans aD.1 (aZ.below nZ)) (aD.2.trans (Q6 aZ hap.out.1));replace aZ:=Hd aZ;refine aF.out _ _ hS ?_;clear aF Kz aD hS;intro aD;try simp only[Act.put]
     refine bz ?_;rotate_left;refine ac (λKz aF=>?_) AllReadyH.nil;rw[if_pos bT]
     (refine ZZ 93 1 (.tmp 34) rfl (.agg V1) rfl _ _ (hsl.out _) ?_)
     (with_reducible refine Zp (t:=47) ?_)
     intro w5 hx5 hnew;have hS:=And.intro (Below.trans aD.1 (Below.mono hnew hcd.out.bel.size)) (aD.2.trans (ZN hnew));replace hcd:=Hd (hcd.out.below hnew);replace c4:=(show w5.cell? ⟨wr.heap.size,0,none⟩=some u from by rw[Za hcd.out.at_];rfl);have gT:wr.heap.size+3<=w5.heap.size:=(by have:=hcd.out.bN.lt;omega);have bY:=Hd hcd.out.rows;refine aF.out _ _ hS ?_;clear aF Kz aD hS;intro aD;try clear hnew
     try simp only[Act.put]
     refine rd 0 (λKz aF=>?_);go_simp;focus (try go_wp2_with fail)
     refine aF.out _ _ qD ?_;clear aF Kz aD;intro aD;try simp only[Act.put,sL,sZ,sS]
     refine rd 5 (λKz aF=>?_);rw[if_pos bT]
     (refine Yd ZC (.tmp 31) (.tmp 35) 93 rfl qH 32 gH.out dX rfl bY Y1 _ V1 (Hd (ky.out _)) kV (Hd (λ_ _ h=>h)) (Hd (λ_ h=>h.elim)) rfl hx5 hun dX gT ?_)
     intro v6 w6 gL eT Ab;have hap:=Hd (hcd.out.app eT.out gL.out);have hS:=And.intro (Below.trans aD.1 (eT.out.below hcd.out.bel.size (λk hk=>by have:=(hcd.out.rows.ownLt k hk).1;omega))) (aD.2.trans (bY.out.owns.elim (λ_ h=>JK h eT.out)));have xE:w6.frozen? ⟨wr.heap.size,0,none⟩=false:=Zg hap.out.1 _;have mq:w6.cell? ⟨wr.heap.size,0,none⟩=some u:=(by rw[Za hap.out.1];rfl);obtain⟨a6,n6,c6,hv6⟩:∃ a n c,v6=.slice a n c:=(by obtain⟨a,c,e,_⟩:=gL.out.form;exact⟨a,_,c,e⟩);subst hv6;refine aF.out _ _ hS ?_;clear aF Kz aD hS;intro aD;try simp only[Act.put]
     refine rd 6 (λKz aF=>?_);have aZ:=((ag.refl hap.out.1).setCell (j:=0) (.slice a6 n6 c6));go_simp
     (with_reducible refine Q0 ?_)
     intro w7 hw7;rw[<-hw7] at aZ;clear hw7;have hS:=And.intro (Below.trans aD.1 (aZ.below nZ)) (aD.2.trans (Q6 aZ hap.out.1));replace aZ:=Hd aZ;refine aF.out _ _ hS ?_;clear aF Kz aD hS;intro aD;try simp only[Act.put]
     refine bz ?_;all_goals
      have h7:=R6 hap.out gL.out aZ.out;have bV:=hbd.out.trans aD.1;have kg:=hKd.out.trans aD.2;rw[<-uZ.out,<-hpre.out] at h7;replace h7:=Hd h7;replace bV:=Hd bV;clear hap;gi_wp2_with fail;exact⟨kg.from _,hC.out.keep h7.out bV.out,_,h7.out⟩
   case done=>
    rintro D ys W hD hys ⟨u,hC⟩ rP;have hUp:ys.map (λx=>Yg R x.val)=oH Zo R:=by
     rw[<-Co R.length R nZ,show ys.map (λx=>Yg R x.val)=(ys.map Fin.val).map (Yg R) by rw[List.map_map];rfl,hys,hq.out,hN.out];simp[upto]
    rw[hUp] at hC;have qc:=KF Zo _ R nZ;obtain⟨a2,c2,hu2,-⟩:=hC.rows.form;have hNo:=hN.out;have hszo:=hsz0.out;have hres:=hL.out.res;have hrl:=Zb hres;have hs1o:=hs1.out;have hOL:OvL w u (oH Zo R) d W:=⟨hC.rows.mono aB,hL.out.ov.up aB,by rw[qc];omega,(hC.bel.block _ hrl).trans hres,hL.out.bel.trans (hC.bel.mono hL.out.bel.size)⟩;have hMk:Marks A1.heap.size (D::Ds) W:=hM.out.cons (λk hk=>hC.bel.block _ (Zb (hM.out.at_ k hk).2)) rP aB aB;have c4:W.cell? ⟨wr.heap.size,0,none⟩=some u:=by rw[Za hC.at_];rfl
    subst hu2;replace hOL:=Hd hOL;replace hMk:=Hd hMk;replace qc:=Hd qc;clear hC hUp hys rP hres hs1o;go_wp2_with fail;refine hback.out _ _ _ kX ?_ ?_
    ·simp only[List.getD_cons_zero,List.getD_cons_succ];exact⟨_,D::Ds,rfl,hMk.out,hOL.out⟩
    ·have h3:=hu3.out;simp only[List.getD_cons_zero,List.getD_cons_succ,h3,KC,qc.out];omega
   case stop=>
    rintro D c pre W _ _ h _;exact h.elim
  ·have qm:R.length=1:=aB;obtain⟨y,rfl⟩:=List.length_eq_one_iff.1 qm;have hdy:d=y:=hL.ov.uniq (.one y);subst hdy;obtain⟨a,c',e,hrow,_⟩:=J1 hL.rows;cases e;obtain⟨gb,o,rfl,hr0⟩:=hrow 0 sX;rw[Nat.zero_mul,Nat.add_zero] at hr0;have hr1:=Hd (show wr.rangeAt gb o (cB d) from hr0);have hd32:d.length=32:=by
    obtain⟨g,c',cs,e6,wY,h7⟩:=hL.rows.elem ZC 0 d rfl;exact wY.1
   obtain⟨V,hV⟩:∃ V,V=(cB d).toArray:=⟨_,rfl⟩;have dD:(Tryz.prog.info? 47).map (·.size)=some (cB d).length:=by rw[Zc,hd32];kernel_rfl
   have hVi:(Tryz.prog.info? 47).map (·.size)=some V.size:=by rw[hV,List.size_toArray,Zc,hd32];kernel_rfl
   have mY:aG.size=V.size:=by rw[Z3,hV,List.size_toArray,Zc,hd32]
   have ig:V.all (·.oneCell')=true:=by rw[hV];exact ZE (Zw _)
   have hres:=Hd hL.res;have hbl:=Hd hL.bel;have hc0:0<([d]:List (List UInt8)).length:=sX;have h1i:¬((1:Int)<(([d]:List (List UInt8)).length:Int)):=sX;have hl1:([d]:List (List UInt8)).length=1:=rfl;rw[hl1] at h1i hc1 ⊢;replace hV:=Hd hV;clear hL hrow hr0 hg0 h1 qm hpos hlen hc0 hl1 hnil;go_wp2_with (first
    | ((with_reducible refine wL (.load 47 (.tmp 39)) ?_);refine Zx rfl 47 (.tmp 39) rfl gb o rfl (cB d) _ hr1.out Tryz.underlying47 rfl dD V hV ?_)
    | ((with_reducible refine wL (.store 47 (.tmp 2) _) ?_);(refine Zd rfl 47 (.tmp 2) (.tmp 40) rfl w.heap.size aG V rfl rfl hres hVi mY ig ?_);intro W4 eZ))
   have hs1o:=hs1.out;have hM4:=hM.out.stored eZ.out aB;have hM5:Marks w.heap.size Ds W4:=⟨λk hk=>⟨by have:=(hM4.at_ k hk).1;omega,(hM4.at_ k hk).2⟩,hM4.nodup⟩;refine ML w Ds W4 hM5 (λW' hb hx=>?_);refine⟨.agg V,?_,by rw[hV.out],(hbl.out.trans (eZ.out.below nZ)).trans hb⟩;have hat:=(hx w.heap.size (.inr (λD hD e=>by have:=(hM4.at_ D hD).1;omega))).trans eZ.out.here;rw[Xb rfl];simp[asAddr,Result.andThen,run_loadVar_row W' w.heap.size 47 47 V (0,0) _ hat Tryz.underlying47 rfl hVi]
end Go.Proofs.YtpdhceiodgnbmaaGreatDoor
namespace Go.Proofs
open Go.Shelf YtpdhceiodgnbmaaGreatDoor
def Tryz.rv_ren:Go.Shelf.Ren:=⟨fun|35=>114|n=>n,fun|22=>93|23=>47|3=>3|4=>4|0=>0|n=>n,fun|n=>n⟩
theorem Tryz.rv:Go.Proofs.SlLaysE0.n35 Tryz.prog Tryz.rv_ren:={
 mixed:=kX
 f35:=⟨Tryz.f114.name,dX,Tryz.func114.trans (congrArg some kX)⟩
 t0:=Tryz.underlying0
 a0:=Tryz.isAgg0
 z0:=Tryz.sizeOf0
 v0:=Tryz.zeroValue0
 t3:=Tryz.underlying3
 a3:=Tryz.isAgg3
 z3:=Tryz.sizeOf3
 v3:=Tryz.zeroValue3
 t4:=Tryz.underlying4
 a4:=Tryz.isAgg4
 z4:=Tryz.sizeOf4
 v4:=Tryz.zeroValue4
 t22:=Tryz.underlying93
 a22:=Tryz.isAgg93
 z22:=Tryz.sizeOf93
 v22:=Tryz.zeroValue93 }
namespace YtpdhceiodgnbmaaGreatDoor
open Go.RowKit Go.Sort
def e32(d:List UInt8):List Value:=cB (Xj d)
theorem KE(d:List UInt8):(e32 d).length=32:=by unfold e32;rw[Zc,VM]
theorem Hl{ps:List (List UInt8)}{t:Nat}(ht:t<ps.length*32):(flatK e32 32 ps.toArray).toList[t]? = (ps.flatMap e32)[t]? := by
 have hi:t / 32<ps.length:=aB;have hj:t % 32<32:=Nat.mod_lt _ dX;have h1:=get_flatK e32 32 ps.toArray t (by simpa using ht);have hs:t<(flatK e32 32 ps.toArray).size:=by simpa using ht
 rw[getElem!_pos _ t hs] at h1;rw[Array.getElem?_toList,Array.getElem?_eq_getElem hs,h1];have h2:(ps.toArray[t / 32]!)=ps[t / 32]:=by simp[hi]
 rw[h2];have hlt:t % 32<(e32 ps[t / 32]).length:=by rw[KE];exact hj
 have h3:(e32 ps[t / 32])[t % 32]! = (e32 ps[t / 32])[t % 32]:=by rw[List.getElem!_eq_getElem?_getD,List.getElem?_eq_getElem hlt];rfl
 rw[h3];have h4:=RQ (css:=ps.map e32) (size:=32) (λcs hcs=>by obtain⟨x,_,rfl⟩:=List.mem_map.1 hcs;exact KE x) (t / 32) (e32 ps[t / 32]) (t % 32) ((e32 ps[t / 32])[t % 32]) (by rw[List.getElem?_map,List.getElem?_eq_getElem hi];rfl) (List.getElem?_eq_getElem hlt);rw[show t / 32*32+t % 32=t by omega,<-List.flatMap_def] at h4;exact h4.symm
theorem WL(ps:List (List UInt8)):(flatK e32 32 ps.toArray).toList=ps.flatMap e32:=by
 have hl:=QW ps (enc:=e32) (λx _=>KE x);apply List.ext_getElem?
 intro t;by_cases ht:t<ps.length*32
 ·exact Hl ht
 ·rw[List.getElem?_eq_none bf,List.getElem?_eq_none aB]
theorem Hb{ps:List (List UInt8)}(h:∀ x∈ps,x.length=32):ps.flatMap e32=ps.flatMap cB:=by
 induction ps with
 | nil=>rfl
 | cons p ps ih=>rw[List.flatMap_cons,List.flatMap_cons,ih (λx hx=>h x (List.mem_cons_of_mem _ hx)),e32,G1 (h p (List.mem_cons_self ..))]
theorem MC{base:Nat}{w:World}{e:TypeId}{F:Nat->Prop}{v:Value}{ps:List (List UInt8)}(h:aH RD e 32 base w F v ps):w.ownsRow base e 32 v ps.length (ps.flatMap cB)/\∀ x∈ps,x.length=32:=by
 obtain⟨⟨css,h1,h2,h3⟩,h4,h5⟩:=h;have hcs:css=ps.map cB:=by
  apply List.ext_getElem (by simp[h1]);intro i g1 g2;have hi:i<ps.length:=by simpa using g2
  have:=(h3 i ps[i] css[i] (List.getElem?_eq_getElem hi) (List.getElem?_eq_getElem g1)).2;simp[this]
 refine⟨by rw[hcs,<-List.flatMap_def] at h2;exact h2,λx hx=>?_⟩;obtain⟨i,hi,rfl⟩:=List.getElem_of_mem hx;have hl:i<css.length:=by rw[hcs];simpa using hi
 exact(h3 i ps[i] css[i] (List.getElem?_eq_getElem hi) (List.getElem?_eq_getElem hl)).1
theorem NL(cur:Array Value)(ts:List Value)(k:Nat)(hk:k=ts.length)(h:ts.length<=cur.size):(putCells id 0 ts.toArray cur).toList.take k=ts:=by
 subst hk;have hs:(putCells id 0 ts.toArray cur).size=cur.size:=by simp[putCells]
 apply List.ext_getElem
 ·simp[putCells];omega
 ·intro j h1 h2;simp only[List.getElem_take,Array.getElem_toList,putCells,Array.getElem_mapIdx];rw[if_pos bf];simp only[Nat.sub_zero];rw[getElem!_pos _ j bf];simp
theorem Tj{w:World}{g:Nat}{cur:Array Value}{e:TypeId}{fr:Nat×Nat}(q:Nat)(d:Array Value)(h:w.heap[g]? = some (.cells cur e fr)):(putRow id (Sort.ahead w q) g 0 d).heap[g]? = some (.cells (putCells id 0 d cur) e fr):=by
 unfold putRow mapBlock;show (w.heap.modify g _)[g]? = _;rw[Array.getElem?_modify,if_pos rfl,h];rfl
theorem Hq(w:World)(g q:Nat)(d:Array Value):Only (λk=>some g=some k) w (putRow id (Sort.ahead w q) g 0 d):=
 ⟨rfl,rfl,rfl,Nat.le_of_eq (by simp[putRow,mapBlock,Sort.ahead]),λk hk hne=>by
  unfold putRow mapBlock;show (w.heap.modify g _)[k]? = _;rw[Array.getElem?_modify,if_neg (λe=>hne (by rw[e]))]⟩
theorem RJ{base:Nat}{v:Value}{ps:List (List UInt8)}(w:World)(hr:aH RD 47 32 base w (λ_=>False) v ps)(hl:ps.length<=100000) :
  Calls Tryz.prog 114 #[v] w λe w'=>e=.returned (.tuple #[])/\aH RD 47 32 base w' (λ_=>False) v ps.reverse/\Only (λk=>v.ownBlock=some k) w w':=by
 obtain⟨hown,h32⟩:=MC hr;have hrev:∀ x∈ps.reverse,x.length=32:=λx hx=>h32 x (by simpa using hx);have hx:=hown.1;have hcells:=hown;rcases hown.2 with ⟨rfl,h0⟩|⟨g,cap,cur,rfl,hb,hg,hn,hcap,lU,htake⟩
 ·obtain rfl:ps=[]:=List.length_eq_zero_iff.1 h0;refine(AnyQ.slices_Reverse_empty Tryz.rv none 0 w).mono ?_;rintro e w' ⟨rfl,rfl⟩;exact⟨rfl,hr,Only.refl _ _⟩
 ·have hH:HoldsK e32 32 w g 0 ps.toArray:=by
   intro j hj;have hj2:j<ps.length*32:=by simpa using hj
   have hfl:(ps.flatMap cB).length=ps.length*32:=QW ps (λx hx=>by rw[Zc];exact h32 x hx);have hjf:j<(ps.flatMap cB).length:=aB;have hc:=World.ownsRow.cellAt hcells j hj2;refine⟨?_,World.ownsRow.frozenAt hcells (0+j)⟩;have h1:=Hl hj2;rw[Hb h32,Array.getElem?_toList,List.getElem?_eq_getElem hjf] at h1;rw[Nat.zero_add,hc,getElem!_pos _ j (by simpa using hj2),List.getElem?_eq_getElem hjf];rw[Array.getElem?_eq_getElem (by simpa using hj2)] at h1;exact h1.symm
  have h:=AnyQ.slices_Reverse Tryz.rv 32 Tryz.isAgg47 Tryz.sizeOf47 e32 KE (λx u hu=>Zw _ u hu) g 0 cap ps.toArray w hH bf;simp only[List.size_toArray] at h;refine h.mono ?_;rintro e w' ⟨rfl,q,rfl⟩;have hfr:=WL ps.reverse;rw[Hb hrev] at hfr;have Ay:(ps.reverse.flatMap cB).length=ps.length*32:=by rw[QW ps.reverse (λx hx=>by rw[Zc];exact hrev x hx)];simp
  have hw':putRowK e32 32 (Sort.ahead w q) g 0 ps.toArray.reverse=putRow id (Sort.ahead w q) g 0 (ps.reverse.flatMap cB).toArray:=by
   unfold putRowK;rw[<-hfr];simp
  rw[hw'];refine⟨rfl,Jj (λx hx=>⟨hrev x hx,rfl⟩) ⟨by rw[List.length_reverse,Ay],.inr ⟨g,cap,_,by rw[List.length_reverse],hb,Tj q _ hg,by rw[List.length_reverse];exact hn,hcap,by simp[putCells,lU],?_⟩⟩,Hq _ _ _ _⟩;rw[List.length_reverse];exact NL cur _ _ Ay.symm (by rw[Ay,lU];exact Nat.mul_le_mul_right 32 hn)
end YtpdhceiodgnbmaaGreatDoor
end Go.Proofs
namespace Go.Proofs.YtpdhceiodgnbmaaGreatDoor
open Go.RowKit
def Az(ds:List Stp):Nat:=ds.foldl (λa s=>if s.left=true then s.to else a) 0
theorem Bq(ds:List Stp)(s:Stp):Az (ds++[s])=if s.left=true then s.to else Az ds:=by simp[Az]
theorem Gu:∀ (f m n fr:Nat) (wh:Bool) (a:Nat),a=fr->(Zt f m n fr wh).1.foldl (λa s=>if s.left=true then s.to else a) a=(Zt f m n fr wh).2.2
 | 0,_,_,_,_,_,h=>h
 | f+1,m,n,fr,wh,a,h=>by
  unfold Zt;split
  ·split
   ·rw[List.foldl_cons,if_neg sX];exact Gu f _ _ _ _ _ h
   ·rw[List.foldl_cons,if_pos rfl];exact Gu f _ _ _ _ _ rfl
  ·exact h
theorem DQ(f m n:Nat):Az (Zt f m n 0 true).1=(Zt f m n 0 true).2.2:=Gu f m n 0 true 0 rfl
theorem E4{w:World}{b o:Nat}{L:List (List UInt8)}(h:aU cB 32 w (some ⟨b,o,none⟩) L)(x y:Nat):aU cB 32 w (some ⟨b,o+x*32,none⟩) (bg L x y):=(h.dropP x).takeP (y-x)
theorem H2{base:Nat}{w:World}{e:TypeId}{F:Nat->Prop}{v:Value}{xs:List Stp}(h:aH Kc e 3 base w F v xs):∃ a c,v=.slice a xs.length c/\aU Stp.list 3 w a xs/\xs.length<=c/\c<=maxLen/\(∀ b o s,a=some ⟨b,o,s⟩->o=0/\s=none/\base<=b/\b<w.heap.size):=by
 obtain⟨a,c,e1,e2,e3,e4,e5⟩:=h.form;refine⟨a,c,e1,λk hk=>?_,e3,e4,e5⟩;obtain⟨g,c',cs,e6,hR,h7⟩:=h.elem NC k _ (List.getElem?_eq_getElem hk);rw[e1] at e6;cases e6;have:cs=Stp.list xs[k]:=hR;rw[this] at h7;exact⟨g,0,rfl,by rw[Nat.zero_add];exact h7⟩
def DA(w:World)(ps:List (List UInt8))(e:Ending)(w':World):Prop:=∃ v,e=.returned (.tuple #[v,.nilIface])/\aH RD 47 32 w.heap.size w' (λ_=>False) v ps/\Below w.heap.size w w'
structure PrL (w2 wr:World) (v:Value) (ds:List Stp) (L:List (List UInt8)) (k:Nat):Prop where
 rows:aH RD 47 32 w2.heap.size wr (λ_=>False) v ((ds.take k).map (λs=>fI (bg L s.from_ s.to)))
 bel:Below w2.heap.size w2 wr
theorem L7(b o c0:Nat)(L:List (List UInt8))(m:Nat)(h1:1<=m)(h2:m<=L.length)(hn:L.length<=256)(hc:L.length<=c0)(hc2:c0<=maxLen)(h32:∀ x∈L,x.length=32)(w:World)(hA:aU cB 32 w (some ⟨b,o,none⟩) L)(hK:bP w)(hF:bZ w) :
  Calls Tryz.prog 74 #[.slice (some ⟨b,o,none⟩) L.length c0,.int .i64 (m:Int)] w (DA w (Ys L m)):=by
 have hcb:Xl m L.length=true:=by unfold Xl;simp;omega
 have hco:=Uf m L.length w;rw[hcb] at hco;have hst:=Kn m L.length h1 h2 hn w;obtain⟨q1,q2,q3⟩:=JC L.length m L.length 0 true h1 h2 nZ;have hat:=DQ L.length m L.length;have hfw:=JN L.length m L.length 0 true;have hov:∀ x y,x<y->y<=L.length->∀ W,Below w.heap.size w W->Calls Tryz.prog 113 #[.slice (some ⟨b,o+x*32,none⟩) (y-x) (c0-x)] W λe w'=>e=.returned (.agg (cB (fI (bg L x y))).toArray)/\Below W.heap.size W w':=λx y hxy hy W hW=>by
  have hsl:=Yn (L:=L) (a:=x) (b:=y) hy;have:=BJ (some ⟨b,o+x*32,none⟩) (c0-x) (bg L x y) (fI (bg L x y)) (λz hz=>h32 z (List.mem_of_mem_drop (List.mem_of_mem_take hz))) (Ux (by rw[hsl];omega)) (by rw[hsl];omega) W (E4 (hA.below hW nZ) x y) (hK.below hW) (hF.below hW);rwa [hsl] at this
 have hol:∀ x y,x<y->y<=L.length->(fI (bg L x y)).length=32:=λx y hxy hy=>(Ux (by rw[Yn hy];omega)).len32 (λz hz=>h32 z (List.mem_of_mem_drop (List.mem_of_mem_take hz)));have hpr:Ys L m=(((Zt L.length m L.length 0 true).1.map (λs=>fI (bg L s.from_ s.to)))++(if (Zt L.length m L.length 0 true).2.1=true then [] else [fI (bg L (Zt L.length m L.length 0 true).2.2 m)])).reverse:=rfl;have A7:=UG L.length m L.length 0 true nZ;rw[hpr];generalize Zt L.length m L.length 0 true=r at*;obtain⟨ds,wh,fr⟩:=r;simp only at hst q1 q2 q3 hat A7 ⊢;obtain⟨N,hN⟩:=aA L.length;rw[<-hN] at hco hst hn hc h2 A7 q1 hov hol ⊢;replace hov:=Hd hov;replace hol:=Hd hol;replace hN:=Hd hN;replace hat:=Hd hat
 replace q1:=Hd q1;clear hcb hpr h32 hA hK hF hfw;go_enter Tryz.func74,Tryz.ntmps74;go_wp2_with fail;with_reducible refine hco.mono ?_
 clear hco;rintro e w1 ⟨rfl,rfl⟩;go_wp2_with fail;with_reducible refine hst.mono ?_
 clear hst;rintro e w2 ⟨vS,rfl,nX,hb2⟩;obtain⟨aS,cS,rfl,A8,hcS,-,hoS⟩:=H2 nX;obtain⟨D,hD⟩:=aA ds.length;rw[<-hD] at hcS A7 ⊢;have xW:PrL w2 w2 (.slice none 0 0) ds L 0:=⟨aH.nil _ _,Below.refl _ _⟩;have xX:=hb2.size;replace hb2:=Hd hb2;replace A8:=Hd A8;replace hD:=Hd hD;replace xW:=Hd xW;clear nX hoS;have kV:=Hd (show ∀ k:Nat,(λ_:Nat=>False) k->(λ_:Nat=>False) k from λ_ h=>h);have iS:(Tryz.prog.info? 166).map (·.size)=some 3:=kX;go_wp2_with fail;refine ZG [(false,8),(true,2),(false,1),(true,1),(false,15),(true,19),(false,13)] _ [] (λU wr=>∃ k:Nat,k<=D/\U 27=.int .i64 (k:Nat)/\U 9=.int .i64 (Az (ds.take k):Nat)/\PrL w2 wr (U 8) ds L k) (λU _=>D-(intOf (U 27)).toNat) ?_ ?_
 ·simp only[List.getD_cons_zero,List.getD_cons_succ];exact⟨0,Nat.zero_le _,rfl,rfl,xW.out⟩
 ·clear xW;intro U wr hrel KK hback l' hl';obtain⟨k,hk,xY,au,hP⟩:=hrel;simp only[ZQ,ZM,cond_true,cond_false,Nat.reduceAdd,xY,au] at hl';generalize yS:U 8=v at*;subst hl';replace xY:=Hd xY;replace au:=Hd au;replace yS:=Hd yS;have hbw:=hP.bel;have gW:=hbw.size;by_cases hlt:k<D
  ·have hlt2:(k:Int)<(D:Int):=aB;have hkD:k<ds.length:=by rw[<-hD.out];exact hlt
   obtain⟨bS,oS,rfl,hrs⟩:=(A8.out.below hbw nZ) k hkD;obtain⟨q4,q5⟩:=q1.out _ (List.getElem_mem hkD);have htk:ds.take (k+1)=ds.take k++[ds[k]]:=by rw[List.take_add_one,List.getElem?_eq_getElem hkD];rfl
   generalize ds[k]=S at*;obtain⟨sl,sf,st⟩:=S;simp only at q4 q5;have pX:=hol.out sf st q4 aB;have hov1:=Hd (λW hW=>hov.out sf st q4 aB W hW);obtain⟨XS,OH⟩:∃ XS,XS=(Stp.list ⟨sl,sf,st⟩).toArray:=⟨_,rfl⟩;have A9:XS.size=3:=by rw[OH];rfl
   have iX:(Tryz.prog.info? 166).map (·.size)=some XS.size:=by rw[A9];exact iS
   have yu:(Tryz.prog.info? 166).map (·.size)=some (Stp.list ⟨sl,sf,st⟩).length:=iS;have oX:XS.all (·.oneCell')=true:=by rw[OH];exact ZE (Stp.one _)
   have hZ:=Hd (heap_alloc_new wr (.cells #[.bool false,.int .i64 0,.int .i64 0] 166));have hr:=Hd hP.rows;have jD:=Hd (λb hb=>hP.rows.ownLt b hb);have hln:((ds.take k).map (λs=>fI (bg L s.from_ s.to))).length<=1000000:=by rw[List.length_map,List.length_take];omega
   have g1:(sf:Int)<=(st:Int):=aB;have g2:(st:Int)<=(c0:Int):=aB;have g3:¬c0=sf:=aB;have g4:(0:Int)<=(sf:Int):=aB;replace OH:=Hd OH;replace htk:=Hd htk;replace hrs:=Hd hrs;replace hbw:=Hd hbw;replace A9:=Hd A9;clear hP hkD;go_upto_region 9 with (first
    | ((with_reducible refine wL (.load 166 (.tmp 29)) ?_);refine Zx rfl 166 (.tmp 29) rfl bS (oS+k*3) rfl (Stp.list ⟨sl,sf,st⟩) _ hrs.out Tryz.underlying166 rfl yu XS OH ?_)
    | ((with_reducible refine wL (.store 166 (.tmp 11) _) ?_);(refine Zd rfl 166 (.tmp 11) (.tmp 30) rfl wr.heap.size _ XS rfl rfl hZ iX (by rw[A9.out];rfl) oX ?_);intro wb FT))
   have xZ:Below wr.heap.size wr wb:=(Below.alloc (Below.refl wr.heap.size wr) nZ _).trans (FT.out.below nZ);have hbx:=FT.out.here;rw[OH.out] at hbx;have s0:wb.cell? ⟨wr.heap.size,0,none⟩=some (.bool sl):=by rw[Za hbx];rfl
   have s1:wb.cell? ⟨wr.heap.size,1,none⟩=some (.int .i64 (sf:Int)):=by rw[Za hbx];rfl
   have s2:wb.cell? ⟨wr.heap.size,2,none⟩=some (.int .i64 (st:Int)):=by rw[Za hbx];rfl
   have nY:=hbw.out.trans (xZ.mono gW);have uf:=Hd (hov1.out wb (hb2.out.trans (nY.mono xX)));have hrb:=Hd (hr.out.below ZC xZ);replace nY:=Hd nY;replace hbx:=Hd hbx;clear hov1 xZ FT hr;go_wp2_with fail;with_reducible refine uf.out.mono ?_
   clear uf;rintro e w5 ⟨rfl,hb5⟩;have fM:=Hd (hrb.out.below ZC hb5);have bQ:=nY.out.trans (hb5.mono nY.out.size);have hsz5:w2.heap.size<=w5.heap.size:=bQ.size;have FU:=Hd ((hb5.block _ (Zb hbx.out)).trans hbx.out);have hxlt:wr.heap.size<w5.heap.size:=Zb FU.out;obtain⟨Y,hY⟩:=aA (fI (bg L sf st));rw[<-hY] at pX ⊢;obtain⟨E,hE⟩:∃ E,E=(cB Y).toArray:=⟨_,rfl⟩;have xV:E.size=32:=by rw[hE,List.size_toArray,Zc,pX]
   have ky:Hid (RD w5 (λ_=>False) Y E.toList):=Hd (by rw[hE];exact⟨pX,rfl⟩);rw[<-hE];have hsl:=Hd (λW=>Ym (P:=Tryz.prog) (t:=93) Tryz.underlying93 X4 dX dX E xV W);replace bQ:=Hd bQ;replace hE:=Hd hE;replace hY:=Hd hY;clear hb5 s0 s1 s2 xV hrb nY hbx;go_upto_region 10 with (first
    | ((with_reducible refine wL (.buildSlice _ _ _) ?_);refine QD rfl 93 1 [(0,.tmp 38)] rfl [(0,.agg E)] rfl _ _ (hsl.out _) ?_)
    | (at_builtin;refine Qa (P:=Tryz.prog) (R:=RD) (e:=47) (size:=32) (base:=w2.heap.size) (F:=λ_=>False) (F':=λ_=>False) rfl ZC (.tmp 31) (.tmp 39) 93 rfl Tryz.underlying93 32 X4 dX rfl fM Y E ky kV (Hd (λ_ _ h=>h)) (Hd (λ_ h=>h.elim)) rfl hln dX hsz5 ?_;intro v9 w9 iH gz qJ))
   have FV:∀ b,v.ownBlock=some b->b≠wr.heap.size:=λb hb e=>by
    have:=(jD.out b hb).2;omega
   have xe:=gz.out.heap FU.out (λe=>FV _ e rfl);have s0:w9.cell? ⟨wr.heap.size,0,none⟩=some (.bool sl):=by rw[Za xe];rfl
   have s2:w9.cell? ⟨wr.heap.size,2,none⟩=some (.int .i64 (st:Int)):=by rw[Za xe];rfl
   have jk:=Hd (bQ.out.trans (gz.out.below hsz5 (λk hk=>(fM.out.ownLt k hk).1)));have lC:=iH.out;rw[hY.out,show (ds.take k).map (λs=>fI (bg L s.from_ s.to))++[fI (bg L sf st)]=(ds.take (k+1)).map (λs=>fI (bg L s.from_ s.to)) by rw[htk.out,List.map_append];rfl] at lC;have fE:Az (ds.take (k+1))=if sl=true then st else Az (ds.take k):=by rw[htk.out,Bq]
   have fJ:=xY.out;replace lC:=Hd lC;replace xe:=Hd xe;clear iH gz qJ fM FU;cases sl with
   | true=>
    rw[if_pos rfl] at fE;replace fE:=Hd fE;replace fJ:=Hd fJ;go_wp2_with fail;refine hback.out _ _ kX ?_ ?_
    ·simp only[List.getD_cons_zero,List.getD_cons_succ];exact⟨k+1,aB,by congr 1,by rw[fE.out],lC.out,jk.out⟩
    ·simp only[List.getD_cons_zero,List.getD_cons_succ,fJ.out,intOf];omega
   | false=>
    rw[if_neg dX] at fE;replace fE:=Hd fE;replace fJ:=Hd fJ;go_wp2_with fail;refine hback.out _ _ kX ?_ ?_
    ·simp only[List.getD_cons_zero,List.getD_cons_succ];exact⟨k+1,aB,by congr 1,by rw[fE.out],lC.out,jk.out⟩
    ·simp only[List.getD_cons_zero,List.getD_cons_succ,fJ.out,intOf];omega
  ·have hlt2:¬((k:Int)<(D:Int)):=aB;have htk:ds.take k=ds:=List.take_of_length_le (by rw[<-hD.out];omega);have hr:=hP.rows;rw[htk] at hr;rw[htk,hat.out] at au;rw[htk,hat.out];have hln:(ds.map (λs=>fI (bg L s.from_ s.to))).length<=1000:=by rw[List.length_map,<-hD.out];omega
   have hbwW:=hb2.out.trans (hbw.mono xX);have hfin:∀ (W W':World) (v:Value) (ps:List (List UInt8)),Below w2.heap.size w2 W->aH RD 47 32 w2.heap.size W' (λ_=>False) v ps->Only (λk=>v.ownBlock=some k) W W'->aH RD 47 32 w1.heap.size W' (λ_=>False) v ps/\Below w1.heap.size w1 W':=λW W' v ps h1 h2 h3=>
    ⟨h2.mono xX,hb2.out.trans ((h1.trans (h3.below h1.size (λk hk=>(h2.ownLt k hk).1))).mono xX)⟩
   replace hfin:=Hd hfin;replace hbw:=Hd hbw;replace hr:=Hd hr;clear hP htk;cases wh with
   | true=>
    have AV:=Hd (RJ wr hr.out aB);obtain⟨av,cv,hv,-⟩:=hr.out.form;try simp only[if_true,List.append_nil]
    subst hv;generalize (ds.map (λs=>fI (bg L s.from_ s.to))).length=n1 at*;go_wp2_with fail;with_reducible refine AV.out.mono ?_
    rintro e w7 ⟨rfl,hr7,tN⟩;have hf:=Hd (hfin.out _ _ _ _ hbw.out hr7 tN);clear AV hr7 tN;go_wp2_with fail;go_ret2;exact⟨_,rfl,hf.out.1,hf.out.2⟩
   | false=>
    try simp only[Bool.false_eq_true,if_false]
    have q3':fr<m:=aB;have pX:=hol.out fr m q3' h2;have uf:=Hd (hov.out fr m q3' h2 wr hbwW);have g1:(fr:Int)<=(m:Int):=aB;have g2:(m:Int)<=(c0:Int):=aB;have g3:¬c0=fr:=aB;have g4:(0:Int)<=(fr:Int):=aB;go_wp2_with fail;with_reducible refine uf.out.mono ?_
    clear uf;rintro e w5 ⟨rfl,hb5⟩;have fM:=Hd (hr.out.below ZC hb5);have bQ:=hbw.out.trans (hb5.mono gW);have hsz5:w2.heap.size<=w5.heap.size:=bQ.size;obtain⟨Y,hY⟩:=aA (fI (bg L fr m));rw[<-hY] at pX ⊢;obtain⟨E,hE⟩:∃ E,E=(cB Y).toArray:=⟨_,rfl⟩;have xV:E.size=32:=by rw[hE,List.size_toArray,Zc,pX]
    have ky:Hid (RD w5 (λ_=>False) Y E.toList):=Hd (by rw[hE];exact⟨pX,rfl⟩);rw[<-hE];have hsl:=Hd (λW=>Ym (P:=Tryz.prog) (t:=93) Tryz.underlying93 X4 dX dX E xV W);have hln6:(ds.map (λs=>fI (bg L s.from_ s.to))).length<=1000000:=aB;replace bQ:=Hd bQ;replace hE:=Hd hE;replace hY:=Hd hY;clear hb5 xV;go_upto_region 15 with (first
     | ((with_reducible refine wL (.buildSlice _ _ _) ?_);refine QD rfl 93 1 [(0,.tmp 53)] rfl [(0,.agg E)] rfl _ _ (hsl.out _) ?_)
     | (at_builtin;refine Qa (P:=Tryz.prog) (R:=RD) (e:=47) (size:=32) (base:=w2.heap.size) (F:=λ_=>False) (F':=λ_=>False) rfl ZC (.tmp 48) (.tmp 54) 93 rfl Tryz.underlying93 32 X4 dX rfl fM Y E ky kV (Hd (λ_ _ h=>h)) (Hd (λ_ h=>h.elim)) rfl hln6 dX hsz5 ?_;intro v9 w9 iH gz qJ))
    have jk:=Hd (bQ.out.trans (gz.out.below hsz5 (λk hk=>(fM.out.ownLt k hk).1)));have AV:=Hd (RJ w9 iH.out (by rw[List.length_append,List.length_singleton];omega));obtain⟨av,cv,hv,-⟩:=iH.out.form;subst hv;clear iH gz qJ fM;generalize (ds.map (λs=>fI (bg L s.from_ s.to))++[Y]).length=n1 at*;go_wp2_with fail;with_reducible refine AV.out.mono ?_
    rintro e w7 ⟨rfl,hr7,tN⟩;have hf:=Hd (hfin.out _ _ _ _ jk.out hr7 tN);clear AV hr7 tN;go_wp2_with fail;go_ret2;exact⟨_,rfl,by have h:=hf.out.1;rw[hY.out,List.reverse_append] at h;exact h,hf.out.2⟩
open Go.RowKit Go.ChangeShapes Go.WideShapes Go.Deep
structure aY where
 kind:Int
 obj:Int
 way:Int
 id:Int
 verdict:Int
 tick:Int
 n:Int
 name:ByteArray
 p:P6
 t1:List UInt8
 t2:List UInt8
 kept:Int
 torn:Int
 scat:Nat
instance:Inhabited aY:=⟨⟨0,0,0,0,0,0,0,⟨#[]⟩,P6.zero,z32,z32,0,0,0⟩⟩
def aY.list(x:aY):List Value:=[.int .i64 x.kind,.int .i64 x.obj,.int .i64 x.way,.int .i64 x.id,.int .i64 x.verdict,.int .i64 x.tick,.int .i64 x.n,.string x.name]++(x.p.list++(cB x.t1++(cB x.t2++[.int .i64 x.kept,.int .i64 x.torn,.int .u64 (x.scat:Int)])))
structure aY.Ok (x:aY):Prop where
 kind:cO x.kind
 obj:cO x.obj
 way:cO x.way
 id:cO x.id
 verdict:cO x.verdict
 tick:cO x.tick
 n:cO x.n
 name:x.name.size<=maxLen
 p:x.p.Ok
 t1:x.t1.length=32
 t2:x.t2.length=32
 kept:cO x.kept
 torn:cO x.torn
 scat:x.scat<18446744073709551616
theorem aY.len{x:aY}(h1:x.t1.length=32)(h2:x.t2.length=32):x.list.length=81:=by
 simp[aY.list,P6.len,Zc,h1,h2]
theorem aY.c0(x:aY):x.list[0]? = some (.int .i64 x.kind):=rfl
theorem aY.c1(x:aY):x.list[1]? = some (.int .i64 x.obj):=rfl
theorem aY.c2(x:aY):x.list[2]? = some (.int .i64 x.way):=rfl
theorem aY.c3(x:aY):x.list[3]? = some (.int .i64 x.id):=rfl
theorem aY.c4(x:aY):x.list[4]? = some (.int .i64 x.verdict):=rfl
theorem aY.c5(x:aY):x.list[5]? = some (.int .i64 x.tick):=rfl
theorem aY.c7(x:aY):x.list[7]? = some (.string x.name):=rfl
theorem aY.sub_p(x:aY):(x.list.drop 8).take 6=x.p.list:=Ji rfl rfl
theorem aY.sub_1{x:aY}(h1:x.t1.length=32):(x.list.drop 14).take 32=cB x.t1:=by
 have e:x.list=([.int .i64 x.kind,.int .i64 x.obj,.int .i64 x.way,.int .i64 x.id,.int .i64 x.verdict,.int .i64 x.tick,.int .i64 x.n,.string x.name]++x.p.list)++(cB x.t1++(cB x.t2++[.int .i64 x.kept,.int .i64 x.torn,.int .u64 (x.scat:Int)])):=by simp[aY.list]
 rw[e];exact Ji rfl (by rw[Zc,h1])
theorem aY.sub_2{x:aY}(h1:x.t1.length=32)(h2:x.t2.length=32):(x.list.drop 46).take 32=cB x.t2:=by
 have e:x.list=([.int .i64 x.kind,.int .i64 x.obj,.int .i64 x.way,.int .i64 x.id,.int .i64 x.verdict,.int .i64 x.tick,.int .i64 x.n,.string x.name]++x.p.list++cB x.t1)++(cB x.t2++[.int .i64 x.kept,.int .i64 x.torn,.int .u64 (x.scat:Int)]):=by simp[aY.list]
 rw[e];exact Ji (by simp[P6.len,Zc,h1]) (by rw[Zc,h2])
section
variable {P:Program}
theorem NH{d:Nat}{t e e8:TypeId}{cs:List Value}{l:List Lit}(ht:P.underlying t=some (.array 2 e))(he:P.underlying e=some (.array 32 e8))(h8:P.underlying e8=some (.int .u8))(c8:P.cellsOf e8=1)(ce:P.cellsOf e=32)(ct:P.cellsOf t=64)(h:P.keyLits (d+2) t cs=some l):∃ a b:List UInt8,cs=cB a++cB b/\a.length=32/\b.length=32:=by
 obtain⟨hl,hi⟩:=US ht h;rw[ct] at hl;rw[ce] at hi;obtain⟨l0,h0⟩:=hi 0 dX;obtain⟨l1,h1⟩:=hi 1 dX;obtain⟨a,e0,k0⟩:=VI he h8 c8 ce h0;obtain⟨b,e1,k1⟩:=VI he h8 c8 ce h1;refine⟨a,b,?_,k0,k1⟩;have e:=ZS e0;rw[show 0*32=0 from rfl,List.drop_zero,show 0+32=1*32 from rfl,ZS e1,List.drop_of_length_le (i:=1*32+32) aB] at e;rw[e,List.append_nil]
theorem Yl{d:Nat}{t:TypeId}{k:IntKind}{cs:List Value}{l:List Lit}(ht:P.underlying t=some (.int k))(h:P.keyLits (d+1) t cs=some l):∃ n,cs=[.int k n]/\(Lit.int k n).wf=true:=by
 obtain⟨n,e1,e2⟩:=keyLits_int' ht h;refine⟨n,e1,?_⟩;rw[e1] at h;unfold Program.keyLits at h;simp only[ht] at h;split at h
 ·next hh=>exact hh.2
 ·cases h
theorem G6{d:Nat}{t i64 u64:TypeId}{f0 f1 f2:Field}{cs:List Value}{l:List Lit}(ht:P.underlying t=some (.struct #[f0,f1,f2]))(hq : [f0,f1,f2].map (λf=>(f.type,f.offset))=[(i64,0),(i64,1),(u64,2)])(hi:P.underlying i64=some (.int .i64))(hu:P.underlying u64=some (.int .u64))(ci:P.cellsOf i64=1)(cu:P.cellsOf u64=1)(ct:P.cellsOf t=3)
  (h:P.keyLits (d+2) t cs=some l):∃ (k t:Int) (s:Nat),cs=[.int .i64 k,.int .i64 t,.int .u64 (s:Int)]/\cO k/\cO t/\s<18446744073709551616:=by
 obtain⟨hl,hf⟩:=Jq ht h;rw[ct] at hl;simp only[List.map_cons,List.map_nil,List.cons.injEq,Prod.mk.injEq,and_true] at hq;obtain⟨⟨a0,b0⟩,⟨a1,b1⟩,⟨a2,b2⟩⟩:=hq;obtain⟨l0,h0⟩:=hf 0 f0 rfl;obtain⟨l1,h1⟩:=hf 1 f1 rfl;obtain⟨l2,h2⟩:=hf 2 f2 rfl;rw[a0,b0,ci] at h0;rw[a1,b1,ci] at h1;rw[a2,b2,cu] at h2;obtain⟨n0,e0,w0⟩:=Yl hi h0;obtain⟨n1,e1,w1⟩:=Yl hi h1;obtain⟨n2,e2,w2⟩:=Yl hu h2;obtain⟨s2,s3⟩:=Fi w2;refine⟨n0,n1,n2.toNat,?_,X8 w0,X8 w1,s3⟩;have e:=ZS e0;rw[List.drop_zero,ZS e1,ZS e2,List.drop_of_length_le (i:=2+1) aB] at e;rw[e,<-s2];rfl
theorem MI{d:Nat}{t ts tp tt tc i64:TypeId}{f0 f1 f2 f3 f4 f5 f6 f7 f8 f9 f10:Field}{cs:List Value}{l:List Lit}(ht:P.underlying t=some (.struct #[f0,f1,f2,f3,f4,f5,f6,f7,f8,f9,f10]))(hq : [f0,f1,f2,f3,f4,f5,f6,f7,f8,f9,f10].map (λf=>(f.type,f.offset))=[(i64,0),(i64,1),(i64,2),(i64,3),(i64,4),(i64,5),(i64,6),(ts,7),(tp,8),(tt,14),(tc,78)])
  (hi:P.underlying i64=some (.int .i64)) (hs:P.underlying ts=some .string) (hp:∀ cs l,P.keyLits (d+1) tp cs=some l->∃ p:P6,cs=p.list/\p.Ok) (hd:∀ cs l,P.keyLits (d+1) tt cs=some l->∃ a b:List UInt8,cs=cB a++cB b/\a.length=32/\b.length=32) (hc:∀ cs l,P.keyLits (d+1) tc cs=some l->∃ (k t:Int) (s:Nat),cs=[.int .i64 k,.int .i64 t,.int .u64 (s:Int)]/\cO k/\cO t/\s<18446744073709551616)
  (ci:P.cellsOf i64=1) (cns:P.cellsOf ts=1) (cp:P.cellsOf tp=6) (cd:P.cellsOf tt=64) (cc:P.cellsOf tc=3) (ct:P.cellsOf t=81) (h:P.keyLits (d+2) t cs=some l):∃ x:aY,cs=x.list/\x.Ok:=by
 obtain⟨hl,hf⟩:=Jq ht h;rw[ct] at hl;simp only[List.map_cons,List.map_nil,List.cons.injEq,Prod.mk.injEq,and_true] at hq;obtain⟨⟨a0,b0⟩,⟨a1,b1⟩,⟨a2,b2⟩,⟨a3,b3⟩,⟨a4,b4⟩,⟨a5,b5⟩,⟨a6,b6⟩,⟨a7,b7⟩,⟨a8,b8⟩,⟨a9,b9⟩,⟨wD,b10⟩⟩:=hq;obtain⟨l0,h0⟩:=hf 0 f0 rfl;obtain⟨l1,h1⟩:=hf 1 f1 rfl;obtain⟨l2,h2⟩:=hf 2 f2 rfl;obtain⟨l3,h3⟩:=hf 3 f3 rfl;obtain⟨l4,h4⟩:=hf 4 f4 rfl;obtain⟨l5,h5⟩:=hf 5 f5 rfl;obtain⟨l6,h6⟩:=hf 6 f6 rfl;obtain⟨l7,h7⟩:=hf 7 f7 rfl;obtain⟨l8,h8⟩:=hf 8 f8 rfl;obtain⟨l9,h9⟩:=hf 9 f9 rfl;obtain⟨l10,h10⟩:=hf 10 f10 rfl;rw[a0,b0,ci] at h0;rw[a1,b1,ci] at h1;rw[a2,b2,ci] at h2;rw[a3,b3,ci] at h3;rw[a4,b4,ci] at h4;rw[a5,b5,ci] at h5;rw[a6,b6,ci] at h6;rw[a7,b7,cns] at h7;rw[a8,b8,cp] at h8;rw[a9,b9,cd] at h9;rw[wD,b10,cc] at h10;obtain⟨n0,e0,w0⟩:=Yl hi h0;obtain⟨n1,e1,w1⟩:=Yl hi h1;obtain⟨n2,e2,w2⟩:=Yl hi h2;obtain⟨n3,e3,w3⟩:=Yl hi h3;obtain⟨n4,e4,w4⟩:=Yl hi h4;obtain⟨n5,e5,w5⟩:=Yl hi h5;obtain⟨n6,e6,w6⟩:=Yl hi h6;obtain⟨s,e7,_⟩:=keyLits_string' hs h7;obtain⟨p,e8,w8⟩:=hp _ _ h8;obtain⟨u1,u2,e9,w9,w9'⟩:=hd _ _ h9;obtain⟨k,tn,sc,e10,w10,w10',w10''⟩:=hc _ _ h10;have ws:s.size<=maxLen:=by
  rw[e7] at h7;unfold Program.keyLits at h7;simp only[hs] at h7;split at h7
  ·next hh=>exact hh
  ·cases h7
 refine⟨⟨n0,n1,n2,n3,n4,n5,n6,s,p,u1,u2,k,tn,sc⟩,?_,X8 w0,X8 w1,X8 w2,X8 w3,X8 w4,X8 w5,X8 w6,ws,w8,w9,w9',w10,w10',w10''⟩;have e:=ZS e0;rw[List.drop_zero,ZS e1,ZS e2,ZS e3,ZS e4,ZS e5,ZS e6,ZS e7,ZS e8,ZS e9,ZS e10,List.drop_of_length_le (i:=78+3) aB] at e;rw[e];simp[aY.list]
end
section
variable {H:Type} {enc:TypeId×Value->H} {w:World}
theorem PG{r:Reach}{b0:Nat}{v:Value}{d:DataW H}{p:List MemPlace}(hv:Value.okWide Tryz.prog w r b0 68 v)(h:DataW.Trod enc Tryz.prog w 0 (λ_=>true) true 68 v d p) :
  ∃ a c xs,v=.slice a (List.length xs) c/\aU aY.list 81 w a xs/\∀ x∈xs,x.Ok:=by
 obtain⟨a0,l0,c0,rfl⟩:=okWide_slice Tryz.underlying68 hv;obtain⟨fuel,hf⟩:=h;have hc1:Tryz.prog.cellsOf 68=1:=kX;obtain⟨a,c,xs,e0,hx,_,_,hok⟩:=Lk (en:=aY.list) (Ok:=aY.Ok) (size:=81) (t:=68) (o:=0) (cs:=[.slice a0 l0 c0]) Tryz.underlying68 hc1 kX dX (λx hx=>aY.len hx.t1 hx.t2) (λn cs' y hy=>by
  have hk:=(Go.keyLits_of_trod 6 80 kX _ _ _ hy).1;exact MI (d:=4) (i64:=3) (ts:=9) (tp:=45) (tt:=78) (tc:=71) Tryz.underlying80 rfl Tryz.underlying3 Tryz.underlying9 (λcs l hl=>N8 Tryz.underlying45 rfl Tryz.underlying3 kX kX hl) (λcs l hl=>NH Tryz.underlying78 Tryz.underlying46 Tryz.underlying5 kX kX kX hl) (λcs l hl=>G6 Tryz.underlying71 rfl Tryz.underlying3 Tryz.underlying69 kX kX kX hl) kX kX kX kX kX kX hk) hf
 refine⟨a,c,xs,?_,hx,hok⟩;simpa using e0
end
def XC(o i way ix t:Int):Rc:={ Rc.zero with kind:=2,obj:=o,id:=i,way:=way,index:=ix,tick:=t }
def Uy(o t:Int):Rc:={ Rc.zero with kind:=4,obj:=o,tick:=t }
def XW(o i v t:Int):Rc:={ Rc.zero with kind:=3,obj:=o,id:=i,verdict:=v,tick:=t }
def Fu(o:Int)(s:ByteArray)(q:P6)(r f:List UInt8)(t:Int):Rc:={ Rc.zero with kind:=1,obj:=o,name:=s,p:=q,root:=r,file:=f,tick:=t }
def YY(m:St)(x:aY):Option Rc:=
 if x.kind=0 then some (Fu (m.its.length:Int) x.name x.p x.t1 x.t2 x.tick)
 else if x.kind=1 then (if x.way≠1/\x.way≠2 then none else if x.obj<0\/(m.its.length:Int)<=x.obj then none else some (XC x.obj (m.ens.length:Int) x.way (Qo (m.its.getD x.obj.toNat default) x.way).1 x.tick))
 else if x.kind=4 then some (Uy x.obj x.tick)
 else if x.id<0\/(m.ens.length:Int)<=x.id then none else some (XW (m.ens.getD x.id.toNat default).o x.id x.verdict x.tick)
theorem JJ{base:Nat}{w:World}{l:Nat}{V:LV}{P:LP}(h:d9 base w l V P)(hn:P.recs.length<=100000):Calls Tryz.prog 25 #[.pointer (some ⟨l,0,none⟩)] w (HL w P.recs):=by
 have c0:w.cell? ⟨l,0,none⟩=some (.pointer (some ⟨V.J,0,none⟩)):=by rw[Za h.at_];rfl
 have hr:=Hd (Uh h.jd.jm hn);clear h hn;go_enter Tryz.func25,Tryz.ntmps25;go_wp2_with fail;with_reducible refine hr.out.mono ?_
 clear hr;rintro x w3 ⟨v3,F3,rfl,hrow,hF3,hb3⟩;replace hrow:=Hd hrow;replace hF3:=Hd hF3;replace hb3:=Hd hb3;go_wp2_with fail;go_ret;exact⟨_,F3,rfl,hrow.out,hF3.out,hb3.out⟩
theorem Lp(a0:Option Addr)(n c0 m:Nat)(hm:n<m)(w:World)(ea:Nat->Addr)(H:aQ 298 aK w ea) :
  Calls Tryz.prog 74 #[.slice a0 n c0,.int .i64 (m:Int)] w λe w'=>e=.returned (.tuple #[.slice none 0 0,.iface 298 (.pointer (some (ea 0)))])/\Below w.heap.size w w':=by
 have hcb:Xl m n=false:=by unfold Xl;simp;omega
 have hco:=Uf m n w;rw[hcb] at hco;have hge:=(Qt H).1;have hbr:=Hd (Below.refl w.heap.size w);clear H hcb;go_enter Tryz.func74,Tryz.ntmps74;go_wp2_with fail;with_reducible refine hco.mono ?_
 clear hco;rintro e w1 ⟨rfl,rfl⟩;go_wp2_with fail;go_quiet (fail);go_wp2_with fail;go_ret2;exact⟨rfl,below_drewN hbr.out _⟩
section
variable {base:Nat} {w:World} {l:Nat} {V:LV} {P:LP}
theorem Dh(h:d9 base w l V P)(m:Nat)(h1:1<=m)(h2:m<=P.recs.length)(hn:P.recs.length<=256)(hS:∀ W,Below w.heap.size w W->bP W/\bZ W) :
  Calls Tryz.prog 33 #[.pointer (some ⟨l,0,none⟩),.int .i64 (m:Int)] w (DA w (Ys (P.recs.map Zr) m)):=by
 have hok:∀ r∈P.recs,r.length<=1000:=λr hr=>by have:=(h.jd.jm.okR r hr).2;omega
 have hre:=JJ h aB;have h32:∀ x∈P.recs.map Zr,x.length=32:=λx hx=>by obtain⟨y,_,rfl⟩:=List.mem_map.1 hx;exact Zy _
 replace hre:=Hd hre;go_enter Tryz.func33,Tryz.ntmps33;go_wp2_with fail;with_reducible refine hre.out.mono ?_
 clear hre;rintro e w1 ⟨vR,FR,rfl,yw,hFR,hb1⟩;obtain⟨aR,cR,rfl,yx⟩:=yw.argBB;obtain⟨k1,f1⟩:=hS w1 hb1;have hlv:=Hd (KJ aR cR P.recs w1 yx hok aB k1 f1);clear yw hFR yx k1 f1;generalize hn1:P.recs.length=n1 at*;go_wp2_with fail;with_reducible refine hlv.out.mono ?_
 clear hlv;rintro e w2 ⟨vL,rfl,hrL,hb2⟩;obtain⟨aL,cL,rfl,hRL,hcL,hcm,hnil,-⟩:=J1 hrL;have hB2:=hb1.trans (hb2.mono hb1.size);obtain⟨g,o,rfl,-⟩:=hRL 0 (by rw[List.length_map];omega);obtain⟨k2,f2⟩:=hS w2 hB2;have hpr:=L7 g o cL (P.recs.map Zr) m h1 (by rw[List.length_map];omega) (by rw[List.length_map];omega) hcL hcm h32 w2 hRL k2 f2;replace hpr:=Hd hpr;clear hrL hRL k2 f2 h hS hok h32 hnil;generalize (P.recs.map Zr).length=n2 at*;go_wp2_with fail;with_reducible refine hpr.out.mono ?_
 clear hpr;rintro e w3 ⟨v,rfl,hr3,hb3⟩;have hr4:=Hd (hr3.mono hB2.size);have hB3:=Hd (hB2.trans (hb3.mono hB2.size));clear hr3 hb3;go_wp2_with fail;go_ret2;exact⟨_,rfl,hr4.out,hB3.out⟩
theorem Pt(h:d9 base w l V P)(m:Nat)(h2:P.recs.length<m)(hn:P.recs.length<=256)(hS:∀ W,Below w.heap.size w W->bP W/\bZ W)(ea:Nat->Addr)(H:∀ W,Below w.heap.size w W->aQ 298 aK W ea) :
  Calls Tryz.prog 33 #[.pointer (some ⟨l,0,none⟩),.int .i64 (m:Int)] w λe w'=>e=.returned (.tuple #[.slice none 0 0,.iface 298 (.pointer (some (ea 0)))])/\Below w.heap.size w w':=by
 have hok:∀ r∈P.recs,r.length<=1000:=λr hr=>by have:=(h.jd.jm.okR r hr).2;omega
 have hre:=JJ h aB;replace hre:=Hd hre;replace H:=Hd H;go_enter Tryz.func33,Tryz.ntmps33;go_wp2_with fail;with_reducible refine hre.out.mono ?_
 clear hre;rintro e w1 ⟨vR,FR,rfl,yw,hFR,hb1⟩;obtain⟨aR,cR,rfl,yx⟩:=yw.argBB;obtain⟨k1,f1⟩:=hS w1 hb1;have hlv:=Hd (KJ aR cR P.recs w1 yx hok aB k1 f1);clear yw hFR yx k1 f1;have oD:(P.recs.map Zr).length=P.recs.length:=List.length_map ..;generalize hn1:P.recs.length=n1 at*;go_wp2_with fail;with_reducible refine hlv.out.mono ?_
 clear hlv;rintro e w2 ⟨vL,rfl,hrL,hb2⟩;obtain⟨aL,cL,rfl,-⟩:=hrL.form;have hB2:=hb1.trans (hb2.mono hb1.size);have hpr:=Lp aL n1 cL m h2 w2 ea (H.out w2 hB2);replace hpr:=Hd hpr;clear hrL h hS hok;go_wp2_with fail;with_reducible refine hpr.out.mono ?_
 clear hpr;rintro e w3 ⟨rfl,hb3⟩;have hB3:=Hd (hB2.trans (hb3.mono hB2.size));clear hb3;go_wp2_with fail;go_ret2;exact⟨rfl,hB3.out⟩
end
end Go.Proofs.YtpdhceiodgnbmaaGreatDoor
