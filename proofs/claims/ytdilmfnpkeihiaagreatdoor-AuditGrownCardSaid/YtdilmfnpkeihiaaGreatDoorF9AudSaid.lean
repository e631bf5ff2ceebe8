import Derived.Test.YtdilmfnpkeihiaaGreatDoorF0AudSaid
import Derived.Test.YtdilmfnpkeihiaaGreatDoorF2AudSaid
import Derived.Test.YtdilmfnpkeihiaaGreatDoorF7AudSaid
import Derived.Test.YtdilmfnpkeihiaaGreatDoorF8AudSaid
import Derived.Test.YtdilmfnpkeihiaaGreatDoorF6AudSaid
set_option linter.unusedVariables false
set_option linter.unusedSimpArgs false
set_option linter.unnecessarySimpa false
set_option maxRecDepth 100000
set_option maxHeartbeats 8000000
namespace Go.Proofs.YtdilmfnpkeihiaaGreatDoor
open Go.RowKit
theorem YT{w:World}{b:Nat}{C:Array Value}{t:TypeId}{fz:Nat×Nat}(hb:w.heap[b]? = some (.cells C t fz)){o n:Nat}{B:List Value}(h:(C.toList.drop o).take n=B):w.rangeAt b o B:=λj v hv=>by
 rw[Za hb]
 rw[<-h,List.getElem?_take] at hv
 split at hv
 ·rw[List.getElem?_drop,Array.getElem?_toList] at hv
  exact hv
 ·cases hv
def nmV(x:Nm):List Value:=[.string x.s,.agg x.p.list.toArray,.agg (cB x.f).toArray,.bool x.k]
theorem KO(x:Nm):(nmV x).flatMap (·.cells.toList)=x.list:=by simp[nmV,Value.cells,Nm.list]
theorem UK(x:Nm)(hx:x.f.length=32)(W:World):(Instr.build 46 #[(0,.string x.s),(1,.agg x.p.list.toArray),(2,.agg (cB x.f).toArray),(3,.bool x.k)]).run Tryz.prog W=.ok (.agg x.list.toArray) W:=by
 refine run_build W _ _ _ ?_
 rw[<-KO]
 exact J7 (P:=Tryz.prog) (t:=46) (n:=40) (places:=[(0,1),(1,6),(7,32),(39,1)]) kX Tryz.underlying46 kX (nmV x) (by simp[Xu,nmV,Value.cells,P6.list_length,Zc,hx]) (by simp[nmV,Value.cells,P6.list_length,Zc,hx])
theorem V1:(Tryz.prog.info? 46).map (λi=>(i.zero.map (·.cells.size),i.size,i.bytes))=some (some 40,40,104):=kX
theorem V2:(Tryz.prog.info? 47).map (λi=>(i.zero.map (·.cells.size),i.size,i.bytes))=some (some 3,3,24):=kX
structure OfSt (eN eV T:TypeId) (b:Nat) (w wr:World) (v v':Value) (xs:List Nm) (ys:List Vd):Prop where
 at_:wr.heap[b]? = some (.cells #[v,v'] T (0,0))
 rn:RowsOf RN eN 40 w.heap.size wr (λ_=>False) v xs
 rv:RowsOf RV eV 3 w.heap.size wr (λ_=>False) v' ys
 ap:∀ k,v.ownBlock=some k->v'.ownBlock≠some k
 only:Only (λk=>k=b) w wr
 lt:b<w.heap.size
theorem OfSt.grow{eN eV T:TypeId}{b:Nat}{w wr w1:World}{v v':Value}{xs:List Nm}{ys:List Vd}(h:OfSt eN eV T b w wr v v' xs ys)(hb:Below wr.heap.size wr w1):OfSt eN eV T b w w1 v v' xs ys:=
 ⟨(hb.block _ (Zb h.at_)).trans h.at_,h.rn.below QB hb,h.rv.below Yh hb,h.ap,h.only.trans (Only.ofBelow (D:=λk=>k=b) hb) (λ_ _ e=>e),h.lt⟩
theorem OfSt.appN{eN eV T:TypeId}{b:Nat}{w wr w1 w2:World}{v v' v1:Value}{xs:List Nm}{ys:List Vd}{x:Nm}(h:OfSt eN eV T b w wr v v' xs ys)(hr:RowsOf RN eN 40 w.heap.size w1 (λ_=>False) v1 (xs++[x]))(hO:Only (λk=>v.ownBlock=some k) wr w1)(hM:YL wr v v1)(hU:Upd b (.cells #[v1,v'] T (0,0)) w1 w2):OfSt eN eV T b w w2 v1 v' (xs++[x]) ys:=by
 have hl:=h.lt
 have hO2:Only (λk=>k=b) w1 w2:=Only.ofUpd hU rfl
 have hs:=h.only.size
 refine⟨hU.here,hr.only QB hO2 (λk hk=>hk.elim) (λk hk e=>by have:=(hr.ownLt k hk).1;omega),(h.rv.only Yh hO (λk hk=>hk.elim) (λk hk e=>h.ap k e hk)).only Yh hO2 (λk hk=>hk.elim) (λk hk e=>by have:=(h.rv.ownLt k hk).1;omega),λk hk hk2=>?_,(h.only.trans hO (λk hk e=>by have:=(h.rn.ownLt k e).1;omega)).trans hO2 (λ_ _ e=>e),hl⟩
 rcases hM k hk with h1|h1
 ·exact h.ap k h1 hk2
 ·have:=(h.rv.ownLt k hk2).2;omega
theorem OfSt.appV{eN eV T:TypeId}{b:Nat}{w wr w1 w2:World}{v v' v1:Value}{xs:List Nm}{ys:List Vd}{x:Vd}(h:OfSt eN eV T b w wr v v' xs ys)(hr:RowsOf RV eV 3 w.heap.size w1 (λ_=>False) v1 (ys++[x]))(hO:Only (λk=>v'.ownBlock=some k) wr w1)(hM:YL wr v' v1)(hU:Upd b (.cells #[v,v1] T (0,0)) w1 w2):OfSt eN eV T b w w2 v v1 xs (ys++[x]):=by
 have hl:=h.lt
 have hO2:Only (λk=>k=b) w1 w2:=Only.ofUpd hU rfl
 have hs:=h.only.size
 refine⟨hU.here,(h.rn.only QB hO (λk hk=>hk.elim) (λk hk e=>h.ap k hk e)).only QB hO2 (λk hk=>hk.elim) (λk hk e=>by have:=(h.rn.ownLt k hk).1;omega),hr.only Yh hO2 (λk hk=>hk.elim) (λk hk e=>by have:=(hr.ownLt k hk).1;omega),λk hk hk2=>?_,(h.only.trans hO (λk hk e=>by have:=(h.rv.ownLt k e).1;omega)).trans hO2 (λ_ _ e=>e),hl⟩
 rcases hM k hk2 with h1|h1
 ·exact h.ap k hk h1
 ·have:=(h.rn.ownLt k hk).2;omega
def Gk(w:World)(m:Md)(x:Ending)(w':World):Prop:=
 ∃ v v',x=.returned (.agg #[v,v'])/\RowsOf RN 46 40 w.heap.size w' (λ_=>False) v m.ns/\RowsOf RV 47 3 w.heap.size w' (λ_=>False) v' m.vs/\Below w.heap.size w w'
theorem Jw(va:Value)(m:Md)(w:World)(ha:ArgM w va m)(l1:m.ns.length<=1000)(l2:m.vs.length<=1000) :
  Calls Tryz.prog 7 #[va] w (Gk w m):=by
 obtain⟨⟨an,cn,av,cv,rfl,hN,hN1,hN2,hV,hV1,hV2⟩,okN,okV⟩:=ha
 have zr:=V4
 have zn:=UG
 have huN:Tryz.prog.underlying 41=_:=Tryz.underlying41
 have huP:Tryz.prog.underlying 37=_:=Tryz.underlying37
 have huD:Tryz.prog.underlying 39=_:=Tryz.underlying39
 have hinfoN:=Hd V1
 have hinfoV:=Hd V2
 obtain⟨N,hNl⟩:∃ N,N=m.ns.length:=⟨_,rfl⟩
 obtain⟨V,hVl⟩:∃ V,V=m.vs.length:=⟨_,rfl⟩
 rw[<-hNl,<-hVl]
 rw[<-hNl] at l1
 rw[<-hVl] at l2
 clear hN1 hN2 hV1 hV2
 have hB:Below w.heap.size w ((((w.alloc (.cells #[.slice an N cn,.slice av V cv] 25)).alloc (.cells #[.slice none 0 0,.slice none 0 0] 31))).alloc (.cells #[.slice none 0 0,.slice none 0 0] 31)):=((bR.alloc nR _).alloc sX _).alloc sY _
 obtain⟨w2,hw2⟩:∃ w2,w2=(((w.alloc (.cells #[.slice an N cn,.slice av V cv] 25)).alloc (.cells #[.slice none 0 0,.slice none 0 0] 31))).alloc (.cells #[.slice none 0 0,.slice none 0 0] 31):=⟨_,rfl⟩
 have e10:w2.cell? ⟨w.heap.size,0,none⟩=some (.slice an N cn):=by rw[hw2];exact Z1 (Z1 (Za (heap_alloc_new w _) 0) _) _
 have e11:w2.cell? ⟨w.heap.size,1,none⟩=some (.slice av V cv):=by rw[hw2];exact Z1 (Z1 (Za (heap_alloc_new w _) 1) _) _
 have hsz2:w2.heap.size=w.heap.size+3:=by rw[hw2];simp
 have a2:w2.heap[w.heap.size+1]? = some (.cells #[.slice none 0 0,.slice none 0 0] 31 (0,0)):=by
  have h1:=heap_alloc_new (w.alloc (.cells #[.slice an N cn,.slice av V cv] 25)) (.cells #[.slice none 0 0,.slice none 0 0] 31 (0,0))
  rw[World.size_alloc] at h1
  rw[hw2]
  exact((bR.alloc nR _).block _ (Zb h1)).trans h1
 have a3:w2.heap[w.heap.size+2]? = some (.cells #[.slice none 0 0,.slice none 0 0] 31 (0,0)):=by
  have h1:=heap_alloc_new ((w.alloc (.cells #[.slice an N cn,.slice av V cv] 25)).alloc (.cells #[.slice none 0 0,.slice none 0 0] 31)) (.cells #[.slice none 0 0,.slice none 0 0] 31 (0,0))
  rw[World.size_alloc,World.size_alloc] at h1
  rw[hw2]
  exact h1
 rw[<-hw2] at hB
 have hst0:OfSt 46 47 31 (w.heap.size+2) w2 w2 (.slice none 0 0) (.slice none 0 0) [] []:=
  ⟨a3,RowsOf.nil _ _,RowsOf.nil _ _,(λk e=>by cases e),Only.refl _ _,oX⟩
 have hNw:=Hd hN
 have hVw:=Hd hV
 clear hN hV
 obtain⟨n0,hn0⟩:∃ n0,n0=w.heap.size:=⟨_,rfl⟩
 replace hw2:=Hd hw2
 replace okN:=Hd okN
 replace okV:=Hd okV
 replace hNl:=Hd hNl
 replace hVl:=Hd hVl
 replace hst0:=Hd hst0
 replace a2:=Hd a2
 replace hB:=Hd hB
 clear a3
 go_enter Tryz.func7,Tryz.ntmps7
 go_wp2_with fail
 rw[<-hw2.out]
 rw[<-hn0] at e10 e11 a2 hst0 hsz2 ⊢
 replace hn0:=Hd hn0
 clear hw2
 have hbw:∀ wr,Only (λk=>k=n0+2) w2 wr->(∀ x,x.block<w2.heap.size->x.block≠n0+2->wr.cell? x=w2.cell? x)/\Below n0 w2 wr:=λwr hO=>⟨λx hx hne=>World.cell?_of_block (a:=x) (hO.block _ hx hne),hO.below oX (λk e=>by omega)⟩
 replace hbw:=Hd hbw
 refine ZA [(false,5),(true,1),(false,6),(true,19),(false,15)] _ [] (λU wr=>∃ k:Nat,k<=N/\U 12=.int .i64 (k:Nat)/\∃ v,OfSt 46 47 31 (n0+2) w2 wr v (.slice none 0 0) (m.ns.take k) []) (λU _=>N-(intOf (U 12)).toNat) ?_ ?_
 ·simp only[List.getD_cons_zero,List.getD_cons_succ]
  exact⟨0,Nat.zero_le _,rfl,_,hst0.out⟩
 ·clear hst0
  intro U wr hrel KK hback l' hl'
  obtain⟨k,hk,h12,v,hst⟩:=hrel
  simp only[ZD,Z6,cond_true,cond_false,Nat.reduceAdd,h12] at hl'
  subst hl'
  replace h12:=Hd h12
  by_cases hlt:k<N
  ·have hlt2:(k:Int)<(N:Int):=oX
   have hkN:k<m.ns.length:=by rw[<-hNl.out];exact hlt
   have hrr:RowAt Nm.list 40 wr an m.ns:=λj hj=>by
    obtain⟨b,o,e,h⟩:=hNw.out j hj
    exact⟨b,o,e,Zl h (B:=n0) ((show Below n0 w w2 by rw[hn0.out];exact hB.out).trans (hbw.out wr hst.only).2) (by rw[hn0.out];exact Nat.le_refl _)⟩
   obtain⟨b1,o1,rfl,hr1⟩:=hrr k hkN
   have ox:=okN.out _ (List.getElem_mem hkN)
   have htk:m.ns.take (k+1)=m.ns.take k++[m.ns[k]]:=List.take_succ_eq_append_getElem hkN
   generalize m.ns[k]=x at*
   obtain⟨X,hX⟩:∃ X,X=x.list.toArray:=⟨_,rfl⟩
   have hXs:X.size=40:=by rw[hX,Nm.size ox.f]
   have hX1:X.all (·.oneCell')=true:=by rw[hX];exact x.all_one
   have iX:(Tryz.prog.info? 41).map (·.size)=some X.size:=by rw[hXs];exact QR
   have ix:(Tryz.prog.info? 41).map (·.size)=some x.list.length:=by rw[Nm.list_length ox.f];exact QR
   have iP:(Tryz.prog.info? 37).map (·.size)=some x.p.list.length:=kX
   have iD:(Tryz.prog.info? 39).map (·.size)=some (cB x.f).length:=by rw[Zc,ox.f];kernel_rfl
   have zX:zNm.size=X.size:=by rw[hXs];exact Yn
   have hbd:=λW=>UK x ox.f W
   obtain⟨S,hS⟩:∃ S,S=x.s:=⟨_,rfl⟩
   obtain⟨B,hBk⟩:∃ B,B=x.k:=⟨_,rfl⟩
   obtain⟨PP,hPP⟩:∃ PP,PP=x.p.list.toArray:=⟨_,rfl⟩
   obtain⟨DD,hDD⟩:∃ DD,DD=(cB x.f).toArray:=⟨_,rfl⟩
   rw[<-hS,<-hBk,<-hPP,<-hDD,<-hX] at hbd
   have hsl:=λW=>XQ (P:=Tryz.prog) (t:=28) Tryz.underlying28 V1 dX dX X hXs W
   have hX0:X[0]? = some (.string S):=by rw[hX,hS];rfl
   have hX39:X[39]? = some (.bool B):=by rw[hX,hBk];simpa using Nm.c39 ox.f
   have hXP:(X.toList.drop 1).take 6=x.p.list:=by rw[hX];exact x.sub_p
   have hXD:(X.toList.drop 7).take 32=cB x.f:=by rw[hX];exact Nm.sub_f ox.f
   have hXL:X.toList=x.list:=by rw[hX]
   have hz1:Hid ((wr.alloc (.cells zNm 41)).heap[wr.heap.size]? = some (.cells zNm 41 (0,0))):=heap_alloc_new wr (.cells zNm 41 (0,0))
   have hln:(m.ns.take k).length<=1000000:=by rw[List.length_take];omega
   have hswr:=hst.only.size
   replace hst:=Hd hst
   replace htk:=Hd htk
   replace hX:=Hd hX
   replace hS:=Hd hS
   replace hBk:=Hd hBk
   replace hPP:=Hd hPP
   replace hDD:=Hd hDD
   replace hX0:=Hd hX0
   replace hX39:=Hd hX39
   replace hXP:=Hd hXP
   replace hXD:=Hd hXD
   replace hXL:=Hd hXL
   replace hr1:=Hd hr1
   replace hbd:=Hd hbd
   replace hsl:=Hd hsl
   replace hln:=Hd hln
   replace ox:=Hd ox
   go_wp2_with (first
    | (refine wpList_load_mid rfl 41 (.tmp 14) rfl b1 (o1+k*40) rfl x.list _ hr1.out huN rfl ix ?_;rw[<-hX.out])
    | (refine Zd rfl 41 (.tmp 5) (.tmp 15) rfl wr.heap.size zNm X rfl rfl hz1 iX zX hX1 ?_;intro w3 hU3;have hb3:=Hd (((Below.refl wr.heap.size wr).alloc nR _).trans (hU3.out.below nR));have hst3:=Hd (hst.out.grow hb3.out);have c30:=Za hst3.out.at_ 0;have k0:=(Za hU3.out.here 0).trans hX0.out;have k39:=(Za hU3.out.here 39).trans hX39.out;have rP:=Hd (YT hU3.out.here hXP.out);have rD:=Hd (YT hU3.out.here hXD.out);have hrow:=Hd hst3.out.rn;have hyN:=Hd (show RN w3 (λ_=>False) x X.toList from⟨hXL.out,ox.out⟩);have hF0:=Hd (show ∀ k:Nat,(λ_:Nat=>False) k->(λ_:Nat=>False) k from λ_ h=>h);have hA0:=Hd (show ∀ k,v.ownBlock=some k->¬(λ_:Nat=>False) k from λ_ _ h=>h);have hL0:=Hd (show ∀ k,(λ_:Nat=>False) k->k<w3.heap.size from λ_ h=>h.elim);have hbs3:w2.heap.size<=w3.heap.size:=(by have:=hb3.out.size;omega))
    | (refine wpList_load_mid rfl 37 (.tmp 20) rfl wr.heap.size 1 rfl x.p.list _ rP.out huP rfl iP ?_;rw[<-hPP.out])
    | (refine wpList_load_mid rfl 39 (.tmp 22) rfl wr.heap.size 7 rfl (cB x.f) _ rD.out huD rfl iD ?_;rw[<-hDD.out])
    | (refine Jn rfl 46 [(0,.tmp 19),(1,.tmp 21),(2,.tmp 23),(3,.tmp 25)] rfl [(0,.string S),(1,.agg PP),(2,.agg DD),(3,.bool B)] rfl _ (hbd.out _) ?_)
    | (refine Yw rfl 28 1 [(0,.tmp 26)] rfl [(0,.agg X)] rfl _ _ (hsl.out _) ?_)
    | (at_builtin;refine ZP (P:=Tryz.prog) (R:=RN) (e:=46) (size:=40) (base:=w2.heap.size) (F:=λ_=>False) (F':=λ_=>False) rfl QB (.tmp 17) (.tmp 27) 28 rfl Tryz.underlying28 104 hinfoN.out dX rfl hrow x X hyN hF0 hA0 hL0 rfl hln.out dX hbs3 ?_;intro v5 w5 hr5 hO5 hM5;obtain⟨a5,n5,c5,hv5⟩:∃ a n c,v5=.slice a n c:=(by obtain⟨a,c,e,_⟩:=hr5.out.form;exact⟨a,_,c,e⟩);subst hv5;have h5:=hO5.out.heap hst3.out.at_ (λe=>by have:=(hst3.out.rn.ownLt _ e).1;omega);have c35:=Za h5 0;have f35:=Zg h5 0;have hU6:=Hd ((Upd.refl h5).setCell (j:=0) (.slice a5 n5 c5));have hst6:=Hd (hst3.out.appN hr5.out hO5.out hM5.out hU6.out);replace h5:=Hd h5))
   refine hback.out _ _ kX ?_ ?_
   ·simp only[List.getD_cons_zero,List.getD_cons_succ]
    exact⟨k+1,oX,by go_num,.slice a5 n5 c5,by rw[htk.out];exact hst6.out⟩
   ·have h12:=h12.out
    simp only[List.getD_cons_zero,List.getD_cons_succ,h12,intOf]
    omega
  ·obtain rfl:k=N:=oX
   rw[show m.ns.take k=m.ns by rw[hNl.out];exact List.take_length] at hst
   have hrr:RowAt Vd.list 3 wr av m.vs:=λj hj=>by
    obtain⟨b,o,e,h⟩:=hVw.out j hj
    exact⟨b,o,e,Zl h (B:=n0) ((show Below n0 w w2 by rw[hn0.out];exact hB.out).trans (hbw.out wr hst.only).2) (by rw[hn0.out];exact Nat.le_refl _)⟩
   have e11r:=((hbw.out wr hst.only).1 ⟨n0,1,none⟩ (World.block_lt_of_cell? w2 _ e11) sX).trans e11
   have a2r:=(hst.only.block _ (Zb a2.out) oX).trans a2.out
   have hswr:=hst.only.size
   replace hst:=Hd hst
   replace a2r:=Hd a2r
   go_wp2_with fail
   refine ZA [(false,7),(true,1),(false,26),(true,11),(false,1)] _ [] (λU2 w5=>∃ j:Nat,j<=V/\U2 34=.int .i64 (j:Nat)/\∃ v',OfSt 46 47 31 (n0+2) w2 w5 v v' m.ns (m.vs.take j)) (λU2 _=>V-(intOf (U2 34)).toNat) ?_ ?_
   ·simp only[List.getD_cons_zero,List.getD_cons_succ]
    exact⟨0,Nat.zero_le _,rfl,_,hst.out⟩
   ·clear hrr hst hback a2r e11r
    intro U2 w5 hrel KK2 hback2 l2 hl2
    obtain⟨j,hj,h34,v',hst⟩:=hrel
    simp only[ZD,Z6,cond_true,cond_false,Nat.reduceAdd,h34] at hl2
    subst hl2
    replace h34:=Hd h34
    by_cases hlt2:j<V
    ·have hlt3:(j:Int)<(V:Int):=oX
     have hkV:j<m.vs.length:=by rw[<-hVl.out];exact hlt2
     have hrr:RowAt Vd.list 3 w5 av m.vs:=λj hj=>by
      obtain⟨b,o,e,h⟩:=hVw.out j hj
      exact⟨b,o,e,Zl h (B:=n0) ((show Below n0 w w2 by rw[hn0.out];exact hB.out).trans (hbw.out w5 hst.only).2) (by rw[hn0.out];exact Nat.le_refl _)⟩
     obtain⟨b1,o1,rfl,hr1⟩:=hrr j hkV
     have ox:=okV.out _ (List.getElem_mem hkV)
     have htk:m.vs.take (j+1)=m.vs.take j++[m.vs[j]]:=List.take_succ_eq_append_getElem hkV
     generalize m.vs[j]=x at*
     obtain⟨xo,xw,xv⟩:=x
     have d0:=hr1 0 _ rfl
     have d1:=hr1 1 _ rfl
     have d2:=hr1 2 _ rfl
     simp only[Nat.add_zero] at d0 d1 d2
     have hln:(m.vs.take j).length<=1000000:=by rw[List.length_take];omega
     have hsw5:=hst.only.size
     have hsl:=λW=>XQ (P:=Tryz.prog) (t:=29) Tryz.underlying29 V2 dX dX #[.int .i64 xo,.int .i64 xw,.int .i64 xv] rfl W
     have hb6:Below w5.heap.size w5 (w5.alloc (.cells #[.int .i64 xo,.int .i64 xw,.int .i64 xv] 43)):=bR.alloc nR _
     have hst6:=hst.grow hb6
     have hn6:=heap_alloc_new w5 (.cells #[.int .i64 xo,.int .i64 xw,.int .i64 xv] 43 (0,0))
     have hs6:=hb6.size
     have hbs6:w2.heap.size<=(w5.alloc (.cells #[.int .i64 xo,.int .i64 xw,.int .i64 xv] 43)).heap.size:=oX
     have hrow:=Hd hst6.rv
     have hyN:=Hd (show RV (w5.alloc (.cells #[.int .i64 xo,.int .i64 xw,.int .i64 xv] 43)) (λ_=>False) ⟨xo,xw,xv⟩ (#[.int .i64 xo,.int .i64 xw,.int .i64 xv]:Array Value).toList from⟨rfl,ox⟩)
     have hF0:=Hd (show ∀ k:Nat,(λ_:Nat=>False) k->(λ_:Nat=>False) k from λ_ h=>h)
     have hA0:=Hd (show ∀ k,v'.ownBlock=some k->¬(λ_:Nat=>False) k from λ_ _ h=>h)
     have hL0:=Hd (show ∀ k,(λ_:Nat=>False) k->k<(w5.alloc (.cells #[.int .i64 xo,.int .i64 xw,.int .i64 xv] 43)).heap.size from λ_ h=>h.elim)
     have c30:=Za hst6.at_ 1
     replace hst6:=Hd hst6
     replace hst:=Hd hst
     replace htk:=Hd htk
     replace hln:=Hd hln
     replace hsl:=Hd hsl
     replace ox:=Hd ox
     replace hn6:=Hd hn6
     replace hb6:=Hd hb6
     clear hr1 hrr
     go_wp2_with (first
      | (refine Yw rfl 29 1 [(0,.tmp 40)] rfl [(0,.agg #[.int .i64 xo,.int .i64 xw,.int .i64 xv])] rfl _ _ (hsl.out _) ?_)
      | (at_builtin;refine ZP (P:=Tryz.prog) (R:=RV) (e:=47) (size:=3) (base:=w2.heap.size) (F:=λ_=>False) (F':=λ_=>False) rfl Yh (.tmp 39) (.tmp 41) 29 rfl Tryz.underlying29 24 hinfoV.out dX rfl hrow ⟨xo,xw,xv⟩ #[.int .i64 xo,.int .i64 xw,.int .i64 xv] hyN hF0 hA0 hL0 rfl hln.out dX hbs6 ?_;intro v8 w8 hr8 hO8 hM8;obtain⟨a8,n8,c8,hv8⟩:∃ a n c,v8=.slice a n c:=(by obtain⟨a,c,e,_⟩:=hr8.out.form;exact⟨a,_,c,e⟩);subst hv8;have h8:=hO8.out.heap hst6.out.at_ (λe=>by have:=(hst6.out.rv.ownLt _ e).1;omega);have c38:=Za h8 1;have f38:=Zg h8 1;have hU9:=Hd ((Upd.refl h8).setCell (j:=1) (.slice a8 n8 c8));have hst9:=Hd (hst6.out.appV hr8.out hO8.out hM8.out hU9.out);replace h8:=Hd h8))
     refine hback2.out _ _ kX ?_ ?_
     ·simp only[List.getD_cons_zero,List.getD_cons_succ]
      exact⟨j+1,oX,by go_num,.slice a8 n8 c8,by rw[htk.out];exact hst9.out⟩
     ·have h34:=h34.out
      simp only[List.getD_cons_zero,List.getD_cons_succ,h34,intOf]
      omega
    ·obtain rfl:j=V:=oX
     rw[show m.vs.take j=m.vs by rw[hVl.out];exact List.take_length] at hst
     have a25:=(hst.only.block _ (Zb a2.out) oX).trans a2.out
     obtain⟨vN,vlN,vcN,rfl⟩:∃ a n c,v=.slice a n c:=by obtain⟨a,c,e,_⟩:=hst.rn.form;exact⟨a,_,c,e⟩
     obtain⟨vV,vlV,vcV,rfl⟩:∃ a n c,v'=.slice a n c:=by obtain⟨a,c,e,_⟩:=hst.rv.form;exact⟨a,_,c,e⟩
     have hat:=Hd hst.at_
     have huM:Tryz.prog.underlying 31=_:=Tryz.underlying31
     have iM:(Tryz.prog.info? 31).map (·.size)=some (#[.slice vN vlN vcN,.slice vV vlV vcV]:Array Value).size:=kX
     have h1M:(#[.slice vN vlN vcN,.slice vV vlV vcV]:Array Value).all (·.oneCell')=true:=by simp[Value.oneCell']
     replace a25:Hid (w5.heap[n0+1]? = some (.cells #[.slice none 0 0,.slice none 0 0] 31 (0,0))):=Hd a25
     replace hst:=Hd hst
     go_wp2_with (first
      | (refine Ze rfl 31 (.tmp 3) rfl (n0+1+1) #[.slice vN vlN vcN,.slice vV vlV vcV] _ rfl hat huM rfl iM ?_)
      | (refine Zd rfl 31 (.tmp 2) (.tmp 45) rfl (n0+1) #[.slice none 0 0,.slice none 0 0] #[.slice vN vlN vcN,.slice vV vlV vcV] rfl rfl a25 iM rfl h1M ?_;intro w9 hU9))
     refine Zm (c:=#[.slice vN vlN vcN,.slice vV vlV vcV]) rfl rfl huM rfl iM hU9.out.here ?_
     have hO9:Only (λk=>k=n0+1) w5 w9:=Only.ofUpd hU9.out rfl
     have hln:=hst.out.lt
     refine⟨_,_,rfl,?_,?_,?_⟩
     ·exact(hst.out.rn.only QB hO9 (λk hk=>hk.elim) (λk hk e=>by have:=(hst.out.rn.ownLt k hk).1;omega)).mono (by rw[<-hn0.out];omega)
     ·exact(hst.out.rv.only Yh hO9 (λk hk=>hk.elim) (λk hk e=>by have:=(hst.out.rv.ownLt k hk).1;omega)).mono (by rw[<-hn0.out];omega)
     ·have h1:=(hst.out.only.below (B:=n0) oX (λk e=>by omega))
      have h2:=hO9.below (B:=n0) (by have:=h1.size;omega) (λk e=>by omega)
      have h3:=(hB.out.trans (hn0.out▸h1)).trans (hn0.out▸h2)
      exact h3
end Go.Proofs.YtdilmfnpkeihiaaGreatDoor
