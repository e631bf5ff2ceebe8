import Derived.Test.YtpdhceiodgnbmaaGreatDoorF0FollowsSaid
import Derived.Test.YtpdhceiodgnbmaaGreatDoorF1FollowsSaid
import Derived.Test.YtpdhceiodgnbmaaGreatDoorF4FollowsSaid
import Derived.Test.YtpdhceiodgnbmaaGreatDoorF3FollowsSaid
set_option linter.unusedVariables false
set_option linter.unusedSimpArgs false
set_option linter.unnecessarySimpa false
set_option maxRecDepth 100000
set_option maxHeartbeats 8000000
namespace Go.Proofs.YtpdhceiodgnbmaaGreatDoor
open Go.RowKit
structure OfG {α β:Type} (R:World->(Nat->Prop)->α->List Value->Prop) (R':World->(Nat->Prop)->β->List Value->Prop) (s1 s2:Nat) (eN eV T:TypeId) (b:Nat) (w wr:World) (v v':Value) (xs:List α) (ys:List β):Prop where
 at_:wr.heap[b]? = some (.cells #[v,v'] T (0,0))
 rn:RowsOf R eN s1 w.heap.size wr (λ_=>False) v xs
 rv:RowsOf R' eV s2 w.heap.size wr (λ_=>False) v' ys
 ap:∀ k,v.ownBlock=some k->v'.ownBlock≠some k
 only:Only (λk=>k=b) w wr
 lt:b<w.heap.size
section
variable {α β:Type} {R:World->(Nat->Prop)->α->List Value->Prop} {R':World->(Nat->Prop)->β->List Value->Prop} {s1 s2:Nat} {eN eV T:TypeId} {b:Nat} {w wr w1 w2:World} {v v' v1:Value} {xs:List α} {ys:List β}
theorem OfG.grow(hR:LiesOk R s1)(hR':LiesOk R' s2)(h:OfG R R' s1 s2 eN eV T b w wr v v' xs ys)(hb:Below wr.heap.size wr w1):OfG R R' s1 s2 eN eV T b w w1 v v' xs ys:=
 ⟨(hb.block _ (Zb h.at_)).trans h.at_,h.rn.below hR hb,h.rv.below hR' hb,h.ap,h.only.trans (Only.ofBelow (D:=λk=>k=b) hb) (λ_ _ e=>e),h.lt⟩
theorem OfG.appN(hR:LiesOk R s1)(hR':LiesOk R' s2){x:α}(h:OfG R R' s1 s2 eN eV T b w wr v v' xs ys)(hr:RowsOf R eN s1 w.heap.size w1 (λ_=>False) v1 (xs++[x]))(hO:Only (λk=>v.ownBlock=some k) wr w1)(hM:YI wr v v1)(hU:Upd b (.cells #[v1,v'] T (0,0)) w1 w2):OfG R R' s1 s2 eN eV T b w w2 v1 v' (xs++[x]) ys:=by
 have hl:=h.lt
 have hO2:Only (λk=>k=b) w1 w2:=Only.ofUpd hU rfl
 have hs:=h.only.size
 refine⟨hU.here,hr.only hR hO2 (λk hk=>hk.elim) (λk hk e=>by have:=(hr.ownLt k hk).1;omega),(h.rv.only hR' hO (λk hk=>hk.elim) (λk hk e=>h.ap k e hk)).only hR' hO2 (λk hk=>hk.elim) (λk hk e=>by have:=(h.rv.ownLt k hk).1;omega),λk hk hk2=>?_,(h.only.trans hO (λk hk e=>by have:=(h.rn.ownLt k e).1;omega)).trans hO2 (λ_ _ e=>e),hl⟩
 rcases hM k hk with h1|h1
 ·exact h.ap k h1 hk2
 ·have:=(h.rv.ownLt k hk2).2;omega
theorem OfG.appV(hR:LiesOk R s1)(hR':LiesOk R' s2){x:β}(h:OfG R R' s1 s2 eN eV T b w wr v v' xs ys)(hr:RowsOf R' eV s2 w.heap.size w1 (λ_=>False) v1 (ys++[x]))(hO:Only (λk=>v'.ownBlock=some k) wr w1)(hM:YI wr v' v1)(hU:Upd b (.cells #[v,v1] T (0,0)) w1 w2):OfG R R' s1 s2 eN eV T b w w2 v v1 xs (ys++[x]):=by
 have hl:=h.lt
 have hO2:Only (λk=>k=b) w1 w2:=Only.ofUpd hU rfl
 have hs:=h.only.size
 refine⟨hU.here,(h.rn.only hR hO (λk hk=>hk.elim) (λk hk e=>h.ap k hk e)).only hR hO2 (λk hk=>hk.elim) (λk hk e=>by have:=(h.rn.ownLt k hk).1;omega),hr.only hR' hO2 (λk hk=>hk.elim) (λk hk e=>by have:=(hr.ownLt k hk).1;omega),λk hk hk2=>?_,(h.only.trans hO (λk hk e=>by have:=(h.rv.ownLt k e).1;omega)).trans hO2 (λ_ _ e=>e),hl⟩
 rcases hM k hk2 with h1|h1
 ·exact h.ap k hk h1
 ·have:=(h.rn.ownLt k hk).2;omega
end
def It.vals(x:It):List Value:=[.int .i64 x.n,.string x.s,.agg x.p.list.toArray,.agg (cB x.root).toArray,.agg (cB x.file).toArray,.int .i64 x.t,.bool x.k,.int .i64 x.u,.int .i64 x.r]
theorem It.vals_flat(x:It):x.vals.flatMap (·.cells.toList)=x.list:=by simp[It.vals,Value.cells,It.list]
theorem US(x:It)(hx:x.Ok)(W:World):(Instr.build 63 #[(0,.int .i64 x.n),(1,.string x.s),(2,.agg x.p.list.toArray),(3,.agg (cB x.root).toArray),(4,.agg (cB x.file).toArray),(5,.int .i64 x.t),(6,.bool x.k),(7,.int .i64 x.u),(8,.int .i64 x.r)]).run Tryz.prog W=.ok (.agg x.list.toArray) W:=by
 refine run_build W _ _ _ ?_
 rw[<-It.vals_flat]
 exact JS (P:=Tryz.prog) (t:=63) (n:=76) (places:=[(0,1),(1,1),(2,6),(8,32),(40,32),(72,1),(73,1),(74,1),(75,1)]) kX Tryz.underlying63 kX x.vals (by simp[Xf,It.vals,Value.cells,P6.list_length,Zd,hx.root,hx.file]) (by simp[It.vals,Value.cells,P6.list_length,Zd,hx.root,hx.file])
def Vy(w:World)(m:St)(x:Ending)(w':World):Prop:=
 ∃ v v',x=.returned (.agg #[v,v'])/\RowsOf RI 63 76 w.heap.size w' (λ_=>False) v m.its/\RowsOf RE 105 7 w.heap.size w' (λ_=>False) v' m.ens/\Below w.heap.size w w'
theorem Vf(va:Value)(m:St)(w:World)(ha:ArgS w va m)(l1:m.its.length<=1000)(l2:m.ens.length<=1000) :
  Calls Tryz.prog 12 #[va] w (Vy w m):=by
 obtain⟨⟨an,cn,av,cv,rfl,hN,hN1,hN2,hV,hV1,hV2⟩,okN,okV⟩:=ha
 have huN:Tryz.prog.underlying 58=_:=Tryz.underlying58
 have huP:Tryz.prog.underlying 45=_:=Tryz.underlying45
 have huD:Tryz.prog.underlying 47=_:=Tryz.underlying47
 have hinfoN:=Hd Ja
 have hinfoV:=Hd YP
 obtain⟨N,hNl⟩:∃ N,N=m.its.length:=⟨_,rfl⟩
 obtain⟨V,hVl⟩:∃ V,V=m.ens.length:=⟨_,rfl⟩
 rw[<-hNl,<-hVl]
 rw[<-hNl] at l1
 rw[<-hVl] at l2
 clear hN1 hN2 hV1 hV2
 have hB:Below w.heap.size w ((((w.alloc (.cells #[.slice an N cn,.slice av V cv] 28)).alloc (.cells #[.slice none 0 0,.slice none 0 0] 36))).alloc (.cells #[.slice none 0 0,.slice none 0 0] 36)):=((bR.alloc nR _).alloc sX _).alloc sY _
 obtain⟨w2,hw2⟩:∃ w2,w2=(((w.alloc (.cells #[.slice an N cn,.slice av V cv] 28)).alloc (.cells #[.slice none 0 0,.slice none 0 0] 36))).alloc (.cells #[.slice none 0 0,.slice none 0 0] 36):=⟨_,rfl⟩
 have e10:w2.cell? ⟨w.heap.size,0,none⟩=some (.slice an N cn):=by rw[hw2];exact Yr (Yr (Za (heap_alloc_new w _) 0) _) _
 have e11:w2.cell? ⟨w.heap.size,1,none⟩=some (.slice av V cv):=by rw[hw2];exact Yr (Yr (Za (heap_alloc_new w _) 1) _) _
 have hsz2:w2.heap.size=w.heap.size+3:=by rw[hw2];simp
 have a2:w2.heap[w.heap.size+1]? = some (.cells #[.slice none 0 0,.slice none 0 0] 36 (0,0)):=by
  have h1:=heap_alloc_new (w.alloc (.cells #[.slice an N cn,.slice av V cv] 28)) (.cells #[.slice none 0 0,.slice none 0 0] 36 (0,0))
  rw[World.size_alloc] at h1
  rw[hw2]
  exact((bR.alloc nR _).block _ (Zb h1)).trans h1
 have a3:w2.heap[w.heap.size+2]? = some (.cells #[.slice none 0 0,.slice none 0 0] 36 (0,0)):=by
  have h1:=heap_alloc_new ((w.alloc (.cells #[.slice an N cn,.slice av V cv] 28)).alloc (.cells #[.slice none 0 0,.slice none 0 0] 36)) (.cells #[.slice none 0 0,.slice none 0 0] 36 (0,0))
  rw[World.size_alloc,World.size_alloc] at h1
  rw[hw2]
  exact h1
 rw[<-hw2] at hB
 have hst0:OfG RI RE 76 7 63 105 36 (w.heap.size+2) w2 w2 (.slice none 0 0) (.slice none 0 0) [] []:=
  ⟨a3,RowsOf.nil _ _,RowsOf.nil _ _,(λk e=>by cases e),Only.refl _ _,oX⟩
 have hNw:=Hd hN
 have hVw:=Hd hV
 clear hN hV
 obtain⟨n0,hn0⟩:∃ n0,n0=w.heap.size:=⟨_,rfl⟩
 obtain⟨ML,hML⟩:∃ ML,ML=m.its:=⟨_,rfl⟩
 obtain⟨ME,hME⟩:∃ ME,ME=m.ens:=⟨_,rfl⟩
 have hMLl:ML.length=N:=by rw[hML,hNl]
 have hMEl:ME.length=V:=by rw[hME,hVl]
 have hpost:Hid (∀ v v' w',RowsOf RI 63 76 w.heap.size w' (λ_=>False) v ML->RowsOf RE 105 7 w.heap.size w' (λ_=>False) v' ME->Below w.heap.size w w'->Vy w m (.returned (.agg #[v,v'])) w'):=Hd (λv v' w' a b c=>⟨v,v',rfl,by rw[<-hML];exact a,by rw[<-hME];exact b,c⟩)
 replace hML:=Hd hML
 replace hME:=Hd hME
 replace hMLl:=Hd hMLl
 replace hMEl:=Hd hMEl
 replace hw2:=Hd hw2
 replace okN:=Hd okN
 replace okV:=Hd okV
 replace hNl:=Hd hNl
 replace hVl:=Hd hVl
 replace hst0:=Hd hst0
 replace a2:=Hd a2
 replace hB:=Hd hB
 clear a3
 go_enter Tryz.func12,Tryz.ntmps12
 go_wp2_with fail
 rw[<-hw2.out]
 rw[<-hn0] at e10 e11 a2 hst0 hsz2 ⊢
 replace hn0:=Hd hn0
 clear hw2
 have hbw:∀ wr,Only (λk=>k=n0+2) w2 wr->(∀ x,x.block<w2.heap.size->x.block≠n0+2->wr.cell? x=w2.cell? x)/\Below n0 w2 wr:=λwr hO=>⟨λx hx hne=>World.cell?_of_block (a:=x) (hO.block _ hx hne),hO.below oX (λk e=>by omega)⟩
 replace hbw:=Hd hbw
 refine Z8 [(false,5),(true,1),(false,6),(true,29),(false,15)] _ [] (λU wr=>∃ k:Nat,k<=N/\U 12=.int .i64 (k:Nat)/\∃ v,OfG RI RE 76 7 63 105 36 (n0+2) w2 wr v (.slice none 0 0) (ML.take k) []) (λU _=>N-(intOf (U 12)).toNat) ?_ ?_
 ·simp only[List.getD_cons_zero,List.getD_cons_succ]
  exact⟨0,Nat.zero_le _,rfl,_,hst0.out⟩
 ·clear hst0
  intro U wr hrel KK hback l' hl'
  obtain⟨k,hk,h12,v,hst⟩:=hrel
  simp only[ZR,ZD,cond_true,cond_false,Nat.reduceAdd,h12] at hl'
  subst hl'
  replace h12:=Hd h12
  by_cases hlt:k<N
  ·have hlt2:(k:Int)<(N:Int):=oX
   have hkN:k<m.its.length:=by rw[<-hNl.out];exact hlt
   have hrr:RowAt It.list 76 wr an m.its:=λj hj=>by
    obtain⟨b,o,e,h⟩:=hNw.out j hj
    exact⟨b,o,e,Zs h (B:=n0) ((show Below n0 w w2 by rw[hn0.out];exact hB.out).trans (hbw.out wr hst.only).2) (by rw[hn0.out];exact Nat.le_refl _)⟩
   obtain⟨b1,o1,rfl,hr1⟩:=hrr k hkN
   have ox:=okN.out _ (List.getElem_mem hkN)
   have hkM:k<ML.length:=by rw[hMLl.out];exact hlt
   have hge:ML[k]=m.its[k]:=by simp[hML.out]
   have htk:ML.take (k+1)=ML.take k++[m.its[k]]:=by rw[List.take_succ_eq_append_getElem hkM,hge]
   clear hge
   generalize m.its[k]=x at*
   obtain⟨X,hX⟩:∃ X,X=x.list.toArray:=⟨_,rfl⟩
   have hX1:X.all (·.oneCell')=true:=by rw[hX];exact x.all_one
   have iX:(Tryz.prog.info? 58).map (·.size)=some X.size:=by rw[hX,It.size ox];kernel_rfl
   have zX:(Tryz.zeroCells58).size=X.size:=by rw[hX,It.size ox];kernel_rfl
   have ix:(Tryz.prog.info? 58).map (·.size)=some x.list.length:=by rw[It.list_length ox];kernel_rfl
   have iP:(Tryz.prog.info? 45).map (·.size)=some x.p.list.length:=kX
   have iD:(Tryz.prog.info? 47).map (·.size)=some (cB x.file).length:=by rw[Zd,ox.file];kernel_rfl
   have iD2:(Tryz.prog.info? 47).map (·.size)=some (cB x.root).length:=by rw[Zd,ox.root];kernel_rfl
   have hbd:=λW=>US x ox W
   obtain⟨Y,hY⟩:∃ Y,Y=(x).list.toArray:=⟨_,rfl⟩
   have hYs:Y.size=76:=by rw[hY];exact It.size ox
   have hyY:=λW=>(show RI W (λ_=>False) (x) Y.toList from⟨by rw[hY],ox⟩)
   skip
   obtain⟨S,hS⟩:∃ S,S=x.s:=⟨_,rfl⟩
   obtain⟨B,hBk⟩:∃ B,B=x.k:=⟨_,rfl⟩
   obtain⟨PP,hPP⟩:∃ PP,PP=x.p.list.toArray:=⟨_,rfl⟩
   obtain⟨DD,hDD⟩:∃ DD,DD=(cB x.file).toArray:=⟨_,rfl⟩
   obtain⟨RR,hRR⟩:∃ RR,RR=(cB x.root).toArray:=⟨_,rfl⟩
   obtain⟨NO,hNO⟩:∃ NO,NO=x.n:=⟨_,rfl⟩
   obtain⟨TT,hTT⟩:∃ TT,TT=x.t:=⟨_,rfl⟩
   obtain⟨UU,hUU⟩:∃ UU,UU=x.u:=⟨_,rfl⟩
   obtain⟨QQ,hQQ⟩:∃ QQ,QQ=x.r:=⟨_,rfl⟩
   rw[<-hS,<-hBk,<-hPP,<-hDD,<-hRR,<-hNO,<-hTT,<-hUU,<-hQQ] at hbd
   rw[<-hY] at hbd
   have hsl:=λW=>QT (P:=Tryz.prog) (t:=33) Tryz.underlying33 Ja dX dX Y hYs W
   have hcX:∀ (W:World) b,W.heap[b]? = some (.cells X 58 (0,0))->W.cell? ⟨b,0,none⟩=some (.int .i64 NO)/\W.cell? ⟨b,1,none⟩=some (.string S)/\W.cell? ⟨b,72,none⟩=some (.int .i64 TT)/\W.cell? ⟨b,73,none⟩=some (.bool B)/\W.cell? ⟨b,74,none⟩=some (.int .i64 UU)/\W.cell? ⟨b,75,none⟩=some (.int .i64 QQ)/\W.rangeAt b 2 x.p.list/\W.rangeAt b 8 (cB x.root)/\W.rangeAt b 40 (cB x.file):=λW b h=>by
    rw[Za h,Za h,Za h,Za h,Za h,Za h,hX]
    simp only[List.getElem?_toArray]
    rw[hNO,hS,hTT,hBk,hUU,hQQ]
    exact⟨It.c0 x,It.c1 x,It.c72 ox,It.c73 ox,It.c74 ox,It.c75 ox,Qb h (by rw[hX];exact It.sub_p x),Qb h (by rw[hX];exact It.sub_root ox),Qb h (by rw[hX];exact It.sub_file ox)⟩
   have hz1:Hid ((wr.alloc (.cells Tryz.zeroCells58 58)).heap[wr.heap.size]? = some (.cells Tryz.zeroCells58 58 (0,0))):=heap_alloc_new wr (.cells Tryz.zeroCells58 58 (0,0))
   have hln:(ML.take k).length<=1000000:=by rw[List.length_take];omega
   have hswr:=hst.only.size
   replace hst:=Hd hst
   replace htk:=Hd htk
   replace hX:=Hd hX
   replace hPP:=Hd hPP
   replace hDD:=Hd hDD
   replace hRR:=Hd hRR
   replace hcX:=Hd hcX
   replace hr1:=Hd hr1
   replace hbd:=Hd hbd
   replace hsl:=Hd hsl
   replace hln:=Hd hln
   replace ox:=Hd ox
   replace hyY:=Hd hyY
   clear hS hBk hNO hTT hUU hQQ hY hrr
   go_wp2_with (first
    | ((with_reducible refine wL (.load 58 (.tmp 14)) ?_);(refine wpList_load_mid rfl 58 (.tmp 14) rfl b1 (o1+k*76) rfl x.list _ hr1.out huN rfl ix ?_);rw[<-hX.out])
    | ((with_reducible refine wL (.store 58 (.tmp 5) _) ?_);(refine Zc rfl 58 (.tmp 5) (.tmp 15) rfl wr.heap.size _ X rfl rfl hz1 iX zX hX1 ?_);intro w3 hU3;have hb3:=Hd (((Below.refl wr.heap.size wr).alloc nR _).trans (hU3.out.below nR));have hst3:=Hd (hst.out.grow Zk Zj hb3.out);have c30:=Za hst3.out.at_ 0;obtain⟨k0,k1,k72,k73,k74,k75,rP,rR,rD⟩:=hcX.out _ _ hU3.out.here;replace rP:=Hd rP;replace rR:=Hd rR;replace rD:=Hd rD;have hrow:=Hd hst3.out.rn;have hyN:=Hd (hyY.out w3);have hF0:=Hd (show ∀ k:Nat,(λ_:Nat=>False) k->(λ_:Nat=>False) k from λ_ h=>h);have hA0:=Hd (show ∀ k,v.ownBlock=some k->¬(λ_:Nat=>False) k from λ_ _ h=>h);have hL0:=Hd (show ∀ k,(λ_:Nat=>False) k->k<w3.heap.size from λ_ h=>h.elim);have hbs3:w2.heap.size<=w3.heap.size:=(by have:=hb3.out.size;omega))
    | ((with_reducible refine wL (.load 45 (.tmp 22)) ?_);(refine wpList_load_mid rfl 45 (.tmp 22) rfl wr.heap.size 2 rfl x.p.list _ rP.out huP rfl iP ?_);rw[<-hPP.out])
    | ((with_reducible refine wL (.load 47 (.tmp 24)) ?_);(refine wpList_load_mid rfl 47 (.tmp 24) rfl wr.heap.size 8 rfl (cB x.root) _ rR.out huD rfl iD2 ?_);rw[<-hRR.out])
    | ((with_reducible refine wL (.load 47 (.tmp 26)) ?_);(refine wpList_load_mid rfl 47 (.tmp 26) rfl wr.heap.size 40 rfl (cB x.file) _ rD.out huD rfl iD ?_);rw[<-hDD.out])
    | ((with_reducible refine wL (.build 63 _) ?_);refine ZM rfl 63 [(0,.tmp 19),(1,.tmp 21),(2,.tmp 23),(3,.tmp 25),(4,.tmp 27),(5,.tmp 29),(6,.tmp 31),(7,.tmp 33),(8,.tmp 35)] rfl [(0,.int .i64 NO),(1,.string S),(2,.agg PP),(3,.agg RR),(4,.agg DD),(5,.int .i64 TT),(6,.bool B),(7,.int .i64 UU),(8,.int .i64 QQ)] rfl _ (hbd.out _) ?_)
    | ((with_reducible refine wL (.buildSlice _ _ _) ?_);refine Qh rfl 33 1 [(0,.tmp 36)] rfl [(0,.agg Y)] rfl _ _ (hsl.out _) ?_)
    | (at_builtin;refine Z9 (P:=Tryz.prog) (R:=RI) (e:=63) (size:=76) (base:=w2.heap.size) (F:=λ_=>False) (F':=λ_=>False) rfl Zk (.tmp 17) (.tmp 37) 33 rfl Tryz.underlying33 168 hinfoN.out dX rfl hrow (x) Y hyN hF0 hA0 hL0 rfl hln.out dX hbs3 ?_;intro v5 w5 hr5 hO5 hM5;obtain⟨a5,n5,c5,hv5⟩:∃ a n c,v5=.slice a n c:=(by obtain⟨a,c,e,_⟩:=hr5.out.form;exact⟨a,_,c,e⟩);subst hv5;have h5:=hO5.out.heap hst3.out.at_ (λe=>by have:=(hst3.out.rn.ownLt _ e).1;omega);have c35:=Za h5 0;have f35:=Zm h5 0;have hU6:=Hd ((Upd.refl h5).setCell (j:=0) (.slice a5 n5 c5));have hst6:=Hd (hst3.out.appN Zk Zj hr5.out hO5.out hM5.out hU6.out);replace h5:=Hd h5))
   refine hback.out _ _ kX ?_ ?_
   ·simp only[List.getD_cons_zero,List.getD_cons_succ]
    exact⟨k+1,oX,by go_num,.slice a5 n5 c5,by rw[htk.out];exact hst6.out⟩
   ·have h12:=h12.out
    simp only[List.getD_cons_zero,List.getD_cons_succ,h12,intOf]
    omega
  ·obtain rfl:k=N:=oX
   rw[show ML.take k=ML from List.take_of_length_le (by rw[hMLl.out];exact Nat.le_refl _)] at hst
   have hrr:RowAt En.list 7 wr av m.ens:=λj hj=>by
    obtain⟨b,o,e,h⟩:=hVw.out j hj
    exact⟨b,o,e,Zs h (B:=n0) ((show Below n0 w w2 by rw[hn0.out];exact hB.out).trans (hbw.out wr hst.only).2) (by rw[hn0.out];exact Nat.le_refl _)⟩
   have e11r:=((hbw.out wr hst.only).1 ⟨n0,1,none⟩ (World.block_lt_of_cell? w2 _ e11) sX).trans e11
   have a2r:=(hst.only.block _ (Zb a2.out) oX).trans a2.out
   have hswr:=hst.only.size
   replace hst:=Hd hst
   replace a2r:=Hd a2r
   go_wp2_with fail
   refine Z8 [(false,7),(true,1),(false,36),(true,11),(false,1)] _ [] (λU2 w5=>∃ j:Nat,j<=V/\U2 44=.int .i64 (j:Nat)/\∃ v',OfG RI RE 76 7 63 105 36 (n0+2) w2 w5 v v' ML (ME.take j)) (λU2 _=>V-(intOf (U2 44)).toNat) ?_ ?_
   ·simp only[List.getD_cons_zero,List.getD_cons_succ]
    exact⟨0,Nat.zero_le _,rfl,_,hst.out⟩
   ·clear hrr hst hback a2r e11r
    intro U2 w5 hrel KK2 hback2 l2 hl2
    obtain⟨j,hj,h34,v',hst⟩:=hrel
    simp only[ZR,ZD,cond_true,cond_false,Nat.reduceAdd,h34] at hl2
    subst hl2
    replace h34:=Hd h34
    by_cases hlt2:j<V
    ·have hlt3:(j:Int)<(V:Int):=oX
     have hkV:j<m.ens.length:=by rw[<-hVl.out];exact hlt2
     have hrr:RowAt En.list 7 w5 av m.ens:=λj hj=>by
      obtain⟨b,o,e,h⟩:=hVw.out j hj
      exact⟨b,o,e,Zs h (B:=n0) ((show Below n0 w w2 by rw[hn0.out];exact hB.out).trans (hbw.out w5 hst.only).2) (by rw[hn0.out];exact Nat.le_refl _)⟩
     obtain⟨b1,o1,rfl,hr1⟩:=hrr j hkV
     have ox:=okV.out _ (List.getElem_mem hkV)
     have hkE:j<ME.length:=by rw[hMEl.out];exact hlt2
     have hge:ME[j]=m.ens[j]:=by simp[hME.out]
     have htk:ME.take (j+1)=ME.take j++[m.ens[j]]:=by rw[List.take_succ_eq_append_getElem hkE,hge]
     clear hge
     generalize m.ens[j]=x at*
     obtain⟨xid,xo,xw,xi,xt,xv,xa⟩:=x
     skip
     have d0:=hr1 0 _ rfl
     have d1:=hr1 1 _ rfl
     have d2:=hr1 2 _ rfl
     have d3:=hr1 3 _ rfl
     have d4:=hr1 4 _ rfl
     have d5:=hr1 5 _ rfl
     have d6:=hr1 6 _ rfl
     simp only[Nat.add_zero] at d0 d1 d2 d3 d4 d5 d6
     have hln:(ME.take j).length<=1000000:=by rw[List.length_take];omega
     have hsw5:=hst.only.size
     have hsl:=λW=>QT (P:=Tryz.prog) (t:=34) Tryz.underlying34 YP dX dX #[.int .i64 xid,.int .i64 xo,.int .i64 xw,.int .i64 xi,.int .i64 xt,.int .i64 xv,.int .i64 xa] rfl W
     have hb6:Below w5.heap.size w5 (w5.alloc (.cells #[.int .i64 xid,.int .i64 xo,.int .i64 xw,.int .i64 xi,.int .i64 xt,.int .i64 xv,.int .i64 xa] 66)):=bR.alloc nR _
     have hst6:=hst.grow Zk Zj hb6
     have hn6:=heap_alloc_new w5 (.cells #[.int .i64 xid,.int .i64 xo,.int .i64 xw,.int .i64 xi,.int .i64 xt,.int .i64 xv,.int .i64 xa] 66 (0,0))
     have hs6:=hb6.size
     have hbs6:w2.heap.size<=(w5.alloc (.cells #[.int .i64 xid,.int .i64 xo,.int .i64 xw,.int .i64 xi,.int .i64 xt,.int .i64 xv,.int .i64 xa] 66)).heap.size:=oX
     have hrow:=Hd hst6.rv
     have hyN:=Hd (show RE (w5.alloc (.cells #[.int .i64 xid,.int .i64 xo,.int .i64 xw,.int .i64 xi,.int .i64 xt,.int .i64 xv,.int .i64 xa] 66)) (λ_=>False) ⟨xid,xo,xw,xi,xt,xv,xa⟩ (#[.int .i64 xid,.int .i64 xo,.int .i64 xw,.int .i64 xi,.int .i64 xt,.int .i64 xv,.int .i64 xa]:Array Value).toList from⟨rfl,ox⟩)
     have hF0:=Hd (show ∀ k:Nat,(λ_:Nat=>False) k->(λ_:Nat=>False) k from λ_ h=>h)
     have hA0:=Hd (show ∀ k,v'.ownBlock=some k->¬(λ_:Nat=>False) k from λ_ _ h=>h)
     have hL0:=Hd (show ∀ k,(λ_:Nat=>False) k->k<(w5.alloc (.cells #[.int .i64 xid,.int .i64 xo,.int .i64 xw,.int .i64 xi,.int .i64 xt,.int .i64 xv,.int .i64 xa] 66)).heap.size from λ_ h=>h.elim)
     have c30:=Za hst6.at_ 1
     replace hst6:=Hd hst6
     replace hst:=Hd hst
     replace htk:=Hd htk
     replace hln:=Hd hln
     replace hsl:=Hd hsl
     replace ox:=Hd ox
     replace hn6:=Hd hn6
     replace hb6:=Hd hb6
     clear hr1 hrr
     go_wp2_with (first
      | (refine Qh rfl 34 1 [(0,.tmp 50)] rfl [(0,.agg #[.int .i64 xid,.int .i64 xo,.int .i64 xw,.int .i64 xi,.int .i64 xt,.int .i64 xv,.int .i64 xa])] rfl _ _ (hsl.out _) ?_)
      | (at_builtin;refine Z9 (P:=Tryz.prog) (R:=RE) (e:=105) (size:=7) (base:=w2.heap.size) (F:=λ_=>False) (F':=λ_=>False) rfl Zj (.tmp 49) (.tmp 51) 34 rfl Tryz.underlying34 56 hinfoV.out dX rfl hrow ⟨xid,xo,xw,xi,xt,xv,xa⟩ #[.int .i64 xid,.int .i64 xo,.int .i64 xw,.int .i64 xi,.int .i64 xt,.int .i64 xv,.int .i64 xa] hyN hF0 hA0 hL0 rfl hln.out dX hbs6 ?_;intro v8 w8 hr8 hO8 hM8;obtain⟨a8,n8,c8,hv8⟩:∃ a n c,v8=.slice a n c:=(by obtain⟨a,c,e,_⟩:=hr8.out.form;exact⟨a,_,c,e⟩);subst hv8;have h8:=hO8.out.heap hst6.out.at_ (λe=>by have:=(hst6.out.rv.ownLt _ e).1;omega);have c38:=Za h8 1;have f38:=Zm h8 1;have hU9:=Hd ((Upd.refl h8).setCell (j:=1) (.slice a8 n8 c8));have hst9:=Hd (hst6.out.appV Zk Zj hr8.out hO8.out hM8.out hU9.out);replace h8:=Hd h8))
     refine hback2.out _ _ kX ?_ ?_
     ·simp only[List.getD_cons_zero,List.getD_cons_succ]
      exact⟨j+1,oX,by go_num,.slice a8 n8 c8,by rw[htk.out];exact hst9.out⟩
     ·have h34:=h34.out
      simp only[List.getD_cons_zero,List.getD_cons_succ,h34,intOf]
      omega
    ·obtain rfl:j=V:=oX
     rw[show ME.take j=ME from List.take_of_length_le (by rw[hMEl.out];exact Nat.le_refl _)] at hst
     have a25:=(hst.only.block _ (Zb a2.out) oX).trans a2.out
     obtain⟨vN,vlN,vcN,rfl⟩:∃ a n c,v=.slice a n c:=by obtain⟨a,c,e,_⟩:=hst.rn.form;exact⟨a,_,c,e⟩
     obtain⟨vV,vlV,vcV,rfl⟩:∃ a n c,v'=.slice a n c:=by obtain⟨a,c,e,_⟩:=hst.rv.form;exact⟨a,_,c,e⟩
     have hat:=Hd hst.at_
     have huM:Tryz.prog.underlying 36=_:=Tryz.underlying36
     have iM:(Tryz.prog.info? 36).map (·.size)=some (#[.slice vN vlN vcN,.slice vV vlV vcV]:Array Value).size:=kX
     have h1M:(#[.slice vN vlN vcN,.slice vV vlV vcV]:Array Value).all (·.oneCell')=true:=by simp[Value.oneCell']
     replace a25:Hid (w5.heap[n0+1]? = some (.cells #[.slice none 0 0,.slice none 0 0] 36 (0,0))):=Hd a25
     replace hst:=Hd hst
     go_wp2_with (first
      | (refine Ze rfl 36 (.tmp 3) rfl (n0+1+1) #[.slice vN vlN vcN,.slice vV vlV vcV] _ rfl hat huM rfl iM ?_)
      | (refine Zc rfl 36 (.tmp 2) (.tmp 55) rfl (n0+1) #[.slice none 0 0,.slice none 0 0] #[.slice vN vlN vcN,.slice vV vlV vcV] rfl rfl a25 iM rfl h1M ?_;intro w9 hU9))
     refine Z7 (c:=#[.slice vN vlN vcN,.slice vV vlV vcV]) rfl rfl huM rfl iM hU9.out.here ?_
     have hO9:Only (λk=>k=n0+1) w5 w9:=Only.ofUpd hU9.out rfl
     have hln:=hst.out.lt
     have hh1:=hst.out.only.below (B:=n0) oX (λk e=>by omega)
     have hh2:=hO9.below (B:=n0) (by have:=hh1.size;omega) (λk e=>by omega)
     refine hpost.out _ _ _ ?_ ?_ ?_
     ·exact(hst.out.rn.only Zk hO9 (λk hk=>hk.elim) (λk hk e=>by have:=(hst.out.rn.ownLt k hk).1;omega)).mono (by rw[<-hn0.out];omega)
     ·exact(hst.out.rv.only Zj hO9 (λk hk=>hk.elim) (λk hk e=>by have:=(hst.out.rv.ownLt k hk).1;omega)).mono (by rw[<-hn0.out];omega)
     ·exact(hB.out.trans (hn0.out▸hh1)).trans (hn0.out▸hh2)
end Go.Proofs.YtpdhceiodgnbmaaGreatDoor
