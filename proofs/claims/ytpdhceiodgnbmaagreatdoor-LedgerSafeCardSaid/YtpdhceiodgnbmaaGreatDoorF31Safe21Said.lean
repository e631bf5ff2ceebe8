import Derived.Test.YtpdhceiodgnbmaaGreatDoorF0Safe21Said
import Derived.Test.YtpdhceiodgnbmaaGreatDoorF1Safe21Said
import Derived.Test.YtpdhceiodgnbmaaGreatDoorF30Safe21Said
import Derived.Test.YtpdhceiodgnbmaaGreatDoorF21Safe21Said
import Derived.Test.YtpdhceiodgnbmaaGreatDoorF7Safe21Said
import Derived.Test.YtpdhceiodgnbmaaGreatDoorF23Safe21Said
import Derived.Test.YtpdhceiodgnbmaaGreatDoorF16Safe21Said
import Derived.Test.YtpdhceiodgnbmaaGreatDoorF18Safe21Said
import Derived.Test.YtpdhceiodgnbmaaGreatDoorF11Safe21Said
import Derived.Test.YtpdhceiodgnbmaaGreatDoorF22Safe21Said
import Derived.Test.YtpdhceiodgnbmaaGreatDoorF14Safe21Said
set_option linter.unusedVariables false
set_option linter.unusedSimpArgs false
set_option linter.unnecessarySimpa false
set_option maxRecDepth 100000
set_option maxHeartbeats 8000000
namespace Go.Proofs.YtpdhceiodgnbmaaGreatDoor
open Go.RowKit
theorem Uv{m:St}{r:Rc}(h:(Zi m r).2=0):r.chk=0/\(r.kind=1->(YP m r).2=0)/\(r.kind=2->(YZ m r).2=0)/\(r.kind=3->(YR m r).2=0):=by
 have hc:=XG h
 unfold Zi at h
 rw[if_neg (by rw[hc];simp)] at h
 refine⟨hc,λk=>?_,λk=>?_,λk=>?_⟩
 ·rwa [if_pos k] at h
 ·rwa [if_neg oX,if_pos k] at h
 ·rwa [if_neg oX,if_neg oX,if_neg oX] at h
theorem BG{m:St}{r:Rc}(hk:r.kind=1)(h:(Zi m r).2=0):r=X6 (m.its.length:Int) r.name r.p r.root r.file r.tick:=by
 obtain⟨hc,h1,_,_⟩:=Uv h
 have h1:=h1 hk
 obtain⟨_,_,hz,_⟩:=Rc.chk0 hc
 have ho:r.obj=(m.its.length:Int):=by
  unfold YP at h1
  split at h1
  ·cases h1
  ·split at h1
   ·cases h1
   ·split at h1
    ·cases h1
    ·next q=>exact Classical.not_not.1 q
 unfold Rc.bare at hz
 rw[if_pos hk] at hz
 have e1:=congrArg Rc.id hz
 have e2:=congrArg Rc.way hz
 have e3:=congrArg Rc.index hz
 have e4:=congrArg Rc.verdict hz
 exact Jy hk ho e1 rfl rfl rfl rfl e2 e3 e4 rfl
theorem D5{r:Rc}(hk:r.kind=4)(hc:r.chk=0):r=Ve r.obj r.tick:=by
 obtain⟨_,_,hz,_⟩:=Rc.chk0 hc
 unfold Rc.bare at hz
 rw[if_neg oX,if_neg oX,if_neg oX] at hz
 exact Jy hk rfl (by have e:=congrArg Rc.id hz;exact e) (by have e:=congrArg Rc.name hz;exact e) (by have e:=congrArg Rc.p hz;exact e) (by have e:=congrArg Rc.root hz;exact e) (by have e:=congrArg Rc.file hz;exact e) (by have e:=congrArg Rc.way hz;exact e) (by have e:=congrArg Rc.index hz;exact e) (by have e:=congrArg Rc.verdict hz;exact e) rfl
theorem B8{m:St}{r:Rc}(hk:r.kind=2)(h:(Zi m r).2=0):r=Xm r.obj (m.ens.length:Int) r.way (Qa (m.its.getD r.obj.toNat default) r.way).1 r.tick/\(r.way=1\/r.way=2)/\0<=r.obj/\r.obj<m.its.length:=by
 obtain⟨hc,_,h1,_⟩:=Uv h
 have h1:=h1 hk
 obtain⟨_,hn,hz,_⟩:=Rc.chk0 hc
 obtain⟨_,_,r3,_⟩:=Xq hn
 have r3:=(r3 hk).1
 unfold Rc.bare at hz
 rw[if_neg oX,if_pos hk] at hz
 unfold YZ at h1
 split at h1
 ·cases h1
 ·next q1=>
  split at h1
  ·cases h1
  ·split at h1
   ·cases h1
   ·split at h1
    ·cases h1
    ·next q4=>
     have hi:r.id=(m.ens.length:Int):=Classical.not_not.1 (λhh=>q4 (.inl hh))
     have hx:r.index=(Qa (m.its.getD r.obj.toNat default) r.way).1:=Classical.not_not.1 (λhh=>q4 (.inr hh))
     exact⟨Jy hk rfl hi (by have e:=congrArg Rc.name hz;exact e) (by have e:=congrArg Rc.p hz;exact e) (by have e:=congrArg Rc.root hz;exact e) (by have e:=congrArg Rc.file hz;exact e) rfl hx (by have e:=congrArg Rc.verdict hz;exact e) rfl,oX,oX,oX⟩
theorem Le{m:St}{r:Rc}(hk:r.kind=3)(h:(Zi m r).2=0):r=Xo (m.ens.getD r.id.toNat default).o r.id r.verdict r.tick/\0<=r.id/\r.id<m.ens.length:=by
 obtain⟨hc,_,_,h1⟩:=Uv h
 have h1:=h1 hk
 obtain⟨_,_,hz,_⟩:=Rc.chk0 hc
 unfold Rc.bare at hz
 rw[if_neg oX,if_neg oX,if_pos hk] at hz
 unfold YR at h1
 split at h1
 ·cases h1
 ·next q1=>
  split at h1
  ·cases h1
  ·next q2=>
   exact⟨Jy hk (Classical.not_not.1 q2).symm rfl (by have e:=congrArg Rc.name hz;exact e) (by have e:=congrArg Rc.p hz;exact e) (by have e:=congrArg Rc.root hz;exact e) (by have e:=congrArg Rc.file hz;exact e) (by have e:=congrArg Rc.way hz;exact e) (by have e:=congrArg Rc.index hz;exact e) rfl rfl,oX,oX⟩
def DJ(base:Nat)(w:World)(l:Nat)(V:LV)(P:LP)(r:Rc)(RO RB:Rc->JPred)(e:Ending)(w':World):Prop:=
 ∃ (u:Value) (V':LV) (p':DP) (recs':List (List UInt8)) (sure':Nat) (dead':Bool),e=.returned u/\(V'.J=V.J/\V'.B=V.B/\V'.mb=V.mb/\V'.f=V.f)/\
  ((RO r V'.mn p' recs' sure' dead'/\LStep base w w' l V V' ⟨p',recs',sure',dead',P.n+1,Qc P.n P.ps r.out,(Zi P.m r).1⟩)\/RB r V'.mn p' recs' sure' dead')
theorem PutLaw.lput{base:Nat}{w:World}{l:Nat}{V:LV}{P:LP}{r:Rc}{RO RB:Rc->JPred}{e:Ending}{w':World}(h:PutLaw (PutV base w l V P (Zi P.m r).1 (Qc P.n P.ps r.out) (RO r) (RB r)) w e w'):DJ base w l V P r RO RB e w':=by
 obtain⟨W,v,u,he,hW,V',p',recs',sure',dead',hs,hnew,hq⟩:=h
 refine⟨u,V',p',recs',sure',dead',he,hs,?_⟩
 rcases hq with ⟨_,q1,q2⟩|⟨_,q1,_⟩
 ·exact .inl ⟨q1,q2⟩
 ·exact .inr q1
theorem Cl{base:Nat}{w:World}{l:Nat}{V:LV}{P:LP}(hL:LdM base w l V P)(hn:base<=w.heap.size)(l1:P.m.its.length<=1000)(l2:P.m.ens.length<=1000)(r:Rc)(hr:r.Ok)(hf:(Zi P.m r).2=0)(RO RB:Rc->JPred)(hRO:∀ x mn p r s d,RO x mn p r s d->(Zi P.m x).2=0)
  (hput:∀ x,x.Ok->∀ W,Below w.heap.size w W->Calls Tryz.prog 81 #[.pointer (some ⟨l,0,none⟩),.agg x.list.toArray] W (Gf base W l V P (Zi P.m x).1 (Qc P.n P.ps x.out) (RO x) (RB x))) :
  Calls Tryz.prog 30 #[.pointer (some ⟨l,0,none⟩),.agg r.list.toArray] w (DJ base w l V P r RO RB):=by
 have hK:∀ {W},Below w.heap.size w W->∀ W',Below W.heap.size W W'->Calls Tryz.prog 81 #[.pointer (some ⟨l,0,none⟩),.agg r.list.toArray] W' (PQK base W.heap.size (PutV base w l V P (Zi P.m r).1 (Qc P.n P.ps r.out) (RO r) (RB r)) W'):=fun {W} hW W' hW'=>by
  have hWW:=hW.trans (hW'.mono hW.size)
  refine(DK hL hn hWW (hput r hr W' hWW)).mono ?_
  rintro e w' ⟨q1,q2⟩
  exact⟨q1,λb hb hb'=>q2 b (Nat.le_trans hW.size hb) hb'⟩
 obtain⟨hkk,_⟩:=Rc.chk0 (XG hf)
 rcases(show r.kind=1\/r.kind=2\/r.kind=3\/r.kind=4 by omega) with hk|hk|hk|hk
 ·have he:=BG hk hf
  refine(Dn (base:=base) l r hr hk (PutV base w l V P _ _ (RO r) (RB r)) (λW hW=>DL (hL.below hW) r.name r.p r.root r.file r.tick hr.root hr.file _ (λW' hW'=>?_))).mono λe w' h=>h.lput
  rw[<-he]
  exact hK hW W' hW'
 ·obtain⟨he,hw,ho1,ho2⟩:=B8 hk hf
  obtain⟨i,hi⟩:∃ i:Nat,r.obj=(i:Int):=⟨r.obj.toNat,oX⟩
  have hil:i<P.m.its.length:=oX
  have hgd:P.m.its.getD r.obj.toNat default=P.m.its[i]:=by rw[hi,List.getD_eq_getElem?_getD,Int.toNat_natCast,List.getElem?_eq_getElem hil];rfl
  rw[hgd] at he
  refine(L9 (base:=base) l r hr hk (PutV base w l V P _ _ (RO r) (RB r)) (λW hW=>?_)).mono λe w' h=>h.lput
  have hgoal:=W8 (hL.below hW) l1 l2 i hil r.way r.tick hw (PutV base w l V P (Zi P.m r).1 (Qc P.n P.ps r.out) (RO r) (RB r)) (λW' hW'=>by
   rw[<-hi,<-he]
   exact hK hW W' hW') (λW1 w' hW1 hq=>?_) (λW1 v1 w1 w2 C C' hW1 hlt hq hb hU=>?_) (Nat.le_trans hn hW.size)
  ·rw[hi];exact hgoal
  ·obtain⟨V',p',recs',sure',dead',hs,hnew,⟨_,q1,q2⟩|⟨q0,_⟩⟩:=hq
   ·have hm:(Zi P.m r).1.ens.length=P.m.ens.length+1:=by rw[he];exact M9 (by rw[<-he];exact hf)
    exact⟨V',_,q2.ok,by rw[hm];omega,by rw[hm];omega⟩
   ·exfalso
    have h1:=q0.1.1 w
    have h2:(binOp .neq 30 .nilIface .nilIface).run Tryz.prog w=.ok (.bool false) w:=kX
    rw[h1] at h2
    cases h2
  ·have hO:Only (λk=>k=W.heap.size) w1 w2:=Only.ofUpd hU rfl
   obtain⟨V',p',recs',sure',dead',hs,hnew,h|h⟩:=hq
   ·exact⟨V',p',recs',sure',dead',hs,hnew,.inl ⟨h.1,h.2.1,h.2.2.aside hnew hL hW.size hlt hO⟩⟩
   ·exact⟨V',p',recs',sure',dead',hs,hnew,.inr ⟨h.1.soft (Soft.ofUpd hU hb ⟨dX,dX⟩ (Nat.le_trans hn hW.size)),h.2.1,h.2.2.aside hnew hL hW.size hlt hO⟩⟩
 ·obtain⟨he,hi1,hi2⟩:=Le hk hf
  obtain⟨i,hi⟩:∃ i:Nat,r.id=(i:Int):=⟨r.id.toNat,oX⟩
  have hil:i<P.m.ens.length:=oX
  have hgd:P.m.ens.getD r.id.toNat default=P.m.ens[i]:=by rw[hi,List.getD_eq_getElem?_getD,Int.toNat_natCast,List.getElem?_eq_getElem hil];rfl
  rw[hgd] at he
  refine(P5 (base:=base) l r hr hk (PutV base w l V P _ _ (RO r) (RB r)) (λW hW=>?_)).mono λe w' h=>h.lput
  have hgoal:=Hq (hL.below hW) l1 l2 i hil r.verdict r.tick (PutV base w l V P (Zi P.m r).1 (Qc P.n P.ps r.out) (RO r) (RB r)) (λW' hW'=>by
   rw[<-hi,<-he]
   exact hK hW W' hW')
  rw[hi]
  exact hgoal
 ·have he:=D5 hk (XG hf)
  refine(WV (base:=base) l r hr hk (PutV base w l V P _ _ (RO r) (RB r)) (λW hW=>Wk base l r.obj r.tick W _ (λW' hW'=>?_))).mono λe w' h=>h.lput
  rw[<-he]
  exact hK hW W' hW'
theorem R8(a0:Option Addr)(c0:Nat)(bs:List (List UInt8))(w:World)(hA:ArgBB w a0 c0 bs)(hl:bs.length<=1000)(h5:∀ b∈bs,b.length<=500)(ea:Nat->Addr)(H:Errs 298 errGs w ea) :
  Calls Tryz.prog 8 #[.slice a0 bs.length c0] w (ZB ea (Z5 ⟨[],[]⟩ bs).1 (Z5 ⟨[],[]⟩ bs).2 w):=by
 obtain⟨FM,hFM⟩:∃ FM,FM=Z5 ⟨[],[]⟩ bs:=⟨_,rfl⟩
 rw[<-hFM]
 obtain⟨N,hN⟩:∃ N,N=bs.length:=⟨_,rfl⟩
 rw[<-hN] at hl ⊢
 have hlN:N<=1000:=hl
 obtain⟨aO,aS,hs2,hB⟩:=Y3 w #[.slice none 0 0,.slice none 0 0] #[.slice none 0 0,.slice none 0 0] 28 28 _ rfl
 obtain⟨w2,hw2⟩:∃ w2,w2=(w.alloc (.cells #[.slice none 0 0,.slice none 0 0] 28)).alloc (.cells #[.slice none 0 0,.slice none 0 0] 28):=⟨_,rfl⟩
 rw[<-hw2] at aO aS hs2 hB
 have iS:(Tryz.prog.info? 28).map (·.size)=some 2:=kX
 have iZ:(Tryz.prog.info? 28).map (·.size)=some (#[.slice none 0 0,.slice none 0 0]:Array Value).size:=kX
 have i78:(Tryz.prog.info? 49).map (·.size)=some 78:=kX
 have z78:(Tryz.zeroCells49).size=78:=kX
 have hpost:Hid (∀ (n:Nat) (v:Value) W,Below w.heap.size w W->ErrIs ea W v n->ZB ea ⟨[],[]⟩ n w (.returned (.tuple #[.agg #[.slice none 0 0,.slice none 0 0],v])) W):=Hd (λn v W h2 h3=>⟨_,_,rfl,Y8 W,h3,h2,QV _⟩)
 replace hA:=Hd hA
 replace hFM:=Hd hFM
 replace hN:=Hd hN
 replace hw2:=Hd hw2
 replace aO:=Hd aO
 replace aS:=Hd aS
 replace hB:=Hd hB
 replace hs2:=Hd hs2
 replace h5:=Hd h5
 clear hl
 replace H:=Hd H
 go_enter Tryz.func8,Tryz.ntmps8
 go_wp2_with fail
 rw[<-hw2.out]
 clear hw2
 generalize w2=wS at*
 skip
 skip
 skip
 skip
 skip
 refine Z8 [(false,6),(true,3),(false,2),(true,24),(false,1)] _ [] (λU wr=>∃ (k:Nat) (m:St) (C:Array Value),k<=N/\U 11=.int .i64 (k:Nat)/\Below w.heap.size w wr/\wr.heap[w.heap.size]? = some (.cells #[.slice none 0 0,.slice none 0 0] 28 (0,0))/\wr.heap[w.heap.size+1]? = some (.cells C 28 (0,0))/\ArgS wr (.agg C) m/\FreshS (w.heap.size+2) (.agg C)/\Z5 ⟨[],[]⟩ (bs.take k)=(m,0)) (λU _=>N-(intOf (U 11)).toNat) ?_ ?_
 ·simp only[List.getD_cons_zero,List.getD_cons_succ]
  exact⟨0,⟨[],[]⟩,_,Nat.zero_le _,rfl,hB.out,aO.out,aS.out,Y8 _,QV _,rfl⟩
 ·clear aO aS hB
  intro U wr hrel KK hback l' hl'
  obtain⟨k,m,C,hk,hU0,hbw,bO,bS,hm,hfr,hrep⟩:=hrel
  simp only[ZU,ZG,cond_true,cond_false,Nat.reduceAdd,hU0] at hl'
  subst hl'
  have hsb:SB k m:=by
   have:=UO (bs.take k) 0 ⟨[],[]⟩ (Qu 0)
   rw[hrep] at this
   exact this.mono sYq
  have hC2:C.size=2:=by
   obtain⟨a,c,a',c',e,_⟩:=hm.form
   cases e
   rfl
  have h1C:C.all (·.oneCell')=true:=by
   obtain⟨a,c,a',c',e,_⟩:=hm.form
   cases e
   simp[Value.oneCell']
  have iC:(Tryz.prog.info? 28).map (·.size)=some C.size:=by rw[hC2];exact iS
  have hszw:=hbw.size
  replace hU0:=Hd hU0
  replace hbw:=Hd hbw
  replace bO:=Hd bO
  replace bS:=Hd bS
  replace hm:=Hd hm
  replace hfr:=Hd hfr
  replace hrep:=Hd hrep
  replace hsb:=Hd hsb
  by_cases hlt:k<N
  ·have hlt2:(k:Int)<(N:Int):=oX
   have hkN:k<bs.length:=by rw[<-hN.out];exact hlt
   obtain⟨b1,o1,rfl,ai,ci,hce,hAi⟩:=(hA.out.below hbw.out).row k hkN
   have hmem:bs.getD k []∈bs:=by rw[List.getD_eq_getElem?_getD,List.getElem?_eq_getElem hkN];exact List.getElem_mem hkN
   have hb5:=h5.out _ hmem
   have htk:bs.take (k+1)=bs.take k++[bs.getD k []]:=by rw[List.take_add_one,List.getD_eq_getElem?_getD,List.getElem?_eq_getElem hkN];rfl
   have hdrop:bs.drop k=bs.getD k []::bs.drop (k+1):=by rw[List.getD_eq_getElem?_getD,List.getElem?_eq_getElem hkN,List.drop_eq_getElem_cons hkN];rfl
   have hfull:FM=Z5 m (bs.drop k):=by rw[hFM.out,Kf bs ⟨[],[]⟩ k oX (by rw[hrep.out]),hrep.out]
   rw[hdrop,YF] at hfull
   have hsnoc:=To ⟨[],[]⟩ (bs.take k) (bs.getD k []) (by rw[hrep.out])
   rw[<-htk,hrep.out] at hsnoc
   clear hdrop htk hmem
   generalize bs.getD k []=b at*
   obtain⟨hyo,hy0,hy20,hpG⟩:=MS hb5
   have hst:Y7 m b=if (prs b).2≠0 then (⟨[],[]⟩,(prs b).2) else if (Zi m (prs b).1).2≠0 then (⟨[],[]⟩,(Zi m (prs b).1).2) else Zi m (prs b).1:=rfl
   have hcall:=Hd (hpG ai ci wr ea hAi (H.out.below hbw.out))
   have hfol:=Hd (λ(W:World) (vm:Value) (hv:ArgS W vm m) (HW:Errs 298 errGs W ea)=>Un vm m (prs b).1 hyo W hv (by have:=hsb.out.its;omega) (by have:=hsb.out.ens;omega) (λy hy=>by have:=hsb.out.us y hy;omega) ea HW)
   have hRs:(prs b).1.list.toArray.size=78:=Rc.size hyo
   have hR1:=Rc.all_one (prs b).1
   have iR:(Tryz.prog.info? 49).map (·.size)=some (prs b).1.list.toArray.size:=by rw[hRs];exact i78
   have zR:(Tryz.zeroCells49).size=(prs b).1.list.toArray.size:=by rw[hRs];exact z78
   obtain⟨L,hL⟩:∃ L,L=b.length:=⟨_,rfl⟩
   rw[<-hL] at hcall hce
   replace hL:=Hd hL
   clear hpG hAi hRs
   obtain⟨FF,hFF⟩:∃ FF,FF=Zi m (prs b).1:=⟨_,rfl⟩
   rw[<-hFF] at hfol hst
   replace hFF:=Hd hFF
   generalize hPA:(prs b).1.list.toArray=PA at*
   generalize (prs b).2=PN at*
   replace hPA:=Hd hPA
   replace hst:=Hd hst
   replace hfull:=Hd hfull
   replace hsnoc:=Hd hsnoc
   replace hyo:=Hd hyo
   replace hy0:=Hd hy0
   go_wp2_with fail
   with_reducible refine hcall.out.mono ?_
   clear hcall
   rintro e w3 ⟨v3,rfl,hv3,hb3⟩
   have hnq:=hv3.neq
   have hgd:=hv3.guard
   clear hce
   replace bO:=Hd ((hb3.block _ (Zb bO.out)).trans bO.out)
   replace bS:=Hd ((hb3.block _ (Zb bS.out)).trans bS.out)
   replace hm:=Hd (hm.out.below hb3 nR)
   have hbw3:=Hd (hbw.out.trans (hb3.mono hszw))
   have hsz3:=hbw3.out.size
   have hZ3:=Hd (heap_alloc_new w3 (.cells Tryz.zeroCells49 49))
   clear hb3
   by_cases hn0:PN=0
   rotate_left
   ·have hne:(PN != 0)=true:=by simpa using hn0
    replace hfull:=hfull.out
    rw[hst.out,if_pos hn0,if_pos hn0] at hfull
    have hfull:=Hd hfull
    rw[hne] at hnq
    clear hfol hback
    go_wp2_with (first
     | ((with_reducible refine wL (.store 49 (.tmp 7) _) ?_);(refine Zc rfl 49 (.tmp 7) (.tmp 18) rfl w3.heap.size _ PA rfl rfl hZ3 iR zR hR1 ?_);intro w4 hU4;have hb4:Below w3.heap.size w3 w4:=(Below.alloc (Below.refl w3.heap.size w3) nR _).trans (hU4.out.below nR);have aR4:=Hd hU4.out.here;have bO4:=Hd ((hb4.block _ (Zb bO.out)).trans bO.out);have bS4:=Hd ((hb4.block _ (Zb bS.out)).trans bS.out);have hm4:=Hd (hm.out.below hb4 nR);have hbw4:=Hd (hbw3.out.trans (hb4.mono hsz3));have hsz4:=hbw4.out.size;have hv4:=Hd (hv3.below hb4))
     | ((with_reducible refine wL (.store 28 (.tmp 2) _) ?_);(refine Zc rfl 28 (.tmp 2) (.tmp 22) rfl w.heap.size #[.slice none 0 0,.slice none 0 0] #[.slice none 0 0,.slice none 0 0] rfl rfl bO4 iZ rfl c5X ?_);intro w9 hU9;have hS:=Hd (hbw4.out.trans (hU9.out.below nR));have hres:=Hd hU9.out.here))
    refine Zl rfl rfl Tryz.underlying28 rfl kX hres.out ?_
    show ZB ea FM.1 FM.2 w _ _
    rw[hfull.out]
    exact hpost.out PN v3 _ hS.out (hv4.out.updS hU9.out bO4.out dX)
   obtain⟨hch,hout⟩:=hy0.out hn0
   subst hn0
   rw[show ((0:Nat) != 0)=false from rfl] at hnq
   rw[if_neg dX] at hst
   go_wp2_with (first
    | ((with_reducible refine wL (.store 49 (.tmp 7) _) ?_);(refine Zc rfl 49 (.tmp 7) (.tmp 18) rfl w3.heap.size _ PA rfl rfl hZ3 iR zR hR1 ?_);intro w4 hU4;have hb4:Below w3.heap.size w3 w4:=(Below.alloc (Below.refl w3.heap.size w3) nR _).trans (hU4.out.below nR);have aR4:=Hd hU4.out.here;have bO4:=Hd ((hb4.block _ (Zb bO.out)).trans bO.out);have bS4:=Hd ((hb4.block _ (Zb bS.out)).trans bS.out);have hm4:=Hd (hm.out.below hb4 nR);have hbw4:=Hd (hbw3.out.trans (hb4.mono hsz3));have hsz4:=hbw4.out.size;have hv4:=Hd (hv3.below hb4))
    | ((with_reducible refine wL (.load 28 (.tmp 4)) ?_);refine Zd rfl 28 (.tmp 4) rfl (w.heap.size+1) C _ rfl bS4 Tryz.underlying28 rfl iC ?_)
    | ((with_reducible refine wL (.load 49 (.tmp 7)) ?_);refine Zd rfl 49 (.tmp 7) rfl w3.heap.size PA _ rfl aR4 Tryz.underlying49 rfl iR ?_))
   with_reducible refine(hfol.out _ _ hm4.out (H.out.below hbw4.out)).mono ?_
   clear hfol hnq hgd
   rintro e w5 ⟨vm,v5,rfl,hm5,hv5,hb5,hf5⟩
   have hnq:=hv5.neq
   have hgd:=hv5.guard
   replace hv5:=Hd hv5
   obtain⟨C5,rfl⟩:∃ C5,vm=.agg C5:=by
    obtain⟨a,c,a',c',e,_⟩:=hm5.form
    exact⟨_,e⟩
   have hC5:C.size=C5.size:=by
    obtain⟨a,c,a',c',e,_⟩:=hm5.form
    cases e
    exact hC2
   have h1C5:C5.all (·.oneCell')=true:=by
    obtain⟨a,c,a',c',e,_⟩:=hm5.form
    cases e
    simp[Value.oneCell']
   have iC5:(Tryz.prog.info? 28).map (·.size)=some C5.size:=by rw[<-hC5];exact iC
   have bO5:=Hd ((hb5.block _ (Zb bO4.out)).trans bO4.out)
   have bS5:=Hd ((hb5.block _ (Zb bS4.out)).trans bS4.out)
   have hbw5:=Hd (hbw4.out.trans (hb5.mono hsz4))
   have hlt1:=Zb bS4.out
   have hf5':=Hd (hf5.mono (B':=w.heap.size+2) oX)
   replace hm5:=Hd hm5
   clear hb5 hf5
   by_cases hn1:FF.2=0
   rotate_left
   ·have hne:(FF.2 != 0)=true:=by simpa using hn1
    replace hfull:=hfull.out
    rw[hst.out,if_pos hn1,if_pos hn1] at hfull
    have hfull:=Hd hfull
    rw[hne] at hnq
    clear hback
    go_wp2_with (first
     | ((with_reducible refine wL (.store 28 (.tmp 4) _) ?_);(refine Zc rfl 28 (.tmp 4) (.tmp 28) rfl (w.heap.size+1) _ C5 rfl rfl bS5 iC5 hC5 h1C5 ?_);intro w6 hU6;have hbw6:=Hd (hbw5.out.trans (hU6.out.below oX));have bO6:=Hd ((hU6.out.block _ oX).trans bO5.out);have bS6:=Hd hU6.out.here;have hm6:=Hd (hm5.out.upd hf5'.out hU6.out oX);have hv6:=Hd (hv5.out.updS hU6.out bS5.out dX))
     | ((with_reducible refine wL (.store 28 (.tmp 2) _) ?_);(refine Zc rfl 28 (.tmp 2) (.tmp 32) rfl w.heap.size #[.slice none 0 0,.slice none 0 0] #[.slice none 0 0,.slice none 0 0] rfl rfl bO6 iZ rfl c5X ?_);intro w9 hU9;have hS:=Hd (hbw6.out.trans (hU9.out.below nR));have hres:=Hd hU9.out.here))
    refine Zl rfl rfl Tryz.underlying28 rfl kX hres.out ?_
    show ZB ea FM.1 FM.2 w _ _
    rw[hfull.out]
    exact hpost.out FF.2 v5 _ hS.out (hv6.out.updS hU9.out bO6.out dX)
   rw[if_neg (by simpa using hn1)] at hst
   rw[hn1,show ((0:Nat) != 0)=false from rfl] at hnq
   rw[hst.out,if_neg (by simpa using hn1)] at hsnoc
   replace hsnoc:=Hd hsnoc.out
   replace hn1:=Hd hn1
   clear hfull
   go_wp2_with ((with_reducible refine wL (.store 28 (.tmp 4) _) ?_);(refine Zc rfl 28 (.tmp 4) (.tmp 28) rfl (w.heap.size+1) _ C5 rfl rfl bS5 iC5 hC5 h1C5 ?_);intro w6 hU6;have hbw6:=Hd (hbw5.out.trans (hU6.out.below oX));have bO6:=Hd ((hU6.out.block _ oX).trans bO5.out);have bS6:=Hd hU6.out.here;have hm6:=Hd (hm5.out.upd hf5'.out hU6.out oX);have hv6:=Hd (hv5.out.updS hU6.out bS5.out dX))
   refine hback.out _ _ kX ?_ ?_
   ·simp only[List.getD_cons_zero,List.getD_cons_succ]
    exact⟨k+1,FF.1,C5,oX,by go_num,hbw6.out,bO6.out,bS6.out,hm6.out,hf5'.out,hsnoc.out⟩
   ·have hU0:=hU0.out
    simp only[List.getD_cons_zero,List.getD_cons_succ,hU0,intOf]
    omega
  ·obtain rfl:k=N:=oX
   have hfull:=Hd (show FM=(m,0) by rw[hFM.out,<-hrep.out,hN.out,List.take_length])
   clear hback
   have hCz:(#[.slice none 0 0,.slice none 0 0]:Array Value).size=C.size:=by rw[hC2];rfl
   go_wp2_with (first
    | ((with_reducible refine wL (.load 28 (.tmp 4)) ?_);refine Zd rfl 28 (.tmp 4) rfl (w.heap.size+1) C _ rfl bS Tryz.underlying28 rfl iC ?_)
    | ((with_reducible refine wL (.store 28 (.tmp 2) _) ?_);(refine Zc rfl 28 (.tmp 2) (.tmp 35) rfl w.heap.size _ C rfl rfl bO iC hCz h1C ?_);intro w9 hU9;have hS:=Hd (hbw.out.trans (hU9.out.below nR));have hres:=Hd hU9.out.here))
   refine Zl rfl rfl Tryz.underlying28 rfl iC hres.out ?_
   show ZB ea FM.1 FM.2 w _ _
   rw[hfull.out]
   exact⟨_,_,rfl,hm.out.upd hfr.out hU9.out oX,.inl ⟨rfl,rfl⟩,hS.out,hfr.out.mono oX⟩
set_option linter.unusedSimpArgs false
def DQ(base:Nat)(w:World)(B mb mn:Nat)(v:Value)(q:DP)(recs:List (List UInt8))(e:Ending)(w':World):Prop:=
 Only (Zw B mb v) w w'/\
 (((Z5 ⟨[],[]⟩ recs).2=0/\∃ l V,e=.returned (.tuple #[.pointer (some ⟨l,0,none⟩),.nilIface])/\LdM base w' l V ⟨q,recs,recs.length,false,recs.length,QN 0 [] recs,(Z5 ⟨[],[]⟩ recs).1⟩/\V.B=B/\V.mb=mb/\V.mn<=mn+20000/\∀ k,LdD l V k->Zw B mb v k\/w.heap.size<=k)\/
 ((Z5 ⟨[],[]⟩ recs).2≠0/\∃ u mn' v',e=.returned (.tuple #[.pointer none,u])/\JI u/\DM base w' B mb mn' v' q/\mn'<=mn+20000/\∀ k,Zw B mb v' k->Zw B mb v k\/w.heap.size<=k))
theorem Ma(l:List (List UInt8)):34*l.length<=Zh l:=by
 unfold Zh
 induction l with
 | nil=>exact Nat.le_refl _
 | cons q l ih=>simp only[List.length_cons,List.map_cons,List.sum_cons];omega
theorem Db{base:Nat}{w:World}{B mb mn:Nat}{v:Value}{p:DP}{e ea:Nat->Addr}(h:DM base w B mb mn v p)(hb:base<=w.heap.size)(n:Nat)(hpn:p.n=(n:Int))(h1:1<=n)(hn:n<=100)(hws:p.ws=[])(hmn:mn<=60000)(hpl : -100000<=p.l/\p.l<=100000)(ha:p.armed=false)(hg:p.gone=false)(hBE:13≠B)(hok:DOk p)(hE:EnvL base w e ea) :
  Calls Tryz.prog 28 #[.pointer (some ⟨B,0,none⟩)] w (DQ base w B mb mn v (X2 n p) (Z1 p)):=by
 have hop:=Hd (MF h hb n hpn h1 oX (by rw[hws];decide) hmn hpl ha hg e hBE hE.d (hE.s w bR).1 (hE.s w bR).2)
 obtain⟨_,hend,_,_⟩:=GX hok hpn ha hg hws
 have hokR:=Gu p
 have h34:=Ma (Z1 p)
 generalize X2 n p=q at*
 generalize Z1 p=recs at*
 obtain⟨N,hN⟩:∃ N,N=recs.length:=⟨_,rfl⟩
 have hN2:N<=200:=oX
 have iS:(Tryz.prog.info? 28).map (·.size)=some 2:=kX
 have hfin0:Hid (∀ x W,Only (Zw B mb v) w W->((Z5 ⟨[],[]⟩ recs).2≠0/\∃ u mn' v',x=.returned (.tuple #[.pointer none,u])/\JI u/\DM base W B mb mn' v' q/\mn'<=mn+20000/\∀ k,Zw B mb v' k->Zw B mb v k\/w.heap.size<=k)->DQ base w B mb mn v q recs x W):=Hd (λx W a b=>⟨a,.inr b⟩)
 replace h:=Hd h
 replace hE:=Hd hE
 replace hokR:=Hd hokR
 replace hN:=Hd hN
 clear h34 hend hok hpl hmn hws hpn ha hg
 go_enter Tryz.func28,Tryz.ntmps28
 go_wp2_with fail
 with_reducible refine hop.out.mono ?_
 clear hop
 rintro x w2 ⟨J,rv,F,v2,mn2,rfl,hm2,hj2,hs2,hnew2⟩
 have hO2:Only (Zw B mb v) w w2:=hs2.only
 have hb2:Below base w w2:=hs2.below h.out hb
 have hz2:base<=w2.heap.size:=Nat.le_trans hb hb2.size
 have hwz2:=hb2.size
 have hre:=Hd (X0 hj2.jm (by rw[<-hN.out];omega))
 have hnd:=Hd hs2.new
 replace hj2:=Hd hj2
 replace hb2:=Hd hb2
 replace hm2:=Hd hm2
 replace hO2:=Hd hO2
 replace hnew2:=Hd hnew2
 clear hs2
 go_wp2_with fail
 with_reducible refine hre.out.mono ?_
 clear hre
 rintro x w3 ⟨v3,F3,rfl,hrow,hF3,hb3⟩
 obtain⟨a3,c3,rfl,hA3⟩:=hrow.argBB
 have hB3:=hb2.out.trans (hb3.mono hz2)
 have hj3:=Hd (hj2.out.below hb3)
 have hO3:=Hd (hO2.out.trans (Only.ofBelow (D:=Zw B mb v) hb3) (λ_ _ h=>h))
 have hrp:Calls Tryz.prog 8 #[.slice a3 recs.length c3] w3 (ZB ea (Z5 ⟨[],[]⟩ recs).1 (Z5 ⟨[],[]⟩ recs).2 w3):=R8 a3 c3 recs w3 hA3 (by rw[<-hN.out];omega) (λb hb=>by have:=(hokR.out b hb).2;omega) ea (hE.out.h w3 hB3)
 obtain⟨RR,hRR⟩:∃ RR,RR=Z5 ⟨[],[]⟩ recs:=⟨_,rfl⟩
 rw[<-hRR] at hrp hfin0
 rw[<-hN.out] at hrp ⊢
 replace hRR:=Hd hRR
 replace hrp:=Hd hrp
 replace hB3:=Hd hB3
 have hz3:=hb3.size
 clear hrow hF3 hb3 hA3
 go_wp2_with fail
 with_reducible refine hrp.out.mono ?_
 clear hrp
 rintro x w4 ⟨vm,v4,rfl,hm4,hv4,hb4,hf4⟩
 obtain⟨a4,c4,a5,c5,hvm⟩:=hm4.shape
 subst hvm
 have hnq:=hv4.neq
 have hgd:=hv4.guard
 have hB4:=Hd (hB3.out.trans (hb4.mono (Nat.le_trans hb hB3.out.size)))
 have hj4:=Hd (hj3.out.below hb4)
 have hO4:=Hd (hO3.out.trans (Only.ofBelow (D:=Zw B mb v) hb4) (λ_ _ h=>h))
 have hZ4:=Hd (heap_alloc_new w4 (.cells #[.slice none 0 0,.slice none 0 0] 28))
 have iC:(Tryz.prog.info? 28).map (·.size)=some (#[.slice a4 RR.1.its.length c4,.slice a5 RR.1.ens.length c5]:Array Value).size:=kX
 have hz4:=hb4.size
 replace hm4:Hid (ArgS w4 (.agg #[.slice a4 RR.1.its.length c4,.slice a5 RR.1.ens.length c5]) RR.1):=Hd hm4
 replace hf4:=Hd (hf4.mono (show w2.heap.size<=w3.heap.size from hz3))
 have hz34:=Hd (show w2.heap.size<=w4.heap.size by omega)
 clear hb4
 obtain⟨w5,hw5e⟩:∃ w5,w5=w4.alloc (.cells #[.slice a4 RR.1.its.length c4,.slice a5 RR.1.ens.length c5] 28):=⟨_,rfl⟩
 have hb5:Below w4.heap.size w4 w5:=by rw[hw5e];exact bR.alloc nR _
 have hs5:w5.heap.size=w4.heap.size+1:=by rw[hw5e];simp
 have aS5:Hid (w5.heap[w4.heap.size]? = some (.cells #[.slice a4 RR.1.its.length c4,.slice a5 RR.1.ens.length c5] 28 (0,0))):=Hd (by rw[hw5e];exact heap_alloc_new w4 _)
 have hj5:=Hd (hj4.out.below hb5)
 have hm5:=Hd (hm4.out.below hb5 nR)
 have hB5:=Hd (hB4.out.trans (hb5.mono (Nat.le_trans hb hB4.out.size)))
 have hO5:=Hd (hO4.out.trans (Only.ofBelow (D:=Zw B mb v) hb5) (λ_ _ h=>h))
 by_cases hR0:RR.2=0
 rotate_left
 ·have hne:(RR.2 != 0)=true:=by simpa using hR0
  rw[hne] at hnq
  have hNe:=Hd (show JI v4 from⟨hnq,hgd⟩)
  replace hw5e:=Hd hw5e
  replace hR0:=Hd hR0
  clear hb5 hs5 hv4
  go_wp2_with fail
  go_ret2
  rw[<-hw5e.out]
  exact hfin0.out _ _ hO5.out ⟨hR0.out,_,mn2,v2,rfl,hNe.out,hj5.out.dm,hm2.out,hnd.out⟩
 have hne:(RR.2 != 0)=false:=by simpa using hR0
 rw[hne] at hnq
 have hgn:=Hd (U7 w5)
 replace hw5e:=Hd hw5e
 replace hs5:=Hd hs5
 replace hv4:=Hd hv4
 clear hb5 hZ4 hfin0
 go_upto_region 7 with fail
 rw[<-hw5e.out]
 go_wp2_with fail
 with_reducible refine hgn.out.mono ?_
 clear hgn hnq hgd
 rintro x w6 ⟨rfl,hf6,hb6⟩
 have aS6:=Hd ((hb6.block _ (Zb aS5.out)).trans aS5.out)
 have hj6:=Hd (hj5.out.below hb6)
 have hm6:=Hd (hm5.out.below hb6 nR)
 have hB6:=Hd (hB5.out.trans (hb6.mono (Nat.le_trans hb hB5.out.size)))
 have hO6:=Hd (hO5.out.trans (Only.ofBelow (D:=Zw B mb v) hb6) (λ_ _ h=>h))
 have hre:=Hd (X0 hj6.out.jm (by rw[<-hN.out];omega))
 have hlf6:=Zb hf6.at_
 replace hf6:=Hd hf6
 clear hb6
 go_wp2_with fail
 with_reducible refine hre.out.mono ?_
 clear hre
 rintro x w7 ⟨v7,F7,rfl,hrow,hF7,hb7⟩
 obtain⟨a7,c7,rfl,_⟩:=hrow.argBB
 have aS7:=Hd ((hb7.block _ (Zb aS6.out)).trans aS6.out)
 have hj7:=Hd (hj6.out.below hb7)
 have hm7:=Hd (hm6.out.below hb7 nR)
 have hf7:=hf6.out.below hb7
 have hB7:=Hd (hB6.out.trans (hb7.mono (Nat.le_trans hb hB6.out.size)))
 have hO7:=Hd (hO6.out.trans (Only.ofBelow (D:=Zw B mb v) hb7) (λ_ _ h=>h))
 have hz7:=hb7.size
 have hfr7:FrM base w7 w5.heap.size 0 (.slice none 0 0) []:=⟨hf7.at_,RowsOf.nil _ _,by simp[Value.ownBlock],by have:=hB5.out.size;omega⟩
 rw[<-hN.out]
 rw[<-hN.out] at hrow
 replace hfr7:=Hd hfr7
 replace hrow:=Hd hrow
 replace hF7:=Hd hF7
 clear hb7 hf7
 go_wp2_with fail
 refine Z8 [(false,9),(true,2),(false,21),(true,11),(false,5)] _ [] (λU wr=>∃ (k:Nat) (fv:Value),k<=N/\U 32=.int .i64 (k:Nat)/\FrM base wr w5.heap.size k fv (QN 0 [] (recs.take k))/\Only (λb=>b=w5.heap.size) w7 wr/\∀ b,fv.ownBlock=some b->w7.heap.size<=b) (λU _=>N-(intOf (U 32)).toNat) ?_ ?_
 ·simp only[List.getD_cons_zero,List.getD_cons_succ]
  exact⟨0,_,Nat.zero_le _,rfl,hfr7.out,Only.refl _ _,λb hb=>by simp[Value.ownBlock] at hb⟩
 ·clear hfr7
  intro U wr hrel KK hback l' hl'
  obtain⟨k,fv,hk,hU0,hfr,hOr,hfv⟩:=hrel
  simp only[ZU,ZG,cond_true,cond_false,Nat.reduceAdd,hU0] at hl'
  subst hl'
  replace hU0:=Hd hU0
  have hBr:Below base w wr:=hB7.out.trans (hOr.below (by have:=hB7.out.size;omega) (λb e=>by subst e;exact hfr.ge))
  have hrowr:=hrow.out.only liesRB hOr (λb hb e=>by have:=hF7.out b hb;omega) (λb hb e=>by have:=(hrow.out.ownLt b hb).1;omega)
  by_cases hlt:k<N
  ·have hlt2:(k:Int)<(N:Int):=oX
   have hkN:k<recs.length:=by rw[<-hN.out];exact hlt
   obtain⟨a8,c8,e8,hA8⟩:=hrowr.argBB
   rw[<-hN.out] at e8
   cases e8
   obtain⟨b1,o1,rfl,ai,ci,hce,hAi⟩:=hA8.row k hkN
   have htk:recs.take (k+1)=recs.take k++[recs.getD k []]:=by rw[List.take_add_one,List.getD_eq_getElem?_getD,List.getElem?_eq_getElem hkN];rfl
   have hlk:(recs.take k).length=k:=by rw[List.length_take];omega
   have hpk:QN 0 [] (recs.take (k+1))=Qc k (QN 0 [] (recs.take k)) (recs.getD k []):=by rw[htk,JV,hlk,Nat.zero_add]
   have hones:(QN 0 [] (recs.take k)).length=ZX 64 k:=by
    have:=Vd (recs.take k) 0 [] (by rw[hlk];omega) rfl
    rw[this,hlk,Nat.zero_add]
   have hmem:recs.getD k []∈recs:=by rw[List.getD_eq_getElem?_getD,List.getElem?_eq_getElem hkN];exact List.getElem_mem hkN
   have hb4:=(hokR.out _ hmem).2
   have hgr:=VI hfr (Nat.le_trans hb hBr.size) oX hones ai ci _ hAi oX (λW hW=>(hE.out.s W (hBr.trans hW)).1) (λW hW=>(hE.out.s W (hBr.trans hW)).2)
   rw[<-hpk] at hgr
   clear htk hpk hmem hones hlk
   generalize recs.getD k []=b at*
   obtain⟨L,hL⟩:∃ L,L=b.length:=⟨_,rfl⟩
   rw[<-hL] at hgr hce
   replace hL:=Hd hL
   replace hgr:=Hd hgr
   replace hOr:=Hd hOr
   replace hfv:=Hd hfv
   replace hfr:=Hd hfr
   have hzr:=hOr.out.size
   replace hBr:=Hd hBr
   clear hrowr hA8 hAi
   go_wp2_with fail
   with_reducible refine hgr.out.mono ?_
   clear hgr
   rintro x w8 ⟨rfl,fv8,hf8,ho8,hn8⟩
   have hO8:=Hd (hOr.out.trans ho8 (λb' hb' hd=>by
    rcases hd with hd|hd
    ·exact hd
    ·have:=hfv.out b' hd;omega))
   have hfv8:=Hd (λb' hb'=>show w7.heap.size<=b' from by
    rcases hn8 b' hb' with (hd|hd)|hd
    ·exact absurd (hd▸hb') hf8.nv
    ·exact hfv.out b' hd
    ·omega)
   replace hf8:=Hd hf8
   clear hce ho8 hn8
   go_wp2_with fail
   refine hback.out _ _ kX ?_ ?_
   ·simp only[List.getD_cons_zero,List.getD_cons_succ]
    exact⟨k+1,fv8,oX,by congr 1,hf8.out,hO8.out,hfv8.out⟩
   ·have:=hU0.out
    simp only[List.getD_cons_zero,List.getD_cons_succ,this,intOf]
    omega
  ·obtain rfl:k=N:=oX
   have hnlt:¬((k:Int)<(k:Int)):=oX
   rw[hN.out,List.take_length,<-hN.out] at hfr
   have aSr:=Hd (hOr.heap aS7.out (λe=>by have:=hs5.out;omega))
   replace hfr:=Hd hfr
   have hzr:=hOr.size
   replace hOr:=Hd hOr
   replace hfv:=Hd hfv
   replace hBr:=Hd hBr
   clear hrowr
   go_wp2_with ((with_reducible refine wL (.load 28 (.tmp 6)) ?_);refine Zd rfl 28 (.tmp 6) rfl w4.heap.size #[.slice a4 RR.1.its.length c4,.slice a5 RR.1.ens.length c5] _ rfl aSr Tryz.underlying28 rfl iC ?_)
   go_ret2
   obtain⟨C,hC⟩:∃ C,C=(#[.pointer (some ⟨J,0,none⟩),.slice a4 RR.1.its.length c4,.slice a5 RR.1.ens.length c5,.pointer (some ⟨w5.heap.size,0,none⟩)]:Array Value):=⟨_,rfl⟩
   have hG:Below wr.heap.size wr (wr.alloc (.cells C 124)):=bR.alloc nR _
   have hat:=heap_alloc_new wr (.cells C 124 (0,0))
   rw[<-hC]
   have w1:=hs5.out
   have w2':=hz34.out
   have wB:=hB7.out.size
   have hJlt:∀ k,JF J F rv k\/Zw B mb v2 k->base<=k/\k<w2.heap.size:=λk hk=>hk.elim (hj2.out.jm.lt k) (hj2.out.dm.lt k)
   have hSlt:∀ k,SD (.slice a4 RR.1.its.length c4) (.slice a5 RR.1.ens.length c5) k->w2.heap.size<=k/\k<w4.heap.size:=λk hk=>⟨hf4.out.sd hm4.out k hk,hm4.out.sd_lt k hk⟩
   have hFlt:∀ k,FrD w5.heap.size fv k->k=w5.heap.size\/w7.heap.size<=k:=λk hk=>hk.imp id (hfv.out k)
   have hjr:=hj7.out.only hOr.out (λk hk e=>by have:=(hJlt k (.inl hk)).2;omega) (λk hk e=>by have:=(hJlt k (.inr hk)).2;omega)
   have hmr:=hm7.out.only hOr.out (λk hk e=>by have:=(hSlt k hk).2;omega)
   have hb0:=hb2.out.size
   have hOf:Only (Zw B mb v) w (wr.alloc (.cells C 124)):=(hO7.out.trans hOr.out (λk hk e=>by omega)).trans (Only.ofBelow (D:=Zw B mb v) hG) (λ_ _ h=>h)
   refine⟨hOf,.inl ⟨by rw[<-hRR.out];exact hR0,wr.heap.size,⟨J,B,mb,mn2,w5.heap.size,v2,rv,fv,.slice a4 RR.1.its.length c4,.slice a5 RR.1.ens.length c5,F⟩,rfl,?_,rfl,rfl,hm2.out,?_⟩⟩
   ·rw[<-hRR.out]
    refine⟨hjr.below hG,by rw[<-hC];exact hat,hmr.below hG nR,?_,by have:=hBr.out.size;omega,λk hk=>by have:=(hSlt k hk).1;omega,λhk=>by have:=(hSlt _ hk).2;omega,λhk=>by have:=(hfr.out.lt _ hk).2;omega,λhk=>by have:=(hJlt _ hk).2;omega,λk hk hd=>?_,λk hk hd=>?_,λk hk hd=>?_⟩
    ·have:=hfr.out.below hG
     rwa [hN.out] at this
    ·have:=(hSlt k hk).2
     rcases hFlt k hd with q|q<;>omega
    ·have:=(hSlt k hk).1
     have:=(hJlt k hd).2
     omega
    ·have:=(hJlt k hd).2
     rcases hFlt k hk with q|q<;>omega
   ·rintro k (hk|hk|hk|hk|hk)
    ·exact .inr (by rw[hk];omega)
    ·exact .inr (by have:=(hSlt k hk).1;omega)
    ·exact .inr (by rcases hFlt k hk with q|q<;>omega)
    ·exact .inr (hnew2.out k hk)
    ·exact hnd.out k hk
set_option linter.unusedSimpArgs false
theorem Vr{base:Nat}{w:World}{l:Nat}{V:LV}{P:LP}(h:LdM base w l V P)(hn:P.recs.length<=100000):Calls Tryz.prog 25 #[.pointer (some ⟨l,0,none⟩)] w (M6 w P.recs):=by
 have c0:w.cell? ⟨l,0,none⟩=some (.pointer (some ⟨V.J,0,none⟩)):=by rw[Za h.at_];rfl
 have hr:=Hd (X0 h.jd.jm hn)
 clear h hn
 go_enter Tryz.func25,Tryz.ntmps25
 go_wp2_with fail
 with_reducible refine hr.out.mono ?_
 clear hr
 rintro x w3 ⟨v3,F3,rfl,hrow,hF3,hb3⟩
 replace hrow:=Hd hrow
 replace hF3:=Hd hF3
 replace hb3:=Hd hb3
 go_wp2_with fail
 go_ret
 exact⟨_,F3,rfl,hrow.out,hF3.out,hb3.out⟩
theorem US{base:Nat}{w:World}{l:Nat}{V:LV}{P:LP}(h:LdM base w l V P):Calls Tryz.prog 26 #[.pointer (some ⟨l,0,none⟩)] w λx w'=>x=.returned (.bool P.dead)/\w=w':=by
 have c0:w.cell? ⟨l,0,none⟩=some (.pointer (some ⟨V.J,0,none⟩)):=by rw[Za h.at_];rfl
 have hr:=Hd (Wv h.jd.jm)
 clear h
 go_enter Tryz.func26,Tryz.ntmps26
 go_wp2_with fail
 with_reducible refine hr.out.mono ?_
 clear hr
 rintro x w3 ⟨rfl,hq⟩
 obtain rfl:=hq
 go_wp2_with fail
 go_ret
 exact⟨rfl,rfl⟩
theorem NC{base:Nat}{w:World}{B mb mn:Nat}{v:Value}{p:DP}(h:DM base w B mb mn v p)(h1:1<=p.n)(hn:p.n<=1000)(hws:p.ws=[])(qs:List (List UInt8))(hq:∀ r∈qs,r.length<=1000)(a2:Option Addr)(c2:Nat)(hA:ArgBB w a2 c2 qs)(hRK:RefK w)(hRF:RefF w) :
  Calls Tryz.prog 31 #[.slice a2 qs.length c2,.pointer (some ⟨B,0,none⟩)] w λx w'=>x=.returned (.bool (!(Yh (Z1 p) qs)&&XU z32J (Z1 p) qs))/\Below w.heap.size w w':=by
 obtain⟨w1,hw1⟩:∃ w1,w1=w.alloc (.cells #[] 5):=⟨_,rfl⟩
 have hB1:Below w.heap.size w w1:=by rw[hw1];exact bR.alloc nR _
 have hown1:OwnB w.heap.size w1 (.slice (some ⟨w.heap.size,0,none⟩) 0 0) []:=by rw[hw1];exact TJ w [] #[] rfl dX
 have hs1:w1.heap.size=w.heap.size+1:=by rw[hw1];simp
 have h':=h.below hB1
 have hsz:=Hd (Vn B p.n w1 h'.sizeCell)
 obtain⟨L,hL⟩:∃ L:Nat,p.n=(L:Int):=⟨p.n.toNat,oX⟩
 have hLa:Z7 p=Qt p L:=by unfold Z7;rw[hL];rfl
 have hsu:=λW (hW:DM base W B mb mn v p) (i:Int) h0 h1=>Ly hW oX i h0 h1
 have hseen:∀ k:Nat,ZR p.ws p.f (k:Int)=p.f (k:Int):=λk=>by rw[hws];rfl
 have hlen:=h.seenLen
 have hlto:=h.seenToLen
 rw[hL] at hsz
 have hLn:L<=1000:=oX
 have hsu2:∀ W (_:DM base W B mb mn v p) (k:Nat),k<L->_:=λW hW k hk=>hsu W hW (k:Int) oX oX
 have hR:Z1 p=ZC (Qt p L) z32J:=by unfold Z1;rw[hLa]
 have hRl:∀ r∈ZC (Qt p L) z32J,r.length<=1000:=λr hr=>by have:=(Gd _ _ _ (Nat.lt_succ_self _) r hr).2;omega
 rw[hR]
 obtain⟨Q,hQ⟩:∃ Q,Q=qs.length:=⟨_,rfl⟩
 rw[<-hQ]
 replace h:=Hd h
 replace hsu2:=Hd hsu2
 replace hlen:=Hd hlen
 replace hlto:=Hd hlto
 replace hseen:=Hd hseen
 replace hL:=Hd hL
 replace hA:=Hd hA
 replace hQ:=Hd hQ
 replace hRK:=Hd hRK
 replace hRF:=Hd hRF
 replace hq:=Hd hq
 replace hRl:=Hd hRl
 replace hw1:=Hd hw1
 replace hown1:=Hd hown1
 replace hB1:=Hd hB1
 replace hs1:=Hd hs1
 clear hLa hsu h1 hn hws h' hR
 go_enter Tryz.func31,Tryz.ntmps31
 go_upto_region 2 with fail
 rw[<-hw1.out]
 go_wp2_with fail
 with_reducible refine hsz.out.mono ?_
 rintro e w1 ⟨rfl,hq1⟩
 obtain rfl:=hq1
 clear hsz
 go_wp2_with fail
 refine Z8 [(false,5),(true,4),(false,5),(true,15),(false,14)] _ [] (λU wr=>∃ k:Nat,k<=L/\U 14=.int .i64 k/\OwnB w.heap.size wr (U 5) (Qt p k)/\Below w.heap.size w wr)
  (λU _=>L-(intOf (U 14)).toNat) ?_ ?_
 ·simp only[List.getD_cons_zero,List.getD_cons_succ]
  exact⟨0,Nat.zero_le _,rfl,hown1.out,hB1.out⟩
 ·clear hown1
  intro U wr hrel KK hback l' hl'
  obtain⟨k,hk,h10,hown,hbel⟩:=hrel
  simp only[ZU,ZG,cond_true,cond_false,Nat.reduceAdd,h10] at hl'
  generalize hv5:U 5=vo at*
  subst hl'
  replace h10:=Hd h10
  replace hv5:=Hd hv5
  have hszr:=hbel.size
  by_cases hlt:k<L
  ·have hlt2:(k:Int)<L:=oX
   have hr:=hsu2.out wr (h.out.below hbel) k hlt
   rw[<-hseen.out k] at hr
   replace hr:=Hd hr
   have hsn:=Hd (Xx p k)
   have hl64:=hlen.out (k:Int)
   have hsl:(Qt p k).length<=1000000:=by rw[hlto.out];omega
   generalize ZR p.ws p.f (k:Int)=sb at*
   generalize Qt p k=so at*
   replace hown:=Hd hown
   replace hbel:=Hd hbel
   replace hl64:=Hd hl64
   go_wp2_with fail
   with_reducible refine hr.out.mono ?_
   rintro e w2 ⟨g,rfl,hrb,hgl,hb2⟩
   clear hr
   have ho2:=Hd (hown.out.below hb2 nR)
   have ha2:=Hd (hrb.argB hl64.out)
   have hb2w:=Hd (hbel.out.trans (hb2.mono hszr))
   have hs2:=hb2.size
   have hbs2:w.heap.size<=w2.heap.size:=oX
   clear hb2 hrb hown
   go_wp2_with (at_builtin;go_must (refine YU rfl (.tmp 25) (.tmp 26) rfl w.heap.size _ so rfl ho2 _ _ sb 64 rfl hl64 ha2 hsl dX hbs2 ?_);intro v3 w3 ho3 hb3)
   refine hback.out _ _ kX ?_ ?_
   ·simp only[List.getD_cons_zero,List.getD_cons_succ]
    exact⟨k+1,oX,by go_num,by rw[hsn.out];exact ho3.out,hb2w.out.trans hb3.out⟩
   ·have h10:=h10.out
    simp only[List.getD_cons_zero,List.getD_cons_succ,h10,intOf]
    omega
  ·obtain rfl:k=L:=oX
   obtain⟨a5,c5,rfl,hA5,_⟩:=hown.arg
   have hrs:=WT (Qt p k) (by rw[hlto.out];omega) a5 c5 wr hA5 (hRK.out.below hbel) (hRF.out.below hbel)
   obtain⟨M,hM⟩:∃ M,M=(Qt p k).length:=⟨_,rfl⟩
   rw[<-hM] at hrs
   obtain⟨SS,hSS⟩:∃ SS,SS=Qt p k:=⟨_,rfl⟩
   rw[<-hSS] at hrs hM hRl
   replace hSS:=Hd hSS
   replace hrs:=Hd hrs
   replace hbel:=Hd hbel
   replace hM:=Hd hM
   clear hown hA5 hlto
   have hMM:=hM.out
   rw[hSS.out] at hMM
   rw[<-hMM]
   clear hMM
   go_wp2_with fail
   with_reducible refine hrs.out.mono ?_
   clear hrs
   rintro e w2 ⟨v2,F2,rfl,hrow,hF2,hb2⟩
   obtain⟨a6,c6,rfl,hA6⟩:=hrow.argBB
   have hb2w:=hbel.out.trans (hb2.mono hszr)
   have hA7:=hA.out.below hb2w
   have hbg:=Rz (ZC SS z32J) qs a6 a2 c6 c2 w2 hA6 hA7
   have hod:=λW (hW:Below w2.heap.size w2 W)=>Bq (ZC SS z32J) qs hRl.out hq.out a6 a2 c6 c2 W (hA6.below hW) (hA7.below hW) ((hRK.out.below hb2w).below hW) ((hRF.out.below hb2w).below hW)
   rw[<-hQ.out] at hbg hod
   obtain⟨S,hS⟩:∃ S,S=(ZC SS z32J).length:=⟨_,rfl⟩
   rw[<-hS] at hbg hod
   obtain⟨OD,hOD⟩:∃ OD,OD=XU z32J (ZC SS z32J) qs:=⟨_,rfl⟩
   rw[<-hOD] at hod
   replace hOD:=Hd hOD
   have hs2:=hb2.size
   replace hbg:=Hd hbg
   replace hod:=Hd hod
   replace hb2w:=Hd hb2w
   replace hS:=Hd hS
   clear hrow hF2 hb2 hA6 hA7
   rw[<-hS.out]
   cases hbb:Yh (ZC SS z32J) qs with
   | true=>
    rw[hbb] at hbg
    go_wp2_with fail
    with_reducible refine hbg.out.mono ?_
    rintro e w3 ⟨rfl,n3,rfl⟩
    clear hbg hod
    go_wp2_with fail
    go_ret
    exact⟨by rw[<-hSS.out,hbb];rfl,hb2w.out.trans (Drawn.below ⟨n3,rfl⟩ _)⟩
   | false=>
    rw[hbb] at hbg
    go_wp2_with fail
    with_reducible refine hbg.out.mono ?_
    rintro e w3 ⟨rfl,n3,rfl⟩
    have hb3:Below w2.heap.size w2 (w2.drewN n3):=Drawn.below ⟨n3,rfl⟩ _
    have hod3:=Hd (hod.out _ hb3)
    have hb3w:=Hd (hb2w.out.trans (hb3.mono oX))
    clear hbg hod hb3
    go_wp2_with fail
    with_reducible refine hod3.out.mono ?_
    rintro e w4 ⟨rfl,hb4⟩
    have hb4w:=Hd (hb3w.out.trans (hb4.mono hb3w.out.size))
    clear hod3 hb4
    go_wp2_with fail
    go_ret
    exact⟨by rw[<-hSS.out,hbb,hOD.out];rfl,hb4w.out⟩
set_option linter.unusedSimpArgs false
theorem ActL.list_one(x:ActL):∀ u∈x.list,u.oneCell'=true:=by
 intro u hu
 unfold ActL.list at hu
 rcases List.mem_append.1 hu with h|h
 ·simp only[List.mem_cons,List.not_mem_nil,or_false] at h
  rcases h with h|h|h|h|h|h|h|h<;>subst h<;>rfl
 rcases List.mem_append.1 h with h|h
 ·exact P6.one _ u h
 rcases List.mem_append.1 h with h|h
 ·exact ZI _ u h
 rcases List.mem_append.1 h with h|h
 ·exact ZI _ u h
 simp only[List.mem_cons,List.not_mem_nil,or_false] at h
 rcases h with h|h|h<;>subst h<;>rfl
theorem ActL.size{x:ActL}(h:x.Ok):x.list.toArray.size=81:=by rw[List.size_toArray,ActL.len h.t1 h.t2]
structure ArgL (w:World) (a:Option Addr) (xs:List ActL):Prop where
 row:RowAt ActL.list 81 w a xs
 ok:∀ x∈xs,x.Ok
theorem ArgL.below{w w':World}{a:Option Addr}{xs:List ActL}(h:ArgL w a xs)(hb:Below w.heap.size w w'):ArgL w' a xs:=
 ⟨λk hk=>by obtain⟨b,o,e,hr⟩:=h.row k hk;exact⟨b,o,e,Q2 hr hb nR⟩,h.ok⟩
def DT(w:World)(m:Nat)(xs:List ActL)(x:Ending)(w':World):Prop:=∃ r,x=.returned (.bool r)/\(r=false->xs.length<=m/\∀ x∈xs,x.name.size<=100)/\Below w.heap.size w w'
theorem Pe(a0:Option Addr)(c0:Nat)(xs:List ActL)(m:Nat)(hm:m<=1000)(w:World)(hA:ArgL w a0 xs) :
  Calls Tryz.prog 20 #[.slice a0 xs.length c0,.int .i64 (m:Int)] w (DT w m xs):=by
 obtain⟨N,hN⟩:∃ N,N=xs.length:=⟨_,rfl⟩
 rw[<-hN]
 have zA:(Tryz.zeroCells80).size=81:=kX
 have iA:(Tryz.prog.info? 80).map (·.size)=some 81:=kX
 replace hA:=Hd hA
 replace hN:=Hd hN
 by_cases hlm:m<N
 ·have hlm2:(m:Int)<(N:Int):=oX
  go_enter Tryz.func20,Tryz.ntmps20
  go_wp2_with fail
  go_ret
  exact⟨true,rfl,λh=>(by cases h),Below.refl _ _⟩
 ·have hlm2:¬((m:Int)<(N:Int)):=oX
  go_enter Tryz.func20,Tryz.ntmps20
  go_wp2_with fail
  refine Z8 [(false,6),(true,1),(false,6),(true,9)] _ [] (λU wr=>∃ k:Nat,k<=N/\U 13=.int .i64 k/\Below w.heap.size w wr/\∀ x∈xs.take k,x.name.size<=100) (λU _=>N-(intOf (U 13)).toNat) ?_ ?_
  ·simp only[List.getD_cons_zero,List.getD_cons_succ]
   exact⟨0,Nat.zero_le _,rfl,Below.refl _ _,λx hx=>by simp at hx⟩
  ·intro U wr hrel KK hback l' hl'
   obtain⟨k,hk,hU0,hbw,hsm⟩:=hrel
   simp only[ZU,ZG,cond_true,cond_false,Nat.reduceAdd,hU0] at hl'
   subst hl'
   replace hU0:=Hd hU0
   have hszw:=hbw.size
   by_cases hlt:k<N
   ·have hlt2:(k:Int)<(N:Int):=oX
    have hkN:k<xs.length:=by rw[<-hN.out];exact hlt
    obtain⟨b1,o1,rfl,hr⟩:=(hA.out.below hbw).row k hkN
    have hok:=hA.out.ok _ (List.getElem_mem hkN)
    have htk:xs.take (k+1)=xs.take k++[xs[k]]:=by rw[List.take_add_one,List.getElem?_eq_getElem hkN];rfl
    generalize xs[k]=x at*
    obtain⟨XA,hXA⟩:∃ XA,XA=x.list.toArray:=⟨_,rfl⟩
    have hs:XA.size=81:=by rw[hXA];exact ActL.size hok
    have iX:(Tryz.prog.info? 80).map (·.size)=some XA.size:=by rw[hs];exact iA
    have zX:(Tryz.zeroCells80).size=XA.size:=by rw[hs];exact zA
    have iXl:(Tryz.prog.info? 80).map (·.size)=some x.list.length:=by rw[ActL.len hok.t1 hok.t2];exact iA
    have h1X:XA.all (·.oneCell')=true:=by rw[hXA];exact Go.Proofs.YtpdhceiodgnbmaaGreatDoor.all_one (ActL.list_one x)
    have hk7:Hid (∀ (W:World) b,W.heap[b]? = some (.cells XA 80 (0,0))->W.cell? ⟨b,7,none⟩=some (.string x.name)):=Hd (λW b h=>by
     rw[Za h,hXA,List.getElem?_toArray];exact x.c7)
    have hZ:=Hd (heap_alloc_new wr (.cells Tryz.zeroCells80 80))
    obtain⟨Z,hZs⟩:∃ Z,Z=x.name.size:=⟨_,rfl⟩
    replace hXA:=Hd hXA
    replace hr:=Hd hr
    replace hbw:=Hd hbw
    replace hsm:=Hd hsm
    replace htk:=Hd htk
    replace hok:=Hd hok
    have hnm:=hZs.symm
    replace hZs:=Hd hZs
    clear hs
    by_cases hz:100<Z
    ·have hz2:(100:Int)<(x.name.size:Int):=by rw[hnm];omega
     clear hnm
     go_wp2_with (first
      | ((with_reducible refine wL (.load 80 (.tmp 15)) ?_);refine Z0 rfl 80 (.tmp 15) rfl b1 (o1+k*81) rfl x.list _ hr.out Tryz.underlying80 rfl iXl XA hXA ?_)
      | ((with_reducible refine wL (.store 80 (.tmp 6) _) ?_);(refine Zc rfl 80 (.tmp 6) (.tmp 16) rfl wr.heap.size _ XA rfl rfl hZ iX zX h1X ?_);intro w5 hU5;have hb5:=Hd (hbw.out.trans (show Below w.heap.size wr w5 from((Below.alloc (Below.refl w.heap.size wr) hszw _).trans (hU5.out.below hszw))));have y7:=hk7.out _ _ hU5.out.here))
     go_ret
     exact⟨true,rfl,λh=>(by cases h),hb5.out⟩
    ·have hz2:¬((100:Int)<(x.name.size:Int)):=by rw[hnm];omega
     clear hnm
     go_wp2_with (first
      | ((with_reducible refine wL (.load 80 (.tmp 15)) ?_);refine Z0 rfl 80 (.tmp 15) rfl b1 (o1+k*81) rfl x.list _ hr.out Tryz.underlying80 rfl iXl XA hXA ?_)
      | ((with_reducible refine wL (.store 80 (.tmp 6) _) ?_);(refine Zc rfl 80 (.tmp 6) (.tmp 16) rfl wr.heap.size _ XA rfl rfl hZ iX zX h1X ?_);intro w5 hU5;have hb5:=Hd (hbw.out.trans (show Below w.heap.size wr w5 from((Below.alloc (Below.refl w.heap.size wr) hszw _).trans (hU5.out.below hszw))));have y7:=hk7.out _ _ hU5.out.here))
     refine hback.out _ _ kX ?_ ?_
     ·simp only[List.getD_cons_zero,List.getD_cons_succ]
      exact⟨k+1,oX,by congr 1,hb5.out,λy hy=>by
       rw[htk.out] at hy
       rcases List.mem_append.1 hy with hy|hy
       ·exact hsm.out y hy
       ·rw[List.mem_singleton.1 hy,<-hZs.out];omega⟩
     ·have:=hU0.out
      simp only[List.getD_cons_zero,List.getD_cons_succ,this,intOf]
      omega
   ·obtain rfl:k=N:=oX
    rw[hN.out,List.take_length] at hsm
    have hle:k<=m:=oX
    replace hsm:=Hd hsm
    replace hbw:=Hd hbw
    have hnlt:¬((k:Int)<(k:Int)):=oX
    clear hlm2
    go_wp2_with fail
    go_ret
    exact⟨false,rfl,λ_=>⟨by rw[<-hN.out];exact hle,hsm.out⟩,hbw.out⟩
end Go.Proofs.YtpdhceiodgnbmaaGreatDoor
