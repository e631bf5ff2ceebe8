import Derived.Test.YtdilmfnpkeihiaaGreatDoorF0AudSaid
import Derived.Test.YtdilmfnpkeihiaaGreatDoorF2AudSaid
import Derived.Test.YtdilmfnpkeihiaaGreatDoorF33AudSaid
set_option linter.unusedVariables false
set_option linter.unusedSimpArgs false
set_option linter.unnecessarySimpa false
set_option maxRecDepth 100000
set_option maxHeartbeats 8000000
namespace Go.Proofs.YtdilmfnpkeihiaaGreatDoor
open Go.RowKit
theorem Nw{B:Nat}{rv rv':Value}{hd:List UInt8}{E sure:Int}{dead:Bool}:(Zi B rv hd E sure dead).setIfInBounds 1 rv'=Zi B rv' hd E sure dead:=by
 simp[Zi]
theorem GY{B:Nat}{rv:Value}{hd:List UInt8}{E E' sure:Int}{dead:Bool}(h:hd.length=32):(Zi B rv hd E sure dead).setIfInBounds 34 (.int .i64 E')=Zi B rv hd E' sure dead:=by
 simp[Zi,List.set_append,Zc,h]
theorem GZ{B:Nat}{rv:Value}{hd:List UInt8}{E sure sure':Int}{dead:Bool}(h:hd.length=32):(Zi B rv hd E sure dead).setIfInBounds 35 (.int .i64 sure')=Zi B rv hd E sure' dead:=by
 simp[Zi,List.set_append,Zc,h]
def Jr(C:Array Value):Nat->List Value->Array Value
 | _,[]=>C
 | o,v::r=>Jr (C.setIfInBounds o v) (o+1) r
theorem JQ{b:Nat}{t:TypeId}{fz:Nat×Nat}(vs:List Value):∀ {C:Array Value} {w w':World} (o:Nat),Upd b (.cells C t fz) w w'->Upd b (.cells (Jr C o vs) t fz) w (w'.setCells b o vs):=by
 induction vs with
 | nil=>intro C w w' o h;exact h
 | cons v r ih=>intro C w w' o h;exact ih (o+1) (h.setCell (j:=o) v)
theorem KR(vs:List Value):∀ (C:Array Value) (o k:Nat),(Jr C o vs)[k]? = if o<=k/\k<o+vs.length/\k<C.size then vs[k-o]? else C[k]? := by
 induction vs with
 | nil=>intro C o k;rw[if_neg sY];rfl
 | cons v r ih=>
  intro C o k
  rw[Jr,ih,Array.size_setIfInBounds,Array.getElem?_setIfInBounds]
  simp only[List.length_cons]
  by_cases h1:o+1<=k/\k<o+1+r.length/\k<C.size
  ·rw[if_pos h1,if_pos oX,show k-o=(k-(o+1))+1 by omega,List.getElem?_cons_succ]
  ·rw[if_neg h1]
   by_cases h2:o=k
   ·subst h2
    rw[if_pos rfl]
    by_cases h3:o<C.size
    ·rw[if_pos h3,if_pos ⟨Nat.le_refl _,oX,h3⟩,Nat.sub_self];rfl
    ·rw[if_neg h3,if_neg oX,Array.getElem?_eq_none oX]
   ·rw[if_neg h2,if_neg oX]
theorem Nn{B:Nat}{rv:Value}{hd hd':List UInt8}{E sure:Int}{dead:Bool}(h:hd.length=32)(h':hd'.length=32):Jr (Zi B rv hd E sure dead) 2 (cB hd')=Zi B rv hd' E sure dead:=by
 apply Array.ext_getElem?
 intro k
 rw[KR,YR h,Zc,h']
 have hs:∀ hd:List UInt8,hd.length=32->∀ k,(Zi B rv hd E sure dead)[k]? = (.pointer (some ⟨B,0,none⟩)::rv::(cB hd++[.int .i64 E,.int .i64 sure,.bool dead]))[k]? := λhd _ k=>by
  rw[<-Array.getElem?_toList];simp[Zi];try rfl
 rw[hs hd h,hs hd' h']
 match k with
 | 0=>rfl
 | 1=>rfl
 | k+2=>
  simp only[List.getElem?_cons_succ,List.getElem?_append,Zc,h,h']
  by_cases hk:k<32
  ·rw[if_pos oX,if_pos hk,show k+2-2=k by omega]
  ·rw[if_neg oX,if_neg hk,if_neg hk]
def JF(J:Nat)(F:Nat->Prop)(rv:Value)(k:Nat):Prop:=k=J\/F k\/rv.ownBlock=some k
structure JM (base:Nat) (w:World) (J B:Nat) (rv:Value) (F:Nat->Prop) (recs:List (List UInt8)) (sure:Nat) (dead:Bool):Prop where
 at_:w.heap[J]? = some (.cells (Zi B rv (Zh z32J recs) (Zo recs:Nat) sure dead) 144 (0,0))
 rows:RowsOf RB 52 1 base w F rv recs
 nF:¬F J
 nv:rv.ownBlock≠some J
 ge:base<=J
 geF:∀ k,F k->base<=k
 okR:∀ r∈recs,okR r
theorem JM.lt{base:Nat}{w:World}{J B:Nat}{rv:Value}{F:Nat->Prop}{recs:List (List UInt8)}{sure:Nat}{dead:Bool}(h:JM base w J B rv F recs sure dead):∀ k,JF J F rv k->base<=k/\k<w.heap.size:=by
 rintro k (rfl|hk|hk)
 ·exact⟨h.ge,Zb h.at_⟩
 ·exact⟨h.geF k hk,h.rows.lt k hk⟩
 ·exact h.rows.ownLt k hk
theorem JM.only{base:Nat}{w w':World}{J B:Nat}{rv:Value}{F:Nat->Prop}{recs:List (List UInt8)}{sure:Nat}{dead:Bool}{D:Nat->Prop}(h:JM base w J B rv F recs sure dead)(hO:Only D w w')(hd:∀ k,JF J F rv k->¬D k):JM base w' J B rv F recs sure dead:=
 ⟨hO.heap h.at_ (hd J (.inl rfl)),h.rows.only liesRB hO (λk hk=>hd k (.inr (.inl hk))) (λk hk=>hd k (.inr (.inr hk))),h.nF,h.nv,h.ge,h.geF,h.okR⟩
structure JD (base:Nat) (w:World) (J B mb mn:Nat) (v rv:Value) (F:Nat->Prop) (p:DP) (recs:List (List UInt8)) (sure:Nat) (dead:Bool):Prop where
 jm:JM base w J B rv F recs sure dead
 dm:DM base w B mb mn v p
 dj:∀ k,JF J F rv k->¬Z8 B mb v k
theorem JD.only{base:Nat}{w w':World}{J B mb mn:Nat}{v rv:Value}{F:Nat->Prop}{p:DP}{recs:List (List UInt8)}{sure:Nat}{dead:Bool}{D:Nat->Prop}(h:JD base w J B mb mn v rv F p recs sure dead)(hO:Only D w w')(h1:∀ k,JF J F rv k->¬D k)(h2:∀ k,Z8 B mb v k->¬D k):JD base w' J B mb mn v rv F p recs sure dead:=
 ⟨h.jm.only hO h1,h.dm.only hO h2,h.dj⟩
theorem JD.below{base:Nat}{w w':World}{J B mb mn:Nat}{v rv:Value}{F:Nat->Prop}{p:DP}{recs:List (List UInt8)}{sure:Nat}{dead:Bool}(h:JD base w J B mb mn v rv F p recs sure dead)(hb:Below w.heap.size w w'):JD base w' J B mb mn v rv F p recs sure dead:=
 h.only (Only.ofBelow (D:=λ_=>False) hb) (λ_ _ h=>h) (λ_ _ h=>h)
theorem JD.step{base:Nat}{w w':World}{J B mb mn mn':Nat}{v v' rv:Value}{F:Nat->Prop}{p p':DP}{recs:List (List UInt8)}{sure:Nat}{dead:Bool}(h:JD base w J B mb mn v rv F p recs sure dead)(hst:DStep base w w' B mb v mn' v' p'):JD base w' J B mb mn' v' rv F p' recs sure dead:=
 ⟨h.jm.only hst.only (λk hk=>h.dj k hk),hst.ok,λk hk=>hst.apart (h.dj k hk) (h.jm.lt k hk).2⟩
theorem JM.cell1{base:Nat}{w:World}{J B:Nat}{rv:Value}{F:Nat->Prop}{recs:List (List UInt8)}{sure:Nat}{dead:Bool}(h:JM base w J B rv F recs sure dead):w.cell? ⟨J,1,none⟩=some rv:=by rw[Za h.at_];exact jc1
theorem JM.cell36{base:Nat}{w:World}{J B:Nat}{rv:Value}{F:Nat->Prop}{recs:List (List UInt8)}{sure:Nat}{dead:Bool}(h:JM base w J B rv F recs sure dead):w.cell? ⟨J,36,none⟩=some (.bool dead):=by rw[Za h.at_];exact N2 (Qc Zv _)
theorem JM.head{base:Nat}{w:World}{J B:Nat}{rv:Value}{F:Nat->Prop}{recs:List (List UInt8)}{sure:Nat}{dead:Bool}(h:JM base w J B rv F recs sure dead):w.rangeAt J 2 (cB (Zh z32J recs)):=by
 have hl:(Zh z32J recs).length=32:=Qc Zv _
 intro j u hj
 have hj2:=(List.getElem?_eq_some_iff.1 hj).1
 rw[Zc] at hj2
 rw[Za h.at_,<-hj]
 have:(Zi B rv (Zh z32J recs) (Zo recs:Nat) sure dead)[2+j]? = (.pointer (some ⟨B,0,none⟩)::rv::(cB (Zh z32J recs)++[.int .i64 (Zo recs:Nat),.int .i64 sure,.bool dead]))[2+j]? := by
  rw[<-Array.getElem?_toList];simp[Zi];try rfl
 rw[this,show 2+j=j+1+1 by omega]
 simp only[List.getElem?_cons_succ]
 rw[List.getElem?_append_left (by rw[Zc];omega)]
end Go.Proofs.YtdilmfnpkeihiaaGreatDoor
namespace Go.Proofs.YtdilmfnpkeihiaaGreatDoor
open Go.RowKit
section
variable {ops:Array Oper} {K:Act->World->Prop} {Q:Exit->Act->World->Prop} {o:Oper} {a:Act} {w:World}
theorem VG(t:TypeId)(x:Operand)(ho:o.op=.build t #[(0,x)])(vx:Value)(hx:a.eval x=vx)(R:Value)(h:∀ W,(Instr.build t #[(0,vx)]).run Tryz.prog W=.ok R W)(hK:K (a.put o.dst R) w):o.wp Tryz.prog a w K Q:=by
 unfold Oper.wp execOp
 simp only[ho,Sem.run_bind,Sem.run_pure,Result.andThen_ok,List.map_toArray,List.map_cons,List.map_nil,hx,h]
 exact hK
end
theorem Ur(B:Nat)(W:World):(Instr.build 144 #[(0,.pointer (some ⟨B,0,none⟩))]).run Tryz.prog W=.ok (.agg (Zi B (.slice none 0 0) z32J 0 0 false)) W:=kX
def QO(p:DP):List (List UInt8):=Zz (Zy p) z32J
def Xm(n:Nat)(p:DP):DP:=Yt (Zy p) (Zo (QO p)) n p
def Xf(base:Nat)(w:World)(B mb mn:Nat)(v:Value)(q:DP)(recs:List (List UInt8))(x:Ending)(w':World):Prop:=
 ∃ J rv F v' mn',x=.returned (.tuple #[.pointer (some ⟨J,0,none⟩),.nilIface])/\mn'<=mn+20000/\JD base w' J B mb mn' v' rv F q recs recs.length false/\DStep base w w' B mb v mn' v' q/\∀ k,JF J F rv k->w.heap.size<=k
theorem GB(l:List (List UInt8)):l.length<=Zo l:=by
 unfold Zo
 induction l with
 | nil=>exact Nat.le_refl _
 | cons q l ih=>simp only[List.length_cons,List.map_cons,List.sum_cons];omega
theorem Vy{w:World}{b:Nat}{C:Array Value}{t:TypeId}{n o:Nat}(h:w.heap[b]? = some (.cells C t (0,0)))(hs:o+n<=C.size):w.there b o n:=by
 intro j hj
 refine⟨?_,Zg h _⟩
 rw[Za h]
 rw[Array.getElem?_eq_getElem oX]
 rfl
theorem KZ{base:Nat}{w:World}{B mb mn:Nat}{v:Value}{p:DP}(h:DM base w B mb mn v p)(hb:base<=w.heap.size)(n:Nat)(hpn:p.n=(n:Int))(h1:1<=n)(hn:n<=1000)(hws:p.ws.length<=10000)(hmn:mn<=60000)(hpl : -100000<=p.l/\p.l<=100000)(ha:p.armed=false)(hg:p.gone=false)(e:Nat->Addr)(hBE:14≠B)(hEb:∀ W,Below base w W->DErr W e)
  (hK:ShaK w) (hF:ShaF w) :
  Calls Tryz.prog 55 #[.pointer (some ⟨B,0,none⟩)] w (Xf base w B mb mn v (Xm n p) (QO p)):=by
 have hse:=Hd (KS h oX oX oX hg)
 have hal:(Zy p).length=64*n:=by unfold Zy;rw[hpn,h.seenToLen];rfl
 have hq:Xm n p=Yt (Zy p) (Zo (QO p)) n p:=rfl
 have hr:QO p=Zz (Zy p) z32J:=rfl
 have hend:=(Kt ((Zy p).length+1) (Zy p) z32J (Nat.lt_succ_self _)).1
 have hok:=K5 ((Zy p).length+1) (Zy p) z32J (Nat.lt_succ_self _)
 rw[<-hr] at hend hok
 generalize Xm n p=q at*
 generalize Zy p=all at*
 generalize QO p=recs at*
 have hrl:=GB recs
 obtain⟨E,hE⟩:∃ E,E=Zo recs:=⟨_,rfl⟩
 rw[<-hE] at hend hrl hq
 obtain⟨N,hN⟩:∃ N,N=recs.length:=⟨_,rfl⟩
 rw[<-hN] at hrl
 have hbuild:=Ur B
 obtain⟨R0,hR0⟩:∃ R0,R0=Zi B (.slice none 0 0) z32J 0 0 false:=⟨_,rfl⟩
 rw[<-hR0] at hbuild
 replace h:=Hd h
 replace hal:=Hd hal
 replace hq:=Hd hq
 replace hr:=Hd hr
 replace hok:=Hd hok
 replace hEb:=Hd hEb
 replace hE:=Hd hE
 replace hN:=Hd hN
 replace hpn:=Hd hpn
 replace ha:=Hd ha
 replace hg:=Hd hg
 replace hK:=Hd hK
 replace hF:=Hd hF
 replace hR0:=Hd hR0
 replace hbuild:=Hd hbuild
 go_enter Tryz.func55,Tryz.ntmps55
 go_wp2_with fail
 with_reducible refine hse.out.mono ?_
 rintro x w1 ⟨va,rfl,hown,hb1⟩
 clear hse
 obtain⟨aa,ca,rfl,haa,haN⟩:=hown.arg
 obtain⟨ga,ca',hva,_⟩:=hown.form (by have:=hal.out;omega)
 cases hva
 obtain⟨hga1,hga2⟩:=haN _ _ _ rfl
 obtain⟨La,hLa⟩:∃ La,La=all.length:=⟨_,rfl⟩
 rw[<-hLa]
 have hb2:Below w1.heap.size w1 (w1.alloc (.cells R0 144)):=bR.alloc nR _
 have hsc:=KE all (by have:=hal.out;omega) _ ca (w1.alloc (.cells R0 144)) (haa.below hb2) ((hK.out.below hb1).below hb2) ((hF.out.below hb1).below hb2)
 rw[<-hLa] at hsc
 have hJ2:(w1.alloc (.cells R0 144)).heap[w1.heap.size]? = some (.cells R0 144 (0,0)):=heap_alloc_new w1 _
 have hs2:(w1.alloc (.cells R0 144)).heap.size=w1.heap.size+1:=World.size_alloc ..
 obtain⟨w2,hw2⟩:∃ w2,w2=w1.alloc (.cells R0 144):=⟨_,rfl⟩
 rw[<-hw2] at hsc hJ2 hs2 hb2
 replace hsc:=Hd hsc
 replace hJ2:=Hd hJ2
 replace hb2:=Hd hb2
 replace hLa:=Hd hLa
 replace hown:=Hd hown
 replace haa:=Hd haa
 replace haN:=Hd haN
 replace hb1:=Hd hb1
 replace hs2:=Hd hs2
 replace hw2:=Hd hw2
 obtain⟨J,hJ⟩:∃ J,J=w1.heap.size:=⟨_,rfl⟩
 replace hJ:=Hd hJ
 go_wp2_with (refine wpList_plain rfl (λK hK=>?_);refine VG 144 (.tmp 20) rfl (.pointer (some ⟨B,0,none⟩)) rfl (.agg R0) hbuild.out ?_;refine hK _ _ ?_;clear hK K)
 rw[<-hw2.out,<-hJ.out]
 rw[<-hJ.out] at hJ2
 with_reducible refine hsc.out.mono ?_
 clear hsc
 rintro x w3 ⟨rv,F,rfl,hrow,hFb,hb3⟩
 rw[<-hr.out] at hrow ⊢
 rw[<-hE.out]
 have hJ3:w3.heap[J]? = some (.cells R0 144 (0,0)):=(hb3.block _ (by have:=hs2.out;have:=hJ.out;omega)).trans hJ2.out
 rw[hR0.out] at hJ3
 have hz:=Zv
 have kc1:w3.cell? ⟨J,1,none⟩=some (.slice none 0 0):=by rw[Za hJ3];exact jc1
 have kc34:w3.cell? ⟨J,34,none⟩=some (.int .i64 0):=by rw[Za hJ3];exact GV hz
 have kc35:w3.cell? ⟨J,35,none⟩=some (.int .i64 0):=by rw[Za hJ3];exact N6 hz
 have kf1:w3.frozen? ⟨J,1,none⟩=false:=Zg hJ3 _
 have kf34:w3.frozen? ⟨J,34,none⟩=false:=Zg hJ3 _
 have kf35:w3.frozen? ⟨J,35,none⟩=false:=Zg hJ3 _
 obtain⟨ra,rc,rfl,hargs⟩:=hrow.argBB
 rw[<-hN.out]
 rw[<-hN.out] at hrow
 have hU:=(((Upd.refl hJ3).setCell (j:=1) (.slice ra N rc)).setCell (j:=34) (.int .i64 (E:Int))).setCell (j:=35) (.int .i64 (N:Int))
 rw[Nw,GY hz,GZ hz] at hU
 replace hrow:=Hd hrow
 replace hFb:=Hd hFb
 replace hb3:=Hd hb3
 replace hJ3:=Hd hJ3
 replace hargs:=Hd hargs
 replace hU:=Hd hU
 clear hJ2
 go_wp2_with fail
 replace hU:=hU.out
 generalize hw5:((w3.setCell ⟨J,1,none⟩ (.slice ra N rc)).setCell ⟨J,34,none⟩ (.int .i64 (E:Int))).setCell ⟨J,35,none⟩ (.int .i64 (N:Int))=w5 at*
 have hJs:J<w3.heap.size:=Zb hJ3.out
 have hs3:=hb3.out.size
 have hw2s:w2.heap.size=J+1:=by rw[hs2.out,hJ.out]
 have hwJ:w.heap.size<=J:=by have:=hb1.out.size;have:=hJ.out;omega
 have hO5:Only (λk=>k=J) w3 w5:=Only.ofUpd hU rfl
 have hrow5:=hrow.out.only liesRB hO5 (λk hk e=>by have:=hFb.out k hk;omega) (λk hk e=>by have:=(hrow.out.ownLt k hk).1;omega)
 have hb5:Below w.heap.size w w5:=((hb1.out.trans ((hb2.out).mono hb1.out.size)).trans (hb3.out.mono oX)).trans (hU.below hwJ)
 have hJ5:=hU.here
 obtain⟨ra',rc',hra,hargs5⟩:=hrow5.argBB
 rw[<-hN.out] at hra
 cases hra
 have hN1:N<=100000:=by have:=hal.out;omega
 have hhd:=Hd (Jd recs (by rw[<-hN.out];exact hN1) (λr hr=>Nat.le_trans (hok.out r hr).2 dX) ra rc w5 hargs5 (hK.out.below hb5) (hF.out.below hb5))
 rw[<-hN.out] at hhd
 replace hrow5:=Hd hrow5
 replace hb5:=Hd hb5
 replace hJ5:=Hd hJ5
 have hU':=Hd hU
 have hb2':=hb2
 have hb3':=hb3
 clear hO5 hU hw5 hrow hJ3 hargs hargs5 kc1 kc34 kc35 kf1 kf34 kf35 hbuild hR0 hw2 hb2 hs2 hb3
 with_reducible refine hhd.out.mono ?_
 clear hhd
 rintro x w6 ⟨vh,rfl,hrh,hb6⟩
 have hb15:Below w1.heap.size w1 w5:=Below.trans ((hb2'.out).trans (hb3'.out.mono (by have:=hJ.out;omega))) (hU'.out.below (by have:=hJ.out;omega))
 have hrow6:=hrow5.out.below liesRB hb6
 have hJ6:w6.heap[J]? = _:=(hb6.block _ (Zb hJ5.out)).trans hJ5.out
 have hb16:Below w1.heap.size w1 w6:=hb15.trans (hb6.mono hb15.size)
 obtain⟨HD,hHD⟩:∃ HD,HD=Zh z32J recs:=⟨_,rfl⟩
 have hHDl:HD.length=32:=by rw[hHD];exact Qc Zv _
 have htail:Hid (∀ w7,w7.heap[J]? = some (.cells (Zi B (.slice ra N rc) HD E N false) 144 (0,0))->RowsOf RB 52 1 w2.heap.size w7 F (.slice ra N rc) recs->Below w1.heap.size w1 w7->
   Calls Tryz.prog 79 #[.pointer (some ⟨J,0,none⟩),.slice (some ⟨ga,0,none⟩) La ca] w7 (λx w8=>x=.returned .nilIface/\Xf base w B mb mn v q recs (.returned (.tuple #[.pointer (some ⟨J,0,none⟩),.nilIface])) w8)):=Hd λw7 hJ7 hrow7 hb17=>by
  have hb7:Below w.heap.size w w7:=hb1.out.trans (hb17.mono hb1.out.size)
  have h7:=h.out.below hb7
  have hEb7:∀ W,Below base w7 W->DErr W e:=λW hW=>hEb.out W ((hb7.mono hb).trans hW)
  have hJD:¬Z8 B mb v J:=λhd=>by have:=(h.out.lt _ hd).2;omega
  have hw:=K9 h7 (Nat.le_trans hb hb7.size) n hpn.out h1 hn hws hmn hpl ha.out hg.out e (hEb7 w7 bR) hBE hEb7 J _ _ hJ7 hJD E (by have:=hal.out;omega) jc0 (GV hHDl) all hal.out ga 0 ca (haa.out.below hb17) (λhd=>by have:=(h.out.lt _ hd).2;omega)
  rw[<-hLa.out,<-hq.out] at hw
  refine hw.mono ?_
  rintro x w8 ⟨rfl,v',mn',hm,hst⟩
  have hJF:∀ k,JF J F (.slice ra N rc) k->w.heap.size<=k:=by
   rintro k (rfl|hk|hk)
   ·exact hwJ
   ·have:=hFb.out k hk;omega
   ·have:=(hrow7.ownLt k hk).1;omega
  have hjd:JD base w7 J B mb mn v (.slice ra N rc) F p recs N false:=
   ⟨⟨by rw[<-hHD,<-hE.out];exact hJ7,hrow7.mono oX,λhk=>by have:=hFb.out _ hk;omega,λhk=>by have:=(hrow7.ownLt _ hk).1;omega,oX,λk hk=>by have:=hFb.out _ hk;omega,hok.out⟩,h7,λk hk hd=>by have:=(h.out.lt _ hd).2;have:=hJF k hk;omega⟩
  have hjd8:=hjd.step hst
  refine⟨rfl,J,.slice ra N rc,F,v',mn',rfl,hm,?_,((DStep.same h.out).grow hb7).trans hst,hJF⟩
  rw[<-hN.out];exact hjd8
 clear haa h hEb hal hq hr hpn ha hg hws hmn hpl hBE hb5 haN hown
 by_cases hN0:N=0
 ·have hz0:HD=z32J:=by
   rw[hHD,show recs=[] from List.length_eq_zero_iff.1 (by rw[<-hN.out];exact hN0)];rfl
  rw[<-hz0] at hJ6
  have hfin:=Hd (htail.out w6 hJ6 hrow6 hb16)
  have hvl:=ZZ recs z32J
  rw[<-hN.out] at hvl
  obtain⟨a6,c6,rfl,_⟩:=hrh.form
  rw[hvl]
  subst hN0
  clear hrh hrow6 hrow5 htail hJ6 hJ5
  go_wp2_with fail
  with_reducible refine hfin.out.mono ?_
  rintro x w8 ⟨rfl,hpost⟩
  replace hpost:=Hd hpost
  go_wp2_with fail
  go_ret2
  exact hpost.out
 ·have hlast:(ZF z32J recs)[N-1]? = some (Zh z32J recs):=by
   have h1:=Vv recs z32J (by have:=hN.out;omega)
   have h2:=ZZ recs z32J
   rw[<-hN.out] at h1 h2
   rw[List.getElem?_eq_getElem oX]
   rw[List.getD_eq_getElem?_getD,List.getElem?_eq_getElem oX] at h1
   exact congrArg some h1
  obtain⟨g,cg,cs,rfl,⟨hl32,rfl⟩,hrg⟩:=hrh.elem YF (N-1) _ hlast
  rw[ZZ,<-hN.out]
  rw[<-hHD] at hrg
  replace hHD:=Hd hHD
  have hN1':(0:Int)<(N:Int):=oX
  have huA:Tryz.prog.underlying 39=some (.array 32 5):=Tryz.underlying39
  have hiH:(Tryz.prog.info? 39).map (·.size)=some (cB HD).length:=by rw[ZE hHDl,List.size_toArray]
  have hiA:(Tryz.prog.info? 39).map (·.size)=some (cB HD).toArray.size:=ZE hHDl
  have hth:w6.there J 2 (cB HD).toArray.size:=Vy hJ6 (by rw[YR Zv,List.size_toArray,Zc,hHDl];decide)
  have hall:=X4 HD
  have hU6:=JQ (cB HD) 2 (Upd.refl hJ6)
  rw[Nn Zv hHDl] at hU6
  have hO6:Only (λk=>k=J) w6 _:=Only.ofUpd hU6 rfl
  have hrow7:=hrow6.only liesRB hO6 (λk hk e=>by have:=hFb.out k hk;omega) (λk hk e=>by have:=(hrow6.ownLt k hk).1;omega)
  have hfin:=Hd (htail.out _ hU6.here hrow7 (hb16.trans (hU6.below (by have:=hJ.out;omega))))
  replace hrg:=Hd hrg
  replace hth:=Hd hth
  clear hrh hrow6 hrow5 htail hJ6 hJ5 hU6 hO6 hrow7 hlast
  go_wp2_with (first|refine wpList_load_mid rfl 39 (.tmp 55) rfl g ((N-1)*32) rfl (cB HD) _ hrg.out huA rfl hiH ?_|refine wpList_store_mid rfl 39 (.tmp 58) (.tmp 56) rfl J 2 (cB HD).toArray rfl rfl hth.out hiA hall ?_)
  with_reducible refine hfin.out.mono ?_
  rintro x w8 ⟨rfl,hpost⟩
  replace hpost:=Hd hpost
  go_wp2_with fail
  go_ret2
  exact hpost.out
end Go.Proofs.YtdilmfnpkeihiaaGreatDoor
namespace Go.Proofs.YtdilmfnpkeihiaaGreatDoor
open Go.RowKit
section
variable {ops:Array Oper} {K:Act->World->Prop} {Q:Exit->Act->World->Prop} {o:Oper} {a:Act} {w:World}
end
def V9(b:List UInt8)(k:Nat):Nat:=min b.length (64-k % 64)
def Gn(s b:List UInt8)(k:Nat):List UInt8:=s.take (k % 64)++b.take (V9 b k)++s.drop (k % 64+V9 b k)
def Nb:Nat->DP->Nat->List UInt8->DP×Bool
 | 0,p,_,_=>(p,true)
 | f+1,p,k,b=>if b.length=0 then (p,true) else
  if (p.write ((k / 64:Nat):Int) (Gn (ZK p.ws p.f ((k / 64:Nat):Int)) b k)).2=0 then Nb f (p.write ((k / 64:Nat):Int) (Gn (ZK p.ws p.f ((k / 64:Nat):Int)) b k)).1 (k+V9 b k) (b.drop (V9 b k))
  else ((p.write ((k / 64:Nat):Int) (Gn (ZK p.ws p.f ((k / 64:Nat):Int)) b k)).1,false)
def lay(p:DP)(k:Nat)(b:List UInt8):DP×Bool:=Nb b.length p k b
end Go.Proofs.YtdilmfnpkeihiaaGreatDoor
namespace Go.Proofs.YtdilmfnpkeihiaaGreatDoor
open Go.RowKit
theorem Ka{base:Nat}{w:World}{J B:Nat}{rv:Value}{F:Nat->Prop}{recs:List (List UInt8)}{sure:Nat}{dead:Bool}(h:JM base w J B rv F recs sure dead) :
  Calls Tryz.prog 44 #[.pointer (some ⟨J,0,none⟩)] w λx w'=>x=.returned (.bool dead)/\w=w':=by
 have hc:=h.cell36
 clear h
 go_enter Tryz.func44,Tryz.ntmps44
 go_wp2_with fail
 go_ret
 exact⟨rfl,rfl⟩
end Go.Proofs.YtdilmfnpkeihiaaGreatDoor
