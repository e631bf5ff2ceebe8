import Derived.Test.YtpdhceiodgnbmaaGreatDoorF0FollowsSaid
import Derived.Test.YtpdhceiodgnbmaaGreatDoorF1FollowsSaid
import Derived.Test.YtpdhceiodgnbmaaGreatDoorF15FollowsSaid
import Derived.Test.YtpdhceiodgnbmaaGreatDoorF13FollowsSaid
import Derived.Test.YtpdhceiodgnbmaaGreatDoorF29FollowsSaid
import Derived.Test.YtpdhceiodgnbmaaGreatDoorF30FollowsSaid
import Derived.Test.YtpdhceiodgnbmaaGreatDoorF31FollowsSaid
import Derived.Test.YtpdhceiodgnbmaaGreatDoorF4FollowsSaid
import Derived.Test.YtpdhceiodgnbmaaGreatDoorF3FollowsSaid
import Derived.Test.YtpdhceiodgnbmaaGreatDoorF6FollowsSaid
set_option linter.unusedVariables false
set_option linter.unusedSimpArgs false
set_option linter.unnecessarySimpa false
set_option maxRecDepth 100000
set_option maxHeartbeats 8000000
namespace Go.Proofs.YtpdhceiodgnbmaaGreatDoor
open Go.RowKit
def SD(sI sE:Value)(k:Nat):Prop:=(∃ o s n c,sI=.slice (some ⟨k,o,s⟩) n c/\0<n)\/(∃ o s n c,sE=.slice (some ⟨k,o,s⟩) n c/\0<n)
theorem Jz{D:Nat->Prop}{w w':World}{b o:Nat}{cs:List Value}(h:w.rangeAt b o cs)(hO:Only D w w')(hn:¬D b):w'.rangeAt b o cs:=λj v hv=>by
 have h1:=h j v hv
 exact(World.cell?_of_block (a:=⟨b,o+j,none⟩) (hO.block b (World.block_lt_of_cell? w _ h1) hn)).trans h1
theorem ArgS.only{D:Nat->Prop}{w w':World}{sI sE:Value}{m:St}(h:ArgS w (.agg #[sI,sE]) m)(hO:Only D w w')(hd:∀ k,SD sI sE k->¬D k):ArgS w' (.agg #[sI,sE]) m:=by
 obtain⟨⟨a,c,a',c',e,h1,h2,h3,h4,h5,h6⟩,h7,h8⟩:=h
 cases e
 refine⟨⟨a,c,a',c',rfl,λk hk=>?_,h2,h3,λk hk=>?_,h5,h6⟩,h7,h8⟩
 ·obtain⟨b1,o1,rfl,hr⟩:=h1 k hk
  exact⟨b1,o1,rfl,Jz hr hO (hd b1 (.inl ⟨_,_,_,_,rfl,oX⟩))⟩
 ·obtain⟨b1,o1,rfl,hr⟩:=h4 k hk
  exact⟨b1,o1,rfl,Jz hr hO (hd b1 (.inr ⟨_,_,_,_,rfl,oX⟩))⟩
theorem ArgS.sd_lt{w:World}{sI sE:Value}{m:St}(h:ArgS w (.agg #[sI,sE]) m):∀ k,SD sI sE k->k<w.heap.size:=by
 obtain⟨⟨a,c,a',c',e,h1,h2,h3,h4,h5,h6⟩,h7,h8⟩:=h
 cases e
 rintro k (⟨o,s,n,c2,e,hn⟩|⟨o,s,n,c2,e,hn⟩)
 ·cases e
  obtain⟨b1,o1,e,hr⟩:=h1 0 hn
  cases e
  exact World.block_lt_of_cell? w _ (hr 0 _ (It.c0 _))
 ·cases e
  obtain⟨b1,o1,e,hr⟩:=h4 0 hn
  cases e
  exact World.block_lt_of_cell? w _ (hr 0 _ (rfl:(En.list m.ens[0])[0]? = some _))
theorem FreshS.sd{B:Nat}{sI sE:Value}{w:World}{m:St}(h:FreshS B (.agg #[sI,sE]))(ha:ArgS w (.agg #[sI,sE]) m):∀ k,SD sI sE k->B<=k:=by
 obtain⟨⟨a,c,a',c',e,_⟩,_,_⟩:=ha
 cases e
 obtain⟨f1,f2⟩:=h _ _ _ _ _ _ rfl
 rintro k (⟨o,s,n,c2,e,hn⟩|⟨o,s,n,c2,e,hn⟩)
 ·cases e;exact f1 _ _ _ rfl
 ·cases e;exact f2 _ _ _ rfl
structure LV where
 J:Nat
 B:Nat
 mb:Nat
 mn:Nat
 f:Nat
 v:Value
 rv:Value
 fv:Value
 sI:Value
 sE:Value
 F:Nat->Prop
structure LP where
 p:DP
 recs:List (List UInt8)
 sure:Nat
 dead:Bool
 n:Nat
 ps:List (List UInt8)
 m:St
def LdD(l:Nat)(V:LV)(k:Nat):Prop:=k=l\/SD V.sI V.sE k\/FrD V.f V.fv k\/JF V.J V.F V.rv k\/Z2 V.B V.mb V.v k
structure LdM (base:Nat) (w:World) (l:Nat) (V:LV) (P:LP):Prop where
 jd:JD base w V.J V.B V.mb V.mn V.v V.rv V.F P.p P.recs P.sure P.dead
 at_:w.heap[l]? = some (.cells #[.pointer (some ⟨V.J,0,none⟩),V.sI,V.sE,.pointer (some ⟨V.f,0,none⟩)] 124 (0,0))
 st:ArgS w (.agg #[V.sI,V.sE]) P.m
 fr:FrM base w V.f P.n V.fv P.ps
 ge:base<=l
 ges:∀ k,SD V.sI V.sE k->base<=k
 ls:¬SD V.sI V.sE l
 lf:¬FrD V.f V.fv l
 lj:¬(JF V.J V.F V.rv l\/Z2 V.B V.mb V.v l)
 sf:∀ k,SD V.sI V.sE k->¬FrD V.f V.fv k
 sj:∀ k,SD V.sI V.sE k->¬(JF V.J V.F V.rv k\/Z2 V.B V.mb V.v k)
 fj:∀ k,FrD V.f V.fv k->¬(JF V.J V.F V.rv k\/Z2 V.B V.mb V.v k)
theorem LdM.lt{base:Nat}{w:World}{l:Nat}{V:LV}{P:LP}(h:LdM base w l V P):∀ k,LdD l V k->base<=k/\k<w.heap.size:=by
 rintro k (rfl|hk|hk|hk|hk)
 ·exact⟨h.ge,Zb h.at_⟩
 ·exact⟨h.ges k hk,h.st.sd_lt k hk⟩
 ·exact h.fr.lt k hk
 ·exact h.jd.jm.lt k hk
 ·exact h.jd.dm.lt k hk
theorem LdM.only{base:Nat}{w w':World}{l:Nat}{V:LV}{P:LP}{D:Nat->Prop}(h:LdM base w l V P)(hO:Only D w w')(hd:∀ k,LdD l V k->¬D k):LdM base w' l V P:=
 ⟨h.jd.only hO (λk hk=>hd k (.inr (.inr (.inr (.inl hk))))) (λk hk=>hd k (.inr (.inr (.inr (.inr hk))))),hO.heap h.at_ (hd l (.inl rfl)),h.st.only hO (λk hk=>hd k (.inr (.inl hk))),h.fr.only hO (λk hk=>hd k (.inr (.inr (.inl hk)))),h.ge,h.ges,h.ls,h.lf,h.lj,h.sf,h.sj,h.fj⟩
theorem LdM.below{base:Nat}{w w':World}{l:Nat}{V:LV}{P:LP}(h:LdM base w l V P)(hb:Below w.heap.size w w'):LdM base w' l V P:=h.only (Only.ofBelow (D:=λ_=>False) hb) (λ_ _ h=>h)
structure LStep (base:Nat) (w w':World) (l:Nat) (V V':LV) (P':LP):Prop where
 ok:LdM base w' l V' P'
 only:Only (LdD l V) w w'
 new:∀ k,LdD l V' k->LdD l V k\/w.heap.size<=k
theorem LStep.same{base:Nat}{w:World}{l:Nat}{V:LV}{P:LP}(h:LdM base w l V P):LStep base w w l V V P:=⟨h,Only.refl _ _,λ_ h=>.inl h⟩
theorem LStep.trans{base:Nat}{w w1 w2:World}{l:Nat}{V V1 V2:LV}{P1 P2:LP}(h:LStep base w w1 l V V1 P1)(h':LStep base w1 w2 l V1 V2 P2):LStep base w w2 l V V2 P2:=
 ⟨h'.ok,h.only.trans h'.only (λk hk hd=>(h.new k hd).elim id (λh=>absurd h oX)),λk hk=>by
  rcases h'.new k hk with h1|h1
  ·exact h.new k h1
  ·exact .inr (Nat.le_trans h.only.size h1)⟩
theorem LStep.grow{base:Nat}{w w1 w2:World}{l:Nat}{V V1:LV}{P1:LP}(h:LStep base w w1 l V V1 P1)(hb:Below w1.heap.size w1 w2):LStep base w w2 l V V1 P1:=
 h.trans ⟨h.ok.below hb,Only.ofBelow hb,λ_ h=>.inl h⟩
theorem LStep.below{base:Nat}{w w':World}{l:Nat}{V V':LV}{P P':LP}(h:LStep base w w' l V V' P')(h0:LdM base w l V P)(hb:base<=w.heap.size):Below base w w':=h.only.below hb (λk hk=>(h0.lt k hk).1)
theorem LdM.journal{base:Nat}{w w':World}{l:Nat}{V:LV}{P:LP}{mn':Nat}{v' rv':Value}{F':Nat->Prop}{p':DP}{recs':List (List UInt8)}{sure':Nat}{dead':Bool}(h:LdM base w l V P)(hj:JStep base w w' V.J V.B V.mb V.v V.rv V.F mn' v' rv' F' p' recs' sure' dead') :
  LStep base w w' l V { V with mn:=mn',v:=v',rv:=rv',F:=F' } { P with p:=p',recs:=recs',sure:=sure',dead:=dead' }:=by
 have hap:∀ k,k<w.heap.size->¬(JF V.J V.F V.rv k\/Z2 V.B V.mb V.v k)->¬(JF V.J F' rv' k\/Z2 V.B V.mb v' k):=λk hk hn hd=>by
  rcases hd with hd|hd
  ·rcases hj.newJ k hd with q|q
   ·exact hn (.inl q)
   ·omega
  ·rcases hj.newD k hd with q|q
   ·exact hn (.inr q)
   ·omega
 refine⟨⟨hj.ok,hj.only.heap h.at_ h.lj,h.st.only hj.only h.sj,h.fr.only hj.only h.fj,h.ge,h.ges,h.ls,h.lf,hap l (Zb h.at_) h.lj,h.sf,λk hk=>hap k (h.st.sd_lt k hk) (h.sj k hk),λk hk=>hap k (h.fr.lt k hk).2 (h.fj k hk)⟩,hj.only.mono (λk _ hk=>hk.elim (λh=>.inr (.inr (.inr (.inl h)))) (λh=>.inr (.inr (.inr (.inr h))))),?_⟩
 rintro k (hk|hk|hk|hk|hk)
 ·exact .inl (.inl hk)
 ·exact .inl (.inr (.inl hk))
 ·exact .inl (.inr (.inr (.inl hk)))
 ·exact(hj.newJ k hk).imp (λh=>.inr (.inr (.inr (.inl h)))) id
 ·exact(hj.newD k hk).imp (λh=>.inr (.inr (.inr (.inr h)))) id
theorem LdM.state{base:Nat}{w w':World}{l:Nat}{V:LV}{P:LP}{sI sE:Value}{m:St}(h:LdM base w l V P)(hU:Upd l (.cells #[.pointer (some ⟨V.J,0,none⟩),sI,sE,.pointer (some ⟨V.f,0,none⟩)] 124 (0,0)) w w')(ha:ArgS w (.agg #[sI,sE]) m)(hn:∀ k,SD sI sE k->base<=k/\¬LdD l V k)(B:Nat)(hB:∀ k,SD sI sE k->B<=k) :
  LdM base w' l { V with sI:=sI,sE:=sE } { P with m:=m }/\Only (LdD l V) w w'/\∀ k,LdD l { V with sI:=sI,sE:=sE } k->LdD l V k\/B<=k:=by
 have hO:Only (λk=>k=l) w w':=Only.ofUpd hU rfl
 refine⟨⟨h.jd.only hO (λk hk e=>h.lj (.inl (e▸hk))) (λk hk e=>h.lj (.inr (e▸hk))),hU.here,ha.only hO (λk hk e=>(hn k hk).2 (.inl e)),h.fr.only hO (λk hk e=>h.lf (e▸hk)),h.ge,λk hk=>(hn k hk).1,λhs=>(hn l hs).2 (.inl rfl),h.lf,h.lj,λk hk hf=>(hn k hk).2 (.inr (.inr (.inl hf))),λk hk hj=>(hn k hk).2 (.inr (.inr (.inr hj))),h.fj⟩,hO.mono (λk _ e=>.inl e),?_⟩
 rintro k (hk|hk|hk|hk|hk)
 ·exact .inl (.inl hk)
 ·exact .inr (hB k hk)
 ·exact .inl (.inr (.inr (.inl hk)))
 ·exact .inl (.inr (.inr (.inr (.inl hk))))
 ·exact .inl (.inr (.inr (.inr (.inr hk))))
theorem LdM.leaf{base:Nat}{w w':World}{l:Nat}{V:LV}{P:LP}{n':Nat}{fv':Value}{ps':List (List UInt8)}(h:LdM base w l V P)(hf:FrM base w' V.f n' fv' ps')(hO:Only (FrD V.f V.fv) w w')(hn:∀ k,fv'.ownBlock=some k->FrD V.f V.fv k\/w.heap.size<=k):LStep base w w' l V { V with fv:=fv' } { P with n:=n',ps:=ps' }:=by
 have hap:∀ k,k<w.heap.size->¬FrD V.f V.fv k->¬FrD V.f fv' k:=λk hk hn2 hd=>by
  rcases hd with rfl|hd
  ·exact hn2 (.inl rfl)
  ·rcases hn k hd with q|q
   ·exact hn2 q
   ·omega
 have hj:∀ k,FrD V.f fv' k->¬(JF V.J V.F V.rv k\/Z2 V.B V.mb V.v k):=λk hk hjd=>by
  have hlt:k<w.heap.size:=by rcases hjd with q|q;exact(h.jd.jm.lt k q).2;exact(h.jd.dm.lt k q).2
  by_cases hfk:FrD V.f V.fv k
  ·exact h.fj k hfk hjd
  ·exact hap k hlt hfk hk
 refine⟨⟨h.jd.only hO (λk hk hf=>h.fj k hf (.inl hk)) (λk hk hf=>h.fj k hf (.inr hk)),hO.heap h.at_ h.lf,h.st.only hO (λk hk=>h.sf k hk),hf,h.ge,h.ges,h.ls,hap l (Zb h.at_) h.lf,h.lj,λk hk=>hap k (h.st.sd_lt k hk) (h.sf k hk),h.sj,hj⟩,hO.mono (λk _ hk=>.inr (.inr (.inl hk))),?_⟩
 rintro k (hk|hk|hk|hk|hk)
 ·exact .inl (.inl hk)
 ·exact .inl (.inr (.inl hk))
 ·rcases hk with rfl|hk
  ·exact .inl (.inr (.inr (.inl (.inl rfl))))
  ·exact(hn k hk).imp (λh=>.inr (.inr (.inl h))) id
 ·exact .inl (.inr (.inr (.inr (.inl hk))))
 ·exact .inl (.inr (.inr (.inr (.inr hk))))
theorem ErrIs.zeroE{ea:Nat->Addr}{w:World}{v:Value}(h:ErrIs ea w v 0):v=.nilIface:=by
 rcases h with ⟨_,rfl⟩|⟨i,_,e,_⟩|⟨i,g,F,V,_,e,_⟩
 ·rfl
 ·omega
 ·omega
theorem MH(ea:Nat->Addr)(a0:Option Addr)(c0:Nat)(w:World) :
  Calls Tryz.prog 8 #[.slice a0 0 c0] w (Zo ea ⟨[],[]⟩ 0 w):=by
 obtain⟨aO,aS,hs2,hB⟩:=QI w #[.slice none 0 0,.slice none 0 0] #[.slice none 0 0,.slice none 0 0] 28 28 _ rfl
 obtain⟨w2,hw2⟩:∃ w2,w2=(w.alloc (.cells #[.slice none 0 0,.slice none 0 0] 28)).alloc (.cells #[.slice none 0 0,.slice none 0 0] 28):=⟨_,rfl⟩
 rw[<-hw2] at aO aS hs2 hB
 have iZ:(Tryz.prog.info? 28).map (·.size)=some (#[.slice none 0 0,.slice none 0 0]:Array Value).size:=kX
 have hpost:Hid (∀ W,Below w.heap.size w W->Zo ea ⟨[],[]⟩ 0 w (.returned (.tuple #[.agg #[.slice none 0 0,.slice none 0 0],.nilIface])) W):=Hd (λW h2=>⟨_,_,rfl,ZC W,.inl ⟨rfl,rfl⟩,h2,Zz _⟩)
 replace hw2:=Hd hw2
 replace aO:=Hd aO
 replace aS:=Hd aS
 replace hB:=Hd hB
 replace hs2:=Hd hs2
 go_enter Tryz.func8,Tryz.ntmps8
 go_wp2_with fail
 rw[<-hw2.out]
 clear hw2
 generalize w2=wS at*
 go_wp2_with fail
 refine wp_loop_rounds 1 ?_
 rw[rounds_succ]
 go_wp2_with (first
  | ((with_reducible refine wL (.load 28 (.tmp 4)) ?_);refine Ze rfl 28 (.tmp 4) rfl (w.heap.size+1) #[.slice none 0 0,.slice none 0 0] _ rfl aS Tryz.underlying28 rfl iZ ?_)
  | ((with_reducible refine wL (.store 28 (.tmp 2) _) ?_);(refine Zc rfl 28 (.tmp 2) (.tmp 35) rfl w.heap.size _ #[.slice none 0 0,.slice none 0 0] rfl rfl aO iZ rfl (by simp[Value.oneCell']) ?_);intro w9 hU9;have hS:=Hd (hB.out.trans (hU9.out.below nR));have hres:=Hd hU9.out.here))
 refine Zf rfl rfl Tryz.underlying28 rfl iZ hres.out ?_
 exact hpost.out _ hS.out
def LP.new(n:Nat):LP:=⟨DP.new (n:Int),[],0,false,0,[],⟨[],[]⟩⟩
def PJ(base:Nat)(w:World)(B mb mn n:Nat)(e:Ending)(w':World):Prop:=
 ∃ l V,e=.returned (.tuple #[.pointer (some ⟨l,0,none⟩),.nilIface])/\LdM base w' l V (LP.new n)/\V.B=B/\V.mb=mb/\V.mn<=mn+20000/\Below base w w'
theorem NM{base:Nat}{w:World}{B mb mn:Nat}{v:Value}(n:Nat)(h:DM base w B mb mn v (DP.new (n:Int)))(hb:base<=w.heap.size)(h1:1<=n)(hn:n<=1000)(hmn:mn<=20000)(e:Nat->Addr)(hBE:13≠B)(hEb:∀ W,Below base w W->DErr W e)(hK:ShaK w)(hF:ShaF w)(ea:Nat->Addr)(H:Errs 298 Zv w ea)(hHb:∀ W,Below base w W->Errs 298 Zv W ea) :
  Calls Tryz.prog 28 #[.pointer (some ⟨B,0,none⟩)] w (PJ base w B mb mn n):=by
 have hop:=Hd (H8 h hb (Gk n) h1 hn oX ⟨by show (-100000:Int)<=0;decide,by show (0:Int)<=100000;decide⟩ e hBE hEb hK hF (Nat.zero_le _) (λr hr=>absurd hr List.not_mem_nil))
 have iS:(Tryz.prog.info? 28).map (·.size)=some 2:=kX
 replace h:=Hd h
 replace hHb:=Hd hHb
 clear hK hF hEb H
 go_enter Tryz.func28,Tryz.ntmps28
 go_wp2_with fail
 with_reducible refine hop.out.mono ?_
 clear hop
 rintro x w2 ⟨J,rv,F,v2,mn2,rfl,hm2,hj2,hs2,hnew2⟩
 have hb2:Below base w w2:=hs2.below h.out hb
 have hz2:base<=w2.heap.size:=Nat.le_trans hb hb2.size
 have hre:=Hd (Vu hj2.jm dX)
 replace hj2:=Hd hj2
 replace hb2:=Hd hb2
 replace hm2:=Hd hm2
 clear hs2 hnew2
 go_wp2_with fail
 with_reducible refine hre.out.mono ?_
 clear hre
 rintro x w3 ⟨v3,F3,rfl,hrow,hF3,hb3⟩
 obtain⟨a3,c3,rfl,hA3⟩:=hrow.argBB
 have hB3:=hb2.out.trans (hb3.mono hz2)
 have hj3:=Hd (hj2.out.below hb3)
 have hrp:Calls Tryz.prog 8 #[.slice a3 0 c3] w3 (Zo ea ⟨[],[]⟩ 0 w3):=MH ea a3 c3 w3
 replace hrp:=Hd hrp
 replace hB3:=Hd hB3
 clear hrow hF3 hb3 hA3
 go_wp2_with fail
 with_reducible refine hrp.out.mono ?_
 clear hrp
 rintro x w4 ⟨vm,v4,rfl,hm4,hv4,hb4,hf4⟩
 obtain⟨a4,c4,a5,c5,hvm⟩:=hm4.shape
 replace hvm:vm=.agg #[.slice a4 0 c4,.slice a5 0 c5]:=hvm
 subst hvm
 obtain rfl:=ErrIs.zeroE hv4
 have hB4:=Hd (hB3.out.trans (hb4.mono (Nat.le_trans hb hB3.out.size)))
 have hj4:=Hd (hj3.out.below hb4)
 have hZ4:=Hd (heap_alloc_new w4 (.cells #[.slice none 0 0,.slice none 0 0] 28))
 have iC:(Tryz.prog.info? 28).map (·.size)=some (#[.slice a4 0 c4,.slice a5 0 c5]:Array Value).size:=kX
 replace hm4:Hid (ArgS w4 (.agg #[.slice a4 0 c4,.slice a5 0 c5]) ⟨[],[]⟩):=Hd hm4
 clear hv4 hb4 hf4
 obtain⟨w5,hw5e⟩:∃ w5,w5=w4.alloc (.cells #[.slice a4 0 c4,.slice a5 0 c5] 28):=⟨_,rfl⟩
 have hb5:Below w4.heap.size w4 w5:=by rw[hw5e];exact bR.alloc nR _
 have aS5:Hid (w5.heap[w4.heap.size]? = some (.cells #[.slice a4 0 c4,.slice a5 0 c5] 28 (0,0))):=Hd (by rw[hw5e];exact heap_alloc_new w4 _)
 have hj5:=Hd (hj4.out.below hb5)
 have hm5:=Hd (hm4.out.below hb5 nR)
 have hB5:=Hd (hB4.out.trans (hb5.mono (Nat.le_trans hb hB4.out.size)))
 have hgn:=Hd (Kd w5)
 replace hw5e:=Hd hw5e
 clear hb5 hZ4
 go_wp2_with fail
 rw[<-hw5e.out]
 with_reducible refine hgn.out.mono ?_
 clear hgn
 rintro x w6 ⟨rfl,hf6,hb6⟩
 have aS6:=Hd ((hb6.block _ (Zb aS5.out)).trans aS5.out)
 have hj6:=Hd (hj5.out.below hb6)
 have hm6:=Hd (hm5.out.below hb6 nR)
 have hB6:=Hd (hB5.out.trans (hb6.mono (Nat.le_trans hb hB5.out.size)))
 have hre:=Hd (Vu hj6.out.jm dX)
 replace hf6:=Hd hf6
 clear hb6
 go_wp2_with fail
 with_reducible refine hre.out.mono ?_
 clear hre
 rintro x w7 ⟨v7,F7,rfl,hrow,hF7,hb7⟩
 obtain⟨a7,c7,rfl,_⟩:=hrow.argBB
 have aS7:=Hd ((hb7.block _ (Zb aS6.out)).trans aS6.out)
 have hj7:=Hd (hj6.out.below hb7)
 have hm7:=Hd (hm6.out.below hb7 nR)
 have hf7:=Hd (hf6.out.below hb7)
 have hB7:=Hd (hB6.out.trans (hb7.mono (Nat.le_trans hb hB6.out.size)))
 clear hrow hF7 hb7
 simp only[List.length_nil]
 go_wp2_with fail
 refine wp_loop_rounds 1 ?_
 rw[rounds_succ]
 go_wp2_with ((with_reducible refine wL (.load 28 (.tmp 6)) ?_);refine Ze rfl 28 (.tmp 6) rfl w4.heap.size #[.slice a4 0 c4,.slice a5 0 c5] _ rfl aS7 Tryz.underlying28 rfl iC ?_)
 go_ret2
 have hG:Below w7.heap.size w7 (w7.alloc (.cells #[.pointer (some ⟨J,0,none⟩),.slice a4 0 c4,.slice a5 0 c5,.pointer (some ⟨w5.heap.size,0,none⟩)] 124)):=bR.alloc nR _
 have hat:=heap_alloc_new w7 (.cells #[.pointer (some ⟨J,0,none⟩),.slice a4 0 c4,.slice a5 0 c5,.pointer (some ⟨w5.heap.size,0,none⟩)] 124 (0,0))
 have hnoS:∀ k,¬SD (.slice a4 0 c4) (.slice a5 0 c5) k:=by
  rintro k (⟨o,s,n,c2,e,hn⟩|⟨o,s,n,c2,e,hn⟩)
  ·cases e;omega
  ·cases e;omega
 have hj5l:∀ k,JF J F rv k\/Z2 B mb v2 k->k<w5.heap.size:=λk hk=>by
  rcases hk with q|q
  ·exact(hj5.out.jm.lt k q).2
  ·exact(hj5.out.dm.lt k q).2
 have hfl:=Zb hf7.out.at_
 have hw5:=hB5.out.size
 have hfr:FrM base (w7.alloc (.cells #[.pointer (some ⟨J,0,none⟩),.slice a4 0 c4,.slice a5 0 c5,.pointer (some ⟨w5.heap.size,0,none⟩)] 124)) w5.heap.size 0 (.slice none 0 0) []:=
  ⟨(hf7.out.below hG).at_,RowsOf.nil _ _,by simp[Value.ownBlock],oX⟩
 have hnF:∀ k,FrD w5.heap.size (.slice none 0 0) k->k=w5.heap.size:=λk hk=>by
  rcases hk with q|q
  ·exact q
  ·simp[Value.ownBlock] at q
 exact⟨w7.heap.size,⟨J,B,mb,mn2,w5.heap.size,v2,rv,.slice none 0 0,.slice a4 0 c4,.slice a5 0 c5,F⟩,rfl,⟨hj7.out.below hG,hat,hm7.out.below hG nR,hfr,by have:=hB7.out.size;omega,λk hk=>absurd hk (hnoS k),hnoS _,λhk=>by have:=hnF _ hk;omega,λhk=>by have:=hj5l _ hk;omega,λk hk=>absurd hk (hnoS k),λk hk=>absurd hk (hnoS k),λk hk hd=>by have:=hnF _ hk;have:=hj5l _ hd;omega⟩,rfl,rfl,hm2.out,hB7.out.trans (hG.mono (Nat.le_trans hb hB7.out.size))⟩
def Te(w:World)(m:St)(e:Ending)(w':World):Prop:=∃ v v',e=.returned (.agg #[v,v'])/\RowsOf RI 58 76 w.heap.size w' (λ_=>False) v m.its/\RowsOf RE 66 7 w.heap.size w' (λ_=>False) v' m.ens/\Below w.heap.size w w'
theorem Hr{base:Nat}{w:World}{l:Nat}{V:LV}{P:LP}(h:LdM base w l V P)(l1:P.m.its.length<=1000)(l2:P.m.ens.length<=1000):Calls Tryz.prog 23 #[.pointer (some ⟨l,0,none⟩)] w (Te w P.m):=by
 obtain⟨w1,hw1⟩:∃ w1,w1=w.alloc (.cells #[.slice none 0 0,.slice none 0 0] 28):=⟨_,rfl⟩
 have hb1:Below w.heap.size w w1:=by rw[hw1];exact bR.alloc nR _
 have a1:w1.heap[w.heap.size]? = some (.cells #[.slice none 0 0,.slice none 0 0] 28 (0,0)):=by rw[hw1];exact heap_alloc_new w _
 have h1:=h.below hb1
 have c1:w1.cell? ⟨l,1,none⟩=some V.sI:=by rw[Za h1.at_];rfl
 have c2:w1.cell? ⟨l,2,none⟩=some V.sE:=by rw[Za h1.at_];rfl
 have hcp:=Hd (YG _ P.m w1 h1.st l1 l2)
 obtain⟨sI,hsI⟩:∃ sI,sI=V.sI:=⟨_,rfl⟩
 obtain⟨sE,hsE⟩:∃ sE,sE=V.sE:=⟨_,rfl⟩
 rw[<-hsI] at c1 hcp
 rw[<-hsE] at c2 hcp
 have hs1:w1.heap.size=w.heap.size+1:=by rw[hw1];simp
 replace hw1:=Hd hw1
 replace hb1:=Hd hb1
 replace a1:=Hd a1
 replace hs1:=Hd hs1
 clear h h1 hsI hsE l1 l2
 go_enter Tryz.func23,Tryz.ntmps23
 go_upto_region 1 with fail
 rw[<-hw1.out]
 go_wp2_with fail
 with_reducible refine hcp.out.mono ?_
 clear hcp
 rintro e w2 ⟨v,v',rfl,hrI,hrE,_,hb2⟩
 have a2:=Hd ((hb2.block _ (Zb a1.out)).trans a1.out)
 obtain⟨a4,c4,hv4,_⟩:=hrI.form
 obtain⟨a5,c5,hv5,_⟩:=hrE.form
 subst hv4 hv5
 have iC:(Tryz.prog.info? 28).map (·.size)=some (#[.slice a4 P.m.its.length c4,.slice a5 P.m.ens.length c5]:Array Value).size:=kX
 have hB2:=Hd (hb1.out.trans (hb2.mono hb1.out.size))
 have hn4:=Hd (λk (hk:(Value.slice a4 P.m.its.length c4).ownBlock=some k)=>(hrI.ownLt k hk).1)
 have hn5:=Hd (λk (hk:(Value.slice a5 P.m.ens.length c5).ownBlock=some k)=>(hrE.ownLt k hk).1)
 replace hrI:=Hd hrI
 replace hrE:=Hd hrE
 clear hb2
 go_wp2_with ((with_reducible refine wL (.store 28 (.tmp 2) _) ?_);(refine Zc rfl 28 (.tmp 2) (.tmp 7) rfl w.heap.size #[.slice none 0 0,.slice none 0 0] #[.slice a4 P.m.its.length c4,.slice a5 P.m.ens.length c5] rfl rfl a2 iC rfl (by simp[Value.oneCell']) ?_);intro w3 hU3)
 refine Z7 rfl rfl Tryz.underlying28 rfl iC hU3.out.here ?_
 have hO:Only (λk=>k=w.heap.size) w2 w3:=Only.ofUpd hU3.out rfl
 have hlt:=hs1.out
 exact⟨_,_,rfl,(hrI.out.only Zk hO (λk hk=>hk.elim) (λk hk e=>by have:=hn4.out k hk;omega)).mono oX,(hrE.out.only Zj hO (λk hk=>hk.elim) (λk hk e=>by have:=hn5.out k hk;omega)).mono oX,hB2.out.trans (hU3.out.below nR)⟩
theorem XF(C:Array Value)(o:Nat)(u:Value)(h:o<C.size):ZG C o [u]=C.setIfInBounds o u:=by
 rw[<-VS C o u [] h,UO]
theorem Yb(fn:Nat->Option (Nat×Nat))(C:Array Value)(i o:Nat)(v:Value)(ps:List (Nat×Value))(h1:fn i=some (o,v.cells.size))(hs:o+v.cells.size<=C.size) :
  Instr.fill fn C ((i,v)::ps)=Instr.fill fn (ZG C o v.cells.toList) ps:=by
 conv=>lhs;unfold Instr.fill
 simp only[h1]
 rw[if_neg sY]
 obtain⟨g1,g2⟩:=Go.Great.foldl_set o v.cells.toList 0 C
 have hll:v.cells.toList.length=v.cells.size:=Array.length_toList ..
 generalize hl:v.cells.toList=l at*
 have hfold:Array.foldl (λcs (x:Value×Nat)=>cs.setIfInBounds (o+x.2) x.1) C v.cells.zipIdx=ZG C o l:=by
  rw[<-Array.foldl_toList,Array.toList_zipIdx,hl]
  apply Array.ext_getElem?
  intro k
  rw[g2 k]
  unfold ZG
  simp only[Nat.add_zero,List.getElem?_toArray]
  have hC:C.toList.length=C.size:=Array.length_toList ..
  by_cases hk:o<=k/\k<o+l.length/\k<C.size
  ·rw[if_pos hk,List.getElem?_append_right (by rw[List.length_take];omega),List.getElem?_append_left (by rw[List.length_take];omega)]
   congr 1
   rw[List.length_take];omega
  ·rw[if_neg hk]
   by_cases hk1:k<o
   ·rw[List.getElem?_append_left (by rw[List.length_take];omega),List.getElem?_take,if_pos hk1,Array.getElem?_toList]
   ·rw[List.getElem?_append_right (by rw[List.length_take];omega),List.getElem?_append_right (by rw[List.length_take];omega),List.getElem?_drop,List.length_take,<-Array.getElem?_toList]
    congr 1
    omega
 rw[hfold]
theorem TY(fn:Nat->Option (Nat×Nat))(C:Array Value):Instr.fill fn C []=some C:=by simp[Instr.fill]
theorem Gh{P:Program}{t:TypeId}{fs:Array Field}{places:List (Nat×Nat)}{Z:List Value}(hz:(P.info? t).map (λi=>i.zero.map (·.cells.toList))=some (some Z))(hu:P.underlying t=some (.struct fs))(hp:fs.toList.mapM (λf=>(P.info? f.type).map λi=>(f.offset,i.size))=some places)
  (ps:List (Nat×Value)):P.built t ps=Instr.fill (λi=>places.toArray[i]?) Z.toArray ps:=by
 obtain⟨it,hit,h2⟩:=Option.map_eq_some_iff.1 hz
 obtain⟨z,hz1,hz2⟩:=Option.map_eq_some_iff.1 h2
 unfold Program.built
 simp only[hit,hu,hz1,hp]
 have hz3:z.cells=Z.toArray:=by rw[<-hz2]
 rw[hz3]
end Go.Proofs.YtpdhceiodgnbmaaGreatDoor
