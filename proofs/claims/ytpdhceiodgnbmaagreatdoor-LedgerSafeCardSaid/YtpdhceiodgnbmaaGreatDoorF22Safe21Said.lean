import Derived.Test.YtpdhceiodgnbmaaGreatDoorF0Safe21Said
import Derived.Test.YtpdhceiodgnbmaaGreatDoorF1Safe21Said
import Derived.Test.YtpdhceiodgnbmaaGreatDoorF14Safe21Said
import Derived.Test.YtpdhceiodgnbmaaGreatDoorF20Safe21Said
import Derived.Deep.CutRange
import Derived.Test.YtpdhceiodgnbmaaGreatDoorF21Safe21Said
import Derived.Test.YtpdhceiodgnbmaaGreatDoorF13Safe21Said
import Derived.Test.YtpdhceiodgnbmaaGreatDoorF8Safe21Said
import Derived.Test.YtpdhceiodgnbmaaGreatDoorF3Safe21Said
import Derived.Deep.MidRow
set_option linter.unusedVariables false
set_option linter.unusedSimpArgs false
set_option linter.unnecessarySimpa false
set_option maxRecDepth 100000
set_option maxHeartbeats 8000000
namespace Go.Proofs.YtpdhceiodgnbmaaGreatDoor
open Go.RowKit
def Rc.head(x:Rc):List UInt8:=b8 x.kind::Zk x.obj
def Rc.out(x:Rc):List UInt8:=
 if x.kind=1 then x.head++([b8 (x.name.size:Int)]++(x.name.data.toList++(ZF x.p.s x.p.n x.p.k x.p.d x.p.t x.p.r++(x.root++(x.file++Zk x.tick)))))
 else if x.kind=2 then x.head++(Zk x.id++([b8 x.way]++((Zk x.index).drop 4++Zk x.tick)))
 else if x.kind=3 then x.head++(Zk x.id++([b8 x.verdict]++Zk x.tick))
 else x.head++Zk x.tick
theorem Rc.chk0{x:Rc}(h:x.chk=0):(1<=x.kind/\x.kind<=4)/\x.nums=true/\x.bare=Rc.zero/\(x.kind=1->Vb x.name.data.toList=true/\Qi x.p.s x.p.n x.p.k x.p.d x.p.t x.p.r=none):=by
 unfold Rc.chk at h
 split at h
 ·cases h
 ·next h1=>
  split at h
  ·cases h
  ·next h2=>
   refine⟨oX,by simpa using h2,?_⟩
   split at h
   ·split at h
    ·cases h
    ·next h3=>
     split at h
     ·omega
     ·next h4=>
      split at h
      ·next h5=>exact⟨h5,λ_=>⟨by simpa using h3,h4⟩⟩
      ·cases h
   ·next h3=>
    split at h
    ·next h5=>exact⟨h5,λe=>absurd e h3⟩
    ·cases h
theorem Rc.kept(x:Rc)(hx:x.Ok)(T:TypeId)(W:World)(b:Nat)(h:W.heap[b]? = some (.cells x.list.toArray T (0,0)))(W2:World)(hW:Grown W W2) :
  W2.cell? ⟨b,0,none⟩=some (.int .i64 x.kind)/\W2.cell? ⟨b,1,none⟩=some (.int .i64 x.obj)/\W2.cell? ⟨b,2,none⟩=some (.int .i64 x.id)/\W2.cell? ⟨b,3,none⟩=some (.string x.name)/\
  W2.cell? ⟨b,74,none⟩=some (.int .i64 x.way)/\W2.cell? ⟨b,75,none⟩=some (.int .i64 x.index)/\W2.cell? ⟨b,76,none⟩=some (.int .i64 x.verdict)/\W2.cell? ⟨b,77,none⟩=some (.int .i64 x.tick):=by
 have h2:=H2 h hW
 refine⟨?_,?_,?_,?_,?_,?_,?_,?_⟩
 all_goals rw[Za h2,List.getElem?_toArray]
 ·exact x.c0
 ·exact x.c1
 ·exact x.c2
 ·exact x.c3
 ·exact Rc.c74 hx.root hx.file
 ·exact Rc.c75 hx.root hx.file
 ·exact Rc.c76 hx.root hx.file
 ·exact Rc.c77 hx.root hx.file
theorem VY(x:Rc)(hx:x.Ok)(hc:x.chk=0)(ea:Nat->Addr)(w:World)(H:Errs 298 errGs w ea):Calls Tryz.prog 39 #[.agg x.list.toArray] w λe w2=>e=.returned .nilIface/\Below w.heap.size w w2:=by
 refine(Vq x hx ea w H).mono ?_
 rintro e w2 ⟨v,rfl,hv,hb⟩
 rw[hc] at hv
 rcases hv with ⟨_,rfl⟩|⟨i,_,h,_⟩|⟨i,g,F,V,_,h,_⟩
 ·exact⟨rfl,hb⟩
 ·cases h
 ·cases h
theorem VW(b:Nat)(ps:List (List UInt8))(n:Nat)(w:World)(hA:RowsAt w b ps)(hn:ps.length=n)(hm:n<=100)(h1:1<=ps.flatten.length)(h2:ps.flatten.length<=1000000) :
  Calls Tryz.prog 140 #[.slice (some ⟨b,0,none⟩) n n] w λe w2=>∃ v,e=.returned v/\OwnB w.heap.size w2 v ps.flatten/\Below w.heap.size w w2:=by
 subst hn
 exact VM b ps w hA oX h1 h2
theorem Ct{w:World}{B:Nat}{p0 p1 p2 p3 p4:List UInt8}{a0 a1 a2 a3 a4:Option Addr}{c0 c1 c2 c3 c4 l0 l1 l2 l3 l4:Nat}(hB:w.heap[B]? = some (.cells #[.slice a0 l0 c0,.slice a1 l1 c1,.slice a2 l2 c2,.slice a3 l3 c3,.slice a4 l4 c4] 24 (0,0)))
  (e0:p0.length=l0) (e1:p1.length=l1) (e2:p2.length=l2) (e3:p3.length=l3) (e4:p4.length=l4) (h0:ArgB w a0 c0 p0) (h1:ArgB w a1 c1 p1) (h2:ArgB w a2 c2 p2) (h3:ArgB w a3 c3 p3) (h4:ArgB w a4 c4 p4):RowsAt w B [p0,p1,p2,p3,p4]:=by
 intro k hk
 match k,hk with
 | 0,_=>exact⟨a0,c0,by rw[Za hB];show some (Value.slice a0 l0 c0)=_;rw[<-e0];rfl,h0⟩
 | 1,_=>exact⟨a1,c1,by rw[Za hB];show some (Value.slice a1 l1 c1)=_;rw[<-e1];rfl,h1⟩
 | 2,_=>exact⟨a2,c2,by rw[Za hB];show some (Value.slice a2 l2 c2)=_;rw[<-e2];rfl,h2⟩
 | 3,_=>exact⟨a3,c3,by rw[Za hB];show some (Value.slice a3 l3 c3)=_;rw[<-e3];rfl,h3⟩
 | 4,_=>exact⟨a4,c4,by rw[Za hB];show some (Value.slice a4 l4 c4)=_;rw[<-e4];rfl,h4⟩
def Xg(x:Rc)(w:World)(e:Ending)(w2:World):Prop:=∃ v,e=.returned (.tuple #[v,.nilIface])/\OwnB w.heap.size w2 v x.out/\Below w.heap.size w w2
def SD(sI sE:Value)(k:Nat):Prop:=(∃ o s n c,sI=.slice (some ⟨k,o,s⟩) n c/\0<n)\/(∃ o s n c,sE=.slice (some ⟨k,o,s⟩) n c/\0<n)
theorem U1{D:Nat->Prop}{w w':World}{b o:Nat}{cs:List Value}(h:w.rangeAt b o cs)(hO:Only D w w')(hn:¬D b):w'.rangeAt b o cs:=λj v hv=>by
 have h1:=h j v hv
 exact(World.cell?_of_block (a:=⟨b,o+j,none⟩) (hO.block b (World.block_lt_of_cell? w _ h1) hn)).trans h1
theorem ArgS.only{D:Nat->Prop}{w w':World}{sI sE:Value}{m:St}(h:ArgS w (.agg #[sI,sE]) m)(hO:Only D w w')(hd:∀ k,SD sI sE k->¬D k):ArgS w' (.agg #[sI,sE]) m:=by
 obtain⟨⟨a,c,a',c',e,h1,h2,h3,h4,h5,h6⟩,h7,h8⟩:=h
 cases e
 refine⟨⟨a,c,a',c',rfl,λk hk=>?_,h2,h3,λk hk=>?_,h5,h6⟩,h7,h8⟩
 ·obtain⟨b1,o1,rfl,hr⟩:=h1 k hk
  exact⟨b1,o1,rfl,U1 hr hO (hd b1 (.inl ⟨_,_,_,_,rfl,oX⟩))⟩
 ·obtain⟨b1,o1,rfl,hr⟩:=h4 k hk
  exact⟨b1,o1,rfl,U1 hr hO (hd b1 (.inr ⟨_,_,_,_,rfl,oX⟩))⟩
theorem ArgS.sd_lt{w:World}{sI sE:Value}{m:St}(h:ArgS w (.agg #[sI,sE]) m):∀ k,SD sI sE k->k<w.heap.size:=by
 obtain⟨⟨a,c,a',c',e,h1,h2,h3,h4,h5,h6⟩,h7,h8⟩:=h
 cases e
 rintro k (⟨o,s,n,c2,e,hn⟩|⟨o,s,n,c2,e,hn⟩)
 ·cases e
  obtain⟨b1,o1,e,hr⟩:=h1 0 hn
  cases e
  exact World.block_lt_of_cell? w _ (hr 0 _ (It.c0 _))
 ·cases e
  obtain⟨b1,o1,e,hr⟩:=h4 0 hn
  cases e
  exact World.block_lt_of_cell? w _ (hr 0 _ (rfl:(En.list m.ens[0])[0]? = some _))
theorem FreshS.sd{B:Nat}{sI sE:Value}{w:World}{m:St}(h:FreshS B (.agg #[sI,sE]))(ha:ArgS w (.agg #[sI,sE]) m):∀ k,SD sI sE k->B<=k:=by
 obtain⟨⟨a,c,a',c',e,_⟩,_,_⟩:=ha
 cases e
 obtain⟨f1,f2⟩:=h _ _ _ _ _ _ rfl
 rintro k (⟨o,s,n,c2,e,hn⟩|⟨o,s,n,c2,e,hn⟩)
 ·cases e;exact f1 _ _ _ rfl
 ·cases e;exact f2 _ _ _ rfl
structure LV where
 J:Nat
 B:Nat
 mb:Nat
 mn:Nat
 f:Nat
 v:Value
 rv:Value
 fv:Value
 sI:Value
 sE:Value
 F:Nat->Prop
structure LP where
 p:DP
 recs:List (List UInt8)
 sure:Nat
 dead:Bool
 n:Nat
 ps:List (List UInt8)
 m:St
def LdD(l:Nat)(V:LV)(k:Nat):Prop:=k=l\/SD V.sI V.sE k\/FrD V.f V.fv k\/JF V.J V.F V.rv k\/Zw V.B V.mb V.v k
structure LdM (base:Nat) (w:World) (l:Nat) (V:LV) (P:LP):Prop where
 jd:JD base w V.J V.B V.mb V.mn V.v V.rv V.F P.p P.recs P.sure P.dead
 at_:w.heap[l]? = some (.cells #[.pointer (some ⟨V.J,0,none⟩),V.sI,V.sE,.pointer (some ⟨V.f,0,none⟩)] 124 (0,0))
 st:ArgS w (.agg #[V.sI,V.sE]) P.m
 fr:FrM base w V.f P.n V.fv P.ps
 ge:base<=l
 ges:∀ k,SD V.sI V.sE k->base<=k
 ls:¬SD V.sI V.sE l
 lf:¬FrD V.f V.fv l
 lj:¬(JF V.J V.F V.rv l\/Zw V.B V.mb V.v l)
 sf:∀ k,SD V.sI V.sE k->¬FrD V.f V.fv k
 sj:∀ k,SD V.sI V.sE k->¬(JF V.J V.F V.rv k\/Zw V.B V.mb V.v k)
 fj:∀ k,FrD V.f V.fv k->¬(JF V.J V.F V.rv k\/Zw V.B V.mb V.v k)
theorem LdM.lt{base:Nat}{w:World}{l:Nat}{V:LV}{P:LP}(h:LdM base w l V P):∀ k,LdD l V k->base<=k/\k<w.heap.size:=by
 rintro k (rfl|hk|hk|hk|hk)
 ·exact⟨h.ge,Zb h.at_⟩
 ·exact⟨h.ges k hk,h.st.sd_lt k hk⟩
 ·exact h.fr.lt k hk
 ·exact h.jd.jm.lt k hk
 ·exact h.jd.dm.lt k hk
theorem LdM.only{base:Nat}{w w':World}{l:Nat}{V:LV}{P:LP}{D:Nat->Prop}(h:LdM base w l V P)(hO:Only D w w')(hd:∀ k,LdD l V k->¬D k):LdM base w' l V P:=
 ⟨h.jd.only hO (λk hk=>hd k (.inr (.inr (.inr (.inl hk))))) (λk hk=>hd k (.inr (.inr (.inr (.inr hk))))),hO.heap h.at_ (hd l (.inl rfl)),h.st.only hO (λk hk=>hd k (.inr (.inl hk))),h.fr.only hO (λk hk=>hd k (.inr (.inr (.inl hk)))),h.ge,h.ges,h.ls,h.lf,h.lj,h.sf,h.sj,h.fj⟩
theorem LdM.below{base:Nat}{w w':World}{l:Nat}{V:LV}{P:LP}(h:LdM base w l V P)(hb:Below w.heap.size w w'):LdM base w' l V P:=h.only (Only.ofBelow (D:=λ_=>False) hb) (λ_ _ h=>h)
structure LStep (base:Nat) (w w':World) (l:Nat) (V V':LV) (P':LP):Prop where
 ok:LdM base w' l V' P'
 only:Only (LdD l V) w w'
 new:∀ k,LdD l V' k->LdD l V k\/w.heap.size<=k
theorem LStep.same{base:Nat}{w:World}{l:Nat}{V:LV}{P:LP}(h:LdM base w l V P):LStep base w w l V V P:=⟨h,Only.refl _ _,λ_ h=>.inl h⟩
theorem LStep.trans{base:Nat}{w w1 w2:World}{l:Nat}{V V1 V2:LV}{P1 P2:LP}(h:LStep base w w1 l V V1 P1)(h':LStep base w1 w2 l V1 V2 P2):LStep base w w2 l V V2 P2:=
 ⟨h'.ok,h.only.trans h'.only (λk hk hd=>(h.new k hd).elim id (λh=>absurd h oX)),λk hk=>by
  rcases h'.new k hk with h1|h1
  ·exact h.new k h1
  ·exact .inr (Nat.le_trans h.only.size h1)⟩
theorem LStep.grow{base:Nat}{w w1 w2:World}{l:Nat}{V V1:LV}{P1:LP}(h:LStep base w w1 l V V1 P1)(hb:Below w1.heap.size w1 w2):LStep base w w2 l V V1 P1:=
 h.trans ⟨h.ok.below hb,Only.ofBelow hb,λ_ h=>.inl h⟩
theorem LStep.below{base:Nat}{w w':World}{l:Nat}{V V':LV}{P P':LP}(h:LStep base w w' l V V' P')(h0:LdM base w l V P)(hb:base<=w.heap.size):Below base w w':=h.only.below hb (λk hk=>(h0.lt k hk).1)
theorem LdM.journal{base:Nat}{w w':World}{l:Nat}{V:LV}{P:LP}{mn':Nat}{v' rv':Value}{F':Nat->Prop}{p':DP}{recs':List (List UInt8)}{sure':Nat}{dead':Bool}(h:LdM base w l V P)(hj:JStep base w w' V.J V.B V.mb V.v V.rv V.F mn' v' rv' F' p' recs' sure' dead') :
  LStep base w w' l V { V with mn:=mn',v:=v',rv:=rv',F:=F' } { P with p:=p',recs:=recs',sure:=sure',dead:=dead' }:=by
 have hap:∀ k,k<w.heap.size->¬(JF V.J V.F V.rv k\/Zw V.B V.mb V.v k)->¬(JF V.J F' rv' k\/Zw V.B V.mb v' k):=λk hk hn hd=>by
  rcases hd with hd|hd
  ·rcases hj.newJ k hd with q|q
   ·exact hn (.inl q)
   ·omega
  ·rcases hj.newD k hd with q|q
   ·exact hn (.inr q)
   ·omega
 refine⟨⟨hj.ok,hj.only.heap h.at_ h.lj,h.st.only hj.only h.sj,h.fr.only hj.only h.fj,h.ge,h.ges,h.ls,h.lf,hap l (Zb h.at_) h.lj,h.sf,λk hk=>hap k (h.st.sd_lt k hk) (h.sj k hk),λk hk=>hap k (h.fr.lt k hk).2 (h.fj k hk)⟩,hj.only.mono (λk _ hk=>hk.elim (λh=>.inr (.inr (.inr (.inl h)))) (λh=>.inr (.inr (.inr (.inr h))))),?_⟩
 rintro k (hk|hk|hk|hk|hk)
 ·exact .inl (.inl hk)
 ·exact .inl (.inr (.inl hk))
 ·exact .inl (.inr (.inr (.inl hk)))
 ·exact(hj.newJ k hk).imp (λh=>.inr (.inr (.inr (.inl h)))) id
 ·exact(hj.newD k hk).imp (λh=>.inr (.inr (.inr (.inr h)))) id
theorem LdM.state{base:Nat}{w w':World}{l:Nat}{V:LV}{P:LP}{sI sE:Value}{m:St}(h:LdM base w l V P)(hU:Upd l (.cells #[.pointer (some ⟨V.J,0,none⟩),sI,sE,.pointer (some ⟨V.f,0,none⟩)] 124 (0,0)) w w')(ha:ArgS w (.agg #[sI,sE]) m)(hn:∀ k,SD sI sE k->base<=k/\¬LdD l V k)(B:Nat)(hB:∀ k,SD sI sE k->B<=k) :
  LdM base w' l { V with sI:=sI,sE:=sE } { P with m:=m }/\Only (LdD l V) w w'/\∀ k,LdD l { V with sI:=sI,sE:=sE } k->LdD l V k\/B<=k:=by
 have hO:Only (λk=>k=l) w w':=Only.ofUpd hU rfl
 refine⟨⟨h.jd.only hO (λk hk e=>h.lj (.inl (e▸hk))) (λk hk e=>h.lj (.inr (e▸hk))),hU.here,ha.only hO (λk hk e=>(hn k hk).2 (.inl e)),h.fr.only hO (λk hk e=>h.lf (e▸hk)),h.ge,λk hk=>(hn k hk).1,λhs=>(hn l hs).2 (.inl rfl),h.lf,h.lj,λk hk hf=>(hn k hk).2 (.inr (.inr (.inl hf))),λk hk hj=>(hn k hk).2 (.inr (.inr (.inr hj))),h.fj⟩,hO.mono (λk _ e=>.inl e),?_⟩
 rintro k (hk|hk|hk|hk|hk)
 ·exact .inl (.inl hk)
 ·exact .inr (hB k hk)
 ·exact .inl (.inr (.inr (.inl hk)))
 ·exact .inl (.inr (.inr (.inr (.inl hk))))
 ·exact .inl (.inr (.inr (.inr (.inr hk))))
theorem LdM.leaf{base:Nat}{w w':World}{l:Nat}{V:LV}{P:LP}{n':Nat}{fv':Value}{ps':List (List UInt8)}(h:LdM base w l V P)(hf:FrM base w' V.f n' fv' ps')(hO:Only (FrD V.f V.fv) w w')(hn:∀ k,fv'.ownBlock=some k->FrD V.f V.fv k\/w.heap.size<=k):LStep base w w' l V { V with fv:=fv' } { P with n:=n',ps:=ps' }:=by
 have hap:∀ k,k<w.heap.size->¬FrD V.f V.fv k->¬FrD V.f fv' k:=λk hk hn2 hd=>by
  rcases hd with rfl|hd
  ·exact hn2 (.inl rfl)
  ·rcases hn k hd with q|q
   ·exact hn2 q
   ·omega
 have hj:∀ k,FrD V.f fv' k->¬(JF V.J V.F V.rv k\/Zw V.B V.mb V.v k):=λk hk hjd=>by
  have hlt:k<w.heap.size:=by rcases hjd with q|q;exact(h.jd.jm.lt k q).2;exact(h.jd.dm.lt k q).2
  by_cases hfk:FrD V.f V.fv k
  ·exact h.fj k hfk hjd
  ·exact hap k hlt hfk hk
 refine⟨⟨h.jd.only hO (λk hk hf=>h.fj k hf (.inl hk)) (λk hk hf=>h.fj k hf (.inr hk)),hO.heap h.at_ h.lf,h.st.only hO (λk hk=>h.sf k hk),hf,h.ge,h.ges,h.ls,hap l (Zb h.at_) h.lf,h.lj,λk hk=>hap k (h.st.sd_lt k hk) (h.sf k hk),h.sj,hj⟩,hO.mono (λk _ hk=>.inr (.inr (.inl hk))),?_⟩
 rintro k (hk|hk|hk|hk|hk)
 ·exact .inl (.inl hk)
 ·exact .inl (.inr (.inl hk))
 ·rcases hk with rfl|hk
  ·exact .inl (.inr (.inr (.inl (.inl rfl))))
  ·exact(hn k hk).imp (λh=>.inr (.inr (.inl h))) id
 ·exact .inl (.inr (.inr (.inr (.inl hk))))
 ·exact .inl (.inr (.inr (.inr (.inr hk))))
theorem Vv{W:World}{b:Nat}{o:Obj}{sI sE:Value}{W':World}{m:St}(hz:W.heap[b]? = some o)(hf:FreshS W.heap.size (.agg #[sI,sE]))(ha:ArgS W' (.agg #[sI,sE]) m):∀ k,SD sI sE k->k≠b:=λk hk e=>by
 have:=hf.sd ha k hk
 have:=Zb hz
 omega
theorem Vt{w:World}{sI sE:Value}{m:St}(ha:ArgS w (.agg #[sI,sE]) m):∀ k,SD sI sE k->k≠w.heap.size:=λk hk e=>by
 have:=ha.sd_lt k hk
 omega
theorem ErrIs.zero{ea:Nat->Addr}{w:World}{v:Value}(h:ErrIs ea w v 0):v=.nilIface:=by
 rcases h with ⟨_,rfl⟩|⟨i,_,e,_⟩|⟨i,g,F,V,_,e,_⟩
 ·rfl
 ·omega
 ·omega
theorem LStep.state{base:Nat}{w w1 w2:World}{l:Nat}{V V1:LV}{P1:LP}{sI sE:Value}{m:St}(h:LStep base w w1 l V V1 P1)(hU:Upd l (.cells #[.pointer (some ⟨V1.J,0,none⟩),sI,sE,.pointer (some ⟨V1.f,0,none⟩)] 124 (0,0)) w1 w2)(ha:ArgS w1 (.agg #[sI,sE]) m)(hb:base<=w.heap.size)(hn:∀ k,SD sI sE k->w.heap.size<=k/\¬LdD l V1 k) :
  LStep base w w2 l V { V1 with sI:=sI,sE:=sE } { P1 with m:=m }:=by
 obtain⟨hs,ho,hn2⟩:=h.ok.state hU ha (λk hk=>⟨by have:=(hn k hk).1;omega,(hn k hk).2⟩) w.heap.size (λk hk=>(hn k hk).1)
 exact⟨hs,h.only.trans ho (λk hk hd=>(h.new k hd).elim id (λh=>absurd h oX)),λk hk=>(hn2 k hk).elim (h.new k) .inr⟩
theorem RX{m:St}{x:Rc}(h:(Zi m x).2=0):x.chk=0:=by
 by_cases hc:x.chk=0
 ·exact hc
 ·unfold Zi at h
  rw[if_pos hc] at h
  exact absurd h hc
theorem TK{base:Nat}{w:World}{l:Nat}{V:LV}{P:LP}(h:LdM base w l V P)(x:Rc)(hx:x.Ok)(l1:P.m.its.length<=1000)(l2:P.m.ens.length<=1000)(hub:∀ y∈P.m.its,y.u<=1000000/\y.r<=1000000)(ea:Nat->Addr)(H:Errs 298 errGs w ea)(hn:(Zi P.m x).2≠0) :
  Calls Tryz.prog 81 #[.pointer (some ⟨l,0,none⟩),.agg x.list.toArray] w λe w'=>∃ v,e=.returned v/\ErrIs ea w' v (Zi P.m x).2/\Below w.heap.size w w':=by
 have hfo:=Hd (λW (hW:Below w.heap.size w W)=>Un (.agg #[V.sI,V.sE]) P.m x hx W (h.st.below hW nR) l1 l2 hub ea (H.below hW))
 have hlat:=h.at_
 have iR:(Tryz.prog.info? 49).map (·.size)=some x.list.toArray.size:=by rw[Rc.size hx];kernel_rfl
 obtain⟨fm,hfm⟩:∃ fm,fm=Zi P.m x:=⟨_,rfl⟩
 rw[<-hfm] at hfo hn ⊢
 obtain⟨R,hR⟩:∃ R,R=x.list.toArray:=⟨_,rfl⟩
 rw[<-hR] at hfo iR ⊢
 obtain⟨sI,hsI⟩:∃ sI,sI=V.sI:=⟨_,rfl⟩
 obtain⟨sE,hsE⟩:∃ sE,sE=V.sE:=⟨_,rfl⟩
 rw[<-hsI,<-hsE] at hfo hlat
 obtain⟨jb,hjb⟩:∃ jb,jb=V.J:=⟨_,rfl⟩
 obtain⟨fb,hfb⟩:∃ fb,fb=V.f:=⟨_,rfl⟩
 rw[<-hjb,<-hfb] at hlat
 obtain⟨w1,hw1⟩:∃ w1,w1=w.alloc (.cells R 49):=⟨_,rfl⟩
 have hB1:Below w.heap.size w w1:=by rw[hw1];exact bR.alloc nR _
 have aR:w1.heap[w.heap.size]? = some (.cells R 49 (0,0)):=by rw[hw1];exact heap_alloc_new w _
 have aL:w1.heap[l]? = some (.cells #[.pointer (some ⟨jb,0,none⟩),sI,sE,.pointer (some ⟨fb,0,none⟩)] 124 (0,0)):=(hB1.block _ (Zb hlat)).trans hlat
 have hllt:=Zb hlat
 have hs1:w1.heap.size=w.heap.size+1:=by rw[hw1];simp
 have rlA:∀ W:World,Grown w1 W->W.heap[w.heap.size]? = some (.cells R 49 (0,0)):=λW hW=>(hW.block _ (Zb aR)).trans aR
 have huA:=Tryz.underlying49
 have hzA:=iR
 have hld1:∀ W:World,Grown w1 W->W.cell? ⟨l,1,none⟩=some sI:=λW hW=>by rw[Za ((hW.block _ (Zb aL)).trans aL)];rfl
 have hld2:∀ W:World,Grown w1 W->W.cell? ⟨l,2,none⟩=some sE:=λW hW=>by rw[Za ((hW.block _ (Zb aL)).trans aL)];rfl
 have iN:(Tryz.prog.info? 28).map (·.size)=some (#[.slice none 0 0,.slice none 0 0]:Array Value).size:=kX
 replace hw1:=Hd hw1
 replace hB1:=Hd hB1
 replace aR:=Hd aR
 replace aL:=Hd aL
 replace hs1:=Hd hs1
 replace hR:=Hd hR
 replace hfm:=Hd hfm
 replace hsI:=Hd hsI
 replace hsE:=Hd hsE
 replace hjb:=Hd hjb
 replace hfb:=Hd hfb
 replace h:=Hd h
 replace H:=Hd H
 clear hlat l1 l2 hub
 go_enter Tryz.func81,Tryz.ntmps81
 go_upto_region 1 with fail
 rw[<-hw1.out]
 have hd0:Hid (Grown w1 w1.drew):=Hd (Grown.drew (Grown.refl w1))
 go_cut [5,6] from 9 to 17 (λs5 s6 wx=>∃ g sI' sE' v,s5=.pointer (some ⟨g,0,none⟩)/\s6=v/\wx.heap[g]? = some (.cells #[sI',sE'] 28 (0,0))/\w1.heap.size<=g/\ArgS wx (.agg #[sI',sE']) fm.1/\FreshS w1.heap.size (.agg #[sI',sE'])/\ErrIs ea wx v fm.2/\Grown w1 wx)
 case first=>
  refine wp_region_held_drew (S:=(Grown w1)) kX hd0.out (λhOn=>?_)
  generalize World.drew w1=wd at*
  refine tk 0 hOn ?_
  refine tk 1 hOn ?_
  refine tk 2 hOn ?_
  refine tk 3 hOn ?_
  refine tk 4 hOn ?_ (v:=Value.agg _) (hy:=Or.inl ⟨by rfl,λW hSW=>Zt _ _ rfl _ _ _ rfl (rlA W hSW) huA rfl hzA⟩)
  refine rds [5,9] ?_
  refine ac (λKz hKz=>?_) ?_
  go_simp
  (with_reducible refine(hfo.out _ (hB1.out.trans (hOn.mono hB1.out.size))).mono ?_)
  rintro e w4 ⟨vm,v4,rfl,hm4,hv4,hnew,hf4⟩
  obtain⟨a4,c4,a5,c5,hvm⟩:=hm4.shape
  subst hvm
  (try have hgS:=Hd (Vv hZ.out hf4 hm4))
  replace hf4:=Hd (hf4.mono hOn.size)
  replace hm4:=Hd hm4
  replace hv4:=Hd hv4
  (try replace hZ:=Hd ((hnew.block _ (Zb hZ.out)).trans hZ.out))
  focus (go_wp2_with fail)
  refine hKz.out _ _ (Below.trans hOn (Below.mono hnew (Below.size hOn))) ?_
  clear hKz Kz hOn
  intro hOn
  try clear hnew
  try simp only[Act.put,sL,sZ,sS]
  refine tk 6 hOn ?_
  refine tk 7 hOn ?_
  refine tk 8 hOn ?_
  refine rd 9 (λKz hKz=>?_)
  go_simp
  focus (try go_wp2_with fail)
  (with_reducible refine Zq (t:=28) ?_)
  have hZg:=Hd hOn.size
  (try have hgS:=Hd (Vt hm4.out))
  intro wZ hZ hnew
  (try replace hm4:=Hd (hm4.out.below hnew nR))
  (try replace hv4:=Hd (hv4.out.below hnew))
  refine hKz.out _ _ (Below.trans hOn (Below.mono hnew (Below.size hOn))) ?_
  clear hKz Kz hOn
  intro hOn
  try clear hnew
  try simp only[Act.put,sL,sZ,sS]
  refine rd 10 (λKz hKz=>?_)
  rw[if_pos (by rfl)]
  (with_reducible refine Zu 28 (.tmp 5) (.tmp 16) rfl _ #[.slice none 0 0,.slice none 0 0] #[.slice a4 fm.1.its.length c4,.slice a5 fm.1.ens.length c5] rfl rfl hZ kX rfl c5X ?_)
  intro w9 hU9
  have hS:=Below.trans hOn (hU9.out.below hZg.out)
  have hm9:=Hd (hm4.out.only (Only.ofUpd (D:=λk=>k=_) hU9.out rfl) (λk hk e=>hgS.out k hk e))
  have hv9:=Hd (hv4.out.updS hU9.out hZ.out dX)
  have hg9:=Hd hU9.out.here
  refine hKz.out _ _ hS ?_
  clear hKz Kz hOn hS
  intro hOn
  try simp only[Act.put]
  refine tk 11 hOn ?_
  refine dnE ?_
  rotate_left
  refine ac (λKz hKz=>?_) AllReadyH.nil
  go_simp
  focus (try go_wp2_with fail)
  (with_reducible refine Zq (t:=28) ?_)
  have hZg:=Hd hOn.size
  (try have hgS:=Hd (Vt hm4.out))
  intro wZ hZ hnew
  (try replace hm4:=Hd (hm4.out.below hnew nR))
  (try replace hv4:=Hd (hv4.out.below hnew))
  refine hKz.out _ _ (Below.trans hOn (Below.mono hnew (Below.size hOn))) ?_
  clear hKz Kz hOn
  intro hOn
  try clear hnew
  try simp only[Act.put,sL,sZ,sS]
  refine rd 5 (λKz hKz=>?_)
  go_simp
  (with_reducible refine(hfo.out _ (hB1.out.trans (hOn.mono hB1.out.size))).mono ?_)
  rintro e w4 ⟨vm,v4,rfl,hm4,hv4,hnew,hf4⟩
  obtain⟨a4,c4,a5,c5,hvm⟩:=hm4.shape
  subst hvm
  (try have hgS:=Hd (Vv hZ.out hf4 hm4))
  replace hf4:=Hd (hf4.mono hOn.size)
  replace hm4:=Hd hm4
  replace hv4:=Hd hv4
  (try replace hZ:=Hd ((hnew.block _ (Zb hZ.out)).trans hZ.out))
  focus (go_wp2_with fail)
  refine hKz.out _ _ (Below.trans hOn (Below.mono hnew (Below.size hOn))) ?_
  clear hKz Kz hOn
  intro hOn
  try clear hnew
  try simp only[Act.put,sL,sZ,sS]
  refine tk 6 hOn ?_
  refine tk 7 hOn ?_
  refine tk 8 hOn ?_
  refine rd 10 (λKz hKz=>?_)
  rw[if_pos (by rfl)]
  (with_reducible refine Zu 28 (.tmp 5) (.tmp 16) rfl _ #[.slice none 0 0,.slice none 0 0] #[.slice a4 fm.1.its.length c4,.slice a5 fm.1.ens.length c5] rfl rfl hZ kX rfl c5X ?_)
  intro w9 hU9
  have hS:=Below.trans hOn (hU9.out.below hZg.out)
  have hm9:=Hd (hm4.out.only (Only.ofUpd (D:=λk=>k=_) hU9.out rfl) (λk hk e=>hgS.out k hk e))
  have hv9:=Hd (hv4.out.updS hU9.out hZ.out dX)
  have hg9:=Hd hU9.out.here
  refine hKz.out _ _ hS ?_
  clear hKz Kz hOn hS
  intro hOn
  try simp only[Act.put]
  refine tk 11 hOn ?_
  refine dnE ?_
  all_goals
   go_wp2_with fail
   go_meet
   exact⟨_,_,_,_,rfl,rfl,hg9.out,hZg.out,hm9.out,hf4.out,hv9.out,hOn⟩
 case rest=>
  obtain⟨g,sI',sE',v,rfl,rfl,hg,hg1,hm',hf',hv',hgr'⟩:=hcut
  have hnq:=hv'.neq
  have hgd:=hv'.guard
  rw[show (fm.2 != 0)=true from by simpa using hn] at hnq
  have hfin:=Hd (hB1.out.trans (hgr'.mono hB1.out.size))
  replace hv':=Hd hv'
  clear hn hm' hf' hg hgr' rlA hld1 hld2
  go_wp2_with fail
  go_ret
  exact⟨_,rfl,hv'.out,hfin.out⟩
structure Soft (B:Nat) (w W:World):Prop where
 bel:Below B w W
 err:∀ (b:Nat) (C:Array Value) (t:TypeId) (z:Nat×Nat),w.heap[b]? = some (.cells C t z)->(t=229\/t=234)->W.heap[b]? = some (.cells C t z)
theorem Soft.refl(B:Nat)(w:World):Soft B w w:=⟨Below.refl _ _,λ_ _ _ _ h _=>h⟩
theorem Soft.trans{B:Nat}{a b c:World}(h:Soft B a b)(h':Soft B b c):Soft B a c:=⟨h.bel.trans h'.bel,λk C t z hk ht=>h'.err k C t z (h.err k C t z hk ht) ht⟩
theorem Soft.ofBelow{B:Nat}{w W:World}(h:Below w.heap.size w W)(hB:B<=w.heap.size):Soft B w W:=⟨h.mono hB,λb C t z hb _=>(h.block b (Zb hb)).trans hb⟩
theorem Soft.ofUpd{B b:Nat}{o:Obj}{C:Array Value}{t:TypeId}{z:Nat×Nat}{w W:World}(h:Upd b o w W)(hb:w.heap[b]? = some (.cells C t z))(ht:t≠229/\t≠234)(hB:B<=b):Soft B w W:=by
 refine⟨h.below hB,λk C' t' z' hk ht'=>(h.block k λe=>?_).trans hk⟩
 subst e
 rw[hb] at hk
 injection hk with hk
 injection hk with _ h5 _
 rcases ht' with e|e
 ·exact ht.1 (h5.trans e)
 ·exact ht.2 (h5.trans e)
def JI(v:Value):Prop:=(∀ W,(binOp .neq 30 v .nilIface).run Tryz.prog W=.ok (.bool true) W)/\∀ W i,Sem.run Tryz.prog (eqGuard .neq 30 (.tmp i) (.const .nilIface) v .nilIface) W=.ok () W
def BadE(B:Nat)(v:Value)(w:World):Prop:=JI v/\∀ W,Soft B w W->Calls Tryz.prog 10 #[v] W λe w'=>∃ k:Nat,k≠0/\k<=20/\e=.returned (.int .i64 (k:Int))/\Below W.heap.size W w'
theorem BadE.soft{B:Nat}{v:Value}{w w':World}(h:BadE B v w)(hb:Soft B w w'):BadE B v w':=⟨h.1,λW hW=>h.2 W (hb.trans hW)⟩
theorem ErrIs.softE{B:Nat}{ea:Nat->Addr}{w w':World}{v:Value}{n:Nat}(h:ErrIs ea w v n)(hb:Soft B w w'):ErrIs ea w' v n:=by
 rcases h with h|h|⟨i,g,F,V,h1,h2,h3,h4⟩
 ·exact .inl h
 ·exact .inr (.inl h)
 ·exact .inr (.inr ⟨i,g,F,V,h1,h2,h3,hb.err _ _ _ _ h4 (.inl rfl)⟩)
theorem ErrIs.badE{B:Nat}{ea:Nat->Addr}{w:World}{v:Value}{n:Nat}(h:ErrIs ea w v n)(hn:n≠0)(H:∀ W,Below B w W->Errs 298 errGs W ea):BadE B v w:=by
 have hb:(n != 0)=true:=by simpa using hn
 refine⟨⟨λW=>?_,λW i=>h.guard W i⟩,λW hW=>?_⟩
 ·have:=h.neq W
  rwa [hb] at this
 ·refine(PY (h.softE hW) (H W hW.bel)).mono ?_
  rintro e w' ⟨rfl,hb⟩
  exact⟨n,hn,h.lt,rfl,hb⟩
abbrev JPred:=Nat->DP->List (List UInt8)->Nat->Bool->Prop
def Gf(base:Nat)(w:World)(l:Nat)(V:LV)(P:LP)(m':St)(ps':List (List UInt8))(RO RB:JPred)(e:Ending)(w':World):Prop:=
 ∃ V' p' recs' sure' dead',V'.J=V.J/\V'.B=V.B/\V'.mb=V.mb/\V'.f=V.f/\
  ((e=.returned .nilIface/\RO V'.mn p' recs' sure' dead'/\LStep base w w' l V V' ⟨p',recs',sure',dead',P.n+1,ps',m'⟩)\/
  (∃ v,e=.returned v/\BadE base v w'/\RB V'.mn p' recs' sure' dead'/\LStep base w w' l V V' ⟨p',recs',sure',dead',P.n,P.ps,P.m⟩))
def Cs(base:Nat)(W:World)(V:LV)(RO RB:JPred)(e:Ending)(w':World):Prop:=
 ∃ mn5 v5 rv5 F5 p5 recs5 sure5 dead5,JStep base W w' V.J V.B V.mb V.v V.rv V.F mn5 v5 rv5 F5 p5 recs5 sure5 dead5/\((e=.returned .nilIface/\RO mn5 p5 recs5 sure5 dead5)\/∃ v,e=.returned v/\BadE base v w'/\RB mn5 p5 recs5 sure5 dead5)
theorem Hp{base:Nat}{w:World}{l:Nat}{V:LV}{P:LP}(h:LdM base w l V P)(hb:base<=w.heap.size)(x:Rc)(hx:x.Ok)(l1:P.m.its.length<=1000)(l2:P.m.ens.length<=1000)(hub:∀ y∈P.m.its,y.u<=1000000/\y.r<=1000000)(ea:Nat->Addr)(H:Errs 298 errGs w ea)(hn:(Zi P.m x).2≠0)(ps':List (List UInt8))(RO RB:JPred)(hRB:RB V.mn P.p P.recs P.sure P.dead)(hHb:∀ W,Below base w W->Errs 298 errGs W ea) :
  Calls Tryz.prog 81 #[.pointer (some ⟨l,0,none⟩),.agg x.list.toArray] w (Gf base w l V P (Zi P.m x).1 ps' RO RB):=by
 have hbs:=hb
 refine(TK h x hx l1 l2 hub ea H hn).mono ?_
 rintro e w' ⟨v,rfl,hv,hb⟩
 have hb0:=hbs
 exact⟨V,P.p,P.recs,P.sure,P.dead,rfl,rfl,rfl,rfl,.inr ⟨v,rfl,hv.badE hn (λW hW=>hHb W ((hb.mono hb0).trans hW)),hRB,(LStep.same h).grow hb⟩⟩
theorem Nm{base:Nat}{w:World}{l:Nat}{V:LV}{P:LP}(h:LdM base w l V P)(hb:base<=w.heap.size)(x:Rc)(hx:x.Ok)(l1:P.m.its.length<=1000)(l2:P.m.ens.length<=1000)(hub:∀ y∈P.m.its,y.u<=1000000/\y.r<=1000000)(ea:Nat->Addr)(H:Errs 298 errGs w ea)(hn:(Zi P.m x).2=0)(ps':List (List UInt8))(RO RB:JPred)(hbyt:∀ W,Below w.heap.size w W->Calls Tryz.prog 120 #[.agg x.list.toArray] W (Xg x W))
  (hput:∀ W a c,Below w.heap.size w W->ArgB W a c x.out->(∀ b o s,a=some ⟨b,o,s⟩->w.heap.size<=b/\b<W.heap.size)->Calls Tryz.prog 121 #[.pointer (some ⟨V.J,0,none⟩),.slice a x.out.length c] W (Cs base W V RO RB))
  (hgrw:∀ W a c,Below base w W->FrM base W V.f P.n V.fv P.ps->ArgB W a c x.out->Calls Tryz.prog 62 #[.pointer (some ⟨V.f,0,none⟩),.slice a x.out.length c] W (XC base W V.f (P.n+1) V.fv ps')) :
  Calls Tryz.prog 81 #[.pointer (some ⟨l,0,none⟩),.agg x.list.toArray] w (Gf base w l V P (Zi P.m x).1 ps' RO RB):=by
 have hby:=Hd hbyt
 clear hbyt
 have hfo:=Hd (λW (hW:Below w.heap.size w W)=>Un (.agg #[V.sI,V.sE]) P.m x hx W (h.st.below hW nR) l1 l2 hub ea (H.below hW))
 have hlat:=h.at_
 have iR:(Tryz.prog.info? 49).map (·.size)=some x.list.toArray.size:=by rw[Rc.size hx];kernel_rfl
 obtain⟨fm,hfm⟩:∃ fm,fm=Zi P.m x:=⟨_,rfl⟩
 rw[<-hfm] at hfo hn ⊢
 obtain⟨R,hR⟩:∃ R,R=x.list.toArray:=⟨_,rfl⟩
 rw[<-hR] at hfo iR hby ⊢
 replace hput:=Hd hput
 replace hgrw:=Hd hgrw
 obtain⟨sI,hsI⟩:∃ sI,sI=V.sI:=⟨_,rfl⟩
 obtain⟨sE,hsE⟩:∃ sE,sE=V.sE:=⟨_,rfl⟩
 rw[<-hsI,<-hsE] at hfo hlat
 obtain⟨jb,hjb⟩:∃ jb,jb=V.J:=⟨_,rfl⟩
 obtain⟨fb,hfb⟩:∃ fb,fb=V.f:=⟨_,rfl⟩
 rw[<-hjb,<-hfb] at hlat
 obtain⟨w1,hw1⟩:∃ w1,w1=w.alloc (.cells R 49):=⟨_,rfl⟩
 have hB1:Below w.heap.size w w1:=by rw[hw1];exact bR.alloc nR _
 have aR:w1.heap[w.heap.size]? = some (.cells R 49 (0,0)):=by rw[hw1];exact heap_alloc_new w _
 have aL:w1.heap[l]? = some (.cells #[.pointer (some ⟨jb,0,none⟩),sI,sE,.pointer (some ⟨fb,0,none⟩)] 124 (0,0)):=(hB1.block _ (Zb hlat)).trans hlat
 have hllt:=Zb hlat
 have hs1:w1.heap.size=w.heap.size+1:=by rw[hw1];simp
 have rlA:∀ W:World,Grown w1 W->W.heap[w.heap.size]? = some (.cells R 49 (0,0)):=λW hW=>(hW.block _ (Zb aR)).trans aR
 have huA:=Tryz.underlying49
 have hzA:=iR
 have hld1:∀ W:World,Grown w1 W->W.cell? ⟨l,1,none⟩=some sI:=λW hW=>by rw[Za ((hW.block _ (Zb aL)).trans aL)];rfl
 have hld2:∀ W:World,Grown w1 W->W.cell? ⟨l,2,none⟩=some sE:=λW hW=>by rw[Za ((hW.block _ (Zb aL)).trans aL)];rfl
 have iN:(Tryz.prog.info? 28).map (·.size)=some (#[.slice none 0 0,.slice none 0 0]:Array Value).size:=kX
 replace hw1:=Hd hw1
 replace hB1:=Hd hB1
 replace aR:=Hd aR
 replace aL:=Hd aL
 replace hs1:=Hd hs1
 replace hR:=Hd hR
 replace hfm:=Hd hfm
 replace hsI:=Hd hsI
 replace hsE:=Hd hsE
 replace hjb:=Hd hjb
 replace hfb:=Hd hfb
 replace h:=Hd h
 replace H:=Hd H
 clear hlat l1 l2 hub
 go_enter Tryz.func81,Tryz.ntmps81
 go_upto_region 1 with fail
 rw[<-hw1.out]
 have hd0:Hid (Grown w1 w1.drew):=Hd (Grown.drew (Grown.refl w1))
 go_cut [5,6] from 9 to 17 (λs5 s6 wx=>∃ g sI' sE' v,s5=.pointer (some ⟨g,0,none⟩)/\s6=v/\wx.heap[g]? = some (.cells #[sI',sE'] 28 (0,0))/\w1.heap.size<=g/\ArgS wx (.agg #[sI',sE']) fm.1/\FreshS w1.heap.size (.agg #[sI',sE'])/\ErrIs ea wx v fm.2/\Grown w1 wx)
 case first=>
  refine wp_region_held_drew (S:=(Grown w1)) kX hd0.out (λhOn=>?_)
  generalize World.drew w1=wd at*
  refine tk 0 hOn ?_
  refine tk 1 hOn ?_
  refine tk 2 hOn ?_
  refine tk 3 hOn ?_
  refine tk 4 hOn ?_ (v:=Value.agg _) (hy:=Or.inl ⟨by rfl,λW hSW=>Zt _ _ rfl _ _ _ rfl (rlA W hSW) huA rfl hzA⟩)
  refine rds [5,9] ?_
  refine ac (λKz hKz=>?_) ?_
  go_simp
  (with_reducible refine(hfo.out _ (hB1.out.trans (hOn.mono hB1.out.size))).mono ?_)
  rintro e w4 ⟨vm,v4,rfl,hm4,hv4,hnew,hf4⟩
  obtain⟨a4,c4,a5,c5,hvm⟩:=hm4.shape
  subst hvm
  (try have hgS:=Hd (Vv hZ.out hf4 hm4))
  replace hf4:=Hd (hf4.mono hOn.size)
  replace hm4:=Hd hm4
  replace hv4:=Hd hv4
  (try replace hZ:=Hd ((hnew.block _ (Zb hZ.out)).trans hZ.out))
  focus (go_wp2_with fail)
  refine hKz.out _ _ (Below.trans hOn (Below.mono hnew (Below.size hOn))) ?_
  clear hKz Kz hOn
  intro hOn
  try clear hnew
  try simp only[Act.put,sL,sZ,sS]
  refine tk 6 hOn ?_
  refine tk 7 hOn ?_
  refine tk 8 hOn ?_
  refine rd 9 (λKz hKz=>?_)
  go_simp
  focus (try go_wp2_with fail)
  (with_reducible refine Zq (t:=28) ?_)
  have hZg:=Hd hOn.size
  (try have hgS:=Hd (Vt hm4.out))
  intro wZ hZ hnew
  (try replace hm4:=Hd (hm4.out.below hnew nR))
  (try replace hv4:=Hd (hv4.out.below hnew))
  refine hKz.out _ _ (Below.trans hOn (Below.mono hnew (Below.size hOn))) ?_
  clear hKz Kz hOn
  intro hOn
  try clear hnew
  try simp only[Act.put,sL,sZ,sS]
  refine rd 10 (λKz hKz=>?_)
  rw[if_pos (by rfl)]
  (with_reducible refine Zu 28 (.tmp 5) (.tmp 16) rfl _ #[.slice none 0 0,.slice none 0 0] #[.slice a4 fm.1.its.length c4,.slice a5 fm.1.ens.length c5] rfl rfl hZ kX rfl c5X ?_)
  intro w9 hU9
  have hS:=Below.trans hOn (hU9.out.below hZg.out)
  have hm9:=Hd (hm4.out.only (Only.ofUpd (D:=λk=>k=_) hU9.out rfl) (λk hk e=>hgS.out k hk e))
  have hv9:=Hd (hv4.out.updS hU9.out hZ.out dX)
  have hg9:=Hd hU9.out.here
  refine hKz.out _ _ hS ?_
  clear hKz Kz hOn hS
  intro hOn
  try simp only[Act.put]
  refine tk 11 hOn ?_
  refine dnE ?_
  rotate_left
  refine ac (λKz hKz=>?_) AllReadyH.nil
  go_simp
  focus (try go_wp2_with fail)
  (with_reducible refine Zq (t:=28) ?_)
  have hZg:=Hd hOn.size
  (try have hgS:=Hd (Vt hm4.out))
  intro wZ hZ hnew
  (try replace hm4:=Hd (hm4.out.below hnew nR))
  (try replace hv4:=Hd (hv4.out.below hnew))
  refine hKz.out _ _ (Below.trans hOn (Below.mono hnew (Below.size hOn))) ?_
  clear hKz Kz hOn
  intro hOn
  try clear hnew
  try simp only[Act.put,sL,sZ,sS]
  refine rd 5 (λKz hKz=>?_)
  go_simp
  (with_reducible refine(hfo.out _ (hB1.out.trans (hOn.mono hB1.out.size))).mono ?_)
  rintro e w4 ⟨vm,v4,rfl,hm4,hv4,hnew,hf4⟩
  obtain⟨a4,c4,a5,c5,hvm⟩:=hm4.shape
  subst hvm
  (try have hgS:=Hd (Vv hZ.out hf4 hm4))
  replace hf4:=Hd (hf4.mono hOn.size)
  replace hm4:=Hd hm4
  replace hv4:=Hd hv4
  (try replace hZ:=Hd ((hnew.block _ (Zb hZ.out)).trans hZ.out))
  focus (go_wp2_with fail)
  refine hKz.out _ _ (Below.trans hOn (Below.mono hnew (Below.size hOn))) ?_
  clear hKz Kz hOn
  intro hOn
  try clear hnew
  try simp only[Act.put,sL,sZ,sS]
  refine tk 6 hOn ?_
  refine tk 7 hOn ?_
  refine tk 8 hOn ?_
  refine rd 10 (λKz hKz=>?_)
  rw[if_pos (by rfl)]
  (with_reducible refine Zu 28 (.tmp 5) (.tmp 16) rfl _ #[.slice none 0 0,.slice none 0 0] #[.slice a4 fm.1.its.length c4,.slice a5 fm.1.ens.length c5] rfl rfl hZ kX rfl c5X ?_)
  intro w9 hU9
  have hS:=Below.trans hOn (hU9.out.below hZg.out)
  have hm9:=Hd (hm4.out.only (Only.ofUpd (D:=λk=>k=_) hU9.out rfl) (λk hk e=>hgS.out k hk e))
  have hv9:=Hd (hv4.out.updS hU9.out hZ.out dX)
  have hg9:=Hd hU9.out.here
  refine hKz.out _ _ hS ?_
  clear hKz Kz hOn hS
  intro hOn
  try simp only[Act.put]
  refine tk 11 hOn ?_
  refine dnE ?_
  all_goals
   go_wp2_with fail
   go_meet
   exact⟨_,_,_,_,rfl,rfl,hg9.out,hZg.out,hm9.out,hf4.out,hv9.out,hOn⟩
 case rest=>
  obtain⟨g,sI',sE',v,rfl,rfl,hg,hg1,hm',hf',hv',hgr'⟩:=hcut
  rw[hn] at hv'
  obtain rfl:=hv'.zero
  have hBg:=hB1.out.trans (hgr'.mono hB1.out.size)
  have aRc:=Hd (rlA _ hgr')
  have aLc:=Hd ((hgr'.block _ (Zb aL.out)).trans aL.out)
  have hg2:=Hd hg
  have hbyc:=Hd (hby.out _ hBg)
  have hmc:=Hd hm'
  have hsdN:=Hd (λk hk=>hf'.sd hm' k hk)
  replace hBg:=Hd hBg
  clear hv' hg hgr' rlA hld1 hld2 hby hfo hm'
  have l0:=Za aLc.out 0
  have l3:=Za aLc.out 3
  go_wp2_with ((with_reducible refine wL (.load 49 (.tmp 3)) ?_);refine Zd rfl 49 (.tmp 3) rfl w.heap.size R _ rfl aRc huA rfl iR ?_)
  with_reducible refine hbyc.out.mono ?_
  rintro e w4 ⟨vb,rfl,hob,hb4⟩
  obtain⟨ab,cb,rfl,hAb,hAB⟩:=hob.arg
  have hB4:=hBg.out.trans (hb4.mono hBg.out.size)
  have h4:=h.out.below hB4
  have aL4:=Hd ((hb4.block _ (Zb aLc.out)).trans aLc.out)
  have hg4:=Hd ((hb4.block _ (Zb hg2.out)).trans hg2.out)
  have hm4:=Hd (hmc.out.below hb4 nR)
  have hAo:=Hd (λb o s (e:ab=some ⟨b,o,s⟩)=>show w.heap.size<=b/\b<w4.heap.size from⟨Nat.le_trans hBg.out.size (hAB b o s e).1,(hAB b o s e).2⟩)
  have hpc:=Hd (hput.out w4 ab cb hB4 hAb hAo.out)
  replace hAb:=Hd hAb
  replace hB4:=Hd hB4
  replace h4:=Hd h4
  clear hb4 hob hAB hbyc l0 l3 hput
  have l0:=Za aL4.out 0
  rw[hjb.out] at l0
  go_wp2_with fail
  with_reducible refine hpc.out.mono ?_
  rintro e w5 ⟨mn5,v5,rv5,F5,p5,recs5,sure5,dead5,hj5,hcase⟩
  have hls:=h4.out.journal hj5
  rcases hcase with ⟨rfl,hRO⟩|⟨ev,rfl,hbe,hRB⟩
  case inr=>
   have hst:LStep base w w5 l V _ _:=LStep.trans (LStep.grow (LStep.same h.out) hB4.out) hls
   have hnq:=hbe.1.1
   have hgd:=hbe.1.2
   replace hst:=Hd hst
   replace hbe:=Hd hbe
   replace hRB:=Hd hRB
   clear hpc hls hj5
   go_wp2_with fail
   go_ret
   exact⟨{ V with mn:=mn5,v:=v5,rv:=rv5,F:=F5 },p5,recs5,sure5,dead5,rfl,rfl,rfl,rfl,.inr ⟨ev,rfl,hbe.out,hRB.out,hst.out⟩⟩
  have hJD:∀ k,w.heap.size<=k->¬(JF V.J V.F V.rv k\/Zw V.B V.mb V.v k):=λk hk hd=>by
   rcases hd with q|q
   ·have:=(h.out.jd.jm.lt k q).2;omega
   ·have:=(h.out.jd.dm.lt k q).2;omega
  have hg5:=Hd (hj5.only.heap hg4.out (hJD g (by have:=hs1.out;omega)))
  have hm5:=Hd (hm4.out.only hj5.only (λk hk=>hJD k (by have:=hsdN.out k hk;have:=hs1.out;omega)))
  have hA5:=Hd (hj5.only.argB hAb.out (λb o e=>hJD b (hAo.out b o none e).1))
  have aL5:=hls.ok.at_
  have h45:=hj5.only.size
  have i2':(Tryz.prog.info? 28).map (·.size)=some (#[sI',sE']:Array Value).size:=kX
  have h12:(#[sI',sE']:Array Value).all (·.oneCell')=true:=by
   obtain⟨a,c,a',c',e⟩:=hm5.out.shape
   cases e
   simp[Value.oneCell']
  have hpat:Qw #[.pointer (some ⟨V.J,0,none⟩),V.sI,V.sE,.pointer (some ⟨V.f,0,none⟩)] 1 (#[sI',sE']:Array Value).toList=#[.pointer (some ⟨V.J,0,none⟩),sI',sE',.pointer (some ⟨V.f,0,none⟩)]:=rfl
  replace aL5:Hid (w5.heap[l]? = some (.cells #[.pointer (some ⟨V.J,0,none⟩),V.sI,V.sE,.pointer (some ⟨V.f,0,none⟩)] 124 (0,0))):=Hd aL5
  replace hls:=Hd hls
  replace hj5:=Hd hj5
  replace hRO:=Hd hRO
  replace hJD:=Hd hJD
  replace h45:=Hd h45
  clear l0 hpc
  go_wp2_with (first
   | ((with_reducible refine wL (.load 28 (.tmp 5)) ?_);refine Zd rfl 28 (.tmp 5) rfl g #[sI',sE'] _ rfl hg5 Tryz.underlying28 rfl i2' ?_)
   | ((with_reducible refine wL (.store 28 (.tmp 41) _) ?_);(refine ZZ rfl 28 124 (.tmp 41) (.tmp 39) rfl l 1 #[.pointer (some ⟨V.J,0,none⟩),V.sI,V.sE,.pointer (some ⟨V.f,0,none⟩)] #[sI',sE'] rfl rfl aL5 i2' (Nat.le_of_ble_eq_true rfl) h12 ?_);intro w6 hU6;rw[hpat] at hU6;have aL6:=hU6.out.here;have q3:w6.cell? ⟨l,3,none⟩=some (.pointer (some ⟨V.f,0,none⟩)):=(by rw[Za aL6];rfl);clear aL6))
  have h5:=LStep.trans (LStep.grow (LStep.same h.out) hB4.out) hls.out
  have hst6:=LStep.state h5 hU6.out hm5.out hb (λk hk=>by
   have h1:=hsdN.out k hk
   have h2:=hs1.out
   refine⟨oX,λhd=>?_⟩
   rcases hls.out.new k hd with q|q
   ·have:=(h.out.lt k q).2
    omega
   ·have:=hm4.out.sd_lt k hk
    omega)
  have hA6:=(Only.ofUpd (D:=λk=>k=l) hU6.out rfl).argB hA5.out (λb o e e2=>by
   have:=(hAo.out b o none e).1
   omega)
  have hgc:=Hd (hgrw.out w6 ab cb (hst6.below h.out hb) hst6.ok.fr hA6)
  have hb06:=hst6.only.size
  replace hst6:=Hd hst6
  clear h5 hA6 hgrw
  go_wp2_with fail
  with_reducible refine hgc.out.mono ?_
  rintro e w7 ⟨rfl,fv7,hf7,ho7,hn7⟩
  have hst7:=hst6.out.trans (hst6.out.ok.leaf hf7 ho7 hn7)
  replace hst7:=Hd hst7
  clear hf7 ho7 hn7
  go_wp2_with fail
  go_ret
  exact⟨{ V with mn:=mn5,v:=v5,rv:=rv5,F:=F5,sI:=sI',sE:=sE',fv:=fv7 },p5,recs5,sure5,dead5,rfl,rfl,rfl,rfl,.inl ⟨rfl,hRO.out,hst7.out⟩⟩
end Go.Proofs.YtpdhceiodgnbmaaGreatDoor
