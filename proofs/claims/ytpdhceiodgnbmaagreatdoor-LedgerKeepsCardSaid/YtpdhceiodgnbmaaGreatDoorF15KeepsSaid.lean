import Derived.Test.YtpdhceiodgnbmaaGreatDoorF14KeepsSaid
set_option linter.all false
set_option maxRecDepth 100000
set_option maxHeartbeats 8000000
namespace Go.Proofs.YtpdhceiodgnbmaaGreatDoor
open Go.RowKit
theorem CI{B:Nat}{rv rv':Value}{hd:List UInt8}{E sure:Int}{dead:Bool}:(Z9 B rv hd E sure dead).setIfInBounds 1 rv'=Z9 B rv' hd E sure dead:=by
 simp[Z9]
theorem D1{B:Nat}{rv:Value}{hd:List UInt8}{E E' sure:Int}{dead:Bool}(h:hd.length=32):(Z9 B rv hd E sure dead).setIfInBounds 34 (.int .i64 E')=Z9 B rv hd E' sure dead:=by
 simp[Z9,List.set_append,Zc,h]
theorem D5{B:Nat}{rv:Value}{hd:List UInt8}{E sure ah:Int}{dead:Bool}(h:hd.length=32):(Z9 B rv hd E sure dead).setIfInBounds 35 (.int .i64 ah)=Z9 B rv hd E ah dead:=by
 simp[Z9,List.set_append,Zc,h]
theorem ED{B:Nat}{rv:Value}{hd:List UInt8}{E sure:Int}{dead aj:Bool}(h:hd.length=32):(Z9 B rv hd E sure dead).setIfInBounds 36 (.bool aj)=Z9 B rv hd E sure aj:=by
 simp[Z9,List.set_append,Zc,h]
def To(C:Array Value):Nat->List Value->Array Value
 | _,[]=>C
 | o,v::r=>To (C.setIfInBounds o v) (o+1) r
theorem Kr{b:Nat}{t:TypeId}{fz:Nat×Nat}(vs:List Value):∀ {C:Array Value} {w w':World} (o:Nat),ag b (.cells C t fz) w w'->ag b (.cells (To C o vs) t fz) w (w'.setCells b o vs):=by
 induction vs with
 | nil=>intro C w w' o h;exact h
 | cons v r ih=>intro C w w' o h;exact ih (o+1) (h.setCell (j:=o) v)
theorem Bc(vs:List Value):∀ (C:Array Value) (o k:Nat),(To C o vs)[k]? = if o<=k/\k<o+vs.length/\k<C.size then vs[k-o]? else C[k]? := by
 induction vs with
 | nil=>intro C o k;rw[if_neg bf];rfl
 | cons v r ih=>
  intro C o k;rw[To,ih,Array.size_setIfInBounds,Array.getElem?_setIfInBounds];simp only[List.length_cons];by_cases h1:o+1<=k/\k<o+1+r.length/\k<C.size
  ·rw[if_pos h1,if_pos aB,show k-o=(k-(o+1))+1 by omega,List.getElem?_cons_succ]
  ·rw[if_neg h1];by_cases h2:o=k
   ·subst h2;rw[if_pos rfl];by_cases h3:o<C.size
    ·rw[if_pos h3,if_pos ⟨Nat.le_refl _,aB,h3⟩,Nat.sub_self];rfl
    ·rw[if_neg h3,if_neg aB,Array.getElem?_eq_none aB]
   ·rw[if_neg h2,if_neg aB]
theorem CE{B:Nat}{rv:Value}{hd hd':List UInt8}{E sure:Int}{dead:Bool}(h:hd.length=32)(h':hd'.length=32):To (Z9 B rv hd E sure dead) 2 (cB hd')=Z9 B rv hd' E sure dead:=by
 apply Array.ext_getElem?
 intro k;rw[Bc,Ud h,Zc,h'];have hs:∀ hd:List UInt8,hd.length=32->∀ k,(Z9 B rv hd E sure dead)[k]? = (.pointer (some ⟨B,0,none⟩)::rv::(cB hd++[.int .i64 E,.int .i64 sure,.bool dead]))[k]? := λhd _ k=>by
  rw[<-Array.getElem?_toList];simp[Z9];try rfl
 rw[hs hd h,hs hd' h'];match k with
 | 0=>rfl
 | 1=>rfl
 | k+2=>
  simp only[List.getElem?_cons_succ,List.getElem?_append,Zc,h,h'];by_cases hk:k<32
  ·rw[if_pos aB,if_pos hk,show k+2-2=k by omega]
  ·rw[if_neg aB,if_neg hk,if_neg hk]
def JF(J:Nat)(F:Nat->Prop)(rv:Value)(k:Nat):Prop:=k=J\/F k\/rv.ownBlock=some k
structure JM (base:Nat) (w:World) (J B:Nat) (rv:Value) (F:Nat->Prop) (recs:List (List UInt8)) (sure:Nat) (dead:Bool):Prop where
 at_:w.heap[J]? = some (.cells (Z9 B rv (Zi aM recs) (Zn recs:Nat) sure dead) 190 (0,0))
 rows:aH RB 24 1 base w F rv recs
 nF:¬F J
 nv:rv.ownBlock≠some J
 ge:base<=J
 geF:∀ k,F k->base<=k
 okR:∀ r∈recs,okR r
theorem JM.lt{base:Nat}{w:World}{J B:Nat}{rv:Value}{F:Nat->Prop}{recs:List (List UInt8)}{sure:Nat}{dead:Bool}(h:JM base w J B rv F recs sure dead):∀ k,JF J F rv k->base<=k/\k<w.heap.size:=by
 rintro k (rfl|hk|hk)
 ·exact⟨h.ge,Zb h.at_⟩
 ·exact⟨h.geF k hk,h.rows.lt k hk⟩
 ·exact h.rows.ownLt k hk
theorem JM.only{base:Nat}{w w':World}{J B:Nat}{rv:Value}{F:Nat->Prop}{recs:List (List UInt8)}{sure:Nat}{dead:Bool}{D:Nat->Prop}(h:JM base w J B rv F recs sure dead)(hO:Only D w w')(hd:∀ k,JF J F rv k->¬D k):JM base w' J B rv F recs sure dead:=
 ⟨hO.heap h.at_ (hd J (.inl rfl)),h.rows.only cZ hO (λk hk=>hd k (.inr (.inl hk))) (λk hk=>hd k (.inr (.inr hk))),h.nF,h.nv,h.ge,h.geF,h.okR⟩
structure JD (base:Nat) (w:World) (J B mb mn:Nat) (v rv:Value) (F:Nat->Prop) (p:DP) (recs:List (List UInt8)) (sure:Nat) (dead:Bool):Prop where
 jm:JM base w J B rv F recs sure dead
 dm:DM base w B mb mn v p
 dj:∀ k,JF J F rv k->¬ZR B mb v k
theorem JD.only{base:Nat}{w w':World}{J B mb mn:Nat}{v rv:Value}{F:Nat->Prop}{p:DP}{recs:List (List UInt8)}{sure:Nat}{dead:Bool}{D:Nat->Prop}(h:JD base w J B mb mn v rv F p recs sure dead)(hO:Only D w w')(h1:∀ k,JF J F rv k->¬D k)(h2:∀ k,ZR B mb v k->¬D k):JD base w' J B mb mn v rv F p recs sure dead:=
 ⟨h.jm.only hO h1,h.dm.only hO h2,h.dj⟩
theorem JD.below{base:Nat}{w w':World}{J B mb mn:Nat}{v rv:Value}{F:Nat->Prop}{p:DP}{recs:List (List UInt8)}{sure:Nat}{dead:Bool}(h:JD base w J B mb mn v rv F p recs sure dead)(hb:Below w.heap.size w w'):JD base w' J B mb mn v rv F p recs sure dead:=
 h.only (Only.ofBelow (D:=λ_=>False) hb) (λ_ _ h=>h) (λ_ _ h=>h)
theorem JD.step{base:Nat}{w w':World}{J B mb mn gD:Nat}{v v' rv:Value}{F:Nat->Prop}{p p':DP}{recs:List (List UInt8)}{sure:Nat}{dead:Bool}(h:JD base w J B mb mn v rv F p recs sure dead)(hst:DStep base w w' B mb v gD v' p'):JD base w' J B mb gD v' rv F p' recs sure dead:=
 ⟨h.jm.only hst.only (λk hk=>h.dj k hk),hst.ok,λk hk=>hst.apart (h.dj k hk) (h.jm.lt k hk).2⟩
theorem JM.cell0{base:Nat}{w:World}{J B:Nat}{rv:Value}{F:Nat->Prop}{recs:List (List UInt8)}{sure:Nat}{dead:Bool}(h:JM base w J B rv F recs sure dead):w.cell? ⟨J,0,none⟩=some (.pointer (some ⟨B,0,none⟩)):=by rw[Za h.at_];exact SV
theorem JM.cell1{base:Nat}{w:World}{J B:Nat}{rv:Value}{F:Nat->Prop}{recs:List (List UInt8)}{sure:Nat}{dead:Bool}(h:JM base w J B rv F recs sure dead):w.cell? ⟨J,1,none⟩=some rv:=by rw[Za h.at_];exact I1
theorem JM.cell34{base:Nat}{w:World}{J B:Nat}{rv:Value}{F:Nat->Prop}{recs:List (List UInt8)}{sure:Nat}{dead:Bool}(h:JM base w J B rv F recs sure dead):w.cell? ⟨J,34,none⟩=some (.int .i64 (Zn recs:Nat)):=by rw[Za h.at_];exact Kx (QE Ql _)
theorem JM.cell35{base:Nat}{w:World}{J B:Nat}{rv:Value}{F:Nat->Prop}{recs:List (List UInt8)}{sure:Nat}{dead:Bool}(h:JM base w J B rv F recs sure dead):w.cell? ⟨J,35,none⟩=some (.int .i64 sure):=by rw[Za h.at_];exact ES (QE Ql _)
theorem JM.cell36{base:Nat}{w:World}{J B:Nat}{rv:Value}{F:Nat->Prop}{recs:List (List UInt8)}{sure:Nat}{dead:Bool}(h:JM base w J B rv F recs sure dead):w.cell? ⟨J,36,none⟩=some (.bool dead):=by rw[Za h.at_];exact FH (QE Ql _)
theorem JM.head{base:Nat}{w:World}{J B:Nat}{rv:Value}{F:Nat->Prop}{recs:List (List UInt8)}{sure:Nat}{dead:Bool}(h:JM base w J B rv F recs sure dead):w.rangeAt J 2 (cB (Zi aM recs)):=by
 have hl:(Zi aM recs).length=32:=QE Ql _;intro j u hj;have hj2:=(List.getElem?_eq_some_iff.1 hj).1;rw[Zc] at hj2;rw[Za h.at_,<-hj];have:(Z9 B rv (Zi aM recs) (Zn recs:Nat) sure dead)[2+j]? = (.pointer (some ⟨B,0,none⟩)::rv::(cB (Zi aM recs)++[.int .i64 (Zn recs:Nat),.int .i64 sure,.bool dead]))[2+j]? := by
  rw[<-Array.getElem?_toList];simp[Z9];try rfl
 rw[this,show 2+j=j+1+1 by omega];simp only[List.getElem?_cons_succ];rw[List.getElem?_append_left (by rw[Zc];omega)]
section
variable {ops:Array Oper} {K:Act->World->Prop} {Q:Exit->Act->World->Prop} {o:Oper} {a:Act} {w:World}
theorem Wk(t:TypeId)(x:Operand)(ho:o.op=.build t #[(0,x)])(vx:Value)(hx:a.eval x=vx)(R:Value)(h:∀ W,(Instr.build t #[(0,vx)]).run Tryz.prog W=.ok R W)(hK:K (a.put o.dst R) w):o.wp Tryz.prog a w K Q:=by
 unfold Oper.wp execOp;simp only[ho,Sem.run_bind,Sem.run_pure,Result.andThen_ok,List.map_toArray,List.map_cons,List.map_nil,hx,h];exact hK
end
theorem Pm(B:Nat)(W:World):(Instr.build 190 #[(0,.pointer (some ⟨B,0,none⟩))]).run Tryz.prog W=.ok (.agg (Z9 B (.slice none 0 0) aM 0 0 false)) W:=kX
def Vy(p:DP):List (List UInt8):=QA (Q4 p) aM
def Nd(n:Nat)(p:DP):DP:=UD (Q4 p) (Zn (Vy p)) n p
def Gn(base:Nat)(w:World)(B mb mn:Nat)(v:Value)(q:DP)(recs:List (List UInt8))(x:Ending)(w':World):Prop:=
 ∃ J rv F v' gD,x=.returned (.tuple #[.pointer (some ⟨J,0,none⟩),.nilIface])/\gD<=mn+20000/\JD base w' J B mb gD v' rv F q recs recs.length false/\DStep base w w' B mb v gD v' q/\∀ k,JF J F rv k->w.heap.size<=k
theorem NU(l:List (List UInt8)):l.length<=Zn l:=by
 unfold Zn;induction l with
 | nil=>exact Nat.le_refl _
 | cons q l ih=>simp only[List.length_cons,List.map_cons,List.sum_cons];omega
theorem KZ{w:World}{b:Nat}{C:Array Value}{t:TypeId}{n o:Nat}(h:w.heap[b]? = some (.cells C t (0,0)))(hs:o+n<=C.size):w.there b o n:=by
 intro j hj;refine⟨?_,Zg h _⟩;rw[Za h];rw[Array.getElem?_eq_getElem aB];rfl
theorem Cx{base:Nat}{w:World}{B mb mn:Nat}{v:Value}{p:DP}(h:DM base w B mb mn v p)(hb:base<=w.heap.size)(n:Nat)(hpn:p.n=(n:Int))(h1:1<=n)(hn:n<=1000)(hws:p.ws.length<=10000)(jO:mn<=60000)(hpl : -100000<=p.l/\p.l<=100000)(ha:p.armed=false)(hg:p.gone=false)(e:Nat->Addr)(j6:13≠B)(fe:∀ W,Below base w W->dJ W e)
  (hK:bP w) (hF:bZ w) :
  Calls Tryz.prog 60 #[.pointer (some ⟨B,0,none⟩)] w (Gn base w B mb mn v (Nd n p) (Vy p)):=by
 have hse:=Hd (B6 h aB aB aB hg);have hal:(Q4 p).length=64*n:=by unfold Q4;rw[hpn,h.seenToLen];rfl
 have hq:Nd n p=UD (Q4 p) (Zn (Vy p)) n p:=rfl;have hr:Vy p=QA (Q4 p) aM:=rfl;have hend:=(Lq ((Q4 p).length+1) (Q4 p) aM (Nat.lt_succ_self _)).1;have hok:=Cf ((Q4 p).length+1) (Q4 p) aM (Nat.lt_succ_self _);rw[<-hr] at hend hok;generalize Nd n p=q at*;generalize Q4 p=all at*;generalize Vy p=recs at*;have hrl:=NU recs;obtain⟨E,hE⟩:=aA (Zn recs);rw[<-hE] at hend hrl hq;obtain⟨N,hN⟩:=aA recs.length;rw[<-hN] at hrl;have hbuild:=Pm B;obtain⟨R0,hR0⟩:∃ R0,R0=Z9 B (.slice none 0 0) aM 0 0 false:=⟨_,rfl⟩;rw[<-hR0] at hbuild;replace h:=Hd h;replace hal:=Hd hal;replace hq:=Hd hq;replace hr:=Hd hr;replace hok:=Hd hok;replace fe:=Hd fe;replace hE:=Hd hE;replace hN:=Hd hN;replace hpn:=Hd hpn;replace ha:=Hd ha;replace hg:=Hd hg;replace hK:=Hd hK;replace hF:=Hd hF;replace hR0:=Hd hR0;replace hbuild:=Hd hbuild;go_enter Tryz.func60,Tryz.ntmps60;go_wp2_with fail;with_reducible refine hse.out.mono ?_
 rintro x w1 ⟨va,rfl,hown,hb1⟩;clear hse;obtain⟨aa,ca,rfl,Sc,haN⟩:=hown.arg;obtain⟨ga,ca',hva,_⟩:=hown.form (by have:=hal.out;omega);cases hva;obtain⟨hga1,hga2⟩:=haN _ _ _ rfl;obtain⟨La,qx⟩:=aA all.length;rw[<-qx];have hb2:Below w1.heap.size w1 (w1.alloc (.cells R0 190)):=bR.alloc nZ _;have hsc:=Cb all (by have:=hal.out;omega) _ ca (w1.alloc (.cells R0 190)) (Sc.below hb2) ((hK.out.below hb1).below hb2) ((hF.out.below hb1).below hb2);rw[<-qx] at hsc;have hJ2:(w1.alloc (.cells R0 190)).heap[w1.heap.size]? = some (.cells R0 190 (0,0)):=heap_alloc_new w1 _;have hs2:(w1.alloc (.cells R0 190)).heap.size=w1.heap.size+1:=World.size_alloc ..;obtain⟨w2,hw2⟩:∃ w2,w2=w1.alloc (.cells R0 190):=⟨_,rfl⟩;rw[<-hw2] at hsc hJ2 hs2 hb2;replace hsc:=Hd hsc;replace hJ2:=Hd hJ2;replace hb2:=Hd hb2;replace qx:=Hd qx;replace hown:=Hd hown;replace Sc:=Hd Sc;replace haN:=Hd haN;replace hb1:=Hd hb1;replace hs2:=Hd hs2;replace hw2:=Hd hw2;obtain⟨J,hJ⟩:=aA w1.heap.size;replace hJ:=Hd hJ;go_wp2_with (refine wpList_plain rfl (λK hK=>?_);refine Wk 190 (.tmp 20) rfl (.pointer (some ⟨B,0,none⟩)) rfl (.agg R0) hbuild.out ?_;refine hK _ _ ?_;clear hK K);rw[<-hw2.out,<-hJ.out];rw[<-hJ.out] at hJ2;with_reducible refine hsc.out.mono ?_
 clear hsc;rintro x w3 ⟨rv,F,rfl,hrow,qQ,hb3⟩;rw[<-hr.out] at hrow ⊢;rw[<-hE.out];have hJ3:w3.heap[J]? = some (.cells R0 190 (0,0)):=(hb3.block _ (by have:=hs2.out;have:=hJ.out;omega)).trans hJ2.out;rw[hR0.out] at hJ3;have hz:=Ql;have kc1:w3.cell? ⟨J,1,none⟩=some (.slice none 0 0):=by rw[Za hJ3];exact I1
 have kc34:w3.cell? ⟨J,34,none⟩=some (.int .i64 0):=by rw[Za hJ3];exact Kx hz
 have kc35:w3.cell? ⟨J,35,none⟩=some (.int .i64 0):=by rw[Za hJ3];exact ES hz
 have kf1:w3.frozen? ⟨J,1,none⟩=false:=Zg hJ3 _;have kf34:w3.frozen? ⟨J,34,none⟩=false:=Zg hJ3 _;have kf35:w3.frozen? ⟨J,35,none⟩=false:=Zg hJ3 _;obtain⟨ra,rc,rfl,hargs⟩:=hrow.argBB;rw[<-hN.out];rw[<-hN.out] at hrow;have hU:=(((ag.refl hJ3).setCell (j:=1) (.slice ra N rc)).setCell (j:=34) (.int .i64 (E:Int))).setCell (j:=35) (.int .i64 (N:Int));rw[CI,D1 hz,D5 hz] at hU;replace hrow:=Hd hrow;replace qQ:=Hd qQ;replace hb3:=Hd hb3;replace hJ3:=Hd hJ3;replace hargs:=Hd hargs;replace hU:=Hd hU;clear hJ2;go_wp2_with fail;replace hU:=hU.out;generalize hw5:((w3.setCell ⟨J,1,none⟩ (.slice ra N rc)).setCell ⟨J,34,none⟩ (.int .i64 (E:Int))).setCell ⟨J,35,none⟩ (.int .i64 (N:Int))=w5 at*;have hJs:J<w3.heap.size:=Zb hJ3.out;have hs3:=hb3.out.size;have hw2s:w2.heap.size=J+1:=by rw[hs2.out,hJ.out]
 have hwJ:w.heap.size<=J:=by have:=hb1.out.size;have:=hJ.out;omega
 have dS:Only (λk=>k=J) w3 w5:=Only.ofUpd hU rfl;have bY:=hrow.out.only cZ dS (λk hk e=>by have:=qQ.out k hk;omega) (λk hk e=>by have:=(hrow.out.ownLt k hk).1;omega);have hb5:Below w.heap.size w w5:=((hb1.out.trans ((hb2.out).mono hb1.out.size)).trans (hb3.out.mono aB)).trans (hU.below hwJ);have I5:=hU.here;obtain⟨ra',rc',hra,uC⟩:=bY.argBB;rw[<-hN.out] at hra;cases hra;have hN1:N<=100000:=by have:=hal.out;omega
 have hhd:=Hd (Df recs (by rw[<-hN.out];exact hN1) (λr hr=>Nat.le_trans (hok.out r hr).2 dX) ra rc w5 uC (hK.out.below hb5) (hF.out.below hb5));rw[<-hN.out] at hhd;replace bY:=Hd bY;replace hb5:=Hd hb5;replace I5:=Hd I5;have hU':=Hd hU;have hb2':=hb2;have hb3':=hb3;clear dS hU hw5 hrow hJ3 hargs uC kc1 kc34 kc35 kf1 kf34 kf35 hbuild hR0 hw2 hb2 hs2 hb3;with_reducible refine hhd.out.mono ?_
 clear hhd;rintro x w6 ⟨vh,rfl,AP,hb6⟩;have Sd:Below w1.heap.size w1 w5:=Below.trans ((hb2'.out).trans (hb3'.out.mono (by have:=hJ.out;omega))) (hU'.out.below (by have:=hJ.out;omega));have mh:=bY.out.below cZ hb6;have I6:w6.heap[J]? = _:=(hb6.block _ (Zb I5.out)).trans I5.out;have Sg:Below w1.heap.size w1 w6:=Sd.trans (hb6.mono Sd.size);obtain⟨HD,I7⟩:=aA (Zi aM recs);have uD:HD.length=32:=by rw[I7];exact QE Ql _
 have qR:Hid (∀ w7,w7.heap[J]? = some (.cells (Z9 B (.slice ra N rc) HD E N false) 190 (0,0))->aH RB 24 1 w2.heap.size w7 F (.slice ra N rc) recs->Below w1.heap.size w1 w7->
   Calls Tryz.prog 101 #[.pointer (some ⟨J,0,none⟩),.slice (some ⟨ga,0,none⟩) La ca] w7 (λx w8=>x=.returned .nilIface/\Gn base w B mb mn v q recs (.returned (.tuple #[.pointer (some ⟨J,0,none⟩),.nilIface])) w8)):=Hd λw7 hJ7 gu Si=>by
  have bV:Below w.heap.size w w7:=hb1.out.trans (Si.mono hb1.out.size);have h7:=h.out.below bV;have Sj:∀ W,Below base w7 W->dJ W e:=λW hW=>fe.out W ((bV.mono hb).trans hW);have tu:¬ZR B mb v J:=λhd=>by have:=(h.out.lt _ hd).2;omega
  have hw:=Bg h7 (Nat.le_trans hb bV.size) n hpn.out h1 hn hws jO hpl ha.out hg.out e (Sj w7 bR) j6 Sj J _ _ hJ7 tu E (by have:=hal.out;omega) SV (Kx uD) all hal.out ga 0 ca (Sc.out.below Si) (λhd=>by have:=(h.out.lt _ hd).2;omega);rw[<-qx.out,<-hq.out] at hw;refine hw.mono ?_;rintro x w8 ⟨rfl,v',gD,hm,hst⟩;have hJF:∀ k,JF J F (.slice ra N rc) k->w.heap.size<=k:=by
   rintro k (rfl|hk|hk)
   ·exact hwJ
   ·have:=qQ.out k hk;omega
   ·have:=(gu.ownLt k hk).1;omega
  have hjd:JD base w7 J B mb mn v (.slice ra N rc) F p recs N false:=
   ⟨⟨by rw[<-I7,<-hE.out];exact hJ7,gu.mono aB,λhk=>by have:=qQ.out _ hk;omega,λhk=>by have:=(gu.ownLt _ hk).1;omega,aB,λk hk=>by have:=qQ.out _ hk;omega,hok.out⟩,h7,λk hk hd=>by have:=(h.out.lt _ hd).2;have:=hJF k hk;omega⟩
  have hjd8:=hjd.step hst;refine⟨rfl,J,.slice ra N rc,F,v',gD,rfl,hm,?_,((DStep.same h.out).grow bV).trans hst,hJF⟩;rw[<-hN.out];exact hjd8
 clear Sc h fe hal hq hr hpn ha hg hws jO hpl j6 hb5 haN hown;by_cases hN0:N=0
 ·have hz0:HD=aM:=by
   rw[I7,show recs=[] from List.length_eq_zero_iff.1 (by rw[<-hN.out];exact hN0)];rfl
  rw[<-hz0] at I6;have hfin:=Hd (qR.out w6 I6 mh Sg);have hvl:=Xc recs aM;rw[<-hN.out] at hvl;obtain⟨a6,c6,rfl,_⟩:=AP.form;rw[hvl];subst hN0;clear AP mh bY qR I6 I5;go_wp2_with fail;with_reducible refine hfin.out.mono ?_
  rintro x w8 ⟨rfl,hpost⟩;replace hpost:=Hd hpost;go_wp2_with fail;go_ret2;exact hpost.out
 ·have hlast:(Y4 aM recs)[N-1]? = some (Zi aM recs):=by
   have h1:=TD recs aM (by have:=hN.out;omega);have h2:=Xc recs aM;rw[<-hN.out] at h1 h2;rw[List.getElem?_eq_getElem aB];rw[List.getD_eq_getElem?_getD,List.getElem?_eq_getElem aB] at h1;exact congrArg some h1
  obtain⟨g,cg,cs,rfl,⟨hl32,rfl⟩,hrg⟩:=AP.elem ZC (N-1) _ hlast;rw[Xc,<-hN.out];rw[<-I7] at hrg;replace I7:=Hd I7;have hN1':(0:Int)<(N:Int):=aB;have huA:Tryz.prog.underlying 47=some (.array 32 5):=Tryz.underlying47;have hiH:(Tryz.prog.info? 47).map (·.size)=some (cB HD).length:=by rw[Qi uD,List.size_toArray]
  have hiA:(Tryz.prog.info? 47).map (·.size)=some (cB HD).toArray.size:=Qi uD;have hth:w6.there J 2 (cB HD).toArray.size:=KZ I6 (by rw[Ud Ql,List.size_toArray,Zc,uD];decide);have hall:=U3 HD;have dK:=Kr (cB HD) 2 (ag.refl I6);rw[CE Ql uD] at dK;have eT:Only (λk=>k=J) w6 _:=Only.ofUpd dK rfl;have gu:=mh.only cZ eT (λk hk e=>by have:=qQ.out k hk;omega) (λk hk e=>by have:=(mh.ownLt k hk).1;omega);have hfin:=Hd (qR.out _ dK.here gu (Sg.trans (dK.below (by have:=hJ.out;omega))));replace hrg:=Hd hrg;replace hth:=Hd hth;clear AP mh bY qR I6 I5 dK eT gu hlast;go_wp2_with (first|refine wpList_load_mid rfl 47 (.tmp 55) rfl g ((N-1)*32) rfl (cB HD) _ hrg.out huA rfl hiH ?_|refine wpList_store_mid rfl 47 (.tmp 58) (.tmp 56) rfl J 2 (cB HD).toArray rfl rfl hth.out hiA hall ?_);with_reducible refine hfin.out.mono ?_
  rintro x w8 ⟨rfl,hpost⟩;replace hpost:=Hd hpost;go_wp2_with fail;go_ret2;exact hpost.out
structure bA (base:Nat) (w w':World) (J B mb:Nat) (v rv:Value) (F:Nat->Prop) (gD:Nat) (v' rv':Value) (F':Nat->Prop) (p':DP) (bF:List (List UInt8)) (ah:Nat) (aj:Bool):Prop where
 ok:JD base w' J B mb gD v' rv' F' p' bF ah aj
 only:Only (λk=>JF J F rv k\/ZR B mb v k) w w'
 newJ:∀ k,JF J F' rv' k->JF J F rv k\/w.heap.size<=k
 newD:∀ k,ZR B mb v' k->ZR B mb v k\/w.heap.size<=k
theorem bA.same{base:Nat}{w:World}{J B mb mn:Nat}{v rv:Value}{F:Nat->Prop}{p:DP}{recs:List (List UInt8)}{sure:Nat}{dead:Bool}(h:JD base w J B mb mn v rv F p recs sure dead):bA base w w J B mb v rv F mn v rv F p recs sure dead:=
 ⟨h,Only.refl _ _,λ_ h=>.inl h,λ_ h=>.inl h⟩
theorem bA.trans{base:Nat}{w w1 w2:World}{J B mb mn1 qP:Nat}{v rv v1 xC v2 rv2:Value}{F F1 F2:Nat->Prop}{p1 p2:DP}{qU yU:List (List UInt8)}{s1 s2:Nat}{d1 d2:Bool}
  (h:bA base w w1 J B mb v rv F mn1 v1 xC F1 p1 qU s1 d1) (h':bA base w1 w2 J B mb v1 xC F1 qP v2 rv2 F2 p2 yU s2 d2):bA base w w2 J B mb v rv F qP v2 rv2 F2 p2 yU s2 d2:=by
 refine⟨h'.ok,h.only.trans h'.only (λk hk hd=>?_),λk hk=>?_,λk hk=>?_⟩
 ·rcases hd with hd|hd
  ·exact(h.newJ k hd).elim .inl (λh=>absurd h aB)
  ·exact(h.newD k hd).elim .inr (λh=>absurd h aB)
 ·rcases h'.newJ k hk with h1|h1
  ·exact h.newJ k h1
  ·exact .inr (Nat.le_trans h.only.size h1)
 ·rcases h'.newD k hk with h1|h1
  ·exact h.newD k h1
  ·exact .inr (Nat.le_trans h.only.size h1)
theorem bA.grow{base:Nat}{w w1 w2:World}{J B mb mn1:Nat}{v rv v1 xC:Value}{F F1:Nat->Prop}{p1:DP}{qU:List (List UInt8)}{s1:Nat}{d1:Bool}
  (h:bA base w w1 J B mb v rv F mn1 v1 xC F1 p1 qU s1 d1) (hb:Below w1.heap.size w1 w2):bA base w w2 J B mb v rv F mn1 v1 xC F1 p1 qU s1 d1:=
 h.trans ⟨h.ok.below hb,Only.ofBelow hb,λ_ h=>.inl h,λ_ h=>.inl h⟩
theorem bA.disk{base:Nat}{w w':World}{J B mb mn gD:Nat}{v v' rv:Value}{F:Nat->Prop}{p p':DP}{recs:List (List UInt8)}{sure:Nat}{dead:Bool}(h:JD base w J B mb mn v rv F p recs sure dead)(hst:DStep base w w' B mb v gD v' p'):bA base w w' J B mb v rv F gD v' rv F p' recs sure dead:=
 ⟨h.step hst,hst.only.mono (λ_ _ h=>.inr h),λ_ h=>.inl h,hst.new⟩
theorem bA.upd{base:Nat}{w w':World}{J B mb mn:Nat}{v rv:Value}{F:Nat->Prop}{p:DP}{recs:List (List UInt8)}{sure ah:Nat}{dead aj:Bool}(h:JD base w J B mb mn v rv F p recs sure dead)(hU:ag J (.cells (Z9 B rv (Zi aM recs) (Zn recs:Nat) ah aj) 190 (0,0)) w w'):bA base w w' J B mb v rv F mn v rv F p recs ah aj:=by
 have hO:Only (λk=>k=J) w w':=Only.ofUpd hU rfl;refine⟨⟨⟨hU.here,h.jm.rows.only cZ hO (λk hk e=>h.jm.nF (e▸hk)) (λk hk e=>h.jm.nv (e▸hk)),h.jm.nF,h.jm.nv,h.jm.ge,h.jm.geF,h.jm.okR⟩,h.dm.only hO (λk hk e=>h.dj J (.inl rfl) (e▸hk)),h.dj⟩,hO.mono (λk _ e=>.inl (.inl e)),λ_ h=>.inl h,λ_ h=>.inl h⟩
def qz(x:Ending)(w':World):Prop:=∃ g F V a,x=.returned (.iface 232 (.pointer (some ⟨g,0,none⟩)))/\w'.heap[g]? = some (.cells #[.string F,.int .i64 V,.iface 298 (.pointer (some a))] 234 (0,0))/\w'.cell? ⟨13,0,none⟩=some (.iface 298 (.pointer (some a)))
theorem Nq{base:Nat}{w:World}{J B mb mn:Nat}{v rv:Value}{F:Nat->Prop}{p:DP}{recs:List (List UInt8)}{sure:Nat}{dead:Bool}(h:JD base w J B mb mn v rv F p recs sure dead)(op:ByteArray)(i:Int)(ty:TypeId)(u:Value) :
  Calls Tryz.prog 170 #[.pointer (some ⟨J,0,none⟩),.string op,.int .i64 i,.iface ty u] w (λr w'=>(∃ g,r=.returned (.iface 232 (.pointer (some ⟨g,0,none⟩)))/\w'.heap[g]? = some (.cells #[.string op,.int .i64 i,.iface ty u] 234 (0,0)))/\bA base w w' J B mb v rv F mn v rv F p recs sure true):=by
 have hc:=h.jm.cell36;have hf:w.frozen? ⟨J,36,none⟩=false:=Zg h.jm.at_ _;have hU:=(ag.refl h.jm.at_).setCell (j:=36) (.bool true);rw[ED (QE Ql _)] at hU;have hst:=bA.upd h hU;replace hst:=Hd hst;replace hU:=Hd hU;clear h;go_enter Tryz.func170,Tryz.ntmps170;go_wp2_with fail;go_ret;exact⟨⟨_,rfl,by rw[<-hU.out.size];exact heap_alloc_new _ _⟩,hst.out.grow (bR.alloc nZ _)⟩
section
variable {ops:Array Oper} {K:Act->World->Prop} {Q:Exit->Act->World->Prop} {o:Oper} {a:Act} {w:World}
theorem WR(d s:Operand)(ho:o.op=.call { callee:=.builtin .copy,args:=#[d,s],argTypes:=#[24,24] })
  (g off dLen dCap:Nat) (p:Addr) (sLen sCap:Nat) (cur:Array Value) (t:TypeId) (cs:List Value) (hd:a.eval d=.slice (some ⟨g,off,none⟩) dLen dCap) (hs:a.eval s=.slice (some p) sLen sCap)
  (hg:Hid (w.heap[g]? = some (.cells cur t (0,0)))) (hn:cs.length=Nat.min sLen dLen) (hsrc:∀ j v,cs[j]? = some v->w.cell? (p.add j)=some v) (hfit:off+cs.length<=cur.size) (h1:∀ v∈cs,v.oneCell'=true)
  (hK:∀ w',Hid (ag g (.cells (cur.toList.take off++cs++cur.toList.drop (off+cs.length)).toArray t (0,0)) w w')->K (a.put o.dst (goInt cs.length)) w'):o.wp Tryz.prog a w K Q:=by
 have hu:Tryz.prog.underlying 24=some (.slice 5):=Tryz.underlying24;have hsz:(Tryz.prog.info? 5).map (·.size)=some 1:=kX;have hr:=λty=>run_copy_row (P:=Tryz.prog) w 24 24 ty 5 g off dLen dCap p sLen sCap cur t cs hu hsz hg.out hn hsrc hfit h1;have hU:=ag.setRow (cs:=(cur.toList.take off++cs++cur.toList.drop (off+cs.length)).toArray) hg.out;unfold Oper.wp execOp;simp only[ho,resolve,invoke,builtin,Sem.run_bind,Sem.run_pure,Result.andThen_ok,List.map_toArray,List.map_cons,List.map_nil,hd,hs,hr];exact hK _ (Hd hU)
end
def Qs(b:List UInt8)(k:Nat):Nat:=min b.length (64-k % 64)
def Jo(s b:List UInt8)(k:Nat):List UInt8:=s.take (k % 64)++b.take (Qs b k)++s.drop (k % 64+Qs b k)
def Yc:Nat->DP->Nat->List UInt8->DP×Bool
 | 0,p,_,_=>(p,true)
 | f+1,p,k,b=>if b.length=0 then (p,true) else
  if (p.write ((k / 64:Nat):Int) (Jo (Qn p.ws p.f ((k / 64:Nat):Int)) b k)).2=0 then Yc f (p.write ((k / 64:Nat):Int) (Jo (Qn p.ws p.f ((k / 64:Nat):Int)) b k)).1 (k+Qs b k) (b.drop (Qs b k))
  else ((p.write ((k / 64:Nat):Int) (Jo (Qn p.ws p.f ((k / 64:Nat):Int)) b k)).1,false)
def lay(p:DP)(k:Nat)(b:List UInt8):DP×Bool:=Yc b.length p k b
theorem Du(f:Nat)(p:DP)(k:Nat){b:List UInt8}(h:b.length=0):Yc f p k b=(p,true):=by
 cases f with
 | zero=>rfl
 | succ f=>rw[Yc,if_pos h]
theorem G2{s b:List UInt8}{k:Nat}(hs:s.length=64):(Jo s b k).length=64:=by
 unfold Jo Qs;rw[List.length_append,List.length_append,List.length_take,List.length_take,List.length_drop];omega
theorem T5{p:DP}{i:Int}{bs:List UInt8}(h0:0<=i)(h1:i<p.n)(hl:bs.length=64)(hg:p.gone=false) :
  (p.bad=false/\p.write i bs=({ p with l:=p.l-1,ws:=p.ws++[(i,bs)] },0))\/(p.bad=true/\p.write i bs=({ p with gone:=true },3)):=by
 unfold DP.write;rw[if_neg aB,if_neg aB];cases p.bad
 ·exact .inl ⟨rfl,rfl⟩
 ·exact .inr ⟨rfl,rfl⟩
def Ew(base:Nat)(w:World)(J B mb mn:Nat)(v rv:Value)(F:Nat->Prop)(q:DP×Bool)(recs:List (List UInt8))(sure:Nat)(x:Ending)(w':World):Prop:=
 (if q.2=true then x=.returned .nilIface else qz x w')/\∃ v',bA base w w' J B mb v rv F mn v' rv F q.1 recs sure (!q.2)
def C6:Value->Nat
 | .slice _ n _=>n
 | _=>0
theorem Bp{w:World}{a:Option Addr}{c:Nat}(h:a=none->c=0)(hc:c<=maxLen):aJ w a c []:=⟨Nat.zero_le _,hc,h,λi hi=>absurd hi (Nat.not_lt_zero _)⟩
theorem Cy(pre:List Value)(s sg:List UInt8)(f:Nat)(hf:f<=s.length):(pre++cB s).toArray.toList.take (pre.length+f)++cB sg++(pre++cB s).toArray.toList.drop (pre.length+f+(cB sg).length)=pre++cB (s.take f++sg++s.drop (f+sg.length)):=by
 rw[Zc,YI,YI,show pre.length+f+sg.length=pre.length+(f+sg.length) by omega];simp[cB,List.map_drop,List.map_take,List.take_append,List.drop_append,List.take_of_length_le (show pre.length<=pre.length+f by omega),List.drop_of_length_le (show pre.length<=pre.length+(f+sg.length) by omega)]
theorem CX{base:Nat}{w:World}{J B mb mn:Nat}{v rv:Value}{F:Nat->Prop}{p:DP}{recs:List (List UInt8)}{sure:Nat}(h:JD base w J B mb mn v rv F p recs sure false)(hb:base<=w.heap.size)(n:Nat)(hpn:p.n=(n:Int))(hn:n<=1000)(hws:p.ws.length<=20000)(hpl : -200000<=p.l/\p.l<=200000)(hg:p.gone=false)(e:Nat->Addr)(j6:13≠B)(fe:∀ W,Below base w W->dJ W e)
  (bs:List UInt8) (hfit:Zn recs+bs.length<=64*n) (hbl:bs.length<=1000) (a:Option Addr) (c:Nat) (hA:aJ w a c bs) (ma:∀ b o s,a=some ⟨b,o,s⟩->¬JF J F rv b/\¬ZR B mb v b/\b<w.heap.size) :
  Calls Tryz.prog 169 #[.pointer (some ⟨J,0,none⟩),.slice a bs.length c] w (Ew base w J B mb mn v rv F (lay p (Zn recs) bs) recs sure):=by
 have hc34:=h.jm.cell34;have hend:Zn recs<=64000:=aB;obtain⟨E,hE⟩:=aA (Zn recs);rw[<-hE] at hc34 hfit hend ⊢;obtain⟨q,hq⟩:=aA (lay p E bs);rw[<-hq];unfold lay at hq;obtain⟨L,hL⟩:=aA bs.length;rw[<-hL] at hq hfit hbl ⊢;replace h:=Hd h;replace hA:=Hd hA;replace ma:=Hd ma;replace fe:=Hd fe;replace hpn:=Hd hpn;replace hg:=Hd hg;replace hE:=Hd hE;replace hq:=Hd hq;replace hL:=Hd hL;go_enter Tryz.func169,Tryz.ntmps169;go_wp2_with fail;refine ZG [(false,1),(true,1),(false,3),(true,7),(false,4),(true,46)] _ [] (λU wr=>∃ (f k:Nat) (b:List UInt8) (pc:DP) (vc:Value) (ac:Option Addr) (cc:Nat),Yc f pc k b=q/\b.length<=f/\k+b.length=E+L/\b.length<=L/\U 5=.int .i64 (k:Nat)/\U 1=.slice ac b.length cc/\aJ wr ac cc b/\(∀ x o s,ac=some ⟨x,o,s⟩->¬JF J F rv x/\¬ZR B mb v x/\x<w.heap.size)/\
   pc.gone=false/\pc.n=p.n/\pc.ws.length+b.length<=p.ws.length+L/\p.l+b.length<=pc.l+L/\pc.l<=p.l/\DStep base w wr B mb v mn vc pc)
  (λU _=>C6 (U 1)) ?_ ?_
 ·simp only[List.getD_cons_zero,List.getD_cons_succ];refine⟨L,E,bs,p,v,a,c,hq.out.symm,by rw[hL.out];exact Nat.le_refl _,by rw[hL.out],by rw[hL.out];exact Nat.le_refl _,rfl,by rw[hL.out],hA.out,ma.out,hg.out,rfl,by rw[hL.out];exact Nat.le_refl _,by rw[hL.out];omega,Int.le_refl _,DStep.same h.out.dm⟩
 ·intro U wr hrel KK hback l' hl';obtain⟨f,k,b,pc,vc,ac,cc,r1,r2,r3,r4,h5,h1,rA,rD,rg,rn,rws,rl,rl2,hst⟩:=hrel;simp only[ZQ,ZM,cond_true,cond_false,Nat.reduceAdd,h5,h1] at hl';subst hl';obtain⟨M,hM⟩:=aA b.length;rw[<-hM] at h1 r2 r3 r4 rws rl ⊢;replace hM:=Hd hM;replace h5:=Hd h5;replace h1:=Hd h1;by_cases hM0:M=0
  ·have hq2:q=(pc,true):=by rw[<-r1,Du f pc k (by rw[<-hM.out];exact hM0)]
   have kD:=bA.disk h.out hst;replace kD:=Hd kD;replace hq2:=Hd hq2;subst hM0;clear rA rD hst r1 hc34;go_wp2_with fail;go_ret;refine⟨by rw[hq2.out];rfl,vc,by rw[hq2.out];exact kD.out⟩
  ·have hM1:0<(M:Int):=aB;obtain⟨g,rfl⟩:∃ g,f=g+1:=⟨f-1,aB⟩;rw[Yc,if_neg (by rw[<-hM.out];omega)] at r1;obtain⟨i,hi⟩:=aA (k / 64);obtain⟨fr,hfr⟩:=aA (k % 64);have hki:(k:Int).tdiv 64=(i:Int):=by rw[Int.tdiv_eq_ediv_of_nonneg aB];omega
   have AQ:(k:Int).tmod 64=(fr:Int):=by rw[Int.tmod_eq_emod_of_nonneg aB];omega
   have hdm:=hst.ok;have hsl:=hdm.seenLen (i:Int);have hrd:=Hz hdm (by rw[rn,hpn.out];omega) aB rg (i:Int) aB (by rw[rn,hpn.out];omega);have mf:wr.heap[J]? = _:=hst.only.heap h.out.jm.at_ (h.out.dj J (.inl rfl));have hc0:wr.cell? ⟨J,0,none⟩=some (.pointer (some ⟨B,0,none⟩)):=by rw[Za mf];exact SV
   rw[<-hi] at r1;generalize hsB:Qn pc.ws pc.f (i:Int)=sB at*;replace hrd:=Hd hrd;replace mf:=Hd mf;replace r1:=Hd r1;replace rA:=Hd rA;replace rD:=Hd rD;replace hst:=Hd hst;replace hdm:=Hd hdm;replace rn:=Hd rn;replace rg:=Hd rg;replace hi:=Hd hi;replace hfr:=Hd hfr;replace hsl:=Hd hsl;replace hsB:=Hd hsB;have hi3:i<=1001:=by have:=hi.out;omega
   have hin:i<n:=by have:=hi.out;omega
   have hf3:fr<64:=by have:=hfr.out;omega
   obtain⟨N,hN⟩:=aA (Qs b k);have I8:N=Nat.min M (64-fr):=by rw[hN,hM.out,hfr.out];rfl
   have hNM:N<=M:=by rw[I8];exact Nat.min_le_left _ _
   have hNf:N<=64-fr:=by rw[I8];exact Nat.min_le_right _ _
   have hN1:1<=N:=by rw[I8];exact Nat.le_min.2 ⟨aB,aB⟩
   have htk:(b.take N).length=N:=by rw[List.length_take,<-hM.out];omega
   have hSe:Jo sB b k=sB.take fr++b.take N++sB.drop (fr+N):=by unfold Jo;rw[<-hN,<-hfr.out]
   have tQ:(Jo sB b k).length=64:=G2 hsl.out;obtain⟨S,hS⟩:=aA (Jo sB b k);rw[<-hS] at hSe tQ;have r1':=r1.out;rw[<-hN,<-hS] at r1';obtain⟨x,xo,hx0,_⟩:=rA.out.row 0 (by rw[<-hM.out];omega);subst hx0;obtain⟨hx1,hx2,hx3⟩:=rD.out _ _ _ rfl;have hMc:M<=cc:=by rw[hM.out];exact rA.out.len
   have hccm:cc<=9223372036854775807:=by have:=rA.out.most;unfold maxLen at this;omega
   clear r1;replace r1':=Hd r1';replace hS:=Hd hS;replace hN:=Hd hN;replace I8:=Hd I8;replace hSe:=Hd hSe;replace tQ:=Hd tQ;replace htk:=Hd htk;replace hx1:=Hd hx1;replace hx2:=Hd hx2;replace hx3:=Hd hx3;have hwr3:=Hd hst.out.only.size;go_wp2_with fail;with_reducible refine hrd.out.mono ?_
   rintro y w2 ⟨g0,off,rfl,⟨pre,T,hpre,hg0⟩,hgl,hb2⟩;clear hrd;obtain⟨ln,hln⟩:=aA (64-fr);have hone:=Zw (b.take N);have hcl:(cB (b.take N)).length=Nat.min M (64-fr):=by rw[Zc,htk.out,I8.out]
   have hsrc:∀ j u,(cB (b.take N))[j]? = some u->w2.cell? ((⟨x,xo,none⟩:Addr).add j)=some u:=λj u hj=>by
    rw[Addr.add_mid];exact((rA.out.upto N).below hb2).range j u hj
   have hcf:off+fr+(cB (b.take N)).length<=(pre++cB sB).toArray.size:=by rw[List.size_toArray,List.length_append,Zc,Zc,htk.out,hpre,hsl.out];omega
   have uB:∀ w3:World,Hid (ag g0 (.cells ((pre++cB sB).toArray.toList.take (off+fr)++cB (b.take N)++(pre++cB sB).toArray.toList.drop (off+fr+(cB (b.take N)).length)).toArray T (0,0)) w2 w3)->w3.cell? ⟨J,0,none⟩=some (.pointer (some ⟨B,0,none⟩)):=λw3 hU=>by
    have hJl:=Zb mf.out;rw[Za ((hU.out.block J aB).trans ((hb2.block J hJl).trans mf.out))];exact SV
   replace hg0:=Hd hg0;replace hone:=Hd hone;replace hcl:=Hd hcl;replace hsrc:=Hd hsrc;replace hcf:=Hd hcf;replace uB:=Hd uB;replace hpre:=Hd hpre;replace hb2:=Hd hb2;replace hln:=Hd hln;clear hc0;have hc0:w2.cell? ⟨J,0,none⟩=some (.pointer (some ⟨B,0,none⟩)):=by rw[Za ((hb2.out.block J (Zb mf.out)).trans mf.out)];exact SV
   go_wp2_with (refine wpList_plain rfl (λK hK=>?_);refine WR (.tmp 40) (.tmp 41) rfl g0 (off+fr) (64-fr) (64-fr) ⟨x,xo,none⟩ M cc _ T (cB (b.take N)) rfl rfl hg0 hcl.out hsrc.out hcf.out hone.out ?_;intro w3 dB;refine hK _ _ ?_;clear hK K;have hc03:=uB.out w3 dB);have hG3:Below wr.heap.size wr w3:=hb2.out.trans (dB.out.below hgl);have gG:=hst.out.grow hG3;have hb3:base<=w3.heap.size:=by have:=hG3.size;have:=hwr3.out;omega
   have hg3:w3.heap[g0]? = some (.cells (pre++cB S).toArray T (0,0)):=by
    rw[dB.out.here,<-hpre.out,Cy pre sB (b.take N) fr (by rw[hsl.out];omega),htk.out,<-hSe.out]
   have mi:dJ w3 e:=fe.out w3 ((gG.below h.out.dm hb));have Sa:¬ZR B mb vc g0:=λhd=>by have:=(hst.out.ok.lt _ hd).2;omega
   have hwr:=Nl gG.ok hb3 aB aB e mi j6 (i:Int) (some ⟨g0,pre.length,none⟩) 64 S (mX.argB ⟨pre,T,rfl,hg3⟩ tQ.out) (λb' o' s' e'=>by cases e';exact Sa);rw[tQ.out,hpre.out] at hwr;replace hwr:=Hd hwr;replace gG:=Hd gG;clear mi Sa hg3;rw[show (cB (b.take N)).length=N by rw[Zc,htk.out]];go_wp2_with fail;with_reducible refine hwr.out.mono ?_
   clear hwr;rcases T5 (p:=pc) (i:=(i:Int)) (bs:=S) aB (by rw[rn.out,hpn.out];omega) tQ.out rg.out with ⟨hbad,hw⟩|⟨hbad,hw⟩
   ·rw[hw];have r1':=r1'.out;rw[hw] at r1';simp only[if_true] at r1';rintro y w4 ⟨rfl,v4,rC⟩;simp only[XL];have lg:=gG.out.trans rC;have yK:aJ w4 (some ⟨x,xo,none⟩) cc b:=by
     refine rC.only.argB (rA.out.below hG3) (λb' o' e'=>?_);cases e';intro hd;exact hst.out.apart hx2.out hx3.out hd
    have hAN:=yK.from N (by rw[<-hM.out];exact hNM);replace hAN:=Hd hAN;replace yK:=Hd yK;replace lg:=Hd lg;replace r1':=Hd r1';clear rC hw hG3 rA;have hdl:(b.drop N).length=M-N:=by rw[List.length_drop,<-hM.out]
    replace hdl:=Hd hdl;by_cases hcN:cc=N
    ·have hMN:M=N:=aB;have hnil:b.drop N=[]:=List.length_eq_zero_iff.1 (by rw[hdl.out];omega);have wC:aJ w4 (some ⟨x,xo,none⟩) 0 (b.drop N):=by rw[hnil];exact Bp (λe=>by cases e) (Nat.zero_le _)
     replace hnil:=Hd hnil;replace wC:=Hd wC;go_wp2_with fail;refine hback.out _ _ kX ?_ ?_
     ·simp only[List.getD_cons_zero,List.getD_cons_succ];refine⟨g,k+N,b.drop N,_,v4,_,_,r1'.out,by rw[hdl.out];omega,by rw[hdl.out];omega,by rw[hdl.out];omega,by congr 1,by rw[hdl.out];congr 1;omega,wC.out,rD.out,rg.out,rn.out,by rw[hdl.out];simp only[List.length_append,List.length_singleton];omega,by rw[hdl.out];simp only;omega,by simp only;omega,lg.out⟩
     ·have h1:=h1.out;simp only[List.getD_cons_zero,List.getD_cons_succ,h1,C6];omega
    ·go_wp2_with fail;refine hback.out _ _ kX ?_ ?_
     ·simp only[List.getD_cons_zero,List.getD_cons_succ];refine⟨g,k+N,b.drop N,_,v4,_,_,r1'.out,by rw[hdl.out];omega,by rw[hdl.out];omega,by rw[hdl.out];omega,by congr 1,by rw[hdl.out],hAN.out,(λx' o' s' e'=>by cases e';exact⟨hx1.out,hx2.out,hx3.out⟩),rg.out,rn.out,by rw[hdl.out];simp only[List.length_append,List.length_singleton];omega,by rw[hdl.out];simp only;omega,by simp only;omega,lg.out⟩
     ·have h1:=h1.out;simp only[List.getD_cons_zero,List.getD_cons_succ,h1,C6];omega
   ·rw[hw];have r1':=r1'.out;rw[hw] at r1';simp only[if_neg (show ¬(3:Nat)=0 by decide)] at r1';rintro y w4 ⟨rfl,v4,rC⟩;simp only[XL];have lg:=bA.disk h.out (gG.out.trans rC);have hfa:=Hd (Nq lg.ok ⟨#[119,114,105,116,101]⟩ (i:Int) 298 (.pointer (some (e 2))));replace lg:=Hd lg;replace r1':=Hd r1';clear rC hw hG3 rA;go_wp2_with fail;with_reducible refine hfa.out.mono ?_
    rintro y w5 ⟨⟨ad,rfl,hfc⟩,lL⟩;have yV:=Hd (lg.out.trans lL);have hpe:=Hd (fe.out w5 (yV.out.only.below hb (λk hk=>hk.elim (λh1=>(h.out.jm.lt k h1).1) (λh1=>(h.out.dm.lt k h1).1)))).power;replace hfc:=Hd hfc;clear lL hfa;go_wp2_with fail;go_ret;rw[<-r1'.out];exact⟨⟨_,_,_,_,rfl,hfc.out,hpe.out⟩,_,yV.out⟩
def Je(n E:Nat):Nat:=min (64*n-E-34) 400
theorem Te{base:Nat}{w:World}{J B mb mn:Nat}{v rv:Value}{F:Nat->Prop}{p:DP}{recs:List (List UInt8)}{sure:Nat}{dead:Bool}(h:JD base w J B mb mn v rv F p recs sure dead)(n:Nat)(hpn:p.n=(n:Int))(hn:n<=1000)(hE:Zn recs<=64*n) :
  Calls Tryz.prog 168 #[.pointer (some ⟨J,0,none⟩)] w λx w'=>x=.returned (.int .i64 (Je n (Zn recs):Nat))/\eP w w':=by
 have hc0:=h.jm.cell0;have hc34:=h.jm.cell34;have hsz:∀ m,Calls Tryz.prog 67 #[.pointer (some ⟨B,0,none⟩)] (w.drewN m) λx w'=>x=.returned (.int .i64 (n:Int))/\w'=w.drewN m:=λm=>by
  rw[<-hpn];exact(Kt B p.n (w.drewN m) (by rw[World.cell?_drewN];exact h.dm.sizeCell)).mono λ_ _ ⟨a,b⟩=>⟨a,b.symm⟩
 replace hsz:=Hd hsz;generalize Zn recs=E at*;have hm:IntKind.i64.wrap ((n:Int)*64)=(n:Int)*64:=IntWalk.i64_in _ aB;have hr:min (max ((n:Int)*64-(E:Int)-34) 0) 400=(Je n E:Nat):=by unfold Je;omega
 clear h;go_enter Tryz.func168,Tryz.ntmps168;go_wp2_with fail;go_quiet ((go_at_call 67;exact Calls.quiet_of_same (hsz.out _)));all_goals (try go_wp2_with fail)
 all_goals go_ret
 all_goals exact⟨by refine congrArg (λz=>Ending.returned (.int .i64 z)) ?_;unfold Je;omega,_,rfl⟩
def Cn(base:Nat)(w:World)(J B mb mn:Nat)(v rv:Value)(F:Nat->Prop)(p:DP)(recs:List (List UInt8))(sure:Nat)(x:Ending)(w':World):Prop:=
 (if p.sync.2=0 then x=.returned .nilIface else qz x w')/\∃ v' gD,gD<=mn+p.ws.length/\bA base w w' J B mb v rv F gD v' rv F p.sync.1 recs (if p.sync.2=0 then recs.length else sure) (p.sync.2 != 0)
theorem D0{base:Nat}{w:World}{J B mb mn:Nat}{v rv:Value}{F:Nat->Prop}{p:DP}{recs:List (List UInt8)}{sure:Nat}(h:JD base w J B mb mn v rv F p recs sure false)(hb:base<=w.heap.size)(n:Nat)(hpn:p.n=(n:Int))(hn:n<=1000)(hws:p.ws.length<=50000)(jO:mn<=50000)(hrl:recs.length<=1000000)(hpl : -500000<=p.l/\p.l<=500000)(hg:p.gone=false)(e:Nat->Addr)(j6:13≠B)(fe:∀ W,Below base w W->dJ W e) :
  Calls Tryz.prog 146 #[.pointer (some ⟨J,0,none⟩)] w (Cn base w J B mb mn v rv F p recs sure):=by
 have hc0:=h.jm.cell0;have uF:=h.jm.cell36;have hsy:=Mm h.dm aB aB aB aB e (fe w bR) j6;have hsp:(p.bad=false/\p.sync.2=0)\/(p.bad=true/\p.sync.2=3):=by
  unfold DP.sync;cases p.bad
  ·exact .inl ⟨rfl,rfl⟩
  ·exact .inr ⟨rfl,rfl⟩
 obtain⟨ra,rc,rfl,_⟩:=h.jm.rows.argBB;obtain⟨N,hN⟩:=aA recs.length;have iG:N<=1000000:=aB;replace h:=Hd h;replace hpn:=Hd hpn;replace fe:=Hd fe;rcases hsp with ⟨hbad,hs⟩|⟨hbad,hs⟩
 ·rw[hs] at hsy;replace hsy:=Hd hsy;replace hN:=Hd hN;replace hs:=Hd hs;go_enter Tryz.func146,Tryz.ntmps146;go_wp2_with fail;with_reducible refine hsy.out.mono ?_
  rintro x w2 ⟨rfl,v2,qP,hm2,hst⟩;simp only[XL];have hj2:=bA.disk h.out hst;have k1:=hj2.ok.jm.cell1;have k35:=hj2.ok.jm.cell35;have f35:w2.frozen? ⟨J,35,none⟩=false:=Zg hj2.ok.jm.at_ _;have hU:=(ag.refl hj2.ok.jm.at_).setCell (j:=35) (.int .i64 (N:Nat));rw[D5 (QE Ql _)] at hU;have Sk:=hj2.trans (bA.upd (ah:=N) hj2.ok hU);rw[<-hN.out] at k1;replace Sk:=Hd Sk;clear hst hj2 hU hsy uF hc0;go_wp2_with fail;go_ret;refine⟨?_,v2,qP,hm2,?_⟩
  ·rw[hs.out];rfl
  ·rw[hs.out,if_pos rfl];exact(congrArg (λs=>bA base w _ J B mb v _ F qP v2 _ F p.sync.1 recs s false) hN.out).mp Sk.out
 ·rw[hs] at hsy;replace hsy:=Hd hsy;replace hN:=Hd hN;replace hs:=Hd hs;go_enter Tryz.func146,Tryz.ntmps146;go_wp2_with fail;with_reducible refine hsy.out.mono ?_
  rintro x w2 ⟨rfl,v2,qP,hm2,hst⟩;simp only[XL];have hj2:=bA.disk h.out hst;have hfa:=Hd (Nq hj2.ok ⟨#[115,121,110,99]⟩ (-1) 298 (.pointer (some (e 2))));replace hj2:=Hd hj2;clear hst hsy uF hc0;go_wp2_with fail;with_reducible refine hfa.out.mono ?_
  rintro y w5 ⟨⟨ad,rfl,hfc⟩,lL⟩;have yV:=Hd (hj2.out.trans lL);have hpe:=Hd (fe.out w5 (yV.out.only.below hb (λk hk=>hk.elim (λh1=>(h.out.jm.lt k h1).1) (λh1=>(h.out.dm.lt k h1).1)))).power;replace hfc:=Hd hfc;clear lL hfa;go_wp2_with fail;go_ret;refine⟨?_,v2,qP,hm2,?_⟩
  ·rw[hs.out];exact⟨_,_,_,_,rfl,hfc.out,hpe.out⟩
  ·rw[hs.out];exact yV.out
end Go.Proofs.YtpdhceiodgnbmaaGreatDoor
