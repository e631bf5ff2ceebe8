import Derived.Test.YtpdhceiodgnbmaaGreatDoorF0Safe21Said
import Derived.Test.YtpdhceiodgnbmaaGreatDoorF1Safe21Said
import Derived.Test.YtpdhceiodgnbmaaGreatDoorF11Safe21Said
import Derived.Test.YtpdhceiodgnbmaaGreatDoorF13Safe21Said
import Derived.Test.YtpdhceiodgnbmaaGreatDoorF14Safe21Said
import Derived.Test.YtpdhceiodgnbmaaGreatDoorF2Safe21Said
import Derived.ArgAppend
import Derived.Laws.IdiomStrings
import Derived.Deep.MidRow
import Derived.Deep.Upon
import Derived.Test.YtpdhceiodgnbmaaGreatDoorF4Safe21Said
import Derived.Deep.QuietTactic
import Derived.Deep.CutRange
import Derived.Deep.RegionWith
import Derived.Deep.Cut
set_option linter.unusedVariables false
set_option linter.unusedSimpArgs false
set_option linter.unnecessarySimpa false
set_option maxRecDepth 100000
set_option maxHeartbeats 8000000
namespace Go.Proofs.YtpdhceiodgnbmaaGreatDoor
open Go.RowKit
def DP.arm(p:DP)(n:Int):DP×Nat:=if n<0 then (p,1) else if p.gone=true then (p,3) else ({ p with armed:=true,l:=n },0)
theorem DM.upd{base:Nat}{w w':World}{B mb mn:Nat}{v:Value}{p:DP}(h:DM base w B mb mn v p){a:Bool}{l:Int}{g:Bool}(hU:Upd B (.cells (Qd p.n mb v a l g) 120 (0,0)) w w'):DStep base w w' B mb v mn v { p with armed:=a,l:=l,gone:=g }:=by
 have hO:Only (λk=>k=B) w w':=Only.ofUpd hU rfl
 exact⟨⟨hU.here,h.map.only hO h.hmB,hO.owns h.row (λk hk=>(h.vB k hk).1),h.hmB,h.vB,h.geB,h.gem,h.lens⟩,hO.mono (λ_ _ e=>.inl e),λ_ h=>.inl h⟩
theorem LA{base:Nat}{w:World}{B mb mn:Nat}{v:Value}{p:DP}(h:DM base w B mb mn v p)(n:Int)(e:Nat->Addr)(hE:DErr w e) :
  Calls Tryz.prog 22 #[.pointer (some ⟨B,0,none⟩),.int .i64 n] w λx w'=>x=.returned (Xc e (p.arm n).2)/\DStep base w w' B mb v mn v (p.arm n).1:=by
 have c5:w.cell? ⟨B,5,none⟩=some (.bool p.gone):=by rw[h.cell];rfl
 have k1:=hE.range
 have k3:=hE.power
 have hst:=Hd (DStep.same h)
 unfold DP.arm
 by_cases h0:n<0
 ·rw[if_pos h0]
  clear h hE c5
  go_enter Tryz.func22,Tryz.ntmps22
  go_wp2_with fail
  go_ret
  exact⟨rfl,hst.out⟩
 ·rw[if_neg h0]
  cases hg:p.gone
  ·rw[if_neg dX]
   rw[hg] at c5
   have c3:w.cell? ⟨B,3,none⟩=some (.bool p.armed):=by rw[h.cell];rfl
   have c4:w.cell? ⟨B,4,none⟩=some (.int .i64 p.l):=by rw[h.cell];rfl
   have f3:w.frozen? ⟨B,3,none⟩=false:=Zj h.at_ _
   have hU:=(Upd.refl h.at_).setCell (j:=3) (.bool true)
   have f4:=Zj hU.here 4
   have hU2:=hU.setCell (j:=4) (.int .i64 n)
   have hfin:=DM.upd (a:=true) (l:=n) (g:=p.gone) h hU2
   rw[hg] at hfin
   replace hfin:=Hd hfin
   clear h hE hU hU2 hst k1 k3
   go_enter Tryz.func22,Tryz.ntmps22
   go_wp2_with fail
   go_ret
   exact⟨rfl,hfin.out⟩
  ·rw[if_pos rfl]
   rw[hg] at c5
   clear h hE k1
   go_enter Tryz.func22,Tryz.ntmps22
   go_wp2_with fail
   go_ret
   exact⟨rfl,hst.out⟩
abbrev FullE (w:World):Prop:=∃ a,w.cell? ⟨11,0,none⟩=some (.iface 298 (.pointer (some a)))
def Ud(w:World)(x:Ending)(w':World):Prop:=(∃ u,x=.returned (.iface 298 (.pointer (some u)))/\(w'.cell? ⟨7,0,none⟩=some (.iface 298 (.pointer (some u)))\/w'.cell? ⟨11,0,none⟩=some (.iface 298 (.pointer (some u)))))/\Below w.heap.size w w'
theorem Tp{base:Nat}{w:World}{J B:Nat}{rv:Value}{F:Nat->Prop}{recs:List (List UInt8)}{sure:Nat}(h:JM base w J B rv F recs sure false)(e:Nat->Addr)(hE:DErr w e)(a:Option Addr)(m c:Nat)(hm:m<1\/400<m)(hm2:m<=9223372036854775807) :
  Calls Tryz.prog 145 #[.pointer (some ⟨J,0,none⟩),.slice a m c] w (Ud w):=by
 have hc36:=h.cell36
 have k2:=hE.size
 have hsd:=λW=>J1 (m:Int) W
 rw[show decide (1<=(m:Int)/\(m:Int)<=400)=false by simp;omega] at hsd
 replace hsd:=Hd hsd
 clear h hE hm
 go_enter Tryz.func145,Tryz.ntmps145
 go_wp2_with fail
 with_reducible refine(hsd.out _).mono ?_
 rintro x w0 ⟨rfl,hq⟩
 obtain rfl:=hq
 have k2':=Hd k2
 clear hsd
 go_wp2_with fail
 go_ret
 exact⟨⟨_,rfl,.inl k2'.out⟩,Below.refl _ _⟩
theorem KM{base:Nat}{w:World}{J B mb mn:Nat}{v rv:Value}{F:Nat->Prop}{p:DP}{recs:List (List UInt8)}{sure:Nat}(h:JD base w J B mb mn v rv F p recs sure false)(n:Nat)(hpn:p.n=(n:Int))(hn:n<=1000)(hE64:Zh recs<=64*n)(hfu:FullE w)(a:Option Addr)(m c:Nat)(h1:1<=m)(h4:m<=400)(hm:Xi n (Zh recs)<m) :
  Calls Tryz.prog 145 #[.pointer (some ⟨J,0,none⟩),.slice a m c] w (Ud w):=by
 have hc36:=h.jm.cell36
 obtain⟨ef,hef⟩:=hfu
 have hrm:=Hl h n hpn hn hE64
 have hsd:=λW=>J1 (m:Int) W
 rw[show decide (1<=(m:Int)/\(m:Int)<=400)=true by simp;omega] at hsd
 replace hsd:=Hd hsd
 generalize Xi n (Zh recs)=R at*
 have hlt:(R:Int)<(m:Int):=oX
 replace hrm:=Hd hrm
 clear h hm
 go_enter Tryz.func145,Tryz.ntmps145
 go_wp2_with fail
 with_reducible refine(hsd.out _).mono ?_
 rintro x w0 ⟨rfl,hq⟩
 obtain rfl:=hq
 clear hsd
 go_wp2_with fail
 with_reducible refine hrm.out.mono ?_
 rintro x w1 ⟨rfl,nd,rfl⟩
 clear hrm
 have hef1:(w.drewN nd).cell? ⟨11,0,none⟩=some (.iface 298 (.pointer (some ef))):=by rw[World.cell?_drewN];exact hef
 have hef2:=Hd hef1
 go_wp2_with fail
 go_ret
 exact⟨⟨_,rfl,.inr hef2.out⟩,Drawn.below ⟨nd,rfl⟩ _⟩
theorem Nn(w:World)(J:Nat)(a:Option Addr)(m c:Nat)(h:Calls Tryz.prog 145 #[.pointer (some ⟨J,0,none⟩),.slice a m c] w (Ud w)) :
  Calls Tryz.prog 121 #[.pointer (some ⟨J,0,none⟩),.slice a m c] w (Ud w):=by
 replace h:=Hd h
 go_enter Tryz.func121,Tryz.ntmps121
 go_wp2_with fail
 with_reducible refine h.out.mono ?_
 clear h
 rintro x w1 ⟨⟨u,rfl,hu⟩,hb⟩
 replace hb:=Hd hb
 replace hu:=Hd hu
 go_wp2_with fail
 go_ret
 exact⟨⟨_,rfl,hu.out⟩,hb.out⟩
structure SafeA (p:DP) (recs:List (List UInt8)) (sure:Nat):Prop where
 inv:BInv p (QC recs) (Zh (recs.take sure))
 sh:Xj p 60 recs
 le:sure<=recs.length
 okR:∀ r∈recs,okR r
 fit:Zh recs<=3840
 n:p.n=60
 g:p.gone=false
 out:∀ j:Int,60<=j->p.f j=zSec
structure SafeD (p:DP) (all:List (List UInt8)) (sure:Nat):Prop where
 inv:BInv p (QC all) (Zh (all.take sure))
 le:sure<=all.length
 okR:∀ r∈all.take sure,okR r
 fit:Zh (all.take sure)<=3840
 n:p.n=60
theorem HM(a b:List (List UInt8)):Zh (a++b)=Zh a+Zh b:=by simp[Zh]
theorem Jz(l:List (List UInt8))(k:Nat):Zh (l.take k)<=Zh l:=by
 have h:=HM (l.take k) (l.drop k)
 rw[List.take_append_drop] at h
 omega
theorem Vz{α:Type}{l:List α}{x:α}{k:Nat}(h:k<=l.length):(l++[x]).take k=l.take k:=by
 rw[List.take_append_of_le_length h]
theorem SafeA.dead0{p q:DP}{recs:List (List UInt8)}{sure:Nat}(h:SafeA p recs sure)(hq:BInv q (QC recs) (Zh (recs.take sure)))(hn:q.n=60):SafeD q recs sure:=
 ⟨hq,h.le,λr hr=>h.okR r (List.mem_of_mem_take hr),Nat.le_trans (Jz _ _) h.fit,hn⟩
theorem SafeA.dead1{p q:DP}{recs:List (List UInt8)}{sure:Nat}(h:SafeA p recs sure)(r:List UInt8)(hq:BInv q (QC (recs++[r])) (Zh (recs.take sure)))(hn:q.n=60):SafeD q (recs++[r]) sure:=by
 refine⟨by rw[Vz h.le];exact hq,by rw[List.length_append];have:=h.le;omega,?_,?_,hn⟩
 ·rw[Vz h.le];exact λr hr=>h.okR r (List.mem_of_mem_take hr)
 ·rw[Vz h.le];exact Nat.le_trans (Jz _ _) h.fit
theorem SafeA.lay{p:DP}{recs:List (List UInt8)}{sure:Nat}(h:SafeA p recs sure)(r:List UInt8)(hr:Go.Proofs.YtpdhceiodgnbmaaGreatDoor.okR r)(hfit:Zh recs+(34+r.length)<=3840) :
  ((lay p (Zh recs) (Zp (Zg z32J recs) r)).2=true->SafeA (lay p (Zh recs) (Zp (Zg z32J recs) r)).1 (recs++[r]) sure)/\SafeD (lay p (Zh recs) (Zp (Zg z32J recs) r)).1 (recs++[r]) sure/\
   (lay p (Zh recs) (Zp (Zg z32J recs) r)).1.ws.length<=p.ws.length+434/\p.l-434<=(lay p (Zh recs) (Zp (Zg z32J recs) r)).1.l/\(lay p (Zh recs) (Zp (Zg z32J recs) r)).1.l<=p.l:=by
 have hk:=Us (Zp (Zg z32J recs) r).length p (Zh recs) (Zp (Zg z32J recs) r) h.g
 have hB:=h.inv.lay (Jz _ _) r
 have hfl:=QW (Zg z32J recs) r
 have h4:=hr.2
 unfold Go.Proofs.YtpdhceiodgnbmaaGreatDoor.lay at hB ⊢
 refine⟨λhok=>?_,h.dead1 r hB (hk.2.1.trans h.n),oX,oX,oX⟩
 have hsl:=NG h.inv.ok h.sh hok
 unfold Go.Proofs.YtpdhceiodgnbmaaGreatDoor.lay at hsl
 refine⟨by rw[Vz h.le];exact hB,hsl.2,by rw[List.length_append];have:=h.le;omega,λx hx=>?_,by rw[QK];exact hfit,hk.2.1.trans h.n,hk.1 hok,λj hj=>by rw[hk.2.2.2.2.2.2];exact h.out j hj⟩
 rcases List.mem_append.1 hx with hx|hx
 ·exact h.okR x hx
 ·rw[List.mem_singleton.1 hx];exact hr
theorem BInv.gone{p:DP}{G:Nat->UInt8}{S:Nat}(h:BInv p G S):BInv { p with gone:=true } G S:=⟨⟨h.ok.f,h.ok.ws⟩,h.f,h.ws⟩
theorem SafeA.sync{p:DP}{recs:List (List UInt8)}{sure:Nat}(h:SafeA p recs sure)(hw:∀ q∈p.ws,q.1<60) :
  (p.sync.2=0->SafeA p.sync.1 recs recs.length/\p.sync.1.ws=[])/\(p.sync.2≠0->SafeD p.sync.1 recs sure/\∀ r,SafeD p.sync.1 (recs++[r]) sure)/\p.sync.1.ws.length<=p.ws.length/\p.l-1<=p.sync.1.l/\p.sync.1.l<=p.l:=by
 cases hb:p.bad
 ·have e:p.sync=({ p with l:=p.l-1,f:=ZJ (λ_=>some 64) p.ws p.f,ws:=[] },0):=by unfold DP.sync;rw[hb];rfl
  have hs:=Gl h.inv.ok h.sh (by rw[e])
  rw[e] at hs ⊢
  have hout:∀ j:Int,60<=j->ZJ (λ_=>some 64) p.ws p.f j=zSec:=λj hj=>by
   rw[Gn p.ws p.f h.inv.ok.ws h.inv.ok.f]
   unfold ZR
   have:Ym p.ws j=none:=by
    unfold Ym
    rw[List.find?_eq_none]
    intro q hq
    have:=hw q (by simpa using hq)
    simp
    omega
   rw[this]
   exact h.out j hj
  refine⟨λ_=>⟨⟨?_,hs.2,Nat.le_refl _,h.okR,h.fit,h.n,h.g,hout⟩,rfl⟩,λhc=>absurd rfl hc,sX,sX,sYq⟩
  rw[List.take_length]
  exact BInv.synced hs.1 hs.2 h.fit hout rfl
 ·have e:p.sync=({ p with gone:=true },3):=by unfold DP.sync;rw[hb];rfl
  rw[e]
  refine⟨λhc=>by simp at hc,λ_=>⟨h.dead0 h.inv.gone h.n,λr=>h.dead1 r (h.inv.snoc (Jz _ _) r).gone h.n⟩,Nat.le_refl _,sYq,Int.le_refl _⟩
theorem LF{p:DP}(h:∀ y∈p.ws,y.1<p.n)(i:Int)(bs:List UInt8):(p.write i bs).1.n=p.n/\∀ y∈(p.write i bs).1.ws,y.1<p.n:=by
 unfold DP.write
 split
 ·exact⟨rfl,h⟩
 ·split
  ·exact⟨rfl,h⟩
  ·split
   ·exact⟨rfl,h⟩
   ·refine⟨rfl,λy hy=>?_⟩
    rcases List.mem_append.1 hy with hy|hy
    ·exact h y hy
    ·rw[List.mem_singleton.1 hy];show i<p.n;omega
theorem Br:∀ (f:Nat) (p:DP) (k:Nat) (b:List UInt8),(∀ y∈p.ws,y.1<p.n)->∀ y∈(layF f p k b).1.ws,y.1<p.n:=by
 intro f
 induction f with
 | zero=>intro p k b h;exact h
 | succ f ih=>
  intro p k b h
  rw[Go.Proofs.YtpdhceiodgnbmaaGreatDoor.layF]
  split
  ·exact h
  ·have hw:=LF h ((k / 64:Nat):Int) (Xs (ZR p.ws p.f ((k / 64:Nat):Int)) b k)
   split
   ·intro y hy
    rw[<-hw.1]
    exact ih _ _ _ (by rw[hw.1];exact hw.2) y hy
   ·exact hw.2
set_option linter.unusedSimpArgs false
def SentR(x:Ending)(w':World):Prop:=∃ u,x=.returned (.iface 298 (.pointer (some u)))/\(w'.cell? ⟨7,0,none⟩=some (.iface 298 (.pointer (some u)))\/w'.cell? ⟨11,0,none⟩=some (.iface 298 (.pointer (some u))))
def PutRes(base:Nat)(w:World)(J B mb mn:Nat)(v rv:Value)(F:Nat->Prop)(p:DP)(recs:List (List UInt8))(sure:Nat)(r:List UInt8)(x:Ending)(w':World):Prop:=
 ∃ mn' v' rv' F' p' recs' sure' dead',JStep base w w' J B mb v rv F mn' v' rv' F' p' recs' sure' dead'/\mn'<=mn+p.ws.length+434/\p'.ws.length<=p.ws.length+434/\p.l-435<=p'.l/\p'.l<=p.l/\
  ((x=.returned .nilIface/\dead'=false/\recs'=recs++[r]/\sure'=recs.length+1/\SafeA p' recs' sure'/\p'.ws=[]/\p'.armed=p.armed/\okR r/\Zh recs+(34+r.length)<=3840)\/
  (SentR x w'/\dead'=false/\recs'=recs/\sure'=sure/\p'=p)\/
  (FltR x w'/\dead'=true/\sure'=sure/\(recs'=recs\/recs'=recs++[r])/\SafeD p' (recs++[r]) sure/\p'.n=60/\okR r/\Zh recs+(34+r.length)<=3840))
theorem Rx(p:DP):p.sync.1.armed=p.armed:=by
 unfold DP.sync
 split<;>rfl
theorem KC(p:DP)(i:Int)(bs:List UInt8):(p.write i bs).1.armed=p.armed:=by
 unfold DP.write
 split
 ·rfl
 ·split
  ·rfl
  ·split<;>rfl
theorem PI:∀ (f:Nat) (p:DP) (k:Nat) (b:List UInt8),(layF f p k b).1.armed=p.armed:=by
 intro f
 induction f with
 | zero=>intro p k b;rfl
 | succ f ih=>
  intro p k b
  rw[Go.Proofs.YtpdhceiodgnbmaaGreatDoor.layF]
  split
  ·rfl
  ·split
   ·rw[ih,KC]
   ·exact KC _ _ _
theorem PutRes.err{base:Nat}{w:World}{J B mb mn:Nat}{v rv:Value}{F:Nat->Prop}{p:DP}{recs:List (List UInt8)}{sure:Nat}(h:JD base w J B mb mn v rv F p recs sure false)(hS:SafeA p recs sure)(r:List UInt8){x:Ending}{w':World}(he:Ud w x w'):PutRes base w J B mb mn v rv F p recs sure r x w':=by
 obtain⟨hx,hb⟩:=he
 exact⟨mn,v,rv,F,p,recs,sure,false,(JStep.same h).grow hb,oX,oX,oX,Int.le_refl _,.inr (.inl ⟨hx,rfl,rfl,rfl,rfl⟩)⟩
theorem Bv{base:Nat}{w:World}{J B mb mn:Nat}{v rv:Value}{F:Nat->Prop}{p:DP}{recs:List (List UInt8)}{sure:Nat}(h:JD base w J B mb mn v rv F p recs sure false)(hb:base<=w.heap.size)(hS:SafeA p recs sure)(hws:p.ws.length<=15000)(hmn:mn<=40000)(hpl : -200000<=p.l/\p.l<=200000)(e:Nat->Addr)(hBE:13≠B)(hEb:∀ W,Below base w W->DErr W e)(hFu:FullE w)(hK:ShaK w)(hF:ShaF w)(r:List UInt8)(hr5:r.length<=500)(a:Option Addr)(c:Nat)(hA:ArgB w a c r)(hAD:1<=r.length->∀ b o s,a=some ⟨b,o,s⟩->¬JF J F rv b/\¬Zw B mb v b/\b<w.heap.size) :
  Calls Tryz.prog 121 #[.pointer (some ⟨J,0,none⟩),.slice a r.length c] w (PutRes base w J B mb mn v rv F p recs sure r):=by
 have hE:=hEb w bR
 by_cases h1:1<=r.length/\r.length<=400
 ·by_cases h2:r.length<=Xi 60 (Zh recs)
  ·have hfit:Zh recs+(34+r.length)<=3840:=by unfold Xi at h2;have:=h1.1;omega
   obtain⟨l1,l2,l3,l4,l5⟩:=hS.lay r h1 hfit
   refine(Hk h hb 60 hS.n dX hS.fit oX oX hpl hS.g e hBE hEb hK hF r ⟨h1.1,h1.2,h2⟩ a c hA (hAD h1.1)).mono ?_
   rintro x w' ⟨hx,mn',v',rv',F',hm',hst⟩
   have hin:∀ y∈(lay p (Zh recs) (Zp (Zg z32J recs) r)).1.ws,y.1<60:=λy hy=>by
    have:=Br _ p (Zh recs) (Zp (Zg z32J recs) r) (λq hq=>(h.dm.lens q hq).2.2) y hy
    rw[hS.n] at this
    exact this
   have har:(lay p (Zh recs) (Zp (Zg z32J recs) r)).1.sync.2=0->(lay p (Zh recs) (Zp (Zg z32J recs) r)).1.sync.1.armed=p.armed:=λh0=>(Rx _).trans (PI _ _ _ _)
   generalize lay p (Zh recs) (Zp (Zg z32J recs) r)=q at*
   cases hq:q.2
   ·rw[hq] at hx hst
    simp only[Bool.false_eq_true,false_and,if_false,Bool.false_and,Bool.not_false] at hx hst
    exact⟨mn',v',rv',F',q.1,recs,sure,true,hst,oX,l3,oX,l5,.inr (.inr ⟨hx,rfl,rfl,.inl rfl,l2,l2.n,h1,hfit⟩)⟩
   ·have hA:=l1 hq
    obtain⟨s1,s2,s3,s4,s5⟩:=hA.sync hin
    rw[hq] at hx hst
    by_cases h0:q.1.sync.2=0
    ·simp only[h0,and_self,if_true,Bool.true_and,beq_self_eq_true,Bool.not_true] at hx hst
     have hs:=s1 h0
     have hl:(recs++[r]).length=recs.length+1:=by rw[List.length_append];rfl
     rw[hl] at hs
     exact⟨mn',v',rv',F',q.1.sync.1,recs++[r],recs.length+1,false,hst,oX,oX,oX,oX,.inl ⟨hx,rfl,rfl,rfl,hs.1,hs.2,har h0,h1,hfit⟩⟩
    ·have hne:(q.1.sync.2==0)=false:=beq_eq_false_iff_ne.2 h0
     simp only[h0,and_false,if_true,if_false,Bool.true_and,hne,Bool.not_false] at hx hst
     have hl:(recs++[r]).length=recs.length+1:=by rw[List.length_append];rfl
     exact⟨mn',v',rv',F',q.1.sync.1,recs++[r],sure,true,hst,oX,oX,oX,oX,.inr (.inr ⟨hx,rfl,rfl,.inr rfl,(s2 h0).1,(s2 h0).1.n,h1,hfit⟩)⟩
  ·exact(Nn w J a r.length c (KM h 60 hS.n dX hS.fit hFu a r.length c h1.1 h1.2 oX)).mono λx w' he=>PutRes.err h hS r he
 ·exact(Nn w J a r.length c (Tp h.jm e hE a r.length c oX oX)).mono λx w' he=>PutRes.err h hS r he
def Qk(bs:List UInt8)(sh:Bool)(n:Nat):List UInt8:=if sh=true\/bs.length<n then List.replicate n 0 else bs.take n
def YB(bs:List UInt8)(sh:Bool)(n:Nat):List UInt8:=if sh=true\/bs.length<n then bs else bs.drop n
def YE(bs:List UInt8)(sh:Bool)(n:Nat):Bool:=if sh=true\/bs.length<n then true else false
theorem Y1(bs:List UInt8)(sh:Bool)(n:Nat):(Qk bs sh n).length=n:=by
 unfold Qk
 split
 ·simp
 ·next h=>rw[List.length_take];omega
theorem LG(bs:List UInt8)(sh:Bool)(n:Nat):(YB bs sh n).length<=bs.length:=by
 unfold YB
 split
 ·exact Nat.le_refl _
 ·rw[List.length_drop];omega
def RdM(w:World)(q B:Nat)(bs:List UInt8)(sh:Bool):Prop:=
 ∃ a c,w.heap[q]? = some (.cells #[.slice a bs.length c,.bool sh] 140 (0,0))/\ArgB w a c bs/\∀ ad,a=some ad->∃ b o,ad=⟨b,o,none⟩/\b≠q/\b<B
theorem RW{a:Option Addr}{q B b o:Nat}(h:∀ ad,a=some ad->∃ b o,ad=⟨b,o,none⟩/\b≠q/\b<B)(e:a=some ⟨b,o,none⟩):b≠q:=by
 obtain⟨b',o',e',hn⟩:=h _ e
 cases e'
 exact hn.1
theorem RdM.only{w w':World}{q B:Nat}{bs:List UInt8}{sh:Bool}{D:Nat->Prop}(h:RdM w q B bs sh)(hO:Only D w w')(hq:¬D q)(hD:∀ k,D k->B<=k):RdM w' q B bs sh:=by
 obtain⟨a,c,h1,h2,h3⟩:=h
 refine⟨a,c,hO.heap h1 hq,hO.argB h2 (λb o e hk=>?_),h3⟩
 obtain⟨b',o',e',_,hn⟩:=h3 _ e
 cases e'
 have:=hD b hk
 omega
def Jj(w:World)(q B:Nat)(bs:List UInt8)(sh:Bool)(n:Nat)(e:Ending)(w':World):Prop:=
 ∃ a c,e=.returned (.slice a n c)/\ArgB w' a c (Qk bs sh n)/\(∀ ad,a=some ad->∃ b o,ad=⟨b,o,none⟩/\b≠q)/\RdM w' q B (YB bs sh n) (YE bs sh n)/\Only (λk=>k=q) w w'
theorem Dl{w:World}{b o c n:Nat}{bs:List UInt8}(h:ArgB w (some ⟨b,o,none⟩) c bs)(hn:n<=bs.length):ArgB w (some ⟨b,o,none⟩) c (bs.take n)/\ArgB w (some ⟨b,o+n,none⟩) (c-n) (bs.drop n):=by
 have hl:=h.len
 have hm:=h.most
 refine⟨⟨by rw[List.length_take];omega,hm,(λe=>by cases e),λi hi=>?_⟩,⟨by rw[List.length_drop];omega,oX,(λe=>by cases e),λi hi=>?_⟩⟩
 ·rw[List.length_take] at hi
  obtain⟨b',o',e,hc⟩:=h.row i oX
  cases e
  refine⟨_,_,rfl,?_⟩
  rw[hc]
  congr 2
  simp[List.getD_eq_getElem?_getD,show i<n by omega]
 ·rw[List.length_drop] at hi
  obtain⟨b',o',e,hc⟩:=h.row (n+i) oX
  cases e
  refine⟨_,_,rfl,?_⟩
  rw[show o+n+i=o+(n+i) from by omega,hc]
  congr 2
  simp[List.getD_eq_getElem?_getD,List.getElem?_drop]
theorem Uw{w:World}{a:Option Addr}{c:Nat}(hm:c<=maxLen)(hn:a=none->c=0):ArgB w a c []:=⟨Nat.zero_le _,hm,hn,λ_ hi=>absurd hi (Nat.not_lt_zero _)⟩
theorem TX(q B:Nat)(bs:List UInt8)(sh:Bool)(n:Nat)(w:World)(h:RdM w q B bs sh)(hn:n<=1000)(hs:sh=true\/bs.length<n):Calls Tryz.prog 103 #[.pointer (some ⟨q,0,none⟩),.int .i64 (n:Int)] w (Jj w q B bs sh n):=by
 obtain⟨i0,hi,hz0,hz1,hz2⟩:=info_parts Tryz.infoByteP
 obtain⟨a,c,hq,ha,hne⟩:=h
 have eO:Qk bs sh n=List.replicate n 0:=by unfold Qk;rw[if_pos hs]
 have eB:YB bs sh n=bs:=by unfold YB;rw[if_pos hs]
 have eS:YE bs sh n=true:=by unfold YE;rw[if_pos hs]
 have c0:=Za hq 0
 have c1:=Za hq 1
 have f1:=Zj hq 1
 have hlt:=Zb hq
 obtain⟨w2,hw2⟩:∃ w2,w2=w.setCell ⟨q,1,none⟩ (.bool true):=⟨_,rfl⟩
 have hU:=(Upd.refl hq).setCell (j:=1) (.bool true)
 rw[<-hw2] at hU
 replace hw2:=Hd hw2
 obtain⟨L,hL⟩:∃ L,L=bs.length:=⟨_,rfl⟩
 rw[<-hL] at c0 hs
 replace hL:=Hd hL
 replace hU:=Hd hU
 replace ha:=Hd ha
 replace hne:=Hd hne
 replace hq:=Hd hq
 have hfin:∀ w4,Only (λk=>k=q) w w4->w4.heap[q]? = some (.cells #[.slice a bs.length c,.bool true] 140 (0,0))->RdM w4 q B bs true:=λw4 hO h4=>⟨a,c,h4,hO.argB ha.out (λb o e=>RW hne.out e),hne.out⟩
 replace hfin:=Hd hfin
 have hpost:∀ w4,OwnB w.heap.size w4 (.slice (some ⟨w2.heap.size,0,none⟩) n n) (List.replicate n 0)->Only (λk=>k=q) w w4->w4.heap[q]? = some (.cells #[.slice a bs.length c,.bool true] 140 (0,0))->Jj w q B bs sh n (.returned (.slice (some ⟨w2.heap.size,0,none⟩) n n)) w4:=λw4 h1 h2 h3=>by
  obtain⟨a4,c4,e4,h4,_⟩:=h1.arg
  rw[List.length_replicate] at e4
  cases e4
  refine⟨_,_,rfl,by rw[eO];exact h4,λad e=>?_,by rw[eB,eS];exact hfin.out w4 h2 h3,h2⟩
  cases e
  refine⟨_,_,rfl,?_⟩
  have:=hU.out.size
  omega
 replace hpost:=Hd hpost
 clear eO eB eS
 by_cases hsh:sh=true
 ·subst hsh
  clear hs
  go_enter Tryz.func103,Tryz.ntmps103
  go_wp2_with (at_make;rw[<-hw2.out];go_must (refine wpList_make_full _ rfl _ _ 24 rfl w.heap.size 5 i0 (.int .u8 0) 1 Tryz.underlying24 hi hz0 hz1 _ _ _ _ n rfl rfl oX oX (by rw[hz2];omega) c6X (by have:=hU.out.size;omega) ?_))
  intro w4 hown4 hg4
  have hO4:=OwnB.made hown4
  rw[Ut] at hO4
  have h4:=(hg4.block q (by have:=hU.out.size;omega) sX).trans hU.out.here
  have hOn:Only (λk=>k=q) w w4:=(Only.ofUpd (D:=λk=>k=q) hU.out rfl).trans (Only.ofGrown (D:=λ_=>False) hg4 (λk e=>by cases e)) (λ_ _ e=>e.elim)
  replace hO4:=Hd hO4
  replace h4:=Hd h4
  replace hOn:=Hd hOn
  clear hown4 hg4
  go_wp2_with fail
  go_ret
  exact hpost.out w4 hO4.out hOn.out h4.out
 ·have hsf:sh=false:=by simpa using hsh
  subst hsf
  have hln:L<n:=hs.resolve_left sX
  have hlt2:(L:Int)<(n:Int):=oX
  clear hs hsh hln
  go_enter Tryz.func103,Tryz.ntmps103
  go_wp2_with (at_make;rw[<-hw2.out];go_must (refine wpList_make_full _ rfl _ _ 24 rfl w.heap.size 5 i0 (.int .u8 0) 1 Tryz.underlying24 hi hz0 hz1 _ _ _ _ n rfl rfl oX oX (by rw[hz2];omega) c6X (by have:=hU.out.size;omega) ?_))
  intro w4 hown4 hg4
  have hO4:=OwnB.made hown4
  rw[Ut] at hO4
  have h4:=(hg4.block q (by have:=hU.out.size;omega) sX).trans hU.out.here
  have hOn:Only (λk=>k=q) w w4:=(Only.ofUpd (D:=λk=>k=q) hU.out rfl).trans (Only.ofGrown (D:=λ_=>False) hg4 (λk e=>by cases e)) (λ_ _ e=>e.elim)
  replace hO4:=Hd hO4
  replace h4:=Hd h4
  replace hOn:=Hd hOn
  clear hown4 hg4
  go_wp2_with fail
  go_ret
  exact hpost.out w4 hO4.out hOn.out h4.out
theorem WS(q B:Nat)(bs:List UInt8)(n:Nat)(w:World)(h:RdM w q B bs false)(hn:n<=bs.length)(hm:bs.length<=1000000):Calls Tryz.prog 103 #[.pointer (some ⟨q,0,none⟩),.int .i64 (n:Int)] w (Jj w q B bs false n):=by
 obtain⟨a,c,hq,ha,hne⟩:=h
 have hs:¬(false=true\/bs.length<n):=sYq
 have eO:Qk bs false n=bs.take n:=by unfold Qk;rw[if_neg hs]
 have eB:YB bs false n=bs.drop n:=by unfold YB;rw[if_neg hs]
 have eS:YE bs false n=false:=by unfold YE;rw[if_neg hs]
 have c0:=Za hq 0
 have c1:=Za hq 1
 have f0:=Zj hq 0
 have hlt:=Zb hq
 have hlen:=ha.len
 have hmost:=ha.most
 have hU:∀ v,Upd q (.cells #[v,.bool false] 140 (0,0)) w (w.setCell ⟨q,0,none⟩ v):=λv=>(Upd.refl hq).setCell (j:=0) v
 have hfin:∀ a2 c2,ArgB w a2 c2 (bs.drop n)->(∀ ad,a2=some ad->∃ b o,ad=⟨b,o,none⟩/\b≠q/\b<B)->ArgB w a c (bs.take n)->Jj w q B bs false n (.returned (.slice a n c)) (w.setCell ⟨q,0,none⟩ (.slice a2 (bs.length-n) c2)):=λa2 c2 h1 h2 h3=>by
  have hO:Only (λk=>k=q) w (w.setCell ⟨q,0,none⟩ (.slice a2 (bs.length-n) c2)):=Only.ofUpd (hU _) rfl
  refine⟨a,c,rfl,by rw[eO];exact hO.argB h3 (λb o e=>RW hne e),(λad e=>by obtain⟨b,o,h4,h5,_⟩:=hne ad e;exact⟨b,o,h4,h5⟩),?_,hO⟩
  rw[eB,eS]
  refine⟨a2,c2,?_,hO.argB h1 (λb o e=>RW h2 e),h2⟩
  rw[List.length_drop]
  exact(hU _).here
 obtain⟨L,hL⟩:∃ L,L=bs.length:=⟨_,rfl⟩
 rw[<-hL] at c0 hfin hlen hn hm
 have hnl:¬(L:Int)<(n:Int):=oX
 have hn0:(0:Int)<=(n:Int):=oX
 have hle:(n:Int)<=(L:Int):=oX
 have hlc:(L:Int)<=(c:Int):=oX
 have hnc:(n:Int)<=(c:Int):=oX
 have hsub:((L:Int)-(n:Int)).toNat=L-n:=oX
 have hsubc:((c:Int)-(n:Int)).toNat=c-n:=oX
 replace hL:=Hd hL
 replace hfin:=Hd hfin
 replace hU:=Hd hU
 clear eO eB eS hs hq
 cases a with
 | none=>
  have hc0:=ha.nil rfl
  subst hc0
  obtain rfl:L=0:=oX
  obtain rfl:n=0:=oX
  have he:bs=[]:=List.length_eq_zero_iff.1 hL.out.symm
  subst he
  have hgo:=Hd (hfin.out none 0 (by exact Uw dX (λ_=>rfl)) (λad e=>by cases e) (by exact Uw dX (λ_=>rfl)))
  clear ha hne hfin hU
  go_enter Tryz.func103,Tryz.ntmps103
  go_wp2_with fail
  go_ret
  exact hgo.out
 | some ad=>
  obtain⟨b,o,rfl,hbq,hbB⟩:=hne ad rfl
  obtain⟨h1,h2⟩:=Dl ha (n:=n) (by rw[<-hL.out];exact hn)
  by_cases hcc:n=c
  ·subst hcc
   obtain rfl:L=n:=oX
   have hgo:=Hd (λb2 o2 (h:b2≠q/\b2<B)=>hfin.out (some ⟨b2,o2,none⟩) 0 (by rw[show bs.drop L=[] from by rw[hL.out];exact List.drop_length];exact Uw dX (λe=>by cases e)) (λad e=>by cases e;exact⟨_,_,rfl,h.1,h.2⟩) h1)
   clear ha hne hfin hU h1 h2
   go_enter Tryz.func103,Tryz.ntmps103
   go_wp2_with fail
   go_ret
   have:=hgo.out b o ⟨hbq,hbB⟩
   simpa using this
  ·have hgo:=Hd (hfin.out (some ⟨b,o+n,none⟩) (c-n) h2 (λad e=>by cases e;exact⟨_,_,rfl,hbq,hbB⟩) h1)
   have hlt2:n<c:=oX
   have hcn:¬c=n:=oX
   have hcb:¬c<=n:=oX
   clear ha hne hfin hU h1 h2
   go_enter Tryz.func103,Tryz.ntmps103
   go_wp2_with fail
   go_ret
   exact hgo.out
theorem Gj(q B:Nat)(bs:List UInt8)(sh:Bool)(n:Nat)(w:World)(h:RdM w q B bs sh)(hn:n<=1000)(hm:bs.length<=1000000):Calls Tryz.prog 103 #[.pointer (some ⟨q,0,none⟩),.int .i64 (n:Int)] w (Jj w q B bs sh n):=by
 by_cases hs:sh=true\/bs.length<n
 ·exact TX q B bs sh n w h hn hs
 ·have hsf:sh=false:=by
   cases sh
   ·rfl
   ·exact absurd (Or.inl rfl) hs
  subst hsf
  exact WS q B bs n w h oX hm
theorem C9{w:World}{a:Option Addr}{c:Nat}{bs:List UInt8}(h:ArgB w a c bs)(n:Nat)(hn:bs.length=n):(convert 24 9 (.slice a n c)).run Tryz.prog w=.ok (.string ⟨bs.toArray⟩) w:=by
 subst hn
 exact X8 bs Tryz.underlying24 Tryz.underlying5 Tryz.underlying9 h.row
def MarkB(base:Nat)(w:World)(v:Value)(bs:List UInt8):Prop:=
 ∃ g cap,v=.slice (some ⟨g,0,none⟩) bs.length cap/\base<=g/\g<w.heap.size/\bs.length<=cap/\cap<=maxLen/\(∀ i,i<bs.length->w.cell? ⟨g,i,none⟩=some (.int .u8 ((cf bs i).toNat:Int)))/\
  ∀ j,bs.length<=j->j<cap->(w.cell? ⟨g,j,none⟩).isSome=true/\w.frozen? ⟨g,j,none⟩=false
theorem MarkB.arg{base:Nat}{w:World}{v:Value}{bs:List UInt8}(h:MarkB base w v bs):∃ a c,v=.slice a bs.length c/\ArgB w a c bs:=by
 obtain⟨g,cap,rfl,h1,h2,h3,h4,h5,h6⟩:=h
 refine⟨_,cap,rfl,h3,h4,(λe=>by cases e),λi hi=>⟨g,0,rfl,?_⟩⟩
 rw[Nat.zero_add]
 exact h5 i hi
section
variable {w:World} {ops:Array Oper} {rest:List Oper} {o:Oper} {a:Act} {Q:Exit->Act->World->Prop}
end
theorem Cj(x y:UInt8):bits BinOp.or IntKind.i64 ((x.toNat:Int)*256) (y.toNat:Int)=(x.toNat:Int)*256+y.toNat:=by
 have hx:=x.toNat_lt
 have hy:=y.toNat_lt
 have e0:((x.toNat:Int)*256)=((256*x.toNat:Nat):Int):=oX
 rw[e0]
 have e1:(BitVec.ofInt 64 ((256*x.toNat:Nat):Int)).toNat=256*x.toNat:=by rw[BitVec.ofInt_natCast,BitVec.toNat_ofNat];exact Nat.mod_eq_of_lt oX
 have e2:(BitVec.ofInt 64 (y.toNat:Int)).toNat=y.toNat:=by rw[BitVec.ofInt_natCast,BitVec.toNat_ofNat];exact Nat.mod_eq_of_lt oX
 have e3:256*x.toNat ||| y.toNat=256*x.toNat+y.toNat:=(Nat.two_pow_add_eq_or_of_lt (i:=8) oX x.toNat).symm
 show IntKind.i64.wrap ((BitVec.ofInt 64 ((256*x.toNat:Nat):Int) ||| BitVec.ofInt 64 (y.toNat:Int)).toNat:Int)=_
 rw[BitVec.toNat_or,e1,e2,e3,IntKind.wrap_i64]
 omega
theorem Bw(b off m c:Nat)(x y:UInt8)(w:World)(h0:w.cell? ⟨b,off,none⟩=some (.int .u8 (x.toNat:Int)))(h1:w.cell? ⟨b,off+1,none⟩=some (.int .u8 (y.toNat:Int)))(hm:2<=m) :
  Calls Tryz.prog 105 #[.slice (some ⟨b,off,none⟩) m c] w λe w'=>e=.returned (.int .i64 ((x.toNat:Int)*256+y.toNat))/\∃ n,w'=w.drewN n:=by
 have hx:=x.toNat_lt
 have hy:=y.toNat_lt
 have m0:(0:Int)<(m:Int):=oX
 have m1:(1:Int)<(m:Int):=oX
 go_enter Tryz.func105,Tryz.ntmps105
 go_wp2_with fail
 go_quiet (fail)
 go_wp2_with fail
 go_ret
 exact⟨by rw[Cj];rfl,_,rfl⟩
theorem JQ{P:Program}{fn:Func}{R:Ending->World->Prop}{p u:Tmp}{ty:TypeId}{tmps:Array Value}{W:World}{b:Nat}{c:Array Value}{y:Value}{d:TypeDesc}(h:fn.results=#[.cell p ty,.tmp u])
  (hp:tmps.getD p undef=.pointer (some ⟨b,0,none⟩)) (hy:tmps.getD u undef=y) (hu:P.underlying ty=some d) (hd:(match d with | .struct _ | .array _ _=>true|_=>false)=true) (hi:(P.info? ty).map (·.size)=some c.size) (hh:W.heap[b]? = some (.cells c ty (0,0))) (hR:R (.returned (.tuple #[.agg c,y])) W) :
  bodyPost P fn R .ret ⟨tmps,[]⟩ W:=by
 refine bodyPost_ret (v:=.tuple #[.agg c,y]) ?_ rfl hR
 have hr:(results fn tmps).run P W=((asAddr (tmps.getD p undef)).run P W).andThen λa w₁=>((loadVar ty a).run P w₁).andThen λv w₂=>.ok (.tuple #[v,tmps.getD u undef]) w₂:=by
  simp only[results,h]
  simp[Sem.run_bind,Result.andThen]
 rw[hr,hp,hy]
 simp[asAddr,Result.andThen,run_loadVar_row W b ty ty c (0,0) d hh hu hd hi]
theorem Jv{w:World}{x:Addr}{v:Value}(h:w.cell? x=some v):∀ W,Grown w W->W.cell? x=some v:=λ_ hW=>(hW.cell (World.block_lt_of_cell? w _ h)).trans h
theorem Hw(b off m c:Nat)(x y:UInt8)(w:World)(h0:w.cell? ⟨b,off,none⟩=some (.int .u8 (x.toNat:Int)))(h1:w.cell? ⟨b,off+1,none⟩=some (.int .u8 (y.toNat:Int)))(hm:2<=m) :
  ∀ W,Grown w W->Calls Tryz.prog 105 #[.slice (some ⟨b,off,none⟩) m c] W λe w'=>e=.returned (.int .i64 ((x.toNat:Int)*256+y.toNat))/\∃ n,w'=W.drewN n:=
 λW hW=>Bw b off m c x y W (Jv h0 W hW) (Jv h1 W hW) hm
theorem Zo(W:World)(o:Obj)(n:Nat):(W.alloc o).drewN n=(W.drewN n).alloc o:=rfl
theorem Zs(W:World)(a b:Nat):(W.drewN a).drewN b=W.drewN (a+b):=by simp[World.drewN,Nat.add_assoc]
theorem Zf{w W:World}(h:Grown w W)(n:Nat):Grown w (W.drewN n):=below_drewN h n
theorem GD(b off c:Nat)(x0 x1 x2 x3 x4 x5 x6 x7 x8:UInt8)(_:9<=c)(w:World)(Q:Ending->World->Prop)(hq:(Qi ((x0.toNat:Int)*256+x1.toNat) (x2.toNat:Int) (x3.toNat:Int) ((x4.toNat:Int)*256+x5.toNat) ((x6.toNat:Int)*256+x7.toNat) (x8.toNat:Int)=none/\(∃ z,ParErrs w z)/\∀ w',Below w.heap.size w w'->Q (.returned (.tuple #[.agg #[.int .i64 ((x0.toNat:Int)*256+x1.toNat),.int .i64 (x2.toNat:Int),.int .i64 (x3.toNat:Int),.int .i64 ((x4.toNat:Int)*256+x5.toNat),.int .i64 ((x6.toNat:Int)*256+x7.toNat),.int .i64 (x8.toNat:Int)],.nilIface])) w')\/
   (∃ (F:ByteArray) (V:Int) (i:Nat) (ea:Nat->Addr),Qi ((x0.toNat:Int)*256+x1.toNat) (x2.toNat:Int) (x3.toNat:Int) ((x4.toNat:Int)*256+x5.toNat) ((x6.toNat:Int)*256+x7.toNat) (x8.toNat:Int)=some (F,V,i)/\Errs 298 errGs w ea/\∀ g w',MJ w.heap.size w' F V (ea i) g->Below w.heap.size w w'->Q (.returned (.tuple #[.agg #[.int .i64 0,.int .i64 0,.int .i64 0,.int .i64 0,.int .i64 0,.int .i64 0],(.iface 227 (.pointer (some ⟨g,0,none⟩)))])) w'))
  (h0:w.cell? ⟨b,off,none⟩=some (.int .u8 (x0.toNat:Int))) (h1:w.cell? ⟨b,off+1,none⟩=some (.int .u8 (x1.toNat:Int))) (h2:w.cell? ⟨b,off+2,none⟩=some (.int .u8 (x2.toNat:Int))) (h3:w.cell? ⟨b,off+3,none⟩=some (.int .u8 (x3.toNat:Int)))
  (h4:w.cell? ⟨b,off+4,none⟩=some (.int .u8 (x4.toNat:Int))) (h5:w.cell? ⟨b,off+5,none⟩=some (.int .u8 (x5.toNat:Int))) (h6:w.cell? ⟨b,off+6,none⟩=some (.int .u8 (x6.toNat:Int))) (h7:w.cell? ⟨b,off+7,none⟩=some (.int .u8 (x7.toNat:Int))) (h8:w.cell? ⟨b,off+8,none⟩=some (.int .u8 (x8.toNat:Int))) :
  Calls Tryz.prog 66 #[.slice (some ⟨b,off,none⟩) 9 c] w Q:=by
 replace hq:=Hd hq
 have q0:=QJ h0
 have q1:=QJ h1
 have q2:=QJ h2
 have q3:=QJ h3
 have q4:=QJ h4
 have q5:=QJ h5
 have q6:=QJ h6
 have q7:=QJ h7
 have q8:=QJ h8
 clear h0 h1 h2 h3 h4 h5 h6 h7 h8
 have hb0:=Hd (Below.refl w.heap.size w)
 go_enter Tryz.func66,Tryz.ntmps66
 go_wp2_with fail
 generalize hW:w.alloc (.cells #[.int .i64 0,.int .i64 0,.int .i64 0,.int .i64 0,.int .i64 0,.int .i64 0] 45)=W1 at*
 replace q0:=hW▸q0 (.cells #[.int .i64 0,.int .i64 0,.int .i64 0,.int .i64 0,.int .i64 0,.int .i64 0] 45)
 replace q1:=hW▸q1 (.cells #[.int .i64 0,.int .i64 0,.int .i64 0,.int .i64 0,.int .i64 0,.int .i64 0] 45)
 replace q2:=Jv (hW▸q2 (.cells #[.int .i64 0,.int .i64 0,.int .i64 0,.int .i64 0,.int .i64 0,.int .i64 0] 45))
 replace q3:=Jv (hW▸q3 (.cells #[.int .i64 0,.int .i64 0,.int .i64 0,.int .i64 0,.int .i64 0,.int .i64 0] 45))
 replace q4:=hW▸q4 (.cells #[.int .i64 0,.int .i64 0,.int .i64 0,.int .i64 0,.int .i64 0,.int .i64 0] 45)
 replace q5:=hW▸q5 (.cells #[.int .i64 0,.int .i64 0,.int .i64 0,.int .i64 0,.int .i64 0,.int .i64 0] 45)
 replace q6:=hW▸q6 (.cells #[.int .i64 0,.int .i64 0,.int .i64 0,.int .i64 0,.int .i64 0,.int .i64 0] 45)
 replace q7:=hW▸q7 (.cells #[.int .i64 0,.int .i64 0,.int .i64 0,.int .i64 0,.int .i64 0,.int .i64 0] 45)
 replace q8:=Jv (hW▸q8 (.cells #[.int .i64 0,.int .i64 0,.int .i64 0,.int .i64 0,.int .i64 0,.int .i64 0] 45))
 have ct:=Hd (Hw b off 9 c x0 x1 W1 q0 q1 oX)
 have cu:=Hd (Hw b (off+4) 5 (c-4) x4 x5 W1 q4 q5 oX)
 have cv:=Hd (Hw b (off+6) 3 (c-6) x6 x7 W1 q6 q7 oX)
 clear q0 q1 q4 q5 q6 q7
 have e2:IntKind.i64.wrap (x2.toNat:Int)=x2.toNat:=IntWalk.i64_in _ (by have:=x2.toNat_lt;omega)
 have e3:IntKind.i64.wrap (x3.toNat:Int)=x3.toNat:=IntWalk.i64_in _ (by have:=x3.toNat_lt;omega)
 have e8:IntKind.i64.wrap (x8.toNat:Int)=x8.toNat:=IntWalk.i64_in _ (by have:=x8.toNat_lt;omega)
 go_cut [4] from 11 to 31 (λs4 wx=>∃ m:Nat,s4=.pointer (some ⟨W1.heap.size,0,none⟩)/\wx=(W1.drewN m).alloc (.cells #[.int .i64 ((x0.toNat:Int)*256+x1.toNat),.int .i64 (x2.toNat:Int),.int .i64 (x3.toNat:Int),.int .i64 ((x4.toNat:Int)*256+x5.toNat),.int .i64 ((x6.toNat:Int)*256+x7.toNat),.int .i64 (x8.toNat:Int)] 45))
 case first=>
  refine MN kX (λhOn=>?_)
  refine tk 0 hOn ?_
  refine tk 2 hOn ?_
  refine tk 3 hOn ?_
  refine tk 4 hOn ?_
  refine tk 5 hOn ?_
  refine tk 6 hOn ?_
  refine tk 7 hOn ?_
  refine tk 8 hOn ?_
  refine tk 9 hOn ?_
  refine tk 10 hOn ?_
  refine tk 11 hOn ?_
  refine tk 13 hOn ?_
  refine tk 14 hOn ?_
  refine tk 16 hOn ?_
  refine tk 17 hOn ?_
  refine tk 18 hOn ?_
  refine tk 19 hOn ?_
  refine rds [1,21] ?_
  refine AllReadyH.cons c2X (λK hK=>?_) ?_
  ·go_simp
   refine(ct.out _ hOn).mono ?_
   rintro e w2 ⟨rfl,nw2,rfl⟩
   go_wp2_with fail
   refine hK.out _ _ c0X (λhNext=>?_)
   clear hK K hOn
   have hOn:=hNext
   clear hNext
   try rw[Zo,Zs]
   try rw[Zo,Zs] at hOn
   try simp only[Act.put,sL,sZ,sS]
   refine rds [12,21] ?_
   refine AllReadyH.cons c2X (λK hK=>?_) ?_
   ·go_simp
    refine(cu.out _ hOn).mono ?_
    rintro e w3 ⟨rfl,nw3,rfl⟩
    go_wp2_with fail
    refine hK.out _ _ c0X (λhNext=>?_)
    clear hK K hOn
    have hOn:=hNext
    clear hNext
    try rw[Zo,Zs]
    try rw[Zo,Zs] at hOn
    try simp only[Act.put,sL,sZ,sS]
    refine rds [15,21] ?_
    refine AllReadyH.cons c2X (λK hK=>?_) ?_
    ·go_simp
     refine(cv.out _ hOn).mono ?_
     rintro e w4 ⟨rfl,nw4,rfl⟩
     go_wp2_with fail
     refine hK.out _ _ c0X (λhNext=>?_)
     clear hK K hOn
     have hOn:=hNext
     clear hNext
     try rw[Zo,Zs]
     try rw[Zo,Zs] at hOn
     try simp only[Act.put,sL,sZ,sS]
     refine tk 20 hOn ?_
     refine rds [21] ?_
     refine AllReadyH.cons c2X (λK hK=>?_) AllReadyH.nil
     go_simp
     try go_wp2_with fail
     refine hK.out _ _ c0X (λhNext=>?_)
     clear hK K hOn
     have hOn:=hNext
     clear hNext
     try rw[Zo,Zs]
     try rw[Zo,Zs] at hOn
     try simp only[Act.put,sL,sZ,sS]
     refine rds [22] ?_
     refine AllReadyH.cons c2X (λK hK=>?_) AllReadyH.nil
     rw[if_pos (by rfl)]
     refine Xf (w:=W1.drewN _) 45 (.tmp 4) (.tmp 31) rfl _ #[.int .i64 ((x0.toNat:Int)*256+x1.toNat),.int .i64 (x2.toNat:Int),.int .i64 (x3.toNat:Int),.int .i64 ((x4.toNat:Int)*256+x5.toNat),.int .i64 ((x6.toNat:Int)*256+x7.toNat),.int .i64 (x8.toNat:Int)] rfl rfl kX rfl c5X ?_
     refine hK.out _ _ c0X (λhNext=>?_)
     clear hK K hOn
     have hOn:=hNext
     clear hNext
     try rw[Zo,Zs]
     try rw[Zo,Zs] at hOn
     try simp only[Act.put]
     refine dnE ?_
     go_wp2_with fail
     go_meet
     exact⟨_,rfl,rfl⟩
    refine AllReadyH.cons c2X (λK hK=>?_) AllReadyH.nil
    go_simp
    try go_wp2_with fail
    refine hK.out _ _ c0X (λhNext=>?_)
    clear hK K hOn
    have hOn:=hNext
    clear hNext
    try rw[Zo,Zs]
    try rw[Zo,Zs] at hOn
    try simp only[Act.put,sL,sZ,sS]
    refine rds [15] ?_
    refine AllReadyH.cons c2X (λK hK=>?_) AllReadyH.nil
    go_simp
    refine(cv.out _ hOn).mono ?_
    rintro e w4 ⟨rfl,nw4,rfl⟩
    go_wp2_with fail
    refine hK.out _ _ c0X (λhNext=>?_)
    clear hK K hOn
    have hOn:=hNext
    clear hNext
    try rw[Zo,Zs]
    try rw[Zo,Zs] at hOn
    try simp only[Act.put,sL,sZ,sS]
    refine tk 20 hOn ?_
    refine rds [22] ?_
    refine AllReadyH.cons c2X (λK hK=>?_) AllReadyH.nil
    rw[if_pos (by rfl)]
    refine Xf (w:=W1.drewN _) 45 (.tmp 4) (.tmp 31) rfl _ #[.int .i64 ((x0.toNat:Int)*256+x1.toNat),.int .i64 (x2.toNat:Int),.int .i64 (x3.toNat:Int),.int .i64 ((x4.toNat:Int)*256+x5.toNat),.int .i64 ((x6.toNat:Int)*256+x7.toNat),.int .i64 (x8.toNat:Int)] rfl rfl kX rfl c5X ?_
    refine hK.out _ _ c0X (λhNext=>?_)
    clear hK K hOn
    have hOn:=hNext
    clear hNext
    try rw[Zo,Zs]
    try rw[Zo,Zs] at hOn
    try simp only[Act.put]
    refine dnE ?_
    go_wp2_with fail
    go_meet
    exact⟨_,rfl,rfl⟩
   refine AllReadyH.cons c2X (λK hK=>?_) AllReadyH.nil
   go_simp
   try go_wp2_with fail
   refine hK.out _ _ c0X (λhNext=>?_)
   clear hK K hOn
   have hOn:=hNext
   clear hNext
   try rw[Zo,Zs]
   try rw[Zo,Zs] at hOn
   try simp only[Act.put,sL,sZ,sS]
   refine rds [12] ?_
   refine AllReadyH.cons c2X (λK hK=>?_) AllReadyH.nil
   go_simp
   refine(cu.out _ hOn).mono ?_
   rintro e w3 ⟨rfl,nw3,rfl⟩
   go_wp2_with fail
   refine hK.out _ _ c0X (λhNext=>?_)
   clear hK K hOn
   have hOn:=hNext
   clear hNext
   try rw[Zo,Zs]
   try rw[Zo,Zs] at hOn
   try simp only[Act.put,sL,sZ,sS]
   refine rds [15] ?_
   refine AllReadyH.cons c2X (λK hK=>?_) AllReadyH.nil
   go_simp
   refine(cv.out _ hOn).mono ?_
   rintro e w4 ⟨rfl,nw4,rfl⟩
   go_wp2_with fail
   refine hK.out _ _ c0X (λhNext=>?_)
   clear hK K hOn
   have hOn:=hNext
   clear hNext
   try rw[Zo,Zs]
   try rw[Zo,Zs] at hOn
   try simp only[Act.put,sL,sZ,sS]
   refine tk 20 hOn ?_
   refine rds [22] ?_
   refine AllReadyH.cons c2X (λK hK=>?_) AllReadyH.nil
   rw[if_pos (by rfl)]
   refine Xf (w:=W1.drewN _) 45 (.tmp 4) (.tmp 31) rfl _ #[.int .i64 ((x0.toNat:Int)*256+x1.toNat),.int .i64 (x2.toNat:Int),.int .i64 (x3.toNat:Int),.int .i64 ((x4.toNat:Int)*256+x5.toNat),.int .i64 ((x6.toNat:Int)*256+x7.toNat),.int .i64 (x8.toNat:Int)] rfl rfl kX rfl c5X ?_
   refine hK.out _ _ c0X (λhNext=>?_)
   clear hK K hOn
   have hOn:=hNext
   clear hNext
   try rw[Zo,Zs]
   try rw[Zo,Zs] at hOn
   try simp only[Act.put]
   refine dnE ?_
   go_wp2_with fail
   go_meet
   exact⟨_,rfl,rfl⟩
  refine AllReadyH.cons c2X (λK hK=>?_) AllReadyH.nil
  go_simp
  try go_wp2_with fail
  refine hK.out _ _ c0X (λhNext=>?_)
  clear hK K hOn
  have hOn:=hNext
  clear hNext
  try rw[Zo,Zs]
  try rw[Zo,Zs] at hOn
  try simp only[Act.put,sL,sZ,sS]
  refine rds [1] ?_
  refine AllReadyH.cons c2X (λK hK=>?_) AllReadyH.nil
  go_simp
  refine(ct.out _ hOn).mono ?_
  rintro e w2 ⟨rfl,nw2,rfl⟩
  go_wp2_with fail
  refine hK.out _ _ c0X (λhNext=>?_)
  clear hK K hOn
  have hOn:=hNext
  clear hNext
  try rw[Zo,Zs]
  try rw[Zo,Zs] at hOn
  try simp only[Act.put,sL,sZ,sS]
  refine rds [12] ?_
  refine AllReadyH.cons c2X (λK hK=>?_) AllReadyH.nil
  go_simp
  refine(cu.out _ hOn).mono ?_
  rintro e w3 ⟨rfl,nw3,rfl⟩
  go_wp2_with fail
  refine hK.out _ _ c0X (λhNext=>?_)
  clear hK K hOn
  have hOn:=hNext
  clear hNext
  try rw[Zo,Zs]
  try rw[Zo,Zs] at hOn
  try simp only[Act.put,sL,sZ,sS]
  refine rds [15] ?_
  refine AllReadyH.cons c2X (λK hK=>?_) AllReadyH.nil
  go_simp
  refine(cv.out _ hOn).mono ?_
  rintro e w4 ⟨rfl,nw4,rfl⟩
  go_wp2_with fail
  refine hK.out _ _ c0X (λhNext=>?_)
  clear hK K hOn
  have hOn:=hNext
  clear hNext
  try rw[Zo,Zs]
  try rw[Zo,Zs] at hOn
  try simp only[Act.put,sL,sZ,sS]
  refine tk 20 hOn ?_
  refine rds [22] ?_
  refine AllReadyH.cons c2X (λK hK=>?_) AllReadyH.nil
  rw[if_pos (by rfl)]
  refine Xf (w:=W1.drewN _) 45 (.tmp 4) (.tmp 31) rfl _ #[.int .i64 ((x0.toNat:Int)*256+x1.toNat),.int .i64 (x2.toNat:Int),.int .i64 (x3.toNat:Int),.int .i64 ((x4.toNat:Int)*256+x5.toNat),.int .i64 ((x6.toNat:Int)*256+x7.toNat),.int .i64 (x8.toNat:Int)] rfl rfl kX rfl c5X ?_
  refine hK.out _ _ c0X (λhNext=>?_)
  clear hK K hOn
  have hOn:=hNext
  clear hNext
  try rw[Zo,Zs]
  try rw[Zo,Zs] at hOn
  try simp only[Act.put]
  refine dnE ?_
  go_wp2_with fail
  go_meet
  exact⟨_,rfl,rfl⟩
 case rest=>
  obtain⟨m,rfl,hwc⟩:=hcut
  have hp:=heap_alloc_new (W1.drewN m) (.cells #[.int .i64 ((x0.toNat:Int)*256+x1.toNat),.int .i64 (x2.toNat:Int),.int .i64 (x3.toNat:Int),.int .i64 ((x4.toNat:Int)*256+x5.toNat),.int .i64 ((x6.toNat:Int)*256+x7.toNat),.int .i64 (x8.toNat:Int)] 45)
  rw[<-hwc] at hp
  have hg:w.heap.size<W1.heap.size:=by rw[<-hW];simp
  have hz0:W1.heap[w.heap.size]? = some (.cells #[.int .i64 0,.int .i64 0,.int .i64 0,.int .i64 0,.int .i64 0,.int .i64 0] 45):=by rw[<-hW];exact heap_alloc_new w _
  have hBW:Grown W1 wc:=by rw[hwc];exact Grown.alloc (Zf (Grown.refl _) _) _
  have hzz:=Hd ((hBW.block w.heap.size oX).trans hz0)
  have hbw:Below w.heap.size w W1:=by rw[<-hW];exact bR.alloc nR _
  replace hb0:=Hd (hbw.trans (hBW.mono hbw.size))
  have hp:=Hd (show wc.heap[W1.heap.size]? = _ from hp)
  clear e2 e3 e8 q2 q3 q8 ct cu cv hwc hz0 hBW hbw
  rcases hq.out with ⟨h,⟨z,hE⟩,hq⟩|⟨F,V,i,ea,h,H,hq⟩
  ·replace hq:=Hd hq
   replace hE:=Hd (hE.below hb0.out)
   have hcall:=Hd (ND ((x0.toNat:Int)*256+x1.toNat) (x2.toNat:Int) (x3.toNat:Int) ((x4.toNat:Int)*256+x5.toNat) ((x6.toNat:Int)*256+x7.toNat) (x8.toNat:Int) (Up h) z wc hE.out)
   clear h hE
   go_wp2_with (refine Zd rfl 45 (.tmp 4) rfl W1.heap.size #[.int .i64 ((x0.toNat:Int)*256+x1.toNat),.int .i64 (x2.toNat:Int),.int .i64 (x3.toNat:Int),.int .i64 ((x4.toNat:Int)*256+x5.toNat),.int .i64 ((x6.toNat:Int)*256+x7.toNat),.int .i64 (x8.toNat:Int)] _ rfl hp Tryz.underlying45 rfl kX ?_)
   with_reducible refine hcall.out.mono ?_
   rintro e w5 ⟨rfl,hb⟩
   replace hp:=Hd ((hb.block _ (Zb hp.out)).trans hp.out)
   replace hzz:=Hd ((hb.block _ (Zb hzz.out)).trans hzz.out)
   replace hb0:=Hd (hb0.out.trans (hb.mono hb0.out.size))
   clear hb hcall
   go_wp2_with (first|(refine Zd rfl 45 (.tmp 4) rfl W1.heap.size #[.int .i64 ((x0.toNat:Int)*256+x1.toNat),.int .i64 (x2.toNat:Int),.int .i64 (x3.toNat:Int),.int .i64 ((x4.toNat:Int)*256+x5.toNat),.int .i64 ((x6.toNat:Int)*256+x7.toNat),.int .i64 (x8.toNat:Int)] _ rfl hp Tryz.underlying45 rfl kX ?_)|(refine Zc rfl 45 (.tmp 2) (.tmp 38) rfl w.heap.size _ #[.int .i64 ((x0.toNat:Int)*256+x1.toNat),.int .i64 (x2.toNat:Int),.int .i64 (x3.toNat:Int),.int .i64 ((x4.toNat:Int)*256+x5.toNat),.int .i64 ((x6.toNat:Int)*256+x7.toNat),.int .i64 (x8.toNat:Int)] rfl rfl hzz kX rfl c5X ?_;intro wS hU))
   refine JQ rfl rfl rfl Tryz.underlying45 rfl kX hU.out.here ?_
   exact hq.out _ (hb0.out.trans (hU.out.below nR))
  ·replace hq:=Hd hq
   replace H:=Hd (H.below hb0.out)
   have hcall:=Hd (KF ((x0.toNat:Int)*256+x1.toNat) (x2.toNat:Int) (x3.toNat:Int) ((x4.toNat:Int)*256+x5.toNat) ((x6.toNat:Int)*256+x7.toNat) (x8.toNat:Int) F V i h (by have:=x2.toNat_lt;omega) ea wc H.out)
   clear h H
   go_wp2_with (refine Zd rfl 45 (.tmp 4) rfl W1.heap.size #[.int .i64 ((x0.toNat:Int)*256+x1.toNat),.int .i64 (x2.toNat:Int),.int .i64 (x3.toNat:Int),.int .i64 ((x4.toNat:Int)*256+x5.toNat),.int .i64 ((x6.toNat:Int)*256+x7.toNat),.int .i64 (x8.toNat:Int)] _ rfl hp Tryz.underlying45 rfl kX ?_)
   with_reducible refine hcall.out.mono ?_
   rintro e w5 ⟨g,rfl,hg1,hg2,hb⟩
   have hgw:w.heap.size<g:=Nat.lt_of_lt_of_le (Zb hzz.out) hg1
   replace hg2:=Hd hg2
   replace hzz:=Hd ((hb.block _ (Zb hzz.out)).trans hzz.out)
   replace hb0:=Hd (hb0.out.trans (hb.mono hb0.out.size))
   clear hb hcall hg1
   go_wp2_with (refine Zc rfl 45 (.tmp 2) (.tmp 36) rfl w.heap.size _ #[.int .i64 0,.int .i64 0,.int .i64 0,.int .i64 0,.int .i64 0,.int .i64 0] rfl rfl hzz kX rfl c5X ?_;intro wS hU)
   have hg3:=(hU.out.block g oX).trans hg2.out
   refine JQ rfl rfl rfl Tryz.underlying45 rfl kX hU.out.here ?_
   exact hq.out g _ ⟨oX,hg3⟩ (hb0.out.trans (hU.out.below nR))
theorem KJ(b off c:Nat)(x0 x1 x2 x3 x4 x5 x6 x7 x8:UInt8)(h9:9<=c)(w:World)(h:Qi ((x0.toNat:Int)*256+x1.toNat) (x2.toNat:Int) (x3.toNat:Int) ((x4.toNat:Int)*256+x5.toNat) ((x6.toNat:Int)*256+x7.toNat) (x8.toNat:Int)=none)(z:Nat->Addr)(hE:ParErrs w z)
  (h0:w.cell? ⟨b,off,none⟩=some (.int .u8 (x0.toNat:Int))) (h1:w.cell? ⟨b,off+1,none⟩=some (.int .u8 (x1.toNat:Int))) (h2:w.cell? ⟨b,off+2,none⟩=some (.int .u8 (x2.toNat:Int))) (h3:w.cell? ⟨b,off+3,none⟩=some (.int .u8 (x3.toNat:Int)))
  (h4:w.cell? ⟨b,off+4,none⟩=some (.int .u8 (x4.toNat:Int))) (h5:w.cell? ⟨b,off+5,none⟩=some (.int .u8 (x5.toNat:Int))) (h6:w.cell? ⟨b,off+6,none⟩=some (.int .u8 (x6.toNat:Int))) (h7:w.cell? ⟨b,off+7,none⟩=some (.int .u8 (x7.toNat:Int))) (h8:w.cell? ⟨b,off+8,none⟩=some (.int .u8 (x8.toNat:Int))) :
  Calls Tryz.prog 66 #[.slice (some ⟨b,off,none⟩) 9 c] w λe w'=>e=.returned (.tuple #[.agg #[.int .i64 ((x0.toNat:Int)*256+x1.toNat),.int .i64 (x2.toNat:Int),.int .i64 (x3.toNat:Int),.int .i64 ((x4.toNat:Int)*256+x5.toNat),.int .i64 ((x6.toNat:Int)*256+x7.toNat),.int .i64 (x8.toNat:Int)],.nilIface])/\Below w.heap.size w w':=
 GD b off c x0 x1 x2 x3 x4 x5 x6 x7 x8 h9 w _ (.inl ⟨h,⟨z,hE⟩,λw' hb=>⟨rfl,hb⟩⟩) h0 h1 h2 h3 h4 h5 h6 h7 h8
theorem Tn(b off c:Nat)(x0 x1 x2 x3 x4 x5 x6 x7 x8:UInt8)(h9:9<=c)(w:World)(F:ByteArray)(V:Int)(i:Nat)(h:Qi ((x0.toNat:Int)*256+x1.toNat) (x2.toNat:Int) (x3.toNat:Int) ((x4.toNat:Int)*256+x5.toNat) ((x6.toNat:Int)*256+x7.toNat) (x8.toNat:Int)=some (F,V,i))(ea:Nat->Addr)(H:Errs 298 errGs w ea)
  (h0:w.cell? ⟨b,off,none⟩=some (.int .u8 (x0.toNat:Int))) (h1:w.cell? ⟨b,off+1,none⟩=some (.int .u8 (x1.toNat:Int))) (h2:w.cell? ⟨b,off+2,none⟩=some (.int .u8 (x2.toNat:Int))) (h3:w.cell? ⟨b,off+3,none⟩=some (.int .u8 (x3.toNat:Int)))
  (h4:w.cell? ⟨b,off+4,none⟩=some (.int .u8 (x4.toNat:Int))) (h5:w.cell? ⟨b,off+5,none⟩=some (.int .u8 (x5.toNat:Int))) (h6:w.cell? ⟨b,off+6,none⟩=some (.int .u8 (x6.toNat:Int))) (h7:w.cell? ⟨b,off+7,none⟩=some (.int .u8 (x7.toNat:Int))) (h8:w.cell? ⟨b,off+8,none⟩=some (.int .u8 (x8.toNat:Int))) :
  Calls Tryz.prog 66 #[.slice (some ⟨b,off,none⟩) 9 c] w λe w'=>∃ g,e=.returned (.tuple #[.agg #[.int .i64 0,.int .i64 0,.int .i64 0,.int .i64 0,.int .i64 0,.int .i64 0],(.iface 227 (.pointer (some ⟨g,0,none⟩)))])/\MJ w.heap.size w' F V (ea i) g/\Below w.heap.size w w':=
 GD b off c x0 x1 x2 x3 x4 x5 x6 x7 x8 h9 w _ (.inr ⟨F,V,i,ea,h,H,λg w' h1 h2=>⟨g,rfl,h1,h2⟩⟩) h0 h1 h2 h3 h4 h5 h6 h7 h8
theorem C6{w:World}{B:Nat}{p0 p1 p2:List UInt8}{a0 a1 a2:Option Addr}{c0 c1 c2 l0 l1 l2:Nat}(hB:w.heap[B]? = some (.cells #[.slice a0 l0 c0,.slice a1 l1 c1,.slice a2 l2 c2] 24 (0,0)))
  (e0:p0.length=l0) (e1:p1.length=l1) (e2:p2.length=l2) (h0:ArgB w a0 c0 p0) (h1:ArgB w a1 c1 p1) (h2:ArgB w a2 c2 p2):RowsAt w B [p0,p1,p2]:=by
 intro k hk
 match k,hk with
 | 0,_=>exact⟨a0,c0,by rw[Za hB];show some (Value.slice a0 l0 c0)=_;rw[<-e0];rfl,h0⟩
 | 1,_=>exact⟨a1,c1,by rw[Za hB];show some (Value.slice a1 l1 c1)=_;rw[<-e1];rfl,h1⟩
 | 2,_=>exact⟨a2,c2,by rw[Za hB];show some (Value.slice a2 l2 c2)=_;rw[<-e2];rfl,h2⟩
theorem Bd(b:Nat)(l r:List UInt8)(w:World)(hA:RowsAt w b [[1],l,r])(e1:l.length=32)(e2:r.length=32) :
  Calls Tryz.prog 140 #[.slice (some ⟨b,0,none⟩) 3 3] w λe w'=>∃ v,e=.returned v/\OwnB w.heap.size w' v (1::(l++r))/\Below w.heap.size w w':=by
 have h:=VM b [[1],l,r] w hA sX sX (by simp[e1,e2])
 rwa [show ([[1],l,r]:List (List UInt8)).flatten=1::(l++r) by simp] at h
theorem PZ(l r:List UInt8)(hl:l.length=32)(hr:r.length=32)(w:World) :
  Calls Tryz.prog 118 #[.agg (cB l).toArray,.agg (cB r).toArray] w λe w'=>∃ v,e=.returned v/\OwnB w.heap.size w' v (1::(l++r))/\Below w.heap.size w w':=by
 obtain⟨L,hL⟩:∃ L,L=(cB l).toArray:=⟨_,rfl⟩
 obtain⟨R,hR⟩:∃ R,R=(cB r).toArray:=⟨_,rfl⟩
 rw[<-hL,<-hR]
 obtain⟨A,hA⟩:∃ A,A=(w.alloc (.cells L 47)).alloc (.cells R 47):=⟨_,rfl⟩
 have hw0:Below w.heap.size w A:=by rw[hA];exact((Below.refl _ w).alloc nR _).alloc sX _
 have hx:A.heap[w.heap.size]? = some (.cells (cB l).toArray 47 (0,0)):=by rw[hA,<-hL];exact(Below.heap_alloc _ _ _ sX).trans (heap_alloc_new w _)
 have hy:A.heap[w.heap.size+1]? = some (.cells (cB r).toArray 47 (0,0)):=by
  have:=heap_alloc_new (w.alloc (.cells L 47)) (.cells R 47 (0,0))
  rw[World.size_alloc] at this
  rw[hA,<-hR];exact this
 have hd1:=hw0.drew
 have h6:ArgB A.drew (some ⟨w.heap.size,0,none⟩) 32 l:=QH hx oX dX
 have h7:ArgB A.drew (some ⟨w.heap.size+1,0,none⟩) 32 r:=QH hy oX dX
 obtain⟨p,hp⟩:∃ p,p=w.heap.size+1:=⟨_,rfl⟩
 rw[<-hp] at h7
 have hcc:=Hd (λb W h=>Bd b l r W h hl hr)
 clear hx hy hw0
 replace hd1:=Hd hd1
 replace h6:=Hd h6
 replace h7:=Hd h7
 replace hA:=Hd hA
 replace hp:=Hd hp
 replace hl:=Hd hl
 replace hr:=Hd hr
 replace hL:=Hd hL
 replace hR:=Hd hR
 go_enter Tryz.func118,Tryz.ntmps118
 go_wp2_with fail
 rw[<-hA.out,<-hp.out]
 refine wp_region_held_drew (S:=(Below w.heap.size w)) kX hd1.out (λhOn=>?_)
 generalize World.drew A=wd at*
 refine tk 1 hOn ?_
 refine tk 2 hOn ?_
 refine rd 0 (λKz hKz=>?_)
 go_simp
 focus (try go_wp2_with fail)
 (with_reducible refine Zq (t:=5) ?_)
 intro w5 hx5 hnew
 have h5:=Hd (QH (c:=1) (l:=[1]) hx5.out dX dX)
 replace h6:=Hd (h6.out.below hnew)
 replace h7:=Hd (h7.out.below hnew)
 refine hKz.out _ _ (Below.trans hOn (Below.mono hnew (Below.size hOn))) ?_
 clear hKz Kz hOn
 intro hOn
 try clear hnew
 try simp only[Act.put,sL,sZ,sS]
 refine rd 3 (λKz hKz=>?_)
 go_simp
 focus (try go_wp2_with fail)
 (with_reducible refine Zq (t:=24) ?_)
 intro w8 hx8 hnew
 have hrows:=Hd (C6 hx8.out rfl hl.out hr.out (h5.out.below hnew) (h6.out.below hnew) (h7.out.below hnew))
 refine hKz.out _ _ (Below.trans hOn (Below.mono hnew (Below.size hOn))) ?_
 clear hKz Kz hOn
 intro hOn
 try clear hnew
 try simp only[Act.put,sL,sZ,sS]
 refine rd 4 (λKz hKz=>?_)
 go_simp
 (with_reducible refine(hcc.out _ _ hrows.out).mono ?_)
 rintro e w9 ⟨v9,rfl,ho9,hnew⟩
 have hfo:=Hd (ho9.mono hOn.size)
 focus (go_wp2_with fail)
 refine hKz.out _ _ (Below.trans hOn (Below.mono hnew (Below.size hOn))) ?_
 clear hKz Kz hOn
 intro hOn
 try clear hnew
 try simp only[Act.put,sL,sZ,sS]
 refine tk 5 hOn ?_
 refine dnE ?_
 all_goals
  go_wp2_with fail
  go_ret
  exact⟨_,rfl,hfo.out,hOn⟩
def J8(l r:List UInt8):List UInt8:=sha (1::(l++r))
theorem My(l r:List UInt8):(J8 l r).length=32:=Qp _
theorem Do(l r:List UInt8)(hl:l.length=32)(hr:r.length=32)(w:World)(hK:ShaK w)(hF:ShaF w) :
  Calls Tryz.prog 79 #[.agg (cB l).toArray,.agg (cB r).toArray] w λe w'=>e=.returned (.agg (cB (J8 l r)).toArray)/\Below w.heap.size w w':=by
 have zr:=QF
 have zn:=Qg
 obtain⟨L,hL⟩:∃ L,L=(cB l).toArray:=⟨_,rfl⟩
 obtain⟨R,hR⟩:∃ R,R=(cB r).toArray:=⟨_,rfl⟩
 have iL:(Tryz.prog.info? 47).map (·.size)=some L.size:=by rw[hL];exact Qb hl
 have iR:(Tryz.prog.info? 47).map (·.size)=some R.size:=by rw[hR];exact Qb hr
 have hin:=λW=>PZ l r hl hr W
 rw[<-hL,<-hR] at hin
 rw[<-hL,<-hR]
 obtain⟨A,hA1⟩:∃ A,A=((w.alloc (.cells L 47)).alloc (.cells R 47)).alloc (.cells zero32 47):=⟨_,rfl⟩
 have hbA:Below w.heap.size w A:=by rw[hA1];exact(((Below.refl _ w).alloc nR _).alloc (by simp only[World.size_alloc];omega) _).alloc (by simp only[World.size_alloc];omega) _
 have hsA:A.heap.size=w.heap.size+3:=by rw[hA1];simp
 have hatL:A.heap[w.heap.size]? = some (.cells L 47 (0,0)):=by rw[hA1];exact(Below.heap_alloc _ _ _ (by simp only[World.size_alloc];omega)).trans ((Below.heap_alloc _ _ _ (by simp only[World.size_alloc];omega)).trans (heap_alloc_new w _))
 have hatR:A.heap[w.heap.size+1]? = some (.cells R 47 (0,0)):=by
  have:=heap_alloc_new (w.alloc (.cells L 47)) (.cells R 47 (0,0))
  rw[World.size_alloc] at this
  rw[hA1];exact(Below.heap_alloc _ _ _ (by simp only[World.size_alloc];omega)).trans this
 have hatA:A.heap[w.heap.size+2]? = some (.cells zero32 47 (0,0)):=by
  have:=heap_alloc_new ((w.alloc (.cells L 47)).alloc (.cells R 47)) (.cells zero32 47 (0,0))
  rw[World.size_alloc,World.size_alloc] at this
  rw[hA1];exact this
 have hlD:(J8 l r).length=32:=Qp _
 obtain⟨D,hD⟩:∃ D,D=(cB (J8 l r)).toArray:=⟨_,rfl⟩
 have hDs:zero32.size=D.size:=by rw[QG,hD,List.size_toArray,Ze,hlD]
 have hDi:(Tryz.prog.info? 47).map (·.size)=some D.size:=by rw[hD,List.size_toArray,Ze,hlD];kernel_rfl
 have hDo:D.all (·.oneCell')=true:=by rw[hD];exact Ue (ZI _)
 have hsh:=Hd (λ(W:World) (v:Value) (h:OwnB A.heap.size W v (1::(l++r))) (hb:Below A.heap.size A W)=>show ∃ a1 c1,v=.slice a1 65 c1/\∀ W2,W2=W.alloc (.cells #[v] 24)->Calls Tryz.prog 117 #[.slice (some ⟨W.heap.size,0,none⟩) 1 1] W2 λe w'=>e=.returned (.agg D)/\Below W2.heap.size W2 w' from by
  obtain⟨a1,c1,rfl,h1,_⟩:=h.arg
  refine⟨a1,c1,by simp[hl,hr],λW2 hW2=>?_⟩
  have hG:Below W.heap.size W W2:=by rw[hW2];exact bR.alloc nR _
  have hB2:Below w.heap.size w W2:=(hbA.trans (hb.mono oX)).trans (hG.mono (by have:=hb.size;omega))
  have:=Kj (some ⟨W.heap.size,0,none⟩) 1 [1::(l++r)] W2 (UM (h1.below hG) (by rw[hW2];exact heap_alloc_new W _)) (by simp[hl,hr]) sX (hK.below hB2) (hF.below hB2)
  rwa [show ([1::(l++r)]:List (List UInt8)).flatten=1::(l++r) from by simp,show sha (1::(l++r))=J8 l r from rfl,<-hD] at this)
 replace hin:=Hd (hin A)
 obtain⟨p,hp⟩:∃ p,p=w.heap.size+1:=⟨_,rfl⟩
 obtain⟨q,hq⟩:∃ q,q=p+1:=⟨_,rfl⟩
 rw[<-hp] at hatR
 rw[show w.heap.size+2=q by omega] at hatA
 have hqA:q<A.heap.size:=Zb hatA
 have hqw:w.heap.size<=q:=oX
 have huD:=Tryz.underlying47
 replace hp:=Hd hp
 replace hq:=Hd hq
 replace hA1:=Hd hA1
 replace hbA:=Hd hbA
 replace hatL:=Hd hatL
 replace hatR:=Hd hatR
 replace hatA:=Hd hatA
 replace hsA:=Hd hsA
 replace hD:=Hd hD
 replace hqA:=Hd hqA
 replace hqw:=Hd hqw
 clear hlD hK hF hL hR hl hr
 go_enter Tryz.func79,Tryz.ntmps79
 go_upto_region 1 with fail
 rw[<-hA1.out,<-hp.out,<-hq.out]
 go_wp2_with (first
  | ((with_reducible refine wL (.load 47 (.tmp 2)) ?_);refine Zd rfl 47 (.tmp 2) rfl w.heap.size L _ rfl hatL huD rfl iL ?_;simp only[Act.put,sL,sZ,sS])
  | ((with_reducible refine wL (.load 47 (.tmp 3)) ?_);refine Zd rfl 47 (.tmp 3) rfl p R _ rfl hatR huD rfl iR ?_;simp only[Act.put,sL,sZ,sS]))
 with_reducible refine hin.out.mono ?_
 rintro e w2 ⟨v2,rfl,ho2,hb2⟩
 obtain⟨a1,c1,hv2,hcall⟩:=hsh.out w2 v2 ho2 hb2
 subst hv2
 have hat2:=Hd ((hb2.block q hqA.out).trans hatA.out)
 have hB2:=Hd (hbA.out.trans (hb2.mono (by have:=hsA.out;omega)))
 have hs2:=Hd hb2.size
 replace hcall:=Hd hcall
 clear ho2 hb2 hin hsh
 go_wp2_with fail
 with_reducible refine(hcall.out _ rfl).mono ?_
 rintro e w3 ⟨rfl,hb3⟩
 have hlt2:=Zb hat2.out
 have hG3:Below w2.heap.size w2 (w2.alloc (.cells #[.slice a1 65 c1] 24)):=bR.alloc nR _
 have hat3:=Hd ((hb3.block _ (by have:=hG3.size;omega)).trans ((hG3.block _ hlt2).trans hat2.out))
 have hB3:=Hd ((hB2.out.trans (hG3.mono hB2.out.size)).trans (hb3.mono (by have:=hG3.size;have:=hB2.out.size;omega)))
 clear hb3 hG3 hcall
 go_wp2_with (refine Zc rfl 47 (.tmp 4) (.tmp 9) rfl q zero32 D rfl rfl hat3 hDi hDs hDo ?_;intro w4 hU4)
 refine ZE rfl rfl Tryz.underlying47 rfl hDi hU4.out.here ?_
 exact⟨by rw[hD.out],hB3.out.trans (hU4.out.below hqw.out)⟩
set_option linter.unusedSimpArgs false
def QR:Nat->Nat->List (List UInt8)->List UInt8->List (List UInt8)×List UInt8
 | 0,_,qs,d=>(qs,d)
 | k+1,n,qs,d=>if n % 2=1 then QR k (n / 2) qs.dropLast (J8 (qs.getD (qs.length-1) []) d) else (qs,d)
theorem Tw:∀ (k j n:Nat) (qs:List (List UInt8)) (d:List UInt8),n<=k->n<=j->QR k n qs d=QR j n qs d:=by
 intro k
 induction k with
 | zero=>
  intro j n qs d h1 h2
  obtain rfl:n=0:=oX
  cases j<;>simp[QR]
 | succ k ih=>
  intro j n qs d h1 h2
  cases j with
  | zero=>
   obtain rfl:n=0:=oX
   simp[QR]
  | succ j=>
   unfold QR
   by_cases h:n % 2=1
   ·rw[if_pos h,if_pos h];exact ih j _ _ _ oX oX
   ·rw[if_neg h,if_neg h]
theorem G9{n:Nat}(h:n % 2=1)(qs:List (List UInt8))(d:List UInt8):QR n n qs d=QR (n / 2) (n / 2) qs.dropLast (J8 (qs.getD (qs.length-1) []) d):=by
 obtain⟨k,rfl⟩:∃ k,n=k+1:=⟨n-1,oX⟩
 rw[QR,if_pos h]
 exact Tw _ _ _ _ _ oX nR
theorem Jq{n:Nat}(h:n % 2=0)(qs:List (List UInt8))(d:List UInt8):QR n n qs d=(qs,d):=by
 cases n with
 | zero=>rfl
 | succ k=>rw[QR,if_neg oX]
def Qc(n:Nat)(ps:List (List UInt8))(bs:List UInt8):List (List UInt8):=(QR n n ps (Qv bs)).1++[(QR n n ps (Qv bs)).2]
def ZX:Nat->Nat->Nat
 | 0,_=>0
 | k+1,n=>n % 2+ZX k (n / 2)
theorem GF:∀ (j n:Nat),n<2 ^ j->ZX (j+1) n=ZX j n:=by
 intro j
 induction j with
 | zero=>
  intro n h;obtain rfl:n=0:=by simpa using h
  rfl
 | succ j ih=>intro n h;rw[ZX,ih _ (by rw[Nat.pow_succ] at h;omega)];rfl
theorem Tx:∀ (j n:Nat) (qs:List (List UInt8)) (d:List UInt8),n<2 ^ j->qs.length=ZX j n->(QR n n qs d).1.length+1=ZX (j+1) (n+1):=by
 intro j
 induction j with
 | zero=>
  intro n qs d h1 h2
  obtain rfl:n=0:=by simpa using h1
  rw[Jq rfl]
  simp only[h2]
  rfl
 | succ j ih=>
  intro n qs d h1 h2
  rcases Nat.mod_two_eq_zero_or_one n with h|h
  ·rw[Jq h]
   have e1:ZX (j+1+1) (n+1)=(n+1) % 2+ZX (j+1) ((n+1) / 2):=rfl
   have e2:ZX (j+1) n=n % 2+ZX j (n / 2):=rfl
   have e3:=GF j (n / 2) (by rw[Nat.pow_succ] at h1;omega)
   rw[h2,e1,e2,show (n+1) / 2=n / 2 by omega,e3]
   omega
  ·have e1:ZX (j+1+1) (n+1)=(n+1) % 2+ZX (j+1) ((n+1) / 2):=rfl
   have e2:ZX (j+1) n=n % 2+ZX j (n / 2):=rfl
   rw[G9 h,e1,show (n+1) % 2=0 by omega,show (n+1) / 2=n / 2+1 by omega,Nat.zero_add]
   refine ih _ _ _ (by rw[Nat.pow_succ] at h1;omega) ?_
   rw[List.length_dropLast,h2,e2]
   omega
section
variable {P:Program} {w:World} {o:Oper} {a:Act} {Q:Exit->Act->World->Prop} {K:Act->World->Prop}
theorem K5(s x:Operand)(t:TypeId)(ho:o.op=.call { callee:=.builtin .append,args:=#[s,x],argTypes:=#[t,t] }){e:TypeId}{size:Nat}
  (ht:P.underlying t=some (.slice e)) (bytes:Nat) (hi:(P.info? e).map (λi=>(i.zero.map (·.cells.size),i.size,i.bytes))=some (some size,size,bytes)) (hsz:0<size) (hb8:bytes<=10000)
  (b:Addr) (n:Nat) (olds:List Value) (hs:a.eval s=.slice (some b) n n) (hlo:Hid (olds.length=n*size)) (holds:Hid (∀ j u,olds[j]? = some u->w.cell? (b.add j)=some u)) (hn:n<=1000000)
  (ad:Addr) (news:List Value) (hx:a.eval x=.slice (some ad) 1 1) (hl:Hid (news.length=size)) (hnews:Hid (∀ j u,news[j]? = some u->w.cell? (ad.add j)=some u))
  (hK:∀ v' w',Hid (w'.ownsRow w.heap.size e size v' (n+1) (olds++news))->Hid (w.grownBy w' none)->K (a.put o.dst v') w'):o.wp P a w K Q:=by
 obtain⟨ie,hie,h2⟩:=Option.map_eq_some_iff.1 hi
 simp only[Prod.mk.injEq] at h2
 obtain⟨hz,hs1,hby⟩:=h2
 obtain⟨z,hz1,hz2⟩:=Option.map_eq_some_iff.1 hz
 obtain⟨v',w',hr,k1,k2⟩:=run_append_arg_grows (P:=P) w t o.type e ie z size bytes ht hie hz1 hs1 hby hz2 hsz b n n olds hlo.out holds.out ad 1 1 news (by rw[Nat.one_mul];exact hl.out) hnews.out oX c6X
  (Nat.le_trans (Nat.mul_le_mul (show n+1<=1000001 by omega) hb8) dX)
 unfold Oper.wp execOp
 simp only[ho,resolve,invoke,builtin,Sem.run_bind,Sem.run_pure,Result.andThen_ok,List.map_toArray,List.map_cons,List.map_nil,hs,hx,hr]
 exact hK v' w' (Hd k1) (Hd k2)
end
theorem RowAt.only{α:Type}{enc:α->List Value}{size:Nat}{w w':World}{D:Nat->Prop}{g:Nat}{xs:List α}(h:RowAt enc size w (some ⟨g,0,none⟩) xs)(hO:Only D w w')(hg:¬D g):RowAt enc size w' (some ⟨g,0,none⟩) xs:=λi hi=>by
 obtain⟨b,o,e,hr⟩:=h i hi
 cases e
 refine⟨g,0,rfl,λj v hv=>?_⟩
 have hc:=hr j v hv
 have hlt:=World.block_lt_of_cell? w _ hc
 have:=hO.block g hlt hg
 unfold World.cell? at hc ⊢
 rw[this]
 exact hc
theorem RowAt.dropLast{α:Type}{enc:α->List Value}{size:Nat}{w:World}{g:Nat}{xs:List α}(h:RowAt enc size w (some ⟨g,0,none⟩) xs):RowAt enc size w (some ⟨g,0,none⟩) xs.dropLast:=λi hi=>by
 obtain⟨b,o,e,hr⟩:=h i (by rw[List.length_dropLast] at hi;omega)
 exact⟨b,o,e,by rw[List.getElem_dropLast];exact hr⟩
end Go.Proofs.YtpdhceiodgnbmaaGreatDoor
