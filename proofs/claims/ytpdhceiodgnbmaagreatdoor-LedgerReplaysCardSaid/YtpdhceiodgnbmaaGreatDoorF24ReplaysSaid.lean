import Derived.Test.YtpdhceiodgnbmaaGreatDoorF0ReplaysSaid
import Derived.Test.YtpdhceiodgnbmaaGreatDoorF1ReplaysSaid
import Derived.Test.YtpdhceiodgnbmaaGreatDoorF23ReplaysSaid
import Derived.Test.YtpdhceiodgnbmaaGreatDoorF22ReplaysSaid
import Derived.Lib.SlBytesConst
import Derived.Test.YtpdhceiodgnbmaaGreatDoorF18ReplaysSaid
import Derived.Test.YtpdhceiodgnbmaaGreatDoorF2ReplaysSaid
import Derived.Laws.AppendOwnNone
import Derived.Laws.OwnMore
import Derived.Test.YtpdhceiodgnbmaaGreatDoorF17ReplaysSaid
set_option linter.unusedVariables false
set_option linter.unusedSimpArgs false
set_option linter.unnecessarySimpa false
set_option maxRecDepth 100000
set_option maxHeartbeats 8000000
namespace Go.Proofs.YtpdhceiodgnbmaaGreatDoor
open Go.RowKit
theorem KL:∀ (f:Nat) (p:DP) (k:Nat) (b:List UInt8),p.gone=false->((QE f p k b).2=true->(QE f p k b).1.gone=false)/\(QE f p k b).1.n=p.n/\(QE f p k b).1.ws.length<=p.ws.length+f/\p.l-f<=(QE f p k b).1.l/\(QE f p k b).1.l<=p.l/\(QE f p k b).1.armed=p.armed/\(QE f p k b).1.f=p.f:=by
 intro f
 induction f with
 | zero=>intro p k b hg;exact⟨λ_=>hg,rfl,Nat.le_refl _,by show p.l-0<=p.l;omega,Int.le_refl _,rfl,rfl⟩
 | succ f ih=>
  intro p k b hg
  rw[QE]
  split
  ·exact⟨λ_=>hg,rfl,by simp only;omega,by simp only;omega,by simp only;omega,rfl,rfl⟩
  ·generalize XL _ b k=s
   generalize ((k / 64:Nat):Int)=i
   have hw:(p.write i s).2=0/\p.write i s=({ p with l:=p.l-1,ws:=p.ws++[(i,s)] },0)\/(p.write i s).2≠0/\((p.write i s).1=p\/(p.write i s).1={ p with gone:=true }):=by
    unfold DP.write
    split
    ·exact .inr ⟨sX,.inl rfl⟩
    ·split
     ·exact .inr ⟨sX,.inl rfl⟩
     ·split
      ·exact .inr ⟨sX,.inr rfl⟩
      ·exact .inl ⟨rfl,rfl⟩
   rcases hw with ⟨h0,hw⟩|⟨h0,hw⟩
   ·rw[if_pos h0]
    obtain⟨a1,a2,a3,a4,a5,a6,a7⟩:=ih (p.write i s).1 (k+Qe b k) (b.drop (Qe b k)) (by rw[hw];exact hg)
    generalize QE f (p.write i s).1 (k+Qe b k) (b.drop (Qe b k))=z at*
    rw[hw] at a2 a3 a4 a5 a6 a7
    simp only[List.length_append,List.length_singleton] at a2 a3 a4 a5 a6 a7
    exact⟨a1,a2,oX,oX,oX,a6,a7⟩
   ·rw[if_neg h0]
    rcases hw with hw|hw<;>rw[hw]
    ·exact⟨λh=>absurd h sX,rfl,oX,oX,oX,rfl,rfl⟩
    ·exact⟨λh=>absurd h sX,rfl,by simp only;omega,by simp only;omega,by simp only;omega,rfl,rfl⟩
def WW(base:Nat)(w:World)(J B mb mn:Nat)(v rv:Value)(F:Nat->Prop)(q:DP×Bool)(recs:List (List UInt8))(r:List UInt8)(sure:Nat)(x:Ending)(w':World):Prop:=
 (if q.2=true/\q.1.sync.2=0 then x=.returned .nilIface else ∃ a,x=.returned (.iface 232 (.pointer (some a))))/\∃ mn' v' rv' F',mn'<=mn+q.1.ws.length/\JStep base w w' J B mb v rv F mn' v' rv' F' (if q.2=true then q.1.sync.1 else q.1) (if q.2=true then recs++[r] else recs) (if q.2=true/\q.1.sync.2=0 then recs.length+1 else sure) (!(q.2&&q.1.sync.2==0))
theorem Wn{base:Nat}{w:World}{J B mb mn:Nat}{v rv:Value}{F:Nat->Prop}{p:DP}{recs:List (List UInt8)}{sure:Nat}(h:JD base w J B mb mn v rv F p recs sure false)(hb:base<=w.heap.size)(n:Nat)(hpn:p.n=(n:Int))(hn:n<=1000)(hE64:Zp recs<=64*n)(hws:p.ws.length<=20000)(hmn:mn<=50000)(hpl : -200000<=p.l/\p.l<=200000)(hg:p.gone=false)(e:Nat->Addr)(hBE:13≠B)(hEb:∀ W,Below base w W->DErr W e)
  (hK:ShaK w) (hF:ShaF w) (r:List UInt8) (hgood:Hw n recs r) (a:Option Addr) (c:Nat) (hA:ArgB w a c r) (hAD:∀ b o s,a=some ⟨b,o,s⟩->¬JF J F rv b/\¬ZE B mb v b/\b<w.heap.size) :
  Calls Tryz.prog 121 #[.pointer (some ⟨J,0,none⟩),.slice a r.length c] w (WW base w J B mb mn v rv F (lay p (Zp recs) (Zz (Zl z32J recs) r)) recs r sure):=by
 have hap:=MO h hb n hpn hn hE64 hws hpl hg e hBE hEb hK hF r hgood a c hA hAD
 have hkp:=KL (Zz (Zl z32J recs) r).length p (Zp recs) (Zz (Zl z32J recs) r) hg
 rw[show QE (Zz (Zl z32J recs) r).length p (Zp recs) (Zz (Zl z32J recs) r)=lay p (Zp recs) (Zz (Zl z32J recs) r) from rfl,YK] at hkp
 generalize lay p (Zp recs) (Zz (Zl z32J recs) r)=q at*
 obtain⟨q,ok⟩:=q
 obtain⟨k1,k2,k3,k4,k5,k6,k7⟩:=hkp
 simp only at k1 k2 k3 k4 k5 k6 k7
 have hr4:=hgood.2.1
 have hrl:recs.length<=64000:=by have:=KW recs;omega
 replace hap:=Hd hap
 replace h:=Hd h
 replace hpn:=Hd hpn
 replace hEb:=Hd hEb
 replace k1:=Hd k1
 replace k2:=Hd k2
 go_enter Tryz.func121,Tryz.ntmps121
 go_wp2_with fail
 with_reducible refine hap.out.mono ?_
 rintro x w1 ⟨hx,v1,rv1,F1,hst⟩
 clear hap
 cases ok with
 | false=>
  obtain⟨ad,rfl⟩:=hx
  replace hst:=Hd hst
  go_wp2_with fail
  go_ret
  exact⟨⟨_,rfl⟩,_,_,_,_,Nat.le_add_right _ _,hst.out⟩
 | true=>
  cases (show x=_ from hx)
  have hO:Below base w w1:=hst.only.below hb (λk hk=>hk.elim (λh1=>(h.out.jm.lt k h1).1) (λh1=>(h.out.dm.lt k h1).1))
  have hst':JStep base w w1 J B mb v rv F mn v1 rv1 F1 q (recs++[r]) sure false:=hst
  have hsy:=RS hst'.ok (Nat.le_trans hb hst'.only.size) n (by rw[k2.out];exact hpn.out) hn oX oX sY oX (k1.out rfl) e hBE (hEb.out w1 hO)
  replace hst':=Hd hst'
  replace hsy:=Hd hsy
  clear hst hO
  go_wp2_with fail
  with_reducible refine hsy.out.mono ?_
  rintro x w2 ⟨hx,v2,mn2,hm2,hst2⟩
  have hst3:=hst'.out.trans hst2
  clear hsy
  rw[List.length_append,List.length_singleton] at hst3
  by_cases hs:q.sync.2=0
  ·rw[if_pos hs] at hx hst3
   subst hx
   replace hst3:=Hd hst3
   replace hs:=Hd hs
   clear hst2
   go_wp2_with fail
   go_ret
   refine⟨by rw[if_pos ⟨rfl,hs.out⟩];rfl,mn2,v2,rv1,F1,hm2,?_⟩
   have e3:=hst3.out
   rw[if_pos rfl,if_pos rfl,if_pos ⟨rfl,hs.out⟩,hs.out]
   rw[hs.out] at e3
   exact e3
  ·rw[if_neg hs] at hx hst3
   obtain⟨ad,rfl⟩:=hx
   have hne:(q.sync.2 != 0) = !(true&&q.sync.2==0):=by simp[bne]
   rw[hne] at hst3
   replace hst3:=Hd hst3
   replace hs:=Hd hs
   clear hst2 hne
   go_wp2_with fail
   go_ret
   refine⟨by rw[if_neg (λhh=>hs.out hh.2)];exact⟨_,rfl⟩,mn2,v2,rv1,F1,hm2,?_⟩
   rw[if_pos rfl,if_pos rfl,if_neg (λhh=>hs.out hh.2)]
   exact hst3.out
end Go.Proofs.YtpdhceiodgnbmaaGreatDoor
namespace Go.Proofs.YtpdhceiodgnbmaaGreatDoor
open Go.RowKit
def Wv(w:World)(recs:List (List UInt8))(x:Ending)(w':World):Prop:=∃ v F,x=.returned v/\RowsOf RB 24 1 w.heap.size w' F v recs/\(∀ k,F k->w.heap.size<=k)/\Below w.heap.size w w'
theorem US{base:Nat}{w:World}{J B:Nat}{rv:Value}{F0:Nat->Prop}{recs:List (List UInt8)}{sure:Nat}{dead:Bool}(h:JM base w J B rv F0 recs sure dead)(hn:recs.length<=100000) :
  Calls Tryz.prog 57 #[.pointer (some ⟨J,0,none⟩)] w (Wv w recs):=by
 have k1:=h.cell1
 obtain⟨ra,rc,rfl,ha⟩:=h.rows.argBB
 have hok:=h.okR
 obtain⟨L,hL⟩:∃ L,L=recs.length:=⟨_,rfl⟩
 rw[<-hL] at k1 hn
 replace hL:=Hd hL
 replace ha:=Hd ha
 replace hok:=Hd hok
 have hinfo:=Hd VV
 clear h
 go_enter Tryz.func57,Tryz.ntmps57
 go_wp2_with fail
 refine Qf [(false,3),(true,1),(false,1),(true,1),(false,5),(true,10),(false,1)] _ [] (λU wr=>∃ (k:Nat) (F:Nat->Prop),k<=L/\U 11=.int .i64 k/\RowsOf RB 24 1 w.heap.size wr F (U 3) (recs.take k)/\(∀ x,F x->w.heap.size<=x)/\Below w.heap.size w wr)
  (λU _=>L-(intOf (U 11)).toNat) ?_ ?_
 ·simp only[List.getD_cons_zero,List.getD_cons_succ]
  exact⟨0,λ_=>False,Nat.zero_le _,rfl,RowsOf.nil _ _,λ_ h=>False.elim h,Below.refl _ _⟩
 ·intro U wr hrel KK hback l' hl'
  obtain⟨k,F,hk,h11,hr,hFb,hbel⟩:=hrel
  simp only[Qq,Qk,cond_true,cond_false,Nat.reduceAdd,h11] at hl'
  generalize hv3:U 3=vo at*
  subst hl'
  replace h11:=Hd h11
  have hsz:=hbel.size
  by_cases hlt:k<L
  ·have hlt2:(k:Int)<L:=oX
   have hkl:k<recs.length:=by rw[<-hL.out];exact hlt
   have hab:=ha.out.below hbel
   obtain⟨b,o,rfl,ai,ci,hc,hai⟩:=hab.row k hkl
   have hgd:recs.getD k []=recs[k]:=by simp[List.getD_eq_getElem?_getD,hkl]
   rw[hgd] at hc hai
   have hokr:=hok.out recs[k] (List.getElem_mem hkl)
   have htk:recs.take (k+1)=recs.take k++[recs[k]]:=List.take_succ_eq_append_getElem hkl
   have hlen:(recs.take k).length<=1000000:=by rw[List.length_take];omega
   generalize recs[k]=r at*
   obtain⟨hok1,hok4⟩:=hokr
   have hcl:=Hd (X4 ai ci r wr hai oX)
   replace hr:=Hd hr
   replace hbel:=Hd hbel
   replace htk:=Hd htk
   replace hFb:=Hd hFb
   clear hab hgd hai
   go_wp2_with fail
   with_reducible refine hcl.out.mono ?_
   rintro e w4 ⟨v4,rfl,ho4,hb4⟩
   clear hcl
   obtain⟨g,cg,rfl,hg⟩:=OwnB.form ho4 hok1
   have hs4:=hb4.size
   have hr4:=Hd (hr.out.below liesRB hb4)
   have hbs4:w.heap.size<=w4.heap.size:=oX
   have hyB:=Hd (show RB w4 (λk=>F k\/k=g) r (#[Value.slice (some ⟨g,0,none⟩) r.length cg]:Array Value).toList from liesRB.more (Nx ho4) (λk h=>by cases h;exact .inr rfl))
   have hFB:=Hd (show ∀ k,F k->F k\/k=g from λk h=>.inl h)
   have haB:=Hd (show ∀ k,vo.ownBlock=some k->¬(F k\/k=g) from λk hk h=>h.elim (hr.out.apart k hk) (λh=>by have:=(hr.out.ownLt k hk).2;omega))
   have hlB:=Hd (show ∀ k,F k\/k=g->k<w4.heap.size from λk h=>h.elim (λh=>hr4.out.lt k h) (λh=>h▸(World.ownsRow.lt ho4 g rfl).2))
   have hb44:=Hd (hbel.out.trans (hb4.mono hsz))
   have hFb2:=Hd (show ∀ x,F x\/x=g->w.heap.size<=x from λx h=>h.elim (hFb.out x) (λh=>by omega))
   clear hb4 ho4
   go_wp2_with (at_builtin;refine ZL (P:=Tryz.prog) (R:=RB) (e:=24) (size:=1) (base:=w.heap.size) (F:=F) (F':=λk=>F k\/k=g) rfl liesRB (.tmp 15) (.tmp 18) 22 rfl Tryz.underlying22 24 hinfo.out dX rfl hr4 r #[.slice (some ⟨g,0,none⟩) r.length cg] hyB hFB haB hlB rfl hlen dX hbs4 ?_;intro v5 w5 hr5 ho5 hm5)
   have hb5:Below w.heap.size w w5:=hb44.out.trans (ho5.out.below hbs4 (λk hk=>(hr.out.ownLt k hk).1))
   refine hback.out _ _ kX ?_ ?_
   ·simp only[List.getD_cons_zero,List.getD_cons_succ]
    exact⟨k+1,_,oX,by go_num,by rw[htk.out];exact hr5.out,hFb2.out,hb5⟩
   ·have h11:=h11.out
    simp only[List.getD_cons_zero,List.getD_cons_succ,h11,intOf]
    omega
  ·obtain rfl:k=L:=oX
   have hall:recs.take k=recs:=List.take_of_length_le (by rw[<-hL.out];exact Nat.le_refl _)
   rw[hall] at hr
   replace hr:=Hd hr
   replace hFb:=Hd hFb
   replace hbel:=Hd hbel
   go_wp2_with fail
   go_ret
   exact⟨_,F,rfl,hr.out,hFb.out,hbel.out⟩
end Go.Proofs.YtpdhceiodgnbmaaGreatDoor
namespace Go.Proofs.YtpdhceiodgnbmaaGreatDoor
open Go.RowKit
theorem Ks(ws:List (Int×List UInt8))(f:Int->List UInt8)(q:Int×List UInt8)(j:Int):Qa (ws++[q]) f j=if j=q.1 then q.2 else Qa ws f j:=by
 unfold Qa Xv
 rw[List.reverse_append]
 simp only[List.reverse_singleton,List.cons_append,List.nil_append,List.find?_cons]
 by_cases h:j=q.1
 ·rw[if_pos h]
  have:(q.1==j)=true:=by simp[h]
  rw[this]
 ·rw[if_neg h]
  have:(q.1==j)=false:=by simp;exact λe=>h e.symm
  rw[this]
theorem Pm(f:Int->List UInt8)(j:Int):Qa [] f j=f j:=rfl
theorem T3(ws:List (Int×List UInt8))(f:Int->List UInt8)(hl:∀ q∈ws,q.2.length=64)(hf:∀ j,(f j).length=64)(j:Int):Ql (λ_=>some 64) ws f j=Qa ws f j:=by
 have key:∀ n,n<=ws.length->Ql (λ_=>some 64) (ws.take n) f j=Qa (ws.take n) f j/\∀ i,(Ql (λ_=>some 64) (ws.take n) f i).length=64:=by
  intro n
  induction n with
  | zero=>intro _;exact⟨rfl,hf⟩
  | succ n ih=>
   intro hn
   obtain⟨h1,h2⟩:=ih oX
   have hlen:=hl ws[n] (List.getElem_mem oX)
   have ho:∀ a:List UInt8,a.length=64->Xn 64 ws[n].2 a=ws[n].2:=λa ha=>by
    unfold Xn
    rw[List.take_of_length_le oX,List.drop_of_length_le oX,List.append_nil]
   have hd:Ql (λ_=>some 64) (ws.take (n+1)) f=λx=>if x=ws[n].1 then Xn 64 ws[n].2 (Ql (λ_=>some 64) (ws.take n) f ws[n].1) else Ql (λ_=>some 64) (ws.take n) f x:=by
    rw[Kp oX (λ_=>some 64) f]
   rw[hd]
   refine⟨?_,λi=>?_⟩
   ·rw[List.take_succ_eq_append_getElem oX,Ks]
    simp only
    split
    ·exact ho _ (h2 _)
    ·exact h1
   ·simp only
    split
    ·rw[ho _ (h2 _)];exact hlen
    ·exact h2 i
 have:=(key ws.length nR).1
 rwa [List.take_length] at this
def Xx(p:DP)(x:Nat):UInt8:=(Qa p.ws p.f ((x / 64:Nat):Int)).getD (x % 64) 0
structure DOk (p:DP):Prop where
 f:∀ j,(p.f j).length=64
 ws:∀ q∈p.ws,q.2.length=64
theorem DOk.seen{p:DP}(h:DOk p)(j:Int):(Qa p.ws p.f j).length=64:=by
 unfold Qa
 cases hq:Xv p.ws j with
 | none=>exact h.f j
 | some q=>
  unfold Xv at hq
  exact h.ws q (by simpa using List.mem_of_find?_eq_some hq)
theorem DOk.toLen{p:DP}(h:DOk p)(k:Nat):(Xf p k).length=64*k:=by
 induction k with
 | zero=>rfl
 | succ k ih=>rw[XY,List.length_append,ih,h.seen];omega
theorem DOk.byteTo{p:DP}(h:DOk p)(n x:Nat)(hx:x<64*n):(Xf p n).getD x 0=Xx p x:=by
 induction n with
 | zero=>omega
 | succ n ih=>
  rw[XY]
  have hl:=h.toLen n
  by_cases h1:x<64*n
  ·rw[List.getD_eq_getElem?_getD,List.getElem?_append_left oX,<-List.getD_eq_getElem?_getD]
   exact ih h1
  ·rw[List.getD_eq_getElem?_getD,List.getElem?_append_right oX,<-List.getD_eq_getElem?_getD,hl]
   unfold Xx
   rw[show x / 64=n by omega,show x-64*n=x % 64 by omega]
theorem Rh(s b:List UInt8)(k x:Nat)(hs:s.length=64)(hx:x<64):(XL s b k).getD x 0=if k % 64<=x/\x<k % 64+Qe b k then b.getD (x-k % 64) 0 else s.getD x 0:=by
 have hN:Qe b k<=b.length/\Qe b k<=64-k % 64:=⟨Nat.min_le_left _ _,Nat.min_le_right _ _⟩
 unfold XL
 simp only[List.getD_eq_getElem?_getD]
 have h1:(s.take (k % 64)).length=k % 64:=by rw[List.length_take];omega
 have h2:(b.take (Qe b k)).length=Qe b k:=by rw[List.length_take];omega
 by_cases hlt:x<k % 64
 ·rw[if_neg oX,List.append_assoc,List.getElem?_append_left oX,List.getElem?_take,if_pos hlt]
 ·by_cases hlt2:x<k % 64+Qe b k
  ·rw[if_pos ⟨oX,hlt2⟩,List.append_assoc,List.getElem?_append_right oX,List.getElem?_append_left oX,h1,List.getElem?_take,if_pos oX]
  ·rw[if_neg oX,List.getElem?_append_right (by rw[List.length_append];omega),List.length_append,h1,h2,List.getElem?_drop,show k % 64+Qe b k+(x-(k % 64+Qe b k))=x by omega]
theorem Tv:∀ (f:Nat) (p:DP) (k:Nat) (b:List UInt8),DOk p->b.length<=f->(QE f p k b).2=true->
  DOk (QE f p k b).1/\∀ x,Xx (QE f p k b).1 x=if k<=x/\x<k+b.length then b.getD (x-k) 0 else Xx p x:=by
 intro f
 induction f with
 | zero=>intro p k b hp hb _;exact⟨hp,λx=>by rw[if_neg oX];rfl⟩
 | succ f ih=>
  intro p k b hp hb
  rw[QE]
  by_cases hb0:b.length=0
  ·rw[if_pos hb0]
   intro _
   exact⟨hp,λx=>by rw[if_neg oX]⟩
  ·rw[if_neg hb0]
   obtain⟨s,hs⟩:∃ s,s=XL (Qa p.ws p.f ((k / 64:Nat):Int)) b k:=⟨_,rfl⟩
   rw[<-hs]
   have hsl:s.length=64:=by rw[hs];exact Ke (hp.seen _)
   by_cases h0:(p.write ((k / 64:Nat):Int) s).2=0
   ·rw[if_pos h0]
    have hw:(p.write ((k / 64:Nat):Int) s).1={ p with l:=p.l-1,ws:=p.ws++[(((k / 64:Nat):Int),s)] }:=by
     unfold DP.write at h0 ⊢
     split at h0
     ·exact absurd h0 sX
     ·split at h0
      ·exact absurd h0 sX
      ·split at h0
       ·exact absurd h0 sX
       ·rw[if_neg (by assumption),if_neg (by assumption),if_neg (by assumption)]
    rw[hw]
    intro hok
    have hN1:1<=Qe b k:=by
     have:k % 64<64:=Nat.mod_lt _ dX
     exact Nat.le_min.2 ⟨oX,oX⟩
    have hNb:Qe b k<=b.length:=Nat.min_le_left _ _
    have hNf:Qe b k<=64-k % 64:=Nat.min_le_right _ _
    have hp2:DOk { p with l:=p.l-1,ws:=p.ws++[(((k / 64:Nat):Int),s)] }:=⟨hp.f,λq hq=>by
     rcases List.mem_append.1 hq with hq|hq
     ·exact hp.ws q hq
     ·rw[List.mem_singleton.1 hq];exact hsl⟩
    obtain⟨i1,i2⟩:=ih _ (k+Qe b k) (b.drop (Qe b k)) hp2 (by rw[List.length_drop];omega) hok
    refine⟨i1,λx=>?_⟩
    rw[i2 x,List.length_drop]
    have hby:Xx { p with l:=p.l-1,ws:=p.ws++[(((k / 64:Nat):Int),s)] } x=if k<=x/\x<k+Qe b k then b.getD (x-k) 0 else Xx p x:=by
     unfold Xx
     simp only
     rw[Ks]
     simp only
     by_cases hxs:x / 64=k / 64
     ·rw[if_pos (by rw[hxs]),hs,Rh _ _ _ _ (hp.seen _) (Nat.mod_lt _ dX),hxs]
      by_cases hin:k<=x/\x<k+Qe b k
      ·rw[if_pos hin,if_pos oX,show x % 64-k % 64=x-k by omega]
      ·rw[if_neg hin,if_neg oX]
     ·rw[if_neg oX,if_neg oX]
    rw[hby]
    by_cases ha:k+Qe b k<=x/\x<k+Qe b k+(b.length-Qe b k)
    ·rw[if_pos ha,if_pos oX,List.getD_eq_getElem?_getD,List.getElem?_drop,<-List.getD_eq_getElem?_getD,show Qe b k+(x-(k+Qe b k))=x-k by omega]
    ·rw[if_neg ha]
     by_cases hc:k<=x/\x<k+Qe b k
     ·rw[if_pos hc,if_pos oX]
     ·rw[if_neg hc,if_neg oX]
   ·rw[if_neg h0]
    intro hok
    exact absurd hok sX
theorem Rb:∀ (f:Nat) (p:DP) (k:Nat) (b:List UInt8) (n:Nat),DOk p->p.armed=false->p.gone=false->p.n=(n:Int)->b.length<=f->k+b.length<=64*n->(QE f p k b).2=true:=by
 intro f
 induction f with
 | zero=>intros;rfl
 | succ f ih=>
  intro p k b n hp ha hg hn hb hk
  rw[QE]
  by_cases hb0:b.length=0
  ·rw[if_pos hb0]
  ·rw[if_neg hb0]
   obtain⟨s,hs⟩:∃ s,s=XL (Qa p.ws p.f ((k / 64:Nat):Int)) b k:=⟨_,rfl⟩
   rw[<-hs]
   have hsl:s.length=64:=by rw[hs];exact Ke (hp.seen _)
   rw[Jp (X6 ha hg) oX (by rw[hn];omega) hsl,if_pos rfl]
   have hN1:1<=Qe b k:=by
    have:k % 64<64:=Nat.mod_lt _ dX
    exact Nat.le_min.2 ⟨oX,oX⟩
   have hNb:Qe b k<=b.length:=Nat.min_le_left _ _
   refine ih _ _ _ n ⟨hp.f,λq hq=>?_⟩ ha hg hn (by rw[List.length_drop];omega) (by rw[List.length_drop];omega)
   rcases List.mem_append.1 hq with hq|hq
   ·exact hp.ws q hq
   ·rw[List.mem_singleton.1 hq];exact hsl
theorem T8{p:DP}(hp:DOk p)(h0:p.sync.2=0):DOk p.sync.1/\∀ x,Xx p.sync.1 x=Xx p x:=by
 have hs:p.sync.1={ p with l:=p.l-1,f:=Ql (λ_=>some 64) p.ws p.f,ws:=[] }:=by
  unfold DP.sync at h0 ⊢
  split at h0
  ·exact absurd h0 sX
  ·rw[if_neg (by assumption)]
 have hd:∀ j,Ql (λ_=>some 64) p.ws p.f j=Qa p.ws p.f j:=T3 p.ws p.f hp.ws hp.f
 rw[hs]
 refine⟨⟨λj=>?_,λq hq=>?_⟩,λx=>?_⟩
 ·simp only
  rw[hd]
  exact hp.seen j
 ·exact absurd hq sX
 ·unfold Xx
  simp only
  rw[Pm,hd]
theorem TP{p:DP}(hp:DOk p)(n:Nat)(hn:p.n=(n:Int))(l:List UInt8)(hl:l.length=64*n)(hb:∀ x,x<64*n->Xx p x=l.getD x 0):Qo p=l:=by
 unfold Qo
 rw[hn,show ((n:Int)).toNat=n from rfl]
 have h1:=hp.toLen n
 apply List.ext_getElem oX
 intro i h2 h3
 have h4:=hp.byteTo n i oX
 rw[hb i oX] at h4
 simpa[List.getD_eq_getElem?_getD,h2,h3] using h4
end Go.Proofs.YtpdhceiodgnbmaaGreatDoor
namespace Go.Proofs.YtpdhceiodgnbmaaGreatDoor
open Go.RowKit
def Jo(p:DP)(n:Nat)(recs:List (List UInt8)):Prop:=∀ x,x<64*n->Xx p x=(QN z32J recs).getD x 0
theorem Gn{p:DP}{n:Nat}{recs:List (List UInt8)}(hp:DOk p)(hn:p.n=(n:Int))(h:Jo p n recs)(hE:Zp recs<=64*n):Qo p=QN z32J recs++List.replicate (64*n-Zp recs) 0:=by
 have hl:=Vd recs z32J
 refine TP hp n hn _ (by simp[hl];omega) (λx hx=>?_)
 rw[h x hx]
 simp only[List.getD_eq_getElem?_getD]
 by_cases h1:x<Zp recs
 ·rw[List.getElem?_append_left oX]
 ·rw[List.getElem?_append_right oX,List.getElem?_eq_none oX,List.getElem?_replicate]
  split<;>rfl
theorem KB{p:DP}{n:Nat}{recs:List (List UInt8)}(hp:DOk p)(hn:p.n=(n:Int))(h:Jo p n recs)(hE:Zp recs<=64*n)(hr:∀ r∈recs,okR r):J9 p=recs:=by
 unfold J9
 rw[Gn hp hn h hE]
 refine NN recs z32J _ hr (Nf λi _=>?_)
 simp only[List.getD_eq_getElem?_getD,List.getElem?_replicate]
 split<;>rfl
theorem To{p:DP}{n:Nat}{recs:List (List UInt8)}(hp:DOk p)(hn:p.n=(n:Int))(h:Jo p n recs)(hE:Zp recs<=64*n)(hr:∀ r∈recs,okR r):K3 n p=p:=by
 unfold K3
 rw[KB hp hn h hE hr,Gn hp hn h hE]
 refine MZ λk hk=>?_
 have hl:=Vd recs z32J
 rw[List.getD_eq_getElem?_getD,List.getElem?_append_right oX,List.getElem?_replicate]
 split<;>rfl
theorem Rv{p:DP}{n:Nat}{recs:List (List UInt8)}{r:List UInt8}(hp:DOk p)(h:Jo p n recs)(hok:(lay p (Zp recs) (Zz (Zl z32J recs) r)).2=true):DOk (lay p (Zp recs) (Zz (Zl z32J recs) r)).1/\Jo (lay p (Zp recs) (Zz (Zl z32J recs) r)).1 n (recs++[r]):=by
 obtain⟨h1,h2⟩:=Tv _ p (Zp recs) (Zz (Zl z32J recs) r) hp nR hok
 refine⟨h1,λx hx=>?_⟩
 rw[show lay p (Zp recs) (Zz (Zl z32J recs) r)=QE (Zz (Zl z32J recs) r).length p (Zp recs) (Zz (Zl z32J recs) r) from rfl,h2 x,N7]
 have hl:=Vd recs z32J
 simp only[List.getD_eq_getElem?_getD]
 by_cases h3:x<Zp recs
 ·rw[if_neg oX,List.getElem?_append_left oX,h x hx,List.getD_eq_getElem?_getD]
 ·rw[List.getElem?_append_right oX,hl]
  by_cases h4:x<Zp recs+(Zz (Zl z32J recs) r).length
  ·rw[if_pos ⟨oX,h4⟩]
  ·rw[if_neg oX,h x hx,List.getD_eq_getElem?_getD,List.getElem?_eq_none oX,List.getElem?_eq_none oX]
theorem HX{p:DP}{n:Nat}{recs:List (List UInt8)}(hp:DOk p)(h:Jo p n recs)(h0:p.sync.2=0):DOk p.sync.1/\Jo p.sync.1 n recs:=by
 obtain⟨h1,h2⟩:=T8 hp h0
 exact⟨h1,λx hx=>by rw[h2 x];exact h x hx⟩
theorem LC(n:Int):DOk (DP.new n):=⟨λ_=>by simp[DP.new,zSec],λq hq=>absurd hq (by simp[DP.new])⟩
theorem Rf(n:Nat):Jo (DP.new (n:Int)) n []:=λx _=>by
 show ((λ_=>zSec:Int->List UInt8) ((x / 64:Nat):Int)).getD (x % 64) 0=([]:List UInt8).getD x 0
 simp only[List.getD_eq_getElem?_getD,List.getElem?_nil,Option.getD_none]
 have:∀ y:Nat,zSec[y]?.getD 0=0:=λy=>by
  cases hq:zSec[y]? with
  | none=>rfl
  | some u=>
   have hm:=List.mem_of_getElem? hq
   have hz:∀ u∈zSec,u=0:=dX
   exact hz u hm
 exact this _
theorem Pd{p:DP}(ha:p.armed=false)(hg:p.gone=false):p.sync.2=0/\p.sync.1.armed=false/\p.sync.1.gone=false/\p.sync.1.n=p.n/\p.sync.1.ws=[]/\p.sync.1.l=p.l-1:=by
 unfold DP.sync
 rw[X6 ha hg]
 exact⟨rfl,ha,hg,rfl,rfl,rfl⟩
structure Good (p:DP) (n:Nat) (recs:List (List UInt8)):Prop where
 ok:DOk p
 sh:Jo p n recs
 n:p.n=(n:Int)
 a:p.armed=false
 g:p.gone=false
 ws:p.ws=[]
theorem GV(n:Nat):Good (DP.new (n:Int)) n []:=⟨LC _,Rf n,rfl,rfl,rfl,rfl⟩
theorem Wa{p:DP}{n:Nat}{recs:List (List UInt8)}{r:List UInt8}(h:Good p n recs)(hfit:Zp recs+(34+r.length)<=64*n) :
  (lay p (Zp recs) (Zz (Zl z32J recs) r)).2=true/\(lay p (Zp recs) (Zz (Zl z32J recs) r)).1.sync.2=0/\Good (lay p (Zp recs) (Zz (Zl z32J recs) r)).1.sync.1 n (recs++[r])/\
   (lay p (Zp recs) (Zz (Zl z32J recs) r)).1.ws.length<=34+r.length/\p.l-(34+r.length:Nat)-1<=(lay p (Zp recs) (Zz (Zl z32J recs) r)).1.sync.1.l/\(lay p (Zp recs) (Zz (Zl z32J recs) r)).1.sync.1.l<=p.l:=by
 have hok:(lay p (Zp recs) (Zz (Zl z32J recs) r)).2=true:=Rb _ p (Zp recs) (Zz (Zl z32J recs) r) n h.ok h.a h.g h.n nR (by rw[YK];exact hfit)
 obtain⟨h1,h2⟩:=Rv h.ok h.sh hok
 have hkp:=KL (Zz (Zl z32J recs) r).length p (Zp recs) (Zz (Zl z32J recs) r) h.g
 rw[show QE (Zz (Zl z32J recs) r).length p (Zp recs) (Zz (Zl z32J recs) r)=lay p (Zp recs) (Zz (Zl z32J recs) r) from rfl,YK] at hkp
 obtain⟨k1,k2,k3,k4,k5,k6,k7⟩:=hkp
 generalize lay p (Zp recs) (Zz (Zl z32J recs) r)=q at*
 rw[h.a] at k6
 rw[h.ws] at k3
 obtain⟨s1,s2,s3,s4,s5,s6⟩:=Pd k6 (k1 hok)
 obtain⟨h3,h4⟩:=HX h1 h2 s1
 exact⟨hok,s1,⟨h3,h4,by rw[s4,k2,h.n],s2,s3,s5⟩,by simpa using k3,by rw[s6];omega,by rw[s6];omega⟩
end Go.Proofs.YtpdhceiodgnbmaaGreatDoor
namespace Go.Proofs.YtpdhceiodgnbmaaGreatDoor
open Go.RowKit
theorem Px{base:Nat}{w:World}{B mb mn:Nat}{v:Value}{p:DP}{n:Nat}{recs:List (List UInt8)}(h:DM base w B mb mn v p)(hb:base<=w.heap.size)(hG:Good p n recs)(h1:1<=n)(hn:n<=1000)(hmn:mn<=60000)(hpl : -100000<=p.l/\p.l<=100000)(e:Nat->Addr)(hBE:13≠B)(hEb:∀ W,Below base w W->DErr W e)
  (hK:ShaK w) (hF:ShaF w) (hE:Zp recs<=64*n) (hr:∀ r∈recs,okR r):Calls Tryz.prog 60 #[.pointer (some ⟨B,0,none⟩)] w (Kl base w B mb mn v p recs):=by
 have:=Wp h hb n hG.n h1 hn (by rw[hG.ws];decide) hmn hpl hG.a hG.g e hBE hEb hK hF
 rwa [To hG.ok hG.n hG.sh hE hr,KB hG.ok hG.n hG.sh hE hr] at this
def LQ(base:Nat)(w:World)(J B mb mn:Nat)(v rv:Value)(F:Nat->Prop)(p:DP)(n:Nat)(recs:List (List UInt8))(r:List UInt8)(x:Ending)(w':World):Prop:=
 x=.returned .nilIface/\∃ mn' v' rv' F' p',mn'<=mn+500/\JStep base w w' J B mb v rv F mn' v' rv' F' p' (recs++[r]) (recs.length+1) false/\Good p' n (recs++[r])/\p.l-500<=p'.l/\p'.l<=p.l
theorem Dr{base:Nat}{w:World}{J B mb mn:Nat}{v rv:Value}{F:Nat->Prop}{p:DP}{recs:List (List UInt8)}{sure:Nat}(h:JD base w J B mb mn v rv F p recs sure false)(hb:base<=w.heap.size)(n:Nat)(hG:Good p n recs)(hn:n<=1000)(hmn:mn<=50000)(hpl : -200000<=p.l/\p.l<=200000)(e:Nat->Addr)(hBE:13≠B)(hEb:∀ W,Below base w W->DErr W e)
  (hK:ShaK w) (hF:ShaF w) (r:List UInt8) (hr1:1<=r.length) (hr4:r.length<=400) (hfit:Zp recs+(34+r.length)<=64*n) (a:Option Addr) (c:Nat) (hA:ArgB w a c r) (hAD:∀ b o s,a=some ⟨b,o,s⟩->¬JF J F rv b/\¬ZE B mb v b/\b<w.heap.size) :
  Calls Tryz.prog 121 #[.pointer (some ⟨J,0,none⟩),.slice a r.length c] w (LQ base w J B mb mn v rv F p n recs r):=by
 have hp:=Wn h hb n hG.n hn oX (by rw[hG.ws];exact Nat.zero_le _) hmn hpl hG.g e hBE hEb hK hF r ⟨hr1,hr4,by unfold JZ;omega⟩ a c hA hAD
 obtain⟨g1,g2,g3,g4,g5,g6⟩:=Wa hG hfit
 refine hp.mono ?_
 rintro x w' ⟨hx,mn',v',rv',F',hm,hst⟩
 rw[if_pos ⟨g1,g2⟩] at hx
 rw[if_pos g1,if_pos g1,if_pos ⟨g1,g2⟩,g1,g2] at hst
 exact⟨hx,mn',v',rv',F',_,oX,hst,g3,oX,g6⟩
end Go.Proofs.YtpdhceiodgnbmaaGreatDoor
namespace Go.Proofs.YtpdhceiodgnbmaaGreatDoor
open Go.RowKit
theorem GL{l:List Value}(h:∀ u∈l,u.oneCell'=true):l.toArray.all (·.oneCell')=true:=by
 rw[Array.all_eq_true']
 intro u hu
 exact h u (by simpa using hu)
theorem R7(a:Option Addr)(c:Nat)(bs:List UInt8)(w:World)(hA:ArgB w a c bs)(hl:bs.length<=100000) :
  Calls Tryz.prog 132 #[.slice a bs.length c] w λe w'=>∃ v,e=.returned v/\OwnB w.heap.size w' v (0::bs)/\Below w.heap.size w w':=by
 have hG:Below w.heap.size w (w.alloc (.cells #[.int .u8 0] 5)):=bR.alloc nR _
 have hown:=Hd (LI w [0] #[.int .u8 0] rfl dX)
 have hA2:=Hd (hA.below hG)
 obtain⟨L,hL⟩:∃ L,L=bs.length:=⟨_,rfl⟩
 rw[<-hL] at hl ⊢
 have hL2:=Hd hL.symm
 replace hG:=Hd hG
 clear hA hL
 go_enter Tryz.func132,Tryz.ntmps132
 go_wp2_with (at_builtin;go_must (refine Gc rfl (.tmp 3) (.tmp 4) rfl w.heap.size _ [0] rfl hown a c bs L rfl hL2 hA2 dX oX sX ?_);intro v' w' ho hb)
 go_ret
 exact⟨_,rfl,ho.out,hG.out.trans (hb.out.mono nR)⟩
theorem Nv{w:World}{a:Option Addr}{c:Nat}{p:List UInt8}{g:Nat}(h:ArgB w a c p)(hg:w.heap[g]? = some (.cells #[.slice a p.length c] 24 (0,0))):ArgBB w (some ⟨g,0,none⟩) 1 [p]:=by
 refine⟨Nat.le_refl _,by unfold maxLen;omega,(λe=>by cases e),λi hi=>⟨g,0,rfl,?_⟩⟩
 obtain rfl:i=0:=by simpa using hi
 exact⟨a,c,by rw[Za hg];rfl,h⟩
def Yr(bs:List UInt8):List UInt8:=sha (0::bs)
theorem Wr(a:Option Addr)(c:Nat)(bs:List UInt8)(w:World)(hA:ArgB w a c bs)(hl:bs.length<=1000)(hK:ShaK w)(hF:ShaF w) :
  Calls Tryz.prog 102 #[.slice a bs.length c] w λe w'=>e=.returned (.agg (cB (Yr bs)).toArray)/\Below w.heap.size w w':=by
 have zr:=Yg
 have zn:=Y3
 obtain⟨A,hA1⟩:∃ A,A=w.alloc (.cells zero32 47):=⟨_,rfl⟩
 have hbA:Below w.heap.size w A:=by rw[hA1];exact(Below.refl _ w).alloc nR _
 have hsA:A.heap.size=w.heap.size+1:=by rw[hA1];simp
 have hatA:A.heap[w.heap.size]? = some (.cells zero32 47 (0,0)):=by rw[hA1];exact heap_alloc_new w _
 have hlD:(Yr bs).length=32:=YG _
 have hou:=Hd (R7 a c bs A (hA.below hbA) oX)
 obtain⟨D,hD⟩:∃ D,D=(cB (Yr bs)).toArray:=⟨_,rfl⟩
 have hDs:zero32.size=D.size:=by rw[YQ,hD,List.size_toArray,Zg,hlD]
 have hDi:(Tryz.prog.info? 47).map (·.size)=some D.size:=by rw[hD,List.size_toArray,Zg,hlD];kernel_rfl
 have hDo:D.all (·.oneCell')=true:=by rw[hD];exact GL (ZQ _)
 have hfin:∀ (e:Ending) (w':World),e=.returned (.agg D)->Below w.heap.size w w'->e=.returned (.agg (cB (Yr bs)).toArray)/\Below w.heap.size w w':=λe w' h1 h2=>⟨by rw[h1,hD],h2⟩
 have hsh:=Hd (λ(W:World) (v:Value) (h:OwnB A.heap.size W v (0::bs)) (hb:Below A.heap.size A W)=>show ∃ a1 c1,v=.slice a1 (bs.length+1) c1/\∀ W2,W2=W.alloc (.cells #[v] 24)->Calls Tryz.prog 117 #[.slice (some ⟨W.heap.size,0,none⟩) 1 1] W2 λe w'=>e=.returned (.agg D)/\Below W2.heap.size W2 w' from by
  obtain⟨a1,c1,rfl,h1,_⟩:=h.arg
  refine⟨a1,c1,rfl,λW2 hW2=>?_⟩
  have hG:Below W.heap.size W W2:=by rw[hW2];exact bR.alloc nR _
  have hB2:Below w.heap.size w W2:=(hbA.trans (hb.mono oX)).trans (hG.mono (by have:=hb.size;omega))
  have:=Gq (some ⟨W.heap.size,0,none⟩) 1 [0::bs] W2 (Nv (h1.below hG) (by rw[hW2];exact heap_alloc_new W _)) sY sX (hK.below hB2) (hF.below hB2)
  rwa [show ([0::bs]:List (List UInt8)).flatten=0::bs from by simp,show sha (0::bs)=Yr bs from rfl,<-hD] at this)
 obtain⟨L,hL⟩:∃ L,L=bs.length:=⟨_,rfl⟩
 rw[<-hL] at hou ⊢
 replace hA1:=Hd hA1
 replace hbA:=Hd hbA
 replace hatA:=Hd hatA
 replace hfin:=Hd hfin
 replace hsA:=Hd hsA
 clear hA hL hD hlD hK hF
 go_enter Tryz.func102,Tryz.ntmps102
 go_wp2_with fail
 rw[<-hA1.out]
 with_reducible refine hou.out.mono ?_
 rintro e w2 ⟨v2,rfl,ho2,hb2⟩
 obtain⟨a1,c1,hv2,hcall⟩:=hsh.out w2 v2 ho2 hb2
 subst hv2
 have hat2:=Hd ((hb2.block w.heap.size (by have:=hsA.out;omega)).trans hatA.out)
 have hB2:=Hd (hbA.out.trans (hb2.mono (by have:=hsA.out;omega)))
 have hs2:=Hd hb2.size
 replace hcall:=Hd hcall
 clear ho2 hb2 hou hsh
 go_wp2_with fail
 with_reducible refine(hcall.out _ rfl).mono ?_
 rintro e w3 ⟨rfl,hb3⟩
 have hlt2:=Zb hat2.out
 have hG3:Below w2.heap.size w2 (w2.alloc (.cells #[.slice a1 (bs.length+1) c1] 24)):=bR.alloc nR _
 have hat3:=Hd ((hb3.block _ (by have:=hG3.size;omega)).trans ((hG3.block _ hlt2).trans hat2.out))
 have hB3:=Hd ((hB2.out.trans (hG3.mono hB2.out.size)).trans (hb3.mono (by have:=hG3.size;have:=hB2.out.size;omega)))
 clear hb3 hG3 hcall
 go_wp2_with (refine Zc rfl 47 (.tmp 2) (.tmp 6) rfl w.heap.size zero32 D rfl rfl hat3 hDi hDs hDo ?_;intro w4 hU4)
 refine ZM rfl rfl Tryz.underlying47 rfl hDi hU4.out.here ?_
 exact hfin.out _ _ rfl (hB3.out.trans (hU4.out.below nR))
structure FrM (base:Nat) (w:World) (f:Nat) (n:Nat) (v:Value) (ps:List (List UInt8)):Prop where
 at_:w.heap[f]? = some (.cells #[.int .i64 (n:Int),v] 194 (0,0))
 rows:RowsOf RD 47 32 base w (λ_=>False) v ps
 nv:v.ownBlock≠some f
 ge:base<=f
def FrD(f:Nat)(v:Value)(k:Nat):Prop:=k=f\/v.ownBlock=some k
theorem FrM.lt{base:Nat}{w:World}{f n:Nat}{v:Value}{ps:List (List UInt8)}(h:FrM base w f n v ps):∀ k,FrD f v k->base<=k/\k<w.heap.size:=by
 rintro k (rfl|hk)
 ·exact⟨h.ge,Zb h.at_⟩
 ·exact h.rows.ownLt k hk
theorem FrM.only{base:Nat}{w w':World}{f n:Nat}{v:Value}{ps:List (List UInt8)}{D:Nat->Prop}(h:FrM base w f n v ps)(hO:Only D w w')(hd:∀ k,FrD f v k->¬D k):FrM base w' f n v ps:=
 ⟨hO.heap h.at_ (hd f (.inl rfl)),h.rows.only Xd hO (λk hk=>hk.elim) (λk hk=>hd k (.inr hk)),h.nv,h.ge⟩
theorem FrM.below{base:Nat}{w w':World}{f n:Nat}{v:Value}{ps:List (List UInt8)}(h:FrM base w f n v ps)(hb:Below w.heap.size w w'):FrM base w' f n v ps:=
 h.only (Only.ofBelow (D:=λ_=>False) hb) (λ_ _ h=>h)
theorem G7(w:World):Calls Tryz.prog 61 #[] w λe w'=>e=.returned (.pointer (some ⟨w.heap.size,0,none⟩))/\FrM w.heap.size w' w.heap.size 0 (.slice none 0 0) []/\Below w.heap.size w w':=by
 have hb:Below w.heap.size w (w.alloc (.cells #[.int .i64 0,.slice none 0 0] 194)):=bR.alloc nR _
 have hh:=heap_alloc_new w (.cells #[.int .i64 0,.slice none 0 0] 194 (0,0))
 have hf:FrM w.heap.size (w.alloc (.cells #[.int .i64 0,.slice none 0 0] 194)) w.heap.size 0 (.slice none 0 0) []:=⟨hh,RowsOf.nil _ _,by simp[Value.ownBlock],Nat.le_refl _⟩
 replace hb:=Hd hb
 replace hf:=Hd hf
 clear hh
 go_enter Tryz.func61,Tryz.ntmps61
 go_wp2_with fail
 go_ret
 exact⟨rfl,hf.out,hb.out⟩
section
variable {α:Type} {R:World->(Nat->Prop)->α->List Value->Prop} {e:TypeId} {size base:Nat} {w:World} {F F':Nat->Prop} {v:Value} {ps:List α} {P:Program} {ops:Array Oper} {rest:List Oper} {o:Oper} {a:Act} {Q:Exit->Act->World->Prop} {K:Act->World->Prop}
theorem Tj{w:World}{g base size:Nat}{e:TypeId}(h:w.heap[g]? = some (.cells #[] e (0,0)))(hb:base<=g):w.ownsRow base e size (.slice (some ⟨g,0,none⟩) 0 0) 0 []:=
 ⟨sX,.inr ⟨g,0,#[],rfl,hb,h,Nat.le_refl _,Nat.zero_le _,sX,sX⟩⟩
theorem VJ(hR:LiesOk R size)(s x:Operand)(t:TypeId)(ho:o.op=.call { callee:=.builtin .append,args:=#[s,x],argTypes:=#[t,t] })
  (ht:P.underlying t=some (.slice e)) (bytes:Nat) (hi:(P.info? e).map (λi=>(i.zero.map (·.cells.size),i.size,i.bytes))=some (some size,size,bytes)) (hsz:0<size)
  (hs:a.eval s=v) (h:Hid (RowsOf R e size base w F v ps)) (y:α) (g:Nat) (C:Array Value) (hy:Hid (R w F' y C.toList)) (hF:Hid (∀ k,F k->F' k)) (ha:Hid (∀ k,v.ownBlock=some k->¬F' k)) (hl:Hid (∀ k,F' k->k<w.heap.size))
  (hx:a.eval x=.slice (some ⟨g,0,none⟩) 1 1) (hg:Hid (w.heap[g]? = some (.cells C e (0,0)))) (h63:ps.length<=1000000) (hb8:bytes<=10000) (hbase:base<=w.heap.size)
  (hK:∀ v' w',Hid (RowsOf R e size base w' F' v' (ps++[y]))->Hid (Only (λk=>v.ownBlock=some k) w w')->Hid (XM w v v')->K (a.put o.dst v') w'):o.wp P a w K Q:=by
 obtain⟨ie,hie,h2⟩:=Option.map_eq_some_iff.1 hi
 simp only[Prod.mk.injEq] at h2
 obtain⟨hz,hs1,hby⟩:=h2
 obtain⟨z,hz1,hz2⟩:=Option.map_eq_some_iff.1 hz
 obtain⟨v',w',hr,k1,k2,k3⟩:=h.out.app1 (P:=P) hR t o.type ie z bytes ht hie hz1 hs1 hby hz2 hsz y C.toList hy.out hF.out ha.out hl.out g C rfl hg.out (by unfold maxLen;omega)
  (Nat.le_trans (Nat.mul_le_mul (Nat.succ_le_succ h63) hb8) dX) hbase
 unfold Oper.wp execOp
 simp only[ho,resolve,invoke,builtin,Sem.run_bind,Sem.run_pure,Result.andThen_ok,List.map_toArray,List.map_cons,List.map_nil,hs,hx,hr]
 exact hK v' w' (Hd k1) (Hd k2) (Hd k3)
end
theorem VN{K:Act->World->Prop}{a:Act}{w:World}{x:Addr}{u:Value}(h:∀ w',w'=w.setCell x u->K a w'):K a (w.setCell x u):=h _ rfl
def Kb(base:Nat)(w:World)(f n:Nat)(v:Value)(ps:List (List UInt8))(x:Ending)(w':World):Prop:=
 x=.returned .nilIface/\∃ v',FrM base w' f n v' ps/\Only (FrD f v) w w'/\∀ k,v'.ownBlock=some k->FrD f v k\/w.heap.size<=k
theorem GK{base:Nat}{w:World}{f n:Nat}{v:Value}{ps:List (List UInt8)}(h:FrM base w f n v ps)(hb:base<=w.heap.size)(hn:n % 2=0)(hn2:n<=1000000)(hp:ps.length<=1000000)(a:Option Addr)(c:Nat)(bs:List UInt8)(hA:ArgB w a c bs)(hl:bs.length<=1000)(hK:ShaK w)(hF:ShaF w) :
  Calls Tryz.prog 62 #[.pointer (some ⟨f,0,none⟩),.slice a bs.length c] w (Kb base w f (n+1) v (ps++[Yr bs])):=by
 have hle:=Hd (Wr a c bs w hA hl hK hF)
 have hlD:(Yr bs).length=32:=YG _
 obtain⟨D,hD⟩:∃ D,D=(cB (Yr bs)).toArray:=⟨_,rfl⟩
 have hDi:(Tryz.prog.info? 47).map (·.size)=some D.size:=by rw[hD,List.size_toArray,Zg,hlD];kernel_rfl
 have hDz:zero32.size=D.size:=by rw[YQ,hD,List.size_toArray,Zg,hlD]
 have zr:=Yg
 have zn:=Y3
 have hDo:D.all (·.oneCell')=true:=by rw[hD];exact GL (ZQ _)
 have hDL:D.size=32:=by rw[hD,List.size_toArray,Zg,hlD]
 have hand:bits .and .i64 (n:Int) 1=0:=by
  have:=Hc n 1 oX oX
  rw[Nat.and_one_is_mod,hn] at this
  exact this
 have hyD:=Hd (λ(W:World)=>show RD W (λ_=>False) (Yr bs) D.toList from⟨hlD,by rw[hD]⟩)
 rw[<-hD] at hle
 obtain⟨nn,hnn⟩:∃ nn:Int,(n:Int)=nn:=⟨_,rfl⟩
 have hc0:w.cell? ⟨f,0,none⟩=some (.int .i64 nn):=by rw[Za h.at_,<-hnn];rfl
 have hwr:IntKind.i64.wrap (nn+1)=nn+1:=IntWalk.i64_in _ oX
 have hnlt:nn<1099511627776:=oX
 rw[hnn] at hand
 have hfin:∀ (W:World) (v':Value),FrM base W f (n+1) v' (ps++[Yr bs])->Only (FrD f v) w W->(∀ k,v'.ownBlock=some k->FrD f v k\/w.heap.size<=k)->Kb base w f (n+1) v (ps++[Yr bs]) (.returned .nilIface) W:=λW v' h1 h2 h3=>⟨rfl,v',h1,h2,h3⟩
 replace hfin:=Hd hfin
 obtain⟨L,hL⟩:∃ L,L=bs.length:=⟨_,rfl⟩
 rw[<-hL] at hle ⊢
 replace h:=Hd h
 replace hD:=Hd hD
 replace hL:=Hd hL
 have hn0:=Hd hn
 replace hnn:=Hd hnn
 clear hA hl hK hF hlD hn
 go_enter Tryz.func62,Tryz.ntmps62
 go_wp2_with fail
 with_reducible refine hle.out.mono ?_
 clear hle
 rintro e w2 ⟨rfl,hb2⟩
 have h2:=Hd (h.out.below hb2)
 have hw2:=Hd hb2.size
 have hZ2:=Hd (heap_alloc_new w2 (.cells zero32 47))
 replace hb2:=Hd hb2
 clear hc0
 go_wp2_with ((with_reducible refine wL (.store 47 (.tmp 5) _) ?_);(refine Zc rfl 47 (.tmp 5) (.tmp 15) rfl w2.heap.size _ D rfl rfl hZ2 hDi hDz hDo ?_);intro w3 hU3;have hb3:Below w2.heap.size w2 w3:=(Below.alloc (Below.refl w2.heap.size w2) nR _).trans (hU3.out.below nR);have aD3:=Hd hU3.out.here;have h3:=Hd (h2.out.below hb3);have hw3:=Hd (show w2.heap.size<w3.heap.size from Zb hU3.out.here);have hc0:w3.cell? ⟨f,0,none⟩=some (.int .i64 nn):=(by rw[Za h3.out.at_,<-hnn.out];rfl);have hc1:=Za h3.out.at_ 1;have hOn3:=Hd (show Below w.heap.size w w3 from hb2.out.trans (hb3.mono hw2.out)))
 refine wp_loop_rounds 1 ?_
 rw[rounds_succ]
 go_wp2_with fail
 have hfw:f<w.heap.size:=Zb h.out.at_
 have hown:=Hd (λk (hk:v.ownBlock=some k)=>h.out.rows.ownLt k hk)
 have hat3:=h3.out.at_
 have hrow3:=Hd (h3.out.rows.below Xd ((Below.refl w3.heap.size w3).drew))
 have hatd:w3.drew.heap[f]? = some (.cells #[.int .i64 (n:Int),v] 194 (0,0)):=hat3
 have k1:w3.drew.cell? ⟨f,1,none⟩=some v:=by rw[Za hatd];rfl
 have hgf:w2.heap.size≠f:=by have:=hw2.out;omega
 have hgv:v.ownBlock≠some w2.heap.size:=λe=>by have:=(hown.out _ e).2;have:=hw2.out;omega
 have hnv:v.ownBlock≠some f:=h.out.nv
 have hS3:Hid (w3.drew.heap[w2.heap.size]? = some (.cells D 47 (0,0))):=Hd aD3.out
 have rlA:∀ W:World,W.heap[w2.heap.size]? = some (.cells D 47 (0,0))->W.heap[w2.heap.size]? = some (.cells D 47 (0,0)):=λ_ h=>h
 have huA:=Tryz.underlying47
 have hzA:=hDi
 have hbs3:base<=w3.drew.heap.size:=by show base<=w3.heap.size;have:=hw2.out;have:=hw3.out;omega
 have hOnd:Hid (Below w.heap.size w w3.drew):=Hd hOn3.out.drew
 clear hOn3
 have hF0:=Hd (show ∀ k:Nat,(λ_:Nat=>False) k->(λ_:Nat=>False) k from λ_ h=>h)
 have hus:=Tryz.underlying93
 have infoD:=Hd (show (Tryz.prog.info? 47).map (λi=>(i.zero.map (·.cells.size),i.size,i.bytes))=some (some 32,32,32) by kernel_rfl)
 replace hatd:=Hd hatd
 replace hw3:Hid (w2.heap.size<w3.drew.heap.size):=Hd hw3.out
 clear hc0 hc1 hat3
 have hsl:=Hd (λW=>VS D hDL W)
 have hraw:=True.intro
 refine wp_region_held_drew (S:=(λW:World=>W.heap[w2.heap.size]? = some (.cells D 47 (0,0)))) kX hS3.out (λhOn=>?_)
 generalize World.drew w3=wd at*
 refine tk 0 hOn ?_
 refine tk 1 hOn ?_
 refine tk 2 hOn ?_
 refine tk 3 hOn ?_
 refine tk 5 hOn ?_ (v:=Value.agg _) (hy:=Or.inl ⟨by rfl,λW hSW=>ZO _ _ rfl _ _ _ rfl (rlA W hSW) huA rfl hzA⟩)
 refine rds [4,6] ?_
 refine ac (λKz hKz=>?_) ?_
 go_simp
 focus (try go_wp2_with fail)
 refine hKz.out _ _ (by first|exact hOn|exact Grown.alloc hOn _|exact Below.alloc hOn (Below.size hOn) _|exact Grown.alloc (Grown.refl _) _) ?_
 clear hKz Kz hOn
 intro hOn
 try simp only[Act.put,sL,sZ,sS]
 refine rd 6 (λKz hKz=>?_)
 rw[if_pos (by rfl)]
 (refine Xm 93 1 (.tmp 55) rfl (.agg D) rfl _ _ (hsl.out _) ?_)
 (with_reducible refine ZC (t:=47) ?_)
 intro w5 hx5 hnew
 have hS:=(hnew.block _ (Zb hOn)).trans hOn
 have hat5:=Hd ((hnew.block f (Zb hatd.out)).trans hatd.out)
 have hb5:=Hd hnew
 have hrow5:=Hd (hrow3.out.below Xd hb5.out)
 have k1c:w5.cell? ⟨f,1,none⟩=some v:=(by rw[Za hat5.out];rfl)
 have hbs5:base<=w5.heap.size:=Nat.le_trans hbs3 hb5.out.size
 refine hKz.out _ _ hS ?_
 clear hKz Kz hOn hS
 intro hOn
 try clear hnew
 try simp only[Act.put]
 refine rd 7 (λKz hKz=>?_)
 rw[if_pos (by rfl)]
 (refine VJ Xd (.tmp 54) (.tmp 56) 93 rfl hus 32 infoD.out dX rfl hrow5 (Yr bs) _ D (Hd (hyD.out _)) hF0 (Hd (λ_ _ h=>h)) (Hd (λ_ h=>h.elim)) rfl hx5 hp dX hbs5 ?_)
 intro v6 w6 hr6 hO6 hM6
 have hS:=hO6.out.heap hOn hgv
 have hat6:=Hd (hO6.out.heap hat5.out hnv)
 have f1c:w6.frozen? ⟨f,1,none⟩=false:=Zo hat6.out _
 have k1c:w6.cell? ⟨f,1,none⟩=some v:=(by rw[Za hat6.out];rfl)
 obtain⟨a6,n6,c6,hv6⟩:∃ a n c,v6=.slice a n c:=(by obtain⟨a,c,e,_⟩:=hr6.out.form;exact⟨a,_,c,e⟩)
 subst hv6
 refine hKz.out _ _ hS ?_
 clear hKz Kz hOn hS
 intro hOn
 try simp only[Act.put]
 refine tk 8 hOn ?_
 refine tk 9 hOn ?_
 refine rd 10 (λKz hKz=>?_)
 have hU7:=((Upd.refl hat6.out).setCell (j:=1) (.slice a6 n6 c6))
 go_simp
 (with_reducible refine VN ?_)
 intro w7 hw7
 rw[<-hw7] at hU7
 clear hw7
 have hS:=(hU7.block _ hgf).trans hOn
 replace hU7:=Hd hU7
 refine hKz.out _ _ hS ?_
 clear hKz Kz hOn hS
 intro hOn
 try simp only[Act.put]
 refine dnE ?_
 rotate_left
 refine ac (λKz hKz=>?_) AllReadyH.nil
 rw[if_pos (by rfl)]
 (refine Xm 93 1 (.tmp 55) rfl (.agg D) rfl _ _ (hsl.out _) ?_)
 (with_reducible refine ZC (t:=47) ?_)
 intro w5 hx5 hnew
 have hS:=(hnew.block _ (Zb hOn)).trans hOn
 have hat5:=Hd ((hnew.block f (Zb hatd.out)).trans hatd.out)
 have hb5:=Hd hnew
 have hrow5:=Hd (hrow3.out.below Xd hb5.out)
 have k1c:w5.cell? ⟨f,1,none⟩=some v:=(by rw[Za hat5.out];rfl)
 have hbs5:base<=w5.heap.size:=Nat.le_trans hbs3 hb5.out.size
 refine hKz.out _ _ hS ?_
 clear hKz Kz hOn hS
 intro hOn
 try clear hnew
 try simp only[Act.put]
 refine rd 4 (λKz hKz=>?_)
 go_simp
 focus (try go_wp2_with fail)
 refine hKz.out _ _ (by first|exact hOn|exact Grown.alloc hOn _|exact Below.alloc hOn (Below.size hOn) _|exact Grown.alloc (Grown.refl _) _) ?_
 clear hKz Kz hOn
 intro hOn
 try simp only[Act.put,sL,sZ,sS]
 refine rd 7 (λKz hKz=>?_)
 rw[if_pos (by rfl)]
 (refine VJ Xd (.tmp 54) (.tmp 56) 93 rfl hus 32 infoD.out dX rfl hrow5 (Yr bs) _ D (Hd (hyD.out _)) hF0 (Hd (λ_ _ h=>h)) (Hd (λ_ h=>h.elim)) rfl hx5 hp dX hbs5 ?_)
 intro v6 w6 hr6 hO6 hM6
 have hS:=hO6.out.heap hOn hgv
 have hat6:=Hd (hO6.out.heap hat5.out hnv)
 have f1c:w6.frozen? ⟨f,1,none⟩=false:=Zo hat6.out _
 have k1c:w6.cell? ⟨f,1,none⟩=some v:=(by rw[Za hat6.out];rfl)
 obtain⟨a6,n6,c6,hv6⟩:∃ a n c,v6=.slice a n c:=(by obtain⟨a,c,e,_⟩:=hr6.out.form;exact⟨a,_,c,e⟩)
 subst hv6
 refine hKz.out _ _ hS ?_
 clear hKz Kz hOn hS
 intro hOn
 try simp only[Act.put]
 refine tk 8 hOn ?_
 refine tk 9 hOn ?_
 refine rd 10 (λKz hKz=>?_)
 have hU7:=((Upd.refl hat6.out).setCell (j:=1) (.slice a6 n6 c6))
 go_simp
 (with_reducible refine VN ?_)
 intro w7 hw7
 rw[<-hw7] at hU7
 clear hw7
 have hS:=(hU7.block _ hgf).trans hOn
 replace hU7:=Hd hU7
 refine hKz.out _ _ hS ?_
 clear hKz Kz hOn hS
 intro hOn
 try simp only[Act.put]
 refine dnE ?_
 all_goals
  have g0:w7.cell? ⟨f,0,none⟩=some (.int .i64 nn):=by rw[Za hU7.out.here,<-hnn.out];rfl
  have gf:=Zo hU7.out.here 0
  have hU8:=Hd (hU7.out.setCell (j:=0) (.int .i64 (nn+1)))
  go_wp2_with fail
  go_ret
  have hO5:Only (FrD f v) w w5:=Only.ofBelow (hOnd.out.trans (hb5.out.mono hOnd.out.size))
  have hO8:=Only.ofUpd (D:=λk=>k=f) hU8.out rfl
  have h6s:=hO6.out.size
  have hmv:∀ k,(Value.slice a6 n6 c6).ownBlock=some k->v.ownBlock=some k\/w.heap.size<=k:=λk hk=>by
   rcases hM6.out k hk with q|q
   ·exact .inl q
   ·right;have:=hb5.out.size;have:=hOnd.out.size;omega
  have hat8:=hU8.out.here
  have hcs:((#[.int .i64 (n:Int),v]:Array Value).setIfInBounds 1 (.slice a6 n6 c6)).setIfInBounds 0 (.int .i64 (nn+1))=#[.int .i64 ((n+1:Nat):Int),.slice a6 n6 c6]:=by rw[<-hnn.out];rfl
  rw[hcs] at hat8
  refine hfin.out _ _ ⟨hat8,hr6.out.only Xd hO8 (λk hk=>hk.elim) (λk hk e=>?_),λe=>?_,h.out.ge⟩ ?_ (λk hk=>(hmv k hk).imp .inr id)
  ·rcases hmv k hk with q|q
   ·exact hnv (e▸q)
   ·omega
  ·rcases hmv f e with q|q
   ·exact hnv q
   ·omega
  ·exact(hO5.trans hO6.out (λk _ hk=>.inr hk)).trans hO8 (λk _ hk=>.inl hk)
end Go.Proofs.YtpdhceiodgnbmaaGreatDoor
