import Derived.Test.YtpdhceiodgnbmaaGreatDoorF0FollowsSaid
import Derived.Test.YtpdhceiodgnbmaaGreatDoorF1FollowsSaid
import Derived.Test.YtpdhceiodgnbmaaGreatDoorF28FollowsSaid
import Derived.Test.YtpdhceiodgnbmaaGreatDoorF27FollowsSaid
import Derived.Lib.SlBytesConst
set_option linter.unusedVariables false
set_option linter.unusedSimpArgs false
set_option linter.unnecessarySimpa false
set_option maxRecDepth 100000
set_option maxHeartbeats 8000000
namespace Go.Proofs.YtpdhceiodgnbmaaGreatDoor
open Go.RowKit
theorem Um:∀ (f:Nat) (p:DP) (k:Nat) (b:List UInt8),p.gone=false->((Qs f p k b).2=true->(Qs f p k b).1.gone=false)/\(Qs f p k b).1.n=p.n/\(Qs f p k b).1.ws.length<=p.ws.length+f/\p.l-f<=(Qs f p k b).1.l/\(Qs f p k b).1.l<=p.l/\(Qs f p k b).1.armed=p.armed/\(Qs f p k b).1.f=p.f:=by
 intro f
 induction f with
 | zero=>intro p k b hg;exact⟨λ_=>hg,rfl,Nat.le_refl _,by show p.l-0<=p.l;omega,Int.le_refl _,rfl,rfl⟩
 | succ f ih=>
  intro p k b hg
  rw[Qs]
  split
  ·exact⟨λ_=>hg,rfl,by simp only;omega,by simp only;omega,by simp only;omega,rfl,rfl⟩
  ·generalize YN _ b k=s
   generalize ((k / 64:Nat):Int)=i
   have hw:(p.write i s).2=0/\p.write i s=({ p with l:=p.l-1,ws:=p.ws++[(i,s)] },0)\/(p.write i s).2≠0/\((p.write i s).1=p\/(p.write i s).1={ p with gone:=true }):=by
    unfold DP.write
    split
    ·exact .inr ⟨sX,.inl rfl⟩
    ·split
     ·exact .inr ⟨sX,.inl rfl⟩
     ·split
      ·exact .inr ⟨sX,.inr rfl⟩
      ·exact .inl ⟨rfl,rfl⟩
   rcases hw with ⟨h0,hw⟩|⟨h0,hw⟩
   ·rw[if_pos h0]
    obtain⟨a1,a2,a3,a4,a5,a6,a7⟩:=ih (p.write i s).1 (k+ZS b k) (b.drop (ZS b k)) (by rw[hw];exact hg)
    generalize Qs f (p.write i s).1 (k+ZS b k) (b.drop (ZS b k))=z at*
    rw[hw] at a2 a3 a4 a5 a6 a7
    simp only[List.length_append,List.length_singleton] at a2 a3 a4 a5 a6 a7
    exact⟨a1,a2,oX,oX,oX,a6,a7⟩
   ·rw[if_neg h0]
    rcases hw with hw|hw<;>rw[hw]
    ·exact⟨λh=>absurd h sX,rfl,oX,oX,oX,rfl,rfl⟩
    ·exact⟨λh=>absurd h sX,rfl,by simp only;omega,by simp only;omega,by simp only;omega,rfl,rfl⟩
def Pk(base:Nat)(w:World)(J B mb mn:Nat)(v rv:Value)(F:Nat->Prop)(q:DP×Bool)(recs:List (List UInt8))(r:List UInt8)(sure:Nat)(x:Ending)(w':World):Prop:=
 (if q.2=true/\q.1.sync.2=0 then x=.returned .nilIface else ∃ a,x=.returned (.iface 232 (.pointer (some a))))/\∃ mn' v' rv' F',mn'<=mn+q.1.ws.length/\JStep base w w' J B mb v rv F mn' v' rv' F' (if q.2=true then q.1.sync.1 else q.1) (if q.2=true then recs++[r] else recs) (if q.2=true/\q.1.sync.2=0 then recs.length+1 else sure) (!(q.2&&q.1.sync.2==0))
theorem TS{base:Nat}{w:World}{J B mb mn:Nat}{v rv:Value}{F:Nat->Prop}{p:DP}{recs:List (List UInt8)}{sure:Nat}(h:JD base w J B mb mn v rv F p recs sure false)(hb:base<=w.heap.size)(n:Nat)(hpn:p.n=(n:Int))(hn:n<=1000)(hE64:Zh recs<=64*n)(hws:p.ws.length<=20000)(hmn:mn<=50000)(hpl : -200000<=p.l/\p.l<=200000)(hg:p.gone=false)(e:Nat->Addr)(hBE:13≠B)(hEb:∀ W,Below base w W->DErr W e)
  (hK:ShaK w) (hF:ShaF w) (r:List UInt8) (hgood:Nj n recs r) (a:Option Addr) (c:Nat) (hA:ArgB w a c r) (hAD:∀ b o s,a=some ⟨b,o,s⟩->¬JF J F rv b/\¬Z2 B mb v b/\b<w.heap.size) :
  Calls Tryz.prog 121 #[.pointer (some ⟨J,0,none⟩),.slice a r.length c] w (Pk base w J B mb mn v rv F (lay p (Zh recs) (Zn (Zg z32J recs) r)) recs r sure):=by
 have hap:=GG h hb n hpn hn hE64 hws hpl hg e hBE hEb hK hF r hgood a c hA hAD
 have hkp:=Um (Zn (Zg z32J recs) r).length p (Zh recs) (Zn (Zg z32J recs) r) hg
 rw[show Qs (Zn (Zg z32J recs) r).length p (Zh recs) (Zn (Zg z32J recs) r)=lay p (Zh recs) (Zn (Zg z32J recs) r) from rfl,Ya] at hkp
 generalize lay p (Zh recs) (Zn (Zg z32J recs) r)=q at*
 obtain⟨q,ok⟩:=q
 obtain⟨k1,k2,k3,k4,k5,k6,k7⟩:=hkp
 simp only at k1 k2 k3 k4 k5 k6 k7
 have hr4:=hgood.2.1
 have hrl:recs.length<=64000:=by have:=Uv recs;omega
 replace hap:=Hd hap
 replace h:=Hd h
 replace hpn:=Hd hpn
 replace hEb:=Hd hEb
 replace k1:=Hd k1
 replace k2:=Hd k2
 go_enter Tryz.func121,Tryz.ntmps121
 go_wp2_with fail
 with_reducible refine hap.out.mono ?_
 rintro x w1 ⟨hx,v1,rv1,F1,hst⟩
 clear hap
 cases ok with
 | false=>
  obtain⟨ad,rfl⟩:=hx
  replace hst:=Hd hst
  go_wp2_with fail
  go_ret
  exact⟨⟨_,rfl⟩,_,_,_,_,Nat.le_add_right _ _,hst.out⟩
 | true=>
  cases (show x=_ from hx)
  have hO:Below base w w1:=hst.only.below hb (λk hk=>hk.elim (λh1=>(h.out.jm.lt k h1).1) (λh1=>(h.out.dm.lt k h1).1))
  have hst':JStep base w w1 J B mb v rv F mn v1 rv1 F1 q (recs++[r]) sure false:=hst
  have hsy:=HI hst'.ok (Nat.le_trans hb hst'.only.size) n (by rw[k2.out];exact hpn.out) hn oX oX sY oX (k1.out rfl) e hBE (hEb.out w1 hO)
  replace hst':=Hd hst'
  replace hsy:=Hd hsy
  clear hst hO
  go_wp2_with fail
  with_reducible refine hsy.out.mono ?_
  rintro x w2 ⟨hx,v2,mn2,hm2,hst2⟩
  have hst3:=hst'.out.trans hst2
  clear hsy
  rw[List.length_append,List.length_singleton] at hst3
  by_cases hs:q.sync.2=0
  ·rw[if_pos hs] at hx hst3
   subst hx
   replace hst3:=Hd hst3
   replace hs:=Hd hs
   clear hst2
   go_wp2_with fail
   go_ret
   refine⟨by rw[if_pos ⟨rfl,hs.out⟩];rfl,mn2,v2,rv1,F1,hm2,?_⟩
   have e3:=hst3.out
   rw[if_pos rfl,if_pos rfl,if_pos ⟨rfl,hs.out⟩,hs.out]
   rw[hs.out] at e3
   exact e3
  ·rw[if_neg hs] at hx hst3
   obtain⟨ad,rfl⟩:=hx
   have hne:(q.sync.2 != 0) = !(true&&q.sync.2==0):=by simp[bne]
   rw[hne] at hst3
   replace hst3:=Hd hst3
   replace hs:=Hd hs
   clear hst2 hne
   go_wp2_with fail
   go_ret
   refine⟨by rw[if_neg (λhh=>hs.out hh.2)];exact⟨_,rfl⟩,mn2,v2,rv1,F1,hm2,?_⟩
   rw[if_pos rfl,if_pos rfl,if_neg (λhh=>hs.out hh.2)]
   exact hst3.out
end Go.Proofs.YtpdhceiodgnbmaaGreatDoor
namespace Go.Proofs.YtpdhceiodgnbmaaGreatDoor
open Go.RowKit
def Ri(w:World)(recs:List (List UInt8))(x:Ending)(w':World):Prop:=∃ v F,x=.returned v/\RowsOf RB 24 1 w.heap.size w' F v recs/\(∀ k,F k->w.heap.size<=k)/\Below w.heap.size w w'
theorem Vu{base:Nat}{w:World}{J B:Nat}{rv:Value}{F0:Nat->Prop}{recs:List (List UInt8)}{sure:Nat}{dead:Bool}(h:JM base w J B rv F0 recs sure dead)(hn:recs.length<=100000) :
  Calls Tryz.prog 57 #[.pointer (some ⟨J,0,none⟩)] w (Ri w recs):=by
 have k1:=h.cell1
 obtain⟨ra,rc,rfl,ha⟩:=h.rows.argBB
 have hok:=h.okR
 obtain⟨L,hL⟩:∃ L,L=recs.length:=⟨_,rfl⟩
 rw[<-hL] at k1 hn
 replace hL:=Hd hL
 replace ha:=Hd ha
 replace hok:=Hd hok
 have hinfo:=Hd JP
 clear h
 go_enter Tryz.func57,Tryz.ntmps57
 go_wp2_with fail
 refine Z8 [(false,3),(true,1),(false,1),(true,1),(false,5),(true,10),(false,1)] _ [] (λU wr=>∃ (k:Nat) (F:Nat->Prop),k<=L/\U 11=.int .i64 k/\RowsOf RB 24 1 w.heap.size wr F (U 3) (recs.take k)/\(∀ x,F x->w.heap.size<=x)/\Below w.heap.size w wr)
  (λU _=>L-(intOf (U 11)).toNat) ?_ ?_
 ·simp only[List.getD_cons_zero,List.getD_cons_succ]
  exact⟨0,λ_=>False,Nat.zero_le _,rfl,RowsOf.nil _ _,λ_ h=>False.elim h,Below.refl _ _⟩
 ·intro U wr hrel KK hback l' hl'
  obtain⟨k,F,hk,h11,hr,hFb,hbel⟩:=hrel
  simp only[ZR,ZD,cond_true,cond_false,Nat.reduceAdd,h11] at hl'
  generalize hv3:U 3=vo at*
  subst hl'
  replace h11:=Hd h11
  have hsz:=hbel.size
  by_cases hlt:k<L
  ·have hlt2:(k:Int)<L:=oX
   have hkl:k<recs.length:=by rw[<-hL.out];exact hlt
   have hab:=ha.out.below hbel
   obtain⟨b,o,rfl,ai,ci,hc,hai⟩:=hab.row k hkl
   have hgd:recs.getD k []=recs[k]:=by simp[List.getD_eq_getElem?_getD,hkl]
   rw[hgd] at hc hai
   have hokr:=hok.out recs[k] (List.getElem_mem hkl)
   have htk:recs.take (k+1)=recs.take k++[recs[k]]:=List.take_succ_eq_append_getElem hkl
   have hlen:(recs.take k).length<=1000000:=by rw[List.length_take];omega
   generalize recs[k]=r at*
   obtain⟨hok1,hok4⟩:=hokr
   have hcl:=Hd (Xj ai ci r wr hai oX)
   replace hr:=Hd hr
   replace hbel:=Hd hbel
   replace htk:=Hd htk
   replace hFb:=Hd hFb
   clear hab hgd hai
   go_wp2_with fail
   with_reducible refine hcl.out.mono ?_
   rintro e w4 ⟨v4,rfl,ho4,hb4⟩
   clear hcl
   obtain⟨g,cg,rfl,hg⟩:=OwnB.form ho4 hok1
   have hs4:=hb4.size
   have hr4:=Hd (hr.out.below liesRB hb4)
   have hbs4:w.heap.size<=w4.heap.size:=oX
   have hyB:=Hd (show RB w4 (λk=>F k\/k=g) r (#[Value.slice (some ⟨g,0,none⟩) r.length cg]:Array Value).toList from liesRB.more (KL ho4) (λk h=>by cases h;exact .inr rfl))
   have hFB:=Hd (show ∀ k,F k->F k\/k=g from λk h=>.inl h)
   have haB:=Hd (show ∀ k,vo.ownBlock=some k->¬(F k\/k=g) from λk hk h=>h.elim (hr.out.apart k hk) (λh=>by have:=(hr.out.ownLt k hk).2;omega))
   have hlB:=Hd (show ∀ k,F k\/k=g->k<w4.heap.size from λk h=>h.elim (λh=>hr4.out.lt k h) (λh=>h▸(World.ownsRow.lt ho4 g rfl).2))
   have hb44:=Hd (hbel.out.trans (hb4.mono hsz))
   have hFb2:=Hd (show ∀ x,F x\/x=g->w.heap.size<=x from λx h=>h.elim (hFb.out x) (λh=>by omega))
   clear hb4 ho4
   go_wp2_with (at_builtin;refine Z9 (P:=Tryz.prog) (R:=RB) (e:=24) (size:=1) (base:=w.heap.size) (F:=F) (F':=λk=>F k\/k=g) rfl liesRB (.tmp 15) (.tmp 18) 22 rfl Tryz.underlying22 24 hinfo.out dX rfl hr4 r #[.slice (some ⟨g,0,none⟩) r.length cg] hyB hFB haB hlB rfl hlen dX hbs4 ?_;intro v5 w5 hr5 ho5 hm5)
   have hb5:Below w.heap.size w w5:=hb44.out.trans (ho5.out.below hbs4 (λk hk=>(hr.out.ownLt k hk).1))
   refine hback.out _ _ kX ?_ ?_
   ·simp only[List.getD_cons_zero,List.getD_cons_succ]
    exact⟨k+1,_,oX,by go_num,by rw[htk.out];exact hr5.out,hFb2.out,hb5⟩
   ·have h11:=h11.out
    simp only[List.getD_cons_zero,List.getD_cons_succ,h11,intOf]
    omega
  ·obtain rfl:k=L:=oX
   have hall:recs.take k=recs:=List.take_of_length_le (by rw[<-hL.out];exact Nat.le_refl _)
   rw[hall] at hr
   replace hr:=Hd hr
   replace hFb:=Hd hFb
   replace hbel:=Hd hbel
   go_wp2_with fail
   go_ret
   exact⟨_,F,rfl,hr.out,hFb.out,hbel.out⟩
end Go.Proofs.YtpdhceiodgnbmaaGreatDoor
namespace Go.Proofs.YtpdhceiodgnbmaaGreatDoor
open Go.RowKit
theorem Uc(ws:List (Int×List UInt8))(f:Int->List UInt8)(q:Int×List UInt8)(j:Int):ZP (ws++[q]) f j=if j=q.1 then q.2 else ZP ws f j:=by
 unfold ZP Y3
 rw[List.reverse_append]
 simp only[List.reverse_singleton,List.cons_append,List.nil_append,List.find?_cons]
 by_cases h:j=q.1
 ·rw[if_pos h]
  have:(q.1==j)=true:=by simp[h]
  rw[this]
 ·rw[if_neg h]
  have:(q.1==j)=false:=by simp;exact λe=>h e.symm
  rw[this]
theorem HZ(f:Int->List UInt8)(j:Int):ZP [] f j=f j:=rfl
theorem Mh(ws:List (Int×List UInt8))(f:Int->List UInt8)(hl:∀ q∈ws,q.2.length=64)(hf:∀ j,(f j).length=64)(j:Int):ZV (λ_=>some 64) ws f j=ZP ws f j:=by
 have key:∀ n,n<=ws.length->ZV (λ_=>some 64) (ws.take n) f j=ZP (ws.take n) f j/\∀ i,(ZV (λ_=>some 64) (ws.take n) f i).length=64:=by
  intro n
  induction n with
  | zero=>intro _;exact⟨rfl,hf⟩
  | succ n ih=>
   intro hn
   obtain⟨h1,h2⟩:=ih oX
   have hlen:=hl ws[n] (List.getElem_mem oX)
   have ho:∀ a:List UInt8,a.length=64->Yw 64 ws[n].2 a=ws[n].2:=λa ha=>by
    unfold Yw
    rw[List.take_of_length_le oX,List.drop_of_length_le oX,List.append_nil]
   have hd:ZV (λ_=>some 64) (ws.take (n+1)) f=λx=>if x=ws[n].1 then Yw 64 ws[n].2 (ZV (λ_=>some 64) (ws.take n) f ws[n].1) else ZV (λ_=>some 64) (ws.take n) f x:=by
    rw[Ui oX (λ_=>some 64) f]
   rw[hd]
   refine⟨?_,λi=>?_⟩
   ·rw[List.take_succ_eq_append_getElem oX,Uc]
    simp only
    split
    ·exact ho _ (h2 _)
    ·exact h1
   ·simp only
    split
    ·rw[ho _ (h2 _)];exact hlen
    ·exact h2 i
 have:=(key ws.length nR).1
 rwa [List.take_length] at this
def Y7(p:DP)(x:Nat):UInt8:=(ZP p.ws p.f ((x / 64:Nat):Int)).getD (x % 64) 0
structure DOk (p:DP):Prop where
 f:∀ j,(p.f j).length=64
 ws:∀ q∈p.ws,q.2.length=64
theorem DOk.seen{p:DP}(h:DOk p)(j:Int):(ZP p.ws p.f j).length=64:=by
 unfold ZP
 cases hq:Y3 p.ws j with
 | none=>exact h.f j
 | some q=>
  unfold Y3 at hq
  exact h.ws q (by simpa using List.mem_of_find?_eq_some hq)
theorem DOk.toLen{p:DP}(h:DOk p)(k:Nat):(Ym p k).length=64*k:=by
 induction k with
 | zero=>rfl
 | succ k ih=>rw[Xd,List.length_append,ih,h.seen];omega
theorem DOk.byteTo{p:DP}(h:DOk p)(n x:Nat)(hx:x<64*n):(Ym p n).getD x 0=Y7 p x:=by
 induction n with
 | zero=>omega
 | succ n ih=>
  rw[Xd]
  have hl:=h.toLen n
  by_cases h1:x<64*n
  ·rw[List.getD_eq_getElem?_getD,List.getElem?_append_left oX,<-List.getD_eq_getElem?_getD]
   exact ih h1
  ·rw[List.getD_eq_getElem?_getD,List.getElem?_append_right oX,<-List.getD_eq_getElem?_getD,hl]
   unfold Y7
   rw[show x / 64=n by omega,show x-64*n=x % 64 by omega]
theorem Tb(s b:List UInt8)(k x:Nat)(hs:s.length=64)(hx:x<64):(YN s b k).getD x 0=if k % 64<=x/\x<k % 64+ZS b k then b.getD (x-k % 64) 0 else s.getD x 0:=by
 have hN:ZS b k<=b.length/\ZS b k<=64-k % 64:=⟨Nat.min_le_left _ _,Nat.min_le_right _ _⟩
 unfold YN
 simp only[List.getD_eq_getElem?_getD]
 have h1:(s.take (k % 64)).length=k % 64:=by rw[List.length_take];omega
 have h2:(b.take (ZS b k)).length=ZS b k:=by rw[List.length_take];omega
 by_cases hlt:x<k % 64
 ·rw[if_neg oX,List.append_assoc,List.getElem?_append_left oX,List.getElem?_take,if_pos hlt]
 ·by_cases hlt2:x<k % 64+ZS b k
  ·rw[if_pos ⟨oX,hlt2⟩,List.append_assoc,List.getElem?_append_right oX,List.getElem?_append_left oX,h1,List.getElem?_take,if_pos oX]
  ·rw[if_neg oX,List.getElem?_append_right (by rw[List.length_append];omega),List.length_append,h1,h2,List.getElem?_drop,show k % 64+ZS b k+(x-(k % 64+ZS b k))=x by omega]
theorem Md:∀ (f:Nat) (p:DP) (k:Nat) (b:List UInt8),DOk p->b.length<=f->(Qs f p k b).2=true->
  DOk (Qs f p k b).1/\∀ x,Y7 (Qs f p k b).1 x=if k<=x/\x<k+b.length then b.getD (x-k) 0 else Y7 p x:=by
 intro f
 induction f with
 | zero=>intro p k b hp hb _;exact⟨hp,λx=>by rw[if_neg oX];rfl⟩
 | succ f ih=>
  intro p k b hp hb
  rw[Qs]
  by_cases hb0:b.length=0
  ·rw[if_pos hb0]
   intro _
   exact⟨hp,λx=>by rw[if_neg oX]⟩
  ·rw[if_neg hb0]
   obtain⟨s,hs⟩:∃ s,s=YN (ZP p.ws p.f ((k / 64:Nat):Int)) b k:=⟨_,rfl⟩
   rw[<-hs]
   have hsl:s.length=64:=by rw[hs];exact V3 (hp.seen _)
   by_cases h0:(p.write ((k / 64:Nat):Int) s).2=0
   ·rw[if_pos h0]
    have hw:(p.write ((k / 64:Nat):Int) s).1={ p with l:=p.l-1,ws:=p.ws++[(((k / 64:Nat):Int),s)] }:=by
     unfold DP.write at h0 ⊢
     split at h0
     ·exact absurd h0 sX
     ·split at h0
      ·exact absurd h0 sX
      ·split at h0
       ·exact absurd h0 sX
       ·rw[if_neg (by assumption),if_neg (by assumption),if_neg (by assumption)]
    rw[hw]
    intro hok
    have hN1:1<=ZS b k:=by
     have:k % 64<64:=Nat.mod_lt _ dX
     exact Nat.le_min.2 ⟨oX,oX⟩
    have hNb:ZS b k<=b.length:=Nat.min_le_left _ _
    have hNf:ZS b k<=64-k % 64:=Nat.min_le_right _ _
    have hp2:DOk { p with l:=p.l-1,ws:=p.ws++[(((k / 64:Nat):Int),s)] }:=⟨hp.f,λq hq=>by
     rcases List.mem_append.1 hq with hq|hq
     ·exact hp.ws q hq
     ·rw[List.mem_singleton.1 hq];exact hsl⟩
    obtain⟨i1,i2⟩:=ih _ (k+ZS b k) (b.drop (ZS b k)) hp2 (by rw[List.length_drop];omega) hok
    refine⟨i1,λx=>?_⟩
    rw[i2 x,List.length_drop]
    have hby:Y7 { p with l:=p.l-1,ws:=p.ws++[(((k / 64:Nat):Int),s)] } x=if k<=x/\x<k+ZS b k then b.getD (x-k) 0 else Y7 p x:=by
     unfold Y7
     simp only
     rw[Uc]
     simp only
     by_cases hxs:x / 64=k / 64
     ·rw[if_pos (by rw[hxs]),hs,Tb _ _ _ _ (hp.seen _) (Nat.mod_lt _ dX),hxs]
      by_cases hin:k<=x/\x<k+ZS b k
      ·rw[if_pos hin,if_pos oX,show x % 64-k % 64=x-k by omega]
      ·rw[if_neg hin,if_neg oX]
     ·rw[if_neg oX,if_neg oX]
    rw[hby]
    by_cases ha:k+ZS b k<=x/\x<k+ZS b k+(b.length-ZS b k)
    ·rw[if_pos ha,if_pos oX,List.getD_eq_getElem?_getD,List.getElem?_drop,<-List.getD_eq_getElem?_getD,show ZS b k+(x-(k+ZS b k))=x-k by omega]
    ·rw[if_neg ha]
     by_cases hc:k<=x/\x<k+ZS b k
     ·rw[if_pos hc,if_pos oX]
     ·rw[if_neg hc,if_neg oX]
   ·rw[if_neg h0]
    intro hok
    exact absurd hok sX
theorem HJ:∀ (f:Nat) (p:DP) (k:Nat) (b:List UInt8) (n:Nat),DOk p->p.armed=false->p.gone=false->p.n=(n:Int)->b.length<=f->k+b.length<=64*n->(Qs f p k b).2=true:=by
 intro f
 induction f with
 | zero=>intros;rfl
 | succ f ih=>
  intro p k b n hp ha hg hn hb hk
  rw[Qs]
  by_cases hb0:b.length=0
  ·rw[if_pos hb0]
  ·rw[if_neg hb0]
   obtain⟨s,hs⟩:∃ s,s=YN (ZP p.ws p.f ((k / 64:Nat):Int)) b k:=⟨_,rfl⟩
   rw[<-hs]
   have hsl:s.length=64:=by rw[hs];exact V3 (hp.seen _)
   rw[Xy (YF ha hg) oX (by rw[hn];omega) hsl,if_pos rfl]
   have hN1:1<=ZS b k:=by
    have:k % 64<64:=Nat.mod_lt _ dX
    exact Nat.le_min.2 ⟨oX,oX⟩
   have hNb:ZS b k<=b.length:=Nat.min_le_left _ _
   refine ih _ _ _ n ⟨hp.f,λq hq=>?_⟩ ha hg hn (by rw[List.length_drop];omega) (by rw[List.length_drop];omega)
   rcases List.mem_append.1 hq with hq|hq
   ·exact hp.ws q hq
   ·rw[List.mem_singleton.1 hq];exact hsl
theorem NF{p:DP}(hp:DOk p)(h0:p.sync.2=0):DOk p.sync.1/\∀ x,Y7 p.sync.1 x=Y7 p x:=by
 have hs:p.sync.1={ p with l:=p.l-1,f:=ZV (λ_=>some 64) p.ws p.f,ws:=[] }:=by
  unfold DP.sync at h0 ⊢
  split at h0
  ·exact absurd h0 sX
  ·rw[if_neg (by assumption)]
 have hd:∀ j,ZV (λ_=>some 64) p.ws p.f j=ZP p.ws p.f j:=Mh p.ws p.f hp.ws hp.f
 rw[hs]
 refine⟨⟨λj=>?_,λq hq=>?_⟩,λx=>?_⟩
 ·simp only
  rw[hd]
  exact hp.seen j
 ·exact absurd hq sX
 ·unfold Y7
  simp only
  rw[HZ,hd]
theorem NZ{p:DP}(hp:DOk p)(n:Nat)(hn:p.n=(n:Int))(l:List UInt8)(hl:l.length=64*n)(hb:∀ x,x<64*n->Y7 p x=l.getD x 0):ZZ p=l:=by
 unfold ZZ
 rw[hn,show ((n:Int)).toNat=n from rfl]
 have h1:=hp.toLen n
 apply List.ext_getElem oX
 intro i h2 h3
 have h4:=hp.byteTo n i oX
 rw[hb i oX] at h4
 simpa[List.getD_eq_getElem?_getD,h2,h3] using h4
end Go.Proofs.YtpdhceiodgnbmaaGreatDoor
namespace Go.Proofs.YtpdhceiodgnbmaaGreatDoor
open Go.RowKit
def Xw(p:DP)(n:Nat)(recs:List (List UInt8)):Prop:=∀ x,x<64*n->Y7 p x=(Q0 z32J recs).getD x 0
theorem UW{p:DP}{n:Nat}{recs:List (List UInt8)}(hp:DOk p)(hn:p.n=(n:Int))(h:Xw p n recs)(hE:Zh recs<=64*n):ZZ p=Q0 z32J recs++List.replicate (64*n-Zh recs) 0:=by
 have hl:=XR recs z32J
 refine NZ hp n hn _ (by simp[hl];omega) (λx hx=>?_)
 rw[h x hx]
 simp only[List.getD_eq_getElem?_getD]
 by_cases h1:x<Zh recs
 ·rw[List.getElem?_append_left oX]
 ·rw[List.getElem?_append_right oX,List.getElem?_eq_none oX,List.getElem?_replicate]
  split<;>rfl
theorem Up{p:DP}{n:Nat}{recs:List (List UInt8)}(hp:DOk p)(hn:p.n=(n:Int))(h:Xw p n recs)(hE:Zh recs<=64*n)(hr:∀ r∈recs,okR r):X7 p=recs:=by
 unfold X7
 rw[UW hp hn h hE]
 refine KN recs z32J _ hr (Gd λi _=>?_)
 simp only[List.getD_eq_getElem?_getD,List.getElem?_replicate]
 split<;>rfl
theorem Ma{p:DP}{n:Nat}{recs:List (List UInt8)}(hp:DOk p)(hn:p.n=(n:Int))(h:Xw p n recs)(hE:Zh recs<=64*n)(hr:∀ r∈recs,okR r):VO n p=p:=by
 unfold VO
 rw[Up hp hn h hE hr,UW hp hn h hE]
 refine GW λk hk=>?_
 have hl:=XR recs z32J
 rw[List.getD_eq_getElem?_getD,List.getElem?_append_right oX,List.getElem?_replicate]
 split<;>rfl
theorem Hh{p:DP}{n:Nat}{recs:List (List UInt8)}{r:List UInt8}(hp:DOk p)(h:Xw p n recs)(hok:(lay p (Zh recs) (Zn (Zg z32J recs) r)).2=true):DOk (lay p (Zh recs) (Zn (Zg z32J recs) r)).1/\Xw (lay p (Zh recs) (Zn (Zg z32J recs) r)).1 n (recs++[r]):=by
 obtain⟨h1,h2⟩:=Md _ p (Zh recs) (Zn (Zg z32J recs) r) hp nR hok
 refine⟨h1,λx hx=>?_⟩
 rw[show lay p (Zh recs) (Zn (Zg z32J recs) r)=Qs (Zn (Zg z32J recs) r).length p (Zh recs) (Zn (Zg z32J recs) r) from rfl,h2 x,Gp]
 have hl:=XR recs z32J
 simp only[List.getD_eq_getElem?_getD]
 by_cases h3:x<Zh recs
 ·rw[if_neg oX,List.getElem?_append_left oX,h x hx,List.getD_eq_getElem?_getD]
 ·rw[List.getElem?_append_right oX,hl]
  by_cases h4:x<Zh recs+(Zn (Zg z32J recs) r).length
  ·rw[if_pos ⟨oX,h4⟩]
  ·rw[if_neg oX,h x hx,List.getD_eq_getElem?_getD,List.getElem?_eq_none oX,List.getElem?_eq_none oX]
theorem MD{p:DP}{n:Nat}{recs:List (List UInt8)}(hp:DOk p)(h:Xw p n recs)(h0:p.sync.2=0):DOk p.sync.1/\Xw p.sync.1 n recs:=by
 obtain⟨h1,h2⟩:=NF hp h0
 exact⟨h1,λx hx=>by rw[h2 x];exact h x hx⟩
theorem Pj(n:Int):DOk (DP.new n):=⟨λ_=>by simp[DP.new,zSec],λq hq=>absurd hq (by simp[DP.new])⟩
theorem Tn(n:Nat):Xw (DP.new (n:Int)) n []:=λx _=>by
 show ((λ_=>zSec:Int->List UInt8) ((x / 64:Nat):Int)).getD (x % 64) 0=([]:List UInt8).getD x 0
 simp only[List.getD_eq_getElem?_getD,List.getElem?_nil,Option.getD_none]
 have:∀ y:Nat,zSec[y]?.getD 0=0:=λy=>by
  cases hq:zSec[y]? with
  | none=>rfl
  | some u=>
   have hm:=List.mem_of_getElem? hq
   have hz:∀ u∈zSec,u=0:=dX
   exact hz u hm
 exact this _
theorem Hq{p:DP}(ha:p.armed=false)(hg:p.gone=false):p.sync.2=0/\p.sync.1.armed=false/\p.sync.1.gone=false/\p.sync.1.n=p.n/\p.sync.1.ws=[]/\p.sync.1.l=p.l-1:=by
 unfold DP.sync
 rw[YF ha hg]
 exact⟨rfl,ha,hg,rfl,rfl,rfl⟩
structure Good (p:DP) (n:Nat) (recs:List (List UInt8)):Prop where
 ok:DOk p
 sh:Xw p n recs
 n:p.n=(n:Int)
 a:p.armed=false
 g:p.gone=false
 ws:p.ws=[]
theorem Gk(n:Nat):Good (DP.new (n:Int)) n []:=⟨Pj _,Tn n,rfl,rfl,rfl,rfl⟩
theorem TP{p:DP}{n:Nat}{recs:List (List UInt8)}{r:List UInt8}(h:Good p n recs)(hfit:Zh recs+(34+r.length)<=64*n) :
  (lay p (Zh recs) (Zn (Zg z32J recs) r)).2=true/\(lay p (Zh recs) (Zn (Zg z32J recs) r)).1.sync.2=0/\Good (lay p (Zh recs) (Zn (Zg z32J recs) r)).1.sync.1 n (recs++[r])/\
   (lay p (Zh recs) (Zn (Zg z32J recs) r)).1.ws.length<=34+r.length/\p.l-(34+r.length:Nat)-1<=(lay p (Zh recs) (Zn (Zg z32J recs) r)).1.sync.1.l/\(lay p (Zh recs) (Zn (Zg z32J recs) r)).1.sync.1.l<=p.l:=by
 have hok:(lay p (Zh recs) (Zn (Zg z32J recs) r)).2=true:=HJ _ p (Zh recs) (Zn (Zg z32J recs) r) n h.ok h.a h.g h.n nR (by rw[Ya];exact hfit)
 obtain⟨h1,h2⟩:=Hh h.ok h.sh hok
 have hkp:=Um (Zn (Zg z32J recs) r).length p (Zh recs) (Zn (Zg z32J recs) r) h.g
 rw[show Qs (Zn (Zg z32J recs) r).length p (Zh recs) (Zn (Zg z32J recs) r)=lay p (Zh recs) (Zn (Zg z32J recs) r) from rfl,Ya] at hkp
 obtain⟨k1,k2,k3,k4,k5,k6,k7⟩:=hkp
 generalize lay p (Zh recs) (Zn (Zg z32J recs) r)=q at*
 rw[h.a] at k6
 rw[h.ws] at k3
 obtain⟨s1,s2,s3,s4,s5,s6⟩:=Hq k6 (k1 hok)
 obtain⟨h3,h4⟩:=MD h1 h2 s1
 exact⟨hok,s1,⟨h3,h4,by rw[s4,k2,h.n],s2,s3,s5⟩,by simpa using k3,by rw[s6];omega,by rw[s6];omega⟩
end Go.Proofs.YtpdhceiodgnbmaaGreatDoor
namespace Go.Proofs.YtpdhceiodgnbmaaGreatDoor
open Go.RowKit
theorem H8{base:Nat}{w:World}{B mb mn:Nat}{v:Value}{p:DP}{n:Nat}{recs:List (List UInt8)}(h:DM base w B mb mn v p)(hb:base<=w.heap.size)(hG:Good p n recs)(h1:1<=n)(hn:n<=1000)(hmn:mn<=60000)(hpl : -100000<=p.l/\p.l<=100000)(e:Nat->Addr)(hBE:13≠B)(hEb:∀ W,Below base w W->DErr W e)
  (hK:ShaK w) (hF:ShaF w) (hE:Zh recs<=64*n) (hr:∀ r∈recs,okR r):Calls Tryz.prog 60 #[.pointer (some ⟨B,0,none⟩)] w (VC base w B mb mn v p recs):=by
 have:=Ts h hb n hG.n h1 hn (by rw[hG.ws];decide) hmn hpl hG.a hG.g e hBE hEb hK hF
 rwa [Ma hG.ok hG.n hG.sh hE hr,Up hG.ok hG.n hG.sh hE hr] at this
def Pn(base:Nat)(w:World)(J B mb mn:Nat)(v rv:Value)(F:Nat->Prop)(p:DP)(n:Nat)(recs:List (List UInt8))(r:List UInt8)(x:Ending)(w':World):Prop:=
 x=.returned .nilIface/\∃ mn' v' rv' F' p',mn'<=mn+500/\JStep base w w' J B mb v rv F mn' v' rv' F' p' (recs++[r]) (recs.length+1) false/\Good p' n (recs++[r])/\p.l-500<=p'.l/\p'.l<=p.l
theorem PV{base:Nat}{w:World}{J B mb mn:Nat}{v rv:Value}{F:Nat->Prop}{p:DP}{recs:List (List UInt8)}{sure:Nat}(h:JD base w J B mb mn v rv F p recs sure false)(hb:base<=w.heap.size)(n:Nat)(hG:Good p n recs)(hn:n<=1000)(hmn:mn<=50000)(hpl : -200000<=p.l/\p.l<=200000)(e:Nat->Addr)(hBE:13≠B)(hEb:∀ W,Below base w W->DErr W e)
  (hK:ShaK w) (hF:ShaF w) (r:List UInt8) (hr1:1<=r.length) (hr4:r.length<=400) (hfit:Zh recs+(34+r.length)<=64*n) (a:Option Addr) (c:Nat) (hA:ArgB w a c r) (hAD:∀ b o s,a=some ⟨b,o,s⟩->¬JF J F rv b/\¬Z2 B mb v b/\b<w.heap.size) :
  Calls Tryz.prog 121 #[.pointer (some ⟨J,0,none⟩),.slice a r.length c] w (Pn base w J B mb mn v rv F p n recs r):=by
 have hp:=TS h hb n hG.n hn oX (by rw[hG.ws];exact Nat.zero_le _) hmn hpl hG.g e hBE hEb hK hF r ⟨hr1,hr4,by unfold XK;omega⟩ a c hA hAD
 obtain⟨g1,g2,g3,g4,g5,g6⟩:=TP hG hfit
 refine hp.mono ?_
 rintro x w' ⟨hx,mn',v',rv',F',hm,hst⟩
 rw[if_pos ⟨g1,g2⟩] at hx
 rw[if_pos g1,if_pos g1,if_pos ⟨g1,g2⟩,g1,g2] at hst
 exact⟨hx,mn',v',rv',F',_,oX,hst,g3,oX,g6⟩
end Go.Proofs.YtpdhceiodgnbmaaGreatDoor
