import Derived.Test.YtdilmfnpkeihiaaGreatDoorF0AudSaid
import Derived.Test.YtdilmfnpkeihiaaGreatDoorF2AudSaid
import Derived.Test.YtdilmfnpkeihiaaGreatDoorF34AudSaid
import Derived.Test.YtdilmfnpkeihiaaGreatDoorF13AudSaid
import Derived.Test.YtdilmfnpkeihiaaGreatDoorF26AudSaid
import Derived.Lib.SlBytesConst
set_option linter.unusedVariables false
set_option linter.unusedSimpArgs false
set_option linter.unnecessarySimpa false
set_option maxRecDepth 100000
set_option maxHeartbeats 8000000
namespace Go.Proofs.YtdilmfnpkeihiaaGreatDoor
open Go.RowKit
section
variable {α:Type} {R:World->(Nat->Prop)->α->List Value->Prop} {e:TypeId} {size base:Nat} {w:World} {F F':Nat->Prop} {v:Value} {ps:List α} {P:Program} {o:Oper} {a:Act} {Q:Exit->Act->World->Prop} {K:Act->World->Prop}
end
end Go.Proofs.YtdilmfnpkeihiaaGreatDoor
namespace Go.Proofs.YtdilmfnpkeihiaaGreatDoor
open Go.RowKit
end Go.Proofs.YtdilmfnpkeihiaaGreatDoor
namespace Go.Proofs.YtdilmfnpkeihiaaGreatDoor
open Go.RowKit
def KW(w:World)(recs:List (List UInt8))(x:Ending)(w':World):Prop:=∃ v F,x=.returned v/\RowsOf RB 52 1 w.heap.size w' F v recs/\(∀ k,F k->w.heap.size<=k)/\Below w.heap.size w w'
theorem Ye{base:Nat}{w:World}{J B:Nat}{rv:Value}{F0:Nat->Prop}{recs:List (List UInt8)}{sure:Nat}{dead:Bool}(h:JM base w J B rv F0 recs sure dead)(hn:recs.length<=100000) :
  Calls Tryz.prog 43 #[.pointer (some ⟨J,0,none⟩)] w (KW w recs):=by
 have k1:=h.cell1
 obtain⟨ra,rc,rfl,ha⟩:=h.rows.argBB
 have hok:=h.okR
 obtain⟨L,hL⟩:∃ L,L=recs.length:=⟨_,rfl⟩
 rw[<-hL] at k1 hn
 replace hL:=Hd hL
 replace ha:=Hd ha
 replace hok:=Hd hok
 have hinfo:=Hd XO
 clear h
 go_enter Tryz.func43,Tryz.ntmps43
 go_wp2_with fail
 refine ZA [(false,3),(true,1),(false,1),(true,1),(false,5),(true,10),(false,1)] _ [] (λU wr=>∃ (k:Nat) (F:Nat->Prop),k<=L/\U 11=.int .i64 k/\RowsOf RB 52 1 w.heap.size wr F (U 3) (recs.take k)/\(∀ x,F x->w.heap.size<=x)/\Below w.heap.size w wr)
  (λU _=>L-(intOf (U 11)).toNat) ?_ ?_
 ·simp only[List.getD_cons_zero,List.getD_cons_succ]
  exact⟨0,λ_=>False,Nat.zero_le _,rfl,RowsOf.nil _ _,λ_ h=>False.elim h,Below.refl _ _⟩
 ·intro U wr hrel KK hback l' hl'
  obtain⟨k,F,hk,h11,hr,hFb,hbel⟩:=hrel
  simp only[ZD,Z6,cond_true,cond_false,Nat.reduceAdd,h11] at hl'
  generalize hv3:U 3=vo at*
  subst hl'
  replace h11:=Hd h11
  have hsz:=hbel.size
  by_cases hlt:k<L
  ·have hlt2:(k:Int)<L:=oX
   have hkl:k<recs.length:=by rw[<-hL.out];exact hlt
   have hab:=ha.out.below hbel
   obtain⟨b,o,rfl,ai,ci,hc,hai⟩:=hab.row k hkl
   have hgd:recs.getD k []=recs[k]:=by simp[List.getD_eq_getElem?_getD,hkl]
   rw[hgd] at hc hai
   have hokr:=hok.out recs[k] (List.getElem_mem hkl)
   have htk:recs.take (k+1)=recs.take k++[recs[k]]:=List.take_succ_eq_append_getElem hkl
   have hlen:(recs.take k).length<=1000000:=by rw[List.length_take];omega
   generalize recs[k]=r at*
   obtain⟨hok1,hok4⟩:=hokr
   have hcl:=Hd (QA ai ci r wr hai oX)
   replace hr:=Hd hr
   replace hbel:=Hd hbel
   replace htk:=Hd htk
   replace hFb:=Hd hFb
   clear hab hgd hai
   go_wp2_with fail
   with_reducible refine hcl.out.mono ?_
   rintro e w4 ⟨v4,rfl,ho4,hb4⟩
   clear hcl
   obtain⟨g,cg,rfl,hg⟩:=OwnB.form ho4 hok1
   have hs4:=hb4.size
   have hr4:=Hd (hr.out.below liesRB hb4)
   have hbs4:w.heap.size<=w4.heap.size:=oX
   have hyB:=Hd (show RB w4 (λk=>F k\/k=g) r (#[Value.slice (some ⟨g,0,none⟩) r.length cg]:Array Value).toList from liesRB.more (K0 ho4) (λk h=>by cases h;exact .inr rfl))
   have hFB:=Hd (show ∀ k,F k->F k\/k=g from λk h=>.inl h)
   have haB:=Hd (show ∀ k,vo.ownBlock=some k->¬(F k\/k=g) from λk hk h=>h.elim (hr.out.apart k hk) (λh=>by have:=(hr.out.ownLt k hk).2;omega))
   have hlB:=Hd (show ∀ k,F k\/k=g->k<w4.heap.size from λk h=>h.elim (λh=>hr4.out.lt k h) (λh=>h▸(World.ownsRow.lt ho4 g rfl).2))
   have hb44:=Hd (hbel.out.trans (hb4.mono hsz))
   have hFb2:=Hd (show ∀ x,F x\/x=g->w.heap.size<=x from λx h=>h.elim (hFb.out x) (λh=>by omega))
   clear hb4 ho4
   go_wp2_with (at_builtin;refine ZP (P:=Tryz.prog) (R:=RB) (e:=52) (size:=1) (base:=w.heap.size) (F:=F) (F':=λk=>F k\/k=g) rfl liesRB (.tmp 15) (.tmp 18) 71 rfl Tryz.underlying71 24 hinfo.out dX rfl hr4 r #[.slice (some ⟨g,0,none⟩) r.length cg] hyB hFB haB hlB rfl hlen dX hbs4 ?_;intro v5 w5 hr5 ho5 hm5)
   have hb5:Below w.heap.size w w5:=hb44.out.trans (ho5.out.below hbs4 (λk hk=>(hr.out.ownLt k hk).1))
   refine hback.out _ _ kX ?_ ?_
   ·simp only[List.getD_cons_zero,List.getD_cons_succ]
    exact⟨k+1,_,oX,by go_num,by rw[htk.out];exact hr5.out,hFb2.out,hb5⟩
   ·have h11:=h11.out
    simp only[List.getD_cons_zero,List.getD_cons_succ,h11,intOf]
    omega
  ·obtain rfl:k=L:=oX
   have hall:recs.take k=recs:=List.take_of_length_le (by rw[<-hL.out];exact Nat.le_refl _)
   rw[hall] at hr
   replace hr:=Hd hr
   replace hFb:=Hd hFb
   replace hbel:=Hd hbel
   go_wp2_with fail
   go_ret
   exact⟨_,F,rfl,hr.out,hFb.out,hbel.out⟩
end Go.Proofs.YtdilmfnpkeihiaaGreatDoor
namespace Go.Proofs.YtdilmfnpkeihiaaGreatDoor
open Go.RowKit
def Jq(p:DP)(x:Nat):UInt8:=(ZK p.ws p.f ((x / 64:Nat):Int)).getD (x % 64) 0
structure DOk (p:DP):Prop where
 f:∀ j,(p.f j).length=64
 ws:∀ q∈p.ws,q.2.length=64
theorem DOk.seen{p:DP}(h:DOk p)(j:Int):(ZK p.ws p.f j).length=64:=by
 unfold ZK
 cases hq:Qq p.ws j with
 | none=>exact h.f j
 | some q=>
  unfold Qq at hq
  exact h.ws q (by simpa using List.mem_of_find?_eq_some hq)
theorem DOk.toLen{p:DP}(h:DOk p)(k:Nat):(Qd p k).length=64*k:=by
 induction k with
 | zero=>rfl
 | succ k ih=>rw[Q4,List.length_append,ih,h.seen];omega
theorem DOk.byteTo{p:DP}(h:DOk p)(n x:Nat)(hx:x<64*n):(Qd p n).getD x 0=Jq p x:=by
 induction n with
 | zero=>omega
 | succ n ih=>
  rw[Q4]
  have hl:=h.toLen n
  by_cases h1:x<64*n
  ·rw[List.getD_eq_getElem?_getD,List.getElem?_append_left oX,<-List.getD_eq_getElem?_getD]
   exact ih h1
  ·rw[List.getD_eq_getElem?_getD,List.getElem?_append_right oX,<-List.getD_eq_getElem?_getD,hl]
   unfold Jq
   rw[show x / 64=n by omega,show x-64*n=x % 64 by omega]
theorem Uh{p:DP}(hp:DOk p)(n:Nat)(hn:p.n=(n:Int))(l:List UInt8)(hl:l.length=64*n)(hb:∀ x,x<64*n->Jq p x=l.getD x 0):Zy p=l:=by
 unfold Zy
 rw[hn,show ((n:Int)).toNat=n from rfl]
 have h1:=hp.toLen n
 apply List.ext_getElem oX
 intro i h2 h3
 have h4:=hp.byteTo n i oX
 rw[hb i oX] at h4
 simpa[List.getD_eq_getElem?_getD,h2,h3] using h4
end Go.Proofs.YtdilmfnpkeihiaaGreatDoor
namespace Go.Proofs.YtdilmfnpkeihiaaGreatDoor
open Go.RowKit
def Xi(p:DP)(n:Nat)(recs:List (List UInt8)):Prop:=∀ x,x<64*n->Jq p x=(Qf z32J recs).getD x 0
theorem XR{p:DP}{n:Nat}{recs:List (List UInt8)}(hp:DOk p)(hn:p.n=(n:Int))(h:Xi p n recs)(hE:Zo recs<=64*n):Zy p=Qf z32J recs++List.replicate (64*n-Zo recs) 0:=by
 have hl:=YZ recs z32J
 refine Uh hp n hn _ (by simp[hl];omega) (λx hx=>?_)
 rw[h x hx]
 simp only[List.getD_eq_getElem?_getD]
 by_cases h1:x<Zo recs
 ·rw[List.getElem?_append_left oX]
 ·rw[List.getElem?_append_right oX,List.getElem?_eq_none oX,List.getElem?_replicate]
  split<;>rfl
theorem X9{p:DP}{n:Nat}{recs:List (List UInt8)}(hp:DOk p)(hn:p.n=(n:Int))(h:Xi p n recs)(hE:Zo recs<=64*n)(hr:∀ r∈recs,okR r):QO p=recs:=by
 unfold QO
 rw[XR hp hn h hE]
 refine J4 recs z32J _ hr (J2 λi _=>?_)
 simp only[List.getD_eq_getElem?_getD,List.getElem?_replicate]
 split<;>rfl
theorem U1{p:DP}{n:Nat}{recs:List (List UInt8)}(hp:DOk p)(hn:p.n=(n:Int))(h:Xi p n recs)(hE:Zo recs<=64*n)(hr:∀ r∈recs,okR r):Xm n p=p:=by
 unfold Xm
 rw[X9 hp hn h hE hr,XR hp hn h hE]
 refine Va λk hk=>?_
 have hl:=YZ recs z32J
 rw[List.getD_eq_getElem?_getD,List.getElem?_append_right oX,List.getElem?_replicate]
 split<;>rfl
theorem G9(n:Int):DOk (DP.new n):=⟨λ_=>by simp[DP.new,zSec],λq hq=>absurd hq (by simp[DP.new])⟩
theorem Kv(n:Nat):Xi (DP.new (n:Int)) n []:=λx _=>by
 show ((λ_=>zSec:Int->List UInt8) ((x / 64:Nat):Int)).getD (x % 64) 0=([]:List UInt8).getD x 0
 simp only[List.getD_eq_getElem?_getD,List.getElem?_nil,Option.getD_none]
 have:∀ y:Nat,zSec[y]?.getD 0=0:=λy=>by
  cases hq:zSec[y]? with
  | none=>rfl
  | some u=>
   have hm:=List.mem_of_getElem? hq
   have hz:∀ u∈zSec,u=0:=dX
   exact hz u hm
 exact this _
structure Good (p:DP) (n:Nat) (recs:List (List UInt8)):Prop where
 ok:DOk p
 sh:Xi p n recs
 n:p.n=(n:Int)
 a:p.armed=false
 g:p.gone=false
 ws:p.ws=[]
theorem KM(n:Nat):Good (DP.new (n:Int)) n []:=⟨G9 _,Kv n,rfl,rfl,rfl,rfl⟩
end Go.Proofs.YtdilmfnpkeihiaaGreatDoor
namespace Go.Proofs.YtdilmfnpkeihiaaGreatDoor
open Go.RowKit
theorem UJ{base:Nat}{w:World}{B mb mn:Nat}{v:Value}{p:DP}{n:Nat}{recs:List (List UInt8)}(h:DM base w B mb mn v p)(hb:base<=w.heap.size)(hG:Good p n recs)(h1:1<=n)(hn:n<=1000)(hmn:mn<=60000)(hpl : -100000<=p.l/\p.l<=100000)(e:Nat->Addr)(hBE:14≠B)(hEb:∀ W,Below base w W->DErr W e)
  (hK:ShaK w) (hF:ShaF w) (hE:Zo recs<=64*n) (hr:∀ r∈recs,okR r):Calls Tryz.prog 55 #[.pointer (some ⟨B,0,none⟩)] w (Xf base w B mb mn v p recs):=by
 have:=KZ h hb n hG.n h1 hn (by rw[hG.ws];decide) hmn hpl hG.a hG.g e hBE hEb hK hF
 rwa [U1 hG.ok hG.n hG.sh hE hr,X9 hG.ok hG.n hG.sh hE hr] at this
end Go.Proofs.YtdilmfnpkeihiaaGreatDoor
