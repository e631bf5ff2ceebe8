import Derived.Test.YtdilmfnpkeihiaaGreatDoorF0AudSaid
import Derived.Test.YtdilmfnpkeihiaaGreatDoorF2AudSaid
import Derived.Test.YtdilmfnpkeihiaaGreatDoorF29AudSaid
import Derived.Test.YtdilmfnpkeihiaaGreatDoorF30AudSaid
import Derived.Deep.QuietTactic
set_option linter.unusedVariables false
set_option linter.unusedSimpArgs false
set_option linter.unnecessarySimpa false
set_option maxRecDepth 100000
set_option maxHeartbeats 8000000
namespace Go.Proofs.YtdilmfnpkeihiaaGreatDoor
open Go.RowKit
structure DP where
 n:Int
 f:Int->List UInt8
 ws:List (Int×List UInt8)
 armed:Bool
 l:Int
 gone:Bool
def DP.bad(p:DP):Bool:=p.gone || (p.armed&&p.l==0)
def DP.write(p:DP)(i:Int)(bs:List UInt8):DP×Nat:=
 if i<0\/p.n<=i then (p,1) else if bs.length≠64 then (p,2) else if p.bad then ({ p with gone:=true },3) else ({ p with l:=p.l-1,ws:=p.ws++[(i,bs)] },0)
def DP.sync(p:DP):DP×Nat:=if p.bad then ({ p with gone:=true },3) else ({ p with l:=p.l-1,f:=ZI (λ_=>some 64) p.ws p.f,ws:=[] },0)
def DP.new(n:Int):DP:=⟨n,λ_=>zSec,[],false,0,false⟩
def QW(e:Nat->Addr):Nat->Value
 | 0=>.nilIface
 | k+1=>.iface 264 (.pointer (some (e k)))
def DM(base:Nat)(w:World)(B mb mn:Nat)(v:Value)(p:DP):Prop:=DiskOk base w B 100 p.n mb mn p.f v p.ws p.armed p.l p.gone
theorem DM.only{base:Nat}{w w':World}{B mb mn:Nat}{v:Value}{p:DP}{D:Nat->Prop}(h:DM base w B mb mn v p)(hO:Only D w w')(hd:∀ k,Z8 B mb v k->¬D k):DM base w' B mb mn v p:=DiskOk.only h hO hd
theorem DM.below{base:Nat}{w w':World}{B mb mn:Nat}{v:Value}{p:DP}(h:DM base w B mb mn v p)(hb:Below w.heap.size w w'):DM base w' B mb mn v p:=h.only (Only.ofBelow (D:=λ_=>False) hb) (λ_ _ h=>h)
theorem DM.cell{base:Nat}{w:World}{B mb mn:Nat}{v:Value}{p:DP}(h:DM base w B mb mn v p)(j:Nat):w.cell? ⟨B,j,none⟩=(Zx p.n mb v p.armed p.l p.gone)[j]? := Za h.at_ j
theorem DM.form{base:Nat}{w:World}{B mb mn:Nat}{v:Value}{p:DP}(h:DM base w B mb mn v p):∃ a c,v=.slice a p.ws.length c:=by
 rcases h.row.2 with ⟨e1,h2⟩|⟨g,c,cur,e1,_⟩
 ·exact⟨none,0,by rw[e1,h2]⟩
 ·exact⟨_,c,e1⟩
theorem DM.rowN{base:Nat}{w:World}{B mb mn:Nat}{a:Option Addr}{m c:Nat}{p:DP}(h:DM base w B mb mn (.slice a m c) p):RowNW w.heap.size w a p.ws:=by
 intro i hi
 have hl:∀ q∈p.ws,q.2.length=64:=λq hq=>(h.lens q hq).1
 have hg:p.ws.getD i (0,[])=p.ws[i]:=by simp[List.getD_eq_getElem?_getD,hi]
 rcases h.row.2 with ⟨e1,h2⟩|⟨g,cap,cur,e1,_,hh,_⟩
 ·omega
 ·cases e1
  refine⟨g,rfl,Zb hh,by rw[hg];exact hl _ (List.getElem_mem hi),?_⟩
  rw[hg,XN,Jz (hl _ (List.getElem_mem hi))]
  exact XV h.row hl i hi
structure DStep (base:Nat) (w w':World) (B mb:Nat) (v:Value) (mn:Nat) (v':Value) (p':DP):Prop where
 ok:DM base w' B mb mn v' p'
 only:Only (Z8 B mb v) w w'
 new:∀ k,Z8 B mb v' k->Z8 B mb v k\/w.heap.size<=k
theorem DStep.same{base:Nat}{w:World}{B mb mn:Nat}{v:Value}{p:DP}(h:DM base w B mb mn v p):DStep base w w B mb v mn v p:=⟨h,Only.refl _ _,λ_ h=>.inl h⟩
theorem DStep.apart{base:Nat}{w w':World}{B mb mn:Nat}{v v':Value}{p':DP}(h:DStep base w w' B mb v mn v' p'){k:Nat}(hk:¬Z8 B mb v k)(hl:k<w.heap.size):¬Z8 B mb v' k:=λhd=>by
 rcases h.new k hd with h1|h1
 ·exact hk h1
 ·omega
theorem DStep.below{base:Nat}{w w':World}{B mb mn mn':Nat}{v v':Value}{p p':DP}(h:DStep base w w' B mb v mn' v' p')(h0:DM base w B mb mn v p)(hb:base<=w.heap.size):Below base w w':=h.only.below hb (λk hk=>(h0.lt k hk).1)
theorem XW(B:Nat)(n:Int)(mb:Nat)(v:Value)(T:TypeId)(armed:Bool)(l:Int)(gone:Bool)(h:(gone || (armed&&l==0))=true)(w:World)(e:Nat->Addr)(hE:DErr w e)(hB:14≠B)(hat:w.heap[B]? = some (.cells (Zx n mb v armed l gone) T (0,0))) :
  Calls Tryz.prog 119 #[.pointer (some ⟨B,0,none⟩)] w λx w'=>x=.returned (QW e 3)/\Upd B (.cells (Zx n mb v armed l true) T (0,0)) w w':=by
 have c3:w.cell? ⟨B,3,none⟩=some (.bool armed):=by rw[Za hat];rfl
 have c4:w.cell? ⟨B,4,none⟩=some (.int .i64 l):=by rw[Za hat];rfl
 have c5:w.cell? ⟨B,5,none⟩=some (.bool gone):=by rw[Za hat];rfl
 have f5:w.frozen? ⟨B,5,none⟩=false:=Zg hat _
 by_cases h1:armed=true->l≠0
 ·have hg:gone=true:=by
   cases armed
   ·simpa using h
   ·have:=h1 rfl
    simpa[this] using h
  subst hg
  refine(VF B armed l h1 w e hE c3 c4 c5).mono ?_
  rintro x w' ⟨rfl,rfl⟩
  exact⟨rfl,Upd.refl hat⟩
 ·obtain⟨ha,hl⟩:armed=true/\l=0:=by
   cases armed
   ·exact absurd (λe=>by cases e) h1
   ·exact⟨rfl,Classical.not_not.1 λhn=>h1 λ_=>hn⟩
  subst ha hl
  have hk:∀ W:World,(∀ b,b≠B->W.heap[b]? = w.heap[b]?)->W.cell? ⟨14,0,none⟩=some (.iface 264 (.pointer (some (e 2)))):=λW hW=>(World.cell?_of_block (a:=⟨14,0,none⟩) (hW _ hB)).trans hE.power
  have hU:=(Upd.refl hat).setCell (j:=5) (.bool true)
  have hk2:=hk _ (λb hb=>hU.block b hb)
  have hUh:=Hd hU
  clear hk h h1 hat hU
  go_enter Tryz.func119,Tryz.ntmps119
  go_wp2_with fail
  go_ret
  exact⟨rfl,hUh.out⟩
theorem Kb(B:Nat)(n i:Int)(h:i<0\/n<=i)(w:World)(hc:w.cell? ⟨B,0,none⟩=some (.int .i64 n))(e:Nat->Addr)(hE:DErr w e)(a:Option Addr)(m c:Nat) :
  Calls Tryz.prog 103 #[.pointer (some ⟨B,0,none⟩),.int .i64 i,.slice a m c] w λx w'=>x=.returned (QW e 1)/\w=w':=by
 have hth:=Hd (UN B n i h w hc e hE)
 clear h
 go_enter Tryz.func103,Tryz.ntmps103
 go_wp2_with fail
 with_reducible refine hth.out.mono ?_
 rintro x w2 ⟨rfl,hq⟩
 obtain rfl:=hq
 clear hth
 go_wp2_with fail
 go_ret
 exact⟨rfl,rfl⟩
theorem Vi(B:Nat)(n i:Int)(h0:0<=i)(h1:i<n)(w:World)(hc:w.cell? ⟨B,0,none⟩=some (.int .i64 n))(e:Nat->Addr)(hE:DErr w e)(a:Option Addr)(m c:Nat)(hm:m≠64) :
  Calls Tryz.prog 103 #[.pointer (some ⟨B,0,none⟩),.int .i64 i,.slice a m c] w λx w'=>x=.returned (QW e 2)/\w=w':=by
 have hth:=Hd (Qx B n i h0 h1 w hc)
 have hk:=hE.size
 have hm2:((m:Int) != 64)=true:=sY
 clear hm
 go_enter Tryz.func103,Tryz.ntmps103
 go_wp2_with fail
 with_reducible refine hth.out.mono ?_
 rintro x w2 ⟨rfl,hq⟩
 obtain rfl:=hq
 clear hth
 go_wp2_with fail
 go_ret
 exact⟨rfl,rfl⟩
theorem VP(B:Nat)(n i:Int)(mb:Nat)(v:Value)(T:TypeId)(armed:Bool)(l:Int)(gone:Bool)(h:(gone || (armed&&l==0))=true)(h0:0<=i)(h1:i<n)(w:World)(e:Nat->Addr)(hE:DErr w e)(hB:14≠B)(hat:w.heap[B]? = some (.cells (Zx n mb v armed l gone) T (0,0)))(a:Option Addr)(c:Nat) :
  Calls Tryz.prog 103 #[.pointer (some ⟨B,0,none⟩),.int .i64 i,.slice a 64 c] w λx w'=>x=.returned (QW e 3)/\Upd B (.cells (Zx n mb v armed l true) T (0,0)) w w':=by
 have hc:w.cell? ⟨B,0,none⟩=some (.int .i64 n):=by rw[Za hat];rfl
 have hth:=Hd (Qx B n i h0 h1 w hc)
 have hde:=Hd (XW B n mb v T armed l gone h w e hE hB hat)
 clear hat hc h
 go_enter Tryz.func103,Tryz.ntmps103
 go_wp2_with fail
 with_reducible refine hth.out.mono ?_
 rintro x w2 ⟨rfl,hq⟩
 obtain rfl:=hq
 clear hth
 go_wp2_with fail
 with_reducible refine hde.out.mono ?_
 rintro x w2 ⟨rfl,hU⟩
 replace hU:=Hd hU
 clear hde
 simp only[QW]
 go_wp2_with fail
 go_ret
 exact⟨rfl,hU.out⟩
theorem Kw(B:Nat)(n:Int)(mb:Nat)(v:Value)(T:TypeId)(armed:Bool)(l:Int)(gone:Bool)(h:(gone || (armed&&l==0))=true)(w:World)(e:Nat->Addr)(hE:DErr w e)(hB:14≠B)(hat:w.heap[B]? = some (.cells (Zx n mb v armed l gone) T (0,0))) :
  Calls Tryz.prog 104 #[.pointer (some ⟨B,0,none⟩)] w λx w'=>x=.returned (QW e 3)/\Upd B (.cells (Zx n mb v armed l true) T (0,0)) w w':=by
 have hde:=Hd (XW B n mb v T armed l gone h w e hE hB hat)
 clear hat h
 go_enter Tryz.func104,Tryz.ntmps104
 go_wp2_with fail
 with_reducible refine hde.out.mono ?_
 rintro x w2 ⟨rfl,hU⟩
 replace hU:=Hd hU
 clear hde
 simp only[QW]
 go_wp2_with fail
 go_ret
 exact⟨rfl,hU.out⟩
theorem DM.gone{base:Nat}{w w':World}{B mb mn:Nat}{v:Value}{p:DP}(h:DM base w B mb mn v p)(hU:Upd B (.cells (Zx p.n mb v p.armed p.l true) 100 (0,0)) w w'):DStep base w w' B mb v mn v { p with gone:=true }:=by
 have hO:Only (λk=>k=B) w w':=Only.ofUpd hU rfl
 exact⟨⟨hU.here,h.map.only hO h.hmB,hO.owns h.row (λk hk=>(h.vB k hk).1),h.hmB,h.vB,h.geB,h.gem,h.lens⟩,hO.mono (λ_ _ e=>.inl e),λ_ h=>.inl h⟩
theorem DP.bad_not{p:DP}(h:p.bad=false):p.gone=false/\(p.armed=true->p.l≠0):=by
 unfold DP.bad at h
 simp only[Bool.or_eq_false_iff,Bool.and_eq_false_iff,beq_eq_false_iff_ne] at h
 refine⟨h.1,λha=>?_⟩
 rcases h.2 with h2|h2
 ·rw[ha] at h2;cases h2
 ·exact h2
theorem Um{base:Nat}{w:World}{B mb mn:Nat}{v:Value}{p:DP}(h:DM base w B mb mn v p)(hb:base<=w.heap.size)(hws:p.ws.length<=100000)(hl : -1000000<=p.l/\p.l<=9223372036854775807)(e:Nat->Addr)(hE:DErr w e)(hB:14≠B)
  (i:Int) (a:Option Addr) (c:Nat) (bs:List UInt8) (ha:ArgB w a c bs) (hD:∀ b o s,a=some ⟨b,o,s⟩->¬Z8 B mb v b) :
  Calls Tryz.prog 103 #[.pointer (some ⟨B,0,none⟩),.int .i64 i,.slice a bs.length c] w λx w'=>x=.returned (QW e (p.write i bs).2)/\∃ v',DStep base w w' B mb v mn v' (p.write i bs).1:=by
 have hc:w.cell? ⟨B,0,none⟩=some (.int .i64 p.n):=by rw[h.cell];rfl
 by_cases h1:i<0\/p.n<=i
 ·refine(Kb B p.n i h1 w hc e hE a bs.length c).mono ?_
  rintro x w' ⟨rfl,rfl⟩
  have:p.write i bs=(p,1):=by unfold DP.write;rw[if_pos h1]
  rw[this]
  exact⟨rfl,v,DStep.same h⟩
 ·by_cases h2:bs.length=64
  ·cases hbad:p.bad
   ·have hw:p.write i bs=({ p with l:=p.l-1,ws:=p.ws++[(i,bs)] },0):=by unfold DP.write;rw[if_neg h1,if_neg oX,hbad];rfl
    obtain⟨hgone,har⟩:=DP.bad_not hbad
    obtain⟨bb,off,rfl,_⟩:=ha.row 0 oX
    have hdb:=hD bb off none rfl
    have hat:=h.at_
    rw[hgone] at hat
    rw[h2]
    refine(Ux base B mb p.n i oX oX _ v p.ws p.armed p.l har hl w hat hb h.row (λk hk=>(h.vB k hk).1) oX bb off c bs h2 ha (λe=>hdb (.inl e)) (λk hk e=>hdb (.inr (.inr (e▸hk))))).mono ?_
    rintro x w' ⟨rfl,v',k1,k2,k3,k4⟩
    rw[hw]
    refine⟨rfl,v',⟨by rw[<-hgone] at k1;exact k1,h.map.only k3 (λk=>?_),by rw[List.length_append];exact k2,h.hmB,λk hk=>?_,h.geB,h.gem,λq hq=>?_⟩,k3.mono (λk _ hk=>hk.imp id .inr),λk hk=>?_⟩
    ·rcases k with k|k
     ·exact h.hmB k
     ·exact(h.vB _ k).2 rfl
    ·have h1:=Zb h.at_
     have h2:=h.map.lt
     rcases k4 k hk with k5|k5
     ·exact h.vB k k5
     ·exact⟨oX,oX⟩
    ·rcases List.mem_append.1 hq with hq|hq
     ·exact h.lens q hq
     ·simp at hq;subst hq;exact⟨h2,oX,by show i<p.n;omega⟩
    ·rcases hk with hk|hk|hk
     ·exact .inl (.inl hk)
     ·exact .inl (.inr (.inl hk))
     ·exact(k4 k hk).imp (λh=>.inr (.inr h)) id
   ·have hw:p.write i bs=({ p with gone:=true },3):=by unfold DP.write;rw[if_neg h1,if_neg oX,hbad];rfl
    rw[h2]
    refine(VP B p.n i mb v _ p.armed p.l p.gone hbad oX oX w e hE hB h.at_ a c).mono ?_
    rintro x w' ⟨rfl,hU⟩
    rw[hw]
    exact⟨rfl,v,h.gone hU⟩
  ·have hw:p.write i bs=(p,2):=by unfold DP.write;rw[if_neg h1,if_pos h2]
   refine(Vi B p.n i oX oX w hc e hE a bs.length c h2).mono ?_
   rintro x w' ⟨rfl,rfl⟩
   rw[hw]
   exact⟨rfl,v,DStep.same h⟩
theorem UU{base:Nat}{w:World}{B mb mn:Nat}{v:Value}{p:DP}(h:DM base w B mb mn v p)(hn:p.n<=2048)(hws:p.ws.length<=100000)(hmn:mn<=100000)(hl : -1000000<=p.l/\p.l<=9223372036854775807)(e:Nat->Addr)(hE:DErr w e)(hB:14≠B) :
  Calls Tryz.prog 104 #[.pointer (some ⟨B,0,none⟩)] w λx w'=>x=.returned (QW e p.sync.2)/\∃ v' mn',mn'<=mn+p.ws.length/\DStep base w w' B mb v mn' v' p.sync.1:=by
 cases hbad:p.bad
 ·have hw:p.sync=({ p with l:=p.l-1,f:=ZI (λ_=>some 64) p.ws p.f,ws:=[] },0):=by unfold DP.sync;rw[hbad];rfl
  obtain⟨hgone,har⟩:=DP.bad_not hbad
  have h':=h
  unfold DM at h'
  rw[hgone] at h'
  refine(U7 base B mb mn p.f p.n hn _ v p.ws p.armed p.l har hl w h' hws hmn).mono ?_
  rintro x w' ⟨rfl,k1,k2⟩
  rw[hw]
  refine⟨rfl,_,_,Nat.le_refl _,by unfold DM;rw[hgone];exact k1,k2.mono (λk _ hk=>hk.imp id .inl),λk hk=>?_⟩
  rcases hk with hk|hk|hk
  ·exact .inl (.inl hk)
  ·exact .inl (.inr (.inl hk))
  ·cases hk
 ·have hw:p.sync=({ p with gone:=true },3):=by unfold DP.sync;rw[hbad];rfl
  refine(Kw B p.n mb v _ p.armed p.l p.gone hbad w e hE hB h.at_).mono ?_
  rintro x w' ⟨rfl,hU⟩
  rw[hw]
  exact⟨rfl,v,mn,oX,h.gone hU⟩
theorem Nf(n:Int)(w:World)(base:Nat)(hb:base<=w.heap.size):DM base ((w.alloc (.map #[] 0)).alloc (.cells (Zx n w.heap.size (.slice none 0 0) false 0 false) 100)) (w.heap.size+1) w.heap.size 0 (.slice none 0 0) (DP.new n):=by
 have hG:Below (w.alloc (.map #[] 0)).heap.size (w.alloc (.map #[] 0)) ((w.alloc (.map #[] 0)).alloc (.cells (Zx n w.heap.size (.slice none 0 0) false 0 false) 100)):=bR.alloc nR _
 have hh:=heap_alloc_new (w.alloc (.map #[] 0)) (.cells (Zx n w.heap.size (.slice none 0 0) false 0 false) 100 (0,0))
 rw[World.size_alloc] at hh
 exact⟨hh,(SureMap.made w).only (Only.ofBelow (D:=λ_=>False) hG) (λh=>h),⟨rfl,.inl ⟨rfl,rfl⟩⟩,oX,λk hk=>(by cases hk),oX,hb,λp hp=>(by cases hp)⟩
end Go.Proofs.YtdilmfnpkeihiaaGreatDoor
