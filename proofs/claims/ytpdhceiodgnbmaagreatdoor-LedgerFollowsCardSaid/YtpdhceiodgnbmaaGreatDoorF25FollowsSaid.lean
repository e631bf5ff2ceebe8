import Derived.Test.YtpdhceiodgnbmaaGreatDoorF0FollowsSaid
import Derived.Test.YtpdhceiodgnbmaaGreatDoorF1FollowsSaid
import Derived.Test.YtpdhceiodgnbmaaGreatDoorF24FollowsSaid
import Derived.Deep.QuietTactic
set_option linter.unusedVariables false
set_option linter.unusedSimpArgs false
set_option linter.unnecessarySimpa false
set_option maxRecDepth 100000
set_option maxHeartbeats 8000000
namespace Go.Proofs.YtpdhceiodgnbmaaGreatDoor
open Go.RowKit
theorem Hs(base B mb mn:Nat)(f:Int->List UInt8)(n:Int)(hn:n<=2048)(T:TypeId)(v:Value)(ws:List (Int×List UInt8))(armed:Bool)(l:Int)(har:armed=true->l≠0)(hl : -1000000<=l/\l<=9223372036854775807)(w:World)
  (h:DiskOk base w B T n mb mn f v ws armed l false) (hws:ws.length<=100000) (hmn:mn<=100000) :
  Calls Tryz.prog 131 #[.pointer (some ⟨B,0,none⟩)] w λx w'=>x=.returned .nilIface/\
   DiskOk base w' B T n mb (mn+ws.length) (ZV (λ_=>some 64) ws f) (.slice none 0 0) [] armed (l-1) false/\Only (λk=>k=B\/k=mb) w w':=by
 have hat:=h.at_
 have hBl:=Zb hat
 have c3:w.cell? ⟨B,3,none⟩=some (.bool armed):=by rw[Za hat];rfl
 have c4:w.cell? ⟨B,4,none⟩=some (.int .i64 l):=by rw[Za hat];rfl
 have c5:w.cell? ⟨B,5,none⟩=some (.bool false):=by rw[Za hat];rfl
 have hde:=Hd (K1 B armed l har hl w c3 c4 c5 (Zm hat _))
 obtain⟨w1,hw1⟩:∃ w1,w1=w.setCell ⟨B,4,none⟩ (.int .i64 (l-1)):=⟨_,rfl⟩
 have hU1:=(Upd.refl hat).setCell (j:=4) (.int .i64 (l-1))
 rw[<-hw1] at hU1
 have hO1:Only (λk=>k=B) w w1:=Only.ofUpd hU1 rfl
 obtain⟨va,vc,hv⟩:∃ a c,v=.slice a ws.length c:=by
  rcases h.row.2 with ⟨e1,h2⟩|⟨g,c,cur,e1,_⟩
  ·exact⟨none,0,by rw[e1,h2]⟩
  ·exact⟨_,c,e1⟩
 have hat1:w1.heap[B]? = some (.cells (ZW n mb v armed (l-1) false) T (0,0)):=hU1.here
 have hc2:w1.cell? ⟨B,2,none⟩=some (.slice va ws.length vc):=by rw[Za hat1,<-hv];rfl
 have hm1:SureMap w1 mb mn f:=h.map.only hO1 h.hmB
 have hrow1:w1.ownsRow base 132 65 v ws.length (Qq ws):=hO1.owns h.row (λk hk=>(h.vB k hk).1)
 have hlens:∀ p∈ws,p.2.length=64:=λp hp=>(h.lens p hp).1
 have hmlt:=hm1.lt
 have hs1:=hO1.size
 have hB1:=Zb hat1
 replace h:=Hd h
 replace hat1:=Hd hat1
 replace hm1:=Hd hm1
 replace hrow1:=Hd hrow1
 replace hO1:=Hd hO1
 replace hv:=Hd hv
 replace hw1:=Hd hw1
 replace hlens:=Hd hlens
 clear hU1 hat c3 c4 c5
 go_enter Tryz.func131,Tryz.ntmps131
 go_wp2_with fail
 with_reducible refine hde.out.mono ?_
 rintro x w2 ⟨rfl,hq⟩
 obtain rfl:w1=w2:=hw1.out.trans hq.symm
 clear hq hde hw1
 go_wp2_with fail
 go_loopw [17,18,19,5,20,21,22,23,16] (λ_ _ _ _ _ _ _ _ j wr=>∃ k:Nat,k<=ws.length/\j=.int .i64 k/\SureMap wr mb (mn+k) (ZV (λ_=>some 64) (ws.take k) f)/\Only (λb=>b=mb) w1 wr) (λ_ _ _ _ _ _ _ _ j _=>ws.length-(intOf j).toNat)
 case atStart=>exact⟨0,Nat.zero_le _,rfl,hm1.out,Only.refl _ _⟩
 case round=>
  obtain⟨k,hk,rfl,hmk,hOk⟩:=hrel
  have hsk:=hOk.size
  have hwrB:=(World.cell?_of_block (hOk.block B hB1 (λe=>h.out.hmB e.symm)):wr.cell? ⟨B,1,none⟩=w1.cell? ⟨B,1,none⟩)
  have hcB:wr.cell? ⟨B,1,none⟩=some (.map (some mb)):=hwrB.trans (by rw[Za hat1.out];rfl)
  have hc2r:wr.cell? ⟨B,2,none⟩=some (.slice va ws.length vc):=(World.cell?_of_block (hOk.block B hB1 (λe=>h.out.hmB e.symm)):wr.cell? ⟨B,2,none⟩=w1.cell? ⟨B,2,none⟩).trans hc2
  have hBlk:wr.heap[B]? = some (.cells (ZW n mb v armed (l-1) false) T (0,0)):=(hOk.block B hB1 (λe=>h.out.hmB e.symm)).trans hat1.out
  have hf2r:wr.frozen? ⟨B,2,none⟩=false:=Zm hBlk _
  replace hBlk:=Hd hBlk
  have hBr:=World.block_lt_of_cell? wr _ hcB
  have hmr:=hmk.lt
  clear hwrB
  replace hcB:=Hd hcB
  replace hmk:=Hd hmk
  replace hOk:=Hd hOk
  by_cases hlt:k<ws.length
  ·have hlt2:(k:Int)<ws.length:=oX
   obtain⟨g,rfl⟩:∃ g,va=some ⟨g,0,none⟩:=by
    rcases hrow1.out.2 with ⟨e1,h2⟩|⟨g,c,cur,e1,_⟩
    ·omega
    ·rw[hv.out] at e1
     injection e1 with e1
     exact⟨g,e1⟩
   have hgm:g≠mb:=(h.out.vB g (by rw[hv.out];rfl)).2
   have hrw:wr.ownsRow base 132 65 (.slice (some ⟨g,0,none⟩) ws.length vc) ws.length (Qq ws):=by
    have:=hrow1.out
    rw[hv.out] at this
    exact hOk.out.owns this (λb hb=>by cases hb;exact hgm)
   obtain⟨i,hi⟩:∃ i,i=ws[k].1:=⟨_,rfl⟩
   obtain⟨bs,hbsd⟩:∃ b,b=ws[k].2:=⟨_,rfl⟩
   have hir:=(h.out.lens ws[k] (List.getElem_mem hlt)).2
   rw[<-hi] at hir
   have hbs:bs.length=64:=by rw[hbsd];exact hlens.out _ (List.getElem_mem hlt)
   obtain⟨R,hRd⟩:∃ R,R=#[Value.int .i64 i]++(cB bs).toArray:=⟨_,rfl⟩
   have hRs:R.size=65:=by rw[hRd];simp[Zd,hbs]
   have hRl:R.toList=.int .i64 i::cB bs:=by rw[hRd];simp
   have hrg:wr.rangeAt g (k*65) R.toList:=by
    rw[hRl,hi,hbsd]
    exact UT hrw hlens.out k hlt
   have hR1:R.all (·.oneCell')=true:=by
    rw[Array.all_eq_true']
    intro u hu
    have hu:=Array.mem_toList_iff.2 hu
    rw[hRl] at hu
    rcases List.mem_cons.1 hu with rfl|hu
    ·rfl
    ·exact ZU _ u hu
   have huW:Tryz.prog.underlying 132=some _:=Tryz.underlying132
   have hszW:(Tryz.prog.info? 132).map (·.size)=some R.size:=by rw[hRs];kernel_rfl
   have hszL:(Tryz.prog.info? 132).map (·.size)=some R.toList.length:=by rw[Array.length_toList,hRs];kernel_rfl
   have hdn:∀ w3,SureMap w3 mb (mn+k) (ZV (λ_=>some 64) (ws.take k) f)->w3.cell? ⟨B,1,none⟩=some (.map (some mb))->_:=λw3 h1 h2=>Tl B mb (mn+k) (ZV (λ_=>some 64) (ws.take k) f) i oX oX bs hbs 64 nR 64 rfl w3 h2 h1 oX h.out.hmB
   rw[<-hRd] at hdn
   replace hrg:=Hd hrg
   replace hrw:=Hd hrw
   replace hbsd:=Hd hbsd
   replace hi:=Hd hi
   replace hRd:=Hd hRd
   replace hRl:=Hd hRl
   replace hdn:=Hd hdn
   go_wp2_with (first
    | (refine wpList_load_mid rfl 132 (.tmp 18) rfl g _ rfl R.toList _ hrg.out huW rfl hszL ?_;rw[Array.toArray_toList])
    | (refine Zc rfl 132 (.tmp 5) (.tmp 19) rfl wr.heap.size _ R rfl rfl (Hd (heap_alloc_new _ _)) hszW (by rw[hRs];rfl) hR1 ?_;intro w3 hU3)
    | (refine Ze rfl 132 (.tmp 5) rfl wr.heap.size R _ rfl (Hd hU3.out.here) huW rfl hszW ?_))
   have hG3:Grown wr w3:=Below.trans (Grown.alloc (Grown.refl wr) _) (hU3.out.below nR)
   have hm3:=hmk.out.only (Only.ofBelow (D:=λ_=>False) hG3) (λh=>h)
   have hc3:=(hG3.cell (p:=⟨B,1,none⟩) hBr).trans hcB.out
   have hcall:=Hd (hdn.out w3 hm3 hc3)
   have hO3:=Hd ((hOk.out.trans (Only.ofBelow (D:=λb=>b=mb) hG3) (λ_ _ h=>h)))
   clear hU3 hdn hm3 hc3 hG3
   with_reducible refine hcall.out.mono ?_
   rintro x w4 ⟨rfl,hm4,hO4⟩
   clear hcall
   replace hm4:=Hd hm4
   replace hO4:=Hd hO4
   go_wp2_with fail
   go_roundw
   case rel=>
    refine⟨k+1,oX,by go_num,?_,hO3.out.trans hO4.out (λ_ _ h=>h)⟩
    rw[Ui hlt,<-hi.out,<-hbsd.out,<-Nat.add_assoc]
    exact hm4.out
   case measure=>simp[intOf];omega
  ·obtain rfl:k=ws.length:=oX
   go_wp2_with fail
   go_ret
   have hmk2:=hmk.out
   rw[List.take_length] at hmk2
   have hU:=(Upd.refl hBlk.out).setCell (j:=2) (.slice none 0 0)
   have hOU:Only (λb=>b=B) wr _:=Only.ofUpd hU rfl
   refine⟨rfl,⟨hU.here,hmk2.only hOU h.out.hmB,⟨rfl,.inl ⟨rfl,rfl⟩⟩,h.out.hmB,λk hk=>by(cases hk),h.out.geB,h.out.gem,λp hp=>by(cases hp)⟩,?_⟩
   exact((hO1.out.mono (E:=λk=>k=B\/k=mb) (λ_ _ h=>.inl h)).trans hOk.out (λ_ _ h=>.inr h)).trans hOU (λ_ _ h=>.inl h)
structure DP where
 n:Int
 f:Int->List UInt8
 ws:List (Int×List UInt8)
 armed:Bool
 l:Int
 gone:Bool
def DP.bad(p:DP):Bool:=p.gone || (p.armed&&p.l==0)
def DP.write(p:DP)(i:Int)(bs:List UInt8):DP×Nat:=
 if i<0\/p.n<=i then (p,1) else if bs.length≠64 then (p,2) else if p.bad then ({ p with gone:=true },3) else ({ p with l:=p.l-1,ws:=p.ws++[(i,bs)] },0)
def DP.sync(p:DP):DP×Nat:=if p.bad then ({ p with gone:=true },3) else ({ p with l:=p.l-1,f:=ZV (λ_=>some 64) p.ws p.f,ws:=[] },0)
def DP.new(n:Int):DP:=⟨n,λ_=>zSec,[],false,0,false⟩
def YC(e:Nat->Addr):Nat->Value
 | 0=>.nilIface
 | k+1=>.iface 298 (.pointer (some (e k)))
def DM(base:Nat)(w:World)(B mb mn:Nat)(v:Value)(p:DP):Prop:=DiskOk base w B 120 p.n mb mn p.f v p.ws p.armed p.l p.gone
theorem DM.only{base:Nat}{w w':World}{B mb mn:Nat}{v:Value}{p:DP}{D:Nat->Prop}(h:DM base w B mb mn v p)(hO:Only D w w')(hd:∀ k,Z2 B mb v k->¬D k):DM base w' B mb mn v p:=DiskOk.only h hO hd
theorem DM.below{base:Nat}{w w':World}{B mb mn:Nat}{v:Value}{p:DP}(h:DM base w B mb mn v p)(hb:Below w.heap.size w w'):DM base w' B mb mn v p:=h.only (Only.ofBelow (D:=λ_=>False) hb) (λ_ _ h=>h)
theorem DM.cell{base:Nat}{w:World}{B mb mn:Nat}{v:Value}{p:DP}(h:DM base w B mb mn v p)(j:Nat):w.cell? ⟨B,j,none⟩=(ZW p.n mb v p.armed p.l p.gone)[j]? := Za h.at_ j
theorem DM.form{base:Nat}{w:World}{B mb mn:Nat}{v:Value}{p:DP}(h:DM base w B mb mn v p):∃ a c,v=.slice a p.ws.length c:=by
 rcases h.row.2 with ⟨e1,h2⟩|⟨g,c,cur,e1,_⟩
 ·exact⟨none,0,by rw[e1,h2]⟩
 ·exact⟨_,c,e1⟩
theorem DM.rowN{base:Nat}{w:World}{B mb mn:Nat}{a:Option Addr}{m c:Nat}{p:DP}(h:DM base w B mb mn (.slice a m c) p):RowNW w.heap.size w a p.ws:=by
 intro i hi
 have hl:∀ q∈p.ws,q.2.length=64:=λq hq=>(h.lens q hq).1
 have hg:p.ws.getD i (0,[])=p.ws[i]:=by simp[List.getD_eq_getElem?_getD,hi]
 rcases h.row.2 with ⟨e1,h2⟩|⟨g,cap,cur,e1,_,hh,_⟩
 ·omega
 ·cases e1
  refine⟨g,rfl,Zb hh,by rw[hg];exact hl _ (List.getElem_mem hi),?_⟩
  rw[hg,U7,K0 (hl _ (List.getElem_mem hi))]
  exact UT h.row hl i hi
structure DStep (base:Nat) (w w':World) (B mb:Nat) (v:Value) (mn:Nat) (v':Value) (p':DP):Prop where
 ok:DM base w' B mb mn v' p'
 only:Only (Z2 B mb v) w w'
 new:∀ k,Z2 B mb v' k->Z2 B mb v k\/w.heap.size<=k
theorem DStep.same{base:Nat}{w:World}{B mb mn:Nat}{v:Value}{p:DP}(h:DM base w B mb mn v p):DStep base w w B mb v mn v p:=⟨h,Only.refl _ _,λ_ h=>.inl h⟩
theorem DStep.apart{base:Nat}{w w':World}{B mb mn:Nat}{v v':Value}{p':DP}(h:DStep base w w' B mb v mn v' p'){k:Nat}(hk:¬Z2 B mb v k)(hl:k<w.heap.size):¬Z2 B mb v' k:=λhd=>by
 rcases h.new k hd with h1|h1
 ·exact hk h1
 ·omega
theorem DStep.below{base:Nat}{w w':World}{B mb mn mn':Nat}{v v':Value}{p p':DP}(h:DStep base w w' B mb v mn' v' p')(h0:DM base w B mb mn v p)(hb:base<=w.heap.size):Below base w w':=h.only.below hb (λk hk=>(h0.lt k hk).1)
theorem UE(B:Nat)(n:Int)(mb:Nat)(v:Value)(T:TypeId)(armed:Bool)(l:Int)(gone:Bool)(h:(gone || (armed&&l==0))=true)(w:World)(e:Nat->Addr)(hE:DErr w e)(hB:13≠B)(hat:w.heap[B]? = some (.cells (ZW n mb v armed l gone) T (0,0))) :
  Calls Tryz.prog 161 #[.pointer (some ⟨B,0,none⟩)] w λx w'=>x=.returned (YC e 3)/\Upd B (.cells (ZW n mb v armed l true) T (0,0)) w w':=by
 have c3:w.cell? ⟨B,3,none⟩=some (.bool armed):=by rw[Za hat];rfl
 have c4:w.cell? ⟨B,4,none⟩=some (.int .i64 l):=by rw[Za hat];rfl
 have c5:w.cell? ⟨B,5,none⟩=some (.bool gone):=by rw[Za hat];rfl
 have f5:w.frozen? ⟨B,5,none⟩=false:=Zm hat _
 by_cases h1:armed=true->l≠0
 ·have hg:gone=true:=by
   cases armed
   ·simpa using h
   ·have:=h1 rfl
    simpa[this] using h
  subst hg
  refine(NG B armed l h1 w e hE c3 c4 c5).mono ?_
  rintro x w' ⟨rfl,rfl⟩
  exact⟨rfl,Upd.refl hat⟩
 ·obtain⟨ha,hl⟩:armed=true/\l=0:=by
   cases armed
   ·exact absurd (λe=>by cases e) h1
   ·exact⟨rfl,Classical.not_not.1 λhn=>h1 λ_=>hn⟩
  subst ha hl
  have hk:∀ W:World,(∀ b,b≠B->W.heap[b]? = w.heap[b]?)->W.cell? ⟨13,0,none⟩=some (.iface 298 (.pointer (some (e 2)))):=λW hW=>(World.cell?_of_block (a:=⟨13,0,none⟩) (hW _ hB)).trans hE.power
  have hU:=(Upd.refl hat).setCell (j:=5) (.bool true)
  have hk2:=hk _ (λb hb=>hU.block b hb)
  have hUh:=Hd hU
  clear hk h h1 hat hU
  go_enter Tryz.func161,Tryz.ntmps161
  go_wp2_with fail
  go_ret
  exact⟨rfl,hUh.out⟩
theorem Th(B:Nat)(n i:Int)(h:i<0\/n<=i)(w:World)(hc:w.cell? ⟨B,0,none⟩=some (.int .i64 n))(e:Nat->Addr)(hE:DErr w e)(a:Option Addr)(m c:Nat) :
  Calls Tryz.prog 130 #[.pointer (some ⟨B,0,none⟩),.int .i64 i,.slice a m c] w λx w'=>x=.returned (YC e 1)/\w=w':=by
 have hth:=Hd (Ta B n i h w hc e hE)
 clear h
 go_enter Tryz.func130,Tryz.ntmps130
 go_wp2_with fail
 with_reducible refine hth.out.mono ?_
 rintro x w2 ⟨rfl,hq⟩
 obtain rfl:=hq
 clear hth
 go_wp2_with fail
 go_ret
 exact⟨rfl,rfl⟩
theorem GO(B:Nat)(n i:Int)(h0:0<=i)(h1:i<n)(w:World)(hc:w.cell? ⟨B,0,none⟩=some (.int .i64 n))(e:Nat->Addr)(hE:DErr w e)(a:Option Addr)(m c:Nat)(hm:m≠64) :
  Calls Tryz.prog 130 #[.pointer (some ⟨B,0,none⟩),.int .i64 i,.slice a m c] w λx w'=>x=.returned (YC e 2)/\w=w':=by
 have hth:=Hd (YH B n i h0 h1 w hc)
 have hk:=hE.size
 have hm2:((m:Int) != 64)=true:=sY
 clear hm
 go_enter Tryz.func130,Tryz.ntmps130
 go_wp2_with fail
 with_reducible refine hth.out.mono ?_
 rintro x w2 ⟨rfl,hq⟩
 obtain rfl:=hq
 clear hth
 go_wp2_with fail
 go_ret
 exact⟨rfl,rfl⟩
theorem Mj(B:Nat)(n i:Int)(mb:Nat)(v:Value)(T:TypeId)(armed:Bool)(l:Int)(gone:Bool)(h:(gone || (armed&&l==0))=true)(h0:0<=i)(h1:i<n)(w:World)(e:Nat->Addr)(hE:DErr w e)(hB:13≠B)(hat:w.heap[B]? = some (.cells (ZW n mb v armed l gone) T (0,0)))(a:Option Addr)(c:Nat) :
  Calls Tryz.prog 130 #[.pointer (some ⟨B,0,none⟩),.int .i64 i,.slice a 64 c] w λx w'=>x=.returned (YC e 3)/\Upd B (.cells (ZW n mb v armed l true) T (0,0)) w w':=by
 have hc:w.cell? ⟨B,0,none⟩=some (.int .i64 n):=by rw[Za hat];rfl
 have hth:=Hd (YH B n i h0 h1 w hc)
 have hde:=Hd (UE B n mb v T armed l gone h w e hE hB hat)
 clear hat hc h
 go_enter Tryz.func130,Tryz.ntmps130
 go_wp2_with fail
 with_reducible refine hth.out.mono ?_
 rintro x w2 ⟨rfl,hq⟩
 obtain rfl:=hq
 clear hth
 go_wp2_with fail
 with_reducible refine hde.out.mono ?_
 rintro x w2 ⟨rfl,hU⟩
 replace hU:=Hd hU
 clear hde
 simp only[YC]
 go_wp2_with fail
 go_ret
 exact⟨rfl,hU.out⟩
theorem HM(B:Nat)(n:Int)(mb:Nat)(v:Value)(T:TypeId)(armed:Bool)(l:Int)(gone:Bool)(h:(gone || (armed&&l==0))=true)(w:World)(e:Nat->Addr)(hE:DErr w e)(hB:13≠B)(hat:w.heap[B]? = some (.cells (ZW n mb v armed l gone) T (0,0))) :
  Calls Tryz.prog 131 #[.pointer (some ⟨B,0,none⟩)] w λx w'=>x=.returned (YC e 3)/\Upd B (.cells (ZW n mb v armed l true) T (0,0)) w w':=by
 have hde:=Hd (UE B n mb v T armed l gone h w e hE hB hat)
 clear hat h
 go_enter Tryz.func131,Tryz.ntmps131
 go_wp2_with fail
 with_reducible refine hde.out.mono ?_
 rintro x w2 ⟨rfl,hU⟩
 replace hU:=Hd hU
 clear hde
 simp only[YC]
 go_wp2_with fail
 go_ret
 exact⟨rfl,hU.out⟩
theorem DM.gone{base:Nat}{w w':World}{B mb mn:Nat}{v:Value}{p:DP}(h:DM base w B mb mn v p)(hU:Upd B (.cells (ZW p.n mb v p.armed p.l true) 120 (0,0)) w w'):DStep base w w' B mb v mn v { p with gone:=true }:=by
 have hO:Only (λk=>k=B) w w':=Only.ofUpd hU rfl
 exact⟨⟨hU.here,h.map.only hO h.hmB,hO.owns h.row (λk hk=>(h.vB k hk).1),h.hmB,h.vB,h.geB,h.gem,h.lens⟩,hO.mono (λ_ _ e=>.inl e),λ_ h=>.inl h⟩
theorem DP.bad_not{p:DP}(h:p.bad=false):p.gone=false/\(p.armed=true->p.l≠0):=by
 unfold DP.bad at h
 simp only[Bool.or_eq_false_iff,Bool.and_eq_false_iff,beq_eq_false_iff_ne] at h
 refine⟨h.1,λha=>?_⟩
 rcases h.2 with h2|h2
 ·rw[ha] at h2;cases h2
 ·exact h2
theorem Ug{base:Nat}{w:World}{B mb mn:Nat}{v:Value}{p:DP}(h:DM base w B mb mn v p)(hb:base<=w.heap.size)(hws:p.ws.length<=100000)(hl : -1000000<=p.l/\p.l<=9223372036854775807)(e:Nat->Addr)(hE:DErr w e)(hB:13≠B)
  (i:Int) (a:Option Addr) (c:Nat) (bs:List UInt8) (ha:ArgB w a c bs) (hD:∀ b o s,a=some ⟨b,o,s⟩->¬Z2 B mb v b) :
  Calls Tryz.prog 130 #[.pointer (some ⟨B,0,none⟩),.int .i64 i,.slice a bs.length c] w λx w'=>x=.returned (YC e (p.write i bs).2)/\∃ v',DStep base w w' B mb v mn v' (p.write i bs).1:=by
 have hc:w.cell? ⟨B,0,none⟩=some (.int .i64 p.n):=by rw[h.cell];rfl
 by_cases h1:i<0\/p.n<=i
 ·refine(Th B p.n i h1 w hc e hE a bs.length c).mono ?_
  rintro x w' ⟨rfl,rfl⟩
  have:p.write i bs=(p,1):=by unfold DP.write;rw[if_pos h1]
  rw[this]
  exact⟨rfl,v,DStep.same h⟩
 ·by_cases h2:bs.length=64
  ·cases hbad:p.bad
   ·have hw:p.write i bs=({ p with l:=p.l-1,ws:=p.ws++[(i,bs)] },0):=by unfold DP.write;rw[if_neg h1,if_neg oX,hbad];rfl
    obtain⟨hgone,har⟩:=DP.bad_not hbad
    obtain⟨bb,off,rfl,_⟩:=ha.row 0 oX
    have hdb:=hD bb off none rfl
    have hat:=h.at_
    rw[hgone] at hat
    rw[h2]
    refine(MM base B mb p.n i oX oX _ v p.ws p.armed p.l har hl w hat hb h.row (λk hk=>(h.vB k hk).1) oX bb off c bs h2 ha (λe=>hdb (.inl e)) (λk hk e=>hdb (.inr (.inr (e▸hk))))).mono ?_
    rintro x w' ⟨rfl,v',k1,k2,k3,k4⟩
    rw[hw]
    refine⟨rfl,v',⟨by rw[<-hgone] at k1;exact k1,h.map.only k3 (λk=>?_),by rw[List.length_append];exact k2,h.hmB,λk hk=>?_,h.geB,h.gem,λq hq=>?_⟩,k3.mono (λk _ hk=>hk.imp id .inr),λk hk=>?_⟩
    ·rcases k with k|k
     ·exact h.hmB k
     ·exact(h.vB _ k).2 rfl
    ·have h1:=Zb h.at_
     have h2:=h.map.lt
     rcases k4 k hk with k5|k5
     ·exact h.vB k k5
     ·exact⟨oX,oX⟩
    ·rcases List.mem_append.1 hq with hq|hq
     ·exact h.lens q hq
     ·simp at hq;subst hq;exact⟨h2,oX,by show i<p.n;omega⟩
    ·rcases hk with hk|hk|hk
     ·exact .inl (.inl hk)
     ·exact .inl (.inr (.inl hk))
     ·exact(k4 k hk).imp (λh=>.inr (.inr h)) id
   ·have hw:p.write i bs=({ p with gone:=true },3):=by unfold DP.write;rw[if_neg h1,if_neg oX,hbad];rfl
    rw[h2]
    refine(Mj B p.n i mb v _ p.armed p.l p.gone hbad oX oX w e hE hB h.at_ a c).mono ?_
    rintro x w' ⟨rfl,hU⟩
    rw[hw]
    exact⟨rfl,v,h.gone hU⟩
  ·have hw:p.write i bs=(p,2):=by unfold DP.write;rw[if_neg h1,if_pos h2]
   refine(GO B p.n i oX oX w hc e hE a bs.length c h2).mono ?_
   rintro x w' ⟨rfl,rfl⟩
   rw[hw]
   exact⟨rfl,v,DStep.same h⟩
theorem UG{base:Nat}{w:World}{B mb mn:Nat}{v:Value}{p:DP}(h:DM base w B mb mn v p)(hn:p.n<=2048)(hws:p.ws.length<=100000)(hmn:mn<=100000)(hl : -1000000<=p.l/\p.l<=9223372036854775807)(e:Nat->Addr)(hE:DErr w e)(hB:13≠B) :
  Calls Tryz.prog 131 #[.pointer (some ⟨B,0,none⟩)] w λx w'=>x=.returned (YC e p.sync.2)/\∃ v' mn',mn'<=mn+p.ws.length/\DStep base w w' B mb v mn' v' p.sync.1:=by
 cases hbad:p.bad
 ·have hw:p.sync=({ p with l:=p.l-1,f:=ZV (λ_=>some 64) p.ws p.f,ws:=[] },0):=by unfold DP.sync;rw[hbad];rfl
  obtain⟨hgone,har⟩:=DP.bad_not hbad
  have h':=h
  unfold DM at h'
  rw[hgone] at h'
  refine(Hs base B mb mn p.f p.n hn _ v p.ws p.armed p.l har hl w h' hws hmn).mono ?_
  rintro x w' ⟨rfl,k1,k2⟩
  rw[hw]
  refine⟨rfl,_,_,Nat.le_refl _,by unfold DM;rw[hgone];exact k1,k2.mono (λk _ hk=>hk.imp id .inl),λk hk=>?_⟩
  rcases hk with hk|hk|hk
  ·exact .inl (.inl hk)
  ·exact .inl (.inr (.inl hk))
  ·cases hk
 ·have hw:p.sync=({ p with gone:=true },3):=by unfold DP.sync;rw[hbad];rfl
  refine(HM B p.n mb v _ p.armed p.l p.gone hbad w e hE hB h.at_).mono ?_
  rintro x w' ⟨rfl,hU⟩
  rw[hw]
  exact⟨rfl,v,mn,oX,h.gone hU⟩
theorem Px(n:Int)(w:World)(base:Nat)(hb:base<=w.heap.size):DM base ((w.alloc (.map #[] 0)).alloc (.cells (ZW n w.heap.size (.slice none 0 0) false 0 false) 120)) (w.heap.size+1) w.heap.size 0 (.slice none 0 0) (DP.new n):=by
 have hG:Below (w.alloc (.map #[] 0)).heap.size (w.alloc (.map #[] 0)) ((w.alloc (.map #[] 0)).alloc (.cells (ZW n w.heap.size (.slice none 0 0) false 0 false) 120)):=bR.alloc nR _
 have hh:=heap_alloc_new (w.alloc (.map #[] 0)) (.cells (ZW n w.heap.size (.slice none 0 0) false 0 false) 120 (0,0))
 rw[World.size_alloc] at hh
 exact⟨hh,(SureMap.made w).only (Only.ofBelow (D:=λ_=>False) hG) (λh=>h),⟨rfl,.inl ⟨rfl,rfl⟩⟩,oX,λk hk=>(by cases hk),oX,hb,λp hp=>(by cases hp)⟩
theorem DErr.below{w w':World}{e:Nat->Addr}(h:DErr w e)(hb:Below w.heap.size w w'):DErr w' e:=
 ⟨(hb.cell (p:=⟨0,0,none⟩) (World.block_lt_of_cell? w _ h.range)).trans h.range,(hb.cell (p:=⟨7,0,none⟩) (World.block_lt_of_cell? w _ h.size)).trans h.size,(hb.cell (p:=⟨13,0,none⟩) (World.block_lt_of_cell? w _ h.power)).trans h.power⟩
theorem KE{base:Nat}{w:World}{B mb mn:Nat}{v:Value}{p:DP}(h:DM base w B mb mn v p)(hn:p.n<=2048)(hws:p.ws.length<=100000)(hg:p.gone=false)(i:Int)(h0:0<=i)(h1:i<p.n) :
  Calls Tryz.prog 126 #[.pointer (some ⟨B,0,none⟩),.int .i64 i] w λx w'=>∃ g off,x=.returned (.tuple #[.slice (some ⟨g,off,none⟩) 64 64,.nilIface])/\RdBlk w' g off (ZP p.ws p.f i)/\w.heap.size<=g/\Below w.heap.size w w':=by
 obtain⟨a,c,rfl⟩:=h.form
 exact Tm B mb mn p.f p.n i h0 h1 hn w a c p.ws oX (by rw[h.cell];rfl) (by rw[h.cell];rfl) (by rw[h.cell];rfl) (by rw[h.cell,hg];rfl) h.map (λq hq=>(h.lens q hq).1) h.rowN
end Go.Proofs.YtpdhceiodgnbmaaGreatDoor
