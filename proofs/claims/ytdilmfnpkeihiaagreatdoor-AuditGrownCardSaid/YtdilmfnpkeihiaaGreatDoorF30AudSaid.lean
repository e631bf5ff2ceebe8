import Derived.Test.YtdilmfnpkeihiaaGreatDoorF0AudSaid
import Derived.Test.YtdilmfnpkeihiaaGreatDoorF2AudSaid
import Derived.Test.YtdilmfnpkeihiaaGreatDoorF28AudSaid
set_option linter.unusedVariables false
set_option linter.unusedSimpArgs false
set_option linter.unnecessarySimpa false
set_option maxRecDepth 100000
set_option maxHeartbeats 8000000
namespace Go.Proofs.YtdilmfnpkeihiaaGreatDoor
open Go.RowKit
theorem U7(base B mb mn:Nat)(f:Int->List UInt8)(n:Int)(hn:n<=2048)(T:TypeId)(v:Value)(ws:List (Int×List UInt8))(armed:Bool)(l:Int)(har:armed=true->l≠0)(hl : -1000000<=l/\l<=9223372036854775807)(w:World)
  (h:DiskOk base w B T n mb mn f v ws armed l false) (hws:ws.length<=100000) (hmn:mn<=100000) :
  Calls Tryz.prog 104 #[.pointer (some ⟨B,0,none⟩)] w λx w'=>x=.returned .nilIface/\
   DiskOk base w' B T n mb (mn+ws.length) (ZI (λ_=>some 64) ws f) (.slice none 0 0) [] armed (l-1) false/\Only (λk=>k=B\/k=mb) w w':=by
 have hat:=h.at_
 have hBl:=Zb hat
 have c3:w.cell? ⟨B,3,none⟩=some (.bool armed):=by rw[Za hat];rfl
 have c4:w.cell? ⟨B,4,none⟩=some (.int .i64 l):=by rw[Za hat];rfl
 have c5:w.cell? ⟨B,5,none⟩=some (.bool false):=by rw[Za hat];rfl
 have hde:=Hd (J1 B armed l har hl w c3 c4 c5 (Zg hat _))
 obtain⟨w1,hw1⟩:∃ w1,w1=w.setCell ⟨B,4,none⟩ (.int .i64 (l-1)):=⟨_,rfl⟩
 have hU1:=(Upd.refl hat).setCell (j:=4) (.int .i64 (l-1))
 rw[<-hw1] at hU1
 have hO1:Only (λk=>k=B) w w1:=Only.ofUpd hU1 rfl
 obtain⟨va,vc,hv⟩:∃ a c,v=.slice a ws.length c:=by
  rcases h.row.2 with ⟨e1,h2⟩|⟨g,c,cur,e1,_⟩
  ·exact⟨none,0,by rw[e1,h2]⟩
  ·exact⟨_,c,e1⟩
 have hat1:w1.heap[B]? = some (.cells (Zx n mb v armed (l-1) false) T (0,0)):=hU1.here
 have hc2:w1.cell? ⟨B,2,none⟩=some (.slice va ws.length vc):=by rw[Za hat1,<-hv];rfl
 have hm1:SureMap w1 mb mn f:=h.map.only hO1 h.hmB
 have hrow1:w1.ownsRow base 232 65 v ws.length (Z7 ws):=hO1.owns h.row (λk hk=>(h.vB k hk).1)
 have hlens:∀ p∈ws,p.2.length=64:=λp hp=>(h.lens p hp).1
 have hmlt:=hm1.lt
 have hs1:=hO1.size
 have hB1:=Zb hat1
 replace h:=Hd h
 replace hat1:=Hd hat1
 replace hm1:=Hd hm1
 replace hrow1:=Hd hrow1
 replace hO1:=Hd hO1
 replace hv:=Hd hv
 replace hw1:=Hd hw1
 replace hlens:=Hd hlens
 clear hU1 hat c3 c4 c5
 go_enter Tryz.func104,Tryz.ntmps104
 go_wp2_with fail
 with_reducible refine hde.out.mono ?_
 rintro x w2 ⟨rfl,hq⟩
 obtain rfl:w1=w2:=hw1.out.trans hq.symm
 clear hq hde hw1
 go_wp2_with fail
 go_loopw [17,18,19,5,20,21,22,23,16] (λ_ _ _ _ _ _ _ _ j wr=>∃ k:Nat,k<=ws.length/\j=.int .i64 k/\SureMap wr mb (mn+k) (ZI (λ_=>some 64) (ws.take k) f)/\Only (λb=>b=mb) w1 wr) (λ_ _ _ _ _ _ _ _ j _=>ws.length-(intOf j).toNat)
 case atStart=>exact⟨0,Nat.zero_le _,rfl,hm1.out,Only.refl _ _⟩
 case round=>
  obtain⟨k,hk,rfl,hmk,hOk⟩:=hrel
  have hsk:=hOk.size
  have hwrB:=(World.cell?_of_block (hOk.block B hB1 (λe=>h.out.hmB e.symm)):wr.cell? ⟨B,1,none⟩=w1.cell? ⟨B,1,none⟩)
  have hcB:wr.cell? ⟨B,1,none⟩=some (.map (some mb)):=hwrB.trans (by rw[Za hat1.out];rfl)
  have hc2r:wr.cell? ⟨B,2,none⟩=some (.slice va ws.length vc):=(World.cell?_of_block (hOk.block B hB1 (λe=>h.out.hmB e.symm)):wr.cell? ⟨B,2,none⟩=w1.cell? ⟨B,2,none⟩).trans hc2
  have hBlk:wr.heap[B]? = some (.cells (Zx n mb v armed (l-1) false) T (0,0)):=(hOk.block B hB1 (λe=>h.out.hmB e.symm)).trans hat1.out
  have hf2r:wr.frozen? ⟨B,2,none⟩=false:=Zg hBlk _
  replace hBlk:=Hd hBlk
  have hBr:=World.block_lt_of_cell? wr _ hcB
  have hmr:=hmk.lt
  clear hwrB
  replace hcB:=Hd hcB
  replace hmk:=Hd hmk
  replace hOk:=Hd hOk
  by_cases hlt:k<ws.length
  ·have hlt2:(k:Int)<ws.length:=oX
   obtain⟨g,rfl⟩:∃ g,va=some ⟨g,0,none⟩:=by
    rcases hrow1.out.2 with ⟨e1,h2⟩|⟨g,c,cur,e1,_⟩
    ·omega
    ·rw[hv.out] at e1
     injection e1 with e1
     exact⟨g,e1⟩
   have hgm:g≠mb:=(h.out.vB g (by rw[hv.out];rfl)).2
   have hrw:wr.ownsRow base 232 65 (.slice (some ⟨g,0,none⟩) ws.length vc) ws.length (Z7 ws):=by
    have:=hrow1.out
    rw[hv.out] at this
    exact hOk.out.owns this (λb hb=>by cases hb;exact hgm)
   obtain⟨i,hi⟩:∃ i,i=ws[k].1:=⟨_,rfl⟩
   obtain⟨bs,hbsd⟩:∃ b,b=ws[k].2:=⟨_,rfl⟩
   have hir:=(h.out.lens ws[k] (List.getElem_mem hlt)).2
   rw[<-hi] at hir
   have hbs:bs.length=64:=by rw[hbsd];exact hlens.out _ (List.getElem_mem hlt)
   obtain⟨R,hRd⟩:∃ R,R=#[Value.int .i64 i]++(cB bs).toArray:=⟨_,rfl⟩
   have hRs:R.size=65:=by rw[hRd];simp[Zc,hbs]
   have hRl:R.toList=.int .i64 i::cB bs:=by rw[hRd];simp
   have hrg:wr.rangeAt g (k*65) R.toList:=by
    rw[hRl,hi,hbsd]
    exact XV hrw hlens.out k hlt
   have hR1:R.all (·.oneCell')=true:=by
    rw[Array.all_eq_true']
    intro u hu
    have hu:=Array.mem_toList_iff.2 hu
    rw[hRl] at hu
    rcases List.mem_cons.1 hu with rfl|hu
    ·rfl
    ·exact Zs _ u hu
   have huW:Tryz.prog.underlying 232=some _:=Tryz.underlying232
   have hszW:(Tryz.prog.info? 232).map (·.size)=some R.size:=by rw[hRs];kernel_rfl
   have hszL:(Tryz.prog.info? 232).map (·.size)=some R.toList.length:=by rw[Array.length_toList,hRs];kernel_rfl
   have hdn:∀ w3,SureMap w3 mb (mn+k) (ZI (λ_=>some 64) (ws.take k) f)->w3.cell? ⟨B,1,none⟩=some (.map (some mb))->_:=λw3 h1 h2=>K1 B mb (mn+k) (ZI (λ_=>some 64) (ws.take k) f) i oX oX bs hbs 64 nR 64 rfl w3 h2 h1 oX h.out.hmB
   rw[<-hRd] at hdn
   replace hrg:=Hd hrg
   replace hrw:=Hd hrw
   replace hbsd:=Hd hbsd
   replace hi:=Hd hi
   replace hRd:=Hd hRd
   replace hRl:=Hd hRl
   replace hdn:=Hd hdn
   go_wp2_with (first
    | (refine wpList_load_mid rfl 232 (.tmp 18) rfl g _ rfl R.toList _ hrg.out huW rfl hszL ?_;rw[Array.toArray_toList])
    | (refine Zd rfl 232 (.tmp 5) (.tmp 19) rfl wr.heap.size _ R rfl rfl (Hd (heap_alloc_new _ _)) hszW (by rw[hRs];rfl) hR1 ?_;intro w3 hU3)
    | (refine Ze rfl 232 (.tmp 5) rfl wr.heap.size R _ rfl (Hd hU3.out.here) huW rfl hszW ?_))
   have hG3:Grown wr w3:=Below.trans (Grown.alloc (Grown.refl wr) _) (hU3.out.below nR)
   have hm3:=hmk.out.only (Only.ofBelow (D:=λ_=>False) hG3) (λh=>h)
   have hc3:=(hG3.cell (p:=⟨B,1,none⟩) hBr).trans hcB.out
   have hcall:=Hd (hdn.out w3 hm3 hc3)
   have hO3:=Hd ((hOk.out.trans (Only.ofBelow (D:=λb=>b=mb) hG3) (λ_ _ h=>h)))
   clear hU3 hdn hm3 hc3 hG3
   with_reducible refine hcall.out.mono ?_
   rintro x w4 ⟨rfl,hm4,hO4⟩
   clear hcall
   replace hm4:=Hd hm4
   replace hO4:=Hd hO4
   go_wp2_with fail
   go_roundw
   case rel=>
    refine⟨k+1,oX,by go_num,?_,hO3.out.trans hO4.out (λ_ _ h=>h)⟩
    rw[Uc hlt,<-hi.out,<-hbsd.out,<-Nat.add_assoc]
    exact hm4.out
   case measure=>simp[intOf];omega
  ·obtain rfl:k=ws.length:=oX
   go_wp2_with fail
   go_ret
   have hmk2:=hmk.out
   rw[List.take_length] at hmk2
   have hU:=(Upd.refl hBlk.out).setCell (j:=2) (.slice none 0 0)
   have hOU:Only (λb=>b=B) wr _:=Only.ofUpd hU rfl
   refine⟨rfl,⟨hU.here,hmk2.only hOU h.out.hmB,⟨rfl,.inl ⟨rfl,rfl⟩⟩,h.out.hmB,λk hk=>by(cases hk),h.out.geB,h.out.gem,λp hp=>by(cases hp)⟩,?_⟩
   exact((hO1.out.mono (E:=λk=>k=B\/k=mb) (λ_ _ h=>.inl h)).trans hOk.out (λ_ _ h=>.inr h)).trans hOU (λ_ _ h=>.inl h)
end Go.Proofs.YtdilmfnpkeihiaaGreatDoor
