import Derived.Test.YtpdhceiodgnbmaaGreatDoorF0Safe21Said
import Derived.Test.YtpdhceiodgnbmaaGreatDoorF1Safe21Said
import Derived.Test.YtpdhceiodgnbmaaGreatDoorF10Safe21Said
import Derived.Deep.QuietTactic
import Derived.Test.YtpdhceiodgnbmaaGreatDoorF9Safe21Said
set_option linter.unusedVariables false
set_option linter.unusedSimpArgs false
set_option linter.unnecessarySimpa false
set_option maxRecDepth 100000
set_option maxHeartbeats 8000000
namespace Go.Proofs.YtpdhceiodgnbmaaGreatDoor
open Go.RowKit
def Q8(kept torn:Int)(s:Nat)(j:Nat):Option Nat:=
 if (j:Int)<max kept 0 then some 64 else if (j:Int)=max kept 0 then some (min (max torn 0) 64).toNat
 else if (j:Int)-max kept 0-1<63/\(bits BinOp.and IntKind.u64 ((s:Int) / 2 ^ (((j:Int)-max kept 0).toNat-1)) 1==1)=true then some 64 else none
theorem Ld{kept torn:Int}{s j k:Nat}(h:Q8 kept torn s j=some k):k<=64:=by
 unfold Q8 at h
 split at h
 ·injection h with h;omega
 ·split at h
  ·injection h with h;omega
  ·split at h
   ·injection h with h;omega
   ·cases h
theorem Pu(base B mb mn:Nat)(f:Int->List UInt8)(n:Int)(hn:n<=2048)(T:TypeId)(v:Value)(ws:List (Int×List UInt8))(armed:Bool)(l:Int)(gone:Bool)(w:World)
  (h:DiskOk base w B T n mb mn f v ws armed l gone) (hws:ws.length<=100000) (hmn:mn<=100000) (kept torn:Int) (s:Nat) (hk : -9223372036854775808<=kept/\kept<=9223372036854775807) (ht : -9223372036854775808<=torn/\torn<=9223372036854775807) (hs:s<18446744073709551616) :
  Calls Tryz.prog 27 #[.pointer (some ⟨B,0,none⟩),.agg #[.int .i64 kept,.int .i64 torn,.int .u64 s]] w λx w'=>x=.returned (.tuple #[])/\
   DiskOk base w' B T n mb (mn+ws.length) (ZJ (Q8 kept torn s) ws f) (.slice none 0 0) [] false 0 false/\Only (λk=>k=B\/k=mb) w w':=by
 have hat:=h.at_
 have hBl:=Zb hat
 obtain⟨va,vc,hv⟩:∃ a c,v=.slice a ws.length c:=by
  rcases h.row.2 with ⟨e1,h2⟩|⟨g,c,cur,e1,_⟩
  ·exact⟨none,0,by rw[e1,h2]⟩
  ·exact⟨_,c,e1⟩
 have hc2:w.cell? ⟨B,2,none⟩=some (.slice va ws.length vc):=by rw[Za hat,<-hv];rfl
 have hlens:∀ p∈ws,p.2.length=64:=λp hp=>(h.lens p hp).1
 have hmlt:=h.map.lt
 obtain⟨w1,hw1⟩:∃ w1,w1=w.alloc (.cells #[.int .i64 kept,.int .i64 torn,.int .u64 s] 71):=⟨_,rfl⟩
 have hg1:Grown w w1:=by rw[hw1];exact Grown.alloc (Grown.refl w) _
 have hx1:w1.heap[w.heap.size]? = some (.cells #[.int .i64 kept,.int .i64 torn,.int .u64 s] 71 (0,0)):=by rw[hw1];exact heap_alloc_new w _
 have hO1:Only (λk=>k=mb) w w1:=Only.ofBelow hg1
 have hm1:SureMap w1 mb mn f:=h.map.only (Only.ofBelow (D:=λ_=>False) hg1) (λh=>h)
 have hc21:w1.cell? ⟨B,2,none⟩=some (.slice va ws.length vc):=(hg1.cell (p:=⟨B,2,none⟩) hBl).trans hc2
 have hx0:w1.cell? ⟨w.heap.size,0,none⟩=some (.int .i64 kept):=by rw[Za hx1];rfl
 have hs1:w1.heap.size=w.heap.size+1:=by rw[hw1];exact World.size_alloc ..
 obtain⟨K,hK⟩:∃ K,K=max kept 0:=⟨_,rfl⟩
 have hK0:0<=K:=oX
 have hK1:K<=9223372036854775807:=oX
 replace h:=Hd h
 replace hat:=Hd hat
 replace hm1:=Hd hm1
 replace hO1:=Hd hO1
 replace hv:=Hd hv
 replace hw1:=Hd hw1
 replace hlens:=Hd hlens
 replace hx1:=Hd hx1
 replace hK:=Hd hK
 have hif:(if kept<0 then (0:Int) else kept)=K:=by rw[hK.out];split<;>omega
 clear hg1
 go_enter Tryz.func27,Tryz.ntmps27
 go_wp2_with fail
 rw[<-hw1.out]
 go_loopw [17,18,19,6,5,20,21,22,23,24,7,26,27,28,25,29,30,31,33,34,35,32,36,37,38,39,40,41,42,44,45,46,47,48,49,50,51,52,53,43,54,55,56,57,16] (λ_ _ _ _ _ _ _ _ _ _ _ _ _ _ _ _ _ _ _ _ _ _ _ _ _ _ _ _ _ _ _ _ _ _ _ _ _ _ _ _ _ _ _ _ j wr=>∃ k:Nat,k<=ws.length/\j=.int .i64 k/\SureMap wr mb (mn+k) (ZJ (Q8 kept torn s) (ws.take k) f)/\Only (λb=>b=mb) w1 wr) (λ_ _ _ _ _ _ _ _ _ _ _ _ _ _ _ _ _ _ _ _ _ _ _ _ _ _ _ _ _ _ _ _ _ _ _ _ _ _ _ _ _ _ _ _ j _=>ws.length-(intOf j).toNat)
 case atStart=>exact⟨0,Nat.zero_le _,rfl,hm1.out,Only.refl _ _⟩
 case round=>
  obtain⟨k,hk0,rfl,hmk,hOk⟩:=hrel
  have hsk:=hOk.size
  have hB1:B<w1.heap.size:=oX
  have hmne:∀ b,b<w.heap.size+1->b≠mb->wr.heap[b]? = w1.heap[b]? := λb hb hn=>hOk.block b oX hn
  have hat1:w1.heap[B]? = some (.cells (Qd n mb v armed l gone) T (0,0)):=by
   rw[hw1.out,<-hat.out]
   exact heap_alloc_old _ _ hBl
  have hBlk:wr.heap[B]? = some (.cells (Qd n mb v armed l gone) T (0,0)):=(hmne B oX (λe=>h.out.hmB e.symm)).trans hat1
  have hXk:wr.heap[w.heap.size]? = some (.cells #[.int .i64 kept,.int .i64 torn,.int .u64 s] 71 (0,0)):=(hmne _ oX oX).trans hx1.out
  have hcB:wr.cell? ⟨B,1,none⟩=some (.map (some mb)):=by rw[Za hBlk];rfl
  have hxr1:wr.cell? ⟨w.heap.size,1,none⟩=some (.int .i64 torn):=by rw[Za hXk];rfl
  have hxr2:wr.cell? ⟨w.heap.size,2,none⟩=some (.int .u64 s):=by rw[Za hXk];rfl
  have hBr:=World.block_lt_of_cell? wr _ hcB
  have hwX:=World.block_lt_of_cell? wr _ hxr1
  have hmr:=hmk.lt
  have g2:wr.frozen? ⟨B,2,none⟩=false:=Zj hBlk _
  have g3:wr.frozen? ⟨B,3,none⟩=false:=Zj hBlk _
  have g4:wr.frozen? ⟨B,4,none⟩=false:=Zj hBlk _
  have g5:wr.frozen? ⟨B,5,none⟩=false:=Zj hBlk _
  have e2:wr.cell? ⟨B,2,none⟩=some v:=by rw[Za hBlk];rfl
  have e3:wr.cell? ⟨B,3,none⟩=some (.bool armed):=by rw[Za hBlk];rfl
  have e4:wr.cell? ⟨B,4,none⟩=some (.int .i64 l):=by rw[Za hBlk];rfl
  have e5:wr.cell? ⟨B,5,none⟩=some (.bool gone):=by rw[Za hBlk];rfl
  clear hmne
  replace hBlk:=Hd hBlk
  replace hXk:=Hd hXk
  replace hcB:=Hd hcB
  replace hmk:=Hd hmk
  replace hOk:=Hd hOk
  replace hat1:=Hd hat1
  by_cases hlt:k<ws.length
  ·clear e2 e3 e4 e5 g2 g3 g4 g5
   have hlt2:(k:Int)<ws.length:=oX
   obtain⟨g,rfl⟩:∃ g,va=some ⟨g,0,none⟩:=by
    rcases h.out.row.2 with ⟨e1,h2⟩|⟨g,c,cur,e1,_⟩
    ·omega
    ·rw[hv.out] at e1
     injection e1 with e1
     exact⟨g,e1⟩
   have hgm:g≠mb:=(h.out.vB g (by rw[hv.out];rfl)).2
   have hrw:wr.ownsRow base 132 65 (.slice (some ⟨g,0,none⟩) ws.length vc) ws.length (QD ws):=by
    have:=h.out.row
    rw[hv.out] at this
    exact(hO1.out.trans hOk.out (λ_ _ h=>h)).owns this (λb hb=>by cases hb;exact hgm)
   obtain⟨i,hi⟩:∃ i,i=ws[k].1:=⟨_,rfl⟩
   obtain⟨bs,hbsd⟩:∃ b,b=ws[k].2:=⟨_,rfl⟩
   have hir:=(h.out.lens ws[k] (List.getElem_mem hlt)).2
   rw[<-hi] at hir
   have hbs:bs.length=64:=by rw[hbsd];exact hlens.out _ (List.getElem_mem hlt)
   obtain⟨R,hRd⟩:∃ R,R=#[Value.int .i64 i]++(cB bs).toArray:=⟨_,rfl⟩
   have hRs:R.size=65:=by rw[hRd];simp[Ze,hbs]
   have hRl:R.toList=.int .i64 i::cB bs:=by rw[hRd];simp
   have hrg:wr.rangeAt g (k*65) R.toList:=by
    rw[hRl,hi,hbsd]
    exact UH hrw hlens.out k hlt
   have hR1:R.all (·.oneCell')=true:=by
    rw[Array.all_eq_true']
    intro u hu
    have hu:=Array.mem_toList_iff.2 hu
    rw[hRl] at hu
    rcases List.mem_cons.1 hu with rfl|hu
    ·rfl
    ·exact ZI _ u hu
   have huW:Tryz.prog.underlying 132=some _:=Tryz.underlying132
   have hszW:(Tryz.prog.info? 132).map (·.size)=some R.size:=by rw[hRs];kernel_rfl
   have hszL:(Tryz.prog.info? 132).map (·.size)=some R.toList.length:=by rw[Array.length_toList,hRs];kernel_rfl
   have hdn:∀ (m:Nat) (hm:m<=64) (M:Int) (hM:M=m) w3,SureMap w3 mb (mn+k) (ZJ (Q8 kept torn s) (ws.take k) f)->w3.cell? ⟨B,1,none⟩=some (.map (some mb))->_:=λm hm M hM w3 h1 h2=>N8 B mb (mn+k) (ZJ (Q8 kept torn s) (ws.take k) f) i oX oX bs hbs m hm M hM w3 h2 h1 oX h.out.hmB
   rw[<-hRd] at hdn
   have hw23:IntKind.i64.wrap ((k:Int)-K)=k-K:=IntWalk.i64_in _ oX
   have hw24:IntKind.i64.wrap ((k:Int)-K-1)=k-K-1:=IntWalk.i64_in _ oX
   replace hrg:=Hd hrg
   replace hrw:=Hd hrw
   replace hbsd:=Hd hbsd
   replace hi:=Hd hi
   replace hRd:=Hd hRd
   replace hRl:=Hd hRl
   replace hdn:=Hd hdn
   clear hc2 hc21 hx0 hif
   by_cases k1:(k:Int)<K
   ·have hks:Hid (Q8 kept torn s k=some 64):=Hd (by unfold Q8;rw[<-hK.out,if_pos k1])
    go_wp2_with (first
    | (refine wpList_load_mid rfl 132 (.tmp 19) rfl g _ rfl R.toList _ hrg.out huW rfl hszL ?_;rw[Array.toArray_toList])
    | (refine Zc rfl 132 (.tmp 6) (.tmp 20) rfl wr.heap.size _ R rfl rfl (Hd (heap_alloc_new _ _)) hszW (by rw[hRs];rfl) hR1 ?_;intro w3 hU3;have hG3:Hid (Grown wr w3):=Hd (Below.trans (Grown.alloc (Grown.refl wr) _) (hU3.out.below nR));have hx31:w3.cell? ⟨w.heap.size,1,none⟩=some (.int .i64 torn):=(hG3.out.cell (p:=⟨w.heap.size,1,none⟩) hwX).trans hxr1;have hx32:w3.cell? ⟨w.heap.size,2,none⟩=some (.int .u64 s):=(hG3.out.cell (p:=⟨w.heap.size,2,none⟩) hwX).trans hxr2)
    | (refine Zd rfl 132 (.tmp 6) rfl wr.heap.size R _ rfl (Hd hU3.out.here) huW rfl hszW ?_))
    have hcall:=Hd (hdn.out 64 nR 64 rfl w3 (hmk.out.only (Only.ofBelow (D:=λ_=>False) hG3.out) (λh=>h)) ((hG3.out.cell (p:=⟨B,1,none⟩) hBr).trans hcB.out))
    have hO3:=Hd ((hOk.out.trans (Only.ofBelow (D:=λb=>b=mb) hG3.out) (λ_ _ h=>h)))
    clear hU3 hdn hG3 hx31 hx32
    with_reducible refine hcall.out.mono ?_
    rintro x w4 ⟨rfl,hm4,hO4⟩
    clear hcall
    replace hm4:=Hd hm4
    replace hO4:=Hd hO4
    go_wp2_with fail
    go_roundw
    case rel=>
     refine⟨k+1,oX,by go_num,?_,hO3.out.trans hO4.out (λ_ _ h=>h)⟩
     rw[YG hlt,hks.out,<-hi.out,<-hbsd.out,<-Nat.add_assoc]
     exact hm4.out
    case measure=>simp[intOf];omega
   by_cases k2:(k:Int)=K
   ·obtain rfl:K=(k:Int):=k2.symm
    clear k2
    obtain⟨t0,ht0⟩:∃ t0,t0=max torn 0:=⟨_,rfl⟩
    obtain⟨t1,ht1⟩:∃ t1,t1=min t0 64:=⟨_,rfl⟩
    have hif1:(if torn<0 then (0:Int) else torn)=t0:=by rw[ht0];split<;>omega
    have hif2:(if 64<t0 then (64:Int) else t0)=t1:=by rw[ht1];split<;>omega
    have htm:t1.toNat<=64:=oX
    have htn:0<=t1:=oX
    replace ht0:=Hd ht0
    replace ht1:=Hd ht1
    have hks:Hid (Q8 kept torn s k=some t1.toNat):=Hd (by unfold Q8;rw[<-hK.out,if_neg k1,if_pos rfl,<-ht0.out,<-ht1.out])
    go_wp2_with (first
    | (refine wpList_load_mid rfl 132 (.tmp 19) rfl g _ rfl R.toList _ hrg.out huW rfl hszL ?_;rw[Array.toArray_toList])
    | (refine Zc rfl 132 (.tmp 6) (.tmp 20) rfl wr.heap.size _ R rfl rfl (Hd (heap_alloc_new _ _)) hszW (by rw[hRs];rfl) hR1 ?_;intro w3 hU3;have hG3:Hid (Grown wr w3):=Hd (Below.trans (Grown.alloc (Grown.refl wr) _) (hU3.out.below nR));have hx31:w3.cell? ⟨w.heap.size,1,none⟩=some (.int .i64 torn):=(hG3.out.cell (p:=⟨w.heap.size,1,none⟩) hwX).trans hxr1;have hx32:w3.cell? ⟨w.heap.size,2,none⟩=some (.int .u64 s):=(hG3.out.cell (p:=⟨w.heap.size,2,none⟩) hwX).trans hxr2)
    | (refine Zd rfl 132 (.tmp 6) rfl wr.heap.size R _ rfl (Hd hU3.out.here) huW rfl hszW ?_))
    have hcall:=Hd (hdn.out t1.toNat htm t1 oX w3 (hmk.out.only (Only.ofBelow (D:=λ_=>False) hG3.out) (λh=>h)) ((hG3.out.cell (p:=⟨B,1,none⟩) hBr).trans hcB.out))
    have hO3:=Hd ((hOk.out.trans (Only.ofBelow (D:=λb=>b=mb) hG3.out) (λ_ _ h=>h)))
    clear hU3 hdn hG3 hx31 hx32
    with_reducible refine hcall.out.mono ?_
    rintro x w4 ⟨rfl,hm4,hO4⟩
    clear hcall
    replace hm4:=Hd hm4
    replace hO4:=Hd hO4
    go_wp2_with fail
    go_roundw
    case rel=>
     refine⟨k+1,oX,by go_num,?_,hO3.out.trans hO4.out (λ_ _ h=>h)⟩
     rw[YG hlt,hks.out,<-hi.out,<-hbsd.out,<-Nat.add_assoc]
     exact hm4.out
    case measure=>simp[intOf];omega
   by_cases k3:(k:Int)-K-1<63
   ·have hc24:(k:Int)-K-1≥0:=oX
    cases k4:(bits BinOp.and IntKind.u64 ((s:Int) / 2 ^ (((k:Int)-K).toNat-1)) 1==1)
    ·have hks:Hid (Q8 kept torn s k=none):=Hd (by unfold Q8;rw[<-hK.out,if_neg k1,if_neg k2,if_neg (λe=>by rw[k4] at e;cases e.2)])
     go_wp2_with (first
     | (refine wpList_load_mid rfl 132 (.tmp 19) rfl g _ rfl R.toList _ hrg.out huW rfl hszL ?_;rw[Array.toArray_toList])
     | (refine Zc rfl 132 (.tmp 6) (.tmp 20) rfl wr.heap.size _ R rfl rfl (Hd (heap_alloc_new _ _)) hszW (by rw[hRs];rfl) hR1 ?_;intro w3 hU3;have hG3:Hid (Grown wr w3):=Hd (Below.trans (Grown.alloc (Grown.refl wr) _) (hU3.out.below nR));have hx31:w3.cell? ⟨w.heap.size,1,none⟩=some (.int .i64 torn):=(hG3.out.cell (p:=⟨w.heap.size,1,none⟩) hwX).trans hxr1;have hx32:w3.cell? ⟨w.heap.size,2,none⟩=some (.int .u64 s):=(hG3.out.cell (p:=⟨w.heap.size,2,none⟩) hwX).trans hxr2)
     | (refine Zd rfl 132 (.tmp 6) rfl wr.heap.size R _ rfl (Hd hU3.out.here) huW rfl hszW ?_))
     go_roundw
     case rel=>
      refine⟨k+1,oX,by go_num,?_,hOk.out.trans (Only.ofBelow (D:=λb=>b=mb) hG3.out) (λ_ _ h=>h)⟩
      rw[YG hlt,hks.out]
      exact(hmk.out.only (Only.ofBelow (D:=λ_=>False) hG3.out) (λh=>h)).mono oX
     case measure=>simp[intOf];omega
    ·have hks:Hid (Q8 kept torn s k=some 64):=Hd (by unfold Q8;rw[<-hK.out,if_neg k1,if_neg k2,if_pos ⟨k3,k4⟩])
     go_wp2_with (first
     | (refine wpList_load_mid rfl 132 (.tmp 19) rfl g _ rfl R.toList _ hrg.out huW rfl hszL ?_;rw[Array.toArray_toList])
     | (refine Zc rfl 132 (.tmp 6) (.tmp 20) rfl wr.heap.size _ R rfl rfl (Hd (heap_alloc_new _ _)) hszW (by rw[hRs];rfl) hR1 ?_;intro w3 hU3;have hG3:Hid (Grown wr w3):=Hd (Below.trans (Grown.alloc (Grown.refl wr) _) (hU3.out.below nR));have hx31:w3.cell? ⟨w.heap.size,1,none⟩=some (.int .i64 torn):=(hG3.out.cell (p:=⟨w.heap.size,1,none⟩) hwX).trans hxr1;have hx32:w3.cell? ⟨w.heap.size,2,none⟩=some (.int .u64 s):=(hG3.out.cell (p:=⟨w.heap.size,2,none⟩) hwX).trans hxr2)
     | (refine Zd rfl 132 (.tmp 6) rfl wr.heap.size R _ rfl (Hd hU3.out.here) huW rfl hszW ?_))
     have hcall:=Hd (hdn.out 64 nR 64 rfl w3 (hmk.out.only (Only.ofBelow (D:=λ_=>False) hG3.out) (λh=>h)) ((hG3.out.cell (p:=⟨B,1,none⟩) hBr).trans hcB.out))
     have hO3:=Hd ((hOk.out.trans (Only.ofBelow (D:=λb=>b=mb) hG3.out) (λ_ _ h=>h)))
     clear hU3 hdn hG3 hx31 hx32
     with_reducible refine hcall.out.mono ?_
     rintro x w4 ⟨rfl,hm4,hO4⟩
     clear hcall
     replace hm4:=Hd hm4
     replace hO4:=Hd hO4
     go_wp2_with fail
     go_roundw
     case rel=>
      refine⟨k+1,oX,by go_num,?_,hO3.out.trans hO4.out (λ_ _ h=>h)⟩
      rw[YG hlt,hks.out,<-hi.out,<-hbsd.out,<-Nat.add_assoc]
      exact hm4.out
     case measure=>simp[intOf];omega
   ·have hks:Hid (Q8 kept torn s k=none):=Hd (by unfold Q8;rw[<-hK.out,if_neg k1,if_neg k2,if_neg (λe=>k3 e.1)])
    go_wp2_with (first
    | (refine wpList_load_mid rfl 132 (.tmp 19) rfl g _ rfl R.toList _ hrg.out huW rfl hszL ?_;rw[Array.toArray_toList])
    | (refine Zc rfl 132 (.tmp 6) (.tmp 20) rfl wr.heap.size _ R rfl rfl (Hd (heap_alloc_new _ _)) hszW (by rw[hRs];rfl) hR1 ?_;intro w3 hU3;have hG3:Hid (Grown wr w3):=Hd (Below.trans (Grown.alloc (Grown.refl wr) _) (hU3.out.below nR));have hx31:w3.cell? ⟨w.heap.size,1,none⟩=some (.int .i64 torn):=(hG3.out.cell (p:=⟨w.heap.size,1,none⟩) hwX).trans hxr1;have hx32:w3.cell? ⟨w.heap.size,2,none⟩=some (.int .u64 s):=(hG3.out.cell (p:=⟨w.heap.size,2,none⟩) hwX).trans hxr2)
    | (refine Zd rfl 132 (.tmp 6) rfl wr.heap.size R _ rfl (Hd hU3.out.here) huW rfl hszW ?_))
    go_roundw
    case rel=>
     refine⟨k+1,oX,by go_num,?_,hOk.out.trans (Only.ofBelow (D:=λb=>b=mb) hG3.out) (λ_ _ h=>h)⟩
     rw[YG hlt,hks.out]
     exact(hmk.out.only (Only.ofBelow (D:=λ_=>False) hG3.out) (λh=>h)).mono oX
    case measure=>simp[intOf];omega
  ·obtain rfl:k=ws.length:=oX
   clear hc2 hc21 hx0 hif
   go_wp2_with fail
   go_end0
   have hmk2:=hmk.out
   rw[List.take_length] at hmk2
   have hU:=((((Upd.refl hBlk.out).setCell (j:=2) (.slice none 0 0)).setCell (j:=5) (.bool false)).setCell (j:=3) (.bool false)).setCell (j:=4) (.int .i64 0)
   have hOU:Only (λb=>b=B) wr _:=Only.ofUpd hU rfl
   refine⟨rfl,⟨hU.here,hmk2.only hOU h.out.hmB,⟨rfl,.inl ⟨rfl,rfl⟩⟩,h.out.hmB,λk hk=>by(cases hk),h.out.geB,h.out.gem,λp hp=>by(cases hp)⟩,?_⟩
   exact((hO1.out.mono (E:=λk=>k=B\/k=mb) (λ_ _ h=>.inr h)).trans hOk.out (λ_ _ h=>.inr h)).trans hOU (λ_ _ h=>.inl h)
structure DP where
 n:Int
 f:Int->List UInt8
 ws:List (Int×List UInt8)
 armed:Bool
 l:Int
 gone:Bool
def DP.bad(p:DP):Bool:=p.gone || (p.armed&&p.l==0)
def DP.write(p:DP)(i:Int)(bs:List UInt8):DP×Nat:=
 if i<0\/p.n<=i then (p,1) else if bs.length≠64 then (p,2) else if p.bad then ({ p with gone:=true },3) else ({ p with l:=p.l-1,ws:=p.ws++[(i,bs)] },0)
def DP.sync(p:DP):DP×Nat:=if p.bad then ({ p with gone:=true },3) else ({ p with l:=p.l-1,f:=ZJ (λ_=>some 64) p.ws p.f,ws:=[] },0)
def DP.crash(p:DP)(kept torn:Int)(s:Nat):DP:={ p with f:=ZJ (Q8 kept torn s) p.ws p.f,ws:=[],armed:=false,l:=0,gone:=false }
def DP.new(n:Int):DP:=⟨n,λ_=>zSec,[],false,0,false⟩
def Xc(e:Nat->Addr):Nat->Value
 | 0=>.nilIface
 | k+1=>.iface 298 (.pointer (some (e k)))
def DM(base:Nat)(w:World)(B mb mn:Nat)(v:Value)(p:DP):Prop:=DiskOk base w B 120 p.n mb mn p.f v p.ws p.armed p.l p.gone
theorem DM.only{base:Nat}{w w':World}{B mb mn:Nat}{v:Value}{p:DP}{D:Nat->Prop}(h:DM base w B mb mn v p)(hO:Only D w w')(hd:∀ k,Zw B mb v k->¬D k):DM base w' B mb mn v p:=DiskOk.only h hO hd
theorem DM.below{base:Nat}{w w':World}{B mb mn:Nat}{v:Value}{p:DP}(h:DM base w B mb mn v p)(hb:Below w.heap.size w w'):DM base w' B mb mn v p:=h.only (Only.ofBelow (D:=λ_=>False) hb) (λ_ _ h=>h)
theorem DM.cell{base:Nat}{w:World}{B mb mn:Nat}{v:Value}{p:DP}(h:DM base w B mb mn v p)(j:Nat):w.cell? ⟨B,j,none⟩=(Qd p.n mb v p.armed p.l p.gone)[j]? := Za h.at_ j
theorem DM.form{base:Nat}{w:World}{B mb mn:Nat}{v:Value}{p:DP}(h:DM base w B mb mn v p):∃ a c,v=.slice a p.ws.length c:=by
 rcases h.row.2 with ⟨e1,h2⟩|⟨g,c,cur,e1,_⟩
 ·exact⟨none,0,by rw[e1,h2]⟩
 ·exact⟨_,c,e1⟩
theorem DM.rowN{base:Nat}{w:World}{B mb mn:Nat}{a:Option Addr}{m c:Nat}{p:DP}(h:DM base w B mb mn (.slice a m c) p):RowNW w.heap.size w a p.ws:=by
 intro i hi
 have hl:∀ q∈p.ws,q.2.length=64:=λq hq=>(h.lens q hq).1
 have hg:p.ws.getD i (0,[])=p.ws[i]:=by simp[List.getD_eq_getElem?_getD,hi]
 rcases h.row.2 with ⟨e1,h2⟩|⟨g,cap,cur,e1,_,hh,_⟩
 ·omega
 ·cases e1
  refine⟨g,rfl,Zb hh,by rw[hg];exact hl _ (List.getElem_mem hi),?_⟩
  rw[hg,Nu,Hb (hl _ (List.getElem_mem hi))]
  exact UH h.row hl i hi
structure DStep (base:Nat) (w w':World) (B mb:Nat) (v:Value) (mn:Nat) (v':Value) (p':DP):Prop where
 ok:DM base w' B mb mn v' p'
 only:Only (Zw B mb v) w w'
 new:∀ k,Zw B mb v' k->Zw B mb v k\/w.heap.size<=k
theorem DStep.same{base:Nat}{w:World}{B mb mn:Nat}{v:Value}{p:DP}(h:DM base w B mb mn v p):DStep base w w B mb v mn v p:=⟨h,Only.refl _ _,λ_ h=>.inl h⟩
theorem DStep.apart{base:Nat}{w w':World}{B mb mn:Nat}{v v':Value}{p':DP}(h:DStep base w w' B mb v mn v' p'){k:Nat}(hk:¬Zw B mb v k)(hl:k<w.heap.size):¬Zw B mb v' k:=λhd=>by
 rcases h.new k hd with h1|h1
 ·exact hk h1
 ·omega
theorem DStep.below{base:Nat}{w w':World}{B mb mn mn':Nat}{v v':Value}{p p':DP}(h:DStep base w w' B mb v mn' v' p')(h0:DM base w B mb mn v p)(hb:base<=w.heap.size):Below base w w':=h.only.below hb (λk hk=>(h0.lt k hk).1)
theorem Mh(B:Nat)(n:Int)(mb:Nat)(v:Value)(T:TypeId)(armed:Bool)(l:Int)(gone:Bool)(h:(gone || (armed&&l==0))=true)(w:World)(e:Nat->Addr)(hE:DErr w e)(hB:13≠B)(hat:w.heap[B]? = some (.cells (Qd n mb v armed l gone) T (0,0))) :
  Calls Tryz.prog 161 #[.pointer (some ⟨B,0,none⟩)] w λx w'=>x=.returned (Xc e 3)/\Upd B (.cells (Qd n mb v armed l true) T (0,0)) w w':=by
 have c3:w.cell? ⟨B,3,none⟩=some (.bool armed):=by rw[Za hat];rfl
 have c4:w.cell? ⟨B,4,none⟩=some (.int .i64 l):=by rw[Za hat];rfl
 have c5:w.cell? ⟨B,5,none⟩=some (.bool gone):=by rw[Za hat];rfl
 have f5:w.frozen? ⟨B,5,none⟩=false:=Zj hat _
 by_cases h1:armed=true->l≠0
 ·have hg:gone=true:=by
   cases armed
   ·simpa using h
   ·have:=h1 rfl
    simpa[this] using h
  subst hg
  refine(RJ B armed l h1 w e hE c3 c4 c5).mono ?_
  rintro x w' ⟨rfl,rfl⟩
  exact⟨rfl,Upd.refl hat⟩
 ·obtain⟨ha,hl⟩:armed=true/\l=0:=by
   cases armed
   ·exact absurd (λe=>by cases e) h1
   ·exact⟨rfl,Classical.not_not.1 λhn=>h1 λ_=>hn⟩
  subst ha hl
  have hk:∀ W:World,(∀ b,b≠B->W.heap[b]? = w.heap[b]?)->W.cell? ⟨13,0,none⟩=some (.iface 298 (.pointer (some (e 2)))):=λW hW=>(World.cell?_of_block (a:=⟨13,0,none⟩) (hW _ hB)).trans hE.power
  have hU:=(Upd.refl hat).setCell (j:=5) (.bool true)
  have hk2:=hk _ (λb hb=>hU.block b hb)
  have hUh:=Hd hU
  clear hk h h1 hat hU
  go_enter Tryz.func161,Tryz.ntmps161
  go_wp2_with fail
  go_ret
  exact⟨rfl,hUh.out⟩
theorem Lb(B:Nat)(n i:Int)(h:i<0\/n<=i)(w:World)(hc:w.cell? ⟨B,0,none⟩=some (.int .i64 n))(e:Nat->Addr)(hE:DErr w e)(a:Option Addr)(m c:Nat) :
  Calls Tryz.prog 130 #[.pointer (some ⟨B,0,none⟩),.int .i64 i,.slice a m c] w λx w'=>x=.returned (Xc e 1)/\w=w':=by
 have hth:=Hd (Wa B n i h w hc e hE)
 clear h
 go_enter Tryz.func130,Tryz.ntmps130
 go_wp2_with fail
 with_reducible refine hth.out.mono ?_
 rintro x w2 ⟨rfl,hq⟩
 obtain rfl:=hq
 clear hth
 go_wp2_with fail
 go_ret
 exact⟨rfl,rfl⟩
theorem HJ(B:Nat)(n i:Int)(h0:0<=i)(h1:i<n)(w:World)(hc:w.cell? ⟨B,0,none⟩=some (.int .i64 n))(e:Nat->Addr)(hE:DErr w e)(a:Option Addr)(m c:Nat)(hm:m≠64) :
  Calls Tryz.prog 130 #[.pointer (some ⟨B,0,none⟩),.int .i64 i,.slice a m c] w λx w'=>x=.returned (Xc e 2)/\w=w':=by
 have hth:=Hd (Je B n i h0 h1 w hc)
 have hk:=hE.size
 have hm2:((m:Int) != 64)=true:=sYq
 clear hm
 go_enter Tryz.func130,Tryz.ntmps130
 go_wp2_with fail
 with_reducible refine hth.out.mono ?_
 rintro x w2 ⟨rfl,hq⟩
 obtain rfl:=hq
 clear hth
 go_wp2_with fail
 go_ret
 exact⟨rfl,rfl⟩
theorem TW(B:Nat)(n i:Int)(mb:Nat)(v:Value)(T:TypeId)(armed:Bool)(l:Int)(gone:Bool)(h:(gone || (armed&&l==0))=true)(h0:0<=i)(h1:i<n)(w:World)(e:Nat->Addr)(hE:DErr w e)(hB:13≠B)(hat:w.heap[B]? = some (.cells (Qd n mb v armed l gone) T (0,0)))(a:Option Addr)(c:Nat) :
  Calls Tryz.prog 130 #[.pointer (some ⟨B,0,none⟩),.int .i64 i,.slice a 64 c] w λx w'=>x=.returned (Xc e 3)/\Upd B (.cells (Qd n mb v armed l true) T (0,0)) w w':=by
 have hc:w.cell? ⟨B,0,none⟩=some (.int .i64 n):=by rw[Za hat];rfl
 have hth:=Hd (Je B n i h0 h1 w hc)
 have hde:=Hd (Mh B n mb v T armed l gone h w e hE hB hat)
 clear hat hc h
 go_enter Tryz.func130,Tryz.ntmps130
 go_wp2_with fail
 with_reducible refine hth.out.mono ?_
 rintro x w2 ⟨rfl,hq⟩
 obtain rfl:=hq
 clear hth
 go_wp2_with fail
 with_reducible refine hde.out.mono ?_
 rintro x w2 ⟨rfl,hU⟩
 replace hU:=Hd hU
 clear hde
 simp only[Xc]
 go_wp2_with fail
 go_ret
 exact⟨rfl,hU.out⟩
theorem Wh(B:Nat)(n:Int)(mb:Nat)(v:Value)(T:TypeId)(armed:Bool)(l:Int)(gone:Bool)(h:(gone || (armed&&l==0))=true)(w:World)(e:Nat->Addr)(hE:DErr w e)(hB:13≠B)(hat:w.heap[B]? = some (.cells (Qd n mb v armed l gone) T (0,0))) :
  Calls Tryz.prog 131 #[.pointer (some ⟨B,0,none⟩)] w λx w'=>x=.returned (Xc e 3)/\Upd B (.cells (Qd n mb v armed l true) T (0,0)) w w':=by
 have hde:=Hd (Mh B n mb v T armed l gone h w e hE hB hat)
 clear hat h
 go_enter Tryz.func131,Tryz.ntmps131
 go_wp2_with fail
 with_reducible refine hde.out.mono ?_
 rintro x w2 ⟨rfl,hU⟩
 replace hU:=Hd hU
 clear hde
 simp only[Xc]
 go_wp2_with fail
 go_ret
 exact⟨rfl,hU.out⟩
theorem DM.gone{base:Nat}{w w':World}{B mb mn:Nat}{v:Value}{p:DP}(h:DM base w B mb mn v p)(hU:Upd B (.cells (Qd p.n mb v p.armed p.l true) 120 (0,0)) w w'):DStep base w w' B mb v mn v { p with gone:=true }:=by
 have hO:Only (λk=>k=B) w w':=Only.ofUpd hU rfl
 exact⟨⟨hU.here,h.map.only hO h.hmB,hO.owns h.row (λk hk=>(h.vB k hk).1),h.hmB,h.vB,h.geB,h.gem,h.lens⟩,hO.mono (λ_ _ e=>.inl e),λ_ h=>.inl h⟩
theorem DP.bad_not{p:DP}(h:p.bad=false):p.gone=false/\(p.armed=true->p.l≠0):=by
 unfold DP.bad at h
 simp only[Bool.or_eq_false_iff,Bool.and_eq_false_iff,beq_eq_false_iff_ne] at h
 refine⟨h.1,λha=>?_⟩
 rcases h.2 with h2|h2
 ·rw[ha] at h2;cases h2
 ·exact h2
theorem GG{base:Nat}{w:World}{B mb mn:Nat}{v:Value}{p:DP}(h:DM base w B mb mn v p)(hb:base<=w.heap.size)(hws:p.ws.length<=100000)(hl : -1000000<=p.l/\p.l<=9223372036854775807)(e:Nat->Addr)(hE:DErr w e)(hB:13≠B)
  (i:Int) (a:Option Addr) (c:Nat) (bs:List UInt8) (ha:ArgB w a c bs) (hD:∀ b o s,a=some ⟨b,o,s⟩->¬Zw B mb v b) :
  Calls Tryz.prog 130 #[.pointer (some ⟨B,0,none⟩),.int .i64 i,.slice a bs.length c] w λx w'=>x=.returned (Xc e (p.write i bs).2)/\∃ v',DStep base w w' B mb v mn v' (p.write i bs).1:=by
 have hc:w.cell? ⟨B,0,none⟩=some (.int .i64 p.n):=by rw[h.cell];rfl
 by_cases h1:i<0\/p.n<=i
 ·refine(Lb B p.n i h1 w hc e hE a bs.length c).mono ?_
  rintro x w' ⟨rfl,rfl⟩
  have:p.write i bs=(p,1):=by unfold DP.write;rw[if_pos h1]
  rw[this]
  exact⟨rfl,v,DStep.same h⟩
 ·by_cases h2:bs.length=64
  ·cases hbad:p.bad
   ·have hw:p.write i bs=({ p with l:=p.l-1,ws:=p.ws++[(i,bs)] },0):=by unfold DP.write;rw[if_neg h1,if_neg oX,hbad];rfl
    obtain⟨hgone,har⟩:=DP.bad_not hbad
    obtain⟨bb,off,rfl,_⟩:=ha.row 0 oX
    have hdb:=hD bb off none rfl
    have hat:=h.at_
    rw[hgone] at hat
    rw[h2]
    refine(Rd base B mb p.n i oX oX _ v p.ws p.armed p.l har hl w hat hb h.row (λk hk=>(h.vB k hk).1) oX bb off c bs h2 ha (λe=>hdb (.inl e)) (λk hk e=>hdb (.inr (.inr (e▸hk))))).mono ?_
    rintro x w' ⟨rfl,v',k1,k2,k3,k4⟩
    rw[hw]
    refine⟨rfl,v',⟨by rw[<-hgone] at k1;exact k1,h.map.only k3 (λk=>?_),by rw[List.length_append];exact k2,h.hmB,λk hk=>?_,h.geB,h.gem,λq hq=>?_⟩,k3.mono (λk _ hk=>hk.imp id .inr),λk hk=>?_⟩
    ·rcases k with k|k
     ·exact h.hmB k
     ·exact(h.vB _ k).2 rfl
    ·have h1:=Zb h.at_
     have h2:=h.map.lt
     rcases k4 k hk with k5|k5
     ·exact h.vB k k5
     ·exact⟨oX,oX⟩
    ·rcases List.mem_append.1 hq with hq|hq
     ·exact h.lens q hq
     ·simp at hq;subst hq;exact⟨h2,oX,by show i<p.n;omega⟩
    ·rcases hk with hk|hk|hk
     ·exact .inl (.inl hk)
     ·exact .inl (.inr (.inl hk))
     ·exact(k4 k hk).imp (λh=>.inr (.inr h)) id
   ·have hw:p.write i bs=({ p with gone:=true },3):=by unfold DP.write;rw[if_neg h1,if_neg oX,hbad];rfl
    rw[h2]
    refine(TW B p.n i mb v _ p.armed p.l p.gone hbad oX oX w e hE hB h.at_ a c).mono ?_
    rintro x w' ⟨rfl,hU⟩
    rw[hw]
    exact⟨rfl,v,h.gone hU⟩
  ·have hw:p.write i bs=(p,2):=by unfold DP.write;rw[if_neg h1,if_pos h2]
   refine(HJ B p.n i oX oX w hc e hE a bs.length c h2).mono ?_
   rintro x w' ⟨rfl,rfl⟩
   rw[hw]
   exact⟨rfl,v,DStep.same h⟩
theorem Mg{base:Nat}{w:World}{B mb mn:Nat}{v:Value}{p:DP}(h:DM base w B mb mn v p)(hn:p.n<=2048)(hws:p.ws.length<=100000)(hmn:mn<=100000)(hl : -1000000<=p.l/\p.l<=9223372036854775807)(e:Nat->Addr)(hE:DErr w e)(hB:13≠B) :
  Calls Tryz.prog 131 #[.pointer (some ⟨B,0,none⟩)] w λx w'=>x=.returned (Xc e p.sync.2)/\∃ v' mn',mn'<=mn+p.ws.length/\DStep base w w' B mb v mn' v' p.sync.1:=by
 cases hbad:p.bad
 ·have hw:p.sync=({ p with l:=p.l-1,f:=ZJ (λ_=>some 64) p.ws p.f,ws:=[] },0):=by unfold DP.sync;rw[hbad];rfl
  obtain⟨hgone,har⟩:=DP.bad_not hbad
  have h':=h
  unfold DM at h'
  rw[hgone] at h'
  refine(WI base B mb mn p.f p.n hn _ v p.ws p.armed p.l har hl w h' hws hmn).mono ?_
  rintro x w' ⟨rfl,k1,k2⟩
  rw[hw]
  refine⟨rfl,_,_,Nat.le_refl _,by unfold DM;rw[hgone];exact k1,k2.mono (λk _ hk=>hk.imp id .inl),λk hk=>?_⟩
  rcases hk with hk|hk|hk
  ·exact .inl (.inl hk)
  ·exact .inl (.inr (.inl hk))
  ·cases hk
 ·have hw:p.sync=({ p with gone:=true },3):=by unfold DP.sync;rw[hbad];rfl
  refine(Wh B p.n mb v _ p.armed p.l p.gone hbad w e hE hB h.at_).mono ?_
  rintro x w' ⟨rfl,hU⟩
  rw[hw]
  exact⟨rfl,v,mn,oX,h.gone hU⟩
theorem Wy{base:Nat}{w:World}{B mb mn:Nat}{v:Value}{p:DP}(h:DM base w B mb mn v p)(hn:p.n<=2048)(hws:p.ws.length<=100000)(hmn:mn<=100000)(kept torn:Int)(s:Nat)(S:Int)(hS:S=s)(hk : -9223372036854775808<=kept/\kept<=9223372036854775807)(ht : -9223372036854775808<=torn/\torn<=9223372036854775807)(hs:s<18446744073709551616) :
  Calls Tryz.prog 27 #[.pointer (some ⟨B,0,none⟩),.agg #[.int .i64 kept,.int .i64 torn,.int .u64 S]] w λx w'=>x=.returned (.tuple #[])/\∃ mn',mn'<=mn+p.ws.length/\DStep base w w' B mb v mn' (.slice none 0 0) (p.crash kept torn s):=by
 subst hS
 refine(Pu base B mb mn p.f p.n hn _ v p.ws p.armed p.l p.gone w h hws hmn kept torn s hk ht hs).mono ?_
 rintro x w' ⟨rfl,k1,k2⟩
 refine⟨rfl,_,Nat.le_refl _,k1,k2.mono (λk _ hk=>hk.imp id .inl),λk hk=>?_⟩
 rcases hk with hk|hk|hk
 ·exact .inl (.inl hk)
 ·exact .inl (.inr (.inl hk))
 ·cases hk
theorem Cp(n:Int)(w:World)(base:Nat)(hb:base<=w.heap.size):DM base ((w.alloc (.map #[] 0)).alloc (.cells (Qd n w.heap.size (.slice none 0 0) false 0 false) 120)) (w.heap.size+1) w.heap.size 0 (.slice none 0 0) (DP.new n):=by
 have hG:Below (w.alloc (.map #[] 0)).heap.size (w.alloc (.map #[] 0)) ((w.alloc (.map #[] 0)).alloc (.cells (Qd n w.heap.size (.slice none 0 0) false 0 false) 120)):=bR.alloc nR _
 have hh:=heap_alloc_new (w.alloc (.map #[] 0)) (.cells (Qd n w.heap.size (.slice none 0 0) false 0 false) 120 (0,0))
 rw[World.size_alloc] at hh
 exact⟨hh,(SureMap.made w).only (Only.ofBelow (D:=λ_=>False) hG) (λh=>h),⟨rfl,.inl ⟨rfl,rfl⟩⟩,oX,λk hk=>(by cases hk),oX,hb,λp hp=>(by cases hp)⟩
theorem DErr.below{w w':World}{e:Nat->Addr}(h:DErr w e)(hb:Below w.heap.size w w'):DErr w' e:=
 ⟨(hb.cell (p:=⟨0,0,none⟩) (World.block_lt_of_cell? w _ h.range)).trans h.range,(hb.cell (p:=⟨7,0,none⟩) (World.block_lt_of_cell? w _ h.size)).trans h.size,(hb.cell (p:=⟨13,0,none⟩) (World.block_lt_of_cell? w _ h.power)).trans h.power⟩
theorem Ly{base:Nat}{w:World}{B mb mn:Nat}{v:Value}{p:DP}(h:DM base w B mb mn v p)(hn:p.n<=2048)(i:Int)(h0:0<=i)(h1:i<p.n) :
  Calls Tryz.prog 68 #[.pointer (some ⟨B,0,none⟩),.int .i64 i] w λx w'=>∃ g,x=.returned (.tuple #[.slice (some ⟨g,0,none⟩) 64 64,.nilIface])/\SecBlk w' g (p.f i)/\w.heap.size<=g/\Below w.heap.size w w':=
 Md B mb mn p.f p.n i h0 h1 hn w (by rw[h.cell];rfl) (by rw[h.cell];rfl) h.map
theorem MA{base:Nat}{w:World}{B mb mn:Nat}{v:Value}{p:DP}(h:DM base w B mb mn v p)(hn:p.n<=2048)(hws:p.ws.length<=100000)(hg:p.gone=false)(i:Int)(h0:0<=i)(h1:i<p.n) :
  Calls Tryz.prog 126 #[.pointer (some ⟨B,0,none⟩),.int .i64 i] w λx w'=>∃ g off,x=.returned (.tuple #[.slice (some ⟨g,off,none⟩) 64 64,.nilIface])/\RdBlk w' g off (ZR p.ws p.f i)/\w.heap.size<=g/\Below w.heap.size w w':=by
 obtain⟨a,c,rfl⟩:=h.form
 exact Wj B mb mn p.f p.n i h0 h1 hn w a c p.ws oX (by rw[h.cell];rfl) (by rw[h.cell];rfl) (by rw[h.cell];rfl) (by rw[h.cell,hg];rfl) h.map (λq hq=>(h.lens q hq).1) h.rowN
end Go.Proofs.YtpdhceiodgnbmaaGreatDoor
namespace Go.Proofs.YtpdhceiodgnbmaaGreatDoor
open Go.RowKit
def Qt(p:DP)(k:Nat):List UInt8:=(List.range k).flatMap λ(i:Nat)=>ZR p.ws p.f (i:Int)
def Z7(p:DP):List UInt8:=Qt p p.n.toNat
theorem Xx(p:DP)(k:Nat):Qt p (k+1)=Qt p k++ZR p.ws p.f (k:Int):=by simp[Qt,List.range_succ]
theorem DM.flen{base:Nat}{w:World}{B mb mn:Nat}{v:Value}{p:DP}(h:DM base w B mb mn v p):∀ i,(p.f i).length=64:=by obtain⟨_,_,_,hl,_⟩:=h.map;exact hl
theorem DM.seenLen{base:Nat}{w:World}{B mb mn:Nat}{v:Value}{p:DP}(h:DM base w B mb mn v p)(i:Int):(ZR p.ws p.f i).length=64:=by
 unfold ZR
 cases hq:Ym p.ws i with
 | none=>exact h.flen i
 | some q=>
  unfold Ym at hq
  have:=List.mem_of_find?_eq_some hq
  exact(h.lens q (by simpa using this)).1
theorem DM.seenToLen{base:Nat}{w:World}{B mb mn:Nat}{v:Value}{p:DP}(h:DM base w B mb mn v p)(k:Nat):(Qt p k).length=64*k:=by
 induction k with
 | zero=>rfl
 | succ k ih=>rw[Xx,List.length_append,ih,h.seenLen];omega
theorem DM.sizeCell{base:Nat}{w:World}{B mb mn:Nat}{v:Value}{p:DP}(h:DM base w B mb mn v p):w.cell? ⟨B,0,none⟩=some (.int .i64 p.n):=by rw[h.cell];rfl
theorem Dk{base:Nat}{w:World}{B mb mn:Nat}{v:Value}{p:DP}(h:DM base w B mb mn v p)(h1:1<=p.n)(hn:p.n<=1000)(hws:p.ws.length<=100000)(hg:p.gone=false) :
  Calls Tryz.prog 98 #[.pointer (some ⟨B,0,none⟩)] w λx w'=>∃ v,x=.returned (.tuple #[v,.nilIface])/\OwnB w.heap.size w' v (Z7 p)/\Below w.heap.size w w':=by
 have hsz:=Hd (Vn B p.n w h.sizeCell)
 obtain⟨L,hL⟩:∃ L:Nat,p.n=(L:Int):=⟨p.n.toNat,oX⟩
 have hLa:Z7 p=Qt p L:=by unfold Z7;rw[hL];rfl
 have hrd:=λW (hW:DM base W B mb mn v p) (i:Int) h0 h1=>MA hW oX hws hg i h0 h1
 have hlen:=h.seenLen
 have hlto:=h.seenToLen
 rw[hL] at hsz
 rw[hLa]
 have hLn:L<=1000:=oX
 have hrd2:∀ W (_:DM base W B mb mn v p) (k:Nat),k<L->_:=λW hW k hk=>hrd W hW (k:Int) oX oX
 replace h:=Hd h
 replace hrd2:=Hd hrd2
 replace hlen:=Hd hlen
 replace hlto:=Hd hlto
 replace hL:=Hd hL
 clear hLa hrd h1 hn hws hg
 go_enter Tryz.func98,Tryz.ntmps98
 go_wp2_with fail
 with_reducible refine hsz.out.mono ?_
 rintro e w1 ⟨rfl,hq⟩
 obtain rfl:=hq
 clear hsz
 go_wp2_with fail
 refine Z8 [(false,4),(true,4),(false,2),(true,20)] _ [] (λU wr=>∃ k:Nat,k<=L/\U 10=.int .i64 k/\OwnB w.heap.size wr (U 4) (Qt p k)/\Below w.heap.size w wr)
  (λU _=>L-(intOf (U 10)).toNat) ?_ ?_
 ·simp only[List.getD_cons_zero,List.getD_cons_succ]
  exact⟨0,Nat.zero_le _,rfl,OwnB.nil _ _,Below.refl _ _⟩
 ·intro U wr hrel KK hback l' hl'
  obtain⟨k,hk,h10,hown,hbel⟩:=hrel
  simp only[ZU,ZG,cond_true,cond_false,Nat.reduceAdd,h10] at hl'
  generalize hv4:U 4=vo at*
  subst hl'
  replace h10:=Hd h10
  replace hv4:=Hd hv4
  have hszr:=hbel.size
  by_cases hlt:k<L
  ·have hlt2:(k:Int)<L:=oX
   have hr:=Hd (hrd2.out wr (h.out.below hbel) k hlt)
   have hsn:=Hd (Xx p k)
   have hl64:=hlen.out (k:Int)
   have hsl:(Qt p k).length<=1000000:=by rw[hlto.out];omega
   generalize ZR p.ws p.f (k:Int)=sb at*
   generalize Qt p k=so at*
   replace hown:=Hd hown
   replace hbel:=Hd hbel
   replace hl64:=Hd hl64
   go_wp2_with fail
   with_reducible refine hr.out.mono ?_
   rintro e w2 ⟨g,off,rfl,hrb,hgl,hb2⟩
   clear hr
   have ho2:=Hd (hown.out.below hb2 nR)
   have ha2:=Hd (hrb.argB hl64.out)
   have hb2w:=Hd (hbel.out.trans (hb2.mono hszr))
   have hs2:=hb2.size
   have hbs2:w.heap.size<=w2.heap.size:=oX
   clear hb2 hrb hown
   go_wp2_with (at_builtin;go_must (refine YU rfl (.tmp 26) (.tmp 27) rfl w.heap.size _ so rfl ho2 _ _ sb 64 rfl hl64 ha2 hsl dX hbs2 ?_);intro v3 w3 ho3 hb3)
   refine hback.out _ _ kX ?_ ?_
   ·simp only[List.getD_cons_zero,List.getD_cons_succ]
    exact⟨k+1,oX,by go_num,by rw[hsn.out];exact ho3.out,hb2w.out.trans hb3.out⟩
   ·have h10:=h10.out
    simp only[List.getD_cons_zero,List.getD_cons_succ,h10,intOf]
    omega
  ·obtain rfl:k=L:=oX
   replace hown:=Hd hown
   replace hbel:=Hd hbel
   go_wp2_with fail
   go_ret2
   exact⟨_,rfl,hown.out,hbel.out⟩
end Go.Proofs.YtpdhceiodgnbmaaGreatDoor
namespace Go.Proofs.YtpdhceiodgnbmaaGreatDoor
open Go.RowKit
theorem BV(x:UInt8)(w:World):Calls Tryz.prog 160 #[.int .u8 (x.toNat:Int)] w λe w'=>e=.returned (.bool ((x.toNat:Int) != 0))/\w=w':=by
 go_enter Tryz.func160,Tryz.ntmps160
 go_wp2_with fail
 go_ret
 exact⟨rfl,rfl⟩
def Jc(bs:List UInt8):Bool:=bs.all (· == 0)
theorem Wi{bs:List UInt8}{k:Nat}(h:k<bs.length):Jc (bs.take (k+1))=(Jc (bs.take k)&&(bs.getD k 0==0)):=by
 unfold Jc
 rw[List.take_succ_eq_append_getElem h,List.all_append]
 simp[List.getD_eq_getElem?_getD,h]
theorem C7(x:UInt8):((x.toNat:Int) != 0) = !(x==0):=by
 by_cases h:x=0
 ·subst h;rfl
 ·have h1:((x.toNat:Int) != 0)=true:=by
   rw[bne_iff_ne]
   intro e
   exact h (UInt8.toNat_inj.1 (show x.toNat=0 by omega))
  rw[h1,beq_eq_false_iff_ne.2 h];rfl
theorem D2(bs:List UInt8)(hl:bs.length<=1000000)(a:Option Addr)(c:Nat)(w:World)(ha:ArgB w a c bs) :
  Calls Tryz.prog 159 #[.slice a bs.length c,.func (.func 160) #[] #[]] w λx w'=>∃ k:Int,x=.returned (.int .i64 k)/\decide (k<0)=Jc bs/\w=w':=by
 replace ha:=Hd ha
 go_enter Tryz.func159,Tryz.ntmps159
 go_wp2_with fail
 refine Z8 [(false,4),(true,2),(false,2),(true,11)] _ [] (λU W'=>∃ k:Nat,k<=bs.length/\U 8=.int .i64 k/\Jc (bs.take k)=true/\W'=w) (λU _=>bs.length-(intOf (U 8)).toNat) ?_ ?_
 ·simp only[List.getD_cons_zero,List.getD_cons_succ]
  exact⟨0,Nat.zero_le _,rfl,rfl,trivial⟩
 ·intro U wr hrel KK hback l' hl'
  obtain⟨k,hk,h8,hz,rfl⟩:=hrel
  simp only[ZU,ZG,cond_true,cond_false,Nat.reduceAdd,h8] at hl'
  subst hl'
  replace h8:=Hd h8
  by_cases hlt:k<bs.length
  ·obtain⟨b,o,rfl,hc⟩:=ha.out.row k hlt
   have hlt2:(k:Int)<bs.length:=oX
   have hsn:=Hd (Wi hlt)
   have hall:bs.getD k 0≠0->Jc bs=false:=λh=>by
    unfold Jc
    rw[Bool.eq_false_iff]
    intro e
    rw[List.all_eq_true] at e
    have:=e (bs[k]) (List.getElem_mem hlt)
    rw[show bs.getD k 0=bs[k] by simp[List.getD_eq_getElem?_getD,hlt]] at h
    exact h (eq_of_beq this)
   generalize bs.getD k 0=x at*
   have hq:=C7 x
   have hcall:=Hd (BV x wr)
   rw[hq] at hcall
   replace hz:=Hd hz
   replace hall:=Hd hall
   cases hx:(x==0)
   ·rw[hx] at hcall
    clear hq
    go_wp2_with fail
    with_reducible refine hcall.out.mono ?_
    rintro e w2 ⟨rfl,hq⟩
    obtain rfl:=hq
    go_wp2_with fail
    go_ret
    have h1:=hall.out (beq_eq_false_iff_ne.1 hx)
    exact⟨(k:Int),rfl,by rw[h1];simp,rfl⟩
   ·rw[hx] at hcall
    clear hq
    go_wp2_with fail
    with_reducible refine hcall.out.mono ?_
    rintro e w2 ⟨rfl,hq⟩
    obtain rfl:=hq
    go_wp2_with fail
    refine hback.out _ _ kX ?_ ?_
    ·simp only[List.getD_cons_zero,List.getD_cons_succ]
     exact⟨k+1,oX,by go_num,by rw[hsn.out,hz.out,hx];rfl,trivial⟩
    ·have h8:=h8.out
     simp only[List.getD_cons_zero,List.getD_cons_succ,h8,intOf]
     omega
  ·obtain rfl:k=bs.length:=oX
   rw[List.take_length] at hz
   replace hz:=Hd hz
   go_wp2_with fail
   go_ret
   exact⟨-1,rfl,by rw[hz.out];rfl,rfl⟩
def Z4(B:Nat)(rv:Value)(hd:List UInt8)(E sure:Int)(dead:Bool):Array Value:=#[.pointer (some ⟨B,0,none⟩),rv]++(cB hd).toArray++#[.int .i64 E,.int .i64 sure,.bool dead]
theorem VK{B:Nat}{rv:Value}{hd:List UInt8}{E sure:Int}{dead:Bool}(h:hd.length=32):(Z4 B rv hd E sure dead).size=37:=by simp[Z4,Ze,h]
theorem jc0{B:Nat}{rv:Value}{hd:List UInt8}{E sure:Int}{dead:Bool}:(Z4 B rv hd E sure dead)[0]? = some (.pointer (some ⟨B,0,none⟩)):=by simp[Z4]
theorem jc1{B:Nat}{rv:Value}{hd:List UInt8}{E sure:Int}{dead:Bool}:(Z4 B rv hd E sure dead)[1]? = some rv:=by simp[Z4]
theorem Ki{B:Nat}{rv:Value}{hd:List UInt8}{E sure:Int}{dead:Bool}(h:hd.length=32):(Z4 B rv hd E sure dead)[34]? = some (.int .i64 E):=by
 unfold Z4
 rw[Array.getElem?_append_right (by simp[Ze,h])]
 simp[Ze,h]
theorem BT{B:Nat}{rv:Value}{hd:List UInt8}{E sure:Int}{dead:Bool}(h:hd.length=32):(Z4 B rv hd E sure dead)[35]? = some (.int .i64 sure):=by
 unfold Z4
 rw[Array.getElem?_append_right (by simp[Ze,h])]
 simp[Ze,h]
theorem CI{B:Nat}{rv:Value}{hd:List UInt8}{E sure:Int}{dead:Bool}(h:hd.length=32):(Z4 B rv hd E sure dead)[36]? = some (.bool dead):=by
 unfold Z4
 rw[Array.getElem?_append_right (by simp[Ze,h])]
 simp[Ze,h]
def Xp(all:List UInt8)(E i:Nat):Int:=if Jc ((all.drop (i*64+(E-i*64))).take (64-(E-i*64))) then -1 else ((E-i*64:Nat):Int)
theorem Rm(J E i:Nat)(all:List UInt8)(hE:E<=100000)(hi:i<=10000)(hEi:E / 64<=i)(hal:(i+1)*64<=all.length)(hmax:all.length<=100000)(a:Option Addr)(c:Nat)(w:World)(ha:ArgB w a c all)(hc:w.cell? ⟨J,34,none⟩=some (.int .i64 (E:Int))) :
  Calls Tryz.prog 129 #[.pointer (some ⟨J,0,none⟩),.slice a all.length c,.int .i64 (i:Int)] w λx w'=>x=.returned (.int .i64 (Xp all E i))/\w=w':=by
 obtain⟨b,o,rfl,_⟩:=ha.row 0 oX
 obtain⟨I,hI⟩:∃ I,i*64=I:=⟨_,rfl⟩
 obtain⟨F,hF⟩:∃ F,E-I=F:=⟨_,rfl⟩
 have hF64:F<64:=oX
 have hl:=ha.len
 have hm:=ha.most
 have hI1:(i:Int)*64=(I:Int):=oX
 have hI2:((i:Int)+1)*64=(I:Int)+64:=oX
 have hwr:IntKind.i64.wrap ((E:Int)-(I:Int))=(E:Int)-I:=IntWalk.i64_in _ oX
 have hmx:(if (E:Int)-(I:Int)<0 then (0:Int) else (E:Int)-I)=(F:Int):=by split<;>omega
 have ha2:=(((ha.from I oX).from F c3X).upto (64-F))
 rw[List.drop_drop] at ha2
 have hlen2:((all.drop (I+F)).take (64-F)).length=64-F:=by rw[List.length_take,List.length_drop];omega
 have hR:Xp all E i=if Jc ((all.drop (I+F)).take (64-F))=true then -1 else (F:Int):=by unfold Xp;rw[hI,hF]
 generalize hbs:(all.drop (I+F)).take (64-F)=bs at*
 have hix:=D2 bs oX _ _ w ha2
 rw[hlen2] at hix
 replace hix:=Hd hix
 replace hR:=Hd hR
 replace hlen2:=Hd hlen2
 clear hbs
 go_enter Tryz.func129,Tryz.ntmps129
 go_wp2_with fail
 with_reducible refine hix.out.mono ?_
 rintro e w2 ⟨k,rfl,hk,hq⟩
 obtain rfl:=hq
 replace hR:=hR.out
 cases hz:Jc bs
 ·rw[hz] at hk hR
  have hk2:¬k<0:=by simpa using hk
  rw[if_neg sX] at hR
  clear hk
  replace hR:=Hd hR
  go_wp2_with fail
  go_ret
  exact⟨by rw[hR.out];rfl,rfl⟩
 ·rw[hz] at hk hR
  have hk2:k<0:=by simpa using hk
  rw[if_pos rfl] at hR
  clear hk
  replace hR:=Hd hR
  go_wp2_with fail
  go_ret
  exact⟨by rw[hR.out];rfl,rfl⟩
end Go.Proofs.YtpdhceiodgnbmaaGreatDoor
namespace Go.Proofs.YtpdhceiodgnbmaaGreatDoor
open Go.RowKit
def Ja(all:List UInt8)(E i:Nat):List UInt8:=(all.drop (i*64)).take (E-i*64)++zSec.drop (E-i*64)
def Yd(all:List UInt8)(E i:Nat)(s:DP×Bool):DP×Bool:=if Xp all E i<0 then s else ((s.1.write (i:Int) (Ja all E i)).1,true)
def ZP(all:List UInt8)(E i0:Nat):Nat->DP×Bool->DP×Bool
 | 0,s=>s
 | k+1,s=>Yd all E (i0+k) (ZP all E i0 k s)
def Vs(all:List UInt8)(E n:Nat)(p:DP):DP:=
 if (ZP all E (E / 64) (n-E / 64) (p,false)).2=true then (ZP all E (E / 64) (n-E / 64) (p,false)).1.sync.1 else (ZP all E (E / 64) (n-E / 64) (p,false)).1
theorem UL{all:List UInt8}{E i:Nat}(hE:E-i*64<64)(hl:(i+1)*64<=all.length):(Ja all E i).length=64:=by
 unfold Ja
 rw[List.length_append,List.length_take,List.length_drop,List.length_drop]
 simp[zSec];omega
theorem Jg{p:DP}{i:Int}{bs:List UInt8}(hb:p.bad=false)(h0:0<=i)(h1:i<p.n)(hl:bs.length=64):p.write i bs=({ p with l:=p.l-1,ws:=p.ws++[(i,bs)] },0):=by
 unfold DP.write
 rw[if_neg oX,if_neg oX,hb]
 rfl
theorem Ys{p:DP}(ha:p.armed=false)(hg:p.gone=false):p.bad=false:=by unfold DP.bad;rw[ha,hg];rfl
theorem VS{all:List UInt8}{E i0 n:Nat}{p:DP}(ha:p.armed=false)(hg:p.gone=false)(hn:p.n=(n:Int))(hE:E / 64<=i0)(hal:all.length=64*n)(b:Bool):∀ k,i0+k<=n->
  (ZP all E i0 k (p,b)).1.armed=false/\(ZP all E i0 k (p,b)).1.gone=false/\(ZP all E i0 k (p,b)).1.n=p.n/\(ZP all E i0 k (p,b)).1.f=p.f/\(ZP all E i0 k (p,b)).1.ws.length<=p.ws.length+k/\p.l-k<=(ZP all E i0 k (p,b)).1.l/\(ZP all E i0 k (p,b)).1.l<=p.l:=by
 intro k
 induction k with
 | zero=>intro _;exact⟨ha,hg,rfl,rfl,Nat.le_refl _,by show p.l-0<=p.l;omega,Int.le_refl _⟩
 | succ k ih=>
  intro hk
  obtain⟨h1,h2,h3,h4,h5,h6,h7⟩:=ih oX
  show (Yd all E (i0+k) (ZP all E i0 k (p,b))).1.armed=false/\_
  have hu:ZP all E i0 (k+1) (p,b)=Yd all E (i0+k) (ZP all E i0 k (p,b)):=rfl
  rw[hu]
  generalize ZP all E i0 k (p,b)=s at*
  unfold Yd
  split
  ·exact⟨h1,h2,h3,h4,oX,oX,h7⟩
  ·rw[Jg (Ys h1 h2) oX (by rw[h3,hn];omega) (UL oX oX)]
   exact⟨h1,h2,h3,h4,sYq,by simp only;omega,by simp only;omega⟩
theorem Th{all:List UInt8}{E i0:Nat}(hc:∀ k,E<=k->all.getD k 0=0)(s:DP×Bool):∀ k,ZP all E i0 k s=s:=by
 intro k
 induction k with
 | zero=>rfl
 | succ k ih=>
  show Yd all E (i0+k) (ZP all E i0 k s)=s
  rw[ih]
  unfold Yd
  have hz:Jc ((all.drop ((i0+k)*64+(E-(i0+k)*64))).take (64-(E-(i0+k)*64)))=true:=by
   unfold Jc
   rw[List.all_eq_true]
   intro x hx
   obtain⟨j,hj⟩:=List.mem_iff_getElem?.1 hx
   rw[List.getElem?_take] at hj
   split at hj
   ·rw[List.getElem?_drop] at hj
    have:=hc ((i0+k)*64+(E-(i0+k)*64)+j) oX
    rw[List.getD_eq_getElem?_getD,hj] at this
    simp at this
    simp[this]
   ·cases hj
  unfold Xp
  rw[hz]
  rfl
theorem Tu{all:List UInt8}{E n:Nat}{p:DP}(hc:∀ k,E<=k->all.getD k 0=0):Vs all E n p=p:=by
 unfold Vs
 rw[Th hc]
 rfl
theorem M7(seg:List UInt8):(cB seg++(cB zSec).toArray.toList.drop (cB seg).length).toArray=(cB (seg++zSec.drop seg.length)).toArray:=by
 rw[Y4,Ze]
 simp[cB,List.map_drop]
def L3(base:Nat)(w:World)(B mb mn:Nat)(v:Value)(q:DP)(m:Nat)(x:Ending)(w':World):Prop:=x=.returned .nilIface/\∃ v' mn',mn'<=mn+m/\DStep base w w' B mb v mn' v' q
theorem DStep.trans{base:Nat}{w w1 w2:World}{B mb m1 m2:Nat}{v v1 v2:Value}{p1 p2:DP}(h:DStep base w w1 B mb v m1 v1 p1)(h':DStep base w1 w2 B mb v1 m2 v2 p2):DStep base w w2 B mb v m2 v2 p2:=by
 refine⟨h'.ok,h.only.trans h'.only (λk hk hd=>?_),λk hk=>?_⟩
 ·rcases h.new k hd with h1|h1
  ·exact h1
  ·omega
 ·rcases h'.new k hk with h1|h1
  ·exact h.new k h1
  ·exact .inr (Nat.le_trans h.only.size h1)
theorem DStep.grow{base:Nat}{w w1 w2:World}{B mb m1:Nat}{v v1:Value}{p1:DP}(h:DStep base w w1 B mb v m1 v1 p1)(hb:Below w1.heap.size w1 w2):DStep base w w2 B mb v m1 v1 p1:=
 h.trans ⟨h.ok.below hb,Only.ofBelow hb,λ_ h=>.inl h⟩
theorem Dt{base:Nat}{w:World}{B mb mn:Nat}{v:Value}{p:DP}(h:DM base w B mb mn v p)(hb:base<=w.heap.size)(n:Nat)(hpn:p.n=(n:Int))(h1:1<=n)(hn:n<=1000)(hws:p.ws.length<=10000)(hmn:mn<=60000)(hpl : -100000<=p.l/\p.l<=100000)(ha:p.armed=false)(hg:p.gone=false)(e:Nat->Addr)(hE:DErr w e)(hBE:13≠B)(hEb:∀ W,Below base w W->DErr W e)
  (J:Nat) (C:Array Value) (T:TypeId) (hJ:w.heap[J]? = some (.cells C T (0,0))) (hJD:¬Zw B mb v J) (E:Nat) (hEn:E<=64*n) (hC0:C[0]? = some (.pointer (some ⟨B,0,none⟩))) (hC34:C[34]? = some (.int .i64 (E:Int)))
  (all:List UInt8) (hal:all.length=64*n) (ab ao c:Nat) (hA:ArgB w (some ⟨ab,ao,none⟩) c all) (hAD:¬Zw B mb v ab) :
  Calls Tryz.prog 101 #[.pointer (some ⟨J,0,none⟩),.slice (some ⟨ab,ao,none⟩) all.length c] w (L3 base w B mb mn v (Vs all E n p) 20000):=by
 have hkeeps:=λk=>VS (all:=all) (E:=E) (i0:=E / 64) ha hg hpn nR hal false k
 have hP:Vs all E n p=if (ZP all E (E / 64) (n-E / 64) (p,false)).2=true then (ZP all E (E / 64) (n-E / 64) (p,false)).1.sync.1 else (ZP all E (E / 64) (n-E / 64) (p,false)).1:=rfl
 obtain⟨i0,hi0⟩:∃ i0,i0=E / 64:=⟨_,rfl⟩
 have hi0n:i0<=n:=oX
 rw[<-hi0] at hkeeps hP
 have hJl:=Zb hJ
 have hal2:all.length<=100000:=oX
 have hablt:ab<w.heap.size:=by
  obtain⟨b',o',e',hc'⟩:=hA.row 0 oX
  cases e'
  exact World.block_lt_of_cell? w _ hc'
 have hdiv:(E:Int) / 64=(i0:Int):=oX
 have hdivt:(E:Int).tdiv 64=(i0:Int):=by rw[Int.tdiv_eq_ediv_of_nonneg oX];exact hdiv
 have hc34:w.cell? ⟨J,34,none⟩=some (.int .i64 (E:Int)):=by rw[Za hJ];exact hC34
 obtain⟨La,hLa⟩:∃ La,La=all.length:=⟨_,rfl⟩
 rw[<-hLa]
 replace hLa:=Hd hLa
 replace h:=Hd h
 replace hJ:=Hd hJ
 replace hA:=Hd hA
 replace hJD:=Hd hJD
 replace hAD:=Hd hAD
 replace hkeeps:=Hd hkeeps
 replace hP:=Hd hP
 replace hE:=Hd hE
 replace hEb:=Hd hEb
 replace hpn:=Hd hpn
 replace hC0:=Hd hC0
 replace hC34:=Hd hC34
 replace ha:=Hd ha
 replace hg:=Hd hg
 replace hal:=Hd hal
 replace hi0:=Hd hi0
 have hmk:∀ w:World,(Instr.makeSlice 24 (.int .i64 64) (.int .i64 64)).run Tryz.prog w=.ok (.slice (some ⟨w.heap.size,0,none⟩) 64 64) (w.alloc (.cells (cB zSec).toArray 5)):=λ_=>by kernel_rfl
 go_enter Tryz.func101,Tryz.ntmps101
 go_wp2_with fail
 refine Z8 [(false,5),(true,5),(false,6),(true,40)] _ [] (λU wr=>∃ (k:Nat) (v':Value),i0+k<=n/\U 6=.int .i64 (i0+k:Nat)/\U 5=.bool (ZP all E i0 k (p,false)).2/\DStep base w wr B mb v mn v' (ZP all E i0 k (p,false)).1)
  (λU _=>n-(intOf (U 6)).toNat) ?_ ?_
 ·simp only[List.getD_cons_zero,List.getD_cons_succ]
  exact⟨0,v,oX,rfl,rfl,DStep.same h.out⟩
 ·intro U wr hrel KK hback l' hl'
  obtain⟨k,v',hk,h6,h5,hst⟩:=hrel
  simp only[ZU,ZG,cond_true,cond_false,Nat.reduceAdd,h6,h5] at hl'
  subst hl'
  obtain⟨q1,q2,q3,q4,q5,q6,q7⟩:=hkeeps.out k hk
  have hstep:ZP all E i0 (k+1) (p,false)=Yd all E (i0+k) (ZP all E i0 k (p,false)):=rfl
  generalize hs:ZP all E i0 k (p,false)=s at*
  obtain⟨q,wp⟩:=s
  simp only at q1 q2 q3 q4 q5 q6 q7 hst h5
  replace hs:=Hd hs
  have hnq:q.n=(n:Int):=by rw[q3];exact hpn.out
  have hJr:wr.heap[J]? = some (.cells C T (0,0)):=hst.only.heap hJ.out hJD.out
  have hc0:wr.cell? ⟨J,0,none⟩=some (.pointer (some ⟨B,0,none⟩)):=by rw[Za hJr];exact hC0.out
  have hc34r:wr.cell? ⟨J,34,none⟩=some (.int .i64 (E:Int)):=by rw[Za hJr];exact hC34.out
  have hsz:Hid (Calls Tryz.prog 67 #[.pointer (some ⟨B,0,none⟩)] wr λx w'=>x=.returned (.int .i64 (n:Int))/\wr=w'):=by
   have:=Vn B q.n wr hst.ok.sizeCell
   rw[hnq] at this
   exact Hd this
  have hAr:ArgB wr (some ⟨ab,ao,none⟩) c all:=hst.only.argB hA.out (λb o e=>by cases e;exact hAD.out)
  obtain⟨i,hi⟩:∃ i,i=i0+k:=⟨_,rfl⟩
  rw[<-hi] at hk hstep h6 ⊢
  have hsizes:=hst.only.size
  replace h6:=Hd h6
  replace h5:=Hd h5
  have hkn1:k<=n:=oX
  by_cases hlt:i<n
  ·have hlt2:(i:Int)<(n:Int):=oX
   have hbe:=Rm J E i all oX oX (by have:=hi0.out;omega) (by have:=hal.out;omega) hal2 _ c wr hAr hc34r
   rw[<-hLa.out] at hbe
   obtain⟨r,hr⟩:∃ r,r=Xp all E i:=⟨_,rfl⟩
   rw[<-hr] at hbe
   replace hbe:=Hd hbe
   replace hAr:=Hd hAr
   replace hst:=Hd hst
   replace hJr:=Hd hJr
   replace hnq:=Hd hnq
   replace hstep:=Hd hstep
   replace hi:=Hd hi
   replace hr:=Hd hr
   replace q3:=Hd q3
   replace q4:=Hd q4
   clear hc34r
   by_cases hneg:r<0
   ·go_wp2_with fail
    with_reducible refine hsz.out.mono ?_
    rintro x w2 ⟨rfl,hq⟩
    obtain rfl:=hq
    go_wp2_with fail
    with_reducible refine hbe.out.mono ?_
    rintro x w2 ⟨rfl,hq⟩
    obtain rfl:=hq
    go_wp2_with fail
    refine hback.out _ _ kX ?_ ?_
    ·have hs1:ZP all E i0 (k+1) (p,false)=(q,wp):=by rw[hstep.out];unfold Yd;rw[<-hr.out,if_pos hneg]
     simp only[List.getD_cons_zero,List.getD_cons_succ]
     exact⟨k+1,v',by have:=hi.out;omega,by have:=hi.out;congr 1;omega,by rw[hs1],by rw[hs1];exact hst.out⟩
    ·have h6:=h6.out
     simp only[List.getD_cons_zero,List.getD_cons_succ,h6,intOf]
     omega
   ·go_wp2_with fail
    with_reducible refine hsz.out.mono ?_
    rintro x w2 ⟨rfl,hq⟩
    obtain rfl:=hq
    go_wp2_with fail
    with_reducible refine hbe.out.mono ?_
    rintro x w2 ⟨rfl,hq⟩
    obtain rfl:=hq
    obtain⟨I,hI⟩:∃ I,i*64=I:=⟨_,rfl⟩
    obtain⟨F,hF⟩:∃ F,E-I=F:=⟨_,rfl⟩
    have hi0':=hi0.out
    have hi':=hi.out
    have hal':=hal.out
    have hF64:F<64:=oX
    have hrF:r=(F:Int):=by
     have h1:=hr.out
     unfold Xp at h1
     rw[hI,hF] at h1
     split at h1
     ·omega
     ·exact h1
    subst hrF
    have hlc:=hAr.out.len
    have hI1:(i:Int)*64=(I:Int):=oX
    have hcI:¬c=I:=oX
    have hIF:(I:Int)+(F:Int)<=(c:Int):=oX
    have hseg:=(hAr.out.from I oX).upto F
    have hsegl:((all.drop I).take F).length=F:=by rw[List.length_take,List.length_drop];omega
    have hwB:Ja all E i=(all.drop I).take F++zSec.drop F:=by unfold Ja;rw[hI,hF]
    have hwBl:(Ja all E i).length=64:=UL oX oX
    generalize hsg:(all.drop I).take F=seg at*
    have hwC:(cB seg++(cB zSec).toArray.toList.drop (cB seg).length).toArray=(cB (Ja all E i)).toArray:=by rw[M7,hwB,hsegl]
    generalize hWB:Ja all E i=wb at*
    replace hWB:=Hd hWB
    have hG:Below wr.heap.size wr (wr.alloc (.cells (cB zSec).toArray 5)):=bR.alloc nR _
    have hsrc:∀ j u,(cB seg)[j]? = some u->(wr.alloc (.cells (cB zSec).toArray 5)).cell? ((⟨ab,ao+I,none⟩:Addr).add j)=some u:=λj u hj=>by
     rw[Addr.add_mid]
     exact(hseg.below hG).range j u hj
    have hcl:(cB seg).length=Nat.min (I+F-I) 64:=by rw[Ze,hsegl];show F=min (I+F-I) 64;omega
    have hcf:(cB seg).length<=(cB zSec).toArray.size:=by rw[Ze,hsegl];simp[Ze,zSec];omega
    have hone:=ZI seg
    have hgz:=Hd (heap_alloc_new wr (.cells (cB zSec).toArray 5 (0,0)))
    replace hsrc:=Hd hsrc
    replace hcl:=Hd hcl
    replace hcf:=Hd hcf
    replace hone:=Hd hone
    replace hwC:=Hd hwC
    replace hwB:=Hd hwB
    replace hwBl:=Hd hwBl
    replace hI:=Hd hI
    replace hF:=Hd hF
    replace hi':=Hd hi'
    replace hi0':=Hd hi0'
    replace hal':=Hd hal'
    replace hsegl:=Hd hsegl
    replace hG:=Hd hG
    have hJne:J≠wr.heap.size:=λe=>by have:=Zb hJr.out;omega
    have hJlr:=Zb hJr.out
    have hc7f:Hid (∀ w7:World,Hid (Upd wr.heap.size (.cells (cB seg++(cB zSec).toArray.toList.drop (cB seg).length).toArray 5 (0,0)) (wr.alloc (.cells (cB zSec).toArray 5)) w7)->w7.cell? ⟨J,0,none⟩=some (.pointer (some ⟨B,0,none⟩))):=Hd λw7 hU=>by
     rw[Za ((hU.out.block J hJne).trans ((hG.out.block J hJlr).trans hJr.out))]
     exact hC0.out
    clear hseg hsg
    go_wp2_with (refine wpList_plain rfl (λK hK=>?_);refine Hi (.tmp 32) (.tmp 40) rfl wr.heap.size 64 64 ⟨ab,ao+I,none⟩ (I+F-I) _ (cB zSec).toArray 5 (cB seg) rfl rfl hgz hcl.out hsrc.out hcf.out hone.out ?_;intro w7 hU7;refine hK _ _ ?_;clear hK K;have hc07:=hc7f.out w7 hU7)
    have hG7:Below wr.heap.size wr w7:=hG.out.trans (hU7.out.below nR)
    have ho7:=hst.out.ok.below hG7
    have hst7:=hst.out.grow hG7
    have hb7:base<=w7.heap.size:=by have:=hG7.size;omega
    have hw7:w7.heap[wr.heap.size]? = some (.cells (cB wb).toArray 5 (0,0)):=by rw[<-hwC.out];exact hU7.out.here
    have hE7:DErr w7 e:=hEb.out w7 ((hst.out.below h.out hb).trans (hG7.mono oX))
    have hDw:¬Zw B mb v' wr.heap.size:=λhd=>Nat.lt_irrefl _ (hst.out.ok.lt _ hd).2
    have hwr:=GG ho7 hb7 oX oX e hE7 hBE (i:Int) _ 64 wb (QH hw7 (by have:=hwBl.out;omega) dX) (λb' o' s' e'=>by cases e';exact hDw)
    rw[hwBl.out,Jg (Ys q1 q2) oX (by rw[hnq.out];exact hlt2) hwBl.out] at hwr
    replace hwr:=Hd hwr
    replace ho7:=Hd ho7
    replace hst7:=Hd hst7
    clear hG7 hw7 hE7 hDw hU7
    go_wp2_with fail
    with_reducible refine hwr.out.mono ?_
    rintro x w8 ⟨rfl,v8,hst8⟩
    clear hwr
    simp only[Xc]
    have hst9:=Hd (hst7.out.trans hst8)
    clear hst8
    go_wp2_with fail
    refine hback.out _ _ kX ?_ ?_
    ·have hs1:ZP all E i0 (k+1) (p,false)=({ q with l:=q.l-1,ws:=q.ws++[((i:Int),wb)] },true):=by
      rw[hstep.out,hi'.out]
      unfold Yd
      rw[<-hi'.out,<-hr.out,if_neg oX,hWB.out]
      simp only
      rw[Jg (Ys q1 q2) oX (by rw[hnq.out];exact hlt2) hwBl.out]
     simp only[List.getD_cons_zero,List.getD_cons_succ]
     exact⟨k+1,v8,by have:=hi.out;omega,by have:=hi.out;congr 1;omega,by rw[hs1],by rw[hs1];exact hst9.out⟩
    ·have h6:=h6.out
     simp only[List.getD_cons_zero,List.getD_cons_succ,h6,intOf]
     omega
  ·obtain rfl:i=n:=oX
   have hkn:k=i-i0:=oX
   have hP2:Vs all E i p=if wp=true then q.sync.1 else q:=by rw[hP.out,<-hkn,hs.out]
   have hsy:=Mg hst.ok oX oX oX oX e (hEb.out wr (hst.below h.out hb)) hBE
   have hsq:q.sync=({ q with l:=q.l-1,f:=ZJ (λ_=>some 64) q.ws q.f,ws:=[] },0):=by unfold DP.sync;rw[Ys q1 q2];rfl
   have hs2:q.sync.2=0:=by rw[hsq]
   rw[hs2] at hsy
   replace hsy:=Hd hsy
   replace hst:=Hd hst
   replace hP2:=Hd hP2
   replace hsq:=Hd hsq
   replace hs2:=Hd hs2
   replace hnq:=Hd hnq
   replace hJr:=Hd hJr
   replace hAr:=Hd hAr
   replace hstep:=Hd hstep
   replace hi:=Hd hi
   replace hkn:=Hd hkn
   replace q3:=Hd q3
   replace q4:=Hd q4
   clear hc34r
   cases wp
   ·go_wp2_with fail
    with_reducible refine hsz.out.mono ?_
    rintro x w2 ⟨rfl,hq⟩
    obtain rfl:=hq
    go_wp2_with fail
    go_ret
    exact⟨rfl,v',mn,oX,by rw[hP2.out];exact hst.out⟩
   ·go_wp2_with fail
    with_reducible refine hsz.out.mono ?_
    rintro x w2 ⟨rfl,hq⟩
    obtain rfl:=hq
    go_wp2_with fail
    with_reducible refine hsy.out.mono ?_
    rintro x w2 ⟨rfl,v2,mn2,hm2,hst2⟩
    simp only[Xc]
    replace hst2:=Hd (hst.out.trans hst2)
    clear hsy
    go_wp2_with fail
    go_ret
    exact⟨rfl,v2,mn2,oX,by rw[hP2.out];exact hst2.out⟩
end Go.Proofs.YtpdhceiodgnbmaaGreatDoor
