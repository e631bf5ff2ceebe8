import Derived.Test.YtdilmfnpkeihiaaGreatDoorF0AudSaid
import Derived.Test.YtdilmfnpkeihiaaGreatDoorF2AudSaid
import Derived.Test.YtdilmfnpkeihiaaGreatDoorF37AudSaid
import Derived.Test.YtdilmfnpkeihiaaGreatDoorF12AudSaid
import Derived.Test.YtdilmfnpkeihiaaGreatDoorF24AudSaid
import Derived.Test.YtdilmfnpkeihiaaGreatDoorF31AudSaid
set_option linter.unusedVariables false
set_option linter.unusedSimpArgs false
set_option linter.unnecessarySimpa false
set_option maxRecDepth 100000
set_option maxHeartbeats 8000000
namespace Go.Proofs.YtdilmfnpkeihiaaGreatDoor
open Go.RowKit
structure WdM (base:Nat) (w:World) (x o l:Nat) (V:LV):Prop where
 at_:∃ s r,w.heap[x]? = some (.cells #[.pointer (some ⟨o,0,none⟩),.pointer (some ⟨s,0,none⟩),.pointer (some ⟨r,0,none⟩),.pointer (some ⟨V.B,0,none⟩),.bool false,.int .i64 0] 68 (0,0))
 own:w.cell? ⟨o,1,none⟩=some (.pointer (some ⟨l,0,none⟩))
 led:LdM base w l V (LP.new 10)
theorem WdM.below{base:Nat}{w w':World}{x o l:Nat}{V:LV}(h:WdM base w x o l V)(hb:Below w.heap.size w w'):WdM base w' x o l V:=by
 obtain⟨⟨s,r,h1⟩,h2,h3⟩:=h
 exact⟨⟨s,r,(hb.block _ (Zb h1)).trans h1⟩,(hb.cell (World.block_lt_of_cell? w _ h2)).trans h2,h3.below hb⟩
theorem KT(a:Option Addr)(c:Nat)(w:World):Calls Tryz.prog 37 #[.slice a 16 c] w λx w'=>x=.returned (.bool true)/\w=w':=by
 go_enter Tryz.func37,Tryz.ntmps37
 go_wp2_with fail
 go_ret
 exact⟨rfl,rfl⟩
theorem KN(w:World):Calls Tryz.prog 41 #[] w λe w'=>e=.returned (.pointer (some ⟨w.heap.size,0,none⟩))/\Below w.heap.size w w':=by
 go_enter Tryz.func41,Tryz.ntmps41
 go_wp2_with fail
 go_ret
 exact⟨rfl,bR.alloc nR _⟩
theorem JI(w:World):Calls Tryz.prog 21 #[] w λe w'=>(∃ s,e=.returned (.pointer (some ⟨s,0,none⟩)))/\Below w.heap.size w w':=by
 have hmm:=@run_makeMap Tryz.prog
 have hb1:Below w.heap.size w (w.alloc (.map #[] 0)):=bR.alloc nR _
 have hs:=Hd (KN (w.alloc (.map #[] 0)))
 replace hb1:=Hd hb1
 go_enter Tryz.func21,Tryz.ntmps21
 go_wp2_with fail
 with_reducible refine hs.out.mono ?_
 rintro e w2 ⟨rfl,hb2⟩
 have hB2:=Hd (hb1.out.trans (hb2.mono hb1.out.size))
 clear hb2 hs
 go_wp2_with fail
 go_ret
 exact⟨⟨_,rfl⟩,hB2.out.alloc hB2.out.size _⟩
theorem Vl(w:World):Calls Tryz.prog 22 #[] w λe w'=>e=.returned (.pointer (some ⟨w.heap.size,0,none⟩))/\Below w.heap.size w w':=by
 go_enter Tryz.func22,Tryz.ntmps22
 go_wp2_with fail
 go_ret
 exact⟨rfl,bR.alloc nR _⟩
def N1(base:Nat)(w:World)(B:Nat)(e:Ending)(w':World):Prop:=
 ∃ o l V,e=.returned (.tuple #[.pointer (some ⟨o,0,none⟩),.nilIface])/\w'.cell? ⟨o,1,none⟩=some (.pointer (some ⟨l,0,none⟩))/\LdM base w' l V (LP.new 10)/\V.B=B/\Below base w w'
theorem JH{base:Nat}{w:World}{B mb mn:Nat}(a:Option Addr)(c:Nat)(hA:ArgB w a c (List.replicate 16 0))(hab:∀ W,Below base w W->ArgB W a c (List.replicate 16 0))(hb:base<=w.heap.size)(hlo:Calls Tryz.prog 38 #[.pointer (some ⟨B,0,none⟩)] w (Gs base w B mb mn 10)) :
  Calls Tryz.prog 20 #[.slice a 16 c,.pointer (some ⟨B,0,none⟩),.int .i64 0] w (N1 base w B):=by
 have hmm:=@run_makeMap Tryz.prog
 replace hlo:=Hd hlo
 replace hab:=Hd hab
 clear hA
 go_enter Tryz.func20,Tryz.ntmps20
 go_wp2_with fail
 with_reducible refine(KT a c w).mono ?_
 rintro e w1 ⟨rfl,rfl⟩
 go_wp2_with fail
 with_reducible refine hlo.out.mono ?_
 rintro e w2 ⟨l,V,rfl,hL,hVB,-,-,hb2⟩
 have hcl:=Hd (QA a c (List.replicate 16 0) w2 (hab.out w2 hb2) dX)
 rw[List.length_replicate] at hcl
 replace hL:=Hd hL
 replace hb2:=Hd hb2
 clear hlo
 go_wp2_with fail
 with_reducible refine hcl.out.mono ?_
 rintro e w3 ⟨v,rfl,ho,hb3⟩
 have hB3:=Hd (hb2.out.trans (hb3.mono (Nat.le_trans hb hb2.out.size)))
 have hL3:=Hd (hL.out.below hb3)
 obtain⟨a3,c3,e3,-,-⟩:=ho.arg
 subst e3
 clear hcl ho hb3 hab
 go_wp2_with fail
 obtain⟨w4,hw4⟩:∃ w4,w4=(((w3.alloc (.map #[] 0)).alloc (.map #[] 0)).alloc (.map #[] 0)).alloc (.map #[] 0):=⟨_,rfl⟩
 have hs4:w4.heap.size=w3.heap.size+1+1+1+1:=by rw[hw4];simp[World.size_alloc]
 have hb34:Below w3.heap.size w3 w4:=by rw[hw4];exact(((bR.alloc nR _).alloc (by simp[World.size_alloc]) _).alloc (by simp[World.size_alloc];omega) _).alloc (by simp[World.size_alloc];omega) _
 rw[<-hw4,<-hs4]
 generalize hC:(#[Value.slice a3 16 c3,Value.pointer (some { block:=l,off:=0 }),Value.int IntKind.i64 0,Value.map (some w3.heap.size),Value.map (some (w3.heap.size+1)),Value.slice none 0 0,Value.map (some (w3.heap.size+1+1)),Value.map (some (w3.heap.size+1+1+1))]:Array Value)=C
 obtain⟨w5,hw5⟩:∃ w5,w5=w4.alloc (.cells C 75):=⟨_,rfl⟩
 have hb45:Below w4.heap.size w4 w5:=by rw[hw5];exact bR.alloc nR _
 have ho5:w5.cell? ⟨w4.heap.size,1,none⟩=some (.pointer (some ⟨l,0,none⟩)):=by rw[hw5,Za (heap_alloc_new w4 _),<-hC];rfl
 rw[<-hw5]
 have hb35:Below w3.heap.size w3 w5:=hb34.trans (hb45.mono hb34.size)
 have hB5:=Hd (hB3.out.trans (hb35.mono (Nat.le_trans hb hB3.out.size)))
 have hL5:=Hd (hL3.out.below hb35)
 have hst:=Hd (XX hL5.out dX dX)
 replace ho5:=Hd ho5
 clear hb34 hb45 hb35 hs4 hw4 hw5
 generalize w4.heap.size=o at*
 with_reducible refine hst.out.mono ?_
 rintro e w6 ⟨v,v',rfl,h1,h2,hb6⟩
 have hA6:=V0 h1 h2
 obtain⟨a4,c4,a5,c5,hvm⟩:=hA6.shape
 replace hvm:Value.agg #[v,v']=.agg #[.slice a4 0 c4,.slice a5 0 c5]:=hvm
 cases hvm
 have hB6:=Hd (hB5.out.trans (hb6.mono (Nat.le_trans hb hB5.out.size)))
 have hL6:=hL5.out.below hb6
 have ho6:=(hb6.cell (World.block_lt_of_cell? w5 _ ho5.out)).trans ho5.out
 have hG:Below w6.heap.size w6 (w6.alloc (.cells #[.slice a4 0 c4,.slice a5 0 c5] 83)):=bR.alloc nR _
 have hB7:=Hd (hB6.out.trans (hG.mono (Nat.le_trans hb hB6.out.size)))
 have hL7:=Hd (hL6.below hG)
 have ho7:=Hd ((hG.cell (World.block_lt_of_cell? w6 _ ho6)).trans ho6)
 clear h1 h2 hb6 hA6 hL6 ho6 hG hst hL5 ho5
 go_wp2_with fail
 refine wp_loop_rounds 1 ?_
 rw[rounds_succ]
 go_wp2_with fail
 go_ret2
 exact⟨o,l,V,rfl,ho7.out,hL7.out,hVB,hB7.out⟩
def Nk(base:Nat)(w:World)(e:Ending)(w':World):Prop:=
 ∃ x o l V,e=.returned (.tuple #[.pointer (some ⟨x,0,none⟩),.nilIface])/\WdM base w' x o l V/\Below base w w'
theorem JL(w:World)(a:Option Addr)(c:Nat)(hA:ArgB w a c (List.replicate 16 0))(e:Nat->Addr)(hE:DErr w e)(hK:ShaK w)(hF:ShaF w)(ea:Nat->Addr)(H:Errs 264 Yp w ea) :
  Calls Tryz.prog 10 #[.slice a 16 c,.int .i64 10] w (Nk w.heap.size w):=by
 have hnw:=Hd (Gf 10 oX oX w)
 have hd:=Nf 10 w w.heap.size nR
 have hB2:14<w.heap.size:=World.block_lt_of_cell? w _ hE.power
 have hb1:Below w.heap.size w ((w.alloc (.map #[] 0)).alloc (.cells (Zx 10 w.heap.size (.slice none 0 0) false 0 false) 100)):=(bR.alloc nR _).alloc sX _
 generalize hW1:(w.alloc (.map #[] 0)).alloc (.cells (Zx 10 w.heap.size (.slice none 0 0) false 0 false) 100)=w1 at*
 have hBE:14≠w.heap.size+1:=oX
 have hlo:=Ut 10 hd hb1.size dX dX dX e hBE (λW hW=>hE.below (hb1.trans hW)) (hK.below hb1) (hF.below hb1) ea (H.below hb1) (λW hW=>H.below (hb1.trans hW))
 have how:=Hd (JH (base:=w.heap.size) a c (hA.below hb1) (λW hW=>hA.below (hb1.trans hW)) hb1.size hlo)
 replace hb1:=Hd hb1
 replace hW1:=Hd hW1
 clear hd hBE hB2 hE hK hF H hlo hA
 go_enter Tryz.func10,Tryz.ntmps10
 go_wp2_with fail
 with_reducible refine hnw.out.mono ?_
 rintro x w' ⟨rfl,hq⟩
 obtain rfl:w1=w':=hq.symm
 clear hq hnw hW1
 go_wp2_with fail
 with_reducible refine how.out.mono ?_
 clear how
 rintro x w2 ⟨o,l,V,rfl,ho,hL,hVB,hb2⟩
 have hB2:=Hd (hb1.out.trans hb2)
 have hsh:=Hd (JI w2)
 replace hL:=Hd hL
 replace ho:=Hd ho
 clear hb2
 go_wp2_with fail
 with_reducible refine hsh.out.mono ?_
 clear hsh
 rintro x w3 ⟨⟨s,rfl⟩,hb3⟩
 have hwi:=Hd (Vl w3)
 have hB3:=Hd (hB2.out.trans (hb3.mono hB2.out.size))
 have hL3:=Hd (hL.out.below hb3)
 have ho3:=Hd ((hb3.cell (World.block_lt_of_cell? w2 _ ho.out)).trans ho.out)
 clear hb3 hL ho
 go_wp2_with fail
 with_reducible refine hwi.out.mono ?_
 clear hwi
 rintro x w4 ⟨rfl,hb4⟩
 have hB4:=Hd (hB3.out.trans (hb4.mono hB3.out.size))
 have hL4:=Hd (hL3.out.below hb4)
 have ho4:=Hd ((hb4.cell (World.block_lt_of_cell? w3 _ ho3.out)).trans ho3.out)
 clear hb4 hL3 ho3
 go_wp2_with fail
 go_ret2
 have hG:=(Below.refl w4.heap.size w4).alloc nR (.cells #[.pointer (some ⟨o,0,none⟩),.pointer (some ⟨s,0,none⟩),.pointer (some ⟨w3.heap.size,0,none⟩),.pointer (some ⟨w.heap.size+1,0,none⟩),.bool false,.int .i64 0] 68)
 refine⟨w4.heap.size,o,l,V,rfl,⟨⟨s,w3.heap.size,?_⟩,(hG.cell (World.block_lt_of_cell? w4 _ ho4.out)).trans ho4.out,hL4.out.below hG⟩,hB4.out.trans (hG.mono hB4.out.size)⟩
 rw[hVB]
 exact heap_alloc_new w4 _
end Go.Proofs.YtdilmfnpkeihiaaGreatDoor
