import Derived.Test.YtdilmfnpkeihiaaGreatDoorF0AudSaid
import Derived.Test.YtdilmfnpkeihiaaGreatDoorF2AudSaid
import Derived.Test.YtdilmfnpkeihiaaGreatDoorF12AudSaid
import Derived.Test.YtdilmfnpkeihiaaGreatDoorF8AudSaid
import Derived.Test.YtdilmfnpkeihiaaGreatDoorF6AudSaid
import Derived.Test.YtdilmfnpkeihiaaGreatDoorF9AudSaid
import Derived.Test.YtdilmfnpkeihiaaGreatDoorF39AudSaid
import Derived.Test.YtdilmfnpkeihiaaGreatDoorF40AudSaid
import Derived.Test.YtdilmfnpkeihiaaGreatDoorF38AudSaid
set_option linter.unusedVariables false
set_option linter.unusedSimpArgs false
set_option linter.unnecessarySimpa false
set_option maxRecDepth 100000
set_option maxHeartbeats 8000000
namespace Go.Proofs.YtdilmfnpkeihiaaGreatDoor
open Go.RowKit
section
variable {α β:Type} {R:World->(Nat->Prop)->α->List Value->Prop} {R':World->(Nat->Prop)->β->List Value->Prop} {s1 s2:Nat} {eN eV T:TypeId} {b:Nat} {w wr w1 w2:World} {v v' v1:Value} {xs:List α} {ys:List β}
end
def XM(m m':St):Bool:=decide (m.its=m'.its)&&decide (m.ens=m'.ens)
theorem Ky(va vb:Value)(m m':St)(w:World)(ha:ArgS w va m)(hb:ArgS w vb m')(l1:m.its.length<=1000)(l2:m.ens.length<=1000) :
  Calls Tryz.prog 35 #[va,vb] w λx w'=>x=.returned (.bool (XM m m'))/\Below w.heap.size w w':=by
 obtain⟨⟨an,cn,av,cv,rfl,hN,hN1,hN2,hV,hV1,hV2⟩,okN,okV⟩:=ha
 obtain⟨⟨bn,dn,bv,dv,rfl,hM,hM1,hM2,hW,hW1,hW2⟩,okM,okW⟩:=hb
 have h1:=λW (h:Below w.heap.size w W)=>Uk an bn cn dn m.its m'.its okN okM W (hN.below h nR) (hM.below h nR) oX
 have h2:=λW (h:Below w.heap.size w W)=>Ug av bv cv dv m.ens m'.ens okV okW W (hV.below h nR) (hW.below h nR) oX
 have he:XM m m'=(decide (m.its=m'.its)&&decide (m.ens=m'.ens)):=rfl
 rw[he]
 generalize decide (m.its=m'.its)=r1 at*
 generalize decide (m.ens=m'.ens)=r2 at*
 generalize m.its.length=n1 at*
 generalize m.ens.length=n2 at*
 generalize m'.its.length=n3 at*
 generalize m'.ens.length=n4 at*
 obtain⟨a1,a2,hs2,hB⟩:=QZ w #[.slice an n1 cn,.slice av n2 cv] #[.slice bn n3 dn,.slice bv n4 dv] 83 83 _ rfl
 obtain⟨w2,hw2⟩:∃ w2,w2=((w.alloc (.cells #[.slice an n1 cn,.slice av n2 cv] 83)).alloc (.cells #[.slice bn n3 dn,.slice bv n4 dv] 83)):=⟨_,rfl⟩
 rw[<-hw2] at a1 a2 hs2 hB
 have c10:=Za a1 0
 have c20:=Za a2 0
 simp only[List.getElem?_toArray,List.getElem?_cons_zero] at c10 c20
 replace hw2:=Hd hw2
 replace h1:=Hd h1
 replace h2:=Hd h2
 replace a1:=Hd a1
 replace a2:=Hd a2
 replace hB:=Hd hB
 replace hs2:=Hd hs2
 clear he hN hV hM hW hN1 hN2 hV1 hV2 hM1 hM2 hW1 hW2 okN okV okM okW l1 l2
 go_enter Tryz.func35,Tryz.ntmps35
 go_wp2_with fail
 rw[<-hw2.out]
 go_wp2_with fail
 with_reducible refine(h1.out w2 hB.out).mono ?_
 rintro e w3 ⟨rfl,hb⟩
 have b1:=(hb.block _ (Zb a1.out)).trans a1.out
 have b2:=(hb.block _ (Zb a2.out)).trans a2.out
 have f0:=Za b1 1
 have f1:=Za b2 1
 simp only[List.getElem?_toArray,List.getElem?_cons_succ,List.getElem?_cons_zero] at f0 f1
 have hB3:=Hd (hB.out.trans (hb.mono hB.out.size))
 clear b1 b2 hb c10 c20
 cases r1 with
 | false=>
  go_wp2_with fail
  go_ret
  exact⟨rfl,hB3.out⟩
 | true=>
  go_wp2_with fail
  with_reducible refine(h2.out w3 hB3.out).mono ?_
  rintro e w4 ⟨rfl,hb⟩
  have hB4:=Hd (hB3.out.trans (hb.mono hB3.out.size))
  go_wp2_with fail
  go_ret
  exact⟨sX,hB4.out⟩
theorem Kp(f:List UInt8)(h:f.length=32)(w:World):(binOp .eql 39 (.agg (cB f).toArray) (.agg (cB f).toArray)).run Tryz.prog w=.ok (.bool true) w:=by
 have hs:(cB f).toArray.size=32:=by simpa[cB] using h
 obtain⟨r,h1,h2,h3⟩:=Yi (P:=Tryz.prog) (w:=w) (xs:=(cB f).toArray) (ys:=(cB f).toArray) (t:=39) kX (XG f h 4) (XG f h 4) (Z4 (xs:=(cB f).toArray) Tryz.underlying39 rfl (by rw[hs];kernel_rfl)) (Z4 (xs:=(cB f).toArray) Tryz.underlying39 rfl (by rw[hs];kernel_rfl))
 have:r=true:=h1.2 rfl
 rw[h2,this]
theorem Qv(x:Nat)(v:Value)(w:World)(h:w.cell? ⟨x,0,none⟩=some v):Calls Tryz.prog 11 #[.pointer (some ⟨x,0,none⟩)] w λe w'=>e=.returned v/\w=w':=by
 go_enter Tryz.func11,Tryz.ntmps11
 go_wp2_with fail
 go_ret
 exact⟨rfl,rfl⟩
theorem JS(x:Nat)(v:Value)(w:World)(h:w.cell? ⟨x,1,none⟩=some v):Calls Tryz.prog 12 #[.pointer (some ⟨x,0,none⟩)] w λe w'=>e=.returned v/\w=w':=by
 go_enter Tryz.func12,Tryz.ntmps12
 go_wp2_with fail
 go_ret
 exact⟨rfl,rfl⟩
theorem Kk(x:Nat)(v:Value)(w:World)(h:w.cell? ⟨x,2,none⟩=some v):Calls Tryz.prog 13 #[.pointer (some ⟨x,0,none⟩)] w λe w'=>e=.returned v/\w=w':=by
 go_enter Tryz.func13,Tryz.ntmps13
 go_wp2_with fail
 go_ret
 exact⟨rfl,rfl⟩
theorem UR(x:Nat)(v:Value)(w:World)(h:w.cell? ⟨x,3,none⟩=some v):Calls Tryz.prog 14 #[.pointer (some ⟨x,0,none⟩)] w λe w'=>e=.returned v/\w=w':=by
 go_enter Tryz.func14,Tryz.ntmps14
 go_wp2_with fail
 go_ret
 exact⟨rfl,rfl⟩
theorem Vo(x:Nat)(w:World)(h:w.cell? ⟨x,4,none⟩=some (.bool false)):Calls Tryz.prog 24 #[.pointer (some ⟨x,0,none⟩)] w λe w'=>e=.returned (.bool true)/\w=w':=by
 go_enter Tryz.func24,Tryz.ntmps24
 go_wp2_with fail
 go_ret
 exact⟨rfl,rfl⟩
theorem YV(o:Nat)(v:Value)(w:World)(h:w.cell? ⟨o,1,none⟩=some v):Calls Tryz.prog 15 #[.pointer (some ⟨o,0,none⟩)] w λe w'=>e=.returned v/\w=w':=by
 go_enter Tryz.func15,Tryz.ntmps15
 go_wp2_with fail
 go_ret
 exact⟨rfl,rfl⟩
theorem UL(w:World)(a:Option Addr)(c:Nat)(a':Option Addr)(c':Nat)(hc:c<=maxLen)(hc':c'<=maxLen):ArgS w (.agg #[.slice a 0 c,.slice a' 0 c']) ⟨[],[]⟩:=
 ⟨⟨a,c,a',c',rfl,λi h=>absurd h (Nat.not_lt_zero _),Nat.zero_le _,hc,λi h=>absurd h (Nat.not_lt_zero _),Nat.zero_le _,hc'⟩,λx hx=>(List.not_mem_nil hx).elim,λx hx=>(List.not_mem_nil hx).elim⟩
def Gv(base:Nat)(w:World)(e:Ending)(w':World):Prop:=∃ a c a' c',e=.returned (.agg #[.slice a 0 c,.slice a' 0 c'])/\ArgS w' (.agg #[.slice a 0 c,.slice a' 0 c']) ⟨[],[]⟩/\Below base w w'
theorem X6{base:Nat}{w:World}{l:Nat}{V:LV}(h:LdM base w l V (LP.new 10)):Calls Tryz.prog 36 #[.pointer (some ⟨l,0,none⟩)] w (Gv w.heap.size w):=by
 refine(XX h dX dX).mono ?_
 rintro e w2 ⟨v,v',rfl,h1,h2,hb⟩
 have hA:=V0 h1 h2
 obtain⟨a,c,a',c',e⟩:=hA.shape
 cases e
 exact⟨a,c,a',c',rfl,hA,hb⟩
theorem Xz{base:Nat}{w:World}{o l:Nat}{V:LV}(ho:w.cell? ⟨o,1,none⟩=some (.pointer (some ⟨l,0,none⟩)))(h:LdM base w l V (LP.new 10)):Calls Tryz.prog 26 #[.pointer (some ⟨o,0,none⟩)] w (Gv w.heap.size w):=by
 obtain⟨w1,hw1⟩:∃ w1,w1=w.alloc (.cells #[.slice none 0 0,.slice none 0 0] 83):=⟨_,rfl⟩
 have hb1:Below w.heap.size w w1:=by rw[hw1];exact bR.alloc nR _
 have a1:w1.heap[w.heap.size]? = some (.cells #[.slice none 0 0,.slice none 0 0] 83 (0,0)):=by rw[hw1];exact heap_alloc_new w _
 have ho1:=(hb1.cell (World.block_lt_of_cell? w _ ho)).trans ho
 have hst:=Hd (X6 (h.below hb1))
 have ho0:(w.alloc (.cells #[.slice none 0 0,.slice none 0 0] 83)).cell? ⟨o,1,none⟩=some (.pointer (some ⟨l,0,none⟩)):=by rw[<-hw1];exact ho1
 replace hw1:=Hd hw1
 replace hb1:=Hd hb1
 replace a1:=Hd a1
 clear h ho
 go_enter Tryz.func26,Tryz.ntmps26
 go_wp2_with fail
 rw[<-hw1.out]
 with_reducible refine hst.out.mono ?_
 rintro e w2 ⟨a,c,a',c',rfl,hA,hb2⟩
 have a2:=Hd ((hb2.block _ (Zb a1.out)).trans a1.out)
 have iC:(Tryz.prog.info? 83).map (·.size)=some (#[.slice a 0 c,.slice a' 0 c']:Array Value).size:=kX
 have hB2:=Hd (hb1.out.trans (hb2.mono hb1.out.size))
 obtain⟨hc1,hc2⟩:c<=maxLen/\c'<=maxLen:=by
  obtain⟨⟨_,_,_,_,e,_,_,h1,_,_,h2⟩,_,_⟩:=hA
  cases e
  exact⟨h1,h2⟩
 replace hc1:=Hd hc1
 replace hc2:=Hd hc2
 clear hA hb2 hst
 go_wp2_with ((with_reducible refine wL (.store 83 (.tmp 2) _) ?_);(refine Zd rfl 83 (.tmp 2) (.tmp 7) rfl w.heap.size #[.slice none 0 0,.slice none 0 0] #[.slice a 0 c,.slice a' 0 c'] rfl rfl a2 iC rfl (by simp[Value.oneCell']) ?_);intro w3 hU3)
 refine Zm rfl rfl Tryz.underlying83 rfl iC hU3.out.here ?_
 exact⟨a,c,a',c',rfl,UL _ _ _ _ _ hc1.out hc2.out,hB2.out.trans (hU3.out.below nR)⟩
theorem Uz(a:Option Addr)(c:Nat)(fv:Value)(w:World):Calls Tryz.prog 42 #[.slice a 0 c,fv] w λe w'=>e=.returned (.int .i64 (-1))/\w=w':=by
 go_enter Tryz.func42,Tryz.ntmps42
 go_wp2_with fail
 refine wp_loop_rounds 1 ?_
 rw[rounds_succ]
 go_wp2_with fail
 go_ret
 exact⟨rfl,rfl⟩
theorem Kj(a:Option Addr)(c:Nat)(fv:Value)(w:World):Calls Tryz.prog 25 #[.slice a 0 c,fv] w λe w'=>e=.returned (.bool false)/\w=w':=by
 go_enter Tryz.func25,Tryz.ntmps25
 go_wp2_with fail
 with_reducible refine(Uz a c fv w).mono ?_
 rintro e w1 ⟨rfl,rfl⟩
 go_wp2_with fail
 go_ret
 exact⟨rfl,rfl⟩
theorem Ks{base:Nat}{w:World}{x o l:Nat}{V:LV}(h:WdM base w x o l V):Calls Tryz.prog 16 #[.pointer (some ⟨x,0,none⟩)] w λe w'=>e=.returned (.bool true)/\Below w.heap.size w w':=by
 obtain⟨⟨s,r,h1⟩,h2,h3⟩:=h
 have k0:=Za h1 0
 have k4:=Za h1 4
 replace k0:w.cell? ⟨x,0,none⟩=some (.pointer (some ⟨o,0,none⟩)):=k0
 replace k4:w.cell? ⟨x,4,none⟩=some (.bool false):=k4
 have hst:=Hd (Xz h2 h3)
 clear h1 h2 h3
 go_enter Tryz.func16,Tryz.ntmps16
 go_wp2_with fail
 with_reducible refine(Vo x w k4).mono ?_
 rintro e w1 ⟨rfl,rfl⟩
 go_wp2_with fail
 with_reducible refine(Qv x _ w k0).mono ?_
 rintro e w1 ⟨rfl,rfl⟩
 go_wp2_with fail
 with_reducible refine hst.out.mono ?_
 rintro e w2 ⟨a,c,a',c',rfl,-,hb2⟩
 replace hb2:=Hd hb2
 clear hst k0 k4
 have hfd:∀ W,(Instr.field 83 (.agg #[.slice a 0 c,.slice a' 0 c']) 1).run Tryz.prog W=.ok (.slice a' 0 c') W:=λW=>by kernel_rfl
 go_wp2_with fail
 with_reducible refine(Kj _ _ _ w2).mono ?_
 rintro e w3 ⟨rfl,rfl⟩
 go_wp2_with fail
 go_ret
 exact⟨rfl,hb2.out⟩
theorem VC{base:Nat}{w:World}{x o l:Nat}{V:LV}(h:WdM base w x o l V):Calls Tryz.prog 17 #[.pointer (some ⟨x,0,none⟩)] w λe w'=>e=.returned (.bool true)/\Below w.heap.size w w':=by
 obtain⟨⟨s,r,h1⟩,h2,h3⟩:=h
 have k0:=Za h1 0
 replace k0:w.cell? ⟨x,0,none⟩=some (.pointer (some ⟨o,0,none⟩)):=k0
 have hst:=Hd (Xz h2 h3)
 clear h1 h2 h3
 go_enter Tryz.func17,Tryz.ntmps17
 go_wp2_with fail
 with_reducible refine(Qv x _ w k0).mono ?_
 rintro e w1 ⟨rfl,rfl⟩
 go_wp2_with fail
 with_reducible refine hst.out.mono ?_
 rintro e w2 ⟨a,c,a',c',rfl,-,hb2⟩
 have hB:=Hd (hb2.alloc hb2.size (.cells #[.slice a 0 c,.slice a' 0 c'] 83))
 clear hst k0 hb2
 go_wp2_with fail
 refine wp_loop_rounds 1 ?_
 rw[rounds_succ]
 go_wp2_with fail
 go_ret
 exact⟨rfl,hB.out⟩
def N5(w:World)(e:Ending)(w':World):Prop:=e=.returned (.agg (cB (sha [])).toArray)/\Below w.heap.size w w'
theorem Uf(a:Option Addr)(c:Nat)(w:World):Calls Tryz.prog 50 #[.slice a 0 c] w λe w'=>e=.returned (.slice none 0 0)/\w=w':=by
 go_enter Tryz.func50,Tryz.ntmps50
 go_wp2_with fail
 refine wp_loop_rounds 1 ?_
 rw[rounds_succ]
 go_wp2_with fail
 go_ret
 exact⟨rfl,rfl⟩
theorem Xx(w:World)(hK:ShaK w)(hF:ShaF w):Calls Tryz.prog 59 #[.slice none 0 0] w (N5 w):=
 Jf none 0 [] w ⟨Nat.le_refl _,Nat.zero_le _,λ_=>rfl,λi h=>absurd h (Nat.not_lt_zero _)⟩ dX dX hK hF
end Go.Proofs.YtdilmfnpkeihiaaGreatDoor
