import Derived.Test.YtdilmfnpkeihiaaGreatDoorF0AudSaid
import Derived.Test.YtdilmfnpkeihiaaGreatDoorF2AudSaid
import Derived.Test.YtdilmfnpkeihiaaGreatDoorF42AudSaid
set_option linter.unusedVariables false
set_option linter.unusedSimpArgs false
set_option linter.unnecessarySimpa false
set_option maxRecDepth 100000
set_option maxHeartbeats 8000000
namespace Go.Proofs.YtdilmfnpkeihiaaGreatDoor
open Go.RowKit
theorem UZ{base:Nat}{w:World}{l:Nat}{V:LV}(h:LdM base w l V (LP.new 10)):Calls Tryz.prog 29 #[.pointer (some ⟨l,0,none⟩)] w λe w'=>e=.returned (.bool false)/\w=w':=by
 have h0:=Za h.at_ 0
 replace h0:w.cell? ⟨l,0,none⟩=some (.pointer (some ⟨V.J,0,none⟩)):=h0
 have hd:=Hd (Ka h.jd.jm)
 clear h
 go_enter Tryz.func29,Tryz.ntmps29
 go_wp2_with fail
 with_reducible refine hd.out.mono ?_
 rintro e w1 ⟨rfl,rfl⟩
 go_wp2_with fail
 go_ret
 exact⟨rfl,rfl⟩
def Gx(w:World)(e:Ending)(w':World):Prop:=∃ a c,e=.returned (.slice a 0 c)/\ArgBB w' a c []/\Below w.heap.size w w'
theorem UH{base:Nat}{w:World}{l:Nat}{V:LV}(h:LdM base w l V (LP.new 10)):Calls Tryz.prog 28 #[.pointer (some ⟨l,0,none⟩)] w (Gx w):=by
 have h0:=Za h.at_ 0
 replace h0:w.cell? ⟨l,0,none⟩=some (.pointer (some ⟨V.J,0,none⟩)):=h0
 have hd:=Hd (Ye h.jd.jm dX)
 clear h
 go_enter Tryz.func28,Tryz.ntmps28
 go_wp2_with fail
 with_reducible refine hd.out.mono ?_
 rintro e w1 ⟨v,F,rfl,hrow,hF,hb⟩
 obtain⟨a,c,rfl,hA⟩:=hrow.argBB
 have hfin:Gx w (.returned (.slice a ([]:List (List UInt8)).length c)) w1:=⟨a,c,rfl,hA,hb⟩
 replace hfin:=Hd hfin
 clear hrow hF hb hA h0 hd
 go_wp2_with fail
 go_ret
 exact hfin.out
theorem Vh{base:Nat}{w:World}{x o l:Nat}{V:LV}(h:WdM base w x o l V)(hK:ShaK w)(hF:ShaF w)(ea:Nat->Addr):Calls Tryz.prog 18 #[.pointer (some ⟨x,0,none⟩)] w λe w'=>e=.returned (.bool true)/\Below w.heap.size w w':=by
 obtain⟨⟨s,r,h1⟩,h2,h3⟩:=h
 have k0:=Za h1 0
 replace k0:w.cell? ⟨x,0,none⟩=some (.pointer (some ⟨o,0,none⟩)):=k0
 have zr:=Zw
 have zn:=Z0
 have hrc:=Hd (UH h3)
 have hL:=Hd h3
 replace hK:=Hd hK
 replace hF:=Hd hF
 clear h1 h3
 go_enter Tryz.func18,Tryz.ntmps18
 go_wp2_with fail
 with_reducible refine(Qv x _ w k0).mono ?_
 rintro e w1 ⟨rfl,rfl⟩
 go_wp2_with fail
 with_reducible refine(YV o _ w h2).mono ?_
 rintro e w1 ⟨rfl,rfl⟩
 clear k0 h2
 go_wp2_with fail
 with_reducible refine hrc.out.mono ?_
 rintro e w2 ⟨a,c,rfl,hA,hb2⟩
 have hL2:=Hd (hL.out.below hb2)
 have hde:=Hd (UZ hL2.out)
 obtain⟨A,hA1⟩:∃ A,A=w2.alloc (.cells zero32 39):=⟨_,rfl⟩
 have hbA:Below w2.heap.size w2 A:=by rw[hA1];exact bR.alloc nR _
 have a5:Hid (A.heap[w2.heap.size]? = some (.cells zero32 39 (0,0))):=Hd (by rw[hA1];exact heap_alloc_new w2 _)
 have hhe:=Hd (Jd [] dX (λr hr=>absurd hr List.not_mem_nil) a c A (hA.below hbA) ((hK.out.below hb2).below hbA) ((hF.out.below hb2).below hbA))
 have hBA:=Hd (hb2.trans (hbA.mono hb2.size))
 replace hA1:=Hd hA1
 have hLA:=Hd (hL2.out.below hbA)
 clear hb2 hrc hL hA hbA
 simp only[List.length_nil] at hhe
 go_wp2_with fail
 with_reducible refine hde.out.mono ?_
 rintro e w3 ⟨rfl,rfl⟩
 clear hde hL2
 go_wp2_with fail
 rw[<-hA1.out]
 with_reducible refine hhe.out.mono ?_
 rintro e w4 ⟨v,rfl,hro,hb4⟩
 obtain⟨a6,c6,rfl,-⟩:=hro.form
 have a54:=Hd ((hb4.block _ (Zb a5.out)).trans a5.out)
 have hB4:=Hd (hBA.out.trans (hb4.mono hBA.out.size))
 have hL4:=Hd (hLA.out.below hb4)
 have hrn:=Hd (Xk ea a c w4)
 have hlen:(ZF z32J []).length=0:=rfl
 rw[hlen]
 clear hro hb4 hhe hLA hBA a5 hlen hA1
 generalize w2.heap.size=b5 at*
 go_wp2_with fail
 with_reducible refine hrn.out.mono ?_
 clear hrn
 rintro e w5 ⟨vm,v5,rfl,hm5,hv5,hb5,-⟩
 obtain⟨a7,c7,a8,c8,hvm⟩:=hm5.shape
 replace hvm:vm=.agg #[.slice a7 0 c7,.slice a8 0 c8]:=hvm
 subst hvm
 obtain rfl:=ErrIs.zeroE hv5
 have hm5':ArgS w5 (.agg #[.slice a7 0 c7,.slice a8 0 c8]) ⟨[],[]⟩:=hm5
 obtain⟨w6,hw6⟩:∃ w6,w6=w5.alloc (.cells #[.slice a7 0 c7,.slice a8 0 c8] 83):=⟨_,rfl⟩
 have hb6:Below w5.heap.size w5 w6:=by rw[hw6];exact bR.alloc nR _
 have a7s:Hid (w6.heap[w5.heap.size]? = some (.cells #[.slice a7 0 c7,.slice a8 0 c8] 83 (0,0))):=Hd (by rw[hw6];exact heap_alloc_new w5 _)
 have hb46:Below w4.heap.size w4 w6:=hb5.trans (hb6.mono hb5.size)
 have a56:=Hd ((hb46.block _ (Zb a54.out)).trans a54.out)
 have hB6:=Hd (hB4.out.trans (hb46.mono hB4.out.size))
 have hL6:=Hd (hL4.out.below hb46)
 have hm6:=Hd (hm5'.below hb6 nR)
 have hK6:=Hd (hK.out.below hB6.out)
 have hF6:=Hd (hF.out.below hB6.out)
 replace hw6:=Hd hw6
 clear hm5 hm5' hv5 hb5 hb6 hb46 a54 hB4 hL4 hK hF
 go_wp2_with fail
 rw[<-hw6.out]
 clear hw6
 generalize w5.heap.size=b7 at*
 obtain⟨Z,hZ⟩:∃ Z,Z=(cB z32J).toArray:=⟨_,rfl⟩
 obtain⟨R,hR⟩:∃ R,R=(cB (sha [])).toArray:=⟨_,rfl⟩
 have heZ:=λW=>Kp z32J Zv W
 have heR:=λW=>Kp (sha []) (Z5 _) W
 rw[<-hZ] at heZ
 rw[<-hR] at heR
 rw[Qn,<-hZ] at a56
 have iZ:(Tryz.prog.info? 39).map (·.size)=some Z.size:=by rw[hZ];kernel_rfl
 have iC:(Tryz.prog.info? 83).map (·.size)=some (#[.slice a7 0 c7,.slice a8 0 c8]:Array Value).size:=kX
 replace hZ:=Hd hZ
 replace hR:=Hd hR
 have rlA:∀ W:World,Grown w6 W->W.heap[b5]? = some (.cells Z 39 (0,0)):=λW hW=>(hW.block _ (Zb a56.out)).trans a56.out
 have huA:=Tryz.underlying39
 have hzA:=iZ
 have rlB:∀ W:World,Grown w6 W->W.heap[b7]? = some (.cells #[.slice a7 0 c7,.slice a8 0 c8] 83 (0,0)):=λW hW=>(hW.block _ (Zb a7s.out)).trans a7s.out
 have huB:=Tryz.underlying83
 have hzB:=iC
 have hd0:Hid (Grown w6 w6.drew):=Hd (Grown.drew (Grown.refl w6))
 refine wp_region_held_drew (S:=(Grown w6)) kX hd0.out (λhOn=>?_)
 generalize World.drew w6=wd at*
 refine tk 0 hOn ?_
 refine tk 1 hOn ?_
 refine tk 2 hOn ?_
 refine tk 3 hOn ?_ (v:=Value.agg _) (hy:=Or.inl ⟨by rfl,λW hSW=>Zf _ _ rfl _ _ _ rfl (rlA W hSW) huA rfl hzA⟩)
 refine tk 4 hOn ?_
 refine rd 5 (λKz hKz=>?_)
 go_simp
 (with_reducible refine(UD (hL6.out.below hOn)).mono ?_)
 rintro e wa ⟨rfl,hnew⟩
 rw[<-hZ.out]
 have hS:=Grown.trans hOn hnew
 focus (go_wp2_with fail)
 refine hKz.out _ _ hS ?_
 clear hKz Kz hOn hS
 intro hOn
 try clear hnew
 try simp only[Act.put,sL,sZ,sS]
 refine tk 6 hOn ?_
 refine tk 7 hOn ?_
 refine tk 8 hOn ?_
 refine tk 9 hOn ?_
 refine tk 11 hOn ?_
 refine rd 10 (λKz hKz=>?_)
 go_simp
 (with_reducible refine(Gi a c _ (hK6.out.below hOn) (hF6.out.below hOn)).mono ?_)
 rintro e wb ⟨rfl,hnew⟩
 rw[<-hR.out]
 have hS:=Grown.trans hOn hnew
 focus (go_wp2_with fail)
 refine hKz.out _ _ hS ?_
 clear hKz Kz hOn hS
 intro hOn
 try clear hnew
 try simp only[Act.put,sL,sZ,sS]
 refine rd 12 (λKz hKz=>?_)
 go_simp
 (with_reducible refine(UM (hL6.out.below hOn) (hK6.out.below hOn) (hF6.out.below hOn)).mono ?_)
 rintro e wc ⟨rfl,hnew⟩
 rw[<-hR.out]
 have hS:=Grown.trans hOn hnew
 focus (go_wp2_with fail)
 refine hKz.out _ _ hS ?_
 clear hKz Kz hOn hS
 intro hOn
 try clear hnew
 try simp only[Act.put,sL,sZ,sS]
 refine tk 13 hOn ?_
 refine tk 14 hOn ?_
 refine tk 15 hOn ?_
 refine tk 16 hOn ?_ (v:=Value.agg _) (hy:=Or.inl ⟨by rfl,λW hSW=>Zf _ _ rfl _ _ _ rfl (rlB W hSW) huB rfl hzB⟩)
 refine tk 17 hOn ?_
 refine rd 18 (λKz hKz=>?_)
 go_simp
 (with_reducible refine(X6 (hL6.out.below hOn)).mono ?_)
 rintro e wd ⟨a9,c9,a10,c10,rfl,hm9,hnew⟩
 replace hm9:=Hd hm9
 have hS:=Grown.trans hOn hnew
 focus (go_wp2_with fail)
 refine hKz.out _ _ hS ?_
 clear hKz Kz hOn hS
 intro hOn
 try clear hnew
 try simp only[Act.put,sL,sZ,sS]
 refine rd 19 (λKz hKz=>?_)
 go_simp
 (with_reducible refine(Ky _ _ ⟨[],[]⟩ ⟨[],[]⟩ _ (hm6.out.below hOn nR) hm9.out (Nat.zero_le _) (Nat.zero_le _)).mono ?_)
 rintro e we ⟨rfl,hnew⟩
 rw[show XM ⟨[],[]⟩ ⟨[],[]⟩=true from rfl]
 have hS:=Grown.trans hOn hnew
 focus (go_wp2_with fail)
 refine hKz.out _ _ hS ?_
 clear hKz Kz hOn hS
 intro hOn
 try clear hnew
 try simp only[Act.put,sL,sZ,sS]
 refine tk 20 hOn ?_
 refine tk 21 hOn ?_
 refine dnE ?_
 all_goals
  go_wp2_with fail
  go_ret
  exact⟨rfl,hB6.out.trans (hOn.mono hB6.out.size)⟩
theorem GD{base:Nat}{w:World}{x o l:Nat}{V:LV}(h:WdM base w x o l V)(hK:ShaK w)(hF:ShaF w)(ea:Nat->Addr):Calls Tryz.prog 9 #[.pointer (some ⟨x,0,none⟩)] w λe w'=>e=.returned (.bool true)/\Below w.heap.size w w':=by
 have h1:=Hd (Ks h)
 replace h:=Hd h
 replace hK:=Hd hK
 replace hF:=Hd hF
 go_enter Tryz.func9,Tryz.ntmps9
 go_wp2_with fail
 with_reducible refine h1.out.mono ?_
 rintro e w1 ⟨rfl,hb1⟩
 have h2:=Hd (VC (h.out.below hb1))
 replace hb1:=Hd hb1
 clear h1
 go_wp2_with fail
 with_reducible refine h2.out.mono ?_
 rintro e w2 ⟨rfl,hb2⟩
 have hB2:=Hd (hb1.out.trans (hb2.mono hb1.out.size))
 have h3:=Hd (Vh (h.out.below hB2.out) (hK.out.below hB2.out) (hF.out.below hB2.out) ea)
 clear h2 hb1 hb2
 go_wp2_with fail
 with_reducible refine h3.out.mono ?_
 rintro e w3 ⟨rfl,hb3⟩
 have hB3:=Hd (hB2.out.trans (hb3.mono hB2.out.size))
 clear h3 hb3
 go_wp2_with fail
 go_ret
 exact⟨rfl,hB3.out⟩
def Gz(w:World)(e:Ending)(w':World):Prop:=∃ base x o l V,e=.returned (.pointer (some ⟨x,0,none⟩))/\WdM base w' x o l V/\Below w.heap.size w w'
def z16:List UInt8:=List.replicate 16 0
theorem KC{w:World}{b:Nat}{T:TypeId}(h:w.heap[b]? = some (.cells (cB z16).toArray T (0,0))):ArgB w (some ⟨b,0,none⟩) 16 z16:=by
 refine⟨dX,dX,λe=>(by cases e),λk hk=>⟨b,0,rfl,?_⟩⟩
 rw[Za h,List.getElem?_toArray,Nat.zero_add]
 simp only[cB,List.getElem?_map,List.getD_eq_getElem?_getD]
 rw[List.getElem?_eq_getElem hk]
 rfl
theorem KF(w:World)(e:Nat->Addr)(hE:DErr w e)(hK:ShaK w)(hF:ShaF w)(ea:Nat->Addr)(H:Errs 264 Yp w ea):Calls Tryz.prog 8 #[.int .i64 10] w (Gz w):=by
 have hmk:∀ w:World,(Instr.makeSlice 52 (.int .i64 16) (.int .i64 16)).run Tryz.prog w=.ok (.slice (some ⟨w.heap.size,0,none⟩) 16 16) (w.alloc (.cells (cB z16).toArray 5)):=λ_=>by kernel_rfl
 obtain⟨w1,hw1⟩:∃ w1,w1=w.alloc (.cells (cB z16).toArray 5):=⟨_,rfl⟩
 have hb1:Below w.heap.size w w1:=by rw[hw1];exact bR.alloc nR _
 have hA:ArgB w1 (some ⟨w.heap.size,0,none⟩) 16 z16:=KC (by rw[hw1];exact heap_alloc_new w _)
 have hwn:=Hd (JL w1 _ 16 hA e (hE.below hb1) (hK.below hb1) (hF.below hb1) ea (H.below hb1))
 replace hw1:=Hd hw1
 replace hb1:=Hd hb1
 clear hE hK hF H hA
 go_enter Tryz.func8,Tryz.ntmps8
 go_wp2_with fail
 rw[<-hw1.out]
 with_reducible refine hwn.out.mono ?_
 rintro x w2 ⟨x,o,l,V,rfl,hW,hb2⟩
 have hB2:=Hd (hb1.out.trans (hb2.mono hb1.out.size))
 obtain⟨⟨s,r,h1⟩,h2,h3⟩:=hW
 have k0:=Za h1 0
 replace k0:w2.cell? ⟨x,0,none⟩=some (.pointer (some ⟨o,0,none⟩)):=k0
 have k1:=Za h1 1
 replace k1:w2.cell? ⟨x,1,none⟩=some (.pointer (some ⟨s,0,none⟩)):=k1
 have k2:=Za h1 2
 replace k2:w2.cell? ⟨x,2,none⟩=some (.pointer (some ⟨r,0,none⟩)):=k2
 have k3:=Za h1 3
 replace k3:w2.cell? ⟨x,3,none⟩=some (.pointer (some ⟨V.B,0,none⟩)):=k3
 have hfin:Gz w (.returned (.pointer (some ⟨x,0,none⟩))) w2:=⟨w1.heap.size,x,o,l,V,rfl,⟨⟨s,r,h1⟩,h2,h3⟩,hB2.out⟩
 replace hfin:=Hd hfin
 clear h1 h3 hb2 hwn hw1 hb1 hB2
 go_wp2_with fail
 with_reducible refine(Qv x _ w2 k0).mono ?_
 rintro e w3 ⟨rfl,rfl⟩
 go_wp2_with fail
 with_reducible refine(JS x _ w2 k1).mono ?_
 rintro e w3 ⟨rfl,rfl⟩
 go_wp2_with fail
 with_reducible refine(Kk x _ w2 k2).mono ?_
 rintro e w3 ⟨rfl,rfl⟩
 go_wp2_with fail
 with_reducible refine(UR x _ w2 k3).mono ?_
 rintro e w3 ⟨rfl,rfl⟩
 go_wp2_with fail
 with_reducible refine(Qv x _ w2 k0).mono ?_
 rintro e w3 ⟨rfl,rfl⟩
 go_wp2_with fail
 with_reducible refine(YV o _ w2 h2).mono ?_
 rintro e w3 ⟨rfl,rfl⟩
 go_wp2_with fail
 go_ret
 exact hfin.out
theorem Vs(w:World)(e:Nat->Addr)(hE:DErr w e)(hK:ShaK w)(hF:ShaF w)(ea:Nat->Addr)(H:Errs 264 Yp w ea):Calls Tryz.prog 4 #[] w λe w'=>e=.returned (.bool true)/\Below w.heap.size w w':=by
 have hm:=Hd (KF w e hE hK hF ea H)
 replace hK:=Hd hK
 replace hF:=Hd hF
 clear hE H
 go_enter Tryz.func4,Tryz.ntmps4
 go_wp2_with fail
 with_reducible refine hm.out.mono ?_
 rintro e w2 ⟨base,x,o,l,V,rfl,hW,hb2⟩
 have ha:=Hd (GD hW (hK.out.below hb2) (hF.out.below hb2) ea)
 replace hb2:=Hd hb2
 clear hW hm
 go_wp2_with fail
 with_reducible refine ha.out.mono ?_
 rintro e w3 ⟨rfl,hb3⟩
 have hB3:=Hd (hb2.out.trans (hb3.mono hb2.out.size))
 clear hb3
 go_wp2_with fail
 go_ret
 exact⟨rfl,hB3.out⟩
end Go.Proofs.YtdilmfnpkeihiaaGreatDoor
