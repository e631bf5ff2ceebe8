import Derived.Test.YtdilmfnpkeihiaaGreatDoorF0AudSaid
import Derived.Test.YtdilmfnpkeihiaaGreatDoorF2AudSaid
import Derived.Test.YtdilmfnpkeihiaaGreatDoorF43AudSaid
import Derived.Test.YtdilmfnpkeihiaaGreatDoorF9AudSaid
import Derived.Test.YtdilmfnpkeihiaaGreatDoorF7AudSaid
set_option linter.unusedVariables false
set_option linter.unusedSimpArgs false
set_option linter.unnecessarySimpa false
set_option maxRecDepth 100000
set_option maxHeartbeats 8000000
namespace Go.Proofs.YtdilmfnpkeihiaaGreatDoor
open Go.RowKit
theorem QV(va vb:Value)(a b:Md)(w:World)(ha:ArgM w va a)(hb:ArgM w vb b):Calls Tryz.prog 5 #[va,vb] w λx w'=>x=.returned (.bool (Qs a b))/\Below w.heap.size w w':=by
 obtain⟨⟨an,cn,av,cv,e1,hN,hN1,hN2,hV,hV1,hV2⟩,okN,okV⟩:=id ha
 obtain⟨⟨bn,dn,bv,dv,e2,hM,hM1,hM2,hU,hU1,hU2⟩,okM,okU⟩:=id hb
 obtain⟨A,hA⟩:∃ A,A=#[Value.slice an a.ns.length cn,.slice av a.vs.length cv]:=⟨_,rfl⟩
 obtain⟨B,hB⟩:∃ B,B=#[Value.slice bn b.ns.length dn,.slice bv b.vs.length dv]:=⟨_,rfl⟩
 rw[<-hA] at e1
 rw[<-hB] at e2
 subst e1
 subst e2
 have iA:(Tryz.prog.info? 25).map (·.size)=some A.size:=by rw[hA];kernel_rfl
 have iB:(Tryz.prog.info? 25).map (·.size)=some B.size:=by rw[hB];kernel_rfl
 obtain⟨aA,aB,hs,hb2⟩:=QZ w A B 25 25 _ rfl
 obtain⟨w2,hw2⟩:∃ w2,w2=(w.alloc (.cells A 25)).alloc (.cells B 25):=⟨_,rfl⟩
 rw[<-hw2] at aA aB hb2
 have hg:=Hd (YB (.agg A) (.agg B) a b w2 (ha.below hb2 nR) (hb.below hb2 nR))
 replace hw2:=Hd hw2
 replace hA:=Hd hA
 replace hB:=Hd hB
 clear ha hb hs hN hN1 hN2 hV hV1 hV2 okN okV hM hM1 hM2 hU hU1 hU2 okM okU
 replace hb2:=Hd hb2
 go_enter Tryz.func5,Tryz.ntmps5
 have huM:=Tryz.underlying25
 replace aA:=Hd aA
 replace aB:=Hd aB
 go_wp2_with (first
  | ((with_reducible refine wL (.load 25 (.tmp 2)) ?_);rw[<-hw2.out];refine Ze rfl 25 (.tmp 2) rfl w.heap.size A _ rfl aA huM rfl iA ?_)
  | ((with_reducible refine wL (.load 25 (.tmp 3)) ?_);(try rw[<-hw2.out]);refine Ze rfl 25 (.tmp 3) rfl (w.heap.size+1) B _ rfl aB huM rfl iB ?_))
 with_reducible refine hg.out.mono ?_
 rintro e w3 ⟨rfl,hb3⟩
 have hB3:=Hd (hb2.out.trans (hb3.mono hb2.out.size))
 clear hb3 hg
 go_wp2_with fail
 go_ret
 exact⟨rfl,hB3.out⟩
theorem UX{a b:Md}(h:¬a.ns.length<=b.ns.length):Qs a b=false:=by
 unfold Qs
 rw[decide_eq_false h]
 rfl
theorem Xv(va:Value)(a:Md)(vb:Value)(b:Md)(w:World)(ha:ArgM w va a)(hb:ArgM w vb b)(ea:Nat->Addr)(H:Errs 264 Yp w ea)(hK:ShaK w)(hF:ShaF w) :
  Calls Tryz.prog 3 #[va,vb] w λx w'=>x=.returned (.bool true)/\Below w.heap.size w w':=by
 have hE:DErr w (λk=>match k with|0=>ea 0|1=>ea 7|_=>ea 13):=⟨H.var 0 dX,H.var 7 dX,H.var 13 dX⟩
 obtain⟨⟨an,cn,av,cv,e1,-⟩,-,-⟩:=id ha
 obtain⟨⟨bn,dn,bv,dv,e2,-⟩,-,-⟩:=id hb
 obtain⟨NA,hNA⟩:∃ n,n=a.ns.length:=⟨_,rfl⟩
 obtain⟨NB,hNB⟩:∃ n,n=b.ns.length:=⟨_,rfl⟩
 obtain⟨VA,hVA⟩:∃ n,n=a.vs.length:=⟨_,rfl⟩
 obtain⟨VB,hVB⟩:∃ n,n=b.vs.length:=⟨_,rfl⟩
 rw[<-hNA,<-hVA] at e1
 rw[<-hNB,<-hVB] at e2
 subst e1
 subst e2
 have iA:(Tryz.prog.info? 25).map (·.size)=some (#[.slice an NA cn,.slice av VA cv]:Array Value).size:=kX
 have iB:(Tryz.prog.info? 25).map (·.size)=some (#[.slice bn NB dn,.slice bv VB dv]:Array Value).size:=kX
 obtain⟨aA,aB,hs,hb2⟩:=QZ w #[.slice an NA cn,.slice av VA cv] #[.slice bn NB dn,.slice bv VB dv] 25 25 _ rfl
 obtain⟨w2,hw2⟩:∃ w2,w2=(w.alloc (.cells #[.slice an NA cn,.slice av VA cv] 25)).alloc (.cells #[.slice bn NB dn,.slice bv VB dv] 25):=⟨_,rfl⟩
 rw[<-hw2] at aA aB hb2
 have hal:=Hd (Vs w2 _ (hE.below hb2) (hK.below hb2) (hF.below hb2) ea (H.below hb2))
 replace hw2:=Hd hw2
 replace ha:=Hd (ha.below hb2 nR)
 replace hb:=Hd (hb.below hb2 nR)
 replace aA:=Hd aA
 replace aB:=Hd aB
 replace hb2:=Hd hb2
 obtain⟨g,hg⟩:∃ g,g=Qs a b:=⟨_,rfl⟩
 have hgle:=Hd (λ(h:¬NA<=NB)=>show g=false by rw[hg];exact UX (by rw[<-hNA,<-hNB];exact h))
 replace hg:=Hd hg
 replace hNA:=Hd hNA
 replace hNB:=Hd hNB
 replace hVA:=Hd hVA
 replace hVB:=Hd hVB
 clear hE H hK hF hs
 go_enter Tryz.func3,Tryz.ntmps3
 go_wp2_with fail
 rw[<-hw2.out]
 with_reducible refine hal.out.mono ?_
 clear hal hw2
 rintro e w3 ⟨rfl,hb3⟩
 have hB3:=Hd (hb2.out.trans (hb3.mono hb2.out.size))
 replace aA:=Hd ((hb3.block _ (Zb aA.out)).trans aA.out)
 replace aB:=Hd ((hb3.block _ (Zb aB.out)).trans aB.out)
 replace ha:=Hd (ha.out.below hb3 nR)
 replace hb:=Hd (hb.out.below hb3 nR)
 have kA0:=Za aA.out 0
 replace kA0:w3.cell? ⟨w.heap.size,0,none⟩=some (.slice an NA cn):=kA0
 have kA1:=Za aA.out 1
 replace kA1:w3.cell? ⟨w.heap.size,1,none⟩=some (.slice av VA cv):=kA1
 have kB0:=Za aB.out 0
 replace kB0:w3.cell? ⟨w.heap.size+1,0,none⟩=some (.slice bn NB dn):=kB0
 have kB1:=Za aB.out 1
 replace kB1:w3.cell? ⟨w.heap.size+1,1,none⟩=some (.slice bv VB dv):=kB1
 clear hb3 hb2
 by_cases h1:20<NA
 ·have l1:(20:Int)<(NA:Int):=oX
  clear h1
  go_wp2_with fail
  go_ret
  exact⟨rfl,hB3.out⟩
 have l1:¬(20:Int)<(NA:Int):=oX
 by_cases h2:20<NB
 ·have l2:(20:Int)<(NB:Int):=oX
  clear h1 h2
  go_wp2_with fail
  go_ret
  exact⟨rfl,hB3.out⟩
 have l2:¬(20:Int)<(NB:Int):=oX
 by_cases h3:40<VA
 ·have l3:(40:Int)<(VA:Int):=oX
  clear h1 h2 h3
  go_wp2_with fail
  go_ret
  exact⟨rfl,hB3.out⟩
 have l3:¬(40:Int)<(VA:Int):=oX
 by_cases h4:40<VB
 ·have l4:(40:Int)<(VB:Int):=oX
  clear h1 h2 h3 h4
  go_wp2_with fail
  go_ret
  exact⟨rfl,hB3.out⟩
 have l4:¬(40:Int)<(VB:Int):=oX
 have bl1:=Hd (show a.ns.length<=1000 by rw[<-hNA.out];omega)
 have bl2:=Hd (show a.vs.length<=1000 by rw[<-hVA.out];omega)
 clear h1 h2 h3 h4
 go_wp2_with fail
 have rlA:∀ W:World,Grown w3 W->W.heap[w.heap.size]? = some (.cells #[.slice an NA cn,.slice av VA cv] 25 (0,0)):=λW hW=>(hW.block _ (Zb aA.out)).trans aA.out
 have huA:=Tryz.underlying25
 have hzA:=iA
 have rlB:∀ W:World,Grown w3 W->W.heap[w.heap.size+1]? = some (.cells #[.slice bn NB dn,.slice bv VB dv] 25 (0,0)):=λW hW=>(hW.block _ (Zb aB.out)).trans aB.out
 have huB:=huA
 have hzB:=iB
 have cB0:∀ W:World,Grown w3 W->W.cell? ⟨w.heap.size+1,0,none⟩=some (.slice bn NB dn):=λW hW=>Za (rlB W hW) 0
 have hfd:∀ (x y:Value) W,(Instr.field 31 (.agg #[x,y]) 0).run Tryz.prog W=.ok x W:=λx y W=>by kernel_rfl
 have hd0:Hid (Grown w3 w3.drew):=Hd (Grown.drew (Grown.refl w3))
 clear kA0 kA1 kB0 kB1
 by_cases hle:NA<=NB
 ·have hle1:decide (NA<=NB)=true:=decide_eq_true hle
  have hle2:(NA:Int)<=(NB:Int):=oX
  replace hle:=Hd hle
  clear hgle
  refine wp_region_held_drew (S:=(Grown w3)) kX hd0.out (λhOn=>?_)
  generalize World.drew w3=wd at*
  refine tk 0 hOn ?_ (v:=Value.agg _) (hy:=Or.inl ⟨by rfl,λW hSW=>Zf _ _ rfl _ _ _ rfl (rlA W hSW) huA rfl hzA⟩)
  refine tk 1 hOn ?_ (v:=Value.agg _) (hy:=Or.inl ⟨by rfl,λW hSW=>Zf _ _ rfl _ _ _ rfl (rlB W hSW) huB rfl hzB⟩)
  refine tk 3 hOn ?_ (v:=Value.agg _) (hy:=Or.inl ⟨by rfl,λW hSW=>Zf _ _ rfl _ _ _ rfl (rlA W hSW) huA rfl hzA⟩)
  refine tk 4 hOn ?_ (v:=Value.agg _) (hy:=Or.inl ⟨by rfl,λW hSW=>Zf _ _ rfl _ _ _ rfl (rlB W hSW) huB rfl hzB⟩)
  refine rd 2 (λKz hKz=>?_)
  go_simp
  (with_reducible refine(QV _ _ a b _ (ha.out.below hOn nR) (hb.out.below hOn nR)).mono ?_)
  rintro e wa ⟨rfl,hnew⟩
  rw[<-hg.out]
  have hS:=Grown.trans hOn hnew
  focus (go_wp2_with fail)
  refine hKz.out _ _ hS ?_
  clear hKz Kz hOn hS
  intro hOn
  try clear hnew
  try simp only[Act.put,sL,sZ,sS]
  refine rd 5 (λKz hKz=>?_)
  go_simp
  (with_reducible refine(YB _ _ a b _ (ha.out.below hOn nR) (hb.out.below hOn nR)).mono ?_)
  rintro e wb ⟨rfl,hnew⟩
  rw[<-hg.out]
  have hS:=Grown.trans hOn hnew
  focus (go_wp2_with fail)
  refine hKz.out _ _ hS ?_
  clear hKz Kz hOn hS
  intro hOn
  try clear hnew
  try simp only[Act.put,sL,sZ,sS]
  refine tk 6 hOn ?_
  refine tk 7 hOn ?_
  refine tk 8 hOn ?_ (v:=Value.agg _) (hy:=Or.inl ⟨by rfl,λW hSW=>Zf _ _ rfl _ _ _ rfl (rlA W hSW) huA rfl hzA⟩)
  refine tk 12 hOn ?_
  refine tk 13 hOn ?_
  refine tk 14 hOn ?_
  refine rd 9 (λKz hKz=>?_)
  go_simp
  (with_reducible refine(Jw _ a _ (ha.out.below hOn nR) bl1.out bl2.out).mono ?_)
  rintro e wc ⟨v,v',rfl,hr3,-,hnew⟩
  obtain⟨a9,c9,rfl,-⟩:=JE hr3
  rw[<-hNA.out]
  have hS:=Grown.trans hOn hnew
  clear hr3
  focus (go_wp2_with fail)
  refine hKz.out _ _ hS ?_
  clear hKz Kz hOn hS
  intro hOn
  try clear hnew
  try simp only[Act.put,sL,sZ,sS]
  refine tk 10 hOn ?_
  refine tk 11 hOn ?_
  refine tk 15 hOn ?_
  refine tk 16 hOn ?_
  refine tk 17 hOn ?_ (v:=undef) (hy:=Or.inr ⟨by rfl,rfl⟩)
  refine tk 18 hOn ?_ (v:=undef) (hy:=Or.inr ⟨by rfl,rfl⟩)
  refine tk 19 hOn ?_ (v:=undef) (hy:=Or.inr ⟨by rfl,rfl⟩)
  refine tk 20 hOn ?_ (v:=undef) (hy:=Or.inr ⟨by rfl,rfl⟩)
  refine tk 21 hOn ?_
  refine tk 22 hOn ?_
  refine tk 23 hOn ?_
  refine dnE ?_
  all_goals
   go_wp2_with fail
   go_ret
   exact⟨rfl,hB3.out.trans (hOn.mono hB3.out.size)⟩
 ·have hle1:decide (NA<=NB)=false:=decide_eq_false hle
  have hle2:¬(NA:Int)<=(NB:Int):=oX
  obtain rfl:=hgle.out hle
  replace hle:=Hd hle
  clear hgle
  refine wp_region_held_drew (S:=(Grown w3)) kX hd0.out (λhOn=>?_)
  generalize World.drew w3=wd at*
  refine tk 0 hOn ?_ (v:=Value.agg _) (hy:=Or.inl ⟨by rfl,λW hSW=>Zf _ _ rfl _ _ _ rfl (rlA W hSW) huA rfl hzA⟩)
  refine tk 1 hOn ?_ (v:=Value.agg _) (hy:=Or.inl ⟨by rfl,λW hSW=>Zf _ _ rfl _ _ _ rfl (rlB W hSW) huB rfl hzB⟩)
  refine tk 3 hOn ?_ (v:=Value.agg _) (hy:=Or.inl ⟨by rfl,λW hSW=>Zf _ _ rfl _ _ _ rfl (rlA W hSW) huA rfl hzA⟩)
  refine tk 4 hOn ?_ (v:=Value.agg _) (hy:=Or.inl ⟨by rfl,λW hSW=>Zf _ _ rfl _ _ _ rfl (rlB W hSW) huB rfl hzB⟩)
  refine rd 2 (λKz hKz=>?_)
  go_simp
  (with_reducible refine(QV _ _ a b _ (ha.out.below hOn nR) (hb.out.below hOn nR)).mono ?_)
  rintro e wa ⟨rfl,hnew⟩
  rw[<-hg.out]
  have hS:=Grown.trans hOn hnew
  focus (go_wp2_with fail)
  refine hKz.out _ _ hS ?_
  clear hKz Kz hOn hS
  intro hOn
  try clear hnew
  try simp only[Act.put,sL,sZ,sS]
  refine rd 5 (λKz hKz=>?_)
  go_simp
  (with_reducible refine(YB _ _ a b _ (ha.out.below hOn nR) (hb.out.below hOn nR)).mono ?_)
  rintro e wb ⟨rfl,hnew⟩
  rw[<-hg.out]
  have hS:=Grown.trans hOn hnew
  focus (go_wp2_with fail)
  refine hKz.out _ _ hS ?_
  clear hKz Kz hOn hS
  intro hOn
  try clear hnew
  try simp only[Act.put,sL,sZ,sS]
  refine tk 6 hOn ?_
  refine tk 7 hOn ?_
  refine tk 8 hOn ?_ (v:=Value.agg _) (hy:=Or.inl ⟨by rfl,λW hSW=>Zf _ _ rfl _ _ _ rfl (rlA W hSW) huA rfl hzA⟩)
  refine tk 12 hOn ?_
  refine tk 13 hOn ?_
  refine tk 14 hOn ?_
  refine rd 9 (λKz hKz=>?_)
  go_simp
  (with_reducible refine(Jw _ a _ (ha.out.below hOn nR) bl1.out bl2.out).mono ?_)
  rintro e wc ⟨v,v',rfl,hr3,-,hnew⟩
  obtain⟨a9,c9,rfl,-⟩:=JE hr3
  rw[<-hNA.out]
  have hS:=Grown.trans hOn hnew
  clear hr3
  focus (go_wp2_with fail)
  refine hKz.out _ _ hS ?_
  clear hKz Kz hOn hS
  intro hOn
  try clear hnew
  try simp only[Act.put,sL,sZ,sS]
  refine tk 10 hOn ?_
  refine tk 11 hOn ?_
  refine tk 15 hOn ?_
  refine tk 16 hOn ?_
  refine tk 17 hOn ?_ (v:=Value.agg _) (hy:=Or.inl ⟨by rfl,λW hSW=>Zf _ _ rfl _ _ _ rfl (rlA W hSW) huA rfl hzA⟩)
  refine tk 18 hOn ?_ (v:=Value.agg _) (hy:=Or.inl ⟨by rfl,λW hSW=>Zf _ _ rfl _ _ _ rfl (rlB W hSW) huB rfl hzB⟩)
  refine rd 19 (λKz hKz=>?_)
  go_simp
  (with_reducible refine(QV _ _ a b _ (ha.out.below hOn nR) (hb.out.below hOn nR)).mono ?_)
  rintro e wa ⟨rfl,hnew⟩
  rw[<-hg.out]
  have hS:=Grown.trans hOn hnew
  focus (go_wp2_with fail)
  refine hKz.out _ _ hS ?_
  clear hKz Kz hOn hS
  intro hOn
  try clear hnew
  try simp only[Act.put,sL,sZ,sS]
  refine tk 20 hOn ?_
  refine tk 21 hOn ?_
  refine tk 22 hOn ?_
  refine tk 23 hOn ?_
  refine dnE ?_
  all_goals
   go_wp2_with fail
   go_ret
   exact⟨rfl,hB3.out.trans (hOn.mono hB3.out.size)⟩
end Go.Proofs.YtdilmfnpkeihiaaGreatDoor
