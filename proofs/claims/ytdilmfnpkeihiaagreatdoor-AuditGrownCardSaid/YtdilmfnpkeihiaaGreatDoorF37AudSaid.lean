import Derived.Test.YtdilmfnpkeihiaaGreatDoorF0AudSaid
import Derived.Test.YtdilmfnpkeihiaaGreatDoorF2AudSaid
import Derived.Test.YtdilmfnpkeihiaaGreatDoorF36AudSaid
import Derived.Test.YtdilmfnpkeihiaaGreatDoorF11AudSaid
import Derived.Test.YtdilmfnpkeihiaaGreatDoorF6AudSaid
set_option linter.unusedVariables false
set_option linter.unusedSimpArgs false
set_option linter.unnecessarySimpa false
set_option maxRecDepth 100000
set_option maxHeartbeats 8000000
namespace Go.Proofs.YtdilmfnpkeihiaaGreatDoor
open Go.RowKit
theorem ErrIs.zeroE{ea:Nat->Addr}{w:World}{v:Value}(h:ErrIs ea w v 0):v=.nilIface:=by
 rcases h with ⟨_,rfl⟩|⟨i,_,e,_⟩|⟨i,g,F,V,_,e,_⟩
 ·rfl
 ·omega
 ·omega
theorem Xk(ea:Nat->Addr)(a0:Option Addr)(c0:Nat)(w:World) :
  Calls Tryz.prog 31 #[.slice a0 0 c0] w (XL ea ⟨[],[]⟩ 0 w):=by
 obtain⟨aO,aS,hs2,hB⟩:=QZ w #[.slice none 0 0,.slice none 0 0] #[.slice none 0 0,.slice none 0 0] 83 83 _ rfl
 obtain⟨w2,hw2⟩:∃ w2,w2=(w.alloc (.cells #[.slice none 0 0,.slice none 0 0] 83)).alloc (.cells #[.slice none 0 0,.slice none 0 0] 83):=⟨_,rfl⟩
 rw[<-hw2] at aO aS hs2 hB
 have iZ:(Tryz.prog.info? 83).map (·.size)=some (#[.slice none 0 0,.slice none 0 0]:Array Value).size:=kX
 have hpost:Hid (∀ W,Below w.heap.size w W->XL ea ⟨[],[]⟩ 0 w (.returned (.tuple #[.agg #[.slice none 0 0,.slice none 0 0],.nilIface])) W):=Hd (λW h2=>⟨_,_,rfl,Ge W,.inl ⟨rfl,rfl⟩,h2,V8 _⟩)
 replace hw2:=Hd hw2
 replace aO:=Hd aO
 replace aS:=Hd aS
 replace hB:=Hd hB
 replace hs2:=Hd hs2
 go_enter Tryz.func31,Tryz.ntmps31
 go_wp2_with fail
 rw[<-hw2.out]
 clear hw2
 generalize w2=wS at*
 go_wp2_with fail
 refine wp_loop_rounds 1 ?_
 rw[rounds_succ]
 go_wp2_with (first
  | ((with_reducible refine wL (.load 83 (.tmp 4)) ?_);refine Ze rfl 83 (.tmp 4) rfl (w.heap.size+1) #[.slice none 0 0,.slice none 0 0] _ rfl aS Tryz.underlying83 rfl iZ ?_)
  | ((with_reducible refine wL (.store 83 (.tmp 2) _) ?_);(refine Zd rfl 83 (.tmp 2) (.tmp 35) rfl w.heap.size _ #[.slice none 0 0,.slice none 0 0] rfl rfl aO iZ rfl (by simp[Value.oneCell']) ?_);intro w9 hU9;have hS:=Hd (hB.out.trans (hU9.out.below nR));have hres:=Hd hU9.out.here))
 refine Jm rfl rfl Tryz.underlying83 rfl iZ hres.out ?_
 exact hpost.out _ hS.out
def LP.new(n:Nat):LP:=⟨DP.new (n:Int),[],0,false,0,[],⟨[],[]⟩⟩
def Gs(base:Nat)(w:World)(B mb mn n:Nat)(e:Ending)(w':World):Prop:=
 ∃ l V,e=.returned (.tuple #[.pointer (some ⟨l,0,none⟩),.nilIface])/\LdM base w' l V (LP.new n)/\V.B=B/\V.mb=mb/\V.mn<=mn+20000/\Below base w w'
theorem Ut{base:Nat}{w:World}{B mb mn:Nat}{v:Value}(n:Nat)(h:DM base w B mb mn v (DP.new (n:Int)))(hb:base<=w.heap.size)(h1:1<=n)(hn:n<=1000)(hmn:mn<=20000)(e:Nat->Addr)(hBE:14≠B)(hEb:∀ W,Below base w W->DErr W e)(hK:ShaK w)(hF:ShaF w)(ea:Nat->Addr)(H:Errs 264 Yp w ea)(hHb:∀ W,Below base w W->Errs 264 Yp W ea) :
  Calls Tryz.prog 38 #[.pointer (some ⟨B,0,none⟩)] w (Gs base w B mb mn n):=by
 have hop:=Hd (UJ h hb (KM n) h1 hn oX ⟨by show (-100000:Int)<=0;decide,by show (0:Int)<=100000;decide⟩ e hBE hEb hK hF (Nat.zero_le _) (λr hr=>absurd hr List.not_mem_nil))
 have iS:(Tryz.prog.info? 83).map (·.size)=some 2:=kX
 replace h:=Hd h
 replace hHb:=Hd hHb
 clear hK hF hEb H
 go_enter Tryz.func38,Tryz.ntmps38
 go_wp2_with fail
 with_reducible refine hop.out.mono ?_
 clear hop
 rintro x w2 ⟨J,rv,F,v2,mn2,rfl,hm2,hj2,hs2,hnew2⟩
 have hb2:Below base w w2:=hs2.below h.out hb
 have hz2:base<=w2.heap.size:=Nat.le_trans hb hb2.size
 have hre:=Hd (Ye hj2.jm dX)
 replace hj2:=Hd hj2
 replace hb2:=Hd hb2
 replace hm2:=Hd hm2
 clear hs2 hnew2
 go_wp2_with fail
 with_reducible refine hre.out.mono ?_
 clear hre
 rintro x w3 ⟨v3,F3,rfl,hrow,hF3,hb3⟩
 obtain⟨a3,c3,rfl,hA3⟩:=hrow.argBB
 have hB3:=hb2.out.trans (hb3.mono hz2)
 have hj3:=Hd (hj2.out.below hb3)
 have hrp:Calls Tryz.prog 31 #[.slice a3 0 c3] w3 (XL ea ⟨[],[]⟩ 0 w3):=Xk ea a3 c3 w3
 replace hrp:=Hd hrp
 replace hB3:=Hd hB3
 clear hrow hF3 hb3 hA3
 go_wp2_with fail
 with_reducible refine hrp.out.mono ?_
 clear hrp
 rintro x w4 ⟨vm,v4,rfl,hm4,hv4,hb4,hf4⟩
 obtain⟨a4,c4,a5,c5,hvm⟩:=hm4.shape
 replace hvm:vm=.agg #[.slice a4 0 c4,.slice a5 0 c5]:=hvm
 subst hvm
 obtain rfl:=ErrIs.zeroE hv4
 have hB4:=Hd (hB3.out.trans (hb4.mono (Nat.le_trans hb hB3.out.size)))
 have hj4:=Hd (hj3.out.below hb4)
 have hZ4:=Hd (heap_alloc_new w4 (.cells #[.slice none 0 0,.slice none 0 0] 83))
 have iC:(Tryz.prog.info? 83).map (·.size)=some (#[.slice a4 0 c4,.slice a5 0 c5]:Array Value).size:=kX
 replace hm4:Hid (ArgS w4 (.agg #[.slice a4 0 c4,.slice a5 0 c5]) ⟨[],[]⟩):=Hd hm4
 clear hv4 hb4 hf4
 obtain⟨w5,hw5e⟩:∃ w5,w5=w4.alloc (.cells #[.slice a4 0 c4,.slice a5 0 c5] 83):=⟨_,rfl⟩
 have hb5:Below w4.heap.size w4 w5:=by rw[hw5e];exact bR.alloc nR _
 have aS5:Hid (w5.heap[w4.heap.size]? = some (.cells #[.slice a4 0 c4,.slice a5 0 c5] 83 (0,0))):=Hd (by rw[hw5e];exact heap_alloc_new w4 _)
 have hj5:=Hd (hj4.out.below hb5)
 have hm5:=Hd (hm4.out.below hb5 nR)
 have hB5:=Hd (hB4.out.trans (hb5.mono (Nat.le_trans hb hB4.out.size)))
 have hgn:=Hd (Jo w5)
 replace hw5e:=Hd hw5e
 clear hb5 hZ4
 go_wp2_with fail
 rw[<-hw5e.out]
 with_reducible refine hgn.out.mono ?_
 clear hgn
 rintro x w6 ⟨rfl,hf6,hb6⟩
 have aS6:=Hd ((hb6.block _ (Zb aS5.out)).trans aS5.out)
 have hj6:=Hd (hj5.out.below hb6)
 have hm6:=Hd (hm5.out.below hb6 nR)
 have hB6:=Hd (hB5.out.trans (hb6.mono (Nat.le_trans hb hB5.out.size)))
 have hre:=Hd (Ye hj6.out.jm dX)
 replace hf6:=Hd hf6
 clear hb6
 go_wp2_with fail
 with_reducible refine hre.out.mono ?_
 clear hre
 rintro x w7 ⟨v7,F7,rfl,hrow,hF7,hb7⟩
 obtain⟨a7,c7,rfl,_⟩:=hrow.argBB
 have aS7:=Hd ((hb7.block _ (Zb aS6.out)).trans aS6.out)
 have hj7:=Hd (hj6.out.below hb7)
 have hm7:=Hd (hm6.out.below hb7 nR)
 have hf7:=Hd (hf6.out.below hb7)
 have hB7:=Hd (hB6.out.trans (hb7.mono (Nat.le_trans hb hB6.out.size)))
 clear hrow hF7 hb7
 simp only[List.length_nil]
 go_wp2_with fail
 refine wp_loop_rounds 1 ?_
 rw[rounds_succ]
 go_wp2_with ((with_reducible refine wL (.load 83 (.tmp 6)) ?_);refine Ze rfl 83 (.tmp 6) rfl w4.heap.size #[.slice a4 0 c4,.slice a5 0 c5] _ rfl aS7 Tryz.underlying83 rfl iC ?_)
 go_ret2
 have hG:Below w7.heap.size w7 (w7.alloc (.cells #[.pointer (some ⟨J,0,none⟩),.slice a4 0 c4,.slice a5 0 c5,.pointer (some ⟨w5.heap.size,0,none⟩)] 125)):=bR.alloc nR _
 have hat:=heap_alloc_new w7 (.cells #[.pointer (some ⟨J,0,none⟩),.slice a4 0 c4,.slice a5 0 c5,.pointer (some ⟨w5.heap.size,0,none⟩)] 125 (0,0))
 have hnoS:∀ k,¬SD (.slice a4 0 c4) (.slice a5 0 c5) k:=by
  rintro k (⟨o,s,n,c2,e,hn⟩|⟨o,s,n,c2,e,hn⟩)
  ·cases e;omega
  ·cases e;omega
 have hj5l:∀ k,JF J F rv k\/Z8 B mb v2 k->k<w5.heap.size:=λk hk=>by
  rcases hk with q|q
  ·exact(hj5.out.jm.lt k q).2
  ·exact(hj5.out.dm.lt k q).2
 have hfl:=Zb hf7.out.at_
 have hw5:=hB5.out.size
 have hfr:FrM base (w7.alloc (.cells #[.pointer (some ⟨J,0,none⟩),.slice a4 0 c4,.slice a5 0 c5,.pointer (some ⟨w5.heap.size,0,none⟩)] 125)) w5.heap.size 0 (.slice none 0 0) []:=
  ⟨(hf7.out.below hG).at_,RowsOf.nil _ _,by simp[Value.ownBlock],oX⟩
 have hnF:∀ k,FrD w5.heap.size (.slice none 0 0) k->k=w5.heap.size:=λk hk=>by
  rcases hk with q|q
  ·exact q
  ·simp[Value.ownBlock] at q
 exact⟨w7.heap.size,⟨J,B,mb,mn2,w5.heap.size,v2,rv,.slice none 0 0,.slice a4 0 c4,.slice a5 0 c5,F⟩,rfl,⟨hj7.out.below hG,hat,hm7.out.below hG nR,hfr,by have:=hB7.out.size;omega,λk hk=>absurd hk (hnoS k),hnoS _,λhk=>by have:=hnF _ hk;omega,λhk=>by have:=hj5l _ hk;omega,λk hk=>absurd hk (hnoS k),λk hk=>absurd hk (hnoS k),λk hk hd=>by have:=hnF _ hk;have:=hj5l _ hd;omega⟩,rfl,rfl,hm2.out,hB7.out.trans (hG.mono (Nat.le_trans hb hB7.out.size))⟩
def K3(w:World)(m:St)(e:Ending)(w':World):Prop:=∃ v v',e=.returned (.agg #[v,v'])/\RowsOf RI 86 76 w.heap.size w' (λ_=>False) v m.its/\RowsOf RE 77 7 w.heap.size w' (λ_=>False) v' m.ens/\Below w.heap.size w w'
theorem XX{base:Nat}{w:World}{l:Nat}{V:LV}{P:LP}(h:LdM base w l V P)(l1:P.m.its.length<=1000)(l2:P.m.ens.length<=1000):Calls Tryz.prog 36 #[.pointer (some ⟨l,0,none⟩)] w (K3 w P.m):=by
 obtain⟨w1,hw1⟩:∃ w1,w1=w.alloc (.cells #[.slice none 0 0,.slice none 0 0] 83):=⟨_,rfl⟩
 have hb1:Below w.heap.size w w1:=by rw[hw1];exact bR.alloc nR _
 have a1:w1.heap[w.heap.size]? = some (.cells #[.slice none 0 0,.slice none 0 0] 83 (0,0)):=by rw[hw1];exact heap_alloc_new w _
 have h1:=h.below hb1
 have c1:w1.cell? ⟨l,1,none⟩=some V.sI:=by rw[Za h1.at_];rfl
 have c2:w1.cell? ⟨l,2,none⟩=some V.sE:=by rw[Za h1.at_];rfl
 have hcp:=Hd (Kd _ P.m w1 h1.st l1 l2)
 obtain⟨sI,hsI⟩:∃ sI,sI=V.sI:=⟨_,rfl⟩
 obtain⟨sE,hsE⟩:∃ sE,sE=V.sE:=⟨_,rfl⟩
 rw[<-hsI] at c1 hcp
 rw[<-hsE] at c2 hcp
 have hs1:w1.heap.size=w.heap.size+1:=by rw[hw1];simp
 replace hw1:=Hd hw1
 replace hb1:=Hd hb1
 replace a1:=Hd a1
 replace hs1:=Hd hs1
 clear h h1 hsI hsE l1 l2
 go_enter Tryz.func36,Tryz.ntmps36
 go_upto_region 1 with fail
 rw[<-hw1.out]
 go_wp2_with fail
 with_reducible refine hcp.out.mono ?_
 clear hcp
 rintro e w2 ⟨v,v',rfl,hrI,hrE,_,hb2⟩
 have a2:=Hd ((hb2.block _ (Zb a1.out)).trans a1.out)
 obtain⟨a4,c4,hv4,_⟩:=hrI.form
 obtain⟨a5,c5,hv5,_⟩:=hrE.form
 subst hv4 hv5
 have iC:(Tryz.prog.info? 83).map (·.size)=some (#[.slice a4 P.m.its.length c4,.slice a5 P.m.ens.length c5]:Array Value).size:=kX
 have hB2:=Hd (hb1.out.trans (hb2.mono hb1.out.size))
 have hn4:=Hd (λk (hk:(Value.slice a4 P.m.its.length c4).ownBlock=some k)=>(hrI.ownLt k hk).1)
 have hn5:=Hd (λk (hk:(Value.slice a5 P.m.ens.length c5).ownBlock=some k)=>(hrE.ownLt k hk).1)
 replace hrI:=Hd hrI
 replace hrE:=Hd hrE
 clear hb2
 go_wp2_with ((with_reducible refine wL (.store 83 (.tmp 2) _) ?_);(refine Zd rfl 83 (.tmp 2) (.tmp 7) rfl w.heap.size #[.slice none 0 0,.slice none 0 0] #[.slice a4 P.m.its.length c4,.slice a5 P.m.ens.length c5] rfl rfl a2 iC rfl (by simp[Value.oneCell']) ?_);intro w3 hU3)
 refine Zm rfl rfl Tryz.underlying83 rfl iC hU3.out.here ?_
 have hO:Only (λk=>k=w.heap.size) w2 w3:=Only.ofUpd hU3.out rfl
 have hlt:=hs1.out
 exact⟨_,_,rfl,(hrI.out.only YA hO (λk hk=>hk.elim) (λk hk e=>by have:=hn4.out k hk;omega)).mono oX,(hrE.out.only Y4 hO (λk hk=>hk.elim) (λk hk e=>by have:=hn5.out k hk;omega)).mono oX,hB2.out.trans (hU3.out.below nR)⟩
end Go.Proofs.YtdilmfnpkeihiaaGreatDoor
