import Derived.Test.YtpdhceiodgnbmaaGreatDoorF0Safe21Said
import Derived.Test.YtpdhceiodgnbmaaGreatDoorF1Safe21Said
import Derived.Test.YtpdhceiodgnbmaaGreatDoorF22Safe21Said
import Derived.Test.YtpdhceiodgnbmaaGreatDoorF2Safe21Said
import Derived.Test.YtpdhceiodgnbmaaGreatDoorF8Safe21Said
import Derived.Test.YtpdhceiodgnbmaaGreatDoorF3Safe21Said
import Derived.Deep.MidRow
import Derived.Test.YtpdhceiodgnbmaaGreatDoorF14Safe21Said
import Derived.Test.YtpdhceiodgnbmaaGreatDoorF20Safe21Said
set_option linter.unusedVariables false
set_option linter.unusedSimpArgs false
set_option linter.unnecessarySimpa false
set_option maxRecDepth 100000
set_option maxHeartbeats 8000000
namespace Go.Proofs.YtpdhceiodgnbmaaGreatDoor
open Go.RowKit
theorem ErrIs.zeroE{ea:Nat->Addr}{w:World}{v:Value}(h:ErrIs ea w v 0):v=.nilIface:=by
 rcases h with ⟨_,rfl⟩|⟨i,_,e,_⟩|⟨i,g,F,V,_,e,_⟩
 ·rfl
 ·omega
 ·omega
theorem Pf(ea:Nat->Addr)(a0:Option Addr)(c0:Nat)(w:World) :
  Calls Tryz.prog 8 #[.slice a0 0 c0] w (ZB ea ⟨[],[]⟩ 0 w):=by
 obtain⟨aO,aS,hs2,hB⟩:=Y3 w #[.slice none 0 0,.slice none 0 0] #[.slice none 0 0,.slice none 0 0] 28 28 _ rfl
 obtain⟨w2,hw2⟩:∃ w2,w2=(w.alloc (.cells #[.slice none 0 0,.slice none 0 0] 28)).alloc (.cells #[.slice none 0 0,.slice none 0 0] 28):=⟨_,rfl⟩
 rw[<-hw2] at aO aS hs2 hB
 have iZ:(Tryz.prog.info? 28).map (·.size)=some (#[.slice none 0 0,.slice none 0 0]:Array Value).size:=kX
 have hpost:Hid (∀ W,Below w.heap.size w W->ZB ea ⟨[],[]⟩ 0 w (.returned (.tuple #[.agg #[.slice none 0 0,.slice none 0 0],.nilIface])) W):=Hd (λW h2=>⟨_,_,rfl,Y8 W,.inl ⟨rfl,rfl⟩,h2,QV _⟩)
 replace hw2:=Hd hw2
 replace aO:=Hd aO
 replace aS:=Hd aS
 replace hB:=Hd hB
 replace hs2:=Hd hs2
 go_enter Tryz.func8,Tryz.ntmps8
 go_wp2_with fail
 rw[<-hw2.out]
 clear hw2
 generalize w2=wS at*
 go_wp2_with fail
 refine wp_loop_rounds 1 ?_
 rw[rounds_succ]
 go_wp2_with (first
  | ((with_reducible refine wL (.load 28 (.tmp 4)) ?_);refine Zd rfl 28 (.tmp 4) rfl (w.heap.size+1) #[.slice none 0 0,.slice none 0 0] _ rfl aS Tryz.underlying28 rfl iZ ?_)
  | ((with_reducible refine wL (.store 28 (.tmp 2) _) ?_);(refine Zc rfl 28 (.tmp 2) (.tmp 35) rfl w.heap.size _ #[.slice none 0 0,.slice none 0 0] rfl rfl aO iZ rfl c5X ?_);intro w9 hU9;have hS:=Hd (hB.out.trans (hU9.out.below nR));have hres:=Hd hU9.out.here))
 refine Zl rfl rfl Tryz.underlying28 rfl iZ hres.out ?_
 exact hpost.out _ hS.out
def LP.new(n:Nat):LP:=⟨DP.new (n:Int),[],0,false,0,[],⟨[],[]⟩⟩
def C4(base:Nat)(w:World)(B mb mn n:Nat)(e:Ending)(w':World):Prop:=
 ∃ l V,e=.returned (.tuple #[.pointer (some ⟨l,0,none⟩),.nilIface])/\LdM base w' l V (LP.new n)/\V.B=B/\V.mb=mb/\V.mn<=mn+20000/\Below base w w'
theorem Pq{base:Nat}{w:World}{B mb mn:Nat}{v:Value}(n:Nat)(h:DM base w B mb mn v (DP.new (n:Int)))(hb:base<=w.heap.size)(h1:1<=n)(hn:n<=1000)(hmn:mn<=20000)(e:Nat->Addr)(hBE:13≠B)(hEb:∀ W,Below base w W->DErr W e)(hK:ShaK w)(hF:ShaF w)(ea:Nat->Addr)(H:Errs 298 errGs w ea)(hHb:∀ W,Below base w W->Errs 298 errGs W ea) :
  Calls Tryz.prog 28 #[.pointer (some ⟨B,0,none⟩)] w (C4 base w B mb mn n):=by
 have hop:=Hd (Lm h hb (Gk n) h1 hn oX ⟨by show (-100000:Int)<=0;decide,by show (0:Int)<=100000;decide⟩ e hBE hEb hK hF (Nat.zero_le _) (λr hr=>absurd hr List.not_mem_nil))
 have iS:(Tryz.prog.info? 28).map (·.size)=some 2:=kX
 replace h:=Hd h
 replace hHb:=Hd hHb
 clear hK hF hEb H
 go_enter Tryz.func28,Tryz.ntmps28
 go_wp2_with fail
 with_reducible refine hop.out.mono ?_
 clear hop
 rintro x w2 ⟨J,rv,F,v2,mn2,rfl,hm2,hj2,hs2,hnew2⟩
 have hb2:Below base w w2:=hs2.below h.out hb
 have hz2:base<=w2.heap.size:=Nat.le_trans hb hb2.size
 have hre:=Hd (X0 hj2.jm dX)
 replace hj2:=Hd hj2
 replace hb2:=Hd hb2
 replace hm2:=Hd hm2
 clear hs2 hnew2
 go_wp2_with fail
 with_reducible refine hre.out.mono ?_
 clear hre
 rintro x w3 ⟨v3,F3,rfl,hrow,hF3,hb3⟩
 obtain⟨a3,c3,rfl,hA3⟩:=hrow.argBB
 have hB3:=hb2.out.trans (hb3.mono hz2)
 have hj3:=Hd (hj2.out.below hb3)
 have hrp:Calls Tryz.prog 8 #[.slice a3 0 c3] w3 (ZB ea ⟨[],[]⟩ 0 w3):=Pf ea a3 c3 w3
 replace hrp:=Hd hrp
 replace hB3:=Hd hB3
 clear hrow hF3 hb3 hA3
 go_wp2_with fail
 with_reducible refine hrp.out.mono ?_
 clear hrp
 rintro x w4 ⟨vm,v4,rfl,hm4,hv4,hb4,hf4⟩
 obtain⟨a4,c4,a5,c5,hvm⟩:=hm4.shape
 replace hvm:vm=.agg #[.slice a4 0 c4,.slice a5 0 c5]:=hvm
 subst hvm
 obtain rfl:=ErrIs.zeroE hv4
 have hB4:=Hd (hB3.out.trans (hb4.mono (Nat.le_trans hb hB3.out.size)))
 have hj4:=Hd (hj3.out.below hb4)
 have hZ4:=Hd (heap_alloc_new w4 (.cells #[.slice none 0 0,.slice none 0 0] 28))
 have iC:(Tryz.prog.info? 28).map (·.size)=some (#[.slice a4 0 c4,.slice a5 0 c5]:Array Value).size:=kX
 replace hm4:Hid (ArgS w4 (.agg #[.slice a4 0 c4,.slice a5 0 c5]) ⟨[],[]⟩):=Hd hm4
 clear hv4 hb4 hf4
 obtain⟨w5,hw5e⟩:∃ w5,w5=w4.alloc (.cells #[.slice a4 0 c4,.slice a5 0 c5] 28):=⟨_,rfl⟩
 have hb5:Below w4.heap.size w4 w5:=by rw[hw5e];exact bR.alloc nR _
 have aS5:Hid (w5.heap[w4.heap.size]? = some (.cells #[.slice a4 0 c4,.slice a5 0 c5] 28 (0,0))):=Hd (by rw[hw5e];exact heap_alloc_new w4 _)
 have hj5:=Hd (hj4.out.below hb5)
 have hm5:=Hd (hm4.out.below hb5 nR)
 have hB5:=Hd (hB4.out.trans (hb5.mono (Nat.le_trans hb hB4.out.size)))
 have hgn:=Hd (U7 w5)
 replace hw5e:=Hd hw5e
 clear hb5 hZ4
 go_wp2_with fail
 rw[<-hw5e.out]
 with_reducible refine hgn.out.mono ?_
 clear hgn
 rintro x w6 ⟨rfl,hf6,hb6⟩
 have aS6:=Hd ((hb6.block _ (Zb aS5.out)).trans aS5.out)
 have hj6:=Hd (hj5.out.below hb6)
 have hm6:=Hd (hm5.out.below hb6 nR)
 have hB6:=Hd (hB5.out.trans (hb6.mono (Nat.le_trans hb hB5.out.size)))
 have hre:=Hd (X0 hj6.out.jm dX)
 replace hf6:=Hd hf6
 clear hb6
 go_wp2_with fail
 with_reducible refine hre.out.mono ?_
 clear hre
 rintro x w7 ⟨v7,F7,rfl,hrow,hF7,hb7⟩
 obtain⟨a7,c7,rfl,_⟩:=hrow.argBB
 have aS7:=Hd ((hb7.block _ (Zb aS6.out)).trans aS6.out)
 have hj7:=Hd (hj6.out.below hb7)
 have hm7:=Hd (hm6.out.below hb7 nR)
 have hf7:=Hd (hf6.out.below hb7)
 have hB7:=Hd (hB6.out.trans (hb7.mono (Nat.le_trans hb hB6.out.size)))
 clear hrow hF7 hb7
 simp only[List.length_nil]
 go_wp2_with fail
 refine wp_loop_rounds 1 ?_
 rw[rounds_succ]
 go_wp2_with ((with_reducible refine wL (.load 28 (.tmp 6)) ?_);refine Zd rfl 28 (.tmp 6) rfl w4.heap.size #[.slice a4 0 c4,.slice a5 0 c5] _ rfl aS7 Tryz.underlying28 rfl iC ?_)
 go_ret2
 have hG:Below w7.heap.size w7 (w7.alloc (.cells #[.pointer (some ⟨J,0,none⟩),.slice a4 0 c4,.slice a5 0 c5,.pointer (some ⟨w5.heap.size,0,none⟩)] 124)):=bR.alloc nR _
 have hat:=heap_alloc_new w7 (.cells #[.pointer (some ⟨J,0,none⟩),.slice a4 0 c4,.slice a5 0 c5,.pointer (some ⟨w5.heap.size,0,none⟩)] 124 (0,0))
 have hnoS:∀ k,¬SD (.slice a4 0 c4) (.slice a5 0 c5) k:=by
  rintro k (⟨o,s,n,c2,e,hn⟩|⟨o,s,n,c2,e,hn⟩)
  ·cases e;omega
  ·cases e;omega
 have hj5l:∀ k,JF J F rv k\/Zw B mb v2 k->k<w5.heap.size:=λk hk=>by
  rcases hk with q|q
  ·exact(hj5.out.jm.lt k q).2
  ·exact(hj5.out.dm.lt k q).2
 have hfl:=Zb hf7.out.at_
 have hw5:=hB5.out.size
 have hfr:FrM base (w7.alloc (.cells #[.pointer (some ⟨J,0,none⟩),.slice a4 0 c4,.slice a5 0 c5,.pointer (some ⟨w5.heap.size,0,none⟩)] 124)) w5.heap.size 0 (.slice none 0 0) []:=
  ⟨(hf7.out.below hG).at_,RowsOf.nil _ _,by simp[Value.ownBlock],oX⟩
 have hnF:∀ k,FrD w5.heap.size (.slice none 0 0) k->k=w5.heap.size:=λk hk=>by
  rcases hk with q|q
  ·exact q
  ·simp[Value.ownBlock] at q
 exact⟨w7.heap.size,⟨J,B,mb,mn2,w5.heap.size,v2,rv,.slice none 0 0,.slice a4 0 c4,.slice a5 0 c5,F⟩,rfl,⟨hj7.out.below hG,hat,hm7.out.below hG nR,hfr,by have:=hB7.out.size;omega,λk hk=>absurd hk (hnoS k),hnoS _,λhk=>by have:=hnF _ hk;omega,λhk=>by have:=hj5l _ hk;omega,λk hk=>absurd hk (hnoS k),λk hk=>absurd hk (hnoS k),λk hk hd=>by have:=hnF _ hk;have:=hj5l _ hd;omega⟩,rfl,rfl,hm2.out,hB7.out.trans (hG.mono (Nat.le_trans hb hB7.out.size))⟩
def Li(w:World)(m:St)(e:Ending)(w':World):Prop:=∃ v v',e=.returned (.agg #[v,v'])/\RowsOf RI 58 76 w.heap.size w' (λ_=>False) v m.its/\RowsOf RE 66 7 w.heap.size w' (λ_=>False) v' m.ens/\Below w.heap.size w w'
theorem Xe{base:Nat}{w:World}{l:Nat}{V:LV}{P:LP}(h:LdM base w l V P)(l1:P.m.its.length<=1000)(l2:P.m.ens.length<=1000):Calls Tryz.prog 23 #[.pointer (some ⟨l,0,none⟩)] w (Li w P.m):=by
 obtain⟨w1,hw1⟩:∃ w1,w1=w.alloc (.cells #[.slice none 0 0,.slice none 0 0] 28):=⟨_,rfl⟩
 have hb1:Below w.heap.size w w1:=by rw[hw1];exact bR.alloc nR _
 have a1:w1.heap[w.heap.size]? = some (.cells #[.slice none 0 0,.slice none 0 0] 28 (0,0)):=by rw[hw1];exact heap_alloc_new w _
 have h1:=h.below hb1
 have c1:w1.cell? ⟨l,1,none⟩=some V.sI:=by rw[Za h1.at_];rfl
 have c2:w1.cell? ⟨l,2,none⟩=some V.sE:=by rw[Za h1.at_];rfl
 have hcp:=Hd (J0 _ P.m w1 h1.st l1 l2)
 obtain⟨sI,hsI⟩:∃ sI,sI=V.sI:=⟨_,rfl⟩
 obtain⟨sE,hsE⟩:∃ sE,sE=V.sE:=⟨_,rfl⟩
 rw[<-hsI] at c1 hcp
 rw[<-hsE] at c2 hcp
 have hs1:w1.heap.size=w.heap.size+1:=by rw[hw1];simp
 replace hw1:=Hd hw1
 replace hb1:=Hd hb1
 replace a1:=Hd a1
 replace hs1:=Hd hs1
 clear h h1 hsI hsE l1 l2
 go_enter Tryz.func23,Tryz.ntmps23
 go_upto_region 1 with fail
 rw[<-hw1.out]
 go_wp2_with fail
 with_reducible refine hcp.out.mono ?_
 clear hcp
 rintro e w2 ⟨v,v',rfl,hrI,hrE,_,hb2⟩
 have a2:=Hd ((hb2.block _ (Zb a1.out)).trans a1.out)
 obtain⟨a4,c4,hv4,_⟩:=hrI.form
 obtain⟨a5,c5,hv5,_⟩:=hrE.form
 subst hv4 hv5
 have iC:(Tryz.prog.info? 28).map (·.size)=some (#[.slice a4 P.m.its.length c4,.slice a5 P.m.ens.length c5]:Array Value).size:=kX
 have hB2:=Hd (hb1.out.trans (hb2.mono hb1.out.size))
 have hn4:=Hd (λk (hk:(Value.slice a4 P.m.its.length c4).ownBlock=some k)=>(hrI.ownLt k hk).1)
 have hn5:=Hd (λk (hk:(Value.slice a5 P.m.ens.length c5).ownBlock=some k)=>(hrE.ownLt k hk).1)
 replace hrI:=Hd hrI
 replace hrE:=Hd hrE
 clear hb2
 go_wp2_with ((with_reducible refine wL (.store 28 (.tmp 2) _) ?_);(refine Zc rfl 28 (.tmp 2) (.tmp 7) rfl w.heap.size #[.slice none 0 0,.slice none 0 0] #[.slice a4 P.m.its.length c4,.slice a5 P.m.ens.length c5] rfl rfl a2 iC rfl c5X ?_);intro w3 hU3)
 refine ZE rfl rfl Tryz.underlying28 rfl iC hU3.out.here ?_
 have hO:Only (λk=>k=w.heap.size) w2 w3:=Only.ofUpd hU3.out rfl
 have hlt:=hs1.out
 exact⟨_,_,rfl,(hrI.out.only Qq hO (λk hk=>hk.elim) (λk hk e=>by have:=hn4.out k hk;omega)).mono oX,(hrE.out.only Qf hO (λk hk=>hk.elim) (λk hk e=>by have:=hn5.out k hk;omega)).mono oX,hB2.out.trans (hU3.out.below nR)⟩
def CF(base:Nat)(w:World)(l:Nat)(V:LV)(P:LP)(nn:Nat)(m':St)(r:List UInt8)(ps':List (List UInt8))(w':World):Prop:=
 ∃ V' p',LStep base w w' l V V' ⟨p',P.recs++[r],P.recs.length+1,false,P.n+1,ps',m'⟩/\V'.J=V.J/\V'.B=V.B/\V'.mb=V.mb/\V'.f=V.f/\V'.mn<=V.mn+500/\Good p' nn (P.recs++[r])/\P.p.l-500<=p'.l/\p'.l<=P.p.l
def Mv(base:Nat)(w:World)(l:Nat)(V:LV)(P:LP)(nn:Nat)(m':St)(r:List UInt8)(ps':List (List UInt8))(e:Ending)(w':World):Prop:=e=.returned .nilIface/\CF base w l V P nn m' r ps' w'
theorem BS{base:Nat}{w:World}{l:Nat}{V:LV}{P:LP}(h:LdM base w l V P)(hb:base<=w.heap.size)(x:Rc)(hx:x.Ok)(l1:P.m.its.length<=1000)(l2:P.m.ens.length<=1000)(hub:∀ y∈P.m.its,y.u<=1000000/\y.r<=1000000)(ea:Nat->Addr)(H:Errs 298 errGs w ea)(hn:(Zi P.m x).2=0)(nn:Nat)(ps':List (List UInt8))(hbyt:∀ W,Below w.heap.size w W->Calls Tryz.prog 120 #[.agg x.list.toArray] W (Xg x W))
  (hput:∀ W a c,Below w.heap.size w W->ArgB W a c x.out->(∀ b o s,a=some ⟨b,o,s⟩->w.heap.size<=b/\b<W.heap.size)->Calls Tryz.prog 121 #[.pointer (some ⟨V.J,0,none⟩),.slice a x.out.length c] W (Cm base W V.J V.B V.mb V.mn V.v V.rv V.F P.p nn P.recs x.out))
  (hgrw:∀ W a c,Below base w W->FrM base W V.f P.n V.fv P.ps->ArgB W a c x.out->Calls Tryz.prog 62 #[.pointer (some ⟨V.f,0,none⟩),.slice a x.out.length c] W (XC base W V.f (P.n+1) V.fv ps')) :
  Calls Tryz.prog 81 #[.pointer (some ⟨l,0,none⟩),.agg x.list.toArray] w (Mv base w l V P nn (Zi P.m x).1 x.out ps'):=by
 refine(Nm h hb x hx l1 l2 hub ea H hn ps' (λmn p recs sure dead=>recs=P.recs++[x.out]/\sure=P.recs.length+1/\dead=false/\mn<=V.mn+500/\Good p nn (P.recs++[x.out])/\P.p.l-500<=p.l/\p.l<=P.p.l) (λ_ _ _ _ _=>False) hbyt (λW a c h1 h2 h3=>(hput W a c h1 h2 h3).mono ?_) hgrw).mono ?_
 ·rintro e w5 ⟨rfl,mn5,v5,rv5,F5,p5,hmn5,hj5,hG5,hl5,hl5'⟩
  exact⟨mn5,v5,rv5,F5,p5,_,_,_,hj5,.inl ⟨rfl,rfl,rfl,rfl,hmn5,hG5,hl5,hl5'⟩⟩
 ·rintro e w5 ⟨V',p',recs',sure',dead',h1,h2,h3,h4,⟨rfl,⟨rfl,rfl,rfl,h5,h6,h7,h8⟩,hst⟩|⟨_,_,_,hf,_⟩⟩
  ·exact⟨rfl,V',p',hst,h1,h2,h3,h4,h5,h6,h7,h8⟩
  ·exact hf.elim
def X6(n:Int)(s:ByteArray)(p:P6)(root file:List UInt8)(t:Int):Rc:=⟨1,n,0,s,p,root,file,0,0,0,t⟩
theorem Kk(n:Int)(s:ByteArray)(p:P6)(root file:List UInt8)(t:Int)(h1:root.length=32)(h2:file.length=32)(W:World) :
  (Instr.build 49 #[(0,.int .i64 1),(1,.int .i64 n),(3,.string s),(4,.agg p.list.toArray),(5,.agg (cB root).toArray),(6,.agg (cB file).toArray),(10,.int .i64 t)]).run Tryz.prog W=.ok (.agg (X6 n s p root file t).list.toArray) W:=by
 refine run_build W _ _ _ ?_
 have hz:z32.length=32:=Zr
 have s78:∀ y:Rc,y.root.length=32->y.file.length=32->y.list.toArray.size=78:=λy q1 q2=>by rw[List.size_toArray,Rc.len q1 q2]
 rw[He (P:=Tryz.prog) (t:=49) (Z:=Rc.zero.list) (places:=[(0,1),(1,1),(2,1),(3,1),(4,6),(10,32),(42,32),(74,1),(75,1),(76,1),(77,1)]) kX Tryz.underlying49 kX]
 rw[YD _ _ 0 0 _ _ rfl (by rw[s78 _ hz hz];exact Nat.le_of_ble_eq_true rfl),show (Value.int .i64 1).cells.toList=[.int .i64 1] from rfl,VE _ _ _ (by rw[s78 _ hz hz];decide),Rc.set0]
 rw[YD _ _ 1 1 _ _ rfl (by rw[s78 _ hz hz];exact Nat.le_of_ble_eq_true rfl),show (Value.int .i64 n).cells.toList=[.int .i64 n] from rfl,VE _ _ _ (by rw[s78 _ hz hz];decide),Rc.set1]
 rw[YD _ _ 3 3 _ _ rfl (by rw[s78 _ hz hz];exact Nat.le_of_ble_eq_true rfl),show (Value.string s).cells.toList=[.string s] from rfl,VE _ _ _ (by rw[s78 _ hz hz];decide),Rc.set3]
 rw[YD _ _ 4 4 _ _ rfl (by rw[s78 _ hz hz];exact Nat.le_of_ble_eq_true rfl),show (Value.agg p.list.toArray).cells.toList=p.list from rfl,Rc.patch_p]
 rw[YD _ _ 5 10 (.agg (cB root).toArray) _ (by show _=some (10,(cB root).toArray.size);rw[List.size_toArray,Ze,h1];rfl) (by rw[s78 _ hz hz];show 10+(cB root).toArray.size<=78;rw[List.size_toArray,Ze,h1];decide),show (Value.agg (cB root).toArray).cells.toList=cB root from rfl,Rc.patch_root hz h1]
 rw[YD _ _ 6 42 (.agg (cB file).toArray) _ (by show _=some (42,(cB file).toArray.size);rw[List.size_toArray,Ze,h2];rfl) (by rw[s78 _ h1 hz];show 42+(cB file).toArray.size<=78;rw[List.size_toArray,Ze,h2];decide),show (Value.agg (cB file).toArray).cells.toList=cB file from rfl,Rc.patch_file h1 hz h2]
 rw[YD _ _ 10 77 _ _ rfl (by rw[s78 _ h1 h2];exact Nat.le_of_ble_eq_true rfl),show (Value.int .i64 t).cells.toList=[.int .i64 t] from rfl,VE _ _ _ (by rw[s78 _ h1 h2];decide),Rc.set77 h1 h2,Df]
 rfl
open Go.RowKit Go.ChangeShapes Go.WideShapes Go.Deep
structure ActL where
 kind:Int
 obj:Int
 way:Int
 id:Int
 verdict:Int
 tick:Int
 n:Int
 name:ByteArray
 p:P6
 t1:List UInt8
 t2:List UInt8
 kept:Int
 torn:Int
 scat:Nat
instance:Inhabited ActL:=⟨⟨0,0,0,0,0,0,0,⟨#[]⟩,P6.zero,z32,z32,0,0,0⟩⟩
def ActL.list(x:ActL):List Value:=[.int .i64 x.kind,.int .i64 x.obj,.int .i64 x.way,.int .i64 x.id,.int .i64 x.verdict,.int .i64 x.tick,.int .i64 x.n,.string x.name]++(x.p.list++(cB x.t1++(cB x.t2++[.int .i64 x.kept,.int .i64 x.torn,.int .u64 (x.scat:Int)])))
structure ActL.Ok (x:ActL):Prop where
 kind:inI x.kind
 obj:inI x.obj
 way:inI x.way
 id:inI x.id
 verdict:inI x.verdict
 tick:inI x.tick
 n:inI x.n
 name:x.name.size<=maxLen
 p:x.p.Ok
 t1:x.t1.length=32
 t2:x.t2.length=32
 kept:inI x.kept
 torn:inI x.torn
 scat:x.scat<18446744073709551616
theorem ActL.len{x:ActL}(h1:x.t1.length=32)(h2:x.t2.length=32):x.list.length=81:=by
 simp[ActL.list,P6.len,Ze,h1,h2]
theorem ActL.c0(x:ActL):x.list[0]? = some (.int .i64 x.kind):=rfl
theorem ActL.c1(x:ActL):x.list[1]? = some (.int .i64 x.obj):=rfl
theorem ActL.c2(x:ActL):x.list[2]? = some (.int .i64 x.way):=rfl
theorem ActL.c3(x:ActL):x.list[3]? = some (.int .i64 x.id):=rfl
theorem ActL.c4(x:ActL):x.list[4]? = some (.int .i64 x.verdict):=rfl
theorem ActL.c5(x:ActL):x.list[5]? = some (.int .i64 x.tick):=rfl
theorem ActL.c7(x:ActL):x.list[7]? = some (.string x.name):=rfl
theorem ActL.sub_p(x:ActL):(x.list.drop 8).take 6=x.p.list:=Jf rfl rfl
theorem ActL.sub_1{x:ActL}(h1:x.t1.length=32):(x.list.drop 14).take 32=cB x.t1:=by
 have e:x.list=([.int .i64 x.kind,.int .i64 x.obj,.int .i64 x.way,.int .i64 x.id,.int .i64 x.verdict,.int .i64 x.tick,.int .i64 x.n,.string x.name]++x.p.list)++(cB x.t1++(cB x.t2++[.int .i64 x.kept,.int .i64 x.torn,.int .u64 (x.scat:Int)])):=by simp[ActL.list]
 rw[e]
 exact Jf rfl (by rw[Ze,h1])
theorem ActL.sub_2{x:ActL}(h1:x.t1.length=32)(h2:x.t2.length=32):(x.list.drop 46).take 32=cB x.t2:=by
 have e:x.list=([.int .i64 x.kind,.int .i64 x.obj,.int .i64 x.way,.int .i64 x.id,.int .i64 x.verdict,.int .i64 x.tick,.int .i64 x.n,.string x.name]++x.p.list++cB x.t1)++(cB x.t2++[.int .i64 x.kept,.int .i64 x.torn,.int .u64 (x.scat:Int)]):=by simp[ActL.list]
 rw[e]
 exact Jf (by simp[P6.len,Ze,h1]) (by rw[Ze,h2])
section
variable {P:Program}
theorem Nd{d:Nat}{t e e8:TypeId}{cs:List Value}{l:List Lit}(ht:P.underlying t=some (.array 2 e))(he:P.underlying e=some (.array 32 e8))(h8:P.underlying e8=some (.int .u8))(c8:P.cellsOf e8=1)(ce:P.cellsOf e=32)(ct:P.cellsOf t=64)(h:P.keyLits (d+2) t cs=some l):∃ a b:List UInt8,cs=cB a++cB b/\a.length=32/\b.length=32:=by
 obtain⟨hl,hi⟩:=U5 ht h
 rw[ct] at hl
 rw[ce] at hi
 obtain⟨l0,h0⟩:=hi 0 dX
 obtain⟨l1,h1⟩:=hi 1 dX
 obtain⟨a,e0,k0⟩:=JU he h8 c8 ce h0
 obtain⟨b,e1,k1⟩:=JU he h8 c8 ce h1
 refine⟨a,b,?_,k0,k1⟩
 have e:=ZL e0
 rw[show 0*32=0 from rfl,List.drop_zero,show 0+32=1*32 from rfl,ZL e1,List.drop_of_length_le (i:=1*32+32) oX] at e
 rw[e,List.append_nil]
theorem QY{d:Nat}{t:TypeId}{k:IntKind}{cs:List Value}{l:List Lit}(ht:P.underlying t=some (.int k))(h:P.keyLits (d+1) t cs=some l):∃ n,cs=[.int k n]/\(Lit.int k n).wf=true:=by
 obtain⟨n,e1,e2⟩:=keyLits_int' ht h
 refine⟨n,e1,?_⟩
 rw[e1] at h
 unfold Program.keyLits at h
 simp only[ht] at h
 split at h
 ·next hh=>exact hh.2
 ·cases h
theorem Ga{d:Nat}{t i64 u64:TypeId}{f0 f1 f2:Field}{cs:List Value}{l:List Lit}(ht:P.underlying t=some (.struct #[f0,f1,f2]))(hq : [f0,f1,f2].map (λf=>(f.type,f.offset))=[(i64,0),(i64,1),(u64,2)])(hi:P.underlying i64=some (.int .i64))(hu:P.underlying u64=some (.int .u64))(ci:P.cellsOf i64=1)(cu:P.cellsOf u64=1)(ct:P.cellsOf t=3)
  (h:P.keyLits (d+2) t cs=some l):∃ (k t:Int) (s:Nat),cs=[.int .i64 k,.int .i64 t,.int .u64 (s:Int)]/\inI k/\inI t/\s<18446744073709551616:=by
 obtain⟨hl,hf⟩:=Jh ht h
 rw[ct] at hl
 simp only[List.map_cons,List.map_nil,List.cons.injEq,Prod.mk.injEq,and_true] at hq
 obtain⟨⟨a0,b0⟩,⟨a1,b1⟩,⟨a2,b2⟩⟩:=hq
 obtain⟨l0,h0⟩:=hf 0 f0 rfl
 obtain⟨l1,h1⟩:=hf 1 f1 rfl
 obtain⟨l2,h2⟩:=hf 2 f2 rfl
 rw[a0,b0,ci] at h0
 rw[a1,b1,ci] at h1
 rw[a2,b2,cu] at h2
 obtain⟨n0,e0,w0⟩:=QY hi h0
 obtain⟨n1,e1,w1⟩:=QY hi h1
 obtain⟨n2,e2,w2⟩:=QY hu h2
 obtain⟨s2,s3⟩:=Lk w2
 refine⟨n0,n1,n2.toNat,?_,X1 w0,X1 w1,s3⟩
 have e:=ZL e0
 rw[List.drop_zero,ZL e1,ZL e2,List.drop_of_length_le (i:=2+1) oX] at e
 rw[e,<-s2]
 rfl
theorem Mr{d:Nat}{t ts tp tt tc i64:TypeId}{f0 f1 f2 f3 f4 f5 f6 f7 f8 f9 f10:Field}{cs:List Value}{l:List Lit}(ht:P.underlying t=some (.struct #[f0,f1,f2,f3,f4,f5,f6,f7,f8,f9,f10]))(hq : [f0,f1,f2,f3,f4,f5,f6,f7,f8,f9,f10].map (λf=>(f.type,f.offset))=[(i64,0),(i64,1),(i64,2),(i64,3),(i64,4),(i64,5),(i64,6),(ts,7),(tp,8),(tt,14),(tc,78)])
  (hi:P.underlying i64=some (.int .i64)) (hs:P.underlying ts=some .string) (hp:∀ cs l,P.keyLits (d+1) tp cs=some l->∃ p:P6,cs=p.list/\p.Ok) (hd:∀ cs l,P.keyLits (d+1) tt cs=some l->∃ a b:List UInt8,cs=cB a++cB b/\a.length=32/\b.length=32) (hc:∀ cs l,P.keyLits (d+1) tc cs=some l->∃ (k t:Int) (s:Nat),cs=[.int .i64 k,.int .i64 t,.int .u64 (s:Int)]/\inI k/\inI t/\s<18446744073709551616)
  (ci:P.cellsOf i64=1) (cns:P.cellsOf ts=1) (cp:P.cellsOf tp=6) (cd:P.cellsOf tt=64) (cc:P.cellsOf tc=3) (ct:P.cellsOf t=81) (h:P.keyLits (d+2) t cs=some l):∃ x:ActL,cs=x.list/\x.Ok:=by
 obtain⟨hl,hf⟩:=Jh ht h
 rw[ct] at hl
 simp only[List.map_cons,List.map_nil,List.cons.injEq,Prod.mk.injEq,and_true] at hq
 obtain⟨⟨a0,b0⟩,⟨a1,b1⟩,⟨a2,b2⟩,⟨a3,b3⟩,⟨a4,b4⟩,⟨a5,b5⟩,⟨a6,b6⟩,⟨a7,b7⟩,⟨a8,b8⟩,⟨a9,b9⟩,⟨a10,b10⟩⟩:=hq
 obtain⟨l0,h0⟩:=hf 0 f0 rfl
 obtain⟨l1,h1⟩:=hf 1 f1 rfl
 obtain⟨l2,h2⟩:=hf 2 f2 rfl
 obtain⟨l3,h3⟩:=hf 3 f3 rfl
 obtain⟨l4,h4⟩:=hf 4 f4 rfl
 obtain⟨l5,h5⟩:=hf 5 f5 rfl
 obtain⟨l6,h6⟩:=hf 6 f6 rfl
 obtain⟨l7,h7⟩:=hf 7 f7 rfl
 obtain⟨l8,h8⟩:=hf 8 f8 rfl
 obtain⟨l9,h9⟩:=hf 9 f9 rfl
 obtain⟨l10,h10⟩:=hf 10 f10 rfl
 rw[a0,b0,ci] at h0
 rw[a1,b1,ci] at h1
 rw[a2,b2,ci] at h2
 rw[a3,b3,ci] at h3
 rw[a4,b4,ci] at h4
 rw[a5,b5,ci] at h5
 rw[a6,b6,ci] at h6
 rw[a7,b7,cns] at h7
 rw[a8,b8,cp] at h8
 rw[a9,b9,cd] at h9
 rw[a10,b10,cc] at h10
 obtain⟨n0,e0,w0⟩:=QY hi h0
 obtain⟨n1,e1,w1⟩:=QY hi h1
 obtain⟨n2,e2,w2⟩:=QY hi h2
 obtain⟨n3,e3,w3⟩:=QY hi h3
 obtain⟨n4,e4,w4⟩:=QY hi h4
 obtain⟨n5,e5,w5⟩:=QY hi h5
 obtain⟨n6,e6,w6⟩:=QY hi h6
 obtain⟨s,e7,_⟩:=keyLits_string' hs h7
 obtain⟨p,e8,w8⟩:=hp _ _ h8
 obtain⟨u1,u2,e9,w9,w9'⟩:=hd _ _ h9
 obtain⟨k,tn,sc,e10,w10,w10',w10''⟩:=hc _ _ h10
 have ws:s.size<=maxLen:=by
  rw[e7] at h7
  unfold Program.keyLits at h7
  simp only[hs] at h7
  split at h7
  ·next hh=>exact hh
  ·cases h7
 refine⟨⟨n0,n1,n2,n3,n4,n5,n6,s,p,u1,u2,k,tn,sc⟩,?_,X1 w0,X1 w1,X1 w2,X1 w3,X1 w4,X1 w5,X1 w6,ws,w8,w9,w9',w10,w10',w10''⟩
 have e:=ZL e0
 rw[List.drop_zero,ZL e1,ZL e2,ZL e3,ZL e4,ZL e5,ZL e6,ZL e7,ZL e8,ZL e9,ZL e10,List.drop_of_length_le (i:=78+3) oX] at e
 rw[e]
 simp[ActL.list]
end
section
variable {H:Type} {enc:TypeId×Value->H} {w:World}
theorem PU{r:Reach}{b0:Nat}{v:Value}{d:DataW H}{p:List MemPlace}(hv:Value.okWide Tryz.prog w r b0 68 v)(h:DataW.Trod enc Tryz.prog w 0 (λ_=>true) true 68 v d p) :
  ∃ a c xs,v=.slice a (List.length xs) c/\RowAt ActL.list 81 w a xs/\∀ x∈xs,x.Ok:=by
 obtain⟨a0,l0,c0,rfl⟩:=okWide_slice Tryz.underlying68 hv
 obtain⟨fuel,hf⟩:=h
 have hc1:Tryz.prog.cellsOf 68=1:=kX
 obtain⟨a,c,xs,e0,hx,_,_,hok⟩:=WP (en:=ActL.list) (Ok:=ActL.Ok) (size:=81) (t:=68) (o:=0) (cs:=[.slice a0 l0 c0]) Tryz.underlying68 hc1 kX dX (λx hx=>ActL.len hx.t1 hx.t2) (λn cs' y hy=>by
  have hk:=(Go.keyLits_of_trod 6 80 kX _ _ _ hy).1
  exact Mr (d:=4) (i64:=3) (ts:=9) (tp:=45) (tt:=78) (tc:=71) Tryz.underlying80 rfl Tryz.underlying3 Tryz.underlying9 (λcs l hl=>Nh Tryz.underlying45 rfl Tryz.underlying3 kX kX hl) (λcs l hl=>Nd Tryz.underlying78 Tryz.underlying46 Tryz.underlying5 kX kX kX hl) (λcs l hl=>Ga Tryz.underlying71 rfl Tryz.underlying3 Tryz.underlying69 kX kX kX hl) kX kX kX kX kX kX hk) hf
 refine⟨a,c,xs,?_,hx,hok⟩
 simpa using e0
end
def Xm(o i way ix t:Int):Rc:={ Rc.zero with kind:=2,obj:=o,id:=i,way:=way,index:=ix,tick:=t }
def Ve(o t:Int):Rc:={ Rc.zero with kind:=4,obj:=o,tick:=t }
def Xo(o i v t:Int):Rc:={ Rc.zero with kind:=3,obj:=o,id:=i,verdict:=v,tick:=t }
def Cu(o:Int)(s:ByteArray)(q:P6)(r f:List UInt8)(t:Int):Rc:={ Rc.zero with kind:=1,obj:=o,name:=s,p:=q,root:=r,file:=f,tick:=t }
def Yx(m:St)(x:ActL):Option Rc:=
 if x.kind=0 then some (Cu (m.its.length:Int) x.name x.p x.t1 x.t2 x.tick)
 else if x.kind=1 then (if x.way≠1/\x.way≠2 then none else if x.obj<0\/(m.its.length:Int)<=x.obj then none else some (Xm x.obj (m.ens.length:Int) x.way (Qa (m.its.getD x.obj.toNat default) x.way).1 x.tick))
 else if x.kind=4 then some (Ve x.obj x.tick)
 else if x.id<0\/(m.ens.length:Int)<=x.id then none else some (Xo (m.ens.getD x.id.toNat default).o x.id x.verdict x.tick)
set_option linter.unusedSimpArgs false
def PQ(base:Nat)(Q:Value->World->Prop)(e:Ending)(w':World):Prop:=∃ v,e=.returned v/\(v=.nilIface\/BadE base v w')/\Q v w'
def PQK(base n:Nat)(Q:World->Value->World->Prop)(W:World)(e:Ending)(w':World):Prop:=PQ base (Q W) e w'/\∀ b,n<=b->b<W.heap.size->w'.heap[b]? = W.heap[b]?
def PQR(base:Nat)(Q:World->Value->World->Prop)(w:World)(e:Ending)(w':World):Prop:=∃ W,Below w.heap.size w W/\PQ base (Q W) e w'
def PQ2(base:Nat)(S:Value->Prop)(Q:World->Value->World->Prop)(w:World)(e:Ending)(w':World):Prop:=∃ W u v,Below w.heap.size w W/\e=.returned (.tuple #[u,v])/\S u/\(v=.nilIface\/BadE base v w')/\Q W v w'
def EnV(u:Value):Prop:=∃ y:En,u=.agg y.list.toArray
def LY(u:Value):Prop:=∃ n:Int,u=.int .i64 n
theorem Rn(o t:Int)(W:World):(Instr.build 49 #[(0,.int .i64 4),(1,.int .i64 o),(10,.int .i64 t)]).run Tryz.prog W=.ok (.agg (Ve o t).list.toArray) W:=by
 refine run_build W _ _ _ ?_
 kernel_rfl
theorem HH(o i v t:Int)(W:World):(Instr.build 49 #[(0,.int .i64 3),(1,.int .i64 o),(2,.int .i64 i),(9,.int .i64 v),(10,.int .i64 t)]).run Tryz.prog W=.ok (.agg (Xo o i v t).list.toArray) W:=by
 refine run_build W _ _ _ ?_
 kernel_rfl
theorem Lq(o i y x t:Int)(W:World):(Instr.build 49 #[(0,.int .i64 2),(1,.int .i64 o),(2,.int .i64 i),(7,.int .i64 y),(8,.int .i64 x),(10,.int .i64 t)]).run Tryz.prog W=.ok (.agg (Xm o i y x t).list.toArray) W:=by
 refine run_build W _ _ _ ?_
 kernel_rfl
theorem RT{B:Nat}{w:World}{ea:Nat->Addr}(H:∀ W,Below B w W->Errs 298 errGs W ea)(i:Nat)(hi:i<20):BadE B (.iface 298 (.pointer (some (ea i)))) w:=ErrIs.badE (n:=i+1) (.inr (.inl ⟨i,hi,rfl,rfl⟩)) oX H
theorem Wk(base l:Nat)(o t:Int)(w:World)(Q:World->Value->World->Prop)(hput:∀ W,Below w.heap.size w W->Calls Tryz.prog 81 #[.pointer (some ⟨l,0,none⟩),.agg (Ve o t).list.toArray] W (PQK base w.heap.size Q W)) :
  Calls Tryz.prog 55 #[.pointer (some ⟨l,0,none⟩),.int .i64 o,.int .i64 t] w (PQR base Q w):=by
 have hbd:=Hd (λW=>Rn o t W)
 obtain⟨X,hX⟩:∃ X,X=(Ve o t).list.toArray:=⟨_,rfl⟩
 rw[<-hX] at hput hbd
 replace hput:=Hd hput
 replace hX:=Hd hX
 go_enter Tryz.func55,Tryz.ntmps55
 go_wp2_with ((with_reducible refine wL (.build 49 _) ?_);refine Z3 rfl 49 [(0,.const (.int .i64 4)),(1,.tmp 8),(10,.tmp 9)] rfl [(0,.int .i64 4),(1,.int .i64 o),(10,.int .i64 t)] rfl _ (hbd.out _) ?_)
 with_reducible refine(hput.out _ bR).mono ?_
 clear hput
 rintro e w2 ⟨⟨v,rfl,hv,hq⟩,-⟩
 replace hv:=Hd hv
 replace hq:=Hd hq
 go_wp2_with fail
 go_ret
 exact⟨_,Below.refl _ _,_,rfl,hv.out,hq.out⟩
theorem Hq{base:Nat}{w:World}{l:Nat}{V:LV}{P:LP}(h:LdM base w l V P)(l1:P.m.its.length<=1000)(l2:P.m.ens.length<=1000)(i:Nat)(hi:i<P.m.ens.length)(v t:Int)(Q:World->Value->World->Prop)(hput:∀ W,Below w.heap.size w W->Calls Tryz.prog 81 #[.pointer (some ⟨l,0,none⟩),.agg (Xo P.m.ens[i].o (i:Int) v t).list.toArray] W (PQK base w.heap.size Q W)) :
  Calls Tryz.prog 56 #[.pointer (some ⟨l,0,none⟩),.int .i64 (i:Int),.int .i64 v,.int .i64 t] w (PQR base Q w):=by
 have hc0:=KV (.agg #[V.sI,V.sE]) P.m w h.st i hi l2
 obtain⟨va,hva⟩:∃ va,va=(.agg #[V.sI,V.sE]:Value):=⟨_,rfl⟩
 rw[<-hva] at hc0
 have hrS:=Hd (ZM h.at_ (o:=1) (n:=2) (B:=[V.sI,V.sE]) rfl)
 obtain⟨SA,hSA⟩:∃ SA,SA=#[V.sI,V.sE]:=⟨_,rfl⟩
 have iS:(Tryz.prog.info? 28).map (·.size)=some 2:=kX
 rw[<-hSA] at hva
 replace hSA:=Hd hSA
 generalize V.sI=sI at*
 generalize V.sE=sE at*
 subst hva
 obtain⟨y,hy⟩:∃ y,y=P.m.ens[i]:=⟨_,rfl⟩
 rw[<-hy] at hc0 hput
 have hbd:=Hd (λW=>HH y.o (i:Int) v t W)
 obtain⟨X,hX⟩:∃ X,X=(Xo y.o (i:Int) v t).list.toArray:=⟨_,rfl⟩
 rw[<-hX] at hput hbd
 obtain⟨XA,hXA⟩:∃ XA,XA=y.list.toArray:=⟨_,rfl⟩
 have iA:(Tryz.prog.info? 66).map (·.size)=some XA.size:=by rw[hXA];kernel_rfl
 have zA:(#[.int .i64 0,.int .i64 0,.int .i64 0,.int .i64 0,.int .i64 0,.int .i64 0,.int .i64 0]:Array Value).size=XA.size:=by rw[hXA];rfl
 have h1A:XA.all (·.oneCell')=true:=by rw[hXA];exact Go.Proofs.YtpdhceiodgnbmaaGreatDoor.all_one (En.list_one _)
 have hk1:Hid (∀ (W:World) b,W.heap[b]? = some (.cells XA 66 (0,0))->W.cell? ⟨b,1,none⟩=some (.int .i64 y.o)):=Hd (λW b h=>by
  rw[Za h,hXA,List.getElem?_toArray]
  rfl)
 rw[<-hXA] at hc0
 generalize y.o=yo at*
 obtain⟨I,hI⟩:∃ I,I=(i:Int):=⟨_,rfl⟩
 rw[<-hI] at hc0 hbd ⊢
 replace hput:=Hd hput
 replace hX:=Hd hX
 replace hc0:=Hd hc0
 replace hI:=Hd hI
 replace hy:=Hd hy
 replace hXA:=Hd hXA
 clear h l1 l2
 go_enter Tryz.func56,Tryz.ntmps56
 go_wp2_with ((with_reducible refine wL (.load 28 (.tmp 14)) ?_);refine Z0 rfl 28 (.tmp 14) rfl l 1 rfl _ _ hrS.out Tryz.underlying28 rfl iS SA hSA ?_)
 with_reducible refine hc0.out.mono ?_
 clear hc0
 rintro e w4 ⟨rfl,hb⟩
 have hZ4:=Hd (heap_alloc_new w4 (.cells #[.int .i64 0,.int .i64 0,.int .i64 0,.int .i64 0,.int .i64 0,.int .i64 0,.int .i64 0] 66))
 replace hb:=Hd hb
 go_wp2_with (first
  | ((with_reducible refine wL (.store 66 (.tmp 9) _) ?_);(refine Zc rfl 66 (.tmp 9) (.tmp 18) rfl w4.heap.size _ XA rfl rfl hZ4 iA zA h1A ?_);intro w5 hU5;have hb5:Below w4.heap.size w4 w5:=(Below.alloc (Below.refl w4.heap.size w4) nR _).trans (hU5.out.below nR);have aX:=Hd hU5.out.here;have hB5:=Hd (hb.out.trans (hb5.mono hb.out.size));have y1:=hk1.out _ _ aX.out;clear hb5)
  | ((with_reducible refine wL (.build 49 _) ?_);refine Z3 rfl 49 [(0,.const (.int .i64 3)),(1,.tmp 25),(2,.tmp 26),(9,.tmp 27),(10,.tmp 28)] rfl [(0,.int .i64 3),(1,.int .i64 yo),(2,.int .i64 I),(9,.int .i64 v),(10,.int .i64 t)] rfl _ (hbd.out _) ?_))
 with_reducible refine(hput.out _ hB5.out).mono ?_
 clear hput
 rintro e w6 ⟨⟨v6,rfl,hv,hq⟩,-⟩
 replace hv:=Hd hv
 replace hq:=Hd hq
 clear y1
 go_wp2_with fail
 go_ret
 exact⟨_,hB5.out,_,rfl,hv.out,hq.out⟩
theorem WM{base:Nat}{w:World}{l:Nat}{V:LV}{P:LP}(h:LdM base w l V P)(l1:P.m.its.length<=1000)(l2:P.m.ens.length<=1000)(i:Int)(hi:¬(0<=i/\i<P.m.ens.length))(v t:Int)(ea:Nat->Addr)(hn:base<=w.heap.size)(H:∀ W,Below base w W->Errs 298 errGs W ea)(Q:World->Value->World->Prop)(href:∀ v w',BadE base v w'->Below w.heap.size w w'->Q w v w') :
  Calls Tryz.prog 56 #[.pointer (some ⟨l,0,none⟩),.int .i64 i,.int .i64 v,.int .i64 t] w (PQR base Q w):=by
 have hc0:=NY (.agg #[V.sI,V.sE]) P.m w h.st i hi l2
 obtain⟨va,hva⟩:∃ va,va=(.agg #[V.sI,V.sE]:Value):=⟨_,rfl⟩
 rw[<-hva] at hc0
 have hrS:=Hd (ZM h.at_ (o:=1) (n:=2) (B:=[V.sI,V.sE]) rfl)
 obtain⟨SA,hSA⟩:∃ SA,SA=#[V.sI,V.sE]:=⟨_,rfl⟩
 have iS:(Tryz.prog.info? 28).map (·.size)=some 2:=kX
 rw[<-hSA] at hva
 replace hSA:=Hd hSA
 generalize V.sI=sI at*
 generalize V.sE=sE at*
 subst hva
 have hge:=λW (h:Below w.heap.size w W)=>(Qs (H W (h.mono hn))).2.2.2.2.2.2.2.2.2.2.1
 have hbe:=Hd (λW (h:Below w.heap.size w W)=>RT (B:=base) (λW' hW'=>H W' ((h.mono hn).trans hW')) 10 dX)
 have hrf:=Hd href
 replace hc0:=Hd hc0
 replace hge:=Hd hge
 obtain⟨XA,hXA⟩:∃ XA,XA=(default:En).list.toArray:=⟨_,rfl⟩
 have iA:(Tryz.prog.info? 66).map (·.size)=some XA.size:=by rw[hXA];kernel_rfl
 have zA:(#[.int .i64 0,.int .i64 0,.int .i64 0,.int .i64 0,.int .i64 0,.int .i64 0,.int .i64 0]:Array Value).size=XA.size:=by rw[hXA];rfl
 have h1A:XA.all (·.oneCell')=true:=by rw[hXA];exact Go.Proofs.YtpdhceiodgnbmaaGreatDoor.all_one (En.list_one _)
 rw[<-hXA] at hc0
 replace hXA:=Hd hXA
 clear h l1 l2 hi href H
 go_enter Tryz.func56,Tryz.ntmps56
 go_wp2_with ((with_reducible refine wL (.load 28 (.tmp 14)) ?_);refine Z0 rfl 28 (.tmp 14) rfl l 1 rfl _ _ hrS.out Tryz.underlying28 rfl iS SA hSA ?_)
 with_reducible refine hc0.out.mono ?_
 clear hc0
 rintro e w4 ⟨rfl,hb⟩
 have hZ4:=Hd (heap_alloc_new w4 (.cells #[.int .i64 0,.int .i64 0,.int .i64 0,.int .i64 0,.int .i64 0,.int .i64 0,.int .i64 0] 66))
 replace hb:=Hd hb
 go_wp2_with ((with_reducible refine wL (.store 66 (.tmp 9) _) ?_);(refine Zc rfl 66 (.tmp 9) (.tmp 18) rfl w4.heap.size _ XA rfl rfl hZ4 iA zA h1A ?_);intro w5 hU5;have hb5:Below w4.heap.size w4 w5:=(Below.alloc (Below.refl w4.heap.size w4) nR _).trans (hU5.out.below nR);have hB5:=Hd (hb.out.trans (hb5.mono hb.out.size));have k10:=hge.out _ hB5.out;clear hb5)
 go_ret
 exact⟨_,Below.refl _ _,_,rfl,.inr (hbe.out _ hB5.out),hrf.out _ _ (hbe.out _ hB5.out) hB5.out⟩
theorem LJ{base:Nat}{w:World}(l:Nat)(o way t:Int)(h1:way≠1)(h2:way≠2)(ea:Nat->Addr)(hn:base<=w.heap.size)(H:∀ W,Below base w W->Errs 298 errGs W ea)(Q:World->Value->World->Prop)(href:∀ v w',BadE base v w'->Below w.heap.size w w'->Q w v w') :
  Calls Tryz.prog 54 #[.pointer (some ⟨l,0,none⟩),.int .i64 o,.int .i64 way,.int .i64 t] w (PQ2 base EnV Q w):=by
 have hge:=λW (h:Below w.heap.size w W)=>(Qs (H W (h.mono hn))).2.2.2.2.2.2.1
 have hbe:=Hd (λW (h:Below w.heap.size w W)=>RT (B:=base) (λW' hW'=>H W' ((h.mono hn).trans hW')) 6 dX)
 have hrf:=Hd href
 have t1:(way != 1)=true:=by simpa using h1
 have t2:(way != 2)=true:=by simpa using h2
 obtain⟨w1,hw1⟩:∃ w1,w1=w.alloc (.cells #[.int .i64 0,.int .i64 0,.int .i64 0,.int .i64 0,.int .i64 0,.int .i64 0,.int .i64 0] 66):=⟨_,rfl⟩
 have hB:Below w.heap.size w w1:=by rw[hw1];exact bR.alloc nR _
 have aO:Hid (w1.drew.heap[w.heap.size]? = some (.cells #[.int .i64 0,.int .i64 0,.int .i64 0,.int .i64 0,.int .i64 0,.int .i64 0,.int .i64 0] 66 (0,0))):=Hd (by rw[hw1];exact heap_alloc_new w _)
 have hd0:Hid (Below w.heap.size w w1.drew):=Hd hB.drew
 replace hw1:=Hd hw1
 replace hB:=Hd hB
 replace hge:=Hd hge
 clear H href h1 h2
 go_enter Tryz.func54,Tryz.ntmps54
 go_wp2_with fail
 rw[<-hw1.out]
 have hcW:=λW h=>hge.out W h
 refine wp_region_held_drew (S:=(Below w.heap.size w)) kX hd0.out (λhOn=>?_)
 generalize World.drew w1=wd at*
 refine tk 0 hOn ?_
 refine tk 1 hOn ?_
 refine rd 2 (λKz hKz=>?_)
 rw[if_pos (by rfl)]
 (with_reducible refine Zu 66 (.tmp 8) (.tmp 22) rfl w.heap.size #[.int .i64 0,.int .i64 0,.int .i64 0,.int .i64 0,.int .i64 0,.int .i64 0,.int .i64 0] #[.int .i64 0,.int .i64 0,.int .i64 0,.int .i64 0,.int .i64 0,.int .i64 0,.int .i64 0] rfl rfl aO kX rfl c5X ?_)
 intro w9 hU9
 have hS:=hOn.trans (hU9.out.below nR)
 have hres:=Hd hU9.out.here
 refine hKz.out _ _ hS ?_
 clear hKz Kz hOn hS
 intro hOn
 try simp only[Act.put]
 refine tk 3 hOn ?_
 refine dnE ?_
 all_goals
  go_wp2_with fail
  refine Zl rfl rfl Tryz.underlying66 rfl kX hres.out ?_
  exact⟨_,_,_,Below.refl _ _,rfl,⟨default,rfl⟩,.inr (hbe.out _ hOn),hrf.out _ _ (hbe.out _ hOn) hOn⟩
theorem Dp{base:Nat}{w:World}{l:Nat}{V:LV}{P:LP}(h:LdM base w l V P)(l1:P.m.its.length<=1000)(l2:P.m.ens.length<=1000)(o way t:Int)(hw:way=1\/way=2)(ho:¬(0<=o/\o<P.m.its.length))(ea:Nat->Addr)(hn:base<=w.heap.size)(H:∀ W,Below base w W->Errs 298 errGs W ea)(Q:World->Value->World->Prop)(href:∀ v w',BadE base v w'->Below w.heap.size w w'->Q w v w') :
  Calls Tryz.prog 54 #[.pointer (some ⟨l,0,none⟩),.int .i64 o,.int .i64 way,.int .i64 t] w (PQ2 base EnV Q w):=by
 have hge:=λW (h:Below w.heap.size w W)=>(Qs (H W (h.mono hn))).2.2.2.2.2.2.2.2.2.2.1
 have hbe:=Hd (λW (h:Below w.heap.size w W)=>RT (B:=base) (λW' hW'=>H W' ((h.mono hn).trans hW')) 10 dX)
 have hrf:=Hd href
 obtain⟨w1,hw1⟩:∃ w1,w1=w.alloc (.cells #[.int .i64 0,.int .i64 0,.int .i64 0,.int .i64 0,.int .i64 0,.int .i64 0,.int .i64 0] 66):=⟨_,rfl⟩
 have hB:Below w.heap.size w w1:=by rw[hw1];exact bR.alloc nR _
 have aO1:Hid (w1.heap[w.heap.size]? = some (.cells #[.int .i64 0,.int .i64 0,.int .i64 0,.int .i64 0,.int .i64 0,.int .i64 0,.int .i64 0] 66 (0,0))):=Hd (by rw[hw1];exact heap_alloc_new w _)
 have h':=h.below hB
 have hc0:=Ui (.agg #[V.sI,V.sE]) P.m w1 h'.st o ho l1
 clear h
 obtain⟨va,hva⟩:∃ va,va=(.agg #[V.sI,V.sE]:Value):=⟨_,rfl⟩
 rw[<-hva] at hc0
 have hrS:=Hd (ZM h'.at_ (o:=1) (n:=2) (B:=[V.sI,V.sE]) rfl)
 obtain⟨SA,hSA⟩:∃ SA,SA=#[V.sI,V.sE]:=⟨_,rfl⟩
 have iS:(Tryz.prog.info? 28).map (·.size)=some 2:=kX
 rw[<-hSA] at hva
 replace hSA:=Hd hSA
 generalize V.sI=sI at*
 generalize V.sE=sE at*
 subst hva
 obtain⟨XA,hXA⟩:∃ XA,XA=(default:It).list.toArray:=⟨_,rfl⟩
 have iA:(Tryz.prog.info? 58).map (·.size)=some XA.size:=by rw[hXA,It.size It.default_ok];kernel_rfl
 have zA:(Tryz.zeroCells58).size=XA.size:=by rw[hXA,It.size It.default_ok];kernel_rfl
 have h1A:XA.all (·.oneCell')=true:=by rw[hXA];exact It.all_one _
 rw[<-hXA] at hc0
 replace hXA:=Hd hXA
 replace hw1:=Hd hw1
 replace hB:=Hd hB
 replace hge:=Hd hge
 replace hc0:=Hd hc0
 replace ho:=Hd ho
 clear H href h' l1 l2
 rcases hw with rfl|rfl
 all_goals
  go_enter Tryz.func54,Tryz.ntmps54
  go_upto_region 3 with fail
  rw[<-hw1.out]
  go_wp2_with ((with_reducible refine wL (.load 28 (.tmp 27)) ?_);refine Z0 rfl 28 (.tmp 27) rfl l 1 rfl _ _ hrS.out Tryz.underlying28 rfl iS SA hSA ?_)
  with_reducible refine hc0.out.mono ?_
  clear hc0
  rintro e w4 ⟨rfl,hb⟩
  have hZ4:=Hd (heap_alloc_new w4 (.cells Tryz.zeroCells58 58))
  have aO4:=Hd ((hb.block _ (Zb aO1.out)).trans aO1.out)
  have hB4:=Hd (hB.out.trans (hb.mono hB.out.size))
  clear hb
  go_wp2_with ((with_reducible refine wL (.store 58 (.tmp 10) _) ?_);(refine Zc rfl 58 (.tmp 10) (.tmp 31) rfl w4.heap.size _ XA rfl rfl hZ4 iA zA h1A ?_);intro w5 hU5;have hb5:Below w4.heap.size w4 w5:=(Below.alloc (Below.refl w4.heap.size w4) nR _).trans (hU5.out.below nR);have hB5:=Hd (hB4.out.trans (hb5.mono hB4.out.size));have aO5:=Hd ((hb5.block _ (Zb aO4.out)).trans aO4.out);clear hb5)
  have hd0:Hid (Below w.heap.size w w5.drew):=Hd hB5.out.drew
  have aO:Hid (w5.drew.heap[w.heap.size]? = some (.cells #[.int .i64 0,.int .i64 0,.int .i64 0,.int .i64 0,.int .i64 0,.int .i64 0,.int .i64 0] 66 (0,0))):=Hd aO5.out
  have hcW:=λW h=>hge.out W h
  refine wp_region_held_drew (S:=(Below w.heap.size w)) kX hd0.out (λhOn=>?_)
  generalize World.drew w5=wd at*
  refine tk 0 hOn ?_
  refine tk 1 hOn ?_
  refine rd 2 (λKz hKz=>?_)
  rw[if_pos (by rfl)]
  (with_reducible refine Zu 66 (.tmp 8) (.tmp 35) rfl w.heap.size #[.int .i64 0,.int .i64 0,.int .i64 0,.int .i64 0,.int .i64 0,.int .i64 0,.int .i64 0] #[.int .i64 0,.int .i64 0,.int .i64 0,.int .i64 0,.int .i64 0,.int .i64 0,.int .i64 0] rfl rfl aO kX rfl c5X ?_)
  intro w9 hU9
  have hS:=hOn.trans (hU9.out.below nR)
  have hres:=Hd hU9.out.here
  refine hKz.out _ _ hS ?_
  clear hKz Kz hOn hS
  intro hOn
  try simp only[Act.put]
  refine tk 3 hOn ?_
  refine dnE ?_
  all_goals
   go_wp2_with fail
   refine Zl rfl rfl Tryz.underlying66 rfl kX hres.out ?_
   exact⟨_,_,_,Below.refl _ _,rfl,⟨default,rfl⟩,.inr (hbe.out _ hOn),hrf.out _ _ (hbe.out _ hOn) hOn⟩
theorem W8{base:Nat}{w:World}{l:Nat}{V:LV}{P:LP}(h:LdM base w l V P)(l1:P.m.its.length<=1000)(l2:P.m.ens.length<=1000)(i:Nat)(hi:i<P.m.its.length)(way t:Int)(hw:way=1\/way=2)(Q:World->Value->World->Prop)(hput:∀ W,Below w.heap.size w W->Calls Tryz.prog 81 #[.pointer (some ⟨l,0,none⟩),.agg (Xm (i:Int) (P.m.ens.length:Int) way (Qa P.m.its[i] way).1 t).list.toArray] W (PQK base w.heap.size Q W))
  (hQE:∀ W w',Below w.heap.size w W->Q W .nilIface w'->∃ V' P',LdM base w' l V' P'/\P.m.ens.length<P'.m.ens.length/\P'.m.ens.length<=1001) (hst:∀ W v W1 W2 C C',Below w.heap.size w W->w.heap.size<W.heap.size->Q W v W1->W1.heap[w.heap.size]? = some (.cells C 66 (0,0))->Upd w.heap.size (.cells C' 66 (0,0)) W1 W2->Q W v W2) (hn:base<=w.heap.size) :
  Calls Tryz.prog 54 #[.pointer (some ⟨l,0,none⟩),.int .i64 (i:Int),.int .i64 way,.int .i64 t] w (PQ2 base EnV Q w):=by
 obtain⟨w1,hw1⟩:∃ w1,w1=w.alloc (.cells #[.int .i64 0,.int .i64 0,.int .i64 0,.int .i64 0,.int .i64 0,.int .i64 0,.int .i64 0] 66):=⟨_,rfl⟩
 have hB:Below w.heap.size w w1:=by rw[hw1];exact bR.alloc nR _
 have aO1:Hid (w1.heap[w.heap.size]? = some (.cells #[.int .i64 0,.int .i64 0,.int .i64 0,.int .i64 0,.int .i64 0,.int .i64 0,.int .i64 0] 66 (0,0))):=Hd (by rw[hw1];exact heap_alloc_new w _)
 have h':=h.below hB
 have hc0:=JL (.agg #[V.sI,V.sE]) P.m w1 h'.st i hi l1
 obtain⟨y,hy⟩:∃ y,y=P.m.its[i]:=⟨_,rfl⟩
 have hyo:y.Ok:=by rw[hy];exact h.st.okN _ (List.getElem_mem hi)
 rw[<-hy] at hc0 hput
 have hnx:=Hd (λW=>Gb y hyo way W)
 obtain⟨ix,hix⟩:∃ ix,ix=(Qa y way).1:=⟨_,rfl⟩
 obtain⟨lf,hlf⟩:∃ lf,lf=(Qa y way).2:=⟨_,rfl⟩
 rw[<-hix] at hput
 rw[<-hix,<-hlf] at hnx
 obtain⟨E,hE⟩:∃ E,E=P.m.ens.length:=⟨_,rfl⟩
 rw[<-hE] at hput l2 hQE
 obtain⟨a4,c4,a5,c5,hsh⟩:=h.st.shape
 simp only[Value.agg.injEq,Array.mk.injEq,List.cons.injEq,and_true] at hsh
 obtain⟨hsI,hsE⟩:=hsh
 rw[<-hE] at hsE
 obtain⟨va,hva⟩:∃ va,va=(.agg #[V.sI,V.sE]:Value):=⟨_,rfl⟩
 rw[<-hva] at hc0
 have hlt:=Zb h.at_
 have hrS:=ZM h'.at_ (o:=1) (n:=2) (B:=[V.sI,V.sE]) rfl
 have iS:(Tryz.prog.info? 28).map (·.size)=some 2:=kX
 have aL1:Hid (w1.heap[l]? = some (.cells #[.pointer (some ⟨V.J,0,none⟩),V.sI,V.sE,.pointer (some ⟨V.f,0,none⟩)] 124 (0,0))):=Hd h'.at_
 rw[hsE] at aL1 hva hrS
 obtain⟨SA,hSA⟩:∃ SA,SA=#[V.sI,.slice a5 E c5]:=⟨_,rfl⟩
 rw[<-hSA] at hva
 replace hSA:=Hd hSA
 replace hrS:=Hd hrS
 generalize V.sI=sI at*
 obtain⟨I,hI⟩:∃ I,I=(i:Int):=⟨_,rfl⟩
 rw[<-hI] at hc0 hput ⊢
 have hbd:=Hd (λW=>Lq I (E:Int) way ix t W)
 obtain⟨X,hX⟩:∃ X,X=(Xm I (E:Int) way ix t).list.toArray:=⟨_,rfl⟩
 rw[<-hX] at hput hbd
 subst hva
 obtain⟨XA,hXA⟩:∃ XA,XA=y.list.toArray:=⟨_,rfl⟩
 have iA:(Tryz.prog.info? 58).map (·.size)=some XA.size:=by rw[hXA,It.size hyo];kernel_rfl
 have zA:(Tryz.zeroCells58).size=XA.size:=by rw[hXA,It.size hyo];kernel_rfl
 have h1A:XA.all (·.oneCell')=true:=by rw[hXA];exact It.all_one _
 rw[<-hXA] at hc0 hnx
 have hfin:Hid (∀ (W0:World) (u v:Value) W,Below w.heap.size w W0->EnV u->(v=.nilIface\/BadE base v W)->Q W0 v W->PQ2 base EnV Q w (.returned (.tuple #[u,v])) W):=Hd (λW0 u v W h0 a b c=>⟨W0,u,v,h0,rfl,a,b,c⟩)
 have i7:(Tryz.prog.info? 66).map (·.size)=some 7:=kX
 replace hXA:=Hd hXA
 replace hw1:=Hd hw1
 replace hB:=Hd hB
 replace hput:=Hd hput
 replace hnx:=Hd hnx.out
 replace hX:=Hd hX
 replace hix:=Hd hix
 replace hlf:=Hd hlf
 replace hE:=Hd hE
 replace hI:=Hd hI
 replace hy:=Hd hy
 replace hQE:=Hd hQE
 replace hst:=Hd hst
 replace hc0:=Hd hc0
 replace hlt:=Hd hlt
 clear h h' l1 hyo hsI hsE
 rcases hw with rfl|rfl
 all_goals
  go_enter Tryz.func54,Tryz.ntmps54
  go_upto_region 3 with fail
  rw[<-hw1.out]
  go_wp2_with ((with_reducible refine wL (.load 28 (.tmp 27)) ?_);refine Z0 rfl 28 (.tmp 27) rfl l 1 rfl _ _ hrS.out Tryz.underlying28 rfl iS SA hSA ?_)
  with_reducible refine hc0.out.mono ?_
  clear hc0
  rintro e w4 ⟨rfl,hb⟩
  have hZ4:=Hd (heap_alloc_new w4 (.cells Tryz.zeroCells58 58))
  have aO4:=Hd ((hb.block _ (Zb aO1.out)).trans aO1.out)
  have aL4:=Hd ((hb.block _ (Zb aL1.out)).trans aL1.out)
  have hB4:=Hd (hB.out.trans (hb.mono hB.out.size))
  clear hb
  go_wp2_with (first
   | ((with_reducible refine wL (.store 58 (.tmp 10) _) ?_);(refine Zc rfl 58 (.tmp 10) (.tmp 31) rfl w4.heap.size _ XA rfl rfl hZ4 iA zA h1A ?_);intro w5 hU5;have hb5:Below w4.heap.size w4 w5:=(Below.alloc (Below.refl w4.heap.size w4) nR _).trans (hU5.out.below nR);have hB5:=Hd (hB4.out.trans (hb5.mono hB4.out.size));have aO5:=Hd ((hb5.block _ (Zb aO4.out)).trans aO4.out);have aL5:=Hd ((hb5.block _ (Zb aL4.out)).trans aL4.out);have aX5:=hU5.out.here;replace aX5:=Hd aX5;clear hb5)
   | ((with_reducible refine wL (.load 58 (.tmp 10)) ?_);refine Zd rfl 58 (.tmp 10) rfl w4.heap.size XA _ rfl aX5 Tryz.underlying58 rfl iA ?_))
  with_reducible refine(hnx.out _).mono ?_
  rintro e w6 ⟨rfl,hb6⟩
  have aO6:=Hd ((hb6.block _ (Zb aO5.out)).trans aO5.out)
  have aL6:=Hd ((hb6.block _ (Zb aL5.out)).trans aL5.out)
  have hB6:=Hd (hB5.out.trans (hb6.mono hB5.out.size))
  have c2:=Za aL6.out 2
  clear hb6 hnx
  go_wp2_with ((with_reducible refine wL (.build 49 _) ?_);refine Z3 rfl 49 [(0,.const (.int .i64 2)),(1,.tmp 50),(2,.tmp 51),(7,.tmp 52),(8,.tmp 53),(10,.tmp 54)] rfl [(0,.int .i64 2),(1,.int .i64 I),(2,.int .i64 (E:Int)),(7,_),(8,.int .i64 ix),(10,.int .i64 t)] rfl _ (hbd.out _) ?_)
  with_reducible refine(hput.out _ hB6.out).mono ?_
  clear hput c2
  rintro e w7 ⟨⟨v7,rfl,hv,hq⟩,hkp⟩
  have aO7:=Hd ((hkp _ nR (Zb aO6.out)).trans aO6.out)
  clear hkp
  rcases hv with rfl|hv
  ·obtain⟨V',P',hL,hlt1,hle1⟩:=hQE.out _ _ hB6.out hq
   obtain⟨⟨a8,c8,a9,c9,hsh8,hr8,hr8a,hr8b,hr9,hr9a,hr9b⟩,ok8,ok9⟩:=hL.st
   simp only[Value.agg.injEq,Array.mk.injEq,List.cons.injEq,and_true] at hsh8
   obtain⟨hs8,hs9⟩:=hsh8
   have c2:w7.cell? ⟨l,2,none⟩=some (.slice a9 P'.m.ens.length c9):=by rw[Za hL.at_,<-hs9];rfl
   obtain⟨b9,o9,rfl,hr⟩:=hr9 E hlt1
   obtain⟨z,hz⟩:∃ z,z=P'.m.ens[E]:=⟨_,rfl⟩
   rw[<-hz] at hr
   obtain⟨M,hM⟩:∃ M,M=P'.m.ens.length:=⟨_,rfl⟩
   rw[<-hM] at c2 hlt1 hle1
   obtain⟨ZA,hZA⟩:∃ ZA,ZA=z.list.toArray:=⟨_,rfl⟩
   have iZ:(Tryz.prog.info? 66).map (·.size)=some ZA.size:=by rw[hZA];kernel_rfl
   have sZ:(#[.int .i64 0,.int .i64 0,.int .i64 0,.int .i64 0,.int .i64 0,.int .i64 0,.int .i64 0]:Array Value).size=ZA.size:=by rw[hZA];rfl
   have h1Z:ZA.all (·.oneCell')=true:=by rw[hZA];exact Go.Proofs.YtpdhceiodgnbmaaGreatDoor.all_one (En.list_one _)
   have i7l:(Tryz.prog.info? 66).map (·.size)=some z.list.length:=kX
   replace hZA:=Hd hZA
   replace hz:=Hd hz
   replace hM:=Hd hM
   replace hr:=Hd hr
   replace hq:=Hd hq
   replace hL:=Hd hL
   clear hr8 hr8a hr8b hr9 hr9a hr9b ok8 ok9 hs8 hs9
   go_wp2_with (first
    | ((with_reducible refine wL (.load 66 (.tmp 67)) ?_);(refine Z0 rfl 66 (.tmp 67) rfl b9 (o9+E*7) rfl z.list _ hr.out Tryz.underlying66 rfl i7l ZA hZA ?_))
    | ((with_reducible refine wL (.store 66 (.tmp 8) _) ?_);(refine Zc rfl 66 (.tmp 8) (.tmp 68) rfl w.heap.size _ ZA rfl rfl aO7 iZ sZ h1Z ?_);intro w9 hU9;have hres:=Hd hU9.out.here;have hq9:=Hd (hst.out _ _ _ _ _ _ hB6.out (by have:=Zb aO6.out;omega) hq.out aO7.out hU9.out)))
   refine Zl rfl rfl Tryz.underlying66 rfl iZ hres.out ?_
   exact hfin.out _ _ _ _ hB6.out ⟨z,by rw[hZA.out]⟩ (.inl rfl) hq9.out
  ·have hnq:=hv.1.1
   have hgd:=hv.1.2
   replace hv:=Hd hv
   replace hq:=Hd hq
   go_wp2_with ((with_reducible refine wL (.store 66 (.tmp 8) _) ?_);(refine Zc rfl 66 (.tmp 8) (.tmp 59) rfl w.heap.size _ #[.int .i64 0,.int .i64 0,.int .i64 0,.int .i64 0,.int .i64 0,.int .i64 0,.int .i64 0] rfl rfl aO7 i7 rfl c5X ?_);intro w9 hU9;have hres:=Hd hU9.out.here;have hq9:=Hd (hst.out _ _ _ _ _ _ hB6.out (by have:=Zb aO6.out;omega) hq.out aO7.out hU9.out);have hv9:=Hd (hv.out.soft (Soft.ofUpd hU9.out aO7.out ⟨dX,dX⟩ hn)))
   refine Zl rfl rfl Tryz.underlying66 rfl kX hres.out ?_
   exact hfin.out _ _ _ _ hB6.out ⟨default,rfl⟩ (.inr hv9.out) hq9.out
theorem DL{base:Nat}{w:World}{l:Nat}{V:LV}{P:LP}(h:LdM base w l V P)(s:ByteArray)(q:P6)(root file:List UInt8)(t:Int)(h1:root.length=32)(h2:file.length=32)(Q:World->Value->World->Prop)(hput:∀ W,Below w.heap.size w W->Calls Tryz.prog 81 #[.pointer (some ⟨l,0,none⟩),.agg (X6 (P.m.its.length:Int) s q root file t).list.toArray] W (PQK base w.heap.size Q W)) :
  Calls Tryz.prog 36 #[.pointer (some ⟨l,0,none⟩),.string s,.agg q.list.toArray,.agg (cB root).toArray,.agg (cB file).toArray,.int .i64 t] w (PQ2 base LY Q w):=by
 have hbd:=Hd (λ(n:Int) W=>Kk n s q root file t h1 h2 W)
 have iP:(Tryz.prog.info? 45).map (·.size)=some q.list.toArray.size:=kX
 have iR:(Tryz.prog.info? 47).map (·.size)=some (cB root).toArray.size:=by rw[List.size_toArray,Ze,h1];kernel_rfl
 have iF:(Tryz.prog.info? 47).map (·.size)=some (cB file).toArray.size:=by rw[List.size_toArray,Ze,h2];kernel_rfl
 generalize q.list.toArray=PA at*
 generalize (cB root).toArray=RA at*
 generalize (cB file).toArray=FA at*
 obtain⟨a4,c4,a5,c5,hsh⟩:=h.st.shape
 simp only[Value.agg.injEq,Array.mk.injEq,List.cons.injEq,and_true] at hsh
 obtain⟨hsI,hsE⟩:=hsh
 obtain⟨b8,b9,b10,hs3,hB⟩:=ZV w PA RA FA 45 47 47 _ rfl
 obtain⟨w1,hw1⟩:∃ w1,w1=((w.alloc (.cells PA 45)).alloc (.cells RA 47)).alloc (.cells FA 47):=⟨_,rfl⟩
 rw[<-hw1] at b8 b9 b10 hs3 hB
 have hl1:=h.below hB
 obtain⟨N,hN⟩:∃ N,N=P.m.its.length:=⟨_,rfl⟩
 have c1:w1.cell? ⟨l,1,none⟩=some (.slice a4 N c4):=by rw[Za hl1.at_,hN,<-hsI];rfl
 rw[<-hN] at hput
 obtain⟨X,hX⟩:∃ X,X=(X6 (N:Int) s q root file t).list.toArray:=⟨_,rfl⟩
 have hbN:=Hd (λW=>hbd.out (N:Int) W)
 rw[<-hX] at hput hbN
 replace hput:=Hd hput
 replace hX:=Hd hX
 replace hw1:=Hd hw1
 replace b8:=Hd b8
 replace b9:=Hd b9
 replace b10:=Hd b10
 replace hB:=Hd hB
 replace hN:=Hd hN
 clear h hl1 hs3 hsI hsE h1 h2
 go_enter Tryz.func36,Tryz.ntmps36
 go_upto_region 1 with fail
 rw[<-hw1.out]
 go_wp2_with (first
  | ((with_reducible refine wL (.load 45 (.tmp 8)) ?_);refine Zd rfl 45 (.tmp 8) rfl w.heap.size PA _ rfl b8 Tryz.underlying45 rfl iP ?_)
  | ((with_reducible refine wL (.load 47 (.tmp 9)) ?_);refine Zd rfl 47 (.tmp 9) rfl (w.heap.size+1) RA _ rfl b9 Tryz.underlying47 rfl iR ?_)
  | ((with_reducible refine wL (.load 47 (.tmp 10)) ?_);refine Zd rfl 47 (.tmp 10) rfl (w.heap.size+2) FA _ rfl b10 Tryz.underlying47 rfl iF ?_)
  | ((with_reducible refine wL (.build 49 _) ?_);refine Z3 rfl 49 [(0,.const (.int .i64 1)),(1,.tmp 23),(3,.tmp 24),(4,.tmp 25),(5,.tmp 26),(6,.tmp 27),(10,.tmp 28)] rfl [(0,.int .i64 1),(1,.int .i64 (N:Int)),(3,.string s),(4,.agg PA),(5,.agg RA),(6,.agg FA),(10,.int .i64 t)] rfl _ (hbN.out _) ?_))
 with_reducible refine(hput.out _ hB.out).mono ?_
 clear hput
 rintro e w2 ⟨⟨v,rfl,hv,hq⟩,-⟩
 rcases hv with rfl|hv
 ·replace hq:=Hd hq
  clear c1
  go_wp2_with fail
  go_ret2
  exact⟨_,_,_,hB.out,rfl,⟨_,rfl⟩,.inl rfl,hq.out⟩
 ·have hnq:=hv.1.1
  have hgd:=hv.1.2
  replace hv:=Hd hv
  replace hq:=Hd hq
  clear c1
  go_wp2_with fail
  go_ret2
  exact⟨_,_,_,hB.out,rfl,⟨_,rfl⟩,.inr hv.out,hq.out⟩
end Go.Proofs.YtpdhceiodgnbmaaGreatDoor
