import Derived.Test.YtpdhceiodgnbmaaGreatDoorF0FollowsSaid
import Derived.Test.YtpdhceiodgnbmaaGreatDoorF1FollowsSaid
import Derived.Test.YtpdhceiodgnbmaaGreatDoorF38FollowsSaid
import Derived.Test.YtpdhceiodgnbmaaGreatDoorF39FollowsSaid
import Derived.Test.YtpdhceiodgnbmaaGreatDoorF3FollowsSaid
import Derived.Test.YtpdhceiodgnbmaaGreatDoorF13FollowsSaid
import Derived.Test.YtpdhceiodgnbmaaGreatDoorF22FollowsSaid
set_option linter.unusedVariables false
set_option linter.unusedSimpArgs false
set_option linter.unnecessarySimpa false
set_option maxRecDepth 100000
set_option maxHeartbeats 8000000
namespace Go.Proofs.YtpdhceiodgnbmaaGreatDoor
open Go.RowKit
theorem Nb(va:Value)(m:St)(x:Rc)(hx:x.Ok)(w:World)(ha:ArgS w va m)(l1:m.its.length<=1000)(l2:m.ens.length<=1000)(hub:∀ y∈m.its,y.u<=1000000/\y.r<=1000000)(hc:x.chk=0) :
  Calls Tryz.prog 14 #[va,.agg x.list.toArray] w (Zw (Zr m x).1 (Zr m x).2 w):=by
 have hcf:=Hd (Rc.kept0 x hx 54)
 have hck:=λW=>JR x hx W
 have hnum:=Ph (Rc.chk0 hc).2.1
 have hob0:0<=x.obj:=hnum.1.1
 have bK:=λ(h:x.kind=4)=>show Ru m x.obj (Zr m x) from by rw[Xc hc,if_neg oX,if_neg oX,if_pos h];exact PO m x hob0
 have bJ:=λ(h:x.kind=3)=>show Ng m x.obj x.id x.verdict x.tick (Zr m x) from by rw[Xc hc,if_neg oX,if_neg oX,if_neg oX];exact RY m x (hnum.2.2.2 h).2.1
 have bO:=λ(h:x.kind=1)=>show Nt m x.obj x.name x.it (Zr m x) from by rw[Xc hc,if_pos h];exact RX m x
 have bA:=λ(h:x.kind=2)=>show Td m x.obj x.id x.way x.index x.tick (Zr m x) from by rw[Xc hc,if_neg oX,if_pos h];exact Po m x hob0
 have hidJ:x.kind=2\/x.kind=3->0<=x.id:=λh=>by rcases h with h|h;exact((hnum.2.2.1 h).2.2).1;exact(hnum.2.2.2 h).2.1
 have hvo:inI x.verdict:=hx.verdict
 have hto:inI x.tick:=hx.tick
 have hbe:=λ(a b c d e:Int) W=>HT a b c d e W
 have hyO:=Hd (show (⟨x.id,x.obj,x.way,x.index,x.tick,0,0⟩:En).Ok from⟨hx.id,hx.obj,hx.way,hx.index,hx.tick,by show inI 0;decide,by show inI 0;decide⟩)
 have hk14:=(Rc.chk0 hc).1
 have hbd:=λW=>US x.it (Rc.it_ok hx) W
 have hsub:x.it.s=x.name/\x.it.n=x.obj/\x.it.p=x.p/\x.it.root=x.root/\x.it.file=x.file/\x.it.t=x.tick/\x.it.k=false/\x.it.u=0/\x.it.r=0:=⟨rfl,rfl,rfl,rfl,rfl,rfl,rfl,rfl,rfl⟩
 rw[hsub.1,hsub.2.1,hsub.2.2.1,hsub.2.2.2.1,hsub.2.2.2.2.1,hsub.2.2.2.2.2.1,hsub.2.2.2.2.2.2.1,hsub.2.2.2.2.2.2.2.1,hsub.2.2.2.2.2.2.2.2] at hbd
 have hIok:=Rc.it_ok hx
 have hsp:(x.list.drop 4).take 6=x.p.list:=Rc.sub_p x
 have hsr:(x.list.drop 10).take 32=cB x.root:=Rc.sub_root hx.root
 have hsf:(x.list.drop 42).take 32=cB x.file:=Rc.sub_file hx.root hx.file
 have hmR:=λ(W:World) (b:Nat) (h:W.heap[b]? = some (.cells x.list.toArray 54 (0,0)))=>(⟨Qb h hsp,Qb h hsr,Qb h hsf⟩:W.rangeAt b 4 x.p.list/\W.rangeAt b 10 (cB x.root)/\W.rangeAt b 42 (cB x.file))
 have ipp:(Tryz.prog.info? 52).map (·.size)=some x.p.list.length:=by rw[P6.len];kernel_rfl
 have ird:(Tryz.prog.info? 46).map (·.size)=some (cB x.root).length:=by rw[Zd,hx.root];kernel_rfl
 have ifd:(Tryz.prog.info? 46).map (·.size)=some (cB x.file).length:=by rw[Zd,hx.file];kernel_rfl
 obtain⟨IT,hIT⟩:∃ IT,IT=x.it:=⟨_,rfl⟩
 rw[<-hIT] at hbd hIok bO
 obtain⟨XI,hXI⟩:∃ XI,XI=IT.list.toArray:=⟨_,rfl⟩
 rw[<-hXI] at hbd
 have hXs:XI.size=76:=by rw[hXI,It.size hIok]
 have hsl:=λW=>QT (P:=Tryz.prog) (t:=33) Tryz.underlying33 Ja dX dX XI hXs W
 have hyN:=λ(W:World)=>(show RI W (λ_=>False) IT XI.toList from⟨by rw[hXI],hIok⟩)
 obtain⟨PA,hPA⟩:∃ PA,PA=x.p.list.toArray:=⟨_,rfl⟩
 obtain⟨RA,hRA⟩:∃ RA,RA=(cB x.root).toArray:=⟨_,rfl⟩
 obtain⟨FA,hFA⟩:∃ FA,FA=(cB x.file).toArray:=⟨_,rfl⟩
 rw[<-hPA,<-hRA,<-hFA] at hbd
 generalize x.p.list=PL at*
 generalize cB x.root=RL at*
 generalize cB x.file=FL at*
 obtain⟨fm,hfm⟩:∃ fm,fm=Zr m x:=⟨_,rfl⟩
 rw[<-hfm]
 rw[<-hfm] at bK bJ bO bA
 replace bK:=Hd bK
 replace bJ:=Hd bJ
 replace bO:=Hd bO
 replace bA:=Hd bA
 replace hidJ:=Hd hidJ
 replace hvo:=Hd hvo
 replace hto:=Hd hto
 replace hbe:=Hd hbe
 replace hk14:=Hd hk14
 replace hub:=Hd hub
 replace hbd:=Hd hbd
 replace hsl:=Hd hsl
 replace hyN:=Hd hyN
 replace hmR:=Hd hmR
 replace hPA:=Hd hPA
 replace hRA:=Hd hRA
 replace hFA:=Hd hFA
 replace hXI:=Hd hXI
 replace hIT:=Hd hIT
 replace hIok:=Hd hIok
 clear hsub hsp hsr hsf hXs
 clear hfm hnum
 obtain⟨⟨an,cn,av,cv,rfl,hN,hN1,hN2,hV,hV1,hV2⟩,okN,okV⟩:=ha
 obtain⟨N,hNl⟩:∃ N,N=m.its.length:=⟨_,rfl⟩
 obtain⟨V,hVl⟩:∃ V,V=m.ens.length:=⟨_,rfl⟩
 rw[<-hNl,<-hVl]
 have iR:(Tryz.prog.info? 54).map (·.size)=some x.list.toArray.size:=by rw[Rc.size hx];kernel_rfl
 have iO:(Tryz.prog.info? 36).map (·.size)=some (#[.slice none 0 0,.slice none 0 0]:Array Value).size:=kX
 generalize hRR:x.list.toArray=R at*
 obtain⟨aS,aR,aO,hs3,hB⟩:=Zq w #[.slice an N cn,.slice av V cv] R #[.slice none 0 0,.slice none 0 0] 36 54 36 _ rfl
 obtain⟨w3,hw3⟩:∃ w3,w3=((w.alloc (.cells #[.slice an N cn,.slice av V cv] 36)).alloc (.cells R 54)).alloc (.cells #[.slice none 0 0,.slice none 0 0] 36):=⟨_,rfl⟩
 have s0:=Za aS 0
 have s1:=Za aS 1
 obtain⟨q0,q1,q2,q3,q4,q5,q6,q7⟩:=hcf.out _ _ aR
 rw[<-hw3] at aS aR aO hB
 have hpost:Hid (∀ (n:Nat) W,Below w.heap.size w W->Zw ⟨[],[]⟩ n w (.returned (.tuple #[.agg #[.slice none 0 0,.slice none 0 0],.int .i64 (n:Int)])) W):=Hd (λn W h2=>⟨_,rfl,ZC W,h2,Zz _⟩)
 rw[hc] at hck
 have hrI:=λW (h:Below w.heap.size w W)=>hN.below h nR
 have hrE:=λW (h:Below w.heap.size w W)=>hV.below h nR
 have lenI:Hid (∀ y∈m.its,(It.list y).length=76):=Hd (λy hy=>It.list_length (okN y hy))
 have lenE:Hid (∀ y∈m.ens,(En.list y).length=7):=Hd (λy hy=>rfl)
 have oneI:Hid (∀ y∈m.its,∀ u∈It.list y,u.oneCell'=true):=Hd (λy _=>It.list_one y)
 have oneE:Hid (∀ y∈m.ens,∀ u∈En.list y,u.oneCell'=true):=Hd (λy _=>En.list_one y)
 clear hc hN hV hN1 hN2 hV1 hV2 hRR hs3
 replace l1:=Hd (show m.its.length<=1000000 by omega)
 replace l2:=Hd (show m.ens.length<=1000000 by omega)
 replace okN:=Hd okN
 replace okV:=Hd okV
 replace hrI:=Hd hrI
 replace hrE:=Hd hrE
 replace hNl:=Hd hNl
 replace hVl:=Hd hVl
 replace hob0:=Hd hob0
 generalize x.kind=kd at*
 generalize x.obj=vo at*
 generalize x.id=vi at*
 generalize x.way=vw at*
 generalize x.index=vx at*
 generalize x.verdict=vv at*
 generalize x.tick=vt at*
 generalize x.name=vn at*
 replace aS:=Hd aS
 replace aR:=Hd aR
 replace aO:=Hd aO
 replace hB:=Hd hB
 replace hw3:=Hd hw3
 replace hck:=Hd hck
 clear s0 s1 q0 q1 q2 q3 q4 q5 q6 q7
 go_enter Tryz.func14,Tryz.ntmps14
 go_wp2_with ((with_reducible refine wL (.load 54 (.tmp 3)) ?_);rw[<-hw3.out];refine Ze rfl 54 (.tmp 3) rfl (w.heap.size+1) R _ rfl aR Tryz.underlying54 rfl iR ?_)
 with_reducible refine(hck.out _).mono ?_
 rintro e w4 ⟨rfl,hb⟩
 replace aS:=Hd ((hb.block _ (Zb aS.out)).trans aS.out)
 replace aR:=Hd ((hb.block _ (Zb aR.out)).trans aR.out)
 replace aO:=Hd ((hb.block _ (Zb aO.out)).trans aO.out)
 replace hB:=Hd (hB.out.trans (hb.mono hB.out.size))
 clear hb
 have hltO:=Hd (Zb aO.out)
 have hlo:=Hd hB.out.size
 have k0:∀ W,Grown w4 W->W.cell? ⟨w.heap.size,0,none⟩=some (.slice an N cn):=λW h=>Za ((h.block _ (Zb aS.out)).trans aS.out) 0
 have k1:∀ W,Grown w4 W->W.cell? ⟨w.heap.size,1,none⟩=some (.slice av V cv):=λW h=>Za ((h.block _ (Zb aS.out)).trans aS.out) 1
 go_wp2_with fail
 have hd0:Hid (Grown w4 w4.drew):=Hd (Grown.drew (Grown.refl w4))
 go_cut [7] from 18 to 26 (λs7 wx=>∃ g vI vE,s7=.pointer (some ⟨g,0,none⟩)/\Cp21 m w4.heap.size wx g vI vE/\Grown w4 wx)
 case first=>
  refine wp_region_held_drew (S:=(Grown w4)) kX hd0.out (λhOn=>?_)
  generalize World.drew w4=wd at*
  refine tk 1 hOn ?_
  refine tk 2 hOn ?_
  refine tk 5 hOn ?_
  refine tk 6 hOn ?_
  repeat' first
   | exact AllReadyH.nil
   |
    first|refine acI 0 (λKz hKz=>?_) ?_|refine rdK 0 (λKz hKz=>?_)
    go_simp
    focus (try go_wp2_with fail)
    (with_reducible refine Z0 (t:=63) ?_)
    have hIg:=Hd hOn.size
    intro wI hIz hnew
    (try replace hEz:=Hd ((hnew.block _ (Zb hEz.out)).trans hEz.out))
    (try replace hZ:=Hd ((hnew.block _ (Zb hZ.out)).trans hZ.out))
    (try replace hoI:=Hd (hoI.out.below Zk hnew))
    (try replace hoE:=Hd (hoE.out.below Zj hnew))
    refine hKz.out _ _ (Below.trans hOn (Below.mono hnew (Below.size hOn))) ?_
    clear hKz Kz hOn
    intro hOn
    try clear hnew
    try simp only[Act.put,sL,sZ,sS]
   |
    first|refine acI 3 (λKz hKz=>?_) ?_|refine rdK 3 (λKz hKz=>?_)
    rw[if_pos (by rfl)]
    (refine Vz (a:=_) (base:=w4.heap.size) (.tmp 18) (.tmp 20) 33 rfl Tryz.underlying33 168 Ja dX rfl hNl.out.symm (Hd (hrI.out _ (hB.out.trans (hOn.mono hB.out.size)))) lenI oneI rfl hIz hIg.out l1.out dX ?_)
    intro vI wv ho hO hv
    have hS:=Below.trans hOn (hO.out.below (B:=w4.heap.size) hOn.size (λk hk=>hk▸hIg.out))
    (try replace hZ:=Hd (hO.out.heap hZ.out (X3 hZ.out hIz.out dX)))
    (try replace hEz:=Hd (hO.out.heap hEz.out (X3 hEz.out hIz.out dX)))
    (try replace hoE:=Hd (hoE.out.only Zj hO.out (λk hk=>hk.elim) (λk hk=>Yz hoE.out hk hIz.out dX)))
    have hoI:=Hd (YL (R:=RI) (λy hy=>⟨rfl,okN.out y hy⟩) ho.out)
    obtain⟨aI,cI,eI,-⟩:=hoI.out.form
    subst eI
    refine hKz.out _ _ hS ?_
    clear hKz Kz hOn hS
    intro hOn
    try simp only[Act.put]
   |
    first|refine acI 4 (λKz hKz=>?_) ?_|refine rdK 4 (λKz hKz=>?_)
    go_simp
    focus (try go_wp2_with fail)
    (with_reducible refine Z0 (t:=105) ?_)
    have hEg:=Hd hOn.size
    intro wE hEz hnew
    (try replace hIz:=Hd ((hnew.block _ (Zb hIz.out)).trans hIz.out))
    (try replace hZ:=Hd ((hnew.block _ (Zb hZ.out)).trans hZ.out))
    (try replace hoI:=Hd (hoI.out.below Zk hnew))
    (try replace hoE:=Hd (hoE.out.below Zj hnew))
    refine hKz.out _ _ (Below.trans hOn (Below.mono hnew (Below.size hOn))) ?_
    clear hKz Kz hOn
    intro hOn
    try clear hnew
    try simp only[Act.put,sL,sZ,sS]
   |
    first|refine acI 7 (λKz hKz=>?_) ?_|refine rdK 7 (λKz hKz=>?_)
    rw[if_pos (by rfl)]
    (refine Vz (a:=_) (base:=w4.heap.size) (.tmp 22) (.tmp 24) 34 rfl Tryz.underlying34 56 YP dX rfl hVl.out.symm (Hd (hrE.out _ (hB.out.trans (hOn.mono hB.out.size)))) lenE oneE rfl hEz hEg.out l2.out dX ?_)
    intro vE wv ho hO hv
    have hS:=Below.trans hOn (hO.out.below (B:=w4.heap.size) hOn.size (λk hk=>hk▸hEg.out))
    (try replace hZ:=Hd (hO.out.heap hZ.out (X3 hZ.out hEz.out dX)))
    (try replace hIz:=Hd (hO.out.heap hIz.out (X3 hIz.out hEz.out dX)))
    (try replace hoI:=Hd (hoI.out.only Zk hO.out (λk hk=>hk.elim) (λk hk=>Yz hoI.out hk hEz.out dX)))
    have hoE:=Hd (YL (R:=RE) (λy hy=>⟨rfl,okV.out y hy⟩) ho.out)
    obtain⟨aE,cE,eE,-⟩:=hoE.out.form
    subst eE
    refine hKz.out _ _ hS ?_
    clear hKz Kz hOn hS
    intro hOn
    try simp only[Act.put]
   |
    first|refine acI 9 (λKz hKz=>?_) ?_|refine rdK 9 (λKz hKz=>?_)
    go_simp
    focus (try go_wp2_with fail)
    (with_reducible refine Z0 (t:=36) ?_)
    have hZg:=Hd hOn.size
    intro wZ hZ hnew
    (try replace hIz:=Hd ((hnew.block _ (Zb hIz.out)).trans hIz.out))
    (try replace hEz:=Hd ((hnew.block _ (Zb hEz.out)).trans hEz.out))
    (try replace hoI:=Hd (hoI.out.below Zk hnew))
    (try replace hoE:=Hd (hoE.out.below Zj hnew))
    refine hKz.out _ _ (Below.trans hOn (Below.mono hnew (Below.size hOn))) ?_
    clear hKz Kz hOn
    intro hOn
    try clear hnew
    try simp only[Act.put,sL,sZ,sS]
   | refine tkK 8 hOn ?_
   | refine Qv [0,4,9] ?_
   | refine Qv [3,4,9] ?_
   | refine Qv [4,9] ?_
   | refine Qv [7,9] ?_
   | refine Qv [3,9] ?_
   | refine Qv [3,4] ?_
   | refine Qv [0,9] ?_
   | refine Qv [0,4] ?_
   | fail
  all_goals
   refine rd 10 (λKz hKz=>?_)
   rw[if_pos (by rfl)]
   (with_reducible refine Zl 36 (.tmp 7) (.tmp 26) rfl _ #[.slice none 0 0,.slice none 0 0] #[.slice aI m.its.length cI,.slice aE m.ens.length cE] rfl rfl hZ kX rfl (by simp[Value.oneCell']) ?_)
   intro w9 hU9
   have hS:=Below.trans hOn (hU9.out.below hZg.out)
   have hC:=Hd (Cp21.mk (m:=m) hU9.out.here hZg.out (hoI.out.only Zk (Only.ofUpd (D:=λk=>k=_) hU9.out rfl) (λk hk=>hk.elim) (λk hk=>Yz hoI.out hk hZ.out dX)) (hoE.out.only Zj (Only.ofUpd (D:=λk=>k=_) hU9.out rfl) (λk hk=>hk.elim) (λk hk=>Yz hoE.out hk hZ.out dX)))
   refine hKz.out _ _ hS ?_
   clear hKz Kz hOn hS
   intro hOn
   try simp only[Act.put]
   refine dnE ?_
  all_goals
   go_wp2_with fail
   go_meet
   exact⟨_,_,_,rfl,hC.out,hOn⟩
 case rest=>
  obtain⟨g7,vI,vE,rfl,hC,hg7⟩:=hcut
  replace aS:=Hd ((hg7.block _ (Zb aS.out)).trans aS.out)
  replace aR:=Hd ((hg7.block _ (Zb aR.out)).trans aR.out)
  replace aO:=Hd ((hg7.block _ (Zb aO.out)).trans aO.out)
  replace hB:=Hd (hB.out.trans (hg7.mono hB.out.size))
  have hav:=Hd (MI hC.ri hC.re dX)
  have aC:=Hd hC.at_
  have hgle:=Hd hC.le
  have hrN:=Hd hC.ri
  have hrV:=Hd hC.re
  obtain⟨x4,c4,hv4,hnil4,_,_,hlt4⟩:=hrN.out.form
  obtain⟨x5,c5,hv5,hnil5,_,_,hlt5⟩:=hrV.out.form
  subst hv4 hv5
  have hltV:=Hd (λk (hk:(Value.slice x5 m.ens.length c5).ownBlock=some k)=>hrV.out.ownLt k hk)
  have hltN:=Hd (λk (hk:(Value.slice x4 m.its.length c4).ownBlock=some k)=>hrN.out.ownLt k hk)
  have hnV:=Hd (λk (hk:(Value.slice x5 m.ens.length c5).ownBlock=some k)=>Yz hrV.out hk hC.at_ dX)
  have hnN:=Hd (λk (hk:(Value.slice x4 m.its.length c4).ownBlock=some k)=>Yz hrN.out hk hC.at_ dX)
  replace hnil4:=Hd hnil4
  replace hnil5:=Hd hnil5
  replace hlt4:=Hd hlt4
  replace hlt5:=Hd hlt5
  clear k0 k1 hC hg7 lenI lenE oneI oneE hck hd0
  obtain⟨C,hC⟩:∃ C:Array Value,C=#[.slice x4 m.its.length c4,.slice x5 m.ens.length c5]:=⟨_,rfl⟩
  rw[<-hC] at aC
  have iC:(Tryz.prog.info? 36).map (·.size)=some C.size:=by rw[hC];kernel_rfl
  have zC:(#[.slice none 0 0,.slice none 0 0]:Array Value).size=C.size:=by rw[hC];rfl
  have h1C:C.all (·.oneCell')=true:=by rw[hC];simp[Value.oneCell']
  have hC2:C.size=2:=by rw[hC];rfl
  have hkC:∀ (W:World) b,W.heap[b]? = some (.cells C 36 (0,0))->W.cell? ⟨b,0,none⟩=some (.slice x4 m.its.length c4)/\W.cell? ⟨b,1,none⟩=some (.slice x5 m.ens.length c5):=λW b h=>by
   rw[Za h,Za h,hC]
   exact⟨sX,sX⟩
  replace hC:=Hd hC
  replace hkC:=Hd hkC
  have s0:=Za aS.out 0
  have s1:=Za aS.out 1
  obtain⟨q0,q1,q2,q3,q4,q5,q6,q7⟩:=hcf.out _ _ aR.out
  obtain⟨y0,y1⟩:=hkC.out _ _ aC.out
  rcases(show kd=1\/kd=2\/kd=3\/kd=4 by have:=hk14.out;omega) with rfl|rfl|rfl|rfl
  ·skip
   obtain⟨f1,f2,f3,f4⟩:=bO.out rfl
   replace f1:=Hd f1
   replace f2:=Hd f2
   replace f3:=Hd f3
   replace f4:=Hd f4
   clear bK bJ bA bO
   have hB0:=Hd (Below.refl wc.heap.size wc)
   have hG0:=Hd hB.out
   have aSX:=aS
   have aRX:=aR
   have aOX:=aO
   have aCX:=aC
   have hRX:=Hd (hrI.out wc hB.out)
   have infoI:(Tryz.prog.info? 63).map (·.size)=some 76:=kX
   have hNb:N<=1000000:=by rw[hNl.out];exact l1.out
   clear y0 y1
   go_upto_region 8 with fail
   refine Z8 [(false,9),(true,1),(false,24),(true,11),(false,185)] _ [] (λU wr=>∃ k:Nat,k<=N/\U 34=.int .i64 (k:Nat)/\Below wc.heap.size wc wr/\∀ j (hj:j<m.its.length),j<k->m.its[j].s≠vn) (λU _=>N-(intOf (U 34)).toNat) ?_ ?_
   ·simp only[List.getD_cons_zero,List.getD_cons_succ]
    exact⟨0,Nat.zero_le _,rfl,Below.refl _ _,λj _ hj=>absurd hj (Nat.not_lt_zero _)⟩
   ·clear s0 s1 q0 q1 q2 q3 q4 q5 q6 q7
    intro U wr hrel KK hback l' hl'
    obtain⟨k,hk,h8,hbw,hle⟩:=hrel
    simp only[ZR,ZD,cond_true,cond_false,Nat.reduceAdd,h8] at hl'
    subst hl'
    replace h8:=Hd h8
    replace hle:=Hd hle
    have aS:=Hd ((hbw.block _ (Zb aSX.out)).trans aSX.out)
    have aR:=Hd ((hbw.block _ (Zb aRX.out)).trans aRX.out)
    have aO:=Hd ((hbw.block _ (Zb aOX.out)).trans aOX.out)
    have aC:=Hd ((hbw.block _ (Zb aCX.out)).trans aCX.out)
    have hB:=Hd (hG0.out.trans (hbw.mono hG0.out.size))
    by_cases hlt:k<N
    ·have hlt2:(k:Int)<(N:Int):=oX
     have hkN:k<m.its.length:=by rw[<-hNl.out];exact hlt
     obtain⟨b1,o1,rfl,hr1⟩:=hRX.out.below hbw nR k hkN
     have ox:=okN.out _ (List.getElem_mem hkN)
     have hhit:=λ(e:m.its[k].s=vn)=>f1.out k hkN e
     have hstep:=λ(e:m.its[k].s≠vn)=>show ∀ j (hj:j<m.its.length),j<k+1->m.its[j].s≠vn from λj hj hjk=>by
      by_cases hjk2:j<k
      ·exact hle.out j hj hjk2
      ·obtain rfl:j=k:=oX
       exact e
     generalize m.its[k]=y at*
     obtain⟨X,hX⟩:∃ X,X=y.list.toArray:=⟨_,rfl⟩
     have ix:(Tryz.prog.info? 63).map (·.size)=some y.list.length:=by rw[It.list_length ox];exact infoI
     have iX:(Tryz.prog.info? 63).map (·.size)=some X.size:=by rw[hX,It.size ox];exact infoI
     have zX:(Tryz.zeroCells63).size=X.size:=by rw[hX,It.size ox];kernel_rfl
     have h1X:X.all (·.oneCell')=true:=by rw[hX];exact It.all_one _
     have hkX:∀ (W:World) b,W.heap[b]? = some (.cells X 63 (0,0))->W.cell? ⟨b,1,none⟩=some (.string y.s):=λW b h=>by rw[Za h,hX,List.getElem?_toArray];exact y.c1
     have hZ4:=Hd (heap_alloc_new wr (.cells Tryz.zeroCells63 63))
     have hszw:=hbw.size
     have hue:(y.s.toList==vn.toList)=decide (y.s=vn):=Jn ..
     generalize y.s=ys at*
     replace hX:=Hd hX
     replace hr1:=Hd hr1
     replace hbw:=Hd hbw
     replace hhit:=Hd hhit
     replace hstep:=Hd hstep
     replace ox:=Hd ox
     replace hkX:=Hd hkX
     have s0:=Za aS.out 0
     obtain⟨q0,q1,q2,q3,q4,q5,q6,q7⟩:=hcf.out _ _ aR.out
     by_cases he:ys=vn
     ·have hfe:=Hd (hhit.out he)
      rw[decide_eq_true he] at hue
      replace he:=Hd he
      go_wp2_with (first
       | ((with_reducible refine wL (.load 63 (.tmp 36)) ?_);(refine wpList_load_mid rfl 63 (.tmp 36) rfl b1 (o1+k*76) rfl y.list _ hr1.out Tryz.underlying63 rfl ix ?_);rw[<-hX.out])
       | ((with_reducible refine wL (.store 63 (.tmp 9) _) ?_);(refine Zc rfl 63 (.tmp 9) (.tmp 37) rfl wr.heap.size _ X rfl rfl hZ4 iX zX h1X ?_);intro w5 hU5;have hb5:Below wr.heap.size wr w5:=(Below.alloc (Below.refl wr.heap.size wr) nR _).trans (hU5.out.below nR);have y5:=hkX.out _ _ hU5.out.here;replace aS:=Hd ((hb5.block _ (Zb aS.out)).trans aS.out);replace aR:=Hd ((hb5.block _ (Zb aR.out)).trans aR.out);replace aO:=Hd ((hb5.block _ (Zb aO.out)).trans aO.out);replace hB:=Hd (hB.out.trans (hb5.mono hB.out.size));clear s0 q0 q1 q2 q3 q4 q5 q6 q7;have s0:=Za aS.out 0;obtain⟨q0,q1,q2,q3,q4,q5,q6,q7⟩:=hcf.out _ _ aR.out)
       | ((with_reducible refine wL (.store 36 (.tmp 4) _) ?_);(refine Zc rfl 36 (.tmp 4) (.tmp 43) rfl (w.heap.size+2) #[.slice none 0 0,.slice none 0 0] #[.slice none 0 0,.slice none 0 0] rfl rfl aO iO rfl (by simp[Value.oneCell']) ?_);intro w9 hU9;have hS:=hB.out.trans (hU9.out.below oX);have hres:=Hd hU9.out.here))
      refine Zf rfl rfl Tryz.underlying36 rfl kX hres.out ?_
      show Zw fm.1 fm.2 w _ _
      rw[hfe.out]
      exact hpost.out 10 _ hS
     ·rw[decide_eq_false he] at hue
      replace he:=Hd he
      go_wp2_with (first
       | ((with_reducible refine wL (.load 63 (.tmp 36)) ?_);(refine wpList_load_mid rfl 63 (.tmp 36) rfl b1 (o1+k*76) rfl y.list _ hr1.out Tryz.underlying63 rfl ix ?_);rw[<-hX.out])
       | ((with_reducible refine wL (.store 63 (.tmp 9) _) ?_);(refine Zc rfl 63 (.tmp 9) (.tmp 37) rfl wr.heap.size _ X rfl rfl hZ4 iX zX h1X ?_);intro w5 hU5;have hb5:Below wr.heap.size wr w5:=(Below.alloc (Below.refl wr.heap.size wr) nR _).trans (hU5.out.below nR);have y5:=hkX.out _ _ hU5.out.here;replace aS:=Hd ((hb5.block _ (Zb aS.out)).trans aS.out);replace aR:=Hd ((hb5.block _ (Zb aR.out)).trans aR.out);replace aO:=Hd ((hb5.block _ (Zb aO.out)).trans aO.out);replace hB:=Hd (hB.out.trans (hb5.mono hB.out.size));clear s0 q0 q1 q2 q3 q4 q5 q6 q7;have s0:=Za aS.out 0;obtain⟨q0,q1,q2,q3,q4,q5,q6,q7⟩:=hcf.out _ _ aR.out))
      refine hback.out _ _ kX ?_ ?_
      ·simp only[List.getD_cons_zero,List.getD_cons_succ]
       exact⟨k+1,oX,by go_num,hbw.out.trans (hb5.mono hszw),hstep.out he.out⟩
      ·have h8:=h8.out
       simp only[List.getD_cons_zero,List.getD_cons_succ,h8,intOf]
       omega
    ·obtain rfl:k=N:=oX
     have hmiss:=λj (hj:j<m.its.length)=>hle.out j hj (by rw[hNl.out];exact hj)
     replace f2:=Hd (f2.out hmiss)
     replace f3:=Hd (f3.out hmiss)
     replace f4:=Hd (f4.out hmiss)
     replace hrN:=Hd (hrN.out.below Zk hbw)
     clear hback h8 hle hmiss f1
     have s0:=Za aS.out 0
     have s1:=Za aS.out 1
     obtain⟨q0,q1,q2,q3,q4,q5,q6,q7⟩:=hcf.out _ _ aR.out
     obtain⟨y0,y1⟩:=hkC.out _ _ aC.out
     by_cases h4:4<=m.its.length
     ·have hfe:=Hd (f2.out h4)
      have h4N:(4:Int)<=(k:Int):=by have:=hNl.out;omega
      clear h4
      go_wp2_with ((with_reducible refine wL (.store 36 (.tmp 4) _) ?_);(refine Zc rfl 36 (.tmp 4) (.tmp 49) rfl (w.heap.size+2) #[.slice none 0 0,.slice none 0 0] #[.slice none 0 0,.slice none 0 0] rfl rfl aO iO rfl (by simp[Value.oneCell']) ?_);intro w9 hU9;have hS:=hB.out.trans (hU9.out.below oX);have hres:=Hd hU9.out.here)
      refine Zf rfl rfl Tryz.underlying36 rfl kX hres.out ?_
      show Zw fm.1 fm.2 w _ _
      rw[hfe.out]
      exact hpost.out 12 _ hS
     replace h4:m.its.length<4:=oX
     have h4N:(k:Int)<4:=by have:=hNl.out;omega
     by_cases h5:vo=(k:Int)
     rotate_left
     ·have hfe:=Hd (f3.out h4 (by rw[<-hNl.out];exact h5))
      have hne:(vo != (k:Int))=true:=by simpa using h5
      clear h5 h4
      go_wp2_with ((with_reducible refine wL (.store 36 (.tmp 4) _) ?_);(refine Zc rfl 36 (.tmp 4) (.tmp 56) rfl (w.heap.size+2) #[.slice none 0 0,.slice none 0 0] #[.slice none 0 0,.slice none 0 0] rfl rfl aO iO rfl (by simp[Value.oneCell']) ?_);intro w9 hU9;have hS:=hB.out.trans (hU9.out.below oX);have hres:=Hd hU9.out.here)
      refine Zf rfl rfl Tryz.underlying36 rfl kX hres.out ?_
      show Zw fm.1 fm.2 w _ _
      rw[hfe.out]
      exact hpost.out 4 _ hS
     have hfe:=Hd (f4.out h4 (by rw[<-hNl.out];exact h5))
     have hne:(vo != (k:Int))=false:=by simpa using h5
     clear h5 h4
     have hF0:=Hd (show ∀ k:Nat,(λ_:Nat=>False) k->(λ_:Nat=>False) k from λ_ h=>h)
     have hln:m.its.length<=1000000:=l1.out
     have hgl:=Hd (Zb aC.out)
     have hlw:=Hd (show w4.heap.size<=wr.heap.size by have:=hgl.out;have:=hgle.out;omega)
     replace hrV:=Hd (hrV.out.below Zj hbw)
     obtain⟨m4,m10,m42⟩:=hmR.out _ _ aR.out
     replace m4:=Hd m4
     replace m10:=Hd m10
     replace m42:=Hd m42
     clear hbw hB0 hG0 hRX infoI aSX aRX aOX aCX
     go_wp2_with (first
      | ((with_reducible refine wL (.load 52 (.tmp 63)) ?_);(refine wpList_load_mid rfl 52 (.tmp 63) rfl (w.heap.size+1) 4 rfl PL _ m4.out Tryz.underlying52 rfl ipp ?_);rw[<-hPA.out])
      | ((with_reducible refine wL (.load 46 (.tmp 65)) ?_);(refine wpList_load_mid rfl 46 (.tmp 65) rfl (w.heap.size+1) 10 rfl RL _ m10.out Tryz.underlying46 rfl ird ?_);rw[<-hRA.out])
      | ((with_reducible refine wL (.load 46 (.tmp 67)) ?_);(refine wpList_load_mid rfl 46 (.tmp 67) rfl (w.heap.size+1) 42 rfl FL _ m42.out Tryz.underlying46 rfl ifd ?_);rw[<-hFA.out])
      | ((with_reducible refine wL (.build 63 _) ?_);refine ZM rfl 63 [(0,.tmp 60),(1,.tmp 62),(2,.tmp 64),(3,.tmp 66),(4,.tmp 68),(5,.tmp 70),(6,.const (.bool false)),(7,.const (.int .i64 0)),(8,.const (.int .i64 0))] rfl [(0,.int .i64 vo),(1,.string vn),(2,.agg PA),(3,.agg RA),(4,.agg FA),(5,.int .i64 vt),(6,.bool false),(7,.int .i64 0),(8,.int .i64 0)] rfl _ (hbd.out _) ?_)
      | ((with_reducible refine wL (.buildSlice _ _ _) ?_);refine Qh rfl 33 1 [(0,.tmp 71)] rfl [(0,.agg XI)] rfl _ _ (hsl.out _) ?_)
      | (at_builtin;refine Z9 (P:=Tryz.prog) (R:=RI) (e:=63) (size:=76) (base:=w4.heap.size) (F:=λ_=>False) (F':=λ_=>False) rfl Zk (.tmp 58) (.tmp 72) 33 rfl Tryz.underlying33 168 Ja dX rfl hrN IT XI (Hd (hyN.out wr)) hF0 (Hd (λ_ _ h=>h)) (Hd (λ_ h=>h.elim)) rfl hln dX hlw.out ?_;intro v9 w9 hr9 hO9 hM9;obtain⟨a9,n9,c9,hv9⟩:∃ a n c,v9=.slice a n c:=(by obtain⟨a,c,e,_⟩:=hr9.out.form;exact⟨a,_,c,e⟩);subst hv9;have h9:=Hd (hO9.out.heap aC.out (λe=>hnN.out _ e rfl)))
      | ((with_reducible refine wL (.store 33 (.tmp 74) _) ?_);(refine Qe rfl 33 36 (.tmp 74) (.tmp 73) rfl g7 0 C (.slice a9 n9 c9) rfl rfl h9 (by rw[hC2];decide) kX rfl ?_);intro w10 hU10;have hat10:=hU10.out.here;rw[hC.out] at hat10;obtain⟨CM,hCM⟩:∃ CM:Array Value,CM=#[.slice a9 n9 c9,.slice x5 m.ens.length c5]:=⟨_,rfl⟩;replace hat10:w10.heap[g7]? = some (.cells CM 36 (0,0)):=(by rw[hCM];simpa using hat10);have iM:(Tryz.prog.info? 36).map (·.size)=some CM.size:=(by rw[hCM];kernel_rfl);have zM:(#[.slice none 0 0,.slice none 0 0]:Array Value).size=CM.size:=(by rw[hCM];rfl);have h1M:CM.all (·.oneCell')=true:=(by rw[hCM];simp[Value.oneCell']);replace hat10:=Hd hat10;replace hCM:=Hd hCM;have aO10:Hid (w10.heap[w.heap.size+2]? = some (.cells #[.slice none 0 0,.slice none 0 0] 36 (0,0))):=Hd ((hU10.out.block _ (by have:=hltO.out;have:=hgle.out;omega)).trans (hO9.out.heap aO.out (λe=>by have:=(hltN.out _ e).1;have:=hltO.out;omega))))
      | ((with_reducible refine wL (.load 36 (.tmp 7)) ?_);refine Ze rfl 36 (.tmp 7) rfl g7 CM _ rfl hat10 Tryz.underlying36 rfl iM ?_)
      | ((with_reducible refine wL (.store 36 (.tmp 4) _) ?_);(refine Zc rfl 36 (.tmp 4) (.tmp 229) rfl (w.heap.size+2) _ CM rfl rfl aO10 iM zM h1M ?_);intro w11 hU11))
     have hO10:Only (λk=>k=g7) w9 w10:=Only.ofUpd hU10.out rfl
     have hO11:Only (λk=>k=w.heap.size+2) w10 w11:=Only.ofUpd hU11.out rfl
     have q1:=hltO.out
     have q2:=hgle.out
     have q3:=hgl.out
     have q4:=hlo.out
     have hrVX:=((hrV.out.only Zj hO9.out (λk hk=>hk.elim) (λk hk e=>hav.out k e hk)).only Zj hO10 (λk hk=>hk.elim) (λk hk e=>hnV.out k hk e)).only Zj hO11 (λk hk=>hk.elim) (λk hk e=>by have:=(hltV.out k hk).1;omega)
     have hrNX:=(hr9.out.only Zk hO10 (λk hk=>hk.elim) (λk hk e=>by
      rcases hM9.out k hk with h|h
      ·exact hnN.out k h e
      ·omega)).only Zk hO11 (λk hk=>hk.elim) (λk hk e=>by
      rcases hM9.out k hk with h|h
      ·have:=(hltN.out k h).1;omega
      ·omega)
     have hBX:=((hB.out.trans (hO9.out.below (B:=w.heap.size) hB.out.size (λk hk=>by have:=(hltN.out k hk).1;omega))).trans (hU10.out.below oX)).trans (hU11.out.below oX)
     refine Zf rfl rfl Tryz.underlying36 rfl iM hU11.out.here ?_
     rw[hCM.out]
     show Zw fm.1 fm.2 w _ _
     rw[hfe.out]
     exact⟨_,rfl,Q8 hrNX hrVX,hBX,Qy hrNX hrVX hlo.out hlo.out⟩
  ·skip
   have hid0:=Hd (hidJ.out (.inl rfl))
   obtain⟨f1,f2,f3,f4,f5,f4b,f5b⟩:=bA.out rfl
   replace f1:=Hd f1
   replace f2:=Hd f2
   by_cases hw:vw=2
   ·replace f3:=Hd (f3 hw)
    replace f4:=Hd (f4 hw)
    replace f5:=Hd (f5 hw)
    have hw2:(vw==2)=true:=by simpa using hw
    clear hw f4b f5b bK bJ bO bA
    by_cases h1:(N:Int)<=vo
    ·have hfe:=Hd (f1.out (by rw[<-hNl.out];exact h1))
     go_wp2_with ((with_reducible refine wL (.store 36 (.tmp 4) _) ?_);(refine Zc rfl 36 (.tmp 4) (.tmp 83) rfl (w.heap.size+2) #[.slice none 0 0,.slice none 0 0] #[.slice none 0 0,.slice none 0 0] rfl rfl aO iO rfl (by simp[Value.oneCell']) ?_);intro w9 hU9;have hS:=hB.out.trans (hU9.out.below oX);have hres:=Hd hU9.out.here)
     refine Zf rfl rfl Tryz.underlying36 rfl kX hres.out ?_
     show Zw fm.1 fm.2 w _ _
     rw[hfe.out]
     exact hpost.out 11 _ hS
    have hii:vo<(N:Int):=oX
    obtain⟨i,rfl⟩:∃ i:Nat,vo=(i:Int):=⟨vo.toNat,by have:=hob0.out;omega⟩
    have hi:i<m.its.length:=by rw[<-hNl.out];omega
    have hNN:=hNl.out
    subst hNN
    obtain⟨b,o,rfl,hr⟩:=hrI.out _ hB.out i hi
    have hyo:=okN.out _ (List.getElem_mem hi)
    have hyb:=hub.out _ (List.getElem_mem hi)
    have hr2:=Hd hr
    clear h1 hr
    have f2i:=Hd (f2.out i hi rfl)
    have f3i:=Hd (f3.out i hi rfl)
    have f4i:=Hd (f4.out i hi rfl)
    have f5i:=Hd (f5.out i hi rfl)
    clear f1 f2 f4 f5 f3
    have hget:m.its[i]? = some m.its[i]:=List.getElem?_eq_getElem hi
    generalize hy:m.its[i]=y at*
    obtain⟨X,hX⟩:∃ X,X=y.list.toArray:=⟨_,rfl⟩
    have ix:(Tryz.prog.info? 63).map (·.size)=some y.list.length:=by rw[It.list_length hyo];kernel_rfl
    have iX:(Tryz.prog.info? 63).map (·.size)=some X.size:=by rw[hX,It.size hyo];kernel_rfl
    have zX:(Tryz.zeroCells63).size=X.size:=by rw[hX,It.size hyo];kernel_rfl
    have h1X:X.all (·.oneCell')=true:=by rw[hX];exact It.all_one _
    have hkX:∀ (W:World) b,W.heap[b]? = some (.cells X 63 (0,0))->W.cell? ⟨b,3,none⟩=some (.int .i64 y.p.n)/\W.cell? ⟨b,73,none⟩=some (.bool y.k)/\W.cell? ⟨b,74,none⟩=some (.int .i64 y.u)/\W.cell? ⟨b,75,none⟩=some (.int .i64 y.r):=λW b h=>by
     rw[Za h,Za h,Za h,Za h,hX,List.getElem?_toArray,List.getElem?_toArray,List.getElem?_toArray,List.getElem?_toArray]
     exact⟨It.c3 y,It.c73 hyo,It.c74 hyo,It.c75 hyo⟩
    have hZ4:=Hd (heap_alloc_new wc (.cells Tryz.zeroCells63 63))
    replace hX:=Hd hX
    have hub1:inI (y.u+1):=by have:=hyo.u;exact⟨by have:=this.1;omega,oX⟩
    have hwr:IntKind.i64.wrap (y.u+1)=y.u+1:=IntWalk.i64_in _ (by have:=hyo.u;have:=this.1;omega)
    cases hkk:y.k with
    | false=>
     rw[hkk] at hkX
     have hfe:=Hd (f2i.out hkk)
     replace hkX:=Hd hkX
     go_wp2_with (first
      | ((with_reducible refine wL (.load 63 (.tmp 88)) ?_);(refine wpList_load_mid rfl 63 (.tmp 88) rfl b (o+i*76) rfl y.list _ hr2.out Tryz.underlying63 rfl ix ?_);rw[<-hX.out])
      | ((with_reducible refine wL (.store 63 (.tmp 10) _) ?_);(refine Zc rfl 63 (.tmp 10) (.tmp 89) rfl wc.heap.size _ X rfl rfl hZ4 iX zX h1X ?_);intro w5 hU5;have hb5:Below wc.heap.size wc w5:=(Below.alloc (Below.refl wc.heap.size wc) nR _).trans (hU5.out.below nR);obtain⟨z3,z73,z74,z75⟩:=hkX.out _ _ hU5.out.here;replace aS:=Hd ((hb5.block _ (Zb aS.out)).trans aS.out);replace aR:=Hd ((hb5.block _ (Zb aR.out)).trans aR.out);replace aO:=Hd ((hb5.block _ (Zb aO.out)).trans aO.out);replace aC:=Hd ((hb5.block _ (Zb aC.out)).trans aC.out);replace hB:=Hd (hB.out.trans (hb5.mono hB.out.size));clear s0 s1 q0 q1 q2 q3 q4 q5 q6 q7 y0 y1;have s0:=Za aS.out 0;have s1:=Za aS.out 1;obtain⟨q0,q1,q2,q3,q4,q5,q6,q7⟩:=hcf.out _ _ aR.out;obtain⟨y0,y1⟩:=hkC.out _ _ aC.out)
      | ((with_reducible refine wL (.store 36 (.tmp 4) _) ?_);(refine Zc rfl 36 (.tmp 4) (.tmp 93) rfl (w.heap.size+2) #[.slice none 0 0,.slice none 0 0] #[.slice none 0 0,.slice none 0 0] rfl rfl aO iO rfl (by simp[Value.oneCell']) ?_);intro w9 hU9;have hS:=hB.out.trans (hU9.out.below oX);have hres:=Hd hU9.out.here))
     refine Zf rfl rfl Tryz.underlying36 rfl kX hres.out ?_
     show Zw fm.1 fm.2 w _ _
     rw[hfe.out]
     exact hpost.out 13 _ hS
    | true=>
    rw[hkk] at hkX
    replace hkX:=Hd hkX
    by_cases hup:y.u<y.p.n
    rotate_left
    ·have hfe:=Hd (f3i.out hkk oX)
     have hup2:y.p.n<=y.u:=oX
     clear hup
     go_wp2_with (first
      | ((with_reducible refine wL (.load 63 (.tmp 88)) ?_);(refine wpList_load_mid rfl 63 (.tmp 88) rfl b (o+i*76) rfl y.list _ hr2.out Tryz.underlying63 rfl ix ?_);rw[<-hX.out])
      | ((with_reducible refine wL (.store 63 (.tmp 10) _) ?_);(refine Zc rfl 63 (.tmp 10) (.tmp 89) rfl wc.heap.size _ X rfl rfl hZ4 iX zX h1X ?_);intro w5 hU5;have hb5:Below wc.heap.size wc w5:=(Below.alloc (Below.refl wc.heap.size wc) nR _).trans (hU5.out.below nR);obtain⟨z3,z73,z74,z75⟩:=hkX.out _ _ hU5.out.here;replace aS:=Hd ((hb5.block _ (Zb aS.out)).trans aS.out);replace aR:=Hd ((hb5.block _ (Zb aR.out)).trans aR.out);replace aO:=Hd ((hb5.block _ (Zb aO.out)).trans aO.out);replace aC:=Hd ((hb5.block _ (Zb aC.out)).trans aC.out);replace hB:=Hd (hB.out.trans (hb5.mono hB.out.size));clear s0 s1 q0 q1 q2 q3 q4 q5 q6 q7 y0 y1;have s0:=Za aS.out 0;have s1:=Za aS.out 1;obtain⟨q0,q1,q2,q3,q4,q5,q6,q7⟩:=hcf.out _ _ aR.out;obtain⟨y0,y1⟩:=hkC.out _ _ aC.out)
      | ((with_reducible refine wL (.store 36 (.tmp 4) _) ?_);(refine Zc rfl 36 (.tmp 4) (.tmp 107) rfl (w.heap.size+2) #[.slice none 0 0,.slice none 0 0] #[.slice none 0 0,.slice none 0 0] rfl rfl aO iO rfl (by simp[Value.oneCell']) ?_);intro w9 hU9;have hS:=hB.out.trans (hU9.out.below oX);have hres:=Hd hU9.out.here))
     refine Zf rfl rfl Tryz.underlying36 rfl kX hres.out ?_
     show Zw fm.1 fm.2 w _ _
     rw[hfe.out]
     exact hpost.out 18 _ hS
    replace f4i:=Hd (f4i.out hkk hup)
    replace f5i:=Hd (f5i.out hkk hup)
    by_cases h3:vi=(V:Int)
    rotate_left
    ·have hfe:=Hd (f4i.out (.inl (by rw[<-hVl.out];exact h3)))
     have hne3:(vi != (V:Int))=true:=by simpa using h3
     clear h3
     go_wp2_with (first
      | ((with_reducible refine wL (.load 63 (.tmp 88)) ?_);(refine wpList_load_mid rfl 63 (.tmp 88) rfl b (o+i*76) rfl y.list _ hr2.out Tryz.underlying63 rfl ix ?_);rw[<-hX.out])
      | ((with_reducible refine wL (.store 63 (.tmp 10) _) ?_);(refine Zc rfl 63 (.tmp 10) (.tmp 89) rfl wc.heap.size _ X rfl rfl hZ4 iX zX h1X ?_);intro w5 hU5;have hb5:Below wc.heap.size wc w5:=(Below.alloc (Below.refl wc.heap.size wc) nR _).trans (hU5.out.below nR);obtain⟨z3,z73,z74,z75⟩:=hkX.out _ _ hU5.out.here;replace aS:=Hd ((hb5.block _ (Zb aS.out)).trans aS.out);replace aR:=Hd ((hb5.block _ (Zb aR.out)).trans aR.out);replace aO:=Hd ((hb5.block _ (Zb aO.out)).trans aO.out);replace aC:=Hd ((hb5.block _ (Zb aC.out)).trans aC.out);replace hB:=Hd (hB.out.trans (hb5.mono hB.out.size));clear s0 s1 q0 q1 q2 q3 q4 q5 q6 q7 y0 y1;have s0:=Za aS.out 0;have s1:=Za aS.out 1;obtain⟨q0,q1,q2,q3,q4,q5,q6,q7⟩:=hcf.out _ _ aR.out;obtain⟨y0,y1⟩:=hkC.out _ _ aC.out)
      | ((with_reducible refine wL (.store 36 (.tmp 4) _) ?_);(refine Zc rfl 36 (.tmp 4) (.tmp 120) rfl (w.heap.size+2) #[.slice none 0 0,.slice none 0 0] #[.slice none 0 0,.slice none 0 0] rfl rfl aO iO rfl (by simp[Value.oneCell']) ?_);intro w9 hU9;have hS:=hB.out.trans (hU9.out.below oX);have hres:=Hd hU9.out.here))
     refine Zf rfl rfl Tryz.underlying36 rfl kX hres.out ?_
     show Zw fm.1 fm.2 w _ _
     rw[hfe.out]
     exact hpost.out 4 _ hS
    have hne3:(vi != (V:Int))=false:=by simpa using h3
    by_cases h4:vx=y.u
    rotate_left
    ·have hfe:=Hd (f4i.out (.inr h4))
     have hne4:(vx != y.u)=true:=by simpa using h4
     clear h4
     go_wp2_with (first
      | ((with_reducible refine wL (.load 63 (.tmp 88)) ?_);(refine wpList_load_mid rfl 63 (.tmp 88) rfl b (o+i*76) rfl y.list _ hr2.out Tryz.underlying63 rfl ix ?_);rw[<-hX.out])
      | ((with_reducible refine wL (.store 63 (.tmp 10) _) ?_);(refine Zc rfl 63 (.tmp 10) (.tmp 89) rfl wc.heap.size _ X rfl rfl hZ4 iX zX h1X ?_);intro w5 hU5;have hb5:Below wc.heap.size wc w5:=(Below.alloc (Below.refl wc.heap.size wc) nR _).trans (hU5.out.below nR);obtain⟨z3,z73,z74,z75⟩:=hkX.out _ _ hU5.out.here;replace aS:=Hd ((hb5.block _ (Zb aS.out)).trans aS.out);replace aR:=Hd ((hb5.block _ (Zb aR.out)).trans aR.out);replace aO:=Hd ((hb5.block _ (Zb aO.out)).trans aO.out);replace aC:=Hd ((hb5.block _ (Zb aC.out)).trans aC.out);replace hB:=Hd (hB.out.trans (hb5.mono hB.out.size));clear s0 s1 q0 q1 q2 q3 q4 q5 q6 q7 y0 y1;have s0:=Za aS.out 0;have s1:=Za aS.out 1;obtain⟨q0,q1,q2,q3,q4,q5,q6,q7⟩:=hcf.out _ _ aR.out;obtain⟨y0,y1⟩:=hkC.out _ _ aC.out)
      | ((with_reducible refine wL (.store 36 (.tmp 4) _) ?_);(refine Zc rfl 36 (.tmp 4) (.tmp 120) rfl (w.heap.size+2) #[.slice none 0 0,.slice none 0 0] #[.slice none 0 0,.slice none 0 0] rfl rfl aO iO rfl (by simp[Value.oneCell']) ?_);intro w9 hU9;have hS:=hB.out.trans (hU9.out.below oX);have hres:=Hd hU9.out.here))
     refine Zf rfl rfl Tryz.underlying36 rfl kX hres.out ?_
     show Zw fm.1 fm.2 w _ _
     rw[hfe.out]
     exact hpost.out 4 _ hS
    have hne4:(vx != y.u)=false:=by simpa using h4
    have hfe:=Hd (f5i.out (by rw[<-hVl.out];exact h3) h4)
    clear h3 h4 f4i f5i
    obtain⟨g4,hg4⟩:∃ g4,x4=some ⟨g4,0,none⟩:=by
     cases x4 with
     | none=>have:=(hnil4.out rfl).2;omega
     | some ad=>
      obtain⟨b4,o4,s4⟩:=ad
      obtain⟨rfl,rfl,_⟩:=hlt4.out b4 o4 s4 rfl
      exact⟨b4,rfl⟩
    subst hg4
    have hset:=Hd (λ(W:World) (h:RowsOf RI 63 76 w4.heap.size W (λ_=>False) (.slice (some ⟨g4,0,none⟩) m.its.length c4) m.its)=>Qz (R:=RI) (enc:=It.list) (Ok:=It.Ok) (λ_ _ _ _=>Iff.rfl) (λ_ h=>It.list_length h) It.list_one dX h okN.out i 74 hi dX (.int .i64 (y.u+1)) rfl { y with u:=y.u+1 } (by rw[hy];exact It.set74 hyo _) ⟨hyo.n,hyo.s,hyo.p,hyo.root,hyo.file,hyo.t,hub1,hyo.r⟩)
    have hcq:=Hd (λ(W:World) (h:RowsOf RI 63 76 w4.heap.size W (λ_=>False) (.slice (some ⟨g4,0,none⟩) m.its.length c4) m.its)=>Ql (R:=RI) (enc:=It.list) (Ok:=It.Ok) (λ_ _ _ _=>Iff.rfl) Zk h i 74 hi (.int .i64 y.u) (by rw[hy];exact It.c74 hyo))
    obtain⟨NE,hNE⟩:∃ NE,NE=(⟨vi,(i:Int),vw,vx,vt,0,0⟩:En):=⟨_,rfl⟩
    rw[<-hNE] at hyO hfe
    obtain⟨XE,hXE⟩:∃ XE,XE=NE.list.toArray:=⟨_,rfl⟩
    have hbd2:=Hd (λW=>hbe.out vi (i:Int) vw vx vt W)
    rw[<-hNE,<-hXE] at hbd2
    have hXs:XE.size=7:=by rw[hXE];rfl
    have hsl:=Hd (λW=>QT (P:=Tryz.prog) (t:=34) Tryz.underlying34 YP dX dX XE hXs W)
    have hyE:=Hd (λ(W:World)=>(show RE W (λ_=>False) NE XE.toList from⟨by rw[hXE],hyO.out⟩))
    have i1i:(Tryz.prog.info? 3).map (·.size)=some 1:=kX
    have hg4l:=hltN.out g4 rfl
    have hg4n:=hnN.out g4 rfl
    have hF0:=Hd (show ∀ k:Nat,(λ_:Nat=>False) k->(λ_:Nat=>False) k from λ_ h=>h)
    have hln:m.ens.length<=1000000:=l2.out
    have hgl:=Hd (Zb aC.out)
    have hq2:=hgle.out
    have hq1:=hltO.out
    replace hNE:=Hd hNE
    replace hXE:=Hd hXE
    replace hy:=Hd hy
    replace hkk:=Hd hkk
    clear hXs
    go_wp2_with (first
     | ((with_reducible refine wL (.load 63 (.tmp 88)) ?_);(refine wpList_load_mid rfl 63 (.tmp 88) rfl b (o+i*76) rfl y.list _ hr2.out Tryz.underlying63 rfl ix ?_);rw[<-hX.out])
     | ((with_reducible refine wL (.store 63 (.tmp 10) _) ?_);(refine Zc rfl 63 (.tmp 10) (.tmp 89) rfl wc.heap.size _ X rfl rfl hZ4 iX zX h1X ?_);intro w5 hU5;have hb5:Below wc.heap.size wc w5:=(Below.alloc (Below.refl wc.heap.size wc) nR _).trans (hU5.out.below nR);obtain⟨z3,z73,z74,z75⟩:=hkX.out _ _ hU5.out.here;replace aS:=Hd ((hb5.block _ (Zb aS.out)).trans aS.out);replace aR:=Hd ((hb5.block _ (Zb aR.out)).trans aR.out);replace aO:=Hd ((hb5.block _ (Zb aO.out)).trans aO.out);replace aC:=Hd ((hb5.block _ (Zb aC.out)).trans aC.out);replace hB:=Hd (hB.out.trans (hb5.mono hB.out.size));clear s0 s1 q0 q1 q2 q3 q4 q5 q6 q7 y0 y1;have s0:=Za aS.out 0;have s1:=Za aS.out 1;obtain⟨q0,q1,q2,q3,q4,q5,q6,q7⟩:=hcf.out _ _ aR.out;obtain⟨y0,y1⟩:=hkC.out _ _ aC.out;replace hrN:=Hd (hrN.out.below Zk hb5);replace hrV:=Hd (hrV.out.below Zj hb5);have hlw:=Hd (show w4.heap.size<=w5.heap.size by have:=hgl.out;have:=hb5.size;omega);have hgl5:=Hd (Zb aC.out))
     | ((with_reducible refine wL (.build 105 _) ?_);refine ZM rfl 105 [(0,.tmp 124),(1,.tmp 126),(2,.tmp 128),(3,.tmp 130),(4,.tmp 132),(5,.const (.int .i64 0)),(6,.const (.int .i64 0))] rfl [(0,.int .i64 vi),(1,.int .i64 (i:Int)),(2,.int .i64 vw),(3,.int .i64 vx),(4,.int .i64 vt),(5,.int .i64 0),(6,.int .i64 0)] rfl _ (hbd2.out _) ?_)
     | ((with_reducible refine wL (.buildSlice _ _ _) ?_);refine Qh rfl 34 1 [(0,.tmp 133)] rfl [(0,.agg XE)] rfl _ _ (hsl.out _) ?_)
     | (at_builtin;refine Z9 (P:=Tryz.prog) (R:=RE) (e:=105) (size:=7) (base:=w4.heap.size) (F:=λ_=>False) (F':=λ_=>False) rfl Zj (.tmp 122) (.tmp 134) 34 rfl Tryz.underlying34 56 YP dX rfl hrV NE XE (Hd (hyE.out w5)) hF0 (Hd (λ_ _ h=>h)) (Hd (λ_ h=>h.elim)) rfl hln dX hlw.out ?_;intro v9 w9 hr9 hO9 hM9;obtain⟨a9,n9,c9,hv9⟩:∃ a n c,v9=.slice a n c:=(by obtain⟨a,c,e,_⟩:=hr9.out.form;exact⟨a,_,c,e⟩);subst hv9;have h9:=Hd (hO9.out.heap aC.out (λe=>hnV.out _ e rfl)))
     | ((with_reducible refine wL (.store 34 (.tmp 136) _) ?_);(refine Qe rfl 34 36 (.tmp 136) (.tmp 135) rfl g7 1 C (.slice a9 n9 c9) rfl rfl h9 (by rw[hC2];decide) kX rfl ?_);intro w10 hU10;have hat10:=hU10.out.here;rw[hC.out] at hat10;obtain⟨CM,hCM⟩:∃ CM:Array Value,CM=#[.slice (some ⟨g4,0,none⟩) m.its.length c4,.slice a9 n9 c9]:=⟨_,rfl⟩;replace hat10:w10.heap[g7]? = some (.cells CM 36 (0,0)):=(by rw[hCM];simpa using hat10);have iM:(Tryz.prog.info? 36).map (·.size)=some CM.size:=(by rw[hCM];kernel_rfl);have zM:(#[.slice none 0 0,.slice none 0 0]:Array Value).size=CM.size:=(by rw[hCM];rfl);have h1M:CM.all (·.oneCell')=true:=(by rw[hCM];simp[Value.oneCell']);have hO10:Only (λk=>k=g7) w9 w10:=Only.ofUpd hU10.out rfl;have hrN10:=(hrN.out.only Zk hO9.out (λk hk=>hk.elim) (λk hk e=>hav.out k hk e)).only Zk hO10 (λk hk=>hk.elim) (λk hk e=>hnN.out k hk e);have j0:w10.cell? ⟨g7,0,none⟩=some (.slice (some ⟨g4,0,none⟩) m.its.length c4):=(by rw[Za hat10,hCM];simp);have hcc:=hcq.out _ hrN10;have hce:=hcc.1;have aO10:Hid (w10.heap[w.heap.size+2]? = some (.cells #[.slice none 0 0,.slice none 0 0] 36 (0,0))):=Hd ((hU10.out.block _ oX).trans (hO9.out.heap aO.out (λe=>by have:=(hltV.out _ e).1;omega)));have aR10:=(hU10.out.block _ oX).trans (hO9.out.heap aR.out (λe=>by have:=(hltV.out _ e).1;omega));clear s0 s1 q0 q1 q2 q3 q4 q5 q6 q7 y0 y1 z3 z73 z74 z75;obtain⟨q0,q1,q2,q3,q4,q5,q6,q7⟩:=hcf.out _ _ aR10;replace hat10:=Hd hat10;replace hCM:=Hd hCM;replace hrN10:=Hd hrN10;replace hO10:=Hd hO10;have hfr:=hcc.2;replace hcc:=Hd hcc;clear aR10)
     | ((with_reducible refine wL (.store 3 (.tmp 149) _) ?_);(refine ZT rfl 3 (.tmp 149) (.tmp 147) rfl g4 (i*76+74) (.int .i64 (y.u+1)) rfl rfl (Hd ⟨_,hcc.out.1⟩) hcc.out.2 i1i rfl ?_);intro w12 hw12;have hO12:Only (λk=>k=g4) w10 w12:=(by rw[hw12.out];exact(Only.refl _ _).setCell _ _ (λ_=>rfl));have hrN12:=hset.out _ hrN10.out;rw[<-hw12.out] at hrN12;have aC12:=Hd (hO12.heap hat10.out (λe=>hg4n e.symm));have aO12:=Hd (hO12.heap aO10.out oX);replace hO12:=Hd hO12;replace hrN12:=Hd hrN12)
     | ((with_reducible refine wL (.load 36 (.tmp 7)) ?_);refine Ze rfl 36 (.tmp 7) rfl g7 CM _ rfl aC12 Tryz.underlying36 rfl iM ?_)
     | ((with_reducible refine wL (.store 36 (.tmp 4) _) ?_);(refine Zc rfl 36 (.tmp 4) (.tmp 229) rfl (w.heap.size+2) _ CM rfl rfl aO12 iM zM h1M ?_);intro w11 hU11))
    have hO11:Only (λk=>k=w.heap.size+2) w12 w11:=Only.ofUpd hU11.out rfl
    have q4:=hlo.out
    have q5:=hgl5.out
    have hrVX:=((hr9.out.only Zj hO10.out (λk hk=>hk.elim) (λk hk e=>by
     rcases hM9.out k hk with h|h
     ·exact hnV.out k h e
     ·omega)).only Zj hO12.out (λk hk=>hk.elim) (λk hk e=>by
     rcases hM9.out k hk with h|h
     ·exact hav.out g4 rfl (e▸h)
     ·have:=hb5.size;omega)).only Zj hO11 (λk hk=>hk.elim) (λk hk e=>by
     rcases hM9.out k hk with h|h
     ·have:=(hltV.out k h).1;omega
     ·omega)
    have hrNX:=hrN12.out.only Zk hO11 (λk hk=>hk.elim) (λk hk e=>by have:=(hltN.out k hk).1;omega)
    have hBX:=(((hB.out.trans (hO9.out.below (B:=w.heap.size) hB.out.size (λk hk=>by have:=(hltV.out k hk).1;omega))).trans (hU10.out.below oX)).trans (hO12.out.below (B:=w.heap.size) (by have:=hB.out.size;have:=hO9.out.size;have:=hU10.out.size;omega) (λk e=>by omega))).trans (hU11.out.below oX)
    refine Zf rfl rfl Tryz.underlying36 rfl iM hU11.out.here ?_
    rw[hCM.out]
    show Zw fm.1 fm.2 w _ _
    rw[hfe.out]
    exact⟨_,rfl,Q8 hrNX hrVX,hBX,Qy hrNX hrVX hlo.out hlo.out⟩
   ·replace f4:=Hd (f4b hw)
    replace f5:=Hd (f5b hw)
    have hw2:(vw==2)=false:=by simpa using hw
    clear hw f3 f4b f5b bK bJ bO bA
    by_cases h1:(N:Int)<=vo
    ·have hfe:=Hd (f1.out (by rw[<-hNl.out];exact h1))
     go_wp2_with ((with_reducible refine wL (.store 36 (.tmp 4) _) ?_);(refine Zc rfl 36 (.tmp 4) (.tmp 83) rfl (w.heap.size+2) #[.slice none 0 0,.slice none 0 0] #[.slice none 0 0,.slice none 0 0] rfl rfl aO iO rfl (by simp[Value.oneCell']) ?_);intro w9 hU9;have hS:=hB.out.trans (hU9.out.below oX);have hres:=Hd hU9.out.here)
     refine Zf rfl rfl Tryz.underlying36 rfl kX hres.out ?_
     show Zw fm.1 fm.2 w _ _
     rw[hfe.out]
     exact hpost.out 11 _ hS
    have hii:vo<(N:Int):=oX
    obtain⟨i,rfl⟩:∃ i:Nat,vo=(i:Int):=⟨vo.toNat,by have:=hob0.out;omega⟩
    have hi:i<m.its.length:=by rw[<-hNl.out];omega
    have hNN:=hNl.out
    subst hNN
    obtain⟨b,o,rfl,hr⟩:=hrI.out _ hB.out i hi
    have hyo:=okN.out _ (List.getElem_mem hi)
    have hyb:=hub.out _ (List.getElem_mem hi)
    have hr2:=Hd hr
    clear h1 hr
    have f2i:=Hd (f2.out i hi rfl)
    skip
    have f4i:=Hd (f4.out i hi rfl)
    have f5i:=Hd (f5.out i hi rfl)
    clear f1 f2 f4 f5 
    have hget:m.its[i]? = some m.its[i]:=List.getElem?_eq_getElem hi
    generalize hy:m.its[i]=y at*
    obtain⟨X,hX⟩:∃ X,X=y.list.toArray:=⟨_,rfl⟩
    have ix:(Tryz.prog.info? 63).map (·.size)=some y.list.length:=by rw[It.list_length hyo];kernel_rfl
    have iX:(Tryz.prog.info? 63).map (·.size)=some X.size:=by rw[hX,It.size hyo];kernel_rfl
    have zX:(Tryz.zeroCells63).size=X.size:=by rw[hX,It.size hyo];kernel_rfl
    have h1X:X.all (·.oneCell')=true:=by rw[hX];exact It.all_one _
    have hkX:∀ (W:World) b,W.heap[b]? = some (.cells X 63 (0,0))->W.cell? ⟨b,3,none⟩=some (.int .i64 y.p.n)/\W.cell? ⟨b,73,none⟩=some (.bool y.k)/\W.cell? ⟨b,74,none⟩=some (.int .i64 y.u)/\W.cell? ⟨b,75,none⟩=some (.int .i64 y.r):=λW b h=>by
     rw[Za h,Za h,Za h,Za h,hX,List.getElem?_toArray,List.getElem?_toArray,List.getElem?_toArray,List.getElem?_toArray]
     exact⟨It.c3 y,It.c73 hyo,It.c74 hyo,It.c75 hyo⟩
    have hZ4:=Hd (heap_alloc_new wc (.cells Tryz.zeroCells63 63))
    replace hX:=Hd hX
    have hub1:inI (y.r+1):=by have:=hyo.r;exact⟨by have:=this.1;omega,oX⟩
    have hwr:IntKind.i64.wrap (y.r+1)=y.r+1:=IntWalk.i64_in _ (by have:=hyo.r;have:=this.1;omega)
    cases hkk:y.k with
    | false=>
     rw[hkk] at hkX
     have hfe:=Hd (f2i.out hkk)
     replace hkX:=Hd hkX
     go_wp2_with (first
      | ((with_reducible refine wL (.load 63 (.tmp 88)) ?_);(refine wpList_load_mid rfl 63 (.tmp 88) rfl b (o+i*76) rfl y.list _ hr2.out Tryz.underlying63 rfl ix ?_);rw[<-hX.out])
      | ((with_reducible refine wL (.store 63 (.tmp 10) _) ?_);(refine Zc rfl 63 (.tmp 10) (.tmp 89) rfl wc.heap.size _ X rfl rfl hZ4 iX zX h1X ?_);intro w5 hU5;have hb5:Below wc.heap.size wc w5:=(Below.alloc (Below.refl wc.heap.size wc) nR _).trans (hU5.out.below nR);obtain⟨z3,z73,z74,z75⟩:=hkX.out _ _ hU5.out.here;replace aS:=Hd ((hb5.block _ (Zb aS.out)).trans aS.out);replace aR:=Hd ((hb5.block _ (Zb aR.out)).trans aR.out);replace aO:=Hd ((hb5.block _ (Zb aO.out)).trans aO.out);replace aC:=Hd ((hb5.block _ (Zb aC.out)).trans aC.out);replace hB:=Hd (hB.out.trans (hb5.mono hB.out.size));clear s0 s1 q0 q1 q2 q3 q4 q5 q6 q7 y0 y1;have s0:=Za aS.out 0;have s1:=Za aS.out 1;obtain⟨q0,q1,q2,q3,q4,q5,q6,q7⟩:=hcf.out _ _ aR.out;obtain⟨y0,y1⟩:=hkC.out _ _ aC.out)
      | ((with_reducible refine wL (.store 36 (.tmp 4) _) ?_);(refine Zc rfl 36 (.tmp 4) (.tmp 93) rfl (w.heap.size+2) #[.slice none 0 0,.slice none 0 0] #[.slice none 0 0,.slice none 0 0] rfl rfl aO iO rfl (by simp[Value.oneCell']) ?_);intro w9 hU9;have hS:=hB.out.trans (hU9.out.below oX);have hres:=Hd hU9.out.here))
     refine Zf rfl rfl Tryz.underlying36 rfl kX hres.out ?_
     show Zw fm.1 fm.2 w _ _
     rw[hfe.out]
     exact hpost.out 13 _ hS
    | true=>
    rw[hkk] at hkX
    replace hkX:=Hd hkX
    replace f4i:=Hd (f4i.out hkk)
    replace f5i:=Hd (f5i.out hkk)
    by_cases h3:vi=(V:Int)
    rotate_left
    ·have hfe:=Hd (f4i.out (.inl (by rw[<-hVl.out];exact h3)))
     have hne3:(vi != (V:Int))=true:=by simpa using h3
     clear h3
     go_wp2_with (first
      | ((with_reducible refine wL (.load 63 (.tmp 88)) ?_);(refine wpList_load_mid rfl 63 (.tmp 88) rfl b (o+i*76) rfl y.list _ hr2.out Tryz.underlying63 rfl ix ?_);rw[<-hX.out])
      | ((with_reducible refine wL (.store 63 (.tmp 10) _) ?_);(refine Zc rfl 63 (.tmp 10) (.tmp 89) rfl wc.heap.size _ X rfl rfl hZ4 iX zX h1X ?_);intro w5 hU5;have hb5:Below wc.heap.size wc w5:=(Below.alloc (Below.refl wc.heap.size wc) nR _).trans (hU5.out.below nR);obtain⟨z3,z73,z74,z75⟩:=hkX.out _ _ hU5.out.here;replace aS:=Hd ((hb5.block _ (Zb aS.out)).trans aS.out);replace aR:=Hd ((hb5.block _ (Zb aR.out)).trans aR.out);replace aO:=Hd ((hb5.block _ (Zb aO.out)).trans aO.out);replace aC:=Hd ((hb5.block _ (Zb aC.out)).trans aC.out);replace hB:=Hd (hB.out.trans (hb5.mono hB.out.size));clear s0 s1 q0 q1 q2 q3 q4 q5 q6 q7 y0 y1;have s0:=Za aS.out 0;have s1:=Za aS.out 1;obtain⟨q0,q1,q2,q3,q4,q5,q6,q7⟩:=hcf.out _ _ aR.out;obtain⟨y0,y1⟩:=hkC.out _ _ aC.out)
      | ((with_reducible refine wL (.store 36 (.tmp 4) _) ?_);(refine Zc rfl 36 (.tmp 4) (.tmp 120) rfl (w.heap.size+2) #[.slice none 0 0,.slice none 0 0] #[.slice none 0 0,.slice none 0 0] rfl rfl aO iO rfl (by simp[Value.oneCell']) ?_);intro w9 hU9;have hS:=hB.out.trans (hU9.out.below oX);have hres:=Hd hU9.out.here))
     refine Zf rfl rfl Tryz.underlying36 rfl kX hres.out ?_
     show Zw fm.1 fm.2 w _ _
     rw[hfe.out]
     exact hpost.out 4 _ hS
    have hne3:(vi != (V:Int))=false:=by simpa using h3
    by_cases h4:vx=y.r
    rotate_left
    ·have hfe:=Hd (f4i.out (.inr h4))
     have hne4:(vx != y.r)=true:=by simpa using h4
     clear h4
     go_wp2_with (first
      | ((with_reducible refine wL (.load 63 (.tmp 88)) ?_);(refine wpList_load_mid rfl 63 (.tmp 88) rfl b (o+i*76) rfl y.list _ hr2.out Tryz.underlying63 rfl ix ?_);rw[<-hX.out])
      | ((with_reducible refine wL (.store 63 (.tmp 10) _) ?_);(refine Zc rfl 63 (.tmp 10) (.tmp 89) rfl wc.heap.size _ X rfl rfl hZ4 iX zX h1X ?_);intro w5 hU5;have hb5:Below wc.heap.size wc w5:=(Below.alloc (Below.refl wc.heap.size wc) nR _).trans (hU5.out.below nR);obtain⟨z3,z73,z74,z75⟩:=hkX.out _ _ hU5.out.here;replace aS:=Hd ((hb5.block _ (Zb aS.out)).trans aS.out);replace aR:=Hd ((hb5.block _ (Zb aR.out)).trans aR.out);replace aO:=Hd ((hb5.block _ (Zb aO.out)).trans aO.out);replace aC:=Hd ((hb5.block _ (Zb aC.out)).trans aC.out);replace hB:=Hd (hB.out.trans (hb5.mono hB.out.size));clear s0 s1 q0 q1 q2 q3 q4 q5 q6 q7 y0 y1;have s0:=Za aS.out 0;have s1:=Za aS.out 1;obtain⟨q0,q1,q2,q3,q4,q5,q6,q7⟩:=hcf.out _ _ aR.out;obtain⟨y0,y1⟩:=hkC.out _ _ aC.out)
      | ((with_reducible refine wL (.store 36 (.tmp 4) _) ?_);(refine Zc rfl 36 (.tmp 4) (.tmp 120) rfl (w.heap.size+2) #[.slice none 0 0,.slice none 0 0] #[.slice none 0 0,.slice none 0 0] rfl rfl aO iO rfl (by simp[Value.oneCell']) ?_);intro w9 hU9;have hS:=hB.out.trans (hU9.out.below oX);have hres:=Hd hU9.out.here))
     refine Zf rfl rfl Tryz.underlying36 rfl kX hres.out ?_
     show Zw fm.1 fm.2 w _ _
     rw[hfe.out]
     exact hpost.out 4 _ hS
    have hne4:(vx != y.r)=false:=by simpa using h4
    have hfe:=Hd (f5i.out (by rw[<-hVl.out];exact h3) h4)
    clear h3 h4 f4i f5i
    obtain⟨g4,hg4⟩:∃ g4,x4=some ⟨g4,0,none⟩:=by
     cases x4 with
     | none=>have:=(hnil4.out rfl).2;omega
     | some ad=>
      obtain⟨b4,o4,s4⟩:=ad
      obtain⟨rfl,rfl,_⟩:=hlt4.out b4 o4 s4 rfl
      exact⟨b4,rfl⟩
    subst hg4
    have hset:=Hd (λ(W:World) (h:RowsOf RI 63 76 w4.heap.size W (λ_=>False) (.slice (some ⟨g4,0,none⟩) m.its.length c4) m.its)=>Qz (R:=RI) (enc:=It.list) (Ok:=It.Ok) (λ_ _ _ _=>Iff.rfl) (λ_ h=>It.list_length h) It.list_one dX h okN.out i 75 hi dX (.int .i64 (y.r+1)) rfl { y with r:=y.r+1 } (by rw[hy];exact It.set75 hyo _) ⟨hyo.n,hyo.s,hyo.p,hyo.root,hyo.file,hyo.t,hyo.u,hub1⟩)
    have hcq:=Hd (λ(W:World) (h:RowsOf RI 63 76 w4.heap.size W (λ_=>False) (.slice (some ⟨g4,0,none⟩) m.its.length c4) m.its)=>Ql (R:=RI) (enc:=It.list) (Ok:=It.Ok) (λ_ _ _ _=>Iff.rfl) Zk h i 75 hi (.int .i64 y.r) (by rw[hy];exact It.c75 hyo))
    obtain⟨NE,hNE⟩:∃ NE,NE=(⟨vi,(i:Int),vw,vx,vt,0,0⟩:En):=⟨_,rfl⟩
    rw[<-hNE] at hyO hfe
    obtain⟨XE,hXE⟩:∃ XE,XE=NE.list.toArray:=⟨_,rfl⟩
    have hbd2:=Hd (λW=>hbe.out vi (i:Int) vw vx vt W)
    rw[<-hNE,<-hXE] at hbd2
    have hXs:XE.size=7:=by rw[hXE];rfl
    have hsl:=Hd (λW=>QT (P:=Tryz.prog) (t:=34) Tryz.underlying34 YP dX dX XE hXs W)
    have hyE:=Hd (λ(W:World)=>(show RE W (λ_=>False) NE XE.toList from⟨by rw[hXE],hyO.out⟩))
    have i1i:(Tryz.prog.info? 3).map (·.size)=some 1:=kX
    have hg4l:=hltN.out g4 rfl
    have hg4n:=hnN.out g4 rfl
    have hF0:=Hd (show ∀ k:Nat,(λ_:Nat=>False) k->(λ_:Nat=>False) k from λ_ h=>h)
    have hln:m.ens.length<=1000000:=l2.out
    have hgl:=Hd (Zb aC.out)
    have hq2:=hgle.out
    have hq1:=hltO.out
    replace hNE:=Hd hNE
    replace hXE:=Hd hXE
    replace hy:=Hd hy
    replace hkk:=Hd hkk
    clear hXs
    go_wp2_with (first
     | ((with_reducible refine wL (.load 63 (.tmp 88)) ?_);(refine wpList_load_mid rfl 63 (.tmp 88) rfl b (o+i*76) rfl y.list _ hr2.out Tryz.underlying63 rfl ix ?_);rw[<-hX.out])
     | ((with_reducible refine wL (.store 63 (.tmp 10) _) ?_);(refine Zc rfl 63 (.tmp 10) (.tmp 89) rfl wc.heap.size _ X rfl rfl hZ4 iX zX h1X ?_);intro w5 hU5;have hb5:Below wc.heap.size wc w5:=(Below.alloc (Below.refl wc.heap.size wc) nR _).trans (hU5.out.below nR);obtain⟨z3,z73,z74,z75⟩:=hkX.out _ _ hU5.out.here;replace aS:=Hd ((hb5.block _ (Zb aS.out)).trans aS.out);replace aR:=Hd ((hb5.block _ (Zb aR.out)).trans aR.out);replace aO:=Hd ((hb5.block _ (Zb aO.out)).trans aO.out);replace aC:=Hd ((hb5.block _ (Zb aC.out)).trans aC.out);replace hB:=Hd (hB.out.trans (hb5.mono hB.out.size));clear s0 s1 q0 q1 q2 q3 q4 q5 q6 q7 y0 y1;have s0:=Za aS.out 0;have s1:=Za aS.out 1;obtain⟨q0,q1,q2,q3,q4,q5,q6,q7⟩:=hcf.out _ _ aR.out;obtain⟨y0,y1⟩:=hkC.out _ _ aC.out;replace hrN:=Hd (hrN.out.below Zk hb5);replace hrV:=Hd (hrV.out.below Zj hb5);have hlw:=Hd (show w4.heap.size<=w5.heap.size by have:=hgl.out;have:=hb5.size;omega);have hgl5:=Hd (Zb aC.out))
     | ((with_reducible refine wL (.build 105 _) ?_);refine ZM rfl 105 [(0,.tmp 124),(1,.tmp 126),(2,.tmp 128),(3,.tmp 130),(4,.tmp 132),(5,.const (.int .i64 0)),(6,.const (.int .i64 0))] rfl [(0,.int .i64 vi),(1,.int .i64 (i:Int)),(2,.int .i64 vw),(3,.int .i64 vx),(4,.int .i64 vt),(5,.int .i64 0),(6,.int .i64 0)] rfl _ (hbd2.out _) ?_)
     | ((with_reducible refine wL (.buildSlice _ _ _) ?_);refine Qh rfl 34 1 [(0,.tmp 133)] rfl [(0,.agg XE)] rfl _ _ (hsl.out _) ?_)
     | (at_builtin;refine Z9 (P:=Tryz.prog) (R:=RE) (e:=105) (size:=7) (base:=w4.heap.size) (F:=λ_=>False) (F':=λ_=>False) rfl Zj (.tmp 122) (.tmp 134) 34 rfl Tryz.underlying34 56 YP dX rfl hrV NE XE (Hd (hyE.out w5)) hF0 (Hd (λ_ _ h=>h)) (Hd (λ_ h=>h.elim)) rfl hln dX hlw.out ?_;intro v9 w9 hr9 hO9 hM9;obtain⟨a9,n9,c9,hv9⟩:∃ a n c,v9=.slice a n c:=(by obtain⟨a,c,e,_⟩:=hr9.out.form;exact⟨a,_,c,e⟩);subst hv9;have h9:=Hd (hO9.out.heap aC.out (λe=>hnV.out _ e rfl)))
     | ((with_reducible refine wL (.store 34 (.tmp 136) _) ?_);(refine Qe rfl 34 36 (.tmp 136) (.tmp 135) rfl g7 1 C (.slice a9 n9 c9) rfl rfl h9 (by rw[hC2];decide) kX rfl ?_);intro w10 hU10;have hat10:=hU10.out.here;rw[hC.out] at hat10;obtain⟨CM,hCM⟩:∃ CM:Array Value,CM=#[.slice (some ⟨g4,0,none⟩) m.its.length c4,.slice a9 n9 c9]:=⟨_,rfl⟩;replace hat10:w10.heap[g7]? = some (.cells CM 36 (0,0)):=(by rw[hCM];simpa using hat10);have iM:(Tryz.prog.info? 36).map (·.size)=some CM.size:=(by rw[hCM];kernel_rfl);have zM:(#[.slice none 0 0,.slice none 0 0]:Array Value).size=CM.size:=(by rw[hCM];rfl);have h1M:CM.all (·.oneCell')=true:=(by rw[hCM];simp[Value.oneCell']);have hO10:Only (λk=>k=g7) w9 w10:=Only.ofUpd hU10.out rfl;have hrN10:=(hrN.out.only Zk hO9.out (λk hk=>hk.elim) (λk hk e=>hav.out k hk e)).only Zk hO10 (λk hk=>hk.elim) (λk hk e=>hnN.out k hk e);have j0:w10.cell? ⟨g7,0,none⟩=some (.slice (some ⟨g4,0,none⟩) m.its.length c4):=(by rw[Za hat10,hCM];simp);have hcc:=hcq.out _ hrN10;have hce:=hcc.1;have aO10:Hid (w10.heap[w.heap.size+2]? = some (.cells #[.slice none 0 0,.slice none 0 0] 36 (0,0))):=Hd ((hU10.out.block _ oX).trans (hO9.out.heap aO.out (λe=>by have:=(hltV.out _ e).1;omega)));have aR10:=(hU10.out.block _ oX).trans (hO9.out.heap aR.out (λe=>by have:=(hltV.out _ e).1;omega));clear s0 s1 q0 q1 q2 q3 q4 q5 q6 q7 y0 y1 z3 z73 z74 z75;obtain⟨q0,q1,q2,q3,q4,q5,q6,q7⟩:=hcf.out _ _ aR10;replace hat10:=Hd hat10;replace hCM:=Hd hCM;replace hrN10:=Hd hrN10;replace hO10:=Hd hO10;have hfr:=hcc.2;replace hcc:=Hd hcc;clear aR10)
     | ((with_reducible refine wL (.store 3 (.tmp 159) _) ?_);(refine ZT rfl 3 (.tmp 159) (.tmp 157) rfl g4 (i*76+75) (.int .i64 (y.r+1)) rfl rfl (Hd ⟨_,hcc.out.1⟩) hcc.out.2 i1i rfl ?_);intro w12 hw12;have hO12:Only (λk=>k=g4) w10 w12:=(by rw[hw12.out];exact(Only.refl _ _).setCell _ _ (λ_=>rfl));have hrN12:=hset.out _ hrN10.out;rw[<-hw12.out] at hrN12;have aC12:=Hd (hO12.heap hat10.out (λe=>hg4n e.symm));have aO12:=Hd (hO12.heap aO10.out oX);replace hO12:=Hd hO12;replace hrN12:=Hd hrN12)
     | ((with_reducible refine wL (.load 36 (.tmp 7)) ?_);refine Ze rfl 36 (.tmp 7) rfl g7 CM _ rfl aC12 Tryz.underlying36 rfl iM ?_)
     | ((with_reducible refine wL (.store 36 (.tmp 4) _) ?_);(refine Zc rfl 36 (.tmp 4) (.tmp 229) rfl (w.heap.size+2) _ CM rfl rfl aO12 iM zM h1M ?_);intro w11 hU11))
    have hO11:Only (λk=>k=w.heap.size+2) w12 w11:=Only.ofUpd hU11.out rfl
    have q4:=hlo.out
    have q5:=hgl5.out
    have hrVX:=((hr9.out.only Zj hO10.out (λk hk=>hk.elim) (λk hk e=>by
     rcases hM9.out k hk with h|h
     ·exact hnV.out k h e
     ·omega)).only Zj hO12.out (λk hk=>hk.elim) (λk hk e=>by
     rcases hM9.out k hk with h|h
     ·exact hav.out g4 rfl (e▸h)
     ·have:=hb5.size;omega)).only Zj hO11 (λk hk=>hk.elim) (λk hk e=>by
     rcases hM9.out k hk with h|h
     ·have:=(hltV.out k h).1;omega
     ·omega)
    have hrNX:=hrN12.out.only Zk hO11 (λk hk=>hk.elim) (λk hk e=>by have:=(hltN.out k hk).1;omega)
    have hBX:=(((hB.out.trans (hO9.out.below (B:=w.heap.size) hB.out.size (λk hk=>by have:=(hltV.out k hk).1;omega))).trans (hU10.out.below oX)).trans (hO12.out.below (B:=w.heap.size) (by have:=hB.out.size;have:=hO9.out.size;have:=hU10.out.size;omega) (λk e=>by omega))).trans (hU11.out.below oX)
    refine Zf rfl rfl Tryz.underlying36 rfl iM hU11.out.here ?_
    rw[hCM.out]
    show Zw fm.1 fm.2 w _ _
    rw[hfe.out]
    exact⟨_,rfl,Q8 hrNX hrVX,hBX,Qy hrNX hrVX hlo.out hlo.out⟩
  ·skip
   have hid0:=Hd (hidJ.out (.inr rfl))
   obtain⟨f1,f2,f3,f4⟩:=bJ.out rfl
   replace f1:=Hd f1
   replace f2:=Hd f2
   replace f3:=Hd f3
   replace f4:=Hd f4
   clear bK bO bA bJ
   by_cases h1:(V:Int)<=vi
   ·have hfe:=Hd (f1.out (by rw[<-hVl.out];exact h1))
    go_wp2_with fail
    go_quiet (fail)
    have hbq:Below wc.heap.size wc (wc.drewN nq):=Drawn.below ⟨nq,rfl⟩ _
    replace aO:=Hd ((hbq.block _ (Zb aO.out)).trans aO.out)
    replace hB:=Hd (hB.out.trans (hbq.mono hB.out.size))
    clear hbq s0 s1 q0 q1 q2 q3 q4 q5 q6 q7 y0 y1 hltV hltN hnV hnN aR aS aC hrN hrV
    generalize wc.drewN nq=wq at*
    go_wp2_with ((with_reducible refine wL (.store 36 (.tmp 4) _) ?_);(refine Zc rfl 36 (.tmp 4) (.tmp 203) rfl (w.heap.size+2) #[.slice none 0 0,.slice none 0 0] #[.slice none 0 0,.slice none 0 0] rfl rfl aO iO rfl (by simp[Value.oneCell']) ?_);intro w9 hU9;have hS:=hB.out.trans (hU9.out.below oX);have hres:=Hd hU9.out.here)
    refine Zf rfl rfl Tryz.underlying36 rfl kX hres.out ?_
    show Zw fm.1 fm.2 w _ _
    rw[hfe.out]
    exact hpost.out 11 _ hS
   ·have hii:vi<(V:Int):=oX
    obtain⟨i,rfl⟩:∃ i:Nat,vi=(i:Int):=⟨vi.toNat,by have:=hid0.out;omega⟩
    have hi:i<m.ens.length:=by rw[<-hVl.out];omega
    have hVV:=hVl.out
    subst hVV
    obtain⟨b,o,rfl,hr⟩:=hrE.out _ hB.out i hi
    have hyo:=okV.out _ (List.getElem_mem hi)
    have k1:=hr 1 _ (rfl:(En.list m.ens[i])[1]? = some (.int .i64 m.ens[i].o))
    have hr2:=Hd hr
    clear h1 hr
    by_cases hoo:m.ens[i].o=vo
    rotate_left
    ·have hfe:=Hd (f2.out i hi rfl hoo)
     have hne:(m.ens[i].o != vo)=true:=by simpa using hoo
     clear hoo
     go_wp2_with fail
     go_quiet (fail)
     have hbq:Below wc.heap.size wc (wc.drewN nq):=Drawn.below ⟨nq,rfl⟩ _
     replace aO:=Hd ((hbq.block _ (Zb aO.out)).trans aO.out)
     replace hB:=Hd (hB.out.trans (hbq.mono hB.out.size))
     clear hbq s0 s1 q0 q1 q2 q3 q4 q5 q6 q7 y0 y1 hltV hltN hnV hnN k1 aR aS aC hrN hrV
     generalize wc.drewN nq=wq at*
     go_wp2_with ((with_reducible refine wL (.store 36 (.tmp 4) _) ?_);(refine Zc rfl 36 (.tmp 4) (.tmp 203) rfl (w.heap.size+2) #[.slice none 0 0,.slice none 0 0] #[.slice none 0 0,.slice none 0 0] rfl rfl aO iO rfl (by simp[Value.oneCell']) ?_);intro w9 hU9;have hS:=hB.out.trans (hU9.out.below oX);have hres:=Hd hU9.out.here)
     refine Zf rfl rfl Tryz.underlying36 rfl kX hres.out ?_
     show Zw fm.1 fm.2 w _ _
     rw[hfe.out]
     exact hpost.out 11 _ hS
    have hne:(m.ens[i].o != vo)=false:=by simpa using hoo
    go_wp2_with fail
    go_quiet (fail)
    have hbq:Below wc.heap.size wc (wc.drewN nq):=Drawn.below ⟨nq,rfl⟩ _
    replace aO:=Hd ((hbq.block _ (Zb aO.out)).trans aO.out)
    replace hB:=Hd (hB.out.trans (hbq.mono hB.out.size))
    replace aR:=Hd ((hbq.block _ (Zb aR.out)).trans aR.out)
    replace aS:=Hd ((hbq.block _ (Zb aS.out)).trans aS.out)
    replace aC:=Hd ((hbq.block _ (Zb aC.out)).trans aC.out)
    replace hrN:=Hd (hrN.out.below Zk hbq)
    replace hrV:=Hd (hrV.out.below Zj hbq)
    replace hr2:=Hd (Zs hr2.out hbq nR)
    clear hbq s0 s1 q0 q1 q2 q3 q4 q5 q6 q7 y0 y1 k1 hltV hltN hnV hnN
    generalize wc.drewN nq=wq at*
    have s0:=Za aS.out 0
    have s1:=Za aS.out 1
    obtain⟨q0,q1,q2,q3,q4,q5,q6,q7⟩:=hcf.out _ _ aR.out
    obtain⟨y0,y1⟩:=hkC.out _ _ aC.out
    have hltV:=Hd (λk (hk:(Value.slice x5 m.ens.length c5).ownBlock=some k)=>hrV.out.ownLt k hk)
    have hltN:=Hd (λk (hk:(Value.slice x4 m.its.length c4).ownBlock=some k)=>hrN.out.ownLt k hk)
    have hnV:=Hd (λk (hk:(Value.slice x5 m.ens.length c5).ownBlock=some k)=>Yz hrV.out hk aC.out dX)
    have hnN:=Hd (λk (hk:(Value.slice x4 m.its.length c4).ownBlock=some k)=>Yz hrN.out hk aC.out dX)
    have k5:=hr2.out 5 _ (rfl:(En.list m.ens[i])[5]? = some (.int .i64 m.ens[i].v))
    by_cases hv0:m.ens[i].v=0
    rotate_left
    ·have hfe:=Hd (f3.out i hi rfl hoo hv0)
     have hvv:(m.ens[i].v != 0)=true:=by simpa using hv0
     clear hoo hv0
     go_wp2_with ((with_reducible refine wL (.store 36 (.tmp 4) _) ?_);(refine Zc rfl 36 (.tmp 4) (.tmp 212) rfl (w.heap.size+2) #[.slice none 0 0,.slice none 0 0] #[.slice none 0 0,.slice none 0 0] rfl rfl aO iO rfl (by simp[Value.oneCell']) ?_);intro w9 hU9;have hS:=hB.out.trans (hU9.out.below oX);have hres:=Hd hU9.out.here)
     refine Zf rfl rfl Tryz.underlying36 rfl kX hres.out ?_
     show Zw fm.1 fm.2 w _ _
     rw[hfe.out]
     exact hpost.out 13 _ hS
    have hfe:=Hd (f4.out i hi rfl hoo hv0)
    have hvv:(m.ens[i].v != 0)=false:=by simpa using hv0
    clear hoo
    obtain⟨g5,hg5⟩:∃ g5,x5=some ⟨g5,0,none⟩:=by
     cases x5 with
     | none=>have:=(hnil5.out rfl).2;omega
     | some ad=>
      obtain⟨b4,o4,s4⟩:=ad
      obtain⟨rfl,rfl,_⟩:=hlt5.out b4 o4 s4 rfl
      exact⟨b4,rfl⟩
    subst hg5
    have hset:=Hd (λ(W:World) (h:RowsOf RE 105 7 w4.heap.size W (λ_=>False) (.slice (some ⟨g5,0,none⟩) m.ens.length c5) m.ens)=>Qz (R:=RE) (enc:=En.list) (Ok:=En.Ok) (λ_ _ _ _=>Iff.rfl) (λ_ h=>rfl) En.list_one dX h okV.out i 5 hi dX (.int .i64 vv) rfl { m.ens[i] with v:=vv } rfl ⟨hyo.1,hyo.2.1,hyo.2.2.1,hyo.2.2.2.1,hyo.2.2.2.2.1,hvo.out,hyo.2.2.2.2.2.2⟩)
    obtain⟨ens2,hens2⟩:∃ l,l=m.ens.set i { m.ens[i] with v:=vv }:=⟨_,rfl⟩
    rw[<-hens2] at hset
    have hi2:i<ens2.length:=by rw[hens2,List.length_set];exact hi
    have hg2:ens2[i]={ m.ens[i] with v:=vv }:=by simp[hens2]
    have ok2:∀ y∈ens2,y.Ok:=λy hy=>by
     rw[hens2] at hy
     rcases List.mem_or_eq_of_mem_set hy with hy|hy
     ·exact okV.out y hy
     ·rw[hy];exact⟨hyo.1,hyo.2.1,hyo.2.2.1,hyo.2.2.2.1,hyo.2.2.2.2.1,hvo.out,hyo.2.2.2.2.2.2⟩
    have hset2:=Hd (λ(W:World) (h:RowsOf RE 105 7 w4.heap.size W (λ_=>False) (.slice (some ⟨g5,0,none⟩) m.ens.length c5) ens2)=>Qz (R:=RE) (enc:=En.list) (Ok:=En.Ok) (λ_ _ _ _=>Iff.rfl) (λ_ h=>rfl) En.list_one dX h ok2 i 6 hi2 dX (.int .i64 vt) rfl { m.ens[i] with v:=vv,a:=vt } (by rw[hg2];rfl) ⟨hyo.1,hyo.2.1,hyo.2.2.1,hyo.2.2.2.1,hyo.2.2.2.2.1,hvo.out,hto.out⟩)
    have hend:ens2.set i { m.ens[i] with v:=vv,a:=vt }=m.ens.set i { m.ens[i] with v:=vv,a:=vt }:=by rw[hens2,List.set_set]
    rw[hend] at hset2
    have hcc2:=Hd (λ(W:World) (h:RowsOf RE 105 7 w4.heap.size W (λ_=>False) (.slice (some ⟨g5,0,none⟩) m.ens.length c5) ens2)=>Ql (R:=RE) (enc:=En.list) (Ok:=En.Ok) (λ_ _ _ _=>Iff.rfl) Zj h i 6 hi2 (.int .i64 m.ens[i].a) (by rw[hg2];rfl))
    replace hens2:=Hd hens2
    replace hi2:=Hd hi2
    replace hg2:=Hd hg2
    replace ok2:=Hd ok2
    replace hend:=Hd hend
    have i1b:(Tryz.prog.info? 3).map (·.size)=some 1:=kX
    have hg5l:=hltV.out g5 rfl
    have hg5n:=hnV.out g5 rfl
    go_wp2_with (first
     | ((with_reducible refine wL (.store 3 (.tmp 220) _) ?_);(have hcc:=Ql (R:=RE) (enc:=En.list) (Ok:=En.Ok) (λ_ _ _ _=>Iff.rfl) Zj hrV.out i 5 hi (.int .i64 m.ens[i].v) rfl);(refine ZT rfl 3 (.tmp 220) (.tmp 218) rfl g5 (i*7+5) (.int .i64 vv) rfl rfl (Hd ⟨_,hcc.1⟩) hcc.2 i1b rfl ?_);intro w8 hw8;have hO8:Only (λk=>k=g5) _ w8:=(by rw[hw8.out];exact(Only.refl _ _).setCell _ _ (λ_=>rfl));have hrV8:=hset.out _ hrV.out;rw[<-hw8.out] at hrV8;have aC8:=Hd (hO8.heap aC.out (λe=>hg5n e.symm));have aO8:=Hd (hO8.heap aO.out (by have:=hltO.out;omega));have aR8:=Hd (hO8.heap aR.out (by have:=hltO.out;omega));replace hO8:=Hd hO8;replace hrV8:=Hd hrV8;clear hcc s0 s1 q0 q1 q2 q3 q4 q5 q6 q7 y0 y1 k5;obtain⟨q0,q1,q2,q3,q4,q5,q6,q7⟩:=hcf.out _ _ aR8.out;obtain⟨y0,y1⟩:=hkC.out _ _ aC8.out)
     | ((with_reducible refine wL (.store 3 (.tmp 228) _) ?_);(have hcc:=hcc2.out _ hrV8.out);(refine ZT rfl 3 (.tmp 228) (.tmp 226) rfl g5 (i*7+6) (.int .i64 vt) rfl rfl (Hd ⟨_,hcc.1⟩) hcc.2 i1b rfl ?_);intro w10 hw10;have hO10:Only (λk=>k=g5) w8 w10:=(by rw[hw10.out];exact(Only.refl _ _).setCell _ _ (λ_=>rfl));have hrV10:=hset2.out _ hrV8.out;rw[<-hw10.out] at hrV10;have aC10:=Hd (hO10.heap aC8.out (λe=>hg5n e.symm));have aO10:=Hd (hO10.heap aO8.out (by have:=hltO.out;omega));replace hO10:=Hd hO10;replace hrV10:=Hd hrV10;clear hcc)
     | ((with_reducible refine wL (.load 36 (.tmp 7)) ?_);refine Ze rfl 36 (.tmp 7) rfl g7 C _ rfl aC10 Tryz.underlying36 rfl iC ?_)
     | ((with_reducible refine wL (.store 36 (.tmp 4) _) ?_);(refine Zc rfl 36 (.tmp 4) (.tmp 229) rfl (w.heap.size+2) _ C rfl rfl aO10 iC zC h1C ?_);intro w11 hU11))
    have hO11:Only (λk=>k=w.heap.size+2) w10 w11:=Only.ofUpd hU11.out rfl
    have hrNX:=((hrN.out.only Zk hO8.out (λk hk=>hk.elim) (λk hk e=>hav.out k hk (e▸rfl))).only Zk hO10.out (λk hk=>hk.elim) (λk hk e=>hav.out k hk (e▸rfl))).only Zk hO11 (λk hk=>hk.elim) (λk hk e=>by have:=(hltN.out k hk).1;have:=hltO.out;omega)
    have hrVX:=hrV10.out.only Zj hO11 (λk hk=>hk.elim) (λk hk e=>by have:=(hltV.out k hk).1;have:=hltO.out;omega)
    have hBX:=((hB.out.trans (hO8.out.below (B:=w.heap.size) hB.out.size (λk e=>by have:=hlo.out;omega))).trans (hO10.out.below (B:=w.heap.size) (by have:=hB.out.size;have:=hO8.out.size;omega) (λk e=>by have:=hlo.out;omega))).trans (hU11.out.below oX)
    refine Zf rfl rfl Tryz.underlying36 rfl iC hU11.out.here ?_
    rw[hC.out]
    show Zw fm.1 fm.2 w _ _
    rw[hfe.out]
    exact⟨_,rfl,Q8 hrNX hrVX,hBX,Qy hrNX hrVX hlo.out hlo.out⟩
  ·skip
   obtain⟨f1,f2,f3⟩:=bK.out rfl
   replace f1:=Hd f1
   replace f2:=Hd f2
   replace f3:=Hd f3
   clear bJ bO bA bK
   by_cases h1:(N:Int)<=vo
   ·have hfe:=Hd (f1.out (by rw[<-hNl.out];exact h1))
    go_wp2_with ((with_reducible refine wL (.store 36 (.tmp 4) _) ?_);(refine Zc rfl 36 (.tmp 4) (.tmp 168) rfl (w.heap.size+2) #[.slice none 0 0,.slice none 0 0] #[.slice none 0 0,.slice none 0 0] rfl rfl aO iO rfl (by simp[Value.oneCell']) ?_);intro w9 hU9;have hS:=hB.out.trans (hU9.out.below oX);have hres:=Hd hU9.out.here)
    refine Zf rfl rfl Tryz.underlying36 rfl kX hres.out ?_
    show Zw fm.1 fm.2 w _ _
    rw[hfe.out]
    exact hpost.out 11 _ hS
   ·have hii:vo<(N:Int):=oX
    obtain⟨i,rfl⟩:∃ i:Nat,vo=(i:Int):=⟨vo.toNat,by have:=hob0.out;omega⟩
    have hi:i<m.its.length:=by rw[<-hNl.out];omega
    have hNN:=hNl.out
    subst hNN
    obtain⟨b,o,rfl,hr⟩:=hrI.out _ hB.out i hi
    have hyo:=okN.out _ (List.getElem_mem hi)
    have hr2:=Hd hr
    clear h1
    have k73:=hr2.out 73 _ (It.c73 hyo)
    by_cases hkk:m.its[i].k=true
    ·have hfe:=Hd (f2.out i hi rfl hkk)
     rw[hkk] at k73
     go_wp2_with ((with_reducible refine wL (.store 36 (.tmp 4) _) ?_);(refine Zc rfl 36 (.tmp 4) (.tmp 176) rfl (w.heap.size+2) #[.slice none 0 0,.slice none 0 0] #[.slice none 0 0,.slice none 0 0] rfl rfl aO iO rfl (by simp[Value.oneCell']) ?_);intro w9 hU9;have hS:=hB.out.trans (hU9.out.below oX);have hres:=Hd hU9.out.here)
     refine Zf rfl rfl Tryz.underlying36 rfl kX hres.out ?_
     show Zw fm.1 fm.2 w _ _
     rw[hfe.out]
     exact hpost.out 13 _ hS
    have hkf:m.its[i].k=false:=by simpa using hkk
    have hfe:=Hd (f3.out i hi rfl hkf)
    rw[hkf] at k73
    clear hkk
    obtain⟨g4,hg4⟩:∃ g4,x4=some ⟨g4,0,none⟩:=by
     cases x4 with
     | none=>have:=(hnil4.out rfl).2;omega
     | some ad=>
      obtain⟨b4,o4,s4⟩:=ad
      obtain⟨rfl,rfl,_⟩:=hlt4.out b4 o4 s4 rfl
      exact⟨b4,rfl⟩
    subst hg4
    have hset:=Hd (Qz (R:=RI) (enc:=It.list) (Ok:=It.Ok) (λ_ _ _ _=>Iff.rfl) (λ_ h=>It.list_length h) It.list_one dX hrN.out okN.out i 73 hi dX (.bool true) rfl { m.its[i] with k:=true } (It.set73 hyo true) ⟨hyo.n,hyo.s,hyo.p,hyo.root,hyo.file,hyo.t,hyo.u,hyo.r⟩)
    have i1b:(Tryz.prog.info? 4).map (·.size)=some 1:=kX
    have hg4l:=hltN.out g4 rfl
    have hg4n:=hnN.out g4 rfl
    go_wp2_with (first
     | ((with_reducible refine wL (.store 4 (.tmp 182) _) ?_);(have hcc:=Ql (R:=RI) (enc:=It.list) (Ok:=It.Ok) (λ_ _ _ _=>Iff.rfl) Zk hrN.out i 73 hi _ (It.c73 hyo));(refine ZT rfl 4 (.tmp 182) (.const (.bool true)) rfl g4 (i*76+73) (.bool true) rfl rfl (Hd ⟨_,hcc.1⟩) hcc.2 i1b rfl ?_);intro w8 hw8;have hO8:Only (λk=>k=g4) _ w8:=(by rw[hw8.out];exact(Only.refl _ _).setCell _ _ (λ_=>rfl));have hrN8:=hset.out;rw[<-hw8.out] at hrN8;have aC8:=Hd (hO8.heap aC.out (λe=>hg4n e.symm));have aO8:=Hd (hO8.heap aO.out (by have:=hltO.out;omega));replace hO8:=Hd hO8;replace hrN8:=Hd hrN8;clear hcc)
     | ((with_reducible refine wL (.load 36 (.tmp 7)) ?_);refine Ze rfl 36 (.tmp 7) rfl g7 C _ rfl aC8 Tryz.underlying36 rfl iC ?_)
     | ((with_reducible refine wL (.store 36 (.tmp 4) _) ?_);(refine Zc rfl 36 (.tmp 4) (.tmp 229) rfl (w.heap.size+2) _ C rfl rfl aO8 iC zC h1C ?_);intro w11 hU11))
    have hO11:Only (λk=>k=w.heap.size+2) w8 w11:=Only.ofUpd hU11.out rfl
    have hrVX:=(hrV.out.only Zj hO8.out (λk hk=>hk.elim) (λk hk e=>hav.out g4 rfl (e▸hk))).only Zj hO11 (λk hk=>hk.elim) (λk hk e=>by have:=(hltV.out k hk).1;have:=hltO.out;omega)
    have hrNX:=hrN8.out.only Zk hO11 (λk hk=>hk.elim) (λk hk e=>by have:=(hltN.out k hk).1;have:=hltO.out;omega)
    have hBX:=(hB.out.trans (hO8.out.below (B:=w.heap.size) hB.out.size (λk e=>by have:=hlo.out;omega))).trans (hU11.out.below oX)
    refine Zf rfl rfl Tryz.underlying36 rfl iC hU11.out.here ?_
    rw[hC.out]
    show Zw fm.1 fm.2 w _ _
    rw[hfe.out]
    exact⟨_,rfl,Q8 hrNX hrVX,hBX,Qy hrNX hrVX hlo.out hlo.out⟩
end Go.Proofs.YtpdhceiodgnbmaaGreatDoor
