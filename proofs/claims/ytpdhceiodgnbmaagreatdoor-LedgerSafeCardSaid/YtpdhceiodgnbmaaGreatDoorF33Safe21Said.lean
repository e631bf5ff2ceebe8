import Derived.Test.YtpdhceiodgnbmaaGreatDoorF0Safe21Said
import Derived.Test.YtpdhceiodgnbmaaGreatDoorF1Safe21Said
import Derived.Test.YtpdhceiodgnbmaaGreatDoorF32Safe21Said
import Derived.Test.YtpdhceiodgnbmaaGreatDoorF19Safe21Said
import Derived.Deep.CutBlock
set_option linter.unusedVariables false
set_option linter.unusedSimpArgs false
set_option linter.unnecessarySimpa false
set_option maxRecDepth 100000
set_option maxHeartbeats 8000000
namespace Go.Proofs.YtpdhceiodgnbmaaGreatDoor
open Go.RowKit
set_option linter.unusedSimpArgs false
theorem SafeA.new60{armed:Bool}{l:Int}:SafeA { DP.new 60 with armed:=armed,l:=l } [] 0:=by
 refine⟨⟨⟨λ_=>rfl,λq hq=>absurd hq (by simp[DP.new])⟩,λi j e y hy=>⟨.inr ?_,λh=>absurd h (by simp[Zh])⟩,λq hq=>absurd hq (by simp[DP.new])⟩,?_,Nat.le_refl _,λr hr=>absurd hr sX,dX,rfl,rfl,λ_ _=>rfl⟩
 ·show zSec.getD y 0=0
  rw[List.getD_eq_getElem?_getD]
  cases hq:zSec[y]? with
  | none=>rfl
  | some u=>
   have hz:∀ u∈zSec,u=0:=dX
   exact hz u (List.mem_of_getElem? hq)
 ·exact NR 60
theorem Pk(a0:Option Addr)(c0:Nat)(xs:List ActL)(kept torn:Int)(sc:Nat)(power:Int)(w:World)(hA:ArgL w a0 xs)(hkt:inI kept)(htn:inI torn)(hsc:sc<18446744073709551616)(hpw:inI power)
  (e ea:Nat->Addr) (hE:DErr w e) (H:Errs 298 errGs w ea) (hK:ShaK w) (hF:ShaF w) (hRK:RefK w) (hRF:RefF w) :
  Calls Tryz.prog 5 #[.slice a0 xs.length c0,.agg #[.int .i64 kept,.int .i64 torn,.int .u64 (sc:Int)],.int .i64 power] w λx w'=>x=.returned (.bool true)/\Below w.heap.size w w':=by
 have hG1:Below w.heap.size w (w.alloc (.cells #[.int .i64 kept,.int .i64 torn,.int .u64 (sc:Int)] 71)):=bR.alloc nR _
 have hbx:=heap_alloc_new w (.cells #[.int .i64 kept,.int .i64 torn,.int .u64 (sc:Int)] 71 (0,0))
 obtain⟨w1,hw1⟩:∃ w1,w1=w.alloc (.cells #[.int .i64 kept,.int .i64 torn,.int .u64 (sc:Int)] 71):=⟨_,rfl⟩
 rw[<-hw1] at hG1
 have hbx1:w1.heap[w.heap.size]? = some (.cells #[.int .i64 kept,.int .i64 torn,.int .u64 (sc:Int)] 71 (0,0)):=by rw[hw1];exact hbx
 clear hbx
 have hal:=Hd (Ty w1 e (hE.below hG1) (hK.below hG1) (hF.below hG1) ea (H.below hG1))
 have hlg:∀ W,Below w.heap.size w W->Calls Tryz.prog 20 #[.slice a0 xs.length c0,.int .i64 30] W (DT W 30 xs):=λW hW=>Pe a0 c0 xs 30 dX W (hA.below hW)
 obtain⟨L,hL⟩:∃ L,L=xs.length:=⟨_,rfl⟩
 rw[<-hL] at hlg
 rw[<-hL]
 have hPb:=World.block_lt_of_cell? w _ hE.power
 simp only at hPb
 have hEnv:∀ W,Below w.heap.size w W->∀ B,w.heap.size<=B->EnvL B W e ea:=λW hW B hB=>⟨λW' hW'=>hE.below (hW.trans (hW'.mono hB)),λW' hW'=>⟨hK.below (hW.trans (hW'.mono hB)),hF.below (hW.trans (hW'.mono hB))⟩,λW' hW'=>H.below (hW.trans (hW'.mono hB)),oX⟩
 have hRef:∀ W,Below w.heap.size w W->RefK W/\RefF W/\ArgL W a0 xs:=λW hW=>⟨hRK.below hW,hRF.below hW,hA.below hW⟩
 replace hlg:=Hd hlg
 replace hw1:=Hd hw1
 replace hG1:=Hd hG1
 replace hbx1:=Hd hbx1
 replace hL:=Hd hL
 replace hEnv:=Hd hEnv
 replace hRef:=Hd hRef
 replace hA:=Hd hA
 clear hE H hK hF hRK hRF
 go_enter Tryz.func5,Tryz.ntmps5
 go_upto_region 1 with fail
 rw[<-hw1.out]
 go_wp2_with fail
 with_reducible refine hal.out.mono ?_
 clear hal hw1
 rintro x w2 ⟨rfl,hb2⟩
 have hb02:=Hd (hG1.out.trans (hb2.mono hG1.out.size))
 have hbx2:=Hd ((hb2.block _ (Zb hbx1.out)).trans hbx1.out)
 clear hb2 hbx1
 go_wp2_with fail
 with_reducible refine(hlg.out w2 hb02.out).mono ?_
 clear hlg
 rintro x w3 ⟨r,rfl,hr,hb3⟩
 have hb03:=Hd (hb02.out.trans (hb3.mono hb02.out.size))
 have hbx3:=Hd ((hb3.block _ (Zb hbx2.out)).trans hbx2.out)
 clear hb3 hbx2 hb02
 cases r with
 | true=>
  clear hr
  go_wp2_with fail
  go_ret
  exact⟨rfl,hb03.out⟩
 | false=>
  obtain⟨hL30,hnm⟩:=hr rfl
  rw[<-hL.out] at hL30
  clear hr
  have hw03:=hb03.out.size
  have hE3:=hEnv.out w3 hb03.out w3.heap.size hw03
  have hfr:Calls Tryz.prog 21 #[.int .i64 60] w3 (GY w3 60):=UT 60 w3 dX dX e (hE3.d w3 bR) (hE3.s w3 bR).1 (hE3.s w3 bR).2 ea (hE3.h w3 bR)
  replace hfr:=Hd hfr
  replace hnm:=Hd hnm
  replace hE3:=Hd hE3
  go_wp2_with fail
  with_reducible refine hfr.out.mono ?_
  clear hfr
  rintro x w5 ⟨l,V,rfl,hL5,hmn5,hb5⟩
  obtain⟨base,hbase⟩:∃ base,base=w3.heap.size:=⟨_,rfl⟩
  rw[<-hbase] at hL5 hb5 hE3
  obtain⟨B,hB⟩:∃ B,B=V.B:=⟨_,rfl⟩
  rw[<-hB]
  obtain⟨pm,hpm⟩:∃ pm,pm=power.tmod 60:=⟨_,rfl⟩
  have hE5:=hE3.out.below hb5
  have harm:=LA hL5.jd.dm pm e (hE5.d w5 bR)
  rw[<-hB] at harm
  have hrem:power.tmod 60=pm:=hpm.symm
  replace hbase:=Hd hbase
  replace hL5:=Hd hL5
  replace hb5:=Hd hb5
  replace hB:=Hd hB
  clear hE5
  go_upto_region 6 with fail
  go_cut [49] from 33 to 49 (λs49 wx=>s49=.bool false/\Below base w3 wx/\∃ V' a l',V'.B=B/\V'.mn<=20000/\LdM base wx l V' ⟨{ DP.new 60 with armed:=a,l:=l' },[],0,false,0,[],⟨[],[]⟩⟩/\0<=l'/\l'<=100)
  case first=>
   by_cases hp0:0<=power
   ·have hp1:0<=pm:=by rw[hpm];exact Int.tmod_nonneg _ hp0
    have hp2:pm<60:=by rw[hpm];exact Int.tmod_lt_of_pos _ dX
    have harm2:(DP.new 60).arm pm=({ DP.new 60 with armed:=true,l:=pm },0):=by unfold DP.arm;rw[if_neg oX];rfl
    rw[show (LP.new 60).p=DP.new 60 from rfl,harm2] at harm
    replace harm:=Hd harm
    clear harm2 hpm
    go_wp2_with fail
    with_reducible refine harm.out.mono ?_
    rintro x w6 ⟨rfl,hst⟩
    simp only[Xc]
    rw[hB.out] at hst
    have hst6:=hL5.out.journal (JStep.disk hL5.out.jd hst)
    have hb6:=Hd (hb5.out.trans (hst6.below hL5.out (by have:=hbase.out;have:=hb5.out.size;omega)))
    have hL6:=Hd hst6.ok
    clear hst hst6
    go_wp2_with fail
    go_meet
    exact⟨rfl,hb6.out,_,true,pm,hB.out.symm,hmn5,hL6.out,hp1,oX⟩
   ·clear harm hpm
    go_wp2_with fail
    go_meet
    exact⟨rfl,hb5.out,V,false,0,hB.out.symm,hmn5,hL5.out,dX,dX⟩
  case rest=>
   obtain⟨rfl,hb6,V6,ar,lf,hVB6,hmn6,hL6,hl0,hl1⟩:=hcut
   generalize wc=wA at*
   have hS0:=SafeA.new60 (armed:=ar) (l:=lf)
   clear harm hrem hpm hL5 hmn5 hb5
   have zA:Hid ((Tryz.zeroCells80).size=81):=Hd kX
   have iA:(Tryz.prog.info? 80).map (·.size)=some 81:=kX
   obtain⟨w7,hw7⟩:∃ w7,w7=wA.alloc (.cells Tryz.zeroCells80 80):=⟨_,rfl⟩
   have hG7:Below wA.heap.size wA w7:=by rw[hw7];exact bR.alloc nR _
   have hN7:w7.heap[wA.heap.size]? = some (.cells Tryz.zeroCells80 80 (0,0)):=by rw[hw7];exact heap_alloc_new wA _
   have hL7:=hL6.below hG7
   have hbN:¬LdD l V6 wA.heap.size:=λhd=>by have:=(hL6.lt _ hd).2;omega
   have hstt:=Hd (Xe hL7 (by show 0<=1000;decide) (by show 0<=1000;decide))
   have hbw7:base<=w7.heap.size:=by have:=hL7.lt l (.inl rfl);omega
   have hbwc:base<=wA.heap.size:=by have:=hL6.lt l (.inl rfl);omega
   have hb7:=Hd (hb6.trans (hG7.mono hbwc))
   have hs7:=hG7.size
   have hs7':=Hd (show w7.heap.size=wA.heap.size+1 by rw[hw7];simp)
   replace hL7:=Hd hL7
   replace hN7:=Hd hN7
   replace hw7:=Hd hw7
   replace hS0:=Hd hS0
   replace hbN:=Hd hbN
   clear hL6 hb6 hG7
   go_upto_region 9 with fail
   rw[<-hw7.out]
   go_wp2_with fail
   with_reducible refine hstt.out.mono ?_
   clear hstt
   rintro x w8 ⟨v8,v8',rfl,hrI,hrE,hb8⟩
   obtain⟨a8,c8,hv8,-⟩:=hrI.form
   replace hv8:v8=.slice a8 0 c8:=hv8
   subst hv8
   obtain⟨a8',c8',hv8',-⟩:=hrE.form
   replace hv8':v8'=.slice a8' 0 c8':=hv8'
   subst hv8'
   have hL8:=Hd (hL7.out.below hb8)
   have hN8:=Hd ((hb8.block _ (Zb hN7.out)).trans hN7.out)
   have hb8w:=Hd (hb7.out.trans (hb8.mono hbw7))
   have hZ8:=Hd (heap_alloc_new w8 (.cells #[.slice none 0 0,.slice none 0 0] 28))
   have i8:(Tryz.prog.info? 28).map (·.size)=some (#[.slice a8 0 c8,.slice a8' 0 c8']:Array Value).size:=kX
   have hs8:=hb8.size
   have hne8:=Hd (show wA.heap.size<w8.heap.size by have:=Zb hN7.out;omega)
   replace hrI:=Hd hrI
   replace hrE:=Hd hrE
   replace hb8:=Hd hb8
   go_upto_block 0 with ((with_reducible refine wL (.store 28 (.tmp 10) _) ?_);(refine Zc rfl 28 (.tmp 10) (.tmp 51) rfl w8.heap.size _ #[.slice a8 0 c8,.slice a8' 0 c8'] rfl rfl hZ8 i8 rfl c5X ?_);intro w9 hU9)
   have hG89:Below w8.heap.size w8 w9:=(Below.alloc (Below.refl w8.heap.size w8) nR _).trans (hU9.out.below nR)
   have hL9:=hL8.out.below hG89
   have hN9:=(hG89.block _ (Zb hN8.out)).trans hN8.out
   have hb9:=hb8w.out.trans (hG89.mono oX)
   have hbx9:SBox w9 l V6 w8.heap.size (wA.heap.size+1) ⟨[],[]⟩:=by
    have hfr:=XQ hrI.out hrE.out nR nR
    obtain⟨q4,d4,e4,r4,r4a,r4b,ok4⟩:=Ge hrI.out
    obtain⟨q5,d5,e5,r5,r5a,r5b,ok5⟩:=Gg hrE.out
    cases e4
    cases e5
    have hA8:ArgS w8 (.agg #[.slice a8 0 c8,.slice a8' 0 c8']) ⟨[],[]⟩:=⟨⟨a8,c8,a8',c8',rfl,r4,r4a,r4b,r5,r5a,r5b⟩,ok4,ok5⟩
    have hsd:=λk hk=>hfr.sd hA8 k hk
    have hsl:=λk hk=>hA8.sd_lt k hk
    exact⟨⟨_,_,hU9.out.here,hA8.below hG89 nR,λk hk=>⟨λhd=>by have:=(hL7.out.lt k hd).2;have:=hsd k hk;omega,by have:=hsl k hk;omega,by have:=hsd k hk;have:=hs7'.out;omega⟩⟩,λhd=>by have:=(hL7.out.lt _ hd).2;omega⟩
   have hlp:SLp base w3 w9 l B w8.heap.size wA.heap.size 0 (.int .i64 0):=by
    refine⟨⟨V6,_,[],hL9,hVB6,⟨rfl,rfl,trivial,rfl,rfl,rfl,Nat.zero_le _⟩,hS0.out,rfl,rfl,hbx9,⟨_,zA.out,hN9⟩,hbN.out,rfl,oX,?_,hl1,Nat.zero_le _⟩,hb9⟩
    show -(435*(0:Int))<=lf
    omega
   replace hlp:=Hd hlp
   clear hS0 hL9 hN9 hb9 hbx9 hL8 hN8 hb8w hZ8 i8 hrI hrE hb8 hL7 hN7 hbN hb7 hG89
   go_cut [11] from 54 (λs11 wx=>SLe base w3 wx l B w8.heap.size wA.heap.size s11)
   case first=>
    go_wp2_with fail
    refine Z8 [(false,11),(true,1),(false,1),(true,1),(false,40),(true,17),(false,87)] _ [] (λU wr=>∃ k:Nat,k<=L/\U 54=.int .i64 (k:Nat)/\SLp base w3 wr l B w8.heap.size wA.heap.size k (U 11)) (λU _=>L-(intOf (U 54)).toNat) ?_ ?_
    ·simp only[List.getD_cons_zero,List.getD_cons_succ]
     exact⟨0,Nat.zero_le _,rfl,hlp.out⟩
    ·clear hlp
     intro U wr hrel KK hback l' hl'
     obtain⟨k,hk,h56,hlp⟩:=hrel
     simp only[ZU,ZG,cond_true,cond_false,Nat.reduceAdd,h56] at hl'
     generalize hu10:U 11=u10 at*
     subst hl'
     replace h56:=Hd h56
     replace hu10:=Hd hu10
     by_cases hlt:k<L
     ·have hlt2:(k:Int)<(L:Int):=oX
      have hkl:k<xs.length:=by rw[<-hL.out];exact hlt
      obtain⟨V,P,rcs,hLr,hVB,hI,hS,hsr,hws,hbox,hNx,hNd,hcnt,m1,m2,m3,m4⟩:=hlp.ex
      have hbr:=hlp.bel
      have hbr0:=hbr.mono (show w.heap.size<=base by have:=hbase.out;omega)
      obtain⟨_,_,hAr⟩:=hRef.out wr (hb03.out.trans hbr0)
      obtain⟨b1,o1,rfl,hrow⟩:=hAr.row k hkl
      have hok:=hAr.ok _ (List.getElem_mem hkl)
      generalize xs[k]'hkl=x at*
      obtain⟨XA,hXA⟩:∃ XA,XA=x.list.toArray:=⟨_,rfl⟩
      have hsX:XA.size=81:=by rw[hXA];exact ActL.size hok
      have iX:(Tryz.prog.info? 80).map (·.size)=some XA.size:=by rw[hsX];exact iA
      have zX:(Tryz.zeroCells80).size=XA.size:=by rw[hsX];exact zA.out
      have iXl:(Tryz.prog.info? 80).map (·.size)=some x.list.length:=by rw[ActL.len hok.t1 hok.t2];exact iA
      have h1X:XA.all (·.oneCell')=true:=by rw[hXA];exact Go.Proofs.YtpdhceiodgnbmaaGreatDoor.all_one (ActL.list_one x)
      replace zX:=Hd zX
      replace iX:=Hd iX
      replace iXl:=Hd iXl
      have hZ:=Hd (heap_alloc_new wr (.cells Tryz.zeroCells80 80))
      have hbwr:base<=wr.heap.size:=by have:=hLr.lt l (.inl rfl);omega
      have hEr:=hE3.out.below hbr
      replace hXA:=Hd hXA
      replace hrow:=Hd hrow
      replace hLr:=Hd hLr
      replace hI:=Hd hI
      replace hS:=Hd hS
      replace hsr:=Hd hsr
      replace hws:=Hd hws
      replace hbox:=Hd hbox
      replace hNx:=Hd hNx
      replace hNd:=Hd hNd
      replace hcnt:=Hd hcnt
      replace hbr:=Hd hbr
      replace hok:=Hd hok
      replace hEr:=Hd hEr
      replace hVB:=Hd hVB
      clear hlp hAr hbr0 hkl
      go_upto_region 13 with (first
       | ((with_reducible refine wL (.load 80 (.tmp 56)) ?_);refine Z0 rfl 80 (.tmp 56) rfl b1 (o1+k*81) rfl x.list _ hrow.out Tryz.underlying80 rfl iXl.out XA hXA ?_)
       | ((with_reducible refine wL (.store 80 (.tmp 13) _) ?_);(refine Zc rfl 80 (.tmp 13) (.tmp 57) rfl wr.heap.size _ XA rfl rfl hZ iX.out zX.out h1X ?_);intro wb hUb))
      have hGb:Below wr.heap.size wr wb:=(Below.alloc (Below.refl wr.heap.size wr) nR _).trans (hUb.out.below nR)
      have aXb:=Hd hUb.out.here
      have hLb:=hLr.out.below hGb
      have hbwb:base<=wb.heap.size:=by have:=hGb.size;omega
      have hEb:=hEr.out.below (hGb.mono hbwr)
      have hdo:=Cb hLb hbwb hI.out.l1 hI.out.l2 ea hEb.h x hok.out (ROs V P) (RBs V P) (λx mn p r s d h=>h.2.2.2.2.2.2.2.2.2.2.2) (λy hy W hW=>D0 (hLb.below hW) (Nat.le_trans hbwb hW.size) hI.out (hEb.below (hW.mono hbwb)) hS.out hws.out oX oX y hy)
      rw[<-hXA.out] at hdo
      replace hdo:=Hd hdo
      have hszb:=hGb.size
      have hbxb:=Hd (hbox.out.below hGb)
      have hXn:Hid (¬LdD l V wr.heap.size):=Hd (λhd=>by have:=(hLr.out.lt _ hd).2;omega)
      have hbrb:=Hd (hbr.out.trans (hGb.mono hbwr))
      obtain⟨CN,hCN,hNr⟩:=hNx.out
      have hNb:=Hd ((hGb.block _ (Zb hNr)).trans hNr)
      replace hLb:=Hd hLb
      clear hGb hEb hNr hbox hLr hZ
      go_wp2_with ((with_reducible refine wL (.load 80 (.tmp 13)) ?_);refine Zd rfl 80 (.tmp 13) rfl wr.heap.size XA _ rfl aXb Tryz.underlying80 rfl iX.out ?_;try simp only[Act.put,sL,sZ,sS])
      go_simp
      with_reducible refine hdo.out.mono ?_
      clear hdo
      rintro y wd ⟨k0,V',p',recs',sure',dead',rfl,⟨hv1,hv2,hv3,hv4⟩,hcase⟩
      have hfin:∀ {P'},LStep base wb wd l V V' P'->Below base w3 wd/\SBox wd l V' w8.heap.size (wA.heap.size+1) P.m/\wd.heap[wA.heap.size]? = some (.cells CN 80 (0,0))/\¬LdD l V' wA.heap.size/\wd.heap[wr.heap.size]? = some (.cells XA 80 (0,0))/\wb.heap.size<=wd.heap.size:=λhst=>
       ⟨hbrb.out.trans (hst.below hLb.out hbwb),hbxb.out.step hst,hst.only.heap hNb.out hNd.out,λhd=>(hst.new _ hd).elim hNd.out (λq=>by have:=Zb hNb.out;omega),hst.only.heap aXb.out hXn.out,hst.only.size⟩
      rcases hcase with ⟨hk0,z,hz,hRO,hst⟩|⟨hk0,hRB,hst⟩
      ·have i0:((k0:Int)==0)=true:=by rw[hk0];rfl
       obtain⟨f1,f2,f3,f4,f5,f6⟩:=hfin hst
       obtain⟨r1,r2,r3,r4,r5,r6,r7,r8,r9,r10,r11,r12⟩:=hRO
       have hI':=hI.out.next (P':=⟨p',recs',sure',dead',P.n+1,Qc P.n P.ps z.out,(Zi P.m z).1⟩) r11 r12 oX r4 r5 rfl rfl rfl
       have hbwd:base<=wd.heap.size:=oX
       have hstt:=Hd (Xe hst.ok hI'.l1 hI'.l2)
       have hLd:=Hd hst.ok
       have hrl:recs'.length=rcs.length+1:=by rw[r5,List.length_append,hI.out.len];rfl
       replace hI':=Hd hI'
       replace f1:=Hd f1
       replace f2:=Hd f2
       replace f3:=Hd f3
       replace f4:=Hd f4
       replace r7:=Hd r7
       replace r8:=Hd r8
       replace r5:=Hd r5
       replace r6:=Hd r6
       replace r4:=Hd r4
       replace hrl:=Hd hrl
       clear hst f5 hfin hk0 hXn r9 r11 hz
       go_wp2_with fail
       with_reducible refine hstt.out.mono ?_
       clear hstt
       rintro y wE ⟨vI,vE,rfl,hrI,hrE,hbE⟩
       have hLE:=Hd (hLd.out.below hbE)
       have hrc:=Hd (Vr (hLd.out.below hbE) (by show recs'.length<=100000;rw[hrl.out];omega))
       have hszE:=hbE.size
       have hf3E:=(hbE.block _ (Zb f3.out)).trans f3.out
       replace hrI:=Hd hrI
       replace hrE:=Hd hrE
       replace hbE:=Hd hbE
       replace hf3E:=Hd hf3E
       go_wp2_with fail
       with_reducible refine hrc.out.mono ?_
       clear hrc
       rintro y wF ⟨vF,FF,rfl,hrow2,hFF,hbF⟩
       obtain⟨aF,cF,rfl,-⟩:=hrow2.argBB
       clear hrow2 hFF
       have hLF:=Hd (hLE.out.below hbF)
       have hf3F:=Hd ((hbF.block _ (Zb hf3E.out)).trans hf3E.out)
       have hbEF:=Hd (hbE.out.trans (hbF.mono hszE))
       have hboxF:=Hd (f2.out.below hbEF.out)
       have hszF:=hbF.size
       obtain⟨sI0,sE0,hbT0,-,-⟩:=hboxF.out.ex
       obtain⟨aI,cI,rfl,-⟩:=hrI.out.form
       obtain⟨aE,cE,rfl,-⟩:=hrE.out.form
       replace hbT0:=Hd hbT0
       replace hbF:=Hd hbF
       have iT:(Tryz.prog.info? 28).map (·.size)=some (#[.slice aI (Zi P.m z).1.its.length cI,.slice aE (Zi P.m z).1.ens.length cE]:Array Value).size:=kX
       go_wp2_with ((with_reducible refine wL (.store 28 (.tmp 10) _) ?_);(refine Zc rfl 28 (.tmp 10) (.tmp 63) rfl w8.heap.size _ #[.slice aI (Zi P.m z).1.its.length cI,.slice aE (Zi P.m z).1.ens.length cE] rfl rfl hbT0 iT rfl c5X ?_);intro wG hUG;have hOG:=Hd (Only.ofUpd (D:=λq=>q=w8.heap.size) hUG.out rfl);have hLG:=Hd (hLF.out.only hOG.out (λq hq e=>hboxF.out.ap (e▸hq)));have hdd:=Hd (US hLG.out);try simp only[Act.put,sL,sZ,sS])
       try go_simp
       with_reducible refine hdd.out.mono ?_
       clear hdd
       rintro y wH ⟨rfl,hq⟩
       obtain rfl:=hq
       have hd2:dead'=false:=r4.out
       subst hd2
       have hlp':SLp base w3 wG l B w8.heap.size wA.heap.size (k+1) (.int .i64 (recs'.length:Nat)):=by
        have hne:wA.heap.size≠w8.heap.size:=by have:=hne8.out;omega
        refine⟨⟨V',_,rcs++[z],hLG.out,by rw[hv2];exact hVB.out,hI'.out,r7.out,by rw[r6.out,hrl.out,hI.out.len],r8.out,?_,⟨CN,hCN,hOG.out.heap hf3F.out hne⟩,f4.out,by rw[hrl.out,List.length_append];rfl,oX,by simp only;omega,by simp only;omega,by rw[List.length_append];show rcs.length+1<=_;omega⟩,?_⟩
        ·exact SBox.new hLd.out f2.out (by have:=Zb f3.out;omega) hbE.out hrI.out hrE.out hbF.out hUG.out
        ·exact(f1.out.trans (hbEF.out.mono hbwd)).trans (hOG.out.below oX (λq e=>by subst e;have:=hboxF.out.ap;have:=hbw7;omega))
       replace hlp':=Hd hlp'
       clear hLG hUG hOG hLF hLE hLd hboxF hbT0 hrI hrE iT
       go_wp2_with fail
       refine hback.out _ _ kX ?_ ?_
       ·simp only[List.getD_cons_zero,List.getD_cons_succ]
        exact⟨k+1,oX,by go_num,hlp'.out⟩
       ·have h56:=h56.out
        simp only[List.getD_cons_zero,List.getD_cons_succ,h56,intOf]
        omega
      ·have i0:((k0:Int)==0)=false:=by simpa using hk0
       obtain⟨f1,f2,f3,f4,f5,f6⟩:=hfin hst
       have hdd:=Hd (US hst.ok)
       have hLd:=Hd hst.ok
       have hbwd:base<=wd.heap.size:=oX
       replace f1:=Hd f1
       replace f2:=Hd f2
       replace f3:=Hd f3
       replace f4:=Hd f4
       replace f5:=Hd f5
       replace hRB:=Hd hRB
       clear hst hfin hk0 hXn
       cases dead' with
       | false=>
        have hsame:V'.mn<=V.mn+434/\p'=P.p/\recs'=P.recs/\sure'=P.sure:=by
         rcases hRB.out with ⟨z,hz,q1,q2,q3,q4,⟨_,a,b,c⟩|⟨hh,_⟩⟩|⟨_,a,b,c,d,_⟩
         ·exact⟨q1,c,a,b⟩
         ·cases hh
         ·exact⟨oX,b,c,d⟩
        obtain⟨s1,rfl,rfl,rfl⟩:=hsame
        have hlp':SLp base w3 wd l B w8.heap.size wA.heap.size (k+1) u10:=
         ⟨⟨V',_,rcs,hLd.out,by rw[hv2];exact hVB.out,⟨rfl,hI.out.recs,hI.out.fol,hI.out.m,hI.out.n,hI.out.ps,hI.out.le⟩,hS.out,hsr.out,hws.out,f2.out,⟨CN,hCN,f3.out⟩,f4.out,hcnt.out,oX,by simp only;omega,m3,oX⟩,f1.out⟩
        replace hlp':=Hd hlp'
        clear hRB f2 f3 f4 f5
        go_wp2_with fail
        with_reducible refine hdd.out.mono ?_
        clear hdd
        rintro y wH ⟨rfl,hq⟩
        obtain rfl:=hq
        go_wp2_with fail
        refine hback.out _ _ kX ?_ ?_
        ·simp only[List.getD_cons_zero,List.getD_cons_succ]
         exact⟨k+1,oX,by go_num,hlp'.out⟩
        ·have h56:=h56.out
         simp only[List.getD_cons_zero,List.getD_cons_succ,h56,intOf]
         omega
       | true=>
        have hdie:∃ z,Yx P.m x=some z/\V'.mn<=V.mn+434/\p'.ws.length<=434/\P.p.l-435<=p'.l/\p'.l<=P.p.l/\(recs'=P.recs\/recs'=P.recs++[z.out])/\SafeD p' (P.recs++[z.out]) P.sure/\p'.n=60/\Zh P.recs+(34+z.out.length)<=3840/\z.Ok/\(Zi P.m z).2=0:=by
         rcases hRB.out with ⟨z,hz,q1,q2,q3,q4,⟨hh,_⟩|⟨_,a,b,c,d,e',g,i,j⟩⟩|⟨_,a,b,c,d,hh⟩
         ·cases hh
         ·exact⟨z,hz,q1,q2,q3,q4,b,c,d,g,i,j⟩
         ·rw[hI.out.dead] at hh;cases hh
        obtain⟨z,hz,q1,q2,q3,q4,q5,q6,q7,q8,q9,q10⟩:=hdie
        have hm':=hI.out.m
        have hend:∀ wJ,Upd wA.heap.size (.cells XA 80 (0,0)) wd wJ->SLe base w3 wJ l B w8.heap.size wA.heap.size u10:=λwJ hUJ=>by
         have hOJ:Only (λq=>q=wA.heap.size) wd wJ:=Only.ofUpd hUJ rfl
         have hLJ:=hLd.out.only hOJ (λq hq e=>f4.out (e▸hq))
         obtain⟨sI0,sE0,t1,t2,t3⟩:=f2.out.ex
         have hboxJ:SBox wJ l V' w8.heap.size (wA.heap.size+1) P.m:=⟨⟨sI0,sE0,hOJ.heap t1 (by have:=hne8.out;omega),t2.only hOJ (λq hq e=>by have:=(t3 q hq).2.2;omega),t3⟩,f2.out.ap⟩
         refine⟨⟨V',_,rcs,hLJ,by rw[hv2];exact hVB.out,hI.out.fol,by rw[<-hm'];exact hboxJ,hcnt.out,oX,by simp only;omega,by simp only;omega,oX,q2,q7,.inr ⟨rfl,z,x,hok.out,by rw[<-hm'];exact hz,q9,by rw[<-hm'];exact q10,by rw[<-hI.out.recs];exact q8,by rw[<-hI.out.recs];exact q5,?_,by rw[<-hXA.out];exact hUJ.here,f4.out⟩⟩,f1.out.trans (hOJ.below oX (λq e=>by subst e;omega))⟩
         rw[<-hI.out.recs,<-hI.out.len,<-hsr.out]
         exact q6
        replace hend:=Hd hend
        clear hRB hback q2 q5 q6 q8
        go_wp2_with fail
        with_reducible refine hdd.out.mono ?_
        clear hdd
        rintro y wH ⟨rfl,hq⟩
        obtain rfl:=hq
        have hsN:=Hd (show CN.size=XA.size by rw[hCN,hsX])
        go_wp2_with (first
         | ((with_reducible refine wL (.load 80 (.tmp 13)) ?_);refine Zd rfl 80 (.tmp 13) rfl wr.heap.size XA _ rfl f5 Tryz.underlying80 rfl iX.out ?_;try simp only[Act.put,sL,sZ,sS])
         | ((with_reducible refine wL (.store 80 (.tmp 9) _) ?_);(refine Zc rfl 80 (.tmp 9) (.tmp 69) rfl wA.heap.size CN XA rfl rfl f3 iX.out hsN.out h1X ?_);intro wJ hUJ;try simp only[Act.put,sL,sZ,sS]))
        go_meet
        exact hend.out _ hUJ.out
     ·obtain rfl:k=L:=oX
      have hnlt:¬((k:Int)<(k:Int)):=oX
      have hend:=Hd (hlp.end_ hL30)
      clear hlp hback
      go_wp2_with fail
      go_meet
      exact hend.out
   case rest=>
    obtain⟨V,P,rcs,hL,hVB,hfol,hbox,hcnt,m1,m2,m3,m4,m5,m6,hcase⟩:=hcut.ex
    have hbel:=hcut.bel
    clear hcut hlp
    generalize wc=wD at*
    have hbwD:base<=wD.heap.size:=by have:=hL.lt l (.inl rfl);omega
    have hlen:P.recs.length<=31:=by
     rcases hcase with ⟨_,q,_⟩|⟨_,x,a,_,_,_,_,_,q,_⟩
     ·rw[q,List.length_map];omega
     ·rcases q with q|q
      ·rw[q,List.length_map];omega
      ·rw[q,List.length_append,List.length_map];show rcs.length+1<=31;omega
    have hrc:=Hd (Vr hL oX)
    have hbxD:=Hd ((hbel.block w.heap.size (by have:=Zb hbx3.out;have:=hbase.out;omega)).trans hbx3.out)
    replace hL:=Hd hL
    replace hfol:=Hd hfol
    replace hbox:=Hd hbox
    replace hcnt:=Hd hcnt
    replace hcase:=Hd hcase
    replace hbel:=Hd hbel
    replace hVB:=Hd hVB
    go_wp2_with fail
    with_reducible refine hrc.out.mono ?_
    clear hrc
    rintro x wE ⟨vW,FW,rfl,hrW,hFW,hbE⟩
    obtain⟨aW,cW,rfl,-⟩:=hrW.argBB
    have hLE:=hL.out.below hbE
    have hdd:=Hd (US hLE)
    have hbxE:=Hd ((hbE.block _ (Zb hbxD.out)).trans hbxD.out)
    have hboxE:=hbox.out.below hbE
    have hszE:=hbE.size
    have hbelE:=hbel.out.trans (hbE.mono hbwD)
    have hEE:=hE3.out.below hbelE
    have hcr:=Wy hLE.jd.dm (by rw[m6];decide) oX oX kept torn sc (sc:Int) rfl hkt htn hsc
    rw[hVB.out] at hcr
    have cE0:=Za hbxE.out 0
    have cE1:=Za hbxE.out 1
    have cE2:=Za hbxE.out 2
    have iK:(Tryz.prog.info? 71).map (·.size)=some (#[.int .i64 kept,.int .i64 torn,.int .u64 (sc:Int)]:Array Value).size:=kX
    replace hcr:=Hd hcr
    replace hLE:=Hd hLE
    replace hrW:=Hd hrW
    replace hFW:=Hd hFW
    replace hbE:=Hd hbE
    replace hboxE:=Hd hboxE
    replace hbelE:=Hd hbelE
    replace hEE:=Hd hEE
    clear cE0 cE1 cE2 hbxD
    go_wp2_with fail
    with_reducible refine hdd.out.mono ?_
    clear hdd
    rintro x wH ⟨rfl,hq⟩
    obtain rfl:=hq
    go_wp2_with ((with_reducible refine wL (.load 71 (.tmp 4)) ?_);refine Zd rfl 71 (.tmp 4) rfl w.heap.size #[.int .i64 kept,.int .i64 torn,.int .u64 (sc:Int)] _ rfl hbxE Tryz.underlying71 rfl iK ?_;try simp only[Act.put,sL,sZ,sS])
    go_simp
    with_reducible refine hcr.out.mono ?_
    clear hcr
    rintro x wF ⟨rfl,mn',hmn',hds⟩
    have hdok:DOk (P.p.crash kept torn sc):=by
     rcases hcase.out with ⟨_,_,q,_⟩|⟨_,x,a,_,_,_,_,_,_,q,_⟩
     ·exact(q.inv.crash kept torn sc).ok
     ·exact(q.inv.crash kept torn sc).ok
    have hbEF:=hds.below (hVB.out▸hLE.out.jd.dm) oX
    have hEF:=hEE.out.below hbEF
    have hld:=Db hds.ok (by have:=hbEF.size;omega) 60 (by show P.p.n=((60:Nat):Int);rw[m6];rfl) dX dX rfl oX ⟨by show (-100000:Int)<=0;decide,by show (0:Int)<=100000;decide⟩ rfl rfl (by have:=hLE.out.powE hEE.out;rw[hVB.out] at this;exact this) hdok hEF
    have hOEF:=hds.only
    obtain⟨rdz,hrd⟩:∃ rdz,rdz=Z1 (P.p.crash kept torn sc):=⟨_,rfl⟩
    obtain⟨qD,hqD⟩:∃ qD,qD=X2 60 (P.p.crash kept torn sc):=⟨_,rfl⟩
    rw[<-hrd,<-hqD] at hld
    replace hld:=Hd hld
    replace hOEF:=Hd hOEF
    replace hrd:=Hd hrd
    replace hqD:=Hd hqD
    replace hdok:=Hd hdok
    replace hbEF:=Hd hbEF
    replace hmn':=Hd hmn'
    have hszF:=hbEF.out.size
    clear hds hEF
    go_wp2_with fail
    with_reducible refine hld.out.mono ?_
    clear hld
    rintro x wG ⟨hOFG,hlc⟩
    have hO:Only (Zw B V.mb V.v) wE wG:=hOEF.out.trans hOFG (λk hk hd=>by
     rcases hd with hd|hd|hd
     ·exact .inl hd
     ·exact .inr (.inl hd)
     ·simp[Value.ownBlock] at hd)
    have hDl:∀ k,Zw B V.mb V.v k->base<=k/\k<wD.heap.size:=λk hk=>hL.out.jd.dm.lt k (hVB.out.symm▸hk)
    have hDL:∀ k,¬LdD l V k->¬Zw B V.mb V.v k:=λk hk hd=>hk (.inr (.inr (.inr (.inr (hVB.out.symm▸hd)))))
    have hbelG:Below base w3 wG:=hbelE.out.trans (hO.below oX (λk hk=>(hDl k hk).1))
    have hszG:=hO.size
    obtain⟨tI,tE,ht1,ht2,ht3⟩:=hboxE.out.ex
    have htB:=hO.heap ht1 (hDL _ hboxE.out.ap)
    have htA:=ht2.only hO (λk hk=>hDL k (ht3 k hk).1)
    have hrWG:=hrW.out.only liesRB hO (λk hk hd=>by have:=hFW.out k hk;have:=(hDl k hd).2;omega) (λk hk hd=>by have:=(hrW.out.ownLt k hk).1;have:=(hDl k hd).2;omega)
    have hNG:∀ a:ActL,wD.heap[wA.heap.size]? = some (.cells a.list.toArray 80 (0,0))->¬LdD l V wA.heap.size->wG.heap[wA.heap.size]? = some (.cells a.list.toArray 80 (0,0)):=λa h1 h2=>hO.heap ((hbE.out.block _ (Zb h1)).trans h1) (hDL _ h2)
    replace hO:=Hd hO
    replace hbelG:=Hd hbelG
    replace htB:=Hd htB
    replace htA:=Hd htA
    replace hrWG:=Hd hrWG
    replace hNG:=Hd hNG
    replace hlc:=Hd hlc
    clear hOFG ht1 ht2 ht3 hDl hDL hOEF hbEF hboxE hbelE hEE hLE hrW hbxE iK
    rcases hcase.out with ⟨hd,hrec,hSA,hws⟩|hdead
    ·have hrdE:rdz=rcs.map Rc.out:=by rw[hrd.out,Po hSA hws,hrec]
     have hEG:=hE3.out.below hbelG.out
     have hrep:=JG wG ea (hEG.h wG bR) rcs ⟨[],[]⟩ hfol.out
     have hsb:=UC rcs ⟨[],[]⟩ 0 (Qu 0)
     obtain⟨-,l2,V2,rfl,hL2,-,-,-,-⟩:=hlc.out.resolve_right (λh=>h.1 (by rw[hrdE,hrep]))
     rw[show (Z5 ⟨[],[]⟩ rdz).1=Qx ⟨[],[]⟩ rcs by rw[hrdE,hrep]] at hL2
     obtain⟨m0,hm0⟩:∃ m0,m0=Qx ⟨[],[]⟩ rcs:=⟨_,rfl⟩
     rw[<-hm0] at hL2 hsb
     have htA0:=htA.out
     rw[<-hm0] at htA0
     have l1:m0.its.length<=1000:=by have:=hsb.its;omega
     have l2':m0.ens.length<=1000:=by have:=hsb.ens;omega
     rw[hd]
     replace hL2:=Hd hL2
     replace htA0:=Hd htA0
     replace l1:=Hd l1
     replace l2':=Hd l2'
     replace hm0:=Hd hm0
     have hbG:=Hd (hb03.out.trans (hbelG.out.mono (by have:=hbase.out;omega)))
     clear hcase hlc hrdE hrep hsb hSA hws hrec hEG hrWG hNG hO hdok htA
     go_wp2_with fail
     generalize wG=wx at*
     have hd0:Hid (Grown wx wx.drew):=Hd (Grown.drew (Grown.refl wx))
     have rlA:∀ W:World,Grown wx W->W.heap[w8.heap.size]? = some (.cells #[tI,tE] 28 (0,0)):=λW hW=>(hW.block _ (Zb htB.out)).trans htB.out
     have huA:=Tryz.underlying28
     have hzA:(Tryz.prog.info? 28).map (·.size)=some (#[tI,tE]:Array Value).size:=kX
     refine wp_region_held_drew (S:=(Grown wx)) kX hd0.out (λhOn=>?_)
     generalize World.drew wx=wd at*
     refine tk 0 hOn ?_
     refine tk 1 hOn ?_
     refine tk 2 hOn ?_
     refine tk 3 hOn ?_
     refine tk 4 hOn ?_
     refine tk 5 hOn ?_
     refine tk 6 hOn ?_
     refine tk 7 hOn ?_
     refine tk 9 hOn ?_ (v:=Value.agg _) (hy:=Or.inl ⟨by rfl,λW hSW=>Zt _ _ rfl _ _ _ rfl (rlA W hSW) huA rfl hzA⟩)
     refine rd 8 (λKz hKz=>?_)
     go_simp
     (with_reducible refine(Xe (hL2.out.below hOn) l1.out l2'.out).mono ?_)
     rintro e wS ⟨vI,vE,rfl,hrI,hrE,hnew⟩
     have hS:=Grown.trans hOn hnew
     have hSm:=Hd (XJ hrI hrE)
     clear hrI hrE
     focus (go_wp2_with fail)
     refine hKz.out _ _ hS ?_
     clear hKz Kz hOn hS
     intro hOn
     try clear hnew
     try simp only[Act.put,sL,sZ,sS]
     refine rd 10 (λKz hKz=>?_)
     go_simp
     (with_reducible refine(XN _ _ m0 m0 _ hSm.out (htA0.out.below hOn nR) l1.out l2'.out).mono ?_)
     rintro e wf ⟨rfl,hnew⟩
     have hS:=Grown.trans hOn hnew
     rw[JY]
     focus (go_wp2_with fail)
     refine hKz.out _ _ hS ?_
     clear hKz Kz hOn hS
     intro hOn
     try clear hnew
     try simp only[Act.put,sL,sZ,sS]
     refine tk 11 hOn ?_
     refine tk 12 hOn ?_
     refine dnE ?_
     all_goals
      go_wp2_with fail
      go_ret
      exact⟨rfl,hbG.out.trans (hOn.mono hbG.out.size)⟩
    ·obtain⟨hd,z,a,haok,hax,hzok,hzf,hzfit,hrec,hSD,hbNa,hbNn⟩:=hdead
     have hNa:=Hd (hNG.out a hbNa hbNn)
     obtain⟨rcW,hrcW,hrcWf⟩:∃ rcW:List Rc,P.recs=rcW.map Rc.out/\(rcW=rcs\/rcW=rcs++[z]):=by
      rcases hrec with q|q
      ·exact⟨rcs,q,.inl rfl⟩
      ·exact⟨rcs++[z],by rw[q,List.map_append];rfl,.inr rfl⟩
     have hfolz:=Jo rcs ⟨[],[]⟩ z hfol.out hzok hzf
     have hfolW:XW ⟨[],[]⟩ rcW:=by
      rcases hrcWf with q|q
      ·rw[q];exact hfol.out
      ·rw[q];exact hfolz
     have hendz:Zh (rcs.map Rc.out++[z.out])<=3840:=by rw[QK];exact hzfit
     have hendW:Zh (rcW.map Rc.out)<=3840:=by
      rcases hrcWf with q|q
      ·rw[q];omega
      ·rw[q,List.map_append];exact hendz
     have hlW:rcW.length<=31:=by rw[hrcW,List.length_map] at hlen;exact hlen
     have hbaseG:base<=wG.heap.size:=oX
     have hEG:=hE3.out.below hbelG.out
     have hwG:w.heap.size<=wG.heap.size:=by have:=hbase.out;have:=hbelG.out.size;omega
     have hb0G:=hb03.out.trans (hbelG.out.mono (by have:=hbase.out;omega))
     have hEk:=hEnv.out wG hb0G wG.heap.size hwG
     have hfr:Calls Tryz.prog 21 #[.int .i64 60] wG (GY wG 60):=UT 60 wG dX dX e (hEk.d wG bR) (hEk.s wG bR).1 (hEk.s wG bR).2 ea (hEk.h wG bR)
     have hcases:=TU hfol.out hzok hzf hSD kept torn sc wG ea (hEG.h wG bR)
     rw[<-hrd.out] at hcases
     have hgood:=GX (p:=P.p.crash kept torn sc) (n:=60) hdok.out (by show P.p.n=((60:Nat):Int);rw[m6];rfl) rfl rfl rfl
     rw[<-hrd.out,<-hqD.out] at hgood
     have hqr:Z1 qD=rdz:=JJ hgood.1.ok hgood.1.n hgood.1.sh hgood.2.1 (λr hr=>by rw[hrd.out] at hr;exact Gu _ r hr)
     obtain⟨m0,hm0⟩:∃ m0,m0=Qx ⟨[],[]⟩ rcs:=⟨_,rfl⟩
     obtain⟨m1',hm1'⟩:∃ m1',m1'=(Zi (Qx ⟨[],[]⟩ rcs) z).1:=⟨_,rfl⟩
     obtain⟨M,hM⟩:∃ M,M=rcW.length:=⟨_,rfl⟩
     have hMr:P.recs.length=M:=by rw[hrcW,List.length_map,hM]
     rw[hd]
     obtain⟨p16,u17,rfl,⟨mnG,vG,hdm⟩,hld⟩:∃ (p16:Option Addr) (u17:Value),x=.returned (.tuple #[.pointer p16,u17])/\(∃ mnG vG,DM base wG B V.mb mnG vG qD)/\
       (((Z5 ⟨[],[]⟩ rdz).2=0/\u17=.nilIface/\∃ l2 V2,p16=some ⟨l2,0,none⟩/\LdM base wG l2 V2 ⟨qD,rdz,rdz.length,false,rdz.length,QN 0 [] rdz,(Z5 ⟨[],[]⟩ rdz).1⟩)\/((Z5 ⟨[],[]⟩ rdz).2≠0/\p16=none/\JI u17)):=by
      rcases hlc.out with ⟨q0,l2,V2,q1,q2,q3,q4,_,_⟩|⟨q0,u,mn2,v2,q1,q2,q3,_,_⟩
      ·exact⟨_,_,q1,⟨V2.mn,V2.v,by have:=q2.jd.dm;rwa [q3,q4] at this⟩,.inl ⟨q0,rfl,l2,V2,rfl,q2⟩⟩
      ·exact⟨_,_,q1,⟨mn2,v2,q3⟩,.inr ⟨q0,rfl,q2⟩⟩
     have hrc0:=hMr
     replace hfr:=Hd hfr
     replace hEk:=Hd hEk
     replace hEG:=Hd hEG
     replace hcases:=Hd hcases
     replace hgood:=Hd hgood
     replace hqr:=Hd hqr
     replace hm0:=Hd hm0
     replace hm1':=Hd hm1'
     replace hM:=Hd hM
     replace hMr:=Hd hMr
     replace hrcW:=Hd hrcW
     replace hrcWf:=Hd hrcWf
     replace hfolz:=Hd hfolz
     replace hfolW:=Hd hfolW
     replace hendz:=Hd hendz
     replace hendW:=Hd hendW
     replace hzok:=Hd hzok
     replace hzf:=Hd hzf
     replace haok:=Hd haok
     replace hax:=Hd hax
     replace hdm:=Hd hdm
     replace hld:=Hd hld
     replace hb0G:=Hd hb0G
     replace hd:=Hd hd
     have hcn:=hcnt.out
     clear hcase hlc hrc0 hzfit hrec hSD hbNa hbNn hNG
     go_wp2_with fail
     with_reducible refine hfr.out.mono ?_
     clear hfr
     rintro y wK ⟨l3,V3,rfl,hL3,hmn3,hb3⟩
     obtain⟨b2,hb2⟩:∃ b2,b2=wG.heap.size:=⟨_,rfl⟩
     rw[<-hb2] at hL3 hb3
     have hk0:=Hd (KLp.new hL3 hmn3 hb3)
     have hEkb:=hEk.out
     rw[<-hb2] at hEkb
     replace hEkb:=Hd hEkb
     replace hb2:=Hd hb2
     clear hL3 hmn3 hb3 hEk
     have i78:Hid ((Tryz.prog.info? 49).map (·.size)=some 78):=Hd kX
     have z78:Hid ((Tryz.zeroCells49).size=78):=Hd kX
     rw[hMr.out]
     go_wp2_with fail
     refine Z8 [(false,21),(true,3),(false,85),(true,15),(false,34)] _ [] (λU wr=>∃ j:Nat,j<=M/\U 109=.int .i64 (j:Nat)/\KLp b2 wG wr l3 (rcW.take j)) (λU _=>M-(intOf (U 109)).toNat) ?_ ?_
     ·simp only[List.getD_cons_zero,List.getD_cons_succ]
      exact⟨0,Nat.zero_le _,rfl,hk0.out⟩
     ·clear hk0
      intro U wr hrel KK hback l' hl'
      obtain⟨j,hj,h56,hkl⟩:=hrel
      simp only[ZU,ZG,cond_true,cond_false,Nat.reduceAdd,h56] at hl'
      subst hl'
      replace h56:=Hd h56
      by_cases hlt:j<M
      ·have hlt2:(j:Int)<(M:Int):=oX
       have hjW:j<rcW.length:=by rw[<-hM.out];exact hlt
       obtain⟨V4,P4,hL4,hI4,hG4,hE4,n1,n2,n3⟩:=hkl.ex
       have hbr:=hkl.bel
       have hrr:=hrWG.out.below liesRB (hb2.out▸hbr)
       obtain⟨a9,c9,e9,hA9⟩:=hrr.argBB
       cases e9
       obtain⟨b1,o1,rfl,ai,ci,hce,hAi⟩:=hA9.row j (by rw[hMr.out];exact hlt)
       have hgd:P.recs.getD j []=(rcW[j]).out:=by rw[hrcW.out,List.getD_eq_getElem?_getD,List.getElem?_map,List.getElem?_eq_getElem hjW];rfl
       rw[hgd] at hAi hce
       obtain⟨hxo,hxf⟩:=N2 rcW ⟨[],[]⟩ j hjW hfolW.out
       have htl:(rcW.take j).length=j:=by rw[List.length_take];omega
       have hfit:Zh P4.recs+(34+(rcW[j]).out.length)<=64*60:=by
        have:=M4 (rcW.map Rc.out) j (by rw[List.length_map];exact hjW)
        rw[<-List.map_take,<-hI4.recs,List.getD_eq_getElem?_getD,List.getElem?_map,List.getElem?_eq_getElem hjW] at this
        have hw:=hendW.out
        simp only[Option.map_some,Option.getD_some] at this
        omega
       have htk:rcW.take (j+1)=rcW.take j++[rcW[j]]:=by rw[List.take_add_one,List.getElem?_eq_getElem hjW];rfl
       rw[<-hI4.m] at hxf
       generalize rcW[j]=x at*
       have hc:=XG hxf
       obtain⟨x1,x4⟩:=Kr x hxo hc
       have hE4r:=hEkb.out.below hbr
       have hpa:=J7 x hxo hc ai ci _ wr hAi rfl oX (λad e9=>by
        obtain⟨b3,o3,e3,hc3⟩:=hAi.row 0 oX
        rw[e9] at e3
        cases e3
        exact⟨b3,o3,rfl,World.block_lt_of_cell? wr _ hc3⟩) ea (hE4r.h wr bR)
       obtain⟨XR,hXR⟩:∃ XR,XR=x.list.toArray:=⟨_,rfl⟩
       obtain⟨XL,hXL⟩:∃ XL,XL=x.out.length:=⟨_,rfl⟩
       rw[<-hXL] at hpa hce
       have hsR:XR.size=78:=by rw[hXR];exact Rc.size hxo
       have iR:=Hd (show (Tryz.prog.info? 49).map (·.size)=some XR.size by rw[hsR];exact i78.out)
       have zR:=Hd (show (Tryz.zeroCells49).size=XR.size by rw[hsR];exact z78.out)
       have h1R:XR.all (·.oneCell')=true:=by rw[hXR];exact Rc.all_one x
       have hb2r:b2<=wr.heap.size:=by have:=hb2.out;have:=hbr.size;omega
       unfold Ko at hpa
       rw[<-hXR] at hpa
       replace hXR:=Hd hXR
       replace hXL:=Hd hXL
       replace hpa:=Hd hpa
       replace hL4:=Hd hL4
       replace hI4:=Hd hI4
       replace hG4:=Hd hG4
       replace hE4r:=Hd hE4r
       replace hxo:=Hd hxo
       replace hxf:=Hd hxf
       replace hfit:=Hd hfit
       replace htk:=Hd htk
       replace hbr:=Hd hbr
       clear hkl hrr hA9 hAi hgd hc hsR
       go_wp2_with fail
       with_reducible refine hpa.out.mono ?_
       clear hpa
       rintro y w4 ⟨rfl,hb4⟩
       have hZ4:=Hd (heap_alloc_new w4 (.cells Tryz.zeroCells49 49))
       have hs4:=hb4.size
       replace hb4:=Hd hb4
       clear hce
       go_upto_region 32 with ((with_reducible refine wL (.store 49 (.tmp 22) _) ?_);(refine Zc rfl 49 (.tmp 22) (.tmp 116) rfl w4.heap.size _ XR rfl rfl hZ4 iR.out zR.out h1R ?_);intro w5' hU5;try simp only[Act.put,sL,sZ,sS])
       have hG45:Below wr.heap.size wr w5':=hb4.out.trans (((Below.alloc (Below.refl w4.heap.size w4) nR _).trans (hU5.out.below nR)).mono hs4)
       have aR5:=Hd hU5.out.here
       have hL5k:=hL4.out.below hG45
       have hE5k:=hE4r.out.below (hG45.mono hb2r)
       have hb25:b2<=w5'.heap.size:=by have:=hG45.size;omega
       have hlp:=Cl hL5k hb25 hI4.out.l1 hI4.out.l2 x hxo.out hxf.out (ROg V4 P4 60) (RBg V4 P4 60) (λx mn p r s d h=>h.2.2.2.2.2.2.2.2.2.2) (λy hy W hW=>NK (hL5k.below hW) (Nat.le_trans hb25 hW.size) hI4.out (hE5k.below (hW.mono hb25)) 60 hG4.out dX hE4 oX oX y hy)
       rw[<-hXR.out] at hlp
       have hbr5:=Hd (hbr.out.trans (hG45.mono hb2r))
       replace hlp:=Hd hlp
       replace hL5k:=Hd hL5k
       clear hG45 hE5k hU5
       go_wp2_with ((with_reducible refine wL (.load 49 (.tmp 22)) ?_);refine Zd rfl 49 (.tmp 22) rfl w4.heap.size XR _ rfl aR5 Tryz.underlying49 rfl iR.out ?_;try simp only[Act.put,sL,sZ,sS])
       go_simp
       with_reducible refine hlp.out.mono ?_
       clear hlp
       rintro y w6' ⟨u6,V6',p6',recs6',sure6',dead6',rfl,-,hcs⟩
       have hkn:KLp b2 wG w6' l3 (rcW.take (j+1)):=by
        rw[htk.out]
        rcases hcs with ⟨hro,hst⟩|hrb
        ·exact KLp.next hL5k.out hI4.out (by rw[htl];rwa [htl] at n1) (by rw[htl];rwa [htl] at n2) n3 hbr5.out hb25 oX hro hst
        ·exfalso
         rcases hrb.2.2.2.2.2 with q|q
         ·exact q hxf.out
         ·exact q hfit.out
       replace hkn:=Hd hkn
       clear hcs
       go_wp2_with fail
       refine hback.out _ _ kX ?_ ?_
       ·simp only[List.getD_cons_zero,List.getD_cons_succ]
        exact⟨j+1,oX,by go_num,hkn.out⟩
       ·have h56:=h56.out
        simp only[List.getD_cons_zero,List.getD_cons_succ,h56,intOf]
        omega
      ·obtain rfl:j=M:=oX
       have hnlt:¬((j:Int)<(j:Int)):=oX
       rw[hM.out,List.take_length] at hkl
       clear hback
       have hkW:=Hd hkl
       clear hkl hlt
       go_upto_if 127 with fail
       go_cut [] from 124 to 130 (λwx=>KLp b2 wG wx l3 (rcs++[z]))
       case first=>
        rcases hrcWf.out with q|q
        ·have hML:j=rcs.length:=by rw[hM.out,q]
         have i1:((j:Int)==(rcs.length:Int))=true:=by rw[hML];simp
         obtain⟨V4,P4,hL4,hI4,hG4,hE4,n1,n2,n3⟩:=hkW.out.ex
         have hbr:=hkW.out.bel
         have hb2r:b2<=wr.heap.size:=by have:=hb2.out;have:=hbr.size;omega
         have hE4r:=hEkb.out.below hbr
         have hm4:P4.m=Qx ⟨[],[]⟩ rcs:=by rw[hI4.m,q]
         have hr4:P4.recs=rcs.map Rc.out:=by rw[hI4.recs,q]
         have hdo:=Cb hL4 hb2r hI4.l1 hI4.l2 ea hE4r.h a haok.out (ROg V4 P4 60) (RBg V4 P4 60) (λx mn p r s d h=>h.2.2.2.2.2.2.2.2.2.2) (λy hy W hW=>NK (hL4.below hW) (Nat.le_trans hb2r hW.size) hI4 (hE4r.below (hW.mono hb2r)) 60 hG4 dX hE4 oX oX y hy)
         have hNr:=Hd ((hbr.block _ (by have:=Zb hNa.out;have:=hb2.out;omega)).trans hNa.out)
         have iA9:Hid ((Tryz.prog.info? 80).map (·.size)=some a.list.toArray.size):=Hd (by rw[ActL.size haok.out];exact iA)
         have hfin:∀ y wx,Rk b2 wr l3 V4 P4 a (ROg V4 P4 60) (RBg V4 P4 60) y wx->KLp b2 wG wx l3 (rcs++[z]):=λy wx hp=>by
          obtain⟨k0,V5,p5,recs5,sure5,dead5,-,-,hc5⟩:=hp
          rw[hm4,hax.out] at hc5
          rcases hc5 with ⟨-,x5,e5,hro,hst⟩|⟨-,⟨x5,e5,hrb⟩|⟨e5,-⟩,-⟩
          ·cases e5
           rw[<-hm4] at hst
           have:=KLp.next hL4 hI4 n1 n2 n3 hbr hb2r (by rw[q];omega) hro hst
           rwa [q] at this
          ·cases e5
           exfalso
           rcases hrb.2.2.2.2.2 with h5|h5
           ·rw[hm4] at h5;exact h5 hzf.out
           ·rw[hr4] at h5
            have:=hendz.out
            rw[QK] at this
            exact h5 this
          ·cases e5
         obtain⟨AA,hAA⟩:∃ AA,AA=a.list.toArray:=⟨_,rfl⟩
         rw[<-hAA] at hdo hNr iA9
         replace hAA:=Hd hAA
         replace hdo:=Hd hdo
         replace hfin:=Hd hfin
         clear hL4 hI4 hG4 hE4 hbr hE4r hm4 hr4 hML n1 n2 n3
         go_wp2_with ((with_reducible refine wL (.load 80 (.tmp 9)) ?_);refine Zd rfl 80 (.tmp 9) rfl wA.heap.size AA _ rfl hNr Tryz.underlying80 rfl iA9.out ?_;try simp only[Act.put,sL,sZ,sS])
         go_simp
         with_reducible refine hdo.out.mono ?_
         clear hdo
         rintro y wx hp
         have hk9:=Hd (hfin.out _ _ hp)
         obtain⟨k0,V5,p5,recs5,sure5,dead5,rfl,-,-⟩:=hp
         go_wp2_with fail
         go_meet
         exact hk9.out
        ·have hML:j=rcs.length+1:=by rw[hM.out,q,List.length_append];rfl
         have i1:((j:Int)==(rcs.length:Int))=false:=by rw[hML,beq_eq_false_iff_ne];omega
         rw[q] at hkW
         clear hML
         go_wp2_with fail
         go_meet
         exact hkW.out
       case rest=>
        obtain⟨V9,P9,hL9,hI9,hG9,-,-,-,-⟩:=hcut.ex
        have hbz:=hcut.bel
        clear hcut hkW
        generalize wc=wZ at*
        have hwz:=hbz.size
        have hb2o:=hb2.out
        have hbzG:Below wG.heap.size wG wZ:=hb2o▸hbz
        have htZ:=htB.out
        have htZ2:=(hbzG.block _ (Zb htZ)).trans htZ
        have htAZ:=htA.out.below hbzG nR
        rw[<-hm0.out] at htAZ
        have hm9:P9.m=m1':=by rw[hI9.m,Jt,hm1'.out]
        have hr9:P9.recs=rcs.map Rc.out++[z.out]:=by rw[hI9.recs,List.map_append];rfl
        have hdG:=hdm.out
        have hdZ:=hdG.below hbzG
        have hb0Z:Below w.heap.size w wZ:=hb0G.out.trans (hbzG.mono hwG)
        have hfin:Hid (∀ W,Below wZ.heap.size wZ W->Below w.heap.size w W):=Hd (λW hW=>hb0Z.trans (hW.mono oX))
        have hRz:=hRef.out wZ hb0Z
        have k1:=Hd hI9.l1
        have k2:=Hd hI9.l2
        have k3:Hid (P9.recs.length<=100000):=Hd (by have:=hI9.len;have:=hI9.le;omega)
        have hq9:Hid (∀ r∈P9.recs,r.length<=1000):=Hd (λr hr=>by have:=(hL9.jd.jm.okR r hr).2;omega)
        have hn1:Hid (1<=qD.n):=Hd (by rw[hgood.out.1.n];decide)
        have hn2:Hid (qD.n<=1000):=Hd (by rw[hgood.out.1.n];decide)
        have hn3:Hid (qD.ws=[]):=Hd hgood.out.1.ws
        replace htZ2:=Hd htZ2
        replace htAZ:=Hd htAZ
        replace hdZ:=Hd hdZ
        replace hRz:=Hd hRz
        replace hL9:=Hd hL9
        replace hm9:=Hd hm9
        replace hr9:=Hd hr9
        replace hbz:=Hd hbz
        replace hbzG:=Hd hbzG
        replace hb0Z:=Hd hb0Z
        clear hb2o htZ hdG hI9 hG9 hcn
        rcases hld.out with ⟨hz0,rfl,l2,V2,rfl,hL2⟩|⟨hz0,rfl,hNe⟩
        ·obtain⟨m2,hm2⟩:∃ m2,m2=(Z5 ⟨[],[]⟩ rdz).1:=⟨_,rfl⟩
         rw[<-hm2] at hL2
         have hsb2:=UO rdz 0 ⟨[],[]⟩ (Qu 0)
         rw[<-hm2] at hsb2
         have hrl:=Ma rdz
         have hgl:=hgood.out.2.1
         have l1:Hid (m2.its.length<=1000):=Hd (by have:=hsb2.its;omega)
         have l2':Hid (m2.ens.length<=1000):=Hd (by have:=hsb2.ens;omega)
         have hL2z:=hL2.below hbzG.out
         have hstt:=Hd (Xe hL2z l1.out l2'.out)
         replace hm2:=Hd hm2
         clear hL2 hL2z hsb2 hrl hgl
         go_wp2_with fail
         with_reducible refine hstt.out.mono ?_
         clear hstt
         rintro y wS ⟨nI,nE,rfl,hrI,hrE,hbS⟩
         have hZS:=Hd (heap_alloc_new wS (.cells #[.slice none 0 0,.slice none 0 0] 28))
         have hnowS:=XJ hrI hrE
         obtain⟨aI,cI,rfl,-⟩:=hrI.form
         obtain⟨aE,cE,rfl,-⟩:=hrE.form
         have iS9:(Tryz.prog.info? 28).map (·.size)=some (#[.slice aI m2.its.length cI,.slice aE m2.ens.length cE]:Array Value).size:=kX
         replace hbS:=Hd hbS
         replace hnowS:=Hd hnowS
         clear hrI hrE
         go_upto_region 39 with ((with_reducible refine wL (.store 28 (.tmp 24) _) ?_);(refine Zc rfl 28 (.tmp 24) (.tmp 142) rfl wS.heap.size _ #[.slice aI m2.its.length cI,.slice aE m2.ens.length cE] rfl rfl hZS iS9 rfl c5X ?_);intro wx hUx;try simp only[Act.put,sL,sZ,sS])
         have hGx:Below wS.heap.size wS wx:=(Below.alloc (Below.refl wS.heap.size wS) nR _).trans (hUx.out.below nR)
         have hzx:=hbS.out.trans (hGx.mono hbS.out.size)
         have hnow:=Hd (hnowS.out.below hGx nR)
         have htx:=Hd (htAZ.out.below hzx nR)
         have htBx:=Hd ((hzx.block _ (Zb htZ2.out)).trans htZ2.out)
         have hnBx:=Hd hUx.out.here
         have hL9x:=Hd (hL9.out.below hzx)
         have hdx:=Hd (hdZ.out.below hzx)
         have hRx:Hid (∀ W,Below wx.heap.size wx W->RefK W/\RefF W):=Hd (λW hW=>by
          have h1:=hzx.trans (hW.mono hzx.size)
          exact⟨hRz.out.1.below h1,hRz.out.2.1.below h1⟩)
         have hfin:Hid (∀ W,Below wx.heap.size wx W->Below w.heap.size w W):=Hd (λW hW=>hfin.out W (hzx.trans (hW.mono hzx.size)))
         replace hzx:=Hd hzx
         have hd0:Hid (Grown wx wx.drew):=Hd (Grown.drew (Grown.refl wx))
         have rlA:∀ W:World,Grown wx W->W.heap[w8.heap.size]? = some (.cells #[tI,tE] 28 (0,0)):=λW hW=>(hW.block _ (Zb htBx.out)).trans htBx.out
         have huA:=Tryz.underlying28
         have hzA:(Tryz.prog.info? 28).map (·.size)=some (#[tI,tE]:Array Value).size:=kX
         have rlB:∀ W:World,Grown wx W->W.heap[wS.heap.size]? = some (.cells #[.slice aI m2.its.length cI,.slice aE m2.ens.length cE] 28 (0,0)):=λW hW=>(hW.block _ (Zb hnBx.out)).trans hnBx.out
         have huB:=huA
         have hzB:=iS9
         have hodd:Hid (XO m2 m0=false->XO m2 P9.m=false->(!(Yh (Z1 qD) P9.recs)&&XU z32J (Z1 qD) P9.recs)=true):=Hd (λg1 g2=>by
          rw[hqr.out,hr9.out]
          rcases hcases.out with ⟨_,_,q⟩|⟨q1,q2⟩
          ·exfalso
           rw[<-hm2.out,<-hm1'.out,<-hm0.out] at q
           rcases q with q|q
           ·rw[q,JY] at g1;cases g1
           ·rw[q,hm9.out,JY] at g2;cases g2
          ·rw[q1,q2];rfl)
         clear hGx hUx iS9 hzx
         cases hb1:XO m2 m0 with
         | true=>
          refine wp_region_held_drew (S:=(Grown wx)) kX hd0.out (λhOn=>?_)
          generalize World.drew wx=wd at*
          refine tk 0 hOn ?_ (v:=Value.agg _) (hy:=Or.inl ⟨by rfl,λW hSW=>Zt _ _ rfl _ _ _ rfl (rlB W hSW) huB rfl hzB⟩)
          refine tk 1 hOn ?_ (v:=Value.agg _) (hy:=Or.inl ⟨by rfl,λW hSW=>Zt _ _ rfl _ _ _ rfl (rlA W hSW) huA rfl hzA⟩)
          refine rd 2 (λKz hKz=>?_)
          go_simp
          (with_reducible refine(XN _ _ m2 m0 _ (hnow.out.below hOn nR) (htx.out.below hOn nR) l1.out l2'.out).mono ?_)
          rintro e wf ⟨rfl,hnew⟩
          have hS:=Grown.trans hOn hnew
          rw[hb1]
          focus (go_wp2_with fail)
          refine hKz.out _ _ hS ?_
          clear hKz Kz hOn hS
          intro hOn
          try clear hnew
          try simp only[Act.put,sL,sZ,sS]
          refine tk 3 hOn ?_
          refine tk 4 hOn ?_ (v:=undef) (hy:=Or.inr ⟨by rfl,rfl⟩)
          refine tk 5 hOn ?_ (v:=undef) (hy:=Or.inr ⟨by rfl,rfl⟩)
          refine tk 6 hOn ?_ (v:=undef) (hy:=Or.inr ⟨by rfl,rfl⟩)
          refine tk 7 hOn ?_ (v:=undef) (hy:=Or.inr ⟨by rfl,rfl⟩)
          refine tk 8 hOn ?_
          refine tk 9 hOn ?_
          refine tk 10 hOn ?_ (v:=undef) (hy:=Or.inr ⟨by rfl,rfl⟩)
          refine tk 11 hOn ?_ (v:=undef) (hy:=Or.inr ⟨by rfl,rfl⟩)
          refine tk 12 hOn ?_ (v:=undef) (hy:=Or.inr ⟨by rfl,rfl⟩)
          refine tk 13 hOn ?_ (v:=undef) (hy:=Or.inr ⟨by rfl,rfl⟩)
          refine tk 14 hOn ?_
          refine tk 15 hOn ?_
          refine dnE ?_
          all_goals
           go_wp2_with fail
           go_ret
           exact⟨rfl,hfin.out _ hOn⟩
         | false=>
          cases hb2':XO m2 P9.m with
          | true=>
           refine wp_region_held_drew (S:=(Grown wx)) kX hd0.out (λhOn=>?_)
           generalize World.drew wx=wd at*
           refine tk 0 hOn ?_ (v:=Value.agg _) (hy:=Or.inl ⟨by rfl,λW hSW=>Zt _ _ rfl _ _ _ rfl (rlB W hSW) huB rfl hzB⟩)
           refine tk 1 hOn ?_ (v:=Value.agg _) (hy:=Or.inl ⟨by rfl,λW hSW=>Zt _ _ rfl _ _ _ rfl (rlA W hSW) huA rfl hzA⟩)
           refine rd 2 (λKz hKz=>?_)
           go_simp
           (with_reducible refine(XN _ _ m2 m0 _ (hnow.out.below hOn nR) (htx.out.below hOn nR) l1.out l2'.out).mono ?_)
           rintro e wf ⟨rfl,hnew⟩
           have hS:=Grown.trans hOn hnew
           rw[hb1]
           focus (go_wp2_with fail)
           refine hKz.out _ _ hS ?_
           clear hKz Kz hOn hS
           intro hOn
           try clear hnew
           try simp only[Act.put,sL,sZ,sS]
           refine tk 3 hOn ?_
           refine tk 4 hOn ?_ (v:=Value.agg _) (hy:=Or.inl ⟨by rfl,λW hSW=>Zt _ _ rfl _ _ _ rfl (rlB W hSW) huB rfl hzB⟩)
           refine tk 5 hOn ?_
           refine rd 6 (λKz hKz=>?_)
           go_simp
           (with_reducible refine(Xe (hL9x.out.below hOn) k1.out k2.out).mono ?_)
           rintro e wS ⟨vI,vE,rfl,hrI,hrE,hnew⟩
           have hS:=Grown.trans hOn hnew
           have hSm:=Hd (XJ hrI hrE)
           clear hrI hrE
           focus (go_wp2_with fail)
           refine hKz.out _ _ hS ?_
           clear hKz Kz hOn hS
           intro hOn
           try clear hnew
           try simp only[Act.put,sL,sZ,sS]
           refine rd 7 (λKz hKz=>?_)
           go_simp
           (with_reducible refine(XN _ _ m2 P9.m _ (hnow.out.below hOn nR) hSm.out l1.out l2'.out).mono ?_)
           rintro e wf ⟨rfl,hnew⟩
           have hS:=Grown.trans hOn hnew
           rw[hb2']
           focus (go_wp2_with fail)
           refine hKz.out _ _ hS ?_
           clear hKz Kz hOn hS
           intro hOn
           try clear hnew
           try simp only[Act.put,sL,sZ,sS]
           refine tk 8 hOn ?_
           refine tk 9 hOn ?_
           refine tk 10 hOn ?_ (v:=undef) (hy:=Or.inr ⟨by rfl,rfl⟩)
           refine tk 11 hOn ?_ (v:=undef) (hy:=Or.inr ⟨by rfl,rfl⟩)
           refine tk 12 hOn ?_ (v:=undef) (hy:=Or.inr ⟨by rfl,rfl⟩)
           refine tk 13 hOn ?_ (v:=undef) (hy:=Or.inr ⟨by rfl,rfl⟩)
           refine tk 14 hOn ?_
           refine tk 15 hOn ?_
           refine dnE ?_
           all_goals
            go_wp2_with fail
            go_ret
            exact⟨rfl,hfin.out _ hOn⟩
          | false=>
           replace hodd:=Hd (hodd.out hb1 hb2')
           refine wp_region_held_drew (S:=(Grown wx)) kX hd0.out (λhOn=>?_)
           generalize World.drew wx=wd at*
           refine tk 0 hOn ?_ (v:=Value.agg _) (hy:=Or.inl ⟨by rfl,λW hSW=>Zt _ _ rfl _ _ _ rfl (rlB W hSW) huB rfl hzB⟩)
           refine tk 1 hOn ?_ (v:=Value.agg _) (hy:=Or.inl ⟨by rfl,λW hSW=>Zt _ _ rfl _ _ _ rfl (rlA W hSW) huA rfl hzA⟩)
           refine rd 2 (λKz hKz=>?_)
           go_simp
           (with_reducible refine(XN _ _ m2 m0 _ (hnow.out.below hOn nR) (htx.out.below hOn nR) l1.out l2'.out).mono ?_)
           rintro e wf ⟨rfl,hnew⟩
           have hS:=Grown.trans hOn hnew
           rw[hb1]
           focus (go_wp2_with fail)
           refine hKz.out _ _ hS ?_
           clear hKz Kz hOn hS
           intro hOn
           try clear hnew
           try simp only[Act.put,sL,sZ,sS]
           refine tk 3 hOn ?_
           refine tk 4 hOn ?_ (v:=Value.agg _) (hy:=Or.inl ⟨by rfl,λW hSW=>Zt _ _ rfl _ _ _ rfl (rlB W hSW) huB rfl hzB⟩)
           refine tk 5 hOn ?_
           refine rd 6 (λKz hKz=>?_)
           go_simp
           (with_reducible refine(Xe (hL9x.out.below hOn) k1.out k2.out).mono ?_)
           rintro e wS ⟨vI,vE,rfl,hrI,hrE,hnew⟩
           have hS:=Grown.trans hOn hnew
           have hSm:=Hd (XJ hrI hrE)
           clear hrI hrE
           focus (go_wp2_with fail)
           refine hKz.out _ _ hS ?_
           clear hKz Kz hOn hS
           intro hOn
           try clear hnew
           try simp only[Act.put,sL,sZ,sS]
           refine rd 7 (λKz hKz=>?_)
           go_simp
           (with_reducible refine(XN _ _ m2 P9.m _ (hnow.out.below hOn nR) hSm.out l1.out l2'.out).mono ?_)
           rintro e wf ⟨rfl,hnew⟩
           have hS:=Grown.trans hOn hnew
           rw[hb2']
           focus (go_wp2_with fail)
           refine hKz.out _ _ hS ?_
           clear hKz Kz hOn hS
           intro hOn
           try clear hnew
           try simp only[Act.put,sL,sZ,sS]
           refine tk 8 hOn ?_
           refine tk 9 hOn ?_
           refine tk 10 hOn ?_
           refine tk 12 hOn ?_
           refine rd 11 (λKz hKz=>?_)
           go_simp
           (with_reducible refine(Vr (hL9x.out.below hOn) k3.out).mono ?_)
           rintro e wS ⟨vR,FR,rfl,hrR,hFR,hnew⟩
           have hS:=Grown.trans hOn hnew
           obtain⟨aR,cR,rfl,hAR⟩:=hrR.argBB
           have hAR2:=Hd hAR
           clear hrR hFR hAR
           focus (go_wp2_with fail)
           refine hKz.out _ _ hS ?_
           clear hKz Kz hOn hS
           intro hOn
           try clear hnew
           try simp only[Act.put,sL,sZ,sS]
           refine rd 13 (λKz hKz=>?_)
           go_simp
           (with_reducible refine(NC (hdx.out.below hOn) hn1.out hn2.out hn3.out P9.recs hq9.out _ _ hAR2.out (hRx.out _ hOn).1 (hRx.out _ hOn).2).mono ?_)
           rintro e wf ⟨rfl,hnew⟩
           have hS:=Grown.trans hOn hnew
           rw[hodd.out]
           focus (go_wp2_with fail)
           refine hKz.out _ _ hS ?_
           clear hKz Kz hOn hS
           intro hOn
           try clear hnew
           try simp only[Act.put,sL,sZ,sS]
           refine tk 14 hOn ?_
           refine tk 15 hOn ?_
           refine dnE ?_
           all_goals
            go_wp2_with fail
            go_ret
            exact⟨rfl,hfin.out _ hOn⟩
        ·obtain⟨hnq,hgd⟩:=hNe
         have hodd:Hid ((!(Yh (Z1 qD) P9.recs)&&XU z32J (Z1 qD) P9.recs)=true):=Hd (by
          rw[hqr.out,hr9.out]
          rcases hcases.out with ⟨_,q,_⟩|⟨q1,q2⟩
          ·exact absurd q hz0
          ·rw[q1,q2];rfl)
         replace hz0:=Hd hz0
         go_wp2_with fail
         with_reducible refine(Vr hL9.out k3.out).mono ?_
         rintro e wS ⟨vR,FR,rfl,hrR,hFR,hnew⟩
         obtain⟨aR,cR,rfl,hAR⟩:=hrR.argBB
         have hdx:=Hd (hdZ.out.below hnew)
         have hR1:=hRz.out.1.below hnew
         have hR2:=hRz.out.2.1.below hnew
         have ho9:=Hd (NC hdx.out hn1.out hn2.out hn3.out P9.recs hq9.out _ _ hAR hR1 hR2)
         replace hnew:=Hd hnew
         clear hrR hFR hAR hR1 hR2
         go_wp2_with fail
         with_reducible refine ho9.out.mono ?_
         clear ho9
         rintro e wf ⟨rfl,hnew2⟩
         rw[hodd.out]
         replace hnew2:=Hd hnew2
         go_wp2_with fail
         go_ret
         exact⟨rfl,hfin.out _ (hnew.out.trans (hnew2.out.mono hnew.out.size))⟩
theorem HO(a0:Option Addr)(cap0:Nat)(z0:List ActL)(kept torn:Int)(sc:Nat)(power:Int)(W:World)(w0:ArgL W a0 z0)(hk:inI kept)(ht:inI torn)(hs:sc<18446744073709551616)(hp:(Lit.int IntKind.i64 power).wf=true)(ea:Nat->Addr)(hE:Errs 298 errGs W ea)(hK:ShaK W)(hF:ShaF W)(hRK:RefK W)(hRF:RefF W) :
  Calls Tryz.prog 5 #[.slice a0 z0.length cap0,.agg #[.int .i64 kept,.int .i64 torn,.int .u64 (sc:Int)],.int .i64 power] W λx w'=>x=.returned (.bool true)/\Below W.heap.size W w':=
 Pk a0 cap0 z0 kept torn sc power W w0 hk ht hs (by simpa[Lit.wf,IntKind.min,IntKind.max,IntKind.signed,IntKind.bits] using hp) (λk=>match k with|0=>ea 0|1=>ea 7|_=>ea 13) ea ⟨hE.var 0 dX,hE.var 7 dX,hE.var 13 dX⟩ hE hK hF hRK hRF
end Go.Proofs.YtpdhceiodgnbmaaGreatDoor
