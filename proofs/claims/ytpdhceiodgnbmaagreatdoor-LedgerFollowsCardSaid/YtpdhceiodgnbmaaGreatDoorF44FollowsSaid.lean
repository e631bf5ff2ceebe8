import Derived.Test.YtpdhceiodgnbmaaGreatDoorF0FollowsSaid
import Derived.Test.YtpdhceiodgnbmaaGreatDoorF1FollowsSaid
import Derived.Test.YtpdhceiodgnbmaaGreatDoorF35FollowsSaid
import Derived.Test.YtpdhceiodgnbmaaGreatDoorF41FollowsSaid
import Derived.Test.YtpdhceiodgnbmaaGreatDoorF15FollowsSaid
import Derived.Test.YtpdhceiodgnbmaaGreatDoorF42FollowsSaid
import Derived.Test.YtpdhceiodgnbmaaGreatDoorF43FollowsSaid
import Derived.Test.YtpdhceiodgnbmaaGreatDoorF31FollowsSaid
set_option linter.unusedVariables false
set_option linter.unusedSimpArgs false
set_option linter.unnecessarySimpa false
set_option maxRecDepth 100000
set_option maxHeartbeats 8000000
namespace Go.Proofs.YtpdhceiodgnbmaaGreatDoor
open Go.RowKit
theorem ArgS.two{w:World}{C:Array Value}{m:St}(h:ArgS w (.agg C) m):C.size=2/\C.all (·.oneCell')=true:=by
 obtain⟨a,c,a',c',e,_⟩:=h.form
 cases e
 exact⟨rfl,by simp[Value.oneCell']⟩
theorem Rn{xs:List En}{j:Nat}(hj:j<xs.length)(h:xs[j].v=0):∃ hn:(ZB (xs.take j)).length<(ZB xs).length,(ZB xs)[(ZB (xs.take j)).length]=xs[j]:=by
 have e:ZB xs=ZB (xs.take j)++(xs[j]::ZB (xs.drop (j+1))):=by
  have e1:xs=xs.take j++(xs[j]::xs.drop (j+1)):=by rw[List.getElem_cons_drop,List.take_append_drop]
  have e2:ZB xs=ZB (xs.take j++(xs[j]::xs.drop (j+1))):=congrArg ZB e1
  rw[e2]
  unfold ZB
  rw[List.filter_append,List.filter_cons,if_pos (by simpa using h)]
 have e3:(ZB xs)[(ZB (xs.take j)).length]? = some xs[j]:=by rw[e];simp
 obtain⟨h1,h2⟩:=List.getElem?_eq_some_iff.1 e3
 exact⟨h1,h2⟩
theorem MF(ns:List It)(s:ByteArray):(Zx ns s).2=ns.any (λx=>decide (x.s=s)):=by
 unfold Zx
 cases hf:ns.findIdx? (λx=>decide (x.s=s)) with
 | none=>
  symm
  rw[List.any_eq_false]
  intro x hx
  simpa using List.findIdx?_eq_none_iff.1 hf x hx
 | some i=>
  obtain⟨hi,h1,_⟩:=List.findIdx?_eq_some_iff_getElem.1 hf
  symm
  rw[List.any_eq_true]
  exact⟨ns[i],List.getElem_mem hi,h1⟩
theorem GP(a0:Option Addr)(c0:Nat)(xs:List Rc)(nm:ByteArray)(q:Int)(w:World)(hx:RowAt Rc.list 78 w a0 xs)(okX:∀ x∈xs,x.Ok)(ea:Nat->Addr)(H:Errs 298 Zv w ea)(hK:ShaK w)(hF:ShaF w) :
  Calls Tryz.prog 4 #[.slice a0 xs.length c0,.string nm,.int .i64 q] w λx w'=>x=.returned (.bool true)/\Below w.heap.size w w':=by
 have hE:DErr w (λk=>match k with|0=>ea 0|1=>ea 7|_=>ea 13):=⟨H.var 0 dX,H.var 7 dX,H.var 13 dX⟩
 have hal:=Hd (GZ w _ hE hK hF ea H)
 obtain⟨N,hN⟩:∃ N,N=xs.length:=⟨_,rfl⟩
 rw[<-hN]
 clear hE hK hF
 by_cases h30:30<N
 ·have hlt:(30:Int)<(N:Int):=oX
  clear hx okX H
  go_enter Tryz.func4,Tryz.ntmps4
  go_wp2_with fail
  with_reducible refine hal.out.mono ?_
  rintro e w1 ⟨rfl,hb1⟩
  replace hb1:=Hd hb1
  clear hal h30
  go_wp2_with fail
  go_ret
  exact⟨rfl,hb1.out⟩
 have hlt30:¬(30:Int)<(N:Int):=oX
 obtain⟨NL,hNL⟩:∃ NL,NL=nm.size:=⟨_,rfl⟩
 by_cases h100:100<nm.size
 ·have hltn:(100:Int)<(nm.size:Int):=oX
  clear hx okX H
  go_enter Tryz.func4,Tryz.ntmps4
  go_wp2_with fail
  with_reducible refine hal.out.mono ?_
  rintro e w1 ⟨rfl,hb1⟩
  replace hb1:=Hd hb1
  clear hal h30
  go_wp2_with fail
  go_ret
  exact⟨rfl,hb1.out⟩
 have hltn:¬(100:Int)<(nm.size:Int):=oX
 have iS:(Tryz.prog.info? 28).map (·.size)=some (#[.slice none 0 0,.slice none 0 0]:Array Value).size:=kX
 have iR:(Tryz.prog.info? 36).map (·.size)=some (#[.slice none 0 0,.slice none 0 0]:Array Value).size:=kX
 have i78:(Tryz.prog.info? 49).map (·.size)=some 78:=kX
 have z78:(Tryz.zeroCells49).size=78:=kX
 have huS:=Tryz.underlying28
 have huR:=Tryz.underlying36
 have huX:=Tryz.underlying49
 replace hx:=Hd hx
 replace okX:=Hd okX
 replace hN:=Hd hN
 replace H:=Hd H
 clear h30 h100
 go_enter Tryz.func4,Tryz.ntmps4
 go_wp2_with fail
 with_reducible refine hal.out.mono ?_
 clear hal
 rintro e w1 ⟨rfl,hb1⟩
 obtain⟨aS,aR,hs2,hB⟩:=QI w1 #[.slice none 0 0,.slice none 0 0] #[.slice none 0 0,.slice none 0 0] 28 36 _ rfl
 have hB2:=Hd (hb1.trans (hB.mono hb1.size))
 obtain⟨w2,hw2⟩:∃ w2,w2=(w1.alloc (.cells #[.slice none 0 0,.slice none 0 0] 28)).alloc (.cells #[.slice none 0 0,.slice none 0 0] 36):=⟨_,rfl⟩
 rw[<-hw2] at aS aR hs2 hB2
 replace aS:=Hd aS
 replace aR:=Hd aR
 replace hs2:=Hd hs2
 replace hb1:=Hd hb1
 replace hw2:=Hd hw2
 clear hB
 go_wp2_with fail
 rw[<-hw2.out]
 clear hw2
 have hbS:=hb1.out.size
 generalize w1.heap.size=bS at*
 refine Z8 [(false,10),(true,5),(false,25),(true,53),(false,91)] _ [] (λU wr=>∃ (k:Nat) (m:St) (C D:Array Value),k<=N/\U 40=.int .i64 (k:Nat)/\Below w.heap.size w wr/\wr.heap[bS]? = some (.cells C 28 (0,0))/\wr.heap[bS+1]? = some (.cells D 36 (0,0))/\ArgS wr (.agg C) m/\FreshS (bS+2) (.agg C)/\ArgS wr (.agg D) m/\FreshS (bS+2) (.agg D)/\SB k m/\NDS m.its) (λU _=>N-(intOf (U 40)).toNat) ?_ ?_
 ·simp only[List.getD_cons_zero,List.getD_cons_succ]
  exact⟨0,⟨[],[]⟩,_,_,Nat.zero_le _,rfl,hB2.out,aS.out,aR.out,ZC _,Zz _,ZC _,Zz _,QA 0,Qo⟩
 ·clear aS aR hB2
  intro U wr hrel KK hback l' hl'
  obtain⟨k,m,C,D,hk,hU0,hbw,aS,aR,hmC,hfC,hmD,hfD,hsb,hnd⟩:=hrel
  simp only[ZR,ZD,cond_true,cond_false,Nat.reduceAdd,hU0] at hl'
  subst hl'
  obtain⟨hC2,h1C⟩:C.size=2/\C.all (·.oneCell')=true:=by
   obtain⟨a,c,a',c',e,_⟩:=hmC.form
   cases e
   exact⟨rfl,by simp[Value.oneCell']⟩
  obtain⟨hD2,h1D⟩:D.size=2/\D.all (·.oneCell')=true:=by
   obtain⟨a,c,a',c',e,_⟩:=hmD.form
   cases e
   exact⟨rfl,by simp[Value.oneCell']⟩
  have iC:(Tryz.prog.info? 28).map (·.size)=some C.size:=by rw[hC2];exact iS
  have iD:(Tryz.prog.info? 36).map (·.size)=some D.size:=by rw[hD2];exact iR
  have hl1:=Hd (show m.its.length<=1000 by have:=hsb.its;omega)
  have hl2:=Hd (show m.ens.length<=1000 by have:=hsb.ens;omega)
  have hub:=Hd (show ∀ y∈m.its,y.u<=1000000/\y.r<=1000000 from λy hy=>by have:=hsb.us y hy;omega)
  have hszw:=hbw.size
  replace hU0:=Hd hU0
  replace hbw:=Hd hbw
  replace aS:=Hd aS
  replace aR:=Hd aR
  replace hmC:=Hd hmC
  replace hmD:=Hd hmD
  replace hfC:=Hd hfC
  replace hfD:=Hd hfD
  replace hsb:=Hd hsb
  replace hnd:=Hd hnd
  by_cases hlt:k<N
  ·have hlt2:(k:Int)<(N:Int):=oX
   have hkN:k<xs.length:=by rw[<-hN.out];exact hlt
   obtain⟨b1,o1,rfl,hr⟩:=(hx.out.below hbw.out nR) k hkN
   have hox:=okX.out _ (List.getElem_mem hkN)
   generalize xs[k]=x at*
   have hX78:x.list.toArray.size=78:=Rc.size hox
   have iXl:(Tryz.prog.info? 49).map (·.size)=some x.list.length:=by rw[<-List.size_toArray,hX78];exact i78
   have r3:=Rc.at3 x
   have hof:=Hd (λW=>Ty x hox W)
   have hfo:=Hd (λW vm (hv:ArgS W vm m) (HW:Errs 298 Zv W ea)=>Jo vm m x hox W hv hl1.out hl2.out hub.out ea HW)
   have hrf:=Hd (λW vm (hv:ArgS W vm m)=>G1 vm m x hox W hv hl1.out hl2.out hub.out)
   have hX3:x.list.toArray[3]? = some (.string x.name):=by rw[Array.getElem?_eq_getElem (by rw[hX78];decide),r3]
   obtain⟨X,hX⟩:∃ X,X=x.list.toArray:=⟨_,rfl⟩
   rw[<-hX] at hX3
   replace hX3:=Hd hX3
   rw[<-hX] at hof hfo hrf hX78
   have iX:(Tryz.prog.info? 49).map (·.size)=some X.size:=by rw[hX78];exact i78
   have zX:(Tryz.zeroCells49).size=X.size:=by rw[hX78];exact z78
   have h1X:X.all (·.oneCell')=true:=by rw[hX];exact Rc.all_one x
   have hZw:=Hd (heap_alloc_new wr (.cells Tryz.zeroCells49 49))
   replace hX:=Hd hX
   replace hr:=Hd hr
   replace hox:=Hd hox
   by_cases hnm:100<x.name.size
   ·have hnm2:(100:Int)<(x.name.size:Int):=oX
    clear hback hfo
    go_wp2_with (first
     | (refine wpList_load_mid rfl 49 (.tmp 42) rfl b1 (o1+k*78) rfl x.list _ hr.out huX rfl iXl ?_;rw[<-hX.out])
     | ((with_reducible refine wL (.store 49 (.tmp 10) _) ?_);(refine Zc rfl 49 (.tmp 10) (.tmp 43) rfl wr.heap.size _ X rfl rfl hZw iX zX h1X ?_);intro w3 hU3;have hb3:Below wr.heap.size wr w3:=(Below.alloc (Below.refl wr.heap.size wr) nR _).trans (hU3.out.below nR);have hc3:w3.cell? ⟨wr.heap.size,3,none⟩=some (.string x.name):=(by rw[Za hU3.out.here];exact hX3.out);replace hb3:=Hd hb3))
    go_ret
    exact⟨rfl,hbw.out.trans (hb3.out.mono hszw)⟩
   have hnm2:¬(100:Int)<(x.name.size:Int):=oX
   clear hnm
   go_wp2_with (first
    | (refine wpList_load_mid rfl 49 (.tmp 42) rfl b1 (o1+k*78) rfl x.list _ hr.out huX rfl iXl ?_;rw[<-hX.out])
    | ((with_reducible refine wL (.store 49 (.tmp 10) _) ?_);(refine Zc rfl 49 (.tmp 10) (.tmp 43) rfl wr.heap.size _ X rfl rfl hZw iX zX h1X ?_);intro w3 hU3;have hb3:Below wr.heap.size wr w3:=(Below.alloc (Below.refl wr.heap.size wr) nR _).trans (hU3.out.below nR);have hc3:w3.cell? ⟨wr.heap.size,3,none⟩=some (.string x.name):=(by rw[Za hU3.out.here];exact hX3.out);replace hb3:=Hd hb3;have aX3:=Hd hU3.out.here;replace aS:=Hd ((hb3.out.block _ (Zb aS.out)).trans aS.out);replace aR:=Hd ((hb3.out.block _ (Zb aR.out)).trans aR.out);replace hmC:=Hd (hmC.out.below hb3.out nR);replace hmD:=Hd (hmD.out.below hb3.out nR);have hbw3:=Hd (hbw.out.trans (hb3.out.mono hszw));have hfo3:=Hd (hfo.out w3 _ hmC.out (H.out.below hbw3.out));clear hU3 hb3 hfo hr)
    | ((with_reducible refine wL (.load 28 (.tmp 7)) ?_);refine Ze rfl 28 (.tmp 7) rfl bS C _ rfl aS huS rfl iC ?_)
    | ((with_reducible refine wL (.load 49 (.tmp 10)) ?_);refine Ze rfl 49 (.tmp 10) rfl wr.heap.size X _ rfl aX3 huX rfl iX ?_))
   have hsz3:=hbw3.out.size
   with_reducible refine hfo3.out.mono ?_
   clear hfo3
   rintro e w4 ⟨vm,v4,rfl,hm4,hv4,hb4,hf4⟩
   obtain⟨FF,hFF⟩:∃ FF,FF=Zr m x:=⟨_,rfl⟩
   rw[<-hFF] at hm4 hv4 hrf
   obtain⟨C4,rfl⟩:∃ C4,vm=.agg C4:=by
    obtain⟨a,c,a',c',e⟩:=hm4.shape
    exact⟨_,e⟩
   obtain⟨hC42,h1C4⟩:=hm4.two
   have iC4:(Tryz.prog.info? 28).map (·.size)=some C4.size:=by rw[hC42];exact iS
   have zC4:(#[.slice none 0 0,.slice none 0 0]:Array Value).size=C4.size:=by rw[hC42];rfl
   have hZ4:=Hd (heap_alloc_new w4 (.cells #[.slice none 0 0,.slice none 0 0] 28))
   have hbs3:bS+2<=w3.heap.size:=Zb aR.out
   replace aX3:=Hd ((hb4.block _ (Zb aX3.out)).trans aX3.out)
   replace aS:=Hd ((hb4.block _ (Zb aS.out)).trans aS.out)
   replace aR:=Hd ((hb4.block _ (Zb aR.out)).trans aR.out)
   replace hmC:=Hd (hmC.out.below hb4 nR)
   replace hmD:=Hd (hmD.out.below hb4 nR)
   have hbw4:=Hd (hbw3.out.trans (hb4.mono hsz3))
   have hsz4:=hbw4.out.size
   have hz34:=hb4.size
   replace hm4:=Hd hm4
   replace hv4:=Hd hv4
   replace hFF:=Hd hFF
   have hf4':=Hd (hf4.mono (B':=bS+2) hbs3)
   have hb11:Hid (bS+2<=w4.heap.size):=Hd oX
   replace hf4:=Hd hf4
   clear hb4
   go_wp2_with ((with_reducible refine wL (.store 28 (.tmp 11) _) ?_);(refine Zc rfl 28 (.tmp 11) (.tmp 52) rfl w4.heap.size _ C4 rfl rfl hZ4 iC4 zC4 h1C4 ?_);intro w5 hU5;have hb5:Below w4.heap.size w4 w5:=(Below.alloc (Below.refl w4.heap.size w4) nR _).trans (hU5.out.below nR);have aC5:=Hd hU5.out.here;replace hb5:=Hd hb5)
   replace aX3:=Hd ((hb5.out.block _ (Zb aX3.out)).trans aX3.out)
   replace aS:=Hd ((hb5.out.block _ (Zb aS.out)).trans aS.out)
   replace aR:=Hd ((hb5.out.block _ (Zb aR.out)).trans aR.out)
   replace hmC:=Hd (hmC.out.below hb5.out nR)
   replace hmD:=Hd (hmD.out.below hb5.out nR)
   replace hm4:=Hd (hm4.out.below hb5.out nR)
   replace hv4:=Hd (hv4.out.below hb5.out)
   have hbw5:=Hd (hbw4.out.trans (hb5.out.mono hsz4))
   have hsz5:=hbw5.out.size
   clear hb5 hU5 hbw3 hbw4 hsz3 hsz4 hz34
   generalize w4.heap.size=b11 at*
   generalize wr.heap.size=b10 at*
   have rlA:∀ W:World,Grown w5 W->W.heap[bS+1]? = some (.cells D 36 (0,0)):=λW hW=>(hW.block _ (Zb aR.out)).trans aR.out
   have huA:=huR
   have hzA:=iD
   have rlB:∀ W:World,Grown w5 W->W.heap[b10]? = some (.cells X 49 (0,0)):=λW hW=>(hW.block _ (Zb aX3.out)).trans aX3.out
   have huB:=huX
   have hzB:=iX
   have hd0:Hid (Grown w5 w5.drew):=Hd (Grown.drew (Grown.refl w5))
   go_cut [13,14] from 54 to 60 (λs13 s14 wx=>∃ g D6,s13=.pointer (some ⟨g,0,none⟩)/\s14=.int .i64 (FF.2:Nat)/\wx.heap[g]? = some (.cells D6 36 (0,0))/\w5.heap.size<=g/\ArgS wx (.agg D6) FF.1/\FreshS w5.heap.size (.agg D6)/\Grown w5 wx)
   case first=>
    clear hback
    refine wp_region_held_drew (S:=(Grown w5)) kX hd0.out (λhOn=>?_)
    generalize World.drew w5=wd at*
    refine tk 0 hOn ?_ (v:=Value.agg _) (hy:=Or.inl ⟨by rfl,λW hSW=>Zi _ _ rfl _ _ _ rfl (rlA W hSW) huA rfl hzA⟩)
    refine tk 1 hOn ?_ (v:=Value.agg _) (hy:=Or.inl ⟨by rfl,λW hSW=>Zi _ _ rfl _ _ _ rfl (rlB W hSW) huB rfl hzB⟩)
    repeat' first
     | exact AllReadyH.nil
     |
      first|refine acI 2 (λKz hKz=>?_) ?_|refine rdK 2 (λKz hKz=>?_)
      go_simp
      (with_reducible refine(hof.out _).mono ?_)
      rintro e wa ⟨rfl,hnew⟩
      have hS:=Grown.trans hOn hnew
      (try replace hZ:=Hd ((hnew.block _ (Zb hZ.out)).trans hZ.out))
      focus (go_wp2_with fail)
      refine hKz.out _ _ hS ?_
      clear hKz Kz hOn hS
      intro hOn
      try clear hnew
      try simp only[Act.put,sL,sZ,sS]
     |
      first|refine acI 3 (λKz hKz=>?_) ?_|refine rdK 3 (λKz hKz=>?_)
      go_simp
      (with_reducible refine(hrf.out _ _ (hmD.out.below hOn nR)).mono ?_)
      (try have hZl:=Zb hZ.out)
      rintro e wb ⟨vr,rfl,hmr,hnew,hfr⟩
      obtain⟨D6,rfl⟩:∃ D6,vr=.agg D6:=(by obtain⟨a,c,a',c',e⟩:=hmr.shape;exact⟨_,e⟩)
      have hfr5:=Hd (hfr.mono hOn.size)
      have hS:=Grown.trans hOn hnew
      have hD2:=Hd hmr.two
      have iD6:=Hd (show (Tryz.prog.info? 36).map (·.size)=some D6.size from iR.trans (congrArg some (show 2=D6.size from hD2.out.1.symm)))
      have zD6:=Hd (show (#[.slice none 0 0,.slice none 0 0]:Array Value).size=D6.size from(show 2=D6.size from hD2.out.1.symm))
      replace hmr:=Hd hmr
      replace hfr:=Hd hfr
      (try replace hZ:=Hd ((hnew.block _ (Zb hZ.out)).trans hZ.out))
      focus (go_wp2_with fail)
      refine hKz.out _ _ hS ?_
      clear hKz Kz hOn hS
      intro hOn
      try clear hnew
      try simp only[Act.put,sL,sZ,sS]
     |
      first|refine acI 7 (λKz hKz=>?_) ?_|refine rdK 7 (λKz hKz=>?_)
      go_simp
      focus (try go_wp2_with fail)
      (with_reducible refine Z0 (t:=36) ?_)
      have hZg:=Hd hOn.size
      intro wZ hZ hnew
      (try have hmz:=hmr)
      have hgz:=Hd hnew
      (try replace hmr:=Hd (hmr.out.below hnew nR))
      refine hKz.out _ _ (Below.trans hOn (Below.mono hnew (Below.size hOn))) ?_
      clear hKz Kz hOn
      intro hOn
      try clear hnew
      try simp only[Act.put,sL,sZ,sS]
     | refine tkK 4 hOn ?_
     | refine tkK 5 hOn ?_
     | refine tkK 6 hOn ?_
     | refine Qv [2,7] ?_
     | refine Qv [3,7] ?_
     | fail
    all_goals
     refine rd 8 (λKz hKz=>?_)
     rw[if_pos (by rfl)]
     (with_reducible refine Zl 36 (.tmp 13) (.tmp 59) rfl _ #[.slice none 0 0,.slice none 0 0] D6 rfl rfl hZ iD6.out zD6.out hD2.out.2 ?_)
     intro w9 hU9
     have hS:=Below.trans hOn (hU9.out.below hZg.out)
     have hm9:=Hd (show ArgS w9 (.agg D6) FF.1 from(by first|exact hmr.out.upd hfr.out hU9.out hZl|exact hmz.out.below (Below.trans hgz.out (hU9.out.below nR)) nR))
     have a13:=Hd hU9.out.here
     refine hKz.out _ _ hS ?_
     clear hKz Kz hOn hS
     intro hOn
     try simp only[Act.put]
     refine tk 9 hOn ?_
     refine dnE ?_
    all_goals
     go_wp2_with fail
     go_meet
     exact⟨_,_,rfl,rfl,a13.out,hZg.out,hm9.out,hfr5.out,hOn⟩
   case rest=>
    obtain⟨g,D6,rfl,rfl,a13,hg13,hm6,hf6,hgw⟩:=hcut
    generalize wc=wx at*
    have hD62:=hm6.two
    have iD6:Hid ((Tryz.prog.info? 36).map (·.size)=some D6.size):=Hd (iR.trans (congrArg some (show 2=D6.size from hD62.1.symm)))
    have zD6:Hid (D.size=D6.size):=Hd (by rw[hD2,hD62.1])
    replace hD62:=Hd hD62
    have aS6:=Hd ((hgw.block _ (Zb aS.out)).trans aS.out)
    have aR6:=Hd ((hgw.block _ (Zb aR.out)).trans aR.out)
    have aC6:=Hd ((hgw.block _ (Zb aC5.out)).trans aC5.out)
    have hmC6:=Hd (hmC.out.below hgw nR)
    have hmD6:=Hd (hmD.out.below hgw nR)
    have hm46:=Hd (hm4.out.below hgw nR)
    have hv6:=Hd (hv4.out.below hgw)
    have hbw6:=Hd (hbw5.out.trans (hgw.mono hsz5))
    have hsz6:=hbw6.out.size
    have hsb1:=Hd (show SB (k+1) FF.1 by rw[hFF.out];exact Ht hsb.out x)
    have hl3:=Hd (show FF.1.its.length<=1000 by have:=hsb1.out.its;omega)
    have hl4:=Hd (show FF.1.ens.length<=1000 by have:=hsb1.out.ens;omega)
    have hf6':=Hd (hf6.mono (B':=bS+2) (by have:=Zb aR.out;omega))
    have hbs5:=Hd (show bS+2<=g by have:=Zb aR.out;omega)
    replace a13:=Hd a13
    replace hm6:=Hd hm6
    clear hgw hmC hmD hm4 hv4 aS aR aC5 rlA rlB huA huB hzA hzB hof hrf hd0 hf6
    go_wp2_with fail
    have hgb:bS+2<=g:=by have:=hbs5.out;omega
    have hnd1:=Hd (show NDS FF.1.its by rw[hFF.out];exact NQ hnd.out x)
    obtain⟨fn,hfn⟩:∃ fn:Int,fn=((FF.2:Nat):Int):=⟨_,rfl⟩
    have hnn:(fn != fn)=false:=sX
    simp only[<-hfn]
    obtain⟨q2,hq2⟩:∃ q2,q2=Qj FF.1 m:=⟨_,rfl⟩
    have hqq:(q2 != q2)=false:=sX
    have hsr:=Hd (show Qj FF.1 FF.1=true by simp[Qj])
    have hsr2:=Hd (show Qj m m=true by simp[Qj])
    replace hfn:=Hd hfn
    replace hq2:=Hd hq2
    have rlA:∀ W:World,Grown wx W->W.heap[b11]? = some (.cells C4 28 (0,0)):=λW hW=>(hW.block _ (Zb aC6.out)).trans aC6.out
    have huA:=huS
    have hzA:=iC4
    have rlB:∀ W:World,Grown wx W->W.heap[g]? = some (.cells D6 36 (0,0)):=λW hW=>(hW.block _ (Zb a13.out)).trans a13.out
    have huB:=huR
    have hzB:=iD6.out
    have rlC:∀ W:World,Grown wx W->W.heap[bS]? = some (.cells C 28 (0,0)):=λW hW=>(hW.block _ (Zb aS6.out)).trans aS6.out
    have huC:=huS
    have hzC:=iC
    have rlD:∀ W:World,Grown wx W->W.heap[bS+1]? = some (.cells D 36 (0,0)):=λW hW=>(hW.block _ (Zb aR6.out)).trans aR6.out
    have huD:=huR
    have hzD:=iD
    have hd0:Hid (Grown wx wx.drew):=Hd (Grown.drew (Grown.refl wx))
    go_cut [87] from 61 to 87 (λs87 wy=>s87=.bool false/\Grown wx wy)
    case first=>
     clear hback
     refine wp_region_held_drew (S:=(Grown wx)) kX hd0.out (λhOn=>?_)
     generalize World.drew wx=wd at*
     refine tk 0 hOn ?_
     refine tk 2 hOn ?_
     refine rd 1 (λKz hKz=>?_)
     go_simp
     (with_reducible refine(HS (hv6.out.below hOn) (H.out.below (hbw6.out.trans (hOn.mono hsz6)))).mono ?_)
     rintro e wa ⟨rfl,hnew⟩
     have hS:=Grown.trans hOn hnew
     rw[<-hfn.out]
     focus (go_wp2_with fail)
     refine hKz.out _ _ hS ?_
     clear hKz Kz hOn hS
     intro hOn
     try clear hnew
     try simp only[Act.put,sL,sZ,sS]
     refine tk 3 hOn ?_
     refine tk 4 hOn ?_
     refine tk 5 hOn ?_ (v:=Value.agg _) (hy:=Or.inl ⟨by rfl,λW hSW=>Zi _ _ rfl _ _ _ rfl (rlA W hSW) huA rfl hzA⟩)
     refine tk 7 hOn ?_ (v:=Value.agg _) (hy:=Or.inl ⟨by rfl,λW hSW=>Zi _ _ rfl _ _ _ rfl (rlB W hSW) huB rfl hzB⟩)
     refine rd 6 (λKz hKz=>?_)
     go_simp
     (with_reducible refine(Vf (.agg C4) FF.1 _ (hm46.out.below hOn nR) hl3.out hl4.out).mono ?_)
     rintro e wc ⟨vc1,vc2,rfl,hr5,hr6,hnew⟩
     have hS:=Grown.trans hOn hnew
     have hS1:=Hd (Q8 hr5 hr6)
     clear hr5 hr6
     focus (go_wp2_with fail)
     refine hKz.out _ _ hS ?_
     clear hKz Kz hOn hS
     intro hOn
     try clear hnew
     try simp only[Act.put,sL,sZ,sS]
     refine rd 8 (λKz hKz=>?_)
     go_simp
     (with_reducible refine(Jq _ _ FF.1 FF.1 _ hS1.out (hm6.out.below hOn nR) hl3.out hl4.out).mono ?_)
     rintro e wf ⟨rfl,hnew⟩
     have hS:=Grown.trans hOn hnew
     rw[hsr.out]
     focus (go_wp2_with fail)
     refine hKz.out _ _ hS ?_
     clear hKz Kz hOn hS
     intro hOn
     try clear hnew
     try simp only[Act.put,sL,sZ,sS]
     refine tk 9 hOn ?_
     refine tk 10 hOn ?_
     refine tk 11 hOn ?_
     refine tk 12 hOn ?_ (v:=Value.agg _) (hy:=Or.inl ⟨by rfl,λW hSW=>Zi _ _ rfl _ _ _ rfl (rlC W hSW) huC rfl hzC⟩)
     refine tk 14 hOn ?_ (v:=Value.agg _) (hy:=Or.inl ⟨by rfl,λW hSW=>Zi _ _ rfl _ _ _ rfl (rlD W hSW) huD rfl hzD⟩)
     refine rd 13 (λKz hKz=>?_)
     go_simp
     (with_reducible refine(Vf (.agg C) m _ (hmC6.out.below hOn nR) hl1.out hl2.out).mono ?_)
     rintro e wc ⟨vd1,vd2,rfl,hr5,hr6,hnew⟩
     have hS:=Grown.trans hOn hnew
     have hS2:=Hd (Q8 hr5 hr6)
     clear hr5 hr6
     focus (go_wp2_with fail)
     refine hKz.out _ _ hS ?_
     clear hKz Kz hOn hS
     intro hOn
     try clear hnew
     try simp only[Act.put,sL,sZ,sS]
     refine rd 15 (λKz hKz=>?_)
     go_simp
     (with_reducible refine(Jq _ _ m m _ hS2.out (hmD6.out.below hOn nR) hl1.out hl2.out).mono ?_)
     rintro e wf ⟨rfl,hnew⟩
     have hS:=Grown.trans hOn hnew
     rw[hsr2.out]
     focus (go_wp2_with fail)
     refine hKz.out _ _ hS ?_
     clear hKz Kz hOn hS
     intro hOn
     try clear hnew
     try simp only[Act.put,sL,sZ,sS]
     refine tk 16 hOn ?_
     refine tk 17 hOn ?_
     refine tk 18 hOn ?_
     refine tk 19 hOn ?_ (v:=Value.agg _) (hy:=Or.inl ⟨by rfl,λW hSW=>Zi _ _ rfl _ _ _ rfl (rlA W hSW) huA rfl hzA⟩)
     refine tk 20 hOn ?_ (v:=Value.agg _) (hy:=Or.inl ⟨by rfl,λW hSW=>Zi _ _ rfl _ _ _ rfl (rlC W hSW) huC rfl hzC⟩)
     refine tk 22 hOn ?_ (v:=Value.agg _) (hy:=Or.inl ⟨by rfl,λW hSW=>Zi _ _ rfl _ _ _ rfl (rlB W hSW) huB rfl hzB⟩)
     refine tk 23 hOn ?_ (v:=Value.agg _) (hy:=Or.inl ⟨by rfl,λW hSW=>Zi _ _ rfl _ _ _ rfl (rlD W hSW) huD rfl hzD⟩)
     refine rd 21 (λKz hKz=>?_)
     go_simp
     (with_reducible refine(MW _ _ FF.1 m _ (hm46.out.below hOn nR) (hmC6.out.below hOn nR) hl3.out hl4.out).mono ?_)
     rintro e wf ⟨rfl,hnew⟩
     have hS:=Grown.trans hOn hnew
     rw[<-hq2.out]
     focus (go_wp2_with fail)
     refine hKz.out _ _ hS ?_
     clear hKz Kz hOn hS
     intro hOn
     try clear hnew
     try simp only[Act.put,sL,sZ,sS]
     refine rd 24 (λKz hKz=>?_)
     go_simp
     (with_reducible refine(Jq _ _ FF.1 m _ (hm6.out.below hOn nR) (hmD6.out.below hOn nR) hl3.out hl4.out).mono ?_)
     rintro e wf ⟨rfl,hnew⟩
     have hS:=Grown.trans hOn hnew
     rw[<-hq2.out]
     focus (go_wp2_with fail)
     refine hKz.out _ _ hS ?_
     clear hKz Kz hOn hS
     intro hOn
     try clear hnew
     try simp only[Act.put,sL,sZ,sS]
     refine tk 25 hOn ?_
     refine tk 26 hOn ?_
     refine dnE ?_
     all_goals
      go_wp2_with fail
      go_meet
      exact⟨rfl,hOn⟩
    case rest=>
     obtain⟨rfl,hgw7⟩:=hcut
     generalize wc=wy at*
     have aS7:=Hd ((hgw7.block _ (Zb aS6.out)).trans aS6.out)
     have aR7:=Hd ((hgw7.block _ (Zb aR6.out)).trans aR6.out)
     have aC7:=Hd ((hgw7.block _ (Zb aC6.out)).trans aC6.out)
     have aD7:=Hd ((hgw7.block _ (Zb a13.out)).trans a13.out)
     have hmC7:=Hd (hmC6.out.below hgw7 nR)
     have hmD7:=Hd (hmD6.out.below hgw7 nR)
     have hm47:=Hd (hm46.out.below hgw7 nR)
     have hm67:=Hd (hm6.out.below hgw7 nR)
     have hbw7:=Hd (hbw6.out.trans (hgw7.mono hsz6))
     have hsz7:=hbw7.out.size
     clear hgw7 hv6 aS6 aR6 aC6 a13 hmC6 hmD6 hm46 hm6 rlA rlB rlC rlD huA huB huC huD hzA hzB hzC hzD hd0 hsr hsr2 hqq hq2 hnn hbw6 hsz6
     by_cases hz:FF.2=0
     rotate_left
     ·have hz0:(fn==0)=false:=by rw[hfn.out];simpa using hz
      replace hz:=Hd hz
      replace hmC7:=Hd hmC7
      go_wp2_with fail
      refine hback.out _ _ kX ?_ ?_
      ·simp only[List.getD_cons_zero,List.getD_cons_succ]
       exact⟨k+1,m,C,D,oX,by go_num,hbw7.out,aS7.out,aR7.out,hmC7.out.out,hfC.out,hmD7.out,hfD.out,hsb.out.mono oX,hnd.out⟩
      ·have hU0:=hU0.out
       simp only[List.getD_cons_zero,List.getD_cons_succ,hU0,intOf]
       omega
     have hz0:(fn==0)=true:=by rw[hfn.out];simp[hz]
     replace hz:=Hd hz
     go_wp2_with fail
     have hgr:=Grown.drew (Grown.refl wy)
     have hd0:Hid (Only (λk=>k=bS\/k=bS+1) wy wy.drew):=Hd (Only.ofBelow hgr)
     have aSd:Hid (wy.drew.heap[bS]? = some (.cells C 28 (0,0))):=Hd ((hgr.block _ (Zb aS7.out)).trans aS7.out)
     have aRd:Hid (wy.drew.heap[bS+1]? = some (.cells D 36 (0,0))):=Hd ((hgr.block _ (Zb aR7.out)).trans aR7.out)
     have hm4d:Hid (ArgS wy.drew (.agg C4) FF.1):=Hd (hm47.out.below hgr nR)
     have hm6d:Hid (ArgS wy.drew (.agg D6) FF.1):=Hd (hm67.out.below hgr nR)
     have rlA:∀ W:World,Only (λk=>k=bS\/k=bS+1) wy W->W.heap[b11]? = some (.cells C4 28 (0,0)):=λW hW=>hW.heap aC7.out (by have:=hb11.out;omega)
     have huA:=huS
     have hzA:=iC4
     have rlB:∀ W:World,Only (λk=>k=bS\/k=bS+1) wy W->W.heap[g]? = some (.cells D6 36 (0,0)):=λW hW=>hW.heap aD7.out oX
     have huB:=huR
     have hzB:=iD6.out
     have zC:=Hd (show C.size=C4.size by rw[hC2,hC42])
     have zD:=zD6
     have hD61:=Hd hm67.out.two
     clear hgr
     refine wp_region_held_drew (S:=(Only (λk=>k=bS\/k=bS+1) wy)) kX hd0.out (λhOn=>?_)
     generalize World.drew wy=wd at*
     refine tk 0 hOn ?_ (v:=Value.agg _) (hy:=Or.inl ⟨by rfl,λW hSW=>Zi _ _ rfl _ _ _ rfl (rlA W hSW) huA rfl hzA⟩)
     refine tk 1 hOn ?_ (v:=Value.agg _) (hy:=Or.inl ⟨by rfl,λW hSW=>Zi _ _ rfl _ _ _ rfl (rlB W hSW) huB rfl hzB⟩)
     refine rd 2 (λKz hKz=>?_)
     rw[if_pos (by rfl)]
     (with_reducible refine Zl 28 (.tmp 7) (.tmp 90) rfl bS C C4 rfl rfl aSd iC4 zC.out h1C4 ?_)
     intro w8 hU8
     have hS:Only (λk=>k=bS\/k=bS+1) wy w8:=Only.trans hOn (Only.ofUpd (D:=λk=>k=bS\/k=bS+1) hU8.out (.inl rfl)) (λk _ h=>h)
     have aSf:=Hd hU8.out.here
     (try replace aRd:=Hd ((hU8.out.block _ oX).trans aRd.out))
     (try replace aRf:=Hd ((hU8.out.block _ oX).trans aRf.out))
     replace hm4d:=Hd (hm4d.out.upd hf4'.out hU8.out oX)
     replace hm6d:=Hd (hm6d.out.upd hf6'.out hU8.out oX)
     refine hKz.out _ _ hS ?_
     clear hKz Kz hOn hS
     intro hOn
     try simp only[Act.put]
     refine rd 3 (λKz hKz=>?_)
     rw[if_pos (by rfl)]
     (with_reducible refine Zl 36 (.tmp 8) (.tmp 91) rfl (bS+1) D D6 rfl rfl aRd iD6.out zD.out hD61.out.2 ?_)
     intro w9 hU9
     have hS:Only (λk=>k=bS\/k=bS+1) wy w9:=Only.trans hOn (Only.ofUpd (D:=λk=>k=bS\/k=bS+1) hU9.out (.inr rfl)) (λk _ h=>h)
     have aRf:=Hd hU9.out.here
     (try replace aSd:=Hd ((hU9.out.block _ oX).trans aSd.out))
     (try replace aSf:=Hd ((hU9.out.block _ oX).trans aSf.out))
     replace hm4d:=Hd (hm4d.out.upd hf4'.out hU9.out oX)
     replace hm6d:=Hd (hm6d.out.upd hf6'.out hU9.out oX)
     refine hKz.out _ _ hS ?_
     clear hKz Kz hOn hS
     intro hOn
     try simp only[Act.put]
     refine dnE ?_
     all_goals
      go_wp2_with fail
      refine hback.out _ _ kX ?_ ?_
      ·simp only[List.getD_cons_zero,List.getD_cons_succ]
       exact⟨k+1,FF.1,C4,D6,oX,by go_num,hbw7.out.trans (hOn.below (B:=w.heap.size) hsz7 (λk h=>by omega)),aSf.out,aRf.out,hm4d.out,hf4'.out,hm6d.out,hf6'.out,hsb1.out,hnd1.out⟩
      ·have hU0:=hU0.out
       simp only[List.getD_cons_zero,List.getD_cons_succ,hU0,intOf]
       omega
  ·obtain rfl:k=N:=oX
   clear hback
   obtain⟨an,cn,av,cv,eD,hN2,hN21,hN22,hV2,hV21,hV22⟩:=hmD.out.form
   obtain⟨an',cn',av',cv',eC,hN3,hN31,hN32,hV3,hV31,hV32⟩:=hmC.out.form
   cases eD
   cases eC
   have okN:=Hd hmC.out.okN
   have okV:=Hd hmC.out.okV
   obtain⟨NI,hNI⟩:∃ NI,NI=m.its.length:=⟨_,rfl⟩
   obtain⟨NE,hNE⟩:∃ NE,NE=m.ens.length:=⟨_,rfl⟩
   replace aS:Hid (wr.heap[bS]? = some (.cells #[.slice an' NI cn',.slice av' NE cv'] 28 (0,0))):=by rw[hNI,hNE];exact aS
   replace aR:Hid (wr.heap[bS+1]? = some (.cells #[.slice an NI cn,.slice av NE cv] 36 (0,0))):=by rw[hNI,hNE];exact aR
   replace hmC:Hid (ArgS wr (.agg #[.slice an' NI cn',.slice av' NE cv']) m):=by rw[hNI,hNE];exact hmC
   replace hmD:Hid (ArgS wr (.agg #[.slice an NI cn,.slice av NE cv]) m):=by rw[hNI,hNE];exact hmD
   replace iC:(Tryz.prog.info? 28).map (·.size)=some (#[.slice an' NI cn',.slice av' NE cv']:Array Value).size:=iS
   replace hN2:=Hd hN2
   replace hN3:=Hd hN3
   replace hV3:=Hd hV3
   have hNIb:NI<=1000:=by rw[hNI];exact hl1.out
   have hNEb:NE<=1000:=by rw[hNE];exact hl2.out
   replace hNI:=Hd hNI
   replace hNE:=Hd hNE
   clear iD hD2 hC2 hN21 hN22 hV2 hV21 hV22 hN31 hN32 hV31 hV32
   obtain⟨it,bo,okit,hbo,hbi,hitc⟩:∃ (it:It) (bo:Bool),it.Ok/\bo=decide (0<=q/\q<(m.its.length:Int))/\(bo=true->∃ (i:Nat) (h:i<m.its.length),q=(i:Int)/\it=m.its[i])/\∀ W vm,ArgS W vm m->Calls Tryz.prog 17 #[vm,.int .i64 q] W λx w'=>x=.returned (.tuple #[.agg it.list.toArray,.bool bo])/\Below W.heap.size W w':=by
    by_cases hq:0<=q/\q<(m.its.length:Int)
    ·obtain⟨i,rfl⟩:∃ i:Nat,q=(i:Int):=⟨q.toNat,oX⟩
     have hi:i<m.its.length:=oX
     exact⟨m.its[i],true,hmC.out.okN _ (List.getElem_mem hi),by simp[hi],λ_=>⟨i,hi,rfl,rfl⟩,λW vm hv=>Yj vm m W hv i hi hl1.out⟩
    ·exact⟨default,false,It.default_ok,by simp[hq],λh=>(by cases h),λW vm hv=>Jr vm m W hv q hq hl1.out⟩
   obtain⟨nt,kn,hnt⟩:∃ (nt:It) (kn:Bool),Zx m.its nm=(nt,kn):=⟨_,_,rfl⟩
   have oknt:nt.Ok:=by have:=Xl hmC.out.okN nm;rw[hnt] at this;exact this
   have hkn:kn=m.its.any (λx=>decide (x.s=nm)):=by have:=MF m.its nm;rw[hnt] at this;exact this
   have hnd2:=Hd (λ(j:Nat) (hj:j<m.its.length) (e:m.its[j].s=nm)=>show nt=m.its[j] by have:=H0 hnd.out hj e;rw[hnt] at this;exact congrArg Prod.fst this)
   have hncall:=Hd (λW vm (hv:ArgS W vm m)=>show Calls Tryz.prog 18 #[vm,.string nm] W λx w'=>x=.returned (.tuple #[.agg nt.list.toArray,.bool kn])/\Below W.heap.size W w' from by have:=Xh vm m W hv hl1.out nm;rw[hnt] at this;exact this)
   have hocall:=Hd (λW vm (hv:ArgS W vm m)=>Hb vm m W hv hl2.out)
   have iI:=Np
   have zI:(default:It).list.toArray.size=76:=It.size It.default_ok
   have huI:=Tryz.underlying58
   obtain⟨IA,hIA⟩:∃ IA,IA=it.list.toArray:=⟨_,rfl⟩
   obtain⟨NA,hNA⟩:∃ NA,NA=nt.list.toArray:=⟨_,rfl⟩
   have sIA:IA.size=76:=by rw[hIA];exact It.size okit
   have sNA:NA.size=76:=by rw[hNA];exact It.size oknt
   have oIA:IA.all (·.oneCell')=true:=by rw[hIA];exact It.all_one it
   have oNA:NA.all (·.oneCell')=true:=by rw[hNA];exact It.all_one nt
   have iIA:(Tryz.prog.info? 58).map (·.size)=some IA.size:=by rw[sIA];exact iI
   have iNA:(Tryz.prog.info? 58).map (·.size)=some NA.size:=by rw[sNA];exact iI
   have zIA:(Tryz.zeroCells58).size=IA.size:=by rw[It.zeroG,sIA];exact zI
   have zNA:(Tryz.zeroCells58).size=NA.size:=by rw[It.zeroG,sNA];exact zI
   rw[<-hIA] at hitc
   rw[<-hNA] at hncall
   have hic:=Hd (hitc wr _ hmC.out)
   clear hitc zI
   replace hIA:=Hd hIA
   replace hNA:=Hd hNA
   replace hbo:=Hd hbo
   replace hbi:=Hd hbi
   replace hkn:=Hd hkn
   replace hnt:=Hd hnt
   replace okit:=Hd okit
   replace oknt:=Hd oknt
   clear hx okX H
   go_wp2_with ((with_reducible refine wL (.load 28 (.tmp 7)) ?_);refine Ze rfl 28 (.tmp 7) rfl bS _ _ rfl aS huS rfl iC ?_)
   with_reducible refine hic.out.mono ?_
   clear hic
   rintro e w2 ⟨rfl,hb2⟩
   have hZ2:=Hd (heap_alloc_new w2 (.cells Tryz.zeroCells58 58))
   have hB2:=Hd (hbw.out.trans (hb2.mono hszw))
   have hsz2:=hB2.out.size
   have aS2:=Hd ((hb2.block _ (Zb aS.out)).trans aS.out)
   have aR2:=Hd ((hb2.block _ (Zb aR.out)).trans aR.out)
   have hmC2:=Hd (hmC.out.below hb2 nR)
   have hmD2:=Hd (hmD.out.below hb2 nR)
   clear hb2 hmC hmD aS aR hbw hszw hfC hfD h1C h1D
   go_wp2_with (first
    | ((with_reducible refine wL (.load 28 (.tmp 7)) ?_);refine Ze rfl 28 (.tmp 7) rfl bS _ _ rfl aS3 huS rfl iC ?_)
    | ((with_reducible refine wL (.store 58 (.tmp 15) _) ?_);(refine Zc rfl 58 (.tmp 15) (.tmp 97) rfl w2.heap.size _ IA rfl rfl hZ2 iIA zIA oIA ?_);intro w3 hU3;have hb3:Below w2.heap.size w2 w3:=(Below.alloc (Below.refl w2.heap.size w2) nR _).trans (hU3.out.below nR);have a15:=Hd hU3.out.here;have aS3:=Hd ((hb3.block _ (Zb aS2.out)).trans aS2.out);have aR3:=Hd ((hb3.block _ (Zb aR2.out)).trans aR2.out);have hmC3:=Hd (hmC2.out.below hb3 nR);have hmD3:=Hd (hmD2.out.below hb3 nR);have hB3:=Hd (hB2.out.trans (hb3.mono hsz2));have hnc:=Hd (hncall.out w3 _ hmC3.out);clear hb3 hU3))
   have hsz3:=hB3.out.size
   with_reducible refine hnc.out.mono ?_
   clear hnc hncall
   rintro e w4 ⟨rfl,hb4⟩
   have hZ4:=Hd (heap_alloc_new w4 (.cells Tryz.zeroCells58 58))
   have hB4:=Hd (hB3.out.trans (hb4.mono hsz3))
   have hsz4:=hB4.out.size
   have a154:=Hd ((hb4.block _ (Zb a15.out)).trans a15.out)
   have aS4:=Hd ((hb4.block _ (Zb aS3.out)).trans aS3.out)
   have aR4:=Hd ((hb4.block _ (Zb aR3.out)).trans aR3.out)
   have hmC4:=Hd (hmC3.out.below hb4 nR)
   have hmD4:=Hd (hmD3.out.below hb4 nR)
   clear hb4 a15 aS3 aR3 hmC3 hmD3 hmC2 hmD2 aS2 aR2
   generalize w2.heap.size=b15 at*
   go_wp2_with ((with_reducible refine wL (.store 58 (.tmp 17) _) ?_);(refine Zc rfl 58 (.tmp 17) (.tmp 103) rfl w4.heap.size _ NA rfl rfl hZ4 iNA zNA oNA ?_);intro w5 hU5;have hb5:Below w4.heap.size w4 w5:=(Below.alloc (Below.refl w4.heap.size w4) nR _).trans (hU5.out.below nR);have a17:=Hd hU5.out.here;have a155:=Hd ((hb5.block _ (Zb a154.out)).trans a154.out);have aS5:=Hd ((hb5.block _ (Zb aS4.out)).trans aS4.out);have aR5:=Hd ((hb5.block _ (Zb aR4.out)).trans aR4.out);have hmC5:=Hd (hmC4.out.below hb5 nR);have hmD5:=Hd (hmD4.out.below hb5 nR);have hB5:=Hd (hB4.out.trans (hb5.mono hsz4));have kR0:=Za aR5.out 0;replace kR0:w5.cell? ⟨bS+1,0,none⟩=some (.slice an NI cn):=kR0;clear hb5 hU5)
   have hsz5:=hB5.out.size
   clear a154 aS4 aR4 hmC4 hmD4 hB4 hB3 hB2 hsz2 hsz3 hsz4 hZ2 hZ4
   generalize w4.heap.size=b17 at*
   have hN35:Hid (RowAt It.list 76 w5 an' m.its):=Hd (by obtain⟨a,c,a',c',e,r,_⟩:=hmC5.out.form;cases e;exact r)
   have hN25:Hid (RowAt It.list 76 w5 an m.its):=Hd (by obtain⟨a,c,a',c',e,r,_⟩:=hmD5.out.form;cases e;exact r)
   clear hmD5
   have huJ:=Tryz.underlying63
   have zJ:(Tryz.zeroCells63).size=76:=kX
   refine Z8 [(false,19),(true,3),(false,86),(true,17),(false,59)] _ [] (λU wr=>∃ (j:Nat) (kk:Bool),j<=NI/\U 108=.int .i64 (j:Nat)/\U 19=.bool kk/\kk=(m.its.take j).any (λx=>decide (x.s=nm))/\Below w5.heap.size w5 wr) (λU _=>NI-(intOf (U 108)).toNat) ?_ ?_
   ·simp only[List.getD_cons_zero,List.getD_cons_succ]
    exact⟨0,false,Nat.zero_le _,rfl,rfl,sX,Below.refl _ _⟩
   ·intro U2 w6 hrel KK2 hback2 l2 hl2
    obtain⟨j,kk,hj,h108,h19,hkk,hb6⟩:=hrel
    simp only[ZR,ZD,cond_true,cond_false,Nat.reduceAdd,h108,h19] at hl2
    subst hl2
    replace h108:=Hd h108
    replace h19:=Hd h19
    replace hkk:=Hd hkk
    by_cases hlt:j<NI
    ·have hlt2:(j:Int)<(NI:Int):=oX
     have hjN:j<m.its.length:=by rw[<-hNI.out];exact hlt
     obtain⟨b1,o1,rfl,hr1⟩:=(hN25.out.below hb6 nR) j hjN
     obtain⟨b2,o2,rfl,hr2⟩:=(hN35.out.below hb6 nR) j hjN
     have ox:=okN.out _ (List.getElem_mem hjN)
     have hnx:=Hd (λe=>hnd2.out j hjN e)
     have hstep:=Hd (show (m.its.take (j+1)).any (λx=>decide (x.s=nm))=(kk || decide (m.its[j].s=nm)) by rw[List.take_succ_eq_append_getElem hjN,List.any_append,hkk.out];simp)
     generalize m.its[j]=x at*
     obtain⟨X,hX⟩:∃ X,X=x.list.toArray:=⟨_,rfl⟩
     have hX76:X.size=76:=by rw[hX];exact It.size ox
     have ix:(Tryz.prog.info? 63).map (·.size)=some x.list.length:=by rw[It.list_length ox];kernel_rfl
     have ix2:(Tryz.prog.info? 58).map (·.size)=some x.list.length:=by rw[It.list_length ox];kernel_rfl
     have iX:(Tryz.prog.info? 63).map (·.size)=some X.size:=by rw[hX76];kernel_rfl
     have iX2:(Tryz.prog.info? 58).map (·.size)=some X.size:=by rw[hX76];kernel_rfl
     have zX:(Tryz.zeroCells63).size=X.size:=by rw[hX76];exact zJ
     have h1X:X.all (·.oneCell')=true:=by rw[hX];exact It.all_one x
     have hX1:X[1]? = some (.string x.s):=by rw[hX,List.getElem?_toArray];exact It.c1 x
     have hne:=λW=>(UA x x ox ox W).1
     rw[<-hX,show (!decide (x=x))=false by simp] at hne
     have hZ6:=Hd (heap_alloc_new w6 (.cells Tryz.zeroCells63 63))
     have hb6s:=hb6.size
     have a176:=Hd ((hb6.block _ (Zb a17.out)).trans a17.out)
     have aS6:=Hd ((hb6.block _ (Zb aS5.out)).trans aS5.out)
     replace hX:=Hd hX
     replace hX1:=Hd hX1
     replace hr1:=Hd hr1
     replace hr2:=Hd hr2
     replace hb6:=Hd hb6
     replace ox:=Hd ox
     by_cases he:x.s=nm
     ·have hse:(x.s.toList==nm.toList)=true:=by rw[Jn];simp[he]
      have hNX:NA=X:=by rw[hNA.out,hX.out,hnx.out he]
      have hst2:=Hd (show true=(m.its.take (j+1)).any (λx=>decide (x.s=nm)) by rw[hstep.out];simp[he])
      rw[hNX] at a176
      replace he:=Hd he
      replace hNX:=Hd hNX
      go_wp2_with (first
       | ((with_reducible refine wL (.load 63 (.tmp 111)) ?_);refine wpList_load_mid rfl 63 (.tmp 111) rfl b1 (o1+j*76) rfl x.list _ hr1.out huJ rfl ix ?_;rw[<-hX.out])
       | ((with_reducible refine wL (.store 63 (.tmp 21) _) ?_);(refine Zc rfl 63 (.tmp 21) (.tmp 112) rfl w6.heap.size _ X rfl rfl hZ6 iX zX h1X ?_);intro w7 hU7;have hb7:Below w6.heap.size w6 w7:=(Below.alloc (Below.refl w6.heap.size w6) nR _).trans (hU7.out.below nR);have k71:w7.cell? ⟨w6.heap.size,1,none⟩=some (.string x.s):=(by rw[Za hU7.out.here];exact hX1.out);have hb57:=Hd (hb6.out.trans (hb7.mono hb6s));have a177:=Hd ((hb7.block _ (Zb a176.out)).trans a176.out);have aS7:=Hd ((hb7.block _ (Zb aS6.out)).trans aS6.out);have hr27:=Hd (Zs hr2.out hb7 nR);clear hb7 hU7))
      have hsz57:=hb57.out.size
      have rlA:∀ W:World,Grown w7 W->W.heap[b17]? = some (.cells X 58 (0,0)):=λW hW=>(hW.block _ (Zb a177.out)).trans a177.out
      have huA:=huI
      have hzA:=iX2
      have hcl:∀ W:World,Grown w7 W->W.cell? ⟨bS,0,none⟩=some (.slice (some ⟨b2,o2,none⟩) NI cn'):=λW hW=>Za ((hW.block _ (Zb aS7.out)).trans aS7.out) 0
      have r2:=Hd (λW (h:Grown w7 W)=>Zs hr27.out h nR)
      have hld:=λW (h:Grown w7 W)=>run_loadAt_mid (P:=Tryz.prog) W b2 (o2+j*76) 58 x.list _ (r2.out W h) huI rfl ix2
      rw[<-hX.out] at hld
      have hd0:Hid (Grown w7 w7.drew):=Hd (Grown.drew (Grown.refl w7))
      clear k71
      refine wp_region_held_drew (S:=(Grown w7)) kX hd0.out (λhOn=>?_)
      generalize World.drew w7=wd at*
      refine tk 0 hOn ?_ (v:=Value.agg _) (hy:=Or.inl ⟨by rfl,λW hSW=>Zi _ _ rfl _ _ _ rfl (rlA W hSW) huA rfl hzA⟩)
      refine tk 1 hOn ?_
      refine tk 2 hOn ?_
      refine tk 3 hOn ?_
      refine tk 4 hOn ?_
      refine rd 5 (λKz hKz=>?_)
      rw[if_pos (by rfl)]
      (refine wp_load_mid 58 (.tmp 121) rfl b2 (o2+j*76) rfl x.list _ (r2.out _ hOn) huI rfl ix2 ?_)
      rw[<-hX.out]
      have hS:=hOn
      refine hKz.out _ _ hS ?_
      clear hKz Kz hOn hS
      intro hOn
      try simp only[Act.put]
      refine tk 6 hOn ?_
      refine dnE ?_
      all_goals
       go_wp2_with fail
       refine hback2.out _ _ kX ?_ ?_
       ·simp only[List.getD_cons_zero,List.getD_cons_succ]
        exact⟨j+1,true,hlt,by go_num,rfl,hst2.out,hb57.out.trans (hOn.mono hsz57)⟩
       ·have h108:=h108.out
        simp only[List.getD_cons_zero,List.getD_cons_succ,h108,intOf]
        omega
     ·have hse:(x.s.toList==nm.toList)=false:=by rw[Jn];simp[he]
      have hst2:=Hd (show kk=(m.its.take (j+1)).any (λx=>decide (x.s=nm)) by rw[hstep.out];simp[he])
      replace he:=Hd he
      go_wp2_with (first
       | ((with_reducible refine wL (.load 63 (.tmp 111)) ?_);refine wpList_load_mid rfl 63 (.tmp 111) rfl b1 (o1+j*76) rfl x.list _ hr1.out huJ rfl ix ?_;rw[<-hX.out])
       | ((with_reducible refine wL (.store 63 (.tmp 21) _) ?_);(refine Zc rfl 63 (.tmp 21) (.tmp 112) rfl w6.heap.size _ X rfl rfl hZ6 iX zX h1X ?_);intro w7 hU7;have hb7:Below w6.heap.size w6 w7:=(Below.alloc (Below.refl w6.heap.size w6) nR _).trans (hU7.out.below nR);have k71:w7.cell? ⟨w6.heap.size,1,none⟩=some (.string x.s):=(by rw[Za hU7.out.here];exact hX1.out);have hb57:=Hd (hb6.out.trans (hb7.mono hb6s));clear hb7 hU7))
      refine hback2.out _ _ kX ?_ ?_
      ·simp only[List.getD_cons_zero,List.getD_cons_succ]
       exact⟨j+1,kk,hlt,by go_num,rfl,hst2.out,hb57.out⟩
      ·have h108:=h108.out
       simp only[List.getD_cons_zero,List.getD_cons_succ,h108,intOf]
       omega
    ·obtain rfl:NI=j:=oX
     have hknn:kk=kn:=by rw[hkk.out,hkn.out,hNI.out,List.take_length]
     clear hkk hkn h19
     subst hknn
     clear hback2
     have hb6s:=hb6.size
     have hB6:=Hd (hB5.out.trans (hb6.mono hsz5))
     have aS6:=Hd ((hb6.block _ (Zb aS5.out)).trans aS5.out)
     have aR6:=Hd ((hb6.block _ (Zb aR5.out)).trans aR5.out)
     have a156:=Hd ((hb6.block _ (Zb a155.out)).trans a155.out)
     have hN36:=Hd (hN35.out.below hb6 nR)
     have hmC6:=Hd (hmC5.out.below hb6 nR)
     clear hb6 aS5 aR5 a155 a17 hN25 hN35 hmC5 hB5 kR0 hsz5
     go_wp2_with fail
     have hd0:Hid (Grown w6 w6.drew):=Hd (Grown.drew (Grown.refl w6))
     have rlA:∀ W:World,Grown w6 W->W.heap[b15]? = some (.cells IA 58 (0,0)):=λW hW=>(hW.block _ (Zb a156.out)).trans a156.out
     have huA:=huI
     have hzA:=iIA
     have hcS:∀ W:World,Grown w6 W->W.cell? ⟨bS,0,none⟩=some (.slice an' NI cn'):=λW hW=>Za ((hW.block _ (Zb aS6.out)).trans aS6.out) 0
     have hcR:∀ W:World,Grown w6 W->W.cell? ⟨bS+1,0,none⟩=some (.slice an NI cn):=λW hW=>Za ((hW.block _ (Zb aR6.out)).trans aR6.out) 0
     go_cut [152] from 125 to 152 (λs152 wy=>s152=.bool false/\Grown w6 wy)
     case first=>
      by_cases hq0:0<=q
      ·by_cases hq1:q<(NI:Int)
       ·obtain⟨i,rfl⟩:∃ i:Nat,q=(i:Int):=⟨q.toNat,oX⟩
        have hiN:i<m.its.length:=by rw[<-hNI.out];omega
        have hbt:bo=true:=by rw[hbo.out,<-hNI.out];simp;omega
        obtain⟨i',hi',ei,hit2⟩:=hbi.out hbt
        obtain rfl:i=i':=oX
        subst hbt
        obtain⟨b2,o2,rfl,hr2⟩:=hN36.out i hiN
        have ox:=okN.out _ (List.getElem_mem hiN)
        rw[<-hit2] at hr2
        have ix2:(Tryz.prog.info? 58).map (·.size)=some it.list.length:=by rw[It.list_length okit.out];kernel_rfl
        have hne:=λW=>(UA it it okit.out okit.out W).1
        rw[<-hIA.out,show (!decide (it=it))=false by simp] at hne
        have r2:=Hd (λW (h:Grown w6 W)=>Zs hr2 h nR)
        have hld:=λW (h:Grown w6 W)=>run_loadAt_mid (P:=Tryz.prog) W b2 (o2+i*76) 58 it.list _ (r2.out W h) huI rfl ix2
        rw[<-hIA.out] at hld
        clear hr2 hit2 ox hq0 hbi hbo ei
        have hq0:(0:Int)<=(i:Int):=oX
        refine wp_region_held_drew (S:=(Grown w6)) kX hd0.out (λhOn=>?_)
        generalize World.drew w6=wd at*
        refine tk 0 hOn ?_
        refine tk 1 hOn ?_
        refine tk 2 hOn ?_
        refine tk 3 hOn ?_
        refine tk 4 hOn ?_
        refine tk 5 hOn ?_
        refine tk 6 hOn ?_
        refine tk 7 hOn ?_
        refine tk 8 hOn ?_
        refine tk 9 hOn ?_
        refine tk 10 hOn ?_
        refine tk 11 hOn ?_
        refine tk 12 hOn ?_
        refine tk 13 hOn ?_
        refine tk 14 hOn ?_
        refine tk 15 hOn ?_
        refine tk 16 hOn ?_
        refine tk 17 hOn ?_
        refine tk 18 hOn ?_
        refine tk 19 hOn ?_ (v:=Value.agg _) (hy:=Or.inl ⟨by rfl,λW hSW=>Zi _ _ rfl _ _ _ rfl (rlA W hSW) huA rfl hzA⟩)
        refine tk 20 hOn ?_
        refine tk 21 hOn ?_
        refine tk 22 hOn ?_
        refine tk 23 hOn ?_
        refine rd 24 (λKz hKz=>?_)
        rw[if_pos (by rfl)]
        (refine wp_load_mid 58 (.tmp 148) rfl b2 (o2+i*76) rfl it.list _ (r2.out _ hOn) huI rfl ix2 ?_)
        rw[<-hIA.out]
        have hS:=hOn
        refine hKz.out _ _ hS ?_
        clear hKz Kz hOn hS
        intro hOn
        try simp only[Act.put]
        refine tk 25 hOn ?_
        refine tk 26 hOn ?_
        refine tk 27 hOn ?_
        refine dnE ?_
        all_goals
         go_wp2_with fail
         go_meet
         exact⟨rfl,hOn⟩
       ·have hbf:bo=false:=by rw[hbo.out,<-hNI.out];simp;omega
        subst hbf
        clear hbi hbo
        refine wp_region_held_drew (S:=(Grown w6)) kX hd0.out (λhOn=>?_)
        generalize World.drew w6=wd at*
        refine tk 0 hOn ?_
        refine tk 1 hOn ?_
        refine tk 2 hOn ?_
        refine tk 3 hOn ?_
        refine tk 4 hOn ?_
        refine tk 5 hOn ?_
        refine tk 6 hOn ?_
        refine tk 7 hOn ?_
        refine tk 8 hOn ?_
        refine tk 9 hOn ?_
        refine tk 10 hOn ?_
        refine tk 11 hOn ?_
        refine tk 12 hOn ?_
        refine tk 13 hOn ?_
        refine tk 14 hOn ?_
        refine tk 15 hOn ?_
        refine tk 16 hOn ?_
        refine tk 17 hOn ?_
        refine tk 18 hOn ?_
        refine tk 19 hOn ?_ (v:=undef) (hy:=Or.inr ⟨by rfl,rfl⟩)
        refine tk 20 hOn ?_ (v:=undef) (hy:=Or.inr ⟨by rfl,rfl⟩)
        refine tk 21 hOn ?_ (v:=undef) (hy:=Or.inr ⟨by rfl,rfl⟩)
        refine tk 22 hOn ?_ (v:=undef) (hy:=Or.inr ⟨by rfl,rfl⟩)
        refine tk 23 hOn ?_ (v:=undef) (hy:=Or.inr ⟨by rfl,rfl⟩)
        refine tk 24 hOn ?_ (v:=undef) (hy:=Or.inr ⟨by rfl,rfl⟩)
        refine tk 25 hOn ?_ (v:=undef) (hy:=Or.inr ⟨by rfl,rfl⟩)
        refine tk 26 hOn ?_
        refine tk 27 hOn ?_
        refine dnE ?_
        all_goals
         go_wp2_with fail
         go_meet
         exact⟨rfl,hOn⟩
      ·have hbf:bo=false:=by rw[hbo.out,<-hNI.out];simp;omega
       subst hbf
       clear hbi hbo
       refine wp_region_held_drew (S:=(Grown w6)) kX hd0.out (λhOn=>?_)
       generalize World.drew w6=wd at*
       refine tk 0 hOn ?_
       refine tk 1 hOn ?_
       refine tk 2 hOn ?_
       refine tk 3 hOn ?_
       refine tk 4 hOn ?_
       refine tk 5 hOn ?_
       refine tk 6 hOn ?_
       refine tk 7 hOn ?_
       refine tk 8 hOn ?_ (v:=undef) (hy:=Or.inr ⟨by rfl,rfl⟩)
       refine tk 9 hOn ?_ (v:=undef) (hy:=Or.inr ⟨by rfl,rfl⟩)
       refine tk 10 hOn ?_ (v:=undef) (hy:=Or.inr ⟨by rfl,rfl⟩)
       refine tk 11 hOn ?_ (v:=undef) (hy:=Or.inr ⟨by rfl,rfl⟩)
       refine tk 12 hOn ?_ (v:=undef) (hy:=Or.inr ⟨by rfl,rfl⟩)
       refine tk 13 hOn ?_
       refine tk 14 hOn ?_
       refine tk 15 hOn ?_
       refine tk 16 hOn ?_
       refine tk 17 hOn ?_
       refine tk 18 hOn ?_
       refine tk 19 hOn ?_ (v:=undef) (hy:=Or.inr ⟨by rfl,rfl⟩)
       refine tk 20 hOn ?_ (v:=undef) (hy:=Or.inr ⟨by rfl,rfl⟩)
       refine tk 21 hOn ?_ (v:=undef) (hy:=Or.inr ⟨by rfl,rfl⟩)
       refine tk 22 hOn ?_ (v:=undef) (hy:=Or.inr ⟨by rfl,rfl⟩)
       refine tk 23 hOn ?_ (v:=undef) (hy:=Or.inr ⟨by rfl,rfl⟩)
       refine tk 24 hOn ?_ (v:=undef) (hy:=Or.inr ⟨by rfl,rfl⟩)
       refine tk 25 hOn ?_ (v:=undef) (hy:=Or.inr ⟨by rfl,rfl⟩)
       refine tk 26 hOn ?_
       refine tk 27 hOn ?_
       refine dnE ?_
       all_goals
        go_wp2_with fail
        go_meet
        exact⟨rfl,hOn⟩
     case rest=>
      obtain⟨rfl,hgw7⟩:=hcut
      generalize wc=w7 at*
      have aS7:=Hd ((hgw7.block _ (Zb aS6.out)).trans aS6.out)
      have hmC7:=Hd (hmC6.out.below hgw7 nR)
      have hB7:=Hd (hB6.out.trans (hgw7.mono hB6.out.size))
      clear hgw7 rlA huA hzA hcS hcR hd0 aS6 aR6 a156 hN36 hmC6 hB6 hb6s
      have hoc:=Hd (hocall.out w7 _ hmC7.out)
      clear hocall
      go_wp2_with ((with_reducible refine wL (.load 28 (.tmp 7)) ?_);refine Ze rfl 28 (.tmp 7) rfl bS _ _ rfl aS7 huS rfl iC ?_)
      with_reducible refine hoc.out.mono ?_
      clear hoc
      rintro e w8 ⟨ao,co,rfl,hro,hb8⟩
      have hB8:=Hd (hB7.out.trans (hb8.mono hB7.out.size))
      have aS8:=Hd ((hb8.block _ (Zb aS7.out)).trans aS7.out)
      have hV8:Hid (RowAt En.list 7 w8 av' m.ens):=Hd (by obtain⟨a,c,a',c',e,_,_,_,r,_⟩:=hmC7.out.form;cases e;exact r.below hb8 nR)
      have k81:=Za aS8.out 1
      replace k81:w8.cell? ⟨bS,1,none⟩=some (.slice av' NE cv'):=k81
      obtain⟨NO,hNO⟩:∃ NO,NO=(ZB m.ens).length:=⟨_,rfl⟩
      have hNOb:NO<=1000:=by rw[hNO];exact Nat.le_trans (List.length_filter_le _ _) hl2.out
      rw[<-hNO]
      replace hNO:=Hd hNO
      replace hro:=Hd hro
      have hsz8:=hB8.out.size
      clear hb8 hmC7 aS7 hB7
      have huE:=Tryz.underlying66
      have iE7:=JW
      go_wp2_with fail
      refine Z8 [(false,22),(true,1),(false,2),(true,1),(false,132),(true,22),(false,4)] _ [] (λU wr=>∃ (j n:Nat),j<=NE/\n<=NO/\U 158=.int .i64 (j:Nat)/\U 22=.int .i64 (n:Nat)/\n=(ZB (m.ens.take j)).length/\Below w8.heap.size w8 wr) (λU _=>NE-(intOf (U 158)).toNat) ?_ ?_
      ·simp only[List.getD_cons_zero,List.getD_cons_succ]
       exact⟨0,0,Nat.zero_le _,Nat.zero_le _,rfl,rfl,by simp[ZB],Below.refl _ _⟩
      ·intro U3 w9 hrel KK3 hback3 l3 hl3
       obtain⟨j,n,hj,hn,h158,h22,hnj,hb9⟩:=hrel
       simp only[ZR,ZD,cond_true,cond_false,Nat.reduceAdd,h158,h22] at hl3
       subst hl3
       replace h158:=Hd h158
       replace h22:=Hd h22
       replace hnj:=Hd hnj
       by_cases hlt:j<NE
       ·have hlt2:(j:Int)<(NE:Int):=oX
        have hjN:j<m.ens.length:=by rw[<-hNE.out];exact hlt
        obtain⟨b1,o1,rfl,hr1⟩:=(hV8.out.below hb9 nR) j hjN
        have ox:=okV.out _ (List.getElem_mem hjN)
        have hstep:=Hd (Xx hjN)
        have hat:=Hd (λe=>Rn hjN e)
        generalize m.ens[j]=x at*
        obtain⟨X,hX⟩:∃ X,X=x.list.toArray:=⟨_,rfl⟩
        have hX7:X.size=7:=by rw[hX];rfl
        have ix:(Tryz.prog.info? 66).map (·.size)=some x.list.length:=iE7
        have iX:(Tryz.prog.info? 66).map (·.size)=some X.size:=by rw[hX7];exact iE7
        have zX:(#[.int .i64 0,.int .i64 0,.int .i64 0,.int .i64 0,.int .i64 0,.int .i64 0,.int .i64 0]:Array Value).size=X.size:=by rw[hX7];rfl
        have h1X:X.all (·.oneCell')=true:=by rw[hX];simp[En.list,Value.oneCell']
        have hX5:X[5]? = some (.int .i64 x.v):=by rw[hX];rfl
        have hne:=λW=>(Nq x x ox ox W).1
        rw[<-hX,show (!decide (x=x))=false by simp] at hne
        have hZ9:=Hd (heap_alloc_new w9 (.cells #[.int .i64 0,.int .i64 0,.int .i64 0,.int .i64 0,.int .i64 0,.int .i64 0,.int .i64 0] 66))
        have hb9s:=hb9.size
        have hro9:=Hd (hro.out.below hb9 nR)
        replace hX:=Hd hX
        replace hX5:=Hd hX5
        replace hr1:=Hd hr1
        replace hb9:=Hd hb9
        replace ox:=Hd ox
        by_cases he:x.v=0
        ·have hve:(x.v != 0)=false:=by simp[he]
         have hst2:=Hd (show n+1=(ZB (m.ens.take (j+1))).length by rw[hstep.out,if_pos he,List.length_append,<-hnj.out];rfl)
         obtain⟨hnN,hxn⟩:=hat.out he
         rw[<-hnj.out] at hnN
         have hnN2:n<NO:=by rw[hNO.out];exact hnN
         have hnN3:(n:Int)<(NO:Int):=oX
         have hge:decide (NO<=n)=false:=decide_eq_false oX
         have hge2:¬(NO:Int)<=(n:Int):=oX
         obtain⟨b2,o2,rfl,hr2⟩:=hro9.out n hnN
         have hxn2:(ZB m.ens)[n]=x:=by rw[<-hxn];congr 1
         rw[hxn2] at hr2
         replace hr2:=Hd hr2
         replace he:=Hd he
         clear hnN hxn hxn2
         go_wp2_with (first
          | ((with_reducible refine wL (.load 66 (.tmp 160)) ?_);refine wpList_load_mid rfl 66 (.tmp 160) rfl b1 (o1+j*7) rfl x.list _ hr1.out huE rfl ix ?_;rw[<-hX.out])
          | ((with_reducible refine wL (.store 66 (.tmp 25) _) ?_);(refine Zc rfl 66 (.tmp 25) (.tmp 161) rfl w9.heap.size _ X rfl rfl hZ9 iX zX h1X ?_);intro w10 hU10;have hb10:Below w9.heap.size w9 w10:=(Below.alloc (Below.refl w9.heap.size w9) nR _).trans (hU10.out.below nR);have k105:w10.cell? ⟨w9.heap.size,5,none⟩=some (.int .i64 x.v):=(by rw[Za hU10.out.here];exact hX5.out);have hb810:=Hd (hb9.out.trans (hb10.mono hb9s));have a25:=Hd hU10.out.here;have hr210:=Hd (Zs hr2.out hb10 nR);clear hb10 hU10))
         have hszx:=hb810.out.size
         have rlA:∀ W:World,Grown w10 W->W.heap[w9.heap.size]? = some (.cells X 66 (0,0)):=λW hW=>(hW.block _ (Zb a25.out)).trans a25.out
         have huA:=huE
         have hzA:=iX
         have r2:=Hd (λW (h:Grown w10 W)=>Zs hr210.out h nR)
         have hld:=λW (h:Grown w10 W)=>run_loadAt_mid (P:=Tryz.prog) W b2 (o2+n*7) 66 x.list _ (r2.out W h) huE rfl ix
         rw[<-hX.out] at hld
         have hd0:Hid (Grown w10 w10.drew):=Hd (Grown.drew (Grown.refl w10))
         clear k105
         refine wp_region_held_drew (S:=(Grown w10)) kX hd0.out (λhOn=>?_)
         generalize World.drew w10=wd at*
         refine tk 0 hOn ?_
         refine tk 1 hOn ?_
         refine tk 2 hOn ?_
         refine tk 3 hOn ?_
         refine tk 4 hOn ?_
         refine tk 5 hOn ?_
         refine tk 6 hOn ?_
         refine tk 7 hOn ?_
         refine tk 9 hOn ?_ (v:=Value.agg _) (hy:=Or.inl ⟨by rfl,λW hSW=>Zi _ _ rfl _ _ _ rfl (rlA W hSW) huA rfl hzA⟩)
         refine rd 8 (λKz hKz=>?_)
         rw[if_pos (by rfl)]
         (refine wp_load_mid 66 (.tmp 172) rfl b2 (o2+n*7) rfl x.list _ (r2.out _ hOn) huE rfl ix ?_)
         rw[<-hX.out]
         have hS:=hOn
         refine hKz.out _ _ hS ?_
         clear hKz Kz hOn hS
         intro hOn
         try simp only[Act.put]
         refine tk 10 hOn ?_
         refine tk 11 hOn ?_
         refine dnE ?_
         all_goals
          go_wp2_with fail
          refine hback3.out _ _ kX ?_ ?_
          ·simp only[List.getD_cons_zero,List.getD_cons_succ]
           exact⟨j+1,n+1,hlt,hnN2,by go_num,by go_num,hst2.out,hb810.out.trans (hOn.mono hszx)⟩
          ·have h158:=h158.out
           simp only[List.getD_cons_zero,List.getD_cons_succ,h158,intOf]
           omega
        ·have hve:(x.v != 0)=true:=by simpa using he
         have hst2:=Hd (show n=(ZB (m.ens.take (j+1))).length by rw[hstep.out,if_neg he,List.append_nil,<-hnj.out])
         replace he:=Hd he
         go_wp2_with (first
          | ((with_reducible refine wL (.load 66 (.tmp 160)) ?_);refine wpList_load_mid rfl 66 (.tmp 160) rfl b1 (o1+j*7) rfl x.list _ hr1.out huE rfl ix ?_;rw[<-hX.out])
          | ((with_reducible refine wL (.store 66 (.tmp 25) _) ?_);(refine Zc rfl 66 (.tmp 25) (.tmp 161) rfl w9.heap.size _ X rfl rfl hZ9 iX zX h1X ?_);intro w10 hU10;have hb10:Below w9.heap.size w9 w10:=(Below.alloc (Below.refl w9.heap.size w9) nR _).trans (hU10.out.below nR);have k105:w10.cell? ⟨w9.heap.size,5,none⟩=some (.int .i64 x.v):=(by rw[Za hU10.out.here];exact hX5.out);have hb810:=Hd (hb9.out.trans (hb10.mono hb9s));clear hb10 hU10))
         refine hback3.out _ _ kX ?_ ?_
         ·simp only[List.getD_cons_zero,List.getD_cons_succ]
          exact⟨j+1,n,hlt,hn,by go_num,rfl,hst2.out,hb810.out⟩
         ·have h158:=h158.out
          simp only[List.getD_cons_zero,List.getD_cons_succ,h158,intOf]
          omega
       ·obtain rfl:NE=j:=oX
        have hnNO:n=NO:=by rw[hnj.out,hNO.out,hNE.out,List.take_length]
        have hBf:=Hd (hB8.out.trans (hb9.mono hsz8))
        clear hback3 h22 hnj
        subst hnNO
        go_wp2_with fail
        go_ret
        exact⟨rfl,hBf.out⟩
end Go.Proofs.YtpdhceiodgnbmaaGreatDoor
