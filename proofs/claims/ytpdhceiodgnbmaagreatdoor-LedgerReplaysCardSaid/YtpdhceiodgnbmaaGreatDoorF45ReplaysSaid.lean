import Derived.Test.YtpdhceiodgnbmaaGreatDoorF0ReplaysSaid
import Derived.Test.YtpdhceiodgnbmaaGreatDoorF1ReplaysSaid
import Derived.Test.YtpdhceiodgnbmaaGreatDoorF42ReplaysSaid
import Derived.Test.YtpdhceiodgnbmaaGreatDoorF44ReplaysSaid
import Derived.Test.YtpdhceiodgnbmaaGreatDoorF41ReplaysSaid
import Derived.Lib.LaidTab
import Derived.Deep.Matrix
import Derived.Test.YtpdhceiodgnbmaaGreatDoorF16ReplaysSaid
set_option linter.unusedVariables false
set_option linter.unusedSimpArgs false
set_option linter.unnecessarySimpa false
set_option maxRecDepth 100000
set_option maxHeartbeats 8000000
namespace Go.Proofs.YtpdhceiodgnbmaaGreatDoor
open Go.RowKit
theorem Uk{α:Type}{xs ys:List α}(h:xs.length=ys.length)(he:∀ j (h1:j<xs.length) (h2:j<ys.length),xs[j]=ys[j]):xs=ys:=List.ext_getElem h he
def YP(m m':St):Bool:=decide (m.its=m'.its)&&decide (m.ens=m'.ens)
theorem UE{m m':St}(h:m.its≠m'.its):YP m m'=false:=by unfold YP;rw[decide_eq_false h];rfl
theorem UG{m m':St}(h:m.ens≠m'.ens):YP m m'=false:=by unfold YP;rw[decide_eq_false h,Bool.and_false]
theorem HG(va vb:Value)(m m':St)(w:World)(ha:ArgS w va m)(hb:ArgS w vb m')(l1:m.its.length<=1000)(l2:m.ens.length<=1000) :
  Calls Tryz.prog 11 #[va,vb] w λx w'=>x=.returned (.bool (YP m m'))/\Below w.heap.size w w':=by
 obtain⟨⟨an,cn,av,cv,rfl,hN,hN1,hN2,hV,hV1,hV2⟩,okN,okV⟩:=ha
 obtain⟨⟨bn,dn,bv,dv,rfl,hM,hM1,hM2,hW,hW1,hW2⟩,okM,okW⟩:=hb
 have f1:=λ(h:m.its.length≠m'.its.length)=>UE (m:=m) (m':=m') (λe=>h (by rw[e]))
 have f2:=λ(h:m.ens.length≠m'.ens.length)=>UG (m:=m) (m':=m') (λe=>h (by rw[e]))
 have f3:=λk (h1:k<m.its.length) (h2:k<m'.its.length) (h:m.its[k]≠m'.its[k])=>UE (m:=m) (m':=m') (λe=>h (by simp only[e]))
 have f4:=λk (h1:k<m.ens.length) (h2:k<m'.ens.length) (h:m.ens[k]≠m'.ens[k])=>UG (m:=m) (m':=m') (λe=>h (by simp only[e]))
 have f5:=λ(h1:m.its=m'.its) (h2:m.ens=m'.ens)=>show YP m m'=true by unfold YP;rw[decide_eq_true h1,decide_eq_true h2];rfl
 generalize YP m m'=res at*
 obtain⟨N,hNl⟩:∃ N,N=m.its.length:=⟨_,rfl⟩
 obtain⟨V,hVl⟩:∃ V,V=m.ens.length:=⟨_,rfl⟩
 obtain⟨N',hNl'⟩:∃ N,N=m'.its.length:=⟨_,rfl⟩
 obtain⟨V',hVl'⟩:∃ V,V=m'.ens.length:=⟨_,rfl⟩
 rw[<-hNl,<-hVl,<-hNl',<-hVl']
 rw[<-hNl] at l1
 rw[<-hVl] at l2
 obtain⟨a1,a2,hs2,hB⟩:=Y6 w #[.slice an N cn,.slice av V cv] #[.slice bn N' dn,.slice bv V' dv] 36 36 _ rfl
 obtain⟨w2,hw2⟩:∃ w2,w2=(w.alloc (.cells #[.slice an N cn,.slice av V cv] 36)).alloc (.cells #[.slice bn N' dn,.slice bv V' dv] 36):=⟨_,rfl⟩
 have e10:=Za a1 0
 have e11:=Za a1 1
 have e20:=Za a2 0
 have e21:=Za a2 1
 have hbB0:=Hd hB
 rw[<-hw2] at a1 a2 hs2 hB
 have hNl2:=Hd hNl
 have hVl2:=Hd hVl
 have hNl2':=Hd hNl'
 have hVl2':=Hd hVl'
 replace hw2:=Hd hw2
 replace a1:=Hd a1
 replace a2:=Hd a2
 replace hB:=Hd hB
 replace hs2:=Hd hs2
 replace hN:=Hd hN
 replace hV:=Hd hV
 replace hM:=Hd hM
 replace hW:=Hd hW
 replace okN:=Hd okN
 replace okV:=Hd okV
 replace okM:=Hd okM
 replace okW:=Hd okW
 replace f1:=Hd f1
 replace f2:=Hd f2
 replace f3:=Hd f3
 replace f4:=Hd f4
 replace f5:=Hd f5
 clear hN1 hN2 hV1 hV2 hM1 hM2 hW1 hW2 hNl hVl hNl' hVl'
 by_cases hNN:N=N'
 rotate_left
 ·have hfe:=Hd (f1.out (by rw[<-hNl2.out,<-hNl2'.out];exact hNN))
  have hne:((N:Int) != (N':Int))=true:=by simpa using (show (N:Int)≠(N':Int) by omega)
  clear hNN
  go_enter Tryz.func11,Tryz.ntmps11
  go_wp2_with fail
  go_ret
  exact⟨congrArg (λb=>Ending.returned (.bool b)) hfe.out.symm,hbB0.out⟩
 subst hNN
 by_cases hVV:V=V'
 rotate_left
 ·have hfe:=Hd (f2.out (by rw[<-hVl2.out,<-hVl2'.out];exact hVV))
  have hne:((V:Int) != (V':Int))=true:=by simpa using (show (V:Int)≠(V':Int) by omega)
  clear hVV
  go_enter Tryz.func11,Tryz.ntmps11
  go_wp2_with fail
  go_ret
  exact⟨congrArg (λb=>Ending.returned (.bool b)) hfe.out.symm,hbB0.out⟩
 subst hVV
 go_enter Tryz.func11,Tryz.ntmps11
 go_wp2_with fail
 rw[<-hw2.out]
 clear e10 e11 e20 e21 hw2
 refine Qf [(false,5),(true,1),(false,20),(true,15),(false,18)] _ [] (λU wr=>∃ k:Nat,k<=N/\U 26=.int .i64 (k:Nat)/\Below w2.heap.size w2 wr/\∀ j (h1:j<m.its.length) (h2:j<m'.its.length),j<k->m.its[j]=m'.its[j]) (λU _=>N-(intOf (U 26)).toNat) ?_ ?_
 ·simp only[List.getD_cons_zero,List.getD_cons_succ]
  exact⟨0,Nat.zero_le _,rfl,Below.refl _ _,λj _ _ hj=>absurd hj (Nat.not_lt_zero _)⟩
 ·skip
  intro U wr hrel KK hback l' hl'
  obtain⟨k,hk,h12,hbw,hall⟩:=hrel
  simp only[Qq,Qk,cond_true,cond_false,Nat.reduceAdd,h12] at hl'
  subst hl'
  replace h12:=Hd h12
  replace hall:=Hd hall
  have c1:=(hbw.block _ (Zb a1.out)).trans a1.out
  have c2:=(hbw.block _ (Zb a2.out)).trans a2.out
  have hbB:=Hd (hB.out.trans (hbw.mono hB.out.size))
  have s10:=Za c1 0
  have s20:=Za c2 0
  by_cases hlt:k<N
  ·have hlt2:(k:Int)<(N:Int):=oX
   have hkN:k<m.its.length:=by rw[<-hNl2.out];exact hlt
   have hkM:k<m'.its.length:=by rw[<-hNl2'.out];exact hlt
   obtain⟨b1,o1,rfl,hr1⟩:=(hN.out.below hbB.out nR) k hkN
   obtain⟨b2,o2,rfl,hr2⟩:=(hM.out.below hbB.out nR) k hkM
   have ox:=okN.out _ (List.getElem_mem hkN)
   have oy:=okM.out _ (List.getElem_mem hkM)
   have hno:=λ(e:m.its[k]≠m'.its[k])=>f3.out k hkN hkM e
   have hstep:=λ(e:m.its[k]=m'.its[k])=>show ∀ j (h1:j<m.its.length) (h2:j<m'.its.length),j<k+1->m.its[j]=m'.its[j] from λj h1 h2 hjk=>by
    by_cases hjk2:j<k
    ·exact hall.out j h1 h2 hjk2
    ·obtain rfl:j=k:=oX
     exact e
   generalize m.its[k]=x at*
   generalize m'.its[k]=y at*
   have ix:(Tryz.prog.info? 63).map (·.size)=some x.list.length:=by rw[It.list_length ox];kernel_rfl
   have iy:(Tryz.prog.info? 63).map (·.size)=some y.list.length:=by rw[It.list_length oy];kernel_rfl
   have hne:∀ W,_:=λW=>Lp x y ox oy W
   obtain⟨X,hX⟩:∃ X,X=x.list.toArray:=⟨_,rfl⟩
   obtain⟨Y,hY⟩:∃ Y,Y=y.list.toArray:=⟨_,rfl⟩
   rw[<-hX,<-hY] at hne
   replace hX:=Hd hX
   replace hY:=Hd hY
   replace hr1:=Hd hr1
   replace hr2:=Hd hr2
   replace hbw:=Hd hbw
   replace ox:=Hd ox
   replace oy:=Hd oy
   replace hno:=Hd hno
   replace hstep:=Hd hstep
   obtain⟨bb,hbb⟩:∃ bb,bb=decide (x=y):=⟨_,rfl⟩
   rw[<-hbb] at hne
   replace hbb:=Hd hbb
   clear c1 c2
   go_wp2_with fail
   have hd0:Hid (Grown wr wr.drew):=Hd (Grown.drew (Grown.refl wr))
   have k10:=λW (h:Grown wr W)=>(h.cell (World.block_lt_of_cell? wr _ s10)).trans s10
   have k20:=λW (h:Grown wr W)=>(h.cell (World.block_lt_of_cell? wr _ s20)).trans s20
   have r1:=Hd (λW (h:Grown wr W)=>ZV hr1.out h nR)
   have r2:=Hd (λW (h:Grown wr W)=>ZV hr2.out h nR)
   have hu:=Tryz.underlying63
   have hld1:=λW (h:Grown wr W)=>run_loadAt_mid (P:=Tryz.prog) W b1 (o1+k*76) 63 x.list _ (r1.out W h) hu rfl ix
   have hld2:=λW (h:Grown wr W)=>run_loadAt_mid (P:=Tryz.prog) W b2 (o2+k*76) 63 y.list _ (r2.out W h) hu rfl iy
   rw[<-hX.out] at hld1
   rw[<-hY.out] at hld2
   refine wp_region_held_drew (S:=(Grown wr)) kX hd0.out (λhOn=>?_)
   generalize World.drew wr=wd at*
   refine tk 0 hOn ?_
   refine tk 1 hOn ?_
   refine tk 2 hOn ?_
   refine tk 3 hOn ?_
   refine tk 5 hOn ?_
   refine tk 6 hOn ?_
   refine tk 7 hOn ?_
   refine tk 8 hOn ?_
   refine rds [4,9] ?_
   refine ac (λKz hKz=>?_) ?_
   rw[if_pos (by rfl)]
   (refine wp_load_mid 63 (.tmp 32) rfl b1 (o1+k*76) rfl x.list _ (r1.out _ hOn) hu rfl ix ?_)
   rw[<-hX.out]
   have hS:=hOn
   refine hKz.out _ _ hS ?_
   clear hKz Kz hOn hS
   intro hOn
   try simp only[Act.put]
   refine rd 9 (λKz hKz=>?_)
   rw[if_pos (by rfl)]
   (refine wp_load_mid 63 (.tmp 37) rfl b2 (o2+k*76) rfl y.list _ (r2.out _ hOn) hu rfl iy ?_)
   rw[<-hY.out]
   have hS:=hOn
   refine hKz.out _ _ hS ?_
   clear hKz Kz hOn hS
   intro hOn
   try simp only[Act.put]
   refine tk 10 hOn ?_
   refine dnE ?_
   rotate_left
   refine ac (λKz hKz=>?_) AllReadyH.nil
   rw[if_pos (by rfl)]
   (refine wp_load_mid 63 (.tmp 37) rfl b2 (o2+k*76) rfl y.list _ (r2.out _ hOn) hu rfl iy ?_)
   rw[<-hY.out]
   have hS:=hOn
   refine hKz.out _ _ hS ?_
   clear hKz Kz hOn hS
   intro hOn
   try simp only[Act.put]
   refine rd 4 (λKz hKz=>?_)
   rw[if_pos (by rfl)]
   (refine wp_load_mid 63 (.tmp 32) rfl b1 (o1+k*76) rfl x.list _ (r1.out _ hOn) hu rfl ix ?_)
   rw[<-hX.out]
   have hS:=hOn
   refine hKz.out _ _ hS ?_
   clear hKz Kz hOn hS
   intro hOn
   try simp only[Act.put]
   refine tk 10 hOn ?_
   refine dnE ?_
   all_goals
    have hS2:=Hd (hbw.out.trans (hOn.mono hbw.out.size))
    have hS3:=Hd (hB.out.trans (hS2.out.mono hB.out.size))
    cases bb with
    | true=>
     have hxy:x=y:=by simpa using hbb.out.symm
     replace hxy:=Hd hxy
     go_wp2_with fail
     refine hback.out _ _ kX ?_ ?_
     ·simp only[List.getD_cons_zero,List.getD_cons_succ]
      exact⟨k+1,oX,by go_num,hS2.out,hstep.out hxy.out⟩
     ·have h12:=h12.out
      simp only[List.getD_cons_zero,List.getD_cons_succ,h12,intOf]
      omega
    | false=>
     have hxy:x≠y:=by simpa using hbb.out.symm
     have hfe:=Hd (hno.out hxy)
     clear hxy
     go_wp2_with fail
     go_ret
     exact⟨congrArg (λb=>Ending.returned (.bool b)) hfe.out.symm,hS3.out⟩
  ·obtain rfl:k=N:=oX
   have hsame0:=Hd (Uk (by rw[<-hNl2.out,<-hNl2'.out]) (λj h1 h2=>hall.out j h1 h2 (by rw[hNl2.out];exact h1)))
   clear c1 c2
   replace s10:=Za ((hbw.block _ (Zb a1.out)).trans a1.out) 1
   replace s20:=Za ((hbw.block _ (Zb a2.out)).trans a2.out) 1
   have hb1:=Hd hbw
   clear hbw hback h12 hbB hall
   go_wp2_with fail
   refine Qf [(false,6),(true,1),(false,37),(true,15)] _ [] (λU wr=>∃ k:Nat,k<=V/\U 44=.int .i64 (k:Nat)/\Below w2.heap.size w2 wr/\∀ j (h1:j<m.ens.length) (h2:j<m'.ens.length),j<k->m.ens[j]=m'.ens[j]) (λU _=>V-(intOf (U 44)).toNat) ?_ ?_
   ·simp only[List.getD_cons_zero,List.getD_cons_succ]
    exact⟨0,Nat.zero_le _,rfl,hb1.out,λj _ _ hj=>absurd hj (Nat.not_lt_zero _)⟩
   ·clear hb1
    intro U wr hrel KK hback l' hl'
    obtain⟨k,hk,h12,hbw,hall⟩:=hrel
    simp only[Qq,Qk,cond_true,cond_false,Nat.reduceAdd,h12] at hl'
    subst hl'
    replace h12:=Hd h12
    replace hall:=Hd hall
    have c1:=(hbw.block _ (Zb a1.out)).trans a1.out
    have c2:=(hbw.block _ (Zb a2.out)).trans a2.out
    have hbB:=Hd (hB.out.trans (hbw.mono hB.out.size))
    have s10:=Za c1 1
    have s20:=Za c2 1
    by_cases hlt:k<V
    ·have hlt2:(k:Int)<(V:Int):=oX
     have hkN:k<m.ens.length:=by rw[<-hVl2.out];exact hlt
     have hkM:k<m'.ens.length:=by rw[<-hVl2'.out];exact hlt
     obtain⟨b1,o1,rfl,hr1⟩:=(hV.out.below hbB.out nR) k hkN
     obtain⟨b2,o2,rfl,hr2⟩:=(hW.out.below hbB.out nR) k hkM
     have ox:=okV.out _ (List.getElem_mem hkN)
     have oy:=okW.out _ (List.getElem_mem hkM)
     have hno:=λ(e:m.ens[k]≠m'.ens[k])=>f4.out k hkN hkM e
     have hstep:=λ(e:m.ens[k]=m'.ens[k])=>show ∀ j (h1:j<m.ens.length) (h2:j<m'.ens.length),j<k+1->m.ens[j]=m'.ens[j] from λj h1 h2 hjk=>by
      by_cases hjk2:j<k
      ·exact hall.out j h1 h2 hjk2
      ·obtain rfl:j=k:=oX
       exact e
     generalize m.ens[k]=x at*
     generalize m'.ens[k]=y at*
     have ix:(Tryz.prog.info? 105).map (·.size)=some x.list.length:=by rw[(rfl:x.list.length=7)];kernel_rfl
     have iy:(Tryz.prog.info? 105).map (·.size)=some y.list.length:=by rw[(rfl:y.list.length=7)];kernel_rfl
     have hne:∀ W,_:=λW=>Lj x y ox oy W
     obtain⟨X,hX⟩:∃ X,X=x.list.toArray:=⟨_,rfl⟩
     obtain⟨Y,hY⟩:∃ Y,Y=y.list.toArray:=⟨_,rfl⟩
     rw[<-hX,<-hY] at hne
     replace hX:=Hd hX
     replace hY:=Hd hY
     replace hr1:=Hd hr1
     replace hr2:=Hd hr2
     replace hbw:=Hd hbw
     replace ox:=Hd ox
     replace oy:=Hd oy
     replace hno:=Hd hno
     replace hstep:=Hd hstep
     obtain⟨bb,hbb⟩:∃ bb,bb=decide (x=y):=⟨_,rfl⟩
     rw[<-hbb] at hne
     replace hbb:=Hd hbb
     clear c1 c2
     go_wp2_with fail
     have hd0:Hid (Grown wr wr.drew):=Hd (Grown.drew (Grown.refl wr))
     have k10:=λW (h:Grown wr W)=>(h.cell (World.block_lt_of_cell? wr _ s10)).trans s10
     have k20:=λW (h:Grown wr W)=>(h.cell (World.block_lt_of_cell? wr _ s20)).trans s20
     have r1:=Hd (λW (h:Grown wr W)=>ZV hr1.out h nR)
     have r2:=Hd (λW (h:Grown wr W)=>ZV hr2.out h nR)
     have hu:=Tryz.underlying105
     have hld1:=λW (h:Grown wr W)=>run_loadAt_mid (P:=Tryz.prog) W b1 (o1+k*7) 105 x.list _ (r1.out W h) hu rfl ix
     have hld2:=λW (h:Grown wr W)=>run_loadAt_mid (P:=Tryz.prog) W b2 (o2+k*7) 105 y.list _ (r2.out W h) hu rfl iy
     rw[<-hX.out] at hld1
     rw[<-hY.out] at hld2
     refine wp_region_held_drew (S:=(Grown wr)) kX hd0.out (λhOn=>?_)
     generalize World.drew wr=wd at*
     refine tk 0 hOn ?_
     refine tk 1 hOn ?_
     refine tk 2 hOn ?_
     refine tk 3 hOn ?_
     refine tk 5 hOn ?_
     refine tk 6 hOn ?_
     refine tk 7 hOn ?_
     refine tk 8 hOn ?_
     refine rds [4,9] ?_
     refine ac (λKz hKz=>?_) ?_
     rw[if_pos (by rfl)]
     (refine wp_load_mid 105 (.tmp 50) rfl b1 (o1+k*7) rfl x.list _ (r1.out _ hOn) hu rfl ix ?_)
     rw[<-hX.out]
     have hS:=hOn
     refine hKz.out _ _ hS ?_
     clear hKz Kz hOn hS
     intro hOn
     try simp only[Act.put]
     refine rd 9 (λKz hKz=>?_)
     rw[if_pos (by rfl)]
     (refine wp_load_mid 105 (.tmp 55) rfl b2 (o2+k*7) rfl y.list _ (r2.out _ hOn) hu rfl iy ?_)
     rw[<-hY.out]
     have hS:=hOn
     refine hKz.out _ _ hS ?_
     clear hKz Kz hOn hS
     intro hOn
     try simp only[Act.put]
     refine tk 10 hOn ?_
     refine dnE ?_
     rotate_left
     refine ac (λKz hKz=>?_) AllReadyH.nil
     rw[if_pos (by rfl)]
     (refine wp_load_mid 105 (.tmp 55) rfl b2 (o2+k*7) rfl y.list _ (r2.out _ hOn) hu rfl iy ?_)
     rw[<-hY.out]
     have hS:=hOn
     refine hKz.out _ _ hS ?_
     clear hKz Kz hOn hS
     intro hOn
     try simp only[Act.put]
     refine rd 4 (λKz hKz=>?_)
     rw[if_pos (by rfl)]
     (refine wp_load_mid 105 (.tmp 50) rfl b1 (o1+k*7) rfl x.list _ (r1.out _ hOn) hu rfl ix ?_)
     rw[<-hX.out]
     have hS:=hOn
     refine hKz.out _ _ hS ?_
     clear hKz Kz hOn hS
     intro hOn
     try simp only[Act.put]
     refine tk 10 hOn ?_
     refine dnE ?_
     all_goals
      have hS2:=Hd (hbw.out.trans (hOn.mono hbw.out.size))
      have hS3:=Hd (hB.out.trans (hS2.out.mono hB.out.size))
      cases bb with
      | true=>
       have hxy:x=y:=by simpa using hbb.out.symm
       replace hxy:=Hd hxy
       go_wp2_with fail
       refine hback.out _ _ kX ?_ ?_
       ·simp only[List.getD_cons_zero,List.getD_cons_succ]
        exact⟨k+1,oX,by go_num,hS2.out,hstep.out hxy.out⟩
       ·have h12:=h12.out
        simp only[List.getD_cons_zero,List.getD_cons_succ,h12,intOf]
        omega
      | false=>
       have hxy:x≠y:=by simpa using hbb.out.symm
       have hfe:=Hd (hno.out hxy)
       clear hxy
       go_wp2_with fail
       go_ret
       exact⟨congrArg (λb=>Ending.returned (.bool b)) hfe.out.symm,hS3.out⟩
    ·obtain rfl:k=V:=oX
     have hsame1:=Hd (Uk (by rw[<-hVl2.out,<-hVl2'.out]) (λj h1 h2=>hall.out j h1 h2 (by rw[hVl2.out];exact h1)))
     clear c1 c2
     replace hbw:=Hd hbw
     go_wp2_with fail
     go_ret
     exact⟨congrArg (λb=>Ending.returned (.bool b)) (f5.out hsame0.out hsame1.out).symm,hbB.out⟩
theorem GZ(m:St):YP m m=true:=by unfold YP;rw[decide_eq_true rfl,decide_eq_true rfl];rfl
theorem NR(a0:Option Addr)(c0:Nat)(z0:List (List UInt8))(w:World)(hA:ArgBB w a0 c0 z0)(ea:Nat->Addr)(H:Errs 298 Zq w ea)(hK:ShaK w)(hF:ShaF w) :
  Calls Tryz.prog 3 #[.slice a0 z0.length c0] w λx w'=>x=.returned (.bool true)/\Below w.heap.size w w':=by
 have hE:DErr w (λk=>match k with|0=>ea 0|1=>ea 7|_=>ea 13):=⟨H.var 0 dX,H.var 7 dX,H.var 13 dX⟩
 have hal:=Hd (Ha w _ hE hK hF ea H)
 obtain⟨N,hN⟩:∃ N,N=z0.length:=⟨_,rfl⟩
 have hrp:=λ(hl:z0.length<=1000) (h5:∀ b∈z0,b.length<=500) W (hW:Below w.heap.size w W)=>Kw a0 c0 z0 W (hA.below hW) hl h5 ea (H.below hW)
 have hrr:=λ(hl:z0.length<=1000) (h5:∀ b∈z0,b.length<=500) W (hW:Below w.heap.size w W)=>MM a0 c0 z0 W (hA.below hW) hl h5
 have hsbR:=Va z0 0 ⟨[],[]⟩ (Qs 0)
 obtain⟨FM,hFM⟩:∃ FM,FM=ZH ⟨[],[]⟩ z0:=⟨_,rfl⟩
 rw[<-hFM] at hrp hrr hsbR
 rw[<-hN]
 by_cases h30:30<N
 ·have hlt:(30:Int)<(N:Int):=oX
  clear hrp hrr hA hK hF H hE hsbR hFM
  go_enter Tryz.func3,Tryz.ntmps3
  go_wp2_with fail
  with_reducible refine hal.out.mono ?_
  rintro e w1 ⟨rfl,hb1⟩
  replace hb1:=Hd hb1
  clear hal h30
  go_wp2_with fail
  go_ret
  exact⟨rfl,hb1.out⟩
 have hlt:¬(30:Int)<(N:Int):=oX
 have hNb:N<=30:=oX
 replace hrp:=Hd (hrp oX)
 replace hrr:=Hd (hrr oX)
 have hl1:=Hd (show FM.1.its.length<=1000 by have:=hsbR.its;omega)
 have hl2:=Hd (show FM.1.ens.length<=1000 by have:=hsbR.ens;omega)
 rw[<-hN] at hrp hrr
 replace hA:=Hd hA
 replace H:=Hd H
 replace hN:=Hd hN
 have iS:(Tryz.prog.info? 28).map (·.size)=some 2:=kX
 have iR:(Tryz.prog.info? 36).map (·.size)=some 2:=kX
 clear hK hF hE hsbR hFM h30
 go_enter Tryz.func3,Tryz.ntmps3
 go_wp2_with fail
 with_reducible refine hal.out.mono ?_
 clear hal
 rintro e w1 ⟨rfl,hb1⟩
 go_wp2_with fail
 refine Qf [(false,4),(true,1),(false,11),(true,8),(false,20)] _ [] (λU wr=>∃ k:Nat,k<=N/\U 16=.int .i64 (k:Nat)/\Below w.heap.size w wr/\∀ j,j<k->(z0.getD j []).length<=500) (λU _=>N-(intOf (U 16)).toNat) ?_ ?_
 ·simp only[List.getD_cons_zero,List.getD_cons_succ]
  exact⟨0,Nat.zero_le _,rfl,hb1,λj hj=>absurd hj (Nat.not_lt_zero _)⟩
 ·clear hb1
  intro U wr hrel KK hback l' hl'
  obtain⟨k,hk,hU0,hbw,hall⟩:=hrel
  simp only[Qq,Qk,cond_true,cond_false,Nat.reduceAdd,hU0] at hl'
  subst hl'
  replace hU0:=Hd hU0
  replace hall:=Hd hall
  by_cases hlt:k<N
  ·have hlt2:(k:Int)<(N:Int):=oX
   have hkN:k<z0.length:=by rw[<-hN.out];exact hlt
   obtain⟨b1,o1,rfl,ai,ci,hce,-⟩:=(hA.out.below hbw).row k hkN
   obtain⟨L,hL⟩:∃ L,L=(z0.getD k []).length:=⟨_,rfl⟩
   rw[<-hL] at hce
   replace hL:=Hd hL
   replace hbw:=Hd hbw
   by_cases h5:500<L
   ·have h5i:(500:Int)<(L:Int):=oX
    clear hback hrp hrr h5
    go_wp2_with fail
    go_ret
    exact⟨rfl,hbw.out⟩
   ·have h5i:¬(500:Int)<(L:Int):=oX
    have hstep:=Hd (show ∀ j,j<k+1->(z0.getD j []).length<=500 from λj hj=>by
     by_cases hj2:j<k
     ·exact hall.out j hj2
     ·obtain rfl:j=k:=oX
      have:=hL.out
      omega)
    clear hrp hrr h5
    go_wp2_with fail
    refine hback.out _ _ kX ?_ ?_
    ·simp only[List.getD_cons_zero,List.getD_cons_succ]
     exact⟨k+1,oX,by go_num,hbw.out,hstep.out⟩
    ·have hU0:=hU0.out
     simp only[List.getD_cons_zero,List.getD_cons_succ,hU0,intOf]
     omega
  ·obtain rfl:k=N:=oX
   have h5:∀ b∈z0,b.length<=500:=λb hb=>by
    obtain⟨j,hj,rfl⟩:=List.getElem_of_mem hb
    have:=hall.out j (by rw[hN.out];exact hj)
    rw[List.getD_eq_getElem?_getD,List.getElem?_eq_getElem hj] at this
    exact this
   replace hrp:=Hd (hrp.out h5)
   replace hrr:=Hd (hrr.out h5)
   have hc1:=Hd (hrp.out wr hbw)
   replace hbw:=Hd hbw
   clear hback hU0 hall h5 hrp
   go_wp2_with fail
   with_reducible refine hc1.out.mono ?_
   clear hc1
   rintro e w2 ⟨vm,v2,rfl,hm2,hv2,hb2,-⟩
   obtain⟨C,rfl⟩:∃ C,vm=.agg C:=by
    obtain⟨a,c,a',c',e⟩:=hm2.shape
    exact⟨_,e⟩
   have hC2:C.size=2:=by
    obtain⟨a,c,a',c',e⟩:=hm2.shape
    cases e
    rfl
   have h1C:C.all (·.oneCell')=true:=by
    obtain⟨a,c,a',c',e⟩:=hm2.shape
    cases e
    simp[Value.oneCell']
   have iC:(Tryz.prog.info? 28).map (·.size)=some C.size:=by rw[hC2];exact iS
   have zC:(#[.slice none 0 0,.slice none 0 0]:Array Value).size=C.size:=by rw[hC2];rfl
   have hB2:=Hd (hbw.out.trans (hb2.mono hbw.out.size))
   have hZ2:=Hd (heap_alloc_new w2 (.cells #[.slice none 0 0,.slice none 0 0] 28))
   replace hm2:=Hd hm2
   replace hv2:=Hd hv2
   clear hb2
   go_wp2_with ((with_reducible refine wL (.store 28 (.tmp 5) _) ?_);(refine Zc rfl 28 (.tmp 5) (.tmp 27) rfl w2.heap.size _ C rfl rfl hZ2 iC zC h1C ?_);intro w3 hU3;have hb3:Below w2.heap.size w2 w3:=(Below.alloc (Below.refl w2.heap.size w2) nR _).trans (hU3.out.below nR);have aC3:=Hd hU3.out.here;have hm3:=Hd (hm2.out.below hb3 nR);have hv3:=Hd (hv2.out.below hb3);have hB3:=Hd (hB2.out.trans (hb3.mono hB2.out.size));have hc3:=Hd (hrr.out w3 hB3.out))
   with_reducible refine hc3.out.mono ?_
   clear hc3 hrr hm2 hv2
   rintro e w4 ⟨vr,rfl,hm4,hb4,-⟩
   obtain⟨D,rfl⟩:∃ D,vr=.agg D:=by
    obtain⟨a,c,a',c',e⟩:=hm4.shape
    exact⟨_,e⟩
   have hD2:D.size=2:=by
    obtain⟨a,c,a',c',e⟩:=hm4.shape
    cases e
    rfl
   have h1D:D.all (·.oneCell')=true:=by
    obtain⟨a,c,a',c',e⟩:=hm4.shape
    cases e
    simp[Value.oneCell']
   have iD:(Tryz.prog.info? 36).map (·.size)=some D.size:=by rw[hD2];exact iR
   have zD:(#[.slice none 0 0,.slice none 0 0]:Array Value).size=D.size:=by rw[hD2];rfl
   have aC4:=Hd ((hb4.block _ (Zb aC3.out)).trans aC3.out)
   have hm34:=Hd (hm3.out.below hb4 nR)
   have hv4:=Hd (hv3.out.below hb4)
   have hB4:=Hd (hB3.out.trans (hb4.mono hB3.out.size))
   have hZ4:=Hd (heap_alloc_new w4 (.cells #[.slice none 0 0,.slice none 0 0] 36))
   replace hm4:=Hd hm4
   clear hb4 hm3 hv3
   go_wp2_with ((with_reducible refine wL (.store 36 (.tmp 7) _) ?_);(refine Zc rfl 36 (.tmp 7) (.tmp 32) rfl w4.heap.size _ D rfl rfl hZ4 iD zD h1D ?_);intro w5 hU5;have hb5:Below w4.heap.size w4 w5:=(Below.alloc (Below.refl w4.heap.size w4) nR _).trans (hU5.out.below nR);have aD5:=Hd hU5.out.here;have aC5:=Hd ((hb5.block _ (Zb aC4.out)).trans aC4.out);have hm5:=Hd (hm4.out.below hb5 nR);have hm35:=Hd (hm34.out.below hb5 nR);have hv5:=Hd (hv4.out.below hb5);have hB5:=Hd (hB4.out.trans (hb5.mono hB4.out.size)))
   have rlA:∀ W:World,Grown w5 W->W.heap[w2.heap.size]? = some (.cells C 28 (0,0)):=λW hW=>(hW.block _ (Zb aC5.out)).trans aC5.out
   have huA:Tryz.prog.underlying 28=_:=Tryz.underlying28
   have hzA:=iC
   have rlB:∀ W:World,Grown w5 W->W.heap[w4.heap.size]? = some (.cells D 36 (0,0)):=λW hW=>(hW.block _ (Zb aD5.out)).trans aD5.out
   have huB:Tryz.prog.underlying 36=_:=Tryz.underlying36
   have hzB:=iD
   have hd0:Hid (Grown w5 w5.drew):=Hd (Grown.drew (Grown.refl w5))
   have hnn:((FM.2:Int)==(FM.2:Int))=true:=sX
   obtain⟨fn,hfn⟩:∃ fn:Int,fn=(FM.2:Int):=⟨_,rfl⟩
   rw[<-hfn] at hnn
   replace hfn:=Hd hfn
   have hsr:=Hd (GZ FM.1)
   refine wp_region_held_drew (S:=(Grown w5)) kX hd0.out (λhOn=>?_)
   generalize World.drew w5=wd at*
   refine tk 0 hOn ?_
   refine tk 2 hOn ?_
   refine rd 1 (λKz hKz=>?_)
   go_simp
   (with_reducible refine(Ro (hv5.out.below hOn) (H.out.below (hB5.out.trans (hOn.mono hB5.out.size)))).mono ?_)
   rintro e wa ⟨rfl,hnew⟩
   have hS:=Grown.trans hOn hnew
   focus (go_wp2_with fail)
   refine hKz.out _ _ hS ?_
   clear hKz Kz hOn hS
   intro hOn
   try clear hnew
   try simp only[Act.put,sL,sZ,sS]
   refine tk 3 hOn ?_
   refine tk 4 hOn ?_
   refine tk 5 hOn ?_ (v:=Value.agg _) (hy:=Or.inl ⟨by rfl,λW hSW=>ZO _ _ rfl _ _ _ rfl (rlA W hSW) huA rfl hzA⟩)
   refine tk 7 hOn ?_ (v:=Value.agg _) (hy:=Or.inl ⟨by rfl,λW hSW=>ZO _ _ rfl _ _ _ rfl (rlB W hSW) huB rfl hzB⟩)
   refine rd 6 (λKz hKz=>?_)
   go_simp
   (with_reducible refine(Ms (.agg C) FM.1 _ (hm35.out.below hOn nR) hl1.out hl2.out).mono ?_)
   rintro e wc ⟨vc1,vc2,rfl,hr5,hr6,hnew⟩
   have hS:=Grown.trans hOn hnew
   have hS1:=Hd (Y2 hr5 hr6)
   clear hr5 hr6
   focus (go_wp2_with fail)
   refine hKz.out _ _ hS ?_
   clear hKz Kz hOn hS
   intro hOn
   try clear hnew
   try simp only[Act.put,sL,sZ,sS]
   refine rd 8 (λKz hKz=>?_)
   go_simp
   (with_reducible refine(HG _ _ FM.1 FM.1 _ hS1.out (hm5.out.below hOn nR) hl1.out hl2.out).mono ?_)
   rintro e wf ⟨rfl,hnew⟩
   have hS:=Grown.trans hOn hnew
   rw[hsr.out]
   focus (go_wp2_with fail)
   refine hKz.out _ _ hS ?_
   clear hKz Kz hOn hS
   intro hOn
   try clear hnew
   try simp only[Act.put,sL,sZ,sS]
   refine tk 9 hOn ?_
   refine tk 10 hOn ?_
   refine dnE ?_
   all_goals
    go_wp2_with fail
    go_ret
    exact⟨rfl,hB5.out.trans (hOn.mono hB5.out.size)⟩
open Go.RowKit Go.ChangeShapes
section
variable {P:Program} {W:World}
theorem VO(R:List (String×DataW Unit)):∀ (L:List (String×DataW Unit)) (ps:List MemPlace),DataW.LaidVars P W (L++R) ps->∃ q,DataW.LaidVars P W R q:=by
 intro L
 induction L with
 | nil=>intro ps h;exact⟨ps,h⟩
 | cons x L ih=>
  intro ps h
  obtain⟨g0,t0,cs0,f0,p0,q0,hg0,ht0,hv0,hd0,hr0,e0⟩:=h
  exact ih q0 hr0
theorem KZ(R:List (String×DataW Unit)):∀ (L:List (String×DataW Unit)) (ps:List MemPlace),DataW.LaidVars P W (L++R) ps->∃ q r,ps=q++r/\DataW.LaidVars P W R r:=by
 intro L
 induction L with
 | nil=>intro ps h;exact⟨[],ps,rfl,h⟩
 | cons x L ih=>
  intro ps h
  obtain⟨g0,t0,cs0,f0,p0,q0,hg0,ht0,hv0,hd0,hr0,e0⟩:=h
  obtain⟨q,r,e1,hr⟩:=ih q0 hr0
  exact⟨MemPlace.row ⟨g0,0,none⟩ cs0.size++p0++q,r,by rw[e0,e1];simp only[List.append_assoc],hr⟩
theorem Hk{name:String}{k:IntKind}{zs:List Int}{R:List (String×DataW Unit)}{ps:List MemPlace}{g:Nat}{t e:TypeId}{n:Nat}
  (hg:P.globalNamed name=some g) (hty:(P.globals[g]?).map (·.type)=some t) (ht:P.underlying t=some (.array n e)) (he:P.underlying e=some (.int k)) (hce:P.cellsOf e=1) (hct:P.cellsOf t=n)
  (h:DataW.LaidVars P W ((name,Go.Lib.tabData k zs)::R) ps):∃ t' fr,W.heap[g]? = some (.cells (zs.map λz=>Value.int k z).toArray t' fr):=by
 obtain⟨g',t',cs,fuel,p,q,hg',ht',hvar,hd,_,_⟩:=h
 obtain rfl:=Option.some.inj (hg.symm.trans hg')
 obtain rfl:=Option.some.inj (hty.symm.trans ht')
 have e1:cs=(zs.map λz=>Value.int k z).toArray:=by rw[<-Go.Lib.cells_of_tab ht he hce hct hd]
 subst e1
 simp only[World.var?,hg,Option.bind_some] at hvar
 split at hvar
 ·rename_i cs2 t2 fr2 hh
  injection hvar with hvar
  subst hvar
  exact⟨t2,fr2,hh⟩
 ·cases hvar
end
section
variable {H:Type} {enc:TypeId×Value->H} {P:Program} {w:World}
theorem HL{t e q:TypeId}{v:Value}{d:DataW H}{p:List MemPlace}(ht:P.underlying t=some (.slice e))(he:P.underlying e=some (.slice q))(hq:P.underlying q=some (.int .u8))(ce:P.cellsOf e=1)(cq:P.cellsOf q=1)
  (hv:∃ a len cap,v=.slice a len cap) (h:DataW.Trod enc P w 0 (λ_=>true) true t v d p):∃ a cap ps,v=.slice a (List.length ps) cap/\ArgBB w a cap ps:=by
 obtain⟨a0,len,cap,rfl⟩:=hv
 obtain⟨fuel,hf⟩:=h
 rcases Go.Deep.open_int_rows ht he hq ce cq hf with ⟨hcs,_⟩|⟨a,len',cap',A,L,C,Z,hcs,_,hl,hm,_,hrow⟩
 ·simp[Value.cells] at hcs
  obtain⟨rfl,rfl,rfl⟩:=hcs
  exact⟨none,0,[],rfl,Nat.le_refl _,Nat.zero_le _,λ_=>rfl,λi hi=>absurd hi (Nat.not_lt_zero i)⟩
 ·simp[Value.cells] at hcs
  obtain⟨rfl,rfl,rfl⟩:=hcs
  refine⟨some a,cap,(List.range len).map λr=>((Z r).take (L r)).map λn=>UInt8.ofNat n.toNat,sX,by simpa using hl,hm,(λe=>by cases e),λi hi=>?_⟩
  have hi':i<len:=by simpa using hi
  obtain⟨hc,hLC,hCm,hZ,hwf,hnil,hcells⟩:=hrow i oX
  obtain⟨b,off,spot⟩:=a
  have hspot:spot=none:=by simpa[Addr.add] using World.cell?_spot (hrow 0 oX).1
  subst hspot
  have e1:(⟨b,off,none⟩:Addr).add i=⟨b,off+i,none⟩:=by unfold Addr.add;split<;>simp_all
  rw[e1] at hc
  have hget:((List.range len).map λr=>((Z r).take (L r)).map λn=>UInt8.ofNat n.toNat).getD i []=((Z i).take (L i)).map λn=>UInt8.ofNat n.toNat:=by simp[hi']
  have hlen:(((Z i).take (L i)).map λn=>UInt8.ofNat n.toNat).length=L i:=by simp[hZ,hLC]
  rw[hget]
  refine⟨b,off,rfl,A i,C i,by rw[hc,hlen],by rw[hlen];exact hLC,hCm,hnil,λj hj=>?_⟩
  rw[hlen] at hj
  cases hA:A i with
  | none=>have:=hnil hA;omega
  | some a'=>
   obtain⟨_,hx⟩:=hcells a' hA
   have hx0:=hx j oX
   obtain⟨b',off',spot'⟩:=a'
   have hspot':spot'=none:=by simpa[Addr.add] using World.cell?_spot (hx 0 oX)
   subst hspot'
   have e2:(⟨b',off',none⟩:Addr).add j=⟨b',off'+j,none⟩:=by unfold Addr.add;split<;>simp_all
   rw[e2] at hx0
   refine⟨b',off',rfl,?_⟩
   rw[hx0]
   have hjZ:j<(Z i).length:=oX
   have hz:=PG (hwf ((Z i)[j]) (List.getElem_mem hjZ))
   have hg1:(((Z i).take (L i)).map λn=>UInt8.ofNat n.toNat).getD j 0=UInt8.ofNat ((Z i)[j]).toNat:=by
    rw[List.getD_eq_getElem?_getD,List.getElem?_map,List.getElem?_take,if_pos hj,List.getElem?_eq_getElem hjZ];rfl
   have hg2:(Z i).getD j 0=(Z i)[j]:=by rw[List.getD_eq_getElem?_getD,List.getElem?_eq_getElem hjZ];rfl
   rw[hg1,hg2,hz]
end
def shaFirst:List Int:=(ZI 8 (sAt Qd)).map wn
def shaAdded:List Int:=kList.map wn
theorem N3:(shaFirst.map λz=>Value.int .u32 z).toArray=c8 Qd:=kX
theorem MN{W:World}{g:Nat}{t:TypeId}{fr:Nat×Nat}(h:W.heap[g]? = some (.cells (shaFirst.map λz=>Value.int .u32 z).toArray t fr))(i:Nat)(hi:i<8):W.cell? ⟨g,i,none⟩=some (.int .u32 (wn (sAt Qd i))):=by
 rw[cell_of_row W g i _ t fr h,N3,HJ Qd hi]
theorem Mg{W:World}{g:Nat}{t:TypeId}{fr:Nat×Nat}(h:W.heap[g]? = some (.cells (shaAdded.map λz=>Value.int .u32 z).toArray t fr))(i:Nat)(hi:i<64):W.cell? ⟨g,i,none⟩=some (.int .u32 (wn (kAt i))):=by
 rw[cell_of_row W g i _ t fr h]
 have hk:kList.length=64:=rfl
 unfold shaAdded kAt
 simp only[List.getElem?_toArray,List.getElem?_map,List.map_map,List.getD_eq_getElem?_getD]
 rw[List.getElem?_eq_getElem oX]
 rfl
end Go.Proofs.YtpdhceiodgnbmaaGreatDoor
