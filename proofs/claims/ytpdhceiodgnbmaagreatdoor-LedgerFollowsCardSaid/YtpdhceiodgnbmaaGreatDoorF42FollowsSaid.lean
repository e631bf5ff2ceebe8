import Derived.Test.YtpdhceiodgnbmaaGreatDoorF0FollowsSaid
import Derived.Test.YtpdhceiodgnbmaaGreatDoorF1FollowsSaid
import Derived.Test.YtpdhceiodgnbmaaGreatDoorF41FollowsSaid
import Derived.Test.YtpdhceiodgnbmaaGreatDoorF2FollowsSaid
import Derived.Test.YtpdhceiodgnbmaaGreatDoorF3FollowsSaid
import Derived.Deep.MidRow
set_option linter.unusedVariables false
set_option linter.unusedSimpArgs false
set_option linter.unnecessarySimpa false
set_option maxRecDepth 100000
set_option maxHeartbeats 8000000
namespace Go.Proofs.YtpdhceiodgnbmaaGreatDoor
open Go.RowKit
theorem Mc(a b:Option Addr)(c d:Nat)(xs ys:List It)(okX:∀ x∈xs,x.Ok)(okY:∀ y∈ys,y.Ok)(w:World)(hX:RowAt It.list 76 w a xs)(hY:RowAt It.list 76 w b ys)(l1:xs.length<=100000) :
  Calls Tryz.prog 45 #[.slice a xs.length c,.slice b ys.length d] w λx w'=>x=.returned (.bool (decide (xs=ys)))/\Below w.heap.size w w':=by
 have f1:=λ(h:xs.length≠ys.length)=>decide_eq_false (p:=xs=ys) (λe=>h (by rw[e]))
 have f3:=λk (h1:k<xs.length) (h2:k<ys.length) (h:xs[k]≠ys[k])=>decide_eq_false (p:=xs=ys) (λe=>h (by simp only[e]))
 have f5:=λ(h:xs.length=ys.length) (he:∀ j (h1:j<xs.length) (h2:j<ys.length),xs[j]=ys[j])=>decide_eq_true (p:=xs=ys) (List.ext_getElem h he)
 generalize decide (xs=ys)=res at*
 obtain⟨N,hNl⟩:∃ N,N=xs.length:=⟨_,rfl⟩
 obtain⟨N',hNl'⟩:∃ N,N=ys.length:=⟨_,rfl⟩
 rw[<-hNl,<-hNl']
 rw[<-hNl] at l1
 replace f1:=Hd f1
 replace f3:=Hd f3
 replace f5:=Hd f5
 replace hX:=Hd hX
 replace hY:=Hd hY
 replace okX:=Hd okX
 replace okY:=Hd okY
 replace hNl:=Hd hNl
 replace hNl':=Hd hNl'
 by_cases hNN:N=N'
 rotate_left
 ·have hfe:=Hd (f1.out (by rw[<-hNl.out,<-hNl'.out];exact hNN))
  have hne:((N:Int) != (N':Int))=true:=by simpa using (show (N:Int)≠(N':Int) by omega)
  clear hNN
  go_enter Tryz.func45,Tryz.ntmps45
  go_wp2_with fail
  go_ret
  exact⟨congrArg (λb=>Ending.returned (.bool b)) hfe.out.symm,Below.refl _ _⟩
 subst hNN
 go_enter Tryz.func45,Tryz.ntmps45
 go_wp2_with fail
 refine Z8 [(false,5),(true,1),(false,7),(true,13)] _ [] (λU wr=>∃ k:Nat,k<=N/\U 13=.int .i64 (k:Nat)/\Below w.heap.size w wr/\∀ j (h1:j<xs.length) (h2:j<ys.length),j<k->xs[j]=ys[j]) (λU _=>N-(intOf (U 13)).toNat) ?_ ?_
 ·simp only[List.getD_cons_zero,List.getD_cons_succ]
  exact⟨0,Nat.zero_le _,rfl,Below.refl _ _,λj _ _ hj=>absurd hj (Nat.not_lt_zero _)⟩
 ·intro U wr hrel KK hback l' hl'
  obtain⟨k,hk,h12,hbw,hall⟩:=hrel
  simp only[ZR,ZD,cond_true,cond_false,Nat.reduceAdd,h12] at hl'
  subst hl'
  replace h12:=Hd h12
  replace hall:=Hd hall
  by_cases hlt:k<N
  ·have hlt2:(k:Int)<(N:Int):=oX
   have hkN:k<xs.length:=by rw[<-hNl.out];exact hlt
   have hkM:k<ys.length:=by rw[<-hNl'.out];exact hlt
   obtain⟨b1,o1,rfl,hr1⟩:=(hX.out.below hbw nR) k hkN
   obtain⟨b2,o2,rfl,hr2⟩:=(hY.out.below hbw nR) k hkM
   have ox:=okX.out _ (List.getElem_mem hkN)
   have oy:=okY.out _ (List.getElem_mem hkM)
   have hno:=λ(e:xs[k]≠ys[k])=>f3.out k hkN hkM e
   have hstep:=λ(e:xs[k]=ys[k])=>show ∀ j (h1:j<xs.length) (h2:j<ys.length),j<k+1->xs[j]=ys[j] from λj h1 h2 hjk=>by
    by_cases hjk2:j<k
    ·exact hall.out j h1 h2 hjk2
    ·obtain rfl:j=k:=oX
     exact e
   generalize xs[k]=x at*
   generalize ys[k]=y at*
   have ix:(Tryz.prog.info? 58).map (·.size)=some x.list.length:=by rw[It.list_length ox];kernel_rfl
   have iy:(Tryz.prog.info? 58).map (·.size)=some y.list.length:=by rw[It.list_length oy];kernel_rfl
   have hne:∀ W,_:=λW=>(UA x y ox oy W).1
   obtain⟨X,hX2⟩:∃ X,X=x.list.toArray:=⟨_,rfl⟩
   obtain⟨Y,hY2⟩:∃ Y,Y=y.list.toArray:=⟨_,rfl⟩
   rw[<-hX2,<-hY2] at hne
   obtain⟨bb,hbb⟩:∃ bb,bb=decide (x=y):=⟨_,rfl⟩
   rw[<-hbb] at hne
   replace hbb:=Hd hbb
   replace hX2:=Hd hX2
   replace hY2:=Hd hY2
   replace hr1:=Hd hr1
   replace hr2:=Hd hr2
   replace hbw:=Hd hbw
   replace ox:=Hd ox
   replace oy:=Hd oy
   replace hno:=Hd hno
   replace hstep:=Hd hstep
   go_wp2_with fail
   have hd0:Hid (Grown wr wr.drew):=Hd (Grown.drew (Grown.refl wr))
   have r1:=Hd (λW (h:Grown wr W)=>Zs hr1.out h nR)
   have r2:=Hd (λW (h:Grown wr W)=>Zs hr2.out h nR)
   have hu:=Tryz.underlying58
   have hld1:=λW (h:Grown wr W)=>run_loadAt_mid (P:=Tryz.prog) W b1 (o1+k*76) 58 x.list _ (r1.out W h) hu rfl ix
   have hld2:=λW (h:Grown wr W)=>run_loadAt_mid (P:=Tryz.prog) W b2 (o2+k*76) 58 y.list _ (r2.out W h) hu rfl iy
   rw[<-hX2.out] at hld1
   rw[<-hY2.out] at hld2
   refine wp_region_held_drew (S:=(Grown wr)) kX hd0.out (λhOn=>?_)
   generalize World.drew wr=wd at*
   refine tk 0 hOn ?_
   refine tk 1 hOn ?_
   refine tk 2 hOn ?_
   refine tk 4 hOn ?_
   refine tk 5 hOn ?_
   refine tk 6 hOn ?_
   refine rds [3,7] ?_
   refine ac (λKz hKz=>?_) ?_
   rw[if_pos (by rfl)]
   (refine wp_load_mid 58 (.tmp 18) rfl b1 (o1+k*76) rfl x.list _ (r1.out _ hOn) hu rfl ix ?_)
   rw[<-hX2.out]
   have hS:=hOn
   refine hKz.out _ _ hS ?_
   clear hKz Kz hOn hS
   intro hOn
   try simp only[Act.put]
   refine rd 7 (λKz hKz=>?_)
   rw[if_pos (by rfl)]
   (refine wp_load_mid 58 (.tmp 22) rfl b2 (o2+k*76) rfl y.list _ (r2.out _ hOn) hu rfl iy ?_)
   rw[<-hY2.out]
   have hS:=hOn
   refine hKz.out _ _ hS ?_
   clear hKz Kz hOn hS
   intro hOn
   try simp only[Act.put]
   refine tk 8 hOn ?_
   refine dnE ?_
   rotate_left
   refine ac (λKz hKz=>?_) AllReadyH.nil
   rw[if_pos (by rfl)]
   (refine wp_load_mid 58 (.tmp 22) rfl b2 (o2+k*76) rfl y.list _ (r2.out _ hOn) hu rfl iy ?_)
   rw[<-hY2.out]
   have hS:=hOn
   refine hKz.out _ _ hS ?_
   clear hKz Kz hOn hS
   intro hOn
   try simp only[Act.put]
   refine rd 3 (λKz hKz=>?_)
   rw[if_pos (by rfl)]
   (refine wp_load_mid 58 (.tmp 18) rfl b1 (o1+k*76) rfl x.list _ (r1.out _ hOn) hu rfl ix ?_)
   rw[<-hX2.out]
   have hS:=hOn
   refine hKz.out _ _ hS ?_
   clear hKz Kz hOn hS
   intro hOn
   try simp only[Act.put]
   refine tk 8 hOn ?_
   refine dnE ?_
   all_goals
    have hS2:=Hd (hbw.out.trans (hOn.mono hbw.out.size))
    cases bb with
    | true=>
     have hxy:x=y:=by simpa using hbb.out.symm
     replace hxy:=Hd hxy
     go_wp2_with fail
     refine hback.out _ _ kX ?_ ?_
     ·simp only[List.getD_cons_zero,List.getD_cons_succ]
      exact⟨k+1,oX,by go_num,hS2.out,hstep.out hxy.out⟩
     ·have h12:=h12.out
      simp only[List.getD_cons_zero,List.getD_cons_succ,h12,intOf]
      omega
    | false=>
     have hxy:x≠y:=by simpa using hbb.out.symm
     have hfe:=Hd (hno.out hxy)
     clear hxy
     go_wp2_with fail
     go_ret
     exact⟨congrArg (λb=>Ending.returned (.bool b)) hfe.out.symm,hS2.out⟩
  ·obtain rfl:k=N:=oX
   have hfe:=Hd (f5.out (by rw[<-hNl.out,<-hNl'.out]) (λj h1 h2=>hall.out j h1 h2 (by rw[hNl.out];exact h1)))
   replace hbw:=Hd hbw
   clear hback
   go_wp2_with fail
   go_ret
   exact⟨congrArg (λb=>Ending.returned (.bool b)) hfe.out.symm,hbw.out⟩
theorem MN(a b:Option Addr)(c d:Nat)(xs ys:List En)(okX:∀ x∈xs,x.Ok)(okY:∀ y∈ys,y.Ok)(w:World)(hX:RowAt En.list 7 w a xs)(hY:RowAt En.list 7 w b ys)(l1:xs.length<=100000) :
  Calls Tryz.prog 46 #[.slice a xs.length c,.slice b ys.length d] w λx w'=>x=.returned (.bool (decide (xs=ys)))/\Below w.heap.size w w':=by
 have f1:=λ(h:xs.length≠ys.length)=>decide_eq_false (p:=xs=ys) (λe=>h (by rw[e]))
 have f3:=λk (h1:k<xs.length) (h2:k<ys.length) (h:xs[k]≠ys[k])=>decide_eq_false (p:=xs=ys) (λe=>h (by simp only[e]))
 have f5:=λ(h:xs.length=ys.length) (he:∀ j (h1:j<xs.length) (h2:j<ys.length),xs[j]=ys[j])=>decide_eq_true (p:=xs=ys) (List.ext_getElem h he)
 generalize decide (xs=ys)=res at*
 obtain⟨N,hNl⟩:∃ N,N=xs.length:=⟨_,rfl⟩
 obtain⟨N',hNl'⟩:∃ N,N=ys.length:=⟨_,rfl⟩
 rw[<-hNl,<-hNl']
 rw[<-hNl] at l1
 replace f1:=Hd f1
 replace f3:=Hd f3
 replace f5:=Hd f5
 replace hX:=Hd hX
 replace hY:=Hd hY
 replace okX:=Hd okX
 replace okY:=Hd okY
 replace hNl:=Hd hNl
 replace hNl':=Hd hNl'
 by_cases hNN:N=N'
 rotate_left
 ·have hfe:=Hd (f1.out (by rw[<-hNl.out,<-hNl'.out];exact hNN))
  have hne:((N:Int) != (N':Int))=true:=by simpa using (show (N:Int)≠(N':Int) by omega)
  clear hNN
  go_enter Tryz.func46,Tryz.ntmps46
  go_wp2_with fail
  go_ret
  exact⟨congrArg (λb=>Ending.returned (.bool b)) hfe.out.symm,Below.refl _ _⟩
 subst hNN
 go_enter Tryz.func46,Tryz.ntmps46
 go_wp2_with fail
 refine Z8 [(false,5),(true,1),(false,7),(true,13)] _ [] (λU wr=>∃ k:Nat,k<=N/\U 13=.int .i64 (k:Nat)/\Below w.heap.size w wr/\∀ j (h1:j<xs.length) (h2:j<ys.length),j<k->xs[j]=ys[j]) (λU _=>N-(intOf (U 13)).toNat) ?_ ?_
 ·simp only[List.getD_cons_zero,List.getD_cons_succ]
  exact⟨0,Nat.zero_le _,rfl,Below.refl _ _,λj _ _ hj=>absurd hj (Nat.not_lt_zero _)⟩
 ·intro U wr hrel KK hback l' hl'
  obtain⟨k,hk,h12,hbw,hall⟩:=hrel
  simp only[ZR,ZD,cond_true,cond_false,Nat.reduceAdd,h12] at hl'
  subst hl'
  replace h12:=Hd h12
  replace hall:=Hd hall
  by_cases hlt:k<N
  ·have hlt2:(k:Int)<(N:Int):=oX
   have hkN:k<xs.length:=by rw[<-hNl.out];exact hlt
   have hkM:k<ys.length:=by rw[<-hNl'.out];exact hlt
   obtain⟨b1,o1,rfl,hr1⟩:=(hX.out.below hbw nR) k hkN
   obtain⟨b2,o2,rfl,hr2⟩:=(hY.out.below hbw nR) k hkM
   have ox:=okX.out _ (List.getElem_mem hkN)
   have oy:=okY.out _ (List.getElem_mem hkM)
   have hno:=λ(e:xs[k]≠ys[k])=>f3.out k hkN hkM e
   have hstep:=λ(e:xs[k]=ys[k])=>show ∀ j (h1:j<xs.length) (h2:j<ys.length),j<k+1->xs[j]=ys[j] from λj h1 h2 hjk=>by
    by_cases hjk2:j<k
    ·exact hall.out j h1 h2 hjk2
    ·obtain rfl:j=k:=oX
     exact e
   generalize xs[k]=x at*
   generalize ys[k]=y at*
   have ix:(Tryz.prog.info? 66).map (·.size)=some x.list.length:=by rw[(rfl:x.list.length=7)];kernel_rfl
   have iy:(Tryz.prog.info? 66).map (·.size)=some y.list.length:=by rw[(rfl:y.list.length=7)];kernel_rfl
   have hne:∀ W,_:=λW=>(Nq x y ox oy W).1
   obtain⟨X,hX2⟩:∃ X,X=x.list.toArray:=⟨_,rfl⟩
   obtain⟨Y,hY2⟩:∃ Y,Y=y.list.toArray:=⟨_,rfl⟩
   rw[<-hX2,<-hY2] at hne
   obtain⟨bb,hbb⟩:∃ bb,bb=decide (x=y):=⟨_,rfl⟩
   rw[<-hbb] at hne
   replace hbb:=Hd hbb
   replace hX2:=Hd hX2
   replace hY2:=Hd hY2
   replace hr1:=Hd hr1
   replace hr2:=Hd hr2
   replace hbw:=Hd hbw
   replace ox:=Hd ox
   replace oy:=Hd oy
   replace hno:=Hd hno
   replace hstep:=Hd hstep
   go_wp2_with fail
   have hd0:Hid (Grown wr wr.drew):=Hd (Grown.drew (Grown.refl wr))
   have r1:=Hd (λW (h:Grown wr W)=>Zs hr1.out h nR)
   have r2:=Hd (λW (h:Grown wr W)=>Zs hr2.out h nR)
   have hu:=Tryz.underlying66
   have hld1:=λW (h:Grown wr W)=>run_loadAt_mid (P:=Tryz.prog) W b1 (o1+k*7) 66 x.list _ (r1.out W h) hu rfl ix
   have hld2:=λW (h:Grown wr W)=>run_loadAt_mid (P:=Tryz.prog) W b2 (o2+k*7) 66 y.list _ (r2.out W h) hu rfl iy
   rw[<-hX2.out] at hld1
   rw[<-hY2.out] at hld2
   refine wp_region_held_drew (S:=(Grown wr)) kX hd0.out (λhOn=>?_)
   generalize World.drew wr=wd at*
   refine tk 0 hOn ?_
   refine tk 1 hOn ?_
   refine tk 2 hOn ?_
   refine tk 4 hOn ?_
   refine tk 5 hOn ?_
   refine tk 6 hOn ?_
   refine rds [3,7] ?_
   refine ac (λKz hKz=>?_) ?_
   rw[if_pos (by rfl)]
   (refine wp_load_mid 66 (.tmp 18) rfl b1 (o1+k*7) rfl x.list _ (r1.out _ hOn) hu rfl ix ?_)
   rw[<-hX2.out]
   have hS:=hOn
   refine hKz.out _ _ hS ?_
   clear hKz Kz hOn hS
   intro hOn
   try simp only[Act.put]
   refine rd 7 (λKz hKz=>?_)
   rw[if_pos (by rfl)]
   (refine wp_load_mid 66 (.tmp 22) rfl b2 (o2+k*7) rfl y.list _ (r2.out _ hOn) hu rfl iy ?_)
   rw[<-hY2.out]
   have hS:=hOn
   refine hKz.out _ _ hS ?_
   clear hKz Kz hOn hS
   intro hOn
   try simp only[Act.put]
   refine tk 8 hOn ?_
   refine dnE ?_
   rotate_left
   refine ac (λKz hKz=>?_) AllReadyH.nil
   rw[if_pos (by rfl)]
   (refine wp_load_mid 66 (.tmp 22) rfl b2 (o2+k*7) rfl y.list _ (r2.out _ hOn) hu rfl iy ?_)
   rw[<-hY2.out]
   have hS:=hOn
   refine hKz.out _ _ hS ?_
   clear hKz Kz hOn hS
   intro hOn
   try simp only[Act.put]
   refine rd 3 (λKz hKz=>?_)
   rw[if_pos (by rfl)]
   (refine wp_load_mid 66 (.tmp 18) rfl b1 (o1+k*7) rfl x.list _ (r1.out _ hOn) hu rfl ix ?_)
   rw[<-hX2.out]
   have hS:=hOn
   refine hKz.out _ _ hS ?_
   clear hKz Kz hOn hS
   intro hOn
   try simp only[Act.put]
   refine tk 8 hOn ?_
   refine dnE ?_
   all_goals
    have hS2:=Hd (hbw.out.trans (hOn.mono hbw.out.size))
    cases bb with
    | true=>
     have hxy:x=y:=by simpa using hbb.out.symm
     replace hxy:=Hd hxy
     go_wp2_with fail
     refine hback.out _ _ kX ?_ ?_
     ·simp only[List.getD_cons_zero,List.getD_cons_succ]
      exact⟨k+1,oX,by go_num,hS2.out,hstep.out hxy.out⟩
     ·have h12:=h12.out
      simp only[List.getD_cons_zero,List.getD_cons_succ,h12,intOf]
      omega
    | false=>
     have hxy:x≠y:=by simpa using hbb.out.symm
     have hfe:=Hd (hno.out hxy)
     clear hxy
     go_wp2_with fail
     go_ret
     exact⟨congrArg (λb=>Ending.returned (.bool b)) hfe.out.symm,hS2.out⟩
  ·obtain rfl:k=N:=oX
   have hfe:=Hd (f5.out (by rw[<-hNl.out,<-hNl'.out]) (λj h1 h2=>hall.out j h1 h2 (by rw[hNl.out];exact h1)))
   replace hbw:=Hd hbw
   clear hback
   go_wp2_with fail
   go_ret
   exact⟨congrArg (λb=>Ending.returned (.bool b)) hfe.out.symm,hbw.out⟩
theorem MW(va vb:Value)(m m':St)(w:World)(ha:ArgS w va m)(hb:ArgS w vb m')(l1:m.its.length<=1000)(l2:m.ens.length<=1000) :
  Calls Tryz.prog 16 #[va,vb] w λx w'=>x=.returned (.bool (Qj m m'))/\Below w.heap.size w w':=by
 obtain⟨⟨an,cn,av,cv,rfl,hN,hN1,hN2,hV,hV1,hV2⟩,okN,okV⟩:=ha
 obtain⟨⟨bn,dn,bv,dv,rfl,hM,hM1,hM2,hW,hW1,hW2⟩,okM,okW⟩:=hb
 have h1:=λW (h:Below w.heap.size w W)=>Mc an bn cn dn m.its m'.its okN okM W (hN.below h nR) (hM.below h nR) oX
 have h2:=λW (h:Below w.heap.size w W)=>MN av bv cv dv m.ens m'.ens okV okW W (hV.below h nR) (hW.below h nR) oX
 have he:Qj m m'=(decide (m.its=m'.its)&&decide (m.ens=m'.ens)):=rfl
 rw[he]
 generalize decide (m.its=m'.its)=r1 at*
 generalize decide (m.ens=m'.ens)=r2 at*
 generalize m.its.length=n1 at*
 generalize m.ens.length=n2 at*
 generalize m'.its.length=n3 at*
 generalize m'.ens.length=n4 at*
 obtain⟨a1,a2,hs2,hB⟩:=QI w #[.slice an n1 cn,.slice av n2 cv] #[.slice bn n3 dn,.slice bv n4 dv] 28 28 _ rfl
 obtain⟨w2,hw2⟩:∃ w2,w2=((w.alloc (.cells #[.slice an n1 cn,.slice av n2 cv] 28)).alloc (.cells #[.slice bn n3 dn,.slice bv n4 dv] 28)):=⟨_,rfl⟩
 rw[<-hw2] at a1 a2 hs2 hB
 have c10:=Za a1 0
 have c20:=Za a2 0
 simp only[List.getElem?_toArray,List.getElem?_cons_zero] at c10 c20
 replace hw2:=Hd hw2
 replace h1:=Hd h1
 replace h2:=Hd h2
 replace a1:=Hd a1
 replace a2:=Hd a2
 replace hB:=Hd hB
 replace hs2:=Hd hs2
 clear he hN hV hM hW hN1 hN2 hV1 hV2 hM1 hM2 hW1 hW2 okN okV okM okW l1 l2
 go_enter Tryz.func16,Tryz.ntmps16
 go_wp2_with fail
 rw[<-hw2.out]
 go_wp2_with fail
 with_reducible refine(h1.out w2 hB.out).mono ?_
 rintro e w3 ⟨rfl,hb⟩
 have b1:=(hb.block _ (Zb a1.out)).trans a1.out
 have b2:=(hb.block _ (Zb a2.out)).trans a2.out
 have f0:=Za b1 1
 have f1:=Za b2 1
 simp only[List.getElem?_toArray,List.getElem?_cons_succ,List.getElem?_cons_zero] at f0 f1
 have hB3:=Hd (hB.out.trans (hb.mono hB.out.size))
 clear b1 b2 hb c10 c20
 cases r1 with
 | false=>
  go_wp2_with fail
  go_ret
  exact⟨rfl,hB3.out⟩
 | true=>
  go_wp2_with fail
  with_reducible refine(h2.out w3 hB3.out).mono ?_
  rintro e w4 ⟨rfl,hb⟩
  have hB4:=Hd (hB3.out.trans (hb.mono hB3.out.size))
  go_wp2_with fail
  go_ret
  exact⟨sX,hB4.out⟩
end Go.Proofs.YtpdhceiodgnbmaaGreatDoor
