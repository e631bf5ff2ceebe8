import Derived.Test.YtdilmfnpkeihiaaGreatDoorF0AudSaid
import Derived.Test.YtdilmfnpkeihiaaGreatDoorF2AudSaid
import Derived.Test.YtdilmfnpkeihiaaGreatDoorF39AudSaid
import Derived.Test.YtdilmfnpkeihiaaGreatDoorF5AudSaid
import Derived.Test.YtdilmfnpkeihiaaGreatDoorF6AudSaid
import Derived.Deep.MidRow
set_option linter.unusedVariables false
set_option linter.unusedSimpArgs false
set_option linter.unnecessarySimpa false
set_option maxRecDepth 100000
set_option maxHeartbeats 8000000
namespace Go.Proofs.YtdilmfnpkeihiaaGreatDoor
open Go.RowKit
theorem Uk(a b:Option Addr)(c d:Nat)(xs ys:List It)(okX:∀ x∈xs,x.Ok)(okY:∀ y∈ys,y.Ok)(w:World)(hX:RowAt It.list 76 w a xs)(hY:RowAt It.list 76 w b ys)(l1:xs.length<=100000) :
  Calls Tryz.prog 52 #[.slice a xs.length c,.slice b ys.length d] w λx w'=>x=.returned (.bool (decide (xs=ys)))/\Below w.heap.size w w':=by
 have f1:=λ(h:xs.length≠ys.length)=>decide_eq_false (p:=xs=ys) (λe=>h (by rw[e]))
 have f3:=λk (h1:k<xs.length) (h2:k<ys.length) (h:xs[k]≠ys[k])=>decide_eq_false (p:=xs=ys) (λe=>h (by simp only[e]))
 have f5:=λ(h:xs.length=ys.length) (he:∀ j (h1:j<xs.length) (h2:j<ys.length),xs[j]=ys[j])=>decide_eq_true (p:=xs=ys) (List.ext_getElem h he)
 generalize decide (xs=ys)=res at*
 obtain⟨N,hNl⟩:∃ N,N=xs.length:=⟨_,rfl⟩
 obtain⟨N',hNl'⟩:∃ N,N=ys.length:=⟨_,rfl⟩
 rw[<-hNl,<-hNl']
 rw[<-hNl] at l1
 replace f1:=Hd f1
 replace f3:=Hd f3
 replace f5:=Hd f5
 replace hX:=Hd hX
 replace hY:=Hd hY
 replace okX:=Hd okX
 replace okY:=Hd okY
 replace hNl:=Hd hNl
 replace hNl':=Hd hNl'
 by_cases hNN:N=N'
 rotate_left
 ·have hfe:=Hd (f1.out (by rw[<-hNl.out,<-hNl'.out];exact hNN))
  have hne:((N:Int) != (N':Int))=true:=by simpa using (show (N:Int)≠(N':Int) by omega)
  clear hNN
  go_enter Tryz.func52,Tryz.ntmps52
  go_wp2_with fail
  go_ret
  exact⟨congrArg (λb=>Ending.returned (.bool b)) hfe.out.symm,Below.refl _ _⟩
 subst hNN
 go_enter Tryz.func52,Tryz.ntmps52
 go_wp2_with fail
 refine ZA [(false,5),(true,1),(false,7),(true,13)] _ [] (λU wr=>∃ k:Nat,k<=N/\U 13=.int .i64 (k:Nat)/\Below w.heap.size w wr/\∀ j (h1:j<xs.length) (h2:j<ys.length),j<k->xs[j]=ys[j]) (λU _=>N-(intOf (U 13)).toNat) ?_ ?_
 ·simp only[List.getD_cons_zero,List.getD_cons_succ]
  exact⟨0,Nat.zero_le _,rfl,Below.refl _ _,λj _ _ hj=>absurd hj (Nat.not_lt_zero _)⟩
 ·intro U wr hrel KK hback l' hl'
  obtain⟨k,hk,h12,hbw,hall⟩:=hrel
  simp only[ZD,Z6,cond_true,cond_false,Nat.reduceAdd,h12] at hl'
  subst hl'
  replace h12:=Hd h12
  replace hall:=Hd hall
  by_cases hlt:k<N
  ·have hlt2:(k:Int)<(N:Int):=oX
   have hkN:k<xs.length:=by rw[<-hNl.out];exact hlt
   have hkM:k<ys.length:=by rw[<-hNl'.out];exact hlt
   obtain⟨b1,o1,rfl,hr1⟩:=(hX.out.below hbw nR) k hkN
   obtain⟨b2,o2,rfl,hr2⟩:=(hY.out.below hbw nR) k hkM
   have ox:=okX.out _ (List.getElem_mem hkN)
   have oy:=okY.out _ (List.getElem_mem hkM)
   have hno:=λ(e:xs[k]≠ys[k])=>f3.out k hkN hkM e
   have hstep:=λ(e:xs[k]=ys[k])=>show ∀ j (h1:j<xs.length) (h2:j<ys.length),j<k+1->xs[j]=ys[j] from λj h1 h2 hjk=>by
    by_cases hjk2:j<k
    ·exact hall.out j h1 h2 hjk2
    ·obtain rfl:j=k:=oX
     exact e
   generalize xs[k]=x at*
   generalize ys[k]=y at*
   have ix:(Tryz.prog.info? 86).map (·.size)=some x.list.length:=by rw[It.list_length ox];kernel_rfl
   have iy:(Tryz.prog.info? 86).map (·.size)=some y.list.length:=by rw[It.list_length oy];kernel_rfl
   have hne:∀ W,_:=λW=>(GM x y ox oy W).1
   obtain⟨X,hX2⟩:∃ X,X=x.list.toArray:=⟨_,rfl⟩
   obtain⟨Y,hY2⟩:∃ Y,Y=y.list.toArray:=⟨_,rfl⟩
   rw[<-hX2,<-hY2] at hne
   obtain⟨bb,hbb⟩:∃ bb,bb=decide (x=y):=⟨_,rfl⟩
   rw[<-hbb] at hne
   replace hbb:=Hd hbb
   replace hX2:=Hd hX2
   replace hY2:=Hd hY2
   replace hr1:=Hd hr1
   replace hr2:=Hd hr2
   replace hbw:=Hd hbw
   replace ox:=Hd ox
   replace oy:=Hd oy
   replace hno:=Hd hno
   replace hstep:=Hd hstep
   go_wp2_with fail
   have hd0:Hid (Grown wr wr.drew):=Hd (Grown.drew (Grown.refl wr))
   have r1:=Hd (λW (h:Grown wr W)=>Zl hr1.out h nR)
   have r2:=Hd (λW (h:Grown wr W)=>Zl hr2.out h nR)
   have hu:=Tryz.underlying86
   have hld1:=λW (h:Grown wr W)=>run_loadAt_mid (P:=Tryz.prog) W b1 (o1+k*76) 86 x.list _ (r1.out W h) hu rfl ix
   have hld2:=λW (h:Grown wr W)=>run_loadAt_mid (P:=Tryz.prog) W b2 (o2+k*76) 86 y.list _ (r2.out W h) hu rfl iy
   rw[<-hX2.out] at hld1
   rw[<-hY2.out] at hld2
   refine wp_region_held_drew (S:=(Grown wr)) kX hd0.out (λhOn=>?_)
   generalize World.drew wr=wd at*
   refine tk 0 hOn ?_
   refine tk 1 hOn ?_
   refine tk 2 hOn ?_
   refine tk 4 hOn ?_
   refine tk 5 hOn ?_
   refine tk 6 hOn ?_
   refine rds [3,7] ?_
   refine ac (λKz hKz=>?_) ?_
   rw[if_pos (by rfl)]
   (refine wp_load_mid 86 (.tmp 18) rfl b1 (o1+k*76) rfl x.list _ (r1.out _ hOn) hu rfl ix ?_)
   rw[<-hX2.out]
   have hS:=hOn
   refine hKz.out _ _ hS ?_
   clear hKz Kz hOn hS
   intro hOn
   try simp only[Act.put]
   refine rd 7 (λKz hKz=>?_)
   rw[if_pos (by rfl)]
   (refine wp_load_mid 86 (.tmp 22) rfl b2 (o2+k*76) rfl y.list _ (r2.out _ hOn) hu rfl iy ?_)
   rw[<-hY2.out]
   have hS:=hOn
   refine hKz.out _ _ hS ?_
   clear hKz Kz hOn hS
   intro hOn
   try simp only[Act.put]
   refine tk 8 hOn ?_
   refine dnE ?_
   rotate_left
   refine ac (λKz hKz=>?_) AllReadyH.nil
   rw[if_pos (by rfl)]
   (refine wp_load_mid 86 (.tmp 22) rfl b2 (o2+k*76) rfl y.list _ (r2.out _ hOn) hu rfl iy ?_)
   rw[<-hY2.out]
   have hS:=hOn
   refine hKz.out _ _ hS ?_
   clear hKz Kz hOn hS
   intro hOn
   try simp only[Act.put]
   refine rd 3 (λKz hKz=>?_)
   rw[if_pos (by rfl)]
   (refine wp_load_mid 86 (.tmp 18) rfl b1 (o1+k*76) rfl x.list _ (r1.out _ hOn) hu rfl ix ?_)
   rw[<-hX2.out]
   have hS:=hOn
   refine hKz.out _ _ hS ?_
   clear hKz Kz hOn hS
   intro hOn
   try simp only[Act.put]
   refine tk 8 hOn ?_
   refine dnE ?_
   all_goals
    have hS2:=Hd (hbw.out.trans (hOn.mono hbw.out.size))
    cases bb with
    | true=>
     have hxy:x=y:=by simpa using hbb.out.symm
     replace hxy:=Hd hxy
     go_wp2_with fail
     refine hback.out _ _ kX ?_ ?_
     ·simp only[List.getD_cons_zero,List.getD_cons_succ]
      exact⟨k+1,oX,by go_num,hS2.out,hstep.out hxy.out⟩
     ·have h12:=h12.out
      simp only[List.getD_cons_zero,List.getD_cons_succ,h12,intOf]
      omega
    | false=>
     have hxy:x≠y:=by simpa using hbb.out.symm
     have hfe:=Hd (hno.out hxy)
     clear hxy
     go_wp2_with fail
     go_ret
     exact⟨congrArg (λb=>Ending.returned (.bool b)) hfe.out.symm,hS2.out⟩
  ·obtain rfl:k=N:=oX
   have hfe:=Hd (f5.out (by rw[<-hNl.out,<-hNl'.out]) (λj h1 h2=>hall.out j h1 h2 (by rw[hNl.out];exact h1)))
   replace hbw:=Hd hbw
   clear hback
   go_wp2_with fail
   go_ret
   exact⟨congrArg (λb=>Ending.returned (.bool b)) hfe.out.symm,hbw.out⟩
theorem Ug(a b:Option Addr)(c d:Nat)(xs ys:List En)(okX:∀ x∈xs,x.Ok)(okY:∀ y∈ys,y.Ok)(w:World)(hX:RowAt En.list 7 w a xs)(hY:RowAt En.list 7 w b ys)(l1:xs.length<=100000) :
  Calls Tryz.prog 53 #[.slice a xs.length c,.slice b ys.length d] w λx w'=>x=.returned (.bool (decide (xs=ys)))/\Below w.heap.size w w':=by
 have f1:=λ(h:xs.length≠ys.length)=>decide_eq_false (p:=xs=ys) (λe=>h (by rw[e]))
 have f3:=λk (h1:k<xs.length) (h2:k<ys.length) (h:xs[k]≠ys[k])=>decide_eq_false (p:=xs=ys) (λe=>h (by simp only[e]))
 have f5:=λ(h:xs.length=ys.length) (he:∀ j (h1:j<xs.length) (h2:j<ys.length),xs[j]=ys[j])=>decide_eq_true (p:=xs=ys) (List.ext_getElem h he)
 generalize decide (xs=ys)=res at*
 obtain⟨N,hNl⟩:∃ N,N=xs.length:=⟨_,rfl⟩
 obtain⟨N',hNl'⟩:∃ N,N=ys.length:=⟨_,rfl⟩
 rw[<-hNl,<-hNl']
 rw[<-hNl] at l1
 replace f1:=Hd f1
 replace f3:=Hd f3
 replace f5:=Hd f5
 replace hX:=Hd hX
 replace hY:=Hd hY
 replace okX:=Hd okX
 replace okY:=Hd okY
 replace hNl:=Hd hNl
 replace hNl':=Hd hNl'
 by_cases hNN:N=N'
 rotate_left
 ·have hfe:=Hd (f1.out (by rw[<-hNl.out,<-hNl'.out];exact hNN))
  have hne:((N:Int) != (N':Int))=true:=by simpa using (show (N:Int)≠(N':Int) by omega)
  clear hNN
  go_enter Tryz.func53,Tryz.ntmps53
  go_wp2_with fail
  go_ret
  exact⟨congrArg (λb=>Ending.returned (.bool b)) hfe.out.symm,Below.refl _ _⟩
 subst hNN
 go_enter Tryz.func53,Tryz.ntmps53
 go_wp2_with fail
 refine ZA [(false,5),(true,1),(false,7),(true,13)] _ [] (λU wr=>∃ k:Nat,k<=N/\U 13=.int .i64 (k:Nat)/\Below w.heap.size w wr/\∀ j (h1:j<xs.length) (h2:j<ys.length),j<k->xs[j]=ys[j]) (λU _=>N-(intOf (U 13)).toNat) ?_ ?_
 ·simp only[List.getD_cons_zero,List.getD_cons_succ]
  exact⟨0,Nat.zero_le _,rfl,Below.refl _ _,λj _ _ hj=>absurd hj (Nat.not_lt_zero _)⟩
 ·intro U wr hrel KK hback l' hl'
  obtain⟨k,hk,h12,hbw,hall⟩:=hrel
  simp only[ZD,Z6,cond_true,cond_false,Nat.reduceAdd,h12] at hl'
  subst hl'
  replace h12:=Hd h12
  replace hall:=Hd hall
  by_cases hlt:k<N
  ·have hlt2:(k:Int)<(N:Int):=oX
   have hkN:k<xs.length:=by rw[<-hNl.out];exact hlt
   have hkM:k<ys.length:=by rw[<-hNl'.out];exact hlt
   obtain⟨b1,o1,rfl,hr1⟩:=(hX.out.below hbw nR) k hkN
   obtain⟨b2,o2,rfl,hr2⟩:=(hY.out.below hbw nR) k hkM
   have ox:=okX.out _ (List.getElem_mem hkN)
   have oy:=okY.out _ (List.getElem_mem hkM)
   have hno:=λ(e:xs[k]≠ys[k])=>f3.out k hkN hkM e
   have hstep:=λ(e:xs[k]=ys[k])=>show ∀ j (h1:j<xs.length) (h2:j<ys.length),j<k+1->xs[j]=ys[j] from λj h1 h2 hjk=>by
    by_cases hjk2:j<k
    ·exact hall.out j h1 h2 hjk2
    ·obtain rfl:j=k:=oX
     exact e
   generalize xs[k]=x at*
   generalize ys[k]=y at*
   have ix:(Tryz.prog.info? 77).map (·.size)=some x.list.length:=by rw[(rfl:x.list.length=7)];kernel_rfl
   have iy:(Tryz.prog.info? 77).map (·.size)=some y.list.length:=by rw[(rfl:y.list.length=7)];kernel_rfl
   have hne:∀ W,_:=λW=>(G7 x y ox oy W).1
   obtain⟨X,hX2⟩:∃ X,X=x.list.toArray:=⟨_,rfl⟩
   obtain⟨Y,hY2⟩:∃ Y,Y=y.list.toArray:=⟨_,rfl⟩
   rw[<-hX2,<-hY2] at hne
   obtain⟨bb,hbb⟩:∃ bb,bb=decide (x=y):=⟨_,rfl⟩
   rw[<-hbb] at hne
   replace hbb:=Hd hbb
   replace hX2:=Hd hX2
   replace hY2:=Hd hY2
   replace hr1:=Hd hr1
   replace hr2:=Hd hr2
   replace hbw:=Hd hbw
   replace ox:=Hd ox
   replace oy:=Hd oy
   replace hno:=Hd hno
   replace hstep:=Hd hstep
   go_wp2_with fail
   have hd0:Hid (Grown wr wr.drew):=Hd (Grown.drew (Grown.refl wr))
   have r1:=Hd (λW (h:Grown wr W)=>Zl hr1.out h nR)
   have r2:=Hd (λW (h:Grown wr W)=>Zl hr2.out h nR)
   have hu:=Tryz.underlying77
   have hld1:=λW (h:Grown wr W)=>run_loadAt_mid (P:=Tryz.prog) W b1 (o1+k*7) 77 x.list _ (r1.out W h) hu rfl ix
   have hld2:=λW (h:Grown wr W)=>run_loadAt_mid (P:=Tryz.prog) W b2 (o2+k*7) 77 y.list _ (r2.out W h) hu rfl iy
   rw[<-hX2.out] at hld1
   rw[<-hY2.out] at hld2
   refine wp_region_held_drew (S:=(Grown wr)) kX hd0.out (λhOn=>?_)
   generalize World.drew wr=wd at*
   refine tk 0 hOn ?_
   refine tk 1 hOn ?_
   refine tk 2 hOn ?_
   refine tk 4 hOn ?_
   refine tk 5 hOn ?_
   refine tk 6 hOn ?_
   refine rds [3,7] ?_
   refine ac (λKz hKz=>?_) ?_
   rw[if_pos (by rfl)]
   (refine wp_load_mid 77 (.tmp 18) rfl b1 (o1+k*7) rfl x.list _ (r1.out _ hOn) hu rfl ix ?_)
   rw[<-hX2.out]
   have hS:=hOn
   refine hKz.out _ _ hS ?_
   clear hKz Kz hOn hS
   intro hOn
   try simp only[Act.put]
   refine rd 7 (λKz hKz=>?_)
   rw[if_pos (by rfl)]
   (refine wp_load_mid 77 (.tmp 22) rfl b2 (o2+k*7) rfl y.list _ (r2.out _ hOn) hu rfl iy ?_)
   rw[<-hY2.out]
   have hS:=hOn
   refine hKz.out _ _ hS ?_
   clear hKz Kz hOn hS
   intro hOn
   try simp only[Act.put]
   refine tk 8 hOn ?_
   refine dnE ?_
   rotate_left
   refine ac (λKz hKz=>?_) AllReadyH.nil
   rw[if_pos (by rfl)]
   (refine wp_load_mid 77 (.tmp 22) rfl b2 (o2+k*7) rfl y.list _ (r2.out _ hOn) hu rfl iy ?_)
   rw[<-hY2.out]
   have hS:=hOn
   refine hKz.out _ _ hS ?_
   clear hKz Kz hOn hS
   intro hOn
   try simp only[Act.put]
   refine rd 3 (λKz hKz=>?_)
   rw[if_pos (by rfl)]
   (refine wp_load_mid 77 (.tmp 18) rfl b1 (o1+k*7) rfl x.list _ (r1.out _ hOn) hu rfl ix ?_)
   rw[<-hX2.out]
   have hS:=hOn
   refine hKz.out _ _ hS ?_
   clear hKz Kz hOn hS
   intro hOn
   try simp only[Act.put]
   refine tk 8 hOn ?_
   refine dnE ?_
   all_goals
    have hS2:=Hd (hbw.out.trans (hOn.mono hbw.out.size))
    cases bb with
    | true=>
     have hxy:x=y:=by simpa using hbb.out.symm
     replace hxy:=Hd hxy
     go_wp2_with fail
     refine hback.out _ _ kX ?_ ?_
     ·simp only[List.getD_cons_zero,List.getD_cons_succ]
      exact⟨k+1,oX,by go_num,hS2.out,hstep.out hxy.out⟩
     ·have h12:=h12.out
      simp only[List.getD_cons_zero,List.getD_cons_succ,h12,intOf]
      omega
    | false=>
     have hxy:x≠y:=by simpa using hbb.out.symm
     have hfe:=Hd (hno.out hxy)
     clear hxy
     go_wp2_with fail
     go_ret
     exact⟨congrArg (λb=>Ending.returned (.bool b)) hfe.out.symm,hS2.out⟩
  ·obtain rfl:k=N:=oX
   have hfe:=Hd (f5.out (by rw[<-hNl.out,<-hNl'.out]) (λj h1 h2=>hall.out j h1 h2 (by rw[hNl.out];exact h1)))
   replace hbw:=Hd hbw
   clear hback
   go_wp2_with fail
   go_ret
   exact⟨congrArg (λb=>Ending.returned (.bool b)) hfe.out.symm,hbw.out⟩
end Go.Proofs.YtdilmfnpkeihiaaGreatDoor
