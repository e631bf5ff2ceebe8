import Derived.Test.YtpdhceiodgnbmaaGreatDoorF0Safe21Said
import Derived.Test.YtpdhceiodgnbmaaGreatDoorF1Safe21Said
import Derived.Test.YtpdhceiodgnbmaaGreatDoorF24Safe21Said
import Derived.Test.YtpdhceiodgnbmaaGreatDoorF15Safe21Said
set_option linter.unusedVariables false
set_option linter.unusedSimpArgs false
set_option linter.unnecessarySimpa false
set_option maxRecDepth 100000
set_option maxHeartbeats 8000000
namespace Go.Proofs.YtpdhceiodgnbmaaGreatDoor
open Go.RowKit
theorem Rc.cellsW(x:Rc)(h1:x.root.length=32)(h2:x.file.length=32){b:Nat}{W:World}{T:TypeId}(h:W.heap[b]? = some (.cells x.list.toArray T (0,0))) :
  (W.cell? ⟨b,0,none⟩=some (.int .i64 x.kind)/\W.cell? ⟨b,1,none⟩=some (.int .i64 x.obj)/\W.cell? ⟨b,2,none⟩=some (.int .i64 x.id)/\W.cell? ⟨b,3,none⟩=some (.string x.name)/\
  W.cell? ⟨b,74,none⟩=some (.int .i64 x.way)/\W.cell? ⟨b,75,none⟩=some (.int .i64 x.index)/\W.cell? ⟨b,76,none⟩=some (.int .i64 x.verdict)/\W.cell? ⟨b,77,none⟩=some (.int .i64 x.tick))/\
  W.frozen? ⟨b,1,none⟩=false/\W.frozen? ⟨b,2,none⟩=false/\W.frozen? ⟨b,3,none⟩=false/\W.frozen? ⟨b,74,none⟩=false/\W.frozen? ⟨b,75,none⟩=false/\W.frozen? ⟨b,76,none⟩=false/\W.frozen? ⟨b,77,none⟩=false:=by
 refine⟨⟨?_,?_,?_,?_,?_,?_,?_,?_⟩,Zj h _,Zj h _,Zj h _,Zj h _,Zj h _,Zj h _,Zj h _⟩
 all_goals rw[Za h,List.getElem?_toArray]
 ·exact x.c0
 ·exact x.c1
 ·exact x.c2
 ·exact x.c3
 ·exact Rc.c74 h1 h2
 ·exact Rc.c75 h1 h2
 ·exact Rc.c76 h1 h2
 ·exact Rc.c77 h1 h2
def KT(p q B:Nat)(y:Rc)(bs:List UInt8)(sh:Bool)(w:World)(e:Ending)(w':World):Prop:=
 e=.returned (.slice none 0 0)/\w'.heap[p]? = some (.cells y.list.toArray 49 (0,0))/\RdM w' q B bs sh/\Only (λk=>k=p\/k=q) w w'
def nB(s:List UInt8×Bool)(n:Nat):List UInt8×Bool:=(YB s.1 s.2 n,YE s.1 s.2 n)
def nO(s:List UInt8×Bool)(n:Nat):List UInt8:=Qk s.1 s.2 n
def nN(s:List UInt8×Bool)(n:Nat):Int:=(ZH (Qk s.1 s.2 n) 0:Nat)
theorem QO(s:List UInt8×Bool)(n:Nat):(nB s n).1.length<=s.1.length:=LG _ _ _
theorem Z9(q B:Nat)(s:List UInt8×Bool)(n:Nat)(w:World)(h:RdM w q B s.1 s.2)(hn:n<=8)(hm:s.1.length<=1000000):Calls Tryz.prog 63 #[.pointer (some ⟨q,0,none⟩),.int .i64 (n:Int)] w λe w'=>e=.returned (.int .i64 (nN s n))/\RdM w' q B (nB s n).1 (nB s n).2/\Only (λk=>k=q) w w':=Rw q B s.1 s.2 n w h hn hm
def Rc.rest2(x:Rc)(s:List UInt8×Bool):Rc:={ x with obj:=nN s 8,id:=nN (nB s 8) 8,way:=nN (nB (nB s 8) 8) 1,index:=nN (nB (nB (nB s 8) 8) 1) 4,tick:=nN (nB (nB (nB (nB s 8) 8) 1) 4) 8 }
def Va(s:List UInt8×Bool):List UInt8×Bool:=(nB (nB (nB (nB (nB s 8) 8) 1) 4) 8)
theorem TQ(p q B:Nat)(x:Rc)(s:List UInt8×Bool)(w:World)(h1:x.root.length=32)(h2:x.file.length=32)(hk:x.kind=2)(hP:w.heap[p]? = some (.cells x.list.toArray 49 (0,0)))(hR:RdM w q B s.1 s.2)(hpq:p≠q)(hB:B<=p)(hm:s.1.length<=1000000) :
  Calls Tryz.prog 65 #[.pointer (some ⟨q,0,none⟩),.pointer (some ⟨p,0,none⟩)] w (KT p q B (x.rest2 s) (Va s).1 (Va s).2 w):=by
 unfold Rc.rest2 Va
 have hO0:Only (λk=>k=p\/k=q) w w:=Only.refl _ _
 have hn0:∀ W,RdM W q B s.1 s.2->Calls Tryz.prog 63 #[.pointer (some ⟨q,0,none⟩),.int .i64 8] W λe w2=>e=.returned (.int .i64 (nN s 8))/\RdM w2 q B (nB s 8).1 (nB s 8).2/\Only (λk=>k=q) W w2:=λW h=>Z9 q B s 8 W h dX hm
 have hm0:(nB s 8).1.length<=1000000:=Nat.le_trans (QO _ _) hm
 have hn1:∀ W,RdM W q B (nB s 8).1 (nB s 8).2->Calls Tryz.prog 63 #[.pointer (some ⟨q,0,none⟩),.int .i64 8] W λe w2=>e=.returned (.int .i64 (nN (nB s 8) 8))/\RdM w2 q B (nB (nB s 8) 8).1 (nB (nB s 8) 8).2/\Only (λk=>k=q) W w2:=λW h=>Z9 q B (nB s 8) 8 W h dX hm0
 have hm1:(nB (nB s 8) 8).1.length<=1000000:=Nat.le_trans (QO _ _) hm0
 have hn2:∀ W,RdM W q B (nB (nB s 8) 8).1 (nB (nB s 8) 8).2->Calls Tryz.prog 63 #[.pointer (some ⟨q,0,none⟩),.int .i64 1] W λe w2=>e=.returned (.int .i64 (nN (nB (nB s 8) 8) 1))/\RdM w2 q B (nB (nB (nB s 8) 8) 1).1 (nB (nB (nB s 8) 8) 1).2/\Only (λk=>k=q) W w2:=λW h=>Z9 q B (nB (nB s 8) 8) 1 W h dX hm1
 have hm2:(nB (nB (nB s 8) 8) 1).1.length<=1000000:=Nat.le_trans (QO _ _) hm1
 have hn3:∀ W,RdM W q B (nB (nB (nB s 8) 8) 1).1 (nB (nB (nB s 8) 8) 1).2->Calls Tryz.prog 63 #[.pointer (some ⟨q,0,none⟩),.int .i64 4] W λe w2=>e=.returned (.int .i64 (nN (nB (nB (nB s 8) 8) 1) 4))/\RdM w2 q B (nB (nB (nB (nB s 8) 8) 1) 4).1 (nB (nB (nB (nB s 8) 8) 1) 4).2/\Only (λk=>k=q) W w2:=λW h=>Z9 q B (nB (nB (nB s 8) 8) 1) 4 W h dX hm2
 have hm3:(nB (nB (nB (nB s 8) 8) 1) 4).1.length<=1000000:=Nat.le_trans (QO _ _) hm2
 have hn4:∀ W,RdM W q B (nB (nB (nB (nB s 8) 8) 1) 4).1 (nB (nB (nB (nB s 8) 8) 1) 4).2->Calls Tryz.prog 63 #[.pointer (some ⟨q,0,none⟩),.int .i64 8] W λe w2=>e=.returned (.int .i64 (nN (nB (nB (nB (nB s 8) 8) 1) 4) 8))/\RdM w2 q B (nB (nB (nB (nB (nB s 8) 8) 1) 4) 8).1 (nB (nB (nB (nB (nB s 8) 8) 1) 4) 8).2/\Only (λk=>k=q) W w2:=λW h=>Z9 q B (nB (nB (nB (nB s 8) 8) 1) 4) 8 W h dX hm3
 have hm4:(nB (nB (nB (nB (nB s 8) 8) 1) 4) 8).1.length<=1000000:=Nat.le_trans (QO _ _) hm3
 generalize nB s 8=z1 at*
 generalize nB z1 8=z2 at*
 generalize nB z2 1=z3 at*
 generalize nB z3 4=z4 at*
 generalize nB z4 8=z5 at*
 generalize nN s 8=n0 at*
 replace hn0:=Hd hn0
 generalize nN z1 8=n1 at*
 replace hn1:=Hd hn1
 generalize nN z2 1=n2 at*
 replace hn2:=Hd hn2
 generalize nN z3 4=n3 at*
 replace hn3:=Hd hn3
 generalize nN z4 8=n4 at*
 replace hn4:=Hd hn4
 have hs0:x.list.toArray.setIfInBounds 1 (.int .i64 n0)=({ x with obj:=n0 }:Rc).list.toArray:=Rc.set1 x n0
 have hs1:({ x with obj:=n0 }:Rc).list.toArray.setIfInBounds 2 (.int .i64 n1)=({ x with obj:=n0,id:=n1 }:Rc).list.toArray:=Rc.set2 ({ x with obj:=n0 }:Rc) n1
 have hs2:({ x with obj:=n0,id:=n1 }:Rc).list.toArray.setIfInBounds 74 (.int .i64 n2)=({ x with obj:=n0,id:=n1,way:=n2 }:Rc).list.toArray:=Rc.set74 (x:=({ x with obj:=n0,id:=n1 }:Rc)) h1 h2 n2
 have hs3:({ x with obj:=n0,id:=n1,way:=n2 }:Rc).list.toArray.setIfInBounds 75 (.int .i64 n3)=({ x with obj:=n0,id:=n1,way:=n2,index:=n3 }:Rc).list.toArray:=Rc.set75 (x:=({ x with obj:=n0,id:=n1,way:=n2 }:Rc)) h1 h2 n3
 have hs4:({ x with obj:=n0,id:=n1,way:=n2,index:=n3 }:Rc).list.toArray.setIfInBounds 77 (.int .i64 n4)=({ x with obj:=n0,id:=n1,way:=n2,index:=n3,tick:=n4 }:Rc).list.toArray:=Rc.set77 (x:=({ x with obj:=n0,id:=n1,way:=n2,index:=n3 }:Rc)) h1 h2 n4
 have hc0:=λ(W:World) (h:W.heap[p]? = some (.cells x.list.toArray 49 (0,0)))=>Rc.cellsW x h1 h2 h
 have hc1:=λ(W:World) (h:W.heap[p]? = some (.cells ({ x with obj:=n0 }:Rc).list.toArray 49 (0,0)))=>Rc.cellsW ({ x with obj:=n0 }:Rc) h1 h2 h
 have hc2:=λ(W:World) (h:W.heap[p]? = some (.cells ({ x with obj:=n0,id:=n1 }:Rc).list.toArray 49 (0,0)))=>Rc.cellsW ({ x with obj:=n0,id:=n1 }:Rc) h1 h2 h
 have hc3:=λ(W:World) (h:W.heap[p]? = some (.cells ({ x with obj:=n0,id:=n1,way:=n2 }:Rc).list.toArray 49 (0,0)))=>Rc.cellsW ({ x with obj:=n0,id:=n1,way:=n2 }:Rc) h1 h2 h
 have hc4:=λ(W:World) (h:W.heap[p]? = some (.cells ({ x with obj:=n0,id:=n1,way:=n2,index:=n3 }:Rc).list.toArray 49 (0,0)))=>Rc.cellsW ({ x with obj:=n0,id:=n1,way:=n2,index:=n3 }:Rc) h1 h2 h
 have hc5:=λ(W:World) (h:W.heap[p]? = some (.cells ({ x with obj:=n0,id:=n1,way:=n2,index:=n3,tick:=n4 }:Rc).list.toArray 49 (0,0)))=>Rc.cellsW ({ x with obj:=n0,id:=n1,way:=n2,index:=n3,tick:=n4 }:Rc) h1 h2 h
 generalize x.list.toArray=R0 at*
 replace hc0:=Hd hc0
 generalize ({ x with obj:=n0 }:Rc).list.toArray=R1 at*
 replace hc1:=Hd hc1
 generalize ({ x with obj:=n0,id:=n1 }:Rc).list.toArray=R2 at*
 replace hc2:=Hd hc2
 generalize ({ x with obj:=n0,id:=n1,way:=n2 }:Rc).list.toArray=R3 at*
 replace hc3:=Hd hc3
 generalize ({ x with obj:=n0,id:=n1,way:=n2,index:=n3 }:Rc).list.toArray=R4 at*
 replace hc4:=Hd hc4
 generalize hRl:({ x with obj:=n0,id:=n1,way:=n2,index:=n3,tick:=n4 }:Rc).list.toArray=R5 at*
 replace hc5:=Hd hc5
 replace hs0:=Hd hs0
 replace hs1:=Hd hs1
 replace hs2:=Hd hs2
 replace hs3:=Hd hs3
 replace hs4:=Hd hs4
 replace hRl:=Hd hRl
 replace hR:=Hd hR
 replace hP:=Hd hP
 obtain⟨⟨q0,q1,q2,q3,q4,q5,q6,q7⟩,g1,g2,g3,g4,g5,g6,g7⟩:=hc0.out _ hP.out
 rw[hk] at*
 replace hO0:=Hd hO0
 clear h1 h2 hk
 go_enter Tryz.func65,Tryz.ntmps65
 go_wp2_with fail
 with_reducible refine(hn0.out _ hR.out).mono ?_
 rintro e wa ⟨rfl,hr0,ho0⟩
 have hP_wa:=Hd (ho0.heap hP.out oX)
 have hO_wa:=Hd (hO0.out.trans ho0 (λk _ e=>.inr e))
 replace hr0:=Hd hr0
 clear ho0 q0 q1 q2 q3 q4 q5 q6 q7 g1 g2 g3 g4 g5 g6 g7
 obtain⟨⟨q0,q1,q2,q3,q4,q5,q6,q7⟩,g1,g2,g3,g4,g5,g6,g7⟩:=hc0.out _ hP_wa.out
 obtain⟨wb,hw_wb⟩:∃ W,W=wa.setCell ⟨p,1,none⟩ (.int .i64 n0):=⟨_,rfl⟩
 have hU_wb:=(Upd.refl hP_wa.out).setCell (j:=1) (.int .i64 n0)
 rw[hs0.out,<-hw_wb] at hU_wb
 have hP_wb:=Hd hU_wb.here
 have hO_wb:=Hd (hO_wa.out.trans (Only.ofUpd (D:=λk=>k=p\/k=q) hU_wb (.inl rfl)) (λk _ e=>e))
 have hr_wb:=Hd (hr0.out.only (D:=λk=>k=p) (Only.ofUpd hU_wb rfl) oX (by intro k hk;omega))
 replace hw_wb:=Hd hw_wb
 clear hU_wb
 have hcb:=hc1.out _ hP_wb.out
 obtain⟨⟨b0,_⟩,_⟩:=hcb
 rw[hw_wb.out] at b0
 go_wp2_with fail
 rw[<-hw_wb.out]
 clear b0
 clear q0 q1 q2 q3 q4 q5 q6 q7 g1 g2 g3 g4 g5 g6 g7
 obtain⟨⟨q0,q1,q2,q3,q4,q5,q6,q7⟩,g1,g2,g3,g4,g5,g6,g7⟩:=hc1.out _ hP_wb.out
 with_reducible refine(hn1.out _ hr_wb.out).mono ?_
 rintro e wc0 ⟨rfl,hr1,ho1⟩
 have hP_wc0:=Hd (ho1.heap hP_wb.out oX)
 have hO_wc0:=Hd (hO_wb.out.trans ho1 (λk _ e=>.inr e))
 replace hr1:=Hd hr1
 clear ho1 q0 q1 q2 q3 q4 q5 q6 q7 g1 g2 g3 g4 g5 g6 g7
 obtain⟨⟨q0,q1,q2,q3,q4,q5,q6,q7⟩,g1,g2,g3,g4,g5,g6,g7⟩:=hc1.out _ hP_wc0.out
 go_wp2_with fail
 with_reducible refine(hn2.out _ hr1.out).mono ?_
 rintro e wc1 ⟨rfl,hr2,ho2⟩
 have hP_wc1:=Hd (ho2.heap hP_wc0.out oX)
 have hO_wc1:=Hd (hO_wc0.out.trans ho2 (λk _ e=>.inr e))
 replace hr2:=Hd hr2
 clear ho2 q0 q1 q2 q3 q4 q5 q6 q7 g1 g2 g3 g4 g5 g6 g7
 obtain⟨⟨q0,q1,q2,q3,q4,q5,q6,q7⟩,g1,g2,g3,g4,g5,g6,g7⟩:=hc1.out _ hP_wc1.out
 go_wp2_with fail
 with_reducible refine(hn3.out _ hr2.out).mono ?_
 rintro e wc2 ⟨rfl,hr3,ho3⟩
 have hP_wc2:=Hd (ho3.heap hP_wc1.out oX)
 have hO_wc2:=Hd (hO_wc1.out.trans ho3 (λk _ e=>.inr e))
 replace hr3:=Hd hr3
 clear ho3 q0 q1 q2 q3 q4 q5 q6 q7 g1 g2 g3 g4 g5 g6 g7
 obtain⟨⟨q0,q1,q2,q3,q4,q5,q6,q7⟩,g1,g2,g3,g4,g5,g6,g7⟩:=hc1.out _ hP_wc2.out
 obtain⟨wd0,hw_wd0⟩:∃ W,W=wc2.setCell ⟨p,2,none⟩ (.int .i64 n1):=⟨_,rfl⟩
 have hU_wd0:=(Upd.refl hP_wc2.out).setCell (j:=2) (.int .i64 n1)
 rw[hs1.out,<-hw_wd0] at hU_wd0
 have hP_wd0:=Hd hU_wd0.here
 have hO_wd0:=Hd (hO_wc2.out.trans (Only.ofUpd (D:=λk=>k=p\/k=q) hU_wd0 (.inl rfl)) (λk _ e=>e))
 have hr_wd0:=Hd (hr3.out.only (D:=λk=>k=p) (Only.ofUpd hU_wd0 rfl) oX (by intro k hk;omega))
 replace hw_wd0:=Hd hw_wd0
 clear hU_wd0
 obtain⟨wd1,hw_wd1⟩:∃ W,W=wd0.setCell ⟨p,74,none⟩ (.int .i64 n2):=⟨_,rfl⟩
 have hU_wd1:=(Upd.refl hP_wd0.out).setCell (j:=74) (.int .i64 n2)
 rw[hs2.out,<-hw_wd1] at hU_wd1
 have hP_wd1:=Hd hU_wd1.here
 have hO_wd1:=Hd (hO_wd0.out.trans (Only.ofUpd (D:=λk=>k=p\/k=q) hU_wd1 (.inl rfl)) (λk _ e=>e))
 have hr_wd1:=Hd (hr_wd0.out.only (D:=λk=>k=p) (Only.ofUpd hU_wd1 rfl) oX (by intro k hk;omega))
 replace hw_wd1:=Hd hw_wd1
 clear hU_wd1
 obtain⟨wd2,hw_wd2⟩:∃ W,W=wd1.setCell ⟨p,75,none⟩ (.int .i64 n3):=⟨_,rfl⟩
 have hU_wd2:=(Upd.refl hP_wd1.out).setCell (j:=75) (.int .i64 n3)
 rw[hs3.out,<-hw_wd2] at hU_wd2
 have hP_wd2:=Hd hU_wd2.here
 have hO_wd2:=Hd (hO_wd1.out.trans (Only.ofUpd (D:=λk=>k=p\/k=q) hU_wd2 (.inl rfl)) (λk _ e=>e))
 have hr_wd2:=Hd (hr_wd1.out.only (D:=λk=>k=p) (Only.ofUpd hU_wd2 rfl) oX (by intro k hk;omega))
 replace hw_wd2:=Hd hw_wd2
 clear hU_wd2
 go_wp2_with fail
 rw[<-hw_wd0.out]
 rw[<-hw_wd1.out]
 rw[<-hw_wd2.out]
 clear q0 q1 q2 q3 q4 q5 q6 q7 g1 g2 g3 g4 g5 g6 g7
 obtain⟨⟨q0,q1,q2,q3,q4,q5,q6,q7⟩,g1,g2,g3,g4,g5,g6,g7⟩:=hc4.out _ hP_wd2.out
 with_reducible refine(hn4.out _ hr_wd2.out).mono ?_
 rintro e we ⟨rfl,hr4,ho4⟩
 have hP_we:=Hd (ho4.heap hP_wd2.out oX)
 have hO_we:=Hd (hO_wd2.out.trans ho4 (λk _ e=>.inr e))
 replace hr4:=Hd hr4
 clear ho4 q0 q1 q2 q3 q4 q5 q6 q7 g1 g2 g3 g4 g5 g6 g7
 obtain⟨⟨q0,q1,q2,q3,q4,q5,q6,q7⟩,g1,g2,g3,g4,g5,g6,g7⟩:=hc4.out _ hP_we.out
 obtain⟨wf,hw_wf⟩:∃ W,W=we.setCell ⟨p,77,none⟩ (.int .i64 n4):=⟨_,rfl⟩
 have hU_wf:=(Upd.refl hP_we.out).setCell (j:=77) (.int .i64 n4)
 rw[hs4.out,<-hw_wf] at hU_wf
 have hP_wf:=Hd hU_wf.here
 have hO_wf:=Hd (hO_we.out.trans (Only.ofUpd (D:=λk=>k=p\/k=q) hU_wf (.inl rfl)) (λk _ e=>e))
 have hr_wf:=Hd (hr4.out.only (D:=λk=>k=p) (Only.ofUpd hU_wf rfl) oX (by intro k hk;omega))
 replace hw_wf:=Hd hw_wf
 clear hU_wf
 go_wp2_with fail
 go_ret
 rw[<-hw_wf.out]
 exact⟨rfl,hP_wf.out.trans (by rw[hRl.out]),hr_wf.out,hO_wf.out⟩
def Rc.rest3(x:Rc)(s:List UInt8×Bool):Rc:={ x with obj:=nN s 8,id:=nN (nB s 8) 8,verdict:=nN (nB (nB s 8) 8) 1,tick:=nN (nB (nB (nB s 8) 8) 1) 8 }
def JX(s:List UInt8×Bool):List UInt8×Bool:=(nB (nB (nB (nB s 8) 8) 1) 8)
theorem TG(p q B:Nat)(x:Rc)(s:List UInt8×Bool)(w:World)(h1:x.root.length=32)(h2:x.file.length=32)(hk:x.kind=3)(hP:w.heap[p]? = some (.cells x.list.toArray 49 (0,0)))(hR:RdM w q B s.1 s.2)(hpq:p≠q)(hB:B<=p)(hm:s.1.length<=1000000) :
  Calls Tryz.prog 65 #[.pointer (some ⟨q,0,none⟩),.pointer (some ⟨p,0,none⟩)] w (KT p q B (x.rest3 s) (JX s).1 (JX s).2 w):=by
 unfold Rc.rest3 JX
 have hO0:Only (λk=>k=p\/k=q) w w:=Only.refl _ _
 have hn0:∀ W,RdM W q B s.1 s.2->Calls Tryz.prog 63 #[.pointer (some ⟨q,0,none⟩),.int .i64 8] W λe w2=>e=.returned (.int .i64 (nN s 8))/\RdM w2 q B (nB s 8).1 (nB s 8).2/\Only (λk=>k=q) W w2:=λW h=>Z9 q B s 8 W h dX hm
 have hm0:(nB s 8).1.length<=1000000:=Nat.le_trans (QO _ _) hm
 have hn1:∀ W,RdM W q B (nB s 8).1 (nB s 8).2->Calls Tryz.prog 63 #[.pointer (some ⟨q,0,none⟩),.int .i64 8] W λe w2=>e=.returned (.int .i64 (nN (nB s 8) 8))/\RdM w2 q B (nB (nB s 8) 8).1 (nB (nB s 8) 8).2/\Only (λk=>k=q) W w2:=λW h=>Z9 q B (nB s 8) 8 W h dX hm0
 have hm1:(nB (nB s 8) 8).1.length<=1000000:=Nat.le_trans (QO _ _) hm0
 have hn2:∀ W,RdM W q B (nB (nB s 8) 8).1 (nB (nB s 8) 8).2->Calls Tryz.prog 63 #[.pointer (some ⟨q,0,none⟩),.int .i64 1] W λe w2=>e=.returned (.int .i64 (nN (nB (nB s 8) 8) 1))/\RdM w2 q B (nB (nB (nB s 8) 8) 1).1 (nB (nB (nB s 8) 8) 1).2/\Only (λk=>k=q) W w2:=λW h=>Z9 q B (nB (nB s 8) 8) 1 W h dX hm1
 have hm2:(nB (nB (nB s 8) 8) 1).1.length<=1000000:=Nat.le_trans (QO _ _) hm1
 have hn3:∀ W,RdM W q B (nB (nB (nB s 8) 8) 1).1 (nB (nB (nB s 8) 8) 1).2->Calls Tryz.prog 63 #[.pointer (some ⟨q,0,none⟩),.int .i64 8] W λe w2=>e=.returned (.int .i64 (nN (nB (nB (nB s 8) 8) 1) 8))/\RdM w2 q B (nB (nB (nB (nB s 8) 8) 1) 8).1 (nB (nB (nB (nB s 8) 8) 1) 8).2/\Only (λk=>k=q) W w2:=λW h=>Z9 q B (nB (nB (nB s 8) 8) 1) 8 W h dX hm2
 have hm3:(nB (nB (nB (nB s 8) 8) 1) 8).1.length<=1000000:=Nat.le_trans (QO _ _) hm2
 generalize nB s 8=z1 at*
 generalize nB z1 8=z2 at*
 generalize nB z2 1=z3 at*
 generalize nB z3 8=z4 at*
 generalize nN s 8=n0 at*
 replace hn0:=Hd hn0
 generalize nN z1 8=n1 at*
 replace hn1:=Hd hn1
 generalize nN z2 1=n2 at*
 replace hn2:=Hd hn2
 generalize nN z3 8=n3 at*
 replace hn3:=Hd hn3
 have hs0:x.list.toArray.setIfInBounds 1 (.int .i64 n0)=({ x with obj:=n0 }:Rc).list.toArray:=Rc.set1 x n0
 have hs1:({ x with obj:=n0 }:Rc).list.toArray.setIfInBounds 2 (.int .i64 n1)=({ x with obj:=n0,id:=n1 }:Rc).list.toArray:=Rc.set2 ({ x with obj:=n0 }:Rc) n1
 have hs2:({ x with obj:=n0,id:=n1 }:Rc).list.toArray.setIfInBounds 76 (.int .i64 n2)=({ x with obj:=n0,id:=n1,verdict:=n2 }:Rc).list.toArray:=Rc.set76 (x:=({ x with obj:=n0,id:=n1 }:Rc)) h1 h2 n2
 have hs3:({ x with obj:=n0,id:=n1,verdict:=n2 }:Rc).list.toArray.setIfInBounds 77 (.int .i64 n3)=({ x with obj:=n0,id:=n1,verdict:=n2,tick:=n3 }:Rc).list.toArray:=Rc.set77 (x:=({ x with obj:=n0,id:=n1,verdict:=n2 }:Rc)) h1 h2 n3
 have hc0:=λ(W:World) (h:W.heap[p]? = some (.cells x.list.toArray 49 (0,0)))=>Rc.cellsW x h1 h2 h
 have hc1:=λ(W:World) (h:W.heap[p]? = some (.cells ({ x with obj:=n0 }:Rc).list.toArray 49 (0,0)))=>Rc.cellsW ({ x with obj:=n0 }:Rc) h1 h2 h
 have hc2:=λ(W:World) (h:W.heap[p]? = some (.cells ({ x with obj:=n0,id:=n1 }:Rc).list.toArray 49 (0,0)))=>Rc.cellsW ({ x with obj:=n0,id:=n1 }:Rc) h1 h2 h
 have hc3:=λ(W:World) (h:W.heap[p]? = some (.cells ({ x with obj:=n0,id:=n1,verdict:=n2 }:Rc).list.toArray 49 (0,0)))=>Rc.cellsW ({ x with obj:=n0,id:=n1,verdict:=n2 }:Rc) h1 h2 h
 have hc4:=λ(W:World) (h:W.heap[p]? = some (.cells ({ x with obj:=n0,id:=n1,verdict:=n2,tick:=n3 }:Rc).list.toArray 49 (0,0)))=>Rc.cellsW ({ x with obj:=n0,id:=n1,verdict:=n2,tick:=n3 }:Rc) h1 h2 h
 generalize x.list.toArray=R0 at*
 replace hc0:=Hd hc0
 generalize ({ x with obj:=n0 }:Rc).list.toArray=R1 at*
 replace hc1:=Hd hc1
 generalize ({ x with obj:=n0,id:=n1 }:Rc).list.toArray=R2 at*
 replace hc2:=Hd hc2
 generalize ({ x with obj:=n0,id:=n1,verdict:=n2 }:Rc).list.toArray=R3 at*
 replace hc3:=Hd hc3
 generalize hRl:({ x with obj:=n0,id:=n1,verdict:=n2,tick:=n3 }:Rc).list.toArray=R4 at*
 replace hc4:=Hd hc4
 replace hs0:=Hd hs0
 replace hs1:=Hd hs1
 replace hs2:=Hd hs2
 replace hs3:=Hd hs3
 replace hRl:=Hd hRl
 replace hR:=Hd hR
 replace hP:=Hd hP
 obtain⟨⟨q0,q1,q2,q3,q4,q5,q6,q7⟩,g1,g2,g3,g4,g5,g6,g7⟩:=hc0.out _ hP.out
 rw[hk] at*
 replace hO0:=Hd hO0
 clear h1 h2 hk
 go_enter Tryz.func65,Tryz.ntmps65
 go_wp2_with fail
 with_reducible refine(hn0.out _ hR.out).mono ?_
 rintro e wa ⟨rfl,hr0,ho0⟩
 have hP_wa:=Hd (ho0.heap hP.out oX)
 have hO_wa:=Hd (hO0.out.trans ho0 (λk _ e=>.inr e))
 replace hr0:=Hd hr0
 clear ho0 q0 q1 q2 q3 q4 q5 q6 q7 g1 g2 g3 g4 g5 g6 g7
 obtain⟨⟨q0,q1,q2,q3,q4,q5,q6,q7⟩,g1,g2,g3,g4,g5,g6,g7⟩:=hc0.out _ hP_wa.out
 obtain⟨wb,hw_wb⟩:∃ W,W=wa.setCell ⟨p,1,none⟩ (.int .i64 n0):=⟨_,rfl⟩
 have hU_wb:=(Upd.refl hP_wa.out).setCell (j:=1) (.int .i64 n0)
 rw[hs0.out,<-hw_wb] at hU_wb
 have hP_wb:=Hd hU_wb.here
 have hO_wb:=Hd (hO_wa.out.trans (Only.ofUpd (D:=λk=>k=p\/k=q) hU_wb (.inl rfl)) (λk _ e=>e))
 have hr_wb:=Hd (hr0.out.only (D:=λk=>k=p) (Only.ofUpd hU_wb rfl) oX (by intro k hk;omega))
 replace hw_wb:=Hd hw_wb
 clear hU_wb
 have hcb:=hc1.out _ hP_wb.out
 obtain⟨⟨b0,_⟩,_⟩:=hcb
 rw[hw_wb.out] at b0
 go_wp2_with fail
 rw[<-hw_wb.out]
 clear b0
 clear q0 q1 q2 q3 q4 q5 q6 q7 g1 g2 g3 g4 g5 g6 g7
 obtain⟨⟨q0,q1,q2,q3,q4,q5,q6,q7⟩,g1,g2,g3,g4,g5,g6,g7⟩:=hc1.out _ hP_wb.out
 with_reducible refine(hn1.out _ hr_wb.out).mono ?_
 rintro e wc0 ⟨rfl,hr1,ho1⟩
 have hP_wc0:=Hd (ho1.heap hP_wb.out oX)
 have hO_wc0:=Hd (hO_wb.out.trans ho1 (λk _ e=>.inr e))
 replace hr1:=Hd hr1
 clear ho1 q0 q1 q2 q3 q4 q5 q6 q7 g1 g2 g3 g4 g5 g6 g7
 obtain⟨⟨q0,q1,q2,q3,q4,q5,q6,q7⟩,g1,g2,g3,g4,g5,g6,g7⟩:=hc1.out _ hP_wc0.out
 go_wp2_with fail
 with_reducible refine(hn2.out _ hr1.out).mono ?_
 rintro e wc1 ⟨rfl,hr2,ho2⟩
 have hP_wc1:=Hd (ho2.heap hP_wc0.out oX)
 have hO_wc1:=Hd (hO_wc0.out.trans ho2 (λk _ e=>.inr e))
 replace hr2:=Hd hr2
 clear ho2 q0 q1 q2 q3 q4 q5 q6 q7 g1 g2 g3 g4 g5 g6 g7
 obtain⟨⟨q0,q1,q2,q3,q4,q5,q6,q7⟩,g1,g2,g3,g4,g5,g6,g7⟩:=hc1.out _ hP_wc1.out
 obtain⟨wd0,hw_wd0⟩:∃ W,W=wc1.setCell ⟨p,2,none⟩ (.int .i64 n1):=⟨_,rfl⟩
 have hU_wd0:=(Upd.refl hP_wc1.out).setCell (j:=2) (.int .i64 n1)
 rw[hs1.out,<-hw_wd0] at hU_wd0
 have hP_wd0:=Hd hU_wd0.here
 have hO_wd0:=Hd (hO_wc1.out.trans (Only.ofUpd (D:=λk=>k=p\/k=q) hU_wd0 (.inl rfl)) (λk _ e=>e))
 have hr_wd0:=Hd (hr2.out.only (D:=λk=>k=p) (Only.ofUpd hU_wd0 rfl) oX (by intro k hk;omega))
 replace hw_wd0:=Hd hw_wd0
 clear hU_wd0
 obtain⟨wd1,hw_wd1⟩:∃ W,W=wd0.setCell ⟨p,76,none⟩ (.int .i64 n2):=⟨_,rfl⟩
 have hU_wd1:=(Upd.refl hP_wd0.out).setCell (j:=76) (.int .i64 n2)
 rw[hs2.out,<-hw_wd1] at hU_wd1
 have hP_wd1:=Hd hU_wd1.here
 have hO_wd1:=Hd (hO_wd0.out.trans (Only.ofUpd (D:=λk=>k=p\/k=q) hU_wd1 (.inl rfl)) (λk _ e=>e))
 have hr_wd1:=Hd (hr_wd0.out.only (D:=λk=>k=p) (Only.ofUpd hU_wd1 rfl) oX (by intro k hk;omega))
 replace hw_wd1:=Hd hw_wd1
 clear hU_wd1
 go_wp2_with fail
 rw[<-hw_wd0.out]
 rw[<-hw_wd1.out]
 clear q0 q1 q2 q3 q4 q5 q6 q7 g1 g2 g3 g4 g5 g6 g7
 obtain⟨⟨q0,q1,q2,q3,q4,q5,q6,q7⟩,g1,g2,g3,g4,g5,g6,g7⟩:=hc3.out _ hP_wd1.out
 with_reducible refine(hn3.out _ hr_wd1.out).mono ?_
 rintro e we ⟨rfl,hr3,ho3⟩
 have hP_we:=Hd (ho3.heap hP_wd1.out oX)
 have hO_we:=Hd (hO_wd1.out.trans ho3 (λk _ e=>.inr e))
 replace hr3:=Hd hr3
 clear ho3 q0 q1 q2 q3 q4 q5 q6 q7 g1 g2 g3 g4 g5 g6 g7
 obtain⟨⟨q0,q1,q2,q3,q4,q5,q6,q7⟩,g1,g2,g3,g4,g5,g6,g7⟩:=hc3.out _ hP_we.out
 obtain⟨wf,hw_wf⟩:∃ W,W=we.setCell ⟨p,77,none⟩ (.int .i64 n3):=⟨_,rfl⟩
 have hU_wf:=(Upd.refl hP_we.out).setCell (j:=77) (.int .i64 n3)
 rw[hs3.out,<-hw_wf] at hU_wf
 have hP_wf:=Hd hU_wf.here
 have hO_wf:=Hd (hO_we.out.trans (Only.ofUpd (D:=λk=>k=p\/k=q) hU_wf (.inl rfl)) (λk _ e=>e))
 have hr_wf:=Hd (hr3.out.only (D:=λk=>k=p) (Only.ofUpd hU_wf rfl) oX (by intro k hk;omega))
 replace hw_wf:=Hd hw_wf
 clear hU_wf
 go_wp2_with fail
 go_ret
 rw[<-hw_wf.out]
 exact⟨rfl,hP_wf.out.trans (by rw[hRl.out]),hr_wf.out,hO_wf.out⟩
def Rc.rest4(x:Rc)(s:List UInt8×Bool):Rc:={ x with obj:=nN s 8,tick:=nN (nB s 8) 8 }
def JW(s:List UInt8×Bool):List UInt8×Bool:=(nB (nB s 8) 8)
theorem TN(p q B:Nat)(x:Rc)(s:List UInt8×Bool)(w:World)(h1:x.root.length=32)(h2:x.file.length=32)(hk:x.kind=4)(hP:w.heap[p]? = some (.cells x.list.toArray 49 (0,0)))(hR:RdM w q B s.1 s.2)(hpq:p≠q)(hB:B<=p)(hm:s.1.length<=1000000) :
  Calls Tryz.prog 65 #[.pointer (some ⟨q,0,none⟩),.pointer (some ⟨p,0,none⟩)] w (KT p q B (x.rest4 s) (JW s).1 (JW s).2 w):=by
 unfold Rc.rest4 JW
 have hO0:Only (λk=>k=p\/k=q) w w:=Only.refl _ _
 have hn0:∀ W,RdM W q B s.1 s.2->Calls Tryz.prog 63 #[.pointer (some ⟨q,0,none⟩),.int .i64 8] W λe w2=>e=.returned (.int .i64 (nN s 8))/\RdM w2 q B (nB s 8).1 (nB s 8).2/\Only (λk=>k=q) W w2:=λW h=>Z9 q B s 8 W h dX hm
 have hm0:(nB s 8).1.length<=1000000:=Nat.le_trans (QO _ _) hm
 have hn1:∀ W,RdM W q B (nB s 8).1 (nB s 8).2->Calls Tryz.prog 63 #[.pointer (some ⟨q,0,none⟩),.int .i64 8] W λe w2=>e=.returned (.int .i64 (nN (nB s 8) 8))/\RdM w2 q B (nB (nB s 8) 8).1 (nB (nB s 8) 8).2/\Only (λk=>k=q) W w2:=λW h=>Z9 q B (nB s 8) 8 W h dX hm0
 have hm1:(nB (nB s 8) 8).1.length<=1000000:=Nat.le_trans (QO _ _) hm0
 generalize nB s 8=z1 at*
 generalize nB z1 8=z2 at*
 generalize nN s 8=n0 at*
 replace hn0:=Hd hn0
 generalize nN z1 8=n1 at*
 replace hn1:=Hd hn1
 have hs0:x.list.toArray.setIfInBounds 1 (.int .i64 n0)=({ x with obj:=n0 }:Rc).list.toArray:=Rc.set1 x n0
 have hs1:({ x with obj:=n0 }:Rc).list.toArray.setIfInBounds 77 (.int .i64 n1)=({ x with obj:=n0,tick:=n1 }:Rc).list.toArray:=Rc.set77 (x:=({ x with obj:=n0 }:Rc)) h1 h2 n1
 have hc0:=λ(W:World) (h:W.heap[p]? = some (.cells x.list.toArray 49 (0,0)))=>Rc.cellsW x h1 h2 h
 have hc1:=λ(W:World) (h:W.heap[p]? = some (.cells ({ x with obj:=n0 }:Rc).list.toArray 49 (0,0)))=>Rc.cellsW ({ x with obj:=n0 }:Rc) h1 h2 h
 have hc2:=λ(W:World) (h:W.heap[p]? = some (.cells ({ x with obj:=n0,tick:=n1 }:Rc).list.toArray 49 (0,0)))=>Rc.cellsW ({ x with obj:=n0,tick:=n1 }:Rc) h1 h2 h
 generalize x.list.toArray=R0 at*
 replace hc0:=Hd hc0
 generalize ({ x with obj:=n0 }:Rc).list.toArray=R1 at*
 replace hc1:=Hd hc1
 generalize hRl:({ x with obj:=n0,tick:=n1 }:Rc).list.toArray=R2 at*
 replace hc2:=Hd hc2
 replace hs0:=Hd hs0
 replace hs1:=Hd hs1
 replace hRl:=Hd hRl
 replace hR:=Hd hR
 replace hP:=Hd hP
 obtain⟨⟨q0,q1,q2,q3,q4,q5,q6,q7⟩,g1,g2,g3,g4,g5,g6,g7⟩:=hc0.out _ hP.out
 rw[hk] at*
 replace hO0:=Hd hO0
 clear h1 h2 hk
 go_enter Tryz.func65,Tryz.ntmps65
 go_wp2_with fail
 with_reducible refine(hn0.out _ hR.out).mono ?_
 rintro e wa ⟨rfl,hr0,ho0⟩
 have hP_wa:=Hd (ho0.heap hP.out oX)
 have hO_wa:=Hd (hO0.out.trans ho0 (λk _ e=>.inr e))
 replace hr0:=Hd hr0
 clear ho0 q0 q1 q2 q3 q4 q5 q6 q7 g1 g2 g3 g4 g5 g6 g7
 obtain⟨⟨q0,q1,q2,q3,q4,q5,q6,q7⟩,g1,g2,g3,g4,g5,g6,g7⟩:=hc0.out _ hP_wa.out
 obtain⟨wb,hw_wb⟩:∃ W,W=wa.setCell ⟨p,1,none⟩ (.int .i64 n0):=⟨_,rfl⟩
 have hU_wb:=(Upd.refl hP_wa.out).setCell (j:=1) (.int .i64 n0)
 rw[hs0.out,<-hw_wb] at hU_wb
 have hP_wb:=Hd hU_wb.here
 have hO_wb:=Hd (hO_wa.out.trans (Only.ofUpd (D:=λk=>k=p\/k=q) hU_wb (.inl rfl)) (λk _ e=>e))
 have hr_wb:=Hd (hr0.out.only (D:=λk=>k=p) (Only.ofUpd hU_wb rfl) oX (by intro k hk;omega))
 replace hw_wb:=Hd hw_wb
 clear hU_wb
 have hcb:=hc1.out _ hP_wb.out
 obtain⟨⟨b0,_⟩,_⟩:=hcb
 rw[hw_wb.out] at b0
 go_wp2_with fail
 rw[<-hw_wb.out]
 clear b0
 clear q0 q1 q2 q3 q4 q5 q6 q7 g1 g2 g3 g4 g5 g6 g7
 obtain⟨⟨q0,q1,q2,q3,q4,q5,q6,q7⟩,g1,g2,g3,g4,g5,g6,g7⟩:=hc1.out _ hP_wb.out
 with_reducible refine(hn1.out _ hr_wb.out).mono ?_
 rintro e we ⟨rfl,hr1,ho1⟩
 have hP_we:=Hd (ho1.heap hP_wb.out oX)
 have hO_we:=Hd (hO_wb.out.trans ho1 (λk _ e=>.inr e))
 replace hr1:=Hd hr1
 clear ho1 q0 q1 q2 q3 q4 q5 q6 q7 g1 g2 g3 g4 g5 g6 g7
 obtain⟨⟨q0,q1,q2,q3,q4,q5,q6,q7⟩,g1,g2,g3,g4,g5,g6,g7⟩:=hc1.out _ hP_we.out
 obtain⟨wf,hw_wf⟩:∃ W,W=we.setCell ⟨p,77,none⟩ (.int .i64 n1):=⟨_,rfl⟩
 have hU_wf:=(Upd.refl hP_we.out).setCell (j:=77) (.int .i64 n1)
 rw[hs1.out,<-hw_wf] at hU_wf
 have hP_wf:=Hd hU_wf.here
 have hO_wf:=Hd (hO_we.out.trans (Only.ofUpd (D:=λk=>k=p\/k=q) hU_wf (.inl rfl)) (λk _ e=>e))
 have hr_wf:=Hd (hr1.out.only (D:=λk=>k=p) (Only.ofUpd hU_wf rfl) oX (by intro k hk;omega))
 replace hw_wf:=Hd hw_wf
 clear hU_wf
 go_wp2_with fail
 go_ret
 rw[<-hw_wf.out]
 exact⟨rfl,hP_wf.out.trans (by rw[hRl.out]),hr_wf.out,hO_wf.out⟩
def H5(s:List UInt8×Bool)(n:Nat):Nat:=ZH (Qk s.1 s.2 n) 0
theorem Cq(s:List UInt8×Bool)(n:Nat):nN s n=(H5 s n:Nat):=rfl
theorem LZ(s:List UInt8×Bool):H5 s 1<=255:=by
 unfold H5
 have h:=Y1 s.1 s.2 1
 generalize Qk s.1 s.2 1=xs at*
 match xs,h with
 | [b],_=>
  have:=b.toNat_lt
  simp[ZH];omega
def Xb(s:List UInt8×Bool):=nB (nB s 8) 1
def Yp(s:List UInt8×Bool):Nat:=H5 (nB s 8) 1
def Y2(s:List UInt8×Bool):=nB (Xb s) (Yp s)
def XB(s:List UInt8×Bool):=nB (Y2 s) 9
def XF(s:List UInt8×Bool):=nB (XB s) 32
def Xd(s:List UInt8×Bool):=nB (XF s) 32
def Rc.rest1(x:Rc)(s:List UInt8×Bool):Rc:={ x with obj:=nN s 8,name:=⟨(nO (Xb s) (Yp s)).toArray⟩,root:=nO (XB s) 32,file:=nO (XF s) 32,tick:=nN (Xd s) 8 }
def Yq(s:List UInt8×Bool):List UInt8×Bool:=nB (Xd s) 8
def NP(p q B:Nat)(x:Rc)(s:List UInt8×Bool)(w:World)(e:Ending)(w':World):Prop:=
 ∃ g c,e=.returned (.slice (some ⟨g,0,none⟩) 9 c)/\ArgB w' (some ⟨g,0,none⟩) c (nO (Y2 s) 9)/\w.heap.size<=g/\w'.heap[p]? = some (.cells (x.rest1 s).list.toArray 49 (0,0))/\RdM w' q B (Yq s).1 (Yq s).2/\Only (λk=>k=p\/k=q) w w'
theorem T9(q B:Nat)(s:List UInt8×Bool)(n:Nat)(w:World)(h:RdM w q B s.1 s.2)(hn:n<=1000)(hm:s.1.length<=1000000):Calls Tryz.prog 103 #[.pointer (some ⟨q,0,none⟩),.int .i64 (n:Int)] w λe w'=>∃ a c,e=.returned (.slice a n c)/\ArgB w' a c (nO s n)/\(nO s n).length=n/\RdM w' q B (nB s n).1 (nB s n).2/\Only (λk=>k=q) w w':=
 (Gj q B s.1 s.2 n w h hn hm).mono λe w' ⟨a,c,h1,h2,h3,h4,h5⟩=>⟨a,c,h1,h2,Y1 _ _ _,h4,h5⟩
theorem NJ(q B:Nat)(s:List UInt8×Bool)(w:World)(h:RdM w q B s.1 s.2)(hm:s.1.length<=1000000)(hB:B<=w.heap.size):Calls Tryz.prog 104 #[.pointer (some ⟨q,0,none⟩)] w λe w'=>e=.returned (.agg (cB (nO s 32)).toArray)/\RdM w' q B (nB s 32).1 (nB s 32).2/\Only (λk=>k=q) w w':=R9 q B s.1 s.2 w h hm hB
theorem Ca(a:Option Addr)(cap:Nat)(bs:List UInt8)(n:Nat)(w:World)(h:ArgB w a cap bs)(hn:bs.length=n)(h0:0<n)(hr:n<=1000000) :
  Calls Tryz.prog 97 #[.slice a n cap] w λe w'=>∃ g c,e=.returned (.slice (some ⟨g,0,none⟩) n c)/\ArgB w' (some ⟨g,0,none⟩) c bs/\w.heap.size<=g/\g<w'.heap.size/\Below w.heap.size w w':=by
 subst hn
 refine(XM a cap bs w h hr).mono ?_
 rintro e w2 ⟨v,rfl,ho,hb⟩
 obtain⟨g,c,rfl,hg⟩:=ho.form h0
 obtain⟨a2,c2,e2,h2,_⟩:=ho.arg
 cases e2
 exact⟨g,c,rfl,h2,hg,(World.ownsRow.lt ho g rfl).2,hb⟩
theorem TH(p q B:Nat)(x:Rc)(s:List UInt8×Bool)(w:World)(h1:x.root.length=32)(h2:x.file.length=32)(hk:x.kind=1)(hP:w.heap[p]? = some (.cells x.list.toArray 49 (0,0)))(hR:RdM w q B s.1 s.2)(hpq:p≠q)(hB:B<=p)(hm:s.1.length<=1000000) :
  Calls Tryz.prog 65 #[.pointer (some ⟨q,0,none⟩),.pointer (some ⟨p,0,none⟩)] w (NP p q B x s w):=by
 have hO0:Only (λk=>k=p\/k=q) w w:=Only.refl _ _
 have hplt:p<w.heap.size:=Zb hP
 have hqlt:q<w.heap.size:=by obtain⟨a,c,h,_⟩:=hR;exact Zb h
 have hpost:∀ g c w',ArgB w' (some ⟨g,0,none⟩) c (nO (Y2 s) 9)->w.heap.size<=g->w'.heap[p]? = some (.cells (x.rest1 s).list.toArray 49 (0,0))->RdM w' q B (Yq s).1 (Yq s).2->Only (λk=>k=p\/k=q) w w'->NP p q B x s w (.returned (.slice (some ⟨g,0,none⟩) 9 c)) w':=λg c w' a b d e f=>⟨g,c,rfl,a,b,d,e,f⟩
 unfold Rc.rest1 Yq at hpost
 have hn0:∀ W,RdM W q B s.1 s.2->Calls Tryz.prog 63 #[.pointer (some ⟨q,0,none⟩),.int .i64 8] W λe w2=>e=.returned (.int .i64 (nN s 8))/\RdM w2 q B (nB s 8).1 (nB s 8).2/\Only (λk=>k=q) W w2:=λW h=>Z9 q B s 8 W h dX hm
 have hm1:(nB s 8).1.length<=1000000:=Nat.le_trans (QO _ _) hm
 have hn1:∀ W,RdM W q B (nB s 8).1 (nB s 8).2->Calls Tryz.prog 63 #[.pointer (some ⟨q,0,none⟩),.int .i64 1] W λe w2=>e=.returned (.int .i64 (Yp s:Nat))/\RdM w2 q B (Xb s).1 (Xb s).2/\Only (λk=>k=q) W w2:=λW h=>Z9 q B (nB s 8) 1 W h dX hm1
 have hm2:(Xb s).1.length<=1000000:=Nat.le_trans (QO _ _) hm1
 have hlen:Yp s<=255:=LZ _
 have hn2:∀ W,RdM W q B (Xb s).1 (Xb s).2->Calls Tryz.prog 103 #[.pointer (some ⟨q,0,none⟩),.int .i64 (Yp s:Nat)] W λe w2=>∃ a c,e=.returned (.slice a (Yp s) c)/\ArgB w2 a c (nO (Xb s) (Yp s))/\(nO (Xb s) (Yp s)).length=Yp s/\RdM w2 q B (Y2 s).1 (Y2 s).2/\Only (λk=>k=q) W w2:=λW h=>T9 q B (Xb s) (Yp s) W h oX hm2
 have hm3:(Y2 s).1.length<=1000000:=Nat.le_trans (QO _ _) hm2
 have hn3:∀ W,RdM W q B (Y2 s).1 (Y2 s).2->Calls Tryz.prog 103 #[.pointer (some ⟨q,0,none⟩),.int .i64 9] W λe w2=>∃ a c,e=.returned (.slice a 9 c)/\ArgB w2 a c (nO (Y2 s) 9)/\(nO (Y2 s) 9).length=9/\RdM w2 q B (XB s).1 (XB s).2/\Only (λk=>k=q) W w2:=λW h=>T9 q B (Y2 s) 9 W h oX hm3
 have hm4:(XB s).1.length<=1000000:=Nat.le_trans (QO _ _) hm3
 have hn4:∀ W,RdM W q B (XB s).1 (XB s).2->B<=W.heap.size->Calls Tryz.prog 104 #[.pointer (some ⟨q,0,none⟩)] W λe w2=>e=.returned (.agg (cB (nO (XB s) 32)).toArray)/\RdM w2 q B (XF s).1 (XF s).2/\Only (λk=>k=q) W w2:=λW h hb=>NJ q B (XB s) W h hm4 hb
 have hm5:(XF s).1.length<=1000000:=Nat.le_trans (QO _ _) hm4
 have hn5:∀ W,RdM W q B (XF s).1 (XF s).2->B<=W.heap.size->Calls Tryz.prog 104 #[.pointer (some ⟨q,0,none⟩)] W λe w2=>e=.returned (.agg (cB (nO (XF s) 32)).toArray)/\RdM w2 q B (Xd s).1 (Xd s).2/\Only (λk=>k=q) W w2:=λW h hb=>NJ q B (XF s) W h hm5 hb
 have hm6:(Xd s).1.length<=1000000:=Nat.le_trans (QO _ _) hm5
 have hn6:∀ W,RdM W q B (Xd s).1 (Xd s).2->Calls Tryz.prog 63 #[.pointer (some ⟨q,0,none⟩),.int .i64 8] W λe w2=>e=.returned (.int .i64 (nN (Xd s) 8))/\RdM w2 q B (nB (Xd s) 8).1 (nB (Xd s) 8).2/\Only (λk=>k=q) W w2:=λW h=>Z9 q B (Xd s) 8 W h dX hm6
 have hl4:(nO (XB s) 32).length=32:=Y1 _ _ _
 have hl5:(nO (XF s) 32).length=32:=Y1 _ _ _
 generalize nN s 8=n0 at*
 generalize nN (Xd s) 8=n6 at*
 generalize nO (Xb s) (Yp s)=BN at*
 generalize nO (Y2 s) 9=BP at*
 generalize nO (XB s) 32=BR at*
 generalize nO (XF s) 32=BF at*
 generalize Yp s=N at*
 generalize nB (Xd s) 8=z7 at*
 generalize Xd s=z6 at*
 generalize XF s=z5 at*
 generalize XB s=z4 at*
 generalize Y2 s=z3 at*
 generalize Xb s=z2 at*
 generalize nB s 8=z1 at*
 replace hn0:=Hd hn0
 replace hn1:=Hd hn1
 replace hn2:=Hd hn2
 replace hn3:=Hd hn3
 replace hn4:=Hd hn4
 replace hn5:=Hd hn5
 replace hn6:=Hd hn6
 replace hpost:=Hd hpost
 obtain⟨x1,hx1⟩:∃ y:Rc,y={ x with obj:=n0 }:=⟨_,rfl⟩
 obtain⟨x2,hx2⟩:∃ y:Rc,y={ x1 with name:=⟨BN.toArray⟩ }:=⟨_,rfl⟩
 obtain⟨x3,hx3⟩:∃ y:Rc,y={ x2 with root:=BR }:=⟨_,rfl⟩
 obtain⟨x4,hx4⟩:∃ y:Rc,y={ x3 with file:=BF }:=⟨_,rfl⟩
 obtain⟨x5,hx5⟩:∃ y:Rc,y={ x4 with tick:=n6 }:=⟨_,rfl⟩
 have e5:({ x with obj:=n0,name:=⟨BN.toArray⟩,root:=BR,file:=BF,tick:=n6 }:Rc)=x5:=by rw[hx5,hx4,hx3,hx2,hx1]
 have hs1:x.list.toArray.setIfInBounds 1 (.int .i64 n0)=x1.list.toArray:=by rw[hx1];exact Rc.set1 x n0
 have hs2:x1.list.toArray.setIfInBounds 3 (.string ⟨BN.toArray⟩)=x2.list.toArray:=by rw[hx2];exact Rc.set3 x1 _
 have l2r:x2.root.length=32:=by rw[hx2,hx1];exact h1
 have l2f:x2.file.length=32:=by rw[hx2,hx1];exact h2
 have hs3:Qw x2.list.toArray 10 (cB BR).toArray.toList=x3.list.toArray:=by rw[hx3];exact Rc.patch_root l2r hl4
 have l3r:x3.root.length=32:=by rw[hx3];exact hl4
 have l3f:x3.file.length=32:=by rw[hx3];exact l2f
 have hs4:Qw x3.list.toArray 42 (cB BF).toArray.toList=x4.list.toArray:=by rw[hx4];exact Rc.patch_file l3r l3f hl5
 have l4r:x4.root.length=32:=by rw[hx4];exact l3r
 have l4f:x4.file.length=32:=by rw[hx4];exact hl5
 have hs5:x4.list.toArray.setIfInBounds 77 (.int .i64 n6)=x5.list.toArray:=by rw[hx5];exact Rc.set77 (x:=x4) l4r l4f n6
 have l1r:x1.root.length=32:=by rw[hx1];exact h1
 have l1f:x1.file.length=32:=by rw[hx1];exact h2
 have k1:x1.kind=1:=by rw[hx1];exact hk
 have hc0:=Hd (λ(W:World) (h:W.heap[p]? = some (.cells x.list.toArray 49 (0,0)))=>Rc.cellsW x h1 h2 h)
 have hc1:=Hd (λ(W:World) (h:W.heap[p]? = some (.cells x1.list.toArray 49 (0,0)))=>Rc.cellsW x1 l1r l1f h)
 have hc2:=Hd (λ(W:World) (h:W.heap[p]? = some (.cells x2.list.toArray 49 (0,0)))=>Rc.cellsW x2 l2r l2f h)
 have hc4:=Hd (λ(W:World) (h:W.heap[p]? = some (.cells x4.list.toArray 49 (0,0)))=>Rc.cellsW x4 l4r l4f h)
 have hz2:10+(cB BR).toArray.size<=x2.list.toArray.size:=by rw[List.size_toArray,List.size_toArray,Rc.len l2r l2f,Ze,hl4];decide
 have hz3:42+(cB BF).toArray.size<=x3.list.toArray.size:=by rw[List.size_toArray,List.size_toArray,Rc.len l3r l3f,Ze,hl5];decide
 have iR:(Tryz.prog.info? 47).map (·.size)=some (cB BR).toArray.size:=by rw[List.size_toArray,Ze,hl4];kernel_rfl
 have iF:(Tryz.prog.info? 47).map (·.size)=some (cB BF).toArray.size:=by rw[List.size_toArray,Ze,hl5];kernel_rfl
 have oR:=JN (ZI BR)
 have oF:=JN (ZI BF)
 obtain⟨⟨q0,q1,q2,q3,q4,q5,q6,q7⟩,g1,g2,g3,g4,g5,g6,g7⟩:=hc0.out _ hP
 rw[hk] at q0
 have k1c:=k1
 generalize hR1:x1.list.toArray=R1 at*
 generalize hR2:x2.list.toArray=R2 at*
 generalize hR3:x3.list.toArray=R3 at*
 generalize hR4:x4.list.toArray=R4 at*
 generalize hR5:x5.list.toArray=R5 at*
 generalize (cB BR).toArray=AR at*
 generalize (cB BF).toArray=AF at*
 replace hs1:=Hd hs1
 replace hs2:=Hd hs2
 replace hs3:=Hd hs3
 replace hs4:=Hd hs4
 replace hs5:=Hd hs5
 replace e5:=Hd e5
 replace hR5:=Hd hR5
 replace hP:=Hd hP
 replace hR:=Hd hR
 replace hO0:=Hd hO0
 clear hx1 hx2 hx3 hx4 hx5 hR1 hR2 hR3 hR4 h1 h2 hk l1r l1f l2r l2f l3r l3f l4r l4f hm hm1 hm2 hm3 hm4 hm5 hm6 k1c
 go_enter Tryz.func65,Tryz.ntmps65
 go_wp2_with fail
 with_reducible refine(hn0.out _ hR.out).mono ?_
 rintro e wa ⟨rfl,hra,ho⟩
 have hPa:=Hd (ho.heap hP.out oX)
 have hOa:=Hd (hO0.out.trans ho (λk _ e=>.inr e))
 clear ho q0 q1 q2 q3 q4 q5 q6 q7 g1 g2 g3 g4 g5 g6 g7
 obtain⟨⟨q0,q1,q2,q3,q4,q5,q6,q7⟩,g1,g2,g3,g4,g5,g6,g7⟩:=hc0.out _ hPa.out
 obtain⟨wb,hwb⟩:∃ W,W=wa.setCell ⟨p,1,none⟩ (.int .i64 n0):=⟨_,rfl⟩
 have hU:=(Upd.refl hPa.out).setCell (j:=1) (.int .i64 n0)
 rw[hs1.out,<-hwb] at hU
 have hPb:=Hd hU.here
 have hOb:=Hd (hOa.out.trans (Only.ofUpd (D:=λk=>k=p\/k=q) hU (.inl rfl)) (λk _ e=>e))
 have hrb:=Hd (hra.only (D:=λk=>k=p) (Only.ofUpd hU rfl) oX (by intro k hk;omega))
 obtain⟨⟨b0,_⟩,_⟩:=hc1.out _ hPb.out
 rw[hwb,k1] at b0
 replace hwb:=Hd hwb
 clear hU hra
 go_wp2_with fail
 rw[<-hwb.out]
 clear b0 q0 q1 q2 q3 q4 q5 q6 q7 g1 g2 g3 g4 g5 g6 g7
 with_reducible refine(hn1.out _ hrb.out).mono ?_
 rintro e wc ⟨rfl,hrc,ho⟩
 have hPc:=Hd (ho.heap hPb.out oX)
 have hOc:=Hd (hOb.out.trans ho (λk _ e=>.inr e))
 clear ho
 go_wp2_with fail
 with_reducible refine(hn2.out _ hrc).mono ?_
 rintro e wd ⟨ad,cd,rfl,had,hadl,hrd,ho⟩
 have hPd:=Hd (ho.heap hPc.out oX)
 have hOd:=Hd (hOc.out.trans ho (λk _ e=>.inr e))
 have hconv:=C9 had N hadl
 clear ho hrc had hadl
 obtain⟨⟨q0,q1,q2,q3,q4,q5,q6,q7⟩,g1,g2,g3,g4,g5,g6,g7⟩:=hc1.out _ hPd.out
 obtain⟨we,hwe⟩:∃ W,W=wd.setCell ⟨p,3,none⟩ (.string ⟨BN.toArray⟩):=⟨_,rfl⟩
 have hU:=(Upd.refl hPd.out).setCell (j:=3) (.string ⟨BN.toArray⟩)
 rw[hs2.out,<-hwe] at hU
 have hPe:=Hd hU.here
 have hOe:=Hd (hOd.out.trans (Only.ofUpd (D:=λk=>k=p\/k=q) hU (.inl rfl)) (λk _ e=>e))
 have hre:=Hd (hrd.only (D:=λk=>k=p) (Only.ofUpd hU rfl) oX (by intro k hk;omega))
 replace hwe:=Hd hwe
 clear hU hrd
 go_wp2_with fail
 rw[<-hwe.out]
 clear hconv q0 q1 q2 q3 q4 q5 q6 q7 g1 g2 g3 g4 g5 g6 g7
 with_reducible refine(hn3.out _ hre.out).mono ?_
 rintro e wf ⟨af,cf0,rfl,haf,hafl,hrf,ho⟩
 have hPf:=Hd (ho.heap hPe.out oX)
 have hOf:=Hd (hOe.out.trans ho (λk _ e=>.inr e))
 replace hrf:=Hd hrf
 replace haf:=Hd haf
 replace hafl:=Hd hafl
 clear ho
 go_wp2_with fail
 with_reducible refine(Ca _ _ _ _ _ haf.out hafl.out dX dX).mono ?_
 rintro e wg ⟨gp,cp,rfl,hgp,hgpl,hgplt,hbg⟩
 have hPg:=Hd ((hbg.block p (Zb hPf.out)).trans hPf.out)
 have hOg:=Hd (hOf.out.trans (Only.ofBelow (D:=λk=>k=p\/k=q) hbg) (λk _ e=>e))
 have hrg:=Hd (hrf.out.only (D:=λ_=>False) (Only.ofBelow hbg) (λe=>e) (λk e=>e.elim))
 have hgw:w.heap.size<=gp:=Nat.le_trans hOf.out.size hgpl
 clear hbg hrf haf hafl
 replace hgp:=Hd hgp
 go_wp2_with fail
 have hBg:B<=wg.heap.size:=by have:=hOg.out.size;omega
 with_reducible refine(hn4.out _ hrg.out hBg).mono ?_
 rintro e wh ⟨rfl,hrh,ho⟩
 have hPh:=Hd (ho.heap hPg.out oX)
 have hOh:=Hd (hOg.out.trans ho (λk _ e=>.inr e))
 replace hgp:=Hd (ho.argB hgp.out (λb o e=>by cases e;omega))
 clear ho
 go_wp2_with fail
 have hBh:B<=wh.heap.size:=by have:=hOh.out.size;omega
 with_reducible refine(hn5.out _ hrh hBh).mono ?_
 rintro e wi ⟨rfl,hri,ho⟩
 have hPi:=Hd (ho.heap hPh.out oX)
 have hOi:=Hd (hOh.out.trans ho (λk _ e=>.inr e))
 replace hgp:=Hd (ho.argB hgp.out (λb o e=>by cases e;omega))
 replace hri:=Hd hri
 clear ho hrh
 go_wp2_with (first
  | ((with_reducible refine wL (.store 47 (.tmp 35) _) ?_);(refine ZZ rfl 47 49 (.tmp 35) (.tmp 31) rfl p 10 R2 AR rfl rfl hPi iR hz2 oR ?_);intro wj hUj;rw[hs3.out] at hUj;have hPj:=Hd hUj.out.here)
  | ((with_reducible refine wL (.store 47 (.tmp 37) _) ?_);(refine ZZ rfl 47 49 (.tmp 37) (.tmp 33) rfl p 42 R3 AF rfl rfl hPj iF hz3 oF ?_);intro wk hUk;rw[hs4.out] at hUk;have hPk:=Hd hUk.out.here))
 have hOj:Only (λk=>k=p\/k=q) w wk:=(hOi.out.trans (Only.ofUpd (D:=λk=>k=p\/k=q) hUj.out (.inl rfl)) (λk _ e=>e)).trans (Only.ofUpd (D:=λk=>k=p\/k=q) hUk.out (.inl rfl)) (λk _ e=>e)
 have hrk:=(hri.out.only (D:=λk=>k=p) (Only.ofUpd hUj.out rfl) oX (by intro k hk;omega)).only (D:=λk=>k=p) (Only.ofUpd hUk.out rfl) oX (by intro k hk;omega)
 replace hgp:=Hd ((Only.ofUpd (D:=λk=>k=p) hUk.out rfl).argB ((Only.ofUpd (D:=λk=>k=p) hUj.out rfl).argB hgp.out (λb o e=>by cases e;omega)) (λb o e=>by cases e;omega))
 with_reducible refine(hn6.out _ hrk).mono ?_
 rintro e wl ⟨rfl,hrl,ho⟩
 have hPl:=Hd (ho.heap hPk.out oX)
 have hOl:=Hd (hOj.trans ho (λk _ e=>.inr e))
 replace hgp:=Hd (ho.argB hgp.out (λb o e=>by cases e;omega))
 clear ho
 obtain⟨⟨q0,q1,q2,q3,q4,q5,q6,q7⟩,g1,g2,g3,g4,g5,g6,g7⟩:=hc4.out _ hPl.out
 obtain⟨wm,hwm⟩:∃ W,W=wl.setCell ⟨p,77,none⟩ (.int .i64 n6):=⟨_,rfl⟩
 have hU:=(Upd.refl hPl.out).setCell (j:=77) (.int .i64 n6)
 rw[hs5.out,<-hwm] at hU
 have hPm:=Hd hU.here
 have hOm:=Hd (hOl.out.trans (Only.ofUpd (D:=λk=>k=p\/k=q) hU (.inl rfl)) (λk _ e=>e))
 have hrm:=Hd (hrl.only (D:=λk=>k=p) (Only.ofUpd hU rfl) oX (by intro k hk;omega))
 replace hgp:=Hd ((Only.ofUpd (D:=λk=>k=p) hU rfl).argB hgp.out (λb o e=>by cases e;omega))
 replace hwm:=Hd hwm
 clear hU hrl hrk hOj
 go_wp2_with fail
 go_ret
 rw[<-hwm.out]
 exact hpost.out gp cp wm hgp.out hgw (by rw[hPm.out,e5.out,hR5.out]) hrm.out hOm.out
end Go.Proofs.YtpdhceiodgnbmaaGreatDoor
