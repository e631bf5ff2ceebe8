import Derived.Test.YtpdhceiodgnbmaaGreatDoorF0FollowsSaid
import Derived.Test.YtpdhceiodgnbmaaGreatDoorF1FollowsSaid
import Derived.Test.YtpdhceiodgnbmaaGreatDoorF7FollowsSaid
import Derived.Test.YtpdhceiodgnbmaaGreatDoorF10FollowsSaid
import Derived.Test.YtpdhceiodgnbmaaGreatDoorF5FollowsSaid
import Derived.BigQuiet
set_option linter.unusedVariables false
set_option linter.unusedSimpArgs false
set_option linter.unnecessarySimpa false
set_option maxRecDepth 100000
set_option maxHeartbeats 8000000
namespace Go.Proofs.YtpdhceiodgnbmaaGreatDoor
open Go.RowKit
def ErrIs(ea:Nat->Addr)(w:World)(v:Value)(n:Nat):Prop:=
 (n=0/\v=.nilIface)\/(∃ i,i<20/\n=i+1/\v=.iface 298 (.pointer (some (ea i))))\/
 ∃ i g F V,i<20/\n=i+1/\v=.iface 227 (.pointer (some ⟨g,0,none⟩))/\w.heap[g]? = some (.cells #[.string F,.int .i64 V,.iface 298 (.pointer (some (ea i)))] 229 (0,0))
theorem ErrIs.below{ea:Nat->Addr}{w w':World}{v:Value}{n:Nat}(h:ErrIs ea w v n)(hb:Below w.heap.size w w'):ErrIs ea w' v n:=by
 rcases h with h|h|⟨i,g,F,V,h1,h2,h3,h4⟩
 ·exact .inl h
 ·exact .inr (.inl h)
 ·exact .inr (.inr ⟨i,g,F,V,h1,h2,h3,(hb.block _ (Zb h4)).trans h4⟩)
theorem HS{ea:Nat->Addr}{w:World}{v:Value}{n:Nat}(h:ErrIs ea w v n)(H:Errs 298 Zv w ea):Calls Tryz.prog 10 #[v] w λe w'=>e=.returned (.int .i64 (n:Int))/\Below w.heap.size w w':=by
 rcases h with ⟨rfl,rfl⟩|⟨i,h1,rfl,rfl⟩|⟨i,g,F,V,h1,rfl,rfl,h4⟩
 ·refine(R2 w).mono ?_
  rintro e w' ⟨rfl,rfl⟩
  exact⟨rfl,Below.refl _ _⟩
 ·exact Pm i h1 ea w H
 ·exact TI g F V i h1 ea w H h4
theorem ErrIs.neq{ea:Nat->Addr}{w:World}{v:Value}{n:Nat}(h:ErrIs ea w v n)(W:World):(binOp .neq 30 v .nilIface).run Tryz.prog W=.ok (.bool (n != 0)) W:=by
 rcases h with ⟨rfl,rfl⟩|⟨i,h1,rfl,rfl⟩|⟨i,g,F,V,h1,rfl,rfl,h4⟩
 ·show _=_
  kernel_rfl
 ·show _=_
  kernel_rfl
 ·show _=_
  kernel_rfl
theorem ErrIs.guard{ea:Nat->Addr}{w:World}{v:Value}{n:Nat}(h:ErrIs ea w v n)(W:World)(i:Nat):Sem.run Tryz.prog (eqGuard .neq 30 (.tmp i) (.const .nilIface) v .nilIface) W=.ok () W:=by
 rcases h with ⟨rfl,rfl⟩|⟨i,h1,rfl,rfl⟩|⟨i,g,F,V,h1,rfl,rfl,h4⟩
 ·show _=_
  kernel_rfl
 ·show _=_
  kernel_rfl
 ·show _=_
  kernel_rfl
def Rc.chk(x:Rc):Nat:=
 if x.kind<1\/4<x.kind then 7 else if x.nums=false then 1
 else if x.kind=1 then (if Yp x.name.data.toList=false then 6 else match Qp x.p.s x.p.n x.p.k x.p.d x.p.t x.p.r with
  | some (_,_,i)=>i+1
  | none=>if x.bare=Rc.zero then 0 else 4)
 else if x.bare=Rc.zero then 0 else 4
def Nn(ea:Nat->Addr)(x:Rc)(w:World)(e:Ending)(w':World):Prop:=∃ v,e=.returned v/\ErrIs ea w' v x.chk/\Below w.heap.size w w'
theorem Kw(p:P6)(hp:p.Ok)(ea:Nat->Addr)(w:World)(H:Errs 298 Zv w ea) :
  Calls Tryz.prog 88 #[.agg p.list.toArray] w λe w'=>∃ v,e=.returned v/\ErrIs ea w' v (match Qp p.s p.n p.k p.d p.t p.r with|some (_,_,i)=>i+1|none=>0)/\Below w.heap.size w w':=by
 cases hb:Qp p.s p.n p.k p.d p.t p.r with
 | none=>
  refine(Gg p.s p.n p.k p.d p.t p.r (K9 hb) (pz ea) w (KX H)).mono ?_
  rintro e w' ⟨rfl,h⟩
  exact⟨_,rfl,.inl ⟨rfl,rfl⟩,h⟩
 | some q=>
  obtain⟨F,V,i⟩:=q
  refine(GX p.s p.n p.k p.d p.t p.r F V i hb hp.2.1 ea w H).mono ?_
  rintro e w' ⟨g,rfl,_,h2,h3⟩
  exact⟨_,rfl,.inr (.inr ⟨i,g,F,V,Tt hb,rfl,rfl,h2⟩),h3⟩
theorem RQ{ea:Nat->Addr}{w:World}(H:Errs 298 Zv w ea):∀ W,Below w.heap.size w W->
  W.cell? ⟨6,0,none⟩=some (.iface 298 (.pointer (some (ea 6))))/\W.cell? ⟨0,0,none⟩=some (.iface 298 (.pointer (some (ea 0))))/\
  W.cell? ⟨5,0,none⟩=some (.iface 298 (.pointer (some (ea 5))))/\W.cell? ⟨3,0,none⟩=some (.iface 298 (.pointer (some (ea 3)))):=λW hW=>by
 obtain⟨g0,g1,g2,g3,g4,g5,g6,_⟩:=ZF (H.below hW)
 exact⟨g6,g0,g5,g3⟩
theorem UD(x:Rc)(hx:x.Ok)(ea:Nat->Addr)(w:World)(H:Errs 298 Zv w ea):Calls Tryz.prog 39 #[.agg x.list.toArray] w (Nn ea x w):=by
 have hs:=Rc.size hx
 have r0:=Rc.at0 x
 have r3:=Rc.at3 x
 have hsub4:(x.list.drop 4).take 6=x.p.list:=Rc.sub_p x
 have hnum:=Hd (λW=>GC x hx W)
 have hbare:=Hd (λW=>TE x hx W)
 have hlab:=Hd (λW=>He x.name W (Nat.le_trans hx.name dX))
 have hpar:=Hd (λW (h:Errs 298 Zv W ea)=>Kw x.p hx.p ea W h)
 have hneq:=λW=>(Pe x.bare Rc.zero (Rc.bare_ok hx) Rc.zero_ok W).1
 rw[<-Rc.zeroG] at hneq
 have hsz:(Tryz.prog.info? 49).map (·.size)=some x.list.toArray.size:=by rw[hs];kernel_rfl
 have hszp:(Tryz.prog.info? 45).map (·.size)=some x.p.list.length:=by rw[P6.len];kernel_rfl
 have hE:=Hd (RQ H)
 have hpost:∀ v n W,ErrIs ea W v n->Below w.heap.size w W->x.chk=n->Nn ea x w (.returned v) W:=λv n W h1 h2 h3=>⟨v,rfl,by rw[h3];exact h1,h2⟩
 have hchk:=Hd (rfl:x.chk=x.chk)
 have hcE:x.chk=(if x.kind<1\/4<x.kind then 7 else if x.nums=false then 1
  else if x.kind=1 then (if Yp x.name.data.toList=false then 6 else match Qp x.p.s x.p.n x.p.k x.p.d x.p.t x.p.r with
  | some (_,_,i)=>i+1
  | none=>if x.bare=Rc.zero then 0 else 4)
 else if x.bare=Rc.zero then 0 else 4):=rfl
 have hr4:∀ W:World,W.heap[w.heap.size]? = some (.cells x.list.toArray 49 (0,0))->W.rangeAt w.heap.size 4 x.p.list:=λW hW j v hv=>by
  rw[Za hW]
  rw[<-hsub4,List.getElem?_take] at hv
  split at hv
  ·rw[List.getElem?_drop] at hv
   simpa using hv
  ·cases hv
 have hc0:∀ W:World,W.heap[w.heap.size]? = some (.cells x.list.toArray 49 (0,0))->W.cell? ⟨w.heap.size,0,none⟩=some (.int .i64 x.kind)/\W.cell? ⟨w.heap.size,3,none⟩=some (.string x.name):=λW hW=>⟨by rw[Za hW];simp[Rc.list],by rw[Za hW];simp[Rc.list]⟩
 generalize hR:x.list.toArray=R at*
 have hrow:=Hd (heap_alloc_new w (.cells R 49))
 have hb:=Hd (show Below w.heap.size w (w.alloc (.cells R 49)) from bR.alloc nR _)
 have hzc:=Tryz.underlying49
 have hup:=Tryz.underlying45
 generalize x.bare=xb at*
 generalize x.nums=nb at*
 generalize hlb:Yp x.name.data.toList=lb at*
 replace hR:=Hd hR
 replace hcE:=Hd hcE
 replace hpost:=Hd hpost
 replace hr4:=Hd hr4
 replace hc0:=Hd hc0
 replace hlb:=Hd hlb
 replace H:=Hd H
 have hrow0:=hrow
 have hb0:=hb
 obtain⟨z0,z3⟩:=hc0.out _ hrow.out
 obtain⟨e1,e2,e3,e4⟩:=hE.out _ hb.out
 clear hx hsub4 hchk
 by_cases hin:x.kind<1\/4<x.kind
 ·have hi:inB x.kind 1 4=false:=by unfold inB;simp;omega
  replace hin:=Hd hin
  go_enter Tryz.func39,Tryz.ntmps39
  go_wp2_with fail
  with_reducible refine(Z5 x.kind 1 4 _).mono ?_
  rintro e w1 ⟨rfl,rfl⟩
  go_wp2_with fail
  go_ret
  exact hpost.out _ 7 _ (.inr (.inl ⟨6,dX,rfl,rfl⟩)) hb.out (by rw[hcE.out,if_pos hin.out])
 ·have hi:inB x.kind 1 4=true:=by unfold inB;simp;omega
  replace hin:=Hd hin
  cases nb
  ·go_enter Tryz.func39,Tryz.ntmps39
   go_wp2_with fail
   with_reducible refine(Z5 x.kind 1 4 _).mono ?_
   rintro e w1 ⟨rfl,rfl⟩
   go_wp2_with (with_reducible refine Ze rfl 49 (.tmp 1) rfl w.heap.size R _ rfl hrow hzc rfl hsz ?_)
   with_reducible refine(hnum.out _).mono ?_
   rintro e w2 ⟨rfl,hnew⟩
   clear z0 z3 e1 e2 e3 e4
   have hrow2:=Hd ((hnew.block _ (Zb hrow0.out)).trans hrow0.out)
   have hb2:=Hd (hb0.out.trans (hnew.mono hb0.out.size))
   obtain⟨z0,z3⟩:=hc0.out _ hrow2.out
   obtain⟨e1,e2,e3,e4⟩:=hE.out _ hb2.out
   clear hnew
   go_wp2_with fail
   go_ret
   exact hpost.out _ 1 _ (.inr (.inl ⟨0,dX,rfl,rfl⟩)) hb2.out (by rw[hcE.out,if_neg hin.out];simp)
  ·by_cases hk1:x.kind=1
   ·have hkb:(x.kind==1)=true:=by simpa using hk1
    replace hk1:=Hd hk1
    cases lb
    ·go_enter Tryz.func39,Tryz.ntmps39
     go_wp2_with fail
     with_reducible refine(Z5 x.kind 1 4 _).mono ?_
     rintro e w1 ⟨rfl,rfl⟩
     go_wp2_with (with_reducible refine Ze rfl 49 (.tmp 1) rfl w.heap.size R _ rfl hrow hzc rfl hsz ?_)
     with_reducible refine(hnum.out _).mono ?_
     rintro e w2 ⟨rfl,hnew⟩
     clear z0 z3 e1 e2 e3 e4
     have hrow2:=Hd ((hnew.block _ (Zb hrow0.out)).trans hrow0.out)
     have hb2:=Hd (hb0.out.trans (hnew.mono hb0.out.size))
     obtain⟨z0,z3⟩:=hc0.out _ hrow2.out
     obtain⟨e1,e2,e3,e4⟩:=hE.out _ hb2.out
     clear hnew
     go_wp2_with fail
     with_reducible refine(hlab.out _).mono ?_
     rintro e w3 ⟨rfl,hnew⟩
     clear z0 z3 e1 e2 e3 e4
     have hrow3:=Hd ((hnew.block _ (Zb hrow2.out)).trans hrow2.out)
     have hb3:=Hd (hb2.out.trans (hnew.mono hb2.out.size))
     obtain⟨z0,z3⟩:=hc0.out _ hrow3.out
     obtain⟨e1,e2,e3,e4⟩:=hE.out _ hb3.out
     clear hnew
     go_wp2_with fail
     go_ret
     exact hpost.out _ 6 _ (.inr (.inl ⟨5,dX,rfl,rfl⟩)) hb3.out (by rw[hcE.out,if_neg hin.out];simp[hk1.out])
    ·go_enter Tryz.func39,Tryz.ntmps39
     go_wp2_with fail
     with_reducible refine(Z5 x.kind 1 4 _).mono ?_
     rintro e w1 ⟨rfl,rfl⟩
     go_wp2_with (with_reducible refine Ze rfl 49 (.tmp 1) rfl w.heap.size R _ rfl hrow hzc rfl hsz ?_)
     with_reducible refine(hnum.out _).mono ?_
     rintro e w2 ⟨rfl,hnew⟩
     clear z0 z3 e1 e2 e3 e4
     have hrow2:=Hd ((hnew.block _ (Zb hrow0.out)).trans hrow0.out)
     have hb2:=Hd (hb0.out.trans (hnew.mono hb0.out.size))
     obtain⟨z0,z3⟩:=hc0.out _ hrow2.out
     obtain⟨e1,e2,e3,e4⟩:=hE.out _ hb2.out
     clear hnew
     go_wp2_with fail
     with_reducible refine(hlab.out _).mono ?_
     rintro e w3 ⟨rfl,hnew⟩
     clear z0 z3 e1 e2 e3 e4
     have hrow3:=Hd ((hnew.block _ (Zb hrow2.out)).trans hrow2.out)
     have hb3:=Hd (hb2.out.trans (hnew.mono hb2.out.size))
     obtain⟨z0,z3⟩:=hc0.out _ hrow3.out
     obtain⟨e1,e2,e3,e4⟩:=hE.out _ hb3.out
     clear hnew
     have hr4':=hr4.out _ hrow3.out
     go_wp2_with ((with_reducible refine wL (.load 45 (.tmp 29)) ?_);refine wpList_load_mid rfl 45 (.tmp 29) rfl w.heap.size 4 rfl x.p.list _ hr4' hup rfl hszp ?_)
     with_reducible refine(hpar.out _ (H.out.below hb3.out)).mono ?_
     rintro e w4 ⟨v4,rfl,hv4,hnew⟩
     clear z0 z3 e1 e2 e3 e4 hr4'
     have hrow4:=Hd ((hnew.block _ (Zb hrow3.out)).trans hrow3.out)
     have hb4:=Hd (hb3.out.trans (hnew.mono hb3.out.size))
     obtain⟨z0,z3⟩:=hc0.out _ hrow4.out
     obtain⟨e1,e2,e3,e4⟩:=hE.out _ hb4.out
     clear hnew
     have hnq:=hv4.neq
     have hng:=hv4.guard
     cases hbd:Qp x.p.s x.p.n x.p.k x.p.d x.p.t x.p.r with
     | some q=>
      obtain⟨F,V,i⟩:=q
      rw[hbd] at hv4 hnq
      simp only at hv4 hnq
      have hi0:((i+1:Nat) != 0)=true:=sX
      rw[hi0] at hnq
      replace hv4:=Hd hv4
      replace hbd:=Hd hbd
      go_wp2_with fail
      go_ret
      exact hpost.out _ (i+1) _ hv4.out hb4.out (by rw[hcE.out,if_neg hin.out];simp[hk1.out,hbd.out])
     | none=>
      rw[hbd] at hv4 hnq
      simp only[bne_self_eq_false] at hv4 hnq
      replace hv4:=Hd hv4
      replace hbd:=Hd hbd
      go_wp2_with (with_reducible refine Ze rfl 49 (.tmp 1) rfl w.heap.size R _ rfl hrow4 hzc rfl hsz ?_)
      with_reducible refine(hbare.out _).mono ?_
      rintro e w9 ⟨rfl,hnew⟩
      have hrow9:=Hd ((hnew.block _ (Zb hrow4.out)).trans hrow4.out)
      have hb9:=Hd (hb4.out.trans (hnew.mono hb4.out.size))
      obtain⟨z0,z3⟩:=hc0.out _ hrow9.out
      obtain⟨e1,e2,e3,e4⟩:=hE.out _ hb9.out
      clear hnew
      have hq:=hneq w9
      by_cases hz:xb=Rc.zero
      ·have hd:(decide (xb=Rc.zero))=true:=by simpa using hz
       rw[hd] at hq
       replace hz:=Hd hz
       go_wp2_with fail
       go_ret
       exact hpost.out _ 0 _ (.inl ⟨rfl,rfl⟩) hb9.out (by rw[hcE.out,if_neg hin.out];simp[hk1.out,hbd.out,hz.out])
      ·have hd:(decide (xb=Rc.zero))=false:=by simpa using hz
       rw[hd] at hq
       replace hz:=Hd hz
       go_wp2_with fail
       go_ret
       exact hpost.out _ 4 _ (.inr (.inl ⟨3,dX,rfl,rfl⟩)) hb9.out (by rw[hcE.out,if_neg hin.out];simp[hk1.out,hbd.out,hz.out])
   ·have hkb:(x.kind==1)=false:=by simpa using hk1
    replace hk1:=Hd hk1
    go_enter Tryz.func39,Tryz.ntmps39
    go_wp2_with fail
    with_reducible refine(Z5 x.kind 1 4 _).mono ?_
    rintro e w1 ⟨rfl,rfl⟩
    go_wp2_with (with_reducible refine Ze rfl 49 (.tmp 1) rfl w.heap.size R _ rfl hrow hzc rfl hsz ?_)
    with_reducible refine(hnum.out _).mono ?_
    rintro e w2 ⟨rfl,hnew⟩
    clear z0 z3 e1 e2 e3 e4
    have hrow2:=Hd ((hnew.block _ (Zb hrow0.out)).trans hrow0.out)
    have hb2:=Hd (hb0.out.trans (hnew.mono hb0.out.size))
    obtain⟨z0,z3⟩:=hc0.out _ hrow2.out
    obtain⟨e1,e2,e3,e4⟩:=hE.out _ hb2.out
    clear hnew
    go_wp2_with (with_reducible refine Ze rfl 49 (.tmp 1) rfl w.heap.size R _ rfl hrow2 hzc rfl hsz ?_)
    with_reducible refine(hbare.out _).mono ?_
    rintro e w9 ⟨rfl,hnew⟩
    have hrow9:=Hd ((hnew.block _ (Zb hrow2.out)).trans hrow2.out)
    have hb9:=Hd (hb2.out.trans (hnew.mono hb2.out.size))
    obtain⟨z0,z3⟩:=hc0.out _ hrow9.out
    obtain⟨e1,e2,e3,e4⟩:=hE.out _ hb9.out
    clear hnew
    have hq:=hneq w9
    by_cases hz:xb=Rc.zero
    ·have hd:(decide (xb=Rc.zero))=true:=by simpa using hz
     rw[hd] at hq
     replace hz:=Hd hz
     go_wp2_with fail
     go_ret
     exact hpost.out _ 0 _ (.inl ⟨rfl,rfl⟩) hb9.out (by rw[hcE.out,if_neg hin.out];simp[hk1.out,hz.out])
    ·have hd:(decide (xb=Rc.zero))=false:=by simpa using hz
     rw[hd] at hq
     replace hz:=Hd hz
     go_wp2_with fail
     go_ret
     exact hpost.out _ 4 _ (.inr (.inl ⟨3,dX,rfl,rfl⟩)) hb9.out (by rw[hcE.out,if_neg hin.out];simp[hk1.out,hz.out])
theorem It.default_ok:(default:It).Ok:=⟨dX,dX,⟨dX,dX,dX,dX,dX,dX⟩,rfl,rfl,dX,dX,dX⟩
theorem Xl{ns:List It}(h:∀ x∈ns,x.Ok)(s:ByteArray):(Zx ns s).1.Ok:=by
 unfold Zx
 cases hf:ns.findIdx? (λx=>decide (x.s=s)) with
 | none=>exact It.default_ok
 | some i=>
  have hi:i<ns.length:=(List.findIdx?_eq_some_iff_getElem.1 hf).1
  simp only[List.getD_eq_getElem?_getD,List.getElem?_eq_getElem hi,Option.getD_some]
  exact h _ (List.getElem_mem hi)
theorem Rc.kept0(x:Rc)(hx:x.Ok)(T:TypeId)(W:World)(b:Nat)(h:W.heap[b]? = some (.cells x.list.toArray T (0,0))) :
  W.cell? ⟨b,0,none⟩=some (.int .i64 x.kind)/\W.cell? ⟨b,1,none⟩=some (.int .i64 x.obj)/\W.cell? ⟨b,2,none⟩=some (.int .i64 x.id)/\W.cell? ⟨b,3,none⟩=some (.string x.name)/\
  W.cell? ⟨b,74,none⟩=some (.int .i64 x.way)/\W.cell? ⟨b,75,none⟩=some (.int .i64 x.index)/\W.cell? ⟨b,76,none⟩=some (.int .i64 x.verdict)/\W.cell? ⟨b,77,none⟩=some (.int .i64 x.tick):=by
 refine⟨?_,?_,?_,?_,?_,?_,?_,?_⟩
 all_goals rw[Za h,List.getElem?_toArray]
 ·exact x.c0
 ·exact x.c1
 ·exact x.c2
 ·exact x.c3
 ·exact Rc.c74 hx.root hx.file
 ·exact Rc.c75 hx.root hx.file
 ·exact Rc.c76 hx.root hx.file
 ·exact Rc.c77 hx.root hx.file
theorem ZC(w:World):ArgS w (.agg #[.slice none 0 0,.slice none 0 0]) ⟨[],[]⟩:=
 ⟨⟨none,0,none,0,rfl,λi h=>absurd h (Nat.not_lt_zero _),Nat.le_refl _,Nat.zero_le _,λi h=>absurd h (Nat.not_lt_zero _),Nat.le_refl _,Nat.zero_le _⟩,λx hx=>(List.not_mem_nil hx).elim,λx hx=>(List.not_mem_nil hx).elim⟩
def FreshS(B:Nat)(v:Value):Prop:=∀ a n c a' n' c',v=.agg #[.slice a n c,.slice a' n' c']->(∀ b o s,a=some ⟨b,o,s⟩->B<=b)/\(∀ b o s,a'=some ⟨b,o,s⟩->B<=b)
theorem FreshS.mono{B B':Nat}{v:Value}(h:FreshS B v)(hb:B'<=B):FreshS B' v:=λa n c a' n' c' e=>by
 obtain⟨h1,h2⟩:=h a n c a' n' c' e
 exact⟨λb o s e=>Nat.le_trans hb (h1 b o s e),λb o s e=>Nat.le_trans hb (h2 b o s e)⟩
theorem Zz(B:Nat):FreshS B (.agg #[.slice none 0 0,.slice none 0 0]):=λa n c a' n' c' q=>by
 cases q
 exact⟨λb o s q=>(by cases q),λb o s q=>(by cases q)⟩
theorem Qy{α β:Type}{R:World->(Nat->Prop)->α->List Value->Prop}{R':World->(Nat->Prop)->β->List Value->Prop}{base base' B size size':Nat}{w:World}{v v':Value}{e e':TypeId}{F F':Nat->Prop}{ns:List α}{vs:List β}(h:RowsOf R e size base w F v ns)(h':RowsOf R' e' size' base' w F' v' vs)(hb:B<=base)(hb':B<=base'):FreshS B (.agg #[v,v']):=by
 obtain⟨a0,c0,rfl,_,_,_,f0⟩:=h.form
 obtain⟨a1,c1,rfl,_,_,_,f1⟩:=h'.form
 intro a n c a' n' c' q
 cases q
 exact⟨λb o s q=>Nat.le_trans hb (f0 b o s q).2.2.1,λb o s q=>Nat.le_trans hb' (f1 b o s q).2.2.1⟩
theorem Vp{w w':World}{b c o:Nat}{ob:Obj}{cs:List Value}(h:w.rangeAt b o cs)(hU:Upd c ob w w')(hn:b≠c):w'.rangeAt b o cs:=λj v hv=>
 (World.cell?_of_block (a:=⟨b,o+j,none⟩) (hU.block b hn)).trans (h j v hv)
theorem ArgS.upd{w w':World}{v:Value}{m:St}{B b:Nat}{ob:Obj}(h:ArgS w v m)(hf:FreshS B v)(hU:Upd b ob w w')(hb:b<B):ArgS w' v m:=by
 obtain⟨⟨a,c,a',c',e,h1,h2,h3,h4,h5,h6⟩,h7,h8⟩:=h
 obtain⟨f1,f2⟩:=hf _ _ _ _ _ _ e
 refine⟨⟨a,c,a',c',e,λk hk=>?_,h2,h3,λk hk=>?_,h5,h6⟩,h7,h8⟩
 ·obtain⟨b1,o1,e1,hr⟩:=h1 k hk
  exact⟨b1,o1,e1,Vp hr hU (by have:=f1 b1 o1 none e1;omega)⟩
 ·obtain⟨b1,o1,e1,hr⟩:=h4 k hk
  exact⟨b1,o1,e1,Vp hr hU (by have:=f2 b1 o1 none e1;omega)⟩
theorem ErrIs.updS{ea:Nat->Addr}{w w':World}{v:Value}{n b:Nat}{o:Obj}{C:Array Value}{t:TypeId}{z:Nat×Nat}(h:ErrIs ea w v n)(hU:Upd b o w w')(hb:w.heap[b]? = some (.cells C t z))(ht:t≠229):ErrIs ea w' v n:=by
 rcases h with h|h|⟨i,g,F,V,h1,h2,h3,h4⟩
 ·exact .inl h
 ·exact .inr (.inl h)
 ·refine .inr (.inr ⟨i,g,F,V,h1,h2,h3,(hU.block g λe=>?_).trans h4⟩)
  rw[e,hb] at h4
  injection h4 with h4
  injection h4 with _ h5 _
  exact ht h5
def Zo(ea:Nat->Addr)(m:St)(n:Nat)(w:World)(e:Ending)(w':World):Prop:=∃ vm v,e=.returned (.tuple #[vm,v])/\ArgS w' vm m/\ErrIs ea w' v n/\Below w.heap.size w w'/\FreshS w.heap.size vm
def ZJ(x:It)(way:Int):Int×Bool:=if way=2 then (x.u,decide (x.u<x.p.n)) else (x.r,true)
def Rc.it(x:Rc):It:=⟨x.obj,x.name,x.p,x.root,x.file,x.tick,false,0,0⟩
def Q5(m:St)(x:Rc):St×Nat:=
 if (Zx m.its x.name).2=true then (⟨[],[]⟩,10) else if 4<=m.its.length then (⟨[],[]⟩,12) else if x.obj≠(m.its.length:Int) then (⟨[],[]⟩,4) else (⟨m.its++[x.it],m.ens⟩,0)
def Y9(m:St)(x:Rc):St×Nat:=
 if x.obj<0\/(m.its.length:Int)<=x.obj then (⟨[],[]⟩,11) else if (m.its.getD x.obj.toNat default).k=true then (⟨[],[]⟩,13)
 else (⟨m.its.set x.obj.toNat { m.its.getD x.obj.toNat default with k:=true },m.ens⟩,0)
def Xs(x:It)(way:Int):It:=if way=2 then { x with u:=x.u+1 } else { x with r:=x.r+1 }
def Yf(m:St)(x:Rc):St×Nat:=
 if x.obj<0\/(m.its.length:Int)<=x.obj then (⟨[],[]⟩,11) else if (m.its.getD x.obj.toNat default).k=false then (⟨[],[]⟩,13)
 else if (ZJ (m.its.getD x.obj.toNat default) x.way).2=false then (⟨[],[]⟩,18)
 else if x.id≠(m.ens.length:Int)\/x.index≠(ZJ (m.its.getD x.obj.toNat default) x.way).1 then (⟨[],[]⟩,4)
 else (⟨m.its.set x.obj.toNat (Xs (m.its.getD x.obj.toNat default) x.way),m.ens++[⟨x.id,x.obj,x.way,x.index,x.tick,0,0⟩]⟩,0)
def Q7(m:St)(x:Rc):St×Nat:=
 if x.id<0\/(m.ens.length:Int)<=x.id then (⟨[],[]⟩,11) else if (m.ens.getD x.id.toNat default).o≠x.obj then (⟨[],[]⟩,11)
 else if (m.ens.getD x.id.toNat default).v≠0 then (⟨[],[]⟩,13)
 else (⟨m.its,m.ens.set x.id.toNat { m.ens.getD x.id.toNat default with v:=x.verdict,a:=x.tick }⟩,0)
def Zr(m:St)(x:Rc):St×Nat:=
 if x.chk≠0 then (⟨[],[]⟩,x.chk) else if x.kind=1 then Q5 m x else if x.kind=2 then Yf m x else if x.kind=4 then Y9 m x else Q7 m x
theorem YY(x:It)(hx:x.Ok)(way:Int)(w:World):Calls Tryz.prog 90 #[.agg x.list.toArray,.int .i64 way] w λe w'=>e=.returned (.tuple #[.int .i64 (ZJ x way).1,.bool (ZJ x way).2])/\Below w.heap.size w w':=by
 have hk:∀ W:World,W.heap[w.heap.size]? = some (.cells x.list.toArray 58 (0,0))->W.cell? ⟨w.heap.size,3,none⟩=some (.int .i64 x.p.n)/\W.cell? ⟨w.heap.size,74,none⟩=some (.int .i64 x.u)/\W.cell? ⟨w.heap.size,75,none⟩=some (.int .i64 x.r):=λW h=>by
  rw[Za h,Za h,Za h,List.getElem?_toArray,List.getElem?_toArray,List.getElem?_toArray]
  exact⟨It.c3 x,It.c74 hx,It.c75 hx⟩
 obtain⟨k3,k74,k75⟩:=hk _ (heap_alloc_new w (.cells x.list.toArray 58))
 have hb:=Hd (show Below w.heap.size w (w.alloc (.cells x.list.toArray 58)) from bR.alloc nR _)
 clear hk
 unfold ZJ
 generalize x.list.toArray=R at*
 generalize x.u=u at*
 generalize x.r=r at*
 generalize x.p.n=n at*
 by_cases hw:way=2
 ·rw[if_pos hw]
  subst hw
  go_enter Tryz.func90,Tryz.ntmps90
  go_wp2_with fail
  go_quiet (fail)
  go_wp2_with fail
  go_ret2
  exact⟨rfl,hb.out.os,hb.out.tape,hb.out.output,hb.out.size,hb.out.block⟩
 ·rw[if_neg hw]
  have hw2:(way==2)=false:=by simpa using hw
  clear hw
  go_enter Tryz.func90,Tryz.ntmps90
  go_wp2_with fail
  go_ret2
  exact⟨rfl,hb.out⟩
end Go.Proofs.YtpdhceiodgnbmaaGreatDoor
