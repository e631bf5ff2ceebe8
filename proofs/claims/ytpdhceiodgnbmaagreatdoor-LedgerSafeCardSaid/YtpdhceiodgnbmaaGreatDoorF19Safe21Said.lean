import Derived.Test.YtpdhceiodgnbmaaGreatDoorF0Safe21Said
import Derived.Test.YtpdhceiodgnbmaaGreatDoorF1Safe21Said
import Derived.Test.YtpdhceiodgnbmaaGreatDoorF2Safe21Said
import Derived.Test.YtpdhceiodgnbmaaGreatDoorF3Safe21Said
import Derived.Deep.MidRow
import Derived.Test.YtpdhceiodgnbmaaGreatDoorF13Safe21Said
import Derived.Lib.LaidTab
import Derived.Deep.Matrix
import Derived.Test.YtpdhceiodgnbmaaGreatDoorF7Safe21Said
set_option linter.unusedVariables false
set_option linter.unusedSimpArgs false
set_option linter.unnecessarySimpa false
set_option maxRecDepth 100000
set_option maxHeartbeats 8000000
namespace Go.Proofs.YtpdhceiodgnbmaaGreatDoor
open Go.RowKit
section
variable {α β:Type} {R:World->(Nat->Prop)->α->List Value->Prop} {R':World->(Nat->Prop)->β->List Value->Prop} {s1 s2:Nat} {eN eV T:TypeId} {b:Nat} {w wr w1 w2:World} {v v' v1:Value} {xs:List α} {ys:List β}
end
theorem It.lits_inj{x y:It}(hx:x.root.length=32)(hx2:x.file.length=32)(hy:y.root.length=32)(hy2:y.file.length=32)(h:x.lits=y.lits):x=y:=by
 unfold It.lits at h
 obtain⟨h1,h2⟩:=List.append_inj h rfl
 obtain⟨h3,h4⟩:=List.append_inj h2 rfl
 obtain⟨h5,h6⟩:=List.append_inj h4 (by simp[QM,hx,hy])
 obtain⟨h7,h8⟩:=List.append_inj h6 (by simp[QM,hx2,hy2])
 simp only[List.cons.injEq,Lit.string.injEq,Lit.int.injEq,Lit.bool.injEq,true_and,and_true] at h1 h8
 obtain⟨a1,a2⟩:=h1
 obtain⟨b1,b2,b3,b4⟩:=h8
 have e1:=VF a2
 have e2:=P6.lits_inj h3
 have e3:=VG h5
 have e4:=VG h7
 cases x;cases y
 simp only at*
 subst e1 e2 e3 e4 a1 b1 b2 b3 b4
 rfl
theorem En.lits_inj{x y:En}(h:x.lits=y.lits):x=y:=by
 cases x;cases y
 simpa[En.lits] using h
section
variable {P:Program}
theorem Pd{t ts tp td tb i64:TypeId}{fs:Array Field}(ht:P.underlying t=some (.struct fs))(hq:fs.toList.map (λf=>(f.type,f.offset))=[(i64,0),(ts,1),(tp,2),(td,8),(td,40),(i64,72),(tb,73),(i64,74),(i64,75)])(hn:fs.all (·.name != "_")=true)
  (hi:P.underlying i64=some (.int .i64)) (hs:P.underlying ts=some .string) (hb:P.underlying tb=some .bool) (hp:∀ p:P6,p.Ok->∀ d,P.keyLits (d+2) tp p.list=some p.lits) (hd:∀ f:List UInt8,f.length=32->∀ d,P.keyLits (d+2) td (cB f)=some (QM f))
  (ci:P.cellsOf i64=1) (cs:P.cellsOf ts=1) (cb:P.cellsOf tb=1) (cp:P.cellsOf tp=6) (cd:P.cellsOf td=32) (ct:P.cellsOf t=76) (x:It) (h:x.Ok) (d:Nat):P.keyLits (d+3) t x.list=some x.lits:=by
 have s1:∀ {o:Nat} {v:Value},x.list[o]? = some v->(x.list.drop o).take 1=[v]:=fun {o v} hv=>by
  have hlt:=(List.getElem?_eq_some_iff.1 hv).1
  rw[List.drop_eq_getElem_cons hlt]
  rw[List.getElem?_eq_getElem hlt,Option.some.injEq] at hv
  rw[hv];rfl
 have e1:∀ n:Int,inI n->P.keyLits (d+2) i64 [.int .i64 n]=some [.int .i64 n]:=λn h=>Xu hi (Gx h)
 have e:=JC (d:=d+2) (cs:=x.list) (ls:=[[.int .i64 x.n],[.string x.s.data.toList],x.p.lits,QM x.root,QM x.file,[.int .i64 x.t],[.bool x.k],[.int .i64 x.u],[.int .i64 x.r]]) ht hq hn (by rw[ct,It.list_length h]) (by
  simp only[List.mapM_cons,List.mapM_nil,ci,cs,cb,cp,cd,s1 x.c0,s1 x.c1,s1 (It.c72 h),s1 (It.c73 h),s1 (It.c74 h),s1 (It.c75 h),It.sub_p,It.sub_root h,It.sub_file h,hp x.p h.p d,hd x.root h.root d,hd x.file h.file d,KL hs h.s,HX hb,e1 _ h.n,e1 _ h.t,e1 _ h.u,e1 _ h.r,Option.bind_eq_bind,Option.bind_some,Option.pure_def])
 rw[e]
 simp[It.lits]
theorem TT{t i64:TypeId}{fs:Array Field}(ht:P.underlying t=some (.struct fs))(hq:fs.toList.map (λf=>(f.type,f.offset))=[(i64,0),(i64,1),(i64,2),(i64,3),(i64,4),(i64,5),(i64,6)])(hn:fs.all (·.name != "_")=true)(hi:P.underlying i64=some (.int .i64))(ci:P.cellsOf i64=1)(ct:P.cellsOf t=7)
  (x:En) (hp:x.Ok) (d:Nat):P.keyLits (d+2) t x.list=some x.lits:=by
 obtain⟨h1,h2,h3,h4,h5,h6,h7⟩:=hp
 have e:=λ(n:Int) (h:inI n)=>Xu (d:=d) hi (Gx h)
 refine JC (ls:=[[.int .i64 x.id],[.int .i64 x.o],[.int .i64 x.w],[.int .i64 x.i],[.int .i64 x.t],[.int .i64 x.v],[.int .i64 x.a]]) ht hq hn (by rw[ct];rfl) ?_
 simp only[List.mapM_cons,List.mapM_nil,ci,En.list,List.drop_zero,List.drop_succ_cons,List.take_succ_cons,List.take_zero,e _ h1,e _ h2,e _ h3,e _ h4,e _ h5,e _ h6,e _ h7,Option.bind_eq_bind,Option.bind_some,Option.pure_def]
end
theorem ML(x:It)(h:x.Ok)(d:Nat):Tryz.prog.keyLits (d+3) 58 x.list=some x.lits:=Pd Tryz.underlying58 rfl kX Tryz.underlying3 Tryz.underlying9 Tryz.underlying4 Hz TA kX kX kX kX kX kX x h d
theorem Hr(x:En)(h:x.Ok)(d:Nat):Tryz.prog.keyLits (d+2) 66 x.list=some x.lits:=TT Tryz.underlying66 rfl kX Tryz.underlying3 kX kX x h d
theorem Bg(x y:It)(hx:x.Ok)(hy:y.Ok)(w:World):(binOp .neq 58 (.agg x.list.toArray) (.agg y.list.toArray)).run Tryz.prog w=.ok (.bool (!decide (x=y))) w/\(binOp .eql 58 (.agg x.list.toArray) (.agg y.list.toArray)).run Tryz.prog w=.ok (.bool (decide (x=y))) w:=by
 obtain⟨r,h1,h2,h3⟩:=GZ (P:=Tryz.prog) (w:=w) (xs:=x.list.toArray) (ys:=y.list.toArray) (t:=58) kX (ML x hx 3) (ML y hy 3) (Xl (xs:=x.list.toArray) Tryz.underlying58 rfl (by rw[It.size hx];kernel_rfl)) (Xl (xs:=y.list.toArray) Tryz.underlying58 rfl (by rw[It.size hy];kernel_rfl))
 have:r=decide (x=y):=by rw[Bool.eq_iff_iff,h1,decide_eq_true_iff];exact⟨It.lits_inj hx.root hx.file hy.root hy.file,λe=>by rw[e]⟩
 rw[h2,h3,this]
 exact⟨rfl,rfl⟩
theorem DV(x y:En)(hx:x.Ok)(hy:y.Ok)(w:World):(binOp .neq 66 (.agg x.list.toArray) (.agg y.list.toArray)).run Tryz.prog w=.ok (.bool (!decide (x=y))) w/\(binOp .eql 66 (.agg x.list.toArray) (.agg y.list.toArray)).run Tryz.prog w=.ok (.bool (decide (x=y))) w:=by
 obtain⟨r,h1,h2,h3⟩:=GZ (P:=Tryz.prog) (w:=w) (xs:=x.list.toArray) (ys:=y.list.toArray) (t:=66) kX (Hr x hx 4) (Hr y hy 4) (Xl (xs:=x.list.toArray) Tryz.underlying66 rfl kX) (Xl (xs:=y.list.toArray) Tryz.underlying66 rfl kX)
 have:r=decide (x=y):=by rw[Bool.eq_iff_iff,h1,decide_eq_true_iff];exact⟨En.lits_inj,λe=>by rw[e]⟩
 rw[h2,h3,this]
 exact⟨rfl,rfl⟩
def XO(m m':St):Bool:=decide (m.its=m'.its)&&decide (m.ens=m'.ens)
theorem Ra(a b:Option Addr)(c d:Nat)(xs ys:List It)(okX:∀ x∈xs,x.Ok)(okY:∀ y∈ys,y.Ok)(w:World)(hX:RowAt It.list 76 w a xs)(hY:RowAt It.list 76 w b ys)(l1:xs.length<=100000) :
  Calls Tryz.prog 45 #[.slice a xs.length c,.slice b ys.length d] w λx w'=>x=.returned (.bool (decide (xs=ys)))/\Below w.heap.size w w':=by
 have f1:=λ(h:xs.length≠ys.length)=>decide_eq_false (p:=xs=ys) (λe=>h (by rw[e]))
 have f3:=λk (h1:k<xs.length) (h2:k<ys.length) (h:xs[k]≠ys[k])=>decide_eq_false (p:=xs=ys) (λe=>h (by simp only[e]))
 have f5:=λ(h:xs.length=ys.length) (he:∀ j (h1:j<xs.length) (h2:j<ys.length),xs[j]=ys[j])=>decide_eq_true (p:=xs=ys) (List.ext_getElem h he)
 generalize decide (xs=ys)=res at*
 obtain⟨N,hNl⟩:∃ N,N=xs.length:=⟨_,rfl⟩
 obtain⟨N',hNl'⟩:∃ N,N=ys.length:=⟨_,rfl⟩
 rw[<-hNl,<-hNl']
 rw[<-hNl] at l1
 replace f1:=Hd f1
 replace f3:=Hd f3
 replace f5:=Hd f5
 replace hX:=Hd hX
 replace hY:=Hd hY
 replace okX:=Hd okX
 replace okY:=Hd okY
 replace hNl:=Hd hNl
 replace hNl':=Hd hNl'
 by_cases hNN:N=N'
 rotate_left
 ·have hfe:=Hd (f1.out (by rw[<-hNl.out,<-hNl'.out];exact hNN))
  have hne:((N:Int) != (N':Int))=true:=by simpa using (show (N:Int)≠(N':Int) by omega)
  clear hNN
  go_enter Tryz.func45,Tryz.ntmps45
  go_wp2_with fail
  go_ret
  exact⟨congrArg (λb=>Ending.returned (.bool b)) hfe.out.symm,Below.refl _ _⟩
 subst hNN
 go_enter Tryz.func45,Tryz.ntmps45
 go_wp2_with fail
 refine Z8 [(false,5),(true,1),(false,7),(true,13)] _ [] (λU wr=>∃ k:Nat,k<=N/\U 13=.int .i64 (k:Nat)/\Below w.heap.size w wr/\∀ j (h1:j<xs.length) (h2:j<ys.length),j<k->xs[j]=ys[j]) (λU _=>N-(intOf (U 13)).toNat) ?_ ?_
 ·simp only[List.getD_cons_zero,List.getD_cons_succ]
  exact⟨0,Nat.zero_le _,rfl,Below.refl _ _,λj _ _ hj=>absurd hj (Nat.not_lt_zero _)⟩
 ·intro U wr hrel KK hback l' hl'
  obtain⟨k,hk,h12,hbw,hall⟩:=hrel
  simp only[ZU,ZG,cond_true,cond_false,Nat.reduceAdd,h12] at hl'
  subst hl'
  replace h12:=Hd h12
  replace hall:=Hd hall
  by_cases hlt:k<N
  ·have hlt2:(k:Int)<(N:Int):=oX
   have hkN:k<xs.length:=by rw[<-hNl.out];exact hlt
   have hkM:k<ys.length:=by rw[<-hNl'.out];exact hlt
   obtain⟨b1,o1,rfl,hr1⟩:=(hX.out.below hbw nR) k hkN
   obtain⟨b2,o2,rfl,hr2⟩:=(hY.out.below hbw nR) k hkM
   have ox:=okX.out _ (List.getElem_mem hkN)
   have oy:=okY.out _ (List.getElem_mem hkM)
   have hno:=λ(e:xs[k]≠ys[k])=>f3.out k hkN hkM e
   have hstep:=λ(e:xs[k]=ys[k])=>show ∀ j (h1:j<xs.length) (h2:j<ys.length),j<k+1->xs[j]=ys[j] from λj h1 h2 hjk=>by
    by_cases hjk2:j<k
    ·exact hall.out j h1 h2 hjk2
    ·obtain rfl:j=k:=oX
     exact e
   generalize xs[k]=x at*
   generalize ys[k]=y at*
   have ix:(Tryz.prog.info? 58).map (·.size)=some x.list.length:=by rw[It.list_length ox];kernel_rfl
   have iy:(Tryz.prog.info? 58).map (·.size)=some y.list.length:=by rw[It.list_length oy];kernel_rfl
   have hne:∀ W,_:=λW=>(Bg x y ox oy W).1
   obtain⟨X,hX2⟩:∃ X,X=x.list.toArray:=⟨_,rfl⟩
   obtain⟨Y,hY2⟩:∃ Y,Y=y.list.toArray:=⟨_,rfl⟩
   rw[<-hX2,<-hY2] at hne
   obtain⟨bb,hbb⟩:∃ bb,bb=decide (x=y):=⟨_,rfl⟩
   rw[<-hbb] at hne
   replace hbb:=Hd hbb
   replace hX2:=Hd hX2
   replace hY2:=Hd hY2
   replace hr1:=Hd hr1
   replace hr2:=Hd hr2
   replace hbw:=Hd hbw
   replace ox:=Hd ox
   replace oy:=Hd oy
   replace hno:=Hd hno
   replace hstep:=Hd hstep
   go_wp2_with fail
   have hd0:Hid (Grown wr wr.drew):=Hd (Grown.drew (Grown.refl wr))
   have r1:=Hd (λW (h:Grown wr W)=>Q2 hr1.out h nR)
   have r2:=Hd (λW (h:Grown wr W)=>Q2 hr2.out h nR)
   have hu:=Tryz.underlying58
   have hld1:=λW (h:Grown wr W)=>run_loadAt_mid (P:=Tryz.prog) W b1 (o1+k*76) 58 x.list _ (r1.out W h) hu rfl ix
   have hld2:=λW (h:Grown wr W)=>run_loadAt_mid (P:=Tryz.prog) W b2 (o2+k*76) 58 y.list _ (r2.out W h) hu rfl iy
   rw[<-hX2.out] at hld1
   rw[<-hY2.out] at hld2
   refine wp_region_held_drew (S:=(Grown wr)) kX hd0.out (λhOn=>?_)
   generalize World.drew wr=wd at*
   refine tk 0 hOn ?_
   refine tk 1 hOn ?_
   refine tk 2 hOn ?_
   refine tk 4 hOn ?_
   refine tk 5 hOn ?_
   refine tk 6 hOn ?_
   refine rds [3,7] ?_
   refine ac (λKz hKz=>?_) ?_
   rw[if_pos (by rfl)]
   (refine wp_load_mid 58 (.tmp 18) rfl b1 (o1+k*76) rfl x.list _ (r1.out _ hOn) hu rfl ix ?_)
   rw[<-hX2.out]
   have hS:=hOn
   refine hKz.out _ _ hS ?_
   clear hKz Kz hOn hS
   intro hOn
   try simp only[Act.put]
   refine rd 7 (λKz hKz=>?_)
   rw[if_pos (by rfl)]
   (refine wp_load_mid 58 (.tmp 22) rfl b2 (o2+k*76) rfl y.list _ (r2.out _ hOn) hu rfl iy ?_)
   rw[<-hY2.out]
   have hS:=hOn
   refine hKz.out _ _ hS ?_
   clear hKz Kz hOn hS
   intro hOn
   try simp only[Act.put]
   refine tk 8 hOn ?_
   refine dnE ?_
   rotate_left
   refine ac (λKz hKz=>?_) AllReadyH.nil
   rw[if_pos (by rfl)]
   (refine wp_load_mid 58 (.tmp 22) rfl b2 (o2+k*76) rfl y.list _ (r2.out _ hOn) hu rfl iy ?_)
   rw[<-hY2.out]
   have hS:=hOn
   refine hKz.out _ _ hS ?_
   clear hKz Kz hOn hS
   intro hOn
   try simp only[Act.put]
   refine rd 3 (λKz hKz=>?_)
   rw[if_pos (by rfl)]
   (refine wp_load_mid 58 (.tmp 18) rfl b1 (o1+k*76) rfl x.list _ (r1.out _ hOn) hu rfl ix ?_)
   rw[<-hX2.out]
   have hS:=hOn
   refine hKz.out _ _ hS ?_
   clear hKz Kz hOn hS
   intro hOn
   try simp only[Act.put]
   refine tk 8 hOn ?_
   refine dnE ?_
   all_goals
    have hS2:=Hd (hbw.out.trans (hOn.mono hbw.out.size))
    cases bb with
    | true=>
     have hxy:x=y:=by simpa using hbb.out.symm
     replace hxy:=Hd hxy
     go_wp2_with fail
     refine hback.out _ _ kX ?_ ?_
     ·simp only[List.getD_cons_zero,List.getD_cons_succ]
      exact⟨k+1,oX,by go_num,hS2.out,hstep.out hxy.out⟩
     ·have h12:=h12.out
      simp only[List.getD_cons_zero,List.getD_cons_succ,h12,intOf]
      omega
    | false=>
     have hxy:x≠y:=by simpa using hbb.out.symm
     have hfe:=Hd (hno.out hxy)
     clear hxy
     go_wp2_with fail
     go_ret
     exact⟨congrArg (λb=>Ending.returned (.bool b)) hfe.out.symm,hS2.out⟩
  ·obtain rfl:k=N:=oX
   have hfe:=Hd (f5.out (by rw[<-hNl.out,<-hNl'.out]) (λj h1 h2=>hall.out j h1 h2 (by rw[hNl.out];exact h1)))
   replace hbw:=Hd hbw
   clear hback
   go_wp2_with fail
   go_ret
   exact⟨congrArg (λb=>Ending.returned (.bool b)) hfe.out.symm,hbw.out⟩
theorem R6(a b:Option Addr)(c d:Nat)(xs ys:List En)(okX:∀ x∈xs,x.Ok)(okY:∀ y∈ys,y.Ok)(w:World)(hX:RowAt En.list 7 w a xs)(hY:RowAt En.list 7 w b ys)(l1:xs.length<=100000) :
  Calls Tryz.prog 46 #[.slice a xs.length c,.slice b ys.length d] w λx w'=>x=.returned (.bool (decide (xs=ys)))/\Below w.heap.size w w':=by
 have f1:=λ(h:xs.length≠ys.length)=>decide_eq_false (p:=xs=ys) (λe=>h (by rw[e]))
 have f3:=λk (h1:k<xs.length) (h2:k<ys.length) (h:xs[k]≠ys[k])=>decide_eq_false (p:=xs=ys) (λe=>h (by simp only[e]))
 have f5:=λ(h:xs.length=ys.length) (he:∀ j (h1:j<xs.length) (h2:j<ys.length),xs[j]=ys[j])=>decide_eq_true (p:=xs=ys) (List.ext_getElem h he)
 generalize decide (xs=ys)=res at*
 obtain⟨N,hNl⟩:∃ N,N=xs.length:=⟨_,rfl⟩
 obtain⟨N',hNl'⟩:∃ N,N=ys.length:=⟨_,rfl⟩
 rw[<-hNl,<-hNl']
 rw[<-hNl] at l1
 replace f1:=Hd f1
 replace f3:=Hd f3
 replace f5:=Hd f5
 replace hX:=Hd hX
 replace hY:=Hd hY
 replace okX:=Hd okX
 replace okY:=Hd okY
 replace hNl:=Hd hNl
 replace hNl':=Hd hNl'
 by_cases hNN:N=N'
 rotate_left
 ·have hfe:=Hd (f1.out (by rw[<-hNl.out,<-hNl'.out];exact hNN))
  have hne:((N:Int) != (N':Int))=true:=by simpa using (show (N:Int)≠(N':Int) by omega)
  clear hNN
  go_enter Tryz.func46,Tryz.ntmps46
  go_wp2_with fail
  go_ret
  exact⟨congrArg (λb=>Ending.returned (.bool b)) hfe.out.symm,Below.refl _ _⟩
 subst hNN
 go_enter Tryz.func46,Tryz.ntmps46
 go_wp2_with fail
 refine Z8 [(false,5),(true,1),(false,7),(true,13)] _ [] (λU wr=>∃ k:Nat,k<=N/\U 13=.int .i64 (k:Nat)/\Below w.heap.size w wr/\∀ j (h1:j<xs.length) (h2:j<ys.length),j<k->xs[j]=ys[j]) (λU _=>N-(intOf (U 13)).toNat) ?_ ?_
 ·simp only[List.getD_cons_zero,List.getD_cons_succ]
  exact⟨0,Nat.zero_le _,rfl,Below.refl _ _,λj _ _ hj=>absurd hj (Nat.not_lt_zero _)⟩
 ·intro U wr hrel KK hback l' hl'
  obtain⟨k,hk,h12,hbw,hall⟩:=hrel
  simp only[ZU,ZG,cond_true,cond_false,Nat.reduceAdd,h12] at hl'
  subst hl'
  replace h12:=Hd h12
  replace hall:=Hd hall
  by_cases hlt:k<N
  ·have hlt2:(k:Int)<(N:Int):=oX
   have hkN:k<xs.length:=by rw[<-hNl.out];exact hlt
   have hkM:k<ys.length:=by rw[<-hNl'.out];exact hlt
   obtain⟨b1,o1,rfl,hr1⟩:=(hX.out.below hbw nR) k hkN
   obtain⟨b2,o2,rfl,hr2⟩:=(hY.out.below hbw nR) k hkM
   have ox:=okX.out _ (List.getElem_mem hkN)
   have oy:=okY.out _ (List.getElem_mem hkM)
   have hno:=λ(e:xs[k]≠ys[k])=>f3.out k hkN hkM e
   have hstep:=λ(e:xs[k]=ys[k])=>show ∀ j (h1:j<xs.length) (h2:j<ys.length),j<k+1->xs[j]=ys[j] from λj h1 h2 hjk=>by
    by_cases hjk2:j<k
    ·exact hall.out j h1 h2 hjk2
    ·obtain rfl:j=k:=oX
     exact e
   generalize xs[k]=x at*
   generalize ys[k]=y at*
   have ix:(Tryz.prog.info? 66).map (·.size)=some x.list.length:=by rw[(rfl:x.list.length=7)];kernel_rfl
   have iy:(Tryz.prog.info? 66).map (·.size)=some y.list.length:=by rw[(rfl:y.list.length=7)];kernel_rfl
   have hne:∀ W,_:=λW=>(DV x y ox oy W).1
   obtain⟨X,hX2⟩:∃ X,X=x.list.toArray:=⟨_,rfl⟩
   obtain⟨Y,hY2⟩:∃ Y,Y=y.list.toArray:=⟨_,rfl⟩
   rw[<-hX2,<-hY2] at hne
   obtain⟨bb,hbb⟩:∃ bb,bb=decide (x=y):=⟨_,rfl⟩
   rw[<-hbb] at hne
   replace hbb:=Hd hbb
   replace hX2:=Hd hX2
   replace hY2:=Hd hY2
   replace hr1:=Hd hr1
   replace hr2:=Hd hr2
   replace hbw:=Hd hbw
   replace ox:=Hd ox
   replace oy:=Hd oy
   replace hno:=Hd hno
   replace hstep:=Hd hstep
   go_wp2_with fail
   have hd0:Hid (Grown wr wr.drew):=Hd (Grown.drew (Grown.refl wr))
   have r1:=Hd (λW (h:Grown wr W)=>Q2 hr1.out h nR)
   have r2:=Hd (λW (h:Grown wr W)=>Q2 hr2.out h nR)
   have hu:=Tryz.underlying66
   have hld1:=λW (h:Grown wr W)=>run_loadAt_mid (P:=Tryz.prog) W b1 (o1+k*7) 66 x.list _ (r1.out W h) hu rfl ix
   have hld2:=λW (h:Grown wr W)=>run_loadAt_mid (P:=Tryz.prog) W b2 (o2+k*7) 66 y.list _ (r2.out W h) hu rfl iy
   rw[<-hX2.out] at hld1
   rw[<-hY2.out] at hld2
   refine wp_region_held_drew (S:=(Grown wr)) kX hd0.out (λhOn=>?_)
   generalize World.drew wr=wd at*
   refine tk 0 hOn ?_
   refine tk 1 hOn ?_
   refine tk 2 hOn ?_
   refine tk 4 hOn ?_
   refine tk 5 hOn ?_
   refine tk 6 hOn ?_
   refine rds [3,7] ?_
   refine ac (λKz hKz=>?_) ?_
   rw[if_pos (by rfl)]
   (refine wp_load_mid 66 (.tmp 18) rfl b1 (o1+k*7) rfl x.list _ (r1.out _ hOn) hu rfl ix ?_)
   rw[<-hX2.out]
   have hS:=hOn
   refine hKz.out _ _ hS ?_
   clear hKz Kz hOn hS
   intro hOn
   try simp only[Act.put]
   refine rd 7 (λKz hKz=>?_)
   rw[if_pos (by rfl)]
   (refine wp_load_mid 66 (.tmp 22) rfl b2 (o2+k*7) rfl y.list _ (r2.out _ hOn) hu rfl iy ?_)
   rw[<-hY2.out]
   have hS:=hOn
   refine hKz.out _ _ hS ?_
   clear hKz Kz hOn hS
   intro hOn
   try simp only[Act.put]
   refine tk 8 hOn ?_
   refine dnE ?_
   rotate_left
   refine ac (λKz hKz=>?_) AllReadyH.nil
   rw[if_pos (by rfl)]
   (refine wp_load_mid 66 (.tmp 22) rfl b2 (o2+k*7) rfl y.list _ (r2.out _ hOn) hu rfl iy ?_)
   rw[<-hY2.out]
   have hS:=hOn
   refine hKz.out _ _ hS ?_
   clear hKz Kz hOn hS
   intro hOn
   try simp only[Act.put]
   refine rd 3 (λKz hKz=>?_)
   rw[if_pos (by rfl)]
   (refine wp_load_mid 66 (.tmp 18) rfl b1 (o1+k*7) rfl x.list _ (r1.out _ hOn) hu rfl ix ?_)
   rw[<-hX2.out]
   have hS:=hOn
   refine hKz.out _ _ hS ?_
   clear hKz Kz hOn hS
   intro hOn
   try simp only[Act.put]
   refine tk 8 hOn ?_
   refine dnE ?_
   all_goals
    have hS2:=Hd (hbw.out.trans (hOn.mono hbw.out.size))
    cases bb with
    | true=>
     have hxy:x=y:=by simpa using hbb.out.symm
     replace hxy:=Hd hxy
     go_wp2_with fail
     refine hback.out _ _ kX ?_ ?_
     ·simp only[List.getD_cons_zero,List.getD_cons_succ]
      exact⟨k+1,oX,by go_num,hS2.out,hstep.out hxy.out⟩
     ·have h12:=h12.out
      simp only[List.getD_cons_zero,List.getD_cons_succ,h12,intOf]
      omega
    | false=>
     have hxy:x≠y:=by simpa using hbb.out.symm
     have hfe:=Hd (hno.out hxy)
     clear hxy
     go_wp2_with fail
     go_ret
     exact⟨congrArg (λb=>Ending.returned (.bool b)) hfe.out.symm,hS2.out⟩
  ·obtain rfl:k=N:=oX
   have hfe:=Hd (f5.out (by rw[<-hNl.out,<-hNl'.out]) (λj h1 h2=>hall.out j h1 h2 (by rw[hNl.out];exact h1)))
   replace hbw:=Hd hbw
   clear hback
   go_wp2_with fail
   go_ret
   exact⟨congrArg (λb=>Ending.returned (.bool b)) hfe.out.symm,hbw.out⟩
theorem XN(va vb:Value)(m m':St)(w:World)(ha:ArgS w va m)(hb:ArgS w vb m')(l1:m.its.length<=1000)(l2:m.ens.length<=1000) :
  Calls Tryz.prog 16 #[va,vb] w λx w'=>x=.returned (.bool (XO m m'))/\Below w.heap.size w w':=by
 obtain⟨⟨an,cn,av,cv,rfl,hN,hN1,hN2,hV,hV1,hV2⟩,okN,okV⟩:=ha
 obtain⟨⟨bn,dn,bv,dv,rfl,hM,hM1,hM2,hW,hW1,hW2⟩,okM,okW⟩:=hb
 have h1:=λW (h:Below w.heap.size w W)=>Ra an bn cn dn m.its m'.its okN okM W (hN.below h nR) (hM.below h nR) oX
 have h2:=λW (h:Below w.heap.size w W)=>R6 av bv cv dv m.ens m'.ens okV okW W (hV.below h nR) (hW.below h nR) oX
 have he:XO m m'=(decide (m.its=m'.its)&&decide (m.ens=m'.ens)):=rfl
 rw[he]
 generalize decide (m.its=m'.its)=r1 at*
 generalize decide (m.ens=m'.ens)=r2 at*
 generalize m.its.length=n1 at*
 generalize m.ens.length=n2 at*
 generalize m'.its.length=n3 at*
 generalize m'.ens.length=n4 at*
 obtain⟨a1,a2,hs2,hB⟩:=Y3 w #[.slice an n1 cn,.slice av n2 cv] #[.slice bn n3 dn,.slice bv n4 dv] 28 28 _ rfl
 obtain⟨w2,hw2⟩:∃ w2,w2=((w.alloc (.cells #[.slice an n1 cn,.slice av n2 cv] 28)).alloc (.cells #[.slice bn n3 dn,.slice bv n4 dv] 28)):=⟨_,rfl⟩
 rw[<-hw2] at a1 a2 hs2 hB
 have c10:=Za a1 0
 have c20:=Za a2 0
 simp only[List.getElem?_toArray,List.getElem?_cons_zero] at c10 c20
 replace hw2:=Hd hw2
 replace h1:=Hd h1
 replace h2:=Hd h2
 replace a1:=Hd a1
 replace a2:=Hd a2
 replace hB:=Hd hB
 replace hs2:=Hd hs2
 clear he hN hV hM hW hN1 hN2 hV1 hV2 hM1 hM2 hW1 hW2 okN okV okM okW l1 l2
 go_enter Tryz.func16,Tryz.ntmps16
 go_wp2_with fail
 rw[<-hw2.out]
 go_wp2_with fail
 with_reducible refine(h1.out w2 hB.out).mono ?_
 rintro e w3 ⟨rfl,hb⟩
 have b1:=(hb.block _ (Zb a1.out)).trans a1.out
 have b2:=(hb.block _ (Zb a2.out)).trans a2.out
 have f0:=Za b1 1
 have f1:=Za b2 1
 simp only[List.getElem?_toArray,List.getElem?_cons_succ,List.getElem?_cons_zero] at f0 f1
 have hB3:=Hd (hB.out.trans (hb.mono hB.out.size))
 clear b1 b2 hb c10 c20
 cases r1 with
 | false=>
  go_wp2_with fail
  go_ret
  exact⟨rfl,hB3.out⟩
 | true=>
  go_wp2_with fail
  with_reducible refine(h2.out w3 hB3.out).mono ?_
  rintro e w4 ⟨rfl,hb⟩
  have hB4:=Hd (hB3.out.trans (hb.mono hB3.out.size))
  go_wp2_with fail
  go_ret
  exact⟨sX,hB4.out⟩
open Go.RowKit Go.ChangeShapes Go.WideShapes Go.Deep
abbrev in64 (x:Int):Prop := -9223372036854775808<=x/\x<=9223372036854775807
section
variable {H:Type} {enc:TypeId×Value->H} {P:Program} {w:World}
theorem Hs{base:Nat}{spare:Nat->Bool}{held:Bool}{tc i64 u64:TypeId}{g0 g1 g2:Field}{n:Nat}{cs:List Value}{y:DataW H×List MemPlace}(hc:P.underlying tc=some (.struct #[g0,g1,g2]))(ht:g0.type=i64/\g1.type=i64/\g2.type=u64)(ho:g0.offset=0/\g1.offset=1/\g2.offset=2)
  (hi:P.underlying i64=some (.int .i64)) (hu:P.underlying u64=some (.int .u64)) (ci:P.cellsOf i64=1) (cu:P.cellsOf u64=1) (h:DataW.trod enc P w base spare held n tc cs=some y) :
  ∃ (kept torn:Int) (s:Nat),cs[0]? = some (.int .i64 kept)/\cs[1]? = some (.int .i64 torn)/\cs[2]? = some (.int .u64 (s:Int))/\in64 kept/\in64 torn/\s<18446744073709551616:=by
 obtain⟨n0,y0,r0⟩:=VP hc h 0 g0 rfl
 obtain⟨n1,y1,r1⟩:=VP hc h 1 g1 rfl
 obtain⟨n2,y2,r2⟩:=VP hc h 2 g2 rfl
 rw[ht.1,ho.1] at r0
 rw[ht.2.1,ho.2.1] at r1
 rw[ht.2.2,ho.2.2] at r2
 obtain⟨z0,c0,w0⟩:=UB hi ci r0
 obtain⟨z1,c1,w1⟩:=UB hi ci r1
 obtain⟨z2,c2,w2⟩:=UB hu cu r2
 obtain⟨e2,l2⟩:=Lk w2
 exact⟨z0,z1,z2.toNat,c0,c1,by rw[<-e2];exact c2,DE w0,DE w1,l2⟩
theorem HA{r:Reach}{b0 base:Nat}{spare:Nat->Bool}{held:Bool}{tc i64 u64:TypeId}{g0 g1 g2:Field}{v:Value}{d:DataW H}{p:List MemPlace}(hc:P.underlying tc=some (.struct #[g0,g1,g2]))(ht:g0.type=i64/\g1.type=i64/\g2.type=u64)(ho:g0.offset=0/\g1.offset=1/\g2.offset=2)
  (hi:P.underlying i64=some (.int .i64)) (hu:P.underlying u64=some (.int .u64)) (ci:P.cellsOf i64=1) (cu:P.cellsOf u64=1) (hC:P.cellsOf tc=3) (hv:Value.okWide P w r b0 tc v) (h:DataW.Trod enc P w base spare held tc v d p) :
  ∃ (kept torn:Int) (s:Nat),v=.agg #[.int .i64 kept,.int .i64 torn,.int .u64 (s:Int)]/\in64 kept/\in64 torn/\s<18446744073709551616:=by
 obtain⟨cs,rfl,hsz⟩:=okWide_struct hc hv
 obtain⟨fuel,hf⟩:=h
 obtain⟨kept,torn,s,c0,c1,c2,k⟩:=Hs hc ht ho hi hu ci cu hf
 simp only[Value.cells] at c0 c1 c2
 refine⟨kept,torn,s,?_,k⟩
 congr 1
 apply Array.ext_getElem?
 intro i
 rcases(show i=0\/i=1\/i=2\/3<=i from by omega) with rfl|rfl|rfl|hi
 ·simpa using c0
 ·simpa using c1
 ·simpa using c2
 ·rw[Array.getElem?_eq_none oX,Array.getElem?_eq_none (by simpa using hi)]
end
open Go.RowKit Go.ChangeShapes
section
variable {P:Program} {W:World}
theorem X3(R:List (String×DataW Unit)):∀ (L:List (String×DataW Unit)) (ps:List MemPlace),DataW.LaidVars P W (L++R) ps->∃ q,DataW.LaidVars P W R q:=by
 intro L
 induction L with
 | nil=>intro ps h;exact⟨ps,h⟩
 | cons x L ih=>
  intro ps h
  obtain⟨g0,t0,cs0,f0,p0,q0,hg0,ht0,hv0,hd0,hr0,e0⟩:=h
  exact ih q0 hr0
theorem Nj(R:List (String×DataW Unit)):∀ (L:List (String×DataW Unit)) (ps:List MemPlace),DataW.LaidVars P W (L++R) ps->∃ q r,ps=q++r/\DataW.LaidVars P W R r:=by
 intro L
 induction L with
 | nil=>intro ps h;exact⟨[],ps,rfl,h⟩
 | cons x L ih=>
  intro ps h
  obtain⟨g0,t0,cs0,f0,p0,q0,hg0,ht0,hv0,hd0,hr0,e0⟩:=h
  obtain⟨q,r,e1,hr⟩:=ih q0 hr0
  exact⟨MemPlace.row ⟨g0,0,none⟩ cs0.size++p0++q,r,by rw[e0,e1];simp only[List.append_assoc],hr⟩
theorem Kq{name:String}{k:IntKind}{zs:List Int}{R:List (String×DataW Unit)}{ps:List MemPlace}{g:Nat}{t e:TypeId}{n:Nat}
  (hg:P.globalNamed name=some g) (hty:(P.globals[g]?).map (·.type)=some t) (ht:P.underlying t=some (.array n e)) (he:P.underlying e=some (.int k)) (hce:P.cellsOf e=1) (hct:P.cellsOf t=n)
  (h:DataW.LaidVars P W ((name,Go.Lib.tabData k zs)::R) ps):∃ t' fr,W.heap[g]? = some (.cells (zs.map λz=>Value.int k z).toArray t' fr):=by
 obtain⟨g',t',cs,fuel,p,q,hg',ht',hvar,hd,_,_⟩:=h
 obtain rfl:=Option.some.inj (hg.symm.trans hg')
 obtain rfl:=Option.some.inj (hty.symm.trans ht')
 have e1:cs=(zs.map λz=>Value.int k z).toArray:=by rw[<-Go.Lib.cells_of_tab ht he hce hct hd]
 subst e1
 simp only[World.var?,hg,Option.bind_some] at hvar
 split at hvar
 ·rename_i cs2 t2 fr2 hh
  injection hvar with hvar
  subst hvar
  exact⟨t2,fr2,hh⟩
 ·cases hvar
end
section
variable {H:Type} {enc:TypeId×Value->H} {P:Program} {w:World}
end
def shaFirst:List Int:=(ZO 8 (sAt Z6)).map wn
def shaAdded:List Int:=kList.map wn
theorem Ha:(shaFirst.map λz=>Value.int .u32 z).toArray=c8 Z6:=kX
theorem Td{W:World}{g:Nat}{t:TypeId}{fr:Nat×Nat}(h:W.heap[g]? = some (.cells (shaFirst.map λz=>Value.int .u32 z).toArray t fr))(i:Nat)(hi:i<8):W.cell? ⟨g,i,none⟩=some (.int .u32 (wn (sAt Z6 i))):=by
 rw[cell_of_row W g i _ t fr h,Ha,G3 Z6 hi]
theorem KH{W:World}{g:Nat}{t:TypeId}{fr:Nat×Nat}(h:W.heap[g]? = some (.cells (shaAdded.map λz=>Value.int .u32 z).toArray t fr))(i:Nat)(hi:i<64):W.cell? ⟨g,i,none⟩=some (.int .u32 (wn (kAt i))):=by
 rw[cell_of_row W g i _ t fr h]
 have hk:kList.length=64:=rfl
 unfold shaAdded kAt
 simp only[List.getElem?_toArray,List.getElem?_map,List.map_map,List.getD_eq_getElem?_getD]
 rw[List.getElem?_eq_getElem oX]
 rfl
end Go.Proofs.YtpdhceiodgnbmaaGreatDoor
