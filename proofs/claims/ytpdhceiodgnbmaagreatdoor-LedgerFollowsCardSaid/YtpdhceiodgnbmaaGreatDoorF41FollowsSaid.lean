import Derived.Test.YtpdhceiodgnbmaaGreatDoorF0FollowsSaid
import Derived.Test.YtpdhceiodgnbmaaGreatDoorF1FollowsSaid
import Derived.Test.YtpdhceiodgnbmaaGreatDoorF40FollowsSaid
import Derived.Test.YtpdhceiodgnbmaaGreatDoorF2FollowsSaid
import Derived.Test.YtpdhceiodgnbmaaGreatDoorF7FollowsSaid
import Derived.Test.YtpdhceiodgnbmaaGreatDoorF39FollowsSaid
set_option linter.unusedVariables false
set_option linter.unusedSimpArgs false
set_option linter.unnecessarySimpa false
set_option maxRecDepth 100000
set_option maxHeartbeats 8000000
namespace Go.Proofs.YtpdhceiodgnbmaaGreatDoor
open Go.RowKit
theorem G1(va:Value)(m:St)(x:Rc)(hx:x.Ok)(w:World)(ha:ArgS w va m)(l1:m.its.length<=1000)(l2:m.ens.length<=1000)(hub:∀ y∈m.its,y.u<=1000000/\y.r<=1000000) :
  Calls Tryz.prog 14 #[va,.agg x.list.toArray] w (Zw (Zr m x).1 (Zr m x).2 w):=by
 by_cases hc:x.chk=0
 ·exact Nb va m x hx w ha l1 l2 hub hc
 ·have e0:Zr m x=(⟨[],[]⟩,x.chk):=by unfold Zr;rw[if_pos hc]
  rw[e0]
  exact TC va m x hx w ha l1 l2 hc
theorem It.lits_inj{x y:It}(hx:x.root.length=32)(hx2:x.file.length=32)(hy:y.root.length=32)(hy2:y.file.length=32)(h:x.lits=y.lits):x=y:=by
 unfold It.lits at h
 obtain⟨h1,h2⟩:=List.append_inj h rfl
 obtain⟨h3,h4⟩:=List.append_inj h2 rfl
 obtain⟨h5,h6⟩:=List.append_inj h4 (by simp[Qm,hx,hy])
 obtain⟨h7,h8⟩:=List.append_inj h6 (by simp[Qm,hx2,hy2])
 simp only[List.cons.injEq,Lit.string.injEq,Lit.int.injEq,Lit.bool.injEq,true_and,and_true] at h1 h8
 obtain⟨a1,a2⟩:=h1
 obtain⟨b1,b2,b3,b4⟩:=h8
 have e1:=J4 a2
 have e2:=P6.lits_inj h3
 have e3:=Xi h5
 have e4:=Xi h7
 cases x;cases y
 simp only at*
 subst e1 e2 e3 e4 a1 b1 b2 b3 b4
 rfl
theorem En.lits_inj{x y:En}(h:x.lits=y.lits):x=y:=by
 cases x;cases y
 simpa[En.lits] using h
section
variable {P:Program}
theorem VY{t ts tp td tb i64:TypeId}{fs:Array Field}(ht:P.underlying t=some (.struct fs))(hq:fs.toList.map (λf=>(f.type,f.offset))=[(i64,0),(ts,1),(tp,2),(td,8),(td,40),(i64,72),(tb,73),(i64,74),(i64,75)])(hn:fs.all (·.name != "_")=true)
  (hi:P.underlying i64=some (.int .i64)) (hs:P.underlying ts=some .string) (hb:P.underlying tb=some .bool) (hp:∀ p:P6,p.Ok->∀ d,P.keyLits (d+2) tp p.list=some p.lits) (hd:∀ f:List UInt8,f.length=32->∀ d,P.keyLits (d+2) td (cB f)=some (Qm f))
  (ci:P.cellsOf i64=1) (cs:P.cellsOf ts=1) (cb:P.cellsOf tb=1) (cp:P.cellsOf tp=6) (cd:P.cellsOf td=32) (ct:P.cellsOf t=76) (x:It) (h:x.Ok) (d:Nat):P.keyLits (d+3) t x.list=some x.lits:=by
 have s1:∀ {o:Nat} {v:Value},x.list[o]? = some v->(x.list.drop o).take 1=[v]:=fun {o v} hv=>by
  have hlt:=(List.getElem?_eq_some_iff.1 hv).1
  rw[List.drop_eq_getElem_cons hlt]
  rw[List.getElem?_eq_getElem hlt,Option.some.injEq] at hv
  rw[hv];rfl
 have e1:∀ n:Int,inI n->P.keyLits (d+2) i64 [.int .i64 n]=some [.int .i64 n]:=λn h=>Y6 hi (VZ h)
 have e:=Xq (d:=d+2) (cs:=x.list) (ls:=[[.int .i64 x.n],[.string x.s.data.toList],x.p.lits,Qm x.root,Qm x.file,[.int .i64 x.t],[.bool x.k],[.int .i64 x.u],[.int .i64 x.r]]) ht hq hn (by rw[ct,It.list_length h]) (by
  simp only[List.mapM_cons,List.mapM_nil,ci,cs,cb,cp,cd,s1 x.c0,s1 x.c1,s1 (It.c72 h),s1 (It.c73 h),s1 (It.c74 h),s1 (It.c75 h),It.sub_p,It.sub_root h,It.sub_file h,hp x.p h.p d,hd x.root h.root d,hd x.file h.file d,Vv hs h.s,Gy hb,e1 _ h.n,e1 _ h.t,e1 _ h.u,e1 _ h.r,Option.bind_eq_bind,Option.bind_some,Option.pure_def])
 rw[e]
 simp[It.lits]
theorem VV{t i64:TypeId}{fs:Array Field}(ht:P.underlying t=some (.struct fs))(hq:fs.toList.map (λf=>(f.type,f.offset))=[(i64,0),(i64,1),(i64,2),(i64,3),(i64,4),(i64,5),(i64,6)])(hn:fs.all (·.name != "_")=true)(hi:P.underlying i64=some (.int .i64))(ci:P.cellsOf i64=1)(ct:P.cellsOf t=7)
  (x:En) (hp:x.Ok) (d:Nat):P.keyLits (d+2) t x.list=some x.lits:=by
 obtain⟨h1,h2,h3,h4,h5,h6,h7⟩:=hp
 have e:=λ(n:Int) (h:inI n)=>Y6 (d:=d) hi (VZ h)
 refine Xq (ls:=[[.int .i64 x.id],[.int .i64 x.o],[.int .i64 x.w],[.int .i64 x.i],[.int .i64 x.t],[.int .i64 x.v],[.int .i64 x.a]]) ht hq hn (by rw[ct];rfl) ?_
 simp only[List.mapM_cons,List.mapM_nil,ci,En.list,List.drop_zero,List.drop_succ_cons,List.take_succ_cons,List.take_zero,e _ h1,e _ h2,e _ h3,e _ h4,e _ h5,e _ h6,e _ h7,Option.bind_eq_bind,Option.bind_some,Option.pure_def]
end
theorem KI(x:It)(h:x.Ok)(d:Nat):Tryz.prog.keyLits (d+3) 58 x.list=some x.lits:=VY Tryz.underlying58 rfl kX Tryz.underlying3 Tryz.underlying9 Tryz.underlying4 K2 Nk kX kX kX kX kX kX x h d
theorem Gi(x:It)(h:x.Ok)(d:Nat):Tryz.prog.keyLits (d+3) 63 x.list=some x.lits:=VY Tryz.underlying63 rfl kX Tryz.underlying3 Tryz.underlying9 Tryz.underlying4 J8 VI kX kX kX kX kX kX x h d
theorem K3(x:En)(h:x.Ok)(d:Nat):Tryz.prog.keyLits (d+2) 66 x.list=some x.lits:=VV Tryz.underlying66 rfl kX Tryz.underlying3 kX kX x h d
theorem K4(x:En)(h:x.Ok)(d:Nat):Tryz.prog.keyLits (d+2) 105 x.list=some x.lits:=VV Tryz.underlying105 rfl kX Tryz.underlying3 kX kX x h d
theorem UA(x y:It)(hx:x.Ok)(hy:y.Ok)(w:World):(binOp .neq 58 (.agg x.list.toArray) (.agg y.list.toArray)).run Tryz.prog w=.ok (.bool (!decide (x=y))) w/\(binOp .eql 58 (.agg x.list.toArray) (.agg y.list.toArray)).run Tryz.prog w=.ok (.bool (decide (x=y))) w:=by
 obtain⟨r,h1,h2,h3⟩:=YT (P:=Tryz.prog) (w:=w) (xs:=x.list.toArray) (ys:=y.list.toArray) (t:=58) kX (KI x hx 3) (KI y hy 3) (ZH (xs:=x.list.toArray) Tryz.underlying58 rfl (by rw[It.size hx];kernel_rfl)) (ZH (xs:=y.list.toArray) Tryz.underlying58 rfl (by rw[It.size hy];kernel_rfl))
 have:r=decide (x=y):=by rw[Bool.eq_iff_iff,h1,decide_eq_true_iff];exact⟨It.lits_inj hx.root hx.file hy.root hy.file,λe=>by rw[e]⟩
 rw[h2,h3,this]
 exact⟨rfl,rfl⟩
theorem R9(x y:It)(hx:x.Ok)(hy:y.Ok)(w:World):(binOp .neq 63 (.agg x.list.toArray) (.agg y.list.toArray)).run Tryz.prog w=.ok (.bool (!decide (x=y))) w:=by
 obtain⟨r,h1,h2,h3⟩:=YT (P:=Tryz.prog) (w:=w) (xs:=x.list.toArray) (ys:=y.list.toArray) (t:=63) kX (Gi x hx 3) (Gi y hy 3) (ZH (xs:=x.list.toArray) Tryz.underlying63 rfl (by rw[It.size hx];kernel_rfl)) (ZH (xs:=y.list.toArray) Tryz.underlying63 rfl (by rw[It.size hy];kernel_rfl))
 have:r=decide (x=y):=by rw[Bool.eq_iff_iff,h1,decide_eq_true_iff];exact⟨It.lits_inj hx.root hx.file hy.root hy.file,λe=>by rw[e]⟩
 rw[h3,this]
theorem Nq(x y:En)(hx:x.Ok)(hy:y.Ok)(w:World):(binOp .neq 66 (.agg x.list.toArray) (.agg y.list.toArray)).run Tryz.prog w=.ok (.bool (!decide (x=y))) w/\(binOp .eql 66 (.agg x.list.toArray) (.agg y.list.toArray)).run Tryz.prog w=.ok (.bool (decide (x=y))) w:=by
 obtain⟨r,h1,h2,h3⟩:=YT (P:=Tryz.prog) (w:=w) (xs:=x.list.toArray) (ys:=y.list.toArray) (t:=66) kX (K3 x hx 4) (K3 y hy 4) (ZH (xs:=x.list.toArray) Tryz.underlying66 rfl kX) (ZH (xs:=y.list.toArray) Tryz.underlying66 rfl kX)
 have:r=decide (x=y):=by rw[Bool.eq_iff_iff,h1,decide_eq_true_iff];exact⟨En.lits_inj,λe=>by rw[e]⟩
 rw[h2,h3,this]
 exact⟨rfl,rfl⟩
theorem RW(x y:En)(hx:x.Ok)(hy:y.Ok)(w:World):(binOp .neq 105 (.agg x.list.toArray) (.agg y.list.toArray)).run Tryz.prog w=.ok (.bool (!decide (x=y))) w:=by
 obtain⟨r,h1,h2,h3⟩:=YT (P:=Tryz.prog) (w:=w) (xs:=x.list.toArray) (ys:=y.list.toArray) (t:=105) kX (K4 x hx 4) (K4 y hy 4) (ZH (xs:=x.list.toArray) Tryz.underlying105 rfl kX) (ZH (xs:=y.list.toArray) Tryz.underlying105 rfl kX)
 have:r=decide (x=y):=by rw[Bool.eq_iff_iff,h1,decide_eq_true_iff];exact⟨En.lits_inj,λe=>by rw[e]⟩
 rw[h3,this]
theorem J5{α:Type}{xs ys:List α}(h:xs.length=ys.length)(he:∀ j (h1:j<xs.length) (h2:j<ys.length),xs[j]=ys[j]):xs=ys:=List.ext_getElem h he
def Qj(m m':St):Bool:=decide (m.its=m'.its)&&decide (m.ens=m'.ens)
theorem Vo{m m':St}(h:m.its≠m'.its):Qj m m'=false:=by unfold Qj;rw[decide_eq_false h];rfl
theorem Vt{m m':St}(h:m.ens≠m'.ens):Qj m m'=false:=by unfold Qj;rw[decide_eq_false h,Bool.and_false]
theorem Jq(va vb:Value)(m m':St)(w:World)(ha:ArgS w va m)(hb:ArgS w vb m')(l1:m.its.length<=1000)(l2:m.ens.length<=1000) :
  Calls Tryz.prog 11 #[va,vb] w λx w'=>x=.returned (.bool (Qj m m'))/\Below w.heap.size w w':=by
 obtain⟨⟨an,cn,av,cv,rfl,hN,hN1,hN2,hV,hV1,hV2⟩,okN,okV⟩:=ha
 obtain⟨⟨bn,dn,bv,dv,rfl,hM,hM1,hM2,hW,hW1,hW2⟩,okM,okW⟩:=hb
 have f1:=λ(h:m.its.length≠m'.its.length)=>Vo (m:=m) (m':=m') (λe=>h (by rw[e]))
 have f2:=λ(h:m.ens.length≠m'.ens.length)=>Vt (m:=m) (m':=m') (λe=>h (by rw[e]))
 have f3:=λk (h1:k<m.its.length) (h2:k<m'.its.length) (h:m.its[k]≠m'.its[k])=>Vo (m:=m) (m':=m') (λe=>h (by simp only[e]))
 have f4:=λk (h1:k<m.ens.length) (h2:k<m'.ens.length) (h:m.ens[k]≠m'.ens[k])=>Vt (m:=m) (m':=m') (λe=>h (by simp only[e]))
 have f5:=λ(h1:m.its=m'.its) (h2:m.ens=m'.ens)=>show Qj m m'=true by unfold Qj;rw[decide_eq_true h1,decide_eq_true h2];rfl
 generalize Qj m m'=res at*
 obtain⟨N,hNl⟩:∃ N,N=m.its.length:=⟨_,rfl⟩
 obtain⟨V,hVl⟩:∃ V,V=m.ens.length:=⟨_,rfl⟩
 obtain⟨N',hNl'⟩:∃ N,N=m'.its.length:=⟨_,rfl⟩
 obtain⟨V',hVl'⟩:∃ V,V=m'.ens.length:=⟨_,rfl⟩
 rw[<-hNl,<-hVl,<-hNl',<-hVl']
 rw[<-hNl] at l1
 rw[<-hVl] at l2
 obtain⟨a1,a2,hs2,hB⟩:=QI w #[.slice an N cn,.slice av V cv] #[.slice bn N' dn,.slice bv V' dv] 36 36 _ rfl
 obtain⟨w2,hw2⟩:∃ w2,w2=(w.alloc (.cells #[.slice an N cn,.slice av V cv] 36)).alloc (.cells #[.slice bn N' dn,.slice bv V' dv] 36):=⟨_,rfl⟩
 have e10:=Za a1 0
 have e11:=Za a1 1
 have e20:=Za a2 0
 have e21:=Za a2 1
 have hbB0:=Hd hB
 rw[<-hw2] at a1 a2 hs2 hB
 have hNl2:=Hd hNl
 have hVl2:=Hd hVl
 have hNl2':=Hd hNl'
 have hVl2':=Hd hVl'
 replace hw2:=Hd hw2
 replace a1:=Hd a1
 replace a2:=Hd a2
 replace hB:=Hd hB
 replace hs2:=Hd hs2
 replace hN:=Hd hN
 replace hV:=Hd hV
 replace hM:=Hd hM
 replace hW:=Hd hW
 replace okN:=Hd okN
 replace okV:=Hd okV
 replace okM:=Hd okM
 replace okW:=Hd okW
 replace f1:=Hd f1
 replace f2:=Hd f2
 replace f3:=Hd f3
 replace f4:=Hd f4
 replace f5:=Hd f5
 clear hN1 hN2 hV1 hV2 hM1 hM2 hW1 hW2 hNl hVl hNl' hVl'
 by_cases hNN:N=N'
 rotate_left
 ·have hfe:=Hd (f1.out (by rw[<-hNl2.out,<-hNl2'.out];exact hNN))
  have hne:((N:Int) != (N':Int))=true:=by simpa using (show (N:Int)≠(N':Int) by omega)
  clear hNN
  go_enter Tryz.func11,Tryz.ntmps11
  go_wp2_with fail
  go_ret
  exact⟨congrArg (λb=>Ending.returned (.bool b)) hfe.out.symm,hbB0.out⟩
 subst hNN
 by_cases hVV:V=V'
 rotate_left
 ·have hfe:=Hd (f2.out (by rw[<-hVl2.out,<-hVl2'.out];exact hVV))
  have hne:((V:Int) != (V':Int))=true:=by simpa using (show (V:Int)≠(V':Int) by omega)
  clear hVV
  go_enter Tryz.func11,Tryz.ntmps11
  go_wp2_with fail
  go_ret
  exact⟨congrArg (λb=>Ending.returned (.bool b)) hfe.out.symm,hbB0.out⟩
 subst hVV
 go_enter Tryz.func11,Tryz.ntmps11
 go_wp2_with fail
 rw[<-hw2.out]
 clear e10 e11 e20 e21 hw2
 refine Z8 [(false,5),(true,1),(false,20),(true,15),(false,18)] _ [] (λU wr=>∃ k:Nat,k<=N/\U 26=.int .i64 (k:Nat)/\Below w2.heap.size w2 wr/\∀ j (h1:j<m.its.length) (h2:j<m'.its.length),j<k->m.its[j]=m'.its[j]) (λU _=>N-(intOf (U 26)).toNat) ?_ ?_
 ·simp only[List.getD_cons_zero,List.getD_cons_succ]
  exact⟨0,Nat.zero_le _,rfl,Below.refl _ _,λj _ _ hj=>absurd hj (Nat.not_lt_zero _)⟩
 ·skip
  intro U wr hrel KK hback l' hl'
  obtain⟨k,hk,h12,hbw,hall⟩:=hrel
  simp only[ZR,ZD,cond_true,cond_false,Nat.reduceAdd,h12] at hl'
  subst hl'
  replace h12:=Hd h12
  replace hall:=Hd hall
  have c1:=(hbw.block _ (Zb a1.out)).trans a1.out
  have c2:=(hbw.block _ (Zb a2.out)).trans a2.out
  have hbB:=Hd (hB.out.trans (hbw.mono hB.out.size))
  have s10:=Za c1 0
  have s20:=Za c2 0
  by_cases hlt:k<N
  ·have hlt2:(k:Int)<(N:Int):=oX
   have hkN:k<m.its.length:=by rw[<-hNl2.out];exact hlt
   have hkM:k<m'.its.length:=by rw[<-hNl2'.out];exact hlt
   obtain⟨b1,o1,rfl,hr1⟩:=(hN.out.below hbB.out nR) k hkN
   obtain⟨b2,o2,rfl,hr2⟩:=(hM.out.below hbB.out nR) k hkM
   have ox:=okN.out _ (List.getElem_mem hkN)
   have oy:=okM.out _ (List.getElem_mem hkM)
   have hno:=λ(e:m.its[k]≠m'.its[k])=>f3.out k hkN hkM e
   have hstep:=λ(e:m.its[k]=m'.its[k])=>show ∀ j (h1:j<m.its.length) (h2:j<m'.its.length),j<k+1->m.its[j]=m'.its[j] from λj h1 h2 hjk=>by
    by_cases hjk2:j<k
    ·exact hall.out j h1 h2 hjk2
    ·obtain rfl:j=k:=oX
     exact e
   generalize m.its[k]=x at*
   generalize m'.its[k]=y at*
   have ix:(Tryz.prog.info? 63).map (·.size)=some x.list.length:=by rw[It.list_length ox];kernel_rfl
   have iy:(Tryz.prog.info? 63).map (·.size)=some y.list.length:=by rw[It.list_length oy];kernel_rfl
   have hne:∀ W,_:=λW=>R9 x y ox oy W
   obtain⟨X,hX⟩:∃ X,X=x.list.toArray:=⟨_,rfl⟩
   obtain⟨Y,hY⟩:∃ Y,Y=y.list.toArray:=⟨_,rfl⟩
   rw[<-hX,<-hY] at hne
   replace hX:=Hd hX
   replace hY:=Hd hY
   replace hr1:=Hd hr1
   replace hr2:=Hd hr2
   replace hbw:=Hd hbw
   replace ox:=Hd ox
   replace oy:=Hd oy
   replace hno:=Hd hno
   replace hstep:=Hd hstep
   obtain⟨bb,hbb⟩:∃ bb,bb=decide (x=y):=⟨_,rfl⟩
   rw[<-hbb] at hne
   replace hbb:=Hd hbb
   clear c1 c2
   go_wp2_with fail
   have hd0:Hid (Grown wr wr.drew):=Hd (Grown.drew (Grown.refl wr))
   have k10:=λW (h:Grown wr W)=>(h.cell (World.block_lt_of_cell? wr _ s10)).trans s10
   have k20:=λW (h:Grown wr W)=>(h.cell (World.block_lt_of_cell? wr _ s20)).trans s20
   have r1:=Hd (λW (h:Grown wr W)=>Zs hr1.out h nR)
   have r2:=Hd (λW (h:Grown wr W)=>Zs hr2.out h nR)
   have hu:=Tryz.underlying63
   have hld1:=λW (h:Grown wr W)=>run_loadAt_mid (P:=Tryz.prog) W b1 (o1+k*76) 63 x.list _ (r1.out W h) hu rfl ix
   have hld2:=λW (h:Grown wr W)=>run_loadAt_mid (P:=Tryz.prog) W b2 (o2+k*76) 63 y.list _ (r2.out W h) hu rfl iy
   rw[<-hX.out] at hld1
   rw[<-hY.out] at hld2
   refine wp_region_held_drew (S:=(Grown wr)) kX hd0.out (λhOn=>?_)
   generalize World.drew wr=wd at*
   refine tk 0 hOn ?_
   refine tk 1 hOn ?_
   refine tk 2 hOn ?_
   refine tk 3 hOn ?_
   refine tk 5 hOn ?_
   refine tk 6 hOn ?_
   refine tk 7 hOn ?_
   refine tk 8 hOn ?_
   refine rds [4,9] ?_
   refine ac (λKz hKz=>?_) ?_
   rw[if_pos (by rfl)]
   (refine wp_load_mid 63 (.tmp 32) rfl b1 (o1+k*76) rfl x.list _ (r1.out _ hOn) hu rfl ix ?_)
   rw[<-hX.out]
   have hS:=hOn
   refine hKz.out _ _ hS ?_
   clear hKz Kz hOn hS
   intro hOn
   try simp only[Act.put]
   refine rd 9 (λKz hKz=>?_)
   rw[if_pos (by rfl)]
   (refine wp_load_mid 63 (.tmp 37) rfl b2 (o2+k*76) rfl y.list _ (r2.out _ hOn) hu rfl iy ?_)
   rw[<-hY.out]
   have hS:=hOn
   refine hKz.out _ _ hS ?_
   clear hKz Kz hOn hS
   intro hOn
   try simp only[Act.put]
   refine tk 10 hOn ?_
   refine dnE ?_
   rotate_left
   refine ac (λKz hKz=>?_) AllReadyH.nil
   rw[if_pos (by rfl)]
   (refine wp_load_mid 63 (.tmp 37) rfl b2 (o2+k*76) rfl y.list _ (r2.out _ hOn) hu rfl iy ?_)
   rw[<-hY.out]
   have hS:=hOn
   refine hKz.out _ _ hS ?_
   clear hKz Kz hOn hS
   intro hOn
   try simp only[Act.put]
   refine rd 4 (λKz hKz=>?_)
   rw[if_pos (by rfl)]
   (refine wp_load_mid 63 (.tmp 32) rfl b1 (o1+k*76) rfl x.list _ (r1.out _ hOn) hu rfl ix ?_)
   rw[<-hX.out]
   have hS:=hOn
   refine hKz.out _ _ hS ?_
   clear hKz Kz hOn hS
   intro hOn
   try simp only[Act.put]
   refine tk 10 hOn ?_
   refine dnE ?_
   all_goals
    have hS2:=Hd (hbw.out.trans (hOn.mono hbw.out.size))
    have hS3:=Hd (hB.out.trans (hS2.out.mono hB.out.size))
    cases bb with
    | true=>
     have hxy:x=y:=by simpa using hbb.out.symm
     replace hxy:=Hd hxy
     go_wp2_with fail
     refine hback.out _ _ kX ?_ ?_
     ·simp only[List.getD_cons_zero,List.getD_cons_succ]
      exact⟨k+1,oX,by go_num,hS2.out,hstep.out hxy.out⟩
     ·have h12:=h12.out
      simp only[List.getD_cons_zero,List.getD_cons_succ,h12,intOf]
      omega
    | false=>
     have hxy:x≠y:=by simpa using hbb.out.symm
     have hfe:=Hd (hno.out hxy)
     clear hxy
     go_wp2_with fail
     go_ret
     exact⟨congrArg (λb=>Ending.returned (.bool b)) hfe.out.symm,hS3.out⟩
  ·obtain rfl:k=N:=oX
   have hsame0:=Hd (J5 (by rw[<-hNl2.out,<-hNl2'.out]) (λj h1 h2=>hall.out j h1 h2 (by rw[hNl2.out];exact h1)))
   clear c1 c2
   replace s10:=Za ((hbw.block _ (Zb a1.out)).trans a1.out) 1
   replace s20:=Za ((hbw.block _ (Zb a2.out)).trans a2.out) 1
   have hb1:=Hd hbw
   clear hbw hback h12 hbB hall
   go_wp2_with fail
   refine Z8 [(false,6),(true,1),(false,37),(true,15)] _ [] (λU wr=>∃ k:Nat,k<=V/\U 44=.int .i64 (k:Nat)/\Below w2.heap.size w2 wr/\∀ j (h1:j<m.ens.length) (h2:j<m'.ens.length),j<k->m.ens[j]=m'.ens[j]) (λU _=>V-(intOf (U 44)).toNat) ?_ ?_
   ·simp only[List.getD_cons_zero,List.getD_cons_succ]
    exact⟨0,Nat.zero_le _,rfl,hb1.out,λj _ _ hj=>absurd hj (Nat.not_lt_zero _)⟩
   ·clear hb1
    intro U wr hrel KK hback l' hl'
    obtain⟨k,hk,h12,hbw,hall⟩:=hrel
    simp only[ZR,ZD,cond_true,cond_false,Nat.reduceAdd,h12] at hl'
    subst hl'
    replace h12:=Hd h12
    replace hall:=Hd hall
    have c1:=(hbw.block _ (Zb a1.out)).trans a1.out
    have c2:=(hbw.block _ (Zb a2.out)).trans a2.out
    have hbB:=Hd (hB.out.trans (hbw.mono hB.out.size))
    have s10:=Za c1 1
    have s20:=Za c2 1
    by_cases hlt:k<V
    ·have hlt2:(k:Int)<(V:Int):=oX
     have hkN:k<m.ens.length:=by rw[<-hVl2.out];exact hlt
     have hkM:k<m'.ens.length:=by rw[<-hVl2'.out];exact hlt
     obtain⟨b1,o1,rfl,hr1⟩:=(hV.out.below hbB.out nR) k hkN
     obtain⟨b2,o2,rfl,hr2⟩:=(hW.out.below hbB.out nR) k hkM
     have ox:=okV.out _ (List.getElem_mem hkN)
     have oy:=okW.out _ (List.getElem_mem hkM)
     have hno:=λ(e:m.ens[k]≠m'.ens[k])=>f4.out k hkN hkM e
     have hstep:=λ(e:m.ens[k]=m'.ens[k])=>show ∀ j (h1:j<m.ens.length) (h2:j<m'.ens.length),j<k+1->m.ens[j]=m'.ens[j] from λj h1 h2 hjk=>by
      by_cases hjk2:j<k
      ·exact hall.out j h1 h2 hjk2
      ·obtain rfl:j=k:=oX
       exact e
     generalize m.ens[k]=x at*
     generalize m'.ens[k]=y at*
     have ix:(Tryz.prog.info? 105).map (·.size)=some x.list.length:=by rw[(rfl:x.list.length=7)];kernel_rfl
     have iy:(Tryz.prog.info? 105).map (·.size)=some y.list.length:=by rw[(rfl:y.list.length=7)];kernel_rfl
     have hne:∀ W,_:=λW=>RW x y ox oy W
     obtain⟨X,hX⟩:∃ X,X=x.list.toArray:=⟨_,rfl⟩
     obtain⟨Y,hY⟩:∃ Y,Y=y.list.toArray:=⟨_,rfl⟩
     rw[<-hX,<-hY] at hne
     replace hX:=Hd hX
     replace hY:=Hd hY
     replace hr1:=Hd hr1
     replace hr2:=Hd hr2
     replace hbw:=Hd hbw
     replace ox:=Hd ox
     replace oy:=Hd oy
     replace hno:=Hd hno
     replace hstep:=Hd hstep
     obtain⟨bb,hbb⟩:∃ bb,bb=decide (x=y):=⟨_,rfl⟩
     rw[<-hbb] at hne
     replace hbb:=Hd hbb
     clear c1 c2
     go_wp2_with fail
     have hd0:Hid (Grown wr wr.drew):=Hd (Grown.drew (Grown.refl wr))
     have k10:=λW (h:Grown wr W)=>(h.cell (World.block_lt_of_cell? wr _ s10)).trans s10
     have k20:=λW (h:Grown wr W)=>(h.cell (World.block_lt_of_cell? wr _ s20)).trans s20
     have r1:=Hd (λW (h:Grown wr W)=>Zs hr1.out h nR)
     have r2:=Hd (λW (h:Grown wr W)=>Zs hr2.out h nR)
     have hu:=Tryz.underlying105
     have hld1:=λW (h:Grown wr W)=>run_loadAt_mid (P:=Tryz.prog) W b1 (o1+k*7) 105 x.list _ (r1.out W h) hu rfl ix
     have hld2:=λW (h:Grown wr W)=>run_loadAt_mid (P:=Tryz.prog) W b2 (o2+k*7) 105 y.list _ (r2.out W h) hu rfl iy
     rw[<-hX.out] at hld1
     rw[<-hY.out] at hld2
     refine wp_region_held_drew (S:=(Grown wr)) kX hd0.out (λhOn=>?_)
     generalize World.drew wr=wd at*
     refine tk 0 hOn ?_
     refine tk 1 hOn ?_
     refine tk 2 hOn ?_
     refine tk 3 hOn ?_
     refine tk 5 hOn ?_
     refine tk 6 hOn ?_
     refine tk 7 hOn ?_
     refine tk 8 hOn ?_
     refine rds [4,9] ?_
     refine ac (λKz hKz=>?_) ?_
     rw[if_pos (by rfl)]
     (refine wp_load_mid 105 (.tmp 50) rfl b1 (o1+k*7) rfl x.list _ (r1.out _ hOn) hu rfl ix ?_)
     rw[<-hX.out]
     have hS:=hOn
     refine hKz.out _ _ hS ?_
     clear hKz Kz hOn hS
     intro hOn
     try simp only[Act.put]
     refine rd 9 (λKz hKz=>?_)
     rw[if_pos (by rfl)]
     (refine wp_load_mid 105 (.tmp 55) rfl b2 (o2+k*7) rfl y.list _ (r2.out _ hOn) hu rfl iy ?_)
     rw[<-hY.out]
     have hS:=hOn
     refine hKz.out _ _ hS ?_
     clear hKz Kz hOn hS
     intro hOn
     try simp only[Act.put]
     refine tk 10 hOn ?_
     refine dnE ?_
     rotate_left
     refine ac (λKz hKz=>?_) AllReadyH.nil
     rw[if_pos (by rfl)]
     (refine wp_load_mid 105 (.tmp 55) rfl b2 (o2+k*7) rfl y.list _ (r2.out _ hOn) hu rfl iy ?_)
     rw[<-hY.out]
     have hS:=hOn
     refine hKz.out _ _ hS ?_
     clear hKz Kz hOn hS
     intro hOn
     try simp only[Act.put]
     refine rd 4 (λKz hKz=>?_)
     rw[if_pos (by rfl)]
     (refine wp_load_mid 105 (.tmp 50) rfl b1 (o1+k*7) rfl x.list _ (r1.out _ hOn) hu rfl ix ?_)
     rw[<-hX.out]
     have hS:=hOn
     refine hKz.out _ _ hS ?_
     clear hKz Kz hOn hS
     intro hOn
     try simp only[Act.put]
     refine tk 10 hOn ?_
     refine dnE ?_
     all_goals
      have hS2:=Hd (hbw.out.trans (hOn.mono hbw.out.size))
      have hS3:=Hd (hB.out.trans (hS2.out.mono hB.out.size))
      cases bb with
      | true=>
       have hxy:x=y:=by simpa using hbb.out.symm
       replace hxy:=Hd hxy
       go_wp2_with fail
       refine hback.out _ _ kX ?_ ?_
       ·simp only[List.getD_cons_zero,List.getD_cons_succ]
        exact⟨k+1,oX,by go_num,hS2.out,hstep.out hxy.out⟩
       ·have h12:=h12.out
        simp only[List.getD_cons_zero,List.getD_cons_succ,h12,intOf]
        omega
      | false=>
       have hxy:x≠y:=by simpa using hbb.out.symm
       have hfe:=Hd (hno.out hxy)
       clear hxy
       go_wp2_with fail
       go_ret
       exact⟨congrArg (λb=>Ending.returned (.bool b)) hfe.out.symm,hS3.out⟩
    ·obtain rfl:k=V:=oX
     have hsame1:=Hd (J5 (by rw[<-hVl2.out,<-hVl2'.out]) (λj h1 h2=>hall.out j h1 h2 (by rw[hVl2.out];exact h1)))
     clear c1 c2
     replace hbw:=Hd hbw
     go_wp2_with fail
     go_ret
     exact⟨congrArg (λb=>Ending.returned (.bool b)) (f5.out hsame0.out hsame1.out).symm,hbB.out⟩
end Go.Proofs.YtpdhceiodgnbmaaGreatDoor
