import Derived.Test.YtpdhceiodgnbmaaGreatDoorF0ReplaysSaid
import Derived.Test.YtpdhceiodgnbmaaGreatDoorF1ReplaysSaid
import Derived.Test.YtpdhceiodgnbmaaGreatDoorF43ReplaysSaid
import Derived.Test.YtpdhceiodgnbmaaGreatDoorF40ReplaysSaid
import Derived.Test.YtpdhceiodgnbmaaGreatDoorF2ReplaysSaid
import Derived.Test.YtpdhceiodgnbmaaGreatDoorF16ReplaysSaid
import Derived.Test.YtpdhceiodgnbmaaGreatDoorF5ReplaysSaid
set_option linter.unusedVariables false
set_option linter.unusedSimpArgs false
set_option linter.unnecessarySimpa false
set_option maxRecDepth 100000
set_option maxHeartbeats 8000000
namespace Go.Proofs.YtpdhceiodgnbmaaGreatDoor
open Go.RowKit
theorem MM(a0:Option Addr)(c0:Nat)(bs:List (List UInt8))(w:World)(hA:ArgBB w a0 c0 bs)(hl:bs.length<=1000)(h5:∀ b∈bs,b.length<=500) :
  Calls Tryz.prog 9 #[.slice a0 bs.length c0] w (Z6 (ZH ⟨[],[]⟩ bs).1 (ZH ⟨[],[]⟩ bs).2 w):=by
 obtain⟨FM,hFM⟩:∃ FM,FM=ZH ⟨[],[]⟩ bs:=⟨_,rfl⟩
 rw[<-hFM]
 obtain⟨N,hN⟩:∃ N,N=bs.length:=⟨_,rfl⟩
 rw[<-hN] at hl ⊢
 have hlN:N<=1000:=hl
 obtain⟨aO,aS,hs2,hB⟩:=Y6 w #[.slice none 0 0,.slice none 0 0] #[.slice none 0 0,.slice none 0 0] 36 36 _ rfl
 obtain⟨w2,hw2⟩:∃ w2,w2=(w.alloc (.cells #[.slice none 0 0,.slice none 0 0] 36)).alloc (.cells #[.slice none 0 0,.slice none 0 0] 36):=⟨_,rfl⟩
 rw[<-hw2] at aO aS hs2 hB
 have iS:(Tryz.prog.info? 36).map (·.size)=some 2:=kX
 have iZ:(Tryz.prog.info? 36).map (·.size)=some (#[.slice none 0 0,.slice none 0 0]:Array Value).size:=kX
 have i78:(Tryz.prog.info? 54).map (·.size)=some 78:=kX
 have z78:(Tryz.zeroCells54).size=78:=kX
 have hpost:Hid (∀ (n:Nat) (v:Value) W,Below w.heap.size w W->Z6 ⟨[],[]⟩ n w (.returned (.tuple #[.agg #[.slice none 0 0,.slice none 0 0],.int .i64 (n:Int)])) W):=Hd (λn v W h2=>⟨_,rfl,ZT W,h2,Z9 _⟩)
 replace hA:=Hd hA
 replace hFM:=Hd hFM
 replace hN:=Hd hN
 replace hw2:=Hd hw2
 replace aO:=Hd aO
 replace aS:=Hd aS
 replace hB:=Hd hB
 replace hs2:=Hd hs2
 replace h5:=Hd h5
 clear hl
 go_enter Tryz.func9,Tryz.ntmps9
 go_wp2_with ((with_reducible refine wL (.store 36 (.tmp 4) _) ?_);rw[<-hw2.out];(refine Zc rfl 36 (.tmp 4) (.tmp 9) rfl (w.heap.size+1) #[.slice none 0 0,.slice none 0 0] #[.slice none 0 0,.slice none 0 0] rfl rfl aS iZ rfl (by simp[Value.oneCell']) ?_);intro w2b hU2;have aO2:=Hd ((hU2.out.block _ oX).trans aO.out);have aS2:=Hd hU2.out.here;have hB2:=Hd (hB.out.trans (hU2.out.below oX));have hs2b:=Hd (hU2.out.size.trans hs2.out))
 skip
 generalize w2b=wS at*
 clear aO aS hB hs2 hw2
 have aO:=aO2
 have aS:=aS2
 have hB:=hB2
 have hs2:=hs2b
 clear aO2 aS2 hB2 hs2b hU2
 refine Qf [(false,6),(true,3),(false,3),(true,24),(false,1)] _ [] (λU wr=>∃ (k:Nat) (m:St) (C:Array Value),k<=N/\U 12=.int .i64 (k:Nat)/\Below w.heap.size w wr/\wr.heap[w.heap.size]? = some (.cells #[.slice none 0 0,.slice none 0 0] 36 (0,0))/\wr.heap[w.heap.size+1]? = some (.cells C 36 (0,0))/\ArgS wr (.agg C) m/\FreshS (w.heap.size+2) (.agg C)/\ZH ⟨[],[]⟩ (bs.take k)=(m,0)) (λU _=>N-(intOf (U 12)).toNat) ?_ ?_
 ·simp only[List.getD_cons_zero,List.getD_cons_succ]
  exact⟨0,⟨[],[]⟩,_,Nat.zero_le _,rfl,hB.out,aO.out,aS.out,ZT _,Z9 _,rfl⟩
 ·clear aO aS hB
  intro U wr hrel KK hback l' hl'
  obtain⟨k,m,C,hk,hU0,hbw,bO,bS,hm,hfr,hrep⟩:=hrel
  simp only[Qq,Qk,cond_true,cond_false,Nat.reduceAdd,hU0] at hl'
  subst hl'
  have hsb:SB k m:=by
   have:=Va (bs.take k) 0 ⟨[],[]⟩ (Qs 0)
   rw[hrep] at this
   exact this.mono sY
  have hC2:C.size=2:=by
   obtain⟨a,c,a',c',e,_⟩:=hm.form
   cases e
   rfl
  have h1C:C.all (·.oneCell')=true:=by
   obtain⟨a,c,a',c',e,_⟩:=hm.form
   cases e
   simp[Value.oneCell']
  have iC:(Tryz.prog.info? 36).map (·.size)=some C.size:=by rw[hC2];exact iS
  have hszw:=hbw.size
  replace hU0:=Hd hU0
  replace hbw:=Hd hbw
  replace bO:=Hd bO
  replace bS:=Hd bS
  replace hm:=Hd hm
  replace hfr:=Hd hfr
  replace hrep:=Hd hrep
  replace hsb:=Hd hsb
  by_cases hlt:k<N
  ·have hlt2:(k:Int)<(N:Int):=oX
   have hkN:k<bs.length:=by rw[<-hN.out];exact hlt
   obtain⟨b1,o1,rfl,ai,ci,hce,hAi⟩:=(hA.out.below hbw.out).row k hkN
   have hmem:bs.getD k []∈bs:=by rw[List.getD_eq_getElem?_getD,List.getElem?_eq_getElem hkN];exact List.getElem_mem hkN
   have hb5:=h5.out _ hmem
   have htk:bs.take (k+1)=bs.take k++[bs.getD k []]:=by rw[List.take_add_one,List.getD_eq_getElem?_getD,List.getElem?_eq_getElem hkN];rfl
   have hdrop:bs.drop k=bs.getD k []::bs.drop (k+1):=by rw[List.getD_eq_getElem?_getD,List.getElem?_eq_getElem hkN,List.drop_eq_getElem_cons hkN];rfl
   have hfull:FM=ZH m (bs.drop k):=by rw[hFM.out,JS bs ⟨[],[]⟩ k oX (by rw[hrep.out]),hrep.out]
   rw[hdrop,YF] at hfull
   have hsnoc:=UN ⟨[],[]⟩ (bs.take k) (bs.getD k []) (by rw[hrep.out])
   rw[<-htk,hrep.out] at hsnoc
   clear hdrop htk hmem
   generalize bs.getD k []=b at*
   obtain⟨hyo,hy0,hy20,hpG,hpR⟩:=NQ hb5
   have hst:YU m b=if (prs b).2≠0 then (⟨[],[]⟩,(prs b).2) else if (Zw m (prs b).1).2≠0 then (⟨[],[]⟩,(Zw m (prs b).1).2) else Zw m (prs b).1:=rfl
   have hcall:=hpR ai ci wr hAi;unfold QV at hcall;replace hcall:=Hd hcall
   have hfol:=Hd (λ(W:World) (vm:Value) (hv:ArgS W vm m) (hch:(prs b).1.chk=0)=>NY vm m (prs b).1 hyo W hv (by have:=hsb.out.its;omega) (by have:=hsb.out.ens;omega) (λy hy=>by have:=hsb.out.us y hy;omega) hch)
   have hRs:(prs b).1.list.toArray.size=78:=Rc.size hyo
   have hR1:=Rc.all_one (prs b).1
   have iR:(Tryz.prog.info? 54).map (·.size)=some (prs b).1.list.toArray.size:=by rw[hRs];exact i78
   have zR:(Tryz.zeroCells54).size=(prs b).1.list.toArray.size:=by rw[hRs];exact z78
   obtain⟨L,hL⟩:∃ L,L=b.length:=⟨_,rfl⟩
   rw[<-hL] at hcall hce
   replace hL:=Hd hL
   clear hpG hpR hAi hRs
   obtain⟨FF,hFF⟩:∃ FF,FF=Zw m (prs b).1:=⟨_,rfl⟩
   rw[<-hFF] at hfol hst
   replace hFF:=Hd hFF
   generalize hPA:(prs b).1.list.toArray=PA at*
   generalize (prs b).2=PN at*
   replace hPA:=Hd hPA
   replace hst:=Hd hst
   replace hfull:=Hd hfull
   replace hsnoc:=Hd hsnoc
   replace hyo:=Hd hyo
   replace hy0:=Hd hy0
   go_wp2_with fail
   with_reducible refine hcall.out.mono ?_
   clear hcall
   rintro e w3 ⟨rfl,hb3⟩
   clear hce
   replace bO:=Hd ((hb3.block _ (Zb bO.out)).trans bO.out)
   replace bS:=Hd ((hb3.block _ (Zb bS.out)).trans bS.out)
   replace hm:=Hd (hm.out.below hb3 nR)
   have hbw3:=Hd (hbw.out.trans (hb3.mono hszw))
   have hsz3:=hbw3.out.size
   have hZ3:=Hd (heap_alloc_new w3 (.cells Tryz.zeroCells54 54))
   clear hb3
   by_cases hn0:PN=0
   rotate_left
   ·have hne:((PN:Int) != 0)=true:=by simpa using hn0
    replace hfull:=hfull.out
    rw[hst.out,if_pos hn0,if_pos hn0] at hfull
    have hfull:=Hd hfull
    skip
    clear hfol hback
    go_wp2_with (first
     | ((with_reducible refine wL (.store 54 (.tmp 7) _) ?_);(refine Zc rfl 54 (.tmp 7) (.tmp 19) rfl w3.heap.size _ PA rfl rfl hZ3 iR zR hR1 ?_);intro w4 hU4;have hb4:Below w3.heap.size w3 w4:=(Below.alloc (Below.refl w3.heap.size w3) nR _).trans (hU4.out.below nR);have aR4:=Hd hU4.out.here;have bO4:=Hd ((hb4.block _ (Zb bO.out)).trans bO.out);have bS4:=Hd ((hb4.block _ (Zb bS.out)).trans bS.out);have hm4:=Hd (hm.out.below hb4 nR);have hbw4:=Hd (hbw3.out.trans (hb4.mono hsz3));have hsz4:=hbw4.out.size)
     | ((with_reducible refine wL (.store 36 (.tmp 2) _) ?_);(refine Zc rfl 36 (.tmp 2) (.tmp 23) rfl w.heap.size #[.slice none 0 0,.slice none 0 0] #[.slice none 0 0,.slice none 0 0] rfl rfl bO4 iZ rfl (by simp[Value.oneCell']) ?_);intro w9 hU9;have hS:=Hd (hbw4.out.trans (hU9.out.below nR));have hres:=Hd hU9.out.here))
    refine Zf rfl rfl Tryz.underlying36 rfl kX hres.out ?_
    show Z6 FM.1 FM.2 w _ _
    rw[hfull.out]
    exact hpost.out PN default _ hS.out
   obtain⟨hch,hout⟩:=hy0.out hn0
   subst hn0
   skip
   rw[if_neg dX] at hst
   go_wp2_with (first
    | ((with_reducible refine wL (.store 54 (.tmp 7) _) ?_);(refine Zc rfl 54 (.tmp 7) (.tmp 19) rfl w3.heap.size _ PA rfl rfl hZ3 iR zR hR1 ?_);intro w4 hU4;have hb4:Below w3.heap.size w3 w4:=(Below.alloc (Below.refl w3.heap.size w3) nR _).trans (hU4.out.below nR);have aR4:=Hd hU4.out.here;have bO4:=Hd ((hb4.block _ (Zb bO.out)).trans bO.out);have bS4:=Hd ((hb4.block _ (Zb bS.out)).trans bS.out);have hm4:=Hd (hm.out.below hb4 nR);have hbw4:=Hd (hbw3.out.trans (hb4.mono hsz3));have hsz4:=hbw4.out.size)
    | ((with_reducible refine wL (.load 36 (.tmp 4)) ?_);refine Ze rfl 36 (.tmp 4) rfl (w.heap.size+1) C _ rfl bS4 Tryz.underlying36 rfl iC ?_)
    | ((with_reducible refine wL (.load 54 (.tmp 7)) ?_);refine Ze rfl 54 (.tmp 7) rfl w3.heap.size PA _ rfl aR4 Tryz.underlying54 rfl iR ?_))
   with_reducible refine(hfol.out _ _ hm4.out hch).mono ?_
   clear hfol
   rintro e w5 ⟨vm,rfl,hm5,hb5,hf5⟩
   obtain⟨C5,rfl⟩:∃ C5,vm=.agg C5:=by
    obtain⟨a,c,a',c',e,_⟩:=hm5.form
    exact⟨_,e⟩
   have hC5:C.size=C5.size:=by
    obtain⟨a,c,a',c',e,_⟩:=hm5.form
    cases e
    exact hC2
   have h1C5:C5.all (·.oneCell')=true:=by
    obtain⟨a,c,a',c',e,_⟩:=hm5.form
    cases e
    simp[Value.oneCell']
   have iC5:(Tryz.prog.info? 36).map (·.size)=some C5.size:=by rw[<-hC5];exact iC
   have bO5:=Hd ((hb5.block _ (Zb bO4.out)).trans bO4.out)
   have bS5:=Hd ((hb5.block _ (Zb bS4.out)).trans bS4.out)
   have hbw5:=Hd (hbw4.out.trans (hb5.mono hsz4))
   have hlt1:=Zb bS4.out
   have hf5':=Hd (hf5.mono (B':=w.heap.size+2) oX)
   replace hm5:=Hd hm5
   clear hb5 hf5
   by_cases hn1:FF.2=0
   rotate_left
   ·have hne:((FF.2:Int) != 0)=true:=by simpa using hn1
    replace hfull:=hfull.out
    rw[hst.out,if_pos hn1,if_pos hn1] at hfull
    have hfull:=Hd hfull
    skip
    clear hback
    go_wp2_with (first
     | ((with_reducible refine wL (.store 36 (.tmp 4) _) ?_);(refine Zc rfl 36 (.tmp 4) (.tmp 29) rfl (w.heap.size+1) _ C5 rfl rfl bS5 iC5 hC5 h1C5 ?_);intro w6 hU6;have hbw6:=Hd (hbw5.out.trans (hU6.out.below oX));have bO6:=Hd ((hU6.out.block _ oX).trans bO5.out);have bS6:=Hd hU6.out.here;have hm6:=Hd (hm5.out.upd hf5'.out hU6.out oX))
     | ((with_reducible refine wL (.store 36 (.tmp 2) _) ?_);(refine Zc rfl 36 (.tmp 2) (.tmp 33) rfl w.heap.size #[.slice none 0 0,.slice none 0 0] #[.slice none 0 0,.slice none 0 0] rfl rfl bO6 iZ rfl (by simp[Value.oneCell']) ?_);intro w9 hU9;have hS:=Hd (hbw6.out.trans (hU9.out.below nR));have hres:=Hd hU9.out.here))
    refine Zf rfl rfl Tryz.underlying36 rfl kX hres.out ?_
    show Z6 FM.1 FM.2 w _ _
    rw[hfull.out]
    exact hpost.out FF.2 default _ hS.out
   rw[if_neg (by simpa using hn1)] at hst
   have hn1i:((FF.2:Int) != 0)=false:=by rw[hn1];rfl
   rw[hst.out,if_neg (by simpa using hn1)] at hsnoc
   replace hsnoc:=Hd hsnoc.out
   replace hn1:=Hd hn1
   clear hfull
   go_wp2_with ((with_reducible refine wL (.store 36 (.tmp 4) _) ?_);(refine Zc rfl 36 (.tmp 4) (.tmp 29) rfl (w.heap.size+1) _ C5 rfl rfl bS5 iC5 hC5 h1C5 ?_);intro w6 hU6;have hbw6:=Hd (hbw5.out.trans (hU6.out.below oX));have bO6:=Hd ((hU6.out.block _ oX).trans bO5.out);have bS6:=Hd hU6.out.here;have hm6:=Hd (hm5.out.upd hf5'.out hU6.out oX))
   refine hback.out _ _ kX ?_ ?_
   ·simp only[List.getD_cons_zero,List.getD_cons_succ]
    exact⟨k+1,FF.1,C5,oX,by go_num,hbw6.out,bO6.out,bS6.out,hm6.out,hf5'.out,hsnoc.out⟩
   ·have hU0:=hU0.out
    simp only[List.getD_cons_zero,List.getD_cons_succ,hU0,intOf]
    omega
  ·obtain rfl:k=N:=oX
   have hfull:=Hd (show FM=(m,0) by rw[hFM.out,<-hrep.out,hN.out,List.take_length])
   clear hback
   have hCz:(#[.slice none 0 0,.slice none 0 0]:Array Value).size=C.size:=by rw[hC2];rfl
   go_wp2_with (first
    | ((with_reducible refine wL (.load 36 (.tmp 4)) ?_);refine Ze rfl 36 (.tmp 4) rfl (w.heap.size+1) C _ rfl bS Tryz.underlying36 rfl iC ?_)
    | ((with_reducible refine wL (.store 36 (.tmp 2) _) ?_);(refine Zc rfl 36 (.tmp 2) (.tmp 36) rfl w.heap.size _ C rfl rfl bO iC hCz h1C ?_);intro w9 hU9;have hS:=Hd (hbw.out.trans (hU9.out.below nR));have hres:=Hd hU9.out.here))
   refine Zf rfl rfl Tryz.underlying36 rfl iC hres.out ?_
   show Z6 FM.1 FM.2 w _ _
   rw[hfull.out]
   exact⟨_,rfl,hm.out.upd hfr.out hU9.out oX,hS.out,hfr.out.mono oX⟩
theorem It.lits_inj{x y:It}(hx:x.root.length=32)(hx2:x.file.length=32)(hy:y.root.length=32)(hy2:y.file.length=32)(h:x.lits=y.lits):x=y:=by
 unfold It.lits at h
 obtain⟨h1,h2⟩:=List.append_inj h rfl
 obtain⟨h3,h4⟩:=List.append_inj h2 rfl
 obtain⟨h5,h6⟩:=List.append_inj h4 (by simp[Q4,hx,hy])
 obtain⟨h7,h8⟩:=List.append_inj h6 (by simp[Q4,hx2,hy2])
 simp only[List.cons.injEq,Lit.string.injEq,Lit.int.injEq,Lit.bool.injEq,true_and,and_true] at h1 h8
 obtain⟨a1,a2⟩:=h1
 obtain⟨b1,b2,b3,b4⟩:=h8
 have e1:=JP a2
 have e2:=P6.lits_inj h3
 have e3:=Je h5
 have e4:=Je h7
 cases x;cases y
 simp only at*
 subst e1 e2 e3 e4 a1 b1 b2 b3 b4
 rfl
theorem En.lits_inj{x y:En}(h:x.lits=y.lits):x=y:=by
 cases x;cases y
 simpa[En.lits] using h
section
variable {P:Program}
theorem TI{t ts tp td tb i64:TypeId}{fs:Array Field}(ht:P.underlying t=some (.struct fs))(hq:fs.toList.map (λf=>(f.type,f.offset))=[(i64,0),(ts,1),(tp,2),(td,8),(td,40),(i64,72),(tb,73),(i64,74),(i64,75)])(hn:fs.all (·.name != "_")=true)
  (hi:P.underlying i64=some (.int .i64)) (hs:P.underlying ts=some .string) (hb:P.underlying tb=some .bool) (hp:∀ p:P6,p.Ok->∀ d,P.keyLits (d+2) tp p.list=some p.lits) (hd:∀ f:List UInt8,f.length=32->∀ d,P.keyLits (d+2) td (cB f)=some (Q4 f))
  (ci:P.cellsOf i64=1) (cs:P.cellsOf ts=1) (cb:P.cellsOf tb=1) (cp:P.cellsOf tp=6) (cd:P.cellsOf td=32) (ct:P.cellsOf t=76) (x:It) (h:x.Ok) (d:Nat):P.keyLits (d+3) t x.list=some x.lits:=by
 have s1:∀ {o:Nat} {v:Value},x.list[o]? = some v->(x.list.drop o).take 1=[v]:=fun {o v} hv=>by
  have hlt:=(List.getElem?_eq_some_iff.1 hv).1
  rw[List.drop_eq_getElem_cons hlt]
  rw[List.getElem?_eq_getElem hlt,Option.some.injEq] at hv
  rw[hv];rfl
 have e1:∀ n:Int,inI n->P.keyLits (d+2) i64 [.int .i64 n]=some [.int .i64 n]:=λn h=>Xt hi (K9 h)
 have e:=Jt (d:=d+2) (cs:=x.list) (ls:=[[.int .i64 x.n],[.string x.s.data.toList],x.p.lits,Q4 x.root,Q4 x.file,[.int .i64 x.t],[.bool x.k],[.int .i64 x.u],[.int .i64 x.r]]) ht hq hn (by rw[ct,It.list_length h]) (by
  simp only[List.mapM_cons,List.mapM_nil,ci,cs,cb,cp,cd,s1 x.c0,s1 x.c1,s1 (It.c72 h),s1 (It.c73 h),s1 (It.c74 h),s1 (It.c75 h),It.sub_p,It.sub_root h,It.sub_file h,hp x.p h.p d,hd x.root h.root d,hd x.file h.file d,UL hs h.s,Mv hb,e1 _ h.n,e1 _ h.t,e1 _ h.u,e1 _ h.r,Option.bind_eq_bind,Option.bind_some,Option.pure_def])
 rw[e]
 simp[It.lits]
theorem TK{t i64:TypeId}{fs:Array Field}(ht:P.underlying t=some (.struct fs))(hq:fs.toList.map (λf=>(f.type,f.offset))=[(i64,0),(i64,1),(i64,2),(i64,3),(i64,4),(i64,5),(i64,6)])(hn:fs.all (·.name != "_")=true)(hi:P.underlying i64=some (.int .i64))(ci:P.cellsOf i64=1)(ct:P.cellsOf t=7)
  (x:En) (hp:x.Ok) (d:Nat):P.keyLits (d+2) t x.list=some x.lits:=by
 obtain⟨h1,h2,h3,h4,h5,h6,h7⟩:=hp
 have e:=λ(n:Int) (h:inI n)=>Xt (d:=d) hi (K9 h)
 refine Jt (ls:=[[.int .i64 x.id],[.int .i64 x.o],[.int .i64 x.w],[.int .i64 x.i],[.int .i64 x.t],[.int .i64 x.v],[.int .i64 x.a]]) ht hq hn (by rw[ct];rfl) ?_
 simp only[List.mapM_cons,List.mapM_nil,ci,En.list,List.drop_zero,List.drop_succ_cons,List.take_succ_cons,List.take_zero,e _ h1,e _ h2,e _ h3,e _ h4,e _ h5,e _ h6,e _ h7,Option.bind_eq_bind,Option.bind_some,Option.pure_def]
end
theorem Nm(x:It)(h:x.Ok)(d:Nat):Tryz.prog.keyLits (d+3) 63 x.list=some x.lits:=TI Tryz.underlying63 rfl kX Tryz.underlying3 Tryz.underlying9 Tryz.underlying4 Un Km kX kX kX kX kX kX x h d
theorem Nr(x:En)(h:x.Ok)(d:Nat):Tryz.prog.keyLits (d+2) 105 x.list=some x.lits:=TK Tryz.underlying105 rfl kX Tryz.underlying3 kX kX x h d
theorem Lp(x y:It)(hx:x.Ok)(hy:y.Ok)(w:World):(binOp .neq 63 (.agg x.list.toArray) (.agg y.list.toArray)).run Tryz.prog w=.ok (.bool (!decide (x=y))) w:=by
 obtain⟨r,h1,h2,h3⟩:=Vj (P:=Tryz.prog) (w:=w) (xs:=x.list.toArray) (ys:=y.list.toArray) (t:=63) kX (Nm x hx 3) (Nm y hy 3) (Q6 (xs:=x.list.toArray) Tryz.underlying63 rfl (by rw[It.size hx];kernel_rfl)) (Q6 (xs:=y.list.toArray) Tryz.underlying63 rfl (by rw[It.size hy];kernel_rfl))
 have:r=decide (x=y):=by rw[Bool.eq_iff_iff,h1,decide_eq_true_iff];exact⟨It.lits_inj hx.root hx.file hy.root hy.file,λe=>by rw[e]⟩
 rw[h3,this]
theorem Lj(x y:En)(hx:x.Ok)(hy:y.Ok)(w:World):(binOp .neq 105 (.agg x.list.toArray) (.agg y.list.toArray)).run Tryz.prog w=.ok (.bool (!decide (x=y))) w:=by
 obtain⟨r,h1,h2,h3⟩:=Vj (P:=Tryz.prog) (w:=w) (xs:=x.list.toArray) (ys:=y.list.toArray) (t:=105) kX (Nr x hx 4) (Nr y hy 4) (Q6 (xs:=x.list.toArray) Tryz.underlying105 rfl kX) (Q6 (xs:=y.list.toArray) Tryz.underlying105 rfl kX)
 have:r=decide (x=y):=by rw[Bool.eq_iff_iff,h1,decide_eq_true_iff];exact⟨En.lits_inj,λe=>by rw[e]⟩
 rw[h3,this]
end Go.Proofs.YtpdhceiodgnbmaaGreatDoor
