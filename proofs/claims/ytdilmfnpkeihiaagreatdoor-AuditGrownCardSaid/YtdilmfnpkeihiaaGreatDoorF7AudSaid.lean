import Derived.Test.YtdilmfnpkeihiaaGreatDoorF0AudSaid
import Derived.Test.YtdilmfnpkeihiaaGreatDoorF2AudSaid
import Derived.Test.YtdilmfnpkeihiaaGreatDoorF5AudSaid
import Derived.Test.YtdilmfnpkeihiaaGreatDoorF6AudSaid
set_option linter.unusedVariables false
set_option linter.unusedSimpArgs false
set_option linter.unnecessarySimpa false
set_option maxRecDepth 100000
set_option maxHeartbeats 8000000
namespace Go.Proofs.YtdilmfnpkeihiaaGreatDoor
open Go.RowKit
def Qr(x y:Nm):Bool:=decide ({ x with k:=x.k || y.k }=y)
def Yc(x y:Vd):Bool:=decide ((if x.v=0 then { x with v:=y.v } else x)=y)
def QJ{α:Type}[Inhabited α](f:α->α->Bool)(xs ys:List α):Bool:=(List.range xs.length).all λi=>f (xs.getD i default) (ys.getD i default)
def Qs(a b:Md):Bool:=decide (a.ns.length<=b.ns.length)&&decide (a.vs.length<=b.vs.length)&&QJ Qr a.ns b.ns&&QJ Yc a.vs b.vs
theorem Je{α:Type}[Inhabited α]{f:α->α->Bool}{xs ys:List α}(h:∀ i,i<xs.length->f (xs.getD i default) (ys.getD i default)=true):QJ f xs ys=true:=by
 unfold QJ
 rw[List.all_eq_true]
 exact λi hi=>h i (by simpa using hi)
theorem Yv{α:Type}[Inhabited α]{f:α->α->Bool}{xs ys:List α}{i:Nat}(hi:i<xs.length)(h:f (xs.getD i default) (ys.getD i default)=false):QJ f xs ys=false:=by
 unfold QJ
 rw[Bool.eq_false_iff]
 intro hc
 rw[List.all_eq_true] at hc
 rw[hc i (by simpa using hi)] at h
 cases h
theorem YK{α:Type}{l:List α}{k:Nat}(d:α)(h:k<l.length):l[k]=l.getD k d:=by simp[List.getD_eq_getElem?_getD,h]
theorem Nm.set39{x:Nm}(h:x.f.length=32)(b:Bool):x.list.toArray.setIfInBounds 39 (.bool b)=({ x with k:=b }:Nm).list.toArray:=by
 have hl:([.string x.s]++x.p.list++cB x.f:List Value).length=39:=by simp[P6.list_length,Zc,h]
 have e:∀ b,({ x with k:=b }:Nm).list=([.string x.s]++x.p.list++cB x.f)++[.bool b]:=λb=>by simp[Nm.list]
 have e0:x.list=([.string x.s]++x.p.list++cB x.f)++[.bool x.k]:=by simp[Nm.list]
 rw[e b,e0,List.setIfInBounds_toArray,List.set_append_right _ _ oX,hl]
 rfl
theorem Z1{w:World}{x:Addr}{v:Value}(h:w.cell? x=some v)(o:Obj):(w.alloc o).cell? x=some v:=
 (((Below.refl w.heap.size w).alloc nR o).cell (World.block_lt_of_cell? w _ h)).trans h
def zNm:Array Value:=(⟨ByteArray.empty,⟨0,0,0,0,0,0⟩,List.replicate 32 0,false⟩:Nm).list.toArray
theorem V4(w:World):(zeroValue 41).run Tryz.prog w=.ok (.agg zNm) w:=kX
theorem Yn:zNm.size=40:=kX
theorem UG:zNm≠#[]:=λe=>by have:=Yn;rw[e] at this;cases this
theorem Nm.size{x:Nm}(h:x.f.length=32):x.list.toArray.size=40:=by rw[List.size_toArray,Nm.list_length h]
theorem QR:(Tryz.prog.info? 41).map (·.size)=some 40:=kX
theorem YB(va vb:Value)(a b:Md)(w:World)(ha:ArgM w va a)(hb:ArgM w vb b) :
  Calls Tryz.prog 6 #[va,vb] w λx w'=>x=.returned (.bool (Qs a b))/\Below w.heap.size w w':=by
 obtain⟨⟨an,cn,av,cv,rfl,hN,hN1,hN2,hV,hV1,hV2⟩,okN,okV⟩:=ha
 obtain⟨⟨bn,dn,bv,dv,rfl,hM,hM1,hM2,hU,hU1,hU2⟩,okM,okU⟩:=hb
 have zr:=V4
 have zn:=UG
 have huN:Tryz.prog.underlying 41=_:=Tryz.underlying41
 obtain⟨q,hq⟩:∃ q,q=Qs a b:=⟨_,rfl⟩
 rw[<-hq]
 obtain⟨N,hNl⟩:∃ N,N=a.ns.length:=⟨_,rfl⟩
 obtain⟨V,hVl⟩:∃ V,V=a.vs.length:=⟨_,rfl⟩
 obtain⟨M,hMl⟩:∃ M,M=b.ns.length:=⟨_,rfl⟩
 obtain⟨Z,hZl⟩:∃ Z,Z=b.vs.length:=⟨_,rfl⟩
 have m1:N<=9223372036854775807:=by unfold maxLen at *;omega
 have m2:V<=9223372036854775807:=by unfold maxLen at *;omega
 have m3:M<=9223372036854775807:=by unfold maxLen at *;omega
 have m4:Z<=9223372036854775807:=by unfold maxLen at *;omega
 rw[<-hNl,<-hVl,<-hMl,<-hZl]
 clear hN1 hN2 hV1 hV2 hM1 hM2 hU1 hU2
 replace hq:=Hd hq
 replace hN:=Hd hN
 replace hV:=Hd hV
 replace hM:=Hd hM
 replace hU:=Hd hU
 replace okN:=Hd okN
 replace okV:=Hd okV
 replace okM:=Hd okM
 replace okU:=Hd okU
 replace hNl:=Hd hNl
 replace hVl:=Hd hVl
 replace hMl:=Hd hMl
 replace hZl:=Hd hZl
 by_cases h1:M<N
 ·have i1:(M:Int)<(N:Int):=oX
  have hq0:q=false:=by
   rw[hq.out,Qs,decide_eq_false (by rw[<-hNl.out,<-hMl.out];omega)]
   rfl
  subst hq0
  clear hq
  go_enter Tryz.func6,Tryz.ntmps6
  go_wp2_with fail
  go_ret
  exact⟨rfl,(bR.alloc nR _).alloc sX _⟩
 ·have i1:¬((M:Int)<(N:Int)):=oX
  by_cases h2:Z<V
  ·have i2:(Z:Int)<(V:Int):=oX
   have hq0:q=false:=by
    rw[hq.out,Qs,decide_eq_false (p:=a.vs.length<=b.vs.length) (by rw[<-hVl.out,<-hZl.out];omega)]
    simp
   subst hq0
   clear hq
   go_enter Tryz.func6,Tryz.ntmps6
   go_wp2_with fail
   go_ret
   exact⟨rfl,(bR.alloc nR _).alloc sX _⟩
  ·have i2:¬((Z:Int)<(V:Int)):=oX
   have hq1:q=(QJ Qr a.ns b.ns&&QJ Yc a.vs b.vs):=by
    rw[hq.out,Qs,decide_eq_true (p:=a.vs.length<=b.vs.length) (by rw[<-hVl.out,<-hZl.out];omega),decide_eq_true (p:=a.ns.length<=b.ns.length) (by rw[<-hNl.out,<-hMl.out];omega)]
    simp
   replace hq1:=Hd hq1
   clear hq
   have hB:Below w.heap.size w ((w.alloc (.cells #[.slice an N cn,.slice av V cv] 25)).alloc (.cells #[.slice bn M dn,.slice bv Z dv] 25)):=(bR.alloc nR _).alloc sX _
   obtain⟨w2,hw2⟩:∃ w2,w2=(w.alloc (.cells #[.slice an N cn,.slice av V cv] 25)).alloc (.cells #[.slice bn M dn,.slice bv Z dv] 25):=⟨_,rfl⟩
   have e20:w2.cell? ⟨w.heap.size,0,none⟩=some (.slice an N cn):=by rw[hw2];exact Z1 (Za (heap_alloc_new w _) 0) _
   have e21:w2.cell? ⟨w.heap.size,1,none⟩=some (.slice av V cv):=by rw[hw2];exact Z1 (Za (heap_alloc_new w _) 1) _
   have e30:w2.cell? ⟨w.heap.size+1,0,none⟩=some (.slice bn M dn):=by rw[hw2];rw[show w.heap.size+1=(w.alloc (.cells #[.slice an N cn,.slice av V cv] 25)).heap.size by simp];exact Za (heap_alloc_new (w.alloc (.cells #[.slice an N cn,.slice av V cv] 25)) (.cells #[.slice bn M dn,.slice bv Z dv] 25 (0,0))) 0
   have e31:w2.cell? ⟨w.heap.size+1,1,none⟩=some (.slice bv Z dv):=by rw[hw2];rw[show w.heap.size+1=(w.alloc (.cells #[.slice an N cn,.slice av V cv] 25)).heap.size by simp];exact Za (heap_alloc_new (w.alloc (.cells #[.slice an N cn,.slice av V cv] 25)) (.cells #[.slice bn M dn,.slice bv Z dv] 25 (0,0))) 1
   rw[<-hw2] at hB
   have hN:=Hd (hN.out.below hB nR)
   have hV:=Hd (hV.out.below hB nR)
   have hM:=Hd (hM.out.below hB nR)
   have hU:=Hd (hU.out.below hB nR)
   replace hB:=Hd hB
   obtain⟨n0,hn0⟩:∃ n0,n0=w.heap.size:=⟨_,rfl⟩
   replace hw2:=Hd hw2
   go_enter Tryz.func6,Tryz.ntmps6
   go_wp2_with fail
   rw[<-hw2.out]
   rw[<-hn0] at e20 e21 e30 e31 ⊢
   replace hn0:=Hd hn0
   clear hw2
   refine ZA [(false,4),(true,4),(false,22),(true,21),(false,23)] _ [] (λU wr=>∃ k:Nat,k<=N/\U 30=.int .i64 (k:Nat)/\Below w2.heap.size w2 wr/\∀ i,i<k->Qr (a.ns.getD i default) (b.ns.getD i default)=true) (λU _=>N-(intOf (U 30)).toNat) ?_ ?_
   ·simp only[List.getD_cons_zero,List.getD_cons_succ]
    exact⟨0,Nat.zero_le _,rfl,Below.refl _ _,λi hi=>absurd hi (Nat.not_lt_zero _)⟩
   ·intro U wr hrel KK hback l' hl'
    obtain⟨k,hk,h30,hbw,hle⟩:=hrel
    simp only[ZD,Z6,cond_true,cond_false,Nat.reduceAdd,h30] at hl'
    subst hl'
    replace h30:=Hd h30
    have f30:=(hbw.cell (World.block_lt_of_cell? w2 _ e30)).trans e30
    have f21:=(hbw.cell (World.block_lt_of_cell? w2 _ e21)).trans e21
    have f31:=(hbw.cell (World.block_lt_of_cell? w2 _ e31)).trans e31
    replace hle:=Hd hle
    by_cases hlt:k<N
    ·have hlt2:(k:Int)<(N:Int):=oX
     have hlm:k<M:=oX
     have hlm2:(k:Int)<(M:Int):=oX
     have hkN:k<a.ns.length:=by rw[<-hNl.out];exact hlt
     have hkM:k<b.ns.length:=by rw[<-hMl.out];exact hlm
     obtain⟨b1,o1,rfl,hr1⟩:=hN.out.below hbw nR k hkN
     obtain⟨b2,o2,rfl,hr2⟩:=hM.out.below hbw nR k hkM
     have ox:=okN.out _ (List.getElem_mem hkN)
     have oy:=okM.out _ (List.getElem_mem hkM)
     rw[YK default hkN] at hr1 ox
     rw[YK default hkM] at hr2 oy
     have hgn:Qr (a.ns.getD k default) (b.ns.getD k default)=Qr (a.ns.getD k default) (b.ns.getD k default):=rfl
     generalize hx:a.ns.getD k default=x at*
     generalize hy:b.ns.getD k default=y at*
     obtain⟨X,hX⟩:∃ X,X=x.list.toArray:=⟨_,rfl⟩
     obtain⟨Y,hY⟩:∃ Y,Y=y.list.toArray:=⟨_,rfl⟩
     have hXs:X.size=40:=by rw[hX,Nm.size ox.f]
     have hYs:Y.size=40:=by rw[hY,Nm.size oy.f]
     have hX1:X.all (·.oneCell')=true:=by rw[hX];exact x.all_one
     have hY1:Y.all (·.oneCell')=true:=by rw[hY];exact y.all_one
     have iX:(Tryz.prog.info? 41).map (·.size)=some X.size:=by rw[hXs];exact QR
     have iY:(Tryz.prog.info? 41).map (·.size)=some Y.size:=by rw[hYs];exact QR
     have ix:(Tryz.prog.info? 41).map (·.size)=some x.list.length:=by rw[Nm.list_length ox.f];exact QR
     have iy:(Tryz.prog.info? 41).map (·.size)=some y.list.length:=by rw[Nm.list_length oy.f];exact QR
     have zX:zNm.size=X.size:=by rw[hXs];exact Yn
     have zY:zNm.size=Y.size:=by rw[hYs];exact Yn
     replace hr1:=Hd hr1
     replace hr2:=Hd hr2
     replace hX:=Hd hX
     replace hY:=Hd hY
     replace hx:=Hd hx
     replace hy:=Hd hy
     have hz1:Hid ((wr.alloc (.cells zNm 41)).heap[wr.heap.size]? = some (.cells zNm 41 (0,0))):=heap_alloc_new wr (.cells zNm 41 (0,0))
     clear hgn
     obtain⟨kb,hkb⟩:∃ kb,kb=(x.k || y.k):=⟨_,rfl⟩
     obtain⟨X',hX'⟩:∃ X',X'=({ x with k:=kb }:Nm).list.toArray:=⟨_,rfl⟩
     have hX's:X'.size=40:=by rw[hX'];exact Nm.size (x:={ x with k:=kb }) ox.f
     have iX':(Tryz.prog.info? 41).map (·.size)=some X'.size:=by rw[hX's];exact QR
     have hXc:X[39]? = some (.bool x.k):=by rw[hX.out];simpa using Nm.c39 ox.f
     have hYc:Y[39]? = some (.bool y.k):=by rw[hY.out];simpa using Nm.c39 oy.f
     have hXX:X.setIfInBounds 39 (.bool kb)=X':=by rw[hX.out,hX',Nm.set39 ox.f]
     have hgr:Qr x y=decide (({ x with k:=kb }:Nm)=y):=by rw[hkb];rfl
     have hneq:∀ W,(binOp .neq 41 (.agg X') (.agg Y)).run Tryz.prog W=.ok (.bool (!Qr x y)) W:=λW=>by
      rw[hX',hY.out,hgr]
      exact(GL { x with k:=kb } y ⟨ox.s,ox.p,ox.f⟩ oy W).1
     have hgN:Qr x y=Qr (a.ns.getD k default) (b.ns.getD k default):=by rw[hx.out,hy.out]
     obtain⟨gb,hgb⟩:∃ gb,gb=Qr x y:=⟨_,rfl⟩
     rw[<-hgb] at hneq hgN
     have hsz:=hbw.size
     have hn0l:n0+1<w2.heap.size:=World.block_lt_of_cell? w2 _ e30
     replace hx:=Hd hx
     replace hy:=Hd hy
     replace hX':=Hd hX'
     replace hgr:=Hd hgr
     replace hgN:=Hd hgN
     replace hgb:=Hd hgb
     replace hXX:=Hd hXX
     replace hXc:=Hd hXc
     replace hYc:=Hd hYc
     replace ox:=Hd ox
     replace oy:=Hd oy
     replace hbw:=Hd hbw
     obtain⟨xk,hxk⟩:∃ xk,xk=x.k:=⟨_,rfl⟩
     obtain⟨yk,hyk⟩:∃ yk,yk=y.k:=⟨_,rfl⟩
     rw[<-hxk,<-hyk] at hkb
     have hXc:Hid (X[39]? = some (.bool xk)):=Hd (by rw[hxk];exact hXc.out)
     have hYc:Hid (Y[39]? = some (.bool yk)):=Hd (by rw[hyk];exact hYc.out)
     clear hxk hyk
     cases xk
     ·have hkb2:kb=yk:=hkb
      subst hkb2
      clear hkb
      cases gb
      ·have hq0:q=false:=by rw[hq1.out,Yv hkN (by rw[<-hgN.out]),Bool.false_and]
       subst hq0
       clear hq1
       (go_wp2_with (first|(refine wpList_load_mid rfl 41 (.tmp 33) rfl b1 (o1+k*40) rfl x.list _ hr1.out huN rfl ix ?_;rw[<-hX.out])|(refine Zd rfl 41 (.tmp 6) (.tmp 34) rfl wr.heap.size zNm X rfl rfl hz1 iX zX hX1 ?_;intro w3 hU3;have hb3:=Hd (((Below.refl wr.heap.size wr).alloc nR _).trans (hU3.out.below nR));have q30:=(hb3.out.cell (World.block_lt_of_cell? wr _ f30)).trans f30;have hr2':=Hd (Zl hr2.out hb3.out nR);have hz2:Hid ((w3.alloc (.cells zNm 41)).heap[w3.heap.size]? = some (.cells zNm 41 (0,0))):=heap_alloc_new w3 (.cells zNm 41 (0,0));have h63:=Hd (Zb hU3.out.here))|(refine wpList_load_mid rfl 41 (.tmp 38) rfl b2 (o2+k*40) rfl y.list _ hr2'.out huN rfl iy ?_;rw[<-hY.out])|(refine Zd rfl 41 (.tmp 7) (.tmp 39) rfl w3.heap.size zNm Y rfl rfl hz2 iY zY hY1 ?_;intro w4 hU4;have hb4:=Hd (((Below.refl w3.heap.size w3).alloc nR _).trans (hU4.out.below nR));have h64:=(hb4.out.block wr.heap.size h63.out).trans hU3.out.here;have k6:=(Za h64 39).trans hXc.out;have k7:=(Za hU4.out.here 39).trans hYc.out;have f6:=Zg h64 39;have hU5:=(Upd.refl h64).setCell (j:=39) (.bool kb);rw[hXX.out] at hU5;have hX5:=Hd hU5.here;have hY5:=Hd ((hU5.block w3.heap.size (by have:=h63.out;omega)).trans hU4.out.here);have hbel:=Hd (hbw.out.trans (((hb3.out.trans (hb4.out.mono hb3.out.size)).trans (hU5.below nR)).mono hsz));replace h64:=Hd h64;replace hU5:=Hd hU5)|(refine Ze rfl 41 (.tmp 6) rfl wr.heap.size X' _ rfl hX5 huN rfl iX' ?_)|(refine Ze rfl 41 (.tmp 7) rfl w3.heap.size Y _ rfl hY5 huN rfl iY ?_)))
       go_ret
       exact⟨rfl,hB.out.trans (hbel.out.mono hB.out.size)⟩
      ·(go_wp2_with (first|(refine wpList_load_mid rfl 41 (.tmp 33) rfl b1 (o1+k*40) rfl x.list _ hr1.out huN rfl ix ?_;rw[<-hX.out])|(refine Zd rfl 41 (.tmp 6) (.tmp 34) rfl wr.heap.size zNm X rfl rfl hz1 iX zX hX1 ?_;intro w3 hU3;have hb3:=Hd (((Below.refl wr.heap.size wr).alloc nR _).trans (hU3.out.below nR));have q30:=(hb3.out.cell (World.block_lt_of_cell? wr _ f30)).trans f30;have hr2':=Hd (Zl hr2.out hb3.out nR);have hz2:Hid ((w3.alloc (.cells zNm 41)).heap[w3.heap.size]? = some (.cells zNm 41 (0,0))):=heap_alloc_new w3 (.cells zNm 41 (0,0));have h63:=Hd (Zb hU3.out.here))|(refine wpList_load_mid rfl 41 (.tmp 38) rfl b2 (o2+k*40) rfl y.list _ hr2'.out huN rfl iy ?_;rw[<-hY.out])|(refine Zd rfl 41 (.tmp 7) (.tmp 39) rfl w3.heap.size zNm Y rfl rfl hz2 iY zY hY1 ?_;intro w4 hU4;have hb4:=Hd (((Below.refl w3.heap.size w3).alloc nR _).trans (hU4.out.below nR));have h64:=(hb4.out.block wr.heap.size h63.out).trans hU3.out.here;have k6:=(Za h64 39).trans hXc.out;have k7:=(Za hU4.out.here 39).trans hYc.out;have f6:=Zg h64 39;have hU5:=(Upd.refl h64).setCell (j:=39) (.bool kb);rw[hXX.out] at hU5;have hX5:=Hd hU5.here;have hY5:=Hd ((hU5.block w3.heap.size (by have:=h63.out;omega)).trans hU4.out.here);have hbel:=Hd (hbw.out.trans (((hb3.out.trans (hb4.out.mono hb3.out.size)).trans (hU5.below nR)).mono hsz));replace h64:=Hd h64;replace hU5:=Hd hU5)|(refine Ze rfl 41 (.tmp 6) rfl wr.heap.size X' _ rfl hX5 huN rfl iX' ?_)|(refine Ze rfl 41 (.tmp 7) rfl w3.heap.size Y _ rfl hY5 huN rfl iY ?_)))
       refine hback.out _ _ kX ?_ ?_
       ·simp only[List.getD_cons_zero,List.getD_cons_succ]
        refine⟨k+1,oX,by go_num,hbel.out,λi hi=>?_⟩
        by_cases hik:i<k
        ·exact hle.out i hik
        ·obtain rfl:i=k:=oX
         exact hgN.out.symm
       ·have h30:=h30.out
        simp only[List.getD_cons_zero,List.getD_cons_succ,h30,intOf]
        omega
     ·have hkb2:kb=true:=hkb
      subst hkb2
      clear hkb
      cases gb
      ·have hq0:q=false:=by rw[hq1.out,Yv hkN (by rw[<-hgN.out]),Bool.false_and]
       subst hq0
       clear hq1
       (go_wp2_with (first|(refine wpList_load_mid rfl 41 (.tmp 33) rfl b1 (o1+k*40) rfl x.list _ hr1.out huN rfl ix ?_;rw[<-hX.out])|(refine Zd rfl 41 (.tmp 6) (.tmp 34) rfl wr.heap.size zNm X rfl rfl hz1 iX zX hX1 ?_;intro w3 hU3;have hb3:=Hd (((Below.refl wr.heap.size wr).alloc nR _).trans (hU3.out.below nR));have q30:=(hb3.out.cell (World.block_lt_of_cell? wr _ f30)).trans f30;have hr2':=Hd (Zl hr2.out hb3.out nR);have hz2:Hid ((w3.alloc (.cells zNm 41)).heap[w3.heap.size]? = some (.cells zNm 41 (0,0))):=heap_alloc_new w3 (.cells zNm 41 (0,0));have h63:=Hd (Zb hU3.out.here))|(refine wpList_load_mid rfl 41 (.tmp 38) rfl b2 (o2+k*40) rfl y.list _ hr2'.out huN rfl iy ?_;rw[<-hY.out])|(refine Zd rfl 41 (.tmp 7) (.tmp 39) rfl w3.heap.size zNm Y rfl rfl hz2 iY zY hY1 ?_;intro w4 hU4;have hb4:=Hd (((Below.refl w3.heap.size w3).alloc nR _).trans (hU4.out.below nR));have h64:=(hb4.out.block wr.heap.size h63.out).trans hU3.out.here;have k6:=(Za h64 39).trans hXc.out;have k7:=(Za hU4.out.here 39).trans hYc.out;have f6:=Zg h64 39;have hU5:=(Upd.refl h64).setCell (j:=39) (.bool true);rw[hXX.out] at hU5;have hX5:=Hd hU5.here;have hY5:=Hd ((hU5.block w3.heap.size (by have:=h63.out;omega)).trans hU4.out.here);have hbel:=Hd (hbw.out.trans (((hb3.out.trans (hb4.out.mono hb3.out.size)).trans (hU5.below nR)).mono hsz));replace h64:=Hd h64;replace hU5:=Hd hU5)|(refine Ze rfl 41 (.tmp 6) rfl wr.heap.size X' _ rfl hX5 huN rfl iX' ?_)|(refine Ze rfl 41 (.tmp 7) rfl w3.heap.size Y _ rfl hY5 huN rfl iY ?_)))
       go_ret
       exact⟨rfl,hB.out.trans (hbel.out.mono hB.out.size)⟩
      ·(go_wp2_with (first|(refine wpList_load_mid rfl 41 (.tmp 33) rfl b1 (o1+k*40) rfl x.list _ hr1.out huN rfl ix ?_;rw[<-hX.out])|(refine Zd rfl 41 (.tmp 6) (.tmp 34) rfl wr.heap.size zNm X rfl rfl hz1 iX zX hX1 ?_;intro w3 hU3;have hb3:=Hd (((Below.refl wr.heap.size wr).alloc nR _).trans (hU3.out.below nR));have q30:=(hb3.out.cell (World.block_lt_of_cell? wr _ f30)).trans f30;have hr2':=Hd (Zl hr2.out hb3.out nR);have hz2:Hid ((w3.alloc (.cells zNm 41)).heap[w3.heap.size]? = some (.cells zNm 41 (0,0))):=heap_alloc_new w3 (.cells zNm 41 (0,0));have h63:=Hd (Zb hU3.out.here))|(refine wpList_load_mid rfl 41 (.tmp 38) rfl b2 (o2+k*40) rfl y.list _ hr2'.out huN rfl iy ?_;rw[<-hY.out])|(refine Zd rfl 41 (.tmp 7) (.tmp 39) rfl w3.heap.size zNm Y rfl rfl hz2 iY zY hY1 ?_;intro w4 hU4;have hb4:=Hd (((Below.refl w3.heap.size w3).alloc nR _).trans (hU4.out.below nR));have h64:=(hb4.out.block wr.heap.size h63.out).trans hU3.out.here;have k6:=(Za h64 39).trans hXc.out;have k7:=(Za hU4.out.here 39).trans hYc.out;have f6:=Zg h64 39;have hU5:=(Upd.refl h64).setCell (j:=39) (.bool true);rw[hXX.out] at hU5;have hX5:=Hd hU5.here;have hY5:=Hd ((hU5.block w3.heap.size (by have:=h63.out;omega)).trans hU4.out.here);have hbel:=Hd (hbw.out.trans (((hb3.out.trans (hb4.out.mono hb3.out.size)).trans (hU5.below nR)).mono hsz));replace h64:=Hd h64;replace hU5:=Hd hU5)|(refine Ze rfl 41 (.tmp 6) rfl wr.heap.size X' _ rfl hX5 huN rfl iX' ?_)|(refine Ze rfl 41 (.tmp 7) rfl w3.heap.size Y _ rfl hY5 huN rfl iY ?_)))
       refine hback.out _ _ kX ?_ ?_
       ·simp only[List.getD_cons_zero,List.getD_cons_succ]
        refine⟨k+1,oX,by go_num,hbel.out,λi hi=>?_⟩
        by_cases hik:i<k
        ·exact hle.out i hik
        ·obtain rfl:i=k:=oX
         exact hgN.out.symm
       ·have h30:=h30.out
        simp only[List.getD_cons_zero,List.getD_cons_succ,h30,intOf]
        omega
    ·obtain rfl:k=N:=oX
     have hall:=Je (f:=Qr) (xs:=a.ns) (ys:=b.ns) (λi hi=>hle.out i (by rw[hNl.out];exact hi))
     have hq2:Hid (q=QJ Yc a.vs b.vs):=Hd (by rw[hq1.out,hall,Bool.true_and])
     have hsz:=hbw.size
     have hV2:=Hd (hV.out.below hbw nR)
     have hU2:=Hd (hU.out.below hbw nR)
     have hB2:=Hd (hB.out.trans (hbw.mono hB.out.size))
     clear hle hall hq1 hbw hV hU hback hN hM
     go_wp2_with fail
     refine ZA [(false,4),(true,1),(false,3),(true,3),(false,43),(true,20)] _ [] (λU2 w5=>∃ j:Nat,j<=V/\U2 54=.int .i64 (j:Nat)/\Below wr.heap.size wr w5/\∀ i,i<j->Yc (a.vs.getD i default) (b.vs.getD i default)=true) (λU2 _=>V-(intOf (U2 54)).toNat) ?_ ?_
     ·simp only[List.getD_cons_zero,List.getD_cons_succ]
      exact⟨0,Nat.zero_le _,rfl,Below.refl _ _,λi hi=>absurd hi (Nat.not_lt_zero _)⟩
     ·intro U2 w5 hrel KK2 hback2 l2 hl2
      obtain⟨j,hj,h54,hb5,hle⟩:=hrel
      simp only[ZD,Z6,cond_true,cond_false,Nat.reduceAdd,h54] at hl2
      subst hl2
      replace h54:=Hd h54
      have p31:=(hb5.cell (World.block_lt_of_cell? wr _ f31)).trans f31
      replace hle:=Hd hle
      by_cases hlt2:j<V
      ·have hlt3:(j:Int)<(V:Int):=oX
       have hlm:j<Z:=oX
       have hlm2:(j:Int)<(Z:Int):=oX
       have hkV:j<a.vs.length:=by rw[<-hVl.out];exact hlt2
       have hkZ:j<b.vs.length:=by rw[<-hZl.out];exact hlm
       obtain⟨b1,o1,rfl,hr1⟩:=hV2.out.below hb5 nR j hkV
       obtain⟨b2,o2,rfl,hr2⟩:=hU2.out.below hb5 nR j hkZ
       have ox:=okV.out _ (List.getElem_mem hkV)
       have oy:=okU.out _ (List.getElem_mem hkZ)
       rw[YK default hkV] at hr1 ox
       rw[YK default hkZ] at hr2 oy
       obtain⟨gb,hgb⟩:∃ gb,gb=Yc (a.vs.getD j default) (b.vs.getD j default):=⟨_,rfl⟩
       generalize hx:a.vs.getD j default=x at*
       generalize hy:b.vs.getD j default=y at*
       obtain⟨xo,xw,xv⟩:=x
       obtain⟨yo,yw,yv⟩:=y
       have d0:=hr1 0 _ rfl
       have d1:=hr1 1 _ rfl
       have d2:=hr1 2 _ rfl
       have z0:=hr2 0 _ rfl
       have z1:=hr2 1 _ rfl
       have z2:=hr2 2 _ rfl
       simp only[Nat.add_zero] at d0 d1 d2 z0 z1 z2
       have y0:=λo=>Z1 z0 o
       have y1:=λo=>Z1 z1 o
       have y2:=λo=>Z1 z2 o
       have p31a:=λo=>Z1 p31 o
       clear hr1 hr2
       have hgV:Hid (gb=Yc (a.vs.getD j default) (b.vs.getD j default)):=Hd (by rw[hx,hy];exact hgb)
       have hne:∀ (p:Int) W,inI p->(binOp .neq 43 (.agg #[.int .i64 xo,.int .i64 xw,.int .i64 p]) (.agg #[.int .i64 yo,.int .i64 yw,.int .i64 yv])).run Tryz.prog W=.ok (.bool (!decide ((⟨xo,xw,p⟩:Vd)=⟨yo,yw,yv⟩))) W:=λp W hp=>G5 ⟨xo,xw,p⟩ ⟨yo,yw,yv⟩ ⟨ox.1,ox.2.1,hp⟩ oy W
       have hsz5:=hb5.size
       have hn0l:n0+1<w2.heap.size:=World.block_lt_of_cell? w2 _ e31
       by_cases hv0:xv=0
       ·have hv0b:(xv==0)=true:=by simpa using hv0
        have hne:=λW=>hne yv W oy.2.2
        have hgb2:gb=decide ((⟨xo,xw,yv⟩:Vd)=⟨yo,yw,yv⟩):=by rw[hgb,Yc,if_pos hv0]
        rw[<-hgb2] at hne
        subst hv0
        replace hx:=Hd hx
        replace hy:=Hd hy
        replace hb5:=Hd hb5
        replace ox:=Hd ox
        replace oy:=Hd oy
        clear hgb hgb2
        have hfin5:=λA B=>((hb5.out.trans (((Below.refl w5.heap.size w5).alloc nR A).mono hsz5)).trans (((Below.refl _ (w5.alloc A)).alloc nR B).mono sY))
        replace hfin5:=Hd hfin5
        cases gb
        ·have hq0:q=false:=by rw[hq2.out];exact Yv hkV (by rw[<-hgV.out])
         subst hq0
         clear hq2
         go_wp2_with fail
         go_ret
         exact⟨rfl,hB2.out.trans ((hfin5.out _ _).mono hB2.out.size)⟩
        ·go_wp2_with fail
         refine hback2.out _ _ kX ?_ ?_
         ·simp only[List.getD_cons_zero,List.getD_cons_succ]
          refine⟨j+1,oX,by go_num,hfin5.out _ _,λi hi=>?_⟩
          by_cases hik:i<j
          ·exact hle.out i hik
          ·obtain rfl:i=j:=oX
           exact hgV.out.symm
         ·have h54:=h54.out
          simp only[List.getD_cons_zero,List.getD_cons_succ,h54,intOf]
          omega
       ·have hv0b:(xv==0)=false:=by simpa using hv0
        have hne:=λW=>hne xv W ox.2.2
        have hgb2:gb=decide ((⟨xo,xw,xv⟩:Vd)=⟨yo,yw,yv⟩):=by rw[hgb,Yc,if_neg hv0]
        rw[<-hgb2] at hne
        replace hv0:=Hd hv0
        replace hx:=Hd hx
        replace hy:=Hd hy
        replace hb5:=Hd hb5
        replace ox:=Hd ox
        replace oy:=Hd oy
        clear hgb hgb2
        have hfin5:=λA B=>((hb5.out.trans (((Below.refl w5.heap.size w5).alloc nR A).mono hsz5)).trans (((Below.refl _ (w5.alloc A)).alloc nR B).mono sY))
        replace hfin5:=Hd hfin5
        cases gb
        ·have hq0:q=false:=by rw[hq2.out];exact Yv hkV (by rw[<-hgV.out])
         subst hq0
         clear hq2
         go_wp2_with fail
         go_ret
         exact⟨rfl,hB2.out.trans ((hfin5.out _ _).mono hB2.out.size)⟩
        ·go_wp2_with fail
         refine hback2.out _ _ kX ?_ ?_
         ·simp only[List.getD_cons_zero,List.getD_cons_succ]
          refine⟨j+1,oX,by go_num,hfin5.out _ _,λi hi=>?_⟩
          by_cases hik:i<j
          ·exact hle.out i hik
          ·obtain rfl:i=j:=oX
           exact hgV.out.symm
         ·have h54:=h54.out
          simp only[List.getD_cons_zero,List.getD_cons_succ,h54,intOf]
          omega
      ·obtain rfl:j=V:=oX
       have hq3:q=true:=by rw[hq2.out];exact Je (λi hi=>hle.out i (by rw[hVl.out];exact hi))
       subst hq3
       replace hb5:=Hd hb5
       clear hq2
       go_wp2_with fail
       go_ret
       exact⟨rfl,hB2.out.trans (hb5.out.mono hB2.out.size)⟩
end Go.Proofs.YtdilmfnpkeihiaaGreatDoor
