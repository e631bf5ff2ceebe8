import Derived.Test.YtpdhceiodgnbmaaGreatDoorF0Safe21Said
import Derived.Test.YtpdhceiodgnbmaaGreatDoorF1Safe21Said
import Derived.Test.YtpdhceiodgnbmaaGreatDoorF15Safe21Said
import Derived.Test.YtpdhceiodgnbmaaGreatDoorF14Safe21Said
import Derived.Test.YtpdhceiodgnbmaaGreatDoorF7Safe21Said
set_option linter.unusedVariables false
set_option linter.unusedSimpArgs false
set_option linter.unnecessarySimpa false
set_option maxRecDepth 100000
set_option maxHeartbeats 8000000
namespace Go.Proofs.YtpdhceiodgnbmaaGreatDoor
open Go.RowKit
set_option linter.unusedSimpArgs false
theorem NH{w:World}{g:Nat}{d:List UInt8}{t:TypeId}{z:Nat×Nat}(h:w.heap[g]? = some (.cells (cB d).toArray t z)):∀ j u,(cB d)[j]? = some u->w.cell? ((⟨g,0,none⟩:Addr).add j)=some u:=λj u hu=>by
 rw[Addr.add_lit,Nat.zero_add,Za h,List.getElem?_toArray]
 exact hu
theorem N9{w:World}{g:Nat}{qs:List (List UInt8)}(h:RowAt cB 32 w (some ⟨g,0,none⟩) qs)(hq:∀ y∈qs,y.length=32):∀ j u,(qs.flatMap cB)[j]? = some u->w.cell? ((⟨g,0,none⟩:Addr).add j)=some u:=λj u hu=>by
 rw[Addr.add_lit]
 exact Ux (size:=32) dX (λy hy=>by rw[Ze];exact hq y hy) (λk hk=>by obtain⟨b',o',e',h'⟩:=h k hk;cases e';exact h') j u hu
theorem LS{w:World}{b base N:Nat}{qs:List (List UInt8)}{d:List UInt8}{v:Value}(h:w.ownsRow b 47 32 v (N+1) (qs.flatMap cB++cB d))(hb:base<=b)(hN:N=qs.length)(hq:∀ y∈qs,y.length=32)(hd:d.length=32):RowsOf RD 47 32 base w (λ_=>False) v (qs++[d]):=by
 refine RowsOf.mono (base:=b) ⟨⟨(qs++[d]).map cB,sX,?_,λi x cs h1 h2=>?_⟩,λk hk e=>e,λk e=>e.elim⟩ hb
 ·rw[List.length_append,<-hN,show ((qs++[d]).map cB).flatten=qs.flatMap cB++cB d by simp[List.flatMap]]
  exact h
 ·rw[List.getElem?_map,h1] at h2
  cases h2
  refine⟨?_,rfl⟩
  rcases List.mem_append.1 (List.mem_of_getElem? h1) with h|h
  ·exact hq _ h
  ·rw[List.mem_singleton.1 h];exact hd
theorem MK{w:World}{b N:Nat}{e:TypeId}{size:Nat}{v:Value}{xs:List Value}(h:w.ownsRow b e size v (N+1) xs):∃ g c,v=.slice (some ⟨g,0,none⟩) (N+1) c/\b<=g:=by
 rcases h.2 with ⟨_,h⟩|⟨g,c,_,h,hg,_⟩
 ·omega
 ·exact⟨g,c,h,hg⟩
theorem Tg{base:Nat}{w:World}{f n:Nat}{v:Value}{ps:List (List UInt8)}(h:FrM base w f n v ps)(hb:base<=w.heap.size)(hn:n % 2=1)(hn2:n<=1000000)(hp:ps.length=ZX 64 n)(hp2:ps.length<=1000000)(a:Option Addr)(c:Nat)(bs:List UInt8)(hA:ArgB w a c bs)(hl:bs.length<=1000)(hK:∀ W,Below base w W->ShaK W)(hF:∀ W,Below base w W->ShaF W) :
  Calls Tryz.prog 62 #[.pointer (some ⟨f,0,none⟩),.slice a bs.length c] w (XC base w f (n+1) v (Qc n ps bs)):=by
 have hle:=Hd (MQ a c bs w hA hl (hK w bR) (hF w bR))
 have hlD:(Qv bs).length=32:=Qp _
 have hall:∀ y∈ps,y.length=32:=by
  intro y hy
  obtain⟨i,hi,rfl⟩:=List.mem_iff_getElem.1 hy
  obtain⟨_,_,_,_,hR,_⟩:=h.rows.elem Yg i _ (List.getElem?_eq_getElem hi)
  exact hR.1
 obtain⟨g,c0,hv,hgg,hrow⟩:∃ g c0,v=.slice (some ⟨g,0,none⟩) ps.length c0/\(base<=g/\g<w.heap.size/\g≠f)/\RowAt cB 32 w (some ⟨g,0,none⟩) ps:=by
  have h1:0<ps.length:=by rw[hp];simp only[ZX];omega
  obtain⟨g,c0,cs,e,hR,hr⟩:=h.rows.elem Yg 0 _ (List.getElem?_eq_getElem h1)
  have hne:=h.nv
  have hlt:=h.rows.ownLt
  subst e
  refine⟨g,c0,rfl,⟨(hlt g rfl).1,(hlt g rfl).2,λe=>hne (by rw[e];rfl)⟩,λi hi=>⟨g,0,rfl,?_⟩⟩
  obtain⟨g',c',cs',e',hR',hr'⟩:=h.rows.elem Yg i _ (List.getElem?_eq_getElem hi)
  cases e'
  rw[Nat.zero_add,<-hR'.2]
  exact hr'
 have hge:=h.ge
 obtain⟨D,hD⟩:∃ D,D=(cB (Qv bs)).toArray:=⟨_,rfl⟩
 have hDi:(Tryz.prog.info? 47).map (·.size)=some D.size:=by rw[hD,List.size_toArray,Ze,hlD];kernel_rfl
 have hDz:zero32.size=D.size:=by rw[QG,hD,List.size_toArray,Ze,hlD]
 have zr:=QF
 have zn:=Qg
 have hDo:D.all (·.oneCell')=true:=by rw[hD];exact Ue (ZI _)
 rw[<-hD] at hle
 obtain⟨nn,hnn⟩:∃ nn:Int,(n:Int)=nn:=⟨_,rfl⟩
 have hc0:w.cell? ⟨f,0,none⟩=some (.int .i64 nn):=by rw[Za h.at_,<-hnn];rfl
 have hwr:IntKind.i64.wrap (nn+1)=nn+1:=IntWalk.i64_in _ oX
 have hnlt:nn<1099511627776:=oX
 have hfin:∀ (W:World) (v':Value),FrM base W f (n+1) v' (Qc n ps bs)->Only (FrD f v) w W->(∀ k,v'.ownBlock=some k->FrD f v k\/w.heap.size<=k)->XC base w f (n+1) v (Qc n ps bs) (.returned .nilIface) W:=λW v' h1 h2 h3=>⟨rfl,v',h1,h2,h3⟩
 replace hfin:=Hd hfin
 obtain⟨L,hL⟩:∃ L,L=bs.length:=⟨_,rfl⟩
 rw[<-hL] at hle ⊢
 replace h:=Hd h
 replace hD:=Hd hD
 replace hL:=Hd hL
 replace hn:=Hd hn
 replace hnn:=Hd hnn
 replace hK:=Hd hK
 replace hF:=Hd hF
 replace hgg:=Hd hgg
 replace hrow:=Hd hrow
 replace hall:=Hd hall
 replace hp:=Hd hp
 replace hv:=Hd hv
 replace hge:=Hd hge
 replace hlD:=Hd hlD
 have hbL:=Hd (λW (hO:Only (λk=>k=f) w W)=>show Below base w W from hO.below hb (λk e=>by rw[e];exact hge.out))
 clear hA hl
 go_enter Tryz.func62,Tryz.ntmps62
 go_wp2_with fail
 with_reducible refine hle.out.mono ?_
 clear hle
 rintro e w2 ⟨rfl,hb2⟩
 have h2:=Hd (h.out.below hb2)
 have hw2:=Hd hb2.size
 have hZ2:=Hd (heap_alloc_new w2 (.cells zero32 47))
 replace hb2:=Hd hb2
 clear hc0
 go_wp2_with ((with_reducible refine wL (.store 47 (.tmp 5) _) ?_);(refine Zc rfl 47 (.tmp 5) (.tmp 15) rfl w2.heap.size _ D rfl rfl hZ2 hDi hDz hDo ?_);intro w3 hU3;have hb3:Below w2.heap.size w2 w3:=(Below.alloc (Below.refl w2.heap.size w2) nR _).trans (hU3.out.below nR);have aD3:=Hd hU3.out.here;have h3:=Hd (h2.out.below hb3);have hw3:=Hd (show w2.heap.size<w3.heap.size from Zb hU3.out.here);have hc0:w3.cell? ⟨f,0,none⟩=some (.int .i64 nn):=(by rw[Za h3.out.at_,<-hnn.out];rfl);have hOn3:=Hd (show Below w.heap.size w w3 from hb2.out.trans (hb3.mono hw2.out)))
 have huD:=Tryz.underlying47
 obtain⟨b5,hb5⟩:∃ b5,b5=w2.heap.size:=⟨_,rfl⟩
 have h5g:b5≠g:=by have:=hgg.out.2.1;have:=hw2.out;omega
 have hfw:f<w.heap.size:=Zb h.out.at_
 have h5f:b5≠f:=by have:=hw2.out;omega
 have h5w:w.heap.size<=b5:=by have:=hw2.out;omega
 rw[<-hb5] at aD3 ⊢
 rw[hD.out] at aD3
 replace hb5:=Hd hb5
 refine Z8 [(false,6),(true,2),(false,12),(true,30),(false,17)] _ [] (λU wr=>∃ (m j:Nat) (qs:List (List UInt8)) (d:List UInt8) (c':Nat),U 6=.int .i64 (m:Int)/\QR m m qs d=QR n n ps (Qv bs)/\m<=n/\m<2 ^ j/\qs.length=ZX j m/\((m=n/\wr=w3)\/c'=qs.length)/\qs.length<=c'/\qs.length<=ps.length/\d.length=32/\(∀ y∈qs,y.length=32)/\RowAt cB 32 wr (some ⟨g,0,none⟩) qs/\wr.heap[f]? = some (.cells #[.int .i64 (n:Int),.slice (some ⟨g,0,none⟩) qs.length c'] 194 (0,0))/\wr.heap[b5]? = some (.cells (cB d).toArray 47 (0,0))/\Only (λk=>k=f) w wr) (λU _=>(intOf (U 6)).toNat) ?_ ?_
 ·simp only[List.getD_cons_zero,List.getD_cons_succ]
  have hatv:=h3.out.at_
  rw[hv.out] at hatv
  refine⟨n,64,ps,Qv bs,c0,by rw[hnn.out],rfl,Nat.le_refl _,oX,hp.out,.inl sX,?_,Nat.le_refl _,hlD.out,hall.out,hrow.out.below hOn3.out nR,hatv,aD3.out,Only.ofBelow hOn3.out⟩
  obtain⟨a',c',e,_,hle',_⟩:=h.out.rows.form
  rw[hv.out] at e
  cases e
  exact hle'
 ·intro U wr hrel KK hback l' hl'
  obtain⟨m,j,qs,d,c',h6,hcy,hmn,hmj,hqs,hcl,hc',hql,hdl,hqa,hqr,hatr,hdr,hO⟩:=hrel
  simp only[ZU,ZG,cond_true,cond_false,Nat.reduceAdd,h6] at hl'
  subst hl'
  replace h6:=Hd h6
  replace hcy:=Hd hcy
  replace hqa:=Hd hqa
  replace hqr:=Hd hqr
  replace hdr:=Hd hdr
  replace hO:=Hd hO
  replace hcl:=Hd hcl
  have hszr:=hO.out.size
  clear hc0
  by_cases hod:m % 2=1
  ·have hand:bits .and .i64 (m:Int) 1=1:=by
    have:=VO m 1 oX oX
    rw[Nat.and_one_is_mod,hod] at this
    exact this
   obtain⟨j,rfl⟩:∃ i,j=i+1:=by
    cases j with
    | zero=>exfalso;rw[Nat.pow_zero] at hmj;omega
    | succ i=>exact⟨i,rfl⟩
   have hqs2:qs.length=1+ZX j (m / 2):=by rw[hqs,show ZX (j+1) m=m % 2+ZX j (m / 2) from rfl,hod]
   obtain⟨K1,hK1⟩:∃ K1,K1=ZX j (m / 2):=⟨_,rfl⟩
   rw[<-hK1,Nat.add_comm] at hqs2
   have hy1:K1<qs.length:=oX
   obtain⟨y,hy⟩:∃ y,y=qs[K1]:=⟨_,rfl⟩
   have hyl:y.length=32:=by rw[hy];exact hqa.out _ (List.getElem_mem _)
   have hyD:qs.getD (qs.length-1) []=y:=by rw[show qs.length-1=K1 by omega,hy];simp[hy1]
   have hry:wr.rangeAt g (K1*32) (cB y):=by
    obtain⟨b',o',e',hr'⟩:=hqr.out K1 hy1
    cases e'
    rw[Nat.zero_add,<-hy] at hr'
    exact hr'
   obtain⟨N,hN⟩:∃ N,N=qs.length:=⟨_,rfl⟩
   rw[<-hN] at hatr hc' hqs2
   have hN1:(N:Int)-1=(K1:Int):=oX
   have hNw:IntKind.i64.wrap ((N:Int)-1)=(K1:Int):=by rw[hN1];exact Gz _ oX
   have hKN:(K1:Int)<(N:Int):=oX
   have hKN2:K1<N:=oX
   have hKc:(K1:Int)<=(c':Int):=oX
   have hKc2:K1<=c':=oX
   have k1:wr.cell? ⟨f,1,none⟩=some (.slice (some ⟨g,0,none⟩) N c'):=by rw[Za hatr];rfl
   have iD:(Tryz.prog.info? 47).map (·.size)=some (cB d).length:=by rw[Ze,hdl];kernel_rfl
   have iY:(Tryz.prog.info? 47).map (·.size)=some (cB y).length:=by rw[Ze,hyl];kernel_rfl
   have hno:=Hd (λW (hb:Below base w W)=>Do y d hyl hdl W (hK.out W hb) (hF.out W hb))
   obtain⟨E,hE⟩:∃ E,E=(cB (J8 y d)).toArray:=⟨_,rfl⟩
   have hEl:=My y d
   have iE:(Tryz.prog.info? 47).map (·.size)=some E.size:=by rw[hE];exact Qb hEl
   have sE:(cB d).toArray.size=E.size:=by rw[hE,List.size_toArray,List.size_toArray,Ze,Ze,hdl,hEl]
   have oE:E.all (·.oneCell')=true:=by rw[hE];exact YM _
   rw[<-hE] at hno
   have hOb:Hid (Only (λk=>k=f) w wr.drew):=Hd hO.out.drew
   obtain⟨Yv,hYv⟩:∃ Yv,Yv=(cB y).toArray:=⟨_,rfl⟩
   obtain⟨Dv,hDv⟩:∃ Dv,Dv=(cB d).toArray:=⟨_,rfl⟩
   rw[<-hYv,<-hDv] at hno
   rw[<-hDv] at sE
   replace hYv:=Hd hYv
   replace hDv:=Hd hDv
   have hrd:Hid (wr.rangeAt b5 0 (cB d)):=Hd (λi u hu=>by rw[Nat.zero_add,Za hdr.out,List.getElem?_toArray];exact hu)
   have hryd:Hid (wr.drew.rangeAt g (K1*32) (cB y)):=Hd (λi u hu=>hry i u hu)
   have hrdd:Hid (wr.drew.rangeAt b5 0 (cB d)):=Hd (λi u hu=>hrd.out i u hu)
   have hdrd:Hid (wr.drew.heap[b5]? = some (.cells Dv 47 (0,0))):=Hd (by rw[hDv.out];exact hdr.out)
   have hatd:Hid (wr.drew.heap[f]? = some (.cells #[.int .i64 (n:Int),.slice (some ⟨g,0,none⟩) N c'] 194 (0,0))):=Hd hatr
   have hqrd:Hid (RowAt cB 32 wr.drew (some ⟨g,0,none⟩) qs):=Hd (hqr.out.only (Only.drew (Only.refl (λ_=>False) wr)) (λh=>h))
   replace hatr:=Hd hatr
   replace hry:=Hd hry
   replace hE:=Hd hE
   replace hN:=Hd hN
   replace hy:=Hd hy
   replace hyD:=Hd hyD
   replace hK1:=Hd hK1
   replace hqs:=Hd hqs
   replace hEl:=Hd hEl
   go_wp2_with fail
   have k1d:=λW (hS:Only (λk=>k=b5) wr.drew W)=>show W.cell? ⟨f,1,none⟩=some (.slice (some ⟨g,0,none⟩) N c') from by rw[Za (hS.heap hatd.out (λe=>h5f e.symm))];rfl
   have hd0:Hid (Only (λk=>k=b5) wr.drew wr.drew):=Hd (Only.refl _ _)
   clear k1
   refine wp_region_held_drew (S:=(Only (λk=>k=b5) wr.drew)) kX hd0.out (λhOn=>?_)
   generalize World.drew wr=wd at*
   refine tk 0 hOn ?_
   refine tk 1 hOn ?_
   refine tk 2 hOn ?_
   refine tk 3 hOn ?_
   refine tk 4 hOn ?_
   repeat' first
    | exact AllReadyH.nil
    |
     first|refine acI 5 (λKz hKz=>?_) ?_|refine rdK 5 (λKz hKz=>?_)
     go_simp
     focus (try go_wp2_with fail)
     refine hKz.out _ _ c1X ?_
     clear hKz Kz hOn
     intro hOn
     try simp only[Act.put,sL,sZ,sS]
    |
     first|refine acI 6 (λKz hKz=>?_) ?_|refine rdK 6 (λKz hKz=>?_)
     (refine wp_load_mid 47 (.tmp 36) rfl g (K1*32) rfl (cB y) _ hryd.out huD rfl iY ?_)
     rw[<-hYv.out]
     have hS:=hOn
     refine hKz.out _ _ hS ?_
     clear hKz Kz hOn hS
     intro hOn
     try simp only[Act.put]
    |
     first|refine acI 7 (λKz hKz=>?_) ?_|refine rdK 7 (λKz hKz=>?_)
     (refine wp_load_mid 47 (.tmp 5) rfl b5 0 rfl (cB d) _ hrdd.out huD rfl iD ?_)
     rw[<-hDv.out]
     have hS:=hOn
     refine hKz.out _ _ hS ?_
     clear hKz Kz hOn hS
     intro hOn
     try simp only[Act.put]
    | refine QP [5,7] ?_
    | refine QP [6,7] ?_
    | fail
   all_goals
    refine rd 8 (λKz hKz=>?_)
    go_simp
    (with_reducible refine(hno.out _ (hbL.out _ (hOb.out.trans hOn (λk hk e=>by omega)))).mono ?_)
    rintro e w9 ⟨rfl,hnew⟩
    have hS:=Only.trans hOn (Only.ofBelow (D:=λk=>k=b5) hnew) (λ_ _ h=>h)
    have hd9:=Hd ((hnew.block _ (Zb hdrd.out)).trans hdrd.out)
    have hat9:=Hd ((hnew.block _ (Zb hatd.out)).trans hatd.out)
    have hqr9:=Hd (hqrd.out.below hnew nR)
    have hO9:=Hd (hOb.out.trans (Only.ofBelow (D:=λk=>k=f) hnew) (λ_ _ h=>h))
    focus (go_wp2_with fail)
    refine hKz.out _ _ hS ?_
    clear hKz Kz hOn hS
    intro hOn
    try clear hnew
    try simp only[Act.put,sL,sZ,sS]
    refine rd 9 (λKz hKz=>?_)
    rw[if_pos (by rfl)]
    (with_reducible refine Zu 47 (.tmp 5) (.tmp 39) rfl b5 _ E rfl rfl hd9 iE sE oE ?_)
    intro w10 hU10
    have hS:=Only.trans hOn (Only.ofUpd (D:=λk=>k=b5) hU10.out rfl) (λ_ _ h=>h)
    refine hKz.out _ _ hS ?_
    clear hKz Kz hOn hS
    intro hOn
    try simp only[Act.put]
    refine dnE ?_
   all_goals
    have hat10:=Hd ((hU10.out.block _ (Ne.symm h5f)).trans hat9.out)
    have hqr10:=Hd (hqr9.out.only (Only.ofUpd (D:=λk=>k=b5) hU10.out rfl) (λe=>h5g e.symm))
    have hd10:=Hd hU10.out.here
    have k1:w10.cell? ⟨f,1,none⟩=some (.slice (some ⟨g,0,none⟩) N c'):=by rw[Za hat10.out];rfl
    have f1:w10.frozen? ⟨f,1,none⟩=false:=Zj hat10.out _
    have hU11:=Hd ((Upd.refl hat10.out).setCell (j:=1) (.slice (some ⟨g,0,none⟩) K1 K1))
    have hO11:=Hd ((hO9.out.trans (Only.ofUpd (D:=λk=>k=f\/k=b5) hU10.out (.inr rfl)) (λk hk e=>by rcases e with e|e<;>omega)).trans (Only.ofUpd (D:=λk=>k=f) hU11.out rfl) (λ_ _ h=>h))
    clear hOn k1d
    go_wp2_with fail
    refine hback.out _ _ kX ?_ ?_
    ·simp only[List.getD_cons_zero,List.getD_cons_succ]
     have hat11:=hU11.out.here
     refine⟨m / 2,j,qs.dropLast,J8 y d,K1,by go_num,by rw[<-hcy.out,G9 hod,hyD.out],oX,by rw[Nat.pow_succ] at hmj;omega,by rw[List.length_dropLast,<-hN.out,<-hK1.out];omega,.inr (by rw[List.length_dropLast,<-hN.out];omega),by rw[List.length_dropLast,<-hN.out];omega,by rw[List.length_dropLast];omega,hEl.out,λy hy=>hqa.out y (List.dropLast_subset _ hy),(hqr10.out.only (Only.ofUpd (D:=λk=>k=f) hU11.out rfl) (λe=>hgg.out.2.2 e)).dropLast,?_,?_,hO11.out⟩
     ·rw[hat11,List.length_dropLast,<-hN.out,show N-1=K1 by omega]
      rfl
     ·rw[<-hE.out]
      exact(hU11.out.block _ h5f).trans hd10.out
    ·have h6:=h6.out
     simp only[List.getD_cons_zero,List.getD_cons_succ,h6,intOf]
     omega
  ·have hm0:m % 2=0:=oX
   have hc2:c'=qs.length:=by
    rcases hcl.out with ⟨e,_⟩|e
    ·exfalso;have:=hn.out;omega
    ·exact e
   rw[hc2] at hatr
   have hand:bits .and .i64 (m:Int) 1=0:=by
    have:=VO m 1 oX oX
    rw[Nat.and_one_is_mod,hm0] at this
    exact this
   obtain⟨N,hN⟩:∃ N,N=qs.length:=⟨_,rfl⟩
   rw[<-hN] at hatr
   have hN6:N<=1000000:=oX
   obtain⟨Dv,hDv⟩:∃ Dv,Dv=(cB d).toArray:=⟨_,rfl⟩
   have hDvL:Dv.size=32:=by rw[hDv,List.size_toArray,Ze,hdl]
   have hDvi:(Tryz.prog.info? 47).map (·.size)=some Dv.size:=by rw[hDvL];kernel_rfl
   have hgp:Qc n ps bs=qs++[d]:=by unfold Qc;rw[<-hcy.out,Jq hm0]
   have hatd:Hid (wr.drew.heap[f]? = some (.cells #[.int .i64 (n:Int),.slice (some ⟨g,0,none⟩) N N] 194 (0,0))):=Hd hatr
   have hS3:Hid (wr.drew.heap[b5]? = some (.cells Dv 47 (0,0))):=Hd (by rw[hDv];exact hdr.out)
   have hqrd:Hid (RowAt cB 32 wr.drew (some ⟨g,0,none⟩) qs):=Hd (hqr.out.only (Only.drew (Only.refl (λ_=>False) wr)) (λh=>h))
   have hOd:Hid (Only (λk=>k=f) w wr.drew):=Hd hO.out.drew
   have hlo:Hid ((qs.flatMap cB).length=N*32):=Hd (by rw[hN];exact Xy qs (λy hy=>by rw[Ze];exact hqa.out y hy))
   have hnl:Hid ((cB d).length=32):=Hd (by rw[Ze,hdl])
   have hus:=Tryz.underlying93
   have infoD:=Hd (show (Tryz.prog.info? 47).map (λi=>(i.zero.map (·.cells.size),i.size,i.bytes))=some (some 32,32,32) by kernel_rfl)
   have hsl:=Hd (λW=>Vm Dv hDvL W)
   have rlA:∀ W:World,W.heap[b5]? = some (.cells Dv 47 (0,0))->W.heap[b5]? = some (.cells Dv 47 (0,0)):=λ_ h=>h
   have huA:=huD
   have hzA:=hDvi
   replace hDv:=Hd hDv
   replace hN:=Hd hN
   replace hgp:=Hd hgp
   replace hqs:=Hd hqs
   have hbase:base<=wr.drew.heap.size:=by show base<=wr.heap.size;omega
   clear hatr hcl
   go_wp2_with fail
   have k1:wr.drew.cell? ⟨f,1,none⟩=some (.slice (some ⟨g,0,none⟩) N N):=by rw[Za hatd.out];rfl
   have hraw:=True.intro
   refine wp_region_held_drew (S:=(λW:World=>W.heap[b5]? = some (.cells Dv 47 (0,0)))) kX hS3.out (λhOn=>?_)
   generalize World.drew wr=wd at*
   refine tk 0 hOn ?_
   refine tk 1 hOn ?_
   refine tk 2 hOn ?_
   refine tk 3 hOn ?_
   refine tk 5 hOn ?_ (v:=Value.agg _) (hy:=Or.inl ⟨by rfl,λW hSW=>Zt _ _ rfl _ _ _ rfl (rlA W hSW) huA rfl hzA⟩)
   refine rds [4,6] ?_
   refine ac (λKz hKz=>?_) ?_
   go_simp
   focus (try go_wp2_with fail)
   refine hKz.out _ _ c1X ?_
   clear hKz Kz hOn
   intro hOn
   try simp only[Act.put,sL,sZ,sS]
   refine rd 6 (λKz hKz=>?_)
   rw[if_pos (by rfl)]
   (refine QZ 93 1 (.tmp 55) rfl (.agg Dv) rfl _ _ (hsl.out _) ?_)
   (with_reducible refine Zq (t:=47) ?_)
   intro w5 hx5 hnew
   have hS:=(hnew.block _ (Zb hOn)).trans hOn
   have hat5:=Hd ((hnew.block f (Zb hatd.out)).trans hatd.out)
   have hqr5:=Hd (N9 (hqrd.out.below hnew nR) hqa.out)
   have hb6:=Hd hnew
   have hx6:=hx5.out
   rw[hDv.out] at hx6
   have hxc:=Hd (NH hx6)
   clear hx6
   have k1c:w5.cell? ⟨f,1,none⟩=some (.slice (some ⟨g,0,none⟩) N N):=(by rw[Za hat5.out];rfl)
   refine hKz.out _ _ hS ?_
   clear hKz Kz hOn hS
   intro hOn
   try clear hnew
   try simp only[Act.put]
   refine rd 7 (λKz hKz=>?_)
   rw[if_pos (by rfl)]
   (refine K5 (.tmp 54) (.tmp 56) 93 rfl hus 32 infoD.out dX dX ⟨g,0,none⟩ N (qs.flatMap cB) rfl hlo hqr5 hN6 _ (cB d) rfl hnl hxc ?_)
   intro v6 w6 hr6 hgr6
   have hO6:=Hd (Only.ofGrown (D:=λ_=>False) hgr6.out (λk e=>by cases e))
   have hS:=hO6.out.heap hOn (λe=>e)
   have hat6:=Hd (hO6.out.heap hat5.out (λe=>e))
   have f1c:w6.frozen? ⟨f,1,none⟩=false:=Zj hat6.out _
   have k1c:w6.cell? ⟨f,1,none⟩=some (.slice (some ⟨g,0,none⟩) N N):=(by rw[Za hat6.out];rfl)
   obtain⟨g6,c6,hv6,hg6⟩:=MK hr6.out
   subst hv6
   replace hg6:=Hd hg6
   refine hKz.out _ _ hS ?_
   clear hKz Kz hOn hS
   intro hOn
   try simp only[Act.put]
   refine tk 8 hOn ?_
   refine tk 9 hOn ?_
   refine rd 10 (λKz hKz=>?_)
   have hU7:=((Upd.refl hat6.out).setCell (j:=1) (.slice (some ⟨g6,0,none⟩) (N+1) c6))
   go_simp
   (with_reducible refine X5 ?_)
   intro w7 hw7
   rw[<-hw7] at hU7
   clear hw7
   have hS:=(hU7.block _ h5f).trans hOn
   replace hU7:=Hd hU7
   refine hKz.out _ _ hS ?_
   clear hKz Kz hOn hS
   intro hOn
   try simp only[Act.put]
   refine dnE ?_
   rotate_left
   refine ac (λKz hKz=>?_) AllReadyH.nil
   rw[if_pos (by rfl)]
   (refine QZ 93 1 (.tmp 55) rfl (.agg Dv) rfl _ _ (hsl.out _) ?_)
   (with_reducible refine Zq (t:=47) ?_)
   intro w5 hx5 hnew
   have hS:=(hnew.block _ (Zb hOn)).trans hOn
   have hat5:=Hd ((hnew.block f (Zb hatd.out)).trans hatd.out)
   have hqr5:=Hd (N9 (hqrd.out.below hnew nR) hqa.out)
   have hb6:=Hd hnew
   have hx6:=hx5.out
   rw[hDv.out] at hx6
   have hxc:=Hd (NH hx6)
   clear hx6
   have k1c:w5.cell? ⟨f,1,none⟩=some (.slice (some ⟨g,0,none⟩) N N):=(by rw[Za hat5.out];rfl)
   refine hKz.out _ _ hS ?_
   clear hKz Kz hOn hS
   intro hOn
   try clear hnew
   try simp only[Act.put]
   refine rd 4 (λKz hKz=>?_)
   go_simp
   focus (try go_wp2_with fail)
   refine hKz.out _ _ c1X ?_
   clear hKz Kz hOn
   intro hOn
   try simp only[Act.put,sL,sZ,sS]
   refine rd 7 (λKz hKz=>?_)
   rw[if_pos (by rfl)]
   (refine K5 (.tmp 54) (.tmp 56) 93 rfl hus 32 infoD.out dX dX ⟨g,0,none⟩ N (qs.flatMap cB) rfl hlo hqr5 hN6 _ (cB d) rfl hnl hxc ?_)
   intro v6 w6 hr6 hgr6
   have hO6:=Hd (Only.ofGrown (D:=λ_=>False) hgr6.out (λk e=>by cases e))
   have hS:=hO6.out.heap hOn (λe=>e)
   have hat6:=Hd (hO6.out.heap hat5.out (λe=>e))
   have f1c:w6.frozen? ⟨f,1,none⟩=false:=Zj hat6.out _
   have k1c:w6.cell? ⟨f,1,none⟩=some (.slice (some ⟨g,0,none⟩) N N):=(by rw[Za hat6.out];rfl)
   obtain⟨g6,c6,hv6,hg6⟩:=MK hr6.out
   subst hv6
   replace hg6:=Hd hg6
   refine hKz.out _ _ hS ?_
   clear hKz Kz hOn hS
   intro hOn
   try simp only[Act.put]
   refine tk 8 hOn ?_
   refine tk 9 hOn ?_
   refine rd 10 (λKz hKz=>?_)
   have hU7:=((Upd.refl hat6.out).setCell (j:=1) (.slice (some ⟨g6,0,none⟩) (N+1) c6))
   go_simp
   (with_reducible refine X5 ?_)
   intro w7 hw7
   rw[<-hw7] at hU7
   clear hw7
   have hS:=(hU7.block _ h5f).trans hOn
   replace hU7:=Hd hU7
   refine hKz.out _ _ hS ?_
   clear hKz Kz hOn hS
   intro hOn
   try simp only[Act.put]
   refine dnE ?_
   all_goals
    have g0:w7.cell? ⟨f,0,none⟩=some (.int .i64 nn):=by rw[Za hU7.out.here,<-hnn.out];rfl
    have gf:=Zj hU7.out.here 0
    have hU8:=Hd (hU7.out.setCell (j:=0) (.int .i64 (nn+1)))
    go_wp2_with fail
    go_ret
    have h6s:=hO6.out.size
    have h5s:=hb6.out.size
    have hfs:=Zb hatd.out
    have hws:=hOd.out.size
    have hO8:=Only.ofUpd (D:=λk=>k=f) hU8.out rfl
    have hat8:=hU8.out.here
    have hcs:((#[.int .i64 (n:Int),.slice (some ⟨g,0,none⟩) N N]:Array Value).setIfInBounds 1 (.slice (some ⟨g6,0,none⟩) (N+1) c6)).setIfInBounds 0 (.int .i64 (nn+1))=#[.int .i64 ((n+1:Nat):Int),.slice (some ⟨g6,0,none⟩) (N+1) c6]:=by rw[<-hnn.out];rfl
    rw[hcs] at hat8
    have hgb:=hg6.out
    have hrw:=LS hr6.out (show base<=w5.heap.size by omega) hN.out hqa.out hdl
    rw[<-hgp.out] at hrw
    refine hfin.out _ _ ⟨hat8,hrw.only Yg hO8 (λk hk=>hk.elim) (λk hk e=>?_),λe=>?_,hge.out⟩ ?_ (λk hk=>?_)
    ·simp only[Value.ownBlock,Option.some.injEq] at hk
     omega
    ·simp only[Value.ownBlock,Option.some.injEq] at e
     omega
    ·exact(((hOd.out.trans (Only.ofBelow (D:=λk=>k=f) hb6.out) (λ_ _ h=>h)).trans hO6.out (λk _ e=>e.elim)).trans hO8 (λ_ _ h=>h)).mono (λk _ e=>.inl e)
    ·simp only[Value.ownBlock,Option.some.injEq] at hk
     right
     omega
theorem LI:∀ (k n:Nat),ZX k n<=k:=by
 intro k
 induction k with
 | zero=>intro n;exact Nat.le_refl _
 | succ k ih=>
  intro n
  have h:=ih (n / 2)
  have e:ZX (k+1) n=n % 2+ZX k (n / 2):=rfl
  omega
theorem TZ{n:Nat}{ps:List (List UInt8)}{bs:List UInt8}(hn:n<=1000000)(h:ps.length=ZX 64 n):(Qc n ps bs).length=ZX 64 (n+1):=by
 have h1:=Tx 64 n ps (Qv bs) oX h
 have h2:=GF 64 (n+1) oX
 unfold Qc
 rw[List.length_append,List.length_singleton,h1,h2]
theorem VI{base:Nat}{w:World}{f n:Nat}{v:Value}{ps:List (List UInt8)}(h:FrM base w f n v ps)(hb:base<=w.heap.size)(hn2:n<=1000000)(hp:ps.length=ZX 64 n)(a:Option Addr)(c:Nat)(bs:List UInt8)(hA:ArgB w a c bs)(hl:bs.length<=1000)(hK:∀ W,Below base w W->ShaK W)(hF:∀ W,Below base w W->ShaF W) :
  Calls Tryz.prog 62 #[.pointer (some ⟨f,0,none⟩),.slice a bs.length c] w (XC base w f (n+1) v (Qc n ps bs)):=by
 have h64:=LI 64 n
 rcases Nat.mod_two_eq_zero_or_one n with h2|h2
 ·have e:Qc n ps bs=ps++[Qv bs]:=by unfold Qc;rw[Jq h2]
  rw[e]
  exact UV h hb h2 hn2 oX a c bs hA hl (hK w bR) (hF w bR)
 ·exact Tg h hb h2 hn2 hp oX a c bs hA hl hK hF
theorem PW(l:List UInt8)(k j:Nat):(l.drop k).getD j 0=l.getD (k+j) 0:=by
 simp only[List.getD_eq_getElem?_getD,List.getElem?_drop]
theorem Ru{all:List UInt8}{E i y:Nat}(hE:E-i*64<64)(hl:(i+1)*64<=all.length)(hy:y<64):(Ja all E i).getD y 0=if i*64+y<E then all.getD (i*64+y) 0 else 0:=by
 have h1:((all.drop (i*64)).take (E-i*64)).length=E-i*64:=by rw[List.length_take,List.length_drop];omega
 unfold Ja
 rw[List.getD_eq_getElem?_getD]
 by_cases h:i*64+y<E
 ·rw[if_pos h,List.getElem?_append_left oX,List.getElem?_take,if_pos oX,<-List.getD_eq_getElem?_getD,PW]
 ·rw[if_neg h,List.getElem?_append_right oX,List.getElem?_drop]
  cases hq:zSec[E-i*64+(y-((all.drop (i*64)).take (E-i*64)).length)]? with
  | none=>rfl
  | some u=>
   have hm:=List.mem_of_getElem? hq
   have hz:∀ u∈zSec,u=0:=dX
   exact hz u hm
theorem Tm{all:List UInt8}{E i:Nat}(h:Xp all E i<0)(hl:(i+1)*64<=all.length)(x:Nat)(hx:x / 64=i)(hE:E<=x):all.getD x 0=0:=by
 unfold Xp at h
 cases hz:Jc ((all.drop (i*64+(E-i*64))).take (64-(E-i*64))) with
 | false=>rw[hz] at h;simp at h;omega
 | true=>
  unfold Jc at hz
  rw[List.all_eq_true] at hz
  have hj:x=i*64+(E-i*64)+(x-(i*64+(E-i*64))):=oX
  have hlt:x<all.length:=oX
  have hm:all.getD x 0∈(all.drop (i*64+(E-i*64))).take (64-(E-i*64)):=by
   refine List.mem_of_getElem? (i:=x-(i*64+(E-i*64))) ?_
   rw[List.getElem?_take,if_pos oX,List.getElem?_drop,<-hj,List.getD_eq_getElem?_getD,List.getElem?_eq_getElem hlt]
   rfl
  have:=hz _ hm
  simpa using this
theorem Pg{all:List UInt8}{E i0 n:Nat}{p:DP}(hok:DOk p)(ha:p.armed=false)(hg:p.gone=false)(hn:p.n=(n:Int))(hE:E / 64<=i0)(hal:all.length=64*n)(hby:∀ x,x<64*n->Qy p x=all.getD x 0)(b:Bool):∀ k,i0+k<=n->
  DOk (ZP all E i0 k (p,b)).1/\(∀ x,Qy (ZP all E i0 k (p,b)).1 x=if i0<=x / 64/\x / 64<i0+k/\E<=x then 0 else Qy p x)/\((ZP all E i0 k (p,b)).2=false->(ZP all E i0 k (p,b)).1=p):=by
 intro k
 induction k with
 | zero=>intro _;exact⟨hok,λx=>by rw[if_neg oX];rfl,λ_=>rfl⟩
 | succ k ih=>
  intro hk
  obtain⟨h1,h2,h3⟩:=ih oX
  obtain⟨k1,k2,k3,k4,k5,k6,k7⟩:=VS ha hg hn hE hal b k oX
  have hu:ZP all E i0 (k+1) (p,b)=Yd all E (i0+k) (ZP all E i0 k (p,b)):=rfl
  rw[hu]
  generalize ZP all E i0 k (p,b)=s at*
  unfold Yd
  split
  ·next hlt=>
   refine⟨h1,λx=>?_,h3⟩
   rw[h2 x]
   by_cases hx:x / 64=i0+k/\E<=x
   ·rw[if_neg oX,if_pos oX,hby x oX]
    exact Tm hlt oX x hx.1 hx.2
   ·by_cases hc:i0<=x / 64/\x / 64<i0+k/\E<=x
    ·rw[if_pos hc,if_pos oX]
    ·rw[if_neg hc,if_neg oX]
  ·have hwl:(Ja all E (i0+k)).length=64:=UL oX oX
   rw[Jg (Ys k1 k2) oX (by rw[k3,hn];omega) hwl]
   refine⟨⟨h1.f,λq hq=>?_⟩,λx=>?_,λh=>by cases h⟩
   ·rcases List.mem_append.1 hq with hq|hq
    ·exact h1.ws q hq
    ·rw[List.mem_singleton.1 hq];exact hwl
   ·unfold Qy
    simp only
    rw[Ug]
    simp only
    have h2x:=h2 x
    unfold Qy at h2x
    by_cases hx:x / 64=i0+k
    ·rw[if_pos (by rw[hx]),Ru oX oX (Nat.mod_lt _ dX),show (i0+k)*64+x % 64=x by omega]
     by_cases hE2:x<E
     ·rw[if_pos hE2,if_neg oX]
      have:=hby x oX
      unfold Qy at this
      exact this.symm
     ·rw[if_neg hE2,if_pos oX]
    ·rw[if_neg oX,h2x]
     by_cases hc:i0<=x / 64/\x / 64<i0+k/\E<=x
     ·rw[if_pos hc,if_pos oX]
     ·rw[if_neg hc,if_neg oX]
theorem Gu(p:DP):∀ r∈Z1 p,okR r:=Gd _ _ _ (Nat.lt_succ_self _)
theorem GX{p:DP}{n:Nat}(hok:DOk p)(hn:p.n=(n:Int))(ha:p.armed=false)(hg:p.gone=false)(hw:p.ws=[]) :
  Good (X2 n p) n (Z1 p)/\Zh (Z1 p)<=64*n/\p.l-n-1<=(X2 n p).l/\(X2 n p).l<=p.l:=by
 have hal:(Z7 p).length=64*n:=by unfold Z7;rw[hn];exact hok.toLen n
 have hby:∀ x,x<64*n->Qy p x=(Z7 p).getD x 0:=λx hx=>by
  unfold Z7
  rw[hn,show ((n:Int)).toNat=n from rfl,hok.byteTo n x hx]
 obtain⟨e1,e2,_⟩:=N4 _ (Z7 p) z32J (Nat.lt_succ_self _)
 have hend:Zh (Z1 p)<=64*n:=by unfold Z1;omega
 have hfr:∀ x,x<64*n->(ZW z32J (Z1 p)).getD x 0=if x<Zh (Z1 p) then Qy p x else 0:=λx hx=>by
  unfold Z1
  rw[<-e2]
  by_cases h:x<Zh (ZC (Z7 p) z32J)
  ·rw[if_pos h,hby x hx]
   simp only[List.getD_eq_getElem?_getD,List.getElem?_take]
   rw[if_pos h]
  ·rw[if_neg h,List.getD_eq_getElem?_getD,List.getElem?_take,if_neg h]
   rfl
 unfold X2 Vs
 obtain⟨E,hE⟩:∃ E,E=Zh (Z1 p):=⟨_,rfl⟩
 rw[<-hE] at hend hfr ⊢
 obtain⟨k1,k2,k3,k4,k5,k6,k7⟩:=VS (i0:=E / 64) ha hg hn nR hal false (n-E / 64) oX
 obtain⟨b1,b2,b3⟩:=Pg (i0:=E / 64) hok ha hg hn nR hal hby false (n-E / 64) oX
 generalize ZP (Z7 p) E (E / 64) (n-E / 64) (p,false)=s at*
 have hsh:∀ x,x<64*n->Qy s.1 x=(ZW z32J (Z1 p)).getD x 0:=λx hx=>by
  rw[b2 x,hfr x hx]
  by_cases h:x<E
  ·rw[if_neg oX,if_pos h]
  ·rw[if_pos oX,if_neg h]
 by_cases h2:s.2=true
 ·rw[if_pos h2]
  have hs0:s.1.sync.2=0:=by unfold DP.sync;rw[Ys k1 k2];rfl
  obtain⟨q1,q2⟩:=Gp b1 hs0
  have hs:s.1.sync.1={ s.1 with l:=s.1.l-1,f:=ZJ (λ_=>some 64) s.1.ws s.1.f,ws:=[] }:=by unfold DP.sync;rw[Ys k1 k2];rfl
  refine⟨⟨q1,λx hx=>by rw[q2 x];exact hsh x hx,?_,?_,?_,?_⟩,hend,?_,?_⟩
  ·rw[hs];exact k3.trans hn
  ·rw[hs];exact k1
  ·rw[hs];exact k2
  ·rw[hs]
  ·rw[hs];simp only;omega
  ·rw[hs];simp only;omega
 ·rw[if_neg h2]
  have h3:=b3 (by simpa using h2)
  refine⟨⟨b1,hsh,k3.trans hn,k1,k2,?_⟩,hend,oX,oX⟩
  rw[h3];exact hw
theorem PJ(a b:W32)(k:Nat)(hk:k<32):(a ||| b) <<< UInt32.ofNat k=(a <<< UInt32.ofNat k) ||| (b <<< UInt32.ofNat k):=by
 apply UInt32.toNat_inj.1
 simp only[UInt32.toNat_shiftLeft,UInt32.toNat_or]
 have:(UInt32.ofNat k).toNat % 32=k:=sYq
 rw[this]
 rw[Nat.shiftLeft_or_distrib,Nat.or_mod_two_pow]
theorem M1(a:W32)(j k:Nat)(h:j+k<32):(a <<< UInt32.ofNat j) <<< UInt32.ofNat k=a <<< UInt32.ofNat (j+k):=by
 apply UInt32.toNat_inj.1
 simp only[UInt32.toNat_shiftLeft]
 have e1:(UInt32.ofNat k).toNat % 32=k:=sYq
 have e2:(UInt32.ofNat j).toNat % 32=j:=sYq
 have e3:(UInt32.ofNat (j+k)).toNat % 32=j+k:=sYq
 rw[e1,e2,e3,Nat.shiftLeft_eq,Nat.shiftLeft_eq,Nat.shiftLeft_eq,Nat.pow_add]
 rw[Nat.mod_mul_mod]
 rw[Nat.mul_assoc]
def DO(b0 b1 b2 b3:UInt8):W32:=(b0.toUInt32 <<< UInt32.ofNat 24 ||| b1.toUInt32 <<< UInt32.ofNat 16) ||| b2.toUInt32 <<< UInt32.ofNat 8 ||| b3.toUInt32
theorem LQ(b:List UInt8)(t:Nat):DO (cf b (4*t)) (cf b (4*t+1)) (cf b (4*t+2)) (cf b (4*t+3))=XY b t:=by
 unfold DO XY
 rw[show (8:W32)=UInt32.ofNat 8 from rfl,PJ _ _ 8 oX,PJ _ _ 8 oX,PJ _ _ 8 oX,M1 _ 8 8 oX,M1 _ 8 (8+8) oX,M1 _ 8 8 oX]
theorem Mt(c:UInt8):((c.toNat:Nat):Int)=wn c.toUInt32:=by unfold wn;simp
end Go.Proofs.YtpdhceiodgnbmaaGreatDoor
