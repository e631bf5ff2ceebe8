import Derived.Test.YtdilmfnpkeihiaaGreatDoorF0AudSaid
import Derived.Test.YtdilmfnpkeihiaaGreatDoorF2AudSaid
import Derived.Test.YtdilmfnpkeihiaaGreatDoorF6AudSaid
import Derived.Test.YtdilmfnpkeihiaaGreatDoorF9AudSaid
import Derived.Test.YtdilmfnpkeihiaaGreatDoorF10AudSaid
set_option linter.unusedVariables false
set_option linter.unusedSimpArgs false
set_option linter.unnecessarySimpa false
set_option maxRecDepth 100000
set_option maxHeartbeats 8000000
namespace Go.Proofs.YtdilmfnpkeihiaaGreatDoor
open Go.RowKit
def X7(w:World)(xs:List It)(x:Ending)(w':World):Prop:=∃ v,x=.returned v/\RowsOf RI 86 76 w.heap.size w' (λ_=>False) v xs/\Below w.heap.size w w'
theorem Uq(a:Option Addr)(c:Nat)(xs:List It)(hok:∀ x∈xs,x.Ok)(w:World)(h:RowAt It.list 76 w a xs)(hl:xs.length<=100000) :
  Calls Tryz.prog 75 #[.slice a xs.length c] w (X7 w xs):=by
 obtain⟨i0,hi0,h2⟩:=Option.map_eq_some_iff.1 GA
 simp only[Prod.mk.injEq] at h2
 obtain⟨hz,hs1,hby⟩:=h2
 obtain⟨z,hz1,hz2⟩:=Option.map_eq_some_iff.1 hz
 have hq:=@Lib.run_eql_slice_nil Tryz.prog w 81 86 a xs.length c 0 0 Tryz.underlying81
 cases a with
 | none=>
  have hx:xs=[]:=by
   cases xs with
   | nil=>rfl
   | cons x xs=>obtain⟨b,o,e,_⟩:=h 0 sX;cases e
  subst hx
  have hq':=@Lib.run_eql_slice_nil Tryz.prog w 81 86 none 0 c 0 0 Tryz.underlying81
  clear h hok hi0 hz hs1 hby hz1 hz2 hl hq
  go_enter Tryz.func75,Tryz.ntmps75
  go_wp2_with fail
  go_ret
  exact⟨_,rfl,RowsOf.nil _ _,Below.refl _ _⟩
 | some ad=>
  have hlen:∀ x∈xs,(It.list x).length=76:=λx hx=>It.list_length (hok x hx)
  have hcells:∀ j u,(xs.flatMap It.list)[j]? = some u->w.cell? (ad.add j)=some u:=λj u hu=>by
   cases xs with
   | nil=>simp at hu
   | cons x0 xt=>
    obtain⟨b,o,e,_⟩:=h 0 sX
    cases e
    rw[Addr.add_mid]
    exact X0 dX hlen (λk hk=>by obtain⟨b',o',e',h'⟩:=h k hk;cases e';exact h') j u hu
  have hfl:=Q6 xs hlen
  have hone:∀ u∈xs.flatMap It.list,u.oneCell'=true:=λu hu=>by
   obtain⟨x,_,hx⟩:=List.mem_flatMap.1 hu
   exact It.list_one x u hx
  have hrow:∀ (W:World) v,W.ownsRow w.heap.size 86 76 v xs.length (xs.flatMap It.list)->RowsOf RI 86 76 w.heap.size W (λ_=>False) v xs:=λW v hW=>X8 (λx hx=>⟨rfl,hok x hx⟩) hW
  obtain⟨N,hN⟩:∃ N,N=xs.length:=⟨_,rfl⟩
  rw[<-hN] at hq hfl hl hrow ⊢
  generalize xs.flatMap It.list=news at*
  replace hcells:=Hd hcells
  replace hone:=Hd hone
  replace hrow:=Hd hrow
  replace hfl:=Hd hfl
  replace hN:=Hd hN
  clear h hok hlen
  go_enter Tryz.func75,Tryz.ntmps75
  go_wp2_with (at_builtin;refine wpList_append_own _ rfl (.tmp 5) (.tmp 6) 81 rfl w.heap.size 86 i0 z 76 168 Tryz.underlying81 hi0 hz1 hs1 hby hz2 dX _ _ _ rfl (World.ownsRow_made w #[] 0 nR (Nat.zero_le _) sX) ad N c news rfl ?qc1 ?qc2 ?qc3 ?qc4 ?qc5 ?qc6 ?_)
  case qc1=>exact hfl.out
  case qc2=>
   intro j u hj
   exact Lib.cell?_alloc_some _ (hcells.out j u hj)
  case qc3=>exact hone.out
  case qc4=>unfold maxLen;omega
  case qc5=>omega
  case qc6=>simp
  intro v' w1 hown hgrow hnil
  have hown:=Hd (show w1.ownsRow w.heap.size 86 76 v' N news by simpa using hown)
  have hgrow:=Hd hgrow
  clear hnil
  go_wp2_with fail
  go_ret
  exact⟨_,rfl,hrow.out _ _ hown.out,((Below.refl _ w).alloc nR _).grown hgrow.out sX (by intro k hk;simp[Value.ownBlock] at hk;omega)⟩
def Xy(w:World)(xs:List En)(x:Ending)(w':World):Prop:=∃ v,x=.returned v/\RowsOf RE 77 7 w.heap.size w' (λ_=>False) v xs/\Below w.heap.size w w'
theorem VV(a:Option Addr)(c:Nat)(xs:List En)(hok:∀ x∈xs,x.Ok)(w:World)(h:RowAt En.list 7 w a xs)(hl:xs.length<=100000) :
  Calls Tryz.prog 76 #[.slice a xs.length c] w (Xy w xs):=by
 obtain⟨i0,hi0,h2⟩:=Option.map_eq_some_iff.1 G2
 simp only[Prod.mk.injEq] at h2
 obtain⟨hz,hs1,hby⟩:=h2
 obtain⟨z,hz1,hz2⟩:=Option.map_eq_some_iff.1 hz
 have hq:=@Lib.run_eql_slice_nil Tryz.prog w 80 77 a xs.length c 0 0 Tryz.underlying80
 cases a with
 | none=>
  have hx:xs=[]:=by
   cases xs with
   | nil=>rfl
   | cons x xs=>obtain⟨b,o,e,_⟩:=h 0 sX;cases e
  subst hx
  have hq':=@Lib.run_eql_slice_nil Tryz.prog w 80 77 none 0 c 0 0 Tryz.underlying80
  clear h hok hi0 hz hs1 hby hz1 hz2 hl hq
  go_enter Tryz.func76,Tryz.ntmps76
  go_wp2_with fail
  go_ret
  exact⟨_,rfl,RowsOf.nil _ _,Below.refl _ _⟩
 | some ad=>
  have hlen:∀ x∈xs,(En.list x).length=7:=λx hx=>rfl
  have hcells:∀ j u,(xs.flatMap En.list)[j]? = some u->w.cell? (ad.add j)=some u:=λj u hu=>by
   cases xs with
   | nil=>simp at hu
   | cons x0 xt=>
    obtain⟨b,o,e,_⟩:=h 0 sX
    cases e
    rw[Addr.add_mid]
    exact X0 dX hlen (λk hk=>by obtain⟨b',o',e',h'⟩:=h k hk;cases e';exact h') j u hu
  have hfl:=Q6 xs hlen
  have hone:∀ u∈xs.flatMap En.list,u.oneCell'=true:=λu hu=>by
   obtain⟨x,_,hx⟩:=List.mem_flatMap.1 hu
   exact En.list_one x u hx
  have hrow:∀ (W:World) v,W.ownsRow w.heap.size 77 7 v xs.length (xs.flatMap En.list)->RowsOf RE 77 7 w.heap.size W (λ_=>False) v xs:=λW v hW=>X8 (λx hx=>⟨rfl,hok x hx⟩) hW
  obtain⟨N,hN⟩:∃ N,N=xs.length:=⟨_,rfl⟩
  rw[<-hN] at hq hfl hl hrow ⊢
  generalize xs.flatMap En.list=news at*
  replace hcells:=Hd hcells
  replace hone:=Hd hone
  replace hrow:=Hd hrow
  replace hfl:=Hd hfl
  replace hN:=Hd hN
  clear h hok hlen
  go_enter Tryz.func76,Tryz.ntmps76
  go_wp2_with (at_builtin;refine wpList_append_own _ rfl (.tmp 5) (.tmp 6) 80 rfl w.heap.size 77 i0 z 7 56 Tryz.underlying80 hi0 hz1 hs1 hby hz2 dX _ _ _ rfl (World.ownsRow_made w #[] 0 nR (Nat.zero_le _) sX) ad N c news rfl ?qc1 ?qc2 ?qc3 ?qc4 ?qc5 ?qc6 ?_)
  case qc1=>exact hfl.out
  case qc2=>
   intro j u hj
   exact Lib.cell?_alloc_some _ (hcells.out j u hj)
  case qc3=>exact hone.out
  case qc4=>unfold maxLen;omega
  case qc5=>omega
  case qc6=>simp
  intro v' w1 hown hgrow hnil
  have hown:=Hd (show w1.ownsRow w.heap.size 77 7 v' N news by simpa using hown)
  have hgrow:=Hd hgrow
  clear hnil
  go_wp2_with fail
  go_ret
  exact⟨_,rfl,hrow.out _ _ hown.out,((Below.refl _ w).alloc nR _).grown hgrow.out sX (by intro k hk;simp[Value.ownBlock] at hk;omega)⟩
def KI(w:World)(m:St)(x:Ending)(w':World):Prop:=
 ∃ v v',x=.returned (.agg #[v,v'])/\RowsOf RI 86 76 w.heap.size w' (λ_=>False) v m.its/\RowsOf RE 77 7 w.heap.size w' (λ_=>False) v' m.ens/\(∀ k,v.ownBlock=some k->v'.ownBlock≠some k)/\Below w.heap.size w w'
theorem Kd(va:Value)(m:St)(w:World)(ha:ArgS w va m)(l1:m.its.length<=1000)(l2:m.ens.length<=1000) :
  Calls Tryz.prog 54 #[va] w (KI w m):=by
 obtain⟨⟨an,cn,av,cv,rfl,hN,hN1,hN2,hV,hV1,hV2⟩,okN,okV⟩:=ha
 obtain⟨N,hNl⟩:∃ N,N=m.its.length:=⟨_,rfl⟩
 obtain⟨V,hVl⟩:∃ V,V=m.ens.length:=⟨_,rfl⟩
 rw[<-hNl,<-hVl]
 clear hN1 hN2 hV1 hV2
 have hB:Below w.heap.size w ((w.alloc (.cells #[.slice an N cn,.slice av V cv] 83)).alloc (.cells #[.slice none 0 0,.slice none 0 0] 83)):=(bR.alloc nR _).alloc sX _
 obtain⟨w2,hw2⟩:∃ w2,w2=(w.alloc (.cells #[.slice an N cn,.slice av V cv] 83)).alloc (.cells #[.slice none 0 0,.slice none 0 0] 83):=⟨_,rfl⟩
 have e10:w2.cell? ⟨w.heap.size,0,none⟩=some (.slice an N cn):=by rw[hw2];exact Z1 (Za (heap_alloc_new w _) 0) _
 have e11:w2.cell? ⟨w.heap.size,1,none⟩=some (.slice av V cv):=by rw[hw2];exact Z1 (Za (heap_alloc_new w _) 1) _
 have a2:w2.heap[w.heap.size+1]? = some (.cells #[.slice none 0 0,.slice none 0 0] 83 (0,0)):=by
  have h1:=heap_alloc_new (w.alloc (.cells #[.slice an N cn,.slice av V cv] 83)) (.cells #[.slice none 0 0,.slice none 0 0] 83 (0,0))
  rw[World.size_alloc] at h1
  rw[hw2]
  exact h1
 have hs2:w2.heap.size=w.heap.size+2:=by rw[hw2];simp
 rw[<-hw2] at hB
 have hd2:Hid (Below (w.heap.size+1) w2 w2.drew):=Hd (bR.drew)
 have hc0:∀ W:World,Below (w.heap.size+1) w2 W->W.cell? ⟨w.heap.size,0,none⟩=some (.slice an N cn):=λW hW=>(hW.cell (p:=⟨w.heap.size,0,none⟩) (Nat.lt_succ_self _)).trans e10
 have hc1:∀ W:World,Below (w.heap.size+1) w2 W->W.cell? ⟨w.heap.size,1,none⟩=some (.slice av V cv):=λW hW=>(hW.cell (p:=⟨w.heap.size,1,none⟩) (Nat.lt_succ_self _)).trans e11
 have hcn:∀ W:World,Below (w.heap.size+1) w2 W->Calls Tryz.prog 75 #[.slice an N cn] W (X7 W m.its):=λW hW=>by
  have:=Uq an cn m.its okN W (hN.below (hB.trans (hW.mono (Nat.le_succ _))) nR) oX
  rwa [<-hNl] at this
 have hcv:∀ W:World,Below (w.heap.size+1) w2 W->Calls Tryz.prog 76 #[.slice av V cv] W (Xy W m.ens):=λW hW=>by
  have:=VV av cv m.ens okV W (hV.below (hB.trans (hW.mono (Nat.le_succ _))) nR) oX
  rwa [<-hVl] at this
 have huM:Tryz.prog.underlying 83=_:=Tryz.underlying83
 replace hs2:=Hd hs2
 replace hcn:=Hd hcn
 replace hcv:=Hd hcv
 replace hw2:=Hd hw2
 replace a2:=Hd a2
 replace hB:=Hd hB
 replace hNl:=Hd hNl
 replace hVl:=Hd hVl
 replace okN:=Hd okN
 replace okV:=Hd okV
 replace hN:=Hd hN
 replace hV:=Hd hV
 clear e10 e11
 go_enter Tryz.func54,Tryz.ntmps54
 go_wp2_with fail
 rw[<-hw2.out]
 clear hw2
 replace a2:Hid (w2.drew.heap[w.heap.size+1]? = some (.cells #[.slice none 0 0,.slice none 0 0] 83 (0,0))):=Hd a2.out
 refine wp_region_held_drew (S:=(Below (w.heap.size+1) w2)) kX hd2.out (λhOn=>?_)
 generalize World.drew w2=wd at*
 refine tk 0 hOn ?_
 refine tk 1 hOn ?_
 refine tk 3 hOn ?_
 refine tk 4 hOn ?_
 refine rd 2 (λKz hKz=>?_)
 go_simp
 (with_reducible refine(hcn.out _ hOn).mono ?_)
 rintro e w3 ⟨v3,rfl,hr3,hnew⟩
 obtain⟨a3,n3,c3,hv3⟩:∃ a n c,v3=.slice a n c:=(by obtain⟨a,c,e,_⟩:=hr3.form;exact⟨a,_,c,e⟩)
 subst hv3
 have hS:=hOn.trans (hnew.mono (by have:=hOn.size;have:=hs2.out;omega))
 replace a2:=Hd ((hnew.block _ (Zb a2.out)).trans a2.out)
 have hlo3:=Hd hOn.size
 have hlt3:=Hd (show ∀ k,(Value.slice a3 n3 c3).ownBlock=some k->k<w3.heap.size from λk hk=>(hr3.ownLt k hk).2)
 replace hr3:=Hd hr3
 (try replace hr4:=Hd (hr4.out.below Y4 hnew))
 focus (go_wp2_with fail)
 refine hKz.out _ _ hS ?_
 clear hKz Kz hOn hS
 intro hOn
 try clear hnew
 try simp only[Act.put,sL,sZ,sS]
 refine rd 5 (λKz hKz=>?_)
 go_simp
 (with_reducible refine(hcv.out _ hOn).mono ?_)
 rintro e w4 ⟨v4,rfl,hr4,hnew⟩
 obtain⟨a4,n4,c4,hv4⟩:∃ a n c,v4=.slice a n c:=(by obtain⟨a,c,e,_⟩:=hr4.form;exact⟨a,_,c,e⟩)
 subst hv4
 have hS:=hOn.trans (hnew.mono (by have:=hOn.size;have:=hs2.out;omega))
 replace a2:=Hd ((hnew.block _ (Zb a2.out)).trans a2.out)
 have hlo4:=Hd hOn.size
 replace hr4:=Hd hr4
 (try replace hr3:=Hd (hr3.out.below YA hnew))
 focus (go_wp2_with fail)
 refine hKz.out _ _ hS ?_
 clear hKz Kz hOn hS
 intro hOn
 try clear hnew
 try simp only[Act.put,sL,sZ,sS]
 refine tk 6 hOn ?_
 refine rd 7 (λKz hKz=>?_)
 rw[if_pos (by rfl)]
 (with_reducible refine QD 83 (.tmp 2) (.tmp 9) rfl (w.heap.size+1) #[.slice none 0 0,.slice none 0 0] #[.slice a3 n3 c3,.slice a4 n4 c4] rfl rfl a2 kX rfl (by simp[Value.oneCell']) ?_)
 intro w5 hU5
 have hS:=hOn.trans (hU5.out.below nR)
 have hr5:=Hd (hr3.out.only YA (Only.ofUpd (D:=λk=>k=w.heap.size+1) hU5.out rfl) (λk hk=>hk.elim) (λk hk e=>by have:=(hr3.out.ownLt k hk).1;have:=hlo3.out;have:=hs2.out;omega))
 have hr6:=Hd (hr4.out.only Y4 (Only.ofUpd (D:=λk=>k=w.heap.size+1) hU5.out rfl) (λk hk=>hk.elim) (λk hk e=>by have:=(hr4.out.ownLt k hk).1;have:=hlo4.out;have:=hs2.out;omega))
 refine hKz.out _ _ hS ?_
 clear hKz Kz hOn hS
 intro hOn
 try simp only[Act.put]
 refine dnE ?_
 all_goals
  go_wp2_with fail
  refine Zm (c:=#[.slice a3 n3 c3,.slice a4 n4 c4]) rfl rfl huM rfl kX hU5.out.here ?_
  have hs2:=hs2.out
  have hlo3:=hlo3.out
  have hlo4:=hlo4.out
  refine⟨_,_,rfl,hr5.out.mono oX,hr6.out.mono oX,λk h1 h2=>?_,hB.out.trans (hOn.mono (Nat.le_succ _))⟩
  have h3:=hlt3.out k h1
  have h4:=(hr6.out.ownLt k h2).1
  omega
end Go.Proofs.YtdilmfnpkeihiaaGreatDoor
