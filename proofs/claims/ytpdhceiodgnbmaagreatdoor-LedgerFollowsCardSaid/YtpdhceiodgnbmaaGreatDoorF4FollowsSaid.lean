import Derived.Test.YtpdhceiodgnbmaaGreatDoorF0FollowsSaid
import Derived.Test.YtpdhceiodgnbmaaGreatDoorF1FollowsSaid
import Derived.Test.YtpdhceiodgnbmaaGreatDoorF2FollowsSaid
import Derived.Test.YtpdhceiodgnbmaaGreatDoorF3FollowsSaid
import Derived.Laws.OwnMore
import Derived.RegionTactic
set_option linter.unusedVariables false
set_option linter.unusedSimpArgs false
set_option linter.unnecessarySimpa false
set_option maxRecDepth 100000
set_option maxHeartbeats 8000000
namespace Go.Proofs.YtpdhceiodgnbmaaGreatDoor
open Go.RowKit
def VP(w:World)(xs:List It)(x:Ending)(w':World):Prop:=∃ v,x=.returned v/\RowsOf RI 58 76 w.heap.size w' (λ_=>False) v xs/\Below w.heap.size w w'
theorem N9(a:Option Addr)(c:Nat)(xs:List It)(hok:∀ x∈xs,x.Ok)(w:World)(h:RowAt It.list 76 w a xs)(hl:xs.length<=100000) :
  Calls Tryz.prog 96 #[.slice a xs.length c] w (VP w xs):=by
 obtain⟨i0,hi0,h2⟩:=Option.map_eq_some_iff.1 Ux
 simp only[Prod.mk.injEq] at h2
 obtain⟨hz,hs1,hby⟩:=h2
 obtain⟨z,hz1,hz2⟩:=Option.map_eq_some_iff.1 hz
 have hq:=@Lib.run_eql_slice_nil Tryz.prog w 25 58 a xs.length c 0 0 Tryz.underlying25
 cases a with
 | none=>
  have hx:xs=[]:=by
   cases xs with
   | nil=>rfl
   | cons x xs=>obtain⟨b,o,e,_⟩:=h 0 sX;cases e
  subst hx
  have hq':=@Lib.run_eql_slice_nil Tryz.prog w 25 58 none 0 c 0 0 Tryz.underlying25
  clear h hok hi0 hz hs1 hby hz1 hz2 hl hq
  go_enter Tryz.func96,Tryz.ntmps96
  go_wp2_with fail
  go_ret
  exact⟨_,rfl,RowsOf.nil _ _,Below.refl _ _⟩
 | some ad=>
  have hlen:∀ x∈xs,(It.list x).length=76:=λx hx=>It.list_length (hok x hx)
  have hcells:∀ j u,(xs.flatMap It.list)[j]? = some u->w.cell? (ad.add j)=some u:=λj u hu=>by
   cases xs with
   | nil=>simp at hu
   | cons x0 xt=>
    obtain⟨b,o,e,_⟩:=h 0 sX
    cases e
    rw[Addr.add_mid]
    exact Jp dX hlen (λk hk=>by obtain⟨b',o',e',h'⟩:=h k hk;cases e';exact h') j u hu
  have hfl:=Yh xs hlen
  have hone:∀ u∈xs.flatMap It.list,u.oneCell'=true:=λu hu=>by
   obtain⟨x,_,hx⟩:=List.mem_flatMap.1 hu
   exact It.list_one x u hx
  have hrow:∀ (W:World) v,W.ownsRow w.heap.size 58 76 v xs.length (xs.flatMap It.list)->RowsOf RI 58 76 w.heap.size W (λ_=>False) v xs:=λW v hW=>YL (λx hx=>⟨rfl,hok x hx⟩) hW
  obtain⟨N,hN⟩:∃ N,N=xs.length:=⟨_,rfl⟩
  rw[<-hN] at hq hfl hl hrow ⊢
  generalize xs.flatMap It.list=news at*
  replace hcells:=Hd hcells
  replace hone:=Hd hone
  replace hrow:=Hd hrow
  replace hfl:=Hd hfl
  replace hN:=Hd hN
  clear h hok hlen
  go_enter Tryz.func96,Tryz.ntmps96
  go_wp2_with (at_builtin;refine wpList_append_own _ rfl (.tmp 5) (.tmp 6) 25 rfl w.heap.size 58 i0 z 76 168 Tryz.underlying25 hi0 hz1 hs1 hby hz2 dX _ _ _ rfl (World.ownsRow_made w #[] 0 nR (Nat.zero_le _) sX) ad N c news rfl ?qc1 ?qc2 ?qc3 ?qc4 ?qc5 ?qc6 ?_)
  case qc1=>exact hfl.out
  case qc2=>
   intro j u hj
   exact Lib.cell?_alloc_some _ (hcells.out j u hj)
  case qc3=>exact hone.out
  case qc4=>unfold maxLen;omega
  case qc5=>omega
  case qc6=>simp
  intro v' w1 hown hgrow hnil
  have hown:=Hd (show w1.ownsRow w.heap.size 58 76 v' N news by simpa using hown)
  have hgrow:=Hd hgrow
  clear hnil
  go_wp2_with fail
  go_ret
  exact⟨_,rfl,hrow.out _ _ hown.out,((Below.refl _ w).alloc nR _).grown hgrow.out sX (by intro k hk;simp[Value.ownBlock] at hk;omega)⟩
def Uk(w:World)(xs:List En)(x:Ending)(w':World):Prop:=∃ v,x=.returned v/\RowsOf RE 66 7 w.heap.size w' (λ_=>False) v xs/\Below w.heap.size w w'
theorem VR(a:Option Addr)(c:Nat)(xs:List En)(hok:∀ x∈xs,x.Ok)(w:World)(h:RowAt En.list 7 w a xs)(hl:xs.length<=100000) :
  Calls Tryz.prog 50 #[.slice a xs.length c] w (Uk w xs):=by
 obtain⟨i0,hi0,h2⟩:=Option.map_eq_some_iff.1 Jd
 simp only[Prod.mk.injEq] at h2
 obtain⟨hz,hs1,hby⟩:=h2
 obtain⟨z,hz1,hz2⟩:=Option.map_eq_some_iff.1 hz
 have hq:=@Lib.run_eql_slice_nil Tryz.prog w 26 66 a xs.length c 0 0 Tryz.underlying26
 cases a with
 | none=>
  have hx:xs=[]:=by
   cases xs with
   | nil=>rfl
   | cons x xs=>obtain⟨b,o,e,_⟩:=h 0 sX;cases e
  subst hx
  have hq':=@Lib.run_eql_slice_nil Tryz.prog w 26 66 none 0 c 0 0 Tryz.underlying26
  clear h hok hi0 hz hs1 hby hz1 hz2 hl hq
  go_enter Tryz.func50,Tryz.ntmps50
  go_wp2_with fail
  go_ret
  exact⟨_,rfl,RowsOf.nil _ _,Below.refl _ _⟩
 | some ad=>
  have hlen:∀ x∈xs,(En.list x).length=7:=λx hx=>rfl
  have hcells:∀ j u,(xs.flatMap En.list)[j]? = some u->w.cell? (ad.add j)=some u:=λj u hu=>by
   cases xs with
   | nil=>simp at hu
   | cons x0 xt=>
    obtain⟨b,o,e,_⟩:=h 0 sX
    cases e
    rw[Addr.add_mid]
    exact Jp dX hlen (λk hk=>by obtain⟨b',o',e',h'⟩:=h k hk;cases e';exact h') j u hu
  have hfl:=Yh xs hlen
  have hone:∀ u∈xs.flatMap En.list,u.oneCell'=true:=λu hu=>by
   obtain⟨x,_,hx⟩:=List.mem_flatMap.1 hu
   exact En.list_one x u hx
  have hrow:∀ (W:World) v,W.ownsRow w.heap.size 66 7 v xs.length (xs.flatMap En.list)->RowsOf RE 66 7 w.heap.size W (λ_=>False) v xs:=λW v hW=>YL (λx hx=>⟨rfl,hok x hx⟩) hW
  obtain⟨N,hN⟩:∃ N,N=xs.length:=⟨_,rfl⟩
  rw[<-hN] at hq hfl hl hrow ⊢
  generalize xs.flatMap En.list=news at*
  replace hcells:=Hd hcells
  replace hone:=Hd hone
  replace hrow:=Hd hrow
  replace hfl:=Hd hfl
  replace hN:=Hd hN
  clear h hok hlen
  go_enter Tryz.func50,Tryz.ntmps50
  go_wp2_with (at_builtin;refine wpList_append_own _ rfl (.tmp 5) (.tmp 6) 26 rfl w.heap.size 66 i0 z 7 56 Tryz.underlying26 hi0 hz1 hs1 hby hz2 dX _ _ _ rfl (World.ownsRow_made w #[] 0 nR (Nat.zero_le _) sX) ad N c news rfl ?qc1 ?qc2 ?qc3 ?qc4 ?qc5 ?qc6 ?_)
  case qc1=>exact hfl.out
  case qc2=>
   intro j u hj
   exact Lib.cell?_alloc_some _ (hcells.out j u hj)
  case qc3=>exact hone.out
  case qc4=>unfold maxLen;omega
  case qc5=>omega
  case qc6=>simp
  intro v' w1 hown hgrow hnil
  have hown:=Hd (show w1.ownsRow w.heap.size 66 7 v' N news by simpa using hown)
  have hgrow:=Hd hgrow
  clear hnil
  go_wp2_with fail
  go_ret
  exact⟨_,rfl,hrow.out _ _ hown.out,((Below.refl _ w).alloc nR _).grown hgrow.out sX (by intro k hk;simp[Value.ownBlock] at hk;omega)⟩
def Rl(w:World)(m:St)(x:Ending)(w':World):Prop:=
 ∃ v v',x=.returned (.agg #[v,v'])/\RowsOf RI 58 76 w.heap.size w' (λ_=>False) v m.its/\RowsOf RE 66 7 w.heap.size w' (λ_=>False) v' m.ens/\(∀ k,v.ownBlock=some k->v'.ownBlock≠some k)/\Below w.heap.size w w'
theorem YG(va:Value)(m:St)(w:World)(ha:ArgS w va m)(l1:m.its.length<=1000)(l2:m.ens.length<=1000) :
  Calls Tryz.prog 53 #[va] w (Rl w m):=by
 obtain⟨⟨an,cn,av,cv,rfl,hN,hN1,hN2,hV,hV1,hV2⟩,okN,okV⟩:=ha
 obtain⟨N,hNl⟩:∃ N,N=m.its.length:=⟨_,rfl⟩
 obtain⟨V,hVl⟩:∃ V,V=m.ens.length:=⟨_,rfl⟩
 rw[<-hNl,<-hVl]
 clear hN1 hN2 hV1 hV2
 have hB:Below w.heap.size w ((w.alloc (.cells #[.slice an N cn,.slice av V cv] 28)).alloc (.cells #[.slice none 0 0,.slice none 0 0] 28)):=(bR.alloc nR _).alloc sX _
 obtain⟨w2,hw2⟩:∃ w2,w2=(w.alloc (.cells #[.slice an N cn,.slice av V cv] 28)).alloc (.cells #[.slice none 0 0,.slice none 0 0] 28):=⟨_,rfl⟩
 have e10:w2.cell? ⟨w.heap.size,0,none⟩=some (.slice an N cn):=by rw[hw2];exact Yr (Za (heap_alloc_new w _) 0) _
 have e11:w2.cell? ⟨w.heap.size,1,none⟩=some (.slice av V cv):=by rw[hw2];exact Yr (Za (heap_alloc_new w _) 1) _
 have a2:w2.heap[w.heap.size+1]? = some (.cells #[.slice none 0 0,.slice none 0 0] 28 (0,0)):=by
  have h1:=heap_alloc_new (w.alloc (.cells #[.slice an N cn,.slice av V cv] 28)) (.cells #[.slice none 0 0,.slice none 0 0] 28 (0,0))
  rw[World.size_alloc] at h1
  rw[hw2]
  exact h1
 have hs2:w2.heap.size=w.heap.size+2:=by rw[hw2];simp
 rw[<-hw2] at hB
 have hd2:Hid (Below (w.heap.size+1) w2 w2.drew):=Hd (bR.drew)
 have hc0:∀ W:World,Below (w.heap.size+1) w2 W->W.cell? ⟨w.heap.size,0,none⟩=some (.slice an N cn):=λW hW=>(hW.cell (p:=⟨w.heap.size,0,none⟩) (Nat.lt_succ_self _)).trans e10
 have hc1:∀ W:World,Below (w.heap.size+1) w2 W->W.cell? ⟨w.heap.size,1,none⟩=some (.slice av V cv):=λW hW=>(hW.cell (p:=⟨w.heap.size,1,none⟩) (Nat.lt_succ_self _)).trans e11
 have hcn:∀ W:World,Below (w.heap.size+1) w2 W->Calls Tryz.prog 96 #[.slice an N cn] W (VP W m.its):=λW hW=>by
  have:=N9 an cn m.its okN W (hN.below (hB.trans (hW.mono (Nat.le_succ _))) nR) oX
  rwa [<-hNl] at this
 have hcv:∀ W:World,Below (w.heap.size+1) w2 W->Calls Tryz.prog 50 #[.slice av V cv] W (Uk W m.ens):=λW hW=>by
  have:=VR av cv m.ens okV W (hV.below (hB.trans (hW.mono (Nat.le_succ _))) nR) oX
  rwa [<-hVl] at this
 have huM:Tryz.prog.underlying 28=_:=Tryz.underlying28
 replace hs2:=Hd hs2
 replace hcn:=Hd hcn
 replace hcv:=Hd hcv
 replace hw2:=Hd hw2
 replace a2:=Hd a2
 replace hB:=Hd hB
 replace hNl:=Hd hNl
 replace hVl:=Hd hVl
 replace okN:=Hd okN
 replace okV:=Hd okV
 replace hN:=Hd hN
 replace hV:=Hd hV
 clear e10 e11
 go_enter Tryz.func53,Tryz.ntmps53
 go_wp2_with fail
 rw[<-hw2.out]
 clear hw2
 replace a2:Hid (w2.drew.heap[w.heap.size+1]? = some (.cells #[.slice none 0 0,.slice none 0 0] 28 (0,0))):=Hd a2.out
 refine wp_region_held_drew (S:=(Below (w.heap.size+1) w2)) kX hd2.out (λhOn=>?_)
 generalize World.drew w2=wd at*
 refine tk 0 hOn ?_
 refine tk 1 hOn ?_
 refine tk 3 hOn ?_
 refine tk 4 hOn ?_
 refine rd 2 (λKz hKz=>?_)
 go_simp
 (with_reducible refine(hcn.out _ hOn).mono ?_)
 rintro e w3 ⟨v3,rfl,hr3,hnew⟩
 obtain⟨a3,n3,c3,hv3⟩:∃ a n c,v3=.slice a n c:=(by obtain⟨a,c,e,_⟩:=hr3.form;exact⟨a,_,c,e⟩)
 subst hv3
 have hS:=hOn.trans (hnew.mono (by have:=hOn.size;have:=hs2.out;omega))
 replace a2:=Hd ((hnew.block _ (Zb a2.out)).trans a2.out)
 have hlo3:=Hd hOn.size
 have hlt3:=Hd (show ∀ k,(Value.slice a3 n3 c3).ownBlock=some k->k<w3.heap.size from λk hk=>(hr3.ownLt k hk).2)
 replace hr3:=Hd hr3
 (try replace hr4:=Hd (hr4.out.below Zj hnew))
 focus (go_wp2_with fail)
 refine hKz.out _ _ hS ?_
 clear hKz Kz hOn hS
 intro hOn
 try clear hnew
 try simp only[Act.put,sL,sZ,sS]
 refine rd 5 (λKz hKz=>?_)
 go_simp
 (with_reducible refine(hcv.out _ hOn).mono ?_)
 rintro e w4 ⟨v4,rfl,hr4,hnew⟩
 obtain⟨a4,n4,c4,hv4⟩:∃ a n c,v4=.slice a n c:=(by obtain⟨a,c,e,_⟩:=hr4.form;exact⟨a,_,c,e⟩)
 subst hv4
 have hS:=hOn.trans (hnew.mono (by have:=hOn.size;have:=hs2.out;omega))
 replace a2:=Hd ((hnew.block _ (Zb a2.out)).trans a2.out)
 have hlo4:=Hd hOn.size
 replace hr4:=Hd hr4
 (try replace hr3:=Hd (hr3.out.below Zk hnew))
 focus (go_wp2_with fail)
 refine hKz.out _ _ hS ?_
 clear hKz Kz hOn hS
 intro hOn
 try clear hnew
 try simp only[Act.put,sL,sZ,sS]
 refine tk 6 hOn ?_
 refine rd 7 (λKz hKz=>?_)
 rw[if_pos (by rfl)]
 (with_reducible refine Zl 28 (.tmp 2) (.tmp 9) rfl (w.heap.size+1) #[.slice none 0 0,.slice none 0 0] #[.slice a3 n3 c3,.slice a4 n4 c4] rfl rfl a2 kX rfl (by simp[Value.oneCell']) ?_)
 intro w5 hU5
 have hS:=hOn.trans (hU5.out.below nR)
 have hr5:=Hd (hr3.out.only Zk (Only.ofUpd (D:=λk=>k=w.heap.size+1) hU5.out rfl) (λk hk=>hk.elim) (λk hk e=>by have:=(hr3.out.ownLt k hk).1;have:=hlo3.out;have:=hs2.out;omega))
 have hr6:=Hd (hr4.out.only Zj (Only.ofUpd (D:=λk=>k=w.heap.size+1) hU5.out rfl) (λk hk=>hk.elim) (λk hk e=>by have:=(hr4.out.ownLt k hk).1;have:=hlo4.out;have:=hs2.out;omega))
 refine hKz.out _ _ hS ?_
 clear hKz Kz hOn hS
 intro hOn
 try simp only[Act.put]
 refine dnE ?_
 all_goals
  go_wp2_with fail
  refine Z7 (c:=#[.slice a3 n3 c3,.slice a4 n4 c4]) rfl rfl huM rfl kX hU5.out.here ?_
  have hs2:=hs2.out
  have hlo3:=hlo3.out
  have hlo4:=hlo4.out
  refine⟨_,_,rfl,hr5.out.mono oX,hr6.out.mono oX,λk h1 h2=>?_,hB.out.trans (hOn.mono (Nat.le_succ _))⟩
  have h3:=hlt3.out k h1
  have h4:=(hr6.out.ownLt k h2).1
  omega
theorem Jn(a b:ByteArray):(a.toList==b.toList)=decide (a=b):=by
 rw[<-beq_toListBytes,Bool.eq_iff_iff,decide_eq_true_iff]
 have h:(a==b)=(a.data==b.data):=rfl
 rw[h,beq_iff_eq]
 exact⟨λe=>by cases a;cases b;exact congrArg _ e,λe=>by rw[e]⟩
section
variable {P:Program} {fn:Func} {R:Ending->World->Prop} {p q:Tmp} {ty:TypeId}
theorem Va(h:fn.results=#[.cell p ty,.tmp q])(tmps:Array Value)(w:World) :
  (results fn tmps).run P w=((asAddr (tmps.getD p undef)).run P w).andThen λa w₁=>((loadVar ty a).run P w₁).andThen λv w₂=>.ok (.tuple #[v,tmps.getD q undef]) w₂:=by
 simp[results,h,Sem.run_bind,Result.andThen]
theorem Zf{tmps:Array Value}{W:World}{b:Nat}{c:Array Value}{d:TypeDesc}(h:fn.results=#[.cell p ty,.tmp q])
  (hp:tmps.getD p undef=.pointer (some ⟨b,0,none⟩)) (hu:P.underlying ty=some d) (hd:(match d with | .struct _ | .array _ _=>true|_=>false)=true) (hi:(P.info? ty).map (·.size)=some c.size) (hh:W.heap[b]? = some (.cells c ty (0,0))) (hR:R (.returned (.tuple #[.agg c,tmps.getD q undef])) W) :
  bodyPost P fn R .ret ⟨tmps,[]⟩ W:=by
 refine bodyPost_ret (v:=.tuple #[.agg c,tmps.getD q undef]) ?_ rfl hR
 rw[Va h,hp]
 simp[asAddr,Result.andThen,run_loadVar_row W b ty ty c (0,0) d hh hu hd hi]
end
section
variable {P:Program} {fn:Func} {R:Ending->World->Prop} {p q r:Tmp} {ty:TypeId}
end
theorem Vi{α:Type}{enc:α->List Value}{size:Nat}(u:Value)(x':α):∀ (xs:List α),(∀ x∈xs,(enc x).length=size)->∀ (i r:Nat) (hi:i<xs.length),r<size->enc x'=(enc xs[i]).set r u->(xs.flatMap enc).set (i*size+r) u=(xs.set i x').flatMap enc
 | [],_,i,r,hi,_,_=>absurd hi (Nat.not_lt_zero _)
 | x::xs,h,i,r,hi,hr,he=>by
  have hx:=h x (List.mem_cons_self ..)
  cases i with
  | zero=>
   rw[Nat.zero_mul,Nat.zero_add,List.flatMap_cons,List.set_append_left _ _ oX,List.set_cons_zero,List.flatMap_cons,he]
   rfl
  | succ i=>
   rw[List.flatMap_cons,List.set_append_right _ _ (by rw[hx,Nat.succ_mul];omega),List.set_cons_succ,List.flatMap_cons,hx,show (i+1)*size+r-size=i*size+r by rw[Nat.succ_mul];omega,
    Vi u x' xs (λy hy=>h y (List.mem_cons_of_mem _ hy)) i r (by simpa using hi) hr he]
theorem Vk{α:Type}{enc:α->List Value}{R:World->(Nat->Prop)->α->List Value->Prop}{e:TypeId}{size base:Nat}{w:World}{F:Nat->Prop}{v:Value}{xs:List α}(hR:∀ w F x cs,R w F x cs->cs=enc x)(h:RowsOf R e size base w F v xs):w.ownsRow base e size v xs.length (xs.flatMap enc):=by
 obtain⟨css,h1,h2,h3⟩:=h.row
 have:css=xs.map enc:=by
  apply List.ext_getElem (by simp[h1])
  intro i h4 h5
  rw[List.getElem_map]
  exact hR _ _ _ _ (h3 i _ _ (List.getElem?_eq_getElem (by simpa using h5)) (List.getElem?_eq_getElem h4))
 rw[this,<-List.flatMap_def] at h2
 exact h2
theorem It.zeroG:Tryz.zeroCells58=(default:It).list.toArray:=kX
theorem XX{w:World}{b:Nat}{o:Obj}(h:w.heap[b]? = some o)(o':Obj):(w.alloc o').heap[b]? = some o:=
 (((Below.refl w.heap.size w).alloc nR o').block b (Zb h)).trans h
theorem QI(w:World)(C D:Array Value)(t u:TypeId)(W:World)(hW:W=(w.alloc (.cells C t)).alloc (.cells D u)) :
  W.heap[w.heap.size]? = some (.cells C t (0,0))/\W.heap[w.heap.size+1]? = some (.cells D u (0,0))/\W.heap.size=w.heap.size+2/\Below w.heap.size w W:=by
 subst hW
 refine⟨XX (heap_alloc_new w _) _,?_,sX,(bR.alloc nR _).alloc sX _⟩
 have h:=heap_alloc_new (w.alloc (.cells C t)) (.cells D u (0,0))
 rw[World.size_alloc] at h
 exact h
theorem Yj(va:Value)(m:St)(w:World)(ha:ArgS w va m)(i:Nat)(hi:i<m.its.length)(hl:m.its.length<=1000) :
  Calls Tryz.prog 17 #[va,.int .i64 (i:Int)] w λx w'=>x=.returned (.tuple #[.agg m.its[i].list.toArray,.bool true])/\Below w.heap.size w w':=by
 obtain⟨⟨an,cn,av,cv,rfl,hN,hN1,hN2,hV,hV1,hV2⟩,okN,okV⟩:=ha
 obtain⟨b,o,hab,hr⟩:=hN i hi
 have hx:=okN _ (List.getElem_mem hi)
 obtain⟨N,hNl⟩:∃ N,N=m.its.length:=⟨_,rfl⟩
 obtain⟨V,hVl⟩:∃ V,V=m.ens.length:=⟨_,rfl⟩
 rw[<-hNl,<-hVl]
 rw[<-hNl] at hi hl
 have hii:(i:Int)<(N:Int):=oX
 have hone:=It.list_one m.its[i]
 have hlen:m.its[i].list.length=76:=It.list_length hx
 generalize m.its[i].list=X at*
 subst hab
 obtain⟨a1,a2,hs2,hB⟩:=QI w #[.slice (some ⟨b,o,none⟩) N cn,.slice av V cv] Tryz.zeroCells58 28 58 _ rfl
 have e10:=Za a1 0
 have e11:=Za a1 1
 have hr2:=Zs hr hB nR
 have hu:=Tryz.underlying58
 have iX:(Tryz.prog.info? 58).map (·.size)=some X.length:=by rw[hlen];kernel_rfl
 have iA:(Tryz.prog.info? 58).map (·.size)=some X.toArray.size:=by rw[List.size_toArray];exact iX
 have zA:Tryz.zeroCells58.size=X.toArray.size:=Eq.symm (by rw[List.size_toArray,hlen];kernel_rfl)
 have h1A:=Go.Proofs.YtpdhceiodgnbmaaGreatDoor.all_one hone
 obtain⟨XA,hXA⟩:∃ XA,XA=X.toArray:=⟨_,rfl⟩
 rw[<-hXA] at iA zA h1A ⊢
 replace hXA:=Hd hXA
 replace a2:=Hd a2
 replace hB:=Hd hB
 replace hs2:=Hd hs2
 replace hr2:=Hd hr2
 clear hr hN hV hN1 hN2 hV1 hV2 okN okV hx hone hlen a1 hNl hVl
 go_enter Tryz.func17,Tryz.ntmps17
 go_wp2_with (first
  | ((with_reducible refine wL (.load 58 (.tmp 19)) ?_);(refine wpList_load_mid rfl 58 (.tmp 19) rfl b (o+i*76) rfl X _ hr2.out hu rfl iX ?_);rw[<-hXA.out])
  | ((with_reducible refine wL (.store 58 (.tmp 4) _) ?_);(refine Zc rfl 58 (.tmp 4) (.tmp 20) rfl (w.heap.size+1) _ XA rfl rfl a2 iA zA h1A ?_);intro w3 hU3))
 refine Zf rfl rfl hu rfl iA hU3.out.here ?_
 exact⟨rfl,hB.out.trans (hU3.out.below oX)⟩
theorem Jr(va:Value)(m:St)(w:World)(ha:ArgS w va m)(i:Int)(hi:¬(0<=i/\i<m.its.length))(hl:m.its.length<=1000) :
  Calls Tryz.prog 17 #[va,.int .i64 i] w λx w'=>x=.returned (.tuple #[.agg (default:It).list.toArray,.bool false])/\Below w.heap.size w w':=by
 obtain⟨⟨an,cn,av,cv,rfl,hN,hN1,hN2,hV,hV1,hV2⟩,okN,okV⟩:=ha
 obtain⟨N,hNl⟩:∃ N,N=m.its.length:=⟨_,rfl⟩
 obtain⟨V,hVl⟩:∃ V,V=m.ens.length:=⟨_,rfl⟩
 rw[<-hNl,<-hVl]
 rw[<-hNl] at hi hl
 have hneg:i<0\/(0<=i/\(N:Int)<=i):=oX
 obtain⟨a1,a2,hs2,hB⟩:=QI w #[.slice an N cn,.slice av V cv] Tryz.zeroCells58 28 58 _ rfl
 have e10:=Za a1 0
 have e11:=Za a1 1
 have hu:=Tryz.underlying58
 have iA:(Tryz.prog.info? 58).map (·.size)=some Tryz.zeroCells58.size:=kX
 have h1A:Tryz.zeroCells58.all (·.oneCell')=true:=by rw[It.zeroG];exact Go.Proofs.YtpdhceiodgnbmaaGreatDoor.all_one (It.list_one _)
 have hpost:Hid (∀ W,Below w.heap.size w W->(λ(x:Ending) w'=>x=.returned (.tuple #[.agg (default:It).list.toArray,.bool false])/\Below w.heap.size w w') (.returned (.tuple #[.agg Tryz.zeroCells58,.bool false])) W):=Hd (λW h=>⟨by rw[It.zeroG],h⟩)
 replace a2:=Hd a2
 replace hB:=Hd hB
 replace hs2:=Hd hs2
 clear hN hV hN1 hN2 hV1 hV2 okN okV a1 hNl hVl hi
 rcases hneg with hneg|⟨hneg,hge⟩
 all_goals
  go_enter Tryz.func17,Tryz.ntmps17
  go_wp2_with ((with_reducible refine wL (.store 58 (.tmp 4) _) ?_);(refine Zc rfl 58 (.tmp 4) (.tmp 15) rfl (w.heap.size+1) _ Tryz.zeroCells58 rfl rfl a2 iA rfl h1A ?_);intro w3 hU3)
  refine Zf rfl rfl hu rfl iA hU3.out.here ?_
  exact hpost.out _ (hB.out.trans (hU3.out.below oX))
theorem V9(va:Value)(m:St)(w:World)(ha:ArgS w va m)(i:Nat)(hi:i<m.ens.length)(hl:m.ens.length<=1000) :
  Calls Tryz.prog 91 #[va,.int .i64 (i:Int)] w λx w'=>x=.returned (.tuple #[.agg m.ens[i].list.toArray,.bool true])/\Below w.heap.size w w':=by
 obtain⟨⟨an,cn,av,cv,rfl,hN,hN1,hN2,hV,hV1,hV2⟩,okN,okV⟩:=ha
 obtain⟨b,o,hab,hr⟩:=hV i hi
 have hx:=okV _ (List.getElem_mem hi)
 obtain⟨N,hNl⟩:∃ N,N=m.its.length:=⟨_,rfl⟩
 obtain⟨V,hVl⟩:∃ V,V=m.ens.length:=⟨_,rfl⟩
 rw[<-hNl,<-hVl]
 rw[<-hVl] at hi hl
 have hii:(i:Int)<(V:Int):=oX
 have hone:=En.list_one m.ens[i]
 have hlen:m.ens[i].list.length=7:=rfl
 generalize m.ens[i].list=X at*
 subst hab
 obtain⟨a1,a2,hs2,hB⟩:=QI w #[.slice an N cn,.slice (some ⟨b,o,none⟩) V cv] #[.int .i64 0,.int .i64 0,.int .i64 0,.int .i64 0,.int .i64 0,.int .i64 0,.int .i64 0] 28 66 _ rfl
 have e10:=Za a1 0
 have e11:=Za a1 1
 have hr2:=Zs hr hB nR
 have hu:=Tryz.underlying66
 have iX:(Tryz.prog.info? 66).map (·.size)=some X.length:=by rw[hlen];kernel_rfl
 have iA:(Tryz.prog.info? 66).map (·.size)=some X.toArray.size:=by rw[List.size_toArray];exact iX
 have zA:(#[.int .i64 0,.int .i64 0,.int .i64 0,.int .i64 0,.int .i64 0,.int .i64 0,.int .i64 0]:Array Value).size=X.toArray.size:=Eq.symm (by rw[List.size_toArray,hlen];kernel_rfl)
 have h1A:=Go.Proofs.YtpdhceiodgnbmaaGreatDoor.all_one hone
 obtain⟨XA,hXA⟩:∃ XA,XA=X.toArray:=⟨_,rfl⟩
 rw[<-hXA] at iA zA h1A ⊢
 replace hXA:=Hd hXA
 replace a2:=Hd a2
 replace hB:=Hd hB
 replace hs2:=Hd hs2
 replace hr2:=Hd hr2
 clear hr hN hV hN1 hN2 hV1 hV2 okN okV hx hone hlen a1 hNl hVl
 go_enter Tryz.func91,Tryz.ntmps91
 go_wp2_with (first
  | ((with_reducible refine wL (.load 66 (.tmp 19)) ?_);(refine wpList_load_mid rfl 66 (.tmp 19) rfl b (o+i*7) rfl X _ hr2.out hu rfl iX ?_);rw[<-hXA.out])
  | ((with_reducible refine wL (.store 66 (.tmp 4) _) ?_);(refine Zc rfl 66 (.tmp 4) (.tmp 20) rfl (w.heap.size+1) _ XA rfl rfl a2 iA zA h1A ?_);intro w3 hU3))
 refine Zf rfl rfl hu rfl iA hU3.out.here ?_
 exact⟨rfl,hB.out.trans (hU3.out.below oX)⟩
theorem Hu(va:Value)(m:St)(w:World)(ha:ArgS w va m)(i:Int)(hi:¬(0<=i/\i<m.ens.length))(hl:m.ens.length<=1000) :
  Calls Tryz.prog 91 #[va,.int .i64 i] w λx w'=>x=.returned (.tuple #[.agg (default:En).list.toArray,.bool false])/\Below w.heap.size w w':=by
 obtain⟨⟨an,cn,av,cv,rfl,hN,hN1,hN2,hV,hV1,hV2⟩,okN,okV⟩:=ha
 obtain⟨N,hNl⟩:∃ N,N=m.its.length:=⟨_,rfl⟩
 obtain⟨V,hVl⟩:∃ V,V=m.ens.length:=⟨_,rfl⟩
 rw[<-hNl,<-hVl]
 rw[<-hVl] at hi hl
 have hneg:i<0\/(0<=i/\(V:Int)<=i):=oX
 obtain⟨a1,a2,hs2,hB⟩:=QI w #[.slice an N cn,.slice av V cv] #[.int .i64 0,.int .i64 0,.int .i64 0,.int .i64 0,.int .i64 0,.int .i64 0,.int .i64 0] 28 66 _ rfl
 have e10:=Za a1 0
 have e11:=Za a1 1
 have hu:=Tryz.underlying66
 have iA:(Tryz.prog.info? 66).map (·.size)=some (#[.int .i64 0,.int .i64 0,.int .i64 0,.int .i64 0,.int .i64 0,.int .i64 0,.int .i64 0]:Array Value).size:=kX
 have h1A:(#[.int .i64 0,.int .i64 0,.int .i64 0,.int .i64 0,.int .i64 0,.int .i64 0,.int .i64 0]:Array Value).all (·.oneCell')=true:=Go.Proofs.YtpdhceiodgnbmaaGreatDoor.all_one (En.list_one (default:En))
 have hpost:Hid (∀ W,Below w.heap.size w W->(λ(x:Ending) w'=>x=.returned (.tuple #[.agg (default:En).list.toArray,.bool false])/\Below w.heap.size w w') (.returned (.tuple #[.agg #[.int .i64 0,.int .i64 0,.int .i64 0,.int .i64 0,.int .i64 0,.int .i64 0,.int .i64 0],.bool false])) W):=Hd (λW h=>⟨rfl,h⟩)
 replace a2:=Hd a2
 replace hB:=Hd hB
 replace hs2:=Hd hs2
 clear hN hV hN1 hN2 hV1 hV2 okN okV a1 hNl hVl hi
 rcases hneg with hneg|⟨hneg,hge⟩
 all_goals
  go_enter Tryz.func91,Tryz.ntmps91
  go_wp2_with ((with_reducible refine wL (.store 66 (.tmp 4) _) ?_);(refine Zc rfl 66 (.tmp 4) (.tmp 15) rfl (w.heap.size+1) _ #[.int .i64 0,.int .i64 0,.int .i64 0,.int .i64 0,.int .i64 0,.int .i64 0,.int .i64 0] rfl rfl a2 iA rfl h1A ?_);intro w3 hU3)
  refine Zf rfl rfl hu rfl iA hU3.out.here ?_
  exact hpost.out _ (hB.out.trans (hU3.out.below oX))
end Go.Proofs.YtpdhceiodgnbmaaGreatDoor
