import Derived.Test.YtpdhceiodgnbmaaGreatDoorF0Safe21Said
import Derived.Test.YtpdhceiodgnbmaaGreatDoorF1Safe21Said
import Derived.Laws.OwnMore
import Derived.RegionTactic
import Derived.Lib.LazyBuf
import Derived.Test.YtpdhceiodgnbmaaGreatDoorRows
import Derived.Outline
import Derived.Lib.AppendZeros
set_option linter.unusedVariables false
set_option linter.unusedSimpArgs false
set_option linter.unnecessarySimpa false
set_option maxRecDepth 100000
set_option maxHeartbeats 8000000
namespace Go.Proofs.YtpdhceiodgnbmaaGreatDoor
open Go.RowKit
def G1(w:World)(xs:List It)(x:Ending)(w':World):Prop:=∃ v,x=.returned v/\RowsOf RI 58 76 w.heap.size w' (λ_=>False) v xs/\Below w.heap.size w w'
theorem PR(a:Option Addr)(c:Nat)(xs:List It)(hok:∀ x∈xs,x.Ok)(w:World)(h:RowAt It.list 76 w a xs)(hl:xs.length<=100000) :
  Calls Tryz.prog 96 #[.slice a xs.length c] w (G1 w xs):=by
 obtain⟨i0,hi0,h2⟩:=Option.map_eq_some_iff.1 Nk
 simp only[Prod.mk.injEq] at h2
 obtain⟨hz,hs1,hby⟩:=h2
 obtain⟨z,hz1,hz2⟩:=Option.map_eq_some_iff.1 hz
 have hq:=@Lib.run_eql_slice_nil Tryz.prog w 25 58 a xs.length c 0 0 Tryz.underlying25
 cases a with
 | none=>
  have hx:xs=[]:=by
   cases xs with
   | nil=>rfl
   | cons x xs=>obtain⟨b,o,e,_⟩:=h 0 sX;cases e
  subst hx
  have hq':=@Lib.run_eql_slice_nil Tryz.prog w 25 58 none 0 c 0 0 Tryz.underlying25
  clear h hok hi0 hz hs1 hby hz1 hz2 hl hq
  go_enter Tryz.func96,Tryz.ntmps96
  go_wp2_with fail
  go_ret
  exact⟨_,rfl,RowsOf.nil _ _,Below.refl _ _⟩
 | some ad=>
  have hlen:∀ x∈xs,(It.list x).length=76:=λx hx=>It.list_length (hok x hx)
  have hcells:∀ j u,(xs.flatMap It.list)[j]? = some u->w.cell? (ad.add j)=some u:=λj u hu=>by
   cases xs with
   | nil=>simp at hu
   | cons x0 xt=>
    obtain⟨b,o,e,_⟩:=h 0 sX
    cases e
    rw[Addr.add_mid]
    exact Ux dX hlen (λk hk=>by obtain⟨b',o',e',h'⟩:=h k hk;cases e';exact h') j u hu
  have hfl:=Xy xs hlen
  have hone:∀ u∈xs.flatMap It.list,u.oneCell'=true:=λu hu=>by
   obtain⟨x,_,hx⟩:=List.mem_flatMap.1 hu
   exact It.list_one x u hx
  have hrow:∀ (W:World) v,W.ownsRow w.heap.size 58 76 v xs.length (xs.flatMap It.list)->RowsOf RI 58 76 w.heap.size W (λ_=>False) v xs:=λW v hW=>Ul (λx hx=>⟨rfl,hok x hx⟩) hW
  obtain⟨N,hN⟩:∃ N,N=xs.length:=⟨_,rfl⟩
  rw[<-hN] at hq hfl hl hrow ⊢
  generalize xs.flatMap It.list=news at*
  replace hcells:=Hd hcells
  replace hone:=Hd hone
  replace hrow:=Hd hrow
  replace hfl:=Hd hfl
  replace hN:=Hd hN
  clear h hok hlen
  go_enter Tryz.func96,Tryz.ntmps96
  go_wp2_with (at_builtin;refine wpList_append_own _ rfl (.tmp 5) (.tmp 6) 25 rfl w.heap.size 58 i0 z 76 168 Tryz.underlying25 hi0 hz1 hs1 hby hz2 dX _ _ _ rfl (World.ownsRow_made w #[] 0 nR (Nat.zero_le _) sX) ad N c news rfl ?qc1 ?qc2 ?qc3 ?qc4 ?qc5 ?qc6 ?_)
  case qc1=>exact hfl.out
  case qc2=>
   intro j u hj
   exact Lib.cell?_alloc_some _ (hcells.out j u hj)
  case qc3=>exact hone.out
  case qc4=>unfold maxLen;omega
  case qc5=>omega
  case qc6=>simp
  intro v' w1 hown hgrow hnil
  have hown:=Hd (show w1.ownsRow w.heap.size 58 76 v' N news by simpa using hown)
  have hgrow:=Hd hgrow
  clear hnil
  go_wp2_with fail
  go_ret
  exact⟨_,rfl,hrow.out _ _ hown.out,((Below.refl _ w).alloc nR _).grown hgrow.out sX (by intro k hk;simp[Value.ownBlock] at hk;omega)⟩
def GE(w:World)(xs:List En)(x:Ending)(w':World):Prop:=∃ v,x=.returned v/\RowsOf RE 66 7 w.heap.size w' (λ_=>False) v xs/\Below w.heap.size w w'
theorem PF(a:Option Addr)(c:Nat)(xs:List En)(hok:∀ x∈xs,x.Ok)(w:World)(h:RowAt En.list 7 w a xs)(hl:xs.length<=100000) :
  Calls Tryz.prog 50 #[.slice a xs.length c] w (GE w xs):=by
 obtain⟨i0,hi0,h2⟩:=Option.map_eq_some_iff.1 Nr
 simp only[Prod.mk.injEq] at h2
 obtain⟨hz,hs1,hby⟩:=h2
 obtain⟨z,hz1,hz2⟩:=Option.map_eq_some_iff.1 hz
 have hq:=@Lib.run_eql_slice_nil Tryz.prog w 26 66 a xs.length c 0 0 Tryz.underlying26
 cases a with
 | none=>
  have hx:xs=[]:=by
   cases xs with
   | nil=>rfl
   | cons x xs=>obtain⟨b,o,e,_⟩:=h 0 sX;cases e
  subst hx
  have hq':=@Lib.run_eql_slice_nil Tryz.prog w 26 66 none 0 c 0 0 Tryz.underlying26
  clear h hok hi0 hz hs1 hby hz1 hz2 hl hq
  go_enter Tryz.func50,Tryz.ntmps50
  go_wp2_with fail
  go_ret
  exact⟨_,rfl,RowsOf.nil _ _,Below.refl _ _⟩
 | some ad=>
  have hlen:∀ x∈xs,(En.list x).length=7:=λx hx=>rfl
  have hcells:∀ j u,(xs.flatMap En.list)[j]? = some u->w.cell? (ad.add j)=some u:=λj u hu=>by
   cases xs with
   | nil=>simp at hu
   | cons x0 xt=>
    obtain⟨b,o,e,_⟩:=h 0 sX
    cases e
    rw[Addr.add_mid]
    exact Ux dX hlen (λk hk=>by obtain⟨b',o',e',h'⟩:=h k hk;cases e';exact h') j u hu
  have hfl:=Xy xs hlen
  have hone:∀ u∈xs.flatMap En.list,u.oneCell'=true:=λu hu=>by
   obtain⟨x,_,hx⟩:=List.mem_flatMap.1 hu
   exact En.list_one x u hx
  have hrow:∀ (W:World) v,W.ownsRow w.heap.size 66 7 v xs.length (xs.flatMap En.list)->RowsOf RE 66 7 w.heap.size W (λ_=>False) v xs:=λW v hW=>Ul (λx hx=>⟨rfl,hok x hx⟩) hW
  obtain⟨N,hN⟩:∃ N,N=xs.length:=⟨_,rfl⟩
  rw[<-hN] at hq hfl hl hrow ⊢
  generalize xs.flatMap En.list=news at*
  replace hcells:=Hd hcells
  replace hone:=Hd hone
  replace hrow:=Hd hrow
  replace hfl:=Hd hfl
  replace hN:=Hd hN
  clear h hok hlen
  go_enter Tryz.func50,Tryz.ntmps50
  go_wp2_with (at_builtin;refine wpList_append_own _ rfl (.tmp 5) (.tmp 6) 26 rfl w.heap.size 66 i0 z 7 56 Tryz.underlying26 hi0 hz1 hs1 hby hz2 dX _ _ _ rfl (World.ownsRow_made w #[] 0 nR (Nat.zero_le _) sX) ad N c news rfl ?qc1 ?qc2 ?qc3 ?qc4 ?qc5 ?qc6 ?_)
  case qc1=>exact hfl.out
  case qc2=>
   intro j u hj
   exact Lib.cell?_alloc_some _ (hcells.out j u hj)
  case qc3=>exact hone.out
  case qc4=>unfold maxLen;omega
  case qc5=>omega
  case qc6=>simp
  intro v' w1 hown hgrow hnil
  have hown:=Hd (show w1.ownsRow w.heap.size 66 7 v' N news by simpa using hown)
  have hgrow:=Hd hgrow
  clear hnil
  go_wp2_with fail
  go_ret
  exact⟨_,rfl,hrow.out _ _ hown.out,((Below.refl _ w).alloc nR _).grown hgrow.out sX (by intro k hk;simp[Value.ownBlock] at hk;omega)⟩
def L5(w:World)(m:St)(x:Ending)(w':World):Prop:=
 ∃ v v',x=.returned (.agg #[v,v'])/\RowsOf RI 58 76 w.heap.size w' (λ_=>False) v m.its/\RowsOf RE 66 7 w.heap.size w' (λ_=>False) v' m.ens/\(∀ k,v.ownBlock=some k->v'.ownBlock≠some k)/\Below w.heap.size w w'
theorem J0(va:Value)(m:St)(w:World)(ha:ArgS w va m)(l1:m.its.length<=1000)(l2:m.ens.length<=1000) :
  Calls Tryz.prog 53 #[va] w (L5 w m):=by
 obtain⟨⟨an,cn,av,cv,rfl,hN,hN1,hN2,hV,hV1,hV2⟩,okN,okV⟩:=ha
 obtain⟨N,hNl⟩:∃ N,N=m.its.length:=⟨_,rfl⟩
 obtain⟨V,hVl⟩:∃ V,V=m.ens.length:=⟨_,rfl⟩
 rw[<-hNl,<-hVl]
 clear hN1 hN2 hV1 hV2
 have hB:Below w.heap.size w ((w.alloc (.cells #[.slice an N cn,.slice av V cv] 28)).alloc (.cells #[.slice none 0 0,.slice none 0 0] 28)):=(bR.alloc nR _).alloc sX _
 obtain⟨w2,hw2⟩:∃ w2,w2=(w.alloc (.cells #[.slice an N cn,.slice av V cv] 28)).alloc (.cells #[.slice none 0 0,.slice none 0 0] 28):=⟨_,rfl⟩
 have e10:w2.cell? ⟨w.heap.size,0,none⟩=some (.slice an N cn):=by rw[hw2];exact UE (Za (heap_alloc_new w _) 0) _
 have e11:w2.cell? ⟨w.heap.size,1,none⟩=some (.slice av V cv):=by rw[hw2];exact UE (Za (heap_alloc_new w _) 1) _
 have a2:w2.heap[w.heap.size+1]? = some (.cells #[.slice none 0 0,.slice none 0 0] 28 (0,0)):=by
  have h1:=heap_alloc_new (w.alloc (.cells #[.slice an N cn,.slice av V cv] 28)) (.cells #[.slice none 0 0,.slice none 0 0] 28 (0,0))
  rw[World.size_alloc] at h1
  rw[hw2]
  exact h1
 have hs2:w2.heap.size=w.heap.size+2:=by rw[hw2];simp
 rw[<-hw2] at hB
 have hd2:Hid (Below (w.heap.size+1) w2 w2.drew):=Hd (bR.drew)
 have hc0:∀ W:World,Below (w.heap.size+1) w2 W->W.cell? ⟨w.heap.size,0,none⟩=some (.slice an N cn):=λW hW=>(hW.cell (p:=⟨w.heap.size,0,none⟩) (Nat.lt_succ_self _)).trans e10
 have hc1:∀ W:World,Below (w.heap.size+1) w2 W->W.cell? ⟨w.heap.size,1,none⟩=some (.slice av V cv):=λW hW=>(hW.cell (p:=⟨w.heap.size,1,none⟩) (Nat.lt_succ_self _)).trans e11
 have hcn:∀ W:World,Below (w.heap.size+1) w2 W->Calls Tryz.prog 96 #[.slice an N cn] W (G1 W m.its):=λW hW=>by
  have:=PR an cn m.its okN W (hN.below (hB.trans (hW.mono (Nat.le_succ _))) nR) oX
  rwa [<-hNl] at this
 have hcv:∀ W:World,Below (w.heap.size+1) w2 W->Calls Tryz.prog 50 #[.slice av V cv] W (GE W m.ens):=λW hW=>by
  have:=PF av cv m.ens okV W (hV.below (hB.trans (hW.mono (Nat.le_succ _))) nR) oX
  rwa [<-hVl] at this
 have huM:Tryz.prog.underlying 28=_:=Tryz.underlying28
 replace hs2:=Hd hs2
 replace hcn:=Hd hcn
 replace hcv:=Hd hcv
 replace hw2:=Hd hw2
 replace a2:=Hd a2
 replace hB:=Hd hB
 replace hNl:=Hd hNl
 replace hVl:=Hd hVl
 replace okN:=Hd okN
 replace okV:=Hd okV
 replace hN:=Hd hN
 replace hV:=Hd hV
 clear e10 e11
 go_enter Tryz.func53,Tryz.ntmps53
 go_wp2_with fail
 rw[<-hw2.out]
 clear hw2
 replace a2:Hid (w2.drew.heap[w.heap.size+1]? = some (.cells #[.slice none 0 0,.slice none 0 0] 28 (0,0))):=Hd a2.out
 refine wp_region_held_drew (S:=(Below (w.heap.size+1) w2)) kX hd2.out (λhOn=>?_)
 generalize World.drew w2=wd at*
 refine tk 0 hOn ?_
 refine tk 1 hOn ?_
 refine tk 3 hOn ?_
 refine tk 4 hOn ?_
 refine rd 2 (λKz hKz=>?_)
 go_simp
 (with_reducible refine(hcn.out _ hOn).mono ?_)
 rintro e w3 ⟨v3,rfl,hr3,hnew⟩
 obtain⟨a3,n3,c3,hv3⟩:∃ a n c,v3=.slice a n c:=(by obtain⟨a,c,e,_⟩:=hr3.form;exact⟨a,_,c,e⟩)
 subst hv3
 have hS:=hOn.trans (hnew.mono (by have:=hOn.size;have:=hs2.out;omega))
 replace a2:=Hd ((hnew.block _ (Zb a2.out)).trans a2.out)
 have hlo3:=Hd hOn.size
 have hlt3:=Hd (show ∀ k,(Value.slice a3 n3 c3).ownBlock=some k->k<w3.heap.size from λk hk=>(hr3.ownLt k hk).2)
 replace hr3:=Hd hr3
 (try replace hr4:=Hd (hr4.out.below Qf hnew))
 focus (go_wp2_with fail)
 refine hKz.out _ _ hS ?_
 clear hKz Kz hOn hS
 intro hOn
 try clear hnew
 try simp only[Act.put,sL,sZ,sS]
 refine rd 5 (λKz hKz=>?_)
 go_simp
 (with_reducible refine(hcv.out _ hOn).mono ?_)
 rintro e w4 ⟨v4,rfl,hr4,hnew⟩
 obtain⟨a4,n4,c4,hv4⟩:∃ a n c,v4=.slice a n c:=(by obtain⟨a,c,e,_⟩:=hr4.form;exact⟨a,_,c,e⟩)
 subst hv4
 have hS:=hOn.trans (hnew.mono (by have:=hOn.size;have:=hs2.out;omega))
 replace a2:=Hd ((hnew.block _ (Zb a2.out)).trans a2.out)
 have hlo4:=Hd hOn.size
 replace hr4:=Hd hr4
 (try replace hr3:=Hd (hr3.out.below Qq hnew))
 focus (go_wp2_with fail)
 refine hKz.out _ _ hS ?_
 clear hKz Kz hOn hS
 intro hOn
 try clear hnew
 try simp only[Act.put,sL,sZ,sS]
 refine tk 6 hOn ?_
 refine rd 7 (λKz hKz=>?_)
 rw[if_pos (by rfl)]
 (with_reducible refine Zu 28 (.tmp 2) (.tmp 9) rfl (w.heap.size+1) #[.slice none 0 0,.slice none 0 0] #[.slice a3 n3 c3,.slice a4 n4 c4] rfl rfl a2 kX rfl c5X ?_)
 intro w5 hU5
 have hS:=hOn.trans (hU5.out.below nR)
 have hr5:=Hd (hr3.out.only Qq (Only.ofUpd (D:=λk=>k=w.heap.size+1) hU5.out rfl) (λk hk=>hk.elim) (λk hk e=>by have:=(hr3.out.ownLt k hk).1;have:=hlo3.out;have:=hs2.out;omega))
 have hr6:=Hd (hr4.out.only Qf (Only.ofUpd (D:=λk=>k=w.heap.size+1) hU5.out rfl) (λk hk=>hk.elim) (λk hk e=>by have:=(hr4.out.ownLt k hk).1;have:=hlo4.out;have:=hs2.out;omega))
 refine hKz.out _ _ hS ?_
 clear hKz Kz hOn hS
 intro hOn
 try simp only[Act.put]
 refine dnE ?_
 all_goals
  go_wp2_with fail
  refine ZE (c:=#[.slice a3 n3 c3,.slice a4 n4 c4]) rfl rfl huM rfl kX hU5.out.here ?_
  have hs2:=hs2.out
  have hlo3:=hlo3.out
  have hlo4:=hlo4.out
  refine⟨_,_,rfl,hr5.out.mono oX,hr6.out.mono oX,λk h1 h2=>?_,hB.out.trans (hOn.mono (Nat.le_succ _))⟩
  have h3:=hlt3.out k h1
  have h4:=(hr6.out.ownLt k h2).1
  omega
theorem Dd(a b:ByteArray):(a.toList==b.toList)=decide (a=b):=by
 rw[<-beq_toListBytes,Bool.eq_iff_iff,decide_eq_true_iff]
 have h:(a==b)=(a.data==b.data):=rfl
 rw[h,beq_iff_eq]
 exact⟨λe=>by cases a;cases b;exact congrArg _ e,λe=>by rw[e]⟩
section
variable {P:Program} {fn:Func} {R:Ending->World->Prop} {p q:Tmp} {ty:TypeId}
theorem Kw(h:fn.results=#[.cell p ty,.tmp q])(tmps:Array Value)(w:World) :
  (results fn tmps).run P w=((asAddr (tmps.getD p undef)).run P w).andThen λa w₁=>((loadVar ty a).run P w₁).andThen λv w₂=>.ok (.tuple #[v,tmps.getD q undef]) w₂:=by
 simp[results,h,Sem.run_bind,Result.andThen]
theorem Zl{tmps:Array Value}{W:World}{b:Nat}{c:Array Value}{d:TypeDesc}(h:fn.results=#[.cell p ty,.tmp q])
  (hp:tmps.getD p undef=.pointer (some ⟨b,0,none⟩)) (hu:P.underlying ty=some d) (hd:(match d with | .struct _ | .array _ _=>true|_=>false)=true) (hi:(P.info? ty).map (·.size)=some c.size) (hh:W.heap[b]? = some (.cells c ty (0,0))) (hR:R (.returned (.tuple #[.agg c,tmps.getD q undef])) W) :
  bodyPost P fn R .ret ⟨tmps,[]⟩ W:=by
 refine bodyPost_ret (v:=.tuple #[.agg c,tmps.getD q undef]) ?_ rfl hR
 rw[Kw h,hp]
 simp[asAddr,Result.andThen,run_loadVar_row W b ty ty c (0,0) d hh hu hd hi]
end
set_option linter.unusedSimpArgs false
section
variable {P:Program} {fn:Func} {R:Ending->World->Prop} {p q r:Tmp} {ty:TypeId}
end
theorem KB{α:Type}{enc:α->List Value}{size:Nat}(u:Value)(x':α):∀ (xs:List α),(∀ x∈xs,(enc x).length=size)->∀ (i r:Nat) (hi:i<xs.length),r<size->enc x'=(enc xs[i]).set r u->(xs.flatMap enc).set (i*size+r) u=(xs.set i x').flatMap enc
 | [],_,i,r,hi,_,_=>absurd hi (Nat.not_lt_zero _)
 | x::xs,h,i,r,hi,hr,he=>by
  have hx:=h x (List.mem_cons_self ..)
  cases i with
  | zero=>
   rw[Nat.zero_mul,Nat.zero_add,List.flatMap_cons,List.set_append_left _ _ oX,List.set_cons_zero,List.flatMap_cons,he]
   rfl
  | succ i=>
   rw[List.flatMap_cons,List.set_append_right _ _ (by rw[hx,Nat.succ_mul];omega),List.set_cons_succ,List.flatMap_cons,hx,show (i+1)*size+r-size=i*size+r by rw[Nat.succ_mul];omega,
    KB u x' xs (λy hy=>h y (List.mem_cons_of_mem _ hy)) i r (by simpa using hi) hr he]
theorem KD{α:Type}{enc:α->List Value}{R:World->(Nat->Prop)->α->List Value->Prop}{e:TypeId}{size base:Nat}{w:World}{F:Nat->Prop}{v:Value}{xs:List α}(hR:∀ w F x cs,R w F x cs->cs=enc x)(h:RowsOf R e size base w F v xs):w.ownsRow base e size v xs.length (xs.flatMap enc):=by
 obtain⟨css,h1,h2,h3⟩:=h.row
 have:css=xs.map enc:=by
  apply List.ext_getElem (by simp[h1])
  intro i h4 h5
  rw[List.getElem_map]
  exact hR _ _ _ _ (h3 i _ _ (List.getElem?_eq_getElem (by simpa using h5)) (List.getElem?_eq_getElem h4))
 rw[this,<-List.flatMap_def] at h2
 exact h2
theorem It.zeroG:Tryz.zeroCells58=(default:It).list.toArray:=kX
theorem VT{w:World}{b:Nat}{o:Obj}(h:w.heap[b]? = some o)(o':Obj):(w.alloc o').heap[b]? = some o:=
 (((Below.refl w.heap.size w).alloc nR o').block b (Zb h)).trans h
theorem Y3(w:World)(C D:Array Value)(t u:TypeId)(W:World)(hW:W=(w.alloc (.cells C t)).alloc (.cells D u)) :
  W.heap[w.heap.size]? = some (.cells C t (0,0))/\W.heap[w.heap.size+1]? = some (.cells D u (0,0))/\W.heap.size=w.heap.size+2/\Below w.heap.size w W:=by
 subst hW
 refine⟨VT (heap_alloc_new w _) _,?_,sX,(bR.alloc nR _).alloc sX _⟩
 have h:=heap_alloc_new (w.alloc (.cells C t)) (.cells D u (0,0))
 rw[World.size_alloc] at h
 exact h
theorem JL(va:Value)(m:St)(w:World)(ha:ArgS w va m)(i:Nat)(hi:i<m.its.length)(hl:m.its.length<=1000) :
  Calls Tryz.prog 17 #[va,.int .i64 (i:Int)] w λx w'=>x=.returned (.tuple #[.agg m.its[i].list.toArray,.bool true])/\Below w.heap.size w w':=by
 obtain⟨⟨an,cn,av,cv,rfl,hN,hN1,hN2,hV,hV1,hV2⟩,okN,okV⟩:=ha
 obtain⟨b,o,hab,hr⟩:=hN i hi
 have hx:=okN _ (List.getElem_mem hi)
 obtain⟨N,hNl⟩:∃ N,N=m.its.length:=⟨_,rfl⟩
 obtain⟨V,hVl⟩:∃ V,V=m.ens.length:=⟨_,rfl⟩
 rw[<-hNl,<-hVl]
 rw[<-hNl] at hi hl
 have hii:(i:Int)<(N:Int):=oX
 have hone:=It.list_one m.its[i]
 have hlen:m.its[i].list.length=76:=It.list_length hx
 generalize m.its[i].list=X at*
 subst hab
 obtain⟨a1,a2,hs2,hB⟩:=Y3 w #[.slice (some ⟨b,o,none⟩) N cn,.slice av V cv] Tryz.zeroCells58 28 58 _ rfl
 have e10:=Za a1 0
 have e11:=Za a1 1
 have hr2:=Q2 hr hB nR
 have hu:=Tryz.underlying58
 have iX:(Tryz.prog.info? 58).map (·.size)=some X.length:=by rw[hlen];kernel_rfl
 have iA:(Tryz.prog.info? 58).map (·.size)=some X.toArray.size:=by rw[List.size_toArray];exact iX
 have zA:Tryz.zeroCells58.size=X.toArray.size:=Eq.symm (by rw[List.size_toArray,hlen];kernel_rfl)
 have h1A:=Go.Proofs.YtpdhceiodgnbmaaGreatDoor.all_one hone
 obtain⟨XA,hXA⟩:∃ XA,XA=X.toArray:=⟨_,rfl⟩
 rw[<-hXA] at iA zA h1A ⊢
 replace hXA:=Hd hXA
 replace a2:=Hd a2
 replace hB:=Hd hB
 replace hs2:=Hd hs2
 replace hr2:=Hd hr2
 clear hr hN hV hN1 hN2 hV1 hV2 okN okV hx hone hlen a1 hNl hVl
 go_enter Tryz.func17,Tryz.ntmps17
 go_wp2_with (first
  | ((with_reducible refine wL (.load 58 (.tmp 19)) ?_);(refine wpList_load_mid rfl 58 (.tmp 19) rfl b (o+i*76) rfl X _ hr2.out hu rfl iX ?_);rw[<-hXA.out])
  | ((with_reducible refine wL (.store 58 (.tmp 4) _) ?_);(refine Zc rfl 58 (.tmp 4) (.tmp 20) rfl (w.heap.size+1) _ XA rfl rfl a2 iA zA h1A ?_);intro w3 hU3))
 refine Zl rfl rfl hu rfl iA hU3.out.here ?_
 exact⟨rfl,hB.out.trans (hU3.out.below oX)⟩
theorem Ui(va:Value)(m:St)(w:World)(ha:ArgS w va m)(i:Int)(hi:¬(0<=i/\i<m.its.length))(hl:m.its.length<=1000) :
  Calls Tryz.prog 17 #[va,.int .i64 i] w λx w'=>x=.returned (.tuple #[.agg (default:It).list.toArray,.bool false])/\Below w.heap.size w w':=by
 obtain⟨⟨an,cn,av,cv,rfl,hN,hN1,hN2,hV,hV1,hV2⟩,okN,okV⟩:=ha
 obtain⟨N,hNl⟩:∃ N,N=m.its.length:=⟨_,rfl⟩
 obtain⟨V,hVl⟩:∃ V,V=m.ens.length:=⟨_,rfl⟩
 rw[<-hNl,<-hVl]
 rw[<-hNl] at hi hl
 have hneg:i<0\/(0<=i/\(N:Int)<=i):=oX
 obtain⟨a1,a2,hs2,hB⟩:=Y3 w #[.slice an N cn,.slice av V cv] Tryz.zeroCells58 28 58 _ rfl
 have e10:=Za a1 0
 have e11:=Za a1 1
 have hu:=Tryz.underlying58
 have iA:(Tryz.prog.info? 58).map (·.size)=some Tryz.zeroCells58.size:=kX
 have h1A:Tryz.zeroCells58.all (·.oneCell')=true:=by rw[It.zeroG];exact Go.Proofs.YtpdhceiodgnbmaaGreatDoor.all_one (It.list_one _)
 have hpost:Hid (∀ W,Below w.heap.size w W->(λ(x:Ending) w'=>x=.returned (.tuple #[.agg (default:It).list.toArray,.bool false])/\Below w.heap.size w w') (.returned (.tuple #[.agg Tryz.zeroCells58,.bool false])) W):=Hd (λW h=>⟨by rw[It.zeroG],h⟩)
 replace a2:=Hd a2
 replace hB:=Hd hB
 replace hs2:=Hd hs2
 clear hN hV hN1 hN2 hV1 hV2 okN okV a1 hNl hVl hi
 rcases hneg with hneg|⟨hneg,hge⟩
 all_goals
  go_enter Tryz.func17,Tryz.ntmps17
  go_wp2_with ((with_reducible refine wL (.store 58 (.tmp 4) _) ?_);(refine Zc rfl 58 (.tmp 4) (.tmp 15) rfl (w.heap.size+1) _ Tryz.zeroCells58 rfl rfl a2 iA rfl h1A ?_);intro w3 hU3)
  refine Zl rfl rfl hu rfl iA hU3.out.here ?_
  exact hpost.out _ (hB.out.trans (hU3.out.below oX))
theorem KV(va:Value)(m:St)(w:World)(ha:ArgS w va m)(i:Nat)(hi:i<m.ens.length)(hl:m.ens.length<=1000) :
  Calls Tryz.prog 91 #[va,.int .i64 (i:Int)] w λx w'=>x=.returned (.tuple #[.agg m.ens[i].list.toArray,.bool true])/\Below w.heap.size w w':=by
 obtain⟨⟨an,cn,av,cv,rfl,hN,hN1,hN2,hV,hV1,hV2⟩,okN,okV⟩:=ha
 obtain⟨b,o,hab,hr⟩:=hV i hi
 have hx:=okV _ (List.getElem_mem hi)
 obtain⟨N,hNl⟩:∃ N,N=m.its.length:=⟨_,rfl⟩
 obtain⟨V,hVl⟩:∃ V,V=m.ens.length:=⟨_,rfl⟩
 rw[<-hNl,<-hVl]
 rw[<-hVl] at hi hl
 have hii:(i:Int)<(V:Int):=oX
 have hone:=En.list_one m.ens[i]
 have hlen:m.ens[i].list.length=7:=rfl
 generalize m.ens[i].list=X at*
 subst hab
 obtain⟨a1,a2,hs2,hB⟩:=Y3 w #[.slice an N cn,.slice (some ⟨b,o,none⟩) V cv] #[.int .i64 0,.int .i64 0,.int .i64 0,.int .i64 0,.int .i64 0,.int .i64 0,.int .i64 0] 28 66 _ rfl
 have e10:=Za a1 0
 have e11:=Za a1 1
 have hr2:=Q2 hr hB nR
 have hu:=Tryz.underlying66
 have iX:(Tryz.prog.info? 66).map (·.size)=some X.length:=by rw[hlen];kernel_rfl
 have iA:(Tryz.prog.info? 66).map (·.size)=some X.toArray.size:=by rw[List.size_toArray];exact iX
 have zA:(#[.int .i64 0,.int .i64 0,.int .i64 0,.int .i64 0,.int .i64 0,.int .i64 0,.int .i64 0]:Array Value).size=X.toArray.size:=Eq.symm (by rw[List.size_toArray,hlen];kernel_rfl)
 have h1A:=Go.Proofs.YtpdhceiodgnbmaaGreatDoor.all_one hone
 obtain⟨XA,hXA⟩:∃ XA,XA=X.toArray:=⟨_,rfl⟩
 rw[<-hXA] at iA zA h1A ⊢
 replace hXA:=Hd hXA
 replace a2:=Hd a2
 replace hB:=Hd hB
 replace hs2:=Hd hs2
 replace hr2:=Hd hr2
 clear hr hN hV hN1 hN2 hV1 hV2 okN okV hx hone hlen a1 hNl hVl
 go_enter Tryz.func91,Tryz.ntmps91
 go_wp2_with (first
  | ((with_reducible refine wL (.load 66 (.tmp 19)) ?_);(refine wpList_load_mid rfl 66 (.tmp 19) rfl b (o+i*7) rfl X _ hr2.out hu rfl iX ?_);rw[<-hXA.out])
  | ((with_reducible refine wL (.store 66 (.tmp 4) _) ?_);(refine Zc rfl 66 (.tmp 4) (.tmp 20) rfl (w.heap.size+1) _ XA rfl rfl a2 iA zA h1A ?_);intro w3 hU3))
 refine Zl rfl rfl hu rfl iA hU3.out.here ?_
 exact⟨rfl,hB.out.trans (hU3.out.below oX)⟩
theorem NY(va:Value)(m:St)(w:World)(ha:ArgS w va m)(i:Int)(hi:¬(0<=i/\i<m.ens.length))(hl:m.ens.length<=1000) :
  Calls Tryz.prog 91 #[va,.int .i64 i] w λx w'=>x=.returned (.tuple #[.agg (default:En).list.toArray,.bool false])/\Below w.heap.size w w':=by
 obtain⟨⟨an,cn,av,cv,rfl,hN,hN1,hN2,hV,hV1,hV2⟩,okN,okV⟩:=ha
 obtain⟨N,hNl⟩:∃ N,N=m.its.length:=⟨_,rfl⟩
 obtain⟨V,hVl⟩:∃ V,V=m.ens.length:=⟨_,rfl⟩
 rw[<-hNl,<-hVl]
 rw[<-hVl] at hi hl
 have hneg:i<0\/(0<=i/\(V:Int)<=i):=oX
 obtain⟨a1,a2,hs2,hB⟩:=Y3 w #[.slice an N cn,.slice av V cv] #[.int .i64 0,.int .i64 0,.int .i64 0,.int .i64 0,.int .i64 0,.int .i64 0,.int .i64 0] 28 66 _ rfl
 have e10:=Za a1 0
 have e11:=Za a1 1
 have hu:=Tryz.underlying66
 have iA:(Tryz.prog.info? 66).map (·.size)=some (#[.int .i64 0,.int .i64 0,.int .i64 0,.int .i64 0,.int .i64 0,.int .i64 0,.int .i64 0]:Array Value).size:=kX
 have h1A:(#[.int .i64 0,.int .i64 0,.int .i64 0,.int .i64 0,.int .i64 0,.int .i64 0,.int .i64 0]:Array Value).all (·.oneCell')=true:=Go.Proofs.YtpdhceiodgnbmaaGreatDoor.all_one (En.list_one (default:En))
 have hpost:Hid (∀ W,Below w.heap.size w W->(λ(x:Ending) w'=>x=.returned (.tuple #[.agg (default:En).list.toArray,.bool false])/\Below w.heap.size w w') (.returned (.tuple #[.agg #[.int .i64 0,.int .i64 0,.int .i64 0,.int .i64 0,.int .i64 0,.int .i64 0,.int .i64 0],.bool false])) W):=Hd (λW h=>⟨rfl,h⟩)
 replace a2:=Hd a2
 replace hB:=Hd hB
 replace hs2:=Hd hs2
 clear hN hV hN1 hN2 hV1 hV2 okN okV a1 hNl hVl hi
 rcases hneg with hneg|⟨hneg,hge⟩
 all_goals
  go_enter Tryz.func91,Tryz.ntmps91
  go_wp2_with ((with_reducible refine wL (.store 66 (.tmp 4) _) ?_);(refine Zc rfl 66 (.tmp 4) (.tmp 15) rfl (w.heap.size+1) _ #[.int .i64 0,.int .i64 0,.int .i64 0,.int .i64 0,.int .i64 0,.int .i64 0,.int .i64 0] rfl rfl a2 iA rfl h1A ?_);intro w3 hU3)
  refine Zl rfl rfl hu rfl iA hU3.out.here ?_
  exact hpost.out _ (hB.out.trans (hU3.out.below oX))
theorem B7:(Tryz.prog.info? 58).map (·.size)=some 76:=kX
def Jr(ns:List It)(s:ByteArray):Int:=match ns.findIdx? (λx=>decide (x.s=s)) with
 | some i=>(i:Int)
 | none => -1
theorem WG{ns:List It}{s:ByteArray}{k:Nat}(hk:k<ns.length)(h:∀ j (hj:j<ns.length),j<k->ns[j].s≠s)(he:ns[k].s=s):Jr ns s=(k:Int):=by
 have:ns.findIdx? (λx=>decide (x.s=s))=some k:=by
  rw[List.findIdx?_eq_some_iff_getElem]
  refine⟨hk,by simpa using he,λj hj=>?_⟩
  simpa using h j oX hj
 unfold Jr
 rw[this]
theorem Pt{ns:List It}{s:ByteArray}(h:∀ j (hj:j<ns.length),ns[j].s≠s):Jr ns s = -1:=by
 have:ns.findIdx? (λx=>decide (x.s=s))=none:=by
  rw[List.findIdx?_eq_none_iff]
  intro x hx
  obtain⟨j,hj,rfl⟩:=List.getElem_of_mem hx
  simpa using h j hj
 unfold Jr
 rw[this]
theorem Px(x:It)(X:Array Value)(hX:X=x.list.toArray)(b:Nat)(s:ByteArray)(w:World)(hb:w.cell? ⟨b,0,none⟩=some (.string s)) :
  Calls Tryz.prog 48 #[.agg X,.pointer (some ⟨b,0,none⟩)] w λr w'=>r=.returned (.bool (decide (x.s=s)))/\Below w.heap.size w w':=by
 have hG:Below w.heap.size w (w.alloc (.cells X 58)):=bR.alloc nR _
 have k0:(w.alloc (.cells X 58)).cell? ⟨w.heap.size,1,none⟩=some (.string x.s):=by rw[Za (heap_alloc_new w _)];rw[hX];rfl
 have k1:=UE hb (.cells X 58)
 replace hG:=Hd hG
 obtain⟨S,hS⟩:∃ S,S=x.s:=⟨_,rfl⟩
 rw[<-hS] at k0 ⊢
 replace hS:=Hd hS
 clear hX hb
 by_cases he:S=s
 ·subst he
  go_enter Tryz.func48,Tryz.ntmps48
  go_wp2_with fail
  go_ret
  exact⟨sX,hG.out⟩
 ·have hd:decide (S=s)=false:=decide_eq_false he
  rw[hd]
  go_enter Tryz.func48,Tryz.ntmps48
  go_wp2_with fail
  go_ret
  exact⟨by rw[show (S.toList==s.toList)=false by rw[Dd,hd]];rfl,hG.out⟩
theorem Rr(a:Option Addr)(c:Nat)(ns:List It)(hok:∀ x∈ns,x.Ok)(w:World)(h:RowAt It.list 76 w a ns)(hl:ns.length<=1000000)(b:Nat)(s:ByteArray)(hb:w.cell? ⟨b,0,none⟩=some (.string s)) :
  Calls Tryz.prog 47 #[.slice a ns.length c,.func (.func 48) #[] #[.pointer (some ⟨b,0,none⟩)]] w λr w'=>r=.returned (.int .i64 (Jr ns s))/\Below w.heap.size w w':=by
 have huN:Tryz.prog.underlying 58=_:=Tryz.underlying58
 obtain⟨q,hq⟩:∃ q,q=Jr ns s:=⟨_,rfl⟩
 rw[<-hq]
 obtain⟨N,hN⟩:∃ N,N=ns.length:=⟨_,rfl⟩
 rw[<-hN] at hl ⊢
 replace hN:=Hd hN
 replace hq:=Hd hq
 replace h:=Hd h
 replace hok:=Hd hok
 replace hb:=Hd hb
 go_enter Tryz.func47,Tryz.ntmps47
 go_wp2_with fail
 refine Z8 [(false,4),(true,2),(false,2),(true,11)] _ [] (λU wr=>∃ k:Nat,k<=N/\U 8=.int .i64 (k:Nat)/\Below w.heap.size w wr/\∀ j (hj:j<ns.length),j<k->ns[j].s≠s) (λU _=>N-(intOf (U 8)).toNat) ?_ ?_
 ·simp only[List.getD_cons_zero,List.getD_cons_succ]
  exact⟨0,Nat.zero_le _,rfl,Below.refl _ _,λj _ hj=>absurd hj (Nat.not_lt_zero _)⟩
 ·intro U wr hrel KK hback l' hl'
  obtain⟨k,hk,h8,hbw,hle⟩:=hrel
  simp only[ZU,ZG,cond_true,cond_false,Nat.reduceAdd,h8] at hl'
  subst hl'
  replace h8:=Hd h8
  replace hle:=Hd hle
  by_cases hlt:k<N
  ·have hlt2:(k:Int)<(N:Int):=oX
   have hkN:k<ns.length:=by rw[<-hN.out];exact hlt
   obtain⟨b1,o1,rfl,hr1⟩:=h.out.below hbw nR k hkN
   have ox:=hok.out _ (List.getElem_mem hkN)
   have hhit:=λ(e:ns[k].s=s)=>WG hkN hle.out e
   have hstep:=λ(e:ns[k].s≠s)=>show ∀ j (hj:j<ns.length),j<k+1->ns[j].s≠s from λj hj hjk=>by
    by_cases hjk2:j<k
    ·exact hle.out j hj hjk2
    ·obtain rfl:j=k:=oX
     exact e
   generalize ns[k]=x at*
   obtain⟨X,hX⟩:∃ X,X=x.list.toArray:=⟨_,rfl⟩
   have ix:(Tryz.prog.info? 58).map (·.size)=some x.list.length:=by rw[It.list_length ox];exact B7
   have hcall:=Px x X hX b s wr ((hbw.cell (World.block_lt_of_cell? w _ hb.out)).trans hb.out)
   have hsz:=hbw.size
   replace hX:=Hd hX
   replace hr1:=Hd hr1
   replace hbw:=Hd hbw
   replace hhit:=Hd hhit
   replace hstep:=Hd hstep
   replace ox:=Hd ox
   by_cases he:x.s=s
   ·have hqk:q=(k:Int):=by rw[hq.out];exact hhit.out he
    rw[decide_eq_true he] at hcall
    replace hcall:=Hd hcall
    subst hqk
    replace he:=Hd he
    clear hq
    go_wp2_with (refine wpList_load_mid rfl 58 (.tmp 14) rfl b1 (o1+k*76) rfl x.list _ hr1.out huN rfl ix ?_;rw[<-hX.out])
    with_reducible refine hcall.out.mono ?_
    rintro e w2 ⟨rfl,hb2⟩
    have hbf:=Hd (hbw.out.trans (hb2.mono hsz))
    go_wp2_with fail
    go_ret
    exact⟨rfl,hbf.out⟩
   ·rw[decide_eq_false he] at hcall
    replace hcall:=Hd hcall
    replace he:=Hd he
    go_wp2_with (refine wpList_load_mid rfl 58 (.tmp 14) rfl b1 (o1+k*76) rfl x.list _ hr1.out huN rfl ix ?_;rw[<-hX.out])
    with_reducible refine hcall.out.mono ?_
    rintro e w2 ⟨rfl,hb2⟩
    have hbf:=Hd (hbw.out.trans (hb2.mono hsz))
    go_wp2_with fail
    refine hback.out _ _ kX ?_ ?_
    ·simp only[List.getD_cons_zero,List.getD_cons_succ]
     exact⟨k+1,oX,by go_num,hbf.out,hstep.out he.out⟩
    ·have h8:=h8.out
     simp only[List.getD_cons_zero,List.getD_cons_succ,h8,intOf]
     omega
  ·obtain rfl:k=N:=oX
   have hqn:q = -1:=by rw[hq.out];exact Pt (λj hj=>hle.out j hj (by rw[hN.out];exact hj))
   subst hqn
   replace hbw:=Hd hbw
   clear hq
   go_wp2_with fail
   go_ret
   exact⟨rfl,hbw.out⟩
def Qm(ns:List It)(s:ByteArray):It×Bool:=match ns.findIdx? (λx=>decide (x.s=s)) with
 | some i=>(ns.getD i default,true)
 | none=>(default,false)
theorem ZV(w:World)(C D E:Array Value)(t u v:TypeId)(W:World)(hW:W=((w.alloc (.cells C t)).alloc (.cells D u)).alloc (.cells E v)) :
  W.heap[w.heap.size]? = some (.cells C t (0,0))/\W.heap[w.heap.size+1]? = some (.cells D u (0,0))/\W.heap[w.heap.size+2]? = some (.cells E v (0,0))/\W.heap.size=w.heap.size+3/\Below w.heap.size w W:=by
 obtain⟨h1,h2,h3,h4⟩:=Y3 w C D t u _ rfl
 subst hW
 refine⟨VT h1 _,VT h2 _,?_,sX,h4.alloc oX _⟩
 have h:=heap_alloc_new ((w.alloc (.cells C t)).alloc (.cells D u)) (.cells E v (0,0))
 rw[h3] at h
 exact h
theorem NF(va:Value)(m:St)(w:World)(ha:ArgS w va m)(hl:m.its.length<=1000)(s:ByteArray) :
  Calls Tryz.prog 18 #[va,.string s] w λx w'=>x=.returned (.tuple #[.agg (Qm m.its s).1.list.toArray,.bool (Qm m.its s).2])/\Below w.heap.size w w':=by
 have hit:∀ W,Below w.heap.size w W->Calls Tryz.prog 17 #[va,.int .i64 (Jr m.its s)] W λx w'=>x=.returned (.tuple #[.agg (Qm m.its s).1.list.toArray,.bool (Qm m.its s).2])/\Below W.heap.size W w':=by
  intro W hW
  have ha2:=ha.below hW nR
  unfold Jr Qm
  cases hf:m.its.findIdx? (λx=>decide (x.s=s)) with
  | none=>exact Ui va m W ha2 (-1) oX hl
  | some i=>
   have hi:i<m.its.length:=(List.findIdx?_eq_some_iff_getElem.1 hf).1
   have:=JL va m W ha2 i hi hl
   simp only[List.getD_eq_getElem?_getD,List.getElem?_eq_getElem hi,Option.getD_some]
   exact this
 have hok:(Qm m.its s).1.Ok:=by
  obtain⟨_,okN,_⟩:=ha
  have hd:(default:It).Ok:=⟨dX,dX,⟨dX,dX,dX,dX,dX,dX⟩,rfl,rfl,dX,dX,dX⟩
  unfold Qm
  cases hf:m.its.findIdx? (λx=>decide (x.s=s)) with
  | none=>exact hd
  | some i=>
   have hi:i<m.its.length:=(List.findIdx?_eq_some_iff_getElem.1 hf).1
   simp only[List.getD_eq_getElem?_getD,List.getElem?_eq_getElem hi,Option.getD_some]
   exact okN _ (List.getElem_mem hi)
 have hix:∀ W b,Below w.heap.size w W->W.cell? ⟨b,0,none⟩=some (.string s)->∀ an cn,(∃ av cv V,va=.agg #[.slice an m.its.length cn,.slice av V cv])->Calls Tryz.prog 47 #[.slice an m.its.length cn,.func (.func 48) #[] #[.pointer (some ⟨b,0,none⟩)]] W λr w'=>r=.returned (.int .i64 (Jr m.its s))/\Below W.heap.size W w':=by
  intro W b hW hb an cn ⟨av,cv,V,e⟩
  obtain⟨⟨a,c,a',c',e2,h1,_⟩,okN,_⟩:=ha.below hW nR
  rw[e] at e2
  cases e2
  exact Rr an cn m.its okN W h1 oX b s hb
 obtain⟨⟨an,cn,av,cv,rfl,hN,hN1,hN2,hV,hV1,hV2⟩,okN,okV⟩:=ha
 have hix2:=λW b h1 h2=>hix W b h1 h2 an cn ⟨av,cv,_,rfl⟩
 generalize Jr m.its s=q at*
 generalize (Qm m.its s).2=kn at*
 obtain⟨XA,hXA⟩:∃ XA,XA=(Qm m.its s).1.list.toArray:=⟨_,rfl⟩
 have iA:(Tryz.prog.info? 58).map (·.size)=some XA.size:=by rw[hXA,It.size hok];kernel_rfl
 have zA:(Tryz.zeroCells58).size=XA.size:=by rw[hXA,It.size hok];kernel_rfl
 have h1A:XA.all (·.oneCell')=true:=by rw[hXA];exact It.all_one _
 rw[<-hXA] at hit ⊢
 have hu:=Tryz.underlying58
 obtain⟨N,hNl⟩:∃ N,N=m.its.length:=⟨_,rfl⟩
 obtain⟨V,hVl⟩:∃ V,V=m.ens.length:=⟨_,rfl⟩
 rw[<-hNl,<-hVl] at hit
 rw[<-hNl] at hix2
 rw[<-hNl,<-hVl]
 obtain⟨a1,a2,a3,hs3,hB⟩:=ZV w #[.slice an N cn,.slice av V cv] #[.string s] Tryz.zeroCells58 28 9 58 _ rfl
 obtain⟨w3,hw3⟩:∃ w3,w3=((w.alloc (.cells #[.slice an N cn,.slice av V cv] 28)).alloc (.cells #[.string s] 9)).alloc (.cells Tryz.zeroCells58 58):=⟨_,rfl⟩
 have e10:=Za a1 0
 rw[<-hw3] at a1 a2 a3 hs3 hB
 replace hw3:=Hd hw3
 replace hit:=Hd hit
 replace hix2:=Hd hix2
 replace a1:=Hd a1
 replace a2:=Hd a2
 replace a3:=Hd a3
 replace hB:=Hd hB
 replace hs3:=Hd hs3
 clear hix hN hV hN1 hN2 hV1 hV2 okN okV hXA hok hNl hVl hl
 go_enter Tryz.func18,Tryz.ntmps18
 go_wp2_with fail
 rw[<-hw3.out]
 with_reducible refine(hix2.out w3 (w.heap.size+1) hB.out (by rw[Za a2.out];simp)).mono ?_
 rintro e w4 ⟨rfl,hb⟩
 have b1:=(hb.block _ (Zb a1.out)).trans a1.out
 have b3:=Hd ((hb.block _ (Zb a3.out)).trans a3.out)
 have f0:=Za b1 0
 have f1:=Za b1 1
 have hB4:=Hd (hB.out.trans (hb.mono hB.out.size))
 clear b1 hb e10
 go_wp2_with fail
 with_reducible refine(hit.out w4 hB4.out).mono ?_
 rintro e w5 ⟨rfl,hb⟩
 have c3:=Hd ((hb.block _ (Zb b3.out)).trans b3.out)
 have hB5:=Hd (hB4.out.trans (hb.mono hB4.out.size))
 clear hb f0 f1
 go_wp2_with ((with_reducible refine wL (.store 58 (.tmp 4) _) ?_);(refine Zc rfl 58 (.tmp 4) (.tmp 14) rfl (w.heap.size+2) _ XA rfl rfl c3 iA zA h1A ?_);intro w6 hU6)
 refine Zl rfl rfl hu rfl iA hU6.out.here ?_
 exact⟨rfl,hB5.out.trans (hU6.out.below oX)⟩
def cf(p:List UInt8)(i:Nat):UInt8:=p.getD i 0
theorem DA{p:List UInt8}{i:Nat}(h:i<p.length):cf p i=p[i]:=by simp[cf,h]
theorem Pb{p:List UInt8}{i:Nat}(h:p.length<=i):cf p i=0:=by simp[cf,h]
theorem MH{p q:List UInt8}(hl:p.length=q.length)(h:∀ i,cf p i=cf q i):p=q:=by
 apply List.ext_getElem hl
 intro i h1 h2
 have:=h i
 rwa [DA h1,DA h2] at this
theorem B3(p:List UInt8)(n i:Nat):cf (p.take n) i=if i<n then cf p i else 0:=by
 unfold cf
 by_cases h:i<n
 ·simp[h,List.getD_eq_getElem?_getD]
 ·rw[if_neg h,List.getD_eq_getElem?_getD,List.getElem?_eq_none sYq];rfl
theorem DX(p:List UInt8)(n i:Nat):cf (p.drop n) i=cf p (n+i):=by simp[cf]
def tab(n:Nat)(f:Nat->UInt8):List UInt8:=(List.range n).map f
theorem QE(n:Nat)(f:Nat->UInt8):(tab n f).length=n:=by simp[tab]
theorem JR(n:Nat)(f:Nat->UInt8)(i:Nat):cf (tab n f) i=if i<n then f i else 0:=by
 unfold cf tab
 by_cases h:i<n
 ·simp[h]
 ·simp[h]
theorem BO(p:List UInt8):tab p.length (cf p)=p:=by
 apply MH (QE _ _)
 intro i
 rw[JR]
 by_cases h:i<p.length
 ·rw[if_pos h]
 ·rw[if_neg h,Pb (Nat.le_of_not_lt h)]
theorem UF{n:Nat}{f g:Nat->UInt8}(h:∀ i,i<n->f i=g i):tab n f=tab n g:=by
 apply MH (by simp[QE])
 intro i
 rw[JR,JR]
 by_cases hi:i<n
 ·rw[if_pos hi,if_pos hi,h i hi]
 ·rw[if_neg hi,if_neg hi]
theorem B4(n:Nat)(f:Nat->UInt8)(i:Nat)(x:UInt8):(tab n f).set i x=tab n λj=>if j=i then x else f j:=by
 apply MH (by simp[QE])
 intro j
 by_cases hj:j<n
 ·rw[JR,if_pos hj]
  unfold cf
  rw[List.getD_eq_getElem?_getD,List.getElem?_set]
  by_cases h:i=j
  ·subst h
   rw[if_pos rfl,if_pos (by rw[QE];exact hj),if_pos rfl];rfl
  ·rw[if_neg h,if_neg (λe=>h e.symm),<-List.getD_eq_getElem?_getD]
   have:=JR n f j
   rw[if_pos hj] at this
   exact this
 ·rw[Pb (by simp[QE];omega),Pb (by simp[QE];omega)]
theorem Ut(n:Nat):tab n (λ_=>0)=List.replicate n 0:=by
 apply List.ext_getElem (by simp[tab])
 intro i h1 h2
 simp[tab]
theorem Tryz.infoByteP:(Tryz.prog.info? 5).map (λi=>(i.zero,i.size,i.bytes))=some (some (.int .u8 0),1,1):=kX
def OwnB(base:Nat)(w:World)(v:Value)(bs:List UInt8):Prop:=w.ownsRow base 5 1 v bs.length (cB bs)
theorem OwnB.arg{base:Nat}{w:World}{v:Value}{bs:List UInt8}(h:OwnB base w v bs):∃ a c,v=.slice a bs.length c/\ArgB w a c bs/\∀ b o s,a=some ⟨b,o,s⟩->base<=b/\b<w.heap.size:=by
 obtain⟨a,c,rfl,h1,h2,h3,h4,_,h5⟩:=MZ h
 rw[Ze] at h2
 refine⟨a,c,by rw[Ze],⟨h2,h3,h1,h4.toB⟩,h5⟩
theorem OwnB.nil(base:Nat)(w:World):OwnB base w (.slice none 0 0) []:=⟨rfl,.inl ⟨rfl,rfl⟩⟩
theorem OwnB.mono{base base':Nat}{w:World}{v:Value}{bs:List UInt8}(h:OwnB base w v bs)(hb:base'<=base):OwnB base' w v bs:=by
 obtain⟨h1,h2⟩:=h
 refine⟨h1,?_⟩
 rcases h2 with h2|⟨g,cap,cur,e1,e2,e3⟩
 ·exact .inl h2
 ·exact .inr ⟨g,cap,cur,e1,oX,e3⟩
theorem JK(w:World)(base:Nat)(hb:base<=w.heap.size):OwnB base (w.alloc (.cells #[] 5)) (.slice (some ⟨w.heap.size,0,none⟩) 0 0) []:=by
 have h:=World.ownsRow_made (base:=base) (e:=5) (size:=1) w #[] 0 hb dX sX
 simpa[OwnB,cB] using h
theorem XM(a:Option Addr)(cap:Nat)(bs:List UInt8)(w:World)(h:ArgB w a cap bs)(hr:bs.length<=1000000) :
  Calls Tryz.prog 97 #[.slice a bs.length cap] w λe w'=>∃ v,e=.returned v/\OwnB w.heap.size w' v bs/\Below w.heap.size w w':=by
 obtain⟨i0,hi,hz0,hz1,hz2⟩:=info_parts Tryz.infoByteP
 have h:=Hd h
 have hq:=@Lib.run_eql_slice_nil Tryz.prog w 24 5 a bs.length cap 0 0 Tryz.underlying24
 cases a with
 | none=>
  have hc:=h.out.nil rfl
  subst hc
  have hl:bs=[]:=List.eq_nil_of_length_eq_zero (by have:=h.out.len;omega)
  subst hl
  have hq':=@Lib.run_eql_slice_nil Tryz.prog w 24 5 none 0 0 0 0 Tryz.underlying24
  clear hq
  go_enter Tryz.func97,Tryz.ntmps97
  go_wp2_with fail
  go_ret
  exact⟨_,rfl,OwnB.nil _ _,Below.refl _ _⟩
 | some ad=>
  have hnil:=Hd (show (some ad=none->cap=0) from λe=>by cases e)
  have hlen:=Hd (Ze bs)
  have hown0:=Hd (JK w w.heap.size nR)
  have hb0:=Hd ((Below.refl w.heap.size w).alloc nR (.cells #[] 5))
  have hsrc:=Hd ((At.ofB h.out.row).below hb0.out)
  unfold OwnB at hown0
  go_enter Tryz.func97,Tryz.ntmps97
  go_wp2_with (at_builtin;go_must (refine Uq rfl (.tmp 5) (.tmp 6) 24 rfl w.heap.size 5 i0 (.int .u8 0) 1 Tryz.underlying24 hi hz0 hz1 hz2 dX _ 0 [] rfl hown0 _ bs.length cap (cB bs) rfl hlen hsrc hnil (ZI bs) c6X oX sX ?_))
  intro v' w2 hown2 hg2
  have hb2:=Hd (hb0.out.grown hg2.out sX (λk hk=>by cases hk;exact Nat.le_refl _))
  go_wp2_with fail
  go_ret
  refine⟨_,rfl,?_,hb2.out⟩
  have:=hown2.out
  simpa[OwnB] using this
section
variable {w:World} {ops:Array Oper} {rest:List Oper} {o:Oper} {a:Act} {Q:Exit->Act->World->Prop}
theorem Ho(hgd:o.guard=none)(s x:Operand)(ho:o.op=.call { callee:=.builtin .append,args:=#[s,x],argTypes:=#[24,24] })
  (base:Nat) (v:Value) (bs:List UInt8) (hs:a.eval s=v) (hown:Hid (OwnB base w v bs))
  (u:UInt8) (hx:a.eval x=.slice (some ⟨w.heap.size,0,none⟩) 1 1) (hl:bs.length<=1000000) (hbase:base<=w.heap.size)
  (h:∀ v' w',Hid (OwnB base w' v' (bs++[u]))->Hid (Below base w w')->wpList Tryz.prog ops Q rest (a.put o.dst v') w') :
  wpList Tryz.prog ops Q (o::rest) a (w.alloc (.cells #[.int .u8 (u.toNat:Int)] 5)):=by
 obtain⟨i0,hi,hz0,hz1,hz2⟩:=info_parts Tryz.infoByteP
 refine Ua hgd s x 24 ho base 5 i0 (.int .u8 0) 1 Tryz.underlying24 hi hz0 hz1 hz2 rfl v bs.length (cB bs) hs (Hd hown.out) (.int .u8 (u.toNat:Int)) hx rfl c6X oX hbase ?_
 intro v' w' h1 h2 _
 refine h v' w' (Hd ?_) (Hd ((Below.refl base w).grown h2.out hbase (λk hk=>(World.ownsRow.lt hown.out k hk).1)))
 unfold OwnB
 rw[Y4,List.length_append]
 exact h1.out
theorem YU(hgd:o.guard=none)(s x:Operand)(ho:o.op=.call { callee:=.builtin .append,args:=#[s,x],argTypes:=#[24,24] })
  (base:Nat) (v:Value) (bs:List UInt8) (hs:a.eval s=v) (hown:Hid (OwnB base w v bs))
  (ao:Option Addr) (c:Nat) (ys:List UInt8) (m:Nat) (hx:a.eval x=.slice ao m c) (hm:Hid (ys.length=m)) (hy:Hid (ArgB w ao c ys)) (hl:bs.length<=1000000) (hl2:m<=1000000) (hbase:base<=w.heap.size)
  (h:∀ v' w',Hid (OwnB base w' v' (bs++ys))->Hid (Below base w w')->wpList Tryz.prog ops Q rest (a.put o.dst v') w') :
  wpList Tryz.prog ops Q (o::rest) a w:=by
 obtain⟨i0,hi,hz0,hz1,hz2⟩:=info_parts Tryz.infoByteP
 refine Uq hgd s x 24 ho base 5 i0 (.int .u8 0) 1 Tryz.underlying24 hi hz0 hz1 hz2 rfl v bs.length (cB bs) hs (Hd hown.out) ao m c (cB ys) hx (Hd (by rw[Ze];exact hm.out)) (Hd (At.ofB hy.out.row)) (Hd hy.out.nil) (ZI ys) c6X oX hbase ?_
 intro v' w' h1 h2
 refine h v' w' (Hd ?_) (Hd ((Below.refl base w).grown h2.out hbase (λk hk=>(World.ownsRow.lt hown.out k hk).1)))
 unfold OwnB
 rw[Y4,List.length_append,hm.out]
 exact h1.out
end
theorem L1(w:World)(t:TypeId)(bs:List UInt8)(cs:Array Value)(h:cs=(cB bs).toArray)(hl:bs.length<=1000000):ArgB (w.alloc (.cells cs t)) (some ⟨w.heap.size,0,none⟩) bs.length bs:=by
 subst h
 refine⟨Nat.le_refl _,c6X,(λe=>by cases e),λi hi=>⟨_,_,rfl,?_⟩⟩
 rw[Za (heap_alloc_new w _)]
 simp[cB,hi]
theorem TJ(w:World)(bs:List UInt8)(cs:Array Value)(h:cs=(cB bs).toArray)(hl:bs.length<=1000000):OwnB w.heap.size (w.alloc (.cells cs 5)) (.slice (some ⟨w.heap.size,0,none⟩) bs.length bs.length) bs:=by
 subst h
 have:=World.ownsRow_lit (base:=w.heap.size) (e:=5) (size:=1) w (cB bs).toArray bs.length nR c6X (by simp[Ze])
 unfold OwnB
 simpa using this
theorem OwnB.below{base B:Nat}{w w':World}{v:Value}{bs:List UInt8}(h:OwnB base w v bs)(hb:Below B w w')(hB:w.heap.size<=B):OwnB base w' v bs:=by
 refine⟨h.1,?_⟩
 rcases h.2 with h2|⟨g,cap,cur,e1,e2,e3,e4⟩
 ·exact .inl h2
 ·exact .inr ⟨g,cap,cur,e1,e2,(hb.block g (by have:=Zb e3;omega)).trans e3,e4⟩
theorem OwnB.made{base g n cap:Nat}{w:World}(h:w.ownsRow base 5 1 (.slice (some ⟨g,0,none⟩) n cap) n (madeCells #[Value.int .u8 0] n).toList):OwnB base w (.slice (some ⟨g,0,none⟩) n cap) (tab n λ_=>0):=by
 unfold OwnB
 rw[QE,Ut]
 rw[show cB (List.replicate n 0)=(madeCells #[Value.int .u8 0] n).toList from by rw[toList_madeCells_one];simp[cB]]
 exact h
theorem OwnB.form{base:Nat}{w:World}{v:Value}{bs:List UInt8}(h:OwnB base w v bs)(hn:0<bs.length):∃ g c,v=.slice (some ⟨g,0,none⟩) bs.length c/\base<=g:=by
 rcases h.2 with ⟨_,hx⟩|⟨g,cap,cur,e1,e2,_⟩
 ·rw[hx] at hn;exact absurd hn oX
 ·exact⟨g,cap,e1,e2⟩
theorem D7(n:Nat)(w:World)(h1:1<=n)(h2:n<=1000000):Calls Tryz.prog 167 #[.slice none 0 0,.int .i64 (n:Int)] w λe w'=>∃ v,e=.returned v/\OwnB w.heap.size w' v []/\Below w.heap.size w w':=by
 obtain⟨i0,hi,hz0,hz1,hz2⟩:=info_parts Tryz.infoByteP
 have happ:=Lib.run_append_nil_zeros (P:=Tryz.prog) w 24 3 24 5 i0 (.int .u8 0) .i64 .i64 Tryz.underlying24 Tryz.underlying3 hi hz0 n oX oX oX (by rw[hz2];omega)
 generalize hcap:grownCap w n 0 5=cap2 at happ
 have hcapge:n<=cap2:=by rw[<-hcap];exact grownCap_ge w _ 0 5
 have hcaple:cap2<=maxLen:=by rw[<-hcap];exact grownCap_le_maxLen w _ 0 5 c6X
 generalize hZ:(Builtin.zeroCells (Value.int .u8 0).cells n++Builtin.zeroCells (Value.int .u8 0).cells (cap2-n))=Z at happ
 have hZs:Z.size=cap2:=by rw[<-hZ];simp[size_zeroCells,Value.cells];omega
 clear hcap hZ
 have hZs:=Hd hZs
 have h3:=Hd hcaple
 clear hcaple
 have happ:=Hd happ
 go_enter Tryz.func167,Tryz.ntmps167
 go_wp2_with (at_builtin;refine Lib.wpList_append_run _ rfl _ _ _ _ rfl _ _ rfl rfl _ _ happ.out ?_)
 go_ret
 refine⟨_,rfl,?_,?_⟩
 ·exact⟨rfl,.inr ⟨w.heap.size,cap2,Z,rfl,Nat.le_refl _,heap_alloc_new w _,Nat.zero_le _,h3.out,by rw[Nat.mul_one];exact hZs.out,rfl⟩⟩
 ·exact Below.alloc (Drawn.below ⟨1,rfl⟩ _) nR _
def RowsAt(w:World)(b:Nat)(ps:List (List UInt8)):Prop:=∀ k,k<ps.length->∃ a c,w.cell? ⟨b,k,none⟩=some (.slice a (ps.getD k []).length c)/\ArgB w a c (ps.getD k [])
theorem RowsAt.below{w w':World}{b:Nat}{ps:List (List UInt8)}(h:RowsAt w b ps)(hb:Below w.heap.size w w'):RowsAt w' b ps:=λk hk=>by
 obtain⟨a,c,h1,h2⟩:=h k hk
 exact⟨a,c,(hb.cell (World.block_lt_of_cell? w _ h1)).trans h1,h2.below hb⟩
def Ye(ps:List (List UInt8))(k:Nat):Nat:=((ps.take k).flatten).length
theorem MO{ps:List (List UInt8)}{k:Nat}(h:k<ps.length):(ps.take (k+1)).flatten=(ps.take k).flatten++ps.getD k []:=by
 rw[List.take_succ_eq_append_getElem h,List.flatten_append,List.getD_eq_getElem?_getD,List.getElem?_eq_getElem h]
 simp
theorem K0{ps:List (List UInt8)}{k:Nat}(h:k<ps.length):Ye ps (k+1)=Ye ps k+(ps.getD k []).length:=by
 unfold Ye
 rw[MO h,List.length_append]
theorem N6(ps:List (List UInt8))(k:Nat):Ye ps k<=ps.flatten.length:=by
 have h:(ps.take k).flatten.length+(ps.drop k).flatten.length=ps.flatten.length:=by rw[<-List.length_append,<-List.flatten_append,List.take_append_drop]
 unfold Ye
 omega
theorem VM(b:Nat)(ps:List (List UInt8))(w:World)(hA:RowsAt w b ps)(hm:ps.length<=100000)(h1:1<=ps.flatten.length)(h2:ps.flatten.length<=1000000) :
  Calls Tryz.prog 140 #[.slice (some ⟨b,0,none⟩) ps.length ps.length] w λe w'=>∃ v,e=.returned v/\OwnB w.heap.size w' v ps.flatten/\Below w.heap.size w w':=by
 obtain⟨L,hL⟩:∃ L,L=ps.length:=⟨_,rfl⟩
 have hA2:=Hd hA
 rw[<-hL]
 replace hL:=Hd hL
 have hLm:L<=100000:=by rw[hL.out];exact hm
 go_enter Tryz.func140,Tryz.ntmps140
 go_wp2_with fail
 go_loop [3,5,11] (λs _ j=>∃ k:Nat,k<=L/\j=.int .i64 k/\s=.int .i64 (Ye ps k)) (λ_ _ j=>L-(intOf j).toNat)
 case atStart=>exact⟨0,Nat.zero_le _,rfl,rfl⟩
 case round=>
  obtain⟨k,hk,rfl,rfl⟩:=hrel
  by_cases hlt:k<L
  ·have hkp:k<ps.length:=by rw[<-hL.out];exact hlt
   obtain⟨ai,ci,hc,ha⟩:=hA2.out k hkp
   have hli:(k:Int)<L:=oX
   have hs:=K0 hkp
   have hle:=N6 ps (k+1)
   have hneg:¬((Ye ps k:Int)+(ps.getD k []).length<0):=oX
   have hs2:=Hd (show ((Ye ps k:Int)+(ps.getD k []).length)=(Ye ps (k+1):Int) from by omega)
   have hb:Ye ps (k+1)<=1000000:=oX
   generalize (ps.getD k []).length=l at*
   generalize Ye ps k=S at*
   have hw:IntKind.i64.wrap ((S:Int)+l)=(S:Int)+l:=IntWalk.i64_in _ oX
   clear hs hle ha
   go_wp2_with fail
   exact⟨⟨k+1,oX,by go_num,by rw[<-hs2.out]⟩,by simp[intOf];omega⟩
  ·obtain rfl:k=L:=oX
   have hfl:Ye ps k=ps.flatten.length:=by unfold Ye;rw[hL.out,List.take_length]
   rw[hfl]
   clear hfl
   have hg:=Hd (D7 ps.flatten.length w h1 oX)
   have hfn:=Hd (show ∀ i,Ye ps i<=ps.flatten.length from N6 ps)
   generalize ps.flatten.length=nn at*
   go_wp2_with fail
   with_reducible refine hg.out.mono ?_
   rintro e w1 ⟨v,rfl,ho,hb1⟩
   replace ho:=Hd ho
   replace hb1:=Hd hb1
   clear hg
   go_wp2_with fail
   go_loopw [6,8,27] (λv _ j wr=>∃ i:Nat,i<=k/\j=.int .i64 i/\OwnB w.heap.size wr v (ps.take i).flatten/\Below w.heap.size w wr) (λ_ _ j _=>k-(intOf j).toNat)
   case atStart=>exact⟨0,Nat.zero_le _,rfl,ho.out,hb1.out⟩
   case round=>
    clear ho hb1
    obtain⟨i,hi,rfl,hown,hbel⟩:=hrel
    have hsz:=hbel.size
    have hA3:=hA2.out.below hbel
    replace hbel:=Hd hbel
    replace hown:=Hd hown
    by_cases hil:i<k
    ·have hip:i<ps.length:=by rw[<-hL.out];exact hil
     obtain⟨ai,ci,hc,ha⟩:=hA3 i hip
     have hli:(i:Int)<k:=oX
     have htk:=Hd (MO hip)
     have hlx:=Hd (Eq.refl (ps.getD i []).length)
     have hle:=hfn.out i
     have hle2:=hfn.out (i+1)
     have hsu:=K0 hip
     have hz1:(ps.take i).flatten.length<=1000000:=by unfold Ye at hle;omega
     have hz2:(ps.getD i []).length<=1000000:=oX
     clear hle hle2 hsu hA3
     replace ha:=Hd ha
     generalize ps.getD i []=p at*
     go_wp2_with (at_builtin;go_must (refine YU rfl (.tmp 31) (.tmp 32) rfl w.heap.size _ (ps.take i).flatten rfl hown ai ci p _ rfl hlx ha oX oX hsz ?_))
     intro v' w3 hown3 hb3
     go_wp2_with fail
     go_roundw
     case rel=>exact⟨i+1,oX,by go_num,by rw[htk.out];exact hown3.out,hbel.out.trans hb3.out⟩
     case measure=>simp[intOf];omega
    ·obtain rfl:i=k:=oX
     rw[show ps.take i=ps from by rw[hL.out,List.take_length]] at hown
     clear hA3
     go_wp2_with fail
     go_ret
     exact⟨_,rfl,hown.out,hbel.out⟩
theorem Zz(w:World)(o:Obj)(k:Nat):(w.alloc o).heap[k]? = if k=w.heap.size then some o else w.heap[k]? := by
 show (w.heap.push o)[k]? = _
 rw[Array.getElem?_push]
def inB(x lo hi:Int):Bool:=decide (lo<=x)&&decide (x<=hi)
theorem Z2(x lo hi:Int)(w:World):Calls Tryz.prog 64 #[.int .i64 x,.int .i64 lo,.int .i64 hi] w λe w'=>e=.returned (.bool (inB x lo hi))/\w=w':=by
 unfold inB
 cases h1:decide (lo<=x)<;>cases h2:decide (x<=hi)
 all_goals
  go_enter Tryz.func64,Tryz.ntmps64
  go_wp2_with fail
  go_ret
  exact⟨rfl,rfl⟩
def XS(k o i y x v t:Int):Bool:=
 inB o 0 1099511627776&&inB t 0 1099511627776&&(if k=2 then inB y 1 2&&inB x 0 1048576&&inB i 0 1099511627776 else if k=3 then inB v 1 3&&inB i 0 1099511627776 else true)
theorem Mn(R:Array Value)(k o i y x v t:Int)(hs:R.size=78)(r0:∀ h,R[0]'h=.int .i64 k)(r1:∀ h,R[1]'h=.int .i64 o)(r7:∀ h,R[77]'h=.int .i64 t)(h2:k≠2)(h3:k≠3)(w:World) :
  Calls Tryz.prog 86 #[.agg R] w λe w'=>e=.returned (.bool (XS k o i y x v t))/\Below w.heap.size w w':=by
 have hb:=Hd (show Below w.heap.size w (w.alloc (.cells R 49)) from bR.alloc nR _)
 have e2:(k==2)=false:=by simpa using h2
 have e3:(k==3)=false:=by simpa using h3
 have hn:XS k o i y x v t=(inB o 0 1099511627776&&inB t 0 1099511627776):=by unfold XS;rw[if_neg h2,if_neg h3,Bool.and_true]
 rw[hn]
 clear hn h2 h3
 go_enter Tryz.func86,Tryz.ntmps86
 go_wp2_with fail
 with_reducible refine(Z2 o 0 1099511627776 _).mono ?_
 rintro e w1 ⟨rfl,rfl⟩
 cases h0:inB o 0 1099511627776
 ·replace h0:=Hd h0
  go_wp2_with fail
  go_ret
  exact⟨by rw[h0.out];rfl,hb.out⟩
 ·replace h0:=Hd h0
  go_wp2_with fail
  with_reducible refine(Z2 t 0 1099511627776 _).mono ?_
  rintro e w1 ⟨rfl,rfl⟩
  go_wp2_with fail
  go_ret
  exact⟨by rw[h0.out,Bool.true_and];rfl,hb.out⟩
theorem Mq(R:Array Value)(o i y x v t:Int)(hs:R.size=78)(r0:∀ h,R[0]'h=.int .i64 3)(r1:∀ h,R[1]'h=.int .i64 o)(r2:∀ h,R[2]'h=.int .i64 i)(r6:∀ h,R[76]'h=.int .i64 v)(r7:∀ h,R[77]'h=.int .i64 t)(w:World) :
  Calls Tryz.prog 86 #[.agg R] w λe w'=>e=.returned (.bool (XS 3 o i y x v t))/\Below w.heap.size w w':=by
 have hb:=Hd (show Below w.heap.size w (w.alloc (.cells R 49)) from bR.alloc nR _)
 have hn:XS 3 o i y x v t=(inB o 0 1099511627776&&inB t 0 1099511627776&&(inB v 1 3&&inB i 0 1099511627776)):=rfl
 rw[hn]
 clear hn
 go_enter Tryz.func86,Tryz.ntmps86
 go_wp2_with fail
 with_reducible refine(Z2 o 0 1099511627776 _).mono ?_
 rintro e w1 ⟨rfl,rfl⟩
 cases h0:inB o 0 1099511627776
 ·replace h0:=Hd h0
  go_wp2_with fail
  go_ret
  exact⟨by rw[h0.out];rfl,hb.out⟩
 ·replace h0:=Hd h0
  go_wp2_with fail
  with_reducible refine(Z2 t 0 1099511627776 _).mono ?_
  rintro e w1 ⟨rfl,rfl⟩
  cases h1:inB t 0 1099511627776
  ·replace h1:=Hd h1
   go_wp2_with fail
   go_ret
   exact⟨by rw[h0.out,h1.out];rfl,hb.out⟩
  ·replace h1:=Hd h1
   go_wp2_with fail
   with_reducible refine(Z2 v 1 3 _).mono ?_
   rintro e w1 ⟨rfl,rfl⟩
   cases h2:inB v 1 3
   ·replace h2:=Hd h2
    go_wp2_with fail
    go_ret
    exact⟨by rw[h0.out,h1.out,h2.out];rfl,hb.out⟩
   ·replace h2:=Hd h2
    go_wp2_with fail
    with_reducible refine(Z2 i 0 1099511627776 _).mono ?_
    rintro e w1 ⟨rfl,rfl⟩
    go_wp2_with fail
    go_ret
    exact⟨by rw[h0.out,h1.out,h2.out];rfl,hb.out⟩
theorem T3(R:Array Value)(o i y x v t:Int)(hs:R.size=78)(r0:∀ h,R[0]'h=.int .i64 2)(r1:∀ h,R[1]'h=.int .i64 o)(r2:∀ h,R[2]'h=.int .i64 i)(r4:∀ h,R[74]'h=.int .i64 y)(r5:∀ h,R[75]'h=.int .i64 x)(r7:∀ h,R[77]'h=.int .i64 t)(w:World) :
  Calls Tryz.prog 86 #[.agg R] w λe w'=>e=.returned (.bool (XS 2 o i y x v t))/\Below w.heap.size w w':=by
 have hb:=Hd (show Below w.heap.size w (w.alloc (.cells R 49)) from bR.alloc nR _)
 have hn:XS 2 o i y x v t=(inB o 0 1099511627776&&inB t 0 1099511627776&&(inB y 1 2&&inB x 0 1048576&&inB i 0 1099511627776)):=rfl
 rw[hn]
 clear hn
 go_enter Tryz.func86,Tryz.ntmps86
 go_wp2_with fail
 with_reducible refine(Z2 o 0 1099511627776 _).mono ?_
 rintro e w1 ⟨rfl,rfl⟩
 cases h0:inB o 0 1099511627776
 ·replace h0:=Hd h0
  go_wp2_with fail
  go_ret
  exact⟨by rw[h0.out];rfl,hb.out⟩
 ·replace h0:=Hd h0
  go_wp2_with fail
  with_reducible refine(Z2 t 0 1099511627776 _).mono ?_
  rintro e w1 ⟨rfl,rfl⟩
  cases h1:inB t 0 1099511627776
  ·replace h1:=Hd h1
   go_wp2_with fail
   go_ret
   exact⟨by rw[h0.out,h1.out];rfl,hb.out⟩
  ·replace h1:=Hd h1
   go_wp2_with fail
   with_reducible refine(Z2 y 1 2 _).mono ?_
   rintro e w1 ⟨rfl,rfl⟩
   cases h2:inB y 1 2
   ·replace h2:=Hd h2
    go_wp2_with fail
    go_ret
    exact⟨by rw[h0.out,h1.out,h2.out];rfl,hb.out⟩
   ·replace h2:=Hd h2
    go_wp2_with fail
    with_reducible refine(Z2 x 0 1048576 _).mono ?_
    rintro e w1 ⟨rfl,rfl⟩
    cases h3:inB x 0 1048576
    ·replace h3:=Hd h3
     go_wp2_with fail
     go_ret
     exact⟨by rw[h0.out,h1.out,h2.out,h3.out];rfl,hb.out⟩
    ·replace h3:=Hd h3
     go_wp2_with fail
     with_reducible refine(Z2 i 0 1099511627776 _).mono ?_
     rintro e w1 ⟨rfl,rfl⟩
     go_wp2_with fail
     go_ret
     exact⟨by rw[h0.out,h1.out,h2.out,h3.out];rfl,hb.out⟩
end Go.Proofs.YtpdhceiodgnbmaaGreatDoor
