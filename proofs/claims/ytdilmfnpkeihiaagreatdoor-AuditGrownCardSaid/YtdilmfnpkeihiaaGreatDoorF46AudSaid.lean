import Derived.Test.YtdilmfnpkeihiaaGreatDoorF0AudSaid
import Derived.Test.YtdilmfnpkeihiaaGreatDoorF2AudSaid
import Derived.Test.YtdilmfnpkeihiaaGreatDoorF44AudSaid
import Derived.Test.YtdilmfnpkeihiaaGreatDoorF45AudSaid
import Derived.Test.YtdilmfnpkeihiaaGreatDoorCards
import Derived.Test.YtdilmfnpkeihiaaGreatDoorTie
import Derived.LaidMore
import Derived.Lay
set_option linter.unusedVariables false
set_option linter.unusedSimpArgs false
set_option linter.unnecessarySimpa false
set_option maxRecDepth 100000
set_option maxHeartbeats 8000000
/-
 The statement 'AuditGrown' ('bailee/baileelaw36.AuditGrown'),out of its walk: for whatever arguments the call returns true and leaves what was there as it was.
-/
namespace Go.Proofs.YtdilmfnpkeihiaaGreatDoor.auditGrown
open Go.ChangeShapes Go.WideShapes Go.ChangeAt Go.RowKit
open Go.ChangeMaps (open_string shut_string)
theorem own:ownKnob Tryz.prog.godebug=none:=kX
theorem V6:laidOutB Tryz.prog=true:=kX
def errSents:List (String×List UInt8):=((Rows.auditGrownRow.laid.drop 1).take 14).filterMap λx=>match x.2 with | .iface _ (.ptr (.agg [.lit (.string s)]))=>some (x.1,s)|_=>none
theorem VJ:Rows.auditGrownRow.laid=Rows.auditGrownRow.laid.take 1++(errSents.map (λx=>(x.1,Gy "*errors.errorString" x.2))++Rows.auditGrownRow.laid.drop 15):=kX
theorem Ng : "*errors.errorString" = "*" ++ "errors.errorString" := by decide
theorem Nz(u:TypeId)(h:Tryz.prog.typeName? 3 u=some "*errors.errorString"):u=264:=
 typeName_ptr_named (nm := "errors.errorString") (by rw[<-Ng];kernel_rfl) kX dX u (by rw[<-Ng];exact h)
theorem GP{W:World}(h:laidMetH Tryz.prog Rows.auditGrownRow.laid W):∃ a,Errs 264 [0,2,4,9,8,3,7,1,10,5,6,11,14,12] W a:=by
 rw[MakeChecks.laidMetH_plain _ _ _ kX] at h
 obtain⟨ps,hv,hnd,hrows⟩:=h
 rw[VJ] at hv
 obtain⟨qa,qb,eps,hv2⟩:=XE _ _ _ hv
 subst eps
 obtain⟨al,h1,h2,h3,h4⟩:=VM (P:=Tryz.prog) (nm := "*errors.errorString") Tryz.underlying49 Nz Tryz.underlying264 Tryz.underlying284 rfl rfl Tryz.underlying9 kX kX
  _ errSents [0,2,4,9,8,3,7,1,10,5,6,11,14,12] qb kX kX hv2 (List.nodup_append.1 hnd).2.1 (λb off hb=>hrows b off (List.mem_append_right _ hb))
 exact⟨_,Errs.of_list h1 h2 (λa ha=>(h3 a ha).2.2) h4⟩
theorem Kn:Rows.auditGrownRow.laid=Rows.auditGrownRow.laid.take 15++(("bailee/sha.first",Go.Lib.tabData .u32 shaFirst)::Rows.auditGrownRow.laid.drop 16):=kX
theorem U3:Rows.auditGrownRow.laid=Rows.auditGrownRow.laid.take 16++(("bailee/sha.added",Go.Lib.tabData .u32 shaAdded)::Rows.auditGrownRow.laid.drop 17):=kX
theorem GF{W:World}(h:laidMetH Tryz.prog Rows.auditGrownRow.laid W):ShaF W/\ShaK W:=by
 rw[MakeChecks.laidMetH_plain _ _ _ kX] at h
 obtain⟨ps,hv,hnd,hrows⟩:=h
 have hw0:=hv
 rw[Kn] at hw0
 obtain⟨q0,hv0⟩:=Yz _ _ _ hw0
 obtain⟨t0,f0,r0⟩:=V3 (P:=Tryz.prog) (t:=205) (e:=203) (n:=8) (g:=13) kX kX Tryz.underlying205 Tryz.underlying203 kX kX hv0
 have hw1:=hv
 rw[U3] at hw1
 obtain⟨q1,hv1⟩:=Yz _ _ _ hw1
 obtain⟨t1,f1,r1⟩:=V3 (P:=Tryz.prog) (t:=237) (e:=203) (n:=64) (g:=15) kX kX Tryz.underlying237 Tryz.underlying203 kX kX hv1
 exact⟨(λi hi=>Vr r0 i hi),(λt ht=>Vp r1 t ht)⟩
theorem Ni(os:Os)(started:os.Started)(H:Type)(enc:TypeId×Value->H) :
  ReturnsInHanded {} Tryz.checked os 3 .any (λw args=>(Rows.auditGrownSpec.pre enc Tryz.prog Tryz.f3 [] false w args/\laidMetH Tryz.prog Rows.auditGrownRow.laid w)/\sizedMet enc Tryz.prog Tryz.f3 (OpenSpec.ofChange Rows.auditGrownSpec) false w args) (Rows.auditGrownSpec.post enc Tryz.prog Tryz.f3 false true false false):=by
 refine returnsInHanded_of_change_and (C:=Tryz.checked) (X:=λw _=>laidMetH Tryz.prog Rows.auditGrownRow.laid w) (λ_ _ _ hh h=>h.of_heap hh) own started kX Tryz.func3
  (ChangeSpec.witness_shaped (enc:=enc) (C:=Tryz.checked) (os:=os) (X:=λw _=>laidMetH Tryz.prog Rows.auditGrownRow.laid w) false (World.laidAll Tryz.prog os Rows.auditGrownRow.laid) #[.agg #[.slice none 0 0,.slice none 0 0],.agg #[.slice none 0 0,.slice none 0 0]] 8 (World.laidAll_os _ _ _) (World.shaped_of_ZipB kX kX) kX kX kX (by rw[MakeChecks.laidMetH_plain _ _ _ kX];exact laidMet_laidAll _ kX kX)) ?_
 intro W base args ds gs before hval0 hW _ _ hL _
 have hval:∀ (j:Nat) t v,Tryz.f3.params[j]? = some t->args[j]? = some v->Value.okWide Tryz.prog W .any base t v:=hval0
 have hW':=hW
 obtain⟨p,q,hA0,hV,rfl,hfz,hnd⟩:=hW
 have hA:DataW.TrodAll enc Tryz.prog W 0 (λ_=>true) true Tryz.f3.params.toList args.toList ds p:=hA0
 rw[Tryz.params3] at hA hval
 obtain⟨v0,vs0,d0,ds0,p0,q0,hargs,rfl,rfl,h0,r0⟩:=trodAll_cons hA
 obtain⟨v1,vs1,d1,ds1,p1,q1,rfl,rfl,rfl,h1,r1⟩:=trodAll_cons r0
 obtain⟨rfl,rfl,rfl⟩:=trodAll_nil r1
 obtain rfl:args=#[v0,v1]:=by cases args;simp_all
 obtain⟨rfl,rfl⟩:=trodVars_none hV
 have k0:=h0
 have lt0:∀ x∈p0,x.block<W.heap.size:=by obtain⟨m,hm⟩:=k0;exact DataW.trod_lt m _ _ _ hm
 obtain⟨m0,w0⟩:=Xt (hval 0 25 v0 rfl rfl) h0
 have k1:=h1
 have lt1:∀ x∈p1,x.block<W.heap.size:=by obtain⟨m,hm⟩:=k1;exact DataW.trod_lt m _ _ _ hm
 obtain⟨m1,w1⟩:=Xt (hval 1 25 v1 rfl rfl) h1
 clear hA0 hval0
 obtain⟨ea,hE⟩:=GP hL
 obtain⟨hT_first,hT_added⟩:=GF hL
 refine(Xv v0 m0 v1 m1 W w0 w1 _ (hE.sub (gs':=Yp) (λi=>[0,1,2,3,0,4,5,6,7,8,9,10,11,12,0,0,0,13,0,0].getD i 0) dX) hT_added hT_first).mono λe W' ⟨he,bel⟩=>?_
 subst he
 exact⟨_,rfl,_,_,_,[],_,[],hW',trodAll_mk1 (shut_bool Tryz.underlying4 _),(trodAll_cons_mk (Below.trod V6 kX (of_decide_eq_true kX) k0 bel lt0) (trodAll_cons_mk (Below.trod V6 kX (of_decide_eq_true kX) k1 bel lt1) trodAll_mk0)),rfl,bel.frame _,λh=>by cases h⟩
theorem N3:Rows.AuditGrownSaid:=
 OpenClaim.holds_of_wide 3 Tryz.f3 rfl rfl rfl rfl rfl rfl rfl ⟨rfl,rfl,rfl,rfl,rfl⟩ rfl rfl rfl rfl rfl kX Tryz.func3 kX
  (of_decide_eq_true kX) (by unfold Func.isWrapper;first|(rw[if_pos (by decide +kernel)];kernel_rfl)|(rw[if_neg (by decide +kernel)];exact⟨rfl,rfl⟩))
  (λos started H enc _=>Ni os started H enc)
theorem plain(f:FuncId)(fn:Func)(hf:Tryz.pinned.checked.prog.funcNamed "bailee/baileelaw36.AuditGrown" = some f)(hfn:Tryz.pinned.checked.prog.funcs[f]? = some fn) :
  false=Tryz.pinned.checked.prog.looks []/\∀ (j:Nat) t,fn.params[j]? = some t->Tryz.pinned.checked.prog.wantsStandIn t=false:=by
 obtain rfl:f=3:=Option.some.inj ((show Tryz.prog.funcNamed "bailee/baileelaw36.AuditGrown" = some 3 by kernel_rfl).symm.trans hf) |>.symm
 obtain rfl:fn=Tryz.f3:=(Option.some.inj (Tryz.func3.symm.trans hfn)).symm
 refine⟨kX,λj t ht=>?_⟩
 rw[Tryz.params3] at ht
 have hm:=Array.mem_of_getElem? ht
 simp only[List.mem_toArray,List.mem_cons,List.not_mem_nil,or_false] at hm
 rcases hm with rfl|rfl
 ·exact(show Tryz.prog.wantsStandIn 25=false by kernel_rfl)
 ·exact(show Tryz.prog.wantsStandIn 25=false by kernel_rfl)
theorem proved:Rows.AuditGrownCardSaid:=
 Claim7.holds_tied_plain_at .later [] _ _ _ _ N3 (λ_ h=>by cases h) kX (λ_ h=>by cases h) auditGrown_row_tie rfl ⟨rfl,rfl⟩ kX rfl plain kX
#print axioms proved
end Go.Proofs.YtdilmfnpkeihiaaGreatDoor.auditGrown
