import Derived.Test.YtpdhceiodgnbmaaGreatDoorF0FollowsSaid
import Derived.Test.YtpdhceiodgnbmaaGreatDoorF1FollowsSaid
import Derived.Test.YtpdhceiodgnbmaaGreatDoorF44FollowsSaid
import Derived.Test.YtpdhceiodgnbmaaGreatDoorF45FollowsSaid
import Derived.Test.YtpdhceiodgnbmaaGreatDoorCards
import Derived.Test.YtpdhceiodgnbmaaGreatDoorTie
import Derived.LaidMore
import Derived.Lay
set_option linter.unusedVariables false
set_option linter.unusedSimpArgs false
set_option linter.unnecessarySimpa false
set_option maxRecDepth 100000
set_option maxHeartbeats 8000000
/-
 The statement 'LedgerFollows' ('bailee/baileelaw21.LedgerFollows'),out of its walk: for whatever arguments the call returns true and leaves what was there as it was.
-/
namespace Go.Proofs.YtpdhceiodgnbmaaGreatDoor.ledgerFollows
open Go.ChangeShapes Go.WideShapes Go.ChangeAt Go.RowKit
open Go.ChangeMaps (open_string shut_string)
theorem own:ownKnob Tryz.prog.godebug=none:=kX
theorem Uu:laidOutB Tryz.prog=true:=kX
def errSents:List (String×List UInt8):=((Rows.ledgerFollowsRow.laid.drop 1).take 20).filterMap λx=>match x.2 with | .iface _ (.ptr (.agg [.lit (.string s)]))=>some (x.1,s)|_=>none
theorem NX:Rows.ledgerFollowsRow.laid=Rows.ledgerFollowsRow.laid.take 1++(errSents.map (λx=>(x.1,Rx "*errors.errorString" x.2))++Rows.ledgerFollowsRow.laid.drop 21):=kX
theorem P8 : "*errors.errorString" = "*" ++ "errors.errorString" := by decide
theorem Wb(u:TypeId)(h:Tryz.prog.typeName? 3 u=some "*errors.errorString"):u=298:=
 typeName_ptr_named (nm := "errors.errorString") (by rw[<-P8];kernel_rfl) kX dX u (by rw[<-P8];exact h)
theorem RZ{W:World}(h:laidMetH Tryz.prog Rows.ledgerFollowsRow.laid W):∃ a,Errs 298 Zv W a:=by
 rw[MakeChecks.laidMetH_plain _ _ _ kX] at h
 obtain⟨ps,hv,hnd,hrows⟩:=h
 rw[NX] at hv
 obtain⟨qa,qb,eps,hv2⟩:=U9 _ _ _ hv
 subst eps
 obtain⟨al,h1,h2,h3,h4⟩:=Nw (P:=Tryz.prog) (nm := "*errors.errorString") Tryz.underlying30 Wb Tryz.underlying298 Tryz.underlying322 rfl rfl Tryz.underlying9 kX kX
  _ errSents Zv qb kX kX hv2 (List.nodup_append.1 hnd).2.1 (λb off hb=>hrows b off (List.mem_append_right _ hb))
 exact⟨_,Errs.of_list h1 h2 (λa ha=>(h3 a ha).2.2) h4⟩
theorem Ho:Rows.ledgerFollowsRow.laid=Rows.ledgerFollowsRow.laid.take 21++(("bailee/sha.first",Go.Lib.tabData .u32 shaFirst)::Rows.ledgerFollowsRow.laid.drop 22):=kX
theorem HL:Rows.ledgerFollowsRow.laid=Rows.ledgerFollowsRow.laid.take 22++(("bailee/sha.added",Go.Lib.tabData .u32 shaAdded)::Rows.ledgerFollowsRow.laid.drop 23):=kX
theorem Pb{W:World}(h:laidMetH Tryz.prog Rows.ledgerFollowsRow.laid W):ShaF W/\ShaK W:=by
 rw[MakeChecks.laidMetH_plain _ _ _ kX] at h
 obtain⟨ps,hv,hnd,hrows⟩:=h
 have hw0:=hv
 rw[Ho] at hw0
 obtain⟨q0,hv0⟩:=Jv _ _ _ hw0
 obtain⟨t0,f0,r0⟩:=Nr (P:=Tryz.prog) (t:=273) (e:=239) (n:=8) (g:=22) kX kX Tryz.underlying273 Tryz.underlying239 kX kX hv0
 have hw1:=hv
 rw[HL] at hw1
 obtain⟨q1,hv1⟩:=Jv _ _ _ hw1
 obtain⟨t1,f1,r1⟩:=Nr (P:=Tryz.prog) (t:=241) (e:=239) (n:=64) (g:=23) kX kX Tryz.underlying241 Tryz.underlying239 kX kX hv1
 exact⟨(λi hi=>G2 r0 i hi),(λt ht=>GU r1 t ht)⟩
theorem Ps(os:Os)(started:os.Started)(H:Type)(enc:TypeId×Value->H) :
  ReturnsInHanded {} Tryz.checked os 4 .any (λw args=>(Rows.ledgerFollowsSpec.pre enc Tryz.prog Tryz.f4 [] false w args/\laidMetH Tryz.prog Rows.ledgerFollowsRow.laid w)/\sizedMet enc Tryz.prog Tryz.f4 (OpenSpec.ofChange Rows.ledgerFollowsSpec) false w args) (Rows.ledgerFollowsSpec.post enc Tryz.prog Tryz.f4 false true false false):=by
 refine returnsInHanded_of_change_and (C:=Tryz.checked) (X:=λw _=>laidMetH Tryz.prog Rows.ledgerFollowsRow.laid w) (λ_ _ _ hh h=>h.of_heap hh) own started kX Tryz.func4
  (ChangeSpec.witness_shaped (enc:=enc) (C:=Tryz.checked) (os:=os) (X:=λw _=>laidMetH Tryz.prog Rows.ledgerFollowsRow.laid w) false (World.laidAll Tryz.prog os Rows.ledgerFollowsRow.laid) #[.slice none 0 0,.string ByteArray.empty,.int .i64 0] 8 (World.laidAll_os _ _ _) (World.shaped_of_ZipB kX kX) kX kX kX (by rw[MakeChecks.laidMetH_plain _ _ _ kX];exact laidMet_laidAll _ kX kX)) ?_
 intro W base args ds gs before hval0 hW _ _ hL _
 have hval:∀ (j:Nat) t v,Tryz.f4.params[j]? = some t->args[j]? = some v->Value.okWide Tryz.prog W .any base t v:=hval0
 have hW':=hW
 obtain⟨p,q,hA0,hV,rfl,hfz,hnd⟩:=hW
 have hA:DataW.TrodAll enc Tryz.prog W 0 (λ_=>true) true Tryz.f4.params.toList args.toList ds p:=hA0
 rw[Tryz.params4] at hA hval
 obtain⟨v0,vs0,d0,ds0,p0,q0,hargs,rfl,rfl,h0,r0⟩:=trodAll_cons hA
 obtain⟨v1,vs1,d1,ds1,p1,q1,rfl,rfl,rfl,h1,r1⟩:=trodAll_cons r0
 obtain⟨v2,vs2,d2,ds2,p2,q2,rfl,rfl,rfl,h2,r2⟩:=trodAll_cons r1
 obtain⟨rfl,rfl,rfl⟩:=trodAll_nil r2
 obtain rfl:args=#[v0,v1,v2]:=by cases args;simp_all
 obtain⟨rfl,rfl⟩:=trodVars_none hV
 have k0:=h0
 have lt0:∀ x∈p0,x.block<W.heap.size:=by obtain⟨m,hm⟩:=k0;exact DataW.trod_lt m _ _ _ hm
 obtain⟨a0,cap0,z0,rfl,w0,w0ok⟩:=TL (hval 0 43 v0 rfl rfl) h0
 have k1:=h1
 have lt1:∀ x∈p1,x.block<W.heap.size:=by obtain⟨m,hm⟩:=k1;exact DataW.trod_lt m _ _ _ hm
 obtain⟨a1,rfl,rfl,rfl,w1⟩:=open_string Tryz.underlying9 (hval 1 9 v1 rfl rfl) h1
 have k2:=h2
 have lt2:∀ x∈p2,x.block<W.heap.size:=by obtain⟨m,hm⟩:=k2;exact DataW.trod_lt m _ _ _ hm
 obtain⟨a2,rfl,rfl,rfl,w2⟩:=open_int Tryz.underlying3 (hval 2 3 v2 rfl rfl) h2
 clear hA0 hval0
 obtain⟨ea,hE⟩:=RZ hL
 obtain⟨hT_first,hT_added⟩:=Pb hL
 refine(GP a0 cap0 z0 a1 a2 W w0 w0ok ea hE hT_added hT_first).mono λe W' ⟨he,bel⟩=>?_
 subst he
 exact⟨_,rfl,_,_,_,[],_,[],hW',trodAll_mk1 (shut_bool Tryz.underlying4 _),(trodAll_cons_mk (Below.trod Uu kX (of_decide_eq_true kX) k0 bel lt0) (trodAll_cons_mk (Below.trod Uu kX (of_decide_eq_true kX) k1 bel lt1) (trodAll_cons_mk (Below.trod Uu kX (of_decide_eq_true kX) k2 bel lt2) trodAll_mk0))),rfl,bel.frame _,λh=>by cases h⟩
theorem Wa:Rows.LedgerFollowsSaid:=
 OpenClaim.holds_of_wide 4 Tryz.f4 rfl rfl rfl rfl rfl rfl rfl ⟨rfl,rfl,rfl,rfl,rfl⟩ rfl rfl rfl rfl rfl kX Tryz.func4 kX
  (of_decide_eq_true kX) (by unfold Func.isWrapper;first|(rw[if_pos (by decide +kernel)];kernel_rfl)|(rw[if_neg (by decide +kernel)];exact⟨rfl,rfl⟩))
  (λos started H enc _=>Ps os started H enc)
theorem plain(f:FuncId)(fn:Func)(hf:Tryz.pinned.checked.prog.funcNamed "bailee/baileelaw21.LedgerFollows" = some f)(hfn:Tryz.pinned.checked.prog.funcs[f]? = some fn) :
  true=Tryz.pinned.checked.prog.looks []/\∀ (j:Nat) t,fn.params[j]? = some t->Tryz.pinned.checked.prog.wantsStandIn t=false:=by
 obtain rfl:f=4:=Option.some.inj ((show Tryz.prog.funcNamed "bailee/baileelaw21.LedgerFollows" = some 4 by kernel_rfl).symm.trans hf) |>.symm
 obtain rfl:fn=Tryz.f4:=(Option.some.inj (Tryz.func4.symm.trans hfn)).symm
 refine⟨kX,λj t ht=>?_⟩
 rw[Tryz.params4] at ht
 have hm:=Array.mem_of_getElem? ht
 simp only[List.mem_toArray,List.mem_cons,List.not_mem_nil,or_false] at hm
 rcases hm with rfl|rfl|rfl
 ·exact(show Tryz.prog.wantsStandIn 43=false by kernel_rfl)
 ·exact(show Tryz.prog.wantsStandIn 9=false by kernel_rfl)
 ·exact(show Tryz.prog.wantsStandIn 3=false by kernel_rfl)
theorem proved:Rows.LedgerFollowsCardSaid:=
 Claim7.holds_tied_plain_at .later [] _ _ _ _ Wa (λ_ h=>by cases h) kX (λ_ h=>by cases h) ledgerFollows_row_tie rfl ⟨rfl,rfl⟩ kX rfl plain kX
#print axioms proved
end Go.Proofs.YtpdhceiodgnbmaaGreatDoor.ledgerFollows
