import Derived.Test.YtpdhceiodgnbmaaGreatDoorF0Safe21Said
import Derived.Test.YtpdhceiodgnbmaaGreatDoorF1Safe21Said
import Derived.Test.YtpdhceiodgnbmaaGreatDoorF33Safe21Said
import Derived.Test.YtpdhceiodgnbmaaGreatDoorF19Safe21Said
import Derived.Test.YtpdhceiodgnbmaaGreatDoorCards
import Derived.Test.YtpdhceiodgnbmaaGreatDoorTie
import Derived.LaidMore
import Derived.Lay
set_option linter.unusedVariables false
set_option linter.unusedSimpArgs false
set_option linter.unnecessarySimpa false
set_option maxRecDepth 100000
set_option maxHeartbeats 8000000
/-
 The statement 'LedgerSafe' ('bailee/baileelaw21.LedgerSafe'),out of its walk: for whatever arguments the call returns true and leaves what was there as it was.
-/
namespace Go.Proofs.YtpdhceiodgnbmaaGreatDoor.ledgerSafe
open Go.ChangeShapes Go.WideShapes Go.ChangeAt Go.RowKit
open Go.ChangeMaps (open_string shut_string)
theorem own:ownKnob Tryz.prog.godebug=none:=kX
theorem Nb:laidOutB Tryz.prog=true:=kX
def errSents:List (String×List UInt8):=((Rows.ledgerSafeRow.laid.drop 3).take 20).filterMap λx=>match x.2 with | .iface _ (.ptr (.agg [.lit (.string s)]))=>some (x.1,s)|_=>none
theorem Ri:Rows.ledgerSafeRow.laid=Rows.ledgerSafeRow.laid.take 3++(errSents.map (λx=>(x.1,DG "*errors.errorString" x.2))++Rows.ledgerSafeRow.laid.drop 23):=kX
theorem Cg : "*errors.errorString" = "*" ++ "errors.errorString" := by decide
theorem CJ(u:TypeId)(h:Tryz.prog.typeName? 3 u=some "*errors.errorString"):u=298:=
 typeName_ptr_named (nm := "errors.errorString") (by rw[<-Cg];kernel_rfl) kX dX u (by rw[<-Cg];exact h)
theorem B9{W:World}(h:laidMetH Tryz.prog Rows.ledgerSafeRow.laid W):∃ a,Errs 298 errGs W a:=by
 rw[MakeChecks.laidMetH_plain _ _ _ kX] at h
 obtain⟨ps,hv,hnd,hrows⟩:=h
 rw[Ri] at hv
 obtain⟨qa,qb,eps,hv2⟩:=Nj _ _ _ hv
 subst eps
 obtain⟨al,h1,h2,h3,h4⟩:=PS (P:=Tryz.prog) (nm := "*errors.errorString") Tryz.underlying30 CJ Tryz.underlying298 Tryz.underlying322 rfl rfl Tryz.underlying9 kX kX
  _ errSents errGs qb kX kX hv2 (List.nodup_append.1 hnd).2.1 (λb off hb=>hrows b off (List.mem_append_right _ hb))
 exact⟨_,Errs.of_list h1 h2 (λa ha=>(h3 a ha).2.2) h4⟩
theorem Wt:Rows.ledgerSafeRow.laid=Rows.ledgerSafeRow.laid.take 0++(("bailee/baileeref07.begins",Go.Lib.tabData .u32 shaFirst)::Rows.ledgerSafeRow.laid.drop 1):=kX
theorem Wn:Rows.ledgerSafeRow.laid=Rows.ledgerSafeRow.laid.take 1++(("bailee/baileeref07.added",Go.Lib.tabData .u32 shaAdded)::Rows.ledgerSafeRow.laid.drop 2):=kX
theorem Lh:Rows.ledgerSafeRow.laid=Rows.ledgerSafeRow.laid.take 23++(("bailee/sha.first",Go.Lib.tabData .u32 shaFirst)::Rows.ledgerSafeRow.laid.drop 24):=kX
theorem WL:Rows.ledgerSafeRow.laid=Rows.ledgerSafeRow.laid.take 24++(("bailee/sha.added",Go.Lib.tabData .u32 shaAdded)::Rows.ledgerSafeRow.laid.drop 25):=kX
theorem Bc{W:World}(h:laidMetH Tryz.prog Rows.ledgerSafeRow.laid W):RefF W/\RefK W/\ShaF W/\ShaK W:=by
 rw[MakeChecks.laidMetH_plain _ _ _ kX] at h
 obtain⟨ps,hv,hnd,hrows⟩:=h
 have hw0:=hv
 rw[Wt] at hw0
 obtain⟨q0,hv0⟩:=X3 _ _ _ hw0
 obtain⟨t0,f0,r0⟩:=Kq (P:=Tryz.prog) (t:=240) (e:=239) (n:=8) (g:=20) kX kX Tryz.underlying240 Tryz.underlying239 kX kX hv0
 have hw1:=hv
 rw[Wn] at hw1
 obtain⟨q1,hv1⟩:=X3 _ _ _ hw1
 obtain⟨t1,f1,r1⟩:=Kq (P:=Tryz.prog) (t:=241) (e:=239) (n:=64) (g:=21) kX kX Tryz.underlying241 Tryz.underlying239 kX kX hv1
 have hw2:=hv
 rw[Lh] at hw2
 obtain⟨q2,hv2⟩:=X3 _ _ _ hw2
 obtain⟨t2,f2,r2⟩:=Kq (P:=Tryz.prog) (t:=273) (e:=239) (n:=8) (g:=22) kX kX Tryz.underlying273 Tryz.underlying239 kX kX hv2
 have hw3:=hv
 rw[WL] at hw3
 obtain⟨q3,hv3⟩:=X3 _ _ _ hw3
 obtain⟨t3,f3,r3⟩:=Kq (P:=Tryz.prog) (t:=241) (e:=239) (n:=64) (g:=23) kX kX Tryz.underlying241 Tryz.underlying239 kX kX hv3
 exact⟨⟨_,_,r0⟩,(λt ht=>KH r1 t ht),(λi hi=>Td r2 i hi),(λt ht=>KH r3 t ht)⟩
theorem BW(os:Os)(started:os.Started)(H:Type)(enc:TypeId×Value->H) :
  ReturnsInHanded {} Tryz.checked os 5 .any (λw args=>(Rows.ledgerSafeSpec.pre enc Tryz.prog Tryz.f5 [] false w args/\laidMetH Tryz.prog Rows.ledgerSafeRow.laid w)/\sizedMet enc Tryz.prog Tryz.f5 (OpenSpec.ofChange Rows.ledgerSafeSpec) false w args) (Rows.ledgerSafeSpec.post enc Tryz.prog Tryz.f5 false true false false):=by
 refine returnsInHanded_of_change_and (C:=Tryz.checked) (X:=λw _=>laidMetH Tryz.prog Rows.ledgerSafeRow.laid w) (λ_ _ _ hh h=>h.of_heap hh) own started kX Tryz.func5
  (ChangeSpec.witness_shaped (enc:=enc) (C:=Tryz.checked) (os:=os) (X:=λw _=>laidMetH Tryz.prog Rows.ledgerSafeRow.laid w) false (World.laidAll Tryz.prog os Rows.ledgerSafeRow.laid) #[.slice none 0 0,.agg #[.int .i64 0,.int .i64 0,.int .u64 0],.int .i64 0] 8 (World.laidAll_os _ _ _) (World.shaped_of_ZipB kX kX) kX kX kX (by rw[MakeChecks.laidMetH_plain _ _ _ kX];exact laidMet_laidAll _ kX kX)) ?_
 intro W base args ds gs before hval0 hW _ _ hL _
 have hval:∀ (j:Nat) t v,Tryz.f5.params[j]? = some t->args[j]? = some v->Value.okWide Tryz.prog W .any base t v:=hval0
 have hW':=hW
 obtain⟨p,q,hA0,hV,rfl,hfz,hnd⟩:=hW
 have hA:DataW.TrodAll enc Tryz.prog W 0 (λ_=>true) true Tryz.f5.params.toList args.toList ds p:=hA0
 rw[Tryz.params5] at hA hval
 obtain⟨v0,vs0,d0,ds0,p0,q0,hargs,rfl,rfl,h0,r0⟩:=trodAll_cons hA
 obtain⟨v1,vs1,d1,ds1,p1,q1,rfl,rfl,rfl,h1,r1⟩:=trodAll_cons r0
 obtain⟨v2,vs2,d2,ds2,p2,q2,rfl,rfl,rfl,h2,r2⟩:=trodAll_cons r1
 obtain⟨rfl,rfl,rfl⟩:=trodAll_nil r2
 obtain rfl:args=#[v0,v1,v2]:=by cases args;simp_all
 obtain⟨rfl,rfl⟩:=trodVars_none hV
 have k0:=h0
 have lt0:∀ x∈p0,x.block<W.heap.size:=by obtain⟨m,hm⟩:=k0;exact DataW.trod_lt m _ _ _ hm
 obtain⟨a0,cap0,z0,rfl,w0,w0ok⟩:=PU (hval 0 68 v0 rfl rfl) h0
 have k1:=h1
 have lt1:∀ x∈p1,x.block<W.heap.size:=by obtain⟨m,hm⟩:=k1;exact DataW.trod_lt m _ _ _ hm
 obtain⟨a1a,a1b,a1c,rfl,w1a,w1b,w1c⟩:=HA (i64:=3) (u64:=69) Tryz.underlying71 ⟨rfl,rfl,rfl⟩ ⟨rfl,rfl,rfl⟩ Tryz.underlying3 Tryz.underlying69 kX kX kX (hval 1 71 v1 rfl rfl) h1
 have k2:=h2
 have lt2:∀ x∈p2,x.block<W.heap.size:=by obtain⟨m,hm⟩:=k2;exact DataW.trod_lt m _ _ _ hm
 obtain⟨a2,rfl,rfl,rfl,w2⟩:=open_int Tryz.underlying3 (hval 2 3 v2 rfl rfl) h2
 clear hA0 hval0
 obtain⟨ea,hE⟩:=B9 hL
 obtain⟨hT_begins,hT_radded,hT_first,hT_added⟩:=Bc hL
 refine(HO a0 cap0 z0 a1a a1b a1c a2 W ⟨w0,w0ok⟩ w1a w1b w1c w2 ea hE hT_added hT_first hT_radded hT_begins).mono λe W' ⟨he,bel⟩=>?_
 subst he
 exact⟨_,rfl,_,_,_,[],_,[],hW',trodAll_mk1 (shut_bool Tryz.underlying4 _),(trodAll_cons_mk (Below.trod Nb kX (of_decide_eq_true kX) k0 bel lt0) (trodAll_cons_mk (Below.trod Nb kX (of_decide_eq_true kX) k1 bel lt1) (trodAll_cons_mk (Below.trod Nb kX (of_decide_eq_true kX) k2 bel lt2) trodAll_mk0))),rfl,bel.frame _,λh=>by cases h⟩
theorem CG:Rows.LedgerSafeSaid:=
 OpenClaim.holds_of_wide 5 Tryz.f5 rfl rfl rfl rfl rfl rfl rfl ⟨rfl,rfl,rfl,rfl,rfl⟩ rfl rfl rfl rfl rfl kX Tryz.func5 kX
  (of_decide_eq_true kX) (by unfold Func.isWrapper;first|(rw[if_pos (by decide +kernel)];kernel_rfl)|(rw[if_neg (by decide +kernel)];exact⟨rfl,rfl⟩))
  (λos started H enc _=>BW os started H enc)
theorem plain(f:FuncId)(fn:Func)(hf:Tryz.pinned.checked.prog.funcNamed "bailee/baileelaw21.LedgerSafe" = some f)(hfn:Tryz.pinned.checked.prog.funcs[f]? = some fn) :
  true=Tryz.pinned.checked.prog.looks []/\∀ (j:Nat) t,fn.params[j]? = some t->Tryz.pinned.checked.prog.wantsStandIn t=false:=by
 obtain rfl:f=5:=Option.some.inj ((show Tryz.prog.funcNamed "bailee/baileelaw21.LedgerSafe" = some 5 by kernel_rfl).symm.trans hf) |>.symm
 obtain rfl:fn=Tryz.f5:=(Option.some.inj (Tryz.func5.symm.trans hfn)).symm
 refine⟨kX,λj t ht=>?_⟩
 rw[Tryz.params5] at ht
 have hm:=Array.mem_of_getElem? ht
 simp only[List.mem_toArray,List.mem_cons,List.not_mem_nil,or_false] at hm
 rcases hm with rfl|rfl|rfl
 ·exact(show Tryz.prog.wantsStandIn 68=false by kernel_rfl)
 ·exact(show Tryz.prog.wantsStandIn 71=false by kernel_rfl)
 ·exact(show Tryz.prog.wantsStandIn 3=false by kernel_rfl)
theorem proved:Rows.LedgerSafeCardSaid:=
 Claim7.holds_tied_plain_at .later [] _ _ _ _ CG (λ_ h=>by cases h) kX (λ_ h=>by cases h) ledgerSafe_row_tie rfl ⟨rfl,rfl⟩ kX rfl plain kX
#print axioms proved
end Go.Proofs.YtpdhceiodgnbmaaGreatDoor.ledgerSafe
