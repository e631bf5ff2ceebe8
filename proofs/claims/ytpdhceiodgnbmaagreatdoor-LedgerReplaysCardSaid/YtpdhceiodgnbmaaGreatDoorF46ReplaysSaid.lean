import Derived.Test.YtpdhceiodgnbmaaGreatDoorF0ReplaysSaid
import Derived.Test.YtpdhceiodgnbmaaGreatDoorF1ReplaysSaid
import Derived.Test.YtpdhceiodgnbmaaGreatDoorF45ReplaysSaid
import Derived.Test.YtpdhceiodgnbmaaGreatDoorCards
import Derived.Test.YtpdhceiodgnbmaaGreatDoorTie
import Derived.LaidMore
import Derived.Lay
set_option linter.unusedVariables false
set_option linter.unusedSimpArgs false
set_option linter.unnecessarySimpa false
set_option maxRecDepth 100000
set_option maxHeartbeats 8000000
/-
 The statement 'LedgerReplays' ('bailee/baileelaw21.LedgerReplays'),out of its walk: for whatever arguments the call returns true and leaves what was there as it was.
-/
namespace Go.Proofs.YtpdhceiodgnbmaaGreatDoor.ledgerReplays
open Go.ChangeShapes Go.WideShapes Go.ChangeAt Go.RowKit
open Go.ChangeMaps (open_string shut_string)
theorem own:ownKnob Tryz.prog.godebug=none:=kX
theorem LE:laidOutB Tryz.prog=true:=kX
def errSents:List (String×List UInt8):=((Rows.ledgerReplaysRow.laid.drop 1).take 20).filterMap λx=>match x.2 with | .iface _ (.ptr (.agg [.lit (.string s)]))=>some (x.1,s)|_=>none
theorem TL:Rows.ledgerReplaysRow.laid=Rows.ledgerReplaysRow.laid.take 1++(errSents.map (λx=>(x.1,WQ "*errors.errorString" x.2))++Rows.ledgerReplaysRow.laid.drop 21):=kX
theorem LO : "*errors.errorString" = "*" ++ "errors.errorString" := by decide
theorem DB(u:TypeId)(h:Tryz.prog.typeName? 3 u=some "*errors.errorString"):u=298:=
 typeName_ptr_named (nm := "errors.errorString") (by rw[<-LO];kernel_rfl) kX dX u (by rw[<-LO];exact h)
theorem Lk{W:World}(h:laidMetH Tryz.prog Rows.ledgerReplaysRow.laid W):∃ a,Errs 298 Zq W a:=by
 rw[MakeChecks.laidMetH_plain _ _ _ kX] at h
 obtain⟨ps,hv,hnd,hrows⟩:=h
 rw[TL] at hv
 obtain⟨qa,qb,eps,hv2⟩:=KZ _ _ _ hv
 subst eps
 obtain⟨al,h1,h2,h3,h4⟩:=HA (P:=Tryz.prog) (nm := "*errors.errorString") Tryz.underlying30 DB Tryz.underlying298 Tryz.underlying322 rfl rfl Tryz.underlying9 kX kX
  _ errSents Zq qb kX kX hv2 (List.nodup_append.1 hnd).2.1 (λb off hb=>hrows b off (List.mem_append_right _ hb))
 exact⟨_,Errs.of_list h1 h2 (λa ha=>(h3 a ha).2.2) h4⟩
theorem Pi:Rows.ledgerReplaysRow.laid=Rows.ledgerReplaysRow.laid.take 21++(("bailee/sha.first",Go.Lib.tabData .u32 shaFirst)::Rows.ledgerReplaysRow.laid.drop 22):=kX
theorem PC:Rows.ledgerReplaysRow.laid=Rows.ledgerReplaysRow.laid.take 22++(("bailee/sha.added",Go.Lib.tabData .u32 shaAdded)::Rows.ledgerReplaysRow.laid.drop 23):=kX
theorem WV{W:World}(h:laidMetH Tryz.prog Rows.ledgerReplaysRow.laid W):ShaF W/\ShaK W:=by
 rw[MakeChecks.laidMetH_plain _ _ _ kX] at h
 obtain⟨ps,hv,hnd,hrows⟩:=h
 have hw0:=hv
 rw[Pi] at hw0
 obtain⟨q0,hv0⟩:=VO _ _ _ hw0
 obtain⟨t0,f0,r0⟩:=Hk (P:=Tryz.prog) (t:=273) (e:=239) (n:=8) (g:=22) kX kX Tryz.underlying273 Tryz.underlying239 kX kX hv0
 have hw1:=hv
 rw[PC] at hw1
 obtain⟨q1,hv1⟩:=VO _ _ _ hw1
 obtain⟨t1,f1,r1⟩:=Hk (P:=Tryz.prog) (t:=241) (e:=239) (n:=64) (g:=23) kX kX Tryz.underlying241 Tryz.underlying239 kX kX hv1
 exact⟨(λi hi=>MN r0 i hi),(λt ht=>Mg r1 t ht)⟩
theorem Dl(os:Os)(started:os.Started)(H:Type)(enc:TypeId×Value->H) :
  ReturnsInHanded {} Tryz.checked os 3 .any (λw args=>(Rows.ledgerReplaysSpec.pre enc Tryz.prog Tryz.f3 [] false w args/\laidMetH Tryz.prog Rows.ledgerReplaysRow.laid w)/\sizedMet enc Tryz.prog Tryz.f3 (OpenSpec.ofChange Rows.ledgerReplaysSpec) false w args) (Rows.ledgerReplaysSpec.post enc Tryz.prog Tryz.f3 false true false false):=by
 refine returnsInHanded_of_change_and (C:=Tryz.checked) (X:=λw _=>laidMetH Tryz.prog Rows.ledgerReplaysRow.laid w) (λ_ _ _ hh h=>h.of_heap hh) own started kX Tryz.func3
  (ChangeSpec.witness_shaped (enc:=enc) (C:=Tryz.checked) (os:=os) (X:=λw _=>laidMetH Tryz.prog Rows.ledgerReplaysRow.laid w) false (World.laidAll Tryz.prog os Rows.ledgerReplaysRow.laid) #[.slice none 0 0] 8 (World.laidAll_os _ _ _) (World.shaped_of_ZipB kX kX) kX kX kX (by rw[MakeChecks.laidMetH_plain _ _ _ kX];exact laidMet_laidAll _ kX kX)) ?_
 intro W base args ds gs before hval0 hW _ _ hL _
 have hval:∀ (j:Nat) t v,Tryz.f3.params[j]? = some t->args[j]? = some v->Value.okWide Tryz.prog W .any base t v:=hval0
 have hW':=hW
 obtain⟨p,q,hA0,hV,rfl,hfz,hnd⟩:=hW
 have hA:DataW.TrodAll enc Tryz.prog W 0 (λ_=>true) true Tryz.f3.params.toList args.toList ds p:=hA0
 rw[Tryz.params3] at hA hval
 obtain⟨v0,vs0,d0,ds0,p0,q0,hargs,rfl,rfl,h0,r0⟩:=trodAll_cons hA
 obtain⟨rfl,rfl,rfl⟩:=trodAll_nil r0
 obtain rfl:args=#[v0]:=by cases args;simp_all
 obtain⟨rfl,rfl⟩:=trodVars_none hV
 have k0:=h0
 have lt0:∀ x∈p0,x.block<W.heap.size:=by obtain⟨m,hm⟩:=k0;exact DataW.trod_lt m _ _ _ hm
 obtain⟨a0,cap0,z0,rfl,w0⟩:=HL Tryz.underlying22 Tryz.underlying24 Tryz.underlying5 kX kX (okWide_slice Tryz.underlying22 (hval 0 22 v0 rfl rfl)) h0
 clear hA0 hval0
 obtain⟨ea,hE⟩:=Lk hL
 obtain⟨hT_first,hT_added⟩:=WV hL
 refine(NR a0 cap0 z0 W w0 ea hE hT_added hT_first).mono λe W' ⟨he,bel⟩=>?_
 subst he
 exact⟨_,rfl,_,_,_,[],_,[],hW',trodAll_mk1 (shut_bool Tryz.underlying4 _),(trodAll_cons_mk (Below.trod LE kX (of_decide_eq_true kX) k0 bel lt0) trodAll_mk0),rfl,bel.frame _,λh=>by cases h⟩
theorem DK:Rows.LedgerReplaysSaid:=
 OpenClaim.holds_of_wide 3 Tryz.f3 rfl rfl rfl rfl rfl rfl rfl ⟨rfl,rfl,rfl,rfl,rfl⟩ rfl rfl rfl rfl rfl kX Tryz.func3 kX
  (of_decide_eq_true kX) (by unfold Func.isWrapper;first|(rw[if_pos (by decide +kernel)];kernel_rfl)|(rw[if_neg (by decide +kernel)];exact⟨rfl,rfl⟩))
  (λos started H enc _=>Dl os started H enc)
theorem plain(f:FuncId)(fn:Func)(hf:Tryz.pinned.checked.prog.funcNamed "bailee/baileelaw21.LedgerReplays" = some f)(hfn:Tryz.pinned.checked.prog.funcs[f]? = some fn) :
  true=Tryz.pinned.checked.prog.looks []/\∀ (j:Nat) t,fn.params[j]? = some t->Tryz.pinned.checked.prog.wantsStandIn t=false:=by
 obtain rfl:f=3:=Option.some.inj ((show Tryz.prog.funcNamed "bailee/baileelaw21.LedgerReplays" = some 3 by kernel_rfl).symm.trans hf) |>.symm
 obtain rfl:fn=Tryz.f3:=(Option.some.inj (Tryz.func3.symm.trans hfn)).symm
 refine⟨kX,λj t ht=>?_⟩
 rw[Tryz.params3] at ht
 have hm:=Array.mem_of_getElem? ht
 simp only[List.mem_toArray,List.mem_cons,List.not_mem_nil,or_false] at hm
 rcases hm with rfl
 ·exact(show Tryz.prog.wantsStandIn 22=false by kernel_rfl)
theorem proved:Rows.LedgerReplaysCardSaid:=
 Claim7.holds_tied_plain_at .later [] _ _ _ _ DK (λ_ h=>by cases h) kX (λ_ h=>by cases h) ledgerReplays_row_tie rfl ⟨rfl,rfl⟩ kX rfl plain kX
#print axioms proved
end Go.Proofs.YtpdhceiodgnbmaaGreatDoor.ledgerReplays
