import Derived.Test.YtpdhceiodgnbmaaGreatDoorF33KeepsSaid
import Derived.Test.YtpdhceiodgnbmaaGreatDoorCards
import Derived.Test.YtpdhceiodgnbmaaGreatDoorTie
import Derived.Lay
set_option linter.all false
set_option maxRecDepth 100000
set_option maxHeartbeats 8000000
/-
 The statement 'LedgerKeeps' ('bailee/baileelaw21.LedgerKeeps'),out of its walk: for whatever arguments the call returns true and leaves what was there as it was.
-/
namespace Go.Proofs.YtpdhceiodgnbmaaGreatDoor.ledgerKeeps
open Go.ChangeShapes Go.WideShapes Go.ChangeAt Go.RowKit
open Go.ChangeMaps (open_string shut_string)
theorem own:ownKnob Tryz.prog.godebug=none:=kX
theorem El:laidOutB Tryz.prog=true:=kX
def oC:List (String×List UInt8):=((Rows.ledgerKeepsRow.laid.drop 3).take 20).filterMap λx=>match x.2 with | .iface _ (.ptr (.agg [.lit (.string s)]))=>some (x.1,s)|_=>none
theorem Pn:Rows.ledgerKeepsRow.laid=Rows.ledgerKeepsRow.laid.take 3++(oC.map (λx=>(x.1,CH "*errors.errorString" x.2))++Rows.ledgerKeepsRow.laid.drop 23):=kX
theorem EF : "*errors.errorString" = "*" ++ "errors.errorString" := by decide
theorem FK(u:TypeId)(h:Tryz.prog.typeName? 3 u=some "*errors.errorString"):u=298:=
 typeName_ptr_named (nm := "errors.errorString") (by rw[<-EF];kernel_rfl) kX dX u (by rw[<-EF];exact h)
theorem Em{W:World}(h:laidMetH Tryz.prog Rows.ledgerKeepsRow.laid W):∃ a,aQ 298 aK W a:=by
 rw[MakeChecks.laidMetH_plain _ _ _ kX] at h;obtain⟨ps,hv,hnd,hrows⟩:=h;rw[Pn] at hv;obtain⟨qa,qb,eps,hv2⟩:=NR _ _ _ hv;subst eps;obtain⟨al,h1,h2,h3,h4⟩:=Wx (P:=Tryz.prog) (nm := "*errors.errorString") Tryz.underlying30 FK Tryz.underlying298 Tryz.underlying322 rfl rfl Tryz.underlying9 kX kX
  _ oC aK qb kX kX hv2 (List.nodup_append.1 hnd).2.1 (λb off hb=>hrows b off (List.mem_append_right _ hb))
 exact⟨_,aQ.of_list h1 h2 (λa ha=>(h3 a ha).2.2) h4⟩
theorem De:Rows.ledgerKeepsRow.laid=Rows.ledgerKeepsRow.laid.take 0++(("bailee/baileeref07.begins",Go.Lib.tabData .u32 iq)::Rows.ledgerKeepsRow.laid.drop 1):=kX
theorem DG:Rows.ledgerKeepsRow.laid=Rows.ledgerKeepsRow.laid.take 1++(("bailee/baileeref07.added",Go.Lib.tabData .u32 iw)::Rows.ledgerKeepsRow.laid.drop 2):=kX
theorem Dc:Rows.ledgerKeepsRow.laid=Rows.ledgerKeepsRow.laid.take 23++(("bailee/sha.first",Go.Lib.tabData .u32 iq)::Rows.ledgerKeepsRow.laid.drop 24):=kX
theorem D4:Rows.ledgerKeepsRow.laid=Rows.ledgerKeepsRow.laid.take 24++(("bailee/sha.added",Go.Lib.tabData .u32 iw)::Rows.ledgerKeepsRow.laid.drop 25):=kX
theorem Es{W:World}(h:laidMetH Tryz.prog Rows.ledgerKeepsRow.laid W):gZ W/\gY W/\bZ W/\bP W:=by
 rw[MakeChecks.laidMetH_plain _ _ _ kX] at h;obtain⟨ps,hv,hnd,hrows⟩:=h;have hw0:=hv;rw[De] at hw0;obtain⟨q0,hv0⟩:=XF _ _ _ hw0;obtain⟨t0,f0,r0⟩:=K0 (P:=Tryz.prog) (t:=240) (e:=239) (n:=8) (g:=20) kX kX Tryz.underlying240 Tryz.underlying239 kX kX hv0;have hw1:=hv;rw[DG] at hw1;obtain⟨q1,hv1⟩:=XF _ _ _ hw1;obtain⟨t1,f1,r1⟩:=K0 (P:=Tryz.prog) (t:=241) (e:=239) (n:=64) (g:=21) kX kX Tryz.underlying241 Tryz.underlying239 kX kX hv1;have hw2:=hv;rw[Dc] at hw2;obtain⟨q2,hv2⟩:=XF _ _ _ hw2;obtain⟨t2,f2,r2⟩:=K0 (P:=Tryz.prog) (t:=273) (e:=239) (n:=8) (g:=22) kX kX Tryz.underlying273 Tryz.underlying239 kX kX hv2;have hw3:=hv;rw[D4] at hw3;obtain⟨q3,hv3⟩:=XF _ _ _ hw3;obtain⟨t3,f3,r3⟩:=K0 (P:=Tryz.prog) (t:=241) (e:=239) (n:=64) (g:=23) kX kX Tryz.underlying241 Tryz.underlying239 kX kX hv3;exact⟨⟨_,_,r0⟩,(λt ht=>KM r1 t ht),(λi hi=>TF r2 i hi),(λt ht=>KM r3 t ht)⟩
theorem Fd(os:Os)(started:os.Started)(H:Type)(enc:TypeId×Value->H) :
  ReturnsInHanded {} Tryz.checked os 6 .any (λw args=>(Rows.ledgerKeepsSpec.pre enc Tryz.prog Tryz.f6 [] false w args/\laidMetH Tryz.prog Rows.ledgerKeepsRow.laid w)/\sizedMet enc Tryz.prog Tryz.f6 (OpenSpec.ofChange Rows.ledgerKeepsSpec) false w args) (Rows.ledgerKeepsSpec.post enc Tryz.prog Tryz.f6 false true false false):=by
 refine returnsInHanded_of_change_and (C:=Tryz.checked) (X:=λw _=>laidMetH Tryz.prog Rows.ledgerKeepsRow.laid w) (λ_ _ _ hh h=>h.of_heap hh) own started kX Tryz.func6
  (ChangeSpec.witness_shaped (enc:=enc) (C:=Tryz.checked) (os:=os) (X:=λw _=>laidMetH Tryz.prog Rows.ledgerKeepsRow.laid w) false (World.laidAll Tryz.prog os Rows.ledgerKeepsRow.laid) #[.slice none 0 0] 8 (World.laidAll_os _ _ _) (World.shaped_of_ZipB kX kX) kX kX kX (by rw[MakeChecks.laidMetH_plain _ _ _ kX];exact laidMet_laidAll _ kX kX)) ?_
 intro W base args ds gs before hval0 hW _ _ hL _;have hval:∀ (j:Nat) t v,Tryz.f6.params[j]? = some t->args[j]? = some v->Value.okWide Tryz.prog W .any base t v:=hval0;have hW':=hW;obtain⟨p,q,wC,hV,rfl,hfz,hnd⟩:=hW;have hA:DataW.TrodAll enc Tryz.prog W 0 (λ_=>true) true Tryz.f6.params.toList args.toList ds p:=wC;rw[Tryz.params6] at hA hval;obtain⟨v0,vs0,d0,ds0,p0,q0,hargs,rfl,rfl,h0,r0⟩:=trodAll_cons hA;obtain⟨rfl,rfl,rfl⟩:=trodAll_nil r0;obtain rfl:args=#[v0]:=by cases args;simp_all
 obtain⟨rfl,rfl⟩:=trodVars_none hV;have k0:=h0;have lt0:∀ x∈p0,x.block<W.heap.size:=by obtain⟨m,hm⟩:=k0;exact DataW.trod_lt m _ _ _ hm
 obtain⟨a0,cap0,z0,rfl,w0,w0ok⟩:=PG (hval 0 68 v0 rfl rfl) h0;clear wC hval0;obtain⟨ea,hE⟩:=Em hL;obtain⟨rq,ru,vW,vX⟩:=Es hL;refine(Lb a0 cap0 z0 W ⟨w0,w0ok⟩ ea hE vX vW ru rq).mono λe W' ⟨he,bel⟩=>?_;subst he;exact⟨_,rfl,_,_,_,[],_,[],hW',trodAll_mk1 (shut_bool Tryz.underlying4 _),(trodAll_cons_mk (Below.trod El kX (of_decide_eq_true kX) k0 bel lt0) trodAll_mk0),rfl,bel.frame _,λh=>by cases h⟩
theorem FS:Rows.LedgerKeepsSaid:=
 OpenClaim.holds_of_wide 6 Tryz.f6 rfl rfl rfl rfl rfl rfl rfl ⟨rfl,rfl,rfl,rfl,rfl⟩ rfl rfl rfl rfl rfl kX Tryz.func6 kX
  (of_decide_eq_true kX) (by unfold Func.isWrapper;first|(rw[if_pos (by decide +kernel)];kernel_rfl)|(rw[if_neg (by decide +kernel)];exact⟨rfl,rfl⟩))
  (λos started H enc _=>Fd os started H enc)
theorem plain(f:FuncId)(fn:Func)(hf:Tryz.pinned.checked.prog.funcNamed "bailee/baileelaw21.LedgerKeeps" = some f)(hfn:Tryz.pinned.checked.prog.funcs[f]? = some fn) :
  true=Tryz.pinned.checked.prog.looks []/\∀ (j:Nat) t,fn.params[j]? = some t->Tryz.pinned.checked.prog.wantsStandIn t=false:=by
 obtain rfl:f=6:=Option.some.inj ((show Tryz.prog.funcNamed "bailee/baileelaw21.LedgerKeeps" = some 6 by kernel_rfl).symm.trans hf) |>.symm;obtain rfl:fn=Tryz.f6:=(Option.some.inj (Tryz.func6.symm.trans hfn)).symm;refine⟨kX,λj t ht=>?_⟩;rw[Tryz.params6] at ht;have hm:=Array.mem_of_getElem? ht;simp only[List.mem_toArray,List.mem_cons,List.not_mem_nil,or_false] at hm;rcases hm with rfl
 ·exact(show Tryz.prog.wantsStandIn 68=false by kernel_rfl)
theorem proved:Rows.LedgerKeepsCardSaid:=
 Claim7.holds_tied_plain_at .later [] _ _ _ _ FS (λ_ h=>by cases h) kX (λ_ h=>by cases h) ledgerKeeps_row_tie rfl ⟨rfl,rfl⟩ kX rfl plain kX
#print axioms proved
end Go.Proofs.YtpdhceiodgnbmaaGreatDoor.ledgerKeeps
