import Derived.Test.YtdilmfnpkeihiaaGreatDoorF0AudSaid
import Derived.Deep.RegionHeld3
import Derived.Test.YtdilmfnpkeihiaaGreatDoorF1AudSaid
set_option linter.unusedVariables false
set_option linter.unusedSimpArgs false
set_option linter.unnecessarySimpa false
set_option maxRecDepth 100000
set_option maxHeartbeats 8000000
namespace Go.Proofs.YtdilmfnpkeihiaaGreatDoor
open Go.RowKit
section
variable {P:Program} {ops:Array Oper} {Q:Exit->Act->World->Prop} {md:Region.Mode}
abbrev Grown (w0 W:World):Prop:=Below w0.heap.size w0 W
theorem Grown.refl(w:World):Grown w w:=Below.refl _ _
theorem Grown.trans{a b c:World}(h:Grown a b)(h':Grown b c):Grown a c:=Below.trans h (h'.mono h.size)
theorem Grown.drew{a b:World}(h:Grown a b):Grown a b.drew:=Below.trans h (Drawn.below ⟨1,rfl⟩ _)
theorem Grown.alloc{a b:World}(h:Grown a b)(o:Obj):Grown a (b.alloc o):=Below.alloc h h.size o
theorem Y7{K:Act->World->Prop}{w:World}{a:Act}{c:Array Value}{t:TypeId}{fz:Nat×Nat}(h:∀ w',Hid (w'.heap[w.heap.size]? = some (.cells c t fz))->Grown w w'->K a w'):K a (w.alloc (.cells c t fz)):=
 h _ (show _=_ from heap_alloc_new w _) (Grown.alloc (Grown.refl w) _)
end
theorem sL{α:Type}(l:List α)(i:Nat)(a:α):l.toArray.setIfInBounds i a=(l.set i a).toArray:=List.setIfInBounds_toArray ..
theorem sZ{α:Type}{a:α}{as:List α}{b:α}:(a::as).set 0 b=b::as:=rfl
theorem sS{α:Type}{a:α}{as:List α}{n:Nat}{b:α}:(a::as).set (n+1) b=a::as.set n b:=rfl
theorem Hd{p:Prop}(h:p):Hid p:=Lib.hid h
section
variable {P:Program} {ops:Array Oper} {Q:Exit->Act->World->Prop} {S:World->Prop} {md:Region.Mode} {fuel:Nat} {listed:Array Bool} {a a':Act} {w:World}
theorem tk(i:Nat){oi:Oper}{v:Value}(hS:S w)(h:wpAnyH P md ops Q S fuel (listed.setIfInBounds i true) a' w)
  (hi:ops[i]? = some oi:=by(simp only[List.getElem?_toArray,List.getElem?_cons_succ,List.getElem?_cons_zero];rfl)) (hs:Region.noSelect ops=true:=by kernel_rfl) (hf:Region.free md ops listed i=true:=by kernel_rfl) (hr:(Region.ready md ops listed).contains i=true:=by kernel_rfl)
  (hQ:∀ c a w,Q (.panic c) (a.put oi.dst v) w->Q (.panic c) a w:=by exact λ_ _ _ h=>h) (hy:YieldsIf P ops S oi v a:=by exact Or.inl ⟨by rfl,by(intro W hSW;go_simp;try with_reducible rfl)⟩)
  (ha:a.put oi.dst v=a':=by((try simp only[Act.put,List.setIfInBounds_toArray,List.set_cons_zero,List.set_cons_succ]);rfl)):wpAnyH P md ops Q S (fuel+1) listed a w:=
 wpAnyH_take hi hs hf hr hQ hy hS (ha▸h)
theorem rd(i:Nat){o:Oper}(h:∀ K':Act->World->Prop,Shut (∀ a w,S w->(S w->wpAnyH P md ops Q S fuel (listed.setIfInBounds i true) a w)->K' a w)->if Region.wanted o (yielded ops a.tmps)=true then Oper.wp P o a w K' Q else K' (a.put o.dst undef) w)
  (hr:Region.ready md ops listed=[i]:=by kernel_rfl) (ho:ops[i]? = some o:=by(simp only[List.getElem?_toArray,List.getElem?_cons_succ,List.getElem?_cons_zero];rfl)):wpAnyH P md ops Q S (fuel+1) listed a w:=
 wpAnyH_ready hr sX (AllReadyH.cons ho h AllReadyH.nil)
theorem rds(rs:List Nat)(h:AllReadyH P md ops Q S fuel listed a w rs)(hr:Region.ready md ops listed=rs:=by kernel_rfl)(hne:rs≠[]:=by simp):wpAnyH P md ops Q S (fuel+1) listed a w:=wpAnyH_ready hr hne h
theorem ac{i:Nat}{o:Oper}{rs:List Nat}(h:∀ K':Act->World->Prop,Shut (∀ a w,S w->(S w->wpAnyH P md ops Q S fuel (listed.setIfInBounds i true) a w)->K' a w)->if Region.wanted o (yielded ops a.tmps)=true then Oper.wp P o a w K' Q else K' (a.put o.dst undef) w)
  (hs:AllReadyH P md ops Q S fuel listed a w rs) (ho:ops[i]? = some o:=by(simp only[List.getElem?_toArray,List.getElem?_cons_succ,List.getElem?_cons_zero];rfl)):AllReadyH P md ops Q S fuel listed a w (i::rs):=AllReadyH.cons ho h hs
theorem acI(i:Nat){o:Oper}{rs:List Nat}(h:∀ K':Act->World->Prop,Shut (∀ a w,S w->(S w->wpAnyH P md ops Q S fuel (listed.setIfInBounds i true) a w)->K' a w)->if Region.wanted o (yielded ops a.tmps)=true then Oper.wp P o a w K' Q else K' (a.put o.dst undef) w)
  (hs:AllReadyH P md ops Q S fuel listed a w rs) (ho:ops[i]? = some o:=by(simp only[List.getElem?_toArray,List.getElem?_cons_succ,List.getElem?_cons_zero];rfl)):AllReadyH P md ops Q S fuel listed a w (i::rs):=AllReadyH.cons ho h hs
theorem tkK(i:Nat){oi:Oper}{v:Value}(hS:S w)(h:wpAnyH P md ops Q S fuel (listed.setIfInBounds i true) a' w)
  (hf:Region.free md ops listed i=true:=by decide +kernel) (hr:(Region.ready md ops listed).contains i=true:=by decide +kernel) (hi:ops[i]? = some oi:=by(simp only[List.getElem?_toArray,List.getElem?_cons_succ,List.getElem?_cons_zero];rfl)) (hs:Region.noSelect ops=true:=by kernel_rfl)
  (hQ:∀ c a w,Q (.panic c) (a.put oi.dst v) w->Q (.panic c) a w:=by exact λ_ _ _ h=>h) (hy:YieldsIf P ops S oi v a:=by exact Or.inl ⟨by rfl,by(intro W hSW;go_simp;try with_reducible rfl)⟩)
  (ha:a.put oi.dst v=a':=by((try simp only[Act.put,List.setIfInBounds_toArray,List.set_cons_zero,List.set_cons_succ]);rfl)):wpAnyH P md ops Q S (fuel+1) listed a w:=
 wpAnyH_take hi hs hf hr hQ hy hS (ha▸h)
theorem rdK(i:Nat){o:Oper}(h:∀ K':Act->World->Prop,Shut (∀ a w,S w->(S w->wpAnyH P md ops Q S fuel (listed.setIfInBounds i true) a w)->K' a w)->if Region.wanted o (yielded ops a.tmps)=true then Oper.wp P o a w K' Q else K' (a.put o.dst undef) w)
  (hr:Region.ready md ops listed=[i]:=by decide +kernel) (ho:ops[i]? = some o:=by(simp only[List.getElem?_toArray,List.getElem?_cons_succ,List.getElem?_cons_zero];rfl)):wpAnyH P md ops Q S (fuel+1) listed a w:=
 wpAnyH_ready hr sX (AllReadyH.cons ho h AllReadyH.nil)
theorem XC(rs:List Nat)(h:AllReadyH P md ops Q S fuel listed a w rs)(hr:Region.ready md ops listed=rs:=by decide +kernel)(hne:rs≠[]:=by simp):wpAnyH P md ops Q S (fuel+1) listed a w:=wpAnyH_ready hr hne h
theorem dnE(h:Q .normal a w)(hr:Region.ready md ops listed=[]:=by kernel_rfl):wpAnyH P md ops Q S fuel listed a w:=wpAnyH_done hr h fuel
end
theorem wL{P:Program}{ops:Array Oper}{Q:Exit->Act->World->Prop}(o:Op){d:Option Tmp}{t:TypeId}{p:String}{af:Array Edge}{g:Option (Nat×Bool)}{r:List Oper}{a:Act}{w:World}(h:wpList P ops Q (Oper.mk d o t p af g::r) a w):wpList P ops Q (Oper.mk d o t p af g::r) a w:=h
end Go.Proofs.YtdilmfnpkeihiaaGreatDoor
