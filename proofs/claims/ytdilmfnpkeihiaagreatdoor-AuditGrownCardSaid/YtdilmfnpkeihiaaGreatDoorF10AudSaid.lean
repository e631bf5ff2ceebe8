import Derived.Test.YtdilmfnpkeihiaaGreatDoorF0AudSaid
import Derived.Test.YtdilmfnpkeihiaaGreatDoorF2AudSaid
import Derived.Test.YtdilmfnpkeihiaaGreatDoorF4AudSaid
import Derived.Laws.AppendOwn
set_option linter.unusedVariables false
set_option linter.unusedSimpArgs false
set_option linter.unnecessarySimpa false
set_option maxRecDepth 100000
set_option maxHeartbeats 8000000
namespace Go.Proofs.YtdilmfnpkeihiaaGreatDoor
open Go.RowKit
theorem YS{α:Type}{enc:α->List Value}{size:Nat}:∀ (xs:List α),(∀ x∈xs,(enc x).length=size)->∀ (i r:Nat) (hi:i<xs.length),r<size->(xs.flatMap enc)[i*size+r]? = (enc xs[i])[r]?
 | [],_,i,r,hi,_=>absurd hi (Nat.not_lt_zero _)
 | x::xs,h,i,r,hi,hr=>by
  have hx:=h x (List.mem_cons_self ..)
  rw[List.flatMap_cons]
  cases i with
  | zero=>rw[Nat.zero_mul,Nat.zero_add,List.getElem?_append_left oX];rfl
  | succ i=>
   rw[Nat.succ_mul,List.getElem?_append_right oX,hx,show i*size+size+r-size=i*size+r by omega]
   exact YS xs (λy hy=>h y (List.mem_cons_of_mem _ hy)) i r (by simpa using hi) hr
theorem Q6{α:Type}{enc:α->List Value}{size:Nat}:∀ (xs:List α),(∀ x∈xs,(enc x).length=size)->(xs.flatMap enc).length=xs.length*size
 | [],_=>by simp
 | x::xs,h=>by
  rw[List.flatMap_cons,List.length_append,Q6 xs (λy hy=>h y (List.mem_cons_of_mem _ hy)),h x (List.mem_cons_self ..),List.length_cons,Nat.succ_mul]
  omega
theorem X0{α:Type}{enc:α->List Value}{size:Nat}{w:World}{b o:Nat}{xs:List α}(hs:0<size)(hl:∀ x∈xs,(enc x).length=size)(h:∀ k (h:k<xs.length),w.rangeAt b (o+k*size) (enc xs[k])):w.rangeAt b o (xs.flatMap enc):=λj v hv=>by
 have hj:j<xs.length*size:=by rw[<-Q6 xs hl];exact(List.getElem?_eq_some_iff.1 hv).1
 have hi:j / size<xs.length:=Nat.div_lt_of_lt_mul (by rw[Nat.mul_comm];exact hj)
 have hr:j % size<size:=Nat.mod_lt _ hs
 have hd:j / size*size+j % size=j:=by rw[Nat.mul_comm];exact Nat.div_add_mod j size
 have h1:=YS xs hl (j / size) (j % size) hi hr
 rw[hd,hv] at h1
 have:=h (j / size) hi (j % size) v h1.symm
 rw[Nat.add_assoc,hd] at this
 exact this
theorem X8{α:Type}{enc:α->List Value}{R:World->(Nat->Prop)->α->List Value->Prop}{e:TypeId}{size base:Nat}{w:World}{v:Value}{xs:List α}(hR:∀ x∈xs,R w (λ_=>False) x (enc x))(h:w.ownsRow base e size v xs.length (xs.flatMap enc)):RowsOf R e size base w (λ_=>False) v xs:=by
 refine⟨⟨xs.map enc,sX,by rw[<-List.flatMap_def];exact h,λi x cs hx hc=>?_⟩,λk _ hf=>hf,λk hk=>hk.elim⟩
 rw[List.getElem?_map,hx] at hc
 cases hc
 exact hR x (List.mem_of_getElem? hx)
end Go.Proofs.YtdilmfnpkeihiaaGreatDoor
