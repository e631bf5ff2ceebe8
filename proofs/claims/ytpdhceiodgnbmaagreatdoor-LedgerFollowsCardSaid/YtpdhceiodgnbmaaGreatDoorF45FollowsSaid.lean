import Derived.Test.YtpdhceiodgnbmaaGreatDoorF0FollowsSaid
import Derived.Test.YtpdhceiodgnbmaaGreatDoorF1FollowsSaid
import Derived.Test.YtpdhceiodgnbmaaGreatDoorF2FollowsSaid
import Derived.Test.YtpdhceiodgnbmaaGreatDoorF6FollowsSaid
import Derived.MapViews
import Derived.Test.YtpdhceiodgnbmaaGreatDoorF7FollowsSaid
import Derived.Lib.LaidTab
import Derived.Deep.Matrix
import Derived.Test.YtpdhceiodgnbmaaGreatDoorF20FollowsSaid
set_option linter.unusedVariables false
set_option linter.unusedSimpArgs false
set_option linter.unnecessarySimpa false
set_option maxRecDepth 100000
set_option maxHeartbeats 8000000
namespace Go.Proofs.YtpdhceiodgnbmaaGreatDoor
open Go.RowKit Go.ChangeShapes Go.WideShapes Go.Deep
section
variable {H:Type} {enc:TypeId×Value->H} {P:Program} {w:World}
theorem HF{α:Type}[Inhabited α]{en:α->List Value}{Ok:α->Prop}{size:Nat}{t e:TypeId}{n o:Nat}{cs:List Value}{y:DataW H×List MemPlace}(ht:P.underlying t=some (.slice e))(hce:P.cellsOf t=1)(hC:P.cellsOf e=size)(h0:0<size)(hlen:∀ x,Ok x->(en x).length=size)
  (hel:∀ n cs' y,DataW.trod enc P w 0 (λ_=>true) true n e cs'=some y->∃ x,cs'=en x/\Ok x) (h:DataW.trod enc P w 0 (λ_=>true) true n t ((cs.drop o).take (P.cellsOf t))=some y) :
  ∃ a c xs,cs[o]? = some (.slice a (List.length xs) c)/\RowAt en size w a xs/\xs.length<=c/\c<=maxLen/\∀ x∈xs,Ok x:=by
 rw[hce] at h
 rcases open_slice ht h with ⟨hcs,_⟩|⟨a,len,cap,m,n',D,Pl,hcs,_,hl,hx,hm,_,hrow⟩
 ·have hc0:cs[o]? = some (.slice none 0 0):=by
   have:=congrArg (·[0]?) hcs
   simpa[List.getElem?_take,List.getElem?_drop] using this
  exact⟨none,0,[],hc0,λk hk=>absurd hk (Nat.not_lt_zero k),Nat.le_refl _,Nat.zero_le _,λx hx=>(List.not_mem_nil hx).elim⟩
 ·have hc0:cs[o]? = some (.slice (some a) len cap):=by
   have:=congrArg (·[0]?) hcs
   simpa[List.getElem?_take,List.getElem?_drop] using this
  have hm':m=cap:=by simpa using hm
  have each:∀ k,k<len->∃ b o' x,some a=some (⟨b,o',none⟩:Addr)/\w.rangeAt b (o'+k*size) (en x)/\Ok x:=by
   intro k hk
   obtain⟨cs',hcell,htr⟩:=hrow k oX
   rw[hC] at hcell
   obtain⟨_,hcl,hat⟩:=World.cells?_some hcell
   obtain⟨x,rfl,hok⟩:=hel _ _ _ htr
   have hln:=hlen x hok
   have hcell:∀ j u,(en x)[j]? = some u->w.cell? ((a.add (k*size)).add j)=some u:=λj u hj=>by
    have hj7:j<size:=by have:=(List.getElem?_eq_some_iff.1 hj).1;omega
    rw[hat j hj7];exact hj
   obtain⟨b,o',spot⟩:=a
   have hspot:spot=none:=by
    obtain⟨cs2,hcell2,htr2⟩:=hrow 0 oX
    rw[hC] at hcell2
    obtain⟨_,_,hat2⟩:=World.cells?_some hcell2
    obtain⟨x2,rfl,hok2⟩:=hel _ _ _ htr2
    have h7:=hat2 0 h0
    have hln2:=hlen x2 hok2
    rw[List.getElem?_eq_getElem oX] at h7
    simpa[Addr.add] using World.cell?_spot h7
   subst hspot
   have hadd1:∀ o j,(⟨b,o,none⟩:Addr).add j=⟨b,o+j,none⟩:=λo j=>by unfold Addr.add;split<;>simp_all
   have hadd:∀ j,((⟨b,o',none⟩:Addr).add (k*size)).add j=⟨b,o'+k*size+j,none⟩:=λj=>by rw[hadd1,hadd1]
   exact⟨b,o',x,rfl,λj u hj=>(hadd j)▸hcell j u hj,hok⟩
  have hch:∃ X:Nat->α,∀ k,k<len->∃ b o',some a=some (⟨b,o',none⟩:Addr)/\w.rangeAt b (o'+k*size) (en (X k))/\Ok (X k):=by
   refine⟨λk=>if hk:k<len then (each k hk).choose_spec.choose_spec.choose else default,λk hk=>?_⟩
   simp only[hk,dif_pos]
   exact⟨_,_,(each k hk).choose_spec.choose_spec.choose_spec⟩
  obtain⟨X,hX⟩:=hch
  refine⟨some a,cap,(List.range len).map X,by simp[hc0],λk hk=>?_,by simpa using hl,hx,λx hx=>?_⟩
  ·have hk':k<len:=by simpa using hk
   obtain⟨b,o',e1,e2,_⟩:=hX k hk'
   exact⟨b,o',e1,by simpa using e2⟩
  ·obtain⟨k,hk,rfl⟩:=List.mem_map.1 hx
   obtain⟨_,_,_,_,e3⟩:=hX k (by simpa using hk)
   exact e3
end
section
variable {H:Type} {enc:TypeId×Value->H} {w:World}
theorem TL{r:Reach}{b0:Nat}{v:Value}{d:DataW H}{p:List MemPlace}(hv:Value.okWide Tryz.prog w r b0 43 v)(h:DataW.Trod enc Tryz.prog w 0 (λ_=>true) true 43 v d p) :
  ∃ a c xs,v=.slice a (List.length xs) c/\RowAt Rc.list 78 w a xs/\∀ x∈xs,x.Ok:=by
 obtain⟨a0,l0,c0,rfl⟩:=okWide_slice Tryz.underlying43 hv
 obtain⟨fuel,hf⟩:=h
 haveI:Inhabited Rc:=⟨Rc.zero⟩
 have hc1:Tryz.prog.cellsOf 43=1:=kX
 obtain⟨a,c,xs,e0,hx,_,_,hok⟩:=HF (en:=Rc.list) (Ok:=Rc.Ok) (size:=78) (t:=43) (o:=0) (cs:=[.slice a0 l0 c0]) Tryz.underlying43 hc1 kX dX (λx hx=>Rc.len hx.root hx.file) (λn cs' y hy=>by
  have hk:=(Go.keyLits_of_trod 6 49 kX _ _ _ hy).1
  exact Ki (d:=4) (i64:=3) (ts:=9) (tp:=45) (td:=47) Tryz.underlying49 rfl Tryz.underlying3 Tryz.underlying9 (λcs l hl=>U6 Tryz.underlying45 rfl Tryz.underlying3 kX kX hl) (λcs l hl=>VE Tryz.underlying47 Tryz.underlying5 kX kX hl) kX kX kX kX kX hk) (by rw[hc1];exact hf)
 refine⟨a,c,xs,?_,hx,hok⟩
 simpa using e0
end
open Go.RowKit Go.ChangeShapes
section
variable {P:Program} {W:World}
theorem Jv(R:List (String×DataW Unit)):∀ (L:List (String×DataW Unit)) (ps:List MemPlace),DataW.LaidVars P W (L++R) ps->∃ q,DataW.LaidVars P W R q:=by
 intro L
 induction L with
 | nil=>intro ps h;exact⟨ps,h⟩
 | cons x L ih=>
  intro ps h
  obtain⟨g0,t0,cs0,f0,p0,q0,hg0,ht0,hv0,hd0,hr0,e0⟩:=h
  exact ih q0 hr0
theorem U9(R:List (String×DataW Unit)):∀ (L:List (String×DataW Unit)) (ps:List MemPlace),DataW.LaidVars P W (L++R) ps->∃ q r,ps=q++r/\DataW.LaidVars P W R r:=by
 intro L
 induction L with
 | nil=>intro ps h;exact⟨[],ps,rfl,h⟩
 | cons x L ih=>
  intro ps h
  obtain⟨g0,t0,cs0,f0,p0,q0,hg0,ht0,hv0,hd0,hr0,e0⟩:=h
  obtain⟨q,r,e1,hr⟩:=ih q0 hr0
  exact⟨MemPlace.row ⟨g0,0,none⟩ cs0.size++p0++q,r,by rw[e0,e1];simp only[List.append_assoc],hr⟩
theorem Nr{name:String}{k:IntKind}{zs:List Int}{R:List (String×DataW Unit)}{ps:List MemPlace}{g:Nat}{t e:TypeId}{n:Nat}
  (hg:P.globalNamed name=some g) (hty:(P.globals[g]?).map (·.type)=some t) (ht:P.underlying t=some (.array n e)) (he:P.underlying e=some (.int k)) (hce:P.cellsOf e=1) (hct:P.cellsOf t=n)
  (h:DataW.LaidVars P W ((name,Go.Lib.tabData k zs)::R) ps):∃ t' fr,W.heap[g]? = some (.cells (zs.map λz=>Value.int k z).toArray t' fr):=by
 obtain⟨g',t',cs,fuel,p,q,hg',ht',hvar,hd,_,_⟩:=h
 obtain rfl:=Option.some.inj (hg.symm.trans hg')
 obtain rfl:=Option.some.inj (hty.symm.trans ht')
 have e1:cs=(zs.map λz=>Value.int k z).toArray:=by rw[<-Go.Lib.cells_of_tab ht he hce hct hd]
 subst e1
 simp only[World.var?,hg,Option.bind_some] at hvar
 split at hvar
 ·rename_i cs2 t2 fr2 hh
  injection hvar with hvar
  subst hvar
  exact⟨t2,fr2,hh⟩
 ·cases hvar
end
section
variable {H:Type} {enc:TypeId×Value->H} {P:Program} {w:World}
end
def shaFirst:List Int:=(Z4 8 (sAt ZQ)).map wn
def shaAdded:List Int:=kList.map wn
theorem Gj:(shaFirst.map λz=>Value.int .u32 z).toArray=c8 ZQ:=kX
theorem G2{W:World}{g:Nat}{t:TypeId}{fr:Nat×Nat}(h:W.heap[g]? = some (.cells (shaFirst.map λz=>Value.int .u32 z).toArray t fr))(i:Nat)(hi:i<8):W.cell? ⟨g,i,none⟩=some (.int .u32 (wn (sAt ZQ i))):=by
 rw[cell_of_row W g i _ t fr h,Gj,Mt ZQ hi]
theorem GU{W:World}{g:Nat}{t:TypeId}{fr:Nat×Nat}(h:W.heap[g]? = some (.cells (shaAdded.map λz=>Value.int .u32 z).toArray t fr))(i:Nat)(hi:i<64):W.cell? ⟨g,i,none⟩=some (.int .u32 (wn (kAt i))):=by
 rw[cell_of_row W g i _ t fr h]
 have hk:kList.length=64:=rfl
 unfold shaAdded kAt
 simp only[List.getElem?_toArray,List.getElem?_map,List.map_map,List.getD_eq_getElem?_getD]
 rw[List.getElem?_eq_getElem oX]
 rfl
end Go.Proofs.YtpdhceiodgnbmaaGreatDoor
