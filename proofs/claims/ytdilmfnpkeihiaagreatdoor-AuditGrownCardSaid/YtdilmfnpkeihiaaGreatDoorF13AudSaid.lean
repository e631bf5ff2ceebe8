import Derived.Test.YtdilmfnpkeihiaaGreatDoorF0AudSaid
import Derived.Test.YtdilmfnpkeihiaaGreatDoorF2AudSaid
import Derived.Test.YtdilmfnpkeihiaaGreatDoorF12AudSaid
import Derived.Lib.AppendZeros
import Derived.Test.YtdilmfnpkeihiaaGreatDoorF6AudSaid
import Derived.Test.YtdilmfnpkeihiaaGreatDoorF1AudSaid
import Derived.Deep.MidRow
import Derived.Lib.SmallJoins
import Derived.Deep.Slices
import Derived.Deep.Fields
import Derived.ChangeSame
import Derived.Test.YtdilmfnpkeihiaaGreatDoorF3AudSaid
import Derived.Test.YtdilmfnpkeihiaaGreatDoorChecked
import Derived.MapViews
import Derived.Test.YtdilmfnpkeihiaaGreatDoorRows
import Derived.Outline
import Derived.Stop.LaidErr
import Derived.LaidHandle
import Derived.LaidMore
set_option linter.unusedVariables false
set_option linter.unusedSimpArgs false
set_option linter.unnecessarySimpa false
set_option maxRecDepth 100000
set_option maxHeartbeats 8000000
namespace Go.Proofs.YtdilmfnpkeihiaaGreatDoor
open Go.RowKit
section
variable {P:Program} {ops:Array Oper} {rest:List Oper} {o:Oper} {a:Act} {w:World} {Q:Exit->Act->World->Prop}
end
open Go.RowKit Go.ChangeShapes Go.WideShapes
section
variable {H:Type} {enc:TypeId×Value->H} {P:Program} {w:World}
end
open Go.RowKit Go.ChangeShapes Go.WideShapes Go.Deep
section
variable {H:Type} {enc:TypeId×Value->H} {P:Program} {w:World} {base:Nat} {spare:Nat->Bool} {held:Bool}
theorem YW{t:TypeId}{fs:Array Field}{fuel:Nat}{cs:List Value}{x:DataW H×List MemPlace}(hs:P.underlying t=some (.struct fs))(h:DataW.trod enc P w base spare held fuel t cs=some x)(j:Nat)(f:Field)(hj:fs[j]? = some f):∃ n y,DataW.trod enc P w base spare held n f.type ((cs.drop f.offset).take (P.cellsOf f.type))=some y:=by
 obtain⟨xs,n,_,_,hl,hlen,hf⟩:=DataW.trod_struct hs h
 have hq:=hf j f hj
 have hi:j<xs.length:=by rw[hlen];exact(Array.getElem?_eq_some_iff.1 hj).1
 rw[List.getElem?_eq_getElem hi] at hq
 exact⟨n,_,hq⟩
end
theorem UQ{a b:ByteArray}(h:a.data.toList=b.data.toList):a=b:=by
 cases a;cases b
 simp only[ByteArray.mk.injEq]
 exact Array.ext' h
section
variable {P:Program}
end
theorem Gp(p:P6)(h:p.Ok)(d:Nat):Tryz.prog.keyLits (d+2) 37 p.list=some p.lits:=YU Tryz.underlying37 rfl kX Tryz.underlying3 kX kX p h d
theorem XG(f:List UInt8)(h:f.length=32)(d:Nat):Tryz.prog.keyLits (d+2) 39 (cB f)=some (ZG f):=Yy Tryz.underlying39 Tryz.underlying5 kX kX f h
section
open Go.ChangeShapes Go.WideShapes Go.Deep
variable {H:Type} {enc:TypeId×Value->H} {w:World}
end
theorem Tryz.infoIntP:(Tryz.prog.info? 3).map (λi=>(i.zero,i.size,i.bytes))=some (some (.int .i64 0),1,8):=kX
section
variable {w:World} {ops:Array Oper} {rest:List Oper} {o:Oper} {a:Act} {Q:Exit->Act->World->Prop}
end
open Go.RowKit Go.ChangeShapes
def Gy(nm:String)(text:List UInt8):DataW Unit:=.iface nm (.ptr (.agg [.lit (.string text)]))
section
variable {P:Program} {nm:String} {W:World} {ti tp te ts:TypeId} {ms:Array (String×TypeId)} {f:Field}
theorem VM(hi:P.underlying ti=some (.interface ms))(hrow:∀ u,P.typeName? 3 u=some nm->u=tp)
  (hp:P.underlying tp=some (.pointer te)) (he:P.underlying te=some (.struct #[f])) (hft:f.type=ts) (hfo:f.offset=0) (hs:P.underlying ts=some .string) (hc:P.cellsOf te=1) (hcs:P.cellsOf ts=1)
  (R:List (String×DataW Unit)):∀ (L:List (String×List UInt8)) (gs:List Nat) (ps:List MemPlace),L.length=gs.length->
  (L.zip gs).all (λx=>decide (P.globalNamed x.1.1=some x.2)&&decide ((P.globals[x.2]?).map (·.type)=some ti))=true->
  DataW.LaidVars P W (L.map (λx=>(x.1,Gy nm x.2))++R) ps->ps.Nodup->
  (∀ b off,MemPlace.cell b off∈ps->(∃ c t,W.heap[b]? = some (.cells c t (0,0)))/\∀ u v,W.cell? ⟨b,off,none⟩=some (.iface u v)->Value.okWide P W .any 0 u v)->
  ∃ als:List Addr,als.length=gs.length/\als.Nodup/\(∀ a∈als,MemPlace.cell a.block a.off∈ps/\a.spot=none/\∃ c t,W.heap[a.block]? = some (.cells c t (0,0)))/\
   ∀ i,i<gs.length->∃ a,als[i]? = some a/\W.cell? ⟨gs.getD i 0,0,none⟩=some (.iface tp (.pointer (some a))):=by
 intro L
 induction L with
 | nil=>
  intro gs ps hl _ _ _ _
  have:gs=[]:=by cases gs<;>simp_all
  subst this
  exact⟨[],rfl,List.nodup_nil,λa h=>(by cases h),λi h=>(by simp at h)⟩
 | cons x L ih=>
  intro gs ps hl hg hv hnd hrows
  cases gs with
  | nil=>simp at hl
  | cons g gs=>
   simp only[List.zip_cons_cons,List.all_cons,Bool.and_eq_true,decide_eq_true_eq] at hg
   obtain⟨⟨hg0,ht0⟩,hg'⟩:=hg
   simp only[List.map_cons,List.cons_append] at hv
   obtain⟨g0,t0,cs0,f0,p0,q0,hg0',ht0',hv0,hd0,hr0,e0⟩:=hv
   obtain rfl:=Option.some.inj (hg0.symm.trans hg0')
   obtain rfl:=Option.some.inj (ht0.symm.trans ht0')
   subst e0
   obtain⟨l0⟩:=cs0
   have ok0:∀ u v,l0=[.iface u v]->Value.okWide P W .any 0 u v:=λu v e=>by
    subst e
    exact(hrows g 0 (by simp[MemPlace.row])).2 u v (by simpa using World.var?_cell hg0' hv0 0)
   obtain⟨a0,s0,rfl,hc0,hs0,hz0,rfl⟩:=errorString_of_trod hi hrow hp he hft hfo hs hc hcs hd0 ok0
   have hm0:MemPlace.cell a0.block a0.off∈MemPlace.row ⟨g,0,none⟩ [Value.iface tp (.pointer (some a0))].toArray.size++MemPlace.row a0 1++q0:=by simp[MemPlace.row]
   have hsp0:a0.spot=none:=World.cell?_spot hc0
   obtain⟨als,h1,h2,h3,h4⟩:=ih gs q0 (by simpa using hl) hg' hr0 (List.Nodup.sublist (List.sublist_append_right _ _) hnd) (λb off hm=>hrows b off (List.mem_append_right _ hm))
   refine⟨a0::als,by simp[h1],?_,?_,?_⟩
   ·rw[List.nodup_cons]
    refine⟨λhm=>?_,h2⟩
    have hq:=(h3 a0 hm).1
    rw[List.append_assoc,List.nodup_append] at hnd
    have hnd2:=(List.nodup_append.1 hnd.2.1).2.2
    exact hnd2 (MemPlace.cell a0.block a0.off) (by simp[MemPlace.row]) (MemPlace.cell a0.block a0.off) hq rfl
   ·intro a ha
    rcases List.mem_cons.1 ha with rfl|ha
    ·exact⟨hm0,hsp0,(hrows _ _ hm0).1⟩
    ·obtain⟨k1,k2,k3⟩:=h3 a ha
     exact⟨List.mem_append_right _ k1,k2,k3⟩
   ·intro i hi'
    cases i with
    | zero=>exact⟨a0,rfl,by simpa using World.var?_cell hg0' hv0 0⟩
    | succ i=>
     obtain⟨a,k1,k2⟩:=h4 i (by simpa using hi')
     exact⟨a,by simpa using k1,by simpa using k2⟩
end
structure Errs (tp:TypeId) (gs:List Nat) (w:World) (a:Nat->Addr):Prop where
 var:∀ i,i<gs.length->w.cell? ⟨gs.getD i 0,0,none⟩=some (.iface tp (.pointer (some (a i))))
 obj:∀ i,i<gs.length->∃ c t,w.heap[(a i).block]? = some (.cells c t (0,0))
 inj:∀ i j,i<gs.length->j<gs.length->a i=a j->gs.getD i 0=gs.getD j 0
theorem Errs.sub{tp:TypeId}{gs gs':List Nat}{w:World}{a:Nat->Addr}(h:Errs tp gs w a)(pos:Nat->Nat)(hp:∀ i,i<gs'.length->pos i<gs.length/\gs.getD (pos i) 0=gs'.getD i 0):Errs tp gs' w (λi=>a (pos i)):=by
 refine⟨λi hi=>?_,λi hi=>h.obj _ (hp i hi).1,λi j hi hj e=>?_⟩
 ·rw[<-(hp i hi).2]
  exact h.var _ (hp i hi).1
 ·rw[<-(hp i hi).2,<-(hp j hj).2]
  exact h.inj _ _ (hp i hi).1 (hp j hj).1 e
theorem Errs.below{tp:TypeId}{gs:List Nat}{w w':World}{a:Nat->Addr}(h:Errs tp gs w a)(hb:Below w.heap.size w w'):Errs tp gs w' a:=by
 refine⟨λi hi=>?_,λi hi=>?_,h.inj⟩
 ·have h1:=h.var i hi
  exact(hb.cell (World.block_lt_of_cell? w _ h1)).trans h1
 ·obtain⟨c,t,h1⟩:=h.obj i hi
  exact⟨c,t,(hb.block _ (Zb h1)).trans h1⟩
theorem Errs.of_list{tp:TypeId}{gs:List Nat}{w:World}{als:List Addr}(h1:als.length=gs.length)(h2:als.Nodup)(h3:∀ a∈als,∃ c t,w.heap[a.block]? = some (.cells c t (0,0)))
  (h4:∀ i,i<gs.length->∃ a,als[i]? = some a/\w.cell? ⟨gs.getD i 0,0,none⟩=some (.iface tp (.pointer (some a)))):Errs tp gs w (λi=>als.getD i ⟨0,0,none⟩):=by
 refine⟨λi hi=>?_,λi hi=>?_,λi j hi hj e=>?_⟩
 ·obtain⟨a,k1,k2⟩:=h4 i hi
  simpa[List.getD_eq_getElem?_getD,k1] using k2
 ·obtain⟨a,k1,k2⟩:=h4 i hi
  have:=h3 a (List.mem_of_getElem? k1)
  simpa[List.getD_eq_getElem?_getD,k1] using this
 ·have hi':i<als.length:=oX
  have hj':j<als.length:=oX
  simp[hi',hj'] at e
  have e2:=(List.getElem_inj h2).1 e
  rw[e2]
end Go.Proofs.YtdilmfnpkeihiaaGreatDoor
