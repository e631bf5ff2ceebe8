import Derived.Test.YtdilmfnpkeihiaaGreatDoorF0AudSaid
import Derived.Test.YtdilmfnpkeihiaaGreatDoorF2AudSaid
import Derived.Test.YtdilmfnpkeihiaaGreatDoorF1AudSaid
import Derived.DeepKeys
import Derived.MapViews
import Derived.Laws.StructEq
set_option linter.unusedVariables false
set_option linter.unusedSimpArgs false
set_option linter.unnecessarySimpa false
set_option maxRecDepth 100000
set_option maxHeartbeats 8000000
namespace Go.Proofs.YtdilmfnpkeihiaaGreatDoor
open Go.RowKit
theorem Ym{α:Type}{A B C:List α}{o n:Nat}(hA:A.length=o)(hB:B.length=n):((A++(B++C)).drop o).take n=B:=by
 subst hA hB
 rw[List.drop_left,List.take_left]
theorem Z3{α:Type}{cs B:List α}{o n:Nat}(h:(cs.drop o).take n=B):cs.drop o=B++cs.drop (o+n):=by
 rw[<-h,<-List.drop_drop,List.take_append_drop]
theorem Ja{α β:Type}{g:α->Option β}{h:α->β}:∀ l:List α,(∀ i∈l,g i=some (h i))->l.mapM g=some (l.map h)
 | [],_=>rfl
 | x::l,hl=>by
  rw[List.mapM_cons,hl x (List.mem_cons_self ..),Ja l (λi hi=>hl i (List.mem_cons_of_mem _ hi))]
  rfl
theorem Xh{α β:Type}{g:α->Option β}:∀ {l:List α} {ys:List β},l.mapM g=some ys->∀ (i:Nat) (x:α),l[i]? = some x->∃ y,g x=some y
 | [],_,_,i,x,hx=>by simp at hx
 | a::l,ys,h,i,x,hx=>by
  rw[List.mapM_cons] at h
  simp only[bind,Option.bind_eq_some_iff,pure,Option.some.injEq] at h
  obtain⟨y,hy,zs,hz,_⟩:=h
  cases i with
  | zero=>simp at hx;subst hx;exact⟨y,hy⟩
  | succ i=>exact Xh hz i x (by simpa using hx)
theorem Xo{α β γ:Type}(k:α->γ)(g:γ->Option β):∀ l:List α,l.mapM (λx=>g (k x))=(l.map k).mapM g
 | []=>rfl
 | x::l=>by rw[List.mapM_cons,List.map_cons,List.mapM_cons,Xo k g l]
section
variable {P:Program}
theorem Q2{d:Nat}{t:TypeId}{fs:Array Field}{cs:List Value}{l:List Lit}(ht:P.underlying t=some (.struct fs))(h:P.keyLits (d+1) t cs=some l) :
  cs.length=P.cellsOf t/\∀ (i:Nat) (f:Field),fs[i]? = some f->∃ lf,P.keyLits d f.type ((cs.drop f.offset).take (P.cellsOf f.type))=some lf:=by
 unfold Program.keyLits at h
 simp only[ht] at h
 split at h
 ·next hc=>
  refine⟨hc.1,λi f hf=>?_⟩
  rw[Option.map_eq_some_iff] at h
  obtain⟨ls,h1,_⟩:=h
  exact Xh h1 i f (by simpa using hf)
 ·cases h
theorem Jk{d n:Nat}{t e:TypeId}{cs:List Value}{l:List Lit}(ht:P.underlying t=some (.array n e))(h:P.keyLits (d+1) t cs=some l) :
  cs.length=P.cellsOf t/\∀ i,i<n->∃ lf,P.keyLits d e ((cs.drop (i*P.cellsOf e)).take (P.cellsOf e))=some lf:=by
 unfold Program.keyLits at h
 simp only[ht] at h
 split at h
 ·next hc=>
  refine⟨hc,λi hi=>?_⟩
  rw[Option.map_eq_some_iff] at h
  obtain⟨ls,h1,_⟩:=h
  exact Xh h1 i i (by simp[hi])
 ·cases h
theorem Qp{d:Nat}{t:TypeId}{fs:Array Field}{cs:List Value}{qs:List (TypeId×Nat)}{ls:List (List Lit)}(ht:P.underlying t=some (.struct fs))(hq:fs.toList.map (λf=>(f.type,f.offset))=qs)(hn:fs.all (·.name != "_")=true)
  (hl:cs.length=P.cellsOf t) (h:qs.mapM (λq=>P.keyLits d q.1 ((cs.drop q.2).take (P.cellsOf q.1)))=some ls):P.keyLits (d+1) t cs=some ls.flatten:=by
 unfold Program.keyLits
 simp only[ht]
 rw[if_pos ⟨hl,hn⟩,Xo (λf:Field=>(f.type,f.offset)) (λq=>P.keyLits d q.1 ((cs.drop q.2).take (P.cellsOf q.1))),hq,h]
 rfl
theorem Qi{d:Nat}{t:TypeId}{k:IntKind}{n:Int}(ht:P.underlying t=some (.int k))(h:(Lit.int k n).wf=true):P.keyLits (d+1) t [.int k n]=some [.int k n]:=by
 unfold Program.keyLits
 simp[ht,h]
theorem Xb{d:Nat}{t:TypeId}{s:ByteArray}(ht:P.underlying t=some .string)(h:s.size<=maxLen):P.keyLits (d+1) t [.string s]=some [.string s.data.toList]:=by
 unfold Program.keyLits
 simp[ht,h]
theorem YY{d:Nat}{t:TypeId}{b:Bool}(ht:P.underlying t=some .bool):P.keyLits (d+1) t [.bool b]=some [.bool b]:=by
 unfold Program.keyLits
 simp[ht]
theorem Nr(x:UInt8):(Lit.int .u8 (x.toNat:Int)).wf=true:=by
 have:=x.toNat_lt
 simp[Lit.wf,IntKind.min,IntKind.max,IntKind.signed,IntKind.bits]
 omega
def ZG(f:List UInt8):List Lit:=f.map λx=>.int .u8 (x.toNat:Int)
theorem YG{f g:List UInt8}(h:ZG f=ZG g):f=g:=by
 induction f generalizing g with
 | nil=>cases g with
  | nil=>rfl
  | cons y g=>cases h
 | cons x f ih=>cases g with
  | nil=>cases h
  | cons y g=>
   simp only[ZG,List.map_cons,List.cons.injEq,Lit.int.injEq,true_and] at h
   have:x=y:=UInt8.toNat.inj oX
   rw[this,ih h.2]
theorem Yy{d n:Nat}{t e:TypeId}(ht:P.underlying t=some (.array n e))(he:P.underlying e=some (.int .u8))(hce:P.cellsOf e=1)(hct:P.cellsOf t=n)(f:List UInt8)(hf:f.length=n):P.keyLits (d+2) t (cB f)=some (ZG f):=by
 unfold Program.keyLits
 simp only[ht]
 rw[if_pos (by rw[Zc,hct,hf]),hce]
 have h:=Ja (g:=λi=>P.keyLits (d+1) e (((cB f).drop (i*1)).take 1)) (h:=λi=>[Lit.int .u8 ((f.getD i 0).toNat:Int)]) (List.range n) (λi hi=>by
  have hi':i<f.length:=by rw[hf];simpa using hi
  have:((cB f).drop (i*1)).take 1=[.int .u8 ((f.getD i 0).toNat:Int)]:=by
   rw[Nat.mul_one,List.drop_eq_getElem_cons (by rw[Zc];exact hi')]
   simp[cB,hi']
  rw[this]
  exact Qi he (Nr _))
 rw[h]
 simp only[Option.map_some,Option.some.injEq]
 rw[<-List.flatMap_def]
 apply List.ext_getElem?
 intro j
 have:(List.range n).flatMap (λi=>[Lit.int .u8 ((f.getD i 0).toNat:Int)])=(List.range n).map λi=>Lit.int .u8 ((f.getD i 0).toNat:Int):=by
  exact List.map_eq_flatMap.symm
 rw[this]
 unfold ZG
 by_cases hj:j<n
 ·simp[hj,hf]
 ·simp[hj,hf]
theorem Xd{d n:Nat}{t e:TypeId}{cs:List Value}{l:List Lit}(ht:P.underlying t=some (.array n e))(he:P.underlying e=some (.int .u8))(hce:P.cellsOf e=1)(hct:P.cellsOf t=n)(h:P.keyLits (d+1) t cs=some l):∃ f:List UInt8,cs=cB f/\f.length=n:=by
 obtain⟨hl,hi⟩:=Jk ht h
 rw[hct] at hl
 rw[hce] at hi
 refine⟨cs.map λv=>match v with | .int _ z=>UInt8.ofNat z.toNat|_=>0,?_,by simp[hl]⟩
 apply List.ext_getElem?
 intro i
 by_cases hin:i<n
 ·obtain⟨lf,h1⟩:=hi i hin
  rw[Nat.mul_one] at h1
  cases d with
  | zero=>simp[Program.keyLits] at h1
  | succ d=>
   have hi2:i<cs.length:=oX
   rw[List.drop_eq_getElem_cons hi2] at h1
   have h3:(cs[i]::cs.drop (i+1)).take 1=[cs[i]]:=rfl
   rw[h3] at h1
   obtain⟨z,e1,e2⟩:=keyLits_int' he h1
   have hw:=h1
   rw[e1] at hw
   have hwf:(Lit.int .u8 z).wf=true:=by
    unfold Program.keyLits at hw
    simp only[he] at hw
    split at hw
    ·next hh=>exact hh.2
    ·cases hw
   have hz:0<=z/\z<=255:=by simpa[Lit.wf,IntKind.min,IntKind.max,IntKind.signed,IntKind.bits] using hwf
   have hc:cs[i]=.int .u8 z:=by simpa using e1
   rw[List.getElem?_eq_getElem hi2,hc]
   simp only[cB,List.map_map,List.getElem?_map,List.getElem?_eq_getElem hi2,Option.map_some,Function.comp_apply,hc,Option.some.injEq,Value.int.injEq,true_and]
   rw[UInt8.toNat_ofNat_of_lt' (by show z.toNat<256;omega)]
   omega
 ·rw[List.getElem?_eq_none oX,List.getElem?_eq_none (by simp[cB];omega)]
theorem Yi{w:World}{t:TypeId}(hk:P.keyTypeAt 6 t=true){d:Nat}{xs ys:Array Value}{la lb:List Lit}(hx:P.keyLits d t xs.toList=some la)(hy:P.keyLits d t ys.toList=some lb)(fx:(Value.agg xs).formed P t=true)(fy:(Value.agg ys).formed P t=true) :
  ∃ r:Bool,(r=true↔la=lb)/\(binOp .eql t (.agg xs) (.agg ys)).run P w=.ok (.bool r) w/\(binOp .neq t (.agg xs) (.agg ys)).run P w=.ok (.bool (!r)) w:=by
 have h:=run_equalIn_deep (P:=P) 9994 6 t hk
 obtain⟨r,hr,hiff⟩:=h w d d (.agg xs) (.agg ys) la lb fx fy (by simpa[Value.cells] using hx) (by simpa[Value.cells] using hy)
 refine⟨r,hiff,?_,?_⟩
 ·rw[run_eql_struct,show (10000:Nat)=9994+6 from rfl,hr];rfl
 ·rw[run_neq_struct,show (10000:Nat)=9994+6 from rfl,hr];rfl
theorem Z4{t:TypeId}{d:TypeDesc}{xs:Array Value}(ht:P.underlying t=some d)(hd:(match d with | .struct _ | .array _ _=>true|_=>false)=true)(hs:xs.size=P.cellsOf t):(Value.agg xs).formed P t=true:=by
 cases d<;>simp at hd<;>simp[Value.formed,ht,hs]
end
structure P6 where
 s:Int
 n:Int
 k:Int
 d:Int
 t:Int
 r:Int
deriving DecidableEq
abbrev inI (x:Int):Prop := -9223372036854775808<=x/\x<=9223372036854775807
theorem Xs{x:Int}(h:inI x):(Lit.int .i64 x).wf=true:=by
 have:=h
 unfold inI at this
 simp[Lit.wf,IntKind.min,IntKind.max,IntKind.signed,IntKind.bits]
 omega
theorem UW{x:Int}(h:(Lit.int .i64 x).wf=true):inI x:=by simpa[inI,Lit.wf,IntKind.min,IntKind.max,IntKind.signed,IntKind.bits] using h
def P6.list(p:P6):List Value:=[.int .i64 p.s,.int .i64 p.n,.int .i64 p.k,.int .i64 p.d,.int .i64 p.t,.int .i64 p.r]
def P6.lits(p:P6):List Lit:=[.int .i64 p.s,.int .i64 p.n,.int .i64 p.k,.int .i64 p.d,.int .i64 p.t,.int .i64 p.r]
def P6.Ok(p:P6):Prop:=inI p.s/\inI p.n/\inI p.k/\inI p.d/\inI p.t/\inI p.r
theorem P6.lits_inj{p q:P6}(h:p.lits=q.lits):p=q:=by
 cases p;cases q
 simpa[P6.lits] using h
section
variable {P:Program}
theorem YU{t i64:TypeId}{fs:Array Field}(ht:P.underlying t=some (.struct fs))(hq:fs.toList.map (λf=>(f.type,f.offset))=[(i64,0),(i64,1),(i64,2),(i64,3),(i64,4),(i64,5)])(hn:fs.all (·.name != "_")=true)(hi:P.underlying i64=some (.int .i64))(ci:P.cellsOf i64=1)(ct:P.cellsOf t=6)
  (p:P6) (hp:p.Ok) (d:Nat):P.keyLits (d+2) t p.list=some p.lits:=by
 obtain⟨h1,h2,h3,h4,h5,h6⟩:=hp
 have e:=λ(n:Int) (h:inI n)=>Qi (d:=d) hi (Xs h)
 refine Qp (ls:=[[.int .i64 p.s],[.int .i64 p.n],[.int .i64 p.k],[.int .i64 p.d],[.int .i64 p.t],[.int .i64 p.r]]) ht hq hn (by rw[ct];rfl) ?_
 simp only[List.mapM_cons,List.mapM_nil,ci,P6.list,List.drop_zero,List.drop_succ_cons,List.take_succ_cons,List.take_zero,e _ h1,e _ h2,e _ h3,e _ h4,e _ h5,e _ h6,Option.bind_eq_bind,Option.bind_some,Option.pure_def]
theorem XB{d:Nat}{t i64:TypeId}{f0 f1 f2 f3 f4 f5:Field}{cs:List Value}{l:List Lit}(ht:P.underlying t=some (.struct #[f0,f1,f2,f3,f4,f5]))(hq : [f0,f1,f2,f3,f4,f5].map (λf=>(f.type,f.offset))=[(i64,0),(i64,1),(i64,2),(i64,3),(i64,4),(i64,5)])(hi:P.underlying i64=some (.int .i64))(ci:P.cellsOf i64=1)(ct:P.cellsOf t=6)
  (h:P.keyLits (d+1) t cs=some l):∃ p:P6,cs=p.list/\p.Ok:=by
 obtain⟨hl,hf⟩:=Q2 ht h
 rw[ct] at hl
 simp only[List.map_cons,List.map_nil,List.cons.injEq,Prod.mk.injEq,and_true] at hq
 obtain⟨⟨a0,b0⟩,⟨a1,b1⟩,⟨a2,b2⟩,⟨a3,b3⟩,⟨a4,b4⟩,⟨a5,b5⟩⟩:=hq
 have cell:∀ (o:Nat) (f:Field) (i:Nat),(#[f0,f1,f2,f3,f4,f5]:Array Field)[i]? = some f->f.type=i64->f.offset=o->∃ n,(cs.drop o).take 1=[.int .i64 n]/\inI n:=λo f i hg ht' ho=>by
  obtain⟨lf,h1⟩:=hf i f hg
  rw[ht',ho,ci] at h1
  obtain⟨n,e1,e2⟩:=keyLits_int' hi h1
  refine⟨n,e1,?_⟩
  rw[e1] at h1
  cases d with
  | zero=>simp[Program.keyLits] at h1
  | succ d=>
   unfold Program.keyLits at h1
   simp only[hi] at h1
   split at h1
   ·next hh=>exact UW hh.2
   ·cases h1
 obtain⟨n0,e0,w0⟩:=cell 0 f0 0 rfl a0 b0
 obtain⟨n1,e1,w1⟩:=cell 1 f1 1 rfl a1 b1
 obtain⟨n2,e2,w2⟩:=cell 2 f2 2 rfl a2 b2
 obtain⟨n3,e3,w3⟩:=cell 3 f3 3 rfl a3 b3
 obtain⟨n4,e4,w4⟩:=cell 4 f4 4 rfl a4 b4
 obtain⟨n5,e5,w5⟩:=cell 5 f5 5 rfl a5 b5
 refine⟨⟨n0,n1,n2,n3,n4,n5⟩,?_,w0,w1,w2,w3,w4,w5⟩
 have h0:=Z3 e0
 rw[List.drop_zero,Z3 e1,Z3 e2,Z3 e3,Z3 e4,Z3 e5,List.drop_of_length_le (i:=5+1) oX] at h0
 exact h0
end
end Go.Proofs.YtdilmfnpkeihiaaGreatDoor
