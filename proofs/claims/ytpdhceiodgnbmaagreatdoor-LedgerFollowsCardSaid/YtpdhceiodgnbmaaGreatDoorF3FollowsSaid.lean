import Derived.Test.YtpdhceiodgnbmaaGreatDoorF0FollowsSaid
import Derived.Test.YtpdhceiodgnbmaaGreatDoorF1FollowsSaid
import Derived.Deep.WholeRow
import Derived.Test.YtpdhceiodgnbmaaGreatDoorRows
import Derived.Outline
import Derived.Deep.LoopGhost
import Derived.Test.YtpdhceiodgnbmaaGreatDoorF2FollowsSaid
import Derived.Laws.Tables
import Derived.Great.BuildSlice
import Derived.Great.FillDense
import Derived.Laws.AppendOwn
set_option linter.unusedVariables false
set_option linter.unusedSimpArgs false
set_option linter.unnecessarySimpa false
set_option maxRecDepth 100000
set_option maxHeartbeats 8000000
namespace Go.Proofs.YtpdhceiodgnbmaaGreatDoor
open Go.RowKit
section
variable {P:Program} {ops:Array Oper} {rest:List Oper} {o:Oper} {a:Act} {w:World} {Q:Exit->Act->World->Prop}
theorem Kr{K:Act->World->Prop}(ty:TypeId)(x y:Operand)(ho:o.op=.store ty x y)(c c':Array Value)
  (hx:a.eval x=.pointer (some ⟨w.heap.size,0,none⟩)) (hy:a.eval y=.agg c') (hi:(P.info? ty).map (·.size)=some c'.size) (hs:c.size=c'.size) (h1:c'.all (·.oneCell')=true)
  (h:K (a.put o.dst undef) (w.alloc (.cells c' ty))):o.wp P a (w.alloc (.cells c ty)) K Q:=by
 unfold Oper.wp execOp
 simp only[ho,hx,hy,run_storeAt_new w ty c c' hi hs h1,Sem.run_bind,Sem.run_pure,Result.andThen_ok]
 exact h
theorem YB(hgd:o.guard=none)(ty:TypeId)(x y:Operand)(ho:o.op=.store ty x y)(c c':Array Value)
  (hx:a.eval x=.pointer (some ⟨w.heap.size,0,none⟩)) (hy:a.eval y=.agg c') (hi:(P.info? ty).map (·.size)=some c'.size) (hs:c.size=c'.size) (h1:c'.all (·.oneCell')=true)
  (h:wpList P ops Q rest (a.put o.dst undef) (w.alloc (.cells c' ty))):wpList P ops Q (o::rest) a (w.alloc (.cells c ty)):=
 wpList_plain hgd λ_ hK=>Kr ty x y ho c c' hx hy hi hs h1 (hK _ _ h)
theorem Xo{fn:Func}{p:Tmp}{ty:TypeId}(h:fn.results=#[.cell p ty])(tmps:Array Value)(w:World) :
  (results fn tmps).run P w=((asAddr (tmps.getD p undef)).run P w).andThen λa w₁=>(loadVar ty a).run P w₁:=by
 simp only[results,h]
 simp[Sem.run_bind,Result.andThen]
theorem XB{fn:Func}{R:Ending->World->Prop}{p:Tmp}{ty:TypeId}{tmps:Array Value}{c:Array Value}{n:Nat}{e:TypeId}(h:fn.results=#[.cell p ty])
  (hp:tmps.getD p undef=.pointer (some ⟨w.heap.size,0,none⟩)) (hu:P.underlying ty=some (.array n e)) (hi:(P.info? ty).map (·.size)=some c.size) (hR:R (.returned (.agg c)) (w.alloc (.cells c ty))) :
  bodyPost P fn R .ret ⟨tmps,[]⟩ (w.alloc (.cells c ty)):=by
 refine bodyPost_ret (v:=.agg c) ?_ rfl hR
 rw[Xo h,hp]
 simp[asAddr,Result.andThen,run_loadVar_new w ty c n e hu hi]
end
theorem Z7{P:Program}{fn:Func}{R:Ending->World->Prop}{p:Tmp}{ty:TypeId}{tmps:Array Value}{W:World}{b:Nat}{c:Array Value}{d:TypeDesc}(h:fn.results=#[.cell p ty])
  (hp:tmps.getD p undef=.pointer (some ⟨b,0,none⟩)) (hu:P.underlying ty=some d) (hd:(match d with | .struct _ | .array _ _=>true|_=>false)=true) (hi:(P.info? ty).map (·.size)=some c.size) (hh:W.heap[b]? = some (.cells c ty (0,0))) (hR:R (.returned (.agg c)) W) :
  bodyPost P fn R .ret ⟨tmps,[]⟩ W:=by
 refine bodyPost_ret (v:=.agg c) ?_ rfl hR
 rw[Xo h,hp]
 simp[asAddr,Result.andThen,run_loadVar_row W b ty ty c (0,0) d hh hu hd hi]
theorem Upd.setRow{b:Nat}{old cs:Array Value}{t:TypeId}{fz:Nat×Nat}{w:World}(hg:w.heap[b]? = some (.cells old t fz)):Upd b (.cells cs t fz) w (w.setRow b cs):=by
 refine⟨rfl,rfl,rfl,by simp[World.setRow],λk hk=>?_,setRow_heap w b old cs t fz hg⟩
 simp only[World.setRow,Array.getElem?_modify]
 rw[if_neg (λe=>hk e.symm)]
section
variable {P:Program} {ops:Array Oper} {rest:List Oper} {o:Oper} {a:Act} {w:World} {Q:Exit->Act->World->Prop}
theorem Zc(hgd:o.guard=none)(ty:TypeId)(x y:Operand)(ho:o.op=.store ty x y)(g:Nat)(c c':Array Value)
  (hx:a.eval x=.pointer (some ⟨g,0,none⟩)) (hy:a.eval y=.agg c') (hg:Hid (w.heap[g]? = some (.cells c ty (0,0)))) (hi:(P.info? ty).map (·.size)=some c'.size) (hs:c.size=c'.size) (h1:c'.all (·.oneCell')=true)
  (h:∀ w',Hid (Upd g (.cells c' ty (0,0)) w w')->wpList P ops Q rest (a.put o.dst undef) w'):wpList P ops Q (o::rest) a w:=by
 refine wpList_plain hgd λK hK=>?_
 have h2:=hK _ _ (h _ (Hd (Upd.setRow (cs:=c') hg.out)))
 unfold Oper.wp execOp
 simp only[ho,hx,hy,Instr.storeAt,Instr.sureAddr,Sem.run_bind,Sem.run_pure,Result.andThen_ok,run_storeVar_row w g ty ty c c' hg.out hi hs h1]
 exact h2
theorem Zl{K:Act->World->Prop}(ty:TypeId)(x y:Operand)(ho:o.op=.store ty x y)(g:Nat)(c c':Array Value)
  (hx:a.eval x=.pointer (some ⟨g,0,none⟩)) (hy:a.eval y=.agg c') (hg:Hid (w.heap[g]? = some (.cells c ty (0,0)))) (hi:(P.info? ty).map (·.size)=some c'.size) (hs:c.size=c'.size) (h1:c'.all (·.oneCell')=true)
  (h:∀ w',Hid (Upd g (.cells c' ty (0,0)) w w')->K (a.put o.dst undef) w'):o.wp P a w K Q:=by
 have h2:=h _ (Hd (Upd.setRow (cs:=c') hg.out))
 unfold Oper.wp execOp
 simp only[ho,hx,hy,Instr.storeAt,Instr.sureAddr,Sem.run_bind,Sem.run_pure,Result.andThen_ok,run_storeVar_row w g ty ty c c' hg.out hi hs h1]
 exact h2
theorem Ze(hgd:o.guard=none)(ty:TypeId)(x:Operand)(ho:o.op=.load ty x)(g:Nat)(c:Array Value)(d:TypeDesc)
  (hx:a.eval x=.pointer (some ⟨g,0,none⟩)) (hg:Hid (w.heap[g]? = some (.cells c ty (0,0)))) (hu:P.underlying ty=some d) (hd:(match d with | .struct _ | .array _ _=>true|_=>false)=true) (hi:(P.info? ty).map (·.size)=some c.size)
  (h:wpList P ops Q rest (a.put o.dst (.agg c)) w):wpList P ops Q (o::rest) a w:=by
 refine wpList_plain hgd λK hK=>?_
 have h2:=hK _ _ h
 unfold Oper.wp execOp
 simp only[ho,hx,Instr.loadAt,Instr.sureAddr,Sem.run_bind,Sem.run_pure,Result.andThen_ok,run_loadVar_row w g ty ty c (0,0) d hg.out hu hd hi]
 exact h2
end
def ZD:List (Bool×Nat)->Bool×List (Bool×Nat)
 | []=>(false,[])
 | (_,0)::s=>ZD s
 | (b,n+1)::s=>(b,(b,n)::s)
def ZR(U:Nat->Value):Nat->List (Bool×Nat)->List Value->List Value
 | _,_,[]=>[]
 | i,s,v::l=>(bif (ZD s).1 then U i else v)::ZR U (i+1) (ZD s).2 l
theorem Ul(U:Nat->Value):∀ (l:List Value) (s:List (Bool×Nat)) (i:Nat),(∀ k v,l[k]? = some v->U (i+k)=v)->ZR U i s l=l
 | [],_,_,_=>rfl
 | v::l,s,i,h=>by
  rw[ZR,Ul U l (ZD s).2 (i+1) (λk v hk=>by rw[Nat.add_assoc,Nat.add_comm 1 k];exact h (k+1) v (by simpa using hk))]
  have h0:U i=v:=h 0 v sX
  cases (ZD s).1
  ·rfl
  ·simp[h0]
theorem MT(seg:List (Bool×Nat))(l:List Value):ZR (λi=>l.getD i undef) 0 seg l=l:=
 Ul _ l seg 0 λk v hk=>by
  rw[Nat.zero_add,List.getD_eq_getElem?_getD,hk];rfl
section
variable {P:Program} {Q:Exit->Act->World->Prop} {w:World} {c:Code}
theorem Z8(seg:List (Bool×Nat))(l:List Value)(ds:_)(R:(Nat->Value)->World->Prop)(M:(Nat->Value)->World->Nat)(h0:R (λi=>l.getD i undef) w)
  (hr:∀ U wr,R U wr->∀ K:Act->World->Prop,Hid (∀ l'' w'',ZR (λi=>l''.getD i undef) 0 seg l=l''->R (λi=>l''.getD i undef) w''->M (λi=>l''.getD i undef) w''<M U wr->K ⟨l''.toArray,ds⟩ w'')->
   ∀ l',ZR U 0 seg l=l'->c.wp P (Exit.then K Q) ⟨l'.toArray,ds⟩ wr):(Code.loop c).wp P Q ⟨l.toArray,ds⟩ w:=by
 refine wp_loop_ghost (λn a w'=>∃ U,R U w'/\M U w'=n/\a=⟨(ZR U 0 seg l).toArray,ds⟩) (M (λi=>l.getD i undef) w) ⟨_,h0,rfl,by rw[MT]⟩ ?_
 rintro n a w' ⟨U,hR,rfl,rfl⟩
 refine hr U w' hR _ (Hd ?_) _ rfl
 intro l'' w'' he h1 h2
 exact⟨_,h2,_,h1,rfl,by rw[he]⟩
end
theorem Yr{w:World}{x:Addr}{v:Value}(h:w.cell? x=some v)(o:Obj):(w.alloc o).cell? x=some v:=
 (((Below.refl w.heap.size w).alloc nR o).cell (World.block_lt_of_cell? w _ h)).trans h
def Xf(fn:Nat->Option (Nat×Nat)):Nat->Nat->List Value->Prop
 | _,_,[]=>True
 | i,o,v::vs=>fn i=some (o,v.cells.size)/\Xf fn (i+1) (o+v.cells.size) vs
theorem Ge(fn:Nat->Option (Nat×Nat)):∀ (vs:List Value) (i:Nat) (pre rest:List Value),Xf fn i pre.length vs->rest.length=(vs.map (·.cells.size)).sum->
  Instr.fill fn (pre++rest).toArray ((vs.zipIdx i).map λx=>(x.2,x.1))=some (pre++vs.flatMap (·.cells.toList)).toArray
 | [],i,pre,rest,_,hr=>by
  have:rest=[]:=List.length_eq_zero_iff.1 (by simpa using hr)
  subst this
  simp[Instr.fill]
 | v::vs,i,pre,rest,hp,hr=>by
  obtain⟨h1,h2⟩:=hp
  simp only[List.map_cons,List.sum_cons] at hr
  simp only[List.zipIdx_cons,List.map_cons]
  unfold Instr.fill
  simp only[h1]
  rw[if_neg sY]
  obtain⟨g1,g2⟩:=Go.Great.foldl_set pre.length v.cells.toList 0 (pre++rest).toArray
  have hll:v.cells.toList.length=v.cells.size:=Array.length_toList ..
  generalize hl:v.cells.toList=l at*
  have e:(l.zipIdx 0).foldl (λcs (x:Value×Nat)=>cs.setIfInBounds (pre.length+x.2) x.1) (pre++rest).toArray=((pre++l)++rest.drop v.cells.size).toArray:=by
   apply Array.ext_getElem?
   intro k
   rw[g2 k]
   simp only[Nat.add_zero,List.size_toArray,List.length_append,List.getElem?_toArray]
   by_cases hk:pre.length<=k/\k<pre.length+l.length/\k<pre.length+rest.length
   ·rw[if_pos hk,List.append_assoc,List.getElem?_append_right hk.1,List.getElem?_append_left oX]
   ·rw[if_neg hk]
    by_cases hk1:k<pre.length
    ·rw[List.getElem?_append_left hk1,List.append_assoc,List.getElem?_append_left hk1]
    ·rw[List.getElem?_append_right oX,List.getElem?_append_right (by rw[List.length_append];omega),List.length_append,List.getElem?_drop]
     congr 1
     omega
  have hfold:Array.foldl (λcs (x:Value×Nat)=>cs.setIfInBounds (pre.length+x.2) x.1) (pre++rest).toArray v.cells.zipIdx=((pre++l)++rest.drop v.cells.size).toArray:=by
   rw[<-e,<-Array.foldl_toList,Array.toList_zipIdx,hl]
  rw[hfold]
  have ih:=Ge fn vs (i+1) (pre++l) (rest.drop v.cells.size) (by rw[List.length_append,hll];exact h2) (by rw[List.length_drop];omega)
  rw[ih]
  simp[hl]
section
variable {P:Program}
theorem JS{t:TypeId}{fs:Array Field}{places:List (Nat×Nat)}{n:Nat}(hz:(P.info? t).map (λi=>i.zero.map (·.cells.size))=some (some n))(hu:P.underlying t=some (.struct fs))(hp:fs.toList.mapM (λf=>(P.info? f.type).map λi=>(f.offset,i.size))=some places)
  (vs:List Value) (hpl:Xf (places.toArray[·]?) 0 0 vs) (hn:(vs.map (·.cells.size)).sum=n):P.built t ((vs.zipIdx 0).map λx=>(x.2,x.1))=some (vs.flatMap (·.cells.toList)).toArray:=by
 obtain⟨it,hit,h2⟩:=Option.map_eq_some_iff.1 hz
 obtain⟨z,hz1,hz2⟩:=Option.map_eq_some_iff.1 h2
 unfold Program.built
 simp only[hit,hu,hz1,hp]
 have h:=Ge (λi=>places.toArray[i]?) vs 0 [] z.cells.toList hpl (by rw[Array.length_toList,hz2,hn])
 simpa using h
theorem QT{t e:TypeId}{size bytes:Nat}(ht:P.underlying t=some (.slice e))(hi:(P.info? e).map (λi=>(i.zero.map (·.cells.size),i.size,i.bytes))=some (some size,size,bytes))(hs:0<size)(hs2:size<=10000)(R:Array Value)(hR:R.size=size)(W:World) :
  (Instr.buildSlice t 1 #[(0,.agg R)]).run P W=.ok (.slice (some ⟨W.heap.size,0,none⟩) 1 1) (W.alloc (.cells R e)):=by
 obtain⟨ie,hie,h2⟩:=Option.map_eq_some_iff.1 hi
 simp only[Prod.mk.injEq] at h2
 obtain⟨hz,hs1,hb⟩:=h2
 obtain⟨z,hz1,hz2⟩:=Option.map_eq_some_iff.1 hz
 refine run_buildSlice W _ _ 1 _ R ie z ht hie hz1 (by rw[hs1];omega) (by rw[hs1];omega) ?_
 have h:=Go.Great.fill_whole (s:=size) hs [.agg R] ((Array.range (1*ie.size)).map (z.cells[· % z.cells.size]!)) (by simp[Value.cells,hR]) (by simp[hs1])
 simpa[hs1,Value.cells] using h
variable {ops:Array Oper} {rest:List Oper} {K:Act->World->Prop} {Q:Exit->Act->World->Prop} {o:Oper} {a:Act} {w:World}
theorem MU(t:TypeId)(ps:List (Nat×Operand))(ho:o.op=.build t ps.toArray)(vs:List (Nat×Value))(hv:(ps.map λx=>(x.1,a.eval x.2))=vs)(R:Value)(h:(Instr.build t vs.toArray).run P w=.ok R w)(hK:K (a.put o.dst R) w):o.wp P a w K Q:=by
 unfold Oper.wp execOp
 simp only[ho,Sem.run_bind,Sem.run_pure,Result.andThen_ok,List.map_toArray,hv,h]
 exact hK
theorem ZM(hgd:o.guard=none)(t:TypeId)(ps:List (Nat×Operand))(ho:o.op=.build t ps.toArray)(vs:List (Nat×Value))(hv:(ps.map λx=>(x.1,a.eval x.2))=vs)(R:Value)(h:(Instr.build t vs.toArray).run P w=.ok R w)(hK:wpList P ops Q rest (a.put o.dst R) w):wpList P ops Q (o::rest) a w:=by
 refine wpList_plain hgd λK' hK'=>?_
 exact MU t ps ho vs hv R h (hK' _ _ hK)
theorem Mv(t:TypeId)(n:Nat)(ps:List (Nat×Operand))(ho:o.op=.buildSlice t n ps.toArray)(vs:List (Nat×Value))(hv:(ps.map λx=>(x.1,a.eval x.2))=vs)(R:Value)(w':World)(h:(Instr.buildSlice t n vs.toArray).run P w=.ok R w')(hK:K (a.put o.dst R) w'):o.wp P a w K Q:=by
 unfold Oper.wp execOp
 simp only[ho,Sem.run_bind,Sem.run_pure,Result.andThen_ok,List.map_toArray,hv,h]
 exact hK
theorem Qh(hgd:o.guard=none)(t:TypeId)(n:Nat)(ps:List (Nat×Operand))(ho:o.op=.buildSlice t n ps.toArray)(vs:List (Nat×Value))(hv:(ps.map λx=>(x.1,a.eval x.2))=vs)(R:Value)(w':World)(h:(Instr.buildSlice t n vs.toArray).run P w=.ok R w')(hK:wpList P ops Q rest (a.put o.dst R) w'):wpList P ops Q (o::rest) a w:=by
 refine wpList_plain hgd λK' hK'=>?_
 exact Mv t n ps ho vs hv R w' h (hK' _ _ hK)
end
theorem Qb{w:World}{b:Nat}{C:Array Value}{t:TypeId}{fz:Nat×Nat}(hb:w.heap[b]? = some (.cells C t fz)){o n:Nat}{B:List Value}(h:(C.toList.drop o).take n=B):w.rangeAt b o B:=λj v hv=>by
 rw[Za hb]
 rw[<-h,List.getElem?_take] at hv
 split at hv
 ·rw[List.getElem?_drop,Array.getElem?_toList] at hv
  exact hv
 ·cases hv
theorem Vm{α:Type}{enc:α->List Value}{size:Nat}:∀ (xs:List α),(∀ x∈xs,(enc x).length=size)->∀ (i r:Nat) (hi:i<xs.length),r<size->(xs.flatMap enc)[i*size+r]? = (enc xs[i])[r]?
 | [],_,i,r,hi,_=>absurd hi (Nat.not_lt_zero _)
 | x::xs,h,i,r,hi,hr=>by
  have hx:=h x (List.mem_cons_self ..)
  rw[List.flatMap_cons]
  cases i with
  | zero=>rw[Nat.zero_mul,Nat.zero_add,List.getElem?_append_left oX];rfl
  | succ i=>
   rw[Nat.succ_mul,List.getElem?_append_right oX,hx,show i*size+size+r-size=i*size+r by omega]
   exact Vm xs (λy hy=>h y (List.mem_cons_of_mem _ hy)) i r (by simpa using hi) hr
theorem Yh{α:Type}{enc:α->List Value}{size:Nat}:∀ (xs:List α),(∀ x∈xs,(enc x).length=size)->(xs.flatMap enc).length=xs.length*size
 | [],_=>by simp
 | x::xs,h=>by
  rw[List.flatMap_cons,List.length_append,Yh xs (λy hy=>h y (List.mem_cons_of_mem _ hy)),h x (List.mem_cons_self ..),List.length_cons,Nat.succ_mul]
  omega
theorem Jp{α:Type}{enc:α->List Value}{size:Nat}{w:World}{b o:Nat}{xs:List α}(hs:0<size)(hl:∀ x∈xs,(enc x).length=size)(h:∀ k (h:k<xs.length),w.rangeAt b (o+k*size) (enc xs[k])):w.rangeAt b o (xs.flatMap enc):=λj v hv=>by
 have hj:j<xs.length*size:=by rw[<-Yh xs hl];exact(List.getElem?_eq_some_iff.1 hv).1
 have hi:j / size<xs.length:=Nat.div_lt_of_lt_mul (by rw[Nat.mul_comm];exact hj)
 have hr:j % size<size:=Nat.mod_lt _ hs
 have hd:j / size*size+j % size=j:=by rw[Nat.mul_comm];exact Nat.div_add_mod j size
 have h1:=Vm xs hl (j / size) (j % size) hi hr
 rw[hd,hv] at h1
 have:=h (j / size) hi (j % size) v h1.symm
 rw[Nat.add_assoc,hd] at this
 exact this
theorem YL{α:Type}{enc:α->List Value}{R:World->(Nat->Prop)->α->List Value->Prop}{e:TypeId}{size base:Nat}{w:World}{v:Value}{xs:List α}(hR:∀ x∈xs,R w (λ_=>False) x (enc x))(h:w.ownsRow base e size v xs.length (xs.flatMap enc)):RowsOf R e size base w (λ_=>False) v xs:=by
 refine⟨⟨xs.map enc,sX,by rw[<-List.flatMap_def];exact h,λi x cs hx hc=>?_⟩,λk _ hf=>hf,λk hk=>hk.elim⟩
 rw[List.getElem?_map,hx] at hc
 cases hc
 exact hR x (List.mem_of_getElem? hx)
end Go.Proofs.YtpdhceiodgnbmaaGreatDoor
