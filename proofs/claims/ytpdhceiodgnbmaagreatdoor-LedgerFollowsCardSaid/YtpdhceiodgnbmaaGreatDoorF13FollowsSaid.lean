import Derived.Test.YtpdhceiodgnbmaaGreatDoorF0FollowsSaid
import Derived.Test.YtpdhceiodgnbmaaGreatDoorF3FollowsSaid
import Derived.Test.YtpdhceiodgnbmaaGreatDoorF1FollowsSaid
import Derived.Test.YtpdhceiodgnbmaaGreatDoorF6FollowsSaid
import Derived.Test.YtpdhceiodgnbmaaGreatDoorF12FollowsSaid
import Derived.Deep.RegionHeld3
set_option linter.unusedVariables false
set_option linter.unusedSimpArgs false
set_option linter.unnecessarySimpa false
set_option maxRecDepth 100000
set_option maxHeartbeats 8000000
namespace Go.Proofs.YtpdhceiodgnbmaaGreatDoor
open Go.RowKit
theorem Ky(fn:Nat->Option (Nat×Nat)):∀ (vs:List Value) (i:Nat) (pre rest:List Value),Xf fn i pre.length vs->(vs.map (·.cells.size)).sum<=rest.length->
  Instr.fill fn (pre++rest).toArray ((vs.zipIdx i).map λx=>(x.2,x.1))=some (pre++(vs.flatMap (·.cells.toList)++rest.drop (vs.map (·.cells.size)).sum)).toArray
 | [],i,pre,rest,_,hr=>by simp[Instr.fill]
 | v::vs,i,pre,rest,hp,hr=>by
  obtain⟨h1,h2⟩:=hp
  simp only[List.map_cons,List.sum_cons] at hr
  simp only[List.zipIdx_cons,List.map_cons]
  unfold Instr.fill
  simp only[h1]
  rw[if_neg sY]
  obtain⟨g1,g2⟩:=Go.Great.foldl_set pre.length v.cells.toList 0 (pre++rest).toArray
  have hll:v.cells.toList.length=v.cells.size:=Array.length_toList ..
  generalize hl:v.cells.toList=l at*
  have e:(l.zipIdx 0).foldl (λcs (x:Value×Nat)=>cs.setIfInBounds (pre.length+x.2) x.1) (pre++rest).toArray=((pre++l)++rest.drop v.cells.size).toArray:=by
   apply Array.ext_getElem?
   intro k
   rw[g2 k]
   simp only[Nat.add_zero,List.size_toArray,List.length_append,List.getElem?_toArray]
   by_cases hk:pre.length<=k/\k<pre.length+l.length/\k<pre.length+rest.length
   ·rw[if_pos hk,List.append_assoc,List.getElem?_append_right hk.1,List.getElem?_append_left oX]
   ·rw[if_neg hk]
    by_cases hk1:k<pre.length
    ·rw[List.getElem?_append_left hk1,List.append_assoc,List.getElem?_append_left hk1]
    ·rw[List.getElem?_append_right oX,List.getElem?_append_right (by rw[List.length_append];omega),List.length_append,List.getElem?_drop]
     congr 1
     omega
  have hfold:Array.foldl (λcs (x:Value×Nat)=>cs.setIfInBounds (pre.length+x.2) x.1) (pre++rest).toArray v.cells.zipIdx=((pre++l)++rest.drop v.cells.size).toArray:=by
   rw[<-e,<-Array.foldl_toList,Array.toList_zipIdx,hl]
  rw[hfold]
  have ih:=Ky fn vs (i+1) (pre++l) (rest.drop v.cells.size) (by rw[List.length_append,hll];exact h2) (by rw[List.length_drop];omega)
  rw[ih]
  simp[hl,List.drop_drop]
theorem Hy{P:Program}{t:TypeId}{fs:Array Field}{places:List (Nat×Nat)}{Z:List Value}(hz:(P.info? t).map (λi=>i.zero.map (·.cells.toList))=some (some Z))(hu:P.underlying t=some (.struct fs))(hp:fs.toList.mapM (λf=>(P.info? f.type).map λi=>(f.offset,i.size))=some places)
  (vs:List Value) (hpl:Xf (places.toArray[·]?) 0 0 vs) (hn:(vs.map (·.cells.size)).sum<=Z.length):P.built t ((vs.zipIdx 0).map λx=>(x.2,x.1))=some (vs.flatMap (·.cells.toList)++Z.drop (vs.map (·.cells.size)).sum).toArray:=by
 obtain⟨it,hit,h2⟩:=Option.map_eq_some_iff.1 hz
 obtain⟨z,hz1,hz2⟩:=Option.map_eq_some_iff.1 h2
 unfold Program.built
 simp only[hit,hu,hz1,hp]
 have h:=Ky (λi=>places.toArray[i]?) vs 0 [] z.cells.toList hpl (by rw[hz2];exact hn)
 have hz3:z.cells=Z.toArray:=by rw[<-hz2]
 rw[hz2] at h
 rw[hz3]
 simpa using h
section
variable {P:Program} {ops:Array Oper} {rest:List Oper} {o:Oper} {a:Act} {w:World} {Q:Exit->Act->World->Prop}
theorem Vc(w:World)(b j:Nat)(ty T:TypeId)(C:Array Value)(v:Value)(hg:w.heap[b]? = some (.cells C T (0,0)))(hj:j<C.size)(hi:(P.info? ty).map (·.size)=some 1)(h1:v.oneCell'=true) :
  (storeVar ty ⟨b,j,none⟩ v).run P w=.ok () (w.setCell ⟨b,j,none⟩ v):=by
 have ht:=YW hg j 1 oX
 have:=run_storeCells_cells (P:=P) b j [v] 0 w (λi hi=>by simpa using (ht i (by simpa using hi)).1) (λi hi=>by simpa using (ht i (by simpa using hi)).2) (λx hx=>by simp at hx;subst hx;exact h1)
 have hc:v.cells=#[v]:=by cases v<;>first|rfl|cases h1
 cases hq:P.info? ty with
 | none=>simp[hq] at hi
 | some i=>
  have hs:i.size=1:=by simpa[hq] using hi
  simp only[Nat.add_zero] at this
  simp[storeVar,sizeOf,typeInfo,hq,hc,hs,this,World.setCells]
theorem Ke{K:Act->World->Prop}(ty T:TypeId)(x y:Operand)(ho:o.op=.store ty x y)(g j:Nat)(C:Array Value)(v:Value)
  (hx:a.eval x=.pointer (some ⟨g,j,none⟩)) (hy:a.eval y=v) (hg:Hid (w.heap[g]? = some (.cells C T (0,0)))) (hj:j<C.size) (hi:(P.info? ty).map (·.size)=some 1) (h1:v.oneCell'=true)
  (h:∀ w',Hid (Upd g (.cells (C.setIfInBounds j v) T (0,0)) w w')->K (a.put o.dst undef) w'):o.wp P a w K Q:=by
 unfold Oper.wp execOp
 simp only[ho,hx,hy,Instr.storeAt,Instr.sureAddr,Sem.run_bind,Sem.run_pure,Result.andThen_ok,Vc w g j ty T C v hg.out hj hi h1]
 exact h _ (Hd ((Upd.refl hg.out).setCell v))
theorem Qe(hgd:o.guard=none)(ty T:TypeId)(x y:Operand)(ho:o.op=.store ty x y)(g j:Nat)(C:Array Value)(v:Value)
  (hx:a.eval x=.pointer (some ⟨g,j,none⟩)) (hy:a.eval y=v) (hg:Hid (w.heap[g]? = some (.cells C T (0,0)))) (hj:j<C.size) (hi:(P.info? ty).map (·.size)=some 1) (h1:v.oneCell'=true)
  (h:∀ w',Hid (Upd g (.cells (C.setIfInBounds j v) T (0,0)) w w')->wpList P ops Q rest (a.put o.dst undef) w'):wpList P ops Q (o::rest) a w:=
 wpList_plain hgd λK hK=>Ke (K:=K) ty T x y ho g j C v hx hy hg hj hi h1 (λw' hw=>hK _ _ (h w' hw))
end
theorem Nv{x:Int}:(Value.int .i64 x).oneCell'=true:=rfl
theorem Rc.it_ok{x:Rc}(h:x.Ok):x.it.Ok:=⟨h.obj,h.name,h.p,h.root,h.file,h.tick,by show inI 0;decide,by show inI 0;decide⟩
theorem TZ(x:Rc)(hx:x.Ok)(W:World):(Instr.build 58 #[(0,.int .i64 x.obj),(1,.string x.name),(2,.agg x.p.list.toArray),(3,.agg (cB x.root).toArray),(4,.agg (cB x.file).toArray),(5,.int .i64 x.tick)]).run Tryz.prog W=.ok (.agg x.it.list.toArray) W:=by
 refine run_build W _ _ _ ?_
 have h:=Hy (P:=Tryz.prog) (t:=58) (Z:=(default:It).list) (places:=[(0,1),(1,1),(2,6),(8,32),(40,32),(72,1),(73,1),(74,1),(75,1)]) kX Tryz.underlying58 kX [.int .i64 x.obj,.string x.name,.agg x.p.list.toArray,.agg (cB x.root).toArray,.agg (cB x.file).toArray,.int .i64 x.tick] (by simp[Xf,Value.cells,P6.list_length,Zd,hx.root,hx.file]) (by simp[Value.cells,P6.list_length,Zd,hx.root,hx.file];decide)
 have hd:(([.int .i64 x.obj,.string x.name,.agg x.p.list.toArray,.agg (cB x.root).toArray,.agg (cB x.file).toArray,.int .i64 x.tick]:List Value).map (·.cells.size)).sum=73:=by simp[Value.cells,P6.list_length,Zd,hx.root,hx.file]
 rw[hd] at h
 have he:(default:It).list.drop 73=[.bool false,.int .i64 0,.int .i64 0]:=kX
 rw[he] at h
 have e:(([.int .i64 x.obj,.string x.name,.agg x.p.list.toArray,.agg (cB x.root).toArray,.agg (cB x.file).toArray,.int .i64 x.tick]:List Value).flatMap (·.cells.toList)++[.bool false,.int .i64 0,.int .i64 0])=x.it.list:=by simp[Value.cells,Rc.it,It.list]
 rw[e] at h
 exact h
theorem Gl(a b c d e:Int)(W:World):(Instr.build 66 #[(0,.int .i64 a),(1,.int .i64 b),(2,.int .i64 c),(3,.int .i64 d),(4,.int .i64 e)]).run Tryz.prog W=.ok (.agg (⟨a,b,c,d,e,0,0⟩:En).list.toArray) W:=by
 refine run_build W _ _ _ ?_
 kernel_rfl
theorem Q8{base base':Nat}{w:World}{v v':Value}{e e':TypeId}{F F':Nat->Prop}{ns:List It}{vs:List En}(h:RowsOf RI e 76 base w F v ns)(h':RowsOf RE e' 7 base' w F' v' vs):ArgS w (.agg #[v,v']) ⟨ns,vs⟩:=by
 obtain⟨a,c,rfl,h1,h2,h3,h4⟩:=TU h
 obtain⟨a',c',rfl,h5,h6,h7,h8⟩:=Ga h'
 exact⟨⟨a,c,a',c',rfl,h1,h2,h3,h5,h6,h7⟩,h4,h8⟩
section
variable {P:Program} {ops:Array Oper} {rest:List Oper} {o:Oper} {a:Act} {w:World} {Q:Exit->Act->World->Prop}
theorem Ub(w:World)(x:Addr)(ty:TypeId)(v u:Value)(hc:w.cell? x=some u)(hf:w.frozen? x=false)(hs:x.spot=none)(hi:(P.info? ty).map (·.size)=some 1)(h1:v.oneCell'=true):(storeVar ty x v).run P w=.ok () (w.setCell x v):=by
 obtain⟨b,o,s⟩:=x
 obtain rfl:s=none:=hs
 have:=run_storeCells_cells (P:=P) b o [v] 0 w (λj hj=>by
  obtain rfl:j=0:=by simp at hj;omega
  simp[hc]) (λj hj=>by
  obtain rfl:j=0:=by simp at hj;omega
  simpa using hf) (λx hx=>by simp at hx;subst hx;exact h1)
 have hcc:v.cells=#[v]:=by cases v<;>first|rfl|cases h1
 cases hq:P.info? ty with
 | none=>simp[hq] at hi
 | some i=>
  have hs:i.size=1:=by simpa[hq] using hi
  simp only[Nat.add_zero] at this
  simp[storeVar,sizeOf,typeInfo,hq,hcc,hs,this,World.setCells]
theorem XV{K:Act->World->Prop}(ty:TypeId)(x y:Operand)(ho:o.op=.store ty x y)(g j:Nat)(v:Value)(hx:a.eval x=.pointer (some ⟨g,j,none⟩))(hy:a.eval y=v)(hc:Hid (∃ u,w.cell? ⟨g,j,none⟩=some u))(hf:w.frozen? ⟨g,j,none⟩=false)
  (hi:(P.info? ty).map (·.size)=some 1) (h1:v.oneCell'=true) (h:∀ w',Hid (w'=w.setCell ⟨g,j,none⟩ v)->K (a.put o.dst undef) w'):o.wp P a w K Q:=by
 obtain⟨u,hu⟩:=hc.out
 unfold Oper.wp execOp
 simp only[ho,hx,hy,Instr.storeAt,Instr.sureAddr,Sem.run_bind,Sem.run_pure,Result.andThen_ok,Ub w ⟨g,j,none⟩ ty v u hu hf rfl hi h1]
 exact h _ (Hd rfl)
theorem ZT(hgd:o.guard=none)(ty:TypeId)(x y:Operand)(ho:o.op=.store ty x y)(g j:Nat)(v:Value)(hx:a.eval x=.pointer (some ⟨g,j,none⟩))(hy:a.eval y=v)(hc:Hid (∃ u,w.cell? ⟨g,j,none⟩=some u))(hf:w.frozen? ⟨g,j,none⟩=false)
  (hi:(P.info? ty).map (·.size)=some 1) (h1:v.oneCell'=true) (h:∀ w',Hid (w'=w.setCell ⟨g,j,none⟩ v)->wpList P ops Q rest (a.put o.dst undef) w'):wpList P ops Q (o::rest) a w:=
 wpList_plain hgd λK hK=>XV (K:=K) ty x y ho g j v hx hy hc hf hi h1 (λw' hw=>hK _ _ (h w' hw))
end
theorem Qz{α:Type}{enc:α->List Value}{Ok:α->Prop}{R:World->(Nat->Prop)->α->List Value->Prop}(hRi:∀ w F x cs,R w F x cs↔cs=enc x/\Ok x){e:TypeId}{size base g n c:Nat}{w:World}{ns:List α}(hlen:∀ x,Ok x->(enc x).length=size)(hone:∀ x,∀ u∈enc x,u.oneCell'=true)(h0:0<size)
  (h:RowsOf R e size base w (λ_=>False) (.slice (some ⟨g,0,none⟩) n c) ns) (hok:∀ x∈ns,Ok x) (i r:Nat) (hi:i<ns.length) (hr:r<size) (u:Value) (hu:u.oneCell'=true) (y:α) (hy:enc y=(enc ns[i]).set r u) (hyo:Ok y) :
  RowsOf R e size base (w.setCell ⟨g,i*size+r,none⟩ u) (λ_=>False) (.slice (some ⟨g,0,none⟩) n c) (ns.set i y):=by
 have h1:=Vk (enc:=enc) (λw F x cs h=>((hRi w F x cs).1 h).1) h
 have hn:n=ns.length:=by
  obtain⟨a,c',e1,_⟩:=h.form
  cases e1
  rfl
 subst hn
 have h2:=(World.ownsRow.stored h1 (i*size+r) u).1
 rw[Vi u y ns (λx hx=>hlen x (hok x hx)) i r hi hr hy] at h2
 refine YL (λx hx=>(hRi _ _ _ _).2 ⟨rfl,?_⟩) (by rw[List.length_set];exact h2)
 rcases List.mem_or_eq_of_mem_set hx with hx|hx
 ·exact hok x hx
 ·rw[hx];exact hyo
theorem Ql{α:Type}{enc:α->List Value}{Ok:α->Prop}{R:World->(Nat->Prop)->α->List Value->Prop}(hRi:∀ w F x cs,R w F x cs↔cs=enc x/\Ok x){e:TypeId}{size base g n c:Nat}{w:World}{ns:List α}(hR:LiesOk R size)
  (h:RowsOf R e size base w (λ_=>False) (.slice (some ⟨g,0,none⟩) n c) ns) (i r:Nat) (hi:i<ns.length) (u:Value) (hu:(enc ns[i])[r]? = some u):w.cell? ⟨g,i*size+r,none⟩=some u/\w.frozen? ⟨g,i*size+r,none⟩=false:=by
 have h1:=Vk (enc:=enc) (λw F x cs h=>((hRi w F x cs).1 h).1) h
 have hn:n=ns.length:=by
  obtain⟨a,c',e1,_⟩:=h.form
  cases e1
  rfl
 subst hn
 refine⟨?_,World.ownsRow.frozenAt h1 (i*size+r)⟩
 obtain⟨g',c',cs,e6,h6,h7⟩:=h.elem hR i _ (List.getElem?_eq_getElem hi)
 cases e6
 obtain⟨rfl,_⟩:=(hRi _ _ _ _).1 h6
 exact h7 r u hu
theorem It.set73{x:It}(h:x.Ok)(b:Bool):({ x with k:=b }:It).list=x.list.set 73 (.bool b):=by
 rw[It.parts x,It.parts,List.set_append_right _ _ (by rw[It.head72 h.root h.file];decide),It.head72 h.root h.file]
 rfl
theorem It.set74{x:It}(h:x.Ok)(n:Int):({ x with u:=n }:It).list=x.list.set 74 (.int .i64 n):=by
 rw[It.parts x,It.parts,List.set_append_right _ _ (by rw[It.head72 h.root h.file];decide),It.head72 h.root h.file]
 rfl
theorem It.set75{x:It}(h:x.Ok)(n:Int):({ x with r:=n }:It).list=x.list.set 75 (.int .i64 n):=by
 rw[It.parts x,It.parts,List.set_append_right _ _ (by rw[It.head72 h.root h.file];decide),It.head72 h.root h.file]
 rfl
open Go Go.RowKit Lean Elab Tactic Meta
end Go.Proofs.YtpdhceiodgnbmaaGreatDoor
