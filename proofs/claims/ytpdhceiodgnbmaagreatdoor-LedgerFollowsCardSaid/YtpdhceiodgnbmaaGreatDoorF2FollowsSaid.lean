import Derived.Test.YtpdhceiodgnbmaaGreatDoorF0FollowsSaid
import Derived.Test.YtpdhceiodgnbmaaGreatDoorF1FollowsSaid
import Derived.Maps.AppendAt
import Derived.Deep.MidRow
import Derived.Test.YtpdhceiodgnbmaaGreatDoorChecked
set_option linter.unusedVariables false
set_option linter.unusedSimpArgs false
set_option linter.unnecessarySimpa false
set_option maxRecDepth 100000
set_option maxHeartbeats 8000000
namespace Go.Proofs.YtpdhceiodgnbmaaGreatDoor
open Go.RowKit
def YI(w:World)(v v':Value):Prop:=∀ k,v'.ownBlock=some k->v.ownBlock=some k\/w.heap.size<=k
structure Only (D:Nat->Prop) (w w':World):Prop where
 os:w'.os=w.os
 tape:w'.tape=w.tape
 output:w'.output=w.output
 size:w.heap.size<=w'.heap.size
 block:∀ k,k<w.heap.size->¬D k->w'.heap[k]? = w.heap[k]?
theorem Only.refl(D:Nat->Prop)(w:World):Only D w w:=⟨rfl,rfl,rfl,Nat.le_refl _,λ_ _ _=>rfl⟩
theorem Only.mono{D E:Nat->Prop}{w w':World}(h:Only D w w')(hd:∀ k,k<w.heap.size->D k->E k):Only E w w':=
 ⟨h.os,h.tape,h.output,h.size,λk hk hn=>h.block k hk λhD=>hn (hd k hk hD)⟩
theorem Only.trans{D E:Nat->Prop}{a b c:World}(h:Only D a b)(h':Only E b c)(hd:∀ k,k<a.heap.size->E k->D k):Only D a c:=
 ⟨h'.os.trans h.os,h'.tape.trans h.tape,h'.output.trans h.output,Nat.le_trans h.size h'.size,λk hk hn=>(h'.block k (Nat.lt_of_lt_of_le hk h.size) λhE=>hn (hd k hk hE)).trans (h.block k hk hn)⟩
theorem Only.ofBelow{D:Nat->Prop}{w w':World}(h:Below w.heap.size w w'):Only D w w':=
 ⟨h.os,h.tape,h.output,h.size,λk hk _=>h.block k hk⟩
theorem Only.ofGrown{D:Nat->Prop}{w w':World}{row:Option Nat}(h:w.grownBy w' row)(hd:∀ k,row=some k->D k):Only D w w':=
 ⟨h.os,h.tape,h.output,h.size,λk hk hn=>h.block k hk λe=>hn (hd k e.symm)⟩
theorem Only.ofUpd{D:Nat->Prop}{b:Nat}{o:Obj}{w w':World}(h:Upd b o w w')(hd:D b):Only D w w':=
 ⟨h.os,h.tape,h.output,Nat.le_of_eq h.size.symm,λk _ hn=>h.block k λe=>hn (e▸hd)⟩
theorem Only.drew{D:Nat->Prop}{w w':World}(h:Only D w w'):Only D w w'.drew:=⟨h.os,h.tape,h.output,h.size,h.block⟩
theorem Only.setCell{D:Nat->Prop}{w w':World}(h:Only D w w')(a:Addr)(u:Value)(hd:a.block<w.heap.size->D a.block):Only D w (w'.setCell a u):=
 ⟨h.os,h.tape,h.output,by simpa[World.setCell] using h.size,λk hk hn=>(Below.heap_setCell _ _ _ _ (by rintro rfl;exact hn (hd hk))).trans (h.block k hk hn)⟩
theorem Only.below{D:Nat->Prop}{w w':World}{B:Nat}(h:Only D w w')(hB:B<=w.heap.size)(hd:∀ k,D k->B<=k):Below B w w':=
 ⟨h.os,h.tape,h.output,h.size,λk hk=>h.block k oX λhD=>by have:=hd k hD;omega⟩
theorem Only.owns{D:Nat->Prop}{w w':World}{base:Nat}{e:TypeId}{s n:Nat}{v:Value}{xs:List Value}(h:Only D w w')(ho:w.ownsRow base e s v n xs)(hd:∀ k,v.ownBlock=some k->¬D k):w'.ownsRow base e s v n xs:=by
 refine⟨ho.1,?_⟩
 rcases ho.2 with h2|⟨g,cap,cur,e1,e2,e3,e4⟩
 ·exact .inl h2
 ·subst e1
  exact .inr ⟨g,cap,cur,rfl,e2,(h.block g (Zb e3) (hd g rfl)).trans e3,e4⟩
theorem Only.heap{D:Nat->Prop}{w w':World}{b:Nat}{o:Obj}(h:Only D w w')(hb:w.heap[b]? = some o)(hd:¬D b):w'.heap[b]? = some o:=(h.block b (Zb hb) hd).trans hb
theorem Only.argB{D:Nat->Prop}{w w':World}{a:Option Addr}{cap:Nat}{bs:List UInt8}(h:Only D w w')(ha:ArgB w a cap bs)(hd:∀ b o,a=some ⟨b,o,none⟩->¬D b):ArgB w' a cap bs:=by
 refine⟨ha.len,ha.most,ha.nil,λi hi=>?_⟩
 obtain⟨b,o,rfl,hc⟩:=ha.row i hi
 have hlt:b<w.heap.size:=World.block_lt_of_cell? w _ hc
 exact⟨b,o,rfl,(World.cell?_of_block (w:=w) (w':=w') (a:=⟨b,o+i,none⟩) (h.block b hlt (hd b o rfl))).trans hc⟩
theorem MY{w:World}{base base':Nat}{e:TypeId}{s n:Nat}{v:Value}{xs:List Value}(ho:w.ownsRow base e s v n xs)(hb:base'<=base):w.ownsRow base' e s v n xs:=by
 refine⟨ho.1,?_⟩
 rcases ho.2 with h2|⟨g,cap,cur,e1,e2,e3⟩
 ·exact .inl h2
 ·exact .inr ⟨g,cap,cur,e1,oX,e3⟩
structure LiesOk {α:Type} (R:World->(Nat->Prop)->α->List Value->Prop) (size:Nat):Prop where
 only:∀ {w w':World} {D F:Nat->Prop} {x:α} {cs:List Value},R w F x cs->Only D w w'->(∀ k,F k->¬D k)->R w' F x cs
 more:∀ {w:World} {F F':Nat->Prop} {x:α} {cs:List Value},R w F x cs->(∀ k,F k->F' k)->R w F' x cs
 len:∀ {w:World} {F:Nat->Prop} {x:α} {cs:List Value},R w F x cs->cs.length=size/\∀ u∈cs,u.oneCell'=true
structure RowsOf {α:Type} (R:World->(Nat->Prop)->α->List Value->Prop) (e:TypeId) (size base:Nat) (w:World) (F:Nat->Prop) (v:Value) (ps:List α):Prop where
 row:∃ css:List (List Value),css.length=ps.length/\w.ownsRow base e size v ps.length css.flatten/\∀ (i:Nat) (x:α) (cs:List Value),ps[i]? = some x->css[i]? = some cs->R w F x cs
 apart:∀ k,v.ownBlock=some k->¬F k
 lt:∀ k,F k->k<w.heap.size
theorem Nm{css:List (List Value)}{size:Nat}(h:∀ cs∈css,cs.length=size):∀ (i:Nat) (cs:List Value) (j:Nat) (u:Value),css[i]? = some cs->cs[j]? = some u->css.flatten[i*size+j]? = some u:=by
 induction css with
 | nil=>intro i cs j u h1;simp at h1
 | cons c css ih=>
  intro i cs j u h1 h2
  have hc:=h c (List.mem_cons_self ..)
  cases i with
  | zero=>
   simp only[List.getElem?_cons_zero,Option.some.injEq] at h1
   subst h1
   have hj:=(List.getElem?_eq_some_iff.1 h2).1
   rw[Nat.zero_mul,Nat.zero_add,List.flatten_cons,List.getElem?_append_left hj]
   exact h2
  | succ i=>
   simp only[List.getElem?_cons_succ] at h1
   rw[List.flatten_cons,List.getElem?_append_right (by rw[hc,Nat.succ_mul];omega),hc,show (i+1)*size+j-size=i*size+j by rw[Nat.succ_mul];omega]
   exact ih (λcs hcs=>h cs (List.mem_cons_of_mem _ hcs)) i cs j u h1 h2
section
variable {α:Type} {R:World->(Nat->Prop)->α->List Value->Prop} {e:TypeId} {size base:Nat} {w w':World} {F F' D:Nat->Prop} {v:Value} {ps:List α}
theorem RowsOf.only(hR:LiesOk R size)(h:RowsOf R e size base w F v ps)(hO:Only D w w')(hF:∀ k,F k->¬D k)(hv:∀ k,v.ownBlock=some k->¬D k):RowsOf R e size base w' F v ps:=by
 obtain⟨⟨css,h1,h2,h3⟩,h4,h5⟩:=h
 exact⟨⟨css,h1,hO.owns h2 hv,λi x cs a b=>hR.only (h3 i x cs a b) hO hF⟩,h4,λk hk=>Nat.lt_of_lt_of_le (h5 k hk) hO.size⟩
theorem RowsOf.below(hR:LiesOk R size)(h:RowsOf R e size base w F v ps)(hb:Below w.heap.size w w'):RowsOf R e size base w' F v ps:=h.only hR (Only.ofBelow (D:=λ_=>False) hb) (λ_ _ h=>h) (λ_ _ h=>h)
theorem RowsOf.mono{base':Nat}(h:RowsOf R e size base w F v ps)(hb:base'<=base):RowsOf R e size base' w F v ps:=by
 obtain⟨⟨css,h1,h2,h3⟩,h4,h5⟩:=h
 exact⟨⟨css,h1,MY h2 hb,h3⟩,h4,h5⟩
theorem RowsOf.ownLt(h:RowsOf R e size base w F v ps):∀ k,v.ownBlock=some k->base<=k/\k<w.heap.size:=by
 obtain⟨⟨css,h1,h2,h3⟩,h4,h5⟩:=h
 exact λk hk=>World.ownsRow.lt h2 k hk
theorem RowsOf.nil(base:Nat)(w:World):RowsOf R e size base w (λ_=>False) (.slice none 0 0) ([]:List α):=
 ⟨⟨[],rfl,⟨sX,.inl ⟨rfl,rfl⟩⟩,λi x cs a=>by simp at a⟩,(λk hk=>by cases hk),λk h=>False.elim h⟩
theorem RowsOf.form(h:RowsOf R e size base w F v ps):∃ a c,v=.slice a ps.length c/\(a=none->c=0/\ps.length=0)/\ps.length<=c/\c<=maxLen/\∀ b o s,a=some ⟨b,o,s⟩->o=0/\s=none/\base<=b/\b<w.heap.size:=by
 obtain⟨⟨css,h1,h2,h3⟩,h4,h5⟩:=h
 rcases h2.2 with ⟨rfl,h0⟩|⟨g,cap,cur,rfl,hb,hh,hn,hc,_⟩
 ·exact⟨none,0,by rw[h0],λ_=>⟨rfl,h0⟩,oX,Nat.zero_le _,λ_ _ _ e=>by cases e⟩
 ·exact⟨_,cap,rfl,(λe=>by cases e),hn,hc,λb o s e=>by cases e;exact⟨rfl,rfl,hb,Zb hh⟩⟩
theorem RowsOf.elem(hR:LiesOk R size)(h:RowsOf R e size base w F v ps)(i:Nat)(x:α)(hx:ps[i]? = some x):∃ g c cs,v=.slice (some ⟨g,0,none⟩) ps.length c/\R w F x cs/\w.rangeAt g (i*size) cs:=by
 obtain⟨⟨css,h1,h2,h3⟩,h4,h5⟩:=h
 have hi:=(List.getElem?_eq_some_iff.1 hx).1
 obtain⟨cs,hcs⟩:∃ cs,css[i]? = some cs:=⟨_,List.getElem?_eq_getElem oX⟩
 have hall:∀ cs∈css,cs.length=size:=by
  intro cs hm
  obtain⟨j,hj⟩:=List.mem_iff_getElem?.1 hm
  have hj2:=(List.getElem?_eq_some_iff.1 hj).1
  exact(hR.len (h3 j _ cs (List.getElem?_eq_getElem oX) hj)).1
 rcases h2.2 with ⟨_,h0⟩|⟨g,cap,cur,rfl,hb,hh,hn,hc,hsz,htk⟩
 ·omega
 ·refine⟨g,cap,cs,rfl,h3 i x cs hx hcs,λj u hu=>?_⟩
  have:=Nm hall i cs j u hcs hu
  rw[<-htk,List.getElem?_take] at this
  split at this
  ·rw[Za hh,<-Array.getElem?_toList];exact this
  ·cases this
end
section
variable {α:Type} {R:World->(Nat->Prop)->α->List Value->Prop} {e:TypeId} {size base:Nat} {w:World} {F F':Nat->Prop} {v:Value} {ps:List α} {P:Program}
theorem RowsOf.app1(hR:LiesOk R size)(h:RowsOf R e size base w F v ps)(t ty:TypeId)(i:TypeInfo)(z:Value)(bytes:Nat)(ht:P.underlying t=some (.slice e))(hi:P.info? e=some i)(hz:i.zero=some z)(hsize:i.size=size)(hby:i.bytes=bytes)(hzs:z.cells.size=size)(hsz:0<size)
  (x:α) (cs:List Value) (hx:R w F' x cs) (hF:∀ k,F k->F' k) (ha:∀ k,v.ownBlock=some k->¬F' k) (hl:∀ k,F' k->k<w.heap.size) (g:Nat) (C:Array Value) (hC:C.toList=cs) (hg:w.heap[g]? = some (.cells C e (0,0))) (h63:ps.length+1<=maxLen) (hbytes:(ps.length+1)*bytes<=140737488355328) (hbase:base<=w.heap.size) :
  ∃ v' w',(Builtin.append_ #[t,t] ty #[v,.slice (some ⟨g,0,none⟩) 1 1]).run P w=.ok v' w'/\RowsOf R e size base w' F' v' (ps++[x])/\Only (λk=>v.ownBlock=some k) w w'/\YI w v v':=by
 obtain⟨⟨css,h1,h2,h3⟩,h4,h5⟩:=h
 obtain⟨hlen,hone⟩:=hR.len hx
 obtain⟨v',w',hr,k1,k2,_,k4⟩:=run_append_own_at (P:=P) w base t ty e i z size bytes ht hi hz hsize hby hzs hsz v ps.length css.flatten h2 ⟨g,0,none⟩ 1 1 cs (by rw[hlen,Nat.one_mul])
  (λj u hu=>by
   have e1:(⟨g,0,none⟩:Addr).add j=⟨g,0+j,none⟩:=by unfold Addr.add;split<;>simp_all
   rw[e1,Za hg,Nat.zero_add,<-Array.getElem?_toList,hC]
   exact hu) hone h63 hbytes hbase
 have hO:Only (λk=>v.ownBlock=some k) w w':=Only.ofGrown k2 (λk hk=>hk)
 have hM:YI w v v':=λk hk=>by
  rcases k4 with k4|k4
  ·exact .inl (k4▸hk)
  ·rw[k4] at hk;cases hk;exact .inr nR
 refine⟨v',w',hr,⟨⟨css++[cs],by simp[h1],by simpa using k1,λj y ds hy hd=>?_⟩,λk hk hk2=>?_,λk hk=>Nat.lt_of_lt_of_le (hl k hk) hO.size⟩,hO,hM⟩
 ·rcases Nat.lt_or_ge j ps.length with hj|hj
  ·rw[List.getElem?_append_left hj] at hy
   rw[List.getElem?_append_left oX] at hd
   exact hR.only (hR.more (h3 j y ds hy hd) hF) hO (λk hk e=>ha k e hk)
  ·have hj2:=(List.getElem?_eq_some_iff.1 hy).1
   simp only[List.length_append,List.length_singleton] at hj2
   obtain rfl:j=ps.length:=oX
   have e1:y=x:=by simpa using hy.symm
   have e2:ds=cs:=by rw[<-h1] at hd;simpa using hd.symm
   subst e1 e2
   exact hR.only hx hO (λk hk e=>ha k e hk)
 ·rcases hM k hk with hk3|hk3
  ·exact ha k hk3 hk2
  ·have:=hl k hk2;omega
end
section
variable {α:Type} {R:World->(Nat->Prop)->α->List Value->Prop} {e:TypeId} {size base:Nat} {w:World} {F F':Nat->Prop} {v:Value} {ps:List α} {P:Program} {ops:Array Oper} {rest:List Oper} {o:Oper} {a:Act} {Q:Exit->Act->World->Prop} {K:Act->World->Prop}
theorem GV(hR:LiesOk R size)(s x:Operand)(t:TypeId)(ho:o.op=.call { callee:=.builtin .append,args:=#[s,x],argTypes:=#[t,t] })
  (ht:P.underlying t=some (.slice e)) (bytes:Nat) (hi:(P.info? e).map (λi=>(i.zero.map (·.cells.size),i.size,i.bytes))=some (some size,size,bytes)) (hsz:0<size)
  (hs:a.eval s=v) (h:Hid (RowsOf R e size base w F v ps)) (y:α) (C:Array Value) (hy:Hid (R w F' y C.toList)) (hF:Hid (∀ k,F k->F' k)) (ha:Hid (∀ k,v.ownBlock=some k->¬F' k)) (hl:Hid (∀ k,F' k->k<w.heap.size))
  (hx:a.eval x=.slice (some ⟨w.heap.size,0,none⟩) 1 1) (h63:ps.length<=1000000) (hb8:bytes<=10000) (hbase:base<=w.heap.size)
  (hK:∀ v' w',Hid (RowsOf R e size base w' F' v' (ps++[y]))->Hid (Only (λk=>v.ownBlock=some k) w w')->Hid (YI w v v')->K (a.put o.dst v') w'):o.wp P a (w.alloc (.cells C e)) K Q:=by
 obtain⟨ie,hie,h2⟩:=Option.map_eq_some_iff.1 hi
 simp only[Prod.mk.injEq] at h2
 obtain⟨hz,hs1,hby⟩:=h2
 obtain⟨z,hz1,hz2⟩:=Option.map_eq_some_iff.1 hz
 have hG:Below w.heap.size w (w.alloc (.cells C e)):=bR.alloc nR _
 have hO1:Only (λ_=>False) w (w.alloc (.cells C e)):=Only.ofBelow hG
 obtain⟨v',w',hr,k1,k2,k3⟩:=(h.out.below hR hG).app1 (P:=P) hR t o.type ie z bytes ht hie hz1 hs1 hby hz2 hsz y C.toList (hR.only hy.out hO1 (λ_ _ h=>h)) hF.out ha.out (λk hk=>Nat.lt_of_lt_of_le (hl.out k hk) hG.size) w.heap.size C rfl (heap_alloc_new w _) (by unfold maxLen;omega)
  (Nat.le_trans (Nat.mul_le_mul (Nat.succ_le_succ h63) hb8) dX) (Nat.le_trans hbase hG.size)
 unfold Oper.wp execOp
 simp only[ho,resolve,invoke,builtin,Sem.run_bind,Sem.run_pure,Result.andThen_ok,List.map_toArray,List.map_cons,List.map_nil,hs,hx,hr]
 exact hK v' w' (Hd k1) (Hd ((hO1.mono (λ_ _ h=>False.elim h)).trans k2 (λ_ _ h=>h))) (Hd λk hk=>(k3 k hk).imp id (λh=>Nat.le_trans hG.size h))
theorem Z9(hgd:o.guard=none)(hR:LiesOk R size)(s x:Operand)(t:TypeId)(ho:o.op=.call { callee:=.builtin .append,args:=#[s,x],argTypes:=#[t,t] })
  (ht:P.underlying t=some (.slice e)) (bytes:Nat) (hi:(P.info? e).map (λi=>(i.zero.map (·.cells.size),i.size,i.bytes))=some (some size,size,bytes)) (hsz:0<size)
  (hs:a.eval s=v) (h:Hid (RowsOf R e size base w F v ps)) (y:α) (C:Array Value) (hy:Hid (R w F' y C.toList)) (hF:Hid (∀ k,F k->F' k)) (ha:Hid (∀ k,v.ownBlock=some k->¬F' k)) (hl:Hid (∀ k,F' k->k<w.heap.size))
  (hx:a.eval x=.slice (some ⟨w.heap.size,0,none⟩) 1 1) (h63:ps.length<=1000000) (hb8:bytes<=10000) (hbase:base<=w.heap.size)
  (hK:∀ v' w',Hid (RowsOf R e size base w' F' v' (ps++[y]))->Hid (Only (λk=>v.ownBlock=some k) w w')->Hid (YI w v v')->wpList P ops Q rest (a.put o.dst v') w'):wpList P ops Q (o::rest) a (w.alloc (.cells C e)):=by
 refine wpList_plain hgd λK' hK'=>?_
 exact GV hR s x t ho ht bytes hi hsz hs h y C hy hF ha hl hx h63 hb8 hbase (λv' w' a b c=>hK' _ _ (hK v' w' a b c))
end
theorem P6.list_length(p:P6):p.list.length=6:=rfl
theorem P6.list_one(p:P6):∀ u∈p.list,u.oneCell'=true:=by
 intro u hu
 simp only[P6.list,List.mem_cons,List.not_mem_nil,or_false] at hu
 rcases hu with rfl|rfl|rfl|rfl|rfl|rfl<;>rfl
theorem all_one{l:List Value}(h:∀ u∈l,u.oneCell'=true):l.toArray.all (·.oneCell')=true:=by
 rw[Array.all_eq_true']
 intro u hu
 exact h u (by simpa using hu)
section
variable {P:Program}
end
section
variable {P:Program}
end
def RowAt{α:Type}(enc:α->List Value)(size:Nat)(w:World)(a:Option Addr)(xs:List α):Prop:=∀ k (h:k<xs.length),∃ b o,a=some ⟨b,o,none⟩/\w.rangeAt b (o+k*size) (enc xs[k])
theorem Zs{w w':World}{B b o:Nat}{cs:List Value}(h:w.rangeAt b o cs)(hb:Below B w w')(hB:w.heap.size<=B):w'.rangeAt b o cs:=λj v hv=>by
 have h1:=h j v hv
 have h2:=World.block_lt_of_cell? w _ h1
 exact(hb.cell (p:=⟨b,o+j,none⟩) (Nat.lt_of_lt_of_le h2 hB)).trans h1
theorem RowAt.below{α:Type}{enc:α->List Value}{size B:Nat}{w w':World}{a:Option Addr}{xs:List α}(h:RowAt enc size w a xs)(hb:Below B w w')(hB:w.heap.size<=B):RowAt enc size w' a xs:=λk hk=>by
 obtain⟨b,o,e,hr⟩:=h k hk
 exact⟨b,o,e,Zs hr hb hB⟩
structure It where
 n:Int
 s:ByteArray
 p:P6
 root:List UInt8
 file:List UInt8
 t:Int
 k:Bool
 u:Int
 r:Int
deriving DecidableEq
instance:Inhabited It:=⟨⟨0,ByteArray.empty,⟨0,0,0,0,0,0⟩,List.replicate 32 0,List.replicate 32 0,0,false,0,0⟩⟩
def It.list(x:It):List Value:=[.int .i64 x.n,.string x.s]++(x.p.list++(cB x.root++(cB x.file++[.int .i64 x.t,.bool x.k,.int .i64 x.u,.int .i64 x.r])))
def It.lits(x:It):List Lit:=[.int .i64 x.n,.string x.s.data.toList]++(x.p.lits++(Qm x.root++(Qm x.file++[.int .i64 x.t,.bool x.k,.int .i64 x.u,.int .i64 x.r])))
structure It.Ok (x:It):Prop where
 n:inI x.n
 s:x.s.size<=maxLen
 p:x.p.Ok
 root:x.root.length=32
 file:x.file.length=32
 t:inI x.t
 u:inI x.u
 r:inI x.r
theorem It.len{x:It}(h1:x.root.length=32)(h2:x.file.length=32):x.list.length=76:=by
 simp[It.list,P6.list_length,Zd,h1,h2]
theorem It.list_length{x:It}(h:x.Ok):x.list.length=76:=It.len h.root h.file
theorem It.list_one(x:It):∀ u∈x.list,u.oneCell'=true:=by
 intro u hu
 simp only[It.list,List.mem_append,List.mem_cons,List.not_mem_nil,or_false] at hu
 rcases hu with (rfl|rfl)|hu|hu|hu|rfl|rfl|rfl|rfl
 ·rfl
 ·rfl
 ·exact P6.list_one _ u hu
 ·exact ZU _ u hu
 ·exact ZU _ u hu
 ·rfl
 ·rfl
 ·rfl
 ·rfl
theorem It.all_one(x:It):x.list.toArray.all (·.oneCell')=true:=Go.Proofs.YtpdhceiodgnbmaaGreatDoor.all_one x.list_one
theorem It.size{x:It}(h:x.Ok):x.list.toArray.size=76:=by rw[List.size_toArray,It.list_length h]
theorem It.parts(x:It):x.list=([.int .i64 x.n,.string x.s]++x.p.list++cB x.root++cB x.file)++[.int .i64 x.t,.bool x.k,.int .i64 x.u,.int .i64 x.r]:=by simp[It.list]
theorem It.head72{x:It}(h1:x.root.length=32)(h2:x.file.length=32):([.int .i64 x.n,.string x.s]++x.p.list++cB x.root++cB x.file:List Value).length=72:=by simp[P6.list_length,Zd,h1,h2]
theorem It.c0(x:It):x.list[0]? = some (.int .i64 x.n):=rfl
theorem It.c1(x:It):x.list[1]? = some (.string x.s):=rfl
theorem It.c3(x:It):x.list[3]? = some (.int .i64 x.p.n):=rfl
theorem It.c72{x:It}(h:x.Ok):x.list[72]? = some (.int .i64 x.t):=by
 rw[It.parts,List.getElem?_append_right (by rw[It.head72 h.root h.file];omega),It.head72 h.root h.file];rfl
theorem It.c73{x:It}(h:x.Ok):x.list[73]? = some (.bool x.k):=by
 rw[It.parts,List.getElem?_append_right (by rw[It.head72 h.root h.file];omega),It.head72 h.root h.file];rfl
theorem It.c74{x:It}(h:x.Ok):x.list[74]? = some (.int .i64 x.u):=by
 rw[It.parts,List.getElem?_append_right (by rw[It.head72 h.root h.file];omega),It.head72 h.root h.file];rfl
theorem It.c75{x:It}(h:x.Ok):x.list[75]? = some (.int .i64 x.r):=by
 rw[It.parts,List.getElem?_append_right (by rw[It.head72 h.root h.file];omega),It.head72 h.root h.file];rfl
theorem It.sub_p(x:It):(x.list.drop 2).take 6=x.p.list:=by
 have e:x.list=[.int .i64 x.n,.string x.s]++(x.p.list++(cB x.root++(cB x.file++[.int .i64 x.t,.bool x.k,.int .i64 x.u,.int .i64 x.r]))):=rfl
 rw[e]
 exact XZ rfl rfl
theorem It.sub_root{x:It}(h:x.Ok):(x.list.drop 8).take 32=cB x.root:=by
 have e:x.list=([.int .i64 x.n,.string x.s]++x.p.list)++(cB x.root++(cB x.file++[.int .i64 x.t,.bool x.k,.int .i64 x.u,.int .i64 x.r])):=by simp[It.list]
 rw[e]
 exact XZ rfl (by rw[Zd,h.root])
theorem It.sub_file{x:It}(h:x.Ok):(x.list.drop 40).take 32=cB x.file:=by
 have e:x.list=([.int .i64 x.n,.string x.s]++x.p.list++cB x.root)++(cB x.file++[.int .i64 x.t,.bool x.k,.int .i64 x.u,.int .i64 x.r]):=by simp[It.list]
 rw[e]
 exact XZ (by simp[P6.list_length,Zd,h.root]) (by rw[Zd,h.file])
structure En where
 id:Int
 o:Int
 w:Int
 i:Int
 t:Int
 v:Int
 a:Int
deriving DecidableEq
instance:Inhabited En:=⟨⟨0,0,0,0,0,0,0⟩⟩
def En.list(x:En):List Value:=[.int .i64 x.id,.int .i64 x.o,.int .i64 x.w,.int .i64 x.i,.int .i64 x.t,.int .i64 x.v,.int .i64 x.a]
def En.lits(x:En):List Lit:=[.int .i64 x.id,.int .i64 x.o,.int .i64 x.w,.int .i64 x.i,.int .i64 x.t,.int .i64 x.v,.int .i64 x.a]
def En.Ok(x:En):Prop:=inI x.id/\inI x.o/\inI x.w/\inI x.i/\inI x.t/\inI x.v/\inI x.a
theorem En.list_one(x:En):∀ u∈x.list,u.oneCell'=true:=by
 intro u hu
 simp only[En.list,List.mem_cons,List.not_mem_nil,or_false] at hu
 rcases hu with rfl|rfl|rfl|rfl|rfl|rfl|rfl<;>rfl
def RI(_:World)(_:Nat->Prop)(x:It)(cs:List Value):Prop:=cs=x.list/\x.Ok
theorem Zk:LiesOk RI 76:=⟨λh _ _=>h,λh _=>h,λh=>by rw[h.1];exact⟨It.list_length h.2,It.list_one _⟩⟩
def RE(_:World)(_:Nat->Prop)(x:En)(cs:List Value):Prop:=cs=x.list/\x.Ok
theorem Zj:LiesOk RE 7:=⟨λh _ _=>h,λh _=>h,λh=>by rw[h.1];exact⟨rfl,En.list_one _⟩⟩
theorem TU{base:Nat}{w:World}{e:TypeId}{F:Nat->Prop}{v:Value}{xs:List It}(h:RowsOf RI e 76 base w F v xs):∃ a c,v=.slice a xs.length c/\RowAt It.list 76 w a xs/\xs.length<=c/\c<=maxLen/\(∀ x∈xs,x.Ok):=by
 obtain⟨a,c,e1,e2,e3,e4,e5⟩:=h.form
 refine⟨a,c,e1,λk hk=>?_,e3,e4,λx hx=>?_⟩
 ·obtain⟨g,c',cs,e6,⟨rfl,_⟩,h7⟩:=h.elem Zk k _ (List.getElem?_eq_getElem hk)
  rw[e1] at e6
  cases e6
  exact⟨g,0,rfl,by rw[Nat.zero_add];exact h7⟩
 ·obtain⟨k,hk,rfl⟩:=List.getElem_of_mem hx
  obtain⟨g,c',cs,e6,⟨_,h8⟩,h7⟩:=h.elem Zk k _ (List.getElem?_eq_getElem hk)
  exact h8
theorem Ga{base:Nat}{w:World}{e:TypeId}{F:Nat->Prop}{v:Value}{xs:List En}(h:RowsOf RE e 7 base w F v xs):∃ a c,v=.slice a xs.length c/\RowAt En.list 7 w a xs/\xs.length<=c/\c<=maxLen/\(∀ x∈xs,x.Ok):=by
 obtain⟨a,c,e1,e2,e3,e4,e5⟩:=h.form
 refine⟨a,c,e1,λk hk=>?_,e3,e4,λx hx=>?_⟩
 ·obtain⟨g,c',cs,e6,⟨rfl,_⟩,h7⟩:=h.elem Zj k _ (List.getElem?_eq_getElem hk)
  rw[e1] at e6
  cases e6
  exact⟨g,0,rfl,by rw[Nat.zero_add];exact h7⟩
 ·obtain⟨k,hk,rfl⟩:=List.getElem_of_mem hx
  obtain⟨g,c',cs,e6,⟨_,h8⟩,h7⟩:=h.elem Zj k _ (List.getElem?_eq_getElem hk)
  exact h8
structure St where
 its:List It
 ens:List En
structure ArgS (w:World) (v:Value) (m:St):Prop where
 form:∃ a c a' c',v=.agg #[.slice a m.its.length c,.slice a' m.ens.length c']/\RowAt It.list 76 w a m.its/\m.its.length<=c/\c<=maxLen/\RowAt En.list 7 w a' m.ens/\m.ens.length<=c'/\c'<=maxLen
 okN:∀ x∈m.its,x.Ok
 okV:∀ x∈m.ens,x.Ok
theorem ArgS.below{B:Nat}{w w':World}{v:Value}{m:St}(h:ArgS w v m)(hb:Below B w w')(hB:w.heap.size<=B):ArgS w' v m:=by
 obtain⟨⟨a,c,a',c',e,h1,h2,h3,h4,h5,h6⟩,h7,h8⟩:=h
 exact⟨⟨a,c,a',c',e,h1.below hb hB,h2,h3,h4.below hb hB,h5,h6⟩,h7,h8⟩
theorem Ux:(Tryz.prog.info? 58).map (λi=>(i.zero.map (·.cells.size),i.size,i.bytes))=some (some 76,76,168):=kX
theorem Jd:(Tryz.prog.info? 66).map (λi=>(i.zero.map (·.cells.size),i.size,i.bytes))=some (some 7,7,56):=kX
theorem Ja:(Tryz.prog.info? 63).map (λi=>(i.zero.map (·.cells.size),i.size,i.bytes))=some (some 76,76,168):=kX
theorem YP:(Tryz.prog.info? 105).map (λi=>(i.zero.map (·.cells.size),i.size,i.bytes))=some (some 7,7,56):=kX
end Go.Proofs.YtpdhceiodgnbmaaGreatDoor
