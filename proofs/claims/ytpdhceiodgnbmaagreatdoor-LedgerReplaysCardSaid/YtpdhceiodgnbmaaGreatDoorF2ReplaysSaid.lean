import Derived.Test.YtpdhceiodgnbmaaGreatDoorF0ReplaysSaid
import Derived.Test.YtpdhceiodgnbmaaGreatDoorF1ReplaysSaid
import Derived.Maps.AppendAt
import Derived.Deep.MidRow
import Derived.Test.YtpdhceiodgnbmaaGreatDoorChecked
import Derived.Deep.WholeRow
import Derived.Test.YtpdhceiodgnbmaaGreatDoorRows
import Derived.Outline
import Derived.Deep.LoopGhost
import Derived.Laws.Tables
import Derived.Great.BuildSlice
import Derived.Great.FillDense
import Derived.Laws.AppendOwn
set_option linter.unusedVariables false
set_option linter.unusedSimpArgs false
set_option linter.unnecessarySimpa false
set_option maxRecDepth 100000
set_option maxHeartbeats 8000000
namespace Go.Proofs.YtpdhceiodgnbmaaGreatDoor
open Go.RowKit
structure LiesOk {α:Type} (R:World->(Nat->Prop)->α->List Value->Prop) (size:Nat):Prop where
 only:∀ {w w':World} {D F:Nat->Prop} {x:α} {cs:List Value},R w F x cs->Only D w w'->(∀ k,F k->¬D k)->R w' F x cs
 more:∀ {w:World} {F F':Nat->Prop} {x:α} {cs:List Value},R w F x cs->(∀ k,F k->F' k)->R w F' x cs
 len:∀ {w:World} {F:Nat->Prop} {x:α} {cs:List Value},R w F x cs->cs.length=size/\∀ u∈cs,u.oneCell'=true
structure RowsOf {α:Type} (R:World->(Nat->Prop)->α->List Value->Prop) (e:TypeId) (size base:Nat) (w:World) (F:Nat->Prop) (v:Value) (ps:List α):Prop where
 row:∃ css:List (List Value),css.length=ps.length/\w.ownsRow base e size v ps.length css.flatten/\∀ (i:Nat) (x:α) (cs:List Value),ps[i]? = some x->css[i]? = some cs->R w F x cs
 apart:∀ k,v.ownBlock=some k->¬F k
 lt:∀ k,F k->k<w.heap.size
theorem Lt{css:List (List Value)}{size:Nat}(h:∀ cs∈css,cs.length=size):∀ (i:Nat) (cs:List Value) (j:Nat) (u:Value),css[i]? = some cs->cs[j]? = some u->css.flatten[i*size+j]? = some u:=by
 induction css with
 | nil=>intro i cs j u h1;simp at h1
 | cons c css ih=>
  intro i cs j u h1 h2
  have hc:=h c (List.mem_cons_self ..)
  cases i with
  | zero=>
   simp only[List.getElem?_cons_zero,Option.some.injEq] at h1
   subst h1
   have hj:=(List.getElem?_eq_some_iff.1 h2).1
   rw[Nat.zero_mul,Nat.zero_add,List.flatten_cons,List.getElem?_append_left hj]
   exact h2
  | succ i=>
   simp only[List.getElem?_cons_succ] at h1
   rw[List.flatten_cons,List.getElem?_append_right (by rw[hc,Nat.succ_mul];omega),hc,show (i+1)*size+j-size=i*size+j by rw[Nat.succ_mul];omega]
   exact ih (λcs hcs=>h cs (List.mem_cons_of_mem _ hcs)) i cs j u h1 h2
section
variable {α:Type} {R:World->(Nat->Prop)->α->List Value->Prop} {e:TypeId} {size base:Nat} {w w':World} {F F' D:Nat->Prop} {v:Value} {ps:List α}
theorem RowsOf.only(hR:LiesOk R size)(h:RowsOf R e size base w F v ps)(hO:Only D w w')(hF:∀ k,F k->¬D k)(hv:∀ k,v.ownBlock=some k->¬D k):RowsOf R e size base w' F v ps:=by
 obtain⟨⟨css,h1,h2,h3⟩,h4,h5⟩:=h
 exact⟨⟨css,h1,hO.owns h2 hv,λi x cs a b=>hR.only (h3 i x cs a b) hO hF⟩,h4,λk hk=>Nat.lt_of_lt_of_le (h5 k hk) hO.size⟩
theorem RowsOf.below(hR:LiesOk R size)(h:RowsOf R e size base w F v ps)(hb:Below w.heap.size w w'):RowsOf R e size base w' F v ps:=h.only hR (Only.ofBelow (D:=λ_=>False) hb) (λ_ _ h=>h) (λ_ _ h=>h)
theorem RowsOf.mono{base':Nat}(h:RowsOf R e size base w F v ps)(hb:base'<=base):RowsOf R e size base' w F v ps:=by
 obtain⟨⟨css,h1,h2,h3⟩,h4,h5⟩:=h
 exact⟨⟨css,h1,P4 h2 hb,h3⟩,h4,h5⟩
theorem RowsOf.ownLt(h:RowsOf R e size base w F v ps):∀ k,v.ownBlock=some k->base<=k/\k<w.heap.size:=by
 obtain⟨⟨css,h1,h2,h3⟩,h4,h5⟩:=h
 exact λk hk=>World.ownsRow.lt h2 k hk
theorem RowsOf.nil(base:Nat)(w:World):RowsOf R e size base w (λ_=>False) (.slice none 0 0) ([]:List α):=
 ⟨⟨[],rfl,⟨sX,.inl ⟨rfl,rfl⟩⟩,λi x cs a=>by simp at a⟩,(λk hk=>by cases hk),λk h=>False.elim h⟩
theorem RowsOf.form(h:RowsOf R e size base w F v ps):∃ a c,v=.slice a ps.length c/\(a=none->c=0/\ps.length=0)/\ps.length<=c/\c<=maxLen/\∀ b o s,a=some ⟨b,o,s⟩->o=0/\s=none/\base<=b/\b<w.heap.size:=by
 obtain⟨⟨css,h1,h2,h3⟩,h4,h5⟩:=h
 rcases h2.2 with ⟨rfl,h0⟩|⟨g,cap,cur,rfl,hb,hh,hn,hc,_⟩
 ·exact⟨none,0,by rw[h0],λ_=>⟨rfl,h0⟩,oX,Nat.zero_le _,λ_ _ _ e=>by cases e⟩
 ·exact⟨_,cap,rfl,(λe=>by cases e),hn,hc,λb o s e=>by cases e;exact⟨rfl,rfl,hb,Zb hh⟩⟩
theorem RowsOf.elem(hR:LiesOk R size)(h:RowsOf R e size base w F v ps)(i:Nat)(x:α)(hx:ps[i]? = some x):∃ g c cs,v=.slice (some ⟨g,0,none⟩) ps.length c/\R w F x cs/\w.rangeAt g (i*size) cs:=by
 obtain⟨⟨css,h1,h2,h3⟩,h4,h5⟩:=h
 have hi:=(List.getElem?_eq_some_iff.1 hx).1
 obtain⟨cs,hcs⟩:∃ cs,css[i]? = some cs:=⟨_,List.getElem?_eq_getElem oX⟩
 have hall:∀ cs∈css,cs.length=size:=by
  intro cs hm
  obtain⟨j,hj⟩:=List.mem_iff_getElem?.1 hm
  have hj2:=(List.getElem?_eq_some_iff.1 hj).1
  exact(hR.len (h3 j _ cs (List.getElem?_eq_getElem oX) hj)).1
 rcases h2.2 with ⟨_,h0⟩|⟨g,cap,cur,rfl,hb,hh,hn,hc,hsz,htk⟩
 ·omega
 ·refine⟨g,cap,cs,rfl,h3 i x cs hx hcs,λj u hu=>?_⟩
  have:=Lt hall i cs j u hcs hu
  rw[<-htk,List.getElem?_take] at this
  split at this
  ·rw[Za hh,<-Array.getElem?_toList];exact this
  ·cases this
end
section
variable {α:Type} {R:World->(Nat->Prop)->α->List Value->Prop} {e:TypeId} {size base:Nat} {w:World} {F F':Nat->Prop} {v:Value} {ps:List α} {P:Program}
theorem RowsOf.app1(hR:LiesOk R size)(h:RowsOf R e size base w F v ps)(t ty:TypeId)(i:TypeInfo)(z:Value)(bytes:Nat)(ht:P.underlying t=some (.slice e))(hi:P.info? e=some i)(hz:i.zero=some z)(hsize:i.size=size)(hby:i.bytes=bytes)(hzs:z.cells.size=size)(hsz:0<size)
  (x:α) (cs:List Value) (hx:R w F' x cs) (hF:∀ k,F k->F' k) (ha:∀ k,v.ownBlock=some k->¬F' k) (hl:∀ k,F' k->k<w.heap.size) (g:Nat) (C:Array Value) (hC:C.toList=cs) (hg:w.heap[g]? = some (.cells C e (0,0))) (h63:ps.length+1<=maxLen) (hbytes:(ps.length+1)*bytes<=140737488355328) (hbase:base<=w.heap.size) :
  ∃ v' w',(Builtin.append_ #[t,t] ty #[v,.slice (some ⟨g,0,none⟩) 1 1]).run P w=.ok v' w'/\RowsOf R e size base w' F' v' (ps++[x])/\Only (λk=>v.ownBlock=some k) w w'/\XM w v v':=by
 obtain⟨⟨css,h1,h2,h3⟩,h4,h5⟩:=h
 obtain⟨hlen,hone⟩:=hR.len hx
 obtain⟨v',w',hr,k1,k2,_,k4⟩:=run_append_own_at (P:=P) w base t ty e i z size bytes ht hi hz hsize hby hzs hsz v ps.length css.flatten h2 ⟨g,0,none⟩ 1 1 cs (by rw[hlen,Nat.one_mul])
  (λj u hu=>by
   have e1:(⟨g,0,none⟩:Addr).add j=⟨g,0+j,none⟩:=by unfold Addr.add;split<;>simp_all
   rw[e1,Za hg,Nat.zero_add,<-Array.getElem?_toList,hC]
   exact hu) hone h63 hbytes hbase
 have hO:Only (λk=>v.ownBlock=some k) w w':=Only.ofGrown k2 (λk hk=>hk)
 have hM:XM w v v':=λk hk=>by
  rcases k4 with k4|k4
  ·exact .inl (k4▸hk)
  ·rw[k4] at hk;cases hk;exact .inr nR
 refine⟨v',w',hr,⟨⟨css++[cs],by simp[h1],by simpa using k1,λj y ds hy hd=>?_⟩,λk hk hk2=>?_,λk hk=>Nat.lt_of_lt_of_le (hl k hk) hO.size⟩,hO,hM⟩
 ·rcases Nat.lt_or_ge j ps.length with hj|hj
  ·rw[List.getElem?_append_left hj] at hy
   rw[List.getElem?_append_left oX] at hd
   exact hR.only (hR.more (h3 j y ds hy hd) hF) hO (λk hk e=>ha k e hk)
  ·have hj2:=(List.getElem?_eq_some_iff.1 hy).1
   simp only[List.length_append,List.length_singleton] at hj2
   obtain rfl:j=ps.length:=oX
   have e1:y=x:=by simpa using hy.symm
   have e2:ds=cs:=by rw[<-h1] at hd;simpa using hd.symm
   subst e1 e2
   exact hR.only hx hO (λk hk e=>ha k e hk)
 ·rcases hM k hk with hk3|hk3
  ·exact ha k hk3 hk2
  ·have:=hl k hk2;omega
end
section
variable {α:Type} {R:World->(Nat->Prop)->α->List Value->Prop} {e:TypeId} {size base:Nat} {w:World} {F F':Nat->Prop} {v:Value} {ps:List α} {P:Program} {ops:Array Oper} {rest:List Oper} {o:Oper} {a:Act} {Q:Exit->Act->World->Prop} {K:Act->World->Prop}
theorem Mn(hR:LiesOk R size)(s x:Operand)(t:TypeId)(ho:o.op=.call { callee:=.builtin .append,args:=#[s,x],argTypes:=#[t,t] })
  (ht:P.underlying t=some (.slice e)) (bytes:Nat) (hi:(P.info? e).map (λi=>(i.zero.map (·.cells.size),i.size,i.bytes))=some (some size,size,bytes)) (hsz:0<size)
  (hs:a.eval s=v) (h:Hid (RowsOf R e size base w F v ps)) (y:α) (C:Array Value) (hy:Hid (R w F' y C.toList)) (hF:Hid (∀ k,F k->F' k)) (ha:Hid (∀ k,v.ownBlock=some k->¬F' k)) (hl:Hid (∀ k,F' k->k<w.heap.size))
  (hx:a.eval x=.slice (some ⟨w.heap.size,0,none⟩) 1 1) (h63:ps.length<=1000000) (hb8:bytes<=10000) (hbase:base<=w.heap.size)
  (hK:∀ v' w',Hid (RowsOf R e size base w' F' v' (ps++[y]))->Hid (Only (λk=>v.ownBlock=some k) w w')->Hid (XM w v v')->K (a.put o.dst v') w'):o.wp P a (w.alloc (.cells C e)) K Q:=by
 obtain⟨ie,hie,h2⟩:=Option.map_eq_some_iff.1 hi
 simp only[Prod.mk.injEq] at h2
 obtain⟨hz,hs1,hby⟩:=h2
 obtain⟨z,hz1,hz2⟩:=Option.map_eq_some_iff.1 hz
 have hG:Below w.heap.size w (w.alloc (.cells C e)):=bR.alloc nR _
 have hO1:Only (λ_=>False) w (w.alloc (.cells C e)):=Only.ofBelow hG
 obtain⟨v',w',hr,k1,k2,k3⟩:=(h.out.below hR hG).app1 (P:=P) hR t o.type ie z bytes ht hie hz1 hs1 hby hz2 hsz y C.toList (hR.only hy.out hO1 (λ_ _ h=>h)) hF.out ha.out (λk hk=>Nat.lt_of_lt_of_le (hl.out k hk) hG.size) w.heap.size C rfl (heap_alloc_new w _) (by unfold maxLen;omega)
  (Nat.le_trans (Nat.mul_le_mul (Nat.succ_le_succ h63) hb8) dX) (Nat.le_trans hbase hG.size)
 unfold Oper.wp execOp
 simp only[ho,resolve,invoke,builtin,Sem.run_bind,Sem.run_pure,Result.andThen_ok,List.map_toArray,List.map_cons,List.map_nil,hs,hx,hr]
 exact hK v' w' (Hd k1) (Hd ((hO1.mono (λ_ _ h=>False.elim h)).trans k2 (λ_ _ h=>h))) (Hd λk hk=>(k3 k hk).imp id (λh=>Nat.le_trans hG.size h))
theorem ZL(hgd:o.guard=none)(hR:LiesOk R size)(s x:Operand)(t:TypeId)(ho:o.op=.call { callee:=.builtin .append,args:=#[s,x],argTypes:=#[t,t] })
  (ht:P.underlying t=some (.slice e)) (bytes:Nat) (hi:(P.info? e).map (λi=>(i.zero.map (·.cells.size),i.size,i.bytes))=some (some size,size,bytes)) (hsz:0<size)
  (hs:a.eval s=v) (h:Hid (RowsOf R e size base w F v ps)) (y:α) (C:Array Value) (hy:Hid (R w F' y C.toList)) (hF:Hid (∀ k,F k->F' k)) (ha:Hid (∀ k,v.ownBlock=some k->¬F' k)) (hl:Hid (∀ k,F' k->k<w.heap.size))
  (hx:a.eval x=.slice (some ⟨w.heap.size,0,none⟩) 1 1) (h63:ps.length<=1000000) (hb8:bytes<=10000) (hbase:base<=w.heap.size)
  (hK:∀ v' w',Hid (RowsOf R e size base w' F' v' (ps++[y]))->Hid (Only (λk=>v.ownBlock=some k) w w')->Hid (XM w v v')->wpList P ops Q rest (a.put o.dst v') w'):wpList P ops Q (o::rest) a (w.alloc (.cells C e)):=by
 refine wpList_plain hgd λK' hK'=>?_
 exact Mn hR s x t ho ht bytes hi hsz hs h y C hy hF ha hl hx h63 hb8 hbase (λv' w' a b c=>hK' _ _ (hK v' w' a b c))
end
theorem P6.list_length(p:P6):p.list.length=6:=rfl
theorem P6.list_one(p:P6):∀ u∈p.list,u.oneCell'=true:=by
 intro u hu
 simp only[P6.list,List.mem_cons,List.not_mem_nil,or_false] at hu
 rcases hu with rfl|rfl|rfl|rfl|rfl|rfl<;>rfl
theorem all_one{l:List Value}(h:∀ u∈l,u.oneCell'=true):l.toArray.all (·.oneCell')=true:=by
 rw[Array.all_eq_true']
 intro u hu
 exact h u (by simpa using hu)
section
variable {P:Program}
end
section
variable {P:Program}
end
def RowAt{α:Type}(enc:α->List Value)(size:Nat)(w:World)(a:Option Addr)(xs:List α):Prop:=∀ k (h:k<xs.length),∃ b o,a=some ⟨b,o,none⟩/\w.rangeAt b (o+k*size) (enc xs[k])
theorem ZV{w w':World}{B b o:Nat}{cs:List Value}(h:w.rangeAt b o cs)(hb:Below B w w')(hB:w.heap.size<=B):w'.rangeAt b o cs:=λj v hv=>by
 have h1:=h j v hv
 have h2:=World.block_lt_of_cell? w _ h1
 exact(hb.cell (p:=⟨b,o+j,none⟩) (Nat.lt_of_lt_of_le h2 hB)).trans h1
theorem RowAt.below{α:Type}{enc:α->List Value}{size B:Nat}{w w':World}{a:Option Addr}{xs:List α}(h:RowAt enc size w a xs)(hb:Below B w w')(hB:w.heap.size<=B):RowAt enc size w' a xs:=λk hk=>by
 obtain⟨b,o,e,hr⟩:=h k hk
 exact⟨b,o,e,ZV hr hb hB⟩
structure It where
 n:Int
 s:ByteArray
 p:P6
 root:List UInt8
 file:List UInt8
 t:Int
 k:Bool
 u:Int
 r:Int
deriving DecidableEq
instance:Inhabited It:=⟨⟨0,ByteArray.empty,⟨0,0,0,0,0,0⟩,List.replicate 32 0,List.replicate 32 0,0,false,0,0⟩⟩
def It.list(x:It):List Value:=[.int .i64 x.n,.string x.s]++(x.p.list++(cB x.root++(cB x.file++[.int .i64 x.t,.bool x.k,.int .i64 x.u,.int .i64 x.r])))
def It.lits(x:It):List Lit:=[.int .i64 x.n,.string x.s.data.toList]++(x.p.lits++(Q4 x.root++(Q4 x.file++[.int .i64 x.t,.bool x.k,.int .i64 x.u,.int .i64 x.r])))
structure It.Ok (x:It):Prop where
 n:inI x.n
 s:x.s.size<=maxLen
 p:x.p.Ok
 root:x.root.length=32
 file:x.file.length=32
 t:inI x.t
 u:inI x.u
 r:inI x.r
theorem It.len{x:It}(h1:x.root.length=32)(h2:x.file.length=32):x.list.length=76:=by
 simp[It.list,P6.list_length,Zg,h1,h2]
theorem It.list_length{x:It}(h:x.Ok):x.list.length=76:=It.len h.root h.file
theorem It.list_one(x:It):∀ u∈x.list,u.oneCell'=true:=by
 intro u hu
 simp only[It.list,List.mem_append,List.mem_cons,List.not_mem_nil,or_false] at hu
 rcases hu with (rfl|rfl)|hu|hu|hu|rfl|rfl|rfl|rfl
 ·rfl
 ·rfl
 ·exact P6.list_one _ u hu
 ·exact ZQ _ u hu
 ·exact ZQ _ u hu
 ·rfl
 ·rfl
 ·rfl
 ·rfl
theorem It.all_one(x:It):x.list.toArray.all (·.oneCell')=true:=Go.Proofs.YtpdhceiodgnbmaaGreatDoor.all_one x.list_one
theorem It.size{x:It}(h:x.Ok):x.list.toArray.size=76:=by rw[List.size_toArray,It.list_length h]
theorem It.parts(x:It):x.list=([.int .i64 x.n,.string x.s]++x.p.list++cB x.root++cB x.file)++[.int .i64 x.t,.bool x.k,.int .i64 x.u,.int .i64 x.r]:=by simp[It.list]
theorem It.head72{x:It}(h1:x.root.length=32)(h2:x.file.length=32):([.int .i64 x.n,.string x.s]++x.p.list++cB x.root++cB x.file:List Value).length=72:=by simp[P6.list_length,Zg,h1,h2]
theorem It.c0(x:It):x.list[0]? = some (.int .i64 x.n):=rfl
theorem It.c1(x:It):x.list[1]? = some (.string x.s):=rfl
theorem It.c3(x:It):x.list[3]? = some (.int .i64 x.p.n):=rfl
theorem It.c72{x:It}(h:x.Ok):x.list[72]? = some (.int .i64 x.t):=by
 rw[It.parts,List.getElem?_append_right (by rw[It.head72 h.root h.file];omega),It.head72 h.root h.file];rfl
theorem It.c73{x:It}(h:x.Ok):x.list[73]? = some (.bool x.k):=by
 rw[It.parts,List.getElem?_append_right (by rw[It.head72 h.root h.file];omega),It.head72 h.root h.file];rfl
theorem It.c74{x:It}(h:x.Ok):x.list[74]? = some (.int .i64 x.u):=by
 rw[It.parts,List.getElem?_append_right (by rw[It.head72 h.root h.file];omega),It.head72 h.root h.file];rfl
theorem It.c75{x:It}(h:x.Ok):x.list[75]? = some (.int .i64 x.r):=by
 rw[It.parts,List.getElem?_append_right (by rw[It.head72 h.root h.file];omega),It.head72 h.root h.file];rfl
theorem It.sub_p(x:It):(x.list.drop 2).take 6=x.p.list:=by
 have e:x.list=[.int .i64 x.n,.string x.s]++(x.p.list++(cB x.root++(cB x.file++[.int .i64 x.t,.bool x.k,.int .i64 x.u,.int .i64 x.r]))):=rfl
 rw[e]
 exact Vu rfl rfl
theorem It.sub_root{x:It}(h:x.Ok):(x.list.drop 8).take 32=cB x.root:=by
 have e:x.list=([.int .i64 x.n,.string x.s]++x.p.list)++(cB x.root++(cB x.file++[.int .i64 x.t,.bool x.k,.int .i64 x.u,.int .i64 x.r])):=by simp[It.list]
 rw[e]
 exact Vu rfl (by rw[Zg,h.root])
theorem It.sub_file{x:It}(h:x.Ok):(x.list.drop 40).take 32=cB x.file:=by
 have e:x.list=([.int .i64 x.n,.string x.s]++x.p.list++cB x.root)++(cB x.file++[.int .i64 x.t,.bool x.k,.int .i64 x.u,.int .i64 x.r]):=by simp[It.list]
 rw[e]
 exact Vu (by simp[P6.list_length,Zg,h.root]) (by rw[Zg,h.file])
structure En where
 id:Int
 o:Int
 w:Int
 i:Int
 t:Int
 v:Int
 a:Int
deriving DecidableEq
instance:Inhabited En:=⟨⟨0,0,0,0,0,0,0⟩⟩
def En.list(x:En):List Value:=[.int .i64 x.id,.int .i64 x.o,.int .i64 x.w,.int .i64 x.i,.int .i64 x.t,.int .i64 x.v,.int .i64 x.a]
def En.lits(x:En):List Lit:=[.int .i64 x.id,.int .i64 x.o,.int .i64 x.w,.int .i64 x.i,.int .i64 x.t,.int .i64 x.v,.int .i64 x.a]
def En.Ok(x:En):Prop:=inI x.id/\inI x.o/\inI x.w/\inI x.i/\inI x.t/\inI x.v/\inI x.a
theorem En.list_one(x:En):∀ u∈x.list,u.oneCell'=true:=by
 intro u hu
 simp only[En.list,List.mem_cons,List.not_mem_nil,or_false] at hu
 rcases hu with rfl|rfl|rfl|rfl|rfl|rfl|rfl<;>rfl
def RI(_:World)(_:Nat->Prop)(x:It)(cs:List Value):Prop:=cs=x.list/\x.Ok
theorem Zt:LiesOk RI 76:=⟨λh _ _=>h,λh _=>h,λh=>by rw[h.1];exact⟨It.list_length h.2,It.list_one _⟩⟩
def RE(_:World)(_:Nat->Prop)(x:En)(cs:List Value):Prop:=cs=x.list/\x.Ok
theorem Zr:LiesOk RE 7:=⟨λh _ _=>h,λh _=>h,λh=>by rw[h.1];exact⟨rfl,En.list_one _⟩⟩
theorem Wm{base:Nat}{w:World}{e:TypeId}{F:Nat->Prop}{v:Value}{xs:List It}(h:RowsOf RI e 76 base w F v xs):∃ a c,v=.slice a xs.length c/\RowAt It.list 76 w a xs/\xs.length<=c/\c<=maxLen/\(∀ x∈xs,x.Ok):=by
 obtain⟨a,c,e1,e2,e3,e4,e5⟩:=h.form
 refine⟨a,c,e1,λk hk=>?_,e3,e4,λx hx=>?_⟩
 ·obtain⟨g,c',cs,e6,⟨rfl,_⟩,h7⟩:=h.elem Zt k _ (List.getElem?_eq_getElem hk)
  rw[e1] at e6
  cases e6
  exact⟨g,0,rfl,by rw[Nat.zero_add];exact h7⟩
 ·obtain⟨k,hk,rfl⟩:=List.getElem_of_mem hx
  obtain⟨g,c',cs,e6,⟨_,h8⟩,h7⟩:=h.elem Zt k _ (List.getElem?_eq_getElem hk)
  exact h8
theorem Wi{base:Nat}{w:World}{e:TypeId}{F:Nat->Prop}{v:Value}{xs:List En}(h:RowsOf RE e 7 base w F v xs):∃ a c,v=.slice a xs.length c/\RowAt En.list 7 w a xs/\xs.length<=c/\c<=maxLen/\(∀ x∈xs,x.Ok):=by
 obtain⟨a,c,e1,e2,e3,e4,e5⟩:=h.form
 refine⟨a,c,e1,λk hk=>?_,e3,e4,λx hx=>?_⟩
 ·obtain⟨g,c',cs,e6,⟨rfl,_⟩,h7⟩:=h.elem Zr k _ (List.getElem?_eq_getElem hk)
  rw[e1] at e6
  cases e6
  exact⟨g,0,rfl,by rw[Nat.zero_add];exact h7⟩
 ·obtain⟨k,hk,rfl⟩:=List.getElem_of_mem hx
  obtain⟨g,c',cs,e6,⟨_,h8⟩,h7⟩:=h.elem Zr k _ (List.getElem?_eq_getElem hk)
  exact h8
structure St where
 its:List It
 ens:List En
structure ArgS (w:World) (v:Value) (m:St):Prop where
 form:∃ a c a' c',v=.agg #[.slice a m.its.length c,.slice a' m.ens.length c']/\RowAt It.list 76 w a m.its/\m.its.length<=c/\c<=maxLen/\RowAt En.list 7 w a' m.ens/\m.ens.length<=c'/\c'<=maxLen
 okN:∀ x∈m.its,x.Ok
 okV:∀ x∈m.ens,x.Ok
theorem ArgS.below{B:Nat}{w w':World}{v:Value}{m:St}(h:ArgS w v m)(hb:Below B w w')(hB:w.heap.size<=B):ArgS w' v m:=by
 obtain⟨⟨a,c,a',c',e,h1,h2,h3,h4,h5,h6⟩,h7,h8⟩:=h
 exact⟨⟨a,c,a',c',e,h1.below hb hB,h2,h3,h4.below hb hB,h5,h6⟩,h7,h8⟩
theorem KV:(Tryz.prog.info? 58).map (λi=>(i.zero.map (·.cells.size),i.size,i.bytes))=some (some 76,76,168):=kX
theorem Vl:(Tryz.prog.info? 66).map (λi=>(i.zero.map (·.cells.size),i.size,i.bytes))=some (some 7,7,56):=kX
theorem Vp:(Tryz.prog.info? 63).map (λi=>(i.zero.map (·.cells.size),i.size,i.bytes))=some (some 76,76,168):=kX
theorem XN:(Tryz.prog.info? 105).map (λi=>(i.zero.map (·.cells.size),i.size,i.bytes))=some (some 7,7,56):=kX
section
variable {P:Program} {ops:Array Oper} {rest:List Oper} {o:Oper} {a:Act} {w:World} {Q:Exit->Act->World->Prop}
theorem Qj{K:Act->World->Prop}(ty:TypeId)(x y:Operand)(ho:o.op=.store ty x y)(c c':Array Value)
  (hx:a.eval x=.pointer (some ⟨w.heap.size,0,none⟩)) (hy:a.eval y=.agg c') (hi:(P.info? ty).map (·.size)=some c'.size) (hs:c.size=c'.size) (h1:c'.all (·.oneCell')=true)
  (h:K (a.put o.dst undef) (w.alloc (.cells c' ty))):o.wp P a (w.alloc (.cells c ty)) K Q:=by
 unfold Oper.wp execOp
 simp only[ho,hx,hy,run_storeAt_new w ty c c' hi hs h1,Sem.run_bind,Sem.run_pure,Result.andThen_ok]
 exact h
theorem X3(hgd:o.guard=none)(ty:TypeId)(x y:Operand)(ho:o.op=.store ty x y)(c c':Array Value)
  (hx:a.eval x=.pointer (some ⟨w.heap.size,0,none⟩)) (hy:a.eval y=.agg c') (hi:(P.info? ty).map (·.size)=some c'.size) (hs:c.size=c'.size) (h1:c'.all (·.oneCell')=true)
  (h:wpList P ops Q rest (a.put o.dst undef) (w.alloc (.cells c' ty))):wpList P ops Q (o::rest) a (w.alloc (.cells c ty)):=
 wpList_plain hgd λ_ hK=>Qj ty x y ho c c' hx hy hi hs h1 (hK _ _ h)
theorem Jj{fn:Func}{p:Tmp}{ty:TypeId}(h:fn.results=#[.cell p ty])(tmps:Array Value)(w:World) :
  (results fn tmps).run P w=((asAddr (tmps.getD p undef)).run P w).andThen λa w₁=>(loadVar ty a).run P w₁:=by
 simp only[results,h]
 simp[Sem.run_bind,Result.andThen]
theorem J5{fn:Func}{R:Ending->World->Prop}{p:Tmp}{ty:TypeId}{tmps:Array Value}{c:Array Value}{n:Nat}{e:TypeId}(h:fn.results=#[.cell p ty])
  (hp:tmps.getD p undef=.pointer (some ⟨w.heap.size,0,none⟩)) (hu:P.underlying ty=some (.array n e)) (hi:(P.info? ty).map (·.size)=some c.size) (hR:R (.returned (.agg c)) (w.alloc (.cells c ty))) :
  bodyPost P fn R .ret ⟨tmps,[]⟩ (w.alloc (.cells c ty)):=by
 refine bodyPost_ret (v:=.agg c) ?_ rfl hR
 rw[Jj h,hp]
 simp[asAddr,Result.andThen,run_loadVar_new w ty c n e hu hi]
end
theorem ZM{P:Program}{fn:Func}{R:Ending->World->Prop}{p:Tmp}{ty:TypeId}{tmps:Array Value}{W:World}{b:Nat}{c:Array Value}{d:TypeDesc}(h:fn.results=#[.cell p ty])
  (hp:tmps.getD p undef=.pointer (some ⟨b,0,none⟩)) (hu:P.underlying ty=some d) (hd:(match d with | .struct _ | .array _ _=>true|_=>false)=true) (hi:(P.info? ty).map (·.size)=some c.size) (hh:W.heap[b]? = some (.cells c ty (0,0))) (hR:R (.returned (.agg c)) W) :
  bodyPost P fn R .ret ⟨tmps,[]⟩ W:=by
 refine bodyPost_ret (v:=.agg c) ?_ rfl hR
 rw[Jj h,hp]
 simp[asAddr,Result.andThen,run_loadVar_row W b ty ty c (0,0) d hh hu hd hi]
theorem Upd.setRow{b:Nat}{old cs:Array Value}{t:TypeId}{fz:Nat×Nat}{w:World}(hg:w.heap[b]? = some (.cells old t fz)):Upd b (.cells cs t fz) w (w.setRow b cs):=by
 refine⟨rfl,rfl,rfl,by simp[World.setRow],λk hk=>?_,setRow_heap w b old cs t fz hg⟩
 simp only[World.setRow,Array.getElem?_modify]
 rw[if_neg (λe=>hk e.symm)]
section
variable {P:Program} {ops:Array Oper} {rest:List Oper} {o:Oper} {a:Act} {w:World} {Q:Exit->Act->World->Prop}
theorem Zc(hgd:o.guard=none)(ty:TypeId)(x y:Operand)(ho:o.op=.store ty x y)(g:Nat)(c c':Array Value)
  (hx:a.eval x=.pointer (some ⟨g,0,none⟩)) (hy:a.eval y=.agg c') (hg:Hid (w.heap[g]? = some (.cells c ty (0,0)))) (hi:(P.info? ty).map (·.size)=some c'.size) (hs:c.size=c'.size) (h1:c'.all (·.oneCell')=true)
  (h:∀ w',Hid (Upd g (.cells c' ty (0,0)) w w')->wpList P ops Q rest (a.put o.dst undef) w'):wpList P ops Q (o::rest) a w:=by
 refine wpList_plain hgd λK hK=>?_
 have h2:=hK _ _ (h _ (Hd (Upd.setRow (cs:=c') hg.out)))
 unfold Oper.wp execOp
 simp only[ho,hx,hy,Instr.storeAt,Instr.sureAddr,Sem.run_bind,Sem.run_pure,Result.andThen_ok,run_storeVar_row w g ty ty c c' hg.out hi hs h1]
 exact h2
theorem Zs{K:Act->World->Prop}(ty:TypeId)(x y:Operand)(ho:o.op=.store ty x y)(g:Nat)(c c':Array Value)
  (hx:a.eval x=.pointer (some ⟨g,0,none⟩)) (hy:a.eval y=.agg c') (hg:Hid (w.heap[g]? = some (.cells c ty (0,0)))) (hi:(P.info? ty).map (·.size)=some c'.size) (hs:c.size=c'.size) (h1:c'.all (·.oneCell')=true)
  (h:∀ w',Hid (Upd g (.cells c' ty (0,0)) w w')->K (a.put o.dst undef) w'):o.wp P a w K Q:=by
 have h2:=h _ (Hd (Upd.setRow (cs:=c') hg.out))
 unfold Oper.wp execOp
 simp only[ho,hx,hy,Instr.storeAt,Instr.sureAddr,Sem.run_bind,Sem.run_pure,Result.andThen_ok,run_storeVar_row w g ty ty c c' hg.out hi hs h1]
 exact h2
theorem Ze(hgd:o.guard=none)(ty:TypeId)(x:Operand)(ho:o.op=.load ty x)(g:Nat)(c:Array Value)(d:TypeDesc)
  (hx:a.eval x=.pointer (some ⟨g,0,none⟩)) (hg:Hid (w.heap[g]? = some (.cells c ty (0,0)))) (hu:P.underlying ty=some d) (hd:(match d with | .struct _ | .array _ _=>true|_=>false)=true) (hi:(P.info? ty).map (·.size)=some c.size)
  (h:wpList P ops Q rest (a.put o.dst (.agg c)) w):wpList P ops Q (o::rest) a w:=by
 refine wpList_plain hgd λK hK=>?_
 have h2:=hK _ _ h
 unfold Oper.wp execOp
 simp only[ho,hx,Instr.loadAt,Instr.sureAddr,Sem.run_bind,Sem.run_pure,Result.andThen_ok,run_loadVar_row w g ty ty c (0,0) d hg.out hu hd hi]
 exact h2
end
def Qk:List (Bool×Nat)->Bool×List (Bool×Nat)
 | []=>(false,[])
 | (_,0)::s=>Qk s
 | (b,n+1)::s=>(b,(b,n)::s)
def Qq(U:Nat->Value):Nat->List (Bool×Nat)->List Value->List Value
 | _,_,[]=>[]
 | i,s,v::l=>(bif (Qk s).1 then U i else v)::Qq U (i+1) (Qk s).2 l
theorem Kn(U:Nat->Value):∀ (l:List Value) (s:List (Bool×Nat)) (i:Nat),(∀ k v,l[k]? = some v->U (i+k)=v)->Qq U i s l=l
 | [],_,_,_=>rfl
 | v::l,s,i,h=>by
  rw[Qq,Kn U l (Qk s).2 (i+1) (λk v hk=>by rw[Nat.add_assoc,Nat.add_comm 1 k];exact h (k+1) v (by simpa using hk))]
  have h0:U i=v:=h 0 v sX
  cases (Qk s).1
  ·rfl
  ·simp[h0]
theorem Hz(seg:List (Bool×Nat))(l:List Value):Qq (λi=>l.getD i undef) 0 seg l=l:=
 Kn _ l seg 0 λk v hk=>by
  rw[Nat.zero_add,List.getD_eq_getElem?_getD,hk];rfl
section
variable {P:Program} {Q:Exit->Act->World->Prop} {w:World} {c:Code}
theorem Qf(seg:List (Bool×Nat))(l:List Value)(ds:_)(R:(Nat->Value)->World->Prop)(M:(Nat->Value)->World->Nat)(h0:R (λi=>l.getD i undef) w)
  (hr:∀ U wr,R U wr->∀ K:Act->World->Prop,Hid (∀ l'' w'',Qq (λi=>l''.getD i undef) 0 seg l=l''->R (λi=>l''.getD i undef) w''->M (λi=>l''.getD i undef) w''<M U wr->K ⟨l''.toArray,ds⟩ w'')->
   ∀ l',Qq U 0 seg l=l'->c.wp P (Exit.then K Q) ⟨l'.toArray,ds⟩ wr):(Code.loop c).wp P Q ⟨l.toArray,ds⟩ w:=by
 refine wp_loop_ghost (λn a w'=>∃ U,R U w'/\M U w'=n/\a=⟨(Qq U 0 seg l).toArray,ds⟩) (M (λi=>l.getD i undef) w) ⟨_,h0,rfl,by rw[Hz]⟩ ?_
 rintro n a w' ⟨U,hR,rfl,rfl⟩
 refine hr U w' hR _ (Hd ?_) _ rfl
 intro l'' w'' he h1 h2
 exact⟨_,h2,_,h1,rfl,by rw[he]⟩
end
theorem Xc{w:World}{x:Addr}{v:Value}(h:w.cell? x=some v)(o:Obj):(w.alloc o).cell? x=some v:=
 (((Below.refl w.heap.size w).alloc nR o).cell (World.block_lt_of_cell? w _ h)).trans h
def J7(fn:Nat->Option (Nat×Nat)):Nat->Nat->List Value->Prop
 | _,_,[]=>True
 | i,o,v::vs=>fn i=some (o,v.cells.size)/\J7 fn (i+1) (o+v.cells.size) vs
theorem GY(fn:Nat->Option (Nat×Nat)):∀ (vs:List Value) (i:Nat) (pre rest:List Value),J7 fn i pre.length vs->rest.length=(vs.map (·.cells.size)).sum->
  Instr.fill fn (pre++rest).toArray ((vs.zipIdx i).map λx=>(x.2,x.1))=some (pre++vs.flatMap (·.cells.toList)).toArray
 | [],i,pre,rest,_,hr=>by
  have:rest=[]:=List.length_eq_zero_iff.1 (by simpa using hr)
  subst this
  simp[Instr.fill]
 | v::vs,i,pre,rest,hp,hr=>by
  obtain⟨h1,h2⟩:=hp
  simp only[List.map_cons,List.sum_cons] at hr
  simp only[List.zipIdx_cons,List.map_cons]
  unfold Instr.fill
  simp only[h1]
  rw[if_neg sY]
  obtain⟨g1,g2⟩:=Go.Great.foldl_set pre.length v.cells.toList 0 (pre++rest).toArray
  have hll:v.cells.toList.length=v.cells.size:=Array.length_toList ..
  generalize hl:v.cells.toList=l at*
  have e:(l.zipIdx 0).foldl (λcs (x:Value×Nat)=>cs.setIfInBounds (pre.length+x.2) x.1) (pre++rest).toArray=((pre++l)++rest.drop v.cells.size).toArray:=by
   apply Array.ext_getElem?
   intro k
   rw[g2 k]
   simp only[Nat.add_zero,List.size_toArray,List.length_append,List.getElem?_toArray]
   by_cases hk:pre.length<=k/\k<pre.length+l.length/\k<pre.length+rest.length
   ·rw[if_pos hk,List.append_assoc,List.getElem?_append_right hk.1,List.getElem?_append_left oX]
   ·rw[if_neg hk]
    by_cases hk1:k<pre.length
    ·rw[List.getElem?_append_left hk1,List.append_assoc,List.getElem?_append_left hk1]
    ·rw[List.getElem?_append_right oX,List.getElem?_append_right (by rw[List.length_append];omega),List.length_append,List.getElem?_drop]
     congr 1
     omega
  have hfold:Array.foldl (λcs (x:Value×Nat)=>cs.setIfInBounds (pre.length+x.2) x.1) (pre++rest).toArray v.cells.zipIdx=((pre++l)++rest.drop v.cells.size).toArray:=by
   rw[<-e,<-Array.foldl_toList,Array.toList_zipIdx,hl]
  rw[hfold]
  have ih:=GY fn vs (i+1) (pre++l) (rest.drop v.cells.size) (by rw[List.length_append,hll];exact h2) (by rw[List.length_drop];omega)
  rw[ih]
  simp[hl]
section
variable {P:Program}
theorem ND{t:TypeId}{fs:Array Field}{places:List (Nat×Nat)}{n:Nat}(hz:(P.info? t).map (λi=>i.zero.map (·.cells.size))=some (some n))(hu:P.underlying t=some (.struct fs))(hp:fs.toList.mapM (λf=>(P.info? f.type).map λi=>(f.offset,i.size))=some places)
  (vs:List Value) (hpl:J7 (places.toArray[·]?) 0 0 vs) (hn:(vs.map (·.cells.size)).sum=n):P.built t ((vs.zipIdx 0).map λx=>(x.2,x.1))=some (vs.flatMap (·.cells.toList)).toArray:=by
 obtain⟨it,hit,h2⟩:=Option.map_eq_some_iff.1 hz
 obtain⟨z,hz1,hz2⟩:=Option.map_eq_some_iff.1 h2
 unfold Program.built
 simp only[hit,hu,hz1,hp]
 have h:=GY (λi=>places.toArray[i]?) vs 0 [] z.cells.toList hpl (by rw[Array.length_toList,hz2,hn])
 simpa using h
theorem Y7{t e:TypeId}{size bytes:Nat}(ht:P.underlying t=some (.slice e))(hi:(P.info? e).map (λi=>(i.zero.map (·.cells.size),i.size,i.bytes))=some (some size,size,bytes))(hs:0<size)(hs2:size<=10000)(R:Array Value)(hR:R.size=size)(W:World) :
  (Instr.buildSlice t 1 #[(0,.agg R)]).run P W=.ok (.slice (some ⟨W.heap.size,0,none⟩) 1 1) (W.alloc (.cells R e)):=by
 obtain⟨ie,hie,h2⟩:=Option.map_eq_some_iff.1 hi
 simp only[Prod.mk.injEq] at h2
 obtain⟨hz,hs1,hb⟩:=h2
 obtain⟨z,hz1,hz2⟩:=Option.map_eq_some_iff.1 hz
 refine run_buildSlice W _ _ 1 _ R ie z ht hie hz1 (by rw[hs1];omega) (by rw[hs1];omega) ?_
 have h:=Go.Great.fill_whole (s:=size) hs [.agg R] ((Array.range (1*ie.size)).map (z.cells[· % z.cells.size]!)) (by simp[Value.cells,hR]) (by simp[hs1])
 simpa[hs1,Value.cells] using h
variable {ops:Array Oper} {rest:List Oper} {K:Act->World->Prop} {Q:Exit->Act->World->Prop} {o:Oper} {a:Act} {w:World}
theorem TU(t:TypeId)(ps:List (Nat×Operand))(ho:o.op=.build t ps.toArray)(vs:List (Nat×Value))(hv:(ps.map λx=>(x.1,a.eval x.2))=vs)(R:Value)(h:(Instr.build t vs.toArray).run P w=.ok R w)(hK:K (a.put o.dst R) w):o.wp P a w K Q:=by
 unfold Oper.wp execOp
 simp only[ho,Sem.run_bind,Sem.run_pure,Result.andThen_ok,List.map_toArray,hv,h]
 exact hK
theorem Zm(hgd:o.guard=none)(t:TypeId)(ps:List (Nat×Operand))(ho:o.op=.build t ps.toArray)(vs:List (Nat×Value))(hv:(ps.map λx=>(x.1,a.eval x.2))=vs)(R:Value)(h:(Instr.build t vs.toArray).run P w=.ok R w)(hK:wpList P ops Q rest (a.put o.dst R) w):wpList P ops Q (o::rest) a w:=by
 refine wpList_plain hgd λK' hK'=>?_
 exact TU t ps ho vs hv R h (hK' _ _ hK)
theorem TJ(t:TypeId)(n:Nat)(ps:List (Nat×Operand))(ho:o.op=.buildSlice t n ps.toArray)(vs:List (Nat×Value))(hv:(ps.map λx=>(x.1,a.eval x.2))=vs)(R:Value)(w':World)(h:(Instr.buildSlice t n vs.toArray).run P w=.ok R w')(hK:K (a.put o.dst R) w'):o.wp P a w K Q:=by
 unfold Oper.wp execOp
 simp only[ho,Sem.run_bind,Sem.run_pure,Result.andThen_ok,List.map_toArray,hv,h]
 exact hK
theorem Qy(hgd:o.guard=none)(t:TypeId)(n:Nat)(ps:List (Nat×Operand))(ho:o.op=.buildSlice t n ps.toArray)(vs:List (Nat×Value))(hv:(ps.map λx=>(x.1,a.eval x.2))=vs)(R:Value)(w':World)(h:(Instr.buildSlice t n vs.toArray).run P w=.ok R w')(hK:wpList P ops Q rest (a.put o.dst R) w'):wpList P ops Q (o::rest) a w:=by
 refine wpList_plain hgd λK' hK'=>?_
 exact TJ t n ps ho vs hv R w' h (hK' _ _ hK)
end
theorem Q5{w:World}{b:Nat}{C:Array Value}{t:TypeId}{fz:Nat×Nat}(hb:w.heap[b]? = some (.cells C t fz)){o n:Nat}{B:List Value}(h:(C.toList.drop o).take n=B):w.rangeAt b o B:=λj v hv=>by
 rw[Za hb]
 rw[<-h,List.getElem?_take] at hv
 split at hv
 ·rw[List.getElem?_drop,Array.getElem?_toList] at hv
  exact hv
 ·cases hv
theorem UF{α:Type}{enc:α->List Value}{size:Nat}:∀ (xs:List α),(∀ x∈xs,(enc x).length=size)->∀ (i r:Nat) (hi:i<xs.length),r<size->(xs.flatMap enc)[i*size+r]? = (enc xs[i])[r]?
 | [],_,i,r,hi,_=>absurd hi (Nat.not_lt_zero _)
 | x::xs,h,i,r,hi,hr=>by
  have hx:=h x (List.mem_cons_self ..)
  rw[List.flatMap_cons]
  cases i with
  | zero=>rw[Nat.zero_mul,Nat.zero_add,List.getElem?_append_left oX];rfl
  | succ i=>
   rw[Nat.succ_mul,List.getElem?_append_right oX,hx,show i*size+size+r-size=i*size+r by omega]
   exact UF xs (λy hy=>h y (List.mem_cons_of_mem _ hy)) i r (by simpa using hi) hr
theorem Xu{α:Type}{enc:α->List Value}{size:Nat}:∀ (xs:List α),(∀ x∈xs,(enc x).length=size)->(xs.flatMap enc).length=xs.length*size
 | [],_=>by simp
 | x::xs,h=>by
  rw[List.flatMap_cons,List.length_append,Xu xs (λy hy=>h y (List.mem_cons_of_mem _ hy)),h x (List.mem_cons_self ..),List.length_cons,Nat.succ_mul]
  omega
theorem Vx{α:Type}{enc:α->List Value}{size:Nat}{w:World}{b o:Nat}{xs:List α}(hs:0<size)(hl:∀ x∈xs,(enc x).length=size)(h:∀ k (h:k<xs.length),w.rangeAt b (o+k*size) (enc xs[k])):w.rangeAt b o (xs.flatMap enc):=λj v hv=>by
 have hj:j<xs.length*size:=by rw[<-Xu xs hl];exact(List.getElem?_eq_some_iff.1 hv).1
 have hi:j / size<xs.length:=Nat.div_lt_of_lt_mul (by rw[Nat.mul_comm];exact hj)
 have hr:j % size<size:=Nat.mod_lt _ hs
 have hd:j / size*size+j % size=j:=by rw[Nat.mul_comm];exact Nat.div_add_mod j size
 have h1:=UF xs hl (j / size) (j % size) hi hr
 rw[hd,hv] at h1
 have:=h (j / size) hi (j % size) v h1.symm
 rw[Nat.add_assoc,hd] at this
 exact this
theorem XB{α:Type}{enc:α->List Value}{R:World->(Nat->Prop)->α->List Value->Prop}{e:TypeId}{size base:Nat}{w:World}{v:Value}{xs:List α}(hR:∀ x∈xs,R w (λ_=>False) x (enc x))(h:w.ownsRow base e size v xs.length (xs.flatMap enc)):RowsOf R e size base w (λ_=>False) v xs:=by
 refine⟨⟨xs.map enc,sX,by rw[<-List.flatMap_def];exact h,λi x cs hx hc=>?_⟩,λk _ hf=>hf,λk hk=>hk.elim⟩
 rw[List.getElem?_map,hx] at hc
 cases hc
 exact hR x (List.mem_of_getElem? hx)
end Go.Proofs.YtpdhceiodgnbmaaGreatDoor
