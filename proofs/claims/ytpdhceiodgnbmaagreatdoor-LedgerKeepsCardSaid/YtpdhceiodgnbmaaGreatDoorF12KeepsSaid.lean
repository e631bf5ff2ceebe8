import Derived.Test.YtpdhceiodgnbmaaGreatDoorF11KeepsSaid
import Derived.Lib.SmallJoins
import Derived.Deep.CutRange
set_option linter.all false
set_option maxRecDepth 100000
set_option maxHeartbeats 8000000
namespace Go.Proofs.YtpdhceiodgnbmaaGreatDoor
section
open Go.RowKit
theorem Ee(R:Array Value)(i:Nat)(v:Value)(h:(R.all (·.oneCell'))=true)(hv:v.oneCell'=true):((R.setIfInBounds i v).all (·.oneCell'))=true:=by
 rw[Array.all_eq_true'] at h ⊢;intro x hx;rcases Array.mem_or_eq_of_mem_setIfInBounds hx with hx|rfl
 ·exact h x hx
 ·exact hv
theorem Gw(R:Array Value)(i:Nat)(k:IntKind)(z:Int)(h:(R.all (·.oneCell'))=true):((R.setIfInBounds i (.int k z)).all (·.oneCell'))=true:=Ee R i _ h rfl
theorem BG(R:Array Value)(hs:R.size=78)(r0:∀ h,R[0]'h=.int .i64 2)(hone:(R.all (·.oneCell'))=true)(w:World) :
  Calls Tryz.prog 89 #[.agg R] w λe w'=>e=.returned (.agg ((((((R.setIfInBounds 1 (Value.int IntKind.i64 0)).setIfInBounds 77 (Value.int IntKind.i64 0)).setIfInBounds 74 (Value.int IntKind.i64 0)).setIfInBounds 75 (Value.int IntKind.i64 0)).setIfInBounds 2 (Value.int IntKind.i64 0)).setIfInBounds 0 (Value.int IntKind.i64 0)))/\Below w.heap.size w w':=by
 obtain⟨V,hV⟩:∃ V,V=((((((R.setIfInBounds 1 (Value.int IntKind.i64 0)).setIfInBounds 77 (Value.int IntKind.i64 0)).setIfInBounds 74 (Value.int IntKind.i64 0)).setIfInBounds 75 (Value.int IntKind.i64 0)).setIfInBounds 2 (Value.int IntKind.i64 0)).setIfInBounds 0 (Value.int IntKind.i64 0)):=⟨_,rfl⟩;have mY:V.size=78:=by rw[hV];simp[hs]
 have ig:(V.all (·.oneCell'))=true:=by rw[hV];(repeat with_reducible refine Gw _ _ _ _ ?_);with_reducible exact hone
 rw[<-hV];have hld:=Hd (show ((w.alloc (Obj.cells ((((((R.setIfInBounds 1 (Value.int IntKind.i64 0)).setIfInBounds 77 (Value.int IntKind.i64 0)).setIfInBounds 74 (Value.int IntKind.i64 0)).setIfInBounds 75 (Value.int IntKind.i64 0)).setIfInBounds 2 (Value.int IntKind.i64 0)).setIfInBounds 0 (Value.int IntKind.i64 0)) 49)).alloc (Obj.cells Tryz.zeroCells49 49)).heap[w.heap.size]? = some (.cells V 49 (0,0)) from by
  rw[Z5,if_neg sX,Z5,if_pos rfl,hV])
 have hst:=Hd (show ((w.alloc (Obj.cells ((((((R.setIfInBounds 1 (Value.int IntKind.i64 0)).setIfInBounds 77 (Value.int IntKind.i64 0)).setIfInBounds 74 (Value.int IntKind.i64 0)).setIfInBounds 75 (Value.int IntKind.i64 0)).setIfInBounds 2 (Value.int IntKind.i64 0)).setIfInBounds 0 (Value.int IntKind.i64 0)) 49)).alloc (Obj.cells Tryz.zeroCells49 49)).heap[w.heap.size+1]? = some (.cells Tryz.zeroCells49 49 (0,0)) from by
  rw[Z5,if_pos sX])
 have hb:=Hd (show Below w.heap.size w ((w.alloc (Obj.cells ((((((R.setIfInBounds 1 (Value.int IntKind.i64 0)).setIfInBounds 77 (Value.int IntKind.i64 0)).setIfInBounds 74 (Value.int IntKind.i64 0)).setIfInBounds 75 (Value.int IntKind.i64 0)).setIfInBounds 2 (Value.int IntKind.i64 0)).setIfInBounds 0 (Value.int IntKind.i64 0)) 49)).alloc (Obj.cells Tryz.zeroCells49 49)) from(bR.alloc nZ _).alloc sX _);have hzc:=Tryz.underlying49;have hsz:(Tryz.prog.info? 49).map (·.size)=some V.size:=by rw[mY];kernel_rfl
 have hzz:(Tryz.zeroCells49).size=V.size:=by rw[mY];kernel_rfl
 clear mY;replace hV:=Hd hV;go_enter Tryz.func89,Tryz.ntmps89;go_wp2_with (first|with_reducible refine Ze rfl 49 (.tmp 1) rfl w.heap.size V _ rfl hld hzc rfl hsz ?_|with_reducible refine Zd rfl 49 (.tmp 2) (.tmp 26) rfl (w.heap.size+1) _ V rfl rfl hst hsz hzz ig ?_);intro w3 hU;have hb3:=Hd (hb.out.trans (hU.out.below (Nat.le_succ _)));have hr3:=Hd hU.out.here;clear hU hst hld;go_wp2_with fail;exact Z2 rfl rfl hzc rfl hsz hr3.out ⟨rfl,hb3.out⟩
theorem W7(R:Array Value)(hs:R.size=78)(r0:∀ h,R[0]'h=.int .i64 3)(hone:(R.all (·.oneCell'))=true)(w:World) :
  Calls Tryz.prog 89 #[.agg R] w λe w'=>e=.returned (.agg (((((R.setIfInBounds 1 (Value.int IntKind.i64 0)).setIfInBounds 77 (Value.int IntKind.i64 0)).setIfInBounds 76 (Value.int IntKind.i64 0)).setIfInBounds 2 (Value.int IntKind.i64 0)).setIfInBounds 0 (Value.int IntKind.i64 0)))/\Below w.heap.size w w':=by
 obtain⟨V,hV⟩:∃ V,V=(((((R.setIfInBounds 1 (Value.int IntKind.i64 0)).setIfInBounds 77 (Value.int IntKind.i64 0)).setIfInBounds 76 (Value.int IntKind.i64 0)).setIfInBounds 2 (Value.int IntKind.i64 0)).setIfInBounds 0 (Value.int IntKind.i64 0)):=⟨_,rfl⟩;have mY:V.size=78:=by rw[hV];simp[hs]
 have ig:(V.all (·.oneCell'))=true:=by rw[hV];(repeat with_reducible refine Gw _ _ _ _ ?_);with_reducible exact hone
 rw[<-hV];have hld:=Hd (show ((w.alloc (Obj.cells (((((R.setIfInBounds 1 (Value.int IntKind.i64 0)).setIfInBounds 77 (Value.int IntKind.i64 0)).setIfInBounds 76 (Value.int IntKind.i64 0)).setIfInBounds 2 (Value.int IntKind.i64 0)).setIfInBounds 0 (Value.int IntKind.i64 0)) 49)).alloc (Obj.cells Tryz.zeroCells49 49)).heap[w.heap.size]? = some (.cells V 49 (0,0)) from by
  rw[Z5,if_neg sX,Z5,if_pos rfl,hV])
 have hst:=Hd (show ((w.alloc (Obj.cells (((((R.setIfInBounds 1 (Value.int IntKind.i64 0)).setIfInBounds 77 (Value.int IntKind.i64 0)).setIfInBounds 76 (Value.int IntKind.i64 0)).setIfInBounds 2 (Value.int IntKind.i64 0)).setIfInBounds 0 (Value.int IntKind.i64 0)) 49)).alloc (Obj.cells Tryz.zeroCells49 49)).heap[w.heap.size+1]? = some (.cells Tryz.zeroCells49 49 (0,0)) from by
  rw[Z5,if_pos sX])
 have hb:=Hd (show Below w.heap.size w ((w.alloc (Obj.cells (((((R.setIfInBounds 1 (Value.int IntKind.i64 0)).setIfInBounds 77 (Value.int IntKind.i64 0)).setIfInBounds 76 (Value.int IntKind.i64 0)).setIfInBounds 2 (Value.int IntKind.i64 0)).setIfInBounds 0 (Value.int IntKind.i64 0)) 49)).alloc (Obj.cells Tryz.zeroCells49 49)) from(bR.alloc nZ _).alloc sX _);have hzc:=Tryz.underlying49;have hsz:(Tryz.prog.info? 49).map (·.size)=some V.size:=by rw[mY];kernel_rfl
 have hzz:(Tryz.zeroCells49).size=V.size:=by rw[mY];kernel_rfl
 clear mY;replace hV:=Hd hV;go_enter Tryz.func89,Tryz.ntmps89;go_wp2_with (first|with_reducible refine Ze rfl 49 (.tmp 1) rfl w.heap.size V _ rfl hld hzc rfl hsz ?_|with_reducible refine Zd rfl 49 (.tmp 2) (.tmp 26) rfl (w.heap.size+1) _ V rfl rfl hst hsz hzz ig ?_);intro w3 hU;have hb3:=Hd (hb.out.trans (hU.out.below (Nat.le_succ _)));have hr3:=Hd hU.out.here;clear hU hst hld;go_wp2_with fail;exact Z2 rfl rfl hzc rfl hsz hr3.out ⟨rfl,hb3.out⟩
theorem Pj(R:Array Value)(k:Int)(h1:k≠1)(h2:k≠2)(h3:k≠3)(hs:R.size=78)(r0:∀ h,R[0]'h=.int .i64 k)(hone:(R.all (·.oneCell'))=true)(w:World) :
  Calls Tryz.prog 89 #[.agg R] w λe w'=>e=.returned (.agg (((R.setIfInBounds 1 (Value.int IntKind.i64 0)).setIfInBounds 77 (Value.int IntKind.i64 0)).setIfInBounds 0 (Value.int IntKind.i64 0)))/\Below w.heap.size w w':=by
 have e1:(k==1)=false:=by simpa using h1
 have e2:(k==2)=false:=by simpa using h2
 have e3:(k==3)=false:=by simpa using h3
 clear h1 h2 h3;obtain⟨V,hV⟩:∃ V,V=(((R.setIfInBounds 1 (Value.int IntKind.i64 0)).setIfInBounds 77 (Value.int IntKind.i64 0)).setIfInBounds 0 (Value.int IntKind.i64 0)):=⟨_,rfl⟩;have mY:V.size=78:=by rw[hV];simp[hs]
 have ig:(V.all (·.oneCell'))=true:=by rw[hV];(repeat with_reducible refine Gw _ _ _ _ ?_);with_reducible exact hone
 rw[<-hV];have hld:=Hd (show ((w.alloc (Obj.cells (((R.setIfInBounds 1 (Value.int IntKind.i64 0)).setIfInBounds 77 (Value.int IntKind.i64 0)).setIfInBounds 0 (Value.int IntKind.i64 0)) 49)).alloc (Obj.cells Tryz.zeroCells49 49)).heap[w.heap.size]? = some (.cells V 49 (0,0)) from by
  rw[Z5,if_neg sX,Z5,if_pos rfl,hV])
 have hst:=Hd (show ((w.alloc (Obj.cells (((R.setIfInBounds 1 (Value.int IntKind.i64 0)).setIfInBounds 77 (Value.int IntKind.i64 0)).setIfInBounds 0 (Value.int IntKind.i64 0)) 49)).alloc (Obj.cells Tryz.zeroCells49 49)).heap[w.heap.size+1]? = some (.cells Tryz.zeroCells49 49 (0,0)) from by
  rw[Z5,if_pos sX])
 have hb:=Hd (show Below w.heap.size w ((w.alloc (Obj.cells (((R.setIfInBounds 1 (Value.int IntKind.i64 0)).setIfInBounds 77 (Value.int IntKind.i64 0)).setIfInBounds 0 (Value.int IntKind.i64 0)) 49)).alloc (Obj.cells Tryz.zeroCells49 49)) from(bR.alloc nZ _).alloc sX _);have hzc:=Tryz.underlying49;have hsz:(Tryz.prog.info? 49).map (·.size)=some V.size:=by rw[mY];kernel_rfl
 have hzz:(Tryz.zeroCells49).size=V.size:=by rw[mY];kernel_rfl
 clear mY;replace hV:=Hd hV;go_enter Tryz.func89,Tryz.ntmps89;go_wp2_with (first|with_reducible refine Ze rfl 49 (.tmp 1) rfl w.heap.size V _ rfl hld hzc rfl hsz ?_|with_reducible refine Zd rfl 49 (.tmp 2) (.tmp 26) rfl (w.heap.size+1) _ V rfl rfl hst hsz hzz ig ?_);intro w3 hU;have hb3:=Hd (hb.out.trans (hU.out.below (Nat.le_succ _)));have hr3:=Hd hU.out.here;clear hU hst hld;go_wp2_with fail;exact Z2 rfl rfl hzc rfl hsz hr3.out ⟨rfl,hb3.out⟩
def Q8(C:Array Value)(o:Nat)(vs:List Value):Array Value:=(C.toList.take o++(vs++C.toList.drop (o+vs.length))).toArray
theorem Nm(C:Array Value)(o:Nat)(v:Value)(r:List Value)(h:o<C.size):Q8 (C.setIfInBounds o v) (o+1) r=Q8 C o (v::r):=by
 unfold Q8;congr 1;rw[Array.toList_setIfInBounds,List.length_cons];have h':o<C.toList.length:=by simpa using h
 have e1:(C.toList.set o v).take (o+1)=C.toList.take o++[v]:=by
  rw[List.take_set,List.take_succ_eq_append_getElem h',List.set_append];have:(C.toList.take o).length=o:=bf;simp[this]
 have e2:(C.toList.set o v).drop (o+1+r.length)=C.toList.drop (o+(r.length+1)):=by
  rw[List.drop_set_of_lt aB];congr 1;omega
 rw[e1,e2];simp
theorem Md(C:Array Value)(o:Nat):Q8 C o []=C:=by simp[Q8]
theorem ag.setCells{b:Nat}{t:TypeId}{fz:Nat×Nat}{w:World}:∀ (vs:List Value) (o:Nat) (C:Array Value) (w':World),ag b (.cells C t fz) w w'->o+vs.length<=C.size->ag b (.cells (Q8 C o vs) t fz) w (w'.setCells b o vs)
 | [],o,C,w',h,_=>by rw[Md];exact h
 | v::r,o,C,w',h,hl=>by
  rw[List.length_cons] at hl;rw[World.setCells,<-Nm C o v r aB];exact ag.setCells r (o+1) _ _ (h.setCell v) (by rw[Array.size_setIfInBounds];omega)
theorem Uu{w:World}{b:Nat}{C:Array Value}{t:TypeId}(h:w.heap[b]? = some (.cells C t (0,0)))(o n:Nat)(hn:o+n<=C.size):w.there b o n:=λj hj=>by
 refine⟨?_,Zg h _⟩;rw[Za h,Array.getElem?_eq_getElem aB];rfl
section
variable {P:Program} {ops:Array Oper} {rest:List Oper} {o:Oper} {a:Act} {w:World} {Q:Exit->Act->World->Prop}
theorem Qg(hgd:o.guard=none)(ty T:TypeId)(x y:Operand)(ho:o.op=.store ty x y)(g off:Nat)(C c':Array Value)
  (hx:a.eval x=.pointer (some ⟨g,off,none⟩)) (hy:a.eval y=.agg c') (hg:Hid (w.heap[g]? = some (.cells C T (0,0)))) (hi:(P.info? ty).map (·.size)=some c'.size) (hs:off+c'.size<=C.size) (h1:c'.all (·.oneCell')=true)
  (h:∀ w',Hid (ag g (.cells (Q8 C off c'.toList) T (0,0)) w w')->wpList P ops Q rest (a.put o.dst undef) w'):wpList P ops Q (o::rest) a w:=
 wpList_store_mid hgd ty x y ho g off c' hx hy (Uu hg.out off c'.size hs) hi h1 (h _ (Hd (ag.setCells c'.toList off C w (ag.refl hg.out) (by simpa using hs))))
end
open Go.RowKit Go.ChangeShapes Go.WideShapes
open Go.RowKit Go.ChangeShapes Go.WideShapes Go.Deep
section
variable {H:Type} {enc:TypeId×Value->H} {P:Program} {w:World} {base:Nat} {spare:Nat->Bool} {held:Bool}
theorem Fi{z:Int}(h:(Lit.int .u64 z).wf=true):z=(z.toNat:Int)/\z.toNat<18446744073709551616:=by
 have hx:0<=z/\z<=18446744073709551615:=by simpa[Lit.wf,IntKind.min,IntKind.max,IntKind.signed,IntKind.bits] using h
 omega
end
structure Rc where
 kind:Int
 obj:Int
 id:Int
 name:ByteArray
 p:P6
 root:List UInt8
 file:List UInt8
 way:Int
 index:Int
 verdict:Int
 tick:Int
deriving DecidableEq
def z32:List UInt8:=List.replicate 32 0
def P6.zero:P6:=⟨0,0,0,0,0,0⟩
def Rc.zero:Rc:=⟨0,0,0,⟨#[]⟩,P6.zero,z32,z32,0,0,0,0⟩
def Rc.list(x:Rc):List Value:=[.int .i64 x.kind,.int .i64 x.obj,.int .i64 x.id,.string x.name]++(x.p.list++(cB x.root++(cB x.file++[.int .i64 x.way,.int .i64 x.index,.int .i64 x.verdict,.int .i64 x.tick])))
def Rc.lits(x:Rc):List Lit:=[.int .i64 x.kind,.int .i64 x.obj,.int .i64 x.id,.string x.name.data.toList]++(x.p.lits++(QV x.root++(QV x.file++[.int .i64 x.way,.int .i64 x.index,.int .i64 x.verdict,.int .i64 x.tick])))
structure Rc.Ok (x:Rc):Prop where
 kind:cO x.kind
 obj:cO x.obj
 id:cO x.id
 name:x.name.size<=maxLen
 p:x.p.Ok
 root:x.root.length=32
 file:x.file.length=32
 way:cO x.way
 index:cO x.index
 verdict:cO x.verdict
 tick:cO x.tick
theorem Rc.zero_ok:Rc.zero.Ok:=⟨dX,dX,dX,dX,⟨dX,dX,dX,dX,dX,dX⟩,dX,dX,dX,dX,dX,dX⟩
theorem P6.len(p:P6):p.list.length=6:=rfl
theorem Rc.len{x:Rc}(h1:x.root.length=32)(h2:x.file.length=32):x.list.length=78:=by
 simp[Rc.list,P6.len,Zc,h1,h2]
theorem P6.one(p:P6):∀ u∈p.list,u.oneCell'=true:=by
 intro u hu;simp only[P6.list,List.mem_cons,List.not_mem_nil,or_false] at hu;rcases hu with rfl|rfl|rfl|rfl|rfl|rfl<;>rfl
theorem Rc.one(x:Rc):∀ u∈x.list,u.oneCell'=true:=by
 intro u hu;simp only[Rc.list,List.mem_append,List.mem_cons,List.not_mem_nil,or_false] at hu;rcases hu with (rfl|rfl|rfl|rfl)|hu|hu|hu|(rfl|rfl|rfl|rfl);all_goals first|rfl|exact P6.one _ u hu|exact Zw _ u hu
theorem Vj{l:List Value}(h:∀ u∈l,u.oneCell'=true):l.toArray.all (·.oneCell')=true:=by
 rw[Array.all_eq_true'];intro u hu;exact h u (by simpa using hu)
theorem Rc.all_one(x:Rc):x.list.toArray.all (·.oneCell')=true:=Vj x.one
theorem Rc.parts(x:Rc):x.list=([.int .i64 x.kind,.int .i64 x.obj,.int .i64 x.id,.string x.name]++x.p.list++cB x.root++cB x.file)++[.int .i64 x.way,.int .i64 x.index,.int .i64 x.verdict,.int .i64 x.tick]:=by simp[Rc.list]
theorem Rc.head74{x:Rc}(h1:x.root.length=32)(h2:x.file.length=32):([.int .i64 x.kind,.int .i64 x.obj,.int .i64 x.id,.string x.name]++x.p.list++cB x.root++cB x.file:List Value).length=74:=by simp[P6.len,Zc,h1,h2]
theorem Rc.c0(x:Rc):x.list[0]? = some (.int .i64 x.kind):=rfl
theorem Rc.c1(x:Rc):x.list[1]? = some (.int .i64 x.obj):=rfl
theorem Rc.c2(x:Rc):x.list[2]? = some (.int .i64 x.id):=rfl
theorem Rc.c3(x:Rc):x.list[3]? = some (.string x.name):=rfl
theorem Rc.c74{x:Rc}(h1:x.root.length=32)(h2:x.file.length=32):x.list[74]? = some (.int .i64 x.way):=by
 rw[Rc.parts,List.getElem?_append_right (by rw[Rc.head74 h1 h2];decide),Rc.head74 h1 h2];rfl
theorem Rc.c75{x:Rc}(h1:x.root.length=32)(h2:x.file.length=32):x.list[75]? = some (.int .i64 x.index):=by
 rw[Rc.parts,List.getElem?_append_right (by rw[Rc.head74 h1 h2];decide),Rc.head74 h1 h2];rfl
theorem Rc.c76{x:Rc}(h1:x.root.length=32)(h2:x.file.length=32):x.list[76]? = some (.int .i64 x.verdict):=by
 rw[Rc.parts,List.getElem?_append_right (by rw[Rc.head74 h1 h2];decide),Rc.head74 h1 h2];rfl
theorem Rc.c77{x:Rc}(h1:x.root.length=32)(h2:x.file.length=32):x.list[77]? = some (.int .i64 x.tick):=by
 rw[Rc.parts,List.getElem?_append_right (by rw[Rc.head74 h1 h2];decide),Rc.head74 h1 h2];rfl
theorem Rc.sub_p(x:Rc):(x.list.drop 4).take 6=x.p.list:=Ji rfl rfl
theorem Rc.sub_root{x:Rc}(h1:x.root.length=32):(x.list.drop 10).take 32=cB x.root:=by
 have e:x.list=([.int .i64 x.kind,.int .i64 x.obj,.int .i64 x.id,.string x.name]++x.p.list)++(cB x.root++(cB x.file++[.int .i64 x.way,.int .i64 x.index,.int .i64 x.verdict,.int .i64 x.tick])):=by simp[Rc.list]
 rw[e];exact Ji rfl (by rw[Zc,h1])
theorem Rc.sub_file{x:Rc}(h1:x.root.length=32)(h2:x.file.length=32):(x.list.drop 42).take 32=cB x.file:=by
 have e:x.list=([.int .i64 x.kind,.int .i64 x.obj,.int .i64 x.id,.string x.name]++x.p.list++cB x.root)++(cB x.file++[.int .i64 x.way,.int .i64 x.index,.int .i64 x.verdict,.int .i64 x.tick]):=by simp[Rc.list]
 rw[e];exact Ji (by simp[P6.len,Zc,h1]) (by rw[Zc,h2])
theorem Rc.set0(x:Rc)(n:Int):x.list.toArray.setIfInBounds 0 (.int .i64 n)=({ x with kind:=n }:Rc).list.toArray:=by simp[Rc.list]
theorem Rc.set1(x:Rc)(n:Int):x.list.toArray.setIfInBounds 1 (.int .i64 n)=({ x with obj:=n }:Rc).list.toArray:=by simp[Rc.list]
theorem Rc.set2(x:Rc)(n:Int):x.list.toArray.setIfInBounds 2 (.int .i64 n)=({ x with id:=n }:Rc).list.toArray:=by simp[Rc.list]
theorem Rc.set3(x:Rc)(s:ByteArray):x.list.toArray.setIfInBounds 3 (.string s)=({ x with name:=s }:Rc).list.toArray:=by simp[Rc.list]
theorem Vb{A B:List Value}{n k:Nat}(h:A.length=n)(u:Value):((A++B).toArray.setIfInBounds (n+k) u)=(A++B.set k u).toArray:=by
 rw[List.setIfInBounds_toArray,List.set_append_right _ _ aB,h,Nat.add_sub_cancel_left]
theorem Rc.set74{x:Rc}(h1:x.root.length=32)(h2:x.file.length=32)(n:Int):x.list.toArray.setIfInBounds 74 (.int .i64 n)=({ x with way:=n }:Rc).list.toArray:=by
 rw[Rc.parts,Rc.parts,show (74:Nat)=74+0 from rfl,Vb (Rc.head74 h1 h2)];rfl
theorem Rc.set75{x:Rc}(h1:x.root.length=32)(h2:x.file.length=32)(n:Int):x.list.toArray.setIfInBounds 75 (.int .i64 n)=({ x with index:=n }:Rc).list.toArray:=by
 rw[Rc.parts,Rc.parts,show (75:Nat)=74+1 from rfl,Vb (Rc.head74 h1 h2)];rfl
theorem Rc.set76{x:Rc}(h1:x.root.length=32)(h2:x.file.length=32)(n:Int):x.list.toArray.setIfInBounds 76 (.int .i64 n)=({ x with verdict:=n }:Rc).list.toArray:=by
 rw[Rc.parts,Rc.parts,show (76:Nat)=74+2 from rfl,Vb (Rc.head74 h1 h2)];rfl
theorem Rc.set77{x:Rc}(h1:x.root.length=32)(h2:x.file.length=32)(n:Int):x.list.toArray.setIfInBounds 77 (.int .i64 n)=({ x with tick:=n }:Rc).list.toArray:=by
 rw[Rc.parts,Rc.parts,show (77:Nat)=74+3 from rfl,Vb (Rc.head74 h1 h2)];rfl
theorem Ky{A B C D:List Value}{n:Nat}(h:A.length=n)(hb:B.length=D.length):Q8 (A++(B++C)).toArray n D=(A++(D++C)).toArray:=by
 unfold Q8;subst h;rw[List.toList_toArray,List.take_left,<-hb,<-List.drop_drop,List.drop_left,List.drop_left]
theorem Rc.patch_p(x:Rc)(p:P6):Q8 x.list.toArray 4 p.list=({ x with p:=p }:Rc).list.toArray:=Ky rfl rfl
theorem Rc.patch_root{x:Rc}(h1:x.root.length=32){r:List UInt8}(hr:r.length=32):Q8 x.list.toArray 10 (cB r)=({ x with root:=r }:Rc).list.toArray:=by
 have e:∀ x:Rc,x.list=([.int .i64 x.kind,.int .i64 x.obj,.int .i64 x.id,.string x.name]++x.p.list)++(cB x.root++(cB x.file++[.int .i64 x.way,.int .i64 x.index,.int .i64 x.verdict,.int .i64 x.tick])):=λx=>by simp[Rc.list]
 rw[e x,e];exact Ky (n:=10) rfl (by rw[Zc,Zc,h1,hr])
theorem Rc.patch_file{x:Rc}(h1:x.root.length=32)(h2:x.file.length=32){r:List UInt8}(hr:r.length=32):Q8 x.list.toArray 42 (cB r)=({ x with file:=r }:Rc).list.toArray:=by
 have e:∀ x:Rc,x.list=([.int .i64 x.kind,.int .i64 x.obj,.int .i64 x.id,.string x.name]++x.p.list++cB x.root)++(cB x.file++[.int .i64 x.way,.int .i64 x.index,.int .i64 x.verdict,.int .i64 x.tick]):=λx=>by simp[Rc.list]
 rw[e x,e];exact Ky (n:=42) (by simp[P6.len,Zc,h1]) (by rw[Zc,Zc,h2,hr])
theorem VL{a b:ByteArray}(h:a.data.toList=b.data.toList):a=b:=by
 cases a;cases b;simp only[ByteArray.mk.injEq];exact Array.ext' h
theorem Rc.lits_inj{x y:Rc}(hx:x.root.length=32)(hx2:x.file.length=32)(hy:y.root.length=32)(hy2:y.file.length=32)(h:x.lits=y.lits):x=y:=by
 unfold Rc.lits at h;obtain⟨h1,h2⟩:=List.append_inj h rfl;obtain⟨h3,h4⟩:=List.append_inj h2 rfl;obtain⟨h5,h6⟩:=List.append_inj h4 (by simp[QV,hx,hy]);obtain⟨h7,h8⟩:=List.append_inj h6 (by simp[QV,hx2,hy2]);simp only[List.cons.injEq,Lit.string.injEq,Lit.int.injEq,true_and,and_true] at h1 h8;obtain⟨a1,a2,a3,a4⟩:=h1;obtain⟨b1,b2,b3,b4⟩:=h8;have e1:=VL a4;have e2:=P6.lits_inj h3;have e3:=JL h5;have e4:=JL h7;cases x;cases y;simp only at*;subst e1 e2 e3 e4 a1 a2 a3 b1 b2 b3 b4;rfl
section
variable {P:Program}
theorem Wa{t ts tp td i64:TypeId}{fs:Array Field}(ht:P.underlying t=some (.struct fs))(hq:fs.toList.map (λf=>(f.type,f.offset))=[(i64,0),(i64,1),(i64,2),(ts,3),(tp,4),(td,10),(td,42),(i64,74),(i64,75),(i64,76),(i64,77)])(hn:fs.all (·.name != "_")=true)
  (hi:P.underlying i64=some (.int .i64)) (hs:P.underlying ts=some .string) (hp:∀ p:P6,p.Ok->∀ d,P.keyLits (d+2) tp p.list=some p.lits) (hd:∀ f:List UInt8,f.length=32->∀ d,P.keyLits (d+2) td (cB f)=some (QV f))
  (ci:P.cellsOf i64=1) (cs:P.cellsOf ts=1) (cp:P.cellsOf tp=6) (cd:P.cellsOf td=32) (ct:P.cellsOf t=78) (x:Rc) (h:x.Ok) (d:Nat):P.keyLits (d+3) t x.list=some x.lits:=by
 have s1:∀ {o:Nat} {v:Value},x.list[o]? = some v->(x.list.drop o).take 1=[v]:=fun {o v} hv=>by
  have hlt:=(List.getElem?_eq_some_iff.1 hv).1;rw[List.drop_eq_getElem_cons hlt];rw[List.getElem?_eq_getElem hlt,Option.some.injEq] at hv;rw[hv];rfl
 have e1:∀ n:Int,cO n->P.keyLits (d+2) i64 [.int .i64 n]=some [.int .i64 n]:=λn h=>XB hi (GF h);have e:=Vd (d:=d+2) (cs:=x.list) (ls:=[[.int .i64 x.kind],[.int .i64 x.obj],[.int .i64 x.id],[.string x.name.data.toList],x.p.lits,QV x.root,QV x.file,[.int .i64 x.way],[.int .i64 x.index],[.int .i64 x.verdict],[.int .i64 x.tick]]) ht hq hn (by rw[ct,Rc.len h.root h.file]) (by
  simp only[List.mapM_cons,List.mapM_nil,ci,cs,cp,cd,s1 x.c0,s1 x.c1,s1 x.c2,s1 x.c3,s1 (Rc.c74 h.root h.file),s1 (Rc.c75 h.root h.file),s1 (Rc.c76 h.root h.file),s1 (Rc.c77 h.root h.file),Rc.sub_p,Rc.sub_root h.root,Rc.sub_file h.root h.file,hp x.p h.p d,hd x.root h.root d,hd x.file h.file d,KN hs h.name,e1 _ h.kind,e1 _ h.obj,e1 _ h.id,e1 _ h.way,e1 _ h.index,e1 _ h.verdict,e1 _ h.tick,Option.bind_eq_bind,Option.bind_some,Option.pure_def])
 rw[e];simp[Rc.lits]
end
theorem Hu(p:P6)(h:p.Ok)(d:Nat):Tryz.prog.keyLits (d+2) 45 p.list=some p.lits:=Rd Tryz.underlying45 rfl kX Tryz.underlying3 kX kX p h d
theorem R9(f:List UInt8)(h:f.length=32)(d:Nat):Tryz.prog.keyLits (d+2) 47 (cB f)=some (QV f):=UP Tryz.underlying47 Tryz.underlying5 kX kX f h
theorem MW(f:List UInt8)(h:f.length=32)(d:Nat):Tryz.prog.keyLits (d+2) 46 (cB f)=some (QV f):=UP Tryz.underlying46 Tryz.underlying5 kX kX f h
theorem Ho(x:Rc)(h:x.Ok)(d:Nat):Tryz.prog.keyLits (d+3) 49 x.list=some x.lits:=Wa Tryz.underlying49 rfl kX Tryz.underlying3 Tryz.underlying9 Hu R9 kX kX kX kX kX x h d
theorem NS(x y:Rc)(hx:x.Ok)(hy:y.Ok)(w:World):(binOp .neq 49 (.agg x.list.toArray) (.agg y.list.toArray)).run Tryz.prog w=.ok (.bool (!decide (x=y))) w/\(binOp .eql 49 (.agg x.list.toArray) (.agg y.list.toArray)).run Tryz.prog w=.ok (.bool (decide (x=y))) w:=by
 obtain⟨r,h1,h2,h3⟩:=K7 (P:=Tryz.prog) (w:=w) (xs:=x.list.toArray) (ys:=y.list.toArray) (t:=49) kX (Ho x hx 3) (Ho y hy 3) (Y6 (xs:=x.list.toArray) Tryz.underlying49 rfl (by rw[List.size_toArray,Rc.len hx.root hx.file];kernel_rfl)) (Y6 (xs:=y.list.toArray) Tryz.underlying49 rfl (by rw[List.size_toArray,Rc.len hy.root hy.file];kernel_rfl));have:r=decide (x=y):=by rw[Bool.eq_iff_iff,h1,decide_eq_true_iff];exact⟨Rc.lits_inj hx.root hx.file hy.root hy.file,λe=>by rw[e]⟩
 rw[h2,h3,this];exact⟨rfl,rfl⟩
theorem Cr(x y:List UInt8)(hx:x.length=32)(hy:y.length=32)(w:World):(binOp .neq 46 (.agg (cB x).toArray) (.agg (cB y).toArray)).run Tryz.prog w=.ok (.bool (!decide (x=y))) w:=by
 obtain⟨r,h1,h2,h3⟩:=K7 (P:=Tryz.prog) (w:=w) (xs:=(cB x).toArray) (ys:=(cB y).toArray) (t:=46) kX (MW x hx 4) (MW y hy 4) (Y6 (xs:=(cB x).toArray) Tryz.underlying46 rfl (by rw[List.size_toArray,Zc,hx];kernel_rfl)) (Y6 (xs:=(cB y).toArray) Tryz.underlying46 rfl (by rw[List.size_toArray,Zc,hy];kernel_rfl));have:r=decide (x=y):=by rw[Bool.eq_iff_iff,h1,decide_eq_true_iff];exact⟨JL,λe=>by rw[e]⟩
 rw[h3,this]
theorem Rc.zeroG:Tryz.zeroCells49=Rc.zero.list.toArray:=kX
def AA:Array Value:=#[Value.int IntKind.i64 0,Value.int IntKind.i64 0,Value.int IntKind.i64 0,Value.int IntKind.i64 0,Value.int IntKind.i64 0,Value.int IntKind.i64 0]
def lZ:Array Value:=#[Value.int IntKind.u8 0,Value.int IntKind.u8 0,Value.int IntKind.u8 0,Value.int IntKind.u8 0,Value.int IntKind.u8 0,Value.int IntKind.u8 0,Value.int IntKind.u8 0,Value.int IntKind.u8 0,Value.int IntKind.u8 0,Value.int IntKind.u8 0,Value.int IntKind.u8 0,Value.int IntKind.u8 0,Value.int IntKind.u8 0,Value.int IntKind.u8 0,Value.int IntKind.u8 0,Value.int IntKind.u8 0,Value.int IntKind.u8 0,Value.int IntKind.u8 0,Value.int IntKind.u8 0,Value.int IntKind.u8 0,Value.int IntKind.u8 0,Value.int IntKind.u8 0,Value.int IntKind.u8 0,Value.int IntKind.u8 0,Value.int IntKind.u8 0,Value.int IntKind.u8 0,Value.int IntKind.u8 0,Value.int IntKind.u8 0,Value.int IntKind.u8 0,Value.int IntKind.u8 0,Value.int IntKind.u8 0,Value.int IntKind.u8 0]
theorem CY:AA.toList=P6.zero.list:=rfl
theorem RC:lZ.toList=cB z32:=by rfl
def Rc.bare(x:Rc):Rc:=
 if x.kind=1 then { x with obj:=0,tick:=0,name:=⟨#[]⟩,p:=P6.zero,root:=z32,file:=z32,kind:=0 }
 else if x.kind=2 then { x with obj:=0,tick:=0,way:=0,index:=0,id:=0,kind:=0 }
 else if x.kind=3 then { x with obj:=0,tick:=0,verdict:=0,id:=0,kind:=0 }
 else { x with obj:=0,tick:=0,kind:=0 }
theorem Rc.size{x:Rc}(h:x.Ok):x.list.toArray.size=78:=by rw[List.size_toArray,Rc.len h.root h.file]
theorem Rc.at0(x:Rc):∀ h,x.list.toArray[0]'h=.int .i64 x.kind:=λ_=>by simp[Rc.list]
theorem Rc.at1(x:Rc):∀ h,x.list.toArray[1]'h=.int .i64 x.obj:=λ_=>by simp[Rc.list]
theorem Rc.at2(x:Rc):∀ h,x.list.toArray[2]'h=.int .i64 x.id:=λ_=>by simp[Rc.list]
theorem Rc.at3(x:Rc):∀ h,x.list.toArray[3]'h=.string x.name:=λ_=>by simp[Rc.list]
theorem GC{l:List Value}{i:Nat}{v:Value}(h:l[i]? = some v):∀ h',l.toArray[i]'h'=v:=λh'=>by
 have h2:i<l.length:=by simpa using h'
 rw[List.getElem?_eq_getElem h2,Option.some.injEq] at h;simpa using h
theorem Rc.at74{x:Rc}(h:x.Ok):∀ h',x.list.toArray[74]'h'=.int .i64 x.way:=GC (Rc.c74 h.root h.file)
theorem Rc.at75{x:Rc}(h:x.Ok):∀ h',x.list.toArray[75]'h'=.int .i64 x.index:=GC (Rc.c75 h.root h.file)
theorem Rc.at76{x:Rc}(h:x.Ok):∀ h',x.list.toArray[76]'h'=.int .i64 x.verdict:=GC (Rc.c76 h.root h.file)
theorem Rc.at77{x:Rc}(h:x.Ok):∀ h',x.list.toArray[77]'h'=.int .i64 x.tick:=GC (Rc.c77 h.root h.file)
theorem Zu:z32.length=32:=dX
theorem BU(x:Rc)(hx:x.Ok)(hk:x.kind=1)(w:World) :
  Calls Tryz.prog 89 #[.agg x.list.toArray] w λe w'=>e=.returned (.agg (x.bare).list.toArray)/\Below w.heap.size w w':=by
 obtain⟨y,hy⟩:∃ y:Rc,y={ x with obj:=0,tick:=0,name:=⟨#[]⟩ }:=⟨_,rfl⟩;have yT:(((x.list.toArray.setIfInBounds 1 (Value.int IntKind.i64 0)).setIfInBounds 77 (Value.int IntKind.i64 0)).setIfInBounds 3 (.string ⟨#[]⟩))=y.list.toArray:=by
  rw[Rc.set1,Rc.set77 (x:={ x with obj:=0 }) hx.root hx.file,Rc.set3,hy]
 have hyr:y.root.length=32:=by rw[hy];exact hx.root
 have SK:y.file.length=32:=by rw[hy];exact hx.file
 have hC4:Q8 y.list.toArray 4 (AA).toList=({ y with p:=P6.zero }:Rc).list.toArray:=by rw[CY];exact Rc.patch_p y P6.zero
 have AB:Q8 ({ y with p:=P6.zero }:Rc).list.toArray 10 (lZ).toList=({ y with p:=P6.zero,root:=z32 }:Rc).list.toArray:=by rw[RC];exact Rc.patch_root (x:={ y with p:=P6.zero }) hyr Zu
 have hC6:Q8 ({ y with p:=P6.zero,root:=z32 }:Rc).list.toArray 42 (lZ).toList=({ y with p:=P6.zero,root:=z32,file:=z32 }:Rc).list.toArray:=by rw[RC];exact Rc.patch_file (x:={ y with p:=P6.zero,root:=z32 }) Zu SK Zu
 have hfin:(({ y with p:=P6.zero,root:=z32,file:=z32 }:Rc).list.toArray).setIfInBounds 0 (Value.int IntKind.i64 0)=(x.bare).list.toArray:=by
  rw[Rc.set0];unfold Rc.bare;rw[if_pos hk,hy]
 have hR:(x.bare).root.length=32/\(x.bare).file.length=32:=by
  unfold Rc.bare;rw[if_pos hk];exact⟨Zu,Zu⟩
 have hs:=Rc.size hx;have r0:=Rc.at0 x;rw[hk] at r0;have hs4:4+(AA).size<=y.list.toArray.size:=by rw[show y.list.toArray.size=78 from by rw[List.size_toArray,Rc.len hyr SK]];decide
 have hs5:10+(lZ).size<=({ y with p:=P6.zero }:Rc).list.toArray.size:=by rw[show ({ y with p:=P6.zero }:Rc).list.toArray.size=78 from by rw[List.size_toArray,Rc.len (x:={ y with p:=P6.zero }) hyr SK]];decide
 have hs6:42+(lZ).size<=({ y with p:=P6.zero,root:=z32 }:Rc).list.toArray.size:=by rw[show ({ y with p:=P6.zero,root:=z32 }:Rc).list.toArray.size=78 from by rw[List.size_toArray,Rc.len (x:={ y with p:=P6.zero,root:=z32 }) Zu SK]];decide
 have i4:(Tryz.prog.info? 45).map (·.size)=some (AA).size:=kX;have i5:(Tryz.prog.info? 47).map (·.size)=some (lZ).size:=kX;have o4:(AA).all (·.oneCell')=true:=kX;have o5:(lZ).all (·.oneCell')=true:=kX;generalize hR0:x.list.toArray=R at*;generalize hV4:y.list.toArray=V4 at*;generalize hV5:({ y with p:=P6.zero }:Rc).list.toArray=V5 at*;generalize hV6:({ y with p:=P6.zero,root:=z32 }:Rc).list.toArray=V6 at*;generalize hV7:({ y with p:=P6.zero,root:=z32,file:=z32 }:Rc).list.toArray=V7 at*;have mY:(x.bare).list.toArray.size=78:=by rw[List.size_toArray,Rc.len hR.1 hR.2]
 have ig:=Rc.all_one x.bare;generalize hV8:(x.bare).list.toArray=V8 at*;have hX3:Hid (((w.alloc (.cells (((R.setIfInBounds 1 (Value.int IntKind.i64 0)).setIfInBounds 77 (Value.int IntKind.i64 0)).setIfInBounds 3 (.string ⟨#[]⟩)) 49)).alloc (.cells Tryz.zeroCells49 49)).heap[w.heap.size]? = some (.cells V4 49 (0,0))):=Hd (by
  rw[Z5,if_neg sX,Z5,if_pos rfl,yT])
 have hZ3:Hid (((w.alloc (.cells (((R.setIfInBounds 1 (Value.int IntKind.i64 0)).setIfInBounds 77 (Value.int IntKind.i64 0)).setIfInBounds 3 (.string ⟨#[]⟩)) 49)).alloc (.cells Tryz.zeroCells49 49)).heap[w.heap.size+1]? = some (.cells Tryz.zeroCells49 49 (0,0))):=Hd (by
  rw[Z5,if_pos sX])
 have hb:Hid (Below w.heap.size w ((w.alloc (.cells (((R.setIfInBounds 1 (Value.int IntKind.i64 0)).setIfInBounds 77 (Value.int IntKind.i64 0)).setIfInBounds 3 (.string ⟨#[]⟩)) 49)).alloc (.cells Tryz.zeroCells49 49))):=Hd ((bR.alloc nZ _).alloc sX _);have yS:=Tryz.underlying49;have i8:(Tryz.prog.info? 49).map (·.size)=some V8.size:=by rw[mY];kernel_rfl
 have z8:(Tryz.zeroCells49).size=V8.size:=by rw[mY];kernel_rfl
 have AC:∃ u,V7[0]? = some u:=by rw[<-hV7];exact⟨_,by simp[Rc.list];rfl⟩
 have e6:Hid (Value.agg #[Value.int IntKind.i64 0,Value.int IntKind.i64 0,Value.int IntKind.i64 0,Value.int IntKind.i64 0,Value.int IntKind.i64 0,Value.int IntKind.i64 0]=.agg AA):=Hd rfl;have e32:Hid (Value.agg #[Value.int IntKind.u8 0,Value.int IntKind.u8 0,Value.int IntKind.u8 0,Value.int IntKind.u8 0,Value.int IntKind.u8 0,Value.int IntKind.u8 0,Value.int IntKind.u8 0,Value.int IntKind.u8 0,Value.int IntKind.u8 0,Value.int IntKind.u8 0,Value.int IntKind.u8 0,Value.int IntKind.u8 0,Value.int IntKind.u8 0,Value.int IntKind.u8 0,Value.int IntKind.u8 0,Value.int IntKind.u8 0,Value.int IntKind.u8 0,Value.int IntKind.u8 0,Value.int IntKind.u8 0,Value.int IntKind.u8 0,Value.int IntKind.u8 0,Value.int IntKind.u8 0,Value.int IntKind.u8 0,Value.int IntKind.u8 0,Value.int IntKind.u8 0,Value.int IntKind.u8 0,Value.int IntKind.u8 0,Value.int IntKind.u8 0,Value.int IntKind.u8 0,Value.int IntKind.u8 0,Value.int IntKind.u8 0,Value.int IntKind.u8 0]=.agg lZ):=Hd rfl;generalize AA=A6 at*;generalize lZ=A32 at*;replace hC4:=Hd hC4;replace AB:=Hd AB;replace hC6:=Hd hC6;replace hfin:=Hd hfin;replace AC:=Hd AC;clear hy hyr SK hR0 hV4 hV5 hV6 hV7 hV8 hR yT mY hk hx;go_enter Tryz.func89,Tryz.ntmps89;go_wp2_with (first
  | ((with_reducible refine wL (.store 45 _ _) ?_);(refine Qg rfl 45 49 (.tmp 13) (.tmp 9) rfl w.heap.size 4 V4 A6 rfl e6.out hX3 i4 hs4 o4 ?_);intro w4 eZ;rw[hC4.out] at eZ;have hX4:=Hd eZ.out.here)
  | ((with_reducible refine wL (.store 47 (.tmp 14) _) ?_);(refine Qg rfl 47 49 (.tmp 14) (.tmp 10) rfl w.heap.size 10 V5 A32 rfl e32.out hX4 i5 hs5 o5 ?_);intro w5 dG;rw[AB.out] at dG;have hX5:=Hd dG.out.here)
  | ((with_reducible refine wL (.store 47 (.tmp 15) _) ?_);(refine Qg rfl 47 49 (.tmp 15) (.tmp 11) rfl w.heap.size 42 V6 A32 rfl e32.out hX5 i5 hs6 o5 ?_);intro w6 dK;rw[hC6.out] at dK;have hX6:=Hd dK.out.here;have qM:=Hd ((dK.out.block _ (Nat.succ_ne_self _)).trans ((dG.out.block _ (Nat.succ_ne_self _)).trans ((eZ.out.block _ (Nat.succ_ne_self _)).trans hZ3.out)));have hb6:=Hd (((hb.out.trans (eZ.out.below nZ)).trans (dG.out.below nZ)).trans (dK.out.below nZ));obtain⟨u0,hu0⟩:=AC.out;have c60:w6.cell? ⟨w.heap.size,0,none⟩=some u0:=(by rw[Za hX6.out];exact hu0);have f60:w6.frozen? ⟨w.heap.size,0,none⟩=false:=Zg hX6.out _;have aZ:=(ag.refl hX6.out).setCell (j:=0) (Value.int IntKind.i64 0);rw[hfin.out] at aZ;replace aZ:=Hd aZ;have hX7:=Hd aZ.out.here;have AJ:=Hd ((aZ.out.block _ (Nat.succ_ne_self _)).trans qM.out);have bV:=Hd (hb6.out.trans (aZ.out.below nZ));clear hu0)
  | ((with_reducible refine wL (.load 49 (.tmp 1)) ?_);refine Ze rfl 49 (.tmp 1) rfl w.heap.size V8 _ rfl hX7 yS rfl i8 ?_)
  | ((with_reducible refine wL (.store 49 (.tmp 2) _) ?_);(refine Zd rfl 49 (.tmp 2) (.tmp 26) rfl (w.heap.size+1) _ V8 rfl rfl AJ i8 z8 ig ?_);intro w8 hU8))
 exact Z2 rfl rfl yS rfl i8 hU8.out.here ⟨rfl,bV.out.trans (hU8.out.below (Nat.le_succ _))⟩
theorem BB(x:Rc)(hx:x.Ok)(w:World):Calls Tryz.prog 89 #[.agg x.list.toArray] w λe w'=>e=.returned (.agg (x.bare).list.toArray)/\Below w.heap.size w w':=by
 by_cases h1:x.kind=1
 ·exact BU x hx h1 w
 ·by_cases h2:x.kind=2
  ·have h:=BG x.list.toArray (Rc.size hx) (by rw[<-h2];exact Rc.at0 x) (Rc.all_one x) w;rw[Rc.set1,Rc.set77 (x:={ x with obj:=0 }) hx.root hx.file,Rc.set74 (x:={ x with obj:=0,tick:=0 }) hx.root hx.file,Rc.set75 (x:={ x with obj:=0,tick:=0,way:=0 }) hx.root hx.file,Rc.set2,Rc.set0] at h;have e:x.bare={ x with obj:=0,tick:=0,way:=0,index:=0,id:=0,kind:=0 }:=by unfold Rc.bare;rw[if_neg h1,if_pos h2]
   rw[e];exact h
  ·by_cases h3:x.kind=3
   ·have h:=W7 x.list.toArray (Rc.size hx) (by rw[<-h3];exact Rc.at0 x) (Rc.all_one x) w;rw[Rc.set1,Rc.set77 (x:={ x with obj:=0 }) hx.root hx.file,Rc.set76 (x:={ x with obj:=0,tick:=0 }) hx.root hx.file,Rc.set2,Rc.set0] at h;have e:x.bare={ x with obj:=0,tick:=0,verdict:=0,id:=0,kind:=0 }:=by unfold Rc.bare;rw[if_neg h1,if_neg h2,if_pos h3]
    rw[e];exact h
   ·have h:=Pj x.list.toArray x.kind h1 h2 h3 (Rc.size hx) (Rc.at0 x) (Rc.all_one x) w;rw[Rc.set1,Rc.set77 (x:={ x with obj:=0 }) hx.root hx.file,Rc.set0] at h;have e:x.bare={ x with obj:=0,tick:=0,kind:=0 }:=by unfold Rc.bare;rw[if_neg h1,if_neg h2,if_neg h3]
    rw[e];exact h
theorem Rc.bare_ok{x:Rc}(h:x.Ok):(x.bare).Ok:=by
 obtain⟨a1,a2,a3,a4,a5,a6,a7,a8,a9,wD,a11⟩:=h;have z:cO 0:=dX;have zs:(⟨#[]⟩:ByteArray).size<=maxLen:=dX;have zp:P6.zero.Ok:=⟨dX,dX,dX,dX,dX,dX⟩;unfold Rc.bare;split
 ·exact⟨z,z,a3,zs,zp,Zu,Zu,a8,a9,wD,z⟩
 ·split
  ·exact⟨z,z,z,a4,a5,a6,a7,z,z,wD,z⟩
  ·split
   ·exact⟨z,z,z,a4,a5,a6,a7,a8,a9,z,z⟩
   ·exact⟨z,z,a3,a4,a5,a6,a7,a8,a9,wD,z⟩
def Rc.nums(x:Rc):Bool:=Ja x.kind x.obj x.id x.way x.index x.verdict x.tick
theorem TQ(x:Rc)(hx:x.Ok)(w:World):Calls Tryz.prog 86 #[.agg x.list.toArray] w λe w'=>e=.returned (.bool x.nums)/\Below w.heap.size w w':=by
 unfold Rc.nums;by_cases h2:x.kind=2
 ·have h:=TB x.list.toArray x.obj x.id x.way x.index x.verdict x.tick (Rc.size hx) (by rw[<-h2];exact Rc.at0 x) (Rc.at1 x) (Rc.at2 x) (Rc.at74 hx) (Rc.at75 hx) (Rc.at77 hx) w;rw[h2];exact h
 ·by_cases h3:x.kind=3
  ·have h:=ME x.list.toArray x.obj x.id x.way x.index x.verdict x.tick (Rc.size hx) (by rw[<-h3];exact Rc.at0 x) (Rc.at1 x) (Rc.at2 x) (Rc.at76 hx) (Rc.at77 hx) w;rw[h3];exact h
  ·exact MK x.list.toArray x.kind x.obj x.id x.way x.index x.verdict x.tick (Rc.size hx) (Rc.at0 x) (Rc.at1 x) (Rc.at77 hx) h2 h3 w
theorem Tryz.infoIntP:(Tryz.prog.info? 3).map (λi=>(i.zero,i.size,i.bytes))=some (some (.int .i64 0),1,8):=kX
def kz(base:Nat)(w:World)(v:Value)(zs:List Int):Prop:=w.ownsRow base 3 1 v zs.length (cI zs)
theorem kz.nil(base:Nat)(w:World):kz base w (.slice none 0 0) []:=⟨rfl,.inl ⟨rfl,rfl⟩⟩
theorem kz.row{base:Nat}{w:World}{v:Value}{zs:List Int}(h:kz base w v zs):∃ a c,v=.slice a zs.length c/\zs.length<=c/\c<=maxLen/\(a=none->c=0)/\ET .i64 w a zs/\∀ b o s,a=some ⟨b,o,s⟩->base<=b/\b<w.heap.size:=by
 obtain⟨a,c,rfl,h1,h2,h3,h4,_,h5⟩:=Hp h;rw[Kf] at h2;exact⟨a,c,by rw[Kf],h2,h3,h1,h4.toI,h5⟩
section
variable {w:World} {ops:Array Oper} {rest:List Oper} {o:Oper} {a:Act} {Q:Exit->Act->World->Prop}
theorem HJ(hgd:o.guard=none)(s x:Operand)(ho:o.op=.call { callee:=.builtin .append,args:=#[s,x],argTypes:=#[168,168] })
  (base:Nat) (v:Value) (bs:List Int) (hs:a.eval s=v) (hown:Hid (kz base w v bs))
  (u:Int) (hx:a.eval x=.slice (some ⟨w.heap.size,0,none⟩) 1 1) (hl:bs.length<=1000000) (hbase:base<=w.heap.size)
  (h:∀ v' w',Hid (kz base w' v' (bs++[u]))->Hid (Below base w w')->wpList Tryz.prog ops Q rest (a.put o.dst v') w') :
  wpList Tryz.prog ops Q (o::rest) a (w.alloc (.cells #[.int .i64 u] 3)):=by
 obtain⟨i0,hi,hz0,hz1,hz2⟩:=info_parts Tryz.infoIntP;refine Uz hgd s x 168 ho base 3 i0 (.int .i64 0) 8 Tryz.underlying168 hi hz0 hz1 hz2 rfl v bs.length (cI bs) hs (Hd hown.out) (.int .i64 u) hx rfl kS aB hbase ?_;intro v' w' h1 h2 _;refine h v' w' (Hd ?_) (Hd ((Below.refl base w).grown h2.out hbase (λk hk=>(World.ownsRow.lt hown.out k hk).1)));unfold kz;rw[L0,List.length_append];exact h1.out
end
def QM(n:Int):Int:=if n<=8 then 1 else (n+7) / 8
def Q3(n:Int):List Int:=if QM n<=223 then [QM n] else [223,QM n-223]
def Yq(n:Int):Int:=if QM n<=223 then QM n+32 else QM n+64
theorem Kp(n:Int)(h:0<=n/\n<=2000):1<=QM n/\QM n<=250:=by unfold QM;split<;>omega
theorem Cw(n:Int)(h:n<0\/2000<n)(z:Addr)(w:World)(hz:w.cell? ⟨7,0,none⟩=some (.iface 298 (.pointer (some z)))):Calls Tryz.prog 154 #[.int .i64 n] w λe w'=>e=.returned (.tuple #[.slice none 0 0,.iface 298 (.pointer (some z))])/\∃ n,w'=w.drewN n:=by
 rcases h with h|h;all_goals
  go_enter Tryz.func154,Tryz.ntmps154;go_wp2_with fail;go_quiet (fail);go_wp2;go_ret2;exact⟨rfl,_,rfl⟩
theorem PR(n:Int)(h:0<=n/\n<=2000)(w:World):Calls Tryz.prog 154 #[.int .i64 n] w λe w'=>∃ v,e=.returned (.tuple #[v,.nilIface])/\kz w.heap.size w' v (Q3 n)/\Below w.heap.size w w':=by
 have hL:=Kp n h;have zm:(n<=8/\QM n=1)\/(8<n/\QM n=(n+7) / 8):=by unfold QM;split<;>omega
 have hS:(QM n<=223/\Q3 n=[QM n])\/(223<QM n/\Q3 n=[223,QM n-223]):=by
  by_cases h:QM n<=223
  ·exact .inl ⟨h,by simp[Q3,h]⟩
  ·exact .inr ⟨aB,by simp[Q3,h]⟩
 have hown0:=Hd (kz.nil w.heap.size w);have hb0:=Hd (Below.refl w.heap.size w);generalize QM n=L at*;have hm:max ((n+7) / 8) 1=L:=aB;generalize Q3 n=S at*;replace hS:=Hd hS;go_enter Tryz.func154,Tryz.ntmps154;go_wp2_with fail
 case' inl=>rw[show Value.int IntKind.i64 1=Value.int IntKind.i64 L from by rw[show L=1 from by omega]]
 case' inr=>rw[show (n+8-1) / 8=L from by omega]
 all_goals
  clear zm hm;go_loopw [5,4] (λv j wr=>∃ (zs:List Int) (l:Int),j=.int .i64 l/\kz w.heap.size wr v zs/\Below w.heap.size w wr/\((zs=[]/\l=L)\/(l=0/\zs=S)\/(l=L-223/\223<L/\zs=[223])))
   (λ_ j _=>(intOf j).toNat)
  case atStart=>exact⟨[],L,rfl,hown0.out,hb0.out,.inl ⟨rfl,rfl⟩⟩
  case round=>
   clear hown0 hb0;obtain⟨zs,l,rfl,hown,hbel,qN⟩:=hrel;have hsz:=hbel.size;have hlb:0<=l/\l<=250/\zs.length<=2:=by
    rcases qN with ⟨rfl,rfl⟩|⟨rfl,rfl⟩|⟨rfl,_,rfl⟩
    ·exact⟨aB,aB,sX⟩
    ·refine⟨aB,aB,?_⟩;rcases hS.out with ⟨_,rfl⟩|⟨_,rfl⟩<;>simp
    ·exact⟨aB,aB,sX⟩
   have hnext:0<l->(l<=223->zs++[l]=S)/\(223<l->zs++[223]=[223]/\l=L):=by
    intro h0;rcases qN with ⟨rfl,rfl⟩|⟨rfl,rfl⟩|⟨rfl,h2,rfl⟩
    ·refine⟨λh1=>?_,λh1=>⟨rfl,rfl⟩⟩;rcases hS.out with ⟨_,rfl⟩|⟨_,rfl⟩
     ·rfl
     ·omega
    ·omega
    ·refine⟨λh1=>?_,λh1=>by omega⟩;rcases hS.out with ⟨_,rfl⟩|⟨_,rfl⟩
     ·omega
     ·rfl
   replace hbel:=Hd hbel;replace hown:=Hd hown;by_cases hl:0<l
   ·replace hnext:=Hd (hnext hl);clear qN;by_cases h223:l<=223
    ·have hd2:¬223<l:=aB;go_wp2_with (at_builtin;go_must (refine HJ rfl (.tmp 23) (.tmp 25) rfl w.heap.size _ zs rfl hown l rfl aB hsz ?_));intro v' w' ho' hb';replace hb':=Hd (hbel.out.trans hb'.out);go_wp2_with fail;go_roundw
     case rel=>exact⟨S,0,by go_num,(hnext.out.1 h223)▸ho'.out,hb'.out,.inr (.inl ⟨rfl,rfl⟩)⟩
     case measure=>simp[intOf];omega
    ·have hd2:223<l:=aB;go_wp2_with (at_builtin;go_must (refine HJ rfl (.tmp 23) (.tmp 25) rfl w.heap.size _ zs rfl hown 223 rfl aB hsz ?_));intro v' w' ho' hb';replace hb':=Hd (hbel.out.trans hb'.out);go_wp2_with fail;go_roundw
     case rel=>
      obtain⟨e1,rfl⟩:=hnext.out.2 hd2;exact⟨[223],l-223,by go_num,e1▸ho'.out,hb'.out,.inr (.inr ⟨rfl,hd2,rfl⟩)⟩
     case measure=>simp[intOf];omega
   ·obtain rfl:l=0:=aB;have hz:zs=S:=by
     rcases qN with ⟨rfl,h⟩|⟨_,rfl⟩|⟨_,_,rfl⟩
     ·omega
     ·rfl
     ·omega
    clear qN hnext;subst hz;go_wp2_with fail;go_ret2;exact⟨_,rfl,hown.out,hbel.out⟩
def XN(zs:List Int):Nat->Int
 | 0=>0
 | k+1=>XN zs k+(zs.getD k 0+32)
theorem TZ(n:Int)(h:0<=n/\n<=2000):(Q3 n).length<=2/\(∀ k,k<(Q3 n).length->0<=(Q3 n).getD k 0/\(Q3 n).getD k 0<=250)/\(∀ k,k<=(Q3 n).length->0<=XN (Q3 n) k/\XN (Q3 n) k<=600)/\XN (Q3 n) (Q3 n).length=Yq n:=by
 have hL:=Kp n h;unfold Yq Q3;split
 ·refine⟨sX,λk hk=>?_,λk hk=>?_,by simp[XN]⟩
  ·obtain rfl:k=0:=by simpa using hk
   simp;omega
  ·rcases(show k=0\/k=1 from by simp at hk;omega) with rfl|rfl
   ·simp[XN]
   ·simp[XN];omega
 ·refine⟨sX,λk hk=>?_,λk hk=>?_,by simp[XN];omega⟩
  ·rcases(show k=0\/k=1 from by simp at hk;omega) with rfl|rfl
   ·simp
   ·simp;omega
  ·rcases(show k=0\/k=1\/k=2 from by simp at hk;omega) with rfl|rfl|rfl
   ·simp[XN]
   ·simp[XN]
   ·simp[XN];omega
theorem Cd(n:Int)(h:n<0\/2000<n)(z:Addr)(w:World)(hz:w.cell? ⟨7,0,none⟩=some (.iface 298 (.pointer (some z)))):Calls Tryz.prog 123 #[.int .i64 n] w λe w'=>e=.returned (.tuple #[.int .i64 0,.iface 298 (.pointer (some z))])/\∃ n,w'=w.drewN n:=by
 go_enter Tryz.func123,Tryz.ntmps123;go_wp2_with fail;refine(Cw n h z _ hz).mono ?_;rintro e w1 ⟨rfl,k,rfl⟩;go_wp2_with fail;go_loopw [6,16] (λs j wr=>s=.int .i64 0/\j=.int .i64 0/\wr=w.drewN k) (λ_ _ _=>0)
 case atStart=>exact⟨rfl,rfl,rfl⟩
 case round=>
  obtain⟨rfl,rfl,rfl⟩:=hrel;go_wp2_with fail;go_ret2;exact⟨rfl,_,rfl⟩
theorem Xz(n:Int)(h:0<=n/\n<=2000)(w:World):Calls Tryz.prog 123 #[.int .i64 n] w λe w'=>e=.returned (.tuple #[.int .i64 (Yq n),.nilIface])/\Below w.heap.size w w':=by
 obtain⟨f1,f2,f3,f4⟩:=TZ n h;have hs:=Hd (PR n h w);generalize Q3 n=S at*;generalize Yq n=T at*;subst f4;go_enter Tryz.func123,Tryz.ntmps123;go_wp2_with fail;refine hs.out.mono ?_;rintro e w1 ⟨v,rfl,ho,hb⟩;clear hs;obtain⟨a,c,rfl,g1,g2,g3,hrow,_⟩:=ho.row;clear ho;replace hb:=Hd hb;replace hrow:=Hd hrow;replace f2:=Hd f2;replace f3:=Hd f3;go_wp2_with fail;go_loopw [6,8,16] (λs _ j wr=>∃ k:Nat,k<=S.length/\s=.int .i64 (XN S k)/\j=.int .i64 k/\wr=w1) (λ_ _ j _=>S.length-(intOf j).toNat)
 case atStart=>exact⟨0,Nat.zero_le _,rfl,rfl,rfl⟩
 case round=>
  obtain⟨k,hk,rfl,rfl,rfl⟩:=hrel;have b1:=f3.out k hk;by_cases hlt:k<S.length
  ·obtain⟨b,off,rfl,hc⟩:=hrow.out k hlt;have b2:=f2.out k hlt;have hs2:=Hd (show XN S (k+1)=XN S k+(S.getD k 0+32) from rfl);generalize S.getD k 0=x at*;generalize XN S k=y at*;go_wp2_with fail;go_roundw
   case rel=>exact⟨k+1,aB,by rw[hs2.out],by go_num,by first|rfl|trivial⟩
   case measure=>simp[intOf];omega
  ·obtain rfl:k=S.length:=aB;go_wp2_with fail;go_ret2;exact⟨rfl,hb.out⟩
def GW:List Nat:=[0,7,17]
abbrev bG (w:World) (z:Nat->Addr):Prop:=aQ 298 GW w z
theorem bG.range{w:World}{z:Nat->Addr}(h:bG w z):w.cell? ⟨0,0,none⟩=some (.iface 298 (.pointer (some (z 0)))):=h.var 0 dX
theorem bG.size{w:World}{z:Nat->Addr}(h:bG w z):w.cell? ⟨7,0,none⟩=some (.iface 298 (.pointer (some (z 1)))):=h.var 1 dX
theorem bG.budget{w:World}{z:Nat->Addr}(h:bG w z):w.cell? ⟨17,0,none⟩=some (.iface 298 (.pointer (some (z 2)))):=h.var 2 dX
def Xh(s n k d t r:Int):Value:=.agg #[.int .i64 s,.int .i64 n,.int .i64 k,.int .i64 d,.int .i64 t,.int .i64 r]
theorem QY{w:World}{x:Addr}{v:Value}(h:w.cell? x=some v)(o1:Obj):(w.alloc o1).cell? x=some v:=
 (((Below.refl w.heap.size w).alloc nZ o1).cell (World.block_lt_of_cell? w _ h)).trans h
theorem Kk{w:World}{x:Addr}{v:Value}(h:w.cell? x=some v)(o1 o2:Obj):((w.alloc o1).alloc o2).cell? x=some v:=QY (QY h o1) o2
def Yf(s n k d t r M:Int)(z:Nat->Addr):Array Value:=#[
 .string ⟨#[115,105,122,101]⟩,.int .i64 s,.int .i64 0,.int .i64 2000,.iface 298 (.pointer (some (z 1))),
 .string ⟨#[115,101,110,116,105,110,101,108,115]⟩,.int .i64 n,.int .i64 0,.int .i64 8,.iface 298 (.pointer (some (z 2))),
 .string ⟨#[115,112,111,116,115]⟩,.int .i64 k,.int .i64 1,.int .i64 M,.iface 298 (.pointer (some (z 0))),
 .string ⟨#[112,101,114,105,111,100]⟩,.int .i64 d,.int .i64 1,.int .i64 10000,.iface 298 (.pointer (some (z 0))),
 .string ⟨#[112,97,116,105,101,110,99,101]⟩,.int .i64 t,.int .i64 1,.int .i64 d,.iface 298 (.pointer (some (z 0))),
 .string ⟨#[114,101,116,114,105,101,115]⟩,.int .i64 r,.int .i64 0,.int .i64 5,.iface 298 (.pointer (some (z 0)))]
def Yx(s n k d t r M:Int)(z:Nat->Addr):Value:=.agg (Yf s n k d t r M z)
theorem Np(s n k d t r c:Int)(z:Nat->Addr)(w:World)(hE:bG w z) :
  Calls Tryz.prog 124 #[Xh s n k d t r,.int .i64 c] w λe w'=>∃ M,(12<=c->M=12)/\e=.returned (Yx s n k d t r M z)/\Below w.heap.size w w':=by
 have h1:=hE.range;have h2:=hE.size;have h3:=hE.budget;have q1:=Kk h1;have q2:=Kk h2;have q3:=Kk h3;clear h1 h2 h3;have hb0:=Hd (Below.refl w.heap.size w);unfold Xh;rcases(show c<12\/c=12\/12<c from by omega) with hc|rfl|hc
 ·go_enter Tryz.func124,Tryz.ntmps124;go_upto_region 1 with fail;generalize hz:(#[
   .string ⟨#[]⟩,.int .i64 0,.int .i64 0,.int .i64 0,.nilIface,.string ⟨#[]⟩,.int .i64 0,.int .i64 0,.int .i64 0,.nilIface,.string ⟨#[]⟩,.int .i64 0,.int .i64 0,.int .i64 0,.nilIface,
   .string ⟨#[]⟩,.int .i64 0,.int .i64 0,.int .i64 0,.nilIface,.string ⟨#[]⟩,.int .i64 0,.int .i64 0,.int .i64 0,.nilIface,.string ⟨#[]⟩,.int .i64 0,.int .i64 0,.int .i64 0,.nilIface]:Array Value)=zb
  replace hz:zb.size=30:=by rw[<-hz];rfl
  go_wp2_with (refine QQ (w:=w.alloc _) rfl 225 (.tmp 4) (.tmp 33) rfl _ (Yf s n k d t r c z) (by simp only[World.size_alloc];rfl) rfl kX (by rw[hz];rfl) (by simp[Yf,Value.oneCell']) ?_);refine Vx (w:=w.alloc _) (c:=Yf s n k d t r c z) rfl (by simp only[World.size_alloc];rfl) Tryz.underlying225 kX ?_;exact⟨c,aB,rfl,(hb0.out.alloc nZ _).alloc sX _⟩
 ·go_enter Tryz.func124,Tryz.ntmps124;go_upto_region 1 with fail;generalize hz:(#[
   .string ⟨#[]⟩,.int .i64 0,.int .i64 0,.int .i64 0,.nilIface,.string ⟨#[]⟩,.int .i64 0,.int .i64 0,.int .i64 0,.nilIface,.string ⟨#[]⟩,.int .i64 0,.int .i64 0,.int .i64 0,.nilIface,
   .string ⟨#[]⟩,.int .i64 0,.int .i64 0,.int .i64 0,.nilIface,.string ⟨#[]⟩,.int .i64 0,.int .i64 0,.int .i64 0,.nilIface,.string ⟨#[]⟩,.int .i64 0,.int .i64 0,.int .i64 0,.nilIface]:Array Value)=zb
  replace hz:zb.size=30:=by rw[<-hz];rfl
  go_wp2_with (refine QQ (w:=w.alloc _) rfl 225 (.tmp 4) (.tmp 33) rfl _ (Yf s n k d t r 12 z) (by simp only[World.size_alloc];rfl) rfl kX (by rw[hz];rfl) (by simp[Yf,Value.oneCell']) ?_);refine Vx (w:=w.alloc _) (c:=Yf s n k d t r 12 z) rfl (by simp only[World.size_alloc];rfl) Tryz.underlying225 kX ?_;exact⟨12,aB,rfl,(hb0.out.alloc nZ _).alloc sX _⟩
 ·go_enter Tryz.func124,Tryz.ntmps124;go_upto_region 1 with fail;generalize hz:(#[
   .string ⟨#[]⟩,.int .i64 0,.int .i64 0,.int .i64 0,.nilIface,.string ⟨#[]⟩,.int .i64 0,.int .i64 0,.int .i64 0,.nilIface,.string ⟨#[]⟩,.int .i64 0,.int .i64 0,.int .i64 0,.nilIface,
   .string ⟨#[]⟩,.int .i64 0,.int .i64 0,.int .i64 0,.nilIface,.string ⟨#[]⟩,.int .i64 0,.int .i64 0,.int .i64 0,.nilIface,.string ⟨#[]⟩,.int .i64 0,.int .i64 0,.int .i64 0,.nilIface]:Array Value)=zb
  replace hz:zb.size=30:=by rw[<-hz];rfl
  go_wp2_with (refine QQ (w:=w.alloc _) rfl 225 (.tmp 4) (.tmp 33) rfl _ (Yf s n k d t r 12 z) (by simp only[World.size_alloc];rfl) rfl kX (by rw[hz];rfl) (by simp[Yf,Value.oneCell']) ?_);refine Vx (w:=w.alloc _) (c:=Yf s n k d t r 12 z) rfl (by simp only[World.size_alloc];rfl) Tryz.underlying225 kX ?_;exact⟨12,aB,rfl,(hb0.out.alloc nZ _).alloc sX _⟩
end
end Go.Proofs.YtpdhceiodgnbmaaGreatDoor
