import Derived.Test.YtpdhceiodgnbmaaGreatDoorF0Safe21Said
import Derived.Test.YtpdhceiodgnbmaaGreatDoorF1Safe21Said
import Derived.Test.YtpdhceiodgnbmaaGreatDoorF2Safe21Said
import Derived.Deep.MidRow
import Derived.Lib.SmallJoins
import Derived.Deep.Slices
import Derived.Deep.Fields
import Derived.ChangeSame
import Derived.Test.YtpdhceiodgnbmaaGreatDoorChecked
import Derived.MapViews
import Derived.Test.YtpdhceiodgnbmaaGreatDoorRows
import Derived.Outline
import Derived.Stop.LaidErr
import Derived.LaidHandle
import Derived.LaidMore
set_option linter.unusedVariables false
set_option linter.unusedSimpArgs false
set_option linter.unnecessarySimpa false
set_option maxRecDepth 100000
set_option maxHeartbeats 8000000
namespace Go.Proofs.YtpdhceiodgnbmaaGreatDoor
open Go.RowKit
theorem Ba(R:Array Value)(i:Nat)(v:Value)(h:(R.all (·.oneCell'))=true)(hv:v.oneCell'=true):((R.setIfInBounds i v).all (·.oneCell'))=true:=by
 rw[Array.all_eq_true'] at h ⊢
 intro x hx
 rcases Array.mem_or_eq_of_mem_setIfInBounds hx with hx|rfl
 ·exact h x hx
 ·exact hv
theorem KZ(R:Array Value)(i:Nat)(k:IntKind)(z:Int)(h:(R.all (·.oneCell'))=true):((R.setIfInBounds i (.int k z)).all (·.oneCell'))=true:=Ba R i _ h rfl
theorem LO(R:Array Value)(hs:R.size=78)(r0:∀ h,R[0]'h=.int .i64 2)(hone:(R.all (·.oneCell'))=true)(w:World) :
  Calls Tryz.prog 89 #[.agg R] w λe w'=>e=.returned (.agg ((((((R.setIfInBounds 1 (Value.int IntKind.i64 0)).setIfInBounds 77 (Value.int IntKind.i64 0)).setIfInBounds 74 (Value.int IntKind.i64 0)).setIfInBounds 75 (Value.int IntKind.i64 0)).setIfInBounds 2 (Value.int IntKind.i64 0)).setIfInBounds 0 (Value.int IntKind.i64 0)))/\Below w.heap.size w w':=by
 obtain⟨V,hV⟩:∃ V,V=((((((R.setIfInBounds 1 (Value.int IntKind.i64 0)).setIfInBounds 77 (Value.int IntKind.i64 0)).setIfInBounds 74 (Value.int IntKind.i64 0)).setIfInBounds 75 (Value.int IntKind.i64 0)).setIfInBounds 2 (Value.int IntKind.i64 0)).setIfInBounds 0 (Value.int IntKind.i64 0)):=⟨_,rfl⟩
 have hVs:V.size=78:=by rw[hV];simp[hs]
 have hVo:(V.all (·.oneCell'))=true:=by rw[hV];(repeat with_reducible refine KZ _ _ _ _ ?_);with_reducible exact hone
 rw[<-hV]
 have hld:=Hd (show ((w.alloc (Obj.cells ((((((R.setIfInBounds 1 (Value.int IntKind.i64 0)).setIfInBounds 77 (Value.int IntKind.i64 0)).setIfInBounds 74 (Value.int IntKind.i64 0)).setIfInBounds 75 (Value.int IntKind.i64 0)).setIfInBounds 2 (Value.int IntKind.i64 0)).setIfInBounds 0 (Value.int IntKind.i64 0)) 49)).alloc (Obj.cells Tryz.zeroCells49 49)).heap[w.heap.size]? = some (.cells V 49 (0,0)) from by
  rw[Zz,if_neg sX,Zz,if_pos rfl,hV])
 have hst:=Hd (show ((w.alloc (Obj.cells ((((((R.setIfInBounds 1 (Value.int IntKind.i64 0)).setIfInBounds 77 (Value.int IntKind.i64 0)).setIfInBounds 74 (Value.int IntKind.i64 0)).setIfInBounds 75 (Value.int IntKind.i64 0)).setIfInBounds 2 (Value.int IntKind.i64 0)).setIfInBounds 0 (Value.int IntKind.i64 0)) 49)).alloc (Obj.cells Tryz.zeroCells49 49)).heap[w.heap.size+1]? = some (.cells Tryz.zeroCells49 49 (0,0)) from by
  rw[Zz,if_pos sX])
 have hb:=Hd (show Below w.heap.size w ((w.alloc (Obj.cells ((((((R.setIfInBounds 1 (Value.int IntKind.i64 0)).setIfInBounds 77 (Value.int IntKind.i64 0)).setIfInBounds 74 (Value.int IntKind.i64 0)).setIfInBounds 75 (Value.int IntKind.i64 0)).setIfInBounds 2 (Value.int IntKind.i64 0)).setIfInBounds 0 (Value.int IntKind.i64 0)) 49)).alloc (Obj.cells Tryz.zeroCells49 49)) from(bR.alloc nR _).alloc sX _)
 have hzc:=Tryz.underlying49
 have hsz:(Tryz.prog.info? 49).map (·.size)=some V.size:=by rw[hVs];kernel_rfl
 have hzz:(Tryz.zeroCells49).size=V.size:=by rw[hVs];kernel_rfl
 clear hVs
 replace hV:=Hd hV
 go_enter Tryz.func89,Tryz.ntmps89
 go_wp2_with (first|with_reducible refine Zd rfl 49 (.tmp 1) rfl w.heap.size V _ rfl hld hzc rfl hsz ?_|with_reducible refine Zc rfl 49 (.tmp 2) (.tmp 26) rfl (w.heap.size+1) _ V rfl rfl hst hsz hzz hVo ?_)
 intro w3 hU
 have hb3:=Hd (hb.out.trans (hU.out.below (Nat.le_succ _)))
 have hr3:=Hd hU.out.here
 clear hU hst hld
 go_wp2_with fail
 exact ZE rfl rfl hzc rfl hsz hr3.out ⟨rfl,hb3.out⟩
theorem TS(R:Array Value)(hs:R.size=78)(r0:∀ h,R[0]'h=.int .i64 3)(hone:(R.all (·.oneCell'))=true)(w:World) :
  Calls Tryz.prog 89 #[.agg R] w λe w'=>e=.returned (.agg (((((R.setIfInBounds 1 (Value.int IntKind.i64 0)).setIfInBounds 77 (Value.int IntKind.i64 0)).setIfInBounds 76 (Value.int IntKind.i64 0)).setIfInBounds 2 (Value.int IntKind.i64 0)).setIfInBounds 0 (Value.int IntKind.i64 0)))/\Below w.heap.size w w':=by
 obtain⟨V,hV⟩:∃ V,V=(((((R.setIfInBounds 1 (Value.int IntKind.i64 0)).setIfInBounds 77 (Value.int IntKind.i64 0)).setIfInBounds 76 (Value.int IntKind.i64 0)).setIfInBounds 2 (Value.int IntKind.i64 0)).setIfInBounds 0 (Value.int IntKind.i64 0)):=⟨_,rfl⟩
 have hVs:V.size=78:=by rw[hV];simp[hs]
 have hVo:(V.all (·.oneCell'))=true:=by rw[hV];(repeat with_reducible refine KZ _ _ _ _ ?_);with_reducible exact hone
 rw[<-hV]
 have hld:=Hd (show ((w.alloc (Obj.cells (((((R.setIfInBounds 1 (Value.int IntKind.i64 0)).setIfInBounds 77 (Value.int IntKind.i64 0)).setIfInBounds 76 (Value.int IntKind.i64 0)).setIfInBounds 2 (Value.int IntKind.i64 0)).setIfInBounds 0 (Value.int IntKind.i64 0)) 49)).alloc (Obj.cells Tryz.zeroCells49 49)).heap[w.heap.size]? = some (.cells V 49 (0,0)) from by
  rw[Zz,if_neg sX,Zz,if_pos rfl,hV])
 have hst:=Hd (show ((w.alloc (Obj.cells (((((R.setIfInBounds 1 (Value.int IntKind.i64 0)).setIfInBounds 77 (Value.int IntKind.i64 0)).setIfInBounds 76 (Value.int IntKind.i64 0)).setIfInBounds 2 (Value.int IntKind.i64 0)).setIfInBounds 0 (Value.int IntKind.i64 0)) 49)).alloc (Obj.cells Tryz.zeroCells49 49)).heap[w.heap.size+1]? = some (.cells Tryz.zeroCells49 49 (0,0)) from by
  rw[Zz,if_pos sX])
 have hb:=Hd (show Below w.heap.size w ((w.alloc (Obj.cells (((((R.setIfInBounds 1 (Value.int IntKind.i64 0)).setIfInBounds 77 (Value.int IntKind.i64 0)).setIfInBounds 76 (Value.int IntKind.i64 0)).setIfInBounds 2 (Value.int IntKind.i64 0)).setIfInBounds 0 (Value.int IntKind.i64 0)) 49)).alloc (Obj.cells Tryz.zeroCells49 49)) from(bR.alloc nR _).alloc sX _)
 have hzc:=Tryz.underlying49
 have hsz:(Tryz.prog.info? 49).map (·.size)=some V.size:=by rw[hVs];kernel_rfl
 have hzz:(Tryz.zeroCells49).size=V.size:=by rw[hVs];kernel_rfl
 clear hVs
 replace hV:=Hd hV
 go_enter Tryz.func89,Tryz.ntmps89
 go_wp2_with (first|with_reducible refine Zd rfl 49 (.tmp 1) rfl w.heap.size V _ rfl hld hzc rfl hsz ?_|with_reducible refine Zc rfl 49 (.tmp 2) (.tmp 26) rfl (w.heap.size+1) _ V rfl rfl hst hsz hzz hVo ?_)
 intro w3 hU
 have hb3:=Hd (hb.out.trans (hU.out.below (Nat.le_succ _)))
 have hr3:=Hd hU.out.here
 clear hU hst hld
 go_wp2_with fail
 exact ZE rfl rfl hzc rfl hsz hr3.out ⟨rfl,hb3.out⟩
theorem Pr(R:Array Value)(k:Int)(h1:k≠1)(h2:k≠2)(h3:k≠3)(hs:R.size=78)(r0:∀ h,R[0]'h=.int .i64 k)(hone:(R.all (·.oneCell'))=true)(w:World) :
  Calls Tryz.prog 89 #[.agg R] w λe w'=>e=.returned (.agg (((R.setIfInBounds 1 (Value.int IntKind.i64 0)).setIfInBounds 77 (Value.int IntKind.i64 0)).setIfInBounds 0 (Value.int IntKind.i64 0)))/\Below w.heap.size w w':=by
 have e1:(k==1)=false:=by simpa using h1
 have e2:(k==2)=false:=by simpa using h2
 have e3:(k==3)=false:=by simpa using h3
 clear h1 h2 h3
 obtain⟨V,hV⟩:∃ V,V=(((R.setIfInBounds 1 (Value.int IntKind.i64 0)).setIfInBounds 77 (Value.int IntKind.i64 0)).setIfInBounds 0 (Value.int IntKind.i64 0)):=⟨_,rfl⟩
 have hVs:V.size=78:=by rw[hV];simp[hs]
 have hVo:(V.all (·.oneCell'))=true:=by rw[hV];(repeat with_reducible refine KZ _ _ _ _ ?_);with_reducible exact hone
 rw[<-hV]
 have hld:=Hd (show ((w.alloc (Obj.cells (((R.setIfInBounds 1 (Value.int IntKind.i64 0)).setIfInBounds 77 (Value.int IntKind.i64 0)).setIfInBounds 0 (Value.int IntKind.i64 0)) 49)).alloc (Obj.cells Tryz.zeroCells49 49)).heap[w.heap.size]? = some (.cells V 49 (0,0)) from by
  rw[Zz,if_neg sX,Zz,if_pos rfl,hV])
 have hst:=Hd (show ((w.alloc (Obj.cells (((R.setIfInBounds 1 (Value.int IntKind.i64 0)).setIfInBounds 77 (Value.int IntKind.i64 0)).setIfInBounds 0 (Value.int IntKind.i64 0)) 49)).alloc (Obj.cells Tryz.zeroCells49 49)).heap[w.heap.size+1]? = some (.cells Tryz.zeroCells49 49 (0,0)) from by
  rw[Zz,if_pos sX])
 have hb:=Hd (show Below w.heap.size w ((w.alloc (Obj.cells (((R.setIfInBounds 1 (Value.int IntKind.i64 0)).setIfInBounds 77 (Value.int IntKind.i64 0)).setIfInBounds 0 (Value.int IntKind.i64 0)) 49)).alloc (Obj.cells Tryz.zeroCells49 49)) from(bR.alloc nR _).alloc sX _)
 have hzc:=Tryz.underlying49
 have hsz:(Tryz.prog.info? 49).map (·.size)=some V.size:=by rw[hVs];kernel_rfl
 have hzz:(Tryz.zeroCells49).size=V.size:=by rw[hVs];kernel_rfl
 clear hVs
 replace hV:=Hd hV
 go_enter Tryz.func89,Tryz.ntmps89
 go_wp2_with (first|with_reducible refine Zd rfl 49 (.tmp 1) rfl w.heap.size V _ rfl hld hzc rfl hsz ?_|with_reducible refine Zc rfl 49 (.tmp 2) (.tmp 26) rfl (w.heap.size+1) _ V rfl rfl hst hsz hzz hVo ?_)
 intro w3 hU
 have hb3:=Hd (hb.out.trans (hU.out.below (Nat.le_succ _)))
 have hr3:=Hd hU.out.here
 clear hU hst hld
 go_wp2_with fail
 exact ZE rfl rfl hzc rfl hsz hr3.out ⟨rfl,hb3.out⟩
def Qw(C:Array Value)(o:Nat)(vs:List Value):Array Value:=(C.toList.take o++(vs++C.toList.drop (o+vs.length))).toArray
theorem G4(C:Array Value)(o:Nat)(v:Value)(r:List Value)(h:o<C.size):Qw (C.setIfInBounds o v) (o+1) r=Qw C o (v::r):=by
 unfold Qw
 congr 1
 rw[Array.toList_setIfInBounds,List.length_cons]
 have h':o<C.toList.length:=by simpa using h
 have e1:(C.toList.set o v).take (o+1)=C.toList.take o++[v]:=by
  rw[List.take_set,List.take_succ_eq_append_getElem h',List.set_append]
  have:(C.toList.take o).length=o:=sYq
  simp[this]
 have e2:(C.toList.set o v).drop (o+1+r.length)=C.toList.drop (o+(r.length+1)):=by
  rw[List.drop_set_of_lt oX]
  congr 1;omega
 rw[e1,e2]
 simp
theorem N3(C:Array Value)(o:Nat):Qw C o []=C:=by simp[Qw]
theorem Upd.setCells{b:Nat}{t:TypeId}{fz:Nat×Nat}{w:World}:∀ (vs:List Value) (o:Nat) (C:Array Value) (w':World),Upd b (.cells C t fz) w w'->o+vs.length<=C.size->Upd b (.cells (Qw C o vs) t fz) w (w'.setCells b o vs)
 | [],o,C,w',h,_=>by rw[N3];exact h
 | v::r,o,C,w',h,hl=>by
  rw[List.length_cons] at hl
  rw[World.setCells,<-G4 C o v r oX]
  exact Upd.setCells r (o+1) _ _ (h.setCell v) (by rw[Array.size_setIfInBounds];omega)
theorem VV{w:World}{b:Nat}{C:Array Value}{t:TypeId}(h:w.heap[b]? = some (.cells C t (0,0)))(o n:Nat)(hn:o+n<=C.size):w.there b o n:=λj hj=>by
 refine⟨?_,Zj h _⟩
 rw[Za h,Array.getElem?_eq_getElem oX]
 rfl
section
variable {P:Program} {ops:Array Oper} {rest:List Oper} {o:Oper} {a:Act} {w:World} {Q:Exit->Act->World->Prop}
theorem ZZ(hgd:o.guard=none)(ty T:TypeId)(x y:Operand)(ho:o.op=.store ty x y)(g off:Nat)(C c':Array Value)
  (hx:a.eval x=.pointer (some ⟨g,off,none⟩)) (hy:a.eval y=.agg c') (hg:Hid (w.heap[g]? = some (.cells C T (0,0)))) (hi:(P.info? ty).map (·.size)=some c'.size) (hs:off+c'.size<=C.size) (h1:c'.all (·.oneCell')=true)
  (h:∀ w',Hid (Upd g (.cells (Qw C off c'.toList) T (0,0)) w w')->wpList P ops Q rest (a.put o.dst undef) w'):wpList P ops Q (o::rest) a w:=
 wpList_store_mid hgd ty x y ho g off c' hx hy (VV hg.out off c'.size hs) hi h1 (h _ (Hd (Upd.setCells c'.toList off C w (Upd.refl hg.out) (by simpa using hs))))
end
open Go.RowKit Go.ChangeShapes Go.WideShapes
section
variable {H:Type} {enc:TypeId×Value->H} {P:Program} {w:World}
end
open Go.RowKit Go.ChangeShapes Go.WideShapes Go.Deep
section
variable {H:Type} {enc:TypeId×Value->H} {P:Program} {w:World} {base:Nat} {spare:Nat->Bool} {held:Bool}
theorem VP{t:TypeId}{fs:Array Field}{fuel:Nat}{cs:List Value}{x:DataW H×List MemPlace}(hs:P.underlying t=some (.struct fs))(h:DataW.trod enc P w base spare held fuel t cs=some x)(j:Nat)(f:Field)(hj:fs[j]? = some f):∃ n y,DataW.trod enc P w base spare held n f.type ((cs.drop f.offset).take (P.cellsOf f.type))=some y:=by
 obtain⟨xs,n,_,_,hl,hlen,hf⟩:=DataW.trod_struct hs h
 have hq:=hf j f hj
 have hi:j<xs.length:=by rw[hlen];exact(Array.getElem?_eq_some_iff.1 hj).1
 rw[List.getElem?_eq_getElem hi] at hq
 exact⟨n,_,hq⟩
theorem UB{e:TypeId}{k:IntKind}{n o:Nat}{cs:List Value}{y:DataW H×List MemPlace}(he:P.underlying e=some (.int k))(hce:P.cellsOf e=1)(h:DataW.trod enc P w base spare held n e ((cs.drop o).take (P.cellsOf e))=some y):∃ z,cs[o]? = some (.int k z)/\(Lit.int k z).wf=true:=by
 rw[hce] at h
 obtain⟨z,hc,_,hw⟩:=DataW.trod_int he h
 refine⟨z,?_,hw⟩
 have:=congrArg (·[0]?) hc
 simpa[Value.cells,List.getElem?_take,List.getElem?_drop] using this
theorem DE{z:Int}(h:(Lit.int .i64 z).wf=true) : -9223372036854775808<=z/\z<=9223372036854775807:=by simpa[Lit.wf,IntKind.min,IntKind.max,IntKind.signed,IntKind.bits] using h
theorem Lk{z:Int}(h:(Lit.int .u64 z).wf=true):z=(z.toNat:Int)/\z.toNat<18446744073709551616:=by
 have hx:0<=z/\z<=18446744073709551615:=by simpa[Lit.wf,IntKind.min,IntKind.max,IntKind.signed,IntKind.bits] using h
 omega
end
structure Rc where
 kind:Int
 obj:Int
 id:Int
 name:ByteArray
 p:P6
 root:List UInt8
 file:List UInt8
 way:Int
 index:Int
 verdict:Int
 tick:Int
deriving DecidableEq
def z32:List UInt8:=List.replicate 32 0
def P6.zero:P6:=⟨0,0,0,0,0,0⟩
def Rc.zero:Rc:=⟨0,0,0,⟨#[]⟩,P6.zero,z32,z32,0,0,0,0⟩
def Rc.list(x:Rc):List Value:=[.int .i64 x.kind,.int .i64 x.obj,.int .i64 x.id,.string x.name]++(x.p.list++(cB x.root++(cB x.file++[.int .i64 x.way,.int .i64 x.index,.int .i64 x.verdict,.int .i64 x.tick])))
def Rc.lits(x:Rc):List Lit:=[.int .i64 x.kind,.int .i64 x.obj,.int .i64 x.id,.string x.name.data.toList]++(x.p.lits++(QM x.root++(QM x.file++[.int .i64 x.way,.int .i64 x.index,.int .i64 x.verdict,.int .i64 x.tick])))
structure Rc.Ok (x:Rc):Prop where
 kind:inI x.kind
 obj:inI x.obj
 id:inI x.id
 name:x.name.size<=maxLen
 p:x.p.Ok
 root:x.root.length=32
 file:x.file.length=32
 way:inI x.way
 index:inI x.index
 verdict:inI x.verdict
 tick:inI x.tick
theorem Rc.zero_ok:Rc.zero.Ok:=⟨dX,dX,dX,dX,⟨dX,dX,dX,dX,dX,dX⟩,dX,dX,dX,dX,dX,dX⟩
theorem P6.len(p:P6):p.list.length=6:=rfl
theorem Rc.len{x:Rc}(h1:x.root.length=32)(h2:x.file.length=32):x.list.length=78:=by
 simp[Rc.list,P6.len,Ze,h1,h2]
theorem P6.one(p:P6):∀ u∈p.list,u.oneCell'=true:=by
 intro u hu
 simp only[P6.list,List.mem_cons,List.not_mem_nil,or_false] at hu
 rcases hu with rfl|rfl|rfl|rfl|rfl|rfl<;>rfl
theorem Rc.one(x:Rc):∀ u∈x.list,u.oneCell'=true:=by
 intro u hu
 simp only[Rc.list,List.mem_append,List.mem_cons,List.not_mem_nil,or_false] at hu
 rcases hu with (rfl|rfl|rfl|rfl)|hu|hu|hu|(rfl|rfl|rfl|rfl)
 all_goals first|rfl|exact P6.one _ u hu|exact ZI _ u hu
theorem JN{l:List Value}(h:∀ u∈l,u.oneCell'=true):l.toArray.all (·.oneCell')=true:=by
 rw[Array.all_eq_true']
 intro u hu
 exact h u (by simpa using hu)
theorem Rc.all_one(x:Rc):x.list.toArray.all (·.oneCell')=true:=JN x.one
theorem Rc.parts(x:Rc):x.list=([.int .i64 x.kind,.int .i64 x.obj,.int .i64 x.id,.string x.name]++x.p.list++cB x.root++cB x.file)++[.int .i64 x.way,.int .i64 x.index,.int .i64 x.verdict,.int .i64 x.tick]:=by simp[Rc.list]
theorem Rc.head74{x:Rc}(h1:x.root.length=32)(h2:x.file.length=32):([.int .i64 x.kind,.int .i64 x.obj,.int .i64 x.id,.string x.name]++x.p.list++cB x.root++cB x.file:List Value).length=74:=by simp[P6.len,Ze,h1,h2]
theorem Rc.c0(x:Rc):x.list[0]? = some (.int .i64 x.kind):=rfl
theorem Rc.c1(x:Rc):x.list[1]? = some (.int .i64 x.obj):=rfl
theorem Rc.c2(x:Rc):x.list[2]? = some (.int .i64 x.id):=rfl
theorem Rc.c3(x:Rc):x.list[3]? = some (.string x.name):=rfl
theorem Rc.c74{x:Rc}(h1:x.root.length=32)(h2:x.file.length=32):x.list[74]? = some (.int .i64 x.way):=by
 rw[Rc.parts,List.getElem?_append_right (by rw[Rc.head74 h1 h2];decide),Rc.head74 h1 h2];rfl
theorem Rc.c75{x:Rc}(h1:x.root.length=32)(h2:x.file.length=32):x.list[75]? = some (.int .i64 x.index):=by
 rw[Rc.parts,List.getElem?_append_right (by rw[Rc.head74 h1 h2];decide),Rc.head74 h1 h2];rfl
theorem Rc.c76{x:Rc}(h1:x.root.length=32)(h2:x.file.length=32):x.list[76]? = some (.int .i64 x.verdict):=by
 rw[Rc.parts,List.getElem?_append_right (by rw[Rc.head74 h1 h2];decide),Rc.head74 h1 h2];rfl
theorem Rc.c77{x:Rc}(h1:x.root.length=32)(h2:x.file.length=32):x.list[77]? = some (.int .i64 x.tick):=by
 rw[Rc.parts,List.getElem?_append_right (by rw[Rc.head74 h1 h2];decide),Rc.head74 h1 h2];rfl
theorem Rc.sub_p(x:Rc):(x.list.drop 4).take 6=x.p.list:=Jf rfl rfl
theorem Rc.sub_root{x:Rc}(h1:x.root.length=32):(x.list.drop 10).take 32=cB x.root:=by
 have e:x.list=([.int .i64 x.kind,.int .i64 x.obj,.int .i64 x.id,.string x.name]++x.p.list)++(cB x.root++(cB x.file++[.int .i64 x.way,.int .i64 x.index,.int .i64 x.verdict,.int .i64 x.tick])):=by simp[Rc.list]
 rw[e]
 exact Jf rfl (by rw[Ze,h1])
theorem Rc.sub_file{x:Rc}(h1:x.root.length=32)(h2:x.file.length=32):(x.list.drop 42).take 32=cB x.file:=by
 have e:x.list=([.int .i64 x.kind,.int .i64 x.obj,.int .i64 x.id,.string x.name]++x.p.list++cB x.root)++(cB x.file++[.int .i64 x.way,.int .i64 x.index,.int .i64 x.verdict,.int .i64 x.tick]):=by simp[Rc.list]
 rw[e]
 exact Jf (by simp[P6.len,Ze,h1]) (by rw[Ze,h2])
theorem Rc.set0(x:Rc)(n:Int):x.list.toArray.setIfInBounds 0 (.int .i64 n)=({ x with kind:=n }:Rc).list.toArray:=by simp[Rc.list]
theorem Rc.set1(x:Rc)(n:Int):x.list.toArray.setIfInBounds 1 (.int .i64 n)=({ x with obj:=n }:Rc).list.toArray:=by simp[Rc.list]
theorem Rc.set2(x:Rc)(n:Int):x.list.toArray.setIfInBounds 2 (.int .i64 n)=({ x with id:=n }:Rc).list.toArray:=by simp[Rc.list]
theorem Rc.set3(x:Rc)(s:ByteArray):x.list.toArray.setIfInBounds 3 (.string s)=({ x with name:=s }:Rc).list.toArray:=by simp[Rc.list]
theorem JB{A B:List Value}{n k:Nat}(h:A.length=n)(u:Value):((A++B).toArray.setIfInBounds (n+k) u)=(A++B.set k u).toArray:=by
 rw[List.setIfInBounds_toArray,List.set_append_right _ _ oX,h,Nat.add_sub_cancel_left]
theorem Rc.set74{x:Rc}(h1:x.root.length=32)(h2:x.file.length=32)(n:Int):x.list.toArray.setIfInBounds 74 (.int .i64 n)=({ x with way:=n }:Rc).list.toArray:=by
 rw[Rc.parts,Rc.parts,show (74:Nat)=74+0 from rfl,JB (Rc.head74 h1 h2)];rfl
theorem Rc.set75{x:Rc}(h1:x.root.length=32)(h2:x.file.length=32)(n:Int):x.list.toArray.setIfInBounds 75 (.int .i64 n)=({ x with index:=n }:Rc).list.toArray:=by
 rw[Rc.parts,Rc.parts,show (75:Nat)=74+1 from rfl,JB (Rc.head74 h1 h2)];rfl
theorem Rc.set76{x:Rc}(h1:x.root.length=32)(h2:x.file.length=32)(n:Int):x.list.toArray.setIfInBounds 76 (.int .i64 n)=({ x with verdict:=n }:Rc).list.toArray:=by
 rw[Rc.parts,Rc.parts,show (76:Nat)=74+2 from rfl,JB (Rc.head74 h1 h2)];rfl
theorem Rc.set77{x:Rc}(h1:x.root.length=32)(h2:x.file.length=32)(n:Int):x.list.toArray.setIfInBounds 77 (.int .i64 n)=({ x with tick:=n }:Rc).list.toArray:=by
 rw[Rc.parts,Rc.parts,show (77:Nat)=74+3 from rfl,JB (Rc.head74 h1 h2)];rfl
theorem Ka{A B C D:List Value}{n:Nat}(h:A.length=n)(hb:B.length=D.length):Qw (A++(B++C)).toArray n D=(A++(D++C)).toArray:=by
 unfold Qw
 subst h
 rw[List.toList_toArray,List.take_left,<-hb,<-List.drop_drop,List.drop_left,List.drop_left]
theorem Rc.patch_p(x:Rc)(p:P6):Qw x.list.toArray 4 p.list=({ x with p:=p }:Rc).list.toArray:=Ka rfl rfl
theorem Rc.patch_root{x:Rc}(h1:x.root.length=32){r:List UInt8}(hr:r.length=32):Qw x.list.toArray 10 (cB r)=({ x with root:=r }:Rc).list.toArray:=by
 have e:∀ x:Rc,x.list=([.int .i64 x.kind,.int .i64 x.obj,.int .i64 x.id,.string x.name]++x.p.list)++(cB x.root++(cB x.file++[.int .i64 x.way,.int .i64 x.index,.int .i64 x.verdict,.int .i64 x.tick])):=λx=>by simp[Rc.list]
 rw[e x,e]
 exact Ka (n:=10) rfl (by rw[Ze,Ze,h1,hr])
theorem Rc.patch_file{x:Rc}(h1:x.root.length=32)(h2:x.file.length=32){r:List UInt8}(hr:r.length=32):Qw x.list.toArray 42 (cB r)=({ x with file:=r }:Rc).list.toArray:=by
 have e:∀ x:Rc,x.list=([.int .i64 x.kind,.int .i64 x.obj,.int .i64 x.id,.string x.name]++x.p.list++cB x.root)++(cB x.file++[.int .i64 x.way,.int .i64 x.index,.int .i64 x.verdict,.int .i64 x.tick]):=λx=>by simp[Rc.list]
 rw[e x,e]
 exact Ka (n:=42) (by simp[P6.len,Ze,h1]) (by rw[Ze,Ze,h2,hr])
theorem VF{a b:ByteArray}(h:a.data.toList=b.data.toList):a=b:=by
 cases a;cases b
 simp only[ByteArray.mk.injEq]
 exact Array.ext' h
theorem Rc.lits_inj{x y:Rc}(hx:x.root.length=32)(hx2:x.file.length=32)(hy:y.root.length=32)(hy2:y.file.length=32)(h:x.lits=y.lits):x=y:=by
 unfold Rc.lits at h
 obtain⟨h1,h2⟩:=List.append_inj h rfl
 obtain⟨h3,h4⟩:=List.append_inj h2 rfl
 obtain⟨h5,h6⟩:=List.append_inj h4 (by simp[QM,hx,hy])
 obtain⟨h7,h8⟩:=List.append_inj h6 (by simp[QM,hx2,hy2])
 simp only[List.cons.injEq,Lit.string.injEq,Lit.int.injEq,true_and,and_true] at h1 h8
 obtain⟨a1,a2,a3,a4⟩:=h1
 obtain⟨b1,b2,b3,b4⟩:=h8
 have e1:=VF a4
 have e2:=P6.lits_inj h3
 have e3:=VG h5
 have e4:=VG h7
 cases x;cases y
 simp only at*
 subst e1 e2 e3 e4 a1 a2 a3 b1 b2 b3 b4
 rfl
section
variable {P:Program}
theorem Rj{t ts tp td i64:TypeId}{fs:Array Field}(ht:P.underlying t=some (.struct fs))(hq:fs.toList.map (λf=>(f.type,f.offset))=[(i64,0),(i64,1),(i64,2),(ts,3),(tp,4),(td,10),(td,42),(i64,74),(i64,75),(i64,76),(i64,77)])(hn:fs.all (·.name != "_")=true)
  (hi:P.underlying i64=some (.int .i64)) (hs:P.underlying ts=some .string) (hp:∀ p:P6,p.Ok->∀ d,P.keyLits (d+2) tp p.list=some p.lits) (hd:∀ f:List UInt8,f.length=32->∀ d,P.keyLits (d+2) td (cB f)=some (QM f))
  (ci:P.cellsOf i64=1) (cs:P.cellsOf ts=1) (cp:P.cellsOf tp=6) (cd:P.cellsOf td=32) (ct:P.cellsOf t=78) (x:Rc) (h:x.Ok) (d:Nat):P.keyLits (d+3) t x.list=some x.lits:=by
 have s1:∀ {o:Nat} {v:Value},x.list[o]? = some v->(x.list.drop o).take 1=[v]:=fun {o v} hv=>by
  have hlt:=(List.getElem?_eq_some_iff.1 hv).1
  rw[List.drop_eq_getElem_cons hlt]
  rw[List.getElem?_eq_getElem hlt,Option.some.injEq] at hv
  rw[hv];rfl
 have e1:∀ n:Int,inI n->P.keyLits (d+2) i64 [.int .i64 n]=some [.int .i64 n]:=λn h=>Xu hi (Gx h)
 have e:=JC (d:=d+2) (cs:=x.list) (ls:=[[.int .i64 x.kind],[.int .i64 x.obj],[.int .i64 x.id],[.string x.name.data.toList],x.p.lits,QM x.root,QM x.file,[.int .i64 x.way],[.int .i64 x.index],[.int .i64 x.verdict],[.int .i64 x.tick]]) ht hq hn (by rw[ct,Rc.len h.root h.file]) (by
  simp only[List.mapM_cons,List.mapM_nil,ci,cs,cp,cd,s1 x.c0,s1 x.c1,s1 x.c2,s1 x.c3,s1 (Rc.c74 h.root h.file),s1 (Rc.c75 h.root h.file),s1 (Rc.c76 h.root h.file),s1 (Rc.c77 h.root h.file),Rc.sub_p,Rc.sub_root h.root,Rc.sub_file h.root h.file,hp x.p h.p d,hd x.root h.root d,hd x.file h.file d,KL hs h.name,e1 _ h.kind,e1 _ h.obj,e1 _ h.id,e1 _ h.way,e1 _ h.index,e1 _ h.verdict,e1 _ h.tick,Option.bind_eq_bind,Option.bind_some,Option.pure_def])
 rw[e]
 simp[Rc.lits]
end
theorem Hz(p:P6)(h:p.Ok)(d:Nat):Tryz.prog.keyLits (d+2) 45 p.list=some p.lits:=HI Tryz.underlying45 rfl kX Tryz.underlying3 kX kX p h d
theorem TA(f:List UInt8)(h:f.length=32)(d:Nat):Tryz.prog.keyLits (d+2) 47 (cB f)=some (QM f):=Ms Tryz.underlying47 Tryz.underlying5 kX kX f h
theorem MV(x:Rc)(h:x.Ok)(d:Nat):Tryz.prog.keyLits (d+3) 49 x.list=some x.lits:=Rj Tryz.underlying49 rfl kX Tryz.underlying3 Tryz.underlying9 Hz TA kX kX kX kX kX x h d
theorem Nq(x y:Rc)(hx:x.Ok)(hy:y.Ok)(w:World):(binOp .neq 49 (.agg x.list.toArray) (.agg y.list.toArray)).run Tryz.prog w=.ok (.bool (!decide (x=y))) w/\(binOp .eql 49 (.agg x.list.toArray) (.agg y.list.toArray)).run Tryz.prog w=.ok (.bool (decide (x=y))) w:=by
 obtain⟨r,h1,h2,h3⟩:=GZ (P:=Tryz.prog) (w:=w) (xs:=x.list.toArray) (ys:=y.list.toArray) (t:=49) kX (MV x hx 3) (MV y hy 3) (Xl (xs:=x.list.toArray) Tryz.underlying49 rfl (by rw[List.size_toArray,Rc.len hx.root hx.file];kernel_rfl)) (Xl (xs:=y.list.toArray) Tryz.underlying49 rfl (by rw[List.size_toArray,Rc.len hy.root hy.file];kernel_rfl))
 have:r=decide (x=y):=by rw[Bool.eq_iff_iff,h1,decide_eq_true_iff];exact⟨Rc.lits_inj hx.root hx.file hy.root hy.file,λe=>by rw[e]⟩
 rw[h2,h3,this]
 exact⟨rfl,rfl⟩
theorem Rc.zeroG:Tryz.zeroCells49=Rc.zero.list.toArray:=kX
section
open Go.ChangeShapes Go.WideShapes Go.Deep
variable {H:Type} {enc:TypeId×Value->H} {w:World}
end
def zA6:Array Value:=#[Value.int IntKind.i64 0,Value.int IntKind.i64 0,Value.int IntKind.i64 0,Value.int IntKind.i64 0,Value.int IntKind.i64 0,Value.int IntKind.i64 0]
def zA32:Array Value:=#[Value.int IntKind.u8 0,Value.int IntKind.u8 0,Value.int IntKind.u8 0,Value.int IntKind.u8 0,Value.int IntKind.u8 0,Value.int IntKind.u8 0,Value.int IntKind.u8 0,Value.int IntKind.u8 0,Value.int IntKind.u8 0,Value.int IntKind.u8 0,Value.int IntKind.u8 0,Value.int IntKind.u8 0,Value.int IntKind.u8 0,Value.int IntKind.u8 0,Value.int IntKind.u8 0,Value.int IntKind.u8 0,Value.int IntKind.u8 0,Value.int IntKind.u8 0,Value.int IntKind.u8 0,Value.int IntKind.u8 0,Value.int IntKind.u8 0,Value.int IntKind.u8 0,Value.int IntKind.u8 0,Value.int IntKind.u8 0,Value.int IntKind.u8 0,Value.int IntKind.u8 0,Value.int IntKind.u8 0,Value.int IntKind.u8 0,Value.int IntKind.u8 0,Value.int IntKind.u8 0,Value.int IntKind.u8 0,Value.int IntKind.u8 0]
theorem B6:zA6.toList=P6.zero.list:=rfl
theorem TP:zA32.toList=cB z32:=by rfl
def Rc.bare(x:Rc):Rc:=
 if x.kind=1 then { x with obj:=0,tick:=0,name:=⟨#[]⟩,p:=P6.zero,root:=z32,file:=z32,kind:=0 }
 else if x.kind=2 then { x with obj:=0,tick:=0,way:=0,index:=0,id:=0,kind:=0 }
 else if x.kind=3 then { x with obj:=0,tick:=0,verdict:=0,id:=0,kind:=0 }
 else { x with obj:=0,tick:=0,kind:=0 }
theorem Rc.size{x:Rc}(h:x.Ok):x.list.toArray.size=78:=by rw[List.size_toArray,Rc.len h.root h.file]
theorem Rc.at0(x:Rc):∀ h,x.list.toArray[0]'h=.int .i64 x.kind:=λ_=>by simp[Rc.list]
theorem Rc.at1(x:Rc):∀ h,x.list.toArray[1]'h=.int .i64 x.obj:=λ_=>by simp[Rc.list]
theorem Rc.at2(x:Rc):∀ h,x.list.toArray[2]'h=.int .i64 x.id:=λ_=>by simp[Rc.list]
theorem Rc.at3(x:Rc):∀ h,x.list.toArray[3]'h=.string x.name:=λ_=>by simp[Rc.list]
theorem Gw{l:List Value}{i:Nat}{v:Value}(h:l[i]? = some v):∀ h',l.toArray[i]'h'=v:=λh'=>by
 have h2:i<l.length:=by simpa using h'
 rw[List.getElem?_eq_getElem h2,Option.some.injEq] at h
 simpa using h
theorem Rc.at74{x:Rc}(h:x.Ok):∀ h',x.list.toArray[74]'h'=.int .i64 x.way:=Gw (Rc.c74 h.root h.file)
theorem Rc.at75{x:Rc}(h:x.Ok):∀ h',x.list.toArray[75]'h'=.int .i64 x.index:=Gw (Rc.c75 h.root h.file)
theorem Rc.at76{x:Rc}(h:x.Ok):∀ h',x.list.toArray[76]'h'=.int .i64 x.verdict:=Gw (Rc.c76 h.root h.file)
theorem Rc.at77{x:Rc}(h:x.Ok):∀ h',x.list.toArray[77]'h'=.int .i64 x.tick:=Gw (Rc.c77 h.root h.file)
theorem Zr:z32.length=32:=dX
theorem Lv(x:Rc)(hx:x.Ok)(hk:x.kind=1)(w:World) :
  Calls Tryz.prog 89 #[.agg x.list.toArray] w λe w'=>e=.returned (.agg (x.bare).list.toArray)/\Below w.heap.size w w':=by
 obtain⟨y,hy⟩:∃ y:Rc,y={ x with obj:=0,tick:=0,name:=⟨#[]⟩ }:=⟨_,rfl⟩
 have hC3:(((x.list.toArray.setIfInBounds 1 (Value.int IntKind.i64 0)).setIfInBounds 77 (Value.int IntKind.i64 0)).setIfInBounds 3 (.string ⟨#[]⟩))=y.list.toArray:=by
  rw[Rc.set1,Rc.set77 (x:={ x with obj:=0 }) hx.root hx.file,Rc.set3,hy]
 have hyr:y.root.length=32:=by rw[hy];exact hx.root
 have hyf:y.file.length=32:=by rw[hy];exact hx.file
 have hC4:Qw y.list.toArray 4 (zA6).toList=({ y with p:=P6.zero }:Rc).list.toArray:=by rw[B6];exact Rc.patch_p y P6.zero
 have hC5:Qw ({ y with p:=P6.zero }:Rc).list.toArray 10 (zA32).toList=({ y with p:=P6.zero,root:=z32 }:Rc).list.toArray:=by rw[TP];exact Rc.patch_root (x:={ y with p:=P6.zero }) hyr Zr
 have hC6:Qw ({ y with p:=P6.zero,root:=z32 }:Rc).list.toArray 42 (zA32).toList=({ y with p:=P6.zero,root:=z32,file:=z32 }:Rc).list.toArray:=by rw[TP];exact Rc.patch_file (x:={ y with p:=P6.zero,root:=z32 }) Zr hyf Zr
 have hfin:(({ y with p:=P6.zero,root:=z32,file:=z32 }:Rc).list.toArray).setIfInBounds 0 (Value.int IntKind.i64 0)=(x.bare).list.toArray:=by
  rw[Rc.set0]
  unfold Rc.bare
  rw[if_pos hk,hy]
 have hR:(x.bare).root.length=32/\(x.bare).file.length=32:=by
  unfold Rc.bare
  rw[if_pos hk]
  exact⟨Zr,Zr⟩
 have hs:=Rc.size hx
 have r0:=Rc.at0 x
 rw[hk] at r0
 have hs4:4+(zA6).size<=y.list.toArray.size:=by rw[show y.list.toArray.size=78 from by rw[List.size_toArray,Rc.len hyr hyf]];decide
 have hs5:10+(zA32).size<=({ y with p:=P6.zero }:Rc).list.toArray.size:=by rw[show ({ y with p:=P6.zero }:Rc).list.toArray.size=78 from by rw[List.size_toArray,Rc.len (x:={ y with p:=P6.zero }) hyr hyf]];decide
 have hs6:42+(zA32).size<=({ y with p:=P6.zero,root:=z32 }:Rc).list.toArray.size:=by rw[show ({ y with p:=P6.zero,root:=z32 }:Rc).list.toArray.size=78 from by rw[List.size_toArray,Rc.len (x:={ y with p:=P6.zero,root:=z32 }) Zr hyf]];decide
 have i4:(Tryz.prog.info? 45).map (·.size)=some (zA6).size:=kX
 have i5:(Tryz.prog.info? 47).map (·.size)=some (zA32).size:=kX
 have o4:(zA6).all (·.oneCell')=true:=kX
 have o5:(zA32).all (·.oneCell')=true:=kX
 generalize hR0:x.list.toArray=R at*
 generalize hV4:y.list.toArray=V4 at*
 generalize hV5:({ y with p:=P6.zero }:Rc).list.toArray=V5 at*
 generalize hV6:({ y with p:=P6.zero,root:=z32 }:Rc).list.toArray=V6 at*
 generalize hV7:({ y with p:=P6.zero,root:=z32,file:=z32 }:Rc).list.toArray=V7 at*
 have hVs:(x.bare).list.toArray.size=78:=by rw[List.size_toArray,Rc.len hR.1 hR.2]
 have hVo:=Rc.all_one x.bare
 generalize hV8:(x.bare).list.toArray=V8 at*
 have hX3:Hid (((w.alloc (.cells (((R.setIfInBounds 1 (Value.int IntKind.i64 0)).setIfInBounds 77 (Value.int IntKind.i64 0)).setIfInBounds 3 (.string ⟨#[]⟩)) 49)).alloc (.cells Tryz.zeroCells49 49)).heap[w.heap.size]? = some (.cells V4 49 (0,0))):=Hd (by
  rw[Zz,if_neg sX,Zz,if_pos rfl,hC3])
 have hZ3:Hid (((w.alloc (.cells (((R.setIfInBounds 1 (Value.int IntKind.i64 0)).setIfInBounds 77 (Value.int IntKind.i64 0)).setIfInBounds 3 (.string ⟨#[]⟩)) 49)).alloc (.cells Tryz.zeroCells49 49)).heap[w.heap.size+1]? = some (.cells Tryz.zeroCells49 49 (0,0))):=Hd (by
  rw[Zz,if_pos sX])
 have hb:Hid (Below w.heap.size w ((w.alloc (.cells (((R.setIfInBounds 1 (Value.int IntKind.i64 0)).setIfInBounds 77 (Value.int IntKind.i64 0)).setIfInBounds 3 (.string ⟨#[]⟩)) 49)).alloc (.cells Tryz.zeroCells49 49))):=Hd ((bR.alloc nR _).alloc sX _)
 have hu8:=Tryz.underlying49
 have i8:(Tryz.prog.info? 49).map (·.size)=some V8.size:=by rw[hVs];kernel_rfl
 have z8:(Tryz.zeroCells49).size=V8.size:=by rw[hVs];kernel_rfl
 have hV70:∃ u,V7[0]? = some u:=by rw[<-hV7];exact⟨_,by simp[Rc.list];rfl⟩
 have e6:Hid (Value.agg #[Value.int IntKind.i64 0,Value.int IntKind.i64 0,Value.int IntKind.i64 0,Value.int IntKind.i64 0,Value.int IntKind.i64 0,Value.int IntKind.i64 0]=.agg zA6):=Hd rfl
 have e32:Hid (Value.agg #[Value.int IntKind.u8 0,Value.int IntKind.u8 0,Value.int IntKind.u8 0,Value.int IntKind.u8 0,Value.int IntKind.u8 0,Value.int IntKind.u8 0,Value.int IntKind.u8 0,Value.int IntKind.u8 0,Value.int IntKind.u8 0,Value.int IntKind.u8 0,Value.int IntKind.u8 0,Value.int IntKind.u8 0,Value.int IntKind.u8 0,Value.int IntKind.u8 0,Value.int IntKind.u8 0,Value.int IntKind.u8 0,Value.int IntKind.u8 0,Value.int IntKind.u8 0,Value.int IntKind.u8 0,Value.int IntKind.u8 0,Value.int IntKind.u8 0,Value.int IntKind.u8 0,Value.int IntKind.u8 0,Value.int IntKind.u8 0,Value.int IntKind.u8 0,Value.int IntKind.u8 0,Value.int IntKind.u8 0,Value.int IntKind.u8 0,Value.int IntKind.u8 0,Value.int IntKind.u8 0,Value.int IntKind.u8 0,Value.int IntKind.u8 0]=.agg zA32):=Hd rfl
 generalize zA6=A6 at*
 generalize zA32=A32 at*
 replace hC4:=Hd hC4
 replace hC5:=Hd hC5
 replace hC6:=Hd hC6
 replace hfin:=Hd hfin
 replace hV70:=Hd hV70
 clear hy hyr hyf hR0 hV4 hV5 hV6 hV7 hV8 hR hC3 hVs hk hx
 go_enter Tryz.func89,Tryz.ntmps89
 go_wp2_with (first
  | ((with_reducible refine wL (.store 45 _ _) ?_);(refine ZZ rfl 45 49 (.tmp 13) (.tmp 9) rfl w.heap.size 4 V4 A6 rfl e6.out hX3 i4 hs4 o4 ?_);intro w4 hU4;rw[hC4.out] at hU4;have hX4:=Hd hU4.out.here)
  | ((with_reducible refine wL (.store 47 (.tmp 14) _) ?_);(refine ZZ rfl 47 49 (.tmp 14) (.tmp 10) rfl w.heap.size 10 V5 A32 rfl e32.out hX4 i5 hs5 o5 ?_);intro w5 hU5;rw[hC5.out] at hU5;have hX5:=Hd hU5.out.here)
  | ((with_reducible refine wL (.store 47 (.tmp 15) _) ?_);(refine ZZ rfl 47 49 (.tmp 15) (.tmp 11) rfl w.heap.size 42 V6 A32 rfl e32.out hX5 i5 hs6 o5 ?_);intro w6 hU6;rw[hC6.out] at hU6;have hX6:=Hd hU6.out.here;have hZ6:=Hd ((hU6.out.block _ (Nat.succ_ne_self _)).trans ((hU5.out.block _ (Nat.succ_ne_self _)).trans ((hU4.out.block _ (Nat.succ_ne_self _)).trans hZ3.out)));have hb6:=Hd (((hb.out.trans (hU4.out.below nR)).trans (hU5.out.below nR)).trans (hU6.out.below nR));obtain⟨u0,hu0⟩:=hV70.out;have c60:w6.cell? ⟨w.heap.size,0,none⟩=some u0:=(by rw[Za hX6.out];exact hu0);have f60:w6.frozen? ⟨w.heap.size,0,none⟩=false:=Zj hX6.out _;have hU7:=(Upd.refl hX6.out).setCell (j:=0) (Value.int IntKind.i64 0);rw[hfin.out] at hU7;replace hU7:=Hd hU7;have hX7:=Hd hU7.out.here;have hZ7:=Hd ((hU7.out.block _ (Nat.succ_ne_self _)).trans hZ6.out);have hb7:=Hd (hb6.out.trans (hU7.out.below nR));clear hu0)
  | ((with_reducible refine wL (.load 49 (.tmp 1)) ?_);refine Zd rfl 49 (.tmp 1) rfl w.heap.size V8 _ rfl hX7 hu8 rfl i8 ?_)
  | ((with_reducible refine wL (.store 49 (.tmp 2) _) ?_);(refine Zc rfl 49 (.tmp 2) (.tmp 26) rfl (w.heap.size+1) _ V8 rfl rfl hZ7 i8 z8 hVo ?_);intro w8 hU8))
 exact ZE rfl rfl hu8 rfl i8 hU8.out.here ⟨rfl,hb7.out.trans (hU8.out.below (Nat.le_succ _))⟩
theorem LU(x:Rc)(hx:x.Ok)(w:World):Calls Tryz.prog 89 #[.agg x.list.toArray] w λe w'=>e=.returned (.agg (x.bare).list.toArray)/\Below w.heap.size w w':=by
 by_cases h1:x.kind=1
 ·exact Lv x hx h1 w
 ·by_cases h2:x.kind=2
  ·have h:=LO x.list.toArray (Rc.size hx) (by rw[<-h2];exact Rc.at0 x) (Rc.all_one x) w
   rw[Rc.set1,Rc.set77 (x:={ x with obj:=0 }) hx.root hx.file,Rc.set74 (x:={ x with obj:=0,tick:=0 }) hx.root hx.file,Rc.set75 (x:={ x with obj:=0,tick:=0,way:=0 }) hx.root hx.file,Rc.set2,Rc.set0] at h
   have e:x.bare={ x with obj:=0,tick:=0,way:=0,index:=0,id:=0,kind:=0 }:=by unfold Rc.bare;rw[if_neg h1,if_pos h2]
   rw[e]
   exact h
  ·by_cases h3:x.kind=3
   ·have h:=TS x.list.toArray (Rc.size hx) (by rw[<-h3];exact Rc.at0 x) (Rc.all_one x) w
    rw[Rc.set1,Rc.set77 (x:={ x with obj:=0 }) hx.root hx.file,Rc.set76 (x:={ x with obj:=0,tick:=0 }) hx.root hx.file,Rc.set2,Rc.set0] at h
    have e:x.bare={ x with obj:=0,tick:=0,verdict:=0,id:=0,kind:=0 }:=by unfold Rc.bare;rw[if_neg h1,if_neg h2,if_pos h3]
    rw[e]
    exact h
   ·have h:=Pr x.list.toArray x.kind h1 h2 h3 (Rc.size hx) (Rc.at0 x) (Rc.all_one x) w
    rw[Rc.set1,Rc.set77 (x:={ x with obj:=0 }) hx.root hx.file,Rc.set0] at h
    have e:x.bare={ x with obj:=0,tick:=0,kind:=0 }:=by unfold Rc.bare;rw[if_neg h1,if_neg h2,if_neg h3]
    rw[e]
    exact h
theorem Rc.bare_ok{x:Rc}(h:x.Ok):(x.bare).Ok:=by
 obtain⟨a1,a2,a3,a4,a5,a6,a7,a8,a9,a10,a11⟩:=h
 have z:inI 0:=dX
 have zs:(⟨#[]⟩:ByteArray).size<=maxLen:=dX
 have zp:P6.zero.Ok:=⟨dX,dX,dX,dX,dX,dX⟩
 unfold Rc.bare
 split
 ·exact⟨z,z,a3,zs,zp,Zr,Zr,a8,a9,a10,z⟩
 ·split
  ·exact⟨z,z,z,a4,a5,a6,a7,z,z,a10,z⟩
  ·split
   ·exact⟨z,z,z,a4,a5,a6,a7,a8,a9,z,z⟩
   ·exact⟨z,z,a3,a4,a5,a6,a7,a8,a9,a10,z⟩
def Rc.nums(x:Rc):Bool:=XS x.kind x.obj x.id x.way x.index x.verdict x.tick
theorem Tr(x:Rc)(hx:x.Ok)(w:World):Calls Tryz.prog 86 #[.agg x.list.toArray] w λe w'=>e=.returned (.bool x.nums)/\Below w.heap.size w w':=by
 unfold Rc.nums
 by_cases h2:x.kind=2
 ·have h:=T3 x.list.toArray x.obj x.id x.way x.index x.verdict x.tick (Rc.size hx) (by rw[<-h2];exact Rc.at0 x) (Rc.at1 x) (Rc.at2 x) (Rc.at74 hx) (Rc.at75 hx) (Rc.at77 hx) w
  rw[h2]
  exact h
 ·by_cases h3:x.kind=3
  ·have h:=Mq x.list.toArray x.obj x.id x.way x.index x.verdict x.tick (Rc.size hx) (by rw[<-h3];exact Rc.at0 x) (Rc.at1 x) (Rc.at2 x) (Rc.at76 hx) (Rc.at77 hx) w
   rw[h3]
   exact h
  ·exact Mn x.list.toArray x.kind x.obj x.id x.way x.index x.verdict x.tick (Rc.size hx) (Rc.at0 x) (Rc.at1 x) (Rc.at77 hx) h2 h3 w
theorem Tryz.infoIntP:(Tryz.prog.info? 3).map (λi=>(i.zero,i.size,i.bytes))=some (some (.int .i64 0),1,8):=kX
def OwnI(base:Nat)(w:World)(v:Value)(zs:List Int):Prop:=w.ownsRow base 3 1 v zs.length (cI zs)
theorem OwnI.nil(base:Nat)(w:World):OwnI base w (.slice none 0 0) []:=⟨rfl,.inl ⟨rfl,rfl⟩⟩
theorem OwnI.row{base:Nat}{w:World}{v:Value}{zs:List Int}(h:OwnI base w v zs):∃ a c,v=.slice a zs.length c/\zs.length<=c/\c<=maxLen/\(a=none->c=0)/\BZ .i64 w a zs/\∀ b o s,a=some ⟨b,o,s⟩->base<=b/\b<w.heap.size:=by
 obtain⟨a,c,rfl,h1,h2,h3,h4,_,h5⟩:=MZ h
 rw[UP] at h2
 exact⟨a,c,by rw[UP],h2,h3,h1,h4.toI,h5⟩
section
variable {w:World} {ops:Array Oper} {rest:List Oper} {o:Oper} {a:Act} {Q:Exit->Act->World->Prop}
theorem Hx(hgd:o.guard=none)(s x:Operand)(ho:o.op=.call { callee:=.builtin .append,args:=#[s,x],argTypes:=#[168,168] })
  (base:Nat) (v:Value) (bs:List Int) (hs:a.eval s=v) (hown:Hid (OwnI base w v bs))
  (u:Int) (hx:a.eval x=.slice (some ⟨w.heap.size,0,none⟩) 1 1) (hl:bs.length<=1000000) (hbase:base<=w.heap.size)
  (h:∀ v' w',Hid (OwnI base w' v' (bs++[u]))->Hid (Below base w w')->wpList Tryz.prog ops Q rest (a.put o.dst v') w') :
  wpList Tryz.prog ops Q (o::rest) a (w.alloc (.cells #[.int .i64 u] 3)):=by
 obtain⟨i0,hi,hz0,hz1,hz2⟩:=info_parts Tryz.infoIntP
 refine Ua hgd s x 168 ho base 3 i0 (.int .i64 0) 8 Tryz.underlying168 hi hz0 hz1 hz2 rfl v bs.length (cI bs) hs (Hd hown.out) (.int .i64 u) hx rfl c6X oX hbase ?_
 intro v' w' h1 h2 _
 refine h v' w' (Hd ?_) (Hd ((Below.refl base w).grown h2.out hbase (λk hk=>(World.ownsRow.lt hown.out k hk).1)))
 unfold OwnI
 rw[Lr,List.length_append]
 exact h1.out
end
open Go.RowKit Go.ChangeShapes
def DG(nm:String)(text:List UInt8):DataW Unit:=.iface nm (.ptr (.agg [.lit (.string text)]))
section
variable {P:Program} {nm:String} {W:World} {ti tp te ts:TypeId} {ms:Array (String×TypeId)} {f:Field}
theorem PS(hi:P.underlying ti=some (.interface ms))(hrow:∀ u,P.typeName? 3 u=some nm->u=tp)
  (hp:P.underlying tp=some (.pointer te)) (he:P.underlying te=some (.struct #[f])) (hft:f.type=ts) (hfo:f.offset=0) (hs:P.underlying ts=some .string) (hc:P.cellsOf te=1) (hcs:P.cellsOf ts=1)
  (R:List (String×DataW Unit)):∀ (L:List (String×List UInt8)) (gs:List Nat) (ps:List MemPlace),L.length=gs.length->
  (L.zip gs).all (λx=>decide (P.globalNamed x.1.1=some x.2)&&decide ((P.globals[x.2]?).map (·.type)=some ti))=true->
  DataW.LaidVars P W (L.map (λx=>(x.1,DG nm x.2))++R) ps->ps.Nodup->
  (∀ b off,MemPlace.cell b off∈ps->(∃ c t,W.heap[b]? = some (.cells c t (0,0)))/\∀ u v,W.cell? ⟨b,off,none⟩=some (.iface u v)->Value.okWide P W .any 0 u v)->
  ∃ als:List Addr,als.length=gs.length/\als.Nodup/\(∀ a∈als,MemPlace.cell a.block a.off∈ps/\a.spot=none/\∃ c t,W.heap[a.block]? = some (.cells c t (0,0)))/\
   ∀ i,i<gs.length->∃ a,als[i]? = some a/\W.cell? ⟨gs.getD i 0,0,none⟩=some (.iface tp (.pointer (some a))):=by
 intro L
 induction L with
 | nil=>
  intro gs ps hl _ _ _ _
  have:gs=[]:=by cases gs<;>simp_all
  subst this
  exact⟨[],rfl,List.nodup_nil,λa h=>(by cases h),λi h=>(by simp at h)⟩
 | cons x L ih=>
  intro gs ps hl hg hv hnd hrows
  cases gs with
  | nil=>simp at hl
  | cons g gs=>
   simp only[List.zip_cons_cons,List.all_cons,Bool.and_eq_true,decide_eq_true_eq] at hg
   obtain⟨⟨hg0,ht0⟩,hg'⟩:=hg
   simp only[List.map_cons,List.cons_append] at hv
   obtain⟨g0,t0,cs0,f0,p0,q0,hg0',ht0',hv0,hd0,hr0,e0⟩:=hv
   obtain rfl:=Option.some.inj (hg0.symm.trans hg0')
   obtain rfl:=Option.some.inj (ht0.symm.trans ht0')
   subst e0
   obtain⟨l0⟩:=cs0
   have ok0:∀ u v,l0=[.iface u v]->Value.okWide P W .any 0 u v:=λu v e=>by
    subst e
    exact(hrows g 0 (by simp[MemPlace.row])).2 u v (by simpa using World.var?_cell hg0' hv0 0)
   obtain⟨a0,s0,rfl,hc0,hs0,hz0,rfl⟩:=errorString_of_trod hi hrow hp he hft hfo hs hc hcs hd0 ok0
   have hm0:MemPlace.cell a0.block a0.off∈MemPlace.row ⟨g,0,none⟩ [Value.iface tp (.pointer (some a0))].toArray.size++MemPlace.row a0 1++q0:=by simp[MemPlace.row]
   have hsp0:a0.spot=none:=World.cell?_spot hc0
   obtain⟨als,h1,h2,h3,h4⟩:=ih gs q0 (by simpa using hl) hg' hr0 (List.Nodup.sublist (List.sublist_append_right _ _) hnd) (λb off hm=>hrows b off (List.mem_append_right _ hm))
   refine⟨a0::als,by simp[h1],?_,?_,?_⟩
   ·rw[List.nodup_cons]
    refine⟨λhm=>?_,h2⟩
    have hq:=(h3 a0 hm).1
    rw[List.append_assoc,List.nodup_append] at hnd
    have hnd2:=(List.nodup_append.1 hnd.2.1).2.2
    exact hnd2 (MemPlace.cell a0.block a0.off) (by simp[MemPlace.row]) (MemPlace.cell a0.block a0.off) hq rfl
   ·intro a ha
    rcases List.mem_cons.1 ha with rfl|ha
    ·exact⟨hm0,hsp0,(hrows _ _ hm0).1⟩
    ·obtain⟨k1,k2,k3⟩:=h3 a ha
     exact⟨List.mem_append_right _ k1,k2,k3⟩
   ·intro i hi'
    cases i with
    | zero=>exact⟨a0,rfl,by simpa using World.var?_cell hg0' hv0 0⟩
    | succ i=>
     obtain⟨a,k1,k2⟩:=h4 i (by simpa using hi')
     exact⟨a,by simpa using k1,by simpa using k2⟩
end
structure Errs (tp:TypeId) (gs:List Nat) (w:World) (a:Nat->Addr):Prop where
 var:∀ i,i<gs.length->w.cell? ⟨gs.getD i 0,0,none⟩=some (.iface tp (.pointer (some (a i))))
 obj:∀ i,i<gs.length->∃ c t,w.heap[(a i).block]? = some (.cells c t (0,0))
 inj:∀ i j,i<gs.length->j<gs.length->a i=a j->gs.getD i 0=gs.getD j 0
theorem Errs.inj'{tp:TypeId}{gs:List Nat}{w:World}{a:Nat->Addr}(h:Errs tp gs w a)(hn:gs.Nodup)(i j:Nat)(hi:i<gs.length)(hj:j<gs.length)(e:a i=a j):i=j:=by
 have h1:=h.inj i j hi hj e
 rw[List.getD_eq_getElem?_getD,List.getD_eq_getElem?_getD,List.getElem?_eq_getElem hi,List.getElem?_eq_getElem hj] at h1
 exact(List.getElem_inj hn).1 h1
theorem Errs.below{tp:TypeId}{gs:List Nat}{w w':World}{a:Nat->Addr}(h:Errs tp gs w a)(hb:Below w.heap.size w w'):Errs tp gs w' a:=by
 refine⟨λi hi=>?_,λi hi=>?_,h.inj⟩
 ·have h1:=h.var i hi
  exact(hb.cell (World.block_lt_of_cell? w _ h1)).trans h1
 ·obtain⟨c,t,h1⟩:=h.obj i hi
  exact⟨c,t,(hb.block _ (Zb h1)).trans h1⟩
theorem Errs.of_list{tp:TypeId}{gs:List Nat}{w:World}{als:List Addr}(h1:als.length=gs.length)(h2:als.Nodup)(h3:∀ a∈als,∃ c t,w.heap[a.block]? = some (.cells c t (0,0)))
  (h4:∀ i,i<gs.length->∃ a,als[i]? = some a/\w.cell? ⟨gs.getD i 0,0,none⟩=some (.iface tp (.pointer (some a)))):Errs tp gs w (λi=>als.getD i ⟨0,0,none⟩):=by
 refine⟨λi hi=>?_,λi hi=>?_,λi j hi hj e=>?_⟩
 ·obtain⟨a,k1,k2⟩:=h4 i hi
  simpa[List.getD_eq_getElem?_getD,k1] using k2
 ·obtain⟨a,k1,k2⟩:=h4 i hi
  have:=h3 a (List.mem_of_getElem? k1)
  simpa[List.getD_eq_getElem?_getD,k1] using this
 ·have hi':i<als.length:=oX
  have hj':j<als.length:=oX
  simp[hi',hj'] at e
  have e2:=(List.getElem_inj h2).1 e
  rw[e2]
end Go.Proofs.YtpdhceiodgnbmaaGreatDoor
