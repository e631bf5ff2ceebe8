import Derived.Test.YtpdhceiodgnbmaaGreatDoorF0FollowsSaid
import Derived.Test.YtpdhceiodgnbmaaGreatDoorF1FollowsSaid
import Derived.Test.YtpdhceiodgnbmaaGreatDoorF6FollowsSaid
import Derived.Test.YtpdhceiodgnbmaaGreatDoorChecked
import Derived.MapViews
import Derived.Test.YtpdhceiodgnbmaaGreatDoorRows
import Derived.Outline
import Derived.Stop.LaidErr
import Derived.LaidHandle
import Derived.LaidMore
set_option linter.unusedVariables false
set_option linter.unusedSimpArgs false
set_option linter.unnecessarySimpa false
set_option maxRecDepth 100000
set_option maxHeartbeats 8000000
namespace Go.Proofs.YtpdhceiodgnbmaaGreatDoor
open Go.RowKit
structure Rc where
 kind:Int
 obj:Int
 id:Int
 name:ByteArray
 p:P6
 root:List UInt8
 file:List UInt8
 way:Int
 index:Int
 verdict:Int
 tick:Int
deriving DecidableEq
def z32:List UInt8:=List.replicate 32 0
def P6.zero:P6:=⟨0,0,0,0,0,0⟩
def Rc.zero:Rc:=⟨0,0,0,⟨#[]⟩,P6.zero,z32,z32,0,0,0,0⟩
def Rc.list(x:Rc):List Value:=[.int .i64 x.kind,.int .i64 x.obj,.int .i64 x.id,.string x.name]++(x.p.list++(cB x.root++(cB x.file++[.int .i64 x.way,.int .i64 x.index,.int .i64 x.verdict,.int .i64 x.tick])))
def Rc.lits(x:Rc):List Lit:=[.int .i64 x.kind,.int .i64 x.obj,.int .i64 x.id,.string x.name.data.toList]++(x.p.lits++(Qm x.root++(Qm x.file++[.int .i64 x.way,.int .i64 x.index,.int .i64 x.verdict,.int .i64 x.tick])))
structure Rc.Ok (x:Rc):Prop where
 kind:inI x.kind
 obj:inI x.obj
 id:inI x.id
 name:x.name.size<=maxLen
 p:x.p.Ok
 root:x.root.length=32
 file:x.file.length=32
 way:inI x.way
 index:inI x.index
 verdict:inI x.verdict
 tick:inI x.tick
theorem Rc.zero_ok:Rc.zero.Ok:=⟨dX,dX,dX,dX,⟨dX,dX,dX,dX,dX,dX⟩,dX,dX,dX,dX,dX,dX⟩
theorem P6.len(p:P6):p.list.length=6:=rfl
theorem Rc.len{x:Rc}(h1:x.root.length=32)(h2:x.file.length=32):x.list.length=78:=by
 simp[Rc.list,P6.len,Zd,h1,h2]
theorem P6.one(p:P6):∀ u∈p.list,u.oneCell'=true:=by
 intro u hu
 simp only[P6.list,List.mem_cons,List.not_mem_nil,or_false] at hu
 rcases hu with rfl|rfl|rfl|rfl|rfl|rfl<;>rfl
theorem Rc.one(x:Rc):∀ u∈x.list,u.oneCell'=true:=by
 intro u hu
 simp only[Rc.list,List.mem_append,List.mem_cons,List.not_mem_nil,or_false] at hu
 rcases hu with (rfl|rfl|rfl|rfl)|hu|hu|hu|(rfl|rfl|rfl|rfl)
 all_goals first|rfl|exact P6.one _ u hu|exact ZU _ u hu
theorem RP{l:List Value}(h:∀ u∈l,u.oneCell'=true):l.toArray.all (·.oneCell')=true:=by
 rw[Array.all_eq_true']
 intro u hu
 exact h u (by simpa using hu)
theorem Rc.all_one(x:Rc):x.list.toArray.all (·.oneCell')=true:=RP x.one
theorem Rc.parts(x:Rc):x.list=([.int .i64 x.kind,.int .i64 x.obj,.int .i64 x.id,.string x.name]++x.p.list++cB x.root++cB x.file)++[.int .i64 x.way,.int .i64 x.index,.int .i64 x.verdict,.int .i64 x.tick]:=by simp[Rc.list]
theorem Rc.head74{x:Rc}(h1:x.root.length=32)(h2:x.file.length=32):([.int .i64 x.kind,.int .i64 x.obj,.int .i64 x.id,.string x.name]++x.p.list++cB x.root++cB x.file:List Value).length=74:=by simp[P6.len,Zd,h1,h2]
theorem Rc.c0(x:Rc):x.list[0]? = some (.int .i64 x.kind):=rfl
theorem Rc.c1(x:Rc):x.list[1]? = some (.int .i64 x.obj):=rfl
theorem Rc.c2(x:Rc):x.list[2]? = some (.int .i64 x.id):=rfl
theorem Rc.c3(x:Rc):x.list[3]? = some (.string x.name):=rfl
theorem Rc.c74{x:Rc}(h1:x.root.length=32)(h2:x.file.length=32):x.list[74]? = some (.int .i64 x.way):=by
 rw[Rc.parts,List.getElem?_append_right (by rw[Rc.head74 h1 h2];decide),Rc.head74 h1 h2];rfl
theorem Rc.c75{x:Rc}(h1:x.root.length=32)(h2:x.file.length=32):x.list[75]? = some (.int .i64 x.index):=by
 rw[Rc.parts,List.getElem?_append_right (by rw[Rc.head74 h1 h2];decide),Rc.head74 h1 h2];rfl
theorem Rc.c76{x:Rc}(h1:x.root.length=32)(h2:x.file.length=32):x.list[76]? = some (.int .i64 x.verdict):=by
 rw[Rc.parts,List.getElem?_append_right (by rw[Rc.head74 h1 h2];decide),Rc.head74 h1 h2];rfl
theorem Rc.c77{x:Rc}(h1:x.root.length=32)(h2:x.file.length=32):x.list[77]? = some (.int .i64 x.tick):=by
 rw[Rc.parts,List.getElem?_append_right (by rw[Rc.head74 h1 h2];decide),Rc.head74 h1 h2];rfl
theorem Rc.sub_p(x:Rc):(x.list.drop 4).take 6=x.p.list:=XZ rfl rfl
theorem Rc.sub_root{x:Rc}(h1:x.root.length=32):(x.list.drop 10).take 32=cB x.root:=by
 have e:x.list=([.int .i64 x.kind,.int .i64 x.obj,.int .i64 x.id,.string x.name]++x.p.list)++(cB x.root++(cB x.file++[.int .i64 x.way,.int .i64 x.index,.int .i64 x.verdict,.int .i64 x.tick])):=by simp[Rc.list]
 rw[e]
 exact XZ rfl (by rw[Zd,h1])
theorem Rc.sub_file{x:Rc}(h1:x.root.length=32)(h2:x.file.length=32):(x.list.drop 42).take 32=cB x.file:=by
 have e:x.list=([.int .i64 x.kind,.int .i64 x.obj,.int .i64 x.id,.string x.name]++x.p.list++cB x.root)++(cB x.file++[.int .i64 x.way,.int .i64 x.index,.int .i64 x.verdict,.int .i64 x.tick]):=by simp[Rc.list]
 rw[e]
 exact XZ (by simp[P6.len,Zd,h1]) (by rw[Zd,h2])
theorem Rc.set0(x:Rc)(n:Int):x.list.toArray.setIfInBounds 0 (.int .i64 n)=({ x with kind:=n }:Rc).list.toArray:=by simp[Rc.list]
theorem Rc.set1(x:Rc)(n:Int):x.list.toArray.setIfInBounds 1 (.int .i64 n)=({ x with obj:=n }:Rc).list.toArray:=by simp[Rc.list]
theorem Rc.set2(x:Rc)(n:Int):x.list.toArray.setIfInBounds 2 (.int .i64 n)=({ x with id:=n }:Rc).list.toArray:=by simp[Rc.list]
theorem Rc.set3(x:Rc)(s:ByteArray):x.list.toArray.setIfInBounds 3 (.string s)=({ x with name:=s }:Rc).list.toArray:=by simp[Rc.list]
theorem Xt{A B:List Value}{n k:Nat}(h:A.length=n)(u:Value):((A++B).toArray.setIfInBounds (n+k) u)=(A++B.set k u).toArray:=by
 rw[List.setIfInBounds_toArray,List.set_append_right _ _ oX,h,Nat.add_sub_cancel_left]
theorem Rc.set74{x:Rc}(h1:x.root.length=32)(h2:x.file.length=32)(n:Int):x.list.toArray.setIfInBounds 74 (.int .i64 n)=({ x with way:=n }:Rc).list.toArray:=by
 rw[Rc.parts,Rc.parts,show (74:Nat)=74+0 from rfl,Xt (Rc.head74 h1 h2)];rfl
theorem Rc.set75{x:Rc}(h1:x.root.length=32)(h2:x.file.length=32)(n:Int):x.list.toArray.setIfInBounds 75 (.int .i64 n)=({ x with index:=n }:Rc).list.toArray:=by
 rw[Rc.parts,Rc.parts,show (75:Nat)=74+1 from rfl,Xt (Rc.head74 h1 h2)];rfl
theorem Rc.set76{x:Rc}(h1:x.root.length=32)(h2:x.file.length=32)(n:Int):x.list.toArray.setIfInBounds 76 (.int .i64 n)=({ x with verdict:=n }:Rc).list.toArray:=by
 rw[Rc.parts,Rc.parts,show (76:Nat)=74+2 from rfl,Xt (Rc.head74 h1 h2)];rfl
theorem Rc.set77{x:Rc}(h1:x.root.length=32)(h2:x.file.length=32)(n:Int):x.list.toArray.setIfInBounds 77 (.int .i64 n)=({ x with tick:=n }:Rc).list.toArray:=by
 rw[Rc.parts,Rc.parts,show (77:Nat)=74+3 from rfl,Xt (Rc.head74 h1 h2)];rfl
theorem JB{A B C D:List Value}{n:Nat}(h:A.length=n)(hb:B.length=D.length):ZG (A++(B++C)).toArray n D=(A++(D++C)).toArray:=by
 unfold ZG
 subst h
 rw[List.toList_toArray,List.take_left,<-hb,<-List.drop_drop,List.drop_left,List.drop_left]
theorem Rc.patch_p(x:Rc)(p:P6):ZG x.list.toArray 4 p.list=({ x with p:=p }:Rc).list.toArray:=JB rfl rfl
theorem Rc.patch_root{x:Rc}(h1:x.root.length=32){r:List UInt8}(hr:r.length=32):ZG x.list.toArray 10 (cB r)=({ x with root:=r }:Rc).list.toArray:=by
 have e:∀ x:Rc,x.list=([.int .i64 x.kind,.int .i64 x.obj,.int .i64 x.id,.string x.name]++x.p.list)++(cB x.root++(cB x.file++[.int .i64 x.way,.int .i64 x.index,.int .i64 x.verdict,.int .i64 x.tick])):=λx=>by simp[Rc.list]
 rw[e x,e]
 exact JB (n:=10) rfl (by rw[Zd,Zd,h1,hr])
theorem Rc.patch_file{x:Rc}(h1:x.root.length=32)(h2:x.file.length=32){r:List UInt8}(hr:r.length=32):ZG x.list.toArray 42 (cB r)=({ x with file:=r }:Rc).list.toArray:=by
 have e:∀ x:Rc,x.list=([.int .i64 x.kind,.int .i64 x.obj,.int .i64 x.id,.string x.name]++x.p.list++cB x.root)++(cB x.file++[.int .i64 x.way,.int .i64 x.index,.int .i64 x.verdict,.int .i64 x.tick]):=λx=>by simp[Rc.list]
 rw[e x,e]
 exact JB (n:=42) (by simp[P6.len,Zd,h1]) (by rw[Zd,Zd,h2,hr])
theorem J4{a b:ByteArray}(h:a.data.toList=b.data.toList):a=b:=by
 cases a;cases b
 simp only[ByteArray.mk.injEq]
 exact Array.ext' h
theorem Rc.lits_inj{x y:Rc}(hx:x.root.length=32)(hx2:x.file.length=32)(hy:y.root.length=32)(hy2:y.file.length=32)(h:x.lits=y.lits):x=y:=by
 unfold Rc.lits at h
 obtain⟨h1,h2⟩:=List.append_inj h rfl
 obtain⟨h3,h4⟩:=List.append_inj h2 rfl
 obtain⟨h5,h6⟩:=List.append_inj h4 (by simp[Qm,hx,hy])
 obtain⟨h7,h8⟩:=List.append_inj h6 (by simp[Qm,hx2,hy2])
 simp only[List.cons.injEq,Lit.string.injEq,Lit.int.injEq,true_and,and_true] at h1 h8
 obtain⟨a1,a2,a3,a4⟩:=h1
 obtain⟨b1,b2,b3,b4⟩:=h8
 have e1:=J4 a4
 have e2:=P6.lits_inj h3
 have e3:=Xi h5
 have e4:=Xi h7
 cases x;cases y
 simp only at*
 subst e1 e2 e3 e4 a1 a2 a3 b1 b2 b3 b4
 rfl
section
variable {P:Program}
theorem MQ{t ts tp td i64:TypeId}{fs:Array Field}(ht:P.underlying t=some (.struct fs))(hq:fs.toList.map (λf=>(f.type,f.offset))=[(i64,0),(i64,1),(i64,2),(ts,3),(tp,4),(td,10),(td,42),(i64,74),(i64,75),(i64,76),(i64,77)])(hn:fs.all (·.name != "_")=true)
  (hi:P.underlying i64=some (.int .i64)) (hs:P.underlying ts=some .string) (hp:∀ p:P6,p.Ok->∀ d,P.keyLits (d+2) tp p.list=some p.lits) (hd:∀ f:List UInt8,f.length=32->∀ d,P.keyLits (d+2) td (cB f)=some (Qm f))
  (ci:P.cellsOf i64=1) (cs:P.cellsOf ts=1) (cp:P.cellsOf tp=6) (cd:P.cellsOf td=32) (ct:P.cellsOf t=78) (x:Rc) (h:x.Ok) (d:Nat):P.keyLits (d+3) t x.list=some x.lits:=by
 have s1:∀ {o:Nat} {v:Value},x.list[o]? = some v->(x.list.drop o).take 1=[v]:=fun {o v} hv=>by
  have hlt:=(List.getElem?_eq_some_iff.1 hv).1
  rw[List.drop_eq_getElem_cons hlt]
  rw[List.getElem?_eq_getElem hlt,Option.some.injEq] at hv
  rw[hv];rfl
 have e1:∀ n:Int,inI n->P.keyLits (d+2) i64 [.int .i64 n]=some [.int .i64 n]:=λn h=>Y6 hi (VZ h)
 have e:=Xq (d:=d+2) (cs:=x.list) (ls:=[[.int .i64 x.kind],[.int .i64 x.obj],[.int .i64 x.id],[.string x.name.data.toList],x.p.lits,Qm x.root,Qm x.file,[.int .i64 x.way],[.int .i64 x.index],[.int .i64 x.verdict],[.int .i64 x.tick]]) ht hq hn (by rw[ct,Rc.len h.root h.file]) (by
  simp only[List.mapM_cons,List.mapM_nil,ci,cs,cp,cd,s1 x.c0,s1 x.c1,s1 x.c2,s1 x.c3,s1 (Rc.c74 h.root h.file),s1 (Rc.c75 h.root h.file),s1 (Rc.c76 h.root h.file),s1 (Rc.c77 h.root h.file),Rc.sub_p,Rc.sub_root h.root,Rc.sub_file h.root h.file,hp x.p h.p d,hd x.root h.root d,hd x.file h.file d,Vv hs h.name,e1 _ h.kind,e1 _ h.obj,e1 _ h.id,e1 _ h.way,e1 _ h.index,e1 _ h.verdict,e1 _ h.tick,Option.bind_eq_bind,Option.bind_some,Option.pure_def])
 rw[e]
 simp[Rc.lits]
theorem Ki{d:Nat}{t ts tp td i64:TypeId}{f0 f1 f2 f3 f4 f5 f6 f7 f8 f9 f10:Field}{cs:List Value}{l:List Lit}(ht:P.underlying t=some (.struct #[f0,f1,f2,f3,f4,f5,f6,f7,f8,f9,f10]))(hq : [f0,f1,f2,f3,f4,f5,f6,f7,f8,f9,f10].map (λf=>(f.type,f.offset))=[(i64,0),(i64,1),(i64,2),(ts,3),(tp,4),(td,10),(td,42),(i64,74),(i64,75),(i64,76),(i64,77)])
  (hi:P.underlying i64=some (.int .i64)) (hs:P.underlying ts=some .string) (hp:∀ cs l,P.keyLits (d+1) tp cs=some l->∃ p:P6,cs=p.list/\p.Ok) (hd:∀ cs l,P.keyLits (d+1) td cs=some l->∃ f:List UInt8,cs=cB f/\f.length=32)
  (ci:P.cellsOf i64=1) (cns:P.cellsOf ts=1) (cp:P.cellsOf tp=6) (cd:P.cellsOf td=32) (ct:P.cellsOf t=78) (h:P.keyLits (d+2) t cs=some l):∃ x:Rc,cs=x.list/\x.Ok:=by
 obtain⟨hl,hf⟩:=Jf ht h
 rw[ct] at hl
 simp only[List.map_cons,List.map_nil,List.cons.injEq,Prod.mk.injEq,and_true] at hq
 obtain⟨⟨a0,b0⟩,⟨a1,b1⟩,⟨a2,b2⟩,⟨a3,b3⟩,⟨a4,b4⟩,⟨a5,b5⟩,⟨a6,b6⟩,⟨a7,b7⟩,⟨a8,b8⟩,⟨a9,b9⟩,⟨a10,b10⟩⟩:=hq
 have cell:∀ (o:Nat) (f:Field) (i:Nat),(#[f0,f1,f2,f3,f4,f5,f6,f7,f8,f9,f10]:Array Field)[i]? = some f->f.type=i64->f.offset=o->∃ n,(cs.drop o).take 1=[.int .i64 n]/\inI n:=λo f i hg ht' ho=>by
  obtain⟨lf,h1⟩:=hf i f hg
  rw[ht',ho,ci] at h1
  obtain⟨n,e1,e2⟩:=keyLits_int' hi h1
  refine⟨n,e1,?_⟩
  rw[e1] at h1
  unfold Program.keyLits at h1
  simp only[hi] at h1
  split at h1
  ·next hh=>exact HN hh.2
  ·cases h1
 obtain⟨n0,e0,w0⟩:=cell 0 f0 0 rfl a0 b0
 obtain⟨n1,e1,w1⟩:=cell 1 f1 1 rfl a1 b1
 obtain⟨n2,e2,w2⟩:=cell 2 f2 2 rfl a2 b2
 obtain⟨l3,h3⟩:=hf 3 f3 rfl
 obtain⟨l4,h4⟩:=hf 4 f4 rfl
 obtain⟨l5,h5⟩:=hf 5 f5 rfl
 obtain⟨l6,h6⟩:=hf 6 f6 rfl
 rw[a3,b3,cns] at h3
 rw[a4,b4,cp] at h4
 rw[a5,b5,cd] at h5
 rw[a6,b6,cd] at h6
 obtain⟨n7,e7,w7⟩:=cell 74 f7 7 rfl a7 b7
 obtain⟨n8,e8,w8⟩:=cell 75 f8 8 rfl a8 b8
 obtain⟨n9,e9,w9⟩:=cell 76 f9 9 rfl a9 b9
 obtain⟨n10,e10,w10⟩:=cell 77 f10 10 rfl a10 b10
 obtain⟨s,e3,_⟩:=keyLits_string' hs h3
 obtain⟨p,e4,w4⟩:=hp _ _ h4
 obtain⟨r,e5,w5⟩:=hd _ _ h5
 obtain⟨f,e6,w6⟩:=hd _ _ h6
 have ws:s.size<=maxLen:=by
  rw[e3] at h3
  unfold Program.keyLits at h3
  simp only[hs] at h3
  split at h3
  ·next hh=>exact hh
  ·cases h3
 refine⟨⟨n0,n1,n2,s,p,r,f,n7,n8,n9,n10⟩,?_,w0,w1,w2,ws,w4,w5,w6,w7,w8,w9,w10⟩
 have e:=ZL e0
 rw[List.drop_zero,ZL e1,ZL e2,ZL e3,ZL e4,ZL e5,ZL e6,ZL e7,ZL e8,ZL e9,ZL e10,List.drop_of_length_le (i:=77+1) oX] at e
 rw[e]
 simp[Rc.list]
end
theorem K2(p:P6)(h:p.Ok)(d:Nat):Tryz.prog.keyLits (d+2) 45 p.list=some p.lits:=Vq Tryz.underlying45 rfl kX Tryz.underlying3 kX kX p h d
theorem J8(p:P6)(h:p.Ok)(d:Nat):Tryz.prog.keyLits (d+2) 52 p.list=some p.lits:=Vq Tryz.underlying52 rfl kX Tryz.underlying3 kX kX p h d
theorem Nk(f:List UInt8)(h:f.length=32)(d:Nat):Tryz.prog.keyLits (d+2) 47 (cB f)=some (Qm f):=Jy Tryz.underlying47 Tryz.underlying5 kX kX f h
theorem VI(f:List UInt8)(h:f.length=32)(d:Nat):Tryz.prog.keyLits (d+2) 46 (cB f)=some (Qm f):=Jy Tryz.underlying46 Tryz.underlying5 kX kX f h
theorem KJ(x:Rc)(h:x.Ok)(d:Nat):Tryz.prog.keyLits (d+3) 49 x.list=some x.lits:=MQ Tryz.underlying49 rfl kX Tryz.underlying3 Tryz.underlying9 K2 Nk kX kX kX kX kX x h d
theorem Pe(x y:Rc)(hx:x.Ok)(hy:y.Ok)(w:World):(binOp .neq 49 (.agg x.list.toArray) (.agg y.list.toArray)).run Tryz.prog w=.ok (.bool (!decide (x=y))) w/\(binOp .eql 49 (.agg x.list.toArray) (.agg y.list.toArray)).run Tryz.prog w=.ok (.bool (decide (x=y))) w:=by
 obtain⟨r,h1,h2,h3⟩:=YT (P:=Tryz.prog) (w:=w) (xs:=x.list.toArray) (ys:=y.list.toArray) (t:=49) kX (KJ x hx 3) (KJ y hy 3) (ZH (xs:=x.list.toArray) Tryz.underlying49 rfl (by rw[List.size_toArray,Rc.len hx.root hx.file];kernel_rfl)) (ZH (xs:=y.list.toArray) Tryz.underlying49 rfl (by rw[List.size_toArray,Rc.len hy.root hy.file];kernel_rfl))
 have:r=decide (x=y):=by rw[Bool.eq_iff_iff,h1,decide_eq_true_iff];exact⟨Rc.lits_inj hx.root hx.file hy.root hy.file,λe=>by rw[e]⟩
 rw[h2,h3,this]
 exact⟨rfl,rfl⟩
theorem Jk(x y:P6)(hx:x.Ok)(hy:y.Ok)(w:World):(binOp .neq 52 (.agg x.list.toArray) (.agg y.list.toArray)).run Tryz.prog w=.ok (.bool (!decide (x=y))) w:=by
 obtain⟨r,h1,h2,h3⟩:=YT (P:=Tryz.prog) (w:=w) (xs:=x.list.toArray) (ys:=y.list.toArray) (t:=52) kX (J8 x hx 4) (J8 y hy 4) (ZH (xs:=x.list.toArray) Tryz.underlying52 rfl kX) (ZH (xs:=y.list.toArray) Tryz.underlying52 rfl kX)
 have:r=decide (x=y):=by rw[Bool.eq_iff_iff,h1,decide_eq_true_iff];exact⟨P6.lits_inj,λe=>by rw[e]⟩
 rw[h3,this]
theorem Yo(x y:List UInt8)(hx:x.length=32)(hy:y.length=32)(w:World):(binOp .neq 46 (.agg (cB x).toArray) (.agg (cB y).toArray)).run Tryz.prog w=.ok (.bool (!decide (x=y))) w:=by
 obtain⟨r,h1,h2,h3⟩:=YT (P:=Tryz.prog) (w:=w) (xs:=(cB x).toArray) (ys:=(cB y).toArray) (t:=46) kX (VI x hx 4) (VI y hy 4) (ZH (xs:=(cB x).toArray) Tryz.underlying46 rfl (by rw[List.size_toArray,Zd,hx];kernel_rfl)) (ZH (xs:=(cB y).toArray) Tryz.underlying46 rfl (by rw[List.size_toArray,Zd,hy];kernel_rfl))
 have:r=decide (x=y):=by rw[Bool.eq_iff_iff,h1,decide_eq_true_iff];exact⟨Xi,λe=>by rw[e]⟩
 rw[h3,this]
theorem Rc.zeroG:Tryz.zeroCells49=Rc.zero.list.toArray:=kX
section
open Go.ChangeShapes Go.WideShapes Go.Deep
variable {H:Type} {enc:TypeId×Value->H} {w:World}
end
def zA6:Array Value:=#[Value.int IntKind.i64 0,Value.int IntKind.i64 0,Value.int IntKind.i64 0,Value.int IntKind.i64 0,Value.int IntKind.i64 0,Value.int IntKind.i64 0]
def zA32:Array Value:=#[Value.int IntKind.u8 0,Value.int IntKind.u8 0,Value.int IntKind.u8 0,Value.int IntKind.u8 0,Value.int IntKind.u8 0,Value.int IntKind.u8 0,Value.int IntKind.u8 0,Value.int IntKind.u8 0,Value.int IntKind.u8 0,Value.int IntKind.u8 0,Value.int IntKind.u8 0,Value.int IntKind.u8 0,Value.int IntKind.u8 0,Value.int IntKind.u8 0,Value.int IntKind.u8 0,Value.int IntKind.u8 0,Value.int IntKind.u8 0,Value.int IntKind.u8 0,Value.int IntKind.u8 0,Value.int IntKind.u8 0,Value.int IntKind.u8 0,Value.int IntKind.u8 0,Value.int IntKind.u8 0,Value.int IntKind.u8 0,Value.int IntKind.u8 0,Value.int IntKind.u8 0,Value.int IntKind.u8 0,Value.int IntKind.u8 0,Value.int IntKind.u8 0,Value.int IntKind.u8 0,Value.int IntKind.u8 0,Value.int IntKind.u8 0]
theorem R3:zA6.toList=P6.zero.list:=rfl
theorem Nu:zA32.toList=cB z32:=by rfl
def Rc.bare(x:Rc):Rc:=
 if x.kind=1 then { x with obj:=0,tick:=0,name:=⟨#[]⟩,p:=P6.zero,root:=z32,file:=z32,kind:=0 }
 else if x.kind=2 then { x with obj:=0,tick:=0,way:=0,index:=0,id:=0,kind:=0 }
 else if x.kind=3 then { x with obj:=0,tick:=0,verdict:=0,id:=0,kind:=0 }
 else { x with obj:=0,tick:=0,kind:=0 }
theorem Rc.size{x:Rc}(h:x.Ok):x.list.toArray.size=78:=by rw[List.size_toArray,Rc.len h.root h.file]
theorem Rc.at0(x:Rc):∀ h,x.list.toArray[0]'h=.int .i64 x.kind:=λ_=>by simp[Rc.list]
theorem Rc.at1(x:Rc):∀ h,x.list.toArray[1]'h=.int .i64 x.obj:=λ_=>by simp[Rc.list]
theorem Rc.at2(x:Rc):∀ h,x.list.toArray[2]'h=.int .i64 x.id:=λ_=>by simp[Rc.list]
theorem Rc.at3(x:Rc):∀ h,x.list.toArray[3]'h=.string x.name:=λ_=>by simp[Rc.list]
theorem Ud{l:List Value}{i:Nat}{v:Value}(h:l[i]? = some v):∀ h',l.toArray[i]'h'=v:=λh'=>by
 have h2:i<l.length:=by simpa using h'
 rw[List.getElem?_eq_getElem h2,Option.some.injEq] at h
 simpa using h
theorem Rc.at74{x:Rc}(h:x.Ok):∀ h',x.list.toArray[74]'h'=.int .i64 x.way:=Ud (Rc.c74 h.root h.file)
theorem Rc.at75{x:Rc}(h:x.Ok):∀ h',x.list.toArray[75]'h'=.int .i64 x.index:=Ud (Rc.c75 h.root h.file)
theorem Rc.at76{x:Rc}(h:x.Ok):∀ h',x.list.toArray[76]'h'=.int .i64 x.verdict:=Ud (Rc.c76 h.root h.file)
theorem Rc.at77{x:Rc}(h:x.Ok):∀ h',x.list.toArray[77]'h'=.int .i64 x.tick:=Ud (Rc.c77 h.root h.file)
theorem Qa:z32.length=32:=dX
theorem TG(x:Rc)(hx:x.Ok)(hk:x.kind=1)(w:World) :
  Calls Tryz.prog 89 #[.agg x.list.toArray] w λe w'=>e=.returned (.agg (x.bare).list.toArray)/\Below w.heap.size w w':=by
 obtain⟨y,hy⟩:∃ y:Rc,y={ x with obj:=0,tick:=0,name:=⟨#[]⟩ }:=⟨_,rfl⟩
 have hC3:(((x.list.toArray.setIfInBounds 1 (Value.int IntKind.i64 0)).setIfInBounds 77 (Value.int IntKind.i64 0)).setIfInBounds 3 (.string ⟨#[]⟩))=y.list.toArray:=by
  rw[Rc.set1,Rc.set77 (x:={ x with obj:=0 }) hx.root hx.file,Rc.set3,hy]
 have hyr:y.root.length=32:=by rw[hy];exact hx.root
 have hyf:y.file.length=32:=by rw[hy];exact hx.file
 have hC4:ZG y.list.toArray 4 (zA6).toList=({ y with p:=P6.zero }:Rc).list.toArray:=by rw[R3];exact Rc.patch_p y P6.zero
 have hC5:ZG ({ y with p:=P6.zero }:Rc).list.toArray 10 (zA32).toList=({ y with p:=P6.zero,root:=z32 }:Rc).list.toArray:=by rw[Nu];exact Rc.patch_root (x:={ y with p:=P6.zero }) hyr Qa
 have hC6:ZG ({ y with p:=P6.zero,root:=z32 }:Rc).list.toArray 42 (zA32).toList=({ y with p:=P6.zero,root:=z32,file:=z32 }:Rc).list.toArray:=by rw[Nu];exact Rc.patch_file (x:={ y with p:=P6.zero,root:=z32 }) Qa hyf Qa
 have hfin:(({ y with p:=P6.zero,root:=z32,file:=z32 }:Rc).list.toArray).setIfInBounds 0 (Value.int IntKind.i64 0)=(x.bare).list.toArray:=by
  rw[Rc.set0]
  unfold Rc.bare
  rw[if_pos hk,hy]
 have hR:(x.bare).root.length=32/\(x.bare).file.length=32:=by
  unfold Rc.bare
  rw[if_pos hk]
  exact⟨Qa,Qa⟩
 have hs:=Rc.size hx
 have r0:=Rc.at0 x
 rw[hk] at r0
 have hs4:4+(zA6).size<=y.list.toArray.size:=by rw[show y.list.toArray.size=78 from by rw[List.size_toArray,Rc.len hyr hyf]];decide
 have hs5:10+(zA32).size<=({ y with p:=P6.zero }:Rc).list.toArray.size:=by rw[show ({ y with p:=P6.zero }:Rc).list.toArray.size=78 from by rw[List.size_toArray,Rc.len (x:={ y with p:=P6.zero }) hyr hyf]];decide
 have hs6:42+(zA32).size<=({ y with p:=P6.zero,root:=z32 }:Rc).list.toArray.size:=by rw[show ({ y with p:=P6.zero,root:=z32 }:Rc).list.toArray.size=78 from by rw[List.size_toArray,Rc.len (x:={ y with p:=P6.zero,root:=z32 }) Qa hyf]];decide
 have i4:(Tryz.prog.info? 45).map (·.size)=some (zA6).size:=kX
 have i5:(Tryz.prog.info? 47).map (·.size)=some (zA32).size:=kX
 have o4:(zA6).all (·.oneCell')=true:=kX
 have o5:(zA32).all (·.oneCell')=true:=kX
 generalize hR0:x.list.toArray=R at*
 generalize hV4:y.list.toArray=V4 at*
 generalize hV5:({ y with p:=P6.zero }:Rc).list.toArray=V5 at*
 generalize hV6:({ y with p:=P6.zero,root:=z32 }:Rc).list.toArray=V6 at*
 generalize hV7:({ y with p:=P6.zero,root:=z32,file:=z32 }:Rc).list.toArray=V7 at*
 have hVs:(x.bare).list.toArray.size=78:=by rw[List.size_toArray,Rc.len hR.1 hR.2]
 have hVo:=Rc.all_one x.bare
 generalize hV8:(x.bare).list.toArray=V8 at*
 have hX3:Hid (((w.alloc (.cells (((R.setIfInBounds 1 (Value.int IntKind.i64 0)).setIfInBounds 77 (Value.int IntKind.i64 0)).setIfInBounds 3 (.string ⟨#[]⟩)) 49)).alloc (.cells Tryz.zeroCells49 49)).heap[w.heap.size]? = some (.cells V4 49 (0,0))):=Hd (by
  rw[ZX,if_neg sX,ZX,if_pos rfl,hC3])
 have hZ3:Hid (((w.alloc (.cells (((R.setIfInBounds 1 (Value.int IntKind.i64 0)).setIfInBounds 77 (Value.int IntKind.i64 0)).setIfInBounds 3 (.string ⟨#[]⟩)) 49)).alloc (.cells Tryz.zeroCells49 49)).heap[w.heap.size+1]? = some (.cells Tryz.zeroCells49 49 (0,0))):=Hd (by
  rw[ZX,if_pos sX])
 have hb:Hid (Below w.heap.size w ((w.alloc (.cells (((R.setIfInBounds 1 (Value.int IntKind.i64 0)).setIfInBounds 77 (Value.int IntKind.i64 0)).setIfInBounds 3 (.string ⟨#[]⟩)) 49)).alloc (.cells Tryz.zeroCells49 49))):=Hd ((bR.alloc nR _).alloc sX _)
 have hu8:=Tryz.underlying49
 have i8:(Tryz.prog.info? 49).map (·.size)=some V8.size:=by rw[hVs];kernel_rfl
 have z8:(Tryz.zeroCells49).size=V8.size:=by rw[hVs];kernel_rfl
 have hV70:∃ u,V7[0]? = some u:=by rw[<-hV7];exact⟨_,by simp[Rc.list];rfl⟩
 have e6:Hid (Value.agg #[Value.int IntKind.i64 0,Value.int IntKind.i64 0,Value.int IntKind.i64 0,Value.int IntKind.i64 0,Value.int IntKind.i64 0,Value.int IntKind.i64 0]=.agg zA6):=Hd rfl
 have e32:Hid (Value.agg #[Value.int IntKind.u8 0,Value.int IntKind.u8 0,Value.int IntKind.u8 0,Value.int IntKind.u8 0,Value.int IntKind.u8 0,Value.int IntKind.u8 0,Value.int IntKind.u8 0,Value.int IntKind.u8 0,Value.int IntKind.u8 0,Value.int IntKind.u8 0,Value.int IntKind.u8 0,Value.int IntKind.u8 0,Value.int IntKind.u8 0,Value.int IntKind.u8 0,Value.int IntKind.u8 0,Value.int IntKind.u8 0,Value.int IntKind.u8 0,Value.int IntKind.u8 0,Value.int IntKind.u8 0,Value.int IntKind.u8 0,Value.int IntKind.u8 0,Value.int IntKind.u8 0,Value.int IntKind.u8 0,Value.int IntKind.u8 0,Value.int IntKind.u8 0,Value.int IntKind.u8 0,Value.int IntKind.u8 0,Value.int IntKind.u8 0,Value.int IntKind.u8 0,Value.int IntKind.u8 0,Value.int IntKind.u8 0,Value.int IntKind.u8 0]=.agg zA32):=Hd rfl
 generalize zA6=A6 at*
 generalize zA32=A32 at*
 replace hC4:=Hd hC4
 replace hC5:=Hd hC5
 replace hC6:=Hd hC6
 replace hfin:=Hd hfin
 replace hV70:=Hd hV70
 clear hy hyr hyf hR0 hV4 hV5 hV6 hV7 hV8 hR hC3 hVs hk hx
 go_enter Tryz.func89,Tryz.ntmps89
 go_wp2_with (first
  | ((with_reducible refine wL (.store 45 _ _) ?_);(refine Qu rfl 45 49 (.tmp 13) (.tmp 9) rfl w.heap.size 4 V4 A6 rfl e6.out hX3 i4 hs4 o4 ?_);intro w4 hU4;rw[hC4.out] at hU4;have hX4:=Hd hU4.out.here)
  | ((with_reducible refine wL (.store 47 (.tmp 14) _) ?_);(refine Qu rfl 47 49 (.tmp 14) (.tmp 10) rfl w.heap.size 10 V5 A32 rfl e32.out hX4 i5 hs5 o5 ?_);intro w5 hU5;rw[hC5.out] at hU5;have hX5:=Hd hU5.out.here)
  | ((with_reducible refine wL (.store 47 (.tmp 15) _) ?_);(refine Qu rfl 47 49 (.tmp 15) (.tmp 11) rfl w.heap.size 42 V6 A32 rfl e32.out hX5 i5 hs6 o5 ?_);intro w6 hU6;rw[hC6.out] at hU6;have hX6:=Hd hU6.out.here;have hZ6:=Hd ((hU6.out.block _ (Nat.succ_ne_self _)).trans ((hU5.out.block _ (Nat.succ_ne_self _)).trans ((hU4.out.block _ (Nat.succ_ne_self _)).trans hZ3.out)));have hb6:=Hd (((hb.out.trans (hU4.out.below nR)).trans (hU5.out.below nR)).trans (hU6.out.below nR));obtain⟨u0,hu0⟩:=hV70.out;have c60:w6.cell? ⟨w.heap.size,0,none⟩=some u0:=(by rw[Za hX6.out];exact hu0);have f60:w6.frozen? ⟨w.heap.size,0,none⟩=false:=Zm hX6.out _;have hU7:=(Upd.refl hX6.out).setCell (j:=0) (Value.int IntKind.i64 0);rw[hfin.out] at hU7;replace hU7:=Hd hU7;have hX7:=Hd hU7.out.here;have hZ7:=Hd ((hU7.out.block _ (Nat.succ_ne_self _)).trans hZ6.out);have hb7:=Hd (hb6.out.trans (hU7.out.below nR));clear hu0)
  | ((with_reducible refine wL (.load 49 (.tmp 1)) ?_);refine Ze rfl 49 (.tmp 1) rfl w.heap.size V8 _ rfl hX7 hu8 rfl i8 ?_)
  | ((with_reducible refine wL (.store 49 (.tmp 2) _) ?_);(refine Zc rfl 49 (.tmp 2) (.tmp 26) rfl (w.heap.size+1) _ V8 rfl rfl hZ7 i8 z8 hVo ?_);intro w8 hU8))
 exact Z7 rfl rfl hu8 rfl i8 hU8.out.here ⟨rfl,hb7.out.trans (hU8.out.below (Nat.le_succ _))⟩
theorem TE(x:Rc)(hx:x.Ok)(w:World):Calls Tryz.prog 89 #[.agg x.list.toArray] w λe w'=>e=.returned (.agg (x.bare).list.toArray)/\Below w.heap.size w w':=by
 by_cases h1:x.kind=1
 ·exact TG x hx h1 w
 ·by_cases h2:x.kind=2
  ·have h:=TN x.list.toArray (Rc.size hx) (by rw[<-h2];exact Rc.at0 x) (Rc.all_one x) w
   rw[Rc.set1,Rc.set77 (x:={ x with obj:=0 }) hx.root hx.file,Rc.set74 (x:={ x with obj:=0,tick:=0 }) hx.root hx.file,Rc.set75 (x:={ x with obj:=0,tick:=0,way:=0 }) hx.root hx.file,Rc.set2,Rc.set0] at h
   have e:x.bare={ x with obj:=0,tick:=0,way:=0,index:=0,id:=0,kind:=0 }:=by unfold Rc.bare;rw[if_neg h1,if_pos h2]
   rw[e]
   exact h
  ·by_cases h3:x.kind=3
   ·have h:=Mr x.list.toArray (Rc.size hx) (by rw[<-h3];exact Rc.at0 x) (Rc.all_one x) w
    rw[Rc.set1,Rc.set77 (x:={ x with obj:=0 }) hx.root hx.file,Rc.set76 (x:={ x with obj:=0,tick:=0 }) hx.root hx.file,Rc.set2,Rc.set0] at h
    have e:x.bare={ x with obj:=0,tick:=0,verdict:=0,id:=0,kind:=0 }:=by unfold Rc.bare;rw[if_neg h1,if_neg h2,if_pos h3]
    rw[e]
    exact h
   ·have h:=MP x.list.toArray x.kind h1 h2 h3 (Rc.size hx) (Rc.at0 x) (Rc.all_one x) w
    rw[Rc.set1,Rc.set77 (x:={ x with obj:=0 }) hx.root hx.file,Rc.set0] at h
    have e:x.bare={ x with obj:=0,tick:=0,kind:=0 }:=by unfold Rc.bare;rw[if_neg h1,if_neg h2,if_neg h3]
    rw[e]
    exact h
theorem Rc.bare_ok{x:Rc}(h:x.Ok):(x.bare).Ok:=by
 obtain⟨a1,a2,a3,a4,a5,a6,a7,a8,a9,a10,a11⟩:=h
 have z:inI 0:=dX
 have zs:(⟨#[]⟩:ByteArray).size<=maxLen:=dX
 have zp:P6.zero.Ok:=⟨dX,dX,dX,dX,dX,dX⟩
 unfold Rc.bare
 split
 ·exact⟨z,z,a3,zs,zp,Qa,Qa,a8,a9,a10,z⟩
 ·split
  ·exact⟨z,z,z,a4,a5,a6,a7,z,z,a10,z⟩
  ·split
   ·exact⟨z,z,z,a4,a5,a6,a7,a8,a9,z,z⟩
   ·exact⟨z,z,a3,a4,a5,a6,a7,a8,a9,a10,z⟩
def Rc.nums(x:Rc):Bool:=Zp x.kind x.obj x.id x.way x.index x.verdict x.tick
theorem GC(x:Rc)(hx:x.Ok)(w:World):Calls Tryz.prog 86 #[.agg x.list.toArray] w λe w'=>e=.returned (.bool x.nums)/\Below w.heap.size w w':=by
 unfold Rc.nums
 by_cases h2:x.kind=2
 ·have h:=Na x.list.toArray x.obj x.id x.way x.index x.verdict x.tick (Rc.size hx) (by rw[<-h2];exact Rc.at0 x) (Rc.at1 x) (Rc.at2 x) (Rc.at74 hx) (Rc.at75 hx) (Rc.at77 hx) w
  rw[h2]
  exact h
 ·by_cases h3:x.kind=3
  ·have h:=Kh x.list.toArray x.obj x.id x.way x.index x.verdict x.tick (Rc.size hx) (by rw[<-h3];exact Rc.at0 x) (Rc.at1 x) (Rc.at2 x) (Rc.at76 hx) (Rc.at77 hx) w
   rw[h3]
   exact h
  ·exact Kl x.list.toArray x.kind x.obj x.id x.way x.index x.verdict x.tick (Rc.size hx) (Rc.at0 x) (Rc.at1 x) (Rc.at77 hx) h2 h3 w
theorem Tryz.infoIntP:(Tryz.prog.info? 3).map (λi=>(i.zero,i.size,i.bytes))=some (some (.int .i64 0),1,8):=kX
def OwnI(base:Nat)(w:World)(v:Value)(zs:List Int):Prop:=w.ownsRow base 3 1 v zs.length (cI zs)
theorem OwnI.nil(base:Nat)(w:World):OwnI base w (.slice none 0 0) []:=⟨rfl,.inl ⟨rfl,rfl⟩⟩
theorem OwnI.row{base:Nat}{w:World}{v:Value}{zs:List Int}(h:OwnI base w v zs):∃ a c,v=.slice a zs.length c/\zs.length<=c/\c<=maxLen/\(a=none->c=0)/\P9 .i64 w a zs/\∀ b o s,a=some ⟨b,o,s⟩->base<=b/\b<w.heap.size:=by
 obtain⟨a,c,rfl,h1,h2,h3,h4,_,h5⟩:=Gc h
 rw[JA] at h2
 exact⟨a,c,by rw[JA],h2,h3,h1,h4.toI,h5⟩
section
variable {w:World} {ops:Array Oper} {rest:List Oper} {o:Oper} {a:Act} {Q:Exit->Act->World->Prop}
theorem Yn(hgd:o.guard=none)(s x:Operand)(ho:o.op=.call { callee:=.builtin .append,args:=#[s,x],argTypes:=#[168,168] })
  (base:Nat) (v:Value) (bs:List Int) (hs:a.eval s=v) (hown:Hid (OwnI base w v bs))
  (u:Int) (hx:a.eval x=.slice (some ⟨w.heap.size,0,none⟩) 1 1) (hl:bs.length<=1000000) (hbase:base<=w.heap.size)
  (h:∀ v' w',Hid (OwnI base w' v' (bs++[u]))->Hid (Below base w w')->wpList Tryz.prog ops Q rest (a.put o.dst v') w') :
  wpList Tryz.prog ops Q (o::rest) a (w.alloc (.cells #[.int .i64 u] 3)):=by
 obtain⟨i0,hi,hz0,hz1,hz2⟩:=info_parts Tryz.infoIntP
 refine XY hgd s x 168 ho base 3 i0 (.int .i64 0) 8 Tryz.underlying168 hi hz0 hz1 hz2 rfl v bs.length (cI bs) hs (Hd hown.out) (.int .i64 u) hx rfl (by unfold maxLen;omega) oX hbase ?_
 intro v' w' h1 h2 _
 refine h v' w' (Hd ?_) (Hd ((Below.refl base w).grown h2.out hbase (λk hk=>(World.ownsRow.lt hown.out k hk).1)))
 unfold OwnI
 rw[H4,List.length_append]
 exact h1.out
end
open Go.RowKit Go.ChangeShapes
def Rx(nm:String)(text:List UInt8):DataW Unit:=.iface nm (.ptr (.agg [.lit (.string text)]))
section
variable {P:Program} {nm:String} {W:World} {ti tp te ts:TypeId} {ms:Array (String×TypeId)} {f:Field}
theorem Nw(hi:P.underlying ti=some (.interface ms))(hrow:∀ u,P.typeName? 3 u=some nm->u=tp)
  (hp:P.underlying tp=some (.pointer te)) (he:P.underlying te=some (.struct #[f])) (hft:f.type=ts) (hfo:f.offset=0) (hs:P.underlying ts=some .string) (hc:P.cellsOf te=1) (hcs:P.cellsOf ts=1)
  (R:List (String×DataW Unit)):∀ (L:List (String×List UInt8)) (gs:List Nat) (ps:List MemPlace),L.length=gs.length->
  (L.zip gs).all (λx=>decide (P.globalNamed x.1.1=some x.2)&&decide ((P.globals[x.2]?).map (·.type)=some ti))=true->
  DataW.LaidVars P W (L.map (λx=>(x.1,Rx nm x.2))++R) ps->ps.Nodup->
  (∀ b off,MemPlace.cell b off∈ps->(∃ c t,W.heap[b]? = some (.cells c t (0,0)))/\∀ u v,W.cell? ⟨b,off,none⟩=some (.iface u v)->Value.okWide P W .any 0 u v)->
  ∃ als:List Addr,als.length=gs.length/\als.Nodup/\(∀ a∈als,MemPlace.cell a.block a.off∈ps/\a.spot=none/\∃ c t,W.heap[a.block]? = some (.cells c t (0,0)))/\
   ∀ i,i<gs.length->∃ a,als[i]? = some a/\W.cell? ⟨gs.getD i 0,0,none⟩=some (.iface tp (.pointer (some a))):=by
 intro L
 induction L with
 | nil=>
  intro gs ps hl _ _ _ _
  have:gs=[]:=by cases gs<;>simp_all
  subst this
  exact⟨[],rfl,List.nodup_nil,λa h=>(by cases h),λi h=>(by simp at h)⟩
 | cons x L ih=>
  intro gs ps hl hg hv hnd hrows
  cases gs with
  | nil=>simp at hl
  | cons g gs=>
   simp only[List.zip_cons_cons,List.all_cons,Bool.and_eq_true,decide_eq_true_eq] at hg
   obtain⟨⟨hg0,ht0⟩,hg'⟩:=hg
   simp only[List.map_cons,List.cons_append] at hv
   obtain⟨g0,t0,cs0,f0,p0,q0,hg0',ht0',hv0,hd0,hr0,e0⟩:=hv
   obtain rfl:=Option.some.inj (hg0.symm.trans hg0')
   obtain rfl:=Option.some.inj (ht0.symm.trans ht0')
   subst e0
   obtain⟨l0⟩:=cs0
   have ok0:∀ u v,l0=[.iface u v]->Value.okWide P W .any 0 u v:=λu v e=>by
    subst e
    exact(hrows g 0 (by simp[MemPlace.row])).2 u v (by simpa using World.var?_cell hg0' hv0 0)
   obtain⟨a0,s0,rfl,hc0,hs0,hz0,rfl⟩:=errorString_of_trod hi hrow hp he hft hfo hs hc hcs hd0 ok0
   have hm0:MemPlace.cell a0.block a0.off∈MemPlace.row ⟨g,0,none⟩ [Value.iface tp (.pointer (some a0))].toArray.size++MemPlace.row a0 1++q0:=by simp[MemPlace.row]
   have hsp0:a0.spot=none:=World.cell?_spot hc0
   obtain⟨als,h1,h2,h3,h4⟩:=ih gs q0 (by simpa using hl) hg' hr0 (List.Nodup.sublist (List.sublist_append_right _ _) hnd) (λb off hm=>hrows b off (List.mem_append_right _ hm))
   refine⟨a0::als,by simp[h1],?_,?_,?_⟩
   ·rw[List.nodup_cons]
    refine⟨λhm=>?_,h2⟩
    have hq:=(h3 a0 hm).1
    rw[List.append_assoc,List.nodup_append] at hnd
    have hnd2:=(List.nodup_append.1 hnd.2.1).2.2
    exact hnd2 (MemPlace.cell a0.block a0.off) (by simp[MemPlace.row]) (MemPlace.cell a0.block a0.off) hq rfl
   ·intro a ha
    rcases List.mem_cons.1 ha with rfl|ha
    ·exact⟨hm0,hsp0,(hrows _ _ hm0).1⟩
    ·obtain⟨k1,k2,k3⟩:=h3 a ha
     exact⟨List.mem_append_right _ k1,k2,k3⟩
   ·intro i hi'
    cases i with
    | zero=>exact⟨a0,rfl,by simpa using World.var?_cell hg0' hv0 0⟩
    | succ i=>
     obtain⟨a,k1,k2⟩:=h4 i (by simpa using hi')
     exact⟨a,by simpa using k1,by simpa using k2⟩
end
structure Errs (tp:TypeId) (gs:List Nat) (w:World) (a:Nat->Addr):Prop where
 var:∀ i,i<gs.length->w.cell? ⟨gs.getD i 0,0,none⟩=some (.iface tp (.pointer (some (a i))))
 obj:∀ i,i<gs.length->∃ c t,w.heap[(a i).block]? = some (.cells c t (0,0))
 inj:∀ i j,i<gs.length->j<gs.length->a i=a j->gs.getD i 0=gs.getD j 0
theorem Errs.inj'{tp:TypeId}{gs:List Nat}{w:World}{a:Nat->Addr}(h:Errs tp gs w a)(hn:gs.Nodup)(i j:Nat)(hi:i<gs.length)(hj:j<gs.length)(e:a i=a j):i=j:=by
 have h1:=h.inj i j hi hj e
 rw[List.getD_eq_getElem?_getD,List.getD_eq_getElem?_getD,List.getElem?_eq_getElem hi,List.getElem?_eq_getElem hj] at h1
 exact(List.getElem_inj hn).1 h1
theorem Errs.below{tp:TypeId}{gs:List Nat}{w w':World}{a:Nat->Addr}(h:Errs tp gs w a)(hb:Below w.heap.size w w'):Errs tp gs w' a:=by
 refine⟨λi hi=>?_,λi hi=>?_,h.inj⟩
 ·have h1:=h.var i hi
  exact(hb.cell (World.block_lt_of_cell? w _ h1)).trans h1
 ·obtain⟨c,t,h1⟩:=h.obj i hi
  exact⟨c,t,(hb.block _ (Zb h1)).trans h1⟩
theorem Errs.of_list{tp:TypeId}{gs:List Nat}{w:World}{als:List Addr}(h1:als.length=gs.length)(h2:als.Nodup)(h3:∀ a∈als,∃ c t,w.heap[a.block]? = some (.cells c t (0,0)))
  (h4:∀ i,i<gs.length->∃ a,als[i]? = some a/\w.cell? ⟨gs.getD i 0,0,none⟩=some (.iface tp (.pointer (some a)))):Errs tp gs w (λi=>als.getD i ⟨0,0,none⟩):=by
 refine⟨λi hi=>?_,λi hi=>?_,λi j hi hj e=>?_⟩
 ·obtain⟨a,k1,k2⟩:=h4 i hi
  simpa[List.getD_eq_getElem?_getD,k1] using k2
 ·obtain⟨a,k1,k2⟩:=h4 i hi
  have:=h3 a (List.mem_of_getElem? k1)
  simpa[List.getD_eq_getElem?_getD,k1] using this
 ·have hi':i<als.length:=oX
  have hj':j<als.length:=oX
  simp[hi',hj'] at e
  have e2:=(List.getElem_inj h2).1 e
  rw[e2]
end Go.Proofs.YtpdhceiodgnbmaaGreatDoor
