import Derived.Test.YtdilmfnpkeihiaaGreatDoorF0AudSaid
import Derived.Test.YtdilmfnpkeihiaaGreatDoorF2AudSaid
import Derived.Test.YtdilmfnpkeihiaaGreatDoorF6AudSaid
import Derived.Test.YtdilmfnpkeihiaaGreatDoorF13AudSaid
set_option linter.unusedVariables false
set_option linter.unusedSimpArgs false
set_option linter.unnecessarySimpa false
set_option maxRecDepth 100000
set_option maxHeartbeats 8000000
namespace Go.Proofs.YtdilmfnpkeihiaaGreatDoor
open Go.RowKit
theorem It.lits_inj{x y:It}(hx:x.root.length=32)(hx2:x.file.length=32)(hy:y.root.length=32)(hy2:y.file.length=32)(h:x.lits=y.lits):x=y:=by
 unfold It.lits at h
 obtain⟨h1,h2⟩:=List.append_inj h rfl
 obtain⟨h3,h4⟩:=List.append_inj h2 rfl
 obtain⟨h5,h6⟩:=List.append_inj h4 (by simp[ZG,hx,hy])
 obtain⟨h7,h8⟩:=List.append_inj h6 (by simp[ZG,hx2,hy2])
 simp only[List.cons.injEq,Lit.string.injEq,Lit.int.injEq,Lit.bool.injEq,true_and,and_true] at h1 h8
 obtain⟨a1,a2⟩:=h1
 obtain⟨b1,b2,b3,b4⟩:=h8
 have e1:=UQ a2
 have e2:=P6.lits_inj h3
 have e3:=YG h5
 have e4:=YG h7
 cases x;cases y
 simp only at*
 subst e1 e2 e3 e4 a1 b1 b2 b3 b4
 rfl
theorem En.lits_inj{x y:En}(h:x.lits=y.lits):x=y:=by
 cases x;cases y
 simpa[En.lits] using h
section
variable {P:Program}
theorem VW{t ts tp td tb i64:TypeId}{fs:Array Field}(ht:P.underlying t=some (.struct fs))(hq:fs.toList.map (λf=>(f.type,f.offset))=[(i64,0),(ts,1),(tp,2),(td,8),(td,40),(i64,72),(tb,73),(i64,74),(i64,75)])(hn:fs.all (·.name != "_")=true)
  (hi:P.underlying i64=some (.int .i64)) (hs:P.underlying ts=some .string) (hb:P.underlying tb=some .bool) (hp:∀ p:P6,p.Ok->∀ d,P.keyLits (d+2) tp p.list=some p.lits) (hd:∀ f:List UInt8,f.length=32->∀ d,P.keyLits (d+2) td (cB f)=some (ZG f))
  (ci:P.cellsOf i64=1) (cs:P.cellsOf ts=1) (cb:P.cellsOf tb=1) (cp:P.cellsOf tp=6) (cd:P.cellsOf td=32) (ct:P.cellsOf t=76) (x:It) (h:x.Ok) (d:Nat):P.keyLits (d+3) t x.list=some x.lits:=by
 have s1:∀ {o:Nat} {v:Value},x.list[o]? = some v->(x.list.drop o).take 1=[v]:=fun {o v} hv=>by
  have hlt:=(List.getElem?_eq_some_iff.1 hv).1
  rw[List.drop_eq_getElem_cons hlt]
  rw[List.getElem?_eq_getElem hlt,Option.some.injEq] at hv
  rw[hv];rfl
 have e1:∀ n:Int,inI n->P.keyLits (d+2) i64 [.int .i64 n]=some [.int .i64 n]:=λn h=>Qi hi (Xs h)
 have e:=Qp (d:=d+2) (cs:=x.list) (ls:=[[.int .i64 x.n],[.string x.s.data.toList],x.p.lits,ZG x.root,ZG x.file,[.int .i64 x.t],[.bool x.k],[.int .i64 x.u],[.int .i64 x.r]]) ht hq hn (by rw[ct,It.list_length h]) (by
  simp only[List.mapM_cons,List.mapM_nil,ci,cs,cb,cp,cd,s1 x.c0,s1 x.c1,s1 (It.c72 h),s1 (It.c73 h),s1 (It.c74 h),s1 (It.c75 h),It.sub_p,It.sub_root h,It.sub_file h,hp x.p h.p d,hd x.root h.root d,hd x.file h.file d,Xb hs h.s,YY hb,e1 _ h.n,e1 _ h.t,e1 _ h.u,e1 _ h.r,Option.bind_eq_bind,Option.bind_some,Option.pure_def])
 rw[e]
 simp[It.lits]
theorem Uu{t i64:TypeId}{fs:Array Field}(ht:P.underlying t=some (.struct fs))(hq:fs.toList.map (λf=>(f.type,f.offset))=[(i64,0),(i64,1),(i64,2),(i64,3),(i64,4),(i64,5),(i64,6)])(hn:fs.all (·.name != "_")=true)(hi:P.underlying i64=some (.int .i64))(ci:P.cellsOf i64=1)(ct:P.cellsOf t=7)
  (x:En) (hp:x.Ok) (d:Nat):P.keyLits (d+2) t x.list=some x.lits:=by
 obtain⟨h1,h2,h3,h4,h5,h6,h7⟩:=hp
 have e:=λ(n:Int) (h:inI n)=>Qi (d:=d) hi (Xs h)
 refine Qp (ls:=[[.int .i64 x.id],[.int .i64 x.o],[.int .i64 x.w],[.int .i64 x.i],[.int .i64 x.t],[.int .i64 x.v],[.int .i64 x.a]]) ht hq hn (by rw[ct];rfl) ?_
 simp only[List.mapM_cons,List.mapM_nil,ci,En.list,List.drop_zero,List.drop_succ_cons,List.take_succ_cons,List.take_zero,e _ h1,e _ h2,e _ h3,e _ h4,e _ h5,e _ h6,e _ h7,Option.bind_eq_bind,Option.bind_some,Option.pure_def]
end
theorem Js(x:It)(h:x.Ok)(d:Nat):Tryz.prog.keyLits (d+3) 86 x.list=some x.lits:=VW Tryz.underlying86 rfl kX Tryz.underlying3 Tryz.underlying9 Tryz.underlying4 Gp XG kX kX kX kX kX kX x h d
theorem J6(x:En)(h:x.Ok)(d:Nat):Tryz.prog.keyLits (d+2) 77 x.list=some x.lits:=Uu Tryz.underlying77 rfl kX Tryz.underlying3 kX kX x h d
theorem GM(x y:It)(hx:x.Ok)(hy:y.Ok)(w:World):(binOp .neq 86 (.agg x.list.toArray) (.agg y.list.toArray)).run Tryz.prog w=.ok (.bool (!decide (x=y))) w/\(binOp .eql 86 (.agg x.list.toArray) (.agg y.list.toArray)).run Tryz.prog w=.ok (.bool (decide (x=y))) w:=by
 obtain⟨r,h1,h2,h3⟩:=Yi (P:=Tryz.prog) (w:=w) (xs:=x.list.toArray) (ys:=y.list.toArray) (t:=86) kX (Js x hx 3) (Js y hy 3) (Z4 (xs:=x.list.toArray) Tryz.underlying86 rfl (by rw[It.size hx];kernel_rfl)) (Z4 (xs:=y.list.toArray) Tryz.underlying86 rfl (by rw[It.size hy];kernel_rfl))
 have:r=decide (x=y):=by rw[Bool.eq_iff_iff,h1,decide_eq_true_iff];exact⟨It.lits_inj hx.root hx.file hy.root hy.file,λe=>by rw[e]⟩
 rw[h2,h3,this]
 exact⟨rfl,rfl⟩
theorem G7(x y:En)(hx:x.Ok)(hy:y.Ok)(w:World):(binOp .neq 77 (.agg x.list.toArray) (.agg y.list.toArray)).run Tryz.prog w=.ok (.bool (!decide (x=y))) w/\(binOp .eql 77 (.agg x.list.toArray) (.agg y.list.toArray)).run Tryz.prog w=.ok (.bool (decide (x=y))) w:=by
 obtain⟨r,h1,h2,h3⟩:=Yi (P:=Tryz.prog) (w:=w) (xs:=x.list.toArray) (ys:=y.list.toArray) (t:=77) kX (J6 x hx 4) (J6 y hy 4) (Z4 (xs:=x.list.toArray) Tryz.underlying77 rfl kX) (Z4 (xs:=y.list.toArray) Tryz.underlying77 rfl kX)
 have:r=decide (x=y):=by rw[Bool.eq_iff_iff,h1,decide_eq_true_iff];exact⟨En.lits_inj,λe=>by rw[e]⟩
 rw[h2,h3,this]
 exact⟨rfl,rfl⟩
end Go.Proofs.YtdilmfnpkeihiaaGreatDoor
