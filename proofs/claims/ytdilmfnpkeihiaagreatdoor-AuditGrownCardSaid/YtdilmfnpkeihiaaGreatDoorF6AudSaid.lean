import Derived.Test.YtdilmfnpkeihiaaGreatDoorF0AudSaid
import Derived.Test.YtdilmfnpkeihiaaGreatDoorF2AudSaid
import Derived.Test.YtdilmfnpkeihiaaGreatDoorF3AudSaid
import Derived.Test.YtdilmfnpkeihiaaGreatDoorChecked
import Derived.Test.YtdilmfnpkeihiaaGreatDoorF4AudSaid
import Derived.Test.YtdilmfnpkeihiaaGreatDoorF5AudSaid
import Derived.Deep.WholeRow
import Derived.Test.YtdilmfnpkeihiaaGreatDoorF1AudSaid
import Derived.Test.YtdilmfnpkeihiaaGreatDoorRows
import Derived.Outline
import Derived.Deep.LoopGhost
set_option linter.unusedVariables false
set_option linter.unusedSimpArgs false
set_option linter.unnecessarySimpa false
set_option maxRecDepth 100000
set_option maxHeartbeats 8000000
namespace Go.Proofs.YtdilmfnpkeihiaaGreatDoor
open Go.RowKit
structure It where
 n:Int
 s:ByteArray
 p:P6
 root:List UInt8
 file:List UInt8
 t:Int
 k:Bool
 u:Int
 r:Int
deriving DecidableEq
instance:Inhabited It:=⟨⟨0,ByteArray.empty,⟨0,0,0,0,0,0⟩,List.replicate 32 0,List.replicate 32 0,0,false,0,0⟩⟩
def It.list(x:It):List Value:=[.int .i64 x.n,.string x.s]++(x.p.list++(cB x.root++(cB x.file++[.int .i64 x.t,.bool x.k,.int .i64 x.u,.int .i64 x.r])))
def It.lits(x:It):List Lit:=[.int .i64 x.n,.string x.s.data.toList]++(x.p.lits++(ZG x.root++(ZG x.file++[.int .i64 x.t,.bool x.k,.int .i64 x.u,.int .i64 x.r])))
structure It.Ok (x:It):Prop where
 n:inI x.n
 s:x.s.size<=maxLen
 p:x.p.Ok
 root:x.root.length=32
 file:x.file.length=32
 t:inI x.t
 u:inI x.u
 r:inI x.r
theorem It.len{x:It}(h1:x.root.length=32)(h2:x.file.length=32):x.list.length=76:=by
 simp[It.list,P6.list_length,Zc,h1,h2]
theorem It.list_length{x:It}(h:x.Ok):x.list.length=76:=It.len h.root h.file
theorem It.list_one(x:It):∀ u∈x.list,u.oneCell'=true:=by
 intro u hu
 simp only[It.list,List.mem_append,List.mem_cons,List.not_mem_nil,or_false] at hu
 rcases hu with (rfl|rfl)|hu|hu|hu|rfl|rfl|rfl|rfl
 ·rfl
 ·rfl
 ·exact P6.list_one _ u hu
 ·exact Zs _ u hu
 ·exact Zs _ u hu
 ·rfl
 ·rfl
 ·rfl
 ·rfl
theorem It.size{x:It}(h:x.Ok):x.list.toArray.size=76:=by rw[List.size_toArray,It.list_length h]
theorem It.parts(x:It):x.list=([.int .i64 x.n,.string x.s]++x.p.list++cB x.root++cB x.file)++[.int .i64 x.t,.bool x.k,.int .i64 x.u,.int .i64 x.r]:=by simp[It.list]
theorem It.head72{x:It}(h1:x.root.length=32)(h2:x.file.length=32):([.int .i64 x.n,.string x.s]++x.p.list++cB x.root++cB x.file:List Value).length=72:=by simp[P6.list_length,Zc,h1,h2]
theorem It.c0(x:It):x.list[0]? = some (.int .i64 x.n):=rfl
theorem It.c1(x:It):x.list[1]? = some (.string x.s):=rfl
theorem It.c72{x:It}(h:x.Ok):x.list[72]? = some (.int .i64 x.t):=by
 rw[It.parts,List.getElem?_append_right (by rw[It.head72 h.root h.file];omega),It.head72 h.root h.file];rfl
theorem It.c73{x:It}(h:x.Ok):x.list[73]? = some (.bool x.k):=by
 rw[It.parts,List.getElem?_append_right (by rw[It.head72 h.root h.file];omega),It.head72 h.root h.file];rfl
theorem It.c74{x:It}(h:x.Ok):x.list[74]? = some (.int .i64 x.u):=by
 rw[It.parts,List.getElem?_append_right (by rw[It.head72 h.root h.file];omega),It.head72 h.root h.file];rfl
theorem It.c75{x:It}(h:x.Ok):x.list[75]? = some (.int .i64 x.r):=by
 rw[It.parts,List.getElem?_append_right (by rw[It.head72 h.root h.file];omega),It.head72 h.root h.file];rfl
theorem It.sub_p(x:It):(x.list.drop 2).take 6=x.p.list:=by
 have e:x.list=[.int .i64 x.n,.string x.s]++(x.p.list++(cB x.root++(cB x.file++[.int .i64 x.t,.bool x.k,.int .i64 x.u,.int .i64 x.r]))):=rfl
 rw[e]
 exact Ym rfl rfl
theorem It.sub_root{x:It}(h:x.Ok):(x.list.drop 8).take 32=cB x.root:=by
 have e:x.list=([.int .i64 x.n,.string x.s]++x.p.list)++(cB x.root++(cB x.file++[.int .i64 x.t,.bool x.k,.int .i64 x.u,.int .i64 x.r])):=by simp[It.list]
 rw[e]
 exact Ym rfl (by rw[Zc,h.root])
theorem It.sub_file{x:It}(h:x.Ok):(x.list.drop 40).take 32=cB x.file:=by
 have e:x.list=([.int .i64 x.n,.string x.s]++x.p.list++cB x.root)++(cB x.file++[.int .i64 x.t,.bool x.k,.int .i64 x.u,.int .i64 x.r]):=by simp[It.list]
 rw[e]
 exact Ym (by simp[P6.list_length,Zc,h.root]) (by rw[Zc,h.file])
structure En where
 id:Int
 o:Int
 w:Int
 i:Int
 t:Int
 v:Int
 a:Int
deriving DecidableEq
instance:Inhabited En:=⟨⟨0,0,0,0,0,0,0⟩⟩
def En.list(x:En):List Value:=[.int .i64 x.id,.int .i64 x.o,.int .i64 x.w,.int .i64 x.i,.int .i64 x.t,.int .i64 x.v,.int .i64 x.a]
def En.lits(x:En):List Lit:=[.int .i64 x.id,.int .i64 x.o,.int .i64 x.w,.int .i64 x.i,.int .i64 x.t,.int .i64 x.v,.int .i64 x.a]
def En.Ok(x:En):Prop:=inI x.id/\inI x.o/\inI x.w/\inI x.i/\inI x.t/\inI x.v/\inI x.a
theorem En.list_one(x:En):∀ u∈x.list,u.oneCell'=true:=by
 intro u hu
 simp only[En.list,List.mem_cons,List.not_mem_nil,or_false] at hu
 rcases hu with rfl|rfl|rfl|rfl|rfl|rfl|rfl<;>rfl
def RI(_:World)(_:Nat->Prop)(x:It)(cs:List Value):Prop:=cs=x.list/\x.Ok
theorem YA:LiesOk RI 76:=⟨λh _ _=>h,λh _=>h,λh=>by rw[h.1];exact⟨It.list_length h.2,It.list_one _⟩⟩
def RE(_:World)(_:Nat->Prop)(x:En)(cs:List Value):Prop:=cs=x.list/\x.Ok
theorem Y4:LiesOk RE 7:=⟨λh _ _=>h,λh _=>h,λh=>by rw[h.1];exact⟨rfl,En.list_one _⟩⟩
theorem KG{base:Nat}{w:World}{e:TypeId}{F:Nat->Prop}{v:Value}{xs:List It}(h:RowsOf RI e 76 base w F v xs):∃ a c,v=.slice a xs.length c/\RowAt It.list 76 w a xs/\xs.length<=c/\c<=maxLen/\(∀ x∈xs,x.Ok):=by
 obtain⟨a,c,e1,e2,e3,e4,e5⟩:=h.form
 refine⟨a,c,e1,λk hk=>?_,e3,e4,λx hx=>?_⟩
 ·obtain⟨g,c',cs,e6,⟨rfl,_⟩,h7⟩:=h.elem YA k _ (List.getElem?_eq_getElem hk)
  rw[e1] at e6
  cases e6
  exact⟨g,0,rfl,by rw[Nat.zero_add];exact h7⟩
 ·obtain⟨k,hk,rfl⟩:=List.getElem_of_mem hx
  obtain⟨g,c',cs,e6,⟨_,h8⟩,h7⟩:=h.elem YA k _ (List.getElem?_eq_getElem hk)
  exact h8
theorem KJ{base:Nat}{w:World}{e:TypeId}{F:Nat->Prop}{v:Value}{xs:List En}(h:RowsOf RE e 7 base w F v xs):∃ a c,v=.slice a xs.length c/\RowAt En.list 7 w a xs/\xs.length<=c/\c<=maxLen/\(∀ x∈xs,x.Ok):=by
 obtain⟨a,c,e1,e2,e3,e4,e5⟩:=h.form
 refine⟨a,c,e1,λk hk=>?_,e3,e4,λx hx=>?_⟩
 ·obtain⟨g,c',cs,e6,⟨rfl,_⟩,h7⟩:=h.elem Y4 k _ (List.getElem?_eq_getElem hk)
  rw[e1] at e6
  cases e6
  exact⟨g,0,rfl,by rw[Nat.zero_add];exact h7⟩
 ·obtain⟨k,hk,rfl⟩:=List.getElem_of_mem hx
  obtain⟨g,c',cs,e6,⟨_,h8⟩,h7⟩:=h.elem Y4 k _ (List.getElem?_eq_getElem hk)
  exact h8
structure St where
 its:List It
 ens:List En
structure ArgS (w:World) (v:Value) (m:St):Prop where
 form:∃ a c a' c',v=.agg #[.slice a m.its.length c,.slice a' m.ens.length c']/\RowAt It.list 76 w a m.its/\m.its.length<=c/\c<=maxLen/\RowAt En.list 7 w a' m.ens/\m.ens.length<=c'/\c'<=maxLen
 okN:∀ x∈m.its,x.Ok
 okV:∀ x∈m.ens,x.Ok
theorem ArgS.below{B:Nat}{w w':World}{v:Value}{m:St}(h:ArgS w v m)(hb:Below B w w')(hB:w.heap.size<=B):ArgS w' v m:=by
 obtain⟨⟨a,c,a',c',e,h1,h2,h3,h4,h5,h6⟩,h7,h8⟩:=h
 exact⟨⟨a,c,a',c',e,h1.below hb hB,h2,h3,h4.below hb hB,h5,h6⟩,h7,h8⟩
theorem GA:(Tryz.prog.info? 86).map (λi=>(i.zero.map (·.cells.size),i.size,i.bytes))=some (some 76,76,168):=kX
theorem G2:(Tryz.prog.info? 77).map (λi=>(i.zero.map (·.cells.size),i.size,i.bytes))=some (some 7,7,56):=kX
section
variable {P:Program} {ops:Array Oper} {rest:List Oper} {o:Oper} {a:Act} {w:World} {Q:Exit->Act->World->Prop}
theorem Yx{fn:Func}{p:Tmp}{ty:TypeId}(h:fn.results=#[.cell p ty])(tmps:Array Value)(w:World) :
  (results fn tmps).run P w=((asAddr (tmps.getD p undef)).run P w).andThen λa w₁=>(loadVar ty a).run P w₁:=by
 simp only[results,h]
 simp[Sem.run_bind,Result.andThen]
end
theorem Zm{P:Program}{fn:Func}{R:Ending->World->Prop}{p:Tmp}{ty:TypeId}{tmps:Array Value}{W:World}{b:Nat}{c:Array Value}{d:TypeDesc}(h:fn.results=#[.cell p ty])
  (hp:tmps.getD p undef=.pointer (some ⟨b,0,none⟩)) (hu:P.underlying ty=some d) (hd:(match d with | .struct _ | .array _ _=>true|_=>false)=true) (hi:(P.info? ty).map (·.size)=some c.size) (hh:W.heap[b]? = some (.cells c ty (0,0))) (hR:R (.returned (.agg c)) W) :
  bodyPost P fn R .ret ⟨tmps,[]⟩ W:=by
 refine bodyPost_ret (v:=.agg c) ?_ rfl hR
 rw[Yx h,hp]
 simp[asAddr,Result.andThen,run_loadVar_row W b ty ty c (0,0) d hh hu hd hi]
theorem Upd.setRow{b:Nat}{old cs:Array Value}{t:TypeId}{fz:Nat×Nat}{w:World}(hg:w.heap[b]? = some (.cells old t fz)):Upd b (.cells cs t fz) w (w.setRow b cs):=by
 refine⟨rfl,rfl,rfl,by simp[World.setRow],λk hk=>?_,setRow_heap w b old cs t fz hg⟩
 simp only[World.setRow,Array.getElem?_modify]
 rw[if_neg (λe=>hk e.symm)]
section
variable {P:Program} {ops:Array Oper} {rest:List Oper} {o:Oper} {a:Act} {w:World} {Q:Exit->Act->World->Prop}
theorem Zd(hgd:o.guard=none)(ty:TypeId)(x y:Operand)(ho:o.op=.store ty x y)(g:Nat)(c c':Array Value)
  (hx:a.eval x=.pointer (some ⟨g,0,none⟩)) (hy:a.eval y=.agg c') (hg:Hid (w.heap[g]? = some (.cells c ty (0,0)))) (hi:(P.info? ty).map (·.size)=some c'.size) (hs:c.size=c'.size) (h1:c'.all (·.oneCell')=true)
  (h:∀ w',Hid (Upd g (.cells c' ty (0,0)) w w')->wpList P ops Q rest (a.put o.dst undef) w'):wpList P ops Q (o::rest) a w:=by
 refine wpList_plain hgd λK hK=>?_
 have h2:=hK _ _ (h _ (Hd (Upd.setRow (cs:=c') hg.out)))
 unfold Oper.wp execOp
 simp only[ho,hx,hy,Instr.storeAt,Instr.sureAddr,Sem.run_bind,Sem.run_pure,Result.andThen_ok,run_storeVar_row w g ty ty c c' hg.out hi hs h1]
 exact h2
theorem QD{K:Act->World->Prop}(ty:TypeId)(x y:Operand)(ho:o.op=.store ty x y)(g:Nat)(c c':Array Value)
  (hx:a.eval x=.pointer (some ⟨g,0,none⟩)) (hy:a.eval y=.agg c') (hg:Hid (w.heap[g]? = some (.cells c ty (0,0)))) (hi:(P.info? ty).map (·.size)=some c'.size) (hs:c.size=c'.size) (h1:c'.all (·.oneCell')=true)
  (h:∀ w',Hid (Upd g (.cells c' ty (0,0)) w w')->K (a.put o.dst undef) w'):o.wp P a w K Q:=by
 have h2:=h _ (Hd (Upd.setRow (cs:=c') hg.out))
 unfold Oper.wp execOp
 simp only[ho,hx,hy,Instr.storeAt,Instr.sureAddr,Sem.run_bind,Sem.run_pure,Result.andThen_ok,run_storeVar_row w g ty ty c c' hg.out hi hs h1]
 exact h2
theorem Ze(hgd:o.guard=none)(ty:TypeId)(x:Operand)(ho:o.op=.load ty x)(g:Nat)(c:Array Value)(d:TypeDesc)
  (hx:a.eval x=.pointer (some ⟨g,0,none⟩)) (hg:Hid (w.heap[g]? = some (.cells c ty (0,0)))) (hu:P.underlying ty=some d) (hd:(match d with | .struct _ | .array _ _=>true|_=>false)=true) (hi:(P.info? ty).map (·.size)=some c.size)
  (h:wpList P ops Q rest (a.put o.dst (.agg c)) w):wpList P ops Q (o::rest) a w:=by
 refine wpList_plain hgd λK hK=>?_
 have h2:=hK _ _ h
 unfold Oper.wp execOp
 simp only[ho,hx,Instr.loadAt,Instr.sureAddr,Sem.run_bind,Sem.run_pure,Result.andThen_ok,run_loadVar_row w g ty ty c (0,0) d hg.out hu hd hi]
 exact h2
end
def Z6:List (Bool×Nat)->Bool×List (Bool×Nat)
 | []=>(false,[])
 | (_,0)::s=>Z6 s
 | (b,n+1)::s=>(b,(b,n)::s)
def ZD(U:Nat->Value):Nat->List (Bool×Nat)->List Value->List Value
 | _,_,[]=>[]
 | i,s,v::l=>(bif (Z6 s).1 then U i else v)::ZD U (i+1) (Z6 s).2 l
theorem Xp(U:Nat->Value):∀ (l:List Value) (s:List (Bool×Nat)) (i:Nat),(∀ k v,l[k]? = some v->U (i+k)=v)->ZD U i s l=l
 | [],_,_,_=>rfl
 | v::l,s,i,h=>by
  rw[ZD,Xp U l (Z6 s).2 (i+1) (λk v hk=>by rw[Nat.add_assoc,Nat.add_comm 1 k];exact h (k+1) v (by simpa using hk))]
  have h0:U i=v:=h 0 v sX
  cases (Z6 s).1
  ·rfl
  ·simp[h0]
theorem Uv(seg:List (Bool×Nat))(l:List Value):ZD (λi=>l.getD i undef) 0 seg l=l:=
 Xp _ l seg 0 λk v hk=>by
  rw[Nat.zero_add,List.getD_eq_getElem?_getD,hk];rfl
section
variable {P:Program} {Q:Exit->Act->World->Prop} {w:World} {c:Code}
theorem ZA(seg:List (Bool×Nat))(l:List Value)(ds:_)(R:(Nat->Value)->World->Prop)(M:(Nat->Value)->World->Nat)(h0:R (λi=>l.getD i undef) w)
  (hr:∀ U wr,R U wr->∀ K:Act->World->Prop,Hid (∀ l'' w'',ZD (λi=>l''.getD i undef) 0 seg l=l''->R (λi=>l''.getD i undef) w''->M (λi=>l''.getD i undef) w''<M U wr->K ⟨l''.toArray,ds⟩ w'')->
   ∀ l',ZD U 0 seg l=l'->c.wp P (Exit.then K Q) ⟨l'.toArray,ds⟩ wr):(Code.loop c).wp P Q ⟨l.toArray,ds⟩ w:=by
 refine wp_loop_ghost (λn a w'=>∃ U,R U w'/\M U w'=n/\a=⟨(ZD U 0 seg l).toArray,ds⟩) (M (λi=>l.getD i undef) w) ⟨_,h0,rfl,by rw[Uv]⟩ ?_
 rintro n a w' ⟨U,hR,rfl,rfl⟩
 refine hr U w' hR _ (Hd ?_) _ rfl
 intro l'' w'' he h1 h2
 exact⟨_,h2,_,h1,rfl,by rw[he]⟩
end
end Go.Proofs.YtdilmfnpkeihiaaGreatDoor
