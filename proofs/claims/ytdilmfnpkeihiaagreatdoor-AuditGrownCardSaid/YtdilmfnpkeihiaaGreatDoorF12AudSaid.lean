import Derived.Test.YtdilmfnpkeihiaaGreatDoorF0AudSaid
import Derived.Test.YtdilmfnpkeihiaaGreatDoorF2AudSaid
import Derived.Test.YtdilmfnpkeihiaaGreatDoorF9AudSaid
import Derived.Test.YtdilmfnpkeihiaaGreatDoorF10AudSaid
import Derived.Test.YtdilmfnpkeihiaaGreatDoorF6AudSaid
import Derived.Laws.OwnMore
import Derived.RegionTactic
import Derived.Test.YtdilmfnpkeihiaaGreatDoorF11AudSaid
import Derived.Test.YtdilmfnpkeihiaaGreatDoorF1AudSaid
import Derived.Lib.LazyBuf
import Derived.Test.YtdilmfnpkeihiaaGreatDoorRows
import Derived.Outline
set_option linter.unusedVariables false
set_option linter.unusedSimpArgs false
set_option linter.unnecessarySimpa false
set_option maxRecDepth 100000
set_option maxHeartbeats 8000000
namespace Go.Proofs.YtdilmfnpkeihiaaGreatDoor
open Go.RowKit
section
variable {P:Program} {fn:Func} {R:Ending->World->Prop} {p q:Tmp} {ty:TypeId}
theorem YQ(h:fn.results=#[.cell p ty,.tmp q])(tmps:Array Value)(w:World) :
  (results fn tmps).run P w=((asAddr (tmps.getD p undef)).run P w).andThen λa w₁=>((loadVar ty a).run P w₁).andThen λv w₂=>.ok (.tuple #[v,tmps.getD q undef]) w₂:=by
 simp[results,h,Sem.run_bind,Result.andThen]
theorem Jm{tmps:Array Value}{W:World}{b:Nat}{c:Array Value}{d:TypeDesc}(h:fn.results=#[.cell p ty,.tmp q])
  (hp:tmps.getD p undef=.pointer (some ⟨b,0,none⟩)) (hu:P.underlying ty=some d) (hd:(match d with | .struct _ | .array _ _=>true|_=>false)=true) (hi:(P.info? ty).map (·.size)=some c.size) (hh:W.heap[b]? = some (.cells c ty (0,0))) (hR:R (.returned (.tuple #[.agg c,tmps.getD q undef])) W) :
  bodyPost P fn R .ret ⟨tmps,[]⟩ W:=by
 refine bodyPost_ret (v:=.tuple #[.agg c,tmps.getD q undef]) ?_ rfl hR
 rw[YQ h,hp]
 simp[asAddr,Result.andThen,run_loadVar_row W b ty ty c (0,0) d hh hu hd hi]
end
section
variable {P:Program} {fn:Func} {R:Ending->World->Prop} {p q r:Tmp} {ty:TypeId}
end
theorem Vc{w:World}{b:Nat}{o:Obj}(h:w.heap[b]? = some o)(o':Obj):(w.alloc o').heap[b]? = some o:=
 (((Below.refl w.heap.size w).alloc nR o').block b (Zb h)).trans h
theorem QZ(w:World)(C D:Array Value)(t u:TypeId)(W:World)(hW:W=(w.alloc (.cells C t)).alloc (.cells D u)) :
  W.heap[w.heap.size]? = some (.cells C t (0,0))/\W.heap[w.heap.size+1]? = some (.cells D u (0,0))/\W.heap.size=w.heap.size+2/\Below w.heap.size w W:=by
 subst hW
 refine⟨Vc (heap_alloc_new w _) _,?_,sX,(bR.alloc nR _).alloc sX _⟩
 have h:=heap_alloc_new (w.alloc (.cells C t)) (.cells D u (0,0))
 rw[World.size_alloc] at h
 exact h
def cf(p:List UInt8)(i:Nat):UInt8:=p.getD i 0
theorem Gu{p:List UInt8}{i:Nat}(h:i<p.length):cf p i=p[i]:=by simp[cf,h]
theorem VS{p:List UInt8}{i:Nat}(h:p.length<=i):cf p i=0:=by simp[cf,h]
theorem JB{p q:List UInt8}(hl:p.length=q.length)(h:∀ i,cf p i=cf q i):p=q:=by
 apply List.ext_getElem hl
 intro i h1 h2
 have:=h i
 rwa [Gu h1,Gu h2] at this
def tab(n:Nat)(f:Nat->UInt8):List UInt8:=(List.range n).map f
theorem ZL(n:Nat)(f:Nat->UInt8):(tab n f).length=n:=by simp[tab]
theorem Yg(n:Nat)(f:Nat->UInt8)(i:Nat):cf (tab n f) i=if i<n then f i else 0:=by
 unfold cf tab
 by_cases h:i<n
 ·simp[h]
 ·simp[h]
theorem GT(p:List UInt8):tab p.length (cf p)=p:=by
 apply JB (ZL _ _)
 intro i
 rw[Yg]
 by_cases h:i<p.length
 ·rw[if_pos h]
 ·rw[if_neg h,VS (Nat.le_of_not_lt h)]
theorem Y5{n:Nat}{f g:Nat->UInt8}(h:∀ i,i<n->f i=g i):tab n f=tab n g:=by
 apply JB (by simp[ZL])
 intro i
 rw[Yg,Yg]
 by_cases hi:i<n
 ·rw[if_pos hi,if_pos hi,h i hi]
 ·rw[if_neg hi,if_neg hi]
theorem G1(n:Nat)(f:Nat->UInt8)(i:Nat)(x:UInt8):(tab n f).set i x=tab n λj=>if j=i then x else f j:=by
 apply JB (by simp[ZL])
 intro j
 by_cases hj:j<n
 ·rw[Yg,if_pos hj]
  unfold cf
  rw[List.getD_eq_getElem?_getD,List.getElem?_set]
  by_cases h:i=j
  ·subst h
   rw[if_pos rfl,if_pos (by rw[ZL];exact hj),if_pos rfl];rfl
  ·rw[if_neg h,if_neg (λe=>h e.symm),<-List.getD_eq_getElem?_getD]
   have:=Yg n f j
   rw[if_pos hj] at this
   exact this
 ·rw[VS (by simp[ZL];omega),VS (by simp[ZL];omega)]
theorem Tryz.infoByteP:(Tryz.prog.info? 5).map (λi=>(i.zero,i.size,i.bytes))=some (some (.int .u8 0),1,1):=kX
def OwnB(base:Nat)(w:World)(v:Value)(bs:List UInt8):Prop:=w.ownsRow base 5 1 v bs.length (cB bs)
theorem OwnB.arg{base:Nat}{w:World}{v:Value}{bs:List UInt8}(h:OwnB base w v bs):∃ a c,v=.slice a bs.length c/\ArgB w a c bs/\∀ b o s,a=some ⟨b,o,s⟩->base<=b/\b<w.heap.size:=by
 obtain⟨a,c,rfl,h1,h2,h3,h4,_,h5⟩:=KV h
 rw[Zc] at h2
 refine⟨a,c,by rw[Zc],⟨h2,h3,h1,h4.toB⟩,h5⟩
theorem OwnB.nil(base:Nat)(w:World):OwnB base w (.slice none 0 0) []:=⟨rfl,.inl ⟨rfl,rfl⟩⟩
theorem OwnB.mono{base base':Nat}{w:World}{v:Value}{bs:List UInt8}(h:OwnB base w v bs)(hb:base'<=base):OwnB base' w v bs:=by
 obtain⟨h1,h2⟩:=h
 refine⟨h1,?_⟩
 rcases h2 with h2|⟨g,cap,cur,e1,e2,e3⟩
 ·exact .inl h2
 ·exact .inr ⟨g,cap,cur,e1,oX,e3⟩
theorem Ul(w:World)(base:Nat)(hb:base<=w.heap.size):OwnB base (w.alloc (.cells #[] 5)) (.slice (some ⟨w.heap.size,0,none⟩) 0 0) []:=by
 have h:=World.ownsRow_made (base:=base) (e:=5) (size:=1) w #[] 0 hb dX sX
 simpa[OwnB,cB] using h
theorem QA(a:Option Addr)(cap:Nat)(bs:List UInt8)(w:World)(h:ArgB w a cap bs)(hr:bs.length<=1000000) :
  Calls Tryz.prog 39 #[.slice a bs.length cap] w λe w'=>∃ v,e=.returned v/\OwnB w.heap.size w' v bs/\Below w.heap.size w w':=by
 obtain⟨i0,hi,hz0,hz1,hz2⟩:=info_parts Tryz.infoByteP
 have h:=Hd h
 have hq:=@Lib.run_eql_slice_nil Tryz.prog w 52 5 a bs.length cap 0 0 Tryz.underlying52
 cases a with
 | none=>
  have hc:=h.out.nil rfl
  subst hc
  have hl:bs=[]:=List.eq_nil_of_length_eq_zero (by have:=h.out.len;omega)
  subst hl
  have hq':=@Lib.run_eql_slice_nil Tryz.prog w 52 5 none 0 0 0 0 Tryz.underlying52
  clear hq
  go_enter Tryz.func39,Tryz.ntmps39
  go_wp2_with fail
  go_ret
  exact⟨_,rfl,OwnB.nil _ _,Below.refl _ _⟩
 | some ad=>
  have hnil:=Hd (show (some ad=none->cap=0) from λe=>by cases e)
  have hlen:=Hd (Zc bs)
  have hown0:=Hd (Ul w w.heap.size nR)
  have hb0:=Hd ((Below.refl w.heap.size w).alloc nR (.cells #[] 5))
  have hsrc:=Hd ((At.ofB h.out.row).below hb0.out)
  unfold OwnB at hown0
  go_enter Tryz.func39,Tryz.ntmps39
  go_wp2_with (at_builtin;go_must (refine Yu rfl (.tmp 5) (.tmp 6) 52 rfl w.heap.size 5 i0 (.int .u8 0) 1 Tryz.underlying52 hi hz0 hz1 hz2 dX _ 0 [] rfl hown0 _ bs.length cap (cB bs) rfl hlen hsrc hnil (Zs bs) (by unfold maxLen;omega) oX sX ?_))
  intro v' w2 hown2 hg2
  have hb2:=Hd (hb0.out.grown hg2.out sX (λk hk=>by cases hk;exact Nat.le_refl _))
  go_wp2_with fail
  go_ret
  refine⟨_,rfl,?_,hb2.out⟩
  have:=hown2.out
  simpa[OwnB] using this
section
variable {w:World} {ops:Array Oper} {rest:List Oper} {o:Oper} {a:Act} {Q:Exit->Act->World->Prop}
theorem KQ(hgd:o.guard=none)(s x:Operand)(ho:o.op=.call { callee:=.builtin .append,args:=#[s,x],argTypes:=#[52,52] })
  (base:Nat) (v:Value) (bs:List UInt8) (hs:a.eval s=v) (hown:Hid (OwnB base w v bs))
  (u:UInt8) (hx:a.eval x=.slice (some ⟨w.heap.size,0,none⟩) 1 1) (hl:bs.length<=1000000) (hbase:base<=w.heap.size)
  (h:∀ v' w',Hid (OwnB base w' v' (bs++[u]))->Hid (Below base w w')->wpList Tryz.prog ops Q rest (a.put o.dst v') w') :
  wpList Tryz.prog ops Q (o::rest) a (w.alloc (.cells #[.int .u8 (u.toNat:Int)] 5)):=by
 obtain⟨i0,hi,hz0,hz1,hz2⟩:=info_parts Tryz.infoByteP
 refine XD hgd s x 52 ho base 5 i0 (.int .u8 0) 1 Tryz.underlying52 hi hz0 hz1 hz2 rfl v bs.length (cB bs) hs (Hd hown.out) (.int .u8 (u.toNat:Int)) hx rfl (by unfold maxLen;omega) oX hbase ?_
 intro v' w' h1 h2 _
 refine h v' w' (Hd ?_) (Hd ((Below.refl base w).grown h2.out hbase (λk hk=>(World.ownsRow.lt hown.out k hk).1)))
 unfold OwnB
 rw[Q9,List.length_append]
 exact h1.out
theorem GI(hgd:o.guard=none)(s x:Operand)(ho:o.op=.call { callee:=.builtin .append,args:=#[s,x],argTypes:=#[52,52] })
  (base:Nat) (v:Value) (bs:List UInt8) (hs:a.eval s=v) (hown:Hid (OwnB base w v bs))
  (ao:Option Addr) (c:Nat) (ys:List UInt8) (m:Nat) (hx:a.eval x=.slice ao m c) (hm:Hid (ys.length=m)) (hy:Hid (ArgB w ao c ys)) (hl:bs.length<=1000000) (hl2:m<=1000000) (hbase:base<=w.heap.size)
  (h:∀ v' w',Hid (OwnB base w' v' (bs++ys))->Hid (Below base w w')->wpList Tryz.prog ops Q rest (a.put o.dst v') w') :
  wpList Tryz.prog ops Q (o::rest) a w:=by
 obtain⟨i0,hi,hz0,hz1,hz2⟩:=info_parts Tryz.infoByteP
 refine Yu hgd s x 52 ho base 5 i0 (.int .u8 0) 1 Tryz.underlying52 hi hz0 hz1 hz2 rfl v bs.length (cB bs) hs (Hd hown.out) ao m c (cB ys) hx (Hd (by rw[Zc];exact hm.out)) (Hd (At.ofB hy.out.row)) (Hd hy.out.nil) (Zs ys) (by unfold maxLen;omega) oX hbase ?_
 intro v' w' h1 h2
 refine h v' w' (Hd ?_) (Hd ((Below.refl base w).grown h2.out hbase (λk hk=>(World.ownsRow.lt hown.out k hk).1)))
 unfold OwnB
 rw[Q9,List.length_append,hm.out]
 exact h1.out
end
theorem OwnB.below{base B:Nat}{w w':World}{v:Value}{bs:List UInt8}(h:OwnB base w v bs)(hb:Below B w w')(hB:w.heap.size<=B):OwnB base w' v bs:=by
 refine⟨h.1,?_⟩
 rcases h.2 with h2|⟨g,cap,cur,e1,e2,e3,e4⟩
 ·exact .inl h2
 ·exact .inr ⟨g,cap,cur,e1,e2,(hb.block g (by have:=Zb e3;omega)).trans e3,e4⟩
theorem OwnB.form{base:Nat}{w:World}{v:Value}{bs:List UInt8}(h:OwnB base w v bs)(hn:0<bs.length):∃ g c,v=.slice (some ⟨g,0,none⟩) bs.length c/\base<=g:=by
 rcases h.2 with ⟨_,hx⟩|⟨g,cap,cur,e1,e2,_⟩
 ·rw[hx] at hn;exact absurd hn oX
 ·exact⟨g,cap,e1,e2⟩
end Go.Proofs.YtdilmfnpkeihiaaGreatDoor
