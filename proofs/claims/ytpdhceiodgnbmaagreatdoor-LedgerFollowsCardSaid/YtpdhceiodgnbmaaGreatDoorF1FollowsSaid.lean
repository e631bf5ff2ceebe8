import Derived.Test.YtpdhceiodgnbmaaGreatDoorF0FollowsSaid
import Derived.WalkKit
import Derived.WalkSpells
import Derived.WalkLawsBesides
import Derived.WalkSmall
import Derived.BigQuiet
import Derived.Lib.Hide
import Derived.Carry
import Derived.ProofKit
import Derived.OpenShut
import Derived.Laws.AppendOwnNone
import Derived.Laws.BytesString
import Derived.Laws.BitsAllLaws
import Derived.Deep.QuietTactic
import Derived.Deep.RegionHeld3
import Derived.DeepKeys
import Derived.MapViews
import Derived.Laws.StructEq
set_option linter.unusedVariables false
set_option linter.unusedSimpArgs false
set_option linter.unnecessarySimpa false
set_option maxRecDepth 100000
set_option maxHeartbeats 8000000
namespace Go.Proofs.YtpdhceiodgnbmaaGreatDoor
open Go.RowKit
structure Upd (b:Nat) (o:Obj) (w w':World):Prop where
 os:w'.os=w.os
 tape:w'.tape=w.tape
 output:w'.output=w.output
 size:w'.heap.size=w.heap.size
 block:∀ k,k≠b->w'.heap[k]? = w.heap[k]?
 here:w'.heap[b]? = some o
theorem Upd.refl{b:Nat}{o:Obj}{w:World}(h:w.heap[b]? = some o):Upd b o w w:=⟨rfl,rfl,rfl,rfl,λ_ _=>rfl,h⟩
theorem Upd.below{b B:Nat}{o:Obj}{w w':World}(h:Upd b o w w')(hb:B<=b):Below B w w':=
 ⟨h.os,h.tape,h.output,by rw[h.size];exact Nat.le_refl _,λk hk=>h.block k oX⟩
theorem Upd.trans{b:Nat}{o o':Obj}{w w1 w2:World}(h:Upd b o w w1)(h':Upd b o' w1 w2):Upd b o' w w2:=
 ⟨h'.os.trans h.os,h'.tape.trans h.tape,h'.output.trans h.output,h'.size.trans h.size,λk hk=>(h'.block k hk).trans (h.block k hk),h'.here⟩
theorem Upd.drew{b:Nat}{o:Obj}{w w':World}(h:Upd b o w w'):Upd b o w w'.drew:=
 ⟨h.os,h.tape,h.output,h.size,h.block,h.here⟩
theorem Upd.setCell{b j:Nat}{cs:Array Value}{t:TypeId}{fz:Nat×Nat}{w w':World}(h:Upd b (.cells cs t fz) w w')(v:Value) :
  Upd b (.cells (cs.setIfInBounds j v) t fz) w (w'.setCell ⟨b,j,none⟩ v):=by
 refine⟨h.os,h.tape,h.output,?_,?_,?_⟩
 ·simp[World.setCell,h.size]
 ·intro k hk
  rw[Below.heap_setCell _ _ _ _ (by simpa using hk)]
  exact h.block k hk
 ·have hh:=h.here
  simp only[World.setCell,Array.getElem?_modify,if_true]
  rw[hh];rfl
theorem Upd.to{b:Nat}{o o':Obj}{w w':World}(h:Upd b o w w')(e:o=o'):Upd b o' w w':=e▸h
theorem Za{w:World}{b:Nat}{cs:Array Value}{t:TypeId}{fz:Nat×Nat}(h:w.heap[b]? = some (.cells cs t fz))(j:Nat):w.cell? ⟨b,j,none⟩=cs[j]? := by
 simp[World.cell?,h]
theorem Zm{w:World}{b:Nat}{cs:Array Value}{t:TypeId}(h:w.heap[b]? = some (.cells cs t (0,0)))(j:Nat):w.frozen? ⟨b,j,none⟩=false:=by
 simp[World.frozen?,h]
theorem Zb{w:World}{b:Nat}{o:Obj}(h:w.heap[b]? = some o):b<w.heap.size:=by
 rcases Nat.lt_or_ge b w.heap.size with h'|h'
 ·exact h'
 ·simp[Array.getElem?_eq_none h'] at h
theorem JU{w w':World}{o:Obj}{row:Option Nat}(h:(w.alloc o).grownBy w' row):w.grownBy w' row:=
 ⟨h.os,h.tape,h.output,Nat.le_trans sX h.size,λk hk hr=>(h.block k sY hr).trans (Below.heap_alloc _ _ _ hk)⟩
theorem XY{P:Program}{w:World}{ops:Array Oper}{rest:List Oper}{o:Oper}{a:Act}{Q:Exit->Act->World->Prop}(hgd:o.guard=none)(s x:Operand)(t:TypeId)
  (ho:o.op=.call { callee:=.builtin .append,args:=#[s,x],argTypes:=#[t,t] })
  (base:Nat) (e:TypeId) (i:TypeInfo) (z:Value) (bytes:Nat) (ht:P.underlying t=some (.slice e)) (hi:P.info? e=some i) (hz:i.zero=some z)
  (hsize:i.size=1) (hby:i.bytes=bytes) (hzs:z.cells.size=1)
  (v:Value) (n:Nat) (xs:List Value) (hs:a.eval s=v) (hown:Hid (w.ownsRow base e 1 v n xs))
  (u:Value) (hx:a.eval x=.slice (some ⟨w.heap.size,0,none⟩) 1 1) (h1:u.oneCell'=true)
  (h63:n+1<=maxLen) (hbytes:(n+1)*bytes<=140737488355328) (hbase:base<=w.heap.size)
  (h:∀ v' w',Hid (w'.ownsRow base e 1 v' (n+1) (xs++[u]))->Hid (w.grownBy w' v.ownBlock)->Hid (v'≠.slice none 0 0)->wpList P ops Q rest (a.put o.dst v') w') :
  wpList P ops Q (o::rest) a (w.alloc (.cells #[u] e)):=
 wpList_append_own _ hgd s x t ho base e i z 1 bytes ht hi hz hsize hby hzs oX v n xs hs (World.ownsRow.alloc hown.out _) ⟨w.heap.size,0,none⟩ 1 1 [u] hx rfl (cell_one_new _ _ _)
  (by intro y hy;simp at hy;subst hy;exact h1) h63 hbytes sY λv' w' h2 h3 h4=>h v' w' h2 (JU h3) (λe=>by have:=h4.1 e;omega)
def P9(k:IntKind)(w:World)(a:Option Addr)(zs:List Int):Prop:=
 ∀ i,i<zs.length->∃ b off,a=some ⟨b,off,none⟩/\w.cell? ⟨b,off+i,none⟩=some (.int k (zs.getD i 0))
def RowB(w:World)(a:Option Addr)(bs:List UInt8):Prop:=
 ∀ i,i<bs.length->∃ b off,a=some ⟨b,off,none⟩/\w.cell? ⟨b,off+i,none⟩=some (.int .u8 ((bs.getD i 0).toNat:Int))
theorem RowB.below{w w':World}{a:Option Addr}{bs:List UInt8}(h:RowB w a bs)(hb:Below w.heap.size w w'):RowB w' a bs:=by
 intro i hi
 obtain⟨b,off,rfl,hc⟩:=h i hi
 exact⟨b,off,rfl,(hb.cell (World.block_lt_of_cell? w _ hc)).trans hc⟩
section
open Go.ChangeShapes
variable {H:Type} {enc:TypeId×Value->H} {P:Program} {w:World}
end
def At(w:World)(ao:Option Addr)(ys:List Value):Prop:=
 ∀ i,i<ys.length->∃ b off,ao=some ⟨b,off,none⟩/\w.cell? ⟨b,off+i,none⟩=ys[i]?
def cB(bs:List UInt8):List Value:=bs.map λx=>.int .u8 (x.toNat:Int)
def cI(zs:List Int):List Value:=zs.map λx=>.int .i64 x
theorem Zd(bs:List UInt8):(cB bs).length=bs.length:=by simp[cB]
theorem JA(zs:List Int):(cI zs).length=zs.length:=by simp[cI]
theorem QR(a b:List UInt8):cB (a++b)=cB a++cB b:=by simp[cB]
theorem H4(a b:List Int):cI (a++b)=cI a++cI b:=by simp[cI]
theorem ZU(bs:List UInt8):∀ u∈cB bs,u.oneCell'=true:=by intro u hu;simp only[cB,List.mem_map] at hu;obtain⟨_,_,rfl⟩:=hu;rfl
theorem At.below{w w':World}{ao:Option Addr}{ys:List Value}(h:At w ao ys)(hb:Below w.heap.size w w'):At w' ao ys:=by
 intro i hi
 obtain⟨b,off,rfl,hc⟩:=h i hi
 refine⟨b,off,rfl,?_⟩
 rw[List.getElem?_eq_getElem hi] at hc ⊢
 exact(hb.cell (World.block_lt_of_cell? w _ hc)).trans hc
theorem At.ofB{w:World}{ao:Option Addr}{bs:List UInt8}(h:RowB w ao bs):At w ao (cB bs):=by
 intro i hi
 rw[Zd] at hi
 obtain⟨b,off,rfl,hc⟩:=h i hi
 exact⟨b,off,rfl,by rw[hc];simp[cB,hi]⟩
theorem At.toB{w:World}{ao:Option Addr}{bs:List UInt8}(h:At w ao (cB bs)):RowB w ao bs:=by
 intro i hi
 obtain⟨b,off,rfl,hc⟩:=h i (by rw[Zd];exact hi)
 exact⟨b,off,rfl,by rw[hc];simp[cB,hi]⟩
theorem At.toI{w:World}{ao:Option Addr}{zs:List Int}(h:At w ao (cI zs)):P9 .i64 w ao zs:=by
 intro i hi
 obtain⟨b,off,rfl,hc⟩:=h i (by rw[JA];exact hi)
 exact⟨b,off,rfl,by rw[hc];simp[cI,hi]⟩
theorem At.take{w:World}{ao:Option Addr}{ys:List Value}(h:At w ao ys)(n:Nat):At w ao (ys.take n):=by
 intro i hi
 have hi':i<n/\i<ys.length:=by simpa[Nat.lt_min] using hi
 obtain⟨b,off,rfl,hc⟩:=h i hi'.2
 exact⟨b,off,rfl,by rw[hc];simp[hi'.1]⟩
theorem R1{w:World}{base:Nat}{e:TypeId}{g n cap:Nat}{xs:List Value}(h:w.ownsRow base e 1 (.slice (some ⟨g,0,none⟩) n cap) n xs):At w (some ⟨g,0,none⟩) xs:=by
 intro i hi
 obtain⟨hx,h2⟩:=h
 rcases h2 with ⟨h2,_⟩|⟨g',cap',cur,hv,hb,hg,hn,hcap,hcur,htake⟩
 ·cases h2
 ·cases hv
  refine⟨g,0,rfl,?_⟩
  rw[Za hg,<-htake]
  have:i<n:=oX
  simp[this]
theorem Gc{w:World}{base:Nat}{e:TypeId}{v:Value}{n:Nat}{xs:List Value}(h:w.ownsRow base e 1 v n xs) :
  ∃ a c,v=.slice a xs.length c/\(a=none->c=0)/\xs.length<=c/\c<=maxLen/\At w a xs/\xs.length=n/\∀ b o s,a=some ⟨b,o,s⟩->base<=b/\b<w.heap.size:=by
 have hx:=h.1
 rcases h.2 with ⟨rfl,rfl⟩|⟨g,cap,cur,rfl,hb,hg,hn,hcap,hcur,htake⟩
 ·have:xs=[]:=List.eq_nil_of_length_eq_zero (by simpa using hx)
  subst this
  exact⟨none,0,rfl,λ_=>rfl,Nat.le_refl _,Nat.zero_le _,λi hi=>by simp at hi,rfl,λ_ _ _ h=>by cases h⟩
 ·have hl:xs.length=n:=oX
  refine⟨some ⟨g,0,none⟩,cap,by rw[hl],λh=>(by cases h),oX,hcap,R1 h,hl,λb o s h=>?_⟩
  cases h
  exact⟨hb,Zb hg⟩
theorem Vs{w:World}{b off:Nat}{ys:List Value}(h:∀ i,i<ys.length->w.cell? ⟨b,off+i,none⟩=ys[i]?):∀ j u,ys[j]? = some u->w.cell? ((⟨b,off,none⟩:Addr).add j)=some u:=by
 intro j u hu
 have hj:j<ys.length:=(List.getElem?_eq_some_iff.1 hu).1
 have e1:(⟨b,off,none⟩:Addr).add j=⟨b,off+j,none⟩:=by unfold Addr.add;split<;>simp_all
 rw[e1,h j hj,hu]
section
variable {P:Program} {w:World} {ops:Array Oper} {rest:List Oper} {o:Oper} {a:Act} {Q:Exit->Act->World->Prop}
theorem Jl(hgd:o.guard=none)(s x:Operand)(t:TypeId)
  (ho:o.op=.call { callee:=.builtin .append,args:=#[s,x],argTypes:=#[t,t] })
  (base:Nat) (e:TypeId) (i:TypeInfo) (z:Value) (bytes:Nat) (ht:P.underlying t=some (.slice e)) (hi:P.info? e=some i) (hz:i.zero=some z)
  (hsize:i.size=1) (hby:i.bytes=bytes) (hzs:z.cells.size=1)
  (v:Value) (n:Nat) (xs:List Value) (hs:a.eval s=v) (hown:Hid (w.ownsRow base e 1 v n xs))
  (ao:Option Addr) (m c:Nat) (ys:List Value) (hx:a.eval x=.slice ao m c) (hm:Hid (ys.length=m)) (hsrc:Hid (At w ao ys)) (hnil:Hid (ao=none->c=0)) (h1:∀ u∈ys,u.oneCell'=true)
  (h63:n+m<=maxLen) (hbytes:(n+m)*bytes<=140737488355328) (hbase:base<=w.heap.size)
  (h:∀ v' w',Hid (w'.ownsRow base e 1 v' (n+m) (xs++ys))->Hid (w.grownBy w' v.ownBlock)->wpList P ops Q rest (a.put o.dst v') w') :
  wpList P ops Q (o::rest) a w:=by
 cases ao with
 | some ad=>
  have had:∀ j u,ys[j]? = some u->w.cell? (ad.add j)=some u:=by
   intro j u hu
   have hj:j<ys.length:=(List.getElem?_eq_some_iff.1 hu).1
   obtain⟨b,off,e,_⟩:=hsrc.out j hj
   cases e
   refine Vs (λi hi=>?_) j u hu
   obtain⟨b',off',e',hc⟩:=hsrc.out i hi
   cases e'
   exact hc
  exact wpList_append_own _ hgd s x t ho base e i z 1 bytes ht hi hz hsize hby hzs oX v n xs hs hown.out ad m c ys hx (by rw[hm.out];omega) had h1 h63 hbytes hbase λv' w' h2 h3 _=>h v' w' h2 h3
 | none=>
  have hc:=hnil.out rfl
  have hys:ys=[]:=by
   cases ys with
   | nil=>rfl
   | cons y ys=>
    obtain⟨b,off,e,_⟩:=hsrc.out 0 sX
    cases e
  have hm0:m=0:=by rw[<-hm.out,hys];rfl
  subst hys hm0 hc
  exact wpList_append_own_none hgd s x t ho base e i 1 ht hi v n xs hs hown.out hx (h v w (by rw[List.append_nil];exact hown) (World.grownBy.refl _ _))
end
def Drawn(w w':World):Prop:=∃ n,w'=w.drewN n
theorem Drawn.below{a b:World}(h:Drawn a b)(B:Nat):Below B a b:=by obtain⟨n,rfl⟩:=h;exact below_drewN bR n
theorem VD{P:Program}{f:FuncId}{args:Array Value}{w:World}{n:Nat}{v:Value}
  (h:Calls P f args (w.drewN n) λe w'=>e=.returned v/\w.drewN n=w'):Calls P f args (w.drewN n) λe w''=>e=.returned v/\∃ m,w''=w.drewN m:=
 h.mono λ_ _ ⟨he,hm⟩=>⟨he,n,hm.symm⟩
structure ArgB (w:World) (a:Option Addr) (cap:Nat) (bs:List UInt8):Prop where
 len:bs.length<=cap
 most:cap<=maxLen
 nil:a=none->cap=0
 row:RowB w a bs
theorem ArgB.below{w w':World}{a:Option Addr}{cap:Nat}{bs:List UInt8}(h:ArgB w a cap bs)(hb:Below w.heap.size w w'):ArgB w' a cap bs:=⟨h.len,h.most,h.nil,h.row.below hb⟩
section
open Go.ChangeShapes
variable {H:Type} {enc:TypeId×Value->H} {P:Program} {w:World}
end
section
variable {P:Program} {ops:Array Oper} {Q:Exit->Act->World->Prop} {md:Region.Mode}
theorem Jw{S S':World->Prop}(h:∀ w,S' w->S w):∀ (fuel:Nat) (listed:Array Bool) (a:Act) (w:World),wpAnyH P md ops Q S' fuel listed a w->wpAnyH P md ops Q S fuel listed a w
 | 0,_,_,_,hh=>hh
 | fuel+1,_,_,_,hh=>⟨hh.1,λi hi=>wpOp_mono (λa' w' h'=>⟨h _ h'.1,Jw h fuel _ a' w' h'.2⟩) (hh.2 i hi)⟩
abbrev Grown (w0 W:World):Prop:=Below w0.heap.size w0 W
theorem Grown.refl(w:World):Grown w w:=Below.refl _ _
theorem Grown.trans{a b c:World}(h:Grown a b)(h':Grown b c):Grown a c:=Below.trans h (h'.mono h.size)
theorem Grown.drew{a b:World}(h:Grown a b):Grown a b.drew:=Below.trans h (Drawn.below ⟨1,rfl⟩ _)
theorem Grown.alloc{a b:World}(h:Grown a b)(o:Obj):Grown a (b.alloc o):=Below.alloc h h.size o
theorem Qi{w0 w1:World}{fuel:Nat}{listed:Array Bool}{a:Act}(h:Grown w0 w1)(hh:Grown w1 w1->wpAnyH P md ops Q (Grown w1) fuel listed a w1):wpAnyH P md ops Q (Grown w0) fuel listed a w1:=
 Jw (λ_ h'=>h.trans h') _ _ _ _ (hh (Grown.refl w1))
theorem Ka{id:Nat}{a:Act}{w:World}(hm:P.follows .mixedOrders=true)
  (h:∀ wd,Grown w wd->wpAnyH P .any ops Q (Grown w) ops.size (Array.replicate ops.size false) a wd):(Code.region id ops true).wp P Q a w:=
 wp_region_held_drew hm (Grown.drew (Grown.refl w)) (λh0=>h _ h0)
theorem Z0{K:Act->World->Prop}{w:World}{a:Act}{c:Array Value}{t:TypeId}{fz:Nat×Nat}(h:∀ w',Hid (w'.heap[w.heap.size]? = some (.cells c t fz))->Grown w w'->K a w'):K a (w.alloc (.cells c t fz)):=
 h _ (show _=_ from heap_alloc_new w _) (Grown.alloc (Grown.refl w) _)
end
theorem sL{α:Type}(l:List α)(i:Nat)(a:α):l.toArray.setIfInBounds i a=(l.set i a).toArray:=List.setIfInBounds_toArray ..
theorem sZ{α:Type}{a:α}{as:List α}{b:α}:(a::as).set 0 b=b::as:=rfl
theorem sS{α:Type}{a:α}{as:List α}{n:Nat}{b:α}:(a::as).set (n+1) b=a::as.set n b:=rfl
theorem Hd{p:Prop}(h:p):Hid p:=Lib.hid h
section
variable {P:Program} {ops:Array Oper} {Q:Exit->Act->World->Prop} {S:World->Prop} {md:Region.Mode} {fuel:Nat} {listed:Array Bool} {a a':Act} {w:World}
theorem tk(i:Nat){oi:Oper}{v:Value}(hS:S w)(h:wpAnyH P md ops Q S fuel (listed.setIfInBounds i true) a' w)
  (hi:ops[i]? = some oi:=by(simp only[List.getElem?_toArray,List.getElem?_cons_succ,List.getElem?_cons_zero];rfl)) (hs:Region.noSelect ops=true:=by kernel_rfl) (hf:Region.free md ops listed i=true:=by kernel_rfl) (hr:(Region.ready md ops listed).contains i=true:=by kernel_rfl)
  (hQ:∀ c a w,Q (.panic c) (a.put oi.dst v) w->Q (.panic c) a w:=by exact λ_ _ _ h=>h) (hy:YieldsIf P ops S oi v a:=by exact Or.inl ⟨by rfl,by(intro W hSW;go_simp;try with_reducible rfl)⟩)
  (ha:a.put oi.dst v=a':=by((try simp only[Act.put,List.setIfInBounds_toArray,List.set_cons_zero,List.set_cons_succ]);rfl)):wpAnyH P md ops Q S (fuel+1) listed a w:=
 wpAnyH_take hi hs hf hr hQ hy hS (ha▸h)
theorem rd(i:Nat){o:Oper}(h:∀ K':Act->World->Prop,Shut (∀ a w,S w->(S w->wpAnyH P md ops Q S fuel (listed.setIfInBounds i true) a w)->K' a w)->if Region.wanted o (yielded ops a.tmps)=true then Oper.wp P o a w K' Q else K' (a.put o.dst undef) w)
  (hr:Region.ready md ops listed=[i]:=by kernel_rfl) (ho:ops[i]? = some o:=by(simp only[List.getElem?_toArray,List.getElem?_cons_succ,List.getElem?_cons_zero];rfl)):wpAnyH P md ops Q S (fuel+1) listed a w:=
 wpAnyH_ready hr sX (AllReadyH.cons ho h AllReadyH.nil)
theorem rds(rs:List Nat)(h:AllReadyH P md ops Q S fuel listed a w rs)(hr:Region.ready md ops listed=rs:=by kernel_rfl)(hne:rs≠[]:=by simp):wpAnyH P md ops Q S (fuel+1) listed a w:=wpAnyH_ready hr hne h
theorem ac{i:Nat}{o:Oper}{rs:List Nat}(h:∀ K':Act->World->Prop,Shut (∀ a w,S w->(S w->wpAnyH P md ops Q S fuel (listed.setIfInBounds i true) a w)->K' a w)->if Region.wanted o (yielded ops a.tmps)=true then Oper.wp P o a w K' Q else K' (a.put o.dst undef) w)
  (hs:AllReadyH P md ops Q S fuel listed a w rs) (ho:ops[i]? = some o:=by(simp only[List.getElem?_toArray,List.getElem?_cons_succ,List.getElem?_cons_zero];rfl)):AllReadyH P md ops Q S fuel listed a w (i::rs):=AllReadyH.cons ho h hs
theorem acI(i:Nat){o:Oper}{rs:List Nat}(h:∀ K':Act->World->Prop,Shut (∀ a w,S w->(S w->wpAnyH P md ops Q S fuel (listed.setIfInBounds i true) a w)->K' a w)->if Region.wanted o (yielded ops a.tmps)=true then Oper.wp P o a w K' Q else K' (a.put o.dst undef) w)
  (hs:AllReadyH P md ops Q S fuel listed a w rs) (ho:ops[i]? = some o:=by(simp only[List.getElem?_toArray,List.getElem?_cons_succ,List.getElem?_cons_zero];rfl)):AllReadyH P md ops Q S fuel listed a w (i::rs):=AllReadyH.cons ho h hs
theorem tkK(i:Nat){oi:Oper}{v:Value}(hS:S w)(h:wpAnyH P md ops Q S fuel (listed.setIfInBounds i true) a' w)
  (hf:Region.free md ops listed i=true:=by decide +kernel) (hr:(Region.ready md ops listed).contains i=true:=by decide +kernel) (hi:ops[i]? = some oi:=by(simp only[List.getElem?_toArray,List.getElem?_cons_succ,List.getElem?_cons_zero];rfl)) (hs:Region.noSelect ops=true:=by kernel_rfl)
  (hQ:∀ c a w,Q (.panic c) (a.put oi.dst v) w->Q (.panic c) a w:=by exact λ_ _ _ h=>h) (hy:YieldsIf P ops S oi v a:=by exact Or.inl ⟨by rfl,by(intro W hSW;go_simp;try with_reducible rfl)⟩)
  (ha:a.put oi.dst v=a':=by((try simp only[Act.put,List.setIfInBounds_toArray,List.set_cons_zero,List.set_cons_succ]);rfl)):wpAnyH P md ops Q S (fuel+1) listed a w:=
 wpAnyH_take hi hs hf hr hQ hy hS (ha▸h)
theorem rdK(i:Nat){o:Oper}(h:∀ K':Act->World->Prop,Shut (∀ a w,S w->(S w->wpAnyH P md ops Q S fuel (listed.setIfInBounds i true) a w)->K' a w)->if Region.wanted o (yielded ops a.tmps)=true then Oper.wp P o a w K' Q else K' (a.put o.dst undef) w)
  (hr:Region.ready md ops listed=[i]:=by decide +kernel) (ho:ops[i]? = some o:=by(simp only[List.getElem?_toArray,List.getElem?_cons_succ,List.getElem?_cons_zero];rfl)):wpAnyH P md ops Q S (fuel+1) listed a w:=
 wpAnyH_ready hr sX (AllReadyH.cons ho h AllReadyH.nil)
theorem Qv(rs:List Nat)(h:AllReadyH P md ops Q S fuel listed a w rs)(hr:Region.ready md ops listed=rs:=by decide +kernel)(hne:rs≠[]:=by simp):wpAnyH P md ops Q S (fuel+1) listed a w:=wpAnyH_ready hr hne h
theorem dnE(h:Q .normal a w)(hr:Region.ready md ops listed=[]:=by kernel_rfl):wpAnyH P md ops Q S fuel listed a w:=wpAnyH_done hr h fuel
end
theorem wL{P:Program}{ops:Array Oper}{Q:Exit->Act->World->Prop}(o:Op){d:Option Tmp}{t:TypeId}{p:String}{af:Array Edge}{g:Option (Nat×Bool)}{r:List Oper}{a:Act}{w:World}(h:wpList P ops Q (Oper.mk d o t p af g::r) a w):wpList P ops Q (Oper.mk d o t p af g::r) a w:=h
theorem XZ{α:Type}{A B C:List α}{o n:Nat}(hA:A.length=o)(hB:B.length=n):((A++(B++C)).drop o).take n=B:=by
 subst hA hB
 rw[List.drop_left,List.take_left]
theorem ZL{α:Type}{cs B:List α}{o n:Nat}(h:(cs.drop o).take n=B):cs.drop o=B++cs.drop (o+n):=by
 rw[<-h,<-List.drop_drop,List.take_append_drop]
theorem UF{α β:Type}{g:α->Option β}{h:α->β}:∀ l:List α,(∀ i∈l,g i=some (h i))->l.mapM g=some (l.map h)
 | [],_=>rfl
 | x::l,hl=>by
  rw[List.mapM_cons,hl x (List.mem_cons_self ..),UF l (λi hi=>hl i (List.mem_cons_of_mem _ hi))]
  rfl
theorem VF{α β:Type}{g:α->Option β}:∀ {l:List α} {ys:List β},l.mapM g=some ys->∀ (i:Nat) (x:α),l[i]? = some x->∃ y,g x=some y
 | [],_,_,i,x,hx=>by simp at hx
 | a::l,ys,h,i,x,hx=>by
  rw[List.mapM_cons] at h
  simp only[bind,Option.bind_eq_some_iff,pure,Option.some.injEq] at h
  obtain⟨y,hy,zs,hz,_⟩:=h
  cases i with
  | zero=>simp at hx;subst hx;exact⟨y,hy⟩
  | succ i=>exact VF hz i x (by simpa using hx)
theorem Uq{α β γ:Type}(k:α->γ)(g:γ->Option β):∀ l:List α,l.mapM (λx=>g (k x))=(l.map k).mapM g
 | []=>rfl
 | x::l=>by rw[List.mapM_cons,List.map_cons,List.mapM_cons,Uq k g l]
section
variable {P:Program}
theorem Jf{d:Nat}{t:TypeId}{fs:Array Field}{cs:List Value}{l:List Lit}(ht:P.underlying t=some (.struct fs))(h:P.keyLits (d+1) t cs=some l) :
  cs.length=P.cellsOf t/\∀ (i:Nat) (f:Field),fs[i]? = some f->∃ lf,P.keyLits d f.type ((cs.drop f.offset).take (P.cellsOf f.type))=some lf:=by
 unfold Program.keyLits at h
 simp only[ht] at h
 split at h
 ·next hc=>
  refine⟨hc.1,λi f hf=>?_⟩
  rw[Option.map_eq_some_iff] at h
  obtain⟨ls,h1,_⟩:=h
  exact VF h1 i f (by simpa using hf)
 ·cases h
theorem Kb{d n:Nat}{t e:TypeId}{cs:List Value}{l:List Lit}(ht:P.underlying t=some (.array n e))(h:P.keyLits (d+1) t cs=some l) :
  cs.length=P.cellsOf t/\∀ i,i<n->∃ lf,P.keyLits d e ((cs.drop (i*P.cellsOf e)).take (P.cellsOf e))=some lf:=by
 unfold Program.keyLits at h
 simp only[ht] at h
 split at h
 ·next hc=>
  refine⟨hc,λi hi=>?_⟩
  rw[Option.map_eq_some_iff] at h
  obtain⟨ls,h1,_⟩:=h
  exact VF h1 i i (by simp[hi])
 ·cases h
theorem Xq{d:Nat}{t:TypeId}{fs:Array Field}{cs:List Value}{qs:List (TypeId×Nat)}{ls:List (List Lit)}(ht:P.underlying t=some (.struct fs))(hq:fs.toList.map (λf=>(f.type,f.offset))=qs)(hn:fs.all (·.name != "_")=true)
  (hl:cs.length=P.cellsOf t) (h:qs.mapM (λq=>P.keyLits d q.1 ((cs.drop q.2).take (P.cellsOf q.1)))=some ls):P.keyLits (d+1) t cs=some ls.flatten:=by
 unfold Program.keyLits
 simp only[ht]
 rw[if_pos ⟨hl,hn⟩,Uq (λf:Field=>(f.type,f.offset)) (λq=>P.keyLits d q.1 ((cs.drop q.2).take (P.cellsOf q.1))),hq,h]
 rfl
theorem Y6{d:Nat}{t:TypeId}{k:IntKind}{n:Int}(ht:P.underlying t=some (.int k))(h:(Lit.int k n).wf=true):P.keyLits (d+1) t [.int k n]=some [.int k n]:=by
 unfold Program.keyLits
 simp[ht,h]
theorem Vv{d:Nat}{t:TypeId}{s:ByteArray}(ht:P.underlying t=some .string)(h:s.size<=maxLen):P.keyLits (d+1) t [.string s]=some [.string s.data.toList]:=by
 unfold Program.keyLits
 simp[ht,h]
theorem Gy{d:Nat}{t:TypeId}{b:Bool}(ht:P.underlying t=some .bool):P.keyLits (d+1) t [.bool b]=some [.bool b]:=by
 unfold Program.keyLits
 simp[ht]
theorem PK(x:UInt8):(Lit.int .u8 (x.toNat:Int)).wf=true:=by
 have:=x.toNat_lt
 simp[Lit.wf,IntKind.min,IntKind.max,IntKind.signed,IntKind.bits]
 omega
def Qm(f:List UInt8):List Lit:=f.map λx=>.int .u8 (x.toNat:Int)
theorem Xi{f g:List UInt8}(h:Qm f=Qm g):f=g:=by
 induction f generalizing g with
 | nil=>cases g with
  | nil=>rfl
  | cons y g=>cases h
 | cons x f ih=>cases g with
  | nil=>cases h
  | cons y g=>
   simp only[Qm,List.map_cons,List.cons.injEq,Lit.int.injEq,true_and] at h
   have:x=y:=UInt8.toNat.inj oX
   rw[this,ih h.2]
theorem Jy{d n:Nat}{t e:TypeId}(ht:P.underlying t=some (.array n e))(he:P.underlying e=some (.int .u8))(hce:P.cellsOf e=1)(hct:P.cellsOf t=n)(f:List UInt8)(hf:f.length=n):P.keyLits (d+2) t (cB f)=some (Qm f):=by
 unfold Program.keyLits
 simp only[ht]
 rw[if_pos (by rw[Zd,hct,hf]),hce]
 have h:=UF (g:=λi=>P.keyLits (d+1) e (((cB f).drop (i*1)).take 1)) (h:=λi=>[Lit.int .u8 ((f.getD i 0).toNat:Int)]) (List.range n) (λi hi=>by
  have hi':i<f.length:=by rw[hf];simpa using hi
  have:((cB f).drop (i*1)).take 1=[.int .u8 ((f.getD i 0).toNat:Int)]:=by
   rw[Nat.mul_one,List.drop_eq_getElem_cons (by rw[Zd];exact hi')]
   simp[cB,hi']
  rw[this]
  exact Y6 he (PK _))
 rw[h]
 simp only[Option.map_some,Option.some.injEq]
 rw[<-List.flatMap_def]
 apply List.ext_getElem?
 intro j
 have:(List.range n).flatMap (λi=>[Lit.int .u8 ((f.getD i 0).toNat:Int)])=(List.range n).map λi=>Lit.int .u8 ((f.getD i 0).toNat:Int):=by
  exact List.map_eq_flatMap.symm
 rw[this]
 unfold Qm
 by_cases hj:j<n
 ·simp[hj,hf]
 ·simp[hj,hf]
theorem VE{d n:Nat}{t e:TypeId}{cs:List Value}{l:List Lit}(ht:P.underlying t=some (.array n e))(he:P.underlying e=some (.int .u8))(hce:P.cellsOf e=1)(hct:P.cellsOf t=n)(h:P.keyLits (d+1) t cs=some l):∃ f:List UInt8,cs=cB f/\f.length=n:=by
 obtain⟨hl,hi⟩:=Kb ht h
 rw[hct] at hl
 rw[hce] at hi
 refine⟨cs.map λv=>match v with | .int _ z=>UInt8.ofNat z.toNat|_=>0,?_,by simp[hl]⟩
 apply List.ext_getElem?
 intro i
 by_cases hin:i<n
 ·obtain⟨lf,h1⟩:=hi i hin
  rw[Nat.mul_one] at h1
  cases d with
  | zero=>simp[Program.keyLits] at h1
  | succ d=>
   have hi2:i<cs.length:=oX
   rw[List.drop_eq_getElem_cons hi2] at h1
   have h3:(cs[i]::cs.drop (i+1)).take 1=[cs[i]]:=rfl
   rw[h3] at h1
   obtain⟨z,e1,e2⟩:=keyLits_int' he h1
   have hw:=h1
   rw[e1] at hw
   have hwf:(Lit.int .u8 z).wf=true:=by
    unfold Program.keyLits at hw
    simp only[he] at hw
    split at hw
    ·next hh=>exact hh.2
    ·cases hw
   have hz:0<=z/\z<=255:=by simpa[Lit.wf,IntKind.min,IntKind.max,IntKind.signed,IntKind.bits] using hwf
   have hc:cs[i]=.int .u8 z:=by simpa using e1
   rw[List.getElem?_eq_getElem hi2,hc]
   simp only[cB,List.map_map,List.getElem?_map,List.getElem?_eq_getElem hi2,Option.map_some,Function.comp_apply,hc,Option.some.injEq,Value.int.injEq,true_and]
   rw[UInt8.toNat_ofNat_of_lt' (by show z.toNat<256;omega)]
   omega
 ·rw[List.getElem?_eq_none oX,List.getElem?_eq_none (by simp[cB];omega)]
theorem YT{w:World}{t:TypeId}(hk:P.keyTypeAt 6 t=true){d:Nat}{xs ys:Array Value}{la lb:List Lit}(hx:P.keyLits d t xs.toList=some la)(hy:P.keyLits d t ys.toList=some lb)(fx:(Value.agg xs).formed P t=true)(fy:(Value.agg ys).formed P t=true) :
  ∃ r:Bool,(r=true↔la=lb)/\(binOp .eql t (.agg xs) (.agg ys)).run P w=.ok (.bool r) w/\(binOp .neq t (.agg xs) (.agg ys)).run P w=.ok (.bool (!r)) w:=by
 have h:=run_equalIn_deep (P:=P) 9994 6 t hk
 obtain⟨r,hr,hiff⟩:=h w d d (.agg xs) (.agg ys) la lb fx fy (by simpa[Value.cells] using hx) (by simpa[Value.cells] using hy)
 refine⟨r,hiff,?_,?_⟩
 ·rw[run_eql_struct,show (10000:Nat)=9994+6 from rfl,hr];rfl
 ·rw[run_neq_struct,show (10000:Nat)=9994+6 from rfl,hr];rfl
theorem ZH{t:TypeId}{d:TypeDesc}{xs:Array Value}(ht:P.underlying t=some d)(hd:(match d with | .struct _ | .array _ _=>true|_=>false)=true)(hs:xs.size=P.cellsOf t):(Value.agg xs).formed P t=true:=by
 cases d<;>simp at hd<;>simp[Value.formed,ht,hs]
end
structure P6 where
 s:Int
 n:Int
 k:Int
 d:Int
 t:Int
 r:Int
deriving DecidableEq
abbrev inI (x:Int):Prop := -9223372036854775808<=x/\x<=9223372036854775807
theorem VZ{x:Int}(h:inI x):(Lit.int .i64 x).wf=true:=by
 have:=h
 unfold inI at this
 simp[Lit.wf,IntKind.min,IntKind.max,IntKind.signed,IntKind.bits]
 omega
theorem HN{x:Int}(h:(Lit.int .i64 x).wf=true):inI x:=by simpa[inI,Lit.wf,IntKind.min,IntKind.max,IntKind.signed,IntKind.bits] using h
def P6.list(p:P6):List Value:=[.int .i64 p.s,.int .i64 p.n,.int .i64 p.k,.int .i64 p.d,.int .i64 p.t,.int .i64 p.r]
def P6.lits(p:P6):List Lit:=[.int .i64 p.s,.int .i64 p.n,.int .i64 p.k,.int .i64 p.d,.int .i64 p.t,.int .i64 p.r]
def P6.Ok(p:P6):Prop:=inI p.s/\inI p.n/\inI p.k/\inI p.d/\inI p.t/\inI p.r
theorem P6.lits_inj{p q:P6}(h:p.lits=q.lits):p=q:=by
 cases p;cases q
 simpa[P6.lits] using h
section
variable {P:Program}
theorem Vq{t i64:TypeId}{fs:Array Field}(ht:P.underlying t=some (.struct fs))(hq:fs.toList.map (λf=>(f.type,f.offset))=[(i64,0),(i64,1),(i64,2),(i64,3),(i64,4),(i64,5)])(hn:fs.all (·.name != "_")=true)(hi:P.underlying i64=some (.int .i64))(ci:P.cellsOf i64=1)(ct:P.cellsOf t=6)
  (p:P6) (hp:p.Ok) (d:Nat):P.keyLits (d+2) t p.list=some p.lits:=by
 obtain⟨h1,h2,h3,h4,h5,h6⟩:=hp
 have e:=λ(n:Int) (h:inI n)=>Y6 (d:=d) hi (VZ h)
 refine Xq (ls:=[[.int .i64 p.s],[.int .i64 p.n],[.int .i64 p.k],[.int .i64 p.d],[.int .i64 p.t],[.int .i64 p.r]]) ht hq hn (by rw[ct];rfl) ?_
 simp only[List.mapM_cons,List.mapM_nil,ci,P6.list,List.drop_zero,List.drop_succ_cons,List.take_succ_cons,List.take_zero,e _ h1,e _ h2,e _ h3,e _ h4,e _ h5,e _ h6,Option.bind_eq_bind,Option.bind_some,Option.pure_def]
theorem U6{d:Nat}{t i64:TypeId}{f0 f1 f2 f3 f4 f5:Field}{cs:List Value}{l:List Lit}(ht:P.underlying t=some (.struct #[f0,f1,f2,f3,f4,f5]))(hq : [f0,f1,f2,f3,f4,f5].map (λf=>(f.type,f.offset))=[(i64,0),(i64,1),(i64,2),(i64,3),(i64,4),(i64,5)])(hi:P.underlying i64=some (.int .i64))(ci:P.cellsOf i64=1)(ct:P.cellsOf t=6)
  (h:P.keyLits (d+1) t cs=some l):∃ p:P6,cs=p.list/\p.Ok:=by
 obtain⟨hl,hf⟩:=Jf ht h
 rw[ct] at hl
 simp only[List.map_cons,List.map_nil,List.cons.injEq,Prod.mk.injEq,and_true] at hq
 obtain⟨⟨a0,b0⟩,⟨a1,b1⟩,⟨a2,b2⟩,⟨a3,b3⟩,⟨a4,b4⟩,⟨a5,b5⟩⟩:=hq
 have cell:∀ (o:Nat) (f:Field) (i:Nat),(#[f0,f1,f2,f3,f4,f5]:Array Field)[i]? = some f->f.type=i64->f.offset=o->∃ n,(cs.drop o).take 1=[.int .i64 n]/\inI n:=λo f i hg ht' ho=>by
  obtain⟨lf,h1⟩:=hf i f hg
  rw[ht',ho,ci] at h1
  obtain⟨n,e1,e2⟩:=keyLits_int' hi h1
  refine⟨n,e1,?_⟩
  rw[e1] at h1
  cases d with
  | zero=>simp[Program.keyLits] at h1
  | succ d=>
   unfold Program.keyLits at h1
   simp only[hi] at h1
   split at h1
   ·next hh=>exact HN hh.2
   ·cases h1
 obtain⟨n0,e0,w0⟩:=cell 0 f0 0 rfl a0 b0
 obtain⟨n1,e1,w1⟩:=cell 1 f1 1 rfl a1 b1
 obtain⟨n2,e2,w2⟩:=cell 2 f2 2 rfl a2 b2
 obtain⟨n3,e3,w3⟩:=cell 3 f3 3 rfl a3 b3
 obtain⟨n4,e4,w4⟩:=cell 4 f4 4 rfl a4 b4
 obtain⟨n5,e5,w5⟩:=cell 5 f5 5 rfl a5 b5
 refine⟨⟨n0,n1,n2,n3,n4,n5⟩,?_,w0,w1,w2,w3,w4,w5⟩
 have h0:=ZL e0
 rw[List.drop_zero,ZL e1,ZL e2,ZL e3,ZL e4,ZL e5,List.drop_of_length_le (i:=5+1) oX] at h0
 exact h0
end
end Go.Proofs.YtpdhceiodgnbmaaGreatDoor
