import Derived.Test.YtpdhceiodgnbmaaGreatDoorF0Safe21Said
import Derived.WalkKit
import Derived.WalkSpells
import Derived.WalkLawsBesides
import Derived.WalkSmall
import Derived.BigQuiet
import Derived.Lib.Hide
import Derived.Carry
import Derived.ProofKit
import Derived.OpenShut
import Derived.Laws.AppendOwnNone
import Derived.Laws.BytesString
import Derived.Laws.BitsAllLaws
import Derived.Deep.QuietTactic
import Derived.Deep.RegionHeld3
import Derived.DeepKeys
import Derived.MapViews
import Derived.Laws.StructEq
import Derived.Maps.AppendAt
import Derived.Deep.MidRow
import Derived.Test.YtpdhceiodgnbmaaGreatDoorChecked
import Derived.Deep.WholeRow
import Derived.Test.YtpdhceiodgnbmaaGreatDoorRows
import Derived.Outline
import Derived.Deep.LoopGhost
import Derived.Laws.Tables
import Derived.Great.BuildSlice
import Derived.Great.FillDense
import Derived.Laws.AppendOwn
set_option linter.unusedVariables false
set_option linter.unusedSimpArgs false
set_option linter.unnecessarySimpa false
set_option maxRecDepth 100000
set_option maxHeartbeats 8000000
namespace Go.Proofs.YtpdhceiodgnbmaaGreatDoor
open Go.RowKit
structure Upd (b:Nat) (o:Obj) (w w':World):Prop where
 os:w'.os=w.os
 tape:w'.tape=w.tape
 output:w'.output=w.output
 size:w'.heap.size=w.heap.size
 block:∀ k,k≠b->w'.heap[k]? = w.heap[k]?
 here:w'.heap[b]? = some o
theorem Upd.refl{b:Nat}{o:Obj}{w:World}(h:w.heap[b]? = some o):Upd b o w w:=⟨rfl,rfl,rfl,rfl,λ_ _=>rfl,h⟩
theorem Upd.below{b B:Nat}{o:Obj}{w w':World}(h:Upd b o w w')(hb:B<=b):Below B w w':=
 ⟨h.os,h.tape,h.output,by rw[h.size];exact Nat.le_refl _,λk hk=>h.block k oX⟩
theorem Upd.trans{b:Nat}{o o':Obj}{w w1 w2:World}(h:Upd b o w w1)(h':Upd b o' w1 w2):Upd b o' w w2:=
 ⟨h'.os.trans h.os,h'.tape.trans h.tape,h'.output.trans h.output,h'.size.trans h.size,λk hk=>(h'.block k hk).trans (h.block k hk),h'.here⟩
theorem Upd.drew{b:Nat}{o:Obj}{w w':World}(h:Upd b o w w'):Upd b o w w'.drew:=
 ⟨h.os,h.tape,h.output,h.size,h.block,h.here⟩
theorem Upd.setCell{b j:Nat}{cs:Array Value}{t:TypeId}{fz:Nat×Nat}{w w':World}(h:Upd b (.cells cs t fz) w w')(v:Value) :
  Upd b (.cells (cs.setIfInBounds j v) t fz) w (w'.setCell ⟨b,j,none⟩ v):=by
 refine⟨h.os,h.tape,h.output,?_,?_,?_⟩
 ·simp[World.setCell,h.size]
 ·intro k hk
  rw[Below.heap_setCell _ _ _ _ (by simpa using hk)]
  exact h.block k hk
 ·have hh:=h.here
  simp only[World.setCell,Array.getElem?_modify,if_true]
  rw[hh];rfl
theorem Upd.to{b:Nat}{o o':Obj}{w w':World}(h:Upd b o w w')(e:o=o'):Upd b o' w w':=e▸h
theorem Za{w:World}{b:Nat}{cs:Array Value}{t:TypeId}{fz:Nat×Nat}(h:w.heap[b]? = some (.cells cs t fz))(j:Nat):w.cell? ⟨b,j,none⟩=cs[j]? := by
 simp[World.cell?,h]
theorem Zj{w:World}{b:Nat}{cs:Array Value}{t:TypeId}(h:w.heap[b]? = some (.cells cs t (0,0)))(j:Nat):w.frozen? ⟨b,j,none⟩=false:=by
 simp[World.frozen?,h]
theorem Zb{w:World}{b:Nat}{o:Obj}(h:w.heap[b]? = some o):b<w.heap.size:=by
 rcases Nat.lt_or_ge b w.heap.size with h'|h'
 ·exact h'
 ·simp[Array.getElem?_eq_none h'] at h
theorem UG{w w':World}{o:Obj}{row:Option Nat}(h:(w.alloc o).grownBy w' row):w.grownBy w' row:=
 ⟨h.os,h.tape,h.output,Nat.le_trans sX h.size,λk hk hr=>(h.block k sYq hr).trans (Below.heap_alloc _ _ _ hk)⟩
theorem Ua{P:Program}{w:World}{ops:Array Oper}{rest:List Oper}{o:Oper}{a:Act}{Q:Exit->Act->World->Prop}(hgd:o.guard=none)(s x:Operand)(t:TypeId)
  (ho:o.op=.call { callee:=.builtin .append,args:=#[s,x],argTypes:=#[t,t] })
  (base:Nat) (e:TypeId) (i:TypeInfo) (z:Value) (bytes:Nat) (ht:P.underlying t=some (.slice e)) (hi:P.info? e=some i) (hz:i.zero=some z)
  (hsize:i.size=1) (hby:i.bytes=bytes) (hzs:z.cells.size=1)
  (v:Value) (n:Nat) (xs:List Value) (hs:a.eval s=v) (hown:Hid (w.ownsRow base e 1 v n xs))
  (u:Value) (hx:a.eval x=.slice (some ⟨w.heap.size,0,none⟩) 1 1) (h1:u.oneCell'=true)
  (h63:n+1<=maxLen) (hbytes:(n+1)*bytes<=140737488355328) (hbase:base<=w.heap.size)
  (h:∀ v' w',Hid (w'.ownsRow base e 1 v' (n+1) (xs++[u]))->Hid (w.grownBy w' v.ownBlock)->Hid (v'≠.slice none 0 0)->wpList P ops Q rest (a.put o.dst v') w') :
  wpList P ops Q (o::rest) a (w.alloc (.cells #[u] e)):=
 wpList_append_own _ hgd s x t ho base e i z 1 bytes ht hi hz hsize hby hzs oX v n xs hs (World.ownsRow.alloc hown.out _) ⟨w.heap.size,0,none⟩ 1 1 [u] hx rfl (cell_one_new _ _ _)
  (by intro y hy;simp at hy;subst hy;exact h1) h63 hbytes sYq λv' w' h2 h3 h4=>h v' w' h2 (UG h3) (λe=>by have:=h4.1 e;omega)
def BZ(k:IntKind)(w:World)(a:Option Addr)(zs:List Int):Prop:=
 ∀ i,i<zs.length->∃ b off,a=some ⟨b,off,none⟩/\w.cell? ⟨b,off+i,none⟩=some (.int k (zs.getD i 0))
def RowB(w:World)(a:Option Addr)(bs:List UInt8):Prop:=
 ∀ i,i<bs.length->∃ b off,a=some ⟨b,off,none⟩/\w.cell? ⟨b,off+i,none⟩=some (.int .u8 ((bs.getD i 0).toNat:Int))
theorem RowB.below{w w':World}{a:Option Addr}{bs:List UInt8}(h:RowB w a bs)(hb:Below w.heap.size w w'):RowB w' a bs:=by
 intro i hi
 obtain⟨b,off,rfl,hc⟩:=h i hi
 exact⟨b,off,rfl,(hb.cell (World.block_lt_of_cell? w _ hc)).trans hc⟩
section
open Go.ChangeShapes
variable {H:Type} {enc:TypeId×Value->H} {P:Program} {w:World}
end
def At(w:World)(ao:Option Addr)(ys:List Value):Prop:=
 ∀ i,i<ys.length->∃ b off,ao=some ⟨b,off,none⟩/\w.cell? ⟨b,off+i,none⟩=ys[i]?
def cB(bs:List UInt8):List Value:=bs.map λx=>.int .u8 (x.toNat:Int)
def cI(zs:List Int):List Value:=zs.map λx=>.int .i64 x
theorem Ze(bs:List UInt8):(cB bs).length=bs.length:=by simp[cB]
theorem UP(zs:List Int):(cI zs).length=zs.length:=by simp[cI]
theorem Y4(a b:List UInt8):cB (a++b)=cB a++cB b:=by simp[cB]
theorem Lr(a b:List Int):cI (a++b)=cI a++cI b:=by simp[cI]
theorem ZI(bs:List UInt8):∀ u∈cB bs,u.oneCell'=true:=by intro u hu;simp only[cB,List.mem_map] at hu;obtain⟨_,_,rfl⟩:=hu;rfl
theorem At.below{w w':World}{ao:Option Addr}{ys:List Value}(h:At w ao ys)(hb:Below w.heap.size w w'):At w' ao ys:=by
 intro i hi
 obtain⟨b,off,rfl,hc⟩:=h i hi
 refine⟨b,off,rfl,?_⟩
 rw[List.getElem?_eq_getElem hi] at hc ⊢
 exact(hb.cell (World.block_lt_of_cell? w _ hc)).trans hc
theorem At.ofB{w:World}{ao:Option Addr}{bs:List UInt8}(h:RowB w ao bs):At w ao (cB bs):=by
 intro i hi
 rw[Ze] at hi
 obtain⟨b,off,rfl,hc⟩:=h i hi
 exact⟨b,off,rfl,by rw[hc];simp[cB,hi]⟩
theorem At.toB{w:World}{ao:Option Addr}{bs:List UInt8}(h:At w ao (cB bs)):RowB w ao bs:=by
 intro i hi
 obtain⟨b,off,rfl,hc⟩:=h i (by rw[Ze];exact hi)
 exact⟨b,off,rfl,by rw[hc];simp[cB,hi]⟩
theorem At.toI{w:World}{ao:Option Addr}{zs:List Int}(h:At w ao (cI zs)):BZ .i64 w ao zs:=by
 intro i hi
 obtain⟨b,off,rfl,hc⟩:=h i (by rw[UP];exact hi)
 exact⟨b,off,rfl,by rw[hc];simp[cI,hi]⟩
theorem At.take{w:World}{ao:Option Addr}{ys:List Value}(h:At w ao ys)(n:Nat):At w ao (ys.take n):=by
 intro i hi
 have hi':i<n/\i<ys.length:=by simpa[Nat.lt_min] using hi
 obtain⟨b,off,rfl,hc⟩:=h i hi'.2
 exact⟨b,off,rfl,by rw[hc];simp[hi'.1]⟩
theorem BJ{w:World}{base:Nat}{e:TypeId}{g n cap:Nat}{xs:List Value}(h:w.ownsRow base e 1 (.slice (some ⟨g,0,none⟩) n cap) n xs):At w (some ⟨g,0,none⟩) xs:=by
 intro i hi
 obtain⟨hx,h2⟩:=h
 rcases h2 with ⟨h2,_⟩|⟨g',cap',cur,hv,hb,hg,hn,hcap,hcur,htake⟩
 ·cases h2
 ·cases hv
  refine⟨g,0,rfl,?_⟩
  rw[Za hg,<-htake]
  have:i<n:=oX
  simp[this]
theorem MZ{w:World}{base:Nat}{e:TypeId}{v:Value}{n:Nat}{xs:List Value}(h:w.ownsRow base e 1 v n xs) :
  ∃ a c,v=.slice a xs.length c/\(a=none->c=0)/\xs.length<=c/\c<=maxLen/\At w a xs/\xs.length=n/\∀ b o s,a=some ⟨b,o,s⟩->base<=b/\b<w.heap.size:=by
 have hx:=h.1
 rcases h.2 with ⟨rfl,rfl⟩|⟨g,cap,cur,rfl,hb,hg,hn,hcap,hcur,htake⟩
 ·have:xs=[]:=List.eq_nil_of_length_eq_zero (by simpa using hx)
  subst this
  exact⟨none,0,rfl,λ_=>rfl,Nat.le_refl _,Nat.zero_le _,λi hi=>by simp at hi,rfl,λ_ _ _ h=>by cases h⟩
 ·have hl:xs.length=n:=oX
  refine⟨some ⟨g,0,none⟩,cap,by rw[hl],λh=>(by cases h),oX,hcap,BJ h,hl,λb o s h=>?_⟩
  cases h
  exact⟨hb,Zb hg⟩
theorem VR{w:World}{b off:Nat}{ys:List Value}(h:∀ i,i<ys.length->w.cell? ⟨b,off+i,none⟩=ys[i]?):∀ j u,ys[j]? = some u->w.cell? ((⟨b,off,none⟩:Addr).add j)=some u:=by
 intro j u hu
 have hj:j<ys.length:=(List.getElem?_eq_some_iff.1 hu).1
 have e1:(⟨b,off,none⟩:Addr).add j=⟨b,off+j,none⟩:=by unfold Addr.add;split<;>simp_all
 rw[e1,h j hj,hu]
section
variable {P:Program} {w:World} {ops:Array Oper} {rest:List Oper} {o:Oper} {a:Act} {Q:Exit->Act->World->Prop}
theorem Uq(hgd:o.guard=none)(s x:Operand)(t:TypeId)
  (ho:o.op=.call { callee:=.builtin .append,args:=#[s,x],argTypes:=#[t,t] })
  (base:Nat) (e:TypeId) (i:TypeInfo) (z:Value) (bytes:Nat) (ht:P.underlying t=some (.slice e)) (hi:P.info? e=some i) (hz:i.zero=some z)
  (hsize:i.size=1) (hby:i.bytes=bytes) (hzs:z.cells.size=1)
  (v:Value) (n:Nat) (xs:List Value) (hs:a.eval s=v) (hown:Hid (w.ownsRow base e 1 v n xs))
  (ao:Option Addr) (m c:Nat) (ys:List Value) (hx:a.eval x=.slice ao m c) (hm:Hid (ys.length=m)) (hsrc:Hid (At w ao ys)) (hnil:Hid (ao=none->c=0)) (h1:∀ u∈ys,u.oneCell'=true)
  (h63:n+m<=maxLen) (hbytes:(n+m)*bytes<=140737488355328) (hbase:base<=w.heap.size)
  (h:∀ v' w',Hid (w'.ownsRow base e 1 v' (n+m) (xs++ys))->Hid (w.grownBy w' v.ownBlock)->wpList P ops Q rest (a.put o.dst v') w') :
  wpList P ops Q (o::rest) a w:=by
 cases ao with
 | some ad=>
  have had:∀ j u,ys[j]? = some u->w.cell? (ad.add j)=some u:=by
   intro j u hu
   have hj:j<ys.length:=(List.getElem?_eq_some_iff.1 hu).1
   obtain⟨b,off,e,_⟩:=hsrc.out j hj
   cases e
   refine VR (λi hi=>?_) j u hu
   obtain⟨b',off',e',hc⟩:=hsrc.out i hi
   cases e'
   exact hc
  exact wpList_append_own _ hgd s x t ho base e i z 1 bytes ht hi hz hsize hby hzs oX v n xs hs hown.out ad m c ys hx (by rw[hm.out];omega) had h1 h63 hbytes hbase λv' w' h2 h3 _=>h v' w' h2 h3
 | none=>
  have hc:=hnil.out rfl
  have hys:ys=[]:=by
   cases ys with
   | nil=>rfl
   | cons y ys=>
    obtain⟨b,off,e,_⟩:=hsrc.out 0 sX
    cases e
  have hm0:m=0:=by rw[<-hm.out,hys];rfl
  subst hys hm0 hc
  exact wpList_append_own_none hgd s x t ho base e i 1 ht hi v n xs hs hown.out hx (h v w (by rw[List.append_nil];exact hown) (World.grownBy.refl _ _))
end
theorem HK(bs:List UInt8):∀ s:ByteArray,(bs.map λx=>(x.toNat:Int)).foldl (λr n=>r.push (UInt8.ofNat n.toNat)) s=⟨s.data++bs.toArray⟩:=by
 induction bs with
 | nil=>intro s;simp
 | cons b bs ih=>
  intro s
  rw[List.map_cons,List.foldl_cons,ih]
  simp[ByteArray.push]
theorem MC{P:Program}{w:World}{b off:Nat}:∀ (ys:List Value),(∀ i,i<ys.length->w.cell? ⟨b,off+i,none⟩=ys[i]?)->(loadCells ⟨b,off,none⟩ ys.length).run P w=.ok ys.toArray w:=by
 intro ys h
 have h1:=run_firstCells_some (P:=P) w 1 ys.length ⟨b,off,none⟩ ys.length ys.length ys oX (VR h)
 simpa[Builtin.firstCells] using h1
theorem X8{P:Program}{w:World}{src dst e:TypeId}{ao:Option Addr}{c:Nat}(bs:List UInt8)
  (hs:P.underlying src=some (.slice e)) (he:P.underlying e=some (.int .u8)) (hd:P.underlying dst=some .string) (h:RowB w ao bs) :
  (convert src dst (.slice ao bs.length c)).run P w=.ok (.string ⟨bs.toArray⟩) w:=by
 rw[run_convert_bytes_string w src dst e ao bs.length c hs he hd]
 cases ao with
 | none=>
  have:bs=[]:=by
   cases bs with
   | nil=>rfl
   | cons x xs=>
    obtain⟨b,off,e,_⟩:=h 0 sX
    cases e
  subst this
  rfl
 | some ad=>
  by_cases hb:bs=[]
  ·subst hb
   exact run_bytesToString (P:=P) w ad 0 c [] (by rfl)
  ·obtain⟨b,off,e,_⟩:=h 0 (List.length_pos_iff.2 hb)
   cases e
   have hl:=MC (P:=P) (w:=w) (b:=b) (off:=off) (cB bs) (λi hi=>by
    rw[Ze] at hi
    obtain⟨b',off',e',hc⟩:=h i hi
    cases e'
    rw[hc];simp[cB,hi])
   rw[Ze] at hl
   have:=run_bytesToString (P:=P) w ⟨b,off,none⟩ bs.length c (bs.map λx=>(x.toNat:Int)) (by simpa[cB,Function.comp_def] using hl)
   rw[this,HK]
   simp[ByteArray.empty,ByteArray.emptyWithCapacity]
   rfl
theorem H4(a b:List UInt8):((⟨a.toArray⟩:ByteArray)=⟨b.toArray⟩)↔a=b:=by
 constructor
 ·intro h
  have:=congrArg (λs:ByteArray=>s.data.toList) h
  simpa using this
 ·intro h;rw[h]
def Drawn(w w':World):Prop:=∃ n,w'=w.drewN n
theorem Drawn.refl(w:World):Drawn w w:=⟨0,rfl⟩
theorem Drawn.trans{a b c:World}(h:Drawn a b)(h':Drawn b c):Drawn a c:=by
 obtain⟨n,rfl⟩:=h
 obtain⟨m,rfl⟩:=h'
 exact⟨n+m,by rw[World.drewN_drewN]⟩
theorem Drawn.more{a b:World}(h:Drawn a b)(n:Nat):Drawn a (b.drewN n):=h.trans ⟨n,rfl⟩
theorem Drawn.below{a b:World}(h:Drawn a b)(B:Nat):Below B a b:=by obtain⟨n,rfl⟩:=h;exact below_drewN bR n
theorem Drawn.cell{a b:World}(h:Drawn a b)(x:Addr):b.cell? x=a.cell? x:=by obtain⟨n,rfl⟩:=h;rfl
theorem KS{P:Program}{f:FuncId}{args:Array Value}{w:World}{n:Nat}{v:Value}
  (h:Calls P f args (w.drewN n) λe w'=>e=.returned v/\w.drewN n=w'):Calls P f args (w.drewN n) λe w''=>e=.returned v/\∃ m,w''=w.drewN m:=
 h.mono λ_ _ ⟨he,hm⟩=>⟨he,n,hm.symm⟩
structure ArgB (w:World) (a:Option Addr) (cap:Nat) (bs:List UInt8):Prop where
 len:bs.length<=cap
 most:cap<=maxLen
 nil:a=none->cap=0
 row:RowB w a bs
theorem ArgB.below{w w':World}{a:Option Addr}{cap:Nat}{bs:List UInt8}(h:ArgB w a cap bs)(hb:Below w.heap.size w w'):ArgB w' a cap bs:=⟨h.len,h.most,h.nil,h.row.below hb⟩
section
open Go.ChangeShapes
variable {H:Type} {enc:TypeId×Value->H} {P:Program} {w:World}
end
section
variable {P:Program} {ops:Array Oper} {Q:Exit->Act->World->Prop} {md:Region.Mode}
theorem U6{S S':World->Prop}(h:∀ w,S' w->S w):∀ (fuel:Nat) (listed:Array Bool) (a:Act) (w:World),wpAnyH P md ops Q S' fuel listed a w->wpAnyH P md ops Q S fuel listed a w
 | 0,_,_,_,hh=>hh
 | fuel+1,_,_,_,hh=>⟨hh.1,λi hi=>wpOp_mono (λa' w' h'=>⟨h _ h'.1,U6 h fuel _ a' w' h'.2⟩) (hh.2 i hi)⟩
abbrev Grown (w0 W:World):Prop:=Below w0.heap.size w0 W
theorem Grown.refl(w:World):Grown w w:=Below.refl _ _
theorem Grown.trans{a b c:World}(h:Grown a b)(h':Grown b c):Grown a c:=Below.trans h (h'.mono h.size)
theorem Grown.drew{a b:World}(h:Grown a b):Grown a b.drew:=Below.trans h (Drawn.below ⟨1,rfl⟩ _)
theorem Grown.alloc{a b:World}(h:Grown a b)(o:Obj):Grown a (b.alloc o):=Below.alloc h h.size o
theorem Zv{w0 w1:World}{fuel:Nat}{listed:Array Bool}{a:Act}(h:Grown w0 w1)(hh:Grown w1 w1->wpAnyH P md ops Q (Grown w1) fuel listed a w1):wpAnyH P md ops Q (Grown w0) fuel listed a w1:=
 U6 (λ_ h'=>h.trans h') _ _ _ _ (hh (Grown.refl w1))
theorem MN{id:Nat}{a:Act}{w:World}(hm:P.follows .mixedOrders=true)
  (h:Grown w w.drew->wpAnyH P .any ops Q (Grown w) ops.size (Array.replicate ops.size false) a w.drew):(Code.region id ops true).wp P Q a w:=
 wp_region_held_drew hm (Grown.drew (Grown.refl w)) h
theorem J3{id:Nat}{a:Act}{w:World}(hm:P.follows .mixedOrders=true)
  (h:∀ wd,Grown w wd->wpAnyH P .any ops Q (Grown w) ops.size (Array.replicate ops.size false) a wd):(Code.region id ops true).wp P Q a w:=
 wp_region_held_drew hm (Grown.drew (Grown.refl w)) (λh0=>h _ h0)
theorem Zq{K:Act->World->Prop}{w:World}{a:Act}{c:Array Value}{t:TypeId}{fz:Nat×Nat}(h:∀ w',Hid (w'.heap[w.heap.size]? = some (.cells c t fz))->Grown w w'->K a w'):K a (w.alloc (.cells c t fz)):=
 h _ (show _=_ from heap_alloc_new w _) (Grown.alloc (Grown.refl w) _)
end
theorem sL{α:Type}(l:List α)(i:Nat)(a:α):l.toArray.setIfInBounds i a=(l.set i a).toArray:=List.setIfInBounds_toArray ..
theorem sZ{α:Type}{a:α}{xs:List α}{b:α}:(a::xs).set 0 b=b::xs:=rfl
theorem sS{α:Type}{a:α}{xs:List α}{n:Nat}{b:α}:(a::xs).set (n+1) b=a::xs.set n b:=rfl
theorem Hd{p:Prop}(h:p):Hid p:=Lib.hid h
section
variable {P:Program} {ops:Array Oper} {Q:Exit->Act->World->Prop} {S:World->Prop} {md:Region.Mode} {fuel:Nat} {listed:Array Bool} {a a':Act} {w:World}
theorem tk(i:Nat){oi:Oper}{v:Value}(hS:S w)(h:wpAnyH P md ops Q S fuel (listed.setIfInBounds i true) a' w)
  (hi:ops[i]? = some oi:=by(simp only[List.getElem?_toArray,List.getElem?_cons_succ,List.getElem?_cons_zero];rfl)) (hs:Region.noSelect ops=true:=by kernel_rfl) (hf:Region.free md ops listed i=true:=by kernel_rfl) (hr:(Region.ready md ops listed).contains i=true:=by kernel_rfl)
  (hQ:∀ c a w,Q (.panic c) (a.put oi.dst v) w->Q (.panic c) a w:=by exact λ_ _ _ h=>h) (hy:YieldsIf P ops S oi v a:=by exact Or.inl ⟨by rfl,by(intro W hSW;go_simp;try with_reducible rfl)⟩)
  (ha:a.put oi.dst v=a':=by((try simp only[Act.put,List.setIfInBounds_toArray,List.set_cons_zero,List.set_cons_succ]);rfl)):wpAnyH P md ops Q S (fuel+1) listed a w:=
 wpAnyH_take hi hs hf hr hQ hy hS (ha▸h)
theorem rd(i:Nat){o:Oper}(h:∀ K':Act->World->Prop,Shut (∀ a w,S w->(S w->wpAnyH P md ops Q S fuel (listed.setIfInBounds i true) a w)->K' a w)->if Region.wanted o (yielded ops a.tmps)=true then Oper.wp P o a w K' Q else K' (a.put o.dst undef) w)
  (hr:Region.ready md ops listed=[i]:=by kernel_rfl) (ho:ops[i]? = some o:=by(simp only[List.getElem?_toArray,List.getElem?_cons_succ,List.getElem?_cons_zero];rfl)):wpAnyH P md ops Q S (fuel+1) listed a w:=
 wpAnyH_ready hr sX (AllReadyH.cons ho h AllReadyH.nil)
theorem rds(rs:List Nat)(h:AllReadyH P md ops Q S fuel listed a w rs)(hr:Region.ready md ops listed=rs:=by kernel_rfl)(hne:rs≠[]:=by simp):wpAnyH P md ops Q S (fuel+1) listed a w:=wpAnyH_ready hr hne h
theorem ac{i:Nat}{o:Oper}{rs:List Nat}(h:∀ K':Act->World->Prop,Shut (∀ a w,S w->(S w->wpAnyH P md ops Q S fuel (listed.setIfInBounds i true) a w)->K' a w)->if Region.wanted o (yielded ops a.tmps)=true then Oper.wp P o a w K' Q else K' (a.put o.dst undef) w)
  (hs:AllReadyH P md ops Q S fuel listed a w rs) (ho:ops[i]? = some o:=by(simp only[List.getElem?_toArray,List.getElem?_cons_succ,List.getElem?_cons_zero];rfl)):AllReadyH P md ops Q S fuel listed a w (i::rs):=AllReadyH.cons ho h hs
theorem acI(i:Nat){o:Oper}{rs:List Nat}(h:∀ K':Act->World->Prop,Shut (∀ a w,S w->(S w->wpAnyH P md ops Q S fuel (listed.setIfInBounds i true) a w)->K' a w)->if Region.wanted o (yielded ops a.tmps)=true then Oper.wp P o a w K' Q else K' (a.put o.dst undef) w)
  (hs:AllReadyH P md ops Q S fuel listed a w rs) (ho:ops[i]? = some o:=by(simp only[List.getElem?_toArray,List.getElem?_cons_succ,List.getElem?_cons_zero];rfl)):AllReadyH P md ops Q S fuel listed a w (i::rs):=AllReadyH.cons ho h hs
theorem tkK(i:Nat){oi:Oper}{v:Value}(hS:S w)(h:wpAnyH P md ops Q S fuel (listed.setIfInBounds i true) a' w)
  (hf:Region.free md ops listed i=true:=by decide +kernel) (hr:(Region.ready md ops listed).contains i=true:=by decide +kernel) (hi:ops[i]? = some oi:=by(simp only[List.getElem?_toArray,List.getElem?_cons_succ,List.getElem?_cons_zero];rfl)) (hs:Region.noSelect ops=true:=by kernel_rfl)
  (hQ:∀ c a w,Q (.panic c) (a.put oi.dst v) w->Q (.panic c) a w:=by exact λ_ _ _ h=>h) (hy:YieldsIf P ops S oi v a:=by exact Or.inl ⟨by rfl,by(intro W hSW;go_simp;try with_reducible rfl)⟩)
  (ha:a.put oi.dst v=a':=by((try simp only[Act.put,List.setIfInBounds_toArray,List.set_cons_zero,List.set_cons_succ]);rfl)):wpAnyH P md ops Q S (fuel+1) listed a w:=
 wpAnyH_take hi hs hf hr hQ hy hS (ha▸h)
theorem rdK(i:Nat){o:Oper}(h:∀ K':Act->World->Prop,Shut (∀ a w,S w->(S w->wpAnyH P md ops Q S fuel (listed.setIfInBounds i true) a w)->K' a w)->if Region.wanted o (yielded ops a.tmps)=true then Oper.wp P o a w K' Q else K' (a.put o.dst undef) w)
  (hr:Region.ready md ops listed=[i]:=by decide +kernel) (ho:ops[i]? = some o:=by(simp only[List.getElem?_toArray,List.getElem?_cons_succ,List.getElem?_cons_zero];rfl)):wpAnyH P md ops Q S (fuel+1) listed a w:=
 wpAnyH_ready hr sX (AllReadyH.cons ho h AllReadyH.nil)
theorem QP(rs:List Nat)(h:AllReadyH P md ops Q S fuel listed a w rs)(hr:Region.ready md ops listed=rs:=by decide +kernel)(hne:rs≠[]:=by simp):wpAnyH P md ops Q S (fuel+1) listed a w:=wpAnyH_ready hr hne h
theorem dnE(h:Q .normal a w)(hr:Region.ready md ops listed=[]:=by kernel_rfl):wpAnyH P md ops Q S fuel listed a w:=wpAnyH_done hr h fuel
end
theorem wL{P:Program}{ops:Array Oper}{Q:Exit->Act->World->Prop}(o:Op){d:Option Tmp}{t:TypeId}{p:String}{af:Array Edge}{g:Option (Nat×Bool)}{r:List Oper}{a:Act}{w:World}(h:wpList P ops Q (Oper.mk d o t p af g::r) a w):wpList P ops Q (Oper.mk d o t p af g::r) a w:=h
theorem Jf{α:Type}{A B C:List α}{o n:Nat}(hA:A.length=o)(hB:B.length=n):((A++(B++C)).drop o).take n=B:=by
 subst hA hB
 rw[List.drop_left,List.take_left]
theorem ZL{α:Type}{cs B:List α}{o n:Nat}(h:(cs.drop o).take n=B):cs.drop o=B++cs.drop (o+n):=by
 rw[<-h,<-List.drop_drop,List.take_append_drop]
theorem NB{α β:Type}{g:α->Option β}{h:α->β}:∀ l:List α,(∀ i∈l,g i=some (h i))->l.mapM g=some (l.map h)
 | [],_=>rfl
 | x::l,hl=>by
  rw[List.mapM_cons,hl x (List.mem_cons_self ..),NB l (λi hi=>hl i (List.mem_cons_of_mem _ hi))]
  rfl
theorem KQ{α β:Type}{g:α->Option β}:∀ {l:List α} {ys:List β},l.mapM g=some ys->∀ (i:Nat) (x:α),l[i]? = some x->∃ y,g x=some y
 | [],_,_,i,x,hx=>by simp at hx
 | a::l,ys,h,i,x,hx=>by
  rw[List.mapM_cons] at h
  simp only[bind,Option.bind_eq_some_iff,pure,Option.some.injEq] at h
  obtain⟨y,hy,zs,hz,_⟩:=h
  cases i with
  | zero=>simp at hx;subst hx;exact⟨y,hy⟩
  | succ i=>exact KQ hz i x (by simpa using hx)
theorem G7{α β γ:Type}(k:α->γ)(g:γ->Option β):∀ l:List α,l.mapM (λx=>g (k x))=(l.map k).mapM g
 | []=>rfl
 | x::l=>by rw[List.mapM_cons,List.map_cons,List.mapM_cons,G7 k g l]
section
variable {P:Program}
theorem Jh{d:Nat}{t:TypeId}{fs:Array Field}{cs:List Value}{l:List Lit}(ht:P.underlying t=some (.struct fs))(h:P.keyLits (d+1) t cs=some l) :
  cs.length=P.cellsOf t/\∀ (i:Nat) (f:Field),fs[i]? = some f->∃ lf,P.keyLits d f.type ((cs.drop f.offset).take (P.cellsOf f.type))=some lf:=by
 unfold Program.keyLits at h
 simp only[ht] at h
 split at h
 ·next hc=>
  refine⟨hc.1,λi f hf=>?_⟩
  rw[Option.map_eq_some_iff] at h
  obtain⟨ls,h1,_⟩:=h
  exact KQ h1 i f (by simpa using hf)
 ·cases h
theorem U5{d n:Nat}{t e:TypeId}{cs:List Value}{l:List Lit}(ht:P.underlying t=some (.array n e))(h:P.keyLits (d+1) t cs=some l) :
  cs.length=P.cellsOf t/\∀ i,i<n->∃ lf,P.keyLits d e ((cs.drop (i*P.cellsOf e)).take (P.cellsOf e))=some lf:=by
 unfold Program.keyLits at h
 simp only[ht] at h
 split at h
 ·next hc=>
  refine⟨hc,λi hi=>?_⟩
  rw[Option.map_eq_some_iff] at h
  obtain⟨ls,h1,_⟩:=h
  exact KQ h1 i i (by simp[hi])
 ·cases h
theorem JC{d:Nat}{t:TypeId}{fs:Array Field}{cs:List Value}{qs:List (TypeId×Nat)}{ls:List (List Lit)}(ht:P.underlying t=some (.struct fs))(hq:fs.toList.map (λf=>(f.type,f.offset))=qs)(hn:fs.all (·.name != "_")=true)
  (hl:cs.length=P.cellsOf t) (h:qs.mapM (λq=>P.keyLits d q.1 ((cs.drop q.2).take (P.cellsOf q.1)))=some ls):P.keyLits (d+1) t cs=some ls.flatten:=by
 unfold Program.keyLits
 simp only[ht]
 rw[if_pos ⟨hl,hn⟩,G7 (λf:Field=>(f.type,f.offset)) (λq=>P.keyLits d q.1 ((cs.drop q.2).take (P.cellsOf q.1))),hq,h]
 rfl
theorem Xu{d:Nat}{t:TypeId}{k:IntKind}{n:Int}(ht:P.underlying t=some (.int k))(h:(Lit.int k n).wf=true):P.keyLits (d+1) t [.int k n]=some [.int k n]:=by
 unfold Program.keyLits
 simp[ht,h]
theorem KL{d:Nat}{t:TypeId}{s:ByteArray}(ht:P.underlying t=some .string)(h:s.size<=maxLen):P.keyLits (d+1) t [.string s]=some [.string s.data.toList]:=by
 unfold Program.keyLits
 simp[ht,h]
theorem HX{d:Nat}{t:TypeId}{b:Bool}(ht:P.underlying t=some .bool):P.keyLits (d+1) t [.bool b]=some [.bool b]:=by
 unfold Program.keyLits
 simp[ht]
theorem CA(x:UInt8):(Lit.int .u8 (x.toNat:Int)).wf=true:=by
 have:=x.toNat_lt
 simp[Lit.wf,IntKind.min,IntKind.max,IntKind.signed,IntKind.bits]
 omega
def QM(f:List UInt8):List Lit:=f.map λx=>.int .u8 (x.toNat:Int)
theorem VG{f g:List UInt8}(h:QM f=QM g):f=g:=by
 induction f generalizing g with
 | nil=>cases g with
  | nil=>rfl
  | cons y g=>cases h
 | cons x f ih=>cases g with
  | nil=>cases h
  | cons y g=>
   simp only[QM,List.map_cons,List.cons.injEq,Lit.int.injEq,true_and] at h
   have:x=y:=UInt8.toNat.inj oX
   rw[this,ih h.2]
theorem Ms{d n:Nat}{t e:TypeId}(ht:P.underlying t=some (.array n e))(he:P.underlying e=some (.int .u8))(hce:P.cellsOf e=1)(hct:P.cellsOf t=n)(f:List UInt8)(hf:f.length=n):P.keyLits (d+2) t (cB f)=some (QM f):=by
 unfold Program.keyLits
 simp only[ht]
 rw[if_pos (by rw[Ze,hct,hf]),hce]
 have h:=NB (g:=λi=>P.keyLits (d+1) e (((cB f).drop (i*1)).take 1)) (h:=λi=>[Lit.int .u8 ((f.getD i 0).toNat:Int)]) (List.range n) (λi hi=>by
  have hi':i<f.length:=by rw[hf];simpa using hi
  have:((cB f).drop (i*1)).take 1=[.int .u8 ((f.getD i 0).toNat:Int)]:=by
   rw[Nat.mul_one,List.drop_eq_getElem_cons (by rw[Ze];exact hi')]
   simp[cB,hi']
  rw[this]
  exact Xu he (CA _))
 rw[h]
 simp only[Option.map_some,Option.some.injEq]
 rw[<-List.flatMap_def]
 apply List.ext_getElem?
 intro j
 have:(List.range n).flatMap (λi=>[Lit.int .u8 ((f.getD i 0).toNat:Int)])=(List.range n).map λi=>Lit.int .u8 ((f.getD i 0).toNat:Int):=by
  exact List.map_eq_flatMap.symm
 rw[this]
 unfold QM
 by_cases hj:j<n
 ·simp[hj,hf]
 ·simp[hj,hf]
theorem JU{d n:Nat}{t e:TypeId}{cs:List Value}{l:List Lit}(ht:P.underlying t=some (.array n e))(he:P.underlying e=some (.int .u8))(hce:P.cellsOf e=1)(hct:P.cellsOf t=n)(h:P.keyLits (d+1) t cs=some l):∃ f:List UInt8,cs=cB f/\f.length=n:=by
 obtain⟨hl,hi⟩:=U5 ht h
 rw[hct] at hl
 rw[hce] at hi
 refine⟨cs.map λv=>match v with | .int _ z=>UInt8.ofNat z.toNat|_=>0,?_,by simp[hl]⟩
 apply List.ext_getElem?
 intro i
 by_cases hin:i<n
 ·obtain⟨lf,h1⟩:=hi i hin
  rw[Nat.mul_one] at h1
  cases d with
  | zero=>simp[Program.keyLits] at h1
  | succ d=>
   have hi2:i<cs.length:=oX
   rw[List.drop_eq_getElem_cons hi2] at h1
   have h3:(cs[i]::cs.drop (i+1)).take 1=[cs[i]]:=rfl
   rw[h3] at h1
   obtain⟨z,e1,e2⟩:=keyLits_int' he h1
   have hw:=h1
   rw[e1] at hw
   have hwf:(Lit.int .u8 z).wf=true:=by
    unfold Program.keyLits at hw
    simp only[he] at hw
    split at hw
    ·next hh=>exact hh.2
    ·cases hw
   have hz:0<=z/\z<=255:=by simpa[Lit.wf,IntKind.min,IntKind.max,IntKind.signed,IntKind.bits] using hwf
   have hc:cs[i]=.int .u8 z:=by simpa using e1
   rw[List.getElem?_eq_getElem hi2,hc]
   simp only[cB,List.map_map,List.getElem?_map,List.getElem?_eq_getElem hi2,Option.map_some,Function.comp_apply,hc,Option.some.injEq,Value.int.injEq,true_and]
   rw[UInt8.toNat_ofNat_of_lt' (by show z.toNat<256;omega)]
   omega
 ·rw[List.getElem?_eq_none oX,List.getElem?_eq_none (by simp[cB];omega)]
theorem GZ{w:World}{t:TypeId}(hk:P.keyTypeAt 6 t=true){d:Nat}{xs ys:Array Value}{la lb:List Lit}(hx:P.keyLits d t xs.toList=some la)(hy:P.keyLits d t ys.toList=some lb)(fx:(Value.agg xs).formed P t=true)(fy:(Value.agg ys).formed P t=true) :
  ∃ r:Bool,(r=true↔la=lb)/\(binOp .eql t (.agg xs) (.agg ys)).run P w=.ok (.bool r) w/\(binOp .neq t (.agg xs) (.agg ys)).run P w=.ok (.bool (!r)) w:=by
 have h:=run_equalIn_deep (P:=P) 9994 6 t hk
 obtain⟨r,hr,hiff⟩:=h w d d (.agg xs) (.agg ys) la lb fx fy (by simpa[Value.cells] using hx) (by simpa[Value.cells] using hy)
 refine⟨r,hiff,?_,?_⟩
 ·rw[run_eql_struct,show (10000:Nat)=9994+6 from rfl,hr];rfl
 ·rw[run_neq_struct,show (10000:Nat)=9994+6 from rfl,hr];rfl
theorem Xl{t:TypeId}{d:TypeDesc}{xs:Array Value}(ht:P.underlying t=some d)(hd:(match d with | .struct _ | .array _ _=>true|_=>false)=true)(hs:xs.size=P.cellsOf t):(Value.agg xs).formed P t=true:=by
 cases d<;>simp at hd<;>simp[Value.formed,ht,hs]
end
structure P6 where
 s:Int
 n:Int
 k:Int
 d:Int
 t:Int
 r:Int
deriving DecidableEq
abbrev inI (x:Int):Prop := -9223372036854775808<=x/\x<=9223372036854775807
theorem Gx{x:Int}(h:inI x):(Lit.int .i64 x).wf=true:=by
 have:=h
 unfold inI at this
 simp[Lit.wf,IntKind.min,IntKind.max,IntKind.signed,IntKind.bits]
 omega
theorem X1{x:Int}(h:(Lit.int .i64 x).wf=true):inI x:=by simpa[inI,Lit.wf,IntKind.min,IntKind.max,IntKind.signed,IntKind.bits] using h
def P6.list(p:P6):List Value:=[.int .i64 p.s,.int .i64 p.n,.int .i64 p.k,.int .i64 p.d,.int .i64 p.t,.int .i64 p.r]
def P6.lits(p:P6):List Lit:=[.int .i64 p.s,.int .i64 p.n,.int .i64 p.k,.int .i64 p.d,.int .i64 p.t,.int .i64 p.r]
def P6.Ok(p:P6):Prop:=inI p.s/\inI p.n/\inI p.k/\inI p.d/\inI p.t/\inI p.r
theorem P6.lits_inj{p q:P6}(h:p.lits=q.lits):p=q:=by
 cases p;cases q
 simpa[P6.lits] using h
section
variable {P:Program}
theorem HI{t i64:TypeId}{fs:Array Field}(ht:P.underlying t=some (.struct fs))(hq:fs.toList.map (λf=>(f.type,f.offset))=[(i64,0),(i64,1),(i64,2),(i64,3),(i64,4),(i64,5)])(hn:fs.all (·.name != "_")=true)(hi:P.underlying i64=some (.int .i64))(ci:P.cellsOf i64=1)(ct:P.cellsOf t=6)
  (p:P6) (hp:p.Ok) (d:Nat):P.keyLits (d+2) t p.list=some p.lits:=by
 obtain⟨h1,h2,h3,h4,h5,h6⟩:=hp
 have e:=λ(n:Int) (h:inI n)=>Xu (d:=d) hi (Gx h)
 refine JC (ls:=[[.int .i64 p.s],[.int .i64 p.n],[.int .i64 p.k],[.int .i64 p.d],[.int .i64 p.t],[.int .i64 p.r]]) ht hq hn (by rw[ct];rfl) ?_
 simp only[List.mapM_cons,List.mapM_nil,ci,P6.list,List.drop_zero,List.drop_succ_cons,List.take_succ_cons,List.take_zero,e _ h1,e _ h2,e _ h3,e _ h4,e _ h5,e _ h6,Option.bind_eq_bind,Option.bind_some,Option.pure_def]
theorem Nh{d:Nat}{t i64:TypeId}{f0 f1 f2 f3 f4 f5:Field}{cs:List Value}{l:List Lit}(ht:P.underlying t=some (.struct #[f0,f1,f2,f3,f4,f5]))(hq : [f0,f1,f2,f3,f4,f5].map (λf=>(f.type,f.offset))=[(i64,0),(i64,1),(i64,2),(i64,3),(i64,4),(i64,5)])(hi:P.underlying i64=some (.int .i64))(ci:P.cellsOf i64=1)(ct:P.cellsOf t=6)
  (h:P.keyLits (d+1) t cs=some l):∃ p:P6,cs=p.list/\p.Ok:=by
 obtain⟨hl,hf⟩:=Jh ht h
 rw[ct] at hl
 simp only[List.map_cons,List.map_nil,List.cons.injEq,Prod.mk.injEq,and_true] at hq
 obtain⟨⟨a0,b0⟩,⟨a1,b1⟩,⟨a2,b2⟩,⟨a3,b3⟩,⟨a4,b4⟩,⟨a5,b5⟩⟩:=hq
 have cell:∀ (o:Nat) (f:Field) (i:Nat),(#[f0,f1,f2,f3,f4,f5]:Array Field)[i]? = some f->f.type=i64->f.offset=o->∃ n,(cs.drop o).take 1=[.int .i64 n]/\inI n:=λo f i hg ht' ho=>by
  obtain⟨lf,h1⟩:=hf i f hg
  rw[ht',ho,ci] at h1
  obtain⟨n,e1,e2⟩:=keyLits_int' hi h1
  refine⟨n,e1,?_⟩
  rw[e1] at h1
  cases d with
  | zero=>simp[Program.keyLits] at h1
  | succ d=>
   unfold Program.keyLits at h1
   simp only[hi] at h1
   split at h1
   ·next hh=>exact X1 hh.2
   ·cases h1
 obtain⟨n0,e0,w0⟩:=cell 0 f0 0 rfl a0 b0
 obtain⟨n1,e1,w1⟩:=cell 1 f1 1 rfl a1 b1
 obtain⟨n2,e2,w2⟩:=cell 2 f2 2 rfl a2 b2
 obtain⟨n3,e3,w3⟩:=cell 3 f3 3 rfl a3 b3
 obtain⟨n4,e4,w4⟩:=cell 4 f4 4 rfl a4 b4
 obtain⟨n5,e5,w5⟩:=cell 5 f5 5 rfl a5 b5
 refine⟨⟨n0,n1,n2,n3,n4,n5⟩,?_,w0,w1,w2,w3,w4,w5⟩
 have h0:=ZL e0
 rw[List.drop_zero,ZL e1,ZL e2,ZL e3,ZL e4,ZL e5,List.drop_of_length_le (i:=5+1) oX] at h0
 exact h0
end
def JH(w:World)(v v':Value):Prop:=∀ k,v'.ownBlock=some k->v.ownBlock=some k\/w.heap.size<=k
structure Only (D:Nat->Prop) (w w':World):Prop where
 os:w'.os=w.os
 tape:w'.tape=w.tape
 output:w'.output=w.output
 size:w.heap.size<=w'.heap.size
 block:∀ k,k<w.heap.size->¬D k->w'.heap[k]? = w.heap[k]?
theorem Only.refl(D:Nat->Prop)(w:World):Only D w w:=⟨rfl,rfl,rfl,Nat.le_refl _,λ_ _ _=>rfl⟩
theorem Only.mono{D E:Nat->Prop}{w w':World}(h:Only D w w')(hd:∀ k,k<w.heap.size->D k->E k):Only E w w':=
 ⟨h.os,h.tape,h.output,h.size,λk hk hn=>h.block k hk λhD=>hn (hd k hk hD)⟩
theorem Only.trans{D E:Nat->Prop}{a b c:World}(h:Only D a b)(h':Only E b c)(hd:∀ k,k<a.heap.size->E k->D k):Only D a c:=
 ⟨h'.os.trans h.os,h'.tape.trans h.tape,h'.output.trans h.output,Nat.le_trans h.size h'.size,λk hk hn=>(h'.block k (Nat.lt_of_lt_of_le hk h.size) λhE=>hn (hd k hk hE)).trans (h.block k hk hn)⟩
theorem Only.ofBelow{D:Nat->Prop}{w w':World}(h:Below w.heap.size w w'):Only D w w':=
 ⟨h.os,h.tape,h.output,h.size,λk hk _=>h.block k hk⟩
theorem Only.ofGrown{D:Nat->Prop}{w w':World}{row:Option Nat}(h:w.grownBy w' row)(hd:∀ k,row=some k->D k):Only D w w':=
 ⟨h.os,h.tape,h.output,h.size,λk hk hn=>h.block k hk λe=>hn (hd k e.symm)⟩
theorem Only.ofUpd{D:Nat->Prop}{b:Nat}{o:Obj}{w w':World}(h:Upd b o w w')(hd:D b):Only D w w':=
 ⟨h.os,h.tape,h.output,Nat.le_of_eq h.size.symm,λk _ hn=>h.block k λe=>hn (e▸hd)⟩
theorem Only.drew{D:Nat->Prop}{w w':World}(h:Only D w w'):Only D w w'.drew:=⟨h.os,h.tape,h.output,h.size,h.block⟩
theorem Only.setCell{D:Nat->Prop}{w w':World}(h:Only D w w')(a:Addr)(u:Value)(hd:a.block<w.heap.size->D a.block):Only D w (w'.setCell a u):=
 ⟨h.os,h.tape,h.output,by simpa[World.setCell] using h.size,λk hk hn=>(Below.heap_setCell _ _ _ _ (by rintro rfl;exact hn (hd hk))).trans (h.block k hk hn)⟩
theorem Only.below{D:Nat->Prop}{w w':World}{B:Nat}(h:Only D w w')(hB:B<=w.heap.size)(hd:∀ k,D k->B<=k):Below B w w':=
 ⟨h.os,h.tape,h.output,h.size,λk hk=>h.block k oX λhD=>by have:=hd k hD;omega⟩
theorem Only.owns{D:Nat->Prop}{w w':World}{base:Nat}{e:TypeId}{s n:Nat}{v:Value}{xs:List Value}(h:Only D w w')(ho:w.ownsRow base e s v n xs)(hd:∀ k,v.ownBlock=some k->¬D k):w'.ownsRow base e s v n xs:=by
 refine⟨ho.1,?_⟩
 rcases ho.2 with h2|⟨g,cap,cur,e1,e2,e3,e4⟩
 ·exact .inl h2
 ·subst e1
  exact .inr ⟨g,cap,cur,rfl,e2,(h.block g (Zb e3) (hd g rfl)).trans e3,e4⟩
theorem Only.heap{D:Nat->Prop}{w w':World}{b:Nat}{o:Obj}(h:Only D w w')(hb:w.heap[b]? = some o)(hd:¬D b):w'.heap[b]? = some o:=(h.block b (Zb hb) hd).trans hb
theorem Only.argB{D:Nat->Prop}{w w':World}{a:Option Addr}{cap:Nat}{bs:List UInt8}(h:Only D w w')(ha:ArgB w a cap bs)(hd:∀ b o,a=some ⟨b,o,none⟩->¬D b):ArgB w' a cap bs:=by
 refine⟨ha.len,ha.most,ha.nil,λi hi=>?_⟩
 obtain⟨b,o,rfl,hc⟩:=ha.row i hi
 have hlt:b<w.heap.size:=World.block_lt_of_cell? w _ hc
 exact⟨b,o,rfl,(World.cell?_of_block (w:=w) (w':=w') (a:=⟨b,o+i,none⟩) (h.block b hlt (hd b o rfl))).trans hc⟩
theorem W4{w:World}{base base':Nat}{e:TypeId}{s n:Nat}{v:Value}{xs:List Value}(ho:w.ownsRow base e s v n xs)(hb:base'<=base):w.ownsRow base' e s v n xs:=by
 refine⟨ho.1,?_⟩
 rcases ho.2 with h2|⟨g,cap,cur,e1,e2,e3⟩
 ·exact .inl h2
 ·exact .inr ⟨g,cap,cur,e1,oX,e3⟩
structure LiesOk {α:Type} (R:World->(Nat->Prop)->α->List Value->Prop) (size:Nat):Prop where
 only:∀ {w w':World} {D F:Nat->Prop} {x:α} {cs:List Value},R w F x cs->Only D w w'->(∀ k,F k->¬D k)->R w' F x cs
 more:∀ {w:World} {F F':Nat->Prop} {x:α} {cs:List Value},R w F x cs->(∀ k,F k->F' k)->R w F' x cs
 len:∀ {w:World} {F:Nat->Prop} {x:α} {cs:List Value},R w F x cs->cs.length=size/\∀ u∈cs,u.oneCell'=true
structure RowsOf {α:Type} (R:World->(Nat->Prop)->α->List Value->Prop) (e:TypeId) (size base:Nat) (w:World) (F:Nat->Prop) (v:Value) (ps:List α):Prop where
 row:∃ css:List (List Value),css.length=ps.length/\w.ownsRow base e size v ps.length css.flatten/\∀ (i:Nat) (x:α) (cs:List Value),ps[i]? = some x->css[i]? = some cs->R w F x cs
 apart:∀ k,v.ownBlock=some k->¬F k
 lt:∀ k,F k->k<w.heap.size
theorem B2{css:List (List Value)}{size:Nat}(h:∀ cs∈css,cs.length=size):∀ (i:Nat) (cs:List Value) (j:Nat) (u:Value),css[i]? = some cs->cs[j]? = some u->css.flatten[i*size+j]? = some u:=by
 induction css with
 | nil=>intro i cs j u h1;simp at h1
 | cons c css ih=>
  intro i cs j u h1 h2
  have hc:=h c (List.mem_cons_self ..)
  cases i with
  | zero=>
   simp only[List.getElem?_cons_zero,Option.some.injEq] at h1
   subst h1
   have hj:=(List.getElem?_eq_some_iff.1 h2).1
   rw[Nat.zero_mul,Nat.zero_add,List.flatten_cons,List.getElem?_append_left hj]
   exact h2
  | succ i=>
   simp only[List.getElem?_cons_succ] at h1
   rw[List.flatten_cons,List.getElem?_append_right (by rw[hc,Nat.succ_mul];omega),hc,show (i+1)*size+j-size=i*size+j by rw[Nat.succ_mul];omega]
   exact ih (λcs hcs=>h cs (List.mem_cons_of_mem _ hcs)) i cs j u h1 h2
section
variable {α:Type} {R:World->(Nat->Prop)->α->List Value->Prop} {e:TypeId} {size base:Nat} {w w':World} {F F' D:Nat->Prop} {v:Value} {ps:List α}
theorem RowsOf.only(hR:LiesOk R size)(h:RowsOf R e size base w F v ps)(hO:Only D w w')(hF:∀ k,F k->¬D k)(hv:∀ k,v.ownBlock=some k->¬D k):RowsOf R e size base w' F v ps:=by
 obtain⟨⟨css,h1,h2,h3⟩,h4,h5⟩:=h
 exact⟨⟨css,h1,hO.owns h2 hv,λi x cs a b=>hR.only (h3 i x cs a b) hO hF⟩,h4,λk hk=>Nat.lt_of_lt_of_le (h5 k hk) hO.size⟩
theorem RowsOf.below(hR:LiesOk R size)(h:RowsOf R e size base w F v ps)(hb:Below w.heap.size w w'):RowsOf R e size base w' F v ps:=h.only hR (Only.ofBelow (D:=λ_=>False) hb) (λ_ _ h=>h) (λ_ _ h=>h)
theorem RowsOf.mono{base':Nat}(h:RowsOf R e size base w F v ps)(hb:base'<=base):RowsOf R e size base' w F v ps:=by
 obtain⟨⟨css,h1,h2,h3⟩,h4,h5⟩:=h
 exact⟨⟨css,h1,W4 h2 hb,h3⟩,h4,h5⟩
theorem RowsOf.ownLt(h:RowsOf R e size base w F v ps):∀ k,v.ownBlock=some k->base<=k/\k<w.heap.size:=by
 obtain⟨⟨css,h1,h2,h3⟩,h4,h5⟩:=h
 exact λk hk=>World.ownsRow.lt h2 k hk
theorem RowsOf.nil(base:Nat)(w:World):RowsOf R e size base w (λ_=>False) (.slice none 0 0) ([]:List α):=
 ⟨⟨[],rfl,⟨sX,.inl ⟨rfl,rfl⟩⟩,λi x cs a=>by simp at a⟩,(λk hk=>by cases hk),λk h=>False.elim h⟩
theorem RowsOf.made0(w:World)(base:Nat)(hb:base<=w.heap.size):RowsOf R e size base (w.alloc (.cells #[] e)) (λ_=>False) (.slice (some ⟨w.heap.size,0,none⟩) 0 0) ([]:List α):=
 ⟨⟨[],rfl,by simpa using World.ownsRow_made (base:=base) (e:=e) (size:=size) w #[] 0 hb dX sX,λi x cs a=>by simp at a⟩,λk _ h=>h,λk h=>False.elim h⟩
theorem RowsOf.form(h:RowsOf R e size base w F v ps):∃ a c,v=.slice a ps.length c/\(a=none->c=0/\ps.length=0)/\ps.length<=c/\c<=maxLen/\∀ b o s,a=some ⟨b,o,s⟩->o=0/\s=none/\base<=b/\b<w.heap.size:=by
 obtain⟨⟨css,h1,h2,h3⟩,h4,h5⟩:=h
 rcases h2.2 with ⟨rfl,h0⟩|⟨g,cap,cur,rfl,hb,hh,hn,hc,_⟩
 ·exact⟨none,0,by rw[h0],λ_=>⟨rfl,h0⟩,oX,Nat.zero_le _,λ_ _ _ e=>by cases e⟩
 ·exact⟨_,cap,rfl,(λe=>by cases e),hn,hc,λb o s e=>by cases e;exact⟨rfl,rfl,hb,Zb hh⟩⟩
theorem RowsOf.elem(hR:LiesOk R size)(h:RowsOf R e size base w F v ps)(i:Nat)(x:α)(hx:ps[i]? = some x):∃ g c cs,v=.slice (some ⟨g,0,none⟩) ps.length c/\R w F x cs/\w.rangeAt g (i*size) cs:=by
 obtain⟨⟨css,h1,h2,h3⟩,h4,h5⟩:=h
 have hi:=(List.getElem?_eq_some_iff.1 hx).1
 obtain⟨cs,hcs⟩:∃ cs,css[i]? = some cs:=⟨_,List.getElem?_eq_getElem oX⟩
 have hall:∀ cs∈css,cs.length=size:=by
  intro cs hm
  obtain⟨j,hj⟩:=List.mem_iff_getElem?.1 hm
  have hj2:=(List.getElem?_eq_some_iff.1 hj).1
  exact(hR.len (h3 j _ cs (List.getElem?_eq_getElem oX) hj)).1
 rcases h2.2 with ⟨_,h0⟩|⟨g,cap,cur,rfl,hb,hh,hn,hc,hsz,htk⟩
 ·omega
 ·refine⟨g,cap,cs,rfl,h3 i x cs hx hcs,λj u hu=>?_⟩
  have:=B2 hall i cs j u hcs hu
  rw[<-htk,List.getElem?_take] at this
  split at this
  ·rw[Za hh,<-Array.getElem?_toList];exact this
  ·cases this
end
section
variable {α:Type} {R:World->(Nat->Prop)->α->List Value->Prop} {e:TypeId} {size base:Nat} {w:World} {F F':Nat->Prop} {v:Value} {ps:List α} {P:Program}
theorem RowsOf.app1(hR:LiesOk R size)(h:RowsOf R e size base w F v ps)(t ty:TypeId)(i:TypeInfo)(z:Value)(bytes:Nat)(ht:P.underlying t=some (.slice e))(hi:P.info? e=some i)(hz:i.zero=some z)(hsize:i.size=size)(hby:i.bytes=bytes)(hzs:z.cells.size=size)(hsz:0<size)
  (x:α) (cs:List Value) (hx:R w F' x cs) (hF:∀ k,F k->F' k) (ha:∀ k,v.ownBlock=some k->¬F' k) (hl:∀ k,F' k->k<w.heap.size) (g:Nat) (C:Array Value) (hC:C.toList=cs) (hg:w.heap[g]? = some (.cells C e (0,0))) (h63:ps.length+1<=maxLen) (hbytes:(ps.length+1)*bytes<=140737488355328) (hbase:base<=w.heap.size) :
  ∃ v' w',(Builtin.append_ #[t,t] ty #[v,.slice (some ⟨g,0,none⟩) 1 1]).run P w=.ok v' w'/\RowsOf R e size base w' F' v' (ps++[x])/\Only (λk=>v.ownBlock=some k) w w'/\JH w v v':=by
 obtain⟨⟨css,h1,h2,h3⟩,h4,h5⟩:=h
 obtain⟨hlen,hone⟩:=hR.len hx
 obtain⟨v',w',hr,k1,k2,_,k4⟩:=run_append_own_at (P:=P) w base t ty e i z size bytes ht hi hz hsize hby hzs hsz v ps.length css.flatten h2 ⟨g,0,none⟩ 1 1 cs (by rw[hlen,Nat.one_mul])
  (λj u hu=>by
   have e1:(⟨g,0,none⟩:Addr).add j=⟨g,0+j,none⟩:=by unfold Addr.add;split<;>simp_all
   rw[e1,Za hg,Nat.zero_add,<-Array.getElem?_toList,hC]
   exact hu) hone h63 hbytes hbase
 have hO:Only (λk=>v.ownBlock=some k) w w':=Only.ofGrown k2 (λk hk=>hk)
 have hM:JH w v v':=λk hk=>by
  rcases k4 with k4|k4
  ·exact .inl (k4▸hk)
  ·rw[k4] at hk;cases hk;exact .inr nR
 refine⟨v',w',hr,⟨⟨css++[cs],by simp[h1],by simpa using k1,λj y ds hy hd=>?_⟩,λk hk hk2=>?_,λk hk=>Nat.lt_of_lt_of_le (hl k hk) hO.size⟩,hO,hM⟩
 ·rcases Nat.lt_or_ge j ps.length with hj|hj
  ·rw[List.getElem?_append_left hj] at hy
   rw[List.getElem?_append_left oX] at hd
   exact hR.only (hR.more (h3 j y ds hy hd) hF) hO (λk hk e=>ha k e hk)
  ·have hj2:=(List.getElem?_eq_some_iff.1 hy).1
   simp only[List.length_append,List.length_singleton] at hj2
   obtain rfl:j=ps.length:=oX
   have e1:y=x:=by simpa using hy.symm
   have e2:ds=cs:=by rw[<-h1] at hd;simpa using hd.symm
   subst e1 e2
   exact hR.only hx hO (λk hk e=>ha k e hk)
 ·rcases hM k hk with hk3|hk3
  ·exact ha k hk3 hk2
  ·have:=hl k hk2;omega
end
section
variable {α:Type} {R:World->(Nat->Prop)->α->List Value->Prop} {e:TypeId} {size base:Nat} {w:World} {F F':Nat->Prop} {v:Value} {ps:List α} {P:Program} {ops:Array Oper} {rest:List Oper} {o:Oper} {a:Act} {Q:Exit->Act->World->Prop} {K:Act->World->Prop}
theorem Tk(hR:LiesOk R size)(s x:Operand)(t:TypeId)(ho:o.op=.call { callee:=.builtin .append,args:=#[s,x],argTypes:=#[t,t] })
  (ht:P.underlying t=some (.slice e)) (bytes:Nat) (hi:(P.info? e).map (λi=>(i.zero.map (·.cells.size),i.size,i.bytes))=some (some size,size,bytes)) (hsz:0<size)
  (hs:a.eval s=v) (h:Hid (RowsOf R e size base w F v ps)) (y:α) (C:Array Value) (hy:Hid (R w F' y C.toList)) (hF:Hid (∀ k,F k->F' k)) (ha:Hid (∀ k,v.ownBlock=some k->¬F' k)) (hl:Hid (∀ k,F' k->k<w.heap.size))
  (hx:a.eval x=.slice (some ⟨w.heap.size,0,none⟩) 1 1) (h63:ps.length<=1000000) (hb8:bytes<=10000) (hbase:base<=w.heap.size)
  (hK:∀ v' w',Hid (RowsOf R e size base w' F' v' (ps++[y]))->Hid (Only (λk=>v.ownBlock=some k) w w')->Hid (JH w v v')->K (a.put o.dst v') w'):o.wp P a (w.alloc (.cells C e)) K Q:=by
 obtain⟨ie,hie,h2⟩:=Option.map_eq_some_iff.1 hi
 simp only[Prod.mk.injEq] at h2
 obtain⟨hz,hs1,hby⟩:=h2
 obtain⟨z,hz1,hz2⟩:=Option.map_eq_some_iff.1 hz
 have hG:Below w.heap.size w (w.alloc (.cells C e)):=bR.alloc nR _
 have hO1:Only (λ_=>False) w (w.alloc (.cells C e)):=Only.ofBelow hG
 obtain⟨v',w',hr,k1,k2,k3⟩:=(h.out.below hR hG).app1 (P:=P) hR t o.type ie z bytes ht hie hz1 hs1 hby hz2 hsz y C.toList (hR.only hy.out hO1 (λ_ _ h=>h)) hF.out ha.out (λk hk=>Nat.lt_of_lt_of_le (hl.out k hk) hG.size) w.heap.size C rfl (heap_alloc_new w _) c6X
  (Nat.le_trans (Nat.mul_le_mul (Nat.succ_le_succ h63) hb8) dX) (Nat.le_trans hbase hG.size)
 unfold Oper.wp execOp
 simp only[ho,resolve,invoke,builtin,Sem.run_bind,Sem.run_pure,Result.andThen_ok,List.map_toArray,List.map_cons,List.map_nil,hs,hx,hr]
 exact hK v' w' (Hd k1) (Hd ((hO1.mono (λ_ _ h=>False.elim h)).trans k2 (λ_ _ h=>h))) (Hd λk hk=>(k3 k hk).imp id (λh=>Nat.le_trans hG.size h))
theorem Yb(hgd:o.guard=none)(hR:LiesOk R size)(s x:Operand)(t:TypeId)(ho:o.op=.call { callee:=.builtin .append,args:=#[s,x],argTypes:=#[t,t] })
  (ht:P.underlying t=some (.slice e)) (bytes:Nat) (hi:(P.info? e).map (λi=>(i.zero.map (·.cells.size),i.size,i.bytes))=some (some size,size,bytes)) (hsz:0<size)
  (hs:a.eval s=v) (h:Hid (RowsOf R e size base w F v ps)) (y:α) (C:Array Value) (hy:Hid (R w F' y C.toList)) (hF:Hid (∀ k,F k->F' k)) (ha:Hid (∀ k,v.ownBlock=some k->¬F' k)) (hl:Hid (∀ k,F' k->k<w.heap.size))
  (hx:a.eval x=.slice (some ⟨w.heap.size,0,none⟩) 1 1) (h63:ps.length<=1000000) (hb8:bytes<=10000) (hbase:base<=w.heap.size)
  (hK:∀ v' w',Hid (RowsOf R e size base w' F' v' (ps++[y]))->Hid (Only (λk=>v.ownBlock=some k) w w')->Hid (JH w v v')->wpList P ops Q rest (a.put o.dst v') w'):wpList P ops Q (o::rest) a (w.alloc (.cells C e)):=by
 refine wpList_plain hgd λK' hK'=>?_
 exact Tk hR s x t ho ht bytes hi hsz hs h y C hy hF ha hl hx h63 hb8 hbase (λv' w' a b c=>hK' _ _ (hK v' w' a b c))
end
theorem P6.list_length(p:P6):p.list.length=6:=rfl
theorem P6.list_one(p:P6):∀ u∈p.list,u.oneCell'=true:=by
 intro u hu
 simp only[P6.list,List.mem_cons,List.not_mem_nil,or_false] at hu
 rcases hu with rfl|rfl|rfl|rfl|rfl|rfl<;>rfl
theorem all_one{l:List Value}(h:∀ u∈l,u.oneCell'=true):l.toArray.all (·.oneCell')=true:=by
 rw[Array.all_eq_true']
 intro u hu
 exact h u (by simpa using hu)
section
variable {P:Program}
end
section
variable {P:Program}
end
def RowAt{α:Type}(enc:α->List Value)(size:Nat)(w:World)(a:Option Addr)(xs:List α):Prop:=∀ k (h:k<xs.length),∃ b o,a=some ⟨b,o,none⟩/\w.rangeAt b (o+k*size) (enc xs[k])
theorem Q2{w w':World}{B b o:Nat}{cs:List Value}(h:w.rangeAt b o cs)(hb:Below B w w')(hB:w.heap.size<=B):w'.rangeAt b o cs:=λj v hv=>by
 have h1:=h j v hv
 have h2:=World.block_lt_of_cell? w _ h1
 exact(hb.cell (p:=⟨b,o+j,none⟩) (Nat.lt_of_lt_of_le h2 hB)).trans h1
theorem RowAt.below{α:Type}{enc:α->List Value}{size B:Nat}{w w':World}{a:Option Addr}{xs:List α}(h:RowAt enc size w a xs)(hb:Below B w w')(hB:w.heap.size<=B):RowAt enc size w' a xs:=λk hk=>by
 obtain⟨b,o,e,hr⟩:=h k hk
 exact⟨b,o,e,Q2 hr hb hB⟩
structure It where
 n:Int
 s:ByteArray
 p:P6
 root:List UInt8
 file:List UInt8
 t:Int
 k:Bool
 u:Int
 r:Int
deriving DecidableEq
instance:Inhabited It:=⟨⟨0,ByteArray.empty,⟨0,0,0,0,0,0⟩,List.replicate 32 0,List.replicate 32 0,0,false,0,0⟩⟩
def It.list(x:It):List Value:=[.int .i64 x.n,.string x.s]++(x.p.list++(cB x.root++(cB x.file++[.int .i64 x.t,.bool x.k,.int .i64 x.u,.int .i64 x.r])))
def It.lits(x:It):List Lit:=[.int .i64 x.n,.string x.s.data.toList]++(x.p.lits++(QM x.root++(QM x.file++[.int .i64 x.t,.bool x.k,.int .i64 x.u,.int .i64 x.r])))
structure It.Ok (x:It):Prop where
 n:inI x.n
 s:x.s.size<=maxLen
 p:x.p.Ok
 root:x.root.length=32
 file:x.file.length=32
 t:inI x.t
 u:inI x.u
 r:inI x.r
theorem It.len{x:It}(h1:x.root.length=32)(h2:x.file.length=32):x.list.length=76:=by
 simp[It.list,P6.list_length,Ze,h1,h2]
theorem It.list_length{x:It}(h:x.Ok):x.list.length=76:=It.len h.root h.file
theorem It.list_one(x:It):∀ u∈x.list,u.oneCell'=true:=by
 intro u hu
 simp only[It.list,List.mem_append,List.mem_cons,List.not_mem_nil,or_false] at hu
 rcases hu with (rfl|rfl)|hu|hu|hu|rfl|rfl|rfl|rfl
 ·rfl
 ·rfl
 ·exact P6.list_one _ u hu
 ·exact ZI _ u hu
 ·exact ZI _ u hu
 ·rfl
 ·rfl
 ·rfl
 ·rfl
theorem It.all_one(x:It):x.list.toArray.all (·.oneCell')=true:=Go.Proofs.YtpdhceiodgnbmaaGreatDoor.all_one x.list_one
theorem It.size{x:It}(h:x.Ok):x.list.toArray.size=76:=by rw[List.size_toArray,It.list_length h]
theorem It.parts(x:It):x.list=([.int .i64 x.n,.string x.s]++x.p.list++cB x.root++cB x.file)++[.int .i64 x.t,.bool x.k,.int .i64 x.u,.int .i64 x.r]:=by simp[It.list]
theorem It.head72{x:It}(h1:x.root.length=32)(h2:x.file.length=32):([.int .i64 x.n,.string x.s]++x.p.list++cB x.root++cB x.file:List Value).length=72:=by simp[P6.list_length,Ze,h1,h2]
theorem It.c0(x:It):x.list[0]? = some (.int .i64 x.n):=rfl
theorem It.c1(x:It):x.list[1]? = some (.string x.s):=rfl
theorem It.c3(x:It):x.list[3]? = some (.int .i64 x.p.n):=rfl
theorem It.c72{x:It}(h:x.Ok):x.list[72]? = some (.int .i64 x.t):=by
 rw[It.parts,List.getElem?_append_right (by rw[It.head72 h.root h.file];omega),It.head72 h.root h.file];rfl
theorem It.c73{x:It}(h:x.Ok):x.list[73]? = some (.bool x.k):=by
 rw[It.parts,List.getElem?_append_right (by rw[It.head72 h.root h.file];omega),It.head72 h.root h.file];rfl
theorem It.c74{x:It}(h:x.Ok):x.list[74]? = some (.int .i64 x.u):=by
 rw[It.parts,List.getElem?_append_right (by rw[It.head72 h.root h.file];omega),It.head72 h.root h.file];rfl
theorem It.c75{x:It}(h:x.Ok):x.list[75]? = some (.int .i64 x.r):=by
 rw[It.parts,List.getElem?_append_right (by rw[It.head72 h.root h.file];omega),It.head72 h.root h.file];rfl
theorem It.sub_p(x:It):(x.list.drop 2).take 6=x.p.list:=by
 have e:x.list=[.int .i64 x.n,.string x.s]++(x.p.list++(cB x.root++(cB x.file++[.int .i64 x.t,.bool x.k,.int .i64 x.u,.int .i64 x.r]))):=rfl
 rw[e]
 exact Jf rfl rfl
theorem It.sub_root{x:It}(h:x.Ok):(x.list.drop 8).take 32=cB x.root:=by
 have e:x.list=([.int .i64 x.n,.string x.s]++x.p.list)++(cB x.root++(cB x.file++[.int .i64 x.t,.bool x.k,.int .i64 x.u,.int .i64 x.r])):=by simp[It.list]
 rw[e]
 exact Jf rfl (by rw[Ze,h.root])
theorem It.sub_file{x:It}(h:x.Ok):(x.list.drop 40).take 32=cB x.file:=by
 have e:x.list=([.int .i64 x.n,.string x.s]++x.p.list++cB x.root)++(cB x.file++[.int .i64 x.t,.bool x.k,.int .i64 x.u,.int .i64 x.r]):=by simp[It.list]
 rw[e]
 exact Jf (by simp[P6.list_length,Ze,h.root]) (by rw[Ze,h.file])
structure En where
 id:Int
 o:Int
 w:Int
 i:Int
 t:Int
 v:Int
 a:Int
deriving DecidableEq
instance:Inhabited En:=⟨⟨0,0,0,0,0,0,0⟩⟩
def En.list(x:En):List Value:=[.int .i64 x.id,.int .i64 x.o,.int .i64 x.w,.int .i64 x.i,.int .i64 x.t,.int .i64 x.v,.int .i64 x.a]
def En.lits(x:En):List Lit:=[.int .i64 x.id,.int .i64 x.o,.int .i64 x.w,.int .i64 x.i,.int .i64 x.t,.int .i64 x.v,.int .i64 x.a]
def En.Ok(x:En):Prop:=inI x.id/\inI x.o/\inI x.w/\inI x.i/\inI x.t/\inI x.v/\inI x.a
theorem En.list_one(x:En):∀ u∈x.list,u.oneCell'=true:=by
 intro u hu
 simp only[En.list,List.mem_cons,List.not_mem_nil,or_false] at hu
 rcases hu with rfl|rfl|rfl|rfl|rfl|rfl|rfl<;>rfl
def RI(_:World)(_:Nat->Prop)(x:It)(cs:List Value):Prop:=cs=x.list/\x.Ok
theorem Qq:LiesOk RI 76:=⟨λh _ _=>h,λh _=>h,λh=>by rw[h.1];exact⟨It.list_length h.2,It.list_one _⟩⟩
def RE(_:World)(_:Nat->Prop)(x:En)(cs:List Value):Prop:=cs=x.list/\x.Ok
theorem Qf:LiesOk RE 7:=⟨λh _ _=>h,λh _=>h,λh=>by rw[h.1];exact⟨rfl,En.list_one _⟩⟩
theorem Ge{base:Nat}{w:World}{e:TypeId}{F:Nat->Prop}{v:Value}{xs:List It}(h:RowsOf RI e 76 base w F v xs):∃ a c,v=.slice a xs.length c/\RowAt It.list 76 w a xs/\xs.length<=c/\c<=maxLen/\(∀ x∈xs,x.Ok):=by
 obtain⟨a,c,e1,e2,e3,e4,e5⟩:=h.form
 refine⟨a,c,e1,λk hk=>?_,e3,e4,λx hx=>?_⟩
 ·obtain⟨g,c',cs,e6,⟨rfl,_⟩,h7⟩:=h.elem Qq k _ (List.getElem?_eq_getElem hk)
  rw[e1] at e6
  cases e6
  exact⟨g,0,rfl,by rw[Nat.zero_add];exact h7⟩
 ·obtain⟨k,hk,rfl⟩:=List.getElem_of_mem hx
  obtain⟨g,c',cs,e6,⟨_,h8⟩,h7⟩:=h.elem Qq k _ (List.getElem?_eq_getElem hk)
  exact h8
theorem Gg{base:Nat}{w:World}{e:TypeId}{F:Nat->Prop}{v:Value}{xs:List En}(h:RowsOf RE e 7 base w F v xs):∃ a c,v=.slice a xs.length c/\RowAt En.list 7 w a xs/\xs.length<=c/\c<=maxLen/\(∀ x∈xs,x.Ok):=by
 obtain⟨a,c,e1,e2,e3,e4,e5⟩:=h.form
 refine⟨a,c,e1,λk hk=>?_,e3,e4,λx hx=>?_⟩
 ·obtain⟨g,c',cs,e6,⟨rfl,_⟩,h7⟩:=h.elem Qf k _ (List.getElem?_eq_getElem hk)
  rw[e1] at e6
  cases e6
  exact⟨g,0,rfl,by rw[Nat.zero_add];exact h7⟩
 ·obtain⟨k,hk,rfl⟩:=List.getElem_of_mem hx
  obtain⟨g,c',cs,e6,⟨_,h8⟩,h7⟩:=h.elem Qf k _ (List.getElem?_eq_getElem hk)
  exact h8
structure St where
 its:List It
 ens:List En
structure ArgS (w:World) (v:Value) (m:St):Prop where
 form:∃ a c a' c',v=.agg #[.slice a m.its.length c,.slice a' m.ens.length c']/\RowAt It.list 76 w a m.its/\m.its.length<=c/\c<=maxLen/\RowAt En.list 7 w a' m.ens/\m.ens.length<=c'/\c'<=maxLen
 okN:∀ x∈m.its,x.Ok
 okV:∀ x∈m.ens,x.Ok
theorem ArgS.below{B:Nat}{w w':World}{v:Value}{m:St}(h:ArgS w v m)(hb:Below B w w')(hB:w.heap.size<=B):ArgS w' v m:=by
 obtain⟨⟨a,c,a',c',e,h1,h2,h3,h4,h5,h6⟩,h7,h8⟩:=h
 exact⟨⟨a,c,a',c',e,h1.below hb hB,h2,h3,h4.below hb hB,h5,h6⟩,h7,h8⟩
theorem Nk:(Tryz.prog.info? 58).map (λi=>(i.zero.map (·.cells.size),i.size,i.bytes))=some (some 76,76,168):=kX
theorem Nr:(Tryz.prog.info? 66).map (λi=>(i.zero.map (·.cells.size),i.size,i.bytes))=some (some 7,7,56):=kX
section
variable {P:Program} {ops:Array Oper} {rest:List Oper} {o:Oper} {a:Act} {w:World} {Q:Exit->Act->World->Prop}
theorem Xf{K:Act->World->Prop}(ty:TypeId)(x y:Operand)(ho:o.op=.store ty x y)(c c':Array Value)
  (hx:a.eval x=.pointer (some ⟨w.heap.size,0,none⟩)) (hy:a.eval y=.agg c') (hi:(P.info? ty).map (·.size)=some c'.size) (hs:c.size=c'.size) (h1:c'.all (·.oneCell')=true)
  (h:K (a.put o.dst undef) (w.alloc (.cells c' ty))):o.wp P a (w.alloc (.cells c ty)) K Q:=by
 unfold Oper.wp execOp
 simp only[ho,hx,hy,run_storeAt_new w ty c c' hi hs h1,Sem.run_bind,Sem.run_pure,Result.andThen_ok]
 exact h
theorem QA(hgd:o.guard=none)(ty:TypeId)(x y:Operand)(ho:o.op=.store ty x y)(c c':Array Value)
  (hx:a.eval x=.pointer (some ⟨w.heap.size,0,none⟩)) (hy:a.eval y=.agg c') (hi:(P.info? ty).map (·.size)=some c'.size) (hs:c.size=c'.size) (h1:c'.all (·.oneCell')=true)
  (h:wpList P ops Q rest (a.put o.dst undef) (w.alloc (.cells c' ty))):wpList P ops Q (o::rest) a (w.alloc (.cells c ty)):=
 wpList_plain hgd λ_ hK=>Xf ty x y ho c c' hx hy hi hs h1 (hK _ _ h)
theorem J4{fn:Func}{p:Tmp}{ty:TypeId}(h:fn.results=#[.cell p ty])(tmps:Array Value)(w:World) :
  (results fn tmps).run P w=((asAddr (tmps.getD p undef)).run P w).andThen λa w₁=>(loadVar ty a).run P w₁:=by
 simp only[results,h]
 simp[Sem.run_bind,Result.andThen]
theorem JT{fn:Func}{R:Ending->World->Prop}{p:Tmp}{ty:TypeId}{tmps:Array Value}{c:Array Value}{n:Nat}{e:TypeId}(h:fn.results=#[.cell p ty])
  (hp:tmps.getD p undef=.pointer (some ⟨w.heap.size,0,none⟩)) (hu:P.underlying ty=some (.array n e)) (hi:(P.info? ty).map (·.size)=some c.size) (hR:R (.returned (.agg c)) (w.alloc (.cells c ty))) :
  bodyPost P fn R .ret ⟨tmps,[]⟩ (w.alloc (.cells c ty)):=by
 refine bodyPost_ret (v:=.agg c) ?_ rfl hR
 rw[J4 h,hp]
 simp[asAddr,Result.andThen,run_loadVar_new w ty c n e hu hi]
end
theorem ZE{P:Program}{fn:Func}{R:Ending->World->Prop}{p:Tmp}{ty:TypeId}{tmps:Array Value}{W:World}{b:Nat}{c:Array Value}{d:TypeDesc}(h:fn.results=#[.cell p ty])
  (hp:tmps.getD p undef=.pointer (some ⟨b,0,none⟩)) (hu:P.underlying ty=some d) (hd:(match d with | .struct _ | .array _ _=>true|_=>false)=true) (hi:(P.info? ty).map (·.size)=some c.size) (hh:W.heap[b]? = some (.cells c ty (0,0))) (hR:R (.returned (.agg c)) W) :
  bodyPost P fn R .ret ⟨tmps,[]⟩ W:=by
 refine bodyPost_ret (v:=.agg c) ?_ rfl hR
 rw[J4 h,hp]
 simp[asAddr,Result.andThen,run_loadVar_row W b ty ty c (0,0) d hh hu hd hi]
theorem Upd.setRow{b:Nat}{old cs:Array Value}{t:TypeId}{fz:Nat×Nat}{w:World}(hg:w.heap[b]? = some (.cells old t fz)):Upd b (.cells cs t fz) w (w.setRow b cs):=by
 refine⟨rfl,rfl,rfl,by simp[World.setRow],λk hk=>?_,setRow_heap w b old cs t fz hg⟩
 simp only[World.setRow,Array.getElem?_modify]
 rw[if_neg (λe=>hk e.symm)]
section
variable {P:Program} {ops:Array Oper} {rest:List Oper} {o:Oper} {a:Act} {w:World} {Q:Exit->Act->World->Prop}
theorem Zc(hgd:o.guard=none)(ty:TypeId)(x y:Operand)(ho:o.op=.store ty x y)(g:Nat)(c c':Array Value)
  (hx:a.eval x=.pointer (some ⟨g,0,none⟩)) (hy:a.eval y=.agg c') (hg:Hid (w.heap[g]? = some (.cells c ty (0,0)))) (hi:(P.info? ty).map (·.size)=some c'.size) (hs:c.size=c'.size) (h1:c'.all (·.oneCell')=true)
  (h:∀ w',Hid (Upd g (.cells c' ty (0,0)) w w')->wpList P ops Q rest (a.put o.dst undef) w'):wpList P ops Q (o::rest) a w:=by
 refine wpList_plain hgd λK hK=>?_
 have h2:=hK _ _ (h _ (Hd (Upd.setRow (cs:=c') hg.out)))
 unfold Oper.wp execOp
 simp only[ho,hx,hy,Instr.storeAt,Instr.sureAddr,Sem.run_bind,Sem.run_pure,Result.andThen_ok,run_storeVar_row w g ty ty c c' hg.out hi hs h1]
 exact h2
theorem Zu{K:Act->World->Prop}(ty:TypeId)(x y:Operand)(ho:o.op=.store ty x y)(g:Nat)(c c':Array Value)
  (hx:a.eval x=.pointer (some ⟨g,0,none⟩)) (hy:a.eval y=.agg c') (hg:Hid (w.heap[g]? = some (.cells c ty (0,0)))) (hi:(P.info? ty).map (·.size)=some c'.size) (hs:c.size=c'.size) (h1:c'.all (·.oneCell')=true)
  (h:∀ w',Hid (Upd g (.cells c' ty (0,0)) w w')->K (a.put o.dst undef) w'):o.wp P a w K Q:=by
 have h2:=h _ (Hd (Upd.setRow (cs:=c') hg.out))
 unfold Oper.wp execOp
 simp only[ho,hx,hy,Instr.storeAt,Instr.sureAddr,Sem.run_bind,Sem.run_pure,Result.andThen_ok,run_storeVar_row w g ty ty c c' hg.out hi hs h1]
 exact h2
theorem Zd(hgd:o.guard=none)(ty:TypeId)(x:Operand)(ho:o.op=.load ty x)(g:Nat)(c:Array Value)(d:TypeDesc)
  (hx:a.eval x=.pointer (some ⟨g,0,none⟩)) (hg:Hid (w.heap[g]? = some (.cells c ty (0,0)))) (hu:P.underlying ty=some d) (hd:(match d with | .struct _ | .array _ _=>true|_=>false)=true) (hi:(P.info? ty).map (·.size)=some c.size)
  (h:wpList P ops Q rest (a.put o.dst (.agg c)) w):wpList P ops Q (o::rest) a w:=by
 refine wpList_plain hgd λK hK=>?_
 have h2:=hK _ _ h
 unfold Oper.wp execOp
 simp only[ho,hx,Instr.loadAt,Instr.sureAddr,Sem.run_bind,Sem.run_pure,Result.andThen_ok,run_loadVar_row w g ty ty c (0,0) d hg.out hu hd hi]
 exact h2
end
def ZG:List (Bool×Nat)->Bool×List (Bool×Nat)
 | []=>(false,[])
 | (_,0)::s=>ZG s
 | (b,n+1)::s=>(b,(b,n)::s)
def ZU(U:Nat->Value):Nat->List (Bool×Nat)->List Value->List Value
 | _,_,[]=>[]
 | i,s,v::l=>(bif (ZG s).1 then U i else v)::ZU U (i+1) (ZG s).2 l
theorem Gt(U:Nat->Value):∀ (l:List Value) (s:List (Bool×Nat)) (i:Nat),(∀ k v,l[k]? = some v->U (i+k)=v)->ZU U i s l=l
 | [],_,_,_=>rfl
 | v::l,s,i,h=>by
  rw[ZU,Gt U l (ZG s).2 (i+1) (λk v hk=>by rw[Nat.add_assoc,Nat.add_comm 1 k];exact h (k+1) v (by simpa using hk))]
  have h0:U i=v:=h 0 v sX
  cases (ZG s).1
  ·rfl
  ·simp[h0]
theorem P3(seg:List (Bool×Nat))(l:List Value):ZU (λi=>l.getD i undef) 0 seg l=l:=
 Gt _ l seg 0 λk v hk=>by
  rw[Nat.zero_add,List.getD_eq_getElem?_getD,hk];rfl
section
variable {P:Program} {Q:Exit->Act->World->Prop} {w:World} {c:Code}
theorem Z8(seg:List (Bool×Nat))(l:List Value)(ds:_)(R:(Nat->Value)->World->Prop)(M:(Nat->Value)->World->Nat)(h0:R (λi=>l.getD i undef) w)
  (hr:∀ U wr,R U wr->∀ K:Act->World->Prop,Hid (∀ l'' w'',ZU (λi=>l''.getD i undef) 0 seg l=l''->R (λi=>l''.getD i undef) w''->M (λi=>l''.getD i undef) w''<M U wr->K ⟨l''.toArray,ds⟩ w'')->
   ∀ l',ZU U 0 seg l=l'->c.wp P (Exit.then K Q) ⟨l'.toArray,ds⟩ wr):(Code.loop c).wp P Q ⟨l.toArray,ds⟩ w:=by
 refine wp_loop_ghost (λn a w'=>∃ U,R U w'/\M U w'=n/\a=⟨(ZU U 0 seg l).toArray,ds⟩) (M (λi=>l.getD i undef) w) ⟨_,h0,rfl,by rw[P3]⟩ ?_
 rintro n a w' ⟨U,hR,rfl,rfl⟩
 refine hr U w' hR _ (Hd ?_) _ rfl
 intro l'' w'' he h1 h2
 exact⟨_,h2,_,h1,rfl,by rw[he]⟩
end
theorem UE{w:World}{x:Addr}{v:Value}(h:w.cell? x=some v)(o:Obj):(w.alloc o).cell? x=some v:=
 (((Below.refl w.heap.size w).alloc nR o).cell (World.block_lt_of_cell? w _ h)).trans h
def GU(fn:Nat->Option (Nat×Nat)):Nat->Nat->List Value->Prop
 | _,_,[]=>True
 | i,o,v::vs=>fn i=some (o,v.cells.size)/\GU fn (i+1) (o+v.cells.size) vs
section
variable {P:Program}
theorem Mi{t e:TypeId}{size bytes:Nat}(ht:P.underlying t=some (.slice e))(hi:(P.info? e).map (λi=>(i.zero.map (·.cells.size),i.size,i.bytes))=some (some size,size,bytes))(hs:0<size)(hs2:size<=10000)(R:Array Value)(hR:R.size=size)(W:World) :
  (Instr.buildSlice t 1 #[(0,.agg R)]).run P W=.ok (.slice (some ⟨W.heap.size,0,none⟩) 1 1) (W.alloc (.cells R e)):=by
 obtain⟨ie,hie,h2⟩:=Option.map_eq_some_iff.1 hi
 simp only[Prod.mk.injEq] at h2
 obtain⟨hz,hs1,hb⟩:=h2
 obtain⟨z,hz1,hz2⟩:=Option.map_eq_some_iff.1 hz
 refine run_buildSlice W _ _ 1 _ R ie z ht hie hz1 (by rw[hs1];omega) (by rw[hs1];omega) ?_
 have h:=Go.Great.fill_whole (s:=size) hs [.agg R] ((Array.range (1*ie.size)).map (z.cells[· % z.cells.size]!)) (by simp[Value.cells,hR]) (by simp[hs1])
 simpa[hs1,Value.cells] using h
variable {ops:Array Oper} {rest:List Oper} {K:Act->World->Prop} {Q:Exit->Act->World->Prop} {o:Oper} {a:Act} {w:World}
theorem RV(t:TypeId)(ps:List (Nat×Operand))(ho:o.op=.build t ps.toArray)(vs:List (Nat×Value))(hv:(ps.map λx=>(x.1,a.eval x.2))=vs)(R:Value)(h:(Instr.build t vs.toArray).run P w=.ok R w)(hK:K (a.put o.dst R) w):o.wp P a w K Q:=by
 unfold Oper.wp execOp
 simp only[ho,Sem.run_bind,Sem.run_pure,Result.andThen_ok,List.map_toArray,hv,h]
 exact hK
theorem Z3(hgd:o.guard=none)(t:TypeId)(ps:List (Nat×Operand))(ho:o.op=.build t ps.toArray)(vs:List (Nat×Value))(hv:(ps.map λx=>(x.1,a.eval x.2))=vs)(R:Value)(h:(Instr.build t vs.toArray).run P w=.ok R w)(hK:wpList P ops Q rest (a.put o.dst R) w):wpList P ops Q (o::rest) a w:=by
 refine wpList_plain hgd λK' hK'=>?_
 exact RV t ps ho vs hv R h (hK' _ _ hK)
theorem Ps(t:TypeId)(n:Nat)(ps:List (Nat×Operand))(ho:o.op=.buildSlice t n ps.toArray)(vs:List (Nat×Value))(hv:(ps.map λx=>(x.1,a.eval x.2))=vs)(R:Value)(w':World)(h:(Instr.buildSlice t n vs.toArray).run P w=.ok R w')(hK:K (a.put o.dst R) w'):o.wp P a w K Q:=by
 unfold Oper.wp execOp
 simp only[ho,Sem.run_bind,Sem.run_pure,Result.andThen_ok,List.map_toArray,hv,h]
 exact hK
theorem U3(hgd:o.guard=none)(t:TypeId)(n:Nat)(ps:List (Nat×Operand))(ho:o.op=.buildSlice t n ps.toArray)(vs:List (Nat×Value))(hv:(ps.map λx=>(x.1,a.eval x.2))=vs)(R:Value)(w':World)(h:(Instr.buildSlice t n vs.toArray).run P w=.ok R w')(hK:wpList P ops Q rest (a.put o.dst R) w'):wpList P ops Q (o::rest) a w:=by
 refine wpList_plain hgd λK' hK'=>?_
 exact Ps t n ps ho vs hv R w' h (hK' _ _ hK)
end
set_option linter.unusedSimpArgs false
theorem VN{w:World}{b:Nat}{C:Array Value}{t:TypeId}{fz:Nat×Nat}(hb:w.heap[b]? = some (.cells C t fz)){o n:Nat}{B:List Value}(h:(C.toList.drop o).take n=B):w.rangeAt b o B:=λj v hv=>by
 rw[Za hb]
 rw[<-h,List.getElem?_take] at hv
 split at hv
 ·rw[List.getElem?_drop,Array.getElem?_toList] at hv
  exact hv
 ·cases hv
theorem KA{α:Type}{enc:α->List Value}{size:Nat}:∀ (xs:List α),(∀ x∈xs,(enc x).length=size)->∀ (i r:Nat) (hi:i<xs.length),r<size->(xs.flatMap enc)[i*size+r]? = (enc xs[i])[r]?
 | [],_,i,r,hi,_=>absurd hi (Nat.not_lt_zero _)
 | x::xs,h,i,r,hi,hr=>by
  have hx:=h x (List.mem_cons_self ..)
  rw[List.flatMap_cons]
  cases i with
  | zero=>rw[Nat.zero_mul,Nat.zero_add,List.getElem?_append_left oX];rfl
  | succ i=>
   rw[Nat.succ_mul,List.getElem?_append_right oX,hx,show i*size+size+r-size=i*size+r by omega]
   exact KA xs (λy hy=>h y (List.mem_cons_of_mem _ hy)) i r (by simpa using hi) hr
theorem Xy{α:Type}{enc:α->List Value}{size:Nat}:∀ (xs:List α),(∀ x∈xs,(enc x).length=size)->(xs.flatMap enc).length=xs.length*size
 | [],_=>by simp
 | x::xs,h=>by
  rw[List.flatMap_cons,List.length_append,Xy xs (λy hy=>h y (List.mem_cons_of_mem _ hy)),h x (List.mem_cons_self ..),List.length_cons,Nat.succ_mul]
  omega
theorem Ux{α:Type}{enc:α->List Value}{size:Nat}{w:World}{b o:Nat}{xs:List α}(hs:0<size)(hl:∀ x∈xs,(enc x).length=size)(h:∀ k (h:k<xs.length),w.rangeAt b (o+k*size) (enc xs[k])):w.rangeAt b o (xs.flatMap enc):=λj v hv=>by
 have hj:j<xs.length*size:=by rw[<-Xy xs hl];exact(List.getElem?_eq_some_iff.1 hv).1
 have hi:j / size<xs.length:=Nat.div_lt_of_lt_mul (by rw[Nat.mul_comm];exact hj)
 have hr:j % size<size:=Nat.mod_lt _ hs
 have hd:j / size*size+j % size=j:=by rw[Nat.mul_comm];exact Nat.div_add_mod j size
 have h1:=KA xs hl (j / size) (j % size) hi hr
 rw[hd,hv] at h1
 have:=h (j / size) hi (j % size) v h1.symm
 rw[Nat.add_assoc,hd] at this
 exact this
theorem Ul{α:Type}{enc:α->List Value}{R:World->(Nat->Prop)->α->List Value->Prop}{e:TypeId}{size base:Nat}{w:World}{v:Value}{xs:List α}(hR:∀ x∈xs,R w (λ_=>False) x (enc x))(h:w.ownsRow base e size v xs.length (xs.flatMap enc)):RowsOf R e size base w (λ_=>False) v xs:=by
 refine⟨⟨xs.map enc,sX,by rw[<-List.flatMap_def];exact h,λi x cs hx hc=>?_⟩,λk _ hf=>hf,λk hk=>hk.elim⟩
 rw[List.getElem?_map,hx] at hc
 cases hc
 exact hR x (List.mem_of_getElem? hx)
end Go.Proofs.YtpdhceiodgnbmaaGreatDoor
