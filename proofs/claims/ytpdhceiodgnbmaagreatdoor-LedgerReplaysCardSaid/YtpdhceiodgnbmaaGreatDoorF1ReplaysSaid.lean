import Derived.Test.YtpdhceiodgnbmaaGreatDoorF0ReplaysSaid
import Derived.WalkKit
import Derived.WalkSpells
import Derived.WalkLawsBesides
import Derived.WalkSmall
import Derived.BigQuiet
import Derived.Lib.Hide
import Derived.Carry
import Derived.ProofKit
import Derived.OpenShut
import Derived.Laws.AppendOwnNone
import Derived.Laws.BytesString
import Derived.Laws.BitsAllLaws
import Derived.Deep.QuietTactic
import Derived.Deep.RegionHeld3
import Derived.DeepKeys
import Derived.MapViews
import Derived.Laws.StructEq
set_option linter.unusedVariables false
set_option linter.unusedSimpArgs false
set_option linter.unnecessarySimpa false
set_option maxRecDepth 100000
set_option maxHeartbeats 8000000
namespace Go.Proofs.YtpdhceiodgnbmaaGreatDoor
open Go.RowKit
structure Upd (b:Nat) (o:Obj) (w w':World):Prop where
 os:w'.os=w.os
 tape:w'.tape=w.tape
 output:w'.output=w.output
 size:w'.heap.size=w.heap.size
 block:∀ k,k≠b->w'.heap[k]? = w.heap[k]?
 here:w'.heap[b]? = some o
theorem Upd.refl{b:Nat}{o:Obj}{w:World}(h:w.heap[b]? = some o):Upd b o w w:=⟨rfl,rfl,rfl,rfl,λ_ _=>rfl,h⟩
theorem Upd.below{b B:Nat}{o:Obj}{w w':World}(h:Upd b o w w')(hb:B<=b):Below B w w':=
 ⟨h.os,h.tape,h.output,by rw[h.size];exact Nat.le_refl _,λk hk=>h.block k oX⟩
theorem Upd.trans{b:Nat}{o o':Obj}{w w1 w2:World}(h:Upd b o w w1)(h':Upd b o' w1 w2):Upd b o' w w2:=
 ⟨h'.os.trans h.os,h'.tape.trans h.tape,h'.output.trans h.output,h'.size.trans h.size,λk hk=>(h'.block k hk).trans (h.block k hk),h'.here⟩
theorem Upd.drew{b:Nat}{o:Obj}{w w':World}(h:Upd b o w w'):Upd b o w w'.drew:=
 ⟨h.os,h.tape,h.output,h.size,h.block,h.here⟩
theorem Upd.setCell{b j:Nat}{cs:Array Value}{t:TypeId}{fz:Nat×Nat}{w w':World}(h:Upd b (.cells cs t fz) w w')(v:Value) :
  Upd b (.cells (cs.setIfInBounds j v) t fz) w (w'.setCell ⟨b,j,none⟩ v):=by
 refine⟨h.os,h.tape,h.output,?_,?_,?_⟩
 ·simp[World.setCell,h.size]
 ·intro k hk
  rw[Below.heap_setCell _ _ _ _ (by simpa using hk)]
  exact h.block k hk
 ·have hh:=h.here
  simp only[World.setCell,Array.getElem?_modify,if_true]
  rw[hh];rfl
theorem Upd.to{b:Nat}{o o':Obj}{w w':World}(h:Upd b o w w')(e:o=o'):Upd b o' w w':=e▸h
theorem Za{w:World}{b:Nat}{cs:Array Value}{t:TypeId}{fz:Nat×Nat}(h:w.heap[b]? = some (.cells cs t fz))(j:Nat):w.cell? ⟨b,j,none⟩=cs[j]? := by
 simp[World.cell?,h]
theorem Zo{w:World}{b:Nat}{cs:Array Value}{t:TypeId}(h:w.heap[b]? = some (.cells cs t (0,0)))(j:Nat):w.frozen? ⟨b,j,none⟩=false:=by
 simp[World.frozen?,h]
theorem Zb{w:World}{b:Nat}{o:Obj}(h:w.heap[b]? = some o):b<w.heap.size:=by
 rcases Nat.lt_or_ge b w.heap.size with h'|h'
 ·exact h'
 ·simp[Array.getElem?_eq_none h'] at h
theorem Uf{w w':World}{o:Obj}{row:Option Nat}(h:(w.alloc o).grownBy w' row):w.grownBy w' row:=
 ⟨h.os,h.tape,h.output,Nat.le_trans sX h.size,λk hk hr=>(h.block k sY hr).trans (Below.heap_alloc _ _ _ hk)⟩
theorem Vr{P:Program}{w:World}{ops:Array Oper}{rest:List Oper}{o:Oper}{a:Act}{Q:Exit->Act->World->Prop}(hgd:o.guard=none)(s x:Operand)(t:TypeId)
  (ho:o.op=.call { callee:=.builtin .append,args:=#[s,x],argTypes:=#[t,t] })
  (base:Nat) (e:TypeId) (i:TypeInfo) (z:Value) (bytes:Nat) (ht:P.underlying t=some (.slice e)) (hi:P.info? e=some i) (hz:i.zero=some z)
  (hsize:i.size=1) (hby:i.bytes=bytes) (hzs:z.cells.size=1)
  (v:Value) (n:Nat) (xs:List Value) (hs:a.eval s=v) (hown:Hid (w.ownsRow base e 1 v n xs))
  (u:Value) (hx:a.eval x=.slice (some ⟨w.heap.size,0,none⟩) 1 1) (h1:u.oneCell'=true)
  (h63:n+1<=maxLen) (hbytes:(n+1)*bytes<=140737488355328) (hbase:base<=w.heap.size)
  (h:∀ v' w',Hid (w'.ownsRow base e 1 v' (n+1) (xs++[u]))->Hid (w.grownBy w' v.ownBlock)->Hid (v'≠.slice none 0 0)->wpList P ops Q rest (a.put o.dst v') w') :
  wpList P ops Q (o::rest) a (w.alloc (.cells #[u] e)):=
 wpList_append_own _ hgd s x t ho base e i z 1 bytes ht hi hz hsize hby hzs oX v n xs hs (World.ownsRow.alloc hown.out _) ⟨w.heap.size,0,none⟩ 1 1 [u] hx rfl (cell_one_new _ _ _)
  (by intro y hy;simp at hy;subst hy;exact h1) h63 hbytes sY λv' w' h2 h3 h4=>h v' w' h2 (Uf h3) (λe=>by have:=h4.1 e;omega)
def Do(k:IntKind)(w:World)(a:Option Addr)(zs:List Int):Prop:=
 ∀ i,i<zs.length->∃ b off,a=some ⟨b,off,none⟩/\w.cell? ⟨b,off+i,none⟩=some (.int k (zs.getD i 0))
def RowB(w:World)(a:Option Addr)(bs:List UInt8):Prop:=
 ∀ i,i<bs.length->∃ b off,a=some ⟨b,off,none⟩/\w.cell? ⟨b,off+i,none⟩=some (.int .u8 ((bs.getD i 0).toNat:Int))
theorem RowB.below{w w':World}{a:Option Addr}{bs:List UInt8}(h:RowB w a bs)(hb:Below w.heap.size w w'):RowB w' a bs:=by
 intro i hi
 obtain⟨b,off,rfl,hc⟩:=h i hi
 exact⟨b,off,rfl,(hb.cell (World.block_lt_of_cell? w _ hc)).trans hc⟩
section
open Go.ChangeShapes
variable {H:Type} {enc:TypeId×Value->H} {P:Program} {w:World}
theorem PG{n:Int}(h:(Lit.int .u8 n).wf=true):((UInt8.ofNat n.toNat).toNat:Int)=n:=by
 have hx:0<=n/\n<=255:=by simpa[Lit.wf,IntKind.min,IntKind.max,IntKind.signed,IntKind.bits] using h
 simp
 omega
end
def At(w:World)(ao:Option Addr)(ys:List Value):Prop:=
 ∀ i,i<ys.length->∃ b off,ao=some ⟨b,off,none⟩/\w.cell? ⟨b,off+i,none⟩=ys[i]?
def cB(bs:List UInt8):List Value:=bs.map λx=>.int .u8 (x.toNat:Int)
def cI(zs:List Int):List Value:=zs.map λx=>.int .i64 x
theorem Zg(bs:List UInt8):(cB bs).length=bs.length:=by simp[cB]
theorem Ui(zs:List Int):(cI zs).length=zs.length:=by simp[cI]
theorem Y5(a b:List UInt8):cB (a++b)=cB a++cB b:=by simp[cB]
theorem Ry(a b:List Int):cI (a++b)=cI a++cI b:=by simp[cI]
theorem ZQ(bs:List UInt8):∀ u∈cB bs,u.oneCell'=true:=by intro u hu;simp only[cB,List.mem_map] at hu;obtain⟨_,_,rfl⟩:=hu;rfl
theorem At.below{w w':World}{ao:Option Addr}{ys:List Value}(h:At w ao ys)(hb:Below w.heap.size w w'):At w' ao ys:=by
 intro i hi
 obtain⟨b,off,rfl,hc⟩:=h i hi
 refine⟨b,off,rfl,?_⟩
 rw[List.getElem?_eq_getElem hi] at hc ⊢
 exact(hb.cell (World.block_lt_of_cell? w _ hc)).trans hc
theorem At.ofB{w:World}{ao:Option Addr}{bs:List UInt8}(h:RowB w ao bs):At w ao (cB bs):=by
 intro i hi
 rw[Zg] at hi
 obtain⟨b,off,rfl,hc⟩:=h i hi
 exact⟨b,off,rfl,by rw[hc];simp[cB,hi]⟩
theorem At.toB{w:World}{ao:Option Addr}{bs:List UInt8}(h:At w ao (cB bs)):RowB w ao bs:=by
 intro i hi
 obtain⟨b,off,rfl,hc⟩:=h i (by rw[Zg];exact hi)
 exact⟨b,off,rfl,by rw[hc];simp[cB,hi]⟩
theorem At.toI{w:World}{ao:Option Addr}{zs:List Int}(h:At w ao (cI zs)):Do .i64 w ao zs:=by
 intro i hi
 obtain⟨b,off,rfl,hc⟩:=h i (by rw[Ui];exact hi)
 exact⟨b,off,rfl,by rw[hc];simp[cI,hi]⟩
theorem At.take{w:World}{ao:Option Addr}{ys:List Value}(h:At w ao ys)(n:Nat):At w ao (ys.take n):=by
 intro i hi
 have hi':i<n/\i<ys.length:=by simpa[Nat.lt_min] using hi
 obtain⟨b,off,rfl,hc⟩:=h i hi'.2
 exact⟨b,off,rfl,by rw[hc];simp[hi'.1]⟩
theorem LH{w:World}{base:Nat}{e:TypeId}{g n cap:Nat}{xs:List Value}(h:w.ownsRow base e 1 (.slice (some ⟨g,0,none⟩) n cap) n xs):At w (some ⟨g,0,none⟩) xs:=by
 intro i hi
 obtain⟨hx,h2⟩:=h
 rcases h2 with ⟨h2,_⟩|⟨g',cap',cur,hv,hb,hg,hn,hcap,hcur,htake⟩
 ·cases h2
 ·cases hv
  refine⟨g,0,rfl,?_⟩
  rw[Za hg,<-htake]
  have:i<n:=oX
  simp[this]
theorem N1{w:World}{base:Nat}{e:TypeId}{v:Value}{n:Nat}{xs:List Value}(h:w.ownsRow base e 1 v n xs) :
  ∃ a c,v=.slice a xs.length c/\(a=none->c=0)/\xs.length<=c/\c<=maxLen/\At w a xs/\xs.length=n/\∀ b o s,a=some ⟨b,o,s⟩->base<=b/\b<w.heap.size:=by
 have hx:=h.1
 rcases h.2 with ⟨rfl,rfl⟩|⟨g,cap,cur,rfl,hb,hg,hn,hcap,hcur,htake⟩
 ·have:xs=[]:=List.eq_nil_of_length_eq_zero (by simpa using hx)
  subst this
  exact⟨none,0,rfl,λ_=>rfl,Nat.le_refl _,Nat.zero_le _,λi hi=>by simp at hi,rfl,λ_ _ _ h=>by cases h⟩
 ·have hl:xs.length=n:=oX
  refine⟨some ⟨g,0,none⟩,cap,by rw[hl],λh=>(by cases h),oX,hcap,LH h,hl,λb o s h=>?_⟩
  cases h
  exact⟨hb,Zb hg⟩
theorem Vc{w:World}{b off:Nat}{ys:List Value}(h:∀ i,i<ys.length->w.cell? ⟨b,off+i,none⟩=ys[i]?):∀ j u,ys[j]? = some u->w.cell? ((⟨b,off,none⟩:Addr).add j)=some u:=by
 intro j u hu
 have hj:j<ys.length:=(List.getElem?_eq_some_iff.1 hu).1
 have e1:(⟨b,off,none⟩:Addr).add j=⟨b,off+j,none⟩:=by unfold Addr.add;split<;>simp_all
 rw[e1,h j hj,hu]
section
variable {P:Program} {w:World} {ops:Array Oper} {rest:List Oper} {o:Oper} {a:Act} {Q:Exit->Act->World->Prop}
theorem VE(hgd:o.guard=none)(s x:Operand)(t:TypeId)
  (ho:o.op=.call { callee:=.builtin .append,args:=#[s,x],argTypes:=#[t,t] })
  (base:Nat) (e:TypeId) (i:TypeInfo) (z:Value) (bytes:Nat) (ht:P.underlying t=some (.slice e)) (hi:P.info? e=some i) (hz:i.zero=some z)
  (hsize:i.size=1) (hby:i.bytes=bytes) (hzs:z.cells.size=1)
  (v:Value) (n:Nat) (xs:List Value) (hs:a.eval s=v) (hown:Hid (w.ownsRow base e 1 v n xs))
  (ao:Option Addr) (m c:Nat) (ys:List Value) (hx:a.eval x=.slice ao m c) (hm:Hid (ys.length=m)) (hsrc:Hid (At w ao ys)) (hnil:Hid (ao=none->c=0)) (h1:∀ u∈ys,u.oneCell'=true)
  (h63:n+m<=maxLen) (hbytes:(n+m)*bytes<=140737488355328) (hbase:base<=w.heap.size)
  (h:∀ v' w',Hid (w'.ownsRow base e 1 v' (n+m) (xs++ys))->Hid (w.grownBy w' v.ownBlock)->wpList P ops Q rest (a.put o.dst v') w') :
  wpList P ops Q (o::rest) a w:=by
 cases ao with
 | some ad=>
  have had:∀ j u,ys[j]? = some u->w.cell? (ad.add j)=some u:=by
   intro j u hu
   have hj:j<ys.length:=(List.getElem?_eq_some_iff.1 hu).1
   obtain⟨b,off,e,_⟩:=hsrc.out j hj
   cases e
   refine Vc (λi hi=>?_) j u hu
   obtain⟨b',off',e',hc⟩:=hsrc.out i hi
   cases e'
   exact hc
  exact wpList_append_own _ hgd s x t ho base e i z 1 bytes ht hi hz hsize hby hzs oX v n xs hs hown.out ad m c ys hx (by rw[hm.out];omega) had h1 h63 hbytes hbase λv' w' h2 h3 _=>h v' w' h2 h3
 | none=>
  have hc:=hnil.out rfl
  have hys:ys=[]:=by
   cases ys with
   | nil=>rfl
   | cons y ys=>
    obtain⟨b,off,e,_⟩:=hsrc.out 0 sX
    cases e
  have hm0:m=0:=by rw[<-hm.out,hys];rfl
  subst hys hm0 hc
  exact wpList_append_own_none hgd s x t ho base e i 1 ht hi v n xs hs hown.out hx (h v w (by rw[List.append_nil];exact hown) (World.grownBy.refl _ _))
end
theorem MH(bs:List UInt8):∀ s:ByteArray,(bs.map λx=>(x.toNat:Int)).foldl (λr n=>r.push (UInt8.ofNat n.toNat)) s=⟨s.data++bs.toArray⟩:=by
 induction bs with
 | nil=>intro s;simp
 | cons b bs ih=>
  intro s
  rw[List.map_cons,List.foldl_cons,ih]
  simp[ByteArray.push]
theorem Nb{P:Program}{w:World}{b off:Nat}:∀ (ys:List Value),(∀ i,i<ys.length->w.cell? ⟨b,off+i,none⟩=ys[i]?)->(loadCells ⟨b,off,none⟩ ys.length).run P w=.ok ys.toArray w:=by
 intro ys h
 have h1:=run_firstCells_some (P:=P) w 1 ys.length ⟨b,off,none⟩ ys.length ys.length ys oX (Vc h)
 simpa[Builtin.firstCells] using h1
theorem PF{P:Program}{w:World}{src dst e:TypeId}{ao:Option Addr}{c:Nat}(bs:List UInt8)
  (hs:P.underlying src=some (.slice e)) (he:P.underlying e=some (.int .u8)) (hd:P.underlying dst=some .string) (h:RowB w ao bs) :
  (convert src dst (.slice ao bs.length c)).run P w=.ok (.string ⟨bs.toArray⟩) w:=by
 rw[run_convert_bytes_string w src dst e ao bs.length c hs he hd]
 cases ao with
 | none=>
  have:bs=[]:=by
   cases bs with
   | nil=>rfl
   | cons x xs=>
    obtain⟨b,off,e,_⟩:=h 0 sX
    cases e
  subst this
  rfl
 | some ad=>
  by_cases hb:bs=[]
  ·subst hb
   exact run_bytesToString (P:=P) w ad 0 c [] (by rfl)
  ·obtain⟨b,off,e,_⟩:=h 0 (List.length_pos_iff.2 hb)
   cases e
   have hl:=Nb (P:=P) (w:=w) (b:=b) (off:=off) (cB bs) (λi hi=>by
    rw[Zg] at hi
    obtain⟨b',off',e',hc⟩:=h i hi
    cases e'
    rw[hc];simp[cB,hi])
   rw[Zg] at hl
   have:=run_bytesToString (P:=P) w ⟨b,off,none⟩ bs.length c (bs.map λx=>(x.toNat:Int)) (by simpa[cB,Function.comp_def] using hl)
   rw[this,MH]
   simp[ByteArray.empty,ByteArray.emptyWithCapacity]
   rfl
def Drawn(w w':World):Prop:=∃ n,w'=w.drewN n
theorem Drawn.below{a b:World}(h:Drawn a b)(B:Nat):Below B a b:=by obtain⟨n,rfl⟩:=h;exact below_drewN bR n
theorem Kd{P:Program}{f:FuncId}{args:Array Value}{w:World}{n:Nat}{v:Value}
  (h:Calls P f args (w.drewN n) λe w'=>e=.returned v/\w.drewN n=w'):Calls P f args (w.drewN n) λe w''=>e=.returned v/\∃ m,w''=w.drewN m:=
 h.mono λ_ _ ⟨he,hm⟩=>⟨he,n,hm.symm⟩
structure ArgB (w:World) (a:Option Addr) (cap:Nat) (bs:List UInt8):Prop where
 len:bs.length<=cap
 most:cap<=maxLen
 nil:a=none->cap=0
 row:RowB w a bs
theorem ArgB.below{w w':World}{a:Option Addr}{cap:Nat}{bs:List UInt8}(h:ArgB w a cap bs)(hb:Below w.heap.size w w'):ArgB w' a cap bs:=⟨h.len,h.most,h.nil,h.row.below hb⟩
section
open Go.ChangeShapes
variable {H:Type} {enc:TypeId×Value->H} {P:Program} {w:World}
end
section
variable {P:Program} {ops:Array Oper} {Q:Exit->Act->World->Prop} {md:Region.Mode}
theorem VP{S S':World->Prop}(h:∀ w,S' w->S w):∀ (fuel:Nat) (listed:Array Bool) (a:Act) (w:World),wpAnyH P md ops Q S' fuel listed a w->wpAnyH P md ops Q S fuel listed a w
 | 0,_,_,_,hh=>hh
 | fuel+1,_,_,_,hh=>⟨hh.1,λi hi=>wpOp_mono (λa' w' h'=>⟨h _ h'.1,VP h fuel _ a' w' h'.2⟩) (hh.2 i hi)⟩
abbrev Grown (w0 W:World):Prop:=Below w0.heap.size w0 W
theorem Grown.refl(w:World):Grown w w:=Below.refl _ _
theorem Grown.trans{a b c:World}(h:Grown a b)(h':Grown b c):Grown a c:=Below.trans h (h'.mono h.size)
theorem Grown.drew{a b:World}(h:Grown a b):Grown a b.drew:=Below.trans h (Drawn.below ⟨1,rfl⟩ _)
theorem Grown.alloc{a b:World}(h:Grown a b)(o:Obj):Grown a (b.alloc o):=Below.alloc h h.size o
theorem Qv{w0 w1:World}{fuel:Nat}{listed:Array Bool}{a:Act}(h:Grown w0 w1)(hh:Grown w1 w1->wpAnyH P md ops Q (Grown w1) fuel listed a w1):wpAnyH P md ops Q (Grown w0) fuel listed a w1:=
 VP (λ_ h'=>h.trans h') _ _ _ _ (hh (Grown.refl w1))
theorem J6{id:Nat}{a:Act}{w:World}(hm:P.follows .mixedOrders=true)
  (h:Grown w w.drew->wpAnyH P .any ops Q (Grown w) ops.size (Array.replicate ops.size false) a w.drew):(Code.region id ops true).wp P Q a w:=
 wp_region_held_drew hm (Grown.drew (Grown.refl w)) h
theorem G5{id:Nat}{a:Act}{w:World}(hm:P.follows .mixedOrders=true)
  (h:∀ wd,Grown w wd->wpAnyH P .any ops Q (Grown w) ops.size (Array.replicate ops.size false) a wd):(Code.region id ops true).wp P Q a w:=
 wp_region_held_drew hm (Grown.drew (Grown.refl w)) (λh0=>h _ h0)
theorem ZC{K:Act->World->Prop}{w:World}{a:Act}{c:Array Value}{t:TypeId}{fz:Nat×Nat}(h:∀ w',Hid (w'.heap[w.heap.size]? = some (.cells c t fz))->Grown w w'->K a w'):K a (w.alloc (.cells c t fz)):=
 h _ (show _=_ from heap_alloc_new w _) (Grown.alloc (Grown.refl w) _)
end
theorem sL{α:Type}(l:List α)(i:Nat)(a:α):l.toArray.setIfInBounds i a=(l.set i a).toArray:=List.setIfInBounds_toArray ..
theorem sZ{α:Type}{a:α}{as:List α}{b:α}:(a::as).set 0 b=b::as:=rfl
theorem sS{α:Type}{a:α}{as:List α}{n:Nat}{b:α}:(a::as).set (n+1) b=a::as.set n b:=rfl
theorem Hd{p:Prop}(h:p):Hid p:=Lib.hid h
section
variable {P:Program} {ops:Array Oper} {Q:Exit->Act->World->Prop} {S:World->Prop} {md:Region.Mode} {fuel:Nat} {listed:Array Bool} {a a':Act} {w:World}
theorem tk(i:Nat){oi:Oper}{v:Value}(hS:S w)(h:wpAnyH P md ops Q S fuel (listed.setIfInBounds i true) a' w)
  (hi:ops[i]? = some oi:=by(simp only[List.getElem?_toArray,List.getElem?_cons_succ,List.getElem?_cons_zero];rfl)) (hs:Region.noSelect ops=true:=by kernel_rfl) (hf:Region.free md ops listed i=true:=by kernel_rfl) (hr:(Region.ready md ops listed).contains i=true:=by kernel_rfl)
  (hQ:∀ c a w,Q (.panic c) (a.put oi.dst v) w->Q (.panic c) a w:=by exact λ_ _ _ h=>h) (hy:YieldsIf P ops S oi v a:=by exact Or.inl ⟨by rfl,by(intro W hSW;go_simp;try with_reducible rfl)⟩)
  (ha:a.put oi.dst v=a':=by((try simp only[Act.put,List.setIfInBounds_toArray,List.set_cons_zero,List.set_cons_succ]);rfl)):wpAnyH P md ops Q S (fuel+1) listed a w:=
 wpAnyH_take hi hs hf hr hQ hy hS (ha▸h)
theorem rd(i:Nat){o:Oper}(h:∀ K':Act->World->Prop,Shut (∀ a w,S w->(S w->wpAnyH P md ops Q S fuel (listed.setIfInBounds i true) a w)->K' a w)->if Region.wanted o (yielded ops a.tmps)=true then Oper.wp P o a w K' Q else K' (a.put o.dst undef) w)
  (hr:Region.ready md ops listed=[i]:=by kernel_rfl) (ho:ops[i]? = some o:=by(simp only[List.getElem?_toArray,List.getElem?_cons_succ,List.getElem?_cons_zero];rfl)):wpAnyH P md ops Q S (fuel+1) listed a w:=
 wpAnyH_ready hr sX (AllReadyH.cons ho h AllReadyH.nil)
theorem rds(rs:List Nat)(h:AllReadyH P md ops Q S fuel listed a w rs)(hr:Region.ready md ops listed=rs:=by kernel_rfl)(hne:rs≠[]:=by simp):wpAnyH P md ops Q S (fuel+1) listed a w:=wpAnyH_ready hr hne h
theorem ac{i:Nat}{o:Oper}{rs:List Nat}(h:∀ K':Act->World->Prop,Shut (∀ a w,S w->(S w->wpAnyH P md ops Q S fuel (listed.setIfInBounds i true) a w)->K' a w)->if Region.wanted o (yielded ops a.tmps)=true then Oper.wp P o a w K' Q else K' (a.put o.dst undef) w)
  (hs:AllReadyH P md ops Q S fuel listed a w rs) (ho:ops[i]? = some o:=by(simp only[List.getElem?_toArray,List.getElem?_cons_succ,List.getElem?_cons_zero];rfl)):AllReadyH P md ops Q S fuel listed a w (i::rs):=AllReadyH.cons ho h hs
theorem acI(i:Nat){o:Oper}{rs:List Nat}(h:∀ K':Act->World->Prop,Shut (∀ a w,S w->(S w->wpAnyH P md ops Q S fuel (listed.setIfInBounds i true) a w)->K' a w)->if Region.wanted o (yielded ops a.tmps)=true then Oper.wp P o a w K' Q else K' (a.put o.dst undef) w)
  (hs:AllReadyH P md ops Q S fuel listed a w rs) (ho:ops[i]? = some o:=by(simp only[List.getElem?_toArray,List.getElem?_cons_succ,List.getElem?_cons_zero];rfl)):AllReadyH P md ops Q S fuel listed a w (i::rs):=AllReadyH.cons ho h hs
theorem tkK(i:Nat){oi:Oper}{v:Value}(hS:S w)(h:wpAnyH P md ops Q S fuel (listed.setIfInBounds i true) a' w)
  (hf:Region.free md ops listed i=true:=by decide +kernel) (hr:(Region.ready md ops listed).contains i=true:=by decide +kernel) (hi:ops[i]? = some oi:=by(simp only[List.getElem?_toArray,List.getElem?_cons_succ,List.getElem?_cons_zero];rfl)) (hs:Region.noSelect ops=true:=by kernel_rfl)
  (hQ:∀ c a w,Q (.panic c) (a.put oi.dst v) w->Q (.panic c) a w:=by exact λ_ _ _ h=>h) (hy:YieldsIf P ops S oi v a:=by exact Or.inl ⟨by rfl,by(intro W hSW;go_simp;try with_reducible rfl)⟩)
  (ha:a.put oi.dst v=a':=by((try simp only[Act.put,List.setIfInBounds_toArray,List.set_cons_zero,List.set_cons_succ]);rfl)):wpAnyH P md ops Q S (fuel+1) listed a w:=
 wpAnyH_take hi hs hf hr hQ hy hS (ha▸h)
theorem rdK(i:Nat){o:Oper}(h:∀ K':Act->World->Prop,Shut (∀ a w,S w->(S w->wpAnyH P md ops Q S fuel (listed.setIfInBounds i true) a w)->K' a w)->if Region.wanted o (yielded ops a.tmps)=true then Oper.wp P o a w K' Q else K' (a.put o.dst undef) w)
  (hr:Region.ready md ops listed=[i]:=by decide +kernel) (ho:ops[i]? = some o:=by(simp only[List.getElem?_toArray,List.getElem?_cons_succ,List.getElem?_cons_zero];rfl)):wpAnyH P md ops Q S (fuel+1) listed a w:=
 wpAnyH_ready hr sX (AllReadyH.cons ho h AllReadyH.nil)
theorem QY(rs:List Nat)(h:AllReadyH P md ops Q S fuel listed a w rs)(hr:Region.ready md ops listed=rs:=by decide +kernel)(hne:rs≠[]:=by simp):wpAnyH P md ops Q S (fuel+1) listed a w:=wpAnyH_ready hr hne h
theorem dnE(h:Q .normal a w)(hr:Region.ready md ops listed=[]:=by kernel_rfl):wpAnyH P md ops Q S fuel listed a w:=wpAnyH_done hr h fuel
end
theorem wL{P:Program}{ops:Array Oper}{Q:Exit->Act->World->Prop}(o:Op){d:Option Tmp}{t:TypeId}{p:String}{af:Array Edge}{g:Option (Nat×Bool)}{r:List Oper}{a:Act}{w:World}(h:wpList P ops Q (Oper.mk d o t p af g::r) a w):wpList P ops Q (Oper.mk d o t p af g::r) a w:=h
theorem Vu{α:Type}{A B C:List α}{o n:Nat}(hA:A.length=o)(hB:B.length=n):((A++(B++C)).drop o).take n=B:=by
 subst hA hB
 rw[List.drop_left,List.take_left]
theorem Gp{α β:Type}{g:α->Option β}{h:α->β}:∀ l:List α,(∀ i∈l,g i=some (h i))->l.mapM g=some (l.map h)
 | [],_=>rfl
 | x::l,hl=>by
  rw[List.mapM_cons,hl x (List.mem_cons_self ..),Gp l (λi hi=>hl i (List.mem_cons_of_mem _ hi))]
  rfl
theorem KI{α β γ:Type}(k:α->γ)(g:γ->Option β):∀ l:List α,l.mapM (λx=>g (k x))=(l.map k).mapM g
 | []=>rfl
 | x::l=>by rw[List.mapM_cons,List.map_cons,List.mapM_cons,KI k g l]
section
variable {P:Program}
theorem Jt{d:Nat}{t:TypeId}{fs:Array Field}{cs:List Value}{qs:List (TypeId×Nat)}{ls:List (List Lit)}(ht:P.underlying t=some (.struct fs))(hq:fs.toList.map (λf=>(f.type,f.offset))=qs)(hn:fs.all (·.name != "_")=true)
  (hl:cs.length=P.cellsOf t) (h:qs.mapM (λq=>P.keyLits d q.1 ((cs.drop q.2).take (P.cellsOf q.1)))=some ls):P.keyLits (d+1) t cs=some ls.flatten:=by
 unfold Program.keyLits
 simp only[ht]
 rw[if_pos ⟨hl,hn⟩,KI (λf:Field=>(f.type,f.offset)) (λq=>P.keyLits d q.1 ((cs.drop q.2).take (P.cellsOf q.1))),hq,h]
 rfl
theorem Xt{d:Nat}{t:TypeId}{k:IntKind}{n:Int}(ht:P.underlying t=some (.int k))(h:(Lit.int k n).wf=true):P.keyLits (d+1) t [.int k n]=some [.int k n]:=by
 unfold Program.keyLits
 simp[ht,h]
theorem UL{d:Nat}{t:TypeId}{s:ByteArray}(ht:P.underlying t=some .string)(h:s.size<=maxLen):P.keyLits (d+1) t [.string s]=some [.string s.data.toList]:=by
 unfold Program.keyLits
 simp[ht,h]
theorem Mv{d:Nat}{t:TypeId}{b:Bool}(ht:P.underlying t=some .bool):P.keyLits (d+1) t [.bool b]=some [.bool b]:=by
 unfold Program.keyLits
 simp[ht]
theorem D6(x:UInt8):(Lit.int .u8 (x.toNat:Int)).wf=true:=by
 have:=x.toNat_lt
 simp[Lit.wf,IntKind.min,IntKind.max,IntKind.signed,IntKind.bits]
 omega
def Q4(f:List UInt8):List Lit:=f.map λx=>.int .u8 (x.toNat:Int)
theorem Je{f g:List UInt8}(h:Q4 f=Q4 g):f=g:=by
 induction f generalizing g with
 | nil=>cases g with
  | nil=>rfl
  | cons y g=>cases h
 | cons x f ih=>cases g with
  | nil=>cases h
  | cons y g=>
   simp only[Q4,List.map_cons,List.cons.injEq,Lit.int.injEq,true_and] at h
   have:x=y:=UInt8.toNat.inj oX
   rw[this,ih h.2]
theorem VQ{d n:Nat}{t e:TypeId}(ht:P.underlying t=some (.array n e))(he:P.underlying e=some (.int .u8))(hce:P.cellsOf e=1)(hct:P.cellsOf t=n)(f:List UInt8)(hf:f.length=n):P.keyLits (d+2) t (cB f)=some (Q4 f):=by
 unfold Program.keyLits
 simp only[ht]
 rw[if_pos (by rw[Zg,hct,hf]),hce]
 have h:=Gp (g:=λi=>P.keyLits (d+1) e (((cB f).drop (i*1)).take 1)) (h:=λi=>[Lit.int .u8 ((f.getD i 0).toNat:Int)]) (List.range n) (λi hi=>by
  have hi':i<f.length:=by rw[hf];simpa using hi
  have:((cB f).drop (i*1)).take 1=[.int .u8 ((f.getD i 0).toNat:Int)]:=by
   rw[Nat.mul_one,List.drop_eq_getElem_cons (by rw[Zg];exact hi')]
   simp[cB,hi']
  rw[this]
  exact Xt he (D6 _))
 rw[h]
 simp only[Option.map_some,Option.some.injEq]
 rw[<-List.flatMap_def]
 apply List.ext_getElem?
 intro j
 have:(List.range n).flatMap (λi=>[Lit.int .u8 ((f.getD i 0).toNat:Int)])=(List.range n).map λi=>Lit.int .u8 ((f.getD i 0).toNat:Int):=by
  exact List.map_eq_flatMap.symm
 rw[this]
 unfold Q4
 by_cases hj:j<n
 ·simp[hj,hf]
 ·simp[hj,hf]
theorem Vj{w:World}{t:TypeId}(hk:P.keyTypeAt 6 t=true){d:Nat}{xs ys:Array Value}{la lb:List Lit}(hx:P.keyLits d t xs.toList=some la)(hy:P.keyLits d t ys.toList=some lb)(fx:(Value.agg xs).formed P t=true)(fy:(Value.agg ys).formed P t=true) :
  ∃ r:Bool,(r=true↔la=lb)/\(binOp .eql t (.agg xs) (.agg ys)).run P w=.ok (.bool r) w/\(binOp .neq t (.agg xs) (.agg ys)).run P w=.ok (.bool (!r)) w:=by
 have h:=run_equalIn_deep (P:=P) 9994 6 t hk
 obtain⟨r,hr,hiff⟩:=h w d d (.agg xs) (.agg ys) la lb fx fy (by simpa[Value.cells] using hx) (by simpa[Value.cells] using hy)
 refine⟨r,hiff,?_,?_⟩
 ·rw[run_eql_struct,show (10000:Nat)=9994+6 from rfl,hr];rfl
 ·rw[run_neq_struct,show (10000:Nat)=9994+6 from rfl,hr];rfl
theorem Q6{t:TypeId}{d:TypeDesc}{xs:Array Value}(ht:P.underlying t=some d)(hd:(match d with | .struct _ | .array _ _=>true|_=>false)=true)(hs:xs.size=P.cellsOf t):(Value.agg xs).formed P t=true:=by
 cases d<;>simp at hd<;>simp[Value.formed,ht,hs]
end
structure P6 where
 s:Int
 n:Int
 k:Int
 d:Int
 t:Int
 r:Int
deriving DecidableEq
abbrev inI (x:Int):Prop := -9223372036854775808<=x/\x<=9223372036854775807
theorem K9{x:Int}(h:inI x):(Lit.int .i64 x).wf=true:=by
 have:=h
 unfold inI at this
 simp[Lit.wf,IntKind.min,IntKind.max,IntKind.signed,IntKind.bits]
 omega
def P6.list(p:P6):List Value:=[.int .i64 p.s,.int .i64 p.n,.int .i64 p.k,.int .i64 p.d,.int .i64 p.t,.int .i64 p.r]
def P6.lits(p:P6):List Lit:=[.int .i64 p.s,.int .i64 p.n,.int .i64 p.k,.int .i64 p.d,.int .i64 p.t,.int .i64 p.r]
def P6.Ok(p:P6):Prop:=inI p.s/\inI p.n/\inI p.k/\inI p.d/\inI p.t/\inI p.r
theorem P6.lits_inj{p q:P6}(h:p.lits=q.lits):p=q:=by
 cases p;cases q
 simpa[P6.lits] using h
section
variable {P:Program}
theorem U7{t i64:TypeId}{fs:Array Field}(ht:P.underlying t=some (.struct fs))(hq:fs.toList.map (λf=>(f.type,f.offset))=[(i64,0),(i64,1),(i64,2),(i64,3),(i64,4),(i64,5)])(hn:fs.all (·.name != "_")=true)(hi:P.underlying i64=some (.int .i64))(ci:P.cellsOf i64=1)(ct:P.cellsOf t=6)
  (p:P6) (hp:p.Ok) (d:Nat):P.keyLits (d+2) t p.list=some p.lits:=by
 obtain⟨h1,h2,h3,h4,h5,h6⟩:=hp
 have e:=λ(n:Int) (h:inI n)=>Xt (d:=d) hi (K9 h)
 refine Jt (ls:=[[.int .i64 p.s],[.int .i64 p.n],[.int .i64 p.k],[.int .i64 p.d],[.int .i64 p.t],[.int .i64 p.r]]) ht hq hn (by rw[ct];rfl) ?_
 simp only[List.mapM_cons,List.mapM_nil,ci,P6.list,List.drop_zero,List.drop_succ_cons,List.take_succ_cons,List.take_zero,e _ h1,e _ h2,e _ h3,e _ h4,e _ h5,e _ h6,Option.bind_eq_bind,Option.bind_some,Option.pure_def]
end
def XM(w:World)(v v':Value):Prop:=∀ k,v'.ownBlock=some k->v.ownBlock=some k\/w.heap.size<=k
structure Only (D:Nat->Prop) (w w':World):Prop where
 os:w'.os=w.os
 tape:w'.tape=w.tape
 output:w'.output=w.output
 size:w.heap.size<=w'.heap.size
 block:∀ k,k<w.heap.size->¬D k->w'.heap[k]? = w.heap[k]?
theorem Only.refl(D:Nat->Prop)(w:World):Only D w w:=⟨rfl,rfl,rfl,Nat.le_refl _,λ_ _ _=>rfl⟩
theorem Only.mono{D E:Nat->Prop}{w w':World}(h:Only D w w')(hd:∀ k,k<w.heap.size->D k->E k):Only E w w':=
 ⟨h.os,h.tape,h.output,h.size,λk hk hn=>h.block k hk λhD=>hn (hd k hk hD)⟩
theorem Only.trans{D E:Nat->Prop}{a b c:World}(h:Only D a b)(h':Only E b c)(hd:∀ k,k<a.heap.size->E k->D k):Only D a c:=
 ⟨h'.os.trans h.os,h'.tape.trans h.tape,h'.output.trans h.output,Nat.le_trans h.size h'.size,λk hk hn=>(h'.block k (Nat.lt_of_lt_of_le hk h.size) λhE=>hn (hd k hk hE)).trans (h.block k hk hn)⟩
theorem Only.ofBelow{D:Nat->Prop}{w w':World}(h:Below w.heap.size w w'):Only D w w':=
 ⟨h.os,h.tape,h.output,h.size,λk hk _=>h.block k hk⟩
theorem Only.ofGrown{D:Nat->Prop}{w w':World}{row:Option Nat}(h:w.grownBy w' row)(hd:∀ k,row=some k->D k):Only D w w':=
 ⟨h.os,h.tape,h.output,h.size,λk hk hn=>h.block k hk λe=>hn (hd k e.symm)⟩
theorem Only.ofUpd{D:Nat->Prop}{b:Nat}{o:Obj}{w w':World}(h:Upd b o w w')(hd:D b):Only D w w':=
 ⟨h.os,h.tape,h.output,Nat.le_of_eq h.size.symm,λk _ hn=>h.block k λe=>hn (e▸hd)⟩
theorem Only.drew{D:Nat->Prop}{w w':World}(h:Only D w w'):Only D w w'.drew:=⟨h.os,h.tape,h.output,h.size,h.block⟩
theorem Only.setCell{D:Nat->Prop}{w w':World}(h:Only D w w')(a:Addr)(u:Value)(hd:a.block<w.heap.size->D a.block):Only D w (w'.setCell a u):=
 ⟨h.os,h.tape,h.output,by simpa[World.setCell] using h.size,λk hk hn=>(Below.heap_setCell _ _ _ _ (by rintro rfl;exact hn (hd hk))).trans (h.block k hk hn)⟩
theorem Only.below{D:Nat->Prop}{w w':World}{B:Nat}(h:Only D w w')(hB:B<=w.heap.size)(hd:∀ k,D k->B<=k):Below B w w':=
 ⟨h.os,h.tape,h.output,h.size,λk hk=>h.block k oX λhD=>by have:=hd k hD;omega⟩
theorem Only.owns{D:Nat->Prop}{w w':World}{base:Nat}{e:TypeId}{s n:Nat}{v:Value}{xs:List Value}(h:Only D w w')(ho:w.ownsRow base e s v n xs)(hd:∀ k,v.ownBlock=some k->¬D k):w'.ownsRow base e s v n xs:=by
 refine⟨ho.1,?_⟩
 rcases ho.2 with h2|⟨g,cap,cur,e1,e2,e3,e4⟩
 ·exact .inl h2
 ·subst e1
  exact .inr ⟨g,cap,cur,rfl,e2,(h.block g (Zb e3) (hd g rfl)).trans e3,e4⟩
theorem Only.heap{D:Nat->Prop}{w w':World}{b:Nat}{o:Obj}(h:Only D w w')(hb:w.heap[b]? = some o)(hd:¬D b):w'.heap[b]? = some o:=(h.block b (Zb hb) hd).trans hb
theorem Only.argB{D:Nat->Prop}{w w':World}{a:Option Addr}{cap:Nat}{bs:List UInt8}(h:Only D w w')(ha:ArgB w a cap bs)(hd:∀ b o,a=some ⟨b,o,none⟩->¬D b):ArgB w' a cap bs:=by
 refine⟨ha.len,ha.most,ha.nil,λi hi=>?_⟩
 obtain⟨b,o,rfl,hc⟩:=ha.row i hi
 have hlt:b<w.heap.size:=World.block_lt_of_cell? w _ hc
 exact⟨b,o,rfl,(World.cell?_of_block (w:=w) (w':=w') (a:=⟨b,o+i,none⟩) (h.block b hlt (hd b o rfl))).trans hc⟩
theorem P4{w:World}{base base':Nat}{e:TypeId}{s n:Nat}{v:Value}{xs:List Value}(ho:w.ownsRow base e s v n xs)(hb:base'<=base):w.ownsRow base' e s v n xs:=by
 refine⟨ho.1,?_⟩
 rcases ho.2 with h2|⟨g,cap,cur,e1,e2,e3⟩
 ·exact .inl h2
 ·exact .inr ⟨g,cap,cur,e1,oX,e3⟩
end Go.Proofs.YtpdhceiodgnbmaaGreatDoor
