import Derived.Test.YtpdhceiodgnbmaaGreatDoorF0KeepsSaid
import Derived.WalkSpells
import Derived.WalkLawsBesides
import Derived.BigQuiet
import Derived.Laws.AppendOwnNone
import Derived.Deep.RegionHeld3
import Derived.RangeFuncBox
import Derived.RangeFuncCalls
import Derived.Shelf.Abstract
import Derived.OwnWalkIn
import Derived.TacticsInMore
import Derived.LoopNIn
import Derived.LoopIn
import Derived.Test.YtpdhceiodgnbmaaGreatDoorRows
import Derived.Lib.LazyBuf
set_option linter.all false
set_option maxRecDepth 100000
set_option maxHeartbeats 8000000
namespace Go.Proofs.YtpdhceiodgnbmaaGreatDoor
section
open Go.RowKit
structure ag (b:Nat) (o:Obj) (w w':World):Prop where
 os:w'.os=w.os
 tape:w'.tape=w.tape
 output:w'.output=w.output
 size:w'.heap.size=w.heap.size
 block:∀ k,k≠b->w'.heap[k]? = w.heap[k]?
 here:w'.heap[b]? = some o
theorem ag.refl{b:Nat}{o:Obj}{w:World}(h:w.heap[b]? = some o):ag b o w w:=⟨rfl,rfl,rfl,rfl,λ_ _=>rfl,h⟩
theorem ag.below{b B:Nat}{o:Obj}{w w':World}(h:ag b o w w')(hb:B<=b):Below B w w':=
 ⟨h.os,h.tape,h.output,by rw[h.size];exact Nat.le_refl _,λk hk=>h.block k aB⟩
theorem ag.trans{b:Nat}{o o':Obj}{w w1 w2:World}(h:ag b o w w1)(h':ag b o' w1 w2):ag b o' w w2:=
 ⟨h'.os.trans h.os,h'.tape.trans h.tape,h'.output.trans h.output,h'.size.trans h.size,λk hk=>(h'.block k hk).trans (h.block k hk),h'.here⟩
theorem ag.drew{b:Nat}{o:Obj}{w w':World}(h:ag b o w w'):ag b o w w'.drew:=
 ⟨h.os,h.tape,h.output,h.size,h.block,h.here⟩
theorem ag.setCell{b j:Nat}{cs:Array Value}{t:TypeId}{fz:Nat×Nat}{w w':World}(h:ag b (.cells cs t fz) w w')(v:Value) :
  ag b (.cells (cs.setIfInBounds j v) t fz) w (w'.setCell ⟨b,j,none⟩ v):=by
 refine⟨h.os,h.tape,h.output,?_,?_,?_⟩
 ·simp[World.setCell,h.size]
 ·intro k hk;rw[Below.heap_setCell _ _ _ _ (by simpa using hk)];exact h.block k hk
 ·have hh:=h.here;simp only[World.setCell,Array.getElem?_modify,if_true];rw[hh];rfl
theorem ag.to{b:Nat}{o o':Obj}{w w':World}(h:ag b o w w')(e:o=o'):ag b o' w w':=e▸h
theorem Za{w:World}{b:Nat}{cs:Array Value}{t:TypeId}{fz:Nat×Nat}(h:w.heap[b]? = some (.cells cs t fz))(j:Nat):w.cell? ⟨b,j,none⟩=cs[j]? := by
 simp[World.cell?,h]
theorem Zg{w:World}{b:Nat}{cs:Array Value}{t:TypeId}(h:w.heap[b]? = some (.cells cs t (0,0)))(j:Nat):w.frozen? ⟨b,j,none⟩=false:=by
 simp[World.frozen?,h]
theorem Zb{w:World}{b:Nat}{o:Obj}(h:w.heap[b]? = some o):b<w.heap.size:=by
 rcases Nat.lt_or_ge b w.heap.size with h'|h'
 ·exact h'
 ·simp[Array.getElem?_eq_none h'] at h
theorem Ko{w w':World}{o:Obj}{row:Option Nat}(h:(w.alloc o).grownBy w' row):w.grownBy w' row:=
 ⟨h.os,h.tape,h.output,Nat.le_trans sX h.size,λk hk hr=>(h.block k bf hr).trans (Below.heap_alloc _ _ _ hk)⟩
theorem Uz{P:Program}{w:World}{ops:Array Oper}{rest:List Oper}{o:Oper}{a:Act}{Q:Exit->Act->World->Prop}(hgd:o.guard=none)(s x:Operand)(t:TypeId)
  (ho:o.op=.call { callee:=.builtin .append,args:=#[s,x],argTypes:=#[t,t] })
  (base:Nat) (e:TypeId) (i:TypeInfo) (z:Value) (bytes:Nat) (ht:P.underlying t=some (.slice e)) (hi:P.info? e=some i) (hz:i.zero=some z)
  (hsize:i.size=1) (hby:i.bytes=bytes) (hzs:z.cells.size=1)
  (v:Value) (n:Nat) (xs:List Value) (hs:a.eval s=v) (hown:Hid (w.ownsRow base e 1 v n xs))
  (u:Value) (hx:a.eval x=.slice (some ⟨w.heap.size,0,none⟩) 1 1) (h1:u.oneCell'=true)
  (h63:n+1<=maxLen) (hbytes:(n+1)*bytes<=140737488355328) (hbase:base<=w.heap.size)
  (h:∀ v' w',Hid (w'.ownsRow base e 1 v' (n+1) (xs++[u]))->Hid (w.grownBy w' v.ownBlock)->Hid (v'≠.slice none 0 0)->wpList P ops Q rest (a.put o.dst v') w') :
  wpList P ops Q (o::rest) a (w.alloc (.cells #[u] e)):=
 wpList_append_own _ hgd s x t ho base e i z 1 bytes ht hi hz hsize hby hzs aB v n xs hs (World.ownsRow.alloc hown.out _) ⟨w.heap.size,0,none⟩ 1 1 [u] hx rfl (cell_one_new _ _ _)
  (by intro y hy;simp at hy;subst hy;exact h1) h63 hbytes bf λv' w' h2 h3 h4=>h v' w' h2 (Ko h3) (λe=>by have:=h4.1 e;omega)
def ET(k:IntKind)(w:World)(a:Option Addr)(zs:List Int):Prop:=
 ∀ i,i<zs.length->∃ b off,a=some ⟨b,off,none⟩/\w.cell? ⟨b,off+i,none⟩=some (.int k (zs.getD i 0))
def oV(w:World)(a:Option Addr)(bs:List UInt8):Prop:=
 ∀ i,i<bs.length->∃ b off,a=some ⟨b,off,none⟩/\w.cell? ⟨b,off+i,none⟩=some (.int .u8 ((bs.getD i 0).toNat:Int))
theorem oV.below{w w':World}{a:Option Addr}{bs:List UInt8}(h:oV w a bs)(hb:Below w.heap.size w w'):oV w' a bs:=by
 intro i hi;obtain⟨b,off,rfl,hc⟩:=h i hi;exact⟨b,off,rfl,(hb.cell (World.block_lt_of_cell? w _ hc)).trans hc⟩
def At(w:World)(ao:Option Addr)(ys:List Value):Prop:=
 ∀ i,i<ys.length->∃ b off,ao=some ⟨b,off,none⟩/\w.cell? ⟨b,off+i,none⟩=ys[i]?
def cB(bs:List UInt8):List Value:=bs.map λx=>.int .u8 (x.toNat:Int)
def cI(zs:List Int):List Value:=zs.map λx=>.int .i64 x
theorem Zc(bs:List UInt8):(cB bs).length=bs.length:=by simp[cB]
theorem Kf(zs:List Int):(cI zs).length=zs.length:=by simp[cI]
theorem YI(a b:List UInt8):cB (a++b)=cB a++cB b:=by simp[cB]
theorem L0(a b:List Int):cI (a++b)=cI a++cI b:=by simp[cI]
theorem Zw(bs:List UInt8):∀ u∈cB bs,u.oneCell'=true:=by intro u hu;simp only[cB,List.mem_map] at hu;obtain⟨_,_,rfl⟩:=hu;rfl
theorem At.below{w w':World}{ao:Option Addr}{ys:List Value}(h:At w ao ys)(hb:Below w.heap.size w w'):At w' ao ys:=by
 intro i hi;obtain⟨b,off,rfl,hc⟩:=h i hi;refine⟨b,off,rfl,?_⟩;rw[List.getElem?_eq_getElem hi] at hc ⊢;exact(hb.cell (World.block_lt_of_cell? w _ hc)).trans hc
theorem At.ofB{w:World}{ao:Option Addr}{bs:List UInt8}(h:oV w ao bs):At w ao (cB bs):=by
 intro i hi;rw[Zc] at hi;obtain⟨b,off,rfl,hc⟩:=h i hi;exact⟨b,off,rfl,by rw[hc];simp[cB,hi]⟩
theorem At.toB{w:World}{ao:Option Addr}{bs:List UInt8}(h:At w ao (cB bs)):oV w ao bs:=by
 intro i hi;obtain⟨b,off,rfl,hc⟩:=h i (by rw[Zc];exact hi);exact⟨b,off,rfl,by rw[hc];simp[cB,hi]⟩
theorem At.toI{w:World}{ao:Option Addr}{zs:List Int}(h:At w ao (cI zs)):ET .i64 w ao zs:=by
 intro i hi;obtain⟨b,off,rfl,hc⟩:=h i (by rw[Kf];exact hi);exact⟨b,off,rfl,by rw[hc];simp[cI,hi]⟩
theorem At.take{w:World}{ao:Option Addr}{ys:List Value}(h:At w ao ys)(n:Nat):At w ao (ys.take n):=by
 intro i hi;have hi':i<n/\i<ys.length:=by simpa[Nat.lt_min] using hi
 obtain⟨b,off,rfl,hc⟩:=h i hi'.2;exact⟨b,off,rfl,by rw[hc];simp[hi'.1]⟩
theorem E0{w:World}{base:Nat}{e:TypeId}{g n cap:Nat}{xs:List Value}(h:w.ownsRow base e 1 (.slice (some ⟨g,0,none⟩) n cap) n xs):At w (some ⟨g,0,none⟩) xs:=by
 intro i hi;obtain⟨hx,h2⟩:=h;rcases h2 with ⟨h2,_⟩|⟨g',cap',cur,hv,hb,hg,hn,hcap,lU,htake⟩
 ·cases h2
 ·cases hv;refine⟨g,0,rfl,?_⟩;rw[Za hg,<-htake];have:i<n:=aB;simp[this]
theorem Hp{w:World}{base:Nat}{e:TypeId}{v:Value}{n:Nat}{xs:List Value}(h:w.ownsRow base e 1 v n xs) :
  ∃ a c,v=.slice a xs.length c/\(a=none->c=0)/\xs.length<=c/\c<=maxLen/\At w a xs/\xs.length=n/\∀ b o s,a=some ⟨b,o,s⟩->base<=b/\b<w.heap.size:=by
 have hx:=h.1;rcases h.2 with ⟨rfl,rfl⟩|⟨g,cap,cur,rfl,hb,hg,hn,hcap,lU,htake⟩
 ·have:xs=[]:=List.eq_nil_of_length_eq_zero (by simpa using hx);subst this;exact⟨none,0,rfl,λ_=>rfl,Nat.le_refl _,Nat.zero_le _,λi hi=>by simp at hi,rfl,λ_ _ _ h=>by cases h⟩
 ·have hl:xs.length=n:=aB;refine⟨some ⟨g,0,none⟩,cap,by rw[hl],λh=>(by cases h),aB,hcap,E0 h,hl,λb o s h=>?_⟩;cases h;exact⟨hb,Zb hg⟩
theorem Uc{w:World}{b off:Nat}{ys:List Value}(h:∀ i,i<ys.length->w.cell? ⟨b,off+i,none⟩=ys[i]?):∀ j u,ys[j]? = some u->w.cell? ((⟨b,off,none⟩:Addr).add j)=some u:=by
 intro j u hu;have hj:j<ys.length:=(List.getElem?_eq_some_iff.1 hu).1;have e1:(⟨b,off,none⟩:Addr).add j=⟨b,off+j,none⟩:=by unfold Addr.add;split<;>simp_all
 rw[e1,h j hj,hu]
section
variable {P:Program} {w:World} {ops:Array Oper} {rest:List Oper} {o:Oper} {a:Act} {Q:Exit->Act->World->Prop}
theorem UL(hgd:o.guard=none)(s x:Operand)(t:TypeId)
  (ho:o.op=.call { callee:=.builtin .append,args:=#[s,x],argTypes:=#[t,t] })
  (base:Nat) (e:TypeId) (i:TypeInfo) (z:Value) (bytes:Nat) (ht:P.underlying t=some (.slice e)) (hi:P.info? e=some i) (hz:i.zero=some z)
  (hsize:i.size=1) (hby:i.bytes=bytes) (hzs:z.cells.size=1)
  (v:Value) (n:Nat) (xs:List Value) (hs:a.eval s=v) (hown:Hid (w.ownsRow base e 1 v n xs))
  (ao:Option Addr) (m c:Nat) (ys:List Value) (hx:a.eval x=.slice ao m c) (hm:Hid (ys.length=m)) (hsrc:Hid (At w ao ys)) (hnil:Hid (ao=none->c=0)) (h1:∀ u∈ys,u.oneCell'=true)
  (h63:n+m<=maxLen) (hbytes:(n+m)*bytes<=140737488355328) (hbase:base<=w.heap.size)
  (h:∀ v' w',Hid (w'.ownsRow base e 1 v' (n+m) (xs++ys))->Hid (w.grownBy w' v.ownBlock)->wpList P ops Q rest (a.put o.dst v') w') :
  wpList P ops Q (o::rest) a w:=by
 cases ao with
 | some ad=>
  have had:∀ j u,ys[j]? = some u->w.cell? (ad.add j)=some u:=by
   intro j u hu;have hj:j<ys.length:=(List.getElem?_eq_some_iff.1 hu).1;obtain⟨b,off,e,_⟩:=hsrc.out j hj;cases e;refine Uc (λi hi=>?_) j u hu;obtain⟨b',off',e',hc⟩:=hsrc.out i hi;cases e';exact hc
  exact wpList_append_own _ hgd s x t ho base e i z 1 bytes ht hi hz hsize hby hzs aB v n xs hs hown.out ad m c ys hx (by rw[hm.out];omega) had h1 h63 hbytes hbase λv' w' h2 h3 _=>h v' w' h2 h3
 | none=>
  have hc:=hnil.out rfl;have hys:ys=[]:=by
   cases ys with
   | nil=>rfl
   | cons y ys=>
    obtain⟨b,off,e,_⟩:=hsrc.out 0 sX;cases e
  have hm0:m=0:=by rw[<-hm.out,hys];rfl
  subst hys hm0 hc;exact wpList_append_own_none hgd s x t ho base e i 1 ht hi v n xs hs hown.out hx (h v w (by rw[List.append_nil];exact hown) (World.grownBy.refl _ _))
end
theorem Rj(bs:List UInt8):∀ s:ByteArray,(bs.map λx=>(x.toNat:Int)).foldl (λr n=>r.push (UInt8.ofNat n.toNat)) s=⟨s.data++bs.toArray⟩:=by
 induction bs with
 | nil=>intro s;simp
 | cons b bs ih=>
  intro s;rw[List.map_cons,List.foldl_cons,ih];simp[ByteArray.push]
theorem HV{P:Program}{w:World}{b off:Nat}:∀ (ys:List Value),(∀ i,i<ys.length->w.cell? ⟨b,off+i,none⟩=ys[i]?)->(loadCells ⟨b,off,none⟩ ys.length).run P w=.ok ys.toArray w:=by
 intro ys h;have h1:=run_firstCells_some (P:=P) w 1 ys.length ⟨b,off,none⟩ ys.length ys.length ys aB (Uc h);simpa[Builtin.firstCells] using h1
theorem Cs{P:Program}{w:World}{src dst e:TypeId}{ao:Option Addr}{c:Nat}(bs:List UInt8)
  (hs:P.underlying src=some (.slice e)) (he:P.underlying e=some (.int .u8)) (hd:P.underlying dst=some .string) (h:oV w ao bs) :
  (convert src dst (.slice ao bs.length c)).run P w=.ok (.string ⟨bs.toArray⟩) w:=by
 rw[run_convert_bytes_string w src dst e ao bs.length c hs he hd];cases ao with
 | none=>
  have:bs=[]:=by
   cases bs with
   | nil=>rfl
   | cons x xs=>
    obtain⟨b,off,e,_⟩:=h 0 sX;cases e
  subst this;rfl
 | some ad=>
  by_cases hb:bs=[]
  ·subst hb;exact run_bytesToString (P:=P) w ad 0 c [] bT
  ·obtain⟨b,off,e,_⟩:=h 0 (List.length_pos_iff.2 hb);cases e;have hl:=HV (P:=P) (w:=w) (b:=b) (off:=off) (cB bs) (λi hi=>by
    rw[Zc] at hi;obtain⟨b',off',e',hc⟩:=h i hi;cases e';rw[hc];simp[cB,hi])
   rw[Zc] at hl;have:=run_bytesToString (P:=P) w ⟨b,off,none⟩ bs.length c (bs.map λx=>(x.toNat:Int)) (by simpa[cB,Function.comp_def] using hl);rw[this,Rj];simp[ByteArray.empty,ByteArray.emptyWithCapacity];rfl
def eP(w w':World):Prop:=∃ n,w'=w.drewN n
theorem eP.below{a b:World}(h:eP a b)(B:Nat):Below B a b:=by obtain⟨n,rfl⟩:=h;exact below_drewN bR n
theorem G0{P:Program}{f:FuncId}{args:Array Value}{w:World}{n:Nat}{v:Value}
  (h:Calls P f args (w.drewN n) λe w'=>e=.returned v/\w.drewN n=w'):Calls P f args (w.drewN n) λe w''=>e=.returned v/\∃ m,w''=w.drewN m:=
 h.mono λ_ _ ⟨he,hm⟩=>⟨he,n,hm.symm⟩
structure aJ (w:World) (a:Option Addr) (cap:Nat) (bs:List UInt8):Prop where
 len:bs.length<=cap
 most:cap<=maxLen
 nil:a=none->cap=0
 row:oV w a bs
theorem aJ.below{w w':World}{a:Option Addr}{cap:Nat}{bs:List UInt8}(h:aJ w a cap bs)(hb:Below w.heap.size w w'):aJ w' a cap bs:=⟨h.len,h.most,h.nil,h.row.below hb⟩
section
variable {P:Program} {ops:Array Oper} {Q:Exit->Act->World->Prop} {md:Region.Mode}
theorem UN{S S':World->Prop}(h:∀ w,S' w->S w):∀ (fuel:Nat) (listed:Array Bool) (a:Act) (w:World),wpAnyH P md ops Q S' fuel listed a w->wpAnyH P md ops Q S fuel listed a w
 | 0,_,_,_,hh=>hh
 | fuel+1,_,_,_,hh=>⟨hh.1,λi hi=>wpOp_mono (λa' w' h'=>⟨h _ h'.1,UN h fuel _ a' w' h'.2⟩) (hh.2 i hi)⟩
abbrev Grown (w0 W:World):Prop:=Below w0.heap.size w0 W
theorem Grown.refl(w:World):Grown w w:=Below.refl _ _
theorem Grown.trans{a b c:World}(h:Grown a b)(h':Grown b c):Grown a c:=Below.trans h (h'.mono h.size)
theorem Grown.drew{a b:World}(h:Grown a b):Grown a b.drew:=Below.trans h (eP.below ⟨1,rfl⟩ _)
theorem Grown.alloc{a b:World}(h:Grown a b)(o:Obj):Grown a (b.alloc o):=Below.alloc h h.size o
theorem Zz{w0 w1:World}{fuel:Nat}{listed:Array Bool}{a:Act}(h:Grown w0 w1)(hh:Grown w1 w1->wpAnyH P md ops Q (Grown w1) fuel listed a w1):wpAnyH P md ops Q (Grown w0) fuel listed a w1:=
 UN (λ_ h'=>h.trans h') _ _ _ _ (hh (Grown.refl w1))
theorem Hj{id:Nat}{a:Act}{w:World}(hm:P.follows .mixedOrders=true)
  (h:Grown w w.drew->wpAnyH P .any ops Q (Grown w) ops.size (Array.replicate ops.size false) a w.drew):(Code.region id ops true).wp P Q a w:=
 wp_region_held_drew hm (Grown.drew (Grown.refl w)) h
theorem JQ{id:Nat}{a:Act}{w:World}(hm:P.follows .mixedOrders=true)
  (h:∀ wd,Grown w wd->wpAnyH P .any ops Q (Grown w) ops.size (Array.replicate ops.size false) a wd):(Code.region id ops true).wp P Q a w:=
 wp_region_held_drew hm (Grown.drew (Grown.refl w)) (λh0=>h _ h0)
theorem Zp{K:Act->World->Prop}{w:World}{a:Act}{c:Array Value}{t:TypeId}{fz:Nat×Nat}(h:∀ w',Hid (w'.heap[w.heap.size]? = some (.cells c t fz))->Grown w w'->K a w'):K a (w.alloc (.cells c t fz)):=
 h _ (show _=_ from heap_alloc_new w _) (Grown.alloc (Grown.refl w) _)
end
theorem sL{α:Type}(l:List α)(i:Nat)(a:α):l.toArray.setIfInBounds i a=(l.set i a).toArray:=List.setIfInBounds_toArray ..
theorem sZ{α:Type}{a:α}{xs:List α}{b:α}:(a::xs).set 0 b=b::xs:=rfl
theorem sS{α:Type}{a:α}{xs:List α}{n:Nat}{b:α}:(a::xs).set (n+1) b=a::xs.set n b:=rfl
theorem Hd{p:Prop}(h:p):Hid p:=Lib.hid h
section
variable {P:Program} {ops:Array Oper} {Q:Exit->Act->World->Prop} {S:World->Prop} {md:Region.Mode} {fuel:Nat} {listed:Array Bool} {a a':Act} {w:World}
theorem tk(i:Nat){oi:Oper}{v:Value}(hS:S w)(h:wpAnyH P md ops Q S fuel (listed.setIfInBounds i true) a' w)
  (hi:ops[i]? = some oi:=by(simp only[List.getElem?_toArray,List.getElem?_cons_succ,List.getElem?_cons_zero];rfl)) (hs:Region.noSelect ops=true:=by kernel_rfl) (hf:Region.free md ops listed i=true:=by kernel_rfl) (hr:(Region.ready md ops listed).contains i=true:=by kernel_rfl)
  (hQ:∀ c a w,Q (.panic c) (a.put oi.dst v) w->Q (.panic c) a w:=by exact λ_ _ _ h=>h) (hy:YieldsIf P ops S oi v a:=by exact Or.inl ⟨by rfl,by(intro W hSW;go_simp;try with_reducible rfl)⟩)
  (ha:a.put oi.dst v=a':=by((try simp only[Act.put,List.setIfInBounds_toArray,List.set_cons_zero,List.set_cons_succ]);rfl)):wpAnyH P md ops Q S (fuel+1) listed a w:=
 wpAnyH_take hi hs hf hr hQ hy hS (ha▸h)
theorem rd(i:Nat){o:Oper}(h:∀ K':Act->World->Prop,Shut (∀ a w,S w->(S w->wpAnyH P md ops Q S fuel (listed.setIfInBounds i true) a w)->K' a w)->if Region.wanted o (yielded ops a.tmps)=true then Oper.wp P o a w K' Q else K' (a.put o.dst undef) w)
  (hr:Region.ready md ops listed=[i]:=by kernel_rfl) (ho:ops[i]? = some o:=by(simp only[List.getElem?_toArray,List.getElem?_cons_succ,List.getElem?_cons_zero];rfl)):wpAnyH P md ops Q S (fuel+1) listed a w:=
 wpAnyH_ready hr sX (AllReadyH.cons ho h AllReadyH.nil)
theorem fZ(rs:List Nat)(h:AllReadyH P md ops Q S fuel listed a w rs)(hr:Region.ready md ops listed=rs:=by kernel_rfl)(hne:rs≠[]:=by simp):wpAnyH P md ops Q S (fuel+1) listed a w:=wpAnyH_ready hr hne h
theorem ac{i:Nat}{o:Oper}{rs:List Nat}(h:∀ K':Act->World->Prop,Shut (∀ a w,S w->(S w->wpAnyH P md ops Q S fuel (listed.setIfInBounds i true) a w)->K' a w)->if Region.wanted o (yielded ops a.tmps)=true then Oper.wp P o a w K' Q else K' (a.put o.dst undef) w)
  (hs:AllReadyH P md ops Q S fuel listed a w rs) (ho:ops[i]? = some o:=by(simp only[List.getElem?_toArray,List.getElem?_cons_succ,List.getElem?_cons_zero];rfl)):AllReadyH P md ops Q S fuel listed a w (i::rs):=AllReadyH.cons ho h hs
theorem lV(i:Nat){o:Oper}{rs:List Nat}(h:∀ K':Act->World->Prop,Shut (∀ a w,S w->(S w->wpAnyH P md ops Q S fuel (listed.setIfInBounds i true) a w)->K' a w)->if Region.wanted o (yielded ops a.tmps)=true then Oper.wp P o a w K' Q else K' (a.put o.dst undef) w)
  (hs:AllReadyH P md ops Q S fuel listed a w rs) (ho:ops[i]? = some o:=by(simp only[List.getElem?_toArray,List.getElem?_cons_succ,List.getElem?_cons_zero];rfl)):AllReadyH P md ops Q S fuel listed a w (i::rs):=AllReadyH.cons ho h hs
theorem tkK(i:Nat){oi:Oper}{v:Value}(hS:S w)(h:wpAnyH P md ops Q S fuel (listed.setIfInBounds i true) a' w)
  (hf:Region.free md ops listed i=true:=by decide +kernel) (hr:(Region.ready md ops listed).contains i=true:=by decide +kernel) (hi:ops[i]? = some oi:=by(simp only[List.getElem?_toArray,List.getElem?_cons_succ,List.getElem?_cons_zero];rfl)) (hs:Region.noSelect ops=true:=by kernel_rfl)
  (hQ:∀ c a w,Q (.panic c) (a.put oi.dst v) w->Q (.panic c) a w:=by exact λ_ _ _ h=>h) (hy:YieldsIf P ops S oi v a:=by exact Or.inl ⟨by rfl,by(intro W hSW;go_simp;try with_reducible rfl)⟩)
  (ha:a.put oi.dst v=a':=by((try simp only[Act.put,List.setIfInBounds_toArray,List.set_cons_zero,List.set_cons_succ]);rfl)):wpAnyH P md ops Q S (fuel+1) listed a w:=
 wpAnyH_take hi hs hf hr hQ hy hS (ha▸h)
theorem lW(i:Nat){o:Oper}(h:∀ K':Act->World->Prop,Shut (∀ a w,S w->(S w->wpAnyH P md ops Q S fuel (listed.setIfInBounds i true) a w)->K' a w)->if Region.wanted o (yielded ops a.tmps)=true then Oper.wp P o a w K' Q else K' (a.put o.dst undef) w)
  (hr:Region.ready md ops listed=[i]:=by decide +kernel) (ho:ops[i]? = some o:=by(simp only[List.getElem?_toArray,List.getElem?_cons_succ,List.getElem?_cons_zero];rfl)):wpAnyH P md ops Q S (fuel+1) listed a w:=
 wpAnyH_ready hr sX (AllReadyH.cons ho h AllReadyH.nil)
theorem Xi(rs:List Nat)(h:AllReadyH P md ops Q S fuel listed a w rs)(hr:Region.ready md ops listed=rs:=by decide +kernel)(hne:rs≠[]:=by simp):wpAnyH P md ops Q S (fuel+1) listed a w:=wpAnyH_ready hr hne h
theorem bz(h:Q .normal a w)(hr:Region.ready md ops listed=[]:=by kernel_rfl):wpAnyH P md ops Q S fuel listed a w:=wpAnyH_done hr h fuel
end
theorem wL{P:Program}{ops:Array Oper}{Q:Exit->Act->World->Prop}(o:Op){d:Option Tmp}{t:TypeId}{p:String}{af:Array Edge}{g:Option (Nat×Bool)}{r:List Oper}{a:Act}{w:World}(h:wpList P ops Q (Oper.mk d o t p af g::r) a w):wpList P ops Q (Oper.mk d o t p af g::r) a w:=h
open Go.RowKit Go.Shelf
attribute [local go_sem] Oper.semAt_some
def upto{α:Type}(f:Nat->α)(k:Nat):List α:=(List.range k).map f
theorem Xn{α:Type}(f:Nat->α)(k:Nat):upto f (k+1)=upto f k++[f k]:=by simp[upto,List.range_succ]
theorem KQ{α:Type}(f:Nat->α)(k:Nat):(upto f k).length=k:=by simp[upto]
def cf(p:List UInt8)(i:Nat):UInt8:=p.getD i 0
theorem C9{p:List UInt8}{i:Nat}(h:i<p.length):cf p i=p[i]:=by simp[cf,h]
theorem Pk{p:List UInt8}{i:Nat}(h:p.length<=i):cf p i=0:=by simp[cf,h]
theorem H9{p q:List UInt8}(hl:p.length=q.length)(h:∀ i,cf p i=cf q i):p=q:=by
 apply List.ext_getElem hl;intro i h1 h2;have:=h i;rwa [C9 h1,C9 h2] at this
theorem Ep(p:List UInt8)(n i:Nat):cf (p.take n) i=if i<n then cf p i else 0:=by
 unfold cf;by_cases h:i<n
 ·simp[h,List.getD_eq_getElem?_getD]
 ·rw[if_neg h,List.getD_eq_getElem?_getD,List.getElem?_eq_none bf];rfl
theorem Ey(p:List UInt8)(n i:Nat):cf (p.drop n) i=cf p (n+i):=by simp[cf]
def tab(n:Nat)(f:Nat->UInt8):List UInt8:=(List.range n).map f
theorem QX(n:Nat)(f:Nat->UInt8):(tab n f).length=n:=by simp[tab]
theorem Vm(n:Nat)(f:Nat->UInt8)(i:Nat):cf (tab n f) i=if i<n then f i else 0:=by
 unfold cf tab;by_cases h:i<n
 ·simp[h]
 ·simp[h]
theorem ER(p:List UInt8):tab p.length (cf p)=p:=by
 apply H9 (QX _ _);intro i;rw[Vm];by_cases h:i<p.length
 ·rw[if_pos h]
 ·rw[if_neg h,Pk (Nat.le_of_not_lt h)]
theorem Ki{n:Nat}{f g:Nat->UInt8}(h:∀ i,i<n->f i=g i):tab n f=tab n g:=by
 apply H9 (by simp[QX]);intro i;rw[Vm,Vm];by_cases hi:i<n
 ·rw[if_pos hi,if_pos hi,h i hi]
 ·rw[if_neg hi,if_neg hi]
theorem Ef(n:Nat)(f:Nat->UInt8)(i:Nat)(x:UInt8):(tab n f).set i x=tab n λj=>if j=i then x else f j:=by
 apply H9 (by simp[QX]);intro j;by_cases hj:j<n
 ·rw[Vm,if_pos hj];unfold cf;rw[List.getD_eq_getElem?_getD,List.getElem?_set];by_cases h:i=j
  ·subst h;rw[if_pos rfl,if_pos (by rw[QX];exact hj),if_pos rfl];rfl
  ·rw[if_neg h,if_neg (λe=>h e.symm),<-List.getD_eq_getElem?_getD];have:=Vm n f j;rw[if_pos hj] at this;exact this
 ·rw[Pk (by simp[QX];omega),Pk (by simp[QX];omega)]
theorem UM(n:Nat):tab n (λ_=>0)=List.replicate n 0:=by
 apply List.ext_getElem (by simp[tab]);intro i h1 h2;simp[tab]
theorem Tryz.infoByteP:(Tryz.prog.info? 5).map (λi=>(i.zero,i.size,i.bytes))=some (some (.int .u8 0),1,1):=kX
def aN(base:Nat)(w:World)(v:Value)(bs:List UInt8):Prop:=w.ownsRow base 5 1 v bs.length (cB bs)
theorem aN.arg{base:Nat}{w:World}{v:Value}{bs:List UInt8}(h:aN base w v bs):∃ a c,v=.slice a bs.length c/\aJ w a c bs/\∀ b o s,a=some ⟨b,o,s⟩->base<=b/\b<w.heap.size:=by
 obtain⟨a,c,rfl,h1,h2,h3,h4,_,h5⟩:=Hp h;rw[Zc] at h2;refine⟨a,c,by rw[Zc],⟨h2,h3,h1,h4.toB⟩,h5⟩
theorem aN.nil(base:Nat)(w:World):aN base w (.slice none 0 0) []:=⟨rfl,.inl ⟨rfl,rfl⟩⟩
theorem aN.mono{base base':Nat}{w:World}{v:Value}{bs:List UInt8}(h:aN base w v bs)(hb:base'<=base):aN base' w v bs:=by
 obtain⟨h1,h2⟩:=h;refine⟨h1,?_⟩;rcases h2 with h2|⟨g,cap,cur,e1,e2,e3⟩
 ·exact .inl h2
 ·exact .inr ⟨g,cap,cur,e1,aB,e3⟩
theorem GU(w:World)(base:Nat)(hb:base<=w.heap.size):aN base (w.alloc (.cells #[] 5)) (.slice (some ⟨w.heap.size,0,none⟩) 0 0) []:=by
 have h:=World.ownsRow_made (base:=base) (e:=5) (size:=1) w #[] 0 hb dX sX;simpa[aN,cB] using h
theorem XY(a:Option Addr)(cap:Nat)(bs:List UInt8)(w:World)(h:aJ w a cap bs)(hr:bs.length<=1000000) :
  Calls Tryz.prog 97 #[.slice a bs.length cap] w λe w'=>∃ v,e=.returned v/\aN w.heap.size w' v bs/\Below w.heap.size w w':=by
 obtain⟨i0,hi,hz0,hz1,hz2⟩:=info_parts Tryz.infoByteP;have h:=Hd h;have hq:=@Lib.run_eql_slice_nil Tryz.prog w 24 5 a bs.length cap 0 0 Tryz.underlying24;cases a with
 | none=>
  have hc:=h.out.nil rfl;subst hc;have hl:bs=[]:=List.eq_nil_of_length_eq_zero (by have:=h.out.len;omega);subst hl;have hq':=@Lib.run_eql_slice_nil Tryz.prog w 24 5 none 0 0 0 0 Tryz.underlying24;clear hq;go_enter Tryz.func97,Tryz.ntmps97;go_wp2_with fail;go_ret;exact⟨_,rfl,aN.nil _ _,Below.refl _ _⟩
 | some ad=>
  have hnil:=Hd (show (some ad=none->cap=0) from λe=>by cases e);have hlen:=Hd (Zc bs);have hown0:=Hd (GU w w.heap.size nZ);have hb0:=Hd ((Below.refl w.heap.size w).alloc nZ (.cells #[] 5));have hsrc:=Hd ((At.ofB h.out.row).below hb0.out);unfold aN at hown0;go_enter Tryz.func97,Tryz.ntmps97;go_wp2_with (at_builtin;go_must (refine UL rfl (.tmp 5) (.tmp 6) 24 rfl w.heap.size 5 i0 (.int .u8 0) 1 Tryz.underlying24 hi hz0 hz1 hz2 dX _ 0 [] rfl hown0 _ bs.length cap (cB bs) rfl hlen hsrc hnil (Zw bs) kS aB sX ?_));intro v' w2 hown2 hg2;have hb2:=Hd (hb0.out.grown hg2.out sX (λk hk=>by cases hk;exact Nat.le_refl _));go_wp2_with fail;go_ret;refine⟨_,rfl,?_,hb2.out⟩;have:=hown2.out;simpa[aN] using this
section
variable {w:World} {ops:Array Oper} {rest:List Oper} {o:Oper} {a:Act} {Q:Exit->Act->World->Prop}
theorem HZ(hgd:o.guard=none)(s x:Operand)(ho:o.op=.call { callee:=.builtin .append,args:=#[s,x],argTypes:=#[24,24] })
  (base:Nat) (v:Value) (bs:List UInt8) (hs:a.eval s=v) (hown:Hid (aN base w v bs))
  (u:UInt8) (hx:a.eval x=.slice (some ⟨w.heap.size,0,none⟩) 1 1) (hl:bs.length<=1000000) (hbase:base<=w.heap.size)
  (h:∀ v' w',Hid (aN base w' v' (bs++[u]))->Hid (Below base w w')->wpList Tryz.prog ops Q rest (a.put o.dst v') w') :
  wpList Tryz.prog ops Q (o::rest) a (w.alloc (.cells #[.int .u8 (u.toNat:Int)] 5)):=by
 obtain⟨i0,hi,hz0,hz1,hz2⟩:=info_parts Tryz.infoByteP;refine Uz hgd s x 24 ho base 5 i0 (.int .u8 0) 1 Tryz.underlying24 hi hz0 hz1 hz2 rfl v bs.length (cB bs) hs (Hd hown.out) (.int .u8 (u.toNat:Int)) hx rfl kS aB hbase ?_;intro v' w' h1 h2 _;refine h v' w' (Hd ?_) (Hd ((Below.refl base w).grown h2.out hbase (λk hk=>(World.ownsRow.lt hown.out k hk).1)));unfold aN;rw[YI,List.length_append];exact h1.out
theorem Vh(hgd:o.guard=none)(s x:Operand)(ho:o.op=.call { callee:=.builtin .append,args:=#[s,x],argTypes:=#[24,24] })
  (base:Nat) (v:Value) (bs:List UInt8) (hs:a.eval s=v) (hown:Hid (aN base w v bs))
  (ao:Option Addr) (c:Nat) (ys:List UInt8) (m:Nat) (hx:a.eval x=.slice ao m c) (hm:Hid (ys.length=m)) (hy:Hid (aJ w ao c ys)) (hl:bs.length<=1000000) (hl2:m<=1000000) (hbase:base<=w.heap.size)
  (h:∀ v' w',Hid (aN base w' v' (bs++ys))->Hid (Below base w w')->wpList Tryz.prog ops Q rest (a.put o.dst v') w') :
  wpList Tryz.prog ops Q (o::rest) a w:=by
 obtain⟨i0,hi,hz0,hz1,hz2⟩:=info_parts Tryz.infoByteP;refine UL hgd s x 24 ho base 5 i0 (.int .u8 0) 1 Tryz.underlying24 hi hz0 hz1 hz2 rfl v bs.length (cB bs) hs (Hd hown.out) ao m c (cB ys) hx (Hd (by rw[Zc];exact hm.out)) (Hd (At.ofB hy.out.row)) (Hd hy.out.nil) (Zw ys) kS aB hbase ?_;intro v' w' h1 h2;refine h v' w' (Hd ?_) (Hd ((Below.refl base w).grown h2.out hbase (λk hk=>(World.ownsRow.lt hown.out k hk).1)));unfold aN;rw[YI,List.length_append,hm.out];exact h1.out
end
theorem Cv(w:World)(t:TypeId)(bs:List UInt8)(cs:Array Value)(h:cs=(cB bs).toArray)(hl:bs.length<=1000000):aJ (w.alloc (.cells cs t)) (some ⟨w.heap.size,0,none⟩) bs.length bs:=by
 subst h;refine⟨Nat.le_refl _,kS,(λe=>by cases e),λi hi=>⟨_,_,rfl,?_⟩⟩;rw[Za (heap_alloc_new w _)];simp[cB,hi]
theorem Ry(w:World)(bs:List UInt8)(cs:Array Value)(h:cs=(cB bs).toArray)(hl:bs.length<=1000000):aN w.heap.size (w.alloc (.cells cs 5)) (.slice (some ⟨w.heap.size,0,none⟩) bs.length bs.length) bs:=by
 subst h;have:=World.ownsRow_lit (base:=w.heap.size) (e:=5) (size:=1) w (cB bs).toArray bs.length nZ kS (by simp[Zc]);unfold aN;simpa using this
theorem aN.below{base B:Nat}{w w':World}{v:Value}{bs:List UInt8}(h:aN base w v bs)(hb:Below B w w')(hB:w.heap.size<=B):aN base w' v bs:=by
 refine⟨h.1,?_⟩;rcases h.2 with h2|⟨g,cap,cur,e1,e2,e3,e4⟩
 ·exact .inl h2
 ·exact .inr ⟨g,cap,cur,e1,e2,(hb.block g (by have:=Zb e3;omega)).trans e3,e4⟩
theorem aN.made{base g n cap:Nat}{w:World}(h:w.ownsRow base 5 1 (.slice (some ⟨g,0,none⟩) n cap) n (madeCells #[Value.int .u8 0] n).toList):aN base w (.slice (some ⟨g,0,none⟩) n cap) (tab n λ_=>0):=by
 unfold aN;rw[QX,UM];rw[show cB (List.replicate n 0)=(madeCells #[Value.int .u8 0] n).toList from by rw[toList_madeCells_one];simp[cB]];exact h
theorem aN.form{base:Nat}{w:World}{v:Value}{bs:List UInt8}(h:aN base w v bs)(hn:0<bs.length):∃ g c,v=.slice (some ⟨g,0,none⟩) bs.length c/\base<=g:=by
 rcases h.2 with ⟨_,hx⟩|⟨g,cap,cur,e1,e2,_⟩
 ·rw[hx] at hn;exact absurd hn aB
 ·exact⟨g,cap,e1,e2⟩
end
end Go.Proofs.YtpdhceiodgnbmaaGreatDoor
