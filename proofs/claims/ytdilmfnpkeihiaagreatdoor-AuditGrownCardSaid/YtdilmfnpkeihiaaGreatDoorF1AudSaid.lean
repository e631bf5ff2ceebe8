import Derived.Test.YtdilmfnpkeihiaaGreatDoorF0AudSaid
import Derived.WalkKit
import Derived.WalkSpells
import Derived.WalkLawsBesides
import Derived.WalkSmall
import Derived.BigQuiet
import Derived.Lib.Hide
import Derived.Carry
import Derived.ProofKit
import Derived.OpenShut
import Derived.Laws.AppendOwnNone
import Derived.Laws.BytesString
import Derived.Laws.BitsAllLaws
import Derived.Deep.QuietTactic
set_option linter.unusedVariables false
set_option linter.unusedSimpArgs false
set_option linter.unnecessarySimpa false
set_option maxRecDepth 100000
set_option maxHeartbeats 8000000
namespace Go.Proofs.YtdilmfnpkeihiaaGreatDoor
open Go.RowKit
structure Upd (b:Nat) (o:Obj) (w w':World):Prop where
 os:w'.os=w.os
 tape:w'.tape=w.tape
 output:w'.output=w.output
 size:w'.heap.size=w.heap.size
 block:∀ k,k≠b->w'.heap[k]? = w.heap[k]?
 here:w'.heap[b]? = some o
theorem Upd.refl{b:Nat}{o:Obj}{w:World}(h:w.heap[b]? = some o):Upd b o w w:=⟨rfl,rfl,rfl,rfl,λ_ _=>rfl,h⟩
theorem Upd.below{b B:Nat}{o:Obj}{w w':World}(h:Upd b o w w')(hb:B<=b):Below B w w':=
 ⟨h.os,h.tape,h.output,by rw[h.size];exact Nat.le_refl _,λk hk=>h.block k oX⟩
theorem Upd.drew{b:Nat}{o:Obj}{w w':World}(h:Upd b o w w'):Upd b o w w'.drew:=
 ⟨h.os,h.tape,h.output,h.size,h.block,h.here⟩
theorem Upd.setCell{b j:Nat}{cs:Array Value}{t:TypeId}{fz:Nat×Nat}{w w':World}(h:Upd b (.cells cs t fz) w w')(v:Value) :
  Upd b (.cells (cs.setIfInBounds j v) t fz) w (w'.setCell ⟨b,j,none⟩ v):=by
 refine⟨h.os,h.tape,h.output,?_,?_,?_⟩
 ·simp[World.setCell,h.size]
 ·intro k hk
  rw[Below.heap_setCell _ _ _ _ (by simpa using hk)]
  exact h.block k hk
 ·have hh:=h.here
  simp only[World.setCell,Array.getElem?_modify,if_true]
  rw[hh];rfl
theorem Upd.to{b:Nat}{o o':Obj}{w w':World}(h:Upd b o w w')(e:o=o'):Upd b o' w w':=e▸h
theorem Za{w:World}{b:Nat}{cs:Array Value}{t:TypeId}{fz:Nat×Nat}(h:w.heap[b]? = some (.cells cs t fz))(j:Nat):w.cell? ⟨b,j,none⟩=cs[j]? := by
 simp[World.cell?,h]
theorem Zg{w:World}{b:Nat}{cs:Array Value}{t:TypeId}(h:w.heap[b]? = some (.cells cs t (0,0)))(j:Nat):w.frozen? ⟨b,j,none⟩=false:=by
 simp[World.frozen?,h]
theorem Zb{w:World}{b:Nat}{o:Obj}(h:w.heap[b]? = some o):b<w.heap.size:=by
 rcases Nat.lt_or_ge b w.heap.size with h'|h'
 ·exact h'
 ·simp[Array.getElem?_eq_none h'] at h
theorem YJ{w w':World}{o:Obj}{row:Option Nat}(h:(w.alloc o).grownBy w' row):w.grownBy w' row:=
 ⟨h.os,h.tape,h.output,Nat.le_trans sX h.size,λk hk hr=>(h.block k sY hr).trans (Below.heap_alloc _ _ _ hk)⟩
theorem XD{P:Program}{w:World}{ops:Array Oper}{rest:List Oper}{o:Oper}{a:Act}{Q:Exit->Act->World->Prop}(hgd:o.guard=none)(s x:Operand)(t:TypeId)
  (ho:o.op=.call { callee:=.builtin .append,args:=#[s,x],argTypes:=#[t,t] })
  (base:Nat) (e:TypeId) (i:TypeInfo) (z:Value) (bytes:Nat) (ht:P.underlying t=some (.slice e)) (hi:P.info? e=some i) (hz:i.zero=some z)
  (hsize:i.size=1) (hby:i.bytes=bytes) (hzs:z.cells.size=1)
  (v:Value) (n:Nat) (xs:List Value) (hs:a.eval s=v) (hown:Hid (w.ownsRow base e 1 v n xs))
  (u:Value) (hx:a.eval x=.slice (some ⟨w.heap.size,0,none⟩) 1 1) (h1:u.oneCell'=true)
  (h63:n+1<=maxLen) (hbytes:(n+1)*bytes<=140737488355328) (hbase:base<=w.heap.size)
  (h:∀ v' w',Hid (w'.ownsRow base e 1 v' (n+1) (xs++[u]))->Hid (w.grownBy w' v.ownBlock)->Hid (v'≠.slice none 0 0)->wpList P ops Q rest (a.put o.dst v') w') :
  wpList P ops Q (o::rest) a (w.alloc (.cells #[u] e)):=
 wpList_append_own _ hgd s x t ho base e i z 1 bytes ht hi hz hsize hby hzs oX v n xs hs (World.ownsRow.alloc hown.out _) ⟨w.heap.size,0,none⟩ 1 1 [u] hx rfl (cell_one_new _ _ _)
  (by intro y hy;simp at hy;subst hy;exact h1) h63 hbytes sY λv' w' h2 h3 h4=>h v' w' h2 (YJ h3) (λe=>by have:=h4.1 e;omega)
def RowB(w:World)(a:Option Addr)(bs:List UInt8):Prop:=
 ∀ i,i<bs.length->∃ b off,a=some ⟨b,off,none⟩/\w.cell? ⟨b,off+i,none⟩=some (.int .u8 ((bs.getD i 0).toNat:Int))
theorem RowB.below{w w':World}{a:Option Addr}{bs:List UInt8}(h:RowB w a bs)(hb:Below w.heap.size w w'):RowB w' a bs:=by
 intro i hi
 obtain⟨b,off,rfl,hc⟩:=h i hi
 exact⟨b,off,rfl,(hb.cell (World.block_lt_of_cell? w _ hc)).trans hc⟩
section
open Go.ChangeShapes
variable {H:Type} {enc:TypeId×Value->H} {P:Program} {w:World}
end
def At(w:World)(ao:Option Addr)(ys:List Value):Prop:=
 ∀ i,i<ys.length->∃ b off,ao=some ⟨b,off,none⟩/\w.cell? ⟨b,off+i,none⟩=ys[i]?
def cB(bs:List UInt8):List Value:=bs.map λx=>.int .u8 (x.toNat:Int)
theorem Zc(bs:List UInt8):(cB bs).length=bs.length:=by simp[cB]
theorem Q9(a b:List UInt8):cB (a++b)=cB a++cB b:=by simp[cB]
theorem Zs(bs:List UInt8):∀ u∈cB bs,u.oneCell'=true:=by intro u hu;simp only[cB,List.mem_map] at hu;obtain⟨_,_,rfl⟩:=hu;rfl
theorem At.below{w w':World}{ao:Option Addr}{ys:List Value}(h:At w ao ys)(hb:Below w.heap.size w w'):At w' ao ys:=by
 intro i hi
 obtain⟨b,off,rfl,hc⟩:=h i hi
 refine⟨b,off,rfl,?_⟩
 rw[List.getElem?_eq_getElem hi] at hc ⊢
 exact(hb.cell (World.block_lt_of_cell? w _ hc)).trans hc
theorem At.ofB{w:World}{ao:Option Addr}{bs:List UInt8}(h:RowB w ao bs):At w ao (cB bs):=by
 intro i hi
 rw[Zc] at hi
 obtain⟨b,off,rfl,hc⟩:=h i hi
 exact⟨b,off,rfl,by rw[hc];simp[cB,hi]⟩
theorem At.toB{w:World}{ao:Option Addr}{bs:List UInt8}(h:At w ao (cB bs)):RowB w ao bs:=by
 intro i hi
 obtain⟨b,off,rfl,hc⟩:=h i (by rw[Zc];exact hi)
 exact⟨b,off,rfl,by rw[hc];simp[cB,hi]⟩
theorem At.take{w:World}{ao:Option Addr}{ys:List Value}(h:At w ao ys)(n:Nat):At w ao (ys.take n):=by
 intro i hi
 have hi':i<n/\i<ys.length:=by simpa[Nat.lt_min] using hi
 obtain⟨b,off,rfl,hc⟩:=h i hi'.2
 exact⟨b,off,rfl,by rw[hc];simp[hi'.1]⟩
theorem G6{w:World}{base:Nat}{e:TypeId}{g n cap:Nat}{xs:List Value}(h:w.ownsRow base e 1 (.slice (some ⟨g,0,none⟩) n cap) n xs):At w (some ⟨g,0,none⟩) xs:=by
 intro i hi
 obtain⟨hx,h2⟩:=h
 rcases h2 with ⟨h2,_⟩|⟨g',cap',cur,hv,hb,hg,hn,hcap,hcur,htake⟩
 ·cases h2
 ·cases hv
  refine⟨g,0,rfl,?_⟩
  rw[Za hg,<-htake]
  have:i<n:=oX
  simp[this]
theorem KV{w:World}{base:Nat}{e:TypeId}{v:Value}{n:Nat}{xs:List Value}(h:w.ownsRow base e 1 v n xs) :
  ∃ a c,v=.slice a xs.length c/\(a=none->c=0)/\xs.length<=c/\c<=maxLen/\At w a xs/\xs.length=n/\∀ b o s,a=some ⟨b,o,s⟩->base<=b/\b<w.heap.size:=by
 have hx:=h.1
 rcases h.2 with ⟨rfl,rfl⟩|⟨g,cap,cur,rfl,hb,hg,hn,hcap,hcur,htake⟩
 ·have:xs=[]:=List.eq_nil_of_length_eq_zero (by simpa using hx)
  subst this
  exact⟨none,0,rfl,λ_=>rfl,Nat.le_refl _,Nat.zero_le _,λi hi=>by simp at hi,rfl,λ_ _ _ h=>by cases h⟩
 ·have hl:xs.length=n:=oX
  refine⟨some ⟨g,0,none⟩,cap,by rw[hl],λh=>(by cases h),oX,hcap,G6 h,hl,λb o s h=>?_⟩
  cases h
  exact⟨hb,Zb hg⟩
theorem Vn{w:World}{b off:Nat}{ys:List Value}(h:∀ i,i<ys.length->w.cell? ⟨b,off+i,none⟩=ys[i]?):∀ j u,ys[j]? = some u->w.cell? ((⟨b,off,none⟩:Addr).add j)=some u:=by
 intro j u hu
 have hj:j<ys.length:=(List.getElem?_eq_some_iff.1 hu).1
 have e1:(⟨b,off,none⟩:Addr).add j=⟨b,off+j,none⟩:=by unfold Addr.add;split<;>simp_all
 rw[e1,h j hj,hu]
section
variable {P:Program} {w:World} {ops:Array Oper} {rest:List Oper} {o:Oper} {a:Act} {Q:Exit->Act->World->Prop}
theorem Yu(hgd:o.guard=none)(s x:Operand)(t:TypeId)
  (ho:o.op=.call { callee:=.builtin .append,args:=#[s,x],argTypes:=#[t,t] })
  (base:Nat) (e:TypeId) (i:TypeInfo) (z:Value) (bytes:Nat) (ht:P.underlying t=some (.slice e)) (hi:P.info? e=some i) (hz:i.zero=some z)
  (hsize:i.size=1) (hby:i.bytes=bytes) (hzs:z.cells.size=1)
  (v:Value) (n:Nat) (xs:List Value) (hs:a.eval s=v) (hown:Hid (w.ownsRow base e 1 v n xs))
  (ao:Option Addr) (m c:Nat) (ys:List Value) (hx:a.eval x=.slice ao m c) (hm:Hid (ys.length=m)) (hsrc:Hid (At w ao ys)) (hnil:Hid (ao=none->c=0)) (h1:∀ u∈ys,u.oneCell'=true)
  (h63:n+m<=maxLen) (hbytes:(n+m)*bytes<=140737488355328) (hbase:base<=w.heap.size)
  (h:∀ v' w',Hid (w'.ownsRow base e 1 v' (n+m) (xs++ys))->Hid (w.grownBy w' v.ownBlock)->wpList P ops Q rest (a.put o.dst v') w') :
  wpList P ops Q (o::rest) a w:=by
 cases ao with
 | some ad=>
  have had:∀ j u,ys[j]? = some u->w.cell? (ad.add j)=some u:=by
   intro j u hu
   have hj:j<ys.length:=(List.getElem?_eq_some_iff.1 hu).1
   obtain⟨b,off,e,_⟩:=hsrc.out j hj
   cases e
   refine Vn (λi hi=>?_) j u hu
   obtain⟨b',off',e',hc⟩:=hsrc.out i hi
   cases e'
   exact hc
  exact wpList_append_own _ hgd s x t ho base e i z 1 bytes ht hi hz hsize hby hzs oX v n xs hs hown.out ad m c ys hx (by rw[hm.out];omega) had h1 h63 hbytes hbase λv' w' h2 h3 _=>h v' w' h2 h3
 | none=>
  have hc:=hnil.out rfl
  have hys:ys=[]:=by
   cases ys with
   | nil=>rfl
   | cons y ys=>
    obtain⟨b,off,e,_⟩:=hsrc.out 0 sX
    cases e
  have hm0:m=0:=by rw[<-hm.out,hys];rfl
  subst hys hm0 hc
  exact wpList_append_own_none hgd s x t ho base e i 1 ht hi v n xs hs hown.out hx (h v w (by rw[List.append_nil];exact hown) (World.grownBy.refl _ _))
end
def Drawn(w w':World):Prop:=∃ n,w'=w.drewN n
theorem Drawn.below{a b:World}(h:Drawn a b)(B:Nat):Below B a b:=by obtain⟨n,rfl⟩:=h;exact below_drewN bR n
theorem Xe{P:Program}{f:FuncId}{args:Array Value}{w:World}{n:Nat}{v:Value}
  (h:Calls P f args (w.drewN n) λe w'=>e=.returned v/\w.drewN n=w'):Calls P f args (w.drewN n) λe w''=>e=.returned v/\∃ m,w''=w.drewN m:=
 h.mono λ_ _ ⟨he,hm⟩=>⟨he,n,hm.symm⟩
structure ArgB (w:World) (a:Option Addr) (cap:Nat) (bs:List UInt8):Prop where
 len:bs.length<=cap
 most:cap<=maxLen
 nil:a=none->cap=0
 row:RowB w a bs
theorem ArgB.below{w w':World}{a:Option Addr}{cap:Nat}{bs:List UInt8}(h:ArgB w a cap bs)(hb:Below w.heap.size w w'):ArgB w' a cap bs:=⟨h.len,h.most,h.nil,h.row.below hb⟩
section
open Go.ChangeShapes
variable {H:Type} {enc:TypeId×Value->H} {P:Program} {w:World}
end
end Go.Proofs.YtdilmfnpkeihiaaGreatDoor
