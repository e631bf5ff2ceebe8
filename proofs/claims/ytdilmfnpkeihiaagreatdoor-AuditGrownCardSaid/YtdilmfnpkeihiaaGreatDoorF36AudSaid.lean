import Derived.Test.YtdilmfnpkeihiaaGreatDoorF0AudSaid
import Derived.Test.YtdilmfnpkeihiaaGreatDoorF2AudSaid
import Derived.Test.YtdilmfnpkeihiaaGreatDoorF27AudSaid
import Derived.Test.YtdilmfnpkeihiaaGreatDoorF6AudSaid
import Derived.Test.YtdilmfnpkeihiaaGreatDoorF4AudSaid
import Derived.Laws.AppendOwnNone
import Derived.Laws.OwnMore
import Derived.Test.YtdilmfnpkeihiaaGreatDoorF25AudSaid
import Derived.Test.YtdilmfnpkeihiaaGreatDoorF24AudSaid
import Derived.Test.YtdilmfnpkeihiaaGreatDoorF26AudSaid
import Derived.Test.YtdilmfnpkeihiaaGreatDoorF12AudSaid
import Derived.Deep.LoopGhost
import Derived.Test.YtdilmfnpkeihiaaGreatDoorF13AudSaid
import Derived.Test.YtdilmfnpkeihiaaGreatDoorF14AudSaid
import Derived.Test.YtdilmfnpkeihiaaGreatDoorF8AudSaid
import Derived.Deep.CutRange
import Derived.Test.YtdilmfnpkeihiaaGreatDoorF35AudSaid
set_option linter.unusedVariables false
set_option linter.unusedSimpArgs false
set_option linter.unnecessarySimpa false
set_option maxRecDepth 100000
set_option maxHeartbeats 8000000
namespace Go.Proofs.YtdilmfnpkeihiaaGreatDoor
open Go.RowKit
theorem Qy{l:List Value}(h:∀ u∈l,u.oneCell'=true):l.toArray.all (·.oneCell')=true:=by
 rw[Array.all_eq_true']
 intro u hu
 exact h u (by simpa using hu)
structure FrM (base:Nat) (w:World) (f:Nat) (n:Nat) (v:Value) (ps:List (List UInt8)):Prop where
 at_:w.heap[f]? = some (.cells #[.int .i64 (n:Int),v] 164 (0,0))
 rows:RowsOf RD 39 32 base w (λ_=>False) v ps
 nv:v.ownBlock≠some f
 ge:base<=f
def FrD(f:Nat)(v:Value)(k:Nat):Prop:=k=f\/v.ownBlock=some k
theorem FrM.only{base:Nat}{w w':World}{f n:Nat}{v:Value}{ps:List (List UInt8)}{D:Nat->Prop}(h:FrM base w f n v ps)(hO:Only D w w')(hd:∀ k,FrD f v k->¬D k):FrM base w' f n v ps:=
 ⟨hO.heap h.at_ (hd f (.inl rfl)),h.rows.only YF hO (λk hk=>hk.elim) (λk hk=>hd k (.inr hk)),h.nv,h.ge⟩
theorem FrM.below{base:Nat}{w w':World}{f n:Nat}{v:Value}{ps:List (List UInt8)}(h:FrM base w f n v ps)(hb:Below w.heap.size w w'):FrM base w' f n v ps:=
 h.only (Only.ofBelow (D:=λ_=>False) hb) (λ_ _ h=>h)
theorem Jo(w:World):Calls Tryz.prog 56 #[] w λe w'=>e=.returned (.pointer (some ⟨w.heap.size,0,none⟩))/\FrM w.heap.size w' w.heap.size 0 (.slice none 0 0) []/\Below w.heap.size w w':=by
 have hb:Below w.heap.size w (w.alloc (.cells #[.int .i64 0,.slice none 0 0] 164)):=bR.alloc nR _
 have hh:=heap_alloc_new w (.cells #[.int .i64 0,.slice none 0 0] 164 (0,0))
 have hf:FrM w.heap.size (w.alloc (.cells #[.int .i64 0,.slice none 0 0] 164)) w.heap.size 0 (.slice none 0 0) []:=⟨hh,RowsOf.nil _ _,by simp[Value.ownBlock],Nat.le_refl _⟩
 replace hb:=Hd hb
 replace hf:=Hd hf
 clear hh
 go_enter Tryz.func56,Tryz.ntmps56
 go_wp2_with fail
 go_ret
 exact⟨rfl,hf.out,hb.out⟩
section
variable {α:Type} {R:World->(Nat->Prop)->α->List Value->Prop} {e:TypeId} {size base:Nat} {w:World} {F F':Nat->Prop} {v:Value} {ps:List α} {P:Program} {ops:Array Oper} {rest:List Oper} {o:Oper} {a:Act} {Q:Exit->Act->World->Prop} {K:Act->World->Prop}
end
section
variable {w:World} {ops:Array Oper} {rest:List Oper} {o:Oper} {a:Act} {Q:Exit->Act->World->Prop}
end
section
variable (s n k d t r:Int) (F:ByteArray) (V:Int) (i:Nat) (ea:Nat->Addr) (w:World)
def b8(z:Int):UInt8:=UInt8.ofNat (z % 256).toNat
end
def SD(sI sE:Value)(k:Nat):Prop:=(∃ o s n c,sI=.slice (some ⟨k,o,s⟩) n c/\0<n)\/(∃ o s n c,sE=.slice (some ⟨k,o,s⟩) n c/\0<n)
theorem Y0{D:Nat->Prop}{w w':World}{b o:Nat}{cs:List Value}(h:w.rangeAt b o cs)(hO:Only D w w')(hn:¬D b):w'.rangeAt b o cs:=λj v hv=>by
 have h1:=h j v hv
 exact(World.cell?_of_block (a:=⟨b,o+j,none⟩) (hO.block b (World.block_lt_of_cell? w _ h1) hn)).trans h1
theorem ArgS.only{D:Nat->Prop}{w w':World}{sI sE:Value}{m:St}(h:ArgS w (.agg #[sI,sE]) m)(hO:Only D w w')(hd:∀ k,SD sI sE k->¬D k):ArgS w' (.agg #[sI,sE]) m:=by
 obtain⟨⟨a,c,a',c',e,h1,h2,h3,h4,h5,h6⟩,h7,h8⟩:=h
 cases e
 refine⟨⟨a,c,a',c',rfl,λk hk=>?_,h2,h3,λk hk=>?_,h5,h6⟩,h7,h8⟩
 ·obtain⟨b1,o1,rfl,hr⟩:=h1 k hk
  exact⟨b1,o1,rfl,Y0 hr hO (hd b1 (.inl ⟨_,_,_,_,rfl,oX⟩))⟩
 ·obtain⟨b1,o1,rfl,hr⟩:=h4 k hk
  exact⟨b1,o1,rfl,Y0 hr hO (hd b1 (.inr ⟨_,_,_,_,rfl,oX⟩))⟩
structure LV where
 J:Nat
 B:Nat
 mb:Nat
 mn:Nat
 f:Nat
 v:Value
 rv:Value
 fv:Value
 sI:Value
 sE:Value
 F:Nat->Prop
structure LP where
 p:DP
 recs:List (List UInt8)
 sure:Nat
 dead:Bool
 n:Nat
 ps:List (List UInt8)
 m:St
def LdD(l:Nat)(V:LV)(k:Nat):Prop:=k=l\/SD V.sI V.sE k\/FrD V.f V.fv k\/JF V.J V.F V.rv k\/Z8 V.B V.mb V.v k
structure LdM (base:Nat) (w:World) (l:Nat) (V:LV) (P:LP):Prop where
 jd:JD base w V.J V.B V.mb V.mn V.v V.rv V.F P.p P.recs P.sure P.dead
 at_:w.heap[l]? = some (.cells #[.pointer (some ⟨V.J,0,none⟩),V.sI,V.sE,.pointer (some ⟨V.f,0,none⟩)] 125 (0,0))
 st:ArgS w (.agg #[V.sI,V.sE]) P.m
 fr:FrM base w V.f P.n V.fv P.ps
 ge:base<=l
 ges:∀ k,SD V.sI V.sE k->base<=k
 ls:¬SD V.sI V.sE l
 lf:¬FrD V.f V.fv l
 lj:¬(JF V.J V.F V.rv l\/Z8 V.B V.mb V.v l)
 sf:∀ k,SD V.sI V.sE k->¬FrD V.f V.fv k
 sj:∀ k,SD V.sI V.sE k->¬(JF V.J V.F V.rv k\/Z8 V.B V.mb V.v k)
 fj:∀ k,FrD V.f V.fv k->¬(JF V.J V.F V.rv k\/Z8 V.B V.mb V.v k)
theorem LdM.only{base:Nat}{w w':World}{l:Nat}{V:LV}{P:LP}{D:Nat->Prop}(h:LdM base w l V P)(hO:Only D w w')(hd:∀ k,LdD l V k->¬D k):LdM base w' l V P:=
 ⟨h.jd.only hO (λk hk=>hd k (.inr (.inr (.inr (.inl hk))))) (λk hk=>hd k (.inr (.inr (.inr (.inr hk))))),hO.heap h.at_ (hd l (.inl rfl)),h.st.only hO (λk hk=>hd k (.inr (.inl hk))),h.fr.only hO (λk hk=>hd k (.inr (.inr (.inl hk)))),h.ge,h.ges,h.ls,h.lf,h.lj,h.sf,h.sj,h.fj⟩
theorem LdM.below{base:Nat}{w w':World}{l:Nat}{V:LV}{P:LP}(h:LdM base w l V P)(hb:Below w.heap.size w w'):LdM base w' l V P:=h.only (Only.ofBelow (D:=λ_=>False) hb) (λ_ _ h=>h)
end Go.Proofs.YtdilmfnpkeihiaaGreatDoor
