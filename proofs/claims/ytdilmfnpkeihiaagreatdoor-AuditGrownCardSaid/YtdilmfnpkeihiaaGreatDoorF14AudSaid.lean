import Derived.Test.YtdilmfnpkeihiaaGreatDoorF0AudSaid
import Derived.Test.YtdilmfnpkeihiaaGreatDoorF2AudSaid
import Derived.Test.YtdilmfnpkeihiaaGreatDoorF13AudSaid
import Derived.LoopN
import Derived.Test.YtdilmfnpkeihiaaGreatDoorF6AudSaid
import Derived.Deep.CutRange
import Derived.WalkKit
import Derived.LaidEql
import Derived.Stop.Asserts
import Derived.RowKitTokens
import Derived.Test.YtdilmfnpkeihiaaGreatDoorRows
import Derived.Test.YtdilmfnpkeihiaaGreatDoorF1AudSaid
import Derived.Outline
import Derived.Test.YtdilmfnpkeihiaaGreatDoorShelf
import Derived.Test.YtdilmfnpkeihiaaGreatDoorF12AudSaid
import Derived.BigQuiet
import Derived.Test.YtdilmfnpkeihiaaGreatDoorF8AudSaid
import Derived.Deep.RegionHeld3
set_option linter.unusedVariables false
set_option linter.unusedSimpArgs false
set_option linter.unnecessarySimpa false
set_option maxRecDepth 100000
set_option maxHeartbeats 8000000
namespace Go.Proofs.YtdilmfnpkeihiaaGreatDoor
open Go.RowKit
def Ny:List Nat:=[0,7,12]
abbrev ParErrs (w:World) (z:Nat->Addr):Prop:=Errs 264 Ny w z
open Go.RowKit Go.Extern.Stop Go.Stop Go.Extern
noncomputable def Nd:Array Value->Sem Value:=Extern.ReflectliteType.method λt=>do Extern.Rtype.noPackHeld "Comparable" t;pure (.bool (<-typeInfo t).comparable)
theorem Tryz.isComparable(w:World):(Nd #[.agg #[.pointer (some ⟨19,264,none⟩)]]).run Tryz.prog w=.ok (.bool true) w:=kX
theorem Tryz.isComp:(Tryz.prog.info? 264).map (·.comparable)=some true:=kX
theorem Tryz.isSize:(Tryz.prog.info? 284).map (·.size)=some 1:=kX
def Yp:List Nat:=[0,2,4,9,0,8,3,7,1,10,5,6,11,14,0,0,0,12,0,0]
section
variable (s n k d t r:Int) (F:ByteArray) (V:Int) (i:Nat) (ea:Nat->Addr) (w:World)
end
def ErrIs(ea:Nat->Addr)(w:World)(v:Value)(n:Nat):Prop:=
 (n=0/\v=.nilIface)\/(∃ i,i<20/\n=i+1/\v=.iface 264 (.pointer (some (ea i))))\/
 ∃ i g F V,i<20/\n=i+1/\v=.iface 218 (.pointer (some ⟨g,0,none⟩))/\w.heap[g]? = some (.cells #[.string F,.int .i64 V,.iface 264 (.pointer (some (ea i)))] 220 (0,0))
theorem Ge(w:World):ArgS w (.agg #[.slice none 0 0,.slice none 0 0]) ⟨[],[]⟩:=
 ⟨⟨none,0,none,0,rfl,λi h=>absurd h (Nat.not_lt_zero _),Nat.le_refl _,Nat.zero_le _,λi h=>absurd h (Nat.not_lt_zero _),Nat.le_refl _,Nat.zero_le _⟩,λx hx=>(List.not_mem_nil hx).elim,λx hx=>(List.not_mem_nil hx).elim⟩
def U6(B:Nat)(v:Value):Prop:=∀ a n c a' n' c',v=.agg #[.slice a n c,.slice a' n' c']->(∀ b o s,a=some ⟨b,o,s⟩->B<=b)/\(∀ b o s,a'=some ⟨b,o,s⟩->B<=b)
theorem V8(B:Nat):U6 B (.agg #[.slice none 0 0,.slice none 0 0]):=λa n c a' n' c' q=>by
 cases q
 exact⟨λb o s q=>(by cases q),λb o s q=>(by cases q)⟩
def XL(ea:Nat->Addr)(m:St)(n:Nat)(w:World)(e:Ending)(w':World):Prop:=∃ vm v,e=.returned (.tuple #[vm,v])/\ArgS w' vm m/\ErrIs ea w' v n/\Below w.heap.size w w'/\U6 w.heap.size vm
section
variable {P:Program} {ops:Array Oper} {rest:List Oper} {o:Oper} {a:Act} {w:World} {Q:Exit->Act->World->Prop}
end
theorem V0{base base':Nat}{w:World}{v v':Value}{e e':TypeId}{F F':Nat->Prop}{ns:List It}{vs:List En}(h:RowsOf RI e 76 base w F v ns)(h':RowsOf RE e' 7 base' w F' v' vs):ArgS w (.agg #[v,v']) ⟨ns,vs⟩:=by
 obtain⟨a,c,rfl,h1,h2,h3,h4⟩:=KG h
 obtain⟨a',c',rfl,h5,h6,h7,h8⟩:=KJ h'
 exact⟨⟨a,c,a',c',rfl,h1,h2,h3,h5,h6,h7⟩,h4,h8⟩
section
variable {P:Program} {ops:Array Oper} {rest:List Oper} {o:Oper} {a:Act} {w:World} {Q:Exit->Act->World->Prop}
end
open Go Go.RowKit Lean Elab Tactic Meta
theorem ArgS.shape{w:World}{v:Value}{m:St}(h:ArgS w v m):∃ a c a' c',v=.agg #[.slice a m.its.length c,.slice a' m.ens.length c']:=by
 obtain⟨⟨a,c,a',c',e,_⟩,_⟩:=h
 exact⟨a,c,a',c',e⟩
end Go.Proofs.YtdilmfnpkeihiaaGreatDoor
