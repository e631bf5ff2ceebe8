import Derived.Test.YtpdhceiodgnbmaaGreatDoorF0ReplaysSaid
import Derived.Test.YtpdhceiodgnbmaaGreatDoorF1ReplaysSaid
import Derived.Test.YtpdhceiodgnbmaaGreatDoorF7ReplaysSaid
import Derived.Test.YtpdhceiodgnbmaaGreatDoorF6ReplaysSaid
import Derived.Test.YtpdhceiodgnbmaaGreatDoorShelf
import Derived.Test.YtpdhceiodgnbmaaGreatDoorF5ReplaysSaid
import Derived.Test.YtpdhceiodgnbmaaGreatDoorF4ReplaysSaid
import Derived.BigQuiet
set_option linter.unusedVariables false
set_option linter.unusedSimpArgs false
set_option linter.unnecessarySimpa false
set_option maxRecDepth 100000
set_option maxHeartbeats 8000000
namespace Go.Proofs.YtpdhceiodgnbmaaGreatDoor
open Go.RowKit Go.Extern.Stop Go.Stop Go.Extern
theorem Tryz.noIsW(v:Value)(xT:TypeId)(w:World):(Instr.typeAssert (.iface 227 v) xT 214 true).run Tryz.prog w=.ok (.tuple #[.nilIface,.bool false]) w:=run_typeAssert_lacksB Tryz.underlying214 kX kX v xT w
theorem Tryz.hasUnwrapW(v:Value)(xT:TypeId)(w:World):(Instr.typeAssert (.iface 227 v) xT 217 true).run Tryz.prog w=.ok (.tuple #[.iface 227 v,.bool true]) w:=run_typeAssert_hasB Tryz.underlying217 kX v xT w
theorem Tryz.methodUnwrap(v:Value)(w:World):(Go.method 434 227 v "Unwrap").run Tryz.prog w=.ok (220,v) w:=kX
theorem NL(pb po:Nat)(b:Addr)(w:World)(h1:w.cell? ⟨pb,po+2,none⟩=some (.iface 298 (.pointer (some b)))) :
  Calls Tryz.prog 38 #[.iface 227 (.pointer (some ⟨pb,po,none⟩)),.iface 298 (.pointer (some b))] w λe w'=>e=.returned (.bool true)/\w=w':=by
 obtain⟨i,hi,hcmp⟩:=Option.map_eq_some_iff.1 Tryz.isComp
 obtain⟨j,hj,hjs⟩:=Option.map_eq_some_iff.1 Tryz.isSize
 have h8:=@run_callFunc_extern Tryz.prog 84 _ Extern.ReflectliteType.typeOf Tryz.func84 kX kX kX kX
 have h32:=@run_callFunc_extern Tryz.prog 210 _ Um Tryz.func210 kX kX kX kX
 have tT:=Tryz.isTypeOf
 have cT:=Tryz.isComparable
 have mR:=Tryz.isMethodComparable
 have nE:=Tryz.noIsE
 have uE:=Tryz.noUnwrapE
 have vE:=Tryz.noUnwrapsE
 have nW:=Tryz.noIsW
 have uW:=Tryz.hasUnwrapW
 have mU:=Tryz.methodUnwrap
 have heq:=run_eql_iface_ptr_same (P:=Tryz.prog) w b Tryz.underlying30 Tryz.underlying298 hi hcmp hj
 have hty:=run_eql_iface_types (P:=Tryz.prog) 227 298 (.pointer (some ⟨pb,po,none⟩)) (.pointer (some b)) Tryz.underlying30 dX w
 go_enter Tryz.func38,Tryz.ntmps38
 go_wp2
 refine wp_loop_rounds 2 ?_
 rw[rounds_succ]
 go_wp2
 rw[rounds_succ]
 go_wp2
 go_ret
 exact⟨rfl,rfl⟩
theorem G4(pb po:Nat)(b a:Addr)(ca cb:Array Value)(ta tb:TypeId)(w:World)(h1:w.cell? ⟨pb,po+2,none⟩=some (.iface 298 (.pointer (some a))))(hne:a≠b)(ha:w.heap[a.block]? = some (.cells ca ta (0,0)))(hb:w.heap[b.block]? = some (.cells cb tb (0,0))) :
  Calls Tryz.prog 38 #[.iface 227 (.pointer (some ⟨pb,po,none⟩)),.iface 298 (.pointer (some b))] w λe w'=>e=.returned (.bool false)/\w=w':=by
 obtain⟨i,hi,hcmp⟩:=Option.map_eq_some_iff.1 Tryz.isComp
 obtain⟨j,hj,hjs⟩:=Option.map_eq_some_iff.1 Tryz.isSize
 have h8:=@run_callFunc_extern Tryz.prog 84 _ Extern.ReflectliteType.typeOf Tryz.func84 kX kX kX kX
 have h32:=@run_callFunc_extern Tryz.prog 210 _ Um Tryz.func210 kX kX kX kX
 have tT:=Tryz.isTypeOf
 have cT:=Tryz.isComparable
 have mR:=Tryz.isMethodComparable
 have nE:=Tryz.noIsE
 have uE:=Tryz.noUnwrapE
 have vE:=Tryz.noUnwrapsE
 have nW:=Tryz.noIsW
 have uW:=Tryz.hasUnwrapW
 have mU:=Tryz.methodUnwrap
 have heq:=run_eql_iface_ptr_other (P:=Tryz.prog) w Tryz.underlying30 Tryz.underlying298 hi hcmp hj (by rw[hjs];decide) hne ha hb
 have hty:=run_eql_iface_types (P:=Tryz.prog) 227 298 (.pointer (some ⟨pb,po,none⟩)) (.pointer (some b)) Tryz.underlying30 dX w
 go_enter Tryz.func38,Tryz.ntmps38
 go_wp2
 refine wp_loop_rounds 2 ?_
 rw[rounds_succ]
 go_wp2
 rw[rounds_succ]
 go_wp2
 go_ret
 exact⟨rfl,rfl⟩
open Go.RowKit
theorem PO(g:Nat)(F:ByteArray)(V:Int)(i:Nat)(hi:i<20)(a:Nat->Addr)(w:World)(H:Errs 298 Zq w a)(hg:w.heap[g]? = some (.cells #[.string F,.int .i64 V,.iface 298 (.pointer (some (a i)))] 229 (0,0))) :
  Calls Tryz.prog 10 #[.iface 227 (.pointer (some ⟨g,0,none⟩))] w λe w'=>e=.returned (.int .i64 ((i+1:Nat):Int))/\Below w.heap.size w w':=by
 obtain⟨g0,g1,g2,g3,g4,g5,g6,g7,g8,g9,g10,g11,g12,g13,g14,g15,g16,g17,g18,g19⟩:=ZR H
 have H:=Hd H
 go_enter Tryz.func10,Tryz.ntmps10
 go_wp2_with fail
 obtain⟨w1,hw1⟩:∃ w1,w1=w.alloc (Obj.cells (Vw a) 30):=⟨_,rfl⟩
 have hcl:∀ m,m<20->w1.cell? ⟨w.heap.size,m,none⟩=some (.iface 298 (.pointer (some (a m)))):=by
  intro m hm
  rw[hw1,Za (heap_alloc_new w _)]
  exact KH a m hm
 have hb1:Below w.heap.size w w1:=by rw[hw1];exact bR.alloc nR _
 have H1:=Hd (H.out.below hb1)
 have hw:=Hd (Za ((hb1.block g (Zb hg)).trans hg) 2)
 clear hg
 have hcl:=Hd hcl
 unfold Vw at hw1
 rw[<-hw1]
 clear hw1 H
 clear g0 g1 g2 g3 g4 g5 g6 g7 g8 g9 g10 g11 g12 g13 g14 g15 g16 g17 g18 g19
 go_loop [31] (λj=>∃ m:Nat,m<=i/\j=.int .i64 m) (λj=>i-(intOf j).toNat)
 case atStart=>exact⟨0,Nat.zero_le _,rfl⟩
 case round=>
  obtain⟨m,hm,rfl⟩:=hrel
  have hc:=hcl.out m oX
  by_cases hlt:m<i
  ·obtain⟨c1,t1,o1⟩:=H1.out.obj i hi
   obtain⟨c2,t2,o2⟩:=H1.out.obj m (by show m<20;omega)
   have hne:a i≠a m:=λe=>by have:=H1.out.inj' dX i m hi (by show m<20;omega) e;omega
   have o1:=Hd o1
   have o2:=Hd o2
   have hne:=Hd hne
   go_wp2_with fail
   refine(G4 g 0 (a m) (a i) c1 c2 t1 t2 _ hw.out hne.out o1.out o2.out).mono ?_
   rintro e w2 ⟨rfl,rfl⟩
   go_wp2_with fail
   exact⟨⟨m+1,oX,by go_num⟩,by simp[intOf];omega⟩
  ·obtain rfl:m=i:=oX
   go_wp2_with fail
   refine(NL g 0 (a m) _ hw.out).mono ?_
   rintro e w2 ⟨rfl,rfl⟩
   go_wp2_with fail
   go_ret
   exact⟨rfl,hb1⟩
def pz(ea:Nat->Addr)(j:Nat):Addr:=ea (if j=0 then 0 else if j=1 then 7 else 17)
theorem Ub{w:World}{ea:Nat->Addr}(H:Errs 298 Zq w ea):ParErrs w (pz ea):=by
 refine⟨λi hi=>?_,λi hi=>?_,λi j hi hj e=>?_⟩
 ·rcases(show i=0\/i=1\/i=2 from by simp[KO] at hi;omega) with rfl|rfl|rfl
  ·exact H.var 0 dX
  ·exact H.var 7 dX
  ·exact H.var 17 dX
 ·rcases(show i=0\/i=1\/i=2 from by simp[KO] at hi;omega) with rfl|rfl|rfl
  ·exact H.obj 0 dX
  ·exact H.obj 7 dX
  ·exact H.obj 17 dX
 ·have hi':i=0\/i=1\/i=2:=by simp[KO] at hi;omega
  have hj':j=0\/j=1\/j=2:=by simp[KO] at hj;omega
  have h3:=H.inj (if i=0 then 0 else if i=1 then 7 else 17) (if j=0 then 0 else if j=1 then 7 else 17) (by show _<20;split<;>(try split)<;>omega) (by show _<20;split<;>(try split)<;>omega) e
  rcases hi' with rfl|rfl|rfl<;>rcases hj' with rfl|rfl|rfl<;>first|rfl|exact absurd h3 dX
theorem V9{s n k d t r:Int}(h:Qb s n k d t r=none):U1 s n k d t r:=by
 rcases XZ s n k d t r with ⟨_,h'⟩|⟨_,_,h'⟩|⟨_,_,_,h'⟩|⟨_,_,_,_,h'⟩|⟨_,_,_,_,_,h'⟩|⟨_,_,_,_,_,_,h'⟩|⟨h1,h2,h3,h4,h5,h6,_⟩
 all_goals first|(rw[h] at h';cases h')|exact⟨h1,h2,h3,h4,h5,h6⟩
theorem V0{s n k d t r V:Int}{F:ByteArray}{i:Nat}(h:Qb s n k d t r=some (F,V,i)):i<20:=by
 rcases XZ s n k d t r with ⟨_,h'⟩|⟨_,_,h'⟩|⟨_,_,_,h'⟩|⟨_,_,_,_,h'⟩|⟨_,_,_,_,_,h'⟩|⟨_,_,_,_,_,_,h'⟩|⟨h1,h2,h3,h4,h5,h6,h'⟩
 all_goals (rw[h] at h';first|(cases h';omega)|cases h')
theorem UJ(s n k d t r:Int)(F:ByteArray)(V:Int)(i:Nat)(h:Qb s n k d t r=some (F,V,i))(hn : -9223372036854775808<=n/\n<=9223372036854775807)(ea:Nat->Addr)(w:World)(H:Errs 298 Zq w ea) :
  Calls Tryz.prog 88 #[.agg #[.int .i64 s,.int .i64 n,.int .i64 k,.int .i64 d,.int .i64 t,.int .i64 r]] w λe w'=>∃ g,e=.returned (.iface 227 (.pointer (some ⟨g,0,none⟩)))/\w.heap.size<=g/\w'.heap[g]? = some (.cells #[.string F,.int .i64 V,.iface 298 (.pointer (some (ea i)))] 229 (0,0))/\Below w.heap.size w w':=by
 have hE:=Ub H
 have fin:∀ F' V' i',(Calls Tryz.prog 88 #[YT s n k d t r] w λe w'=>∃ v,e=.returned v/\JG w.heap.size w' v F' V' (ea i')/\Below w.heap.size w w')->Qb s n k d t r=some (F',V',i')->Calls Tryz.prog 88 #[.agg #[.int .i64 s,.int .i64 n,.int .i64 k,.int .i64 d,.int .i64 t,.int .i64 r]] w λe w'=>∃ g,e=.returned (.iface 227 (.pointer (some ⟨g,0,none⟩)))/\w.heap.size<=g/\w'.heap[g]? = some (.cells #[.string F,.int .i64 V,.iface 298 (.pointer (some (ea i)))] 229 (0,0))/\Below w.heap.size w w':=by
  intro F' V' i' hc h'
  rw[h] at h'
  cases h'
  refine Calls.mono hc ?_
  rintro e w' ⟨v,rfl,⟨g,rfl,h1,h2⟩,hb⟩
  exact⟨g,rfl,h1,h2,hb⟩
 rcases XZ s n k d t r with ⟨h1,h'⟩|⟨h1,h2,h'⟩|⟨h1,h2,h3,h'⟩|⟨h1,h2,h3,h4,h'⟩|⟨h1,h2,h3,h4,h5,h'⟩|⟨h1,h2,h3,h4,h5,h6,h'⟩|⟨h1,h2,h3,h4,h5,h6,h'⟩
 ·exact fin _ _ _ (H8 s n k d t r h1 (pz ea) w hE hn) h'
 ·exact fin _ _ _ (TA s n k d t r h1 h2 (pz ea) w hE) h'
 ·exact fin _ _ _ (HF s n k d t r h1 h2 h3 (pz ea) w hE) h'
 ·exact fin _ _ _ (TW s n k d t r h1 h2 h3 h4 (pz ea) w hE) h'
 ·exact fin _ _ _ (TB s n k d t r h1 h2 h3 h4 h5 (pz ea) w hE) h'
 ·exact fin _ _ _ (HH s n k d t r h1 h2 h3 h4 h5 h6 (pz ea) w hE) h'
 ·rw[h] at h';cases h'
def PS(base:Nat)(w:World)(F:ByteArray)(V:Int)(x:Addr)(g:Nat):Prop:=base<=g/\w.heap[g]? = some (.cells #[.string F,.int .i64 V,.iface 298 (.pointer (some x))] 229 (0,0))
section
variable (s n k d t r:Int) (F:ByteArray) (V:Int) (i:Nat) (ea:Nat->Addr) (w:World)
end
def low(c:UInt8):Bool:=decide (97<=c.toNat/\c.toNat<=122)
def Xe(bs:List UInt8):Bool:=decide (1<=bs.length/\bs.length<=12)&&bs.all low
def lettersB:List UInt8:=[97,98,99,100,101,102,103,104,105,106,107,108,109,110,111,112,113,114,115,116,117,118,119,120,121,122]
theorem Dd(c:UInt8):lettersB.contains c=low c:=by
 have:∀ n,n<256->lettersB.contains (UInt8.ofNat n)=low (UInt8.ofNat n):=by decide +kernel
 have h:=this c.toNat c.toNat_lt
 rwa [UInt8.ofNat_toNat] at h
theorem VL{α:Type}(p:α->Bool):∀ l:List α,l.dropWhile p=[]↔l.all p=true
 | []=>by simp
 | x::l=>by
  rw[List.dropWhile_cons,List.all_cons]
  cases hp:p x
  ·simp
  ·simpa using VL p l
theorem VK{α:Type}(p:α->Bool):∀ l:List α,(l.dropWhile p).all p=l.all p
 | []=>rfl
 | x::l=>by
  rw[List.dropWhile_cons,List.all_cons]
  cases hp:p x
  ·simp[hp]
  ·simpa using VK p l
theorem WD(l:List UInt8):Lib.trimS l lettersB=[]↔l.all low=true:=by
 unfold Lib.trimS Lib.trimLeftS Lib.trimRightS
 rw[VL]
 have hf:(λx=>lettersB.contains x)=low:=funext Dd
 rw[hf,List.all_reverse,VK,List.all_reverse]
theorem W8(s:ByteArray)(w:World)(hs:s.size<=9223372036854775807) :
  Calls Tryz.prog 122 #[.string s,.string ⟨#[97,98,99,100,101,102,103,104,105,106,107,108,109,110,111,112,113,114,115,116,117,118,119,120,121,122]⟩] w λe w'=>e=.returned (.string ⟨(Lib.trimS s.data.toList lettersB).toArray⟩)/\Below w.heap.size w w':=
 Any.strings_Trim_laid Tryz.lays160 kX s ⟨#[97,98,99,100,101,102,103,104,105,106,107,108,109,110,111,112,113,114,115,116,117,118,119,120,121,122]⟩ w hs dX (ascii_of_all dX)
theorem Pc(s:ByteArray)(w:World)(hs:s.size<=9223372036854775807) :
  Calls Tryz.prog 87 #[.string s] w λe w'=>e=.returned (.bool (Xe s.data.toList))/\Below w.heap.size w w':=by
 have hlen:s.data.toList.length=s.size:=sX
 by_cases h1:1<=s.size/\s.size<=12
 ·have ht:=Hd (W8 s w hs)
  have hv:Xe s.data.toList=s.data.toList.all low:=by unfold Xe;rw[hlen,decide_eq_true h1,Bool.true_and]
  have h1i:(1:Int)<=s.size:=oX
  have h2i:(s.size:Int)<=12:=oX
  have htn:=WD s.data.toList
  rw[hv]
  replace hlen:=Hd hlen
  replace hv:=Hd hv
  cases hal:s.data.toList.all low
  ·have hne:Lib.trimS s.data.toList lettersB≠[]:=λe=>by rw[htn.1 e] at hal;cases hal
   have hb2:(Lib.trimS s.data.toList lettersB).isEmpty=false:=by rw[List.isEmpty_eq_false_iff];exact hne
   clear htn
   replace hal:=Hd hal
   generalize Lib.trimS s.data.toList lettersB=T at*
   go_enter Tryz.func87,Tryz.ntmps87
   go_wp2_with fail
   with_reducible refine ht.out.mono ?_
   rintro e w1 ⟨rfl,hb1⟩
   replace hb1:=Hd hb1
   go_wp2_with fail
   go_ret
   exact⟨rfl,hb1.out⟩
  ·have hne:Lib.trimS s.data.toList lettersB=[]:=htn.2 hal
   rw[hne] at ht
   clear htn hne
   replace hal:=Hd hal
   go_enter Tryz.func87,Tryz.ntmps87
   go_wp2_with fail
   with_reducible refine ht.out.mono ?_
   rintro e w1 ⟨rfl,hb1⟩
   replace hb1:=Hd hb1
   go_wp2_with fail
   go_ret
   exact⟨rfl,hb1.out⟩
 ·have hv:Xe s.data.toList=false:=by unfold Xe;rw[hlen,decide_eq_false h1,Bool.false_and]
  rw[hv]
  by_cases h0:s.size=0
  ·have hd:decide (1<=(s.size:Int))=false:=sY
   clear h1 hlen
   replace hv:=Hd hv
   replace h0:=Hd h0
   go_enter Tryz.func87,Tryz.ntmps87
   go_wp2_with fail
   go_ret
   exact⟨rfl,Below.refl _ _⟩
  ·have h1i:(1:Int)<=s.size:=oX
   have h2i:¬(s.size:Int)<=12:=oX
   clear h1 hlen h0
   replace hv:=Hd hv
   go_enter Tryz.func87,Tryz.ntmps87
   go_wp2_with fail
   go_ret
   exact⟨rfl,Below.refl _ _⟩
theorem Jn(s:ByteArray)(w:World)(hs:s.size<=9223372036854775807) :
  Calls Tryz.prog 93 #[.string s] w λe w'=>e=.returned (.bool (Xe s.data.toList))/\w=w':=by
 have hlen:s.data.toList.length=s.size:=sX
 have hlab:=Hd (show Xe s.data.toList=(decide (0<(s.size:Int))&&(decide ((s.size:Int)<13)&&s.data.toList.all low)) from by
  unfold Xe;rw[hlen,<-Bool.and_assoc];congr 1;rw[Bool.eq_iff_iff];simp;omega)
 have hall:=Hd (λi (h:i<s.size) (hf:low s[i]=false)=>show s.data.toList.all low=false from by
  rw[List.all_eq_false]
  exact⟨s[i],by simp[ByteArray.getElem_eq_getElem_data],by rw[hf];decide⟩)
 have hend:=Hd (λ(h:∀ i,(hi:i<s.size)->low s[i]=true)=>show s.data.toList.all low=true from by
  rw[List.all_eq_true]
  intro x hx
  obtain⟨i,hi,rfl⟩:=List.getElem_of_mem hx
  exact h i (by simpa using hi))
 replace hlen:=Hd hlen
 go_enter Tryz.func93,Tryz.ntmps93
 go_wp2_with fail
 go_loop [3] (λj=>∃ i:Nat,i<=s.size/\j=.int .i64 i/\∀ k,(hk:k<s.size)->k<i->low s[k]=true) (λj=>s.size-(intOf j).toNat)
 case atStart=>exact⟨0,Nat.zero_le _,rfl,λk _ h=>absurd h (Nat.not_lt_zero k)⟩
 case round=>
  obtain⟨i,hi,rfl,hpre⟩:=hrel
  replace hpre:=Hd hpre
  by_cases hlt:i<s.size
  ·have hli:(i:Int)<s.size:=oX
   cases hlo:low s[i]
   ·have hf:=hall.out i hlt hlo
    have hv:Xe s.data.toList=false:=by rw[hlab.out,hf];simp
    unfold low at hlo
    have hlo2:s[i].toNat<97\/122<s[i].toNat:=by simpa[decide_eq_false_iff_not] using (show ¬(97<=s[i].toNat/\s[i].toNat<=122) from by simpa using hlo) |> λh=>(by omega:s[i].toNat<97\/122<s[i].toNat)
    have hd:∃ b1 b2:Bool,decide ((s[i].toNat:Int)<97)=b1/\decide (122<(s[i].toNat:Int))=b2/\(b1 || b2)=true:=by
     refine⟨_,_,rfl,rfl,?_⟩
     simp only[Bool.or_eq_true,decide_eq_true_eq]
     omega
    obtain⟨b1,b2,e1,e2,e4⟩:=hd
    replace hlo:=Hd hlo;replace hlo2:=Hd hlo2;replace hf:=Hd hf;replace hv:=Hd hv
    cases b1<;>cases b2<;>simp at e4
    all_goals
     go_wp2_with fail
     go_ret
     exact⟨by rw[hv.out];rfl,rfl⟩
   ·unfold low at hlo
    have hlo2:97<=s[i].toNat/\s[i].toNat<=122:=by simpa using hlo
    have e1:¬(s[i].toNat:Int)<97:=oX
    have e2:¬122<(s[i].toNat:Int):=oX
    have hnext:=Hd (show ∀ k,(hk:k<s.size)->k<i+1->low s[k]=true from λk hk h=>by
     rcases Nat.lt_or_ge k i with h'|h'
     ·exact hpre.out k hk h'
     ·obtain rfl:k=i:=oX
      unfold low;exact hlo)
    replace hlo:=Hd hlo;replace hlo2:=Hd hlo2
    go_wp2_with fail
    exact⟨⟨i+1,oX,by go_num,hnext.out⟩,by simp[intOf];omega⟩
  ·obtain rfl:i=s.size:=oX
   have hv:=hlab.out
   rw[hend.out (λk hk=>hpre.out k hk hk),Bool.and_true] at hv
   replace hv:=Hd hv
   by_cases h0:s.size=0
   ·have h1:decide (0<s.size)=false:=by rw[h0];rfl
    have hr:(decide (0<(s.size:Int))&&decide ((s.size:Int)<13))=false:=by rw[h0];rfl
    replace h0:=Hd h0
    replace hr:=Hd hr
    go_wp2_with fail
    go_ret
    exact⟨by rw[hv.out,hr.out];rfl,rfl⟩
   ·have h1:0<s.size:=oX
    have h1i:(0:Int)<s.size:=oX
    by_cases h13:s.size<13
    ·have h2i:(s.size:Int)<13:=oX
     have hr:=Hd (show (decide (0<(s.size:Int))&&decide ((s.size:Int)<13))=true from by simp;omega)
     clear h0
     go_wp2_with fail
     go_ret
     exact⟨by rw[hv.out,hr.out];rfl,rfl⟩
    ·have h2i:¬(s.size:Int)<13:=oX
     have hr:=Hd (show (decide (0<(s.size:Int))&&decide ((s.size:Int)<13))=false from by simp;omega)
     clear h0
     go_wp2_with fail
     go_ret
     exact⟨by rw[hv.out,hr.out];rfl,rfl⟩
def ErrIs(ea:Nat->Addr)(w:World)(v:Value)(n:Nat):Prop:=
 (n=0/\v=.nilIface)\/(∃ i,i<20/\n=i+1/\v=.iface 298 (.pointer (some (ea i))))\/
 ∃ i g F V,i<20/\n=i+1/\v=.iface 227 (.pointer (some ⟨g,0,none⟩))/\w.heap[g]? = some (.cells #[.string F,.int .i64 V,.iface 298 (.pointer (some (ea i)))] 229 (0,0))
theorem ErrIs.below{ea:Nat->Addr}{w w':World}{v:Value}{n:Nat}(h:ErrIs ea w v n)(hb:Below w.heap.size w w'):ErrIs ea w' v n:=by
 rcases h with h|h|⟨i,g,F,V,h1,h2,h3,h4⟩
 ·exact .inl h
 ·exact .inr (.inl h)
 ·exact .inr (.inr ⟨i,g,F,V,h1,h2,h3,(hb.block _ (Zb h4)).trans h4⟩)
theorem Ro{ea:Nat->Addr}{w:World}{v:Value}{n:Nat}(h:ErrIs ea w v n)(H:Errs 298 Zq w ea):Calls Tryz.prog 10 #[v] w λe w'=>e=.returned (.int .i64 (n:Int))/\Below w.heap.size w w':=by
 rcases h with ⟨rfl,rfl⟩|⟨i,h1,rfl,rfl⟩|⟨i,g,F,V,h1,rfl,rfl,h4⟩
 ·refine(LD w).mono ?_
  rintro e w' ⟨rfl,rfl⟩
  exact⟨rfl,Below.refl _ _⟩
 ·exact Lf i h1 ea w H
 ·exact PO g F V i h1 ea w H h4
theorem ErrIs.neq{ea:Nat->Addr}{w:World}{v:Value}{n:Nat}(h:ErrIs ea w v n)(W:World):(binOp .neq 30 v .nilIface).run Tryz.prog W=.ok (.bool (n != 0)) W:=by
 rcases h with ⟨rfl,rfl⟩|⟨i,h1,rfl,rfl⟩|⟨i,g,F,V,h1,rfl,rfl,h4⟩
 ·show _=_
  kernel_rfl
 ·show _=_
  kernel_rfl
 ·show _=_
  kernel_rfl
theorem ErrIs.guard{ea:Nat->Addr}{w:World}{v:Value}{n:Nat}(h:ErrIs ea w v n)(W:World)(i:Nat):Sem.run Tryz.prog (eqGuard .neq 30 (.tmp i) (.const .nilIface) v .nilIface) W=.ok () W:=by
 rcases h with ⟨rfl,rfl⟩|⟨i,h1,rfl,rfl⟩|⟨i,g,F,V,h1,rfl,rfl,h4⟩
 ·show _=_
  kernel_rfl
 ·show _=_
  kernel_rfl
 ·show _=_
  kernel_rfl
def Rc.chk(x:Rc):Nat:=
 if x.kind<1\/4<x.kind then 7 else if x.nums=false then 1
 else if x.kind=1 then (if Xe x.name.data.toList=false then 6 else match Qb x.p.s x.p.n x.p.k x.p.d x.p.t x.p.r with
  | some (_,_,i)=>i+1
  | none=>if x.bare=Rc.zero then 0 else 4)
 else if x.bare=Rc.zero then 0 else 4
def Hq(ea:Nat->Addr)(x:Rc)(w:World)(e:Ending)(w':World):Prop:=∃ v,e=.returned v/\ErrIs ea w' v x.chk/\Below w.heap.size w w'
theorem GP(p:P6)(hp:p.Ok)(ea:Nat->Addr)(w:World)(H:Errs 298 Zq w ea) :
  Calls Tryz.prog 88 #[.agg p.list.toArray] w λe w'=>∃ v,e=.returned v/\ErrIs ea w' v (match Qb p.s p.n p.k p.d p.t p.r with|some (_,_,i)=>i+1|none=>0)/\Below w.heap.size w w':=by
 cases hb:Qb p.s p.n p.k p.d p.t p.r with
 | none=>
  refine(Ne p.s p.n p.k p.d p.t p.r (V9 hb) (pz ea) w (Ub H)).mono ?_
  rintro e w' ⟨rfl,h⟩
  exact⟨_,rfl,.inl ⟨rfl,rfl⟩,h⟩
 | some q=>
  obtain⟨F,V,i⟩:=q
  refine(UJ p.s p.n p.k p.d p.t p.r F V i hb hp.2.1 ea w H).mono ?_
  rintro e w' ⟨g,rfl,_,h2,h3⟩
  exact⟨_,rfl,.inr (.inr ⟨i,g,F,V,V0 hb,rfl,rfl,h2⟩),h3⟩
theorem L0{ea:Nat->Addr}{w:World}(H:Errs 298 Zq w ea):∀ W,Below w.heap.size w W->
  W.cell? ⟨6,0,none⟩=some (.iface 298 (.pointer (some (ea 6))))/\W.cell? ⟨0,0,none⟩=some (.iface 298 (.pointer (some (ea 0))))/\
  W.cell? ⟨5,0,none⟩=some (.iface 298 (.pointer (some (ea 5))))/\W.cell? ⟨3,0,none⟩=some (.iface 298 (.pointer (some (ea 3)))):=λW hW=>by
 obtain⟨g0,g1,g2,g3,g4,g5,g6,_⟩:=ZR (H.below hW)
 exact⟨g6,g0,g5,g3⟩
theorem JQ(x:Rc)(hx:x.Ok)(ea:Nat->Addr)(w:World)(H:Errs 298 Zq w ea):Calls Tryz.prog 39 #[.agg x.list.toArray] w (Hq ea x w):=by
 have hs:=Rc.size hx
 have r0:=Rc.at0 x
 have r3:=Rc.at3 x
 have hsub4:(x.list.drop 4).take 6=x.p.list:=Rc.sub_p x
 have hnum:=Hd (λW=>M2 x hx W)
 have hbare:=Hd (λW=>W7 x hx W)
 have hlab:=Hd (λW=>Pc x.name W (Nat.le_trans hx.name dX))
 have hpar:=Hd (λW (h:Errs 298 Zq W ea)=>GP x.p hx.p ea W h)
 have hneq:=λW=>(Lb x.bare Rc.zero (Rc.bare_ok hx) Rc.zero_ok W).1
 rw[<-Rc.zeroG] at hneq
 have hsz:(Tryz.prog.info? 49).map (·.size)=some x.list.toArray.size:=by rw[hs];kernel_rfl
 have hszp:(Tryz.prog.info? 45).map (·.size)=some x.p.list.length:=by rw[P6.len];kernel_rfl
 have hE:=Hd (L0 H)
 have hpost:∀ v n W,ErrIs ea W v n->Below w.heap.size w W->x.chk=n->Hq ea x w (.returned v) W:=λv n W h1 h2 h3=>⟨v,rfl,by rw[h3];exact h1,h2⟩
 have hchk:=Hd (rfl:x.chk=x.chk)
 have hcE:x.chk=(if x.kind<1\/4<x.kind then 7 else if x.nums=false then 1
  else if x.kind=1 then (if Xe x.name.data.toList=false then 6 else match Qb x.p.s x.p.n x.p.k x.p.d x.p.t x.p.r with
  | some (_,_,i)=>i+1
  | none=>if x.bare=Rc.zero then 0 else 4)
 else if x.bare=Rc.zero then 0 else 4):=rfl
 have hr4:∀ W:World,W.heap[w.heap.size]? = some (.cells x.list.toArray 49 (0,0))->W.rangeAt w.heap.size 4 x.p.list:=λW hW j v hv=>by
  rw[Za hW]
  rw[<-hsub4,List.getElem?_take] at hv
  split at hv
  ·rw[List.getElem?_drop] at hv
   simpa using hv
  ·cases hv
 have hc0:∀ W:World,W.heap[w.heap.size]? = some (.cells x.list.toArray 49 (0,0))->W.cell? ⟨w.heap.size,0,none⟩=some (.int .i64 x.kind)/\W.cell? ⟨w.heap.size,3,none⟩=some (.string x.name):=λW hW=>⟨by rw[Za hW];simp[Rc.list],by rw[Za hW];simp[Rc.list]⟩
 generalize hR:x.list.toArray=R at*
 have hrow:=Hd (heap_alloc_new w (.cells R 49))
 have hb:=Hd (show Below w.heap.size w (w.alloc (.cells R 49)) from bR.alloc nR _)
 have hzc:=Tryz.underlying49
 have hup:=Tryz.underlying45
 generalize x.bare=xb at*
 generalize x.nums=nb at*
 generalize hlb:Xe x.name.data.toList=lb at*
 replace hR:=Hd hR
 replace hcE:=Hd hcE
 replace hpost:=Hd hpost
 replace hr4:=Hd hr4
 replace hc0:=Hd hc0
 replace hlb:=Hd hlb
 replace H:=Hd H
 have hrow0:=hrow
 have hb0:=hb
 obtain⟨z0,z3⟩:=hc0.out _ hrow.out
 obtain⟨e1,e2,e3,e4⟩:=hE.out _ hb.out
 clear hx hsub4 hchk
 by_cases hin:x.kind<1\/4<x.kind
 ·have hi:inB x.kind 1 4=false:=by unfold inB;simp;omega
  replace hin:=Hd hin
  go_enter Tryz.func39,Tryz.ntmps39
  go_wp2_with fail
  with_reducible refine(Z2 x.kind 1 4 _).mono ?_
  rintro e w1 ⟨rfl,rfl⟩
  go_wp2_with fail
  go_ret
  exact hpost.out _ 7 _ (.inr (.inl ⟨6,dX,rfl,rfl⟩)) hb.out (by rw[hcE.out,if_pos hin.out])
 ·have hi:inB x.kind 1 4=true:=by unfold inB;simp;omega
  replace hin:=Hd hin
  cases nb
  ·go_enter Tryz.func39,Tryz.ntmps39
   go_wp2_with fail
   with_reducible refine(Z2 x.kind 1 4 _).mono ?_
   rintro e w1 ⟨rfl,rfl⟩
   go_wp2_with (with_reducible refine Ze rfl 49 (.tmp 1) rfl w.heap.size R _ rfl hrow hzc rfl hsz ?_)
   with_reducible refine(hnum.out _).mono ?_
   rintro e w2 ⟨rfl,hnew⟩
   clear z0 z3 e1 e2 e3 e4
   have hrow2:=Hd ((hnew.block _ (Zb hrow0.out)).trans hrow0.out)
   have hb2:=Hd (hb0.out.trans (hnew.mono hb0.out.size))
   obtain⟨z0,z3⟩:=hc0.out _ hrow2.out
   obtain⟨e1,e2,e3,e4⟩:=hE.out _ hb2.out
   clear hnew
   go_wp2_with fail
   go_ret
   exact hpost.out _ 1 _ (.inr (.inl ⟨0,dX,rfl,rfl⟩)) hb2.out (by rw[hcE.out,if_neg hin.out];simp)
  ·by_cases hk1:x.kind=1
   ·have hkb:(x.kind==1)=true:=by simpa using hk1
    replace hk1:=Hd hk1
    cases lb
    ·go_enter Tryz.func39,Tryz.ntmps39
     go_wp2_with fail
     with_reducible refine(Z2 x.kind 1 4 _).mono ?_
     rintro e w1 ⟨rfl,rfl⟩
     go_wp2_with (with_reducible refine Ze rfl 49 (.tmp 1) rfl w.heap.size R _ rfl hrow hzc rfl hsz ?_)
     with_reducible refine(hnum.out _).mono ?_
     rintro e w2 ⟨rfl,hnew⟩
     clear z0 z3 e1 e2 e3 e4
     have hrow2:=Hd ((hnew.block _ (Zb hrow0.out)).trans hrow0.out)
     have hb2:=Hd (hb0.out.trans (hnew.mono hb0.out.size))
     obtain⟨z0,z3⟩:=hc0.out _ hrow2.out
     obtain⟨e1,e2,e3,e4⟩:=hE.out _ hb2.out
     clear hnew
     go_wp2_with fail
     with_reducible refine(hlab.out _).mono ?_
     rintro e w3 ⟨rfl,hnew⟩
     clear z0 z3 e1 e2 e3 e4
     have hrow3:=Hd ((hnew.block _ (Zb hrow2.out)).trans hrow2.out)
     have hb3:=Hd (hb2.out.trans (hnew.mono hb2.out.size))
     obtain⟨z0,z3⟩:=hc0.out _ hrow3.out
     obtain⟨e1,e2,e3,e4⟩:=hE.out _ hb3.out
     clear hnew
     go_wp2_with fail
     go_ret
     exact hpost.out _ 6 _ (.inr (.inl ⟨5,dX,rfl,rfl⟩)) hb3.out (by rw[hcE.out,if_neg hin.out];simp[hk1.out])
    ·go_enter Tryz.func39,Tryz.ntmps39
     go_wp2_with fail
     with_reducible refine(Z2 x.kind 1 4 _).mono ?_
     rintro e w1 ⟨rfl,rfl⟩
     go_wp2_with (with_reducible refine Ze rfl 49 (.tmp 1) rfl w.heap.size R _ rfl hrow hzc rfl hsz ?_)
     with_reducible refine(hnum.out _).mono ?_
     rintro e w2 ⟨rfl,hnew⟩
     clear z0 z3 e1 e2 e3 e4
     have hrow2:=Hd ((hnew.block _ (Zb hrow0.out)).trans hrow0.out)
     have hb2:=Hd (hb0.out.trans (hnew.mono hb0.out.size))
     obtain⟨z0,z3⟩:=hc0.out _ hrow2.out
     obtain⟨e1,e2,e3,e4⟩:=hE.out _ hb2.out
     clear hnew
     go_wp2_with fail
     with_reducible refine(hlab.out _).mono ?_
     rintro e w3 ⟨rfl,hnew⟩
     clear z0 z3 e1 e2 e3 e4
     have hrow3:=Hd ((hnew.block _ (Zb hrow2.out)).trans hrow2.out)
     have hb3:=Hd (hb2.out.trans (hnew.mono hb2.out.size))
     obtain⟨z0,z3⟩:=hc0.out _ hrow3.out
     obtain⟨e1,e2,e3,e4⟩:=hE.out _ hb3.out
     clear hnew
     have hr4':=hr4.out _ hrow3.out
     go_wp2_with ((with_reducible refine wL (.load 45 (.tmp 29)) ?_);refine wpList_load_mid rfl 45 (.tmp 29) rfl w.heap.size 4 rfl x.p.list _ hr4' hup rfl hszp ?_)
     with_reducible refine(hpar.out _ (H.out.below hb3.out)).mono ?_
     rintro e w4 ⟨v4,rfl,hv4,hnew⟩
     clear z0 z3 e1 e2 e3 e4 hr4'
     have hrow4:=Hd ((hnew.block _ (Zb hrow3.out)).trans hrow3.out)
     have hb4:=Hd (hb3.out.trans (hnew.mono hb3.out.size))
     obtain⟨z0,z3⟩:=hc0.out _ hrow4.out
     obtain⟨e1,e2,e3,e4⟩:=hE.out _ hb4.out
     clear hnew
     have hnq:=hv4.neq
     have hng:=hv4.guard
     cases hbd:Qb x.p.s x.p.n x.p.k x.p.d x.p.t x.p.r with
     | some q=>
      obtain⟨F,V,i⟩:=q
      rw[hbd] at hv4 hnq
      simp only at hv4 hnq
      have hi0:((i+1:Nat) != 0)=true:=sX
      rw[hi0] at hnq
      replace hv4:=Hd hv4
      replace hbd:=Hd hbd
      go_wp2_with fail
      go_ret
      exact hpost.out _ (i+1) _ hv4.out hb4.out (by rw[hcE.out,if_neg hin.out];simp[hk1.out,hbd.out])
     | none=>
      rw[hbd] at hv4 hnq
      simp only[bne_self_eq_false] at hv4 hnq
      replace hv4:=Hd hv4
      replace hbd:=Hd hbd
      go_wp2_with (with_reducible refine Ze rfl 49 (.tmp 1) rfl w.heap.size R _ rfl hrow4 hzc rfl hsz ?_)
      with_reducible refine(hbare.out _).mono ?_
      rintro e w9 ⟨rfl,hnew⟩
      have hrow9:=Hd ((hnew.block _ (Zb hrow4.out)).trans hrow4.out)
      have hb9:=Hd (hb4.out.trans (hnew.mono hb4.out.size))
      obtain⟨z0,z3⟩:=hc0.out _ hrow9.out
      obtain⟨e1,e2,e3,e4⟩:=hE.out _ hb9.out
      clear hnew
      have hq:=hneq w9
      by_cases hz:xb=Rc.zero
      ·have hd:(decide (xb=Rc.zero))=true:=by simpa using hz
       rw[hd] at hq
       replace hz:=Hd hz
       go_wp2_with fail
       go_ret
       exact hpost.out _ 0 _ (.inl ⟨rfl,rfl⟩) hb9.out (by rw[hcE.out,if_neg hin.out];simp[hk1.out,hbd.out,hz.out])
      ·have hd:(decide (xb=Rc.zero))=false:=by simpa using hz
       rw[hd] at hq
       replace hz:=Hd hz
       go_wp2_with fail
       go_ret
       exact hpost.out _ 4 _ (.inr (.inl ⟨3,dX,rfl,rfl⟩)) hb9.out (by rw[hcE.out,if_neg hin.out];simp[hk1.out,hbd.out,hz.out])
   ·have hkb:(x.kind==1)=false:=by simpa using hk1
    replace hk1:=Hd hk1
    go_enter Tryz.func39,Tryz.ntmps39
    go_wp2_with fail
    with_reducible refine(Z2 x.kind 1 4 _).mono ?_
    rintro e w1 ⟨rfl,rfl⟩
    go_wp2_with (with_reducible refine Ze rfl 49 (.tmp 1) rfl w.heap.size R _ rfl hrow hzc rfl hsz ?_)
    with_reducible refine(hnum.out _).mono ?_
    rintro e w2 ⟨rfl,hnew⟩
    clear z0 z3 e1 e2 e3 e4
    have hrow2:=Hd ((hnew.block _ (Zb hrow0.out)).trans hrow0.out)
    have hb2:=Hd (hb0.out.trans (hnew.mono hb0.out.size))
    obtain⟨z0,z3⟩:=hc0.out _ hrow2.out
    obtain⟨e1,e2,e3,e4⟩:=hE.out _ hb2.out
    clear hnew
    go_wp2_with (with_reducible refine Ze rfl 49 (.tmp 1) rfl w.heap.size R _ rfl hrow2 hzc rfl hsz ?_)
    with_reducible refine(hbare.out _).mono ?_
    rintro e w9 ⟨rfl,hnew⟩
    have hrow9:=Hd ((hnew.block _ (Zb hrow2.out)).trans hrow2.out)
    have hb9:=Hd (hb2.out.trans (hnew.mono hb2.out.size))
    obtain⟨z0,z3⟩:=hc0.out _ hrow9.out
    obtain⟨e1,e2,e3,e4⟩:=hE.out _ hb9.out
    clear hnew
    have hq:=hneq w9
    by_cases hz:xb=Rc.zero
    ·have hd:(decide (xb=Rc.zero))=true:=by simpa using hz
     rw[hd] at hq
     replace hz:=Hd hz
     go_wp2_with fail
     go_ret
     exact hpost.out _ 0 _ (.inl ⟨rfl,rfl⟩) hb9.out (by rw[hcE.out,if_neg hin.out];simp[hk1.out,hz.out])
    ·have hd:(decide (xb=Rc.zero))=false:=by simpa using hz
     rw[hd] at hq
     replace hz:=Hd hz
     go_wp2_with fail
     go_ret
     exact hpost.out _ 4 _ (.inr (.inl ⟨3,dX,rfl,rfl⟩)) hb9.out (by rw[hcE.out,if_neg hin.out];simp[hk1.out,hz.out])
theorem It.default_ok:(default:It).Ok:=⟨dX,dX,⟨dX,dX,dX,dX,dX,dX⟩,rfl,rfl,dX,dX,dX⟩
theorem JX{ns:List It}(h:∀ x∈ns,x.Ok)(s:ByteArray):(ZS ns s).1.Ok:=by
 unfold ZS
 cases hf:ns.findIdx? (λx=>decide (x.s=s)) with
 | none=>exact It.default_ok
 | some i=>
  have hi:i<ns.length:=(List.findIdx?_eq_some_iff_getElem.1 hf).1
  simp only[List.getD_eq_getElem?_getD,List.getElem?_eq_getElem hi,Option.getD_some]
  exact h _ (List.getElem_mem hi)
theorem Rc.kept0(x:Rc)(hx:x.Ok)(T:TypeId)(W:World)(b:Nat)(h:W.heap[b]? = some (.cells x.list.toArray T (0,0))) :
  W.cell? ⟨b,0,none⟩=some (.int .i64 x.kind)/\W.cell? ⟨b,1,none⟩=some (.int .i64 x.obj)/\W.cell? ⟨b,2,none⟩=some (.int .i64 x.id)/\W.cell? ⟨b,3,none⟩=some (.string x.name)/\
  W.cell? ⟨b,74,none⟩=some (.int .i64 x.way)/\W.cell? ⟨b,75,none⟩=some (.int .i64 x.index)/\W.cell? ⟨b,76,none⟩=some (.int .i64 x.verdict)/\W.cell? ⟨b,77,none⟩=some (.int .i64 x.tick):=by
 refine⟨?_,?_,?_,?_,?_,?_,?_,?_⟩
 all_goals rw[Za h,List.getElem?_toArray]
 ·exact x.c0
 ·exact x.c1
 ·exact x.c2
 ·exact x.c3
 ·exact Rc.c74 hx.root hx.file
 ·exact Rc.c75 hx.root hx.file
 ·exact Rc.c76 hx.root hx.file
 ·exact Rc.c77 hx.root hx.file
theorem ZT(w:World):ArgS w (.agg #[.slice none 0 0,.slice none 0 0]) ⟨[],[]⟩:=
 ⟨⟨none,0,none,0,rfl,λi h=>absurd h (Nat.not_lt_zero _),Nat.le_refl _,Nat.zero_le _,λi h=>absurd h (Nat.not_lt_zero _),Nat.le_refl _,Nat.zero_le _⟩,λx hx=>(List.not_mem_nil hx).elim,λx hx=>(List.not_mem_nil hx).elim⟩
def FreshS(B:Nat)(v:Value):Prop:=∀ a n c a' n' c',v=.agg #[.slice a n c,.slice a' n' c']->(∀ b o s,a=some ⟨b,o,s⟩->B<=b)/\(∀ b o s,a'=some ⟨b,o,s⟩->B<=b)
theorem FreshS.mono{B B':Nat}{v:Value}(h:FreshS B v)(hb:B'<=B):FreshS B' v:=λa n c a' n' c' e=>by
 obtain⟨h1,h2⟩:=h a n c a' n' c' e
 exact⟨λb o s e=>Nat.le_trans hb (h1 b o s e),λb o s e=>Nat.le_trans hb (h2 b o s e)⟩
theorem Z9(B:Nat):FreshS B (.agg #[.slice none 0 0,.slice none 0 0]):=λa n c a' n' c' q=>by
 cases q
 exact⟨λb o s q=>(by cases q),λb o s q=>(by cases q)⟩
theorem QK{α β:Type}{R:World->(Nat->Prop)->α->List Value->Prop}{R':World->(Nat->Prop)->β->List Value->Prop}{base base' B size size':Nat}{w:World}{v v':Value}{e e':TypeId}{F F':Nat->Prop}{ns:List α}{vs:List β}(h:RowsOf R e size base w F v ns)(h':RowsOf R' e' size' base' w F' v' vs)(hb:B<=base)(hb':B<=base'):FreshS B (.agg #[v,v']):=by
 obtain⟨a0,c0,rfl,_,_,_,f0⟩:=h.form
 obtain⟨a1,c1,rfl,_,_,_,f1⟩:=h'.form
 intro a n c a' n' c' q
 cases q
 exact⟨λb o s q=>Nat.le_trans hb (f0 b o s q).2.2.1,λb o s q=>Nat.le_trans hb' (f1 b o s q).2.2.1⟩
theorem UM{w w':World}{b c o:Nat}{ob:Obj}{cs:List Value}(h:w.rangeAt b o cs)(hU:Upd c ob w w')(hn:b≠c):w'.rangeAt b o cs:=λj v hv=>
 (World.cell?_of_block (a:=⟨b,o+j,none⟩) (hU.block b hn)).trans (h j v hv)
theorem ArgS.upd{w w':World}{v:Value}{m:St}{B b:Nat}{ob:Obj}(h:ArgS w v m)(hf:FreshS B v)(hU:Upd b ob w w')(hb:b<B):ArgS w' v m:=by
 obtain⟨⟨a,c,a',c',e,h1,h2,h3,h4,h5,h6⟩,h7,h8⟩:=h
 obtain⟨f1,f2⟩:=hf _ _ _ _ _ _ e
 refine⟨⟨a,c,a',c',e,λk hk=>?_,h2,h3,λk hk=>?_,h5,h6⟩,h7,h8⟩
 ·obtain⟨b1,o1,e1,hr⟩:=h1 k hk
  exact⟨b1,o1,e1,UM hr hU (by have:=f1 b1 o1 none e1;omega)⟩
 ·obtain⟨b1,o1,e1,hr⟩:=h4 k hk
  exact⟨b1,o1,e1,UM hr hU (by have:=f2 b1 o1 none e1;omega)⟩
theorem ErrIs.updS{ea:Nat->Addr}{w w':World}{v:Value}{n b:Nat}{o:Obj}{C:Array Value}{t:TypeId}{z:Nat×Nat}(h:ErrIs ea w v n)(hU:Upd b o w w')(hb:w.heap[b]? = some (.cells C t z))(ht:t≠229):ErrIs ea w' v n:=by
 rcases h with h|h|⟨i,g,F,V,h1,h2,h3,h4⟩
 ·exact .inl h
 ·exact .inr (.inl h)
 ·refine .inr (.inr ⟨i,g,F,V,h1,h2,h3,(hU.block g λe=>?_).trans h4⟩)
  rw[e,hb] at h4
  injection h4 with h4
  injection h4 with _ h5 _
  exact ht h5
def Zv(ea:Nat->Addr)(m:St)(n:Nat)(w:World)(e:Ending)(w':World):Prop:=∃ vm v,e=.returned (.tuple #[vm,v])/\ArgS w' vm m/\ErrIs ea w' v n/\Below w.heap.size w w'/\FreshS w.heap.size vm
def ZY(x:It)(way:Int):Int×Bool:=if way=2 then (x.u,decide (x.u<x.p.n)) else (x.r,true)
def Rc.it(x:Rc):It:=⟨x.obj,x.name,x.p,x.root,x.file,x.tick,false,0,0⟩
def Yz(m:St)(x:Rc):St×Nat:=
 if (ZS m.its x.name).2=true then (⟨[],[]⟩,10) else if 4<=m.its.length then (⟨[],[]⟩,12) else if x.obj≠(m.its.length:Int) then (⟨[],[]⟩,4) else (⟨m.its++[x.it],m.ens⟩,0)
def XG(m:St)(x:Rc):St×Nat:=
 if x.obj<0\/(m.its.length:Int)<=x.obj then (⟨[],[]⟩,11) else if (m.its.getD x.obj.toNat default).k=true then (⟨[],[]⟩,13)
 else (⟨m.its.set x.obj.toNat { m.its.getD x.obj.toNat default with k:=true },m.ens⟩,0)
def JU(x:It)(way:Int):It:=if way=2 then { x with u:=x.u+1 } else { x with r:=x.r+1 }
def Xb(m:St)(x:Rc):St×Nat:=
 if x.obj<0\/(m.its.length:Int)<=x.obj then (⟨[],[]⟩,11) else if (m.its.getD x.obj.toNat default).k=false then (⟨[],[]⟩,13)
 else if (ZY (m.its.getD x.obj.toNat default) x.way).2=false then (⟨[],[]⟩,18)
 else if x.id≠(m.ens.length:Int)\/x.index≠(ZY (m.its.getD x.obj.toNat default) x.way).1 then (⟨[],[]⟩,4)
 else (⟨m.its.set x.obj.toNat (JU (m.its.getD x.obj.toNat default) x.way),m.ens++[⟨x.id,x.obj,x.way,x.index,x.tick,0,0⟩]⟩,0)
def Yw(m:St)(x:Rc):St×Nat:=
 if x.id<0\/(m.ens.length:Int)<=x.id then (⟨[],[]⟩,11) else if (m.ens.getD x.id.toNat default).o≠x.obj then (⟨[],[]⟩,11)
 else if (m.ens.getD x.id.toNat default).v≠0 then (⟨[],[]⟩,13)
 else (⟨m.its,m.ens.set x.id.toNat { m.ens.getD x.id.toNat default with v:=x.verdict,a:=x.tick }⟩,0)
def Zw(m:St)(x:Rc):St×Nat:=
 if x.chk≠0 then (⟨[],[]⟩,x.chk) else if x.kind=1 then Yz m x else if x.kind=2 then Xb m x else if x.kind=4 then XG m x else Yw m x
theorem XQ(x:It)(hx:x.Ok)(way:Int)(w:World):Calls Tryz.prog 90 #[.agg x.list.toArray,.int .i64 way] w λe w'=>e=.returned (.tuple #[.int .i64 (ZY x way).1,.bool (ZY x way).2])/\Below w.heap.size w w':=by
 have hk:∀ W:World,W.heap[w.heap.size]? = some (.cells x.list.toArray 58 (0,0))->W.cell? ⟨w.heap.size,3,none⟩=some (.int .i64 x.p.n)/\W.cell? ⟨w.heap.size,74,none⟩=some (.int .i64 x.u)/\W.cell? ⟨w.heap.size,75,none⟩=some (.int .i64 x.r):=λW h=>by
  rw[Za h,Za h,Za h,List.getElem?_toArray,List.getElem?_toArray,List.getElem?_toArray]
  exact⟨It.c3 x,It.c74 hx,It.c75 hx⟩
 obtain⟨k3,k74,k75⟩:=hk _ (heap_alloc_new w (.cells x.list.toArray 58))
 have hb:=Hd (show Below w.heap.size w (w.alloc (.cells x.list.toArray 58)) from bR.alloc nR _)
 clear hk
 unfold ZY
 generalize x.list.toArray=R at*
 generalize x.u=u at*
 generalize x.r=r at*
 generalize x.p.n=n at*
 by_cases hw:way=2
 ·rw[if_pos hw]
  subst hw
  go_enter Tryz.func90,Tryz.ntmps90
  go_wp2_with fail
  go_quiet (fail)
  go_wp2_with fail
  go_ret2
  exact⟨rfl,hb.out.os,hb.out.tape,hb.out.output,hb.out.size,hb.out.block⟩
 ·rw[if_neg hw]
  have hw2:(way==2)=false:=by simpa using hw
  clear hw
  go_enter Tryz.func90,Tryz.ntmps90
  go_wp2_with fail
  go_ret2
  exact⟨rfl,hb.out⟩
end Go.Proofs.YtpdhceiodgnbmaaGreatDoor
