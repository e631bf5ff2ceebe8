import Derived.Test.YtpdhceiodgnbmaaGreatDoorF0FollowsSaid
import Derived.Test.YtpdhceiodgnbmaaGreatDoorF1FollowsSaid
import Derived.Test.YtpdhceiodgnbmaaGreatDoorF9FollowsSaid
import Derived.Test.YtpdhceiodgnbmaaGreatDoorF8FollowsSaid
import Derived.Test.YtpdhceiodgnbmaaGreatDoorShelf
set_option linter.unusedVariables false
set_option linter.unusedSimpArgs false
set_option linter.unnecessarySimpa false
set_option maxRecDepth 100000
set_option maxHeartbeats 8000000
namespace Go.Proofs.YtpdhceiodgnbmaaGreatDoor
open Go.RowKit Go.Extern.Stop Go.Stop Go.Extern
theorem Tryz.noIsW(v:Value)(xT:TypeId)(w:World):(Instr.typeAssert (.iface 227 v) xT 214 true).run Tryz.prog w=.ok (.tuple #[.nilIface,.bool false]) w:=run_typeAssert_lacksB Tryz.underlying214 kX kX v xT w
theorem Tryz.hasUnwrapW(v:Value)(xT:TypeId)(w:World):(Instr.typeAssert (.iface 227 v) xT 217 true).run Tryz.prog w=.ok (.tuple #[.iface 227 v,.bool true]) w:=run_typeAssert_hasB Tryz.underlying217 kX v xT w
theorem Tryz.methodUnwrap(v:Value)(w:World):(Go.method 434 227 v "Unwrap").run Tryz.prog w=.ok (220,v) w:=kX
theorem KW(pb po:Nat)(b:Addr)(w:World)(h1:w.cell? ⟨pb,po+2,none⟩=some (.iface 298 (.pointer (some b)))) :
  Calls Tryz.prog 38 #[.iface 227 (.pointer (some ⟨pb,po,none⟩)),.iface 298 (.pointer (some b))] w λe w'=>e=.returned (.bool true)/\w=w':=by
 obtain⟨i,hi,hcmp⟩:=Option.map_eq_some_iff.1 Tryz.isComp
 obtain⟨j,hj,hjs⟩:=Option.map_eq_some_iff.1 Tryz.isSize
 have h8:=@run_callFunc_extern Tryz.prog 84 _ Extern.ReflectliteType.typeOf Tryz.func84 kX kX kX kX
 have h32:=@run_callFunc_extern Tryz.prog 210 _ JO Tryz.func210 kX kX kX kX
 have tT:=Tryz.isTypeOf
 have cT:=Tryz.isComparable
 have mR:=Tryz.isMethodComparable
 have nE:=Tryz.noIsE
 have uE:=Tryz.noUnwrapE
 have vE:=Tryz.noUnwrapsE
 have nW:=Tryz.noIsW
 have uW:=Tryz.hasUnwrapW
 have mU:=Tryz.methodUnwrap
 have heq:=run_eql_iface_ptr_same (P:=Tryz.prog) w b Tryz.underlying30 Tryz.underlying298 hi hcmp hj
 have hty:=run_eql_iface_types (P:=Tryz.prog) 227 298 (.pointer (some ⟨pb,po,none⟩)) (.pointer (some b)) Tryz.underlying30 dX w
 go_enter Tryz.func38,Tryz.ntmps38
 go_wp2
 refine wp_loop_rounds 2 ?_
 rw[rounds_succ]
 go_wp2
 rw[rounds_succ]
 go_wp2
 go_ret
 exact⟨rfl,rfl⟩
theorem Kf(pb po:Nat)(b a:Addr)(ca cb:Array Value)(ta tb:TypeId)(w:World)(h1:w.cell? ⟨pb,po+2,none⟩=some (.iface 298 (.pointer (some a))))(hne:a≠b)(ha:w.heap[a.block]? = some (.cells ca ta (0,0)))(hb:w.heap[b.block]? = some (.cells cb tb (0,0))) :
  Calls Tryz.prog 38 #[.iface 227 (.pointer (some ⟨pb,po,none⟩)),.iface 298 (.pointer (some b))] w λe w'=>e=.returned (.bool false)/\w=w':=by
 obtain⟨i,hi,hcmp⟩:=Option.map_eq_some_iff.1 Tryz.isComp
 obtain⟨j,hj,hjs⟩:=Option.map_eq_some_iff.1 Tryz.isSize
 have h8:=@run_callFunc_extern Tryz.prog 84 _ Extern.ReflectliteType.typeOf Tryz.func84 kX kX kX kX
 have h32:=@run_callFunc_extern Tryz.prog 210 _ JO Tryz.func210 kX kX kX kX
 have tT:=Tryz.isTypeOf
 have cT:=Tryz.isComparable
 have mR:=Tryz.isMethodComparable
 have nE:=Tryz.noIsE
 have uE:=Tryz.noUnwrapE
 have vE:=Tryz.noUnwrapsE
 have nW:=Tryz.noIsW
 have uW:=Tryz.hasUnwrapW
 have mU:=Tryz.methodUnwrap
 have heq:=run_eql_iface_ptr_other (P:=Tryz.prog) w Tryz.underlying30 Tryz.underlying298 hi hcmp hj (by rw[hjs];decide) hne ha hb
 have hty:=run_eql_iface_types (P:=Tryz.prog) 227 298 (.pointer (some ⟨pb,po,none⟩)) (.pointer (some b)) Tryz.underlying30 dX w
 go_enter Tryz.func38,Tryz.ntmps38
 go_wp2
 refine wp_loop_rounds 2 ?_
 rw[rounds_succ]
 go_wp2
 rw[rounds_succ]
 go_wp2
 go_ret
 exact⟨rfl,rfl⟩
open Go.RowKit
theorem TI(g:Nat)(F:ByteArray)(V:Int)(i:Nat)(hi:i<20)(a:Nat->Addr)(w:World)(H:Errs 298 Zv w a)(hg:w.heap[g]? = some (.cells #[.string F,.int .i64 V,.iface 298 (.pointer (some (a i)))] 229 (0,0))) :
  Calls Tryz.prog 10 #[.iface 227 (.pointer (some ⟨g,0,none⟩))] w λe w'=>e=.returned (.int .i64 ((i+1:Nat):Int))/\Below w.heap.size w w':=by
 obtain⟨g0,g1,g2,g3,g4,g5,g6,g7,g8,g9,g10,g11,g12,g13,g14,g15,g16,g17,g18,g19⟩:=ZF H
 have H:=Hd H
 go_enter Tryz.func10,Tryz.ntmps10
 go_wp2_with fail
 obtain⟨w1,hw1⟩:∃ w1,w1=w.alloc (Obj.cells (Jc a) 30):=⟨_,rfl⟩
 have hcl:∀ m,m<20->w1.cell? ⟨w.heap.size,m,none⟩=some (.iface 298 (.pointer (some (a m)))):=by
  intro m hm
  rw[hw1,Za (heap_alloc_new w _)]
  exact VU a m hm
 have hb1:Below w.heap.size w w1:=by rw[hw1];exact bR.alloc nR _
 have H1:=Hd (H.out.below hb1)
 have hw:=Hd (Za ((hb1.block g (Zb hg)).trans hg) 2)
 clear hg
 have hcl:=Hd hcl
 unfold Jc at hw1
 rw[<-hw1]
 clear hw1 H
 clear g0 g1 g2 g3 g4 g5 g6 g7 g8 g9 g10 g11 g12 g13 g14 g15 g16 g17 g18 g19
 go_loop [31] (λj=>∃ m:Nat,m<=i/\j=.int .i64 m) (λj=>i-(intOf j).toNat)
 case atStart=>exact⟨0,Nat.zero_le _,rfl⟩
 case round=>
  obtain⟨m,hm,rfl⟩:=hrel
  have hc:=hcl.out m oX
  by_cases hlt:m<i
  ·obtain⟨c1,t1,o1⟩:=H1.out.obj i hi
   obtain⟨c2,t2,o2⟩:=H1.out.obj m (by show m<20;omega)
   have hne:a i≠a m:=λe=>by have:=H1.out.inj' dX i m hi (by show m<20;omega) e;omega
   have o1:=Hd o1
   have o2:=Hd o2
   have hne:=Hd hne
   go_wp2_with fail
   refine(Kf g 0 (a m) (a i) c1 c2 t1 t2 _ hw.out hne.out o1.out o2.out).mono ?_
   rintro e w2 ⟨rfl,rfl⟩
   go_wp2_with fail
   exact⟨⟨m+1,oX,by go_num⟩,by simp[intOf];omega⟩
  ·obtain rfl:m=i:=oX
   go_wp2_with fail
   refine(KW g 0 (a m) _ hw.out).mono ?_
   rintro e w2 ⟨rfl,rfl⟩
   go_wp2_with fail
   go_ret
   exact⟨rfl,hb1⟩
def pz(ea:Nat->Addr)(j:Nat):Addr:=ea (if j=0 then 0 else if j=1 then 7 else 17)
theorem KX{w:World}{ea:Nat->Addr}(H:Errs 298 Zv w ea):ParErrs w (pz ea):=by
 refine⟨λi hi=>?_,λi hi=>?_,λi j hi hj e=>?_⟩
 ·rcases(show i=0\/i=1\/i=2 from by simp[Uf] at hi;omega) with rfl|rfl|rfl
  ·exact H.var 0 dX
  ·exact H.var 7 dX
  ·exact H.var 17 dX
 ·rcases(show i=0\/i=1\/i=2 from by simp[Uf] at hi;omega) with rfl|rfl|rfl
  ·exact H.obj 0 dX
  ·exact H.obj 7 dX
  ·exact H.obj 17 dX
 ·have hi':i=0\/i=1\/i=2:=by simp[Uf] at hi;omega
  have hj':j=0\/j=1\/j=2:=by simp[Uf] at hj;omega
  have h3:=H.inj (if i=0 then 0 else if i=1 then 7 else 17) (if j=0 then 0 else if j=1 then 7 else 17) (by show _<20;split<;>(try split)<;>omega) (by show _<20;split<;>(try split)<;>omega) e
  rcases hi' with rfl|rfl|rfl<;>rcases hj' with rfl|rfl|rfl<;>first|rfl|exact absurd h3 dX
theorem K9{s n k d t r:Int}(h:Qp s n k d t r=none):Ut s n k d t r:=by
 rcases Xb s n k d t r with ⟨_,h'⟩|⟨_,_,h'⟩|⟨_,_,_,h'⟩|⟨_,_,_,_,h'⟩|⟨_,_,_,_,_,h'⟩|⟨_,_,_,_,_,_,h'⟩|⟨h1,h2,h3,h4,h5,h6,_⟩
 all_goals first|(rw[h] at h';cases h')|exact⟨h1,h2,h3,h4,h5,h6⟩
theorem Tt{s n k d t r V:Int}{F:ByteArray}{i:Nat}(h:Qp s n k d t r=some (F,V,i)):i<20:=by
 rcases Xb s n k d t r with ⟨_,h'⟩|⟨_,_,h'⟩|⟨_,_,_,h'⟩|⟨_,_,_,_,h'⟩|⟨_,_,_,_,_,h'⟩|⟨_,_,_,_,_,_,h'⟩|⟨h1,h2,h3,h4,h5,h6,h'⟩
 all_goals (rw[h] at h';first|(cases h';omega)|cases h')
theorem GX(s n k d t r:Int)(F:ByteArray)(V:Int)(i:Nat)(h:Qp s n k d t r=some (F,V,i))(hn : -9223372036854775808<=n/\n<=9223372036854775807)(ea:Nat->Addr)(w:World)(H:Errs 298 Zv w ea) :
  Calls Tryz.prog 88 #[.agg #[.int .i64 s,.int .i64 n,.int .i64 k,.int .i64 d,.int .i64 t,.int .i64 r]] w λe w'=>∃ g,e=.returned (.iface 227 (.pointer (some ⟨g,0,none⟩)))/\w.heap.size<=g/\w'.heap[g]? = some (.cells #[.string F,.int .i64 V,.iface 298 (.pointer (some (ea i)))] 229 (0,0))/\Below w.heap.size w w':=by
 have hE:=KX H
 have fin:∀ F' V' i',(Calls Tryz.prog 88 #[Yl s n k d t r] w λe w'=>∃ v,e=.returned v/\X9 w.heap.size w' v F' V' (ea i')/\Below w.heap.size w w')->Qp s n k d t r=some (F',V',i')->Calls Tryz.prog 88 #[.agg #[.int .i64 s,.int .i64 n,.int .i64 k,.int .i64 d,.int .i64 t,.int .i64 r]] w λe w'=>∃ g,e=.returned (.iface 227 (.pointer (some ⟨g,0,none⟩)))/\w.heap.size<=g/\w'.heap[g]? = some (.cells #[.string F,.int .i64 V,.iface 298 (.pointer (some (ea i)))] 229 (0,0))/\Below w.heap.size w w':=by
  intro F' V' i' hc h'
  rw[h] at h'
  cases h'
  refine Calls.mono hc ?_
  rintro e w' ⟨v,rfl,⟨g,rfl,h1,h2⟩,hb⟩
  exact⟨g,rfl,h1,h2,hb⟩
 rcases Xb s n k d t r with ⟨h1,h'⟩|⟨h1,h2,h'⟩|⟨h1,h2,h3,h'⟩|⟨h1,h2,h3,h4,h'⟩|⟨h1,h2,h3,h4,h5,h'⟩|⟨h1,h2,h3,h4,h5,h6,h'⟩|⟨h1,h2,h3,h4,h5,h6,h'⟩
 ·exact fin _ _ _ (MS s n k d t r h1 (pz ea) w hE hn) h'
 ·exact fin _ _ _ (N5 s n k d t r h1 h2 (pz ea) w hE) h'
 ·exact fin _ _ _ (Mp s n k d t r h1 h2 h3 (pz ea) w hE) h'
 ·exact fin _ _ _ (M4 s n k d t r h1 h2 h3 h4 (pz ea) w hE) h'
 ·exact fin _ _ _ (MA s n k d t r h1 h2 h3 h4 h5 (pz ea) w hE) h'
 ·exact fin _ _ _ (Mf s n k d t r h1 h2 h3 h4 h5 h6 (pz ea) w hE) h'
 ·rw[h] at h';cases h'
section
variable (s n k d t r:Int) (F:ByteArray) (V:Int) (i:Nat) (ea:Nat->Addr) (w:World)
end
def low(c:UInt8):Bool:=decide (97<=c.toNat/\c.toNat<=122)
def Yp(bs:List UInt8):Bool:=decide (1<=bs.length/\bs.length<=12)&&bs.all low
def lettersB:List UInt8:=[97,98,99,100,101,102,103,104,105,106,107,108,109,110,111,112,113,114,115,116,117,118,119,120,121,122]
theorem PE(c:UInt8):lettersB.contains c=low c:=by
 have:∀ n,n<256->lettersB.contains (UInt8.ofNat n)=low (UInt8.ofNat n):=by decide +kernel
 have h:=this c.toNat c.toNat_lt
 rwa [UInt8.ofNat_toNat] at h
theorem J0{α:Type}(p:α->Bool):∀ l:List α,l.dropWhile p=[]↔l.all p=true
 | []=>by simp
 | x::l=>by
  rw[List.dropWhile_cons,List.all_cons]
  cases hp:p x
  ·simp
  ·simpa using J0 p l
theorem Jt{α:Type}(p:α->Bool):∀ l:List α,(l.dropWhile p).all p=l.all p
 | []=>rfl
 | x::l=>by
  rw[List.dropWhile_cons,List.all_cons]
  cases hp:p x
  ·simp[hp]
  ·simpa using Jt p l
theorem Tp(l:List UInt8):Lib.trimS l lettersB=[]↔l.all low=true:=by
 unfold Lib.trimS Lib.trimLeftS Lib.trimRightS
 rw[J0]
 have hf:(λx=>lettersB.contains x)=low:=funext PE
 rw[hf,List.all_reverse,Jt,List.all_reverse]
theorem Rf(s:ByteArray)(w:World)(hs:s.size<=9223372036854775807) :
  Calls Tryz.prog 122 #[.string s,.string ⟨#[97,98,99,100,101,102,103,104,105,106,107,108,109,110,111,112,113,114,115,116,117,118,119,120,121,122]⟩] w λe w'=>e=.returned (.string ⟨(Lib.trimS s.data.toList lettersB).toArray⟩)/\Below w.heap.size w w':=
 Any.strings_Trim_laid Tryz.lays160 kX s ⟨#[97,98,99,100,101,102,103,104,105,106,107,108,109,110,111,112,113,114,115,116,117,118,119,120,121,122]⟩ w hs dX (ascii_of_all dX)
theorem He(s:ByteArray)(w:World)(hs:s.size<=9223372036854775807) :
  Calls Tryz.prog 87 #[.string s] w λe w'=>e=.returned (.bool (Yp s.data.toList))/\Below w.heap.size w w':=by
 have hlen:s.data.toList.length=s.size:=sX
 by_cases h1:1<=s.size/\s.size<=12
 ·have ht:=Hd (Rf s w hs)
  have hv:Yp s.data.toList=s.data.toList.all low:=by unfold Yp;rw[hlen,decide_eq_true h1,Bool.true_and]
  have h1i:(1:Int)<=s.size:=oX
  have h2i:(s.size:Int)<=12:=oX
  have htn:=Tp s.data.toList
  rw[hv]
  replace hlen:=Hd hlen
  replace hv:=Hd hv
  cases hal:s.data.toList.all low
  ·have hne:Lib.trimS s.data.toList lettersB≠[]:=λe=>by rw[htn.1 e] at hal;cases hal
   have hb2:(Lib.trimS s.data.toList lettersB).isEmpty=false:=by rw[List.isEmpty_eq_false_iff];exact hne
   clear htn
   replace hal:=Hd hal
   generalize Lib.trimS s.data.toList lettersB=T at*
   go_enter Tryz.func87,Tryz.ntmps87
   go_wp2_with fail
   with_reducible refine ht.out.mono ?_
   rintro e w1 ⟨rfl,hb1⟩
   replace hb1:=Hd hb1
   go_wp2_with fail
   go_ret
   exact⟨rfl,hb1.out⟩
  ·have hne:Lib.trimS s.data.toList lettersB=[]:=htn.2 hal
   rw[hne] at ht
   clear htn hne
   replace hal:=Hd hal
   go_enter Tryz.func87,Tryz.ntmps87
   go_wp2_with fail
   with_reducible refine ht.out.mono ?_
   rintro e w1 ⟨rfl,hb1⟩
   replace hb1:=Hd hb1
   go_wp2_with fail
   go_ret
   exact⟨rfl,hb1.out⟩
 ·have hv:Yp s.data.toList=false:=by unfold Yp;rw[hlen,decide_eq_false h1,Bool.false_and]
  rw[hv]
  by_cases h0:s.size=0
  ·have hd:decide (1<=(s.size:Int))=false:=sY
   clear h1 hlen
   replace hv:=Hd hv
   replace h0:=Hd h0
   go_enter Tryz.func87,Tryz.ntmps87
   go_wp2_with fail
   go_ret
   exact⟨rfl,Below.refl _ _⟩
  ·have h1i:(1:Int)<=s.size:=oX
   have h2i:¬(s.size:Int)<=12:=oX
   clear h1 hlen h0
   replace hv:=Hd hv
   go_enter Tryz.func87,Tryz.ntmps87
   go_wp2_with fail
   go_ret
   exact⟨rfl,Below.refl _ _⟩
theorem Xv(s:ByteArray)(w:World)(hs:s.size<=9223372036854775807) :
  Calls Tryz.prog 93 #[.string s] w λe w'=>e=.returned (.bool (Yp s.data.toList))/\w=w':=by
 have hlen:s.data.toList.length=s.size:=sX
 have hlab:=Hd (show Yp s.data.toList=(decide (0<(s.size:Int))&&(decide ((s.size:Int)<13)&&s.data.toList.all low)) from by
  unfold Yp;rw[hlen,<-Bool.and_assoc];congr 1;rw[Bool.eq_iff_iff];simp;omega)
 have hall:=Hd (λi (h:i<s.size) (hf:low s[i]=false)=>show s.data.toList.all low=false from by
  rw[List.all_eq_false]
  exact⟨s[i],by simp[ByteArray.getElem_eq_getElem_data],by rw[hf];decide⟩)
 have hend:=Hd (λ(h:∀ i,(hi:i<s.size)->low s[i]=true)=>show s.data.toList.all low=true from by
  rw[List.all_eq_true]
  intro x hx
  obtain⟨i,hi,rfl⟩:=List.getElem_of_mem hx
  exact h i (by simpa using hi))
 replace hlen:=Hd hlen
 go_enter Tryz.func93,Tryz.ntmps93
 go_wp2_with fail
 go_loop [3] (λj=>∃ i:Nat,i<=s.size/\j=.int .i64 i/\∀ k,(hk:k<s.size)->k<i->low s[k]=true) (λj=>s.size-(intOf j).toNat)
 case atStart=>exact⟨0,Nat.zero_le _,rfl,λk _ h=>absurd h (Nat.not_lt_zero k)⟩
 case round=>
  obtain⟨i,hi,rfl,hpre⟩:=hrel
  replace hpre:=Hd hpre
  by_cases hlt:i<s.size
  ·have hli:(i:Int)<s.size:=oX
   cases hlo:low s[i]
   ·have hf:=hall.out i hlt hlo
    have hv:Yp s.data.toList=false:=by rw[hlab.out,hf];simp
    unfold low at hlo
    have hlo2:s[i].toNat<97\/122<s[i].toNat:=by simpa[decide_eq_false_iff_not] using (show ¬(97<=s[i].toNat/\s[i].toNat<=122) from by simpa using hlo) |> λh=>(by omega:s[i].toNat<97\/122<s[i].toNat)
    have hd:∃ b1 b2:Bool,decide ((s[i].toNat:Int)<97)=b1/\decide (122<(s[i].toNat:Int))=b2/\(b1 || b2)=true:=by
     refine⟨_,_,rfl,rfl,?_⟩
     simp only[Bool.or_eq_true,decide_eq_true_eq]
     omega
    obtain⟨b1,b2,e1,e2,e4⟩:=hd
    replace hlo:=Hd hlo;replace hlo2:=Hd hlo2;replace hf:=Hd hf;replace hv:=Hd hv
    cases b1<;>cases b2<;>simp at e4
    all_goals
     go_wp2_with fail
     go_ret
     exact⟨by rw[hv.out];rfl,rfl⟩
   ·unfold low at hlo
    have hlo2:97<=s[i].toNat/\s[i].toNat<=122:=by simpa using hlo
    have e1:¬(s[i].toNat:Int)<97:=oX
    have e2:¬122<(s[i].toNat:Int):=oX
    have hnext:=Hd (show ∀ k,(hk:k<s.size)->k<i+1->low s[k]=true from λk hk h=>by
     rcases Nat.lt_or_ge k i with h'|h'
     ·exact hpre.out k hk h'
     ·obtain rfl:k=i:=oX
      unfold low;exact hlo)
    replace hlo:=Hd hlo;replace hlo2:=Hd hlo2
    go_wp2_with fail
    exact⟨⟨i+1,oX,by go_num,hnext.out⟩,by simp[intOf];omega⟩
  ·obtain rfl:i=s.size:=oX
   have hv:=hlab.out
   rw[hend.out (λk hk=>hpre.out k hk hk),Bool.and_true] at hv
   replace hv:=Hd hv
   by_cases h0:s.size=0
   ·have h1:decide (0<s.size)=false:=by rw[h0];rfl
    have hr:(decide (0<(s.size:Int))&&decide ((s.size:Int)<13))=false:=by rw[h0];rfl
    replace h0:=Hd h0
    replace hr:=Hd hr
    go_wp2_with fail
    go_ret
    exact⟨by rw[hv.out,hr.out];rfl,rfl⟩
   ·have h1:0<s.size:=oX
    have h1i:(0:Int)<s.size:=oX
    by_cases h13:s.size<13
    ·have h2i:(s.size:Int)<13:=oX
     have hr:=Hd (show (decide (0<(s.size:Int))&&decide ((s.size:Int)<13))=true from by simp;omega)
     clear h0
     go_wp2_with fail
     go_ret
     exact⟨by rw[hv.out,hr.out];rfl,rfl⟩
    ·have h2i:¬(s.size:Int)<13:=oX
     have hr:=Hd (show (decide (0<(s.size:Int))&&decide ((s.size:Int)<13))=false from by simp;omega)
     clear h0
     go_wp2_with fail
     go_ret
     exact⟨by rw[hv.out,hr.out];rfl,rfl⟩
end Go.Proofs.YtpdhceiodgnbmaaGreatDoor
