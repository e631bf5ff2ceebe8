import Derived.Test.YtdilmfnpkeihiaaGreatDoorF0AudSaid
import Derived.Test.YtdilmfnpkeihiaaGreatDoorF2AudSaid
import Derived.Test.YtdilmfnpkeihiaaGreatDoorF15AudSaid
import Derived.Test.YtdilmfnpkeihiaaGreatDoorF22AudSaid
import Derived.Test.YtdilmfnpkeihiaaGreatDoorF6AudSaid
set_option linter.unusedVariables false
set_option linter.unusedSimpArgs false
set_option linter.unnecessarySimpa false
set_option maxRecDepth 100000
set_option maxHeartbeats 8000000
namespace Go.Proofs.YtdilmfnpkeihiaaGreatDoor
open Go.RowKit
def lnB(n:Nat):List UInt8:=[UInt8.ofNat (n / 256),UInt8.ofNat n]
def Zq(h r:List UInt8):List UInt8:=sha (h++(lnB r.length++r))
theorem Qb(h r:List UInt8):(Zq h r).length=32:=Z5 _
def Qk(h r:List UInt8):List UInt8:=lnB r.length++(Zq h r++r)
theorem Yq(h r:List UInt8):(Qk h r).length=34+r.length:=by simp[Qk,lnB,Qb];omega
def Zp(b:List UInt8):Nat:=(b.getD 0 0).toNat*256+(b.getD 1 0).toNat
def Zj(b h:List UInt8):Option (List UInt8):=
 if b.length<34 then none else if Zp b<1\/400<Zp b\/b.length<34+Zp b then none
 else if (b.drop 2).take 32=Zq h ((b.drop 34).take (Zp b)) then some ((b.drop 34).take (Zp b)) else none
theorem Qj{b h r:List UInt8}(e:Zj b h=some r):1<=r.length/\r.length<=400/\34+r.length<=b.length/\r.length=Zp b/\r=(b.drop 34).take r.length/\(b.drop 2).take 32=Zq h r:=by
 unfold Zj at e
 split at e
 ·cases e
 ·split at e
  ·cases e
  ·next h2=>
   split at e
   ·next h3=>
    injection e with e
    have hl:r.length=Zp b:=by rw[<-e,List.length_take,List.length_drop];omega
    refine⟨oX,oX,oX,hl,?_,?_⟩
    ·rw[hl,e]
    ·rw[h3,e]
   ·cases e
def Ys:Nat->List UInt8->List UInt8->List (List UInt8)
 | 0,_,_=>[]
 | k+1,b,h=>match Zj b h with
  | none=>[]
  | some r=>r::Ys k (b.drop (34+r.length)) (Zq h r)
def Zz(b h:List UInt8):List (List UInt8):=Ys (b.length+1) b h
theorem Ue(k:Nat):∀ (j:Nat) (b h:List UInt8),b.length<k->b.length<j->Ys k b h=Ys j b h:=by
 induction k with
 | zero=>intro j b h h1;omega
 | succ k ih=>
  intro j b h h1 h2
  cases j with
  | zero=>omega
  | succ j=>
   simp only[Ys]
   cases e:Zj b h with
   | none=>rfl
   | some r=>
    have:=Qj e
    simp only
    rw[ih j (b.drop (34+r.length)) (Zq h r) (by rw[List.length_drop];omega) (by rw[List.length_drop];omega)]
theorem QI{b h:List UInt8}(e:Zj b h=none):Zz b h=[]:=by simp[Zz,Ys,e]
theorem QG{b h r:List UInt8}(e:Zj b h=some r):Zz b h=r::Zz (b.drop (34+r.length)) (Zq h r):=by
 have:=Qj e
 rw[Zz,Ys,e]
 simp only
 rw[Zz,Ue _ (((b.drop (34+r.length)).length)+1) _ _ (by rw[List.length_drop];omega) oX]
def Zh(h:List UInt8)(l:List (List UInt8)):List UInt8:=l.foldl Zq h
theorem QK(h:List UInt8)(l:List (List UInt8))(r:List UInt8):Zh h (l++[r])=Zq (Zh h l) r:=by simp[Zh]
theorem Qc{h:List UInt8}(hl:h.length=32)(l:List (List UInt8)):(Zh h l).length=32:=by
 have:∀ (l:List (List UInt8)) (h:List UInt8),h.length=32->(Zh h l).length=32:=by
  intro l
  induction l with
  | nil=>intro h hl;exact hl
  | cons r l ih=>intro h _;exact ih (Zq h r) (Qb h r)
 exact this l h hl
def ZF:List UInt8->List (List UInt8)->List (List UInt8)
 | _,[]=>[]
 | h,r::l=>Zq h r::ZF (Zq h r) l
theorem Xa(l:List (List UInt8)):∀ (h r:List UInt8),ZF h (l++[r])=ZF h l++[Zq (Zh h l) r]:=by
 induction l with
 | nil=>intro h r;rfl
 | cons q l ih=>intro h r;simp only[List.cons_append,ZF,ih];rfl
theorem ZZ(l:List (List UInt8)):∀ h,(ZF h l).length=l.length:=by
 induction l with
 | nil=>intro h;rfl
 | cons q l ih=>intro h;simp[ZF,ih]
theorem Vv(l:List (List UInt8))(h:List UInt8)(hl:0<l.length):(ZF h l).getD (l.length-1) []=Zh h l:=by
 obtain⟨m,r,rfl⟩:∃ m r,l=m++[r]:=by
  rcases List.eq_nil_or_concat l with e|⟨m,r,e⟩
  ·subst e;simp at hl
  ·exact⟨m,r,by rw[e,List.concat_eq_append]⟩
 rw[Xa,QK]
 have:=ZZ m h
 simp[List.getD_eq_getElem?_getD,this]
def Qf:List UInt8->List (List UInt8)->List UInt8
 | _,[]=>[]
 | h,r::l=>Qk h r++Qf (Zq h r) l
def Zo(l:List (List UInt8)):Nat:=(l.map λr=>34+r.length).sum
theorem Y3(l:List (List UInt8))(r:List UInt8):Zo (l++[r])=Zo l+(34+r.length):=by simp[Zo]
theorem YZ(l:List (List UInt8)):∀ h,(Qf h l).length=Zo l:=by
 induction l with
 | nil=>intro h;rfl
 | cons q l ih=>intro h;rw[Qf,List.length_append,ih,Yq];simp[Zo]
def okR(r:List UInt8):Prop:=1<=r.length/\r.length<=400
theorem Y9{n:Nat}(h:n<=60000):(UInt8.ofNat (n / 256)).toNat=n / 256:=by rw[UInt8.toNat_ofNat'];omega
theorem Y8(n:Nat):(UInt8.ofNat n).toNat=n % 256:=by rw[UInt8.toNat_ofNat']
theorem VQ{r t:List UInt8}{h:List UInt8}(hr:r.length<=400):Zp (Qk h r++t)=r.length:=by
 show (UInt8.ofNat (r.length / 256)).toNat*256+(UInt8.ofNat r.length).toNat=r.length
 rw[Y9 oX,Y8]
 omega
theorem JN{h r t:List UInt8}(hr:okR r):Zj (Qk h r++t) h=some r:=by
 have hn:=VQ (t:=t) (h:=h) hr.2
 have hl:=Yq h r
 have h34:(Qk h r++t).drop 34=r++t:=by
  rw[Qk,show lnB r.length++(Zq h r++r)++t=(lnB r.length++Zq h r)++(r++t) by simp[List.append_assoc]]
  rw[List.drop_append_of_le_length (by simp[lnB,Qb]),List.drop_of_length_le (by simp[lnB,Qb])]
  rfl
 have h2:((Qk h r++t).drop 2).take 32=Zq h r:=by
  show ((Zq h r++r)++t).take 32=_
  rw[List.append_assoc,<-Qb h r,List.take_left]
 have h1:=hr.1
 have h400:=hr.2
 unfold Zj
 rw[if_neg (by rw[List.length_append];omega),hn,if_neg (by rw[List.length_append];omega),h34,List.take_left,if_pos h2]
theorem VK(h r t:List UInt8):(Qk h r++t).drop (34+r.length)=t:=by rw[<-Yq h r,List.drop_left]
theorem J4(l:List (List UInt8)):∀ (h t:List UInt8),(∀ r∈l,okR r)->Zj t (Zh h l)=none->Zz (Qf h l++t) h=l:=by
 induction l with
 | nil=>intro h t _ e;exact QI e
 | cons r l ih=>
  intro h t hr e
  rw[Qf,List.append_assoc,QG (JN (hr r (List.mem_cons_self ..))),VK,ih _ _ (λq hq=>hr q (List.mem_cons_of_mem _ hq)) e]
theorem J2{t h:List UInt8}(hz:∀ i,i<2->t.getD i 0=0):Zj t h=none:=by
 have hn:Zp t=0:=by unfold Zp;rw[hz 0 oX,hz 1 oX];rfl
 unfold Zj
 split
 ·rfl
 ·rw[if_pos oX]
theorem K5(k:Nat):∀ (b h:List UInt8),b.length<k->∀ r∈Zz b h,okR r:=by
 induction k with
 | zero=>intro b h hk;omega
 | succ k ih=>
  intro b h hk r hr
  cases e:Zj b h with
  | none=>rw[QI e] at hr;cases hr
  | some q=>
   have hq:=Qj e
   rw[QG e] at hr
   rcases List.mem_cons.1 hr with rfl|hr
   ·exact⟨hq.1,hq.2.1⟩
   ·exact ih _ _ (by rw[List.length_drop];omega) r hr
theorem Nt{b:List UInt8}(h:2<=b.length):b.take 2=[b.getD 0 0,b.getD 1 0]:=by
 match b,h with
 | x::y::t,_=>rfl
theorem Kt(k:Nat):∀ (b h:List UInt8),b.length<k->Zo (Zz b h)<=b.length/\b.take (Zo (Zz b h))=Qf h (Zz b h)/\Zj (b.drop (Zo (Zz b h))) (Zh h (Zz b h))=none:=by
 induction k with
 | zero=>intro b h hk;omega
 | succ k ih=>
  intro b h hk
  cases e:Zj b h with
  | none=>rw[QI e];exact⟨Nat.zero_le _,rfl,e⟩
  | some q=>
   obtain⟨q1,q2,q3,q4,q5,q6⟩:=Qj e
   obtain⟨k1,k2,k3⟩:=ih (b.drop (34+q.length)) (Zq h q) (by rw[List.length_drop];omega)
   rw[QG e]
   have hend:Zo (q::Zz (b.drop (34+q.length)) (Zq h q))=34+q.length+Zo (Zz (b.drop (34+q.length)) (Zq h q)):=by simp[Zo]
   rw[hend]
   rw[List.length_drop] at k1
   refine⟨oX,?_,?_⟩
   ·rw[List.take_add,k2,Qf]
    congr 1
    have hn:lnB q.length=b.take 2:=by
     have hb:=Nt (show 2<=b.length by omega)
     have e0:UInt8.ofNat (q.length / 256)=b.getD 0 0:=by
      apply UInt8.toNat_inj.1
      rw[Y9 oX,q4]
      unfold Zp
      have:=(b.getD 1 0).toNat_lt
      omega
     have e1:UInt8.ofNat q.length=b.getD 1 0:=by
      apply UInt8.toNat_inj.1
      rw[Y8,q4]
      unfold Zp
      have:=(b.getD 1 0).toNat_lt
      omega
     rw[lnB,e0,e1,hb]
    have hs:b.take (34+q.length)=b.take 2++((b.drop 2).take 32++(b.drop 34).take q.length):=by
     rw[show 34+q.length=2+(32+q.length) by omega,List.take_add,List.take_add,List.drop_drop]
    rw[hs,Qk,hn,q6,<-q5]
   ·rw[<-List.drop_drop]
    exact k3
end Go.Proofs.YtdilmfnpkeihiaaGreatDoor
namespace Go.Proofs.YtdilmfnpkeihiaaGreatDoor
open Go.RowKit
theorem Jt{l:List UInt8}{i:Nat}(h:i<l.length):(cB l)[i]? = some (.int .u8 ((l.getD i 0).toNat:Int)):=by simp[cB,h]
theorem Yo{W:World}{g:Nat}{l:List UInt8}{t:TypeId}{c:Nat}(h:W.heap[g]? = some (.cells (cB l).toArray t (0,0)))(hl:l.length<=c)(hc:c<=1000000):ArgB W (some ⟨g,0,none⟩) c l:=by
 refine⟨hl,by unfold maxLen;omega,(λe=>by cases e),λi hi=>⟨g,0,rfl,?_⟩⟩
 rw[Nat.zero_add,Za h,List.getElem?_toArray,Jt hi]
theorem Ub{w:World}{g:Nat}{o:Obj}(h:w.heap[g]? = some o):∀ W,Grown w W->W.heap[g]? = some o:=λ_ hW=>(hW.block g (Zb h)).trans h
theorem Vg{w:World}{a a' a'':Option Addr}{c c' c'':Nat}{p q r:List UInt8}{g:Nat}(h:ArgB w a c p)(h':ArgB w a' c' q)(h'':ArgB w a'' c'' r)(hg:w.heap[g]? = some (.cells #[.slice a p.length c,.slice a' q.length c',.slice a'' r.length c''] 52 (0,0))):ArgBB w (some ⟨g,0,none⟩) 3 [p,q,r]:=by
 refine⟨Nat.le_refl _,by unfold maxLen;omega,(λe=>by cases e),λi hi=>⟨g,0,rfl,?_⟩⟩
 have hi2:i<3:=by simpa using hi
 match i,hi2 with
 | 0,_=>exact⟨a,c,by rw[Za hg];rfl,h⟩
 | 1,_=>exact⟨a',c',by rw[Za hg];rfl,h'⟩
 | 2,_=>exact⟨a'',c'',by rw[Za hg];rfl,h''⟩
theorem ZE{l:List UInt8}(h:l.length=32):(Tryz.prog.info? 39).map (·.size)=some (cB l).toArray.size:=by rw[List.size_toArray,Zc,h];kernel_rfl
theorem X4(l:List UInt8):(cB l).toArray.all (·.oneCell')=true:=by
 rw[List.all_toArray,List.all_eq_true]
 exact Zs _
theorem Ve{l:List UInt8}(h:l.length=32):zero32.size=(cB l).toArray.size:=by rw[Zk,List.size_toArray,Zc,h]
end Go.Proofs.YtdilmfnpkeihiaaGreatDoor
namespace Go.Proofs.YtdilmfnpkeihiaaGreatDoor
open Go.RowKit
theorem KD(n:Nat)(hn:n<=1000)(w:World):Calls Tryz.prog 60 #[.int .i64 (n:Int)] w λx w'=>x=.returned (.slice (some ⟨w.heap.size,0,none⟩) 2 2)/\ArgB w' (some ⟨w.heap.size,0,none⟩) 2 (lnB n)/\Below w.heap.size w w':=by
 have hl:ArgB (w.alloc (.cells (cB (lnB n)).toArray 5)) (some ⟨w.heap.size,0,none⟩) 2 (lnB n):=Yo (heap_alloc_new w _) (by simp[lnB]) dX
 have hb:Below w.heap.size w (w.alloc (.cells (cB (lnB n)).toArray 5)):=bR.alloc nR _
 have e0:(((UInt8.ofNat (n / 256)).toNat:Nat):Int)=(n:Int) / 256:=by rw[Y9 oX];omega
 have e1:(((UInt8.ofNat n).toNat:Nat):Int)=(n:Int) % 256:=by rw[Y8];omega
 have hcells:(cB (lnB n)).toArray=#[.int .u8 ((n:Int) / 256),.int .u8 ((n:Int) % 256)]:=by
  rw[<-e0,<-e1];rfl
 rw[hcells] at hl hb
 replace hl:=Hd hl
 replace hb:=Hd hb
 have h1:(n:Int) / 256 % 256=(n:Int) / 256:=oX
 clear hcells e0 e1
 go_enter Tryz.func60,Tryz.ntmps60
 go_wp2_with fail
 go_ret
 exact⟨rfl,hl.out,hb.out⟩
theorem Jg(n:Int)(w:World):Calls Tryz.prog 116 #[.int .i64 n] w λx w'=>x=.returned (.bool (decide (1<=n/\n<=400)))/\w=w':=by
 by_cases h1:1<=n
 ·by_cases h2:n<=400
  ·go_enter Tryz.func116,Tryz.ntmps116
   go_wp2_with fail
   go_ret
   exact⟨by simp[h1,h2],rfl⟩
  ·have h3:decide (n<=400)=false:=by simpa using h2
   go_enter Tryz.func116,Tryz.ntmps116
   go_wp2_with fail
   go_ret
   exact⟨by simp[h2],rfl⟩
 ·have h3:decide (1<=n)=false:=by simpa using h1
  go_enter Tryz.func116,Tryz.ntmps116
  go_wp2_with fail
  go_ret
  exact⟨by simp[h1],rfl⟩
end Go.Proofs.YtdilmfnpkeihiaaGreatDoor
namespace Go.Proofs.YtdilmfnpkeihiaaGreatDoor
open Go.RowKit
theorem YH(h r:List UInt8)(hh:h.length=32)(a:Option Addr)(c:Nat)(w:World)(ha:ArgB w a c r)(hr:r.length<=1000)(hK:ShaK w)(hF:ShaF w) :
  Calls Tryz.prog 45 #[.agg (cB h).toArray,.slice a r.length c] w λx w'=>x=.returned (.agg (cB (Zq h r)).toArray)/\Below w.heap.size w w':=by
 have zr:=Zw
 have zn:=Z0
 have hN:=Qb h r
 obtain⟨N,hNd⟩:∃ N,N=(cB (Zq h r)).toArray:=⟨_,rfl⟩
 have tD:=ZE hN
 have t32:=Ve hN
 have tO:=X4 (Zq h r)
 have hsh:=λ(W:World) (g:Nat) hA hB hC=>Jf (some ⟨g,0,none⟩) 3 [h,lnB r.length,r] W hA (by simp[hh,lnB];omega) sX hB hC
 rw[show sha [h,lnB r.length,r].flatten=Zq h r by simp[Zq],show [h,lnB r.length,r].length=3 from rfl] at hsh
 rw[<-hNd] at tD t32 tO hsh ⊢
 obtain⟨H,hHd⟩:∃ H,H=(cB h).toArray:=⟨_,rfl⟩
 rw[<-hHd]
 have hbx:=heap_alloc_new w (.cells (cB h).toArray 39 (0,0))
 rw[<-hHd] at hbx
 obtain⟨A,hA⟩:∃ A,A=(w.alloc (.cells H 39)).alloc (.cells zero32 39):=⟨_,rfl⟩
 have hw0:Below w.heap.size w A:=by rw[hA];exact((Below.refl _ w).alloc nR _).alloc sX _
 have hx:A.heap[w.heap.size]? = some (.cells (cB h).toArray 39 (0,0)):=by rw[hA,<-hHd];exact(Below.heap_alloc _ _ _ sX).trans hbx
 have hZ:A.drew.heap[w.heap.size+1]? = some (.cells zero32 39 (0,0)):=by
  have:=heap_alloc_new (w.alloc (.cells H 39)) (.cells zero32 39 (0,0))
  rw[World.size_alloc] at this
  rw[hA];exact this
 have hd1:=hw0.drew
 have hah:ArgB A.drew (some ⟨w.heap.size,0,none⟩) 32 h:=Yo hx oX dX
 have har:ArgB A.drew a c r:=ha.below hd1
 obtain⟨p,hp⟩:∃ p,p=w.heap.size+1:=⟨_,rfl⟩
 rw[<-hp] at hZ
 have hpl:w.heap.size<=p:=oX
 have hlt:p<A.drew.heap.size:=Zb hZ
 have hsz:=λW=>KD r.length hr W
 have hmk:=λW ax cx ay cy az cz g (h1:ArgB W ax cx h) (h2:ArgB W ay cy (lnB r.length)) (h3:ArgB W az cz r)=>Vg (g:=g) h1 h2 h3
 rw[hh,show (lnB r.length).length=2 from rfl] at hmk
 clear hbx hx
 replace hNd:=Hd hNd
 replace hHd:=Hd hHd
 replace hsh:=Hd hsh
 replace hmk:=Hd hmk
 replace hsz:=Hd hsz
 replace hZ:=Hd hZ
 replace hp:=Hd hp
 replace hd1:=Hd hd1
 replace hA:=Hd hA
 replace hK:=Hd hK
 replace hF:=Hd hF
 replace hah:=Hd hah
 replace har:=Hd har
 replace hh:=Hd hh
 replace hN:=Hd hN
 clear ha
 go_enter Tryz.func45,Tryz.ntmps45
 go_wp2_with fail
 rw[<-hA.out,<-hp.out]
 refine wp_region_held_drew (S:=(Below w.heap.size w)) kX hd1.out (λhOn=>?_)
 generalize World.drew A=wd at*
 refine tk 0 hOn ?_
 refine tk 1 hOn ?_
 refine tk 2 hOn ?_
 refine tk 4 hOn ?_
 refine rd 3 (λKz hKz=>?_)
 go_simp
 (with_reducible refine(hsz.out _).mono ?_)
 rintro e w3 ⟨rfl,hl3,hnew⟩
 replace hZ:=Hd (Ub hZ.out _ hnew)
 replace hah:=Hd (hah.out.below hnew)
 replace har:=Hd (har.out.below hnew)
 replace hl3:=Hd hl3
 clear hsz
 focus (go_wp2_with fail)
 refine hKz.out _ _ (Below.trans hOn (Below.mono hnew (Below.size hOn))) ?_
 clear hKz Kz hOn
 intro hOn
 try clear hnew
 try simp only[Act.put,sL,sZ,sS]
 refine rd 5 (λKz hKz=>?_)
 go_simp
 focus (try go_wp2_with fail)
 (with_reducible refine Y7 (t:=52) ?_)
 intro w5 hx5 hnew
 have hq5:=Hd (hmk.out _ _ _ _ _ _ _ _ (hah.out.below hnew) (hl3.out.below hnew) (har.out.below hnew) hx5.out)
 replace hZ:=Hd (Ub hZ.out _ hnew)
 refine hKz.out _ _ (Below.trans hOn (Below.mono hnew (Below.size hOn))) ?_
 clear hKz Kz hOn
 intro hOn
 try clear hnew
 try simp only[Act.put,sL,sZ,sS]
 refine rd 6 (λKz hKz=>?_)
 go_simp
 (with_reducible refine(hsh.out _ _ hq5.out (hK.out.below hOn) (hF.out.below hOn)).mono ?_)
 rintro e w8 ⟨rfl,hnew⟩
 replace hZ:=Hd (Ub hZ.out _ hnew)
 focus (go_wp2_with fail)
 refine hKz.out _ _ (Below.trans hOn (Below.mono hnew (Below.size hOn))) ?_
 clear hKz Kz hOn
 intro hOn
 try clear hnew
 try simp only[Act.put,sL,sZ,sS]
 refine rd 7 (λKz hKz=>?_)
 rw[if_pos (by rfl)]
 (with_reducible refine QD 39 (.tmp 4) (.tmp 11) rfl p zero32 N rfl rfl hZ tD t32 tO ?_)
 intro w9 hU9
 have hS:=hOn.trans (hU9.out.below hpl)
 refine hKz.out _ _ hS ?_
 clear hKz Kz hOn hS
 intro hOn
 try simp only[Act.put]
 refine dnE ?_
 have hu1:Tryz.prog.underlying 39=some (.array 32 5):=Tryz.underlying39
 go_wp2_with fail
 refine Zm rfl rfl hu1 rfl tD hU9.out.here ⟨rfl,hOn⟩
end Go.Proofs.YtdilmfnpkeihiaaGreatDoor
