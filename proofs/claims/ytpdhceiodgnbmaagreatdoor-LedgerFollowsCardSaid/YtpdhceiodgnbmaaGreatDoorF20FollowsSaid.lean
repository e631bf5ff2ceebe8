import Derived.Test.YtpdhceiodgnbmaaGreatDoorF0FollowsSaid
import Derived.Test.YtpdhceiodgnbmaaGreatDoorF1FollowsSaid
import Derived.Test.YtpdhceiodgnbmaaGreatDoorF19FollowsSaid
import Derived.Test.YtpdhceiodgnbmaaGreatDoorF16FollowsSaid
import Derived.Test.YtpdhceiodgnbmaaGreatDoorF3FollowsSaid
set_option linter.unusedVariables false
set_option linter.unusedSimpArgs false
set_option linter.unnecessarySimpa false
set_option maxRecDepth 100000
set_option maxHeartbeats 8000000
namespace Go.Proofs.YtpdhceiodgnbmaaGreatDoor
open Go.RowKit
structure ArgBB (w:World) (a:Option Addr) (cap:Nat) (ps:List (List UInt8)):Prop where
 len:ps.length<=cap
 most:cap<=maxLen
 nil:a=none->cap=0
 row:∀ i,i<ps.length->∃ b off,a=some ⟨b,off,none⟩/\∃ ai ci,w.cell? ⟨b,off+i,none⟩=some (.slice ai (ps.getD i []).length ci)/\ArgB w ai ci (ps.getD i [])
theorem ArgBB.below{w w':World}{a:Option Addr}{cap:Nat}{ps:List (List UInt8)}(h:ArgBB w a cap ps)(hb:Below w.heap.size w w'):ArgBB w' a cap ps:=
 ⟨h.len,h.most,h.nil,λi hi=>by
  obtain⟨b,off,e,ai,ci,hc,hr⟩:=h.row i hi
  exact⟨b,off,e,ai,ci,(hb.cell (World.block_lt_of_cell? w _ hc)).trans hc,hr.below hb⟩⟩
theorem Xp(ps:List (List UInt8))(i:Nat)(h:i<ps.length):(ps.take (i+1)).flatten=(ps.take i).flatten++ps.getD i []:=by
 rw[List.take_add_one,List.flatten_append]
 simp[List.getD_eq_getElem?_getD,h]
theorem YK(ps:List (List UInt8))(i:Nat):(ps.take i).flatten.length<=ps.flatten.length:=by
 conv=>rhs;rw[<-List.take_append_drop i ps]
 rw[List.flatten_append,List.length_append]
 omega
theorem RJ(ps:List (List UInt8))(i:Nat):(ps.getD i []).length<=ps.flatten.length:=by
 by_cases h:i<ps.length
 ·have h1:=Xp ps i h
  have h2:=YK ps (i+1)
  rw[h1,List.length_append] at h2
  omega
 ·rw[List.getD_eq_getElem?_getD,List.getElem?_eq_none oX]
  exact Nat.zero_le _
theorem UV(a:Option Addr)(ca:Nat)(ps:List (List UInt8))(w:World)(h:ArgBB w a ca ps)(hl:ps.flatten.length<=100000)(hn:ps.length<=100000)(hK:ShaK w)(hF:ShaF w) :
  Calls Tryz.prog 117 #[.slice a ps.length ca] w λe w'=>e=.returned (.agg (cB (sha ps.flatten)).toArray)/\Below w.heap.size w w':=by
 have zr:=QH
 have zn:=QS
 obtain⟨A,hA⟩:∃ A,A=w.alloc (.cells zero32 47):=⟨_,rfl⟩
 have hbA:Below w.heap.size w A:=by rw[hA];exact(Below.refl _ w).alloc nR _
 have hsA:A.heap.size=w.heap.size+1:=by rw[hA];simp
 have hzA:A.heap[w.heap.size]? = some (.cells zero32 47 (0,0)):=by rw[hA];exact heap_alloc_new w _
 have hnew:=Hd (TM A (hF.below hbA))
 have hKA:=Hd (hK.below hbA)
 have hPA:=Hd (h.below hbA)
 replace hbA:=Hd hbA
 replace hsA:=Hd hsA
 replace hzA:=Hd hzA
 replace hA:=Hd hA
 clear hF hK h
 go_enter Tryz.func117,Tryz.ntmps117
 go_wp2_with fail
 rw[<-hA.out]
 with_reducible refine hnew.out.mono ?_
 rintro e w1 ⟨rfl,hH⟩
 replace hH:=Hd hH
 obtain⟨b,hb⟩:∃ b,b=A.heap.size:=⟨_,rfl⟩
 rw[<-hb] at hH ⊢
 replace hb:=Hd hb
 go_wp2_with fail
 go_loopw [5,9] (λ_ j wr=>∃ i:Nat,i<=ps.length/\j=.int .i64 i/\JJ A b (ps.take i).flatten wr)
  (λ_ j _=>ps.length-(intOf j).toNat)
 case atStart=>exact⟨0,Nat.zero_le _,rfl,hH.out⟩
 case round=>
  clear hH
  obtain⟨i,hi,rfl,hH⟩:=hrel
  have hH0:=hH
  obtain⟨_,_,_,hHat,_,_⟩:=hH0
  have hBel:=hHat.bel
  clear hHat
  replace hH:=Hd hH
  by_cases hlt:i<ps.length
  ·obtain⟨pb,po,rfl,ai,ci,hc,hr⟩:=hPA.out.row i hlt
   replace hc:=(hBel.cell (World.block_lt_of_cell? A _ hc)).trans hc
   have hput:=Hd (RO A b (ps.take i).flatten ai ci (ps.getD i []) wr hH.out hr hKA.out (by have:=YK ps i;omega) (by have:=RJ ps i;omega))
   have hnx:=Hd (Xp ps i hlt)
   have hil:(i:Int)<ps.length:=oX
   replace hr:=Hd hr
   generalize ps.getD i []=pi at*
   go_wp2_with fail
   with_reducible refine hput.out.mono ?_
   rintro e w2 ⟨rfl,hH2⟩
   replace hH2:=Hd hH2
   go_wp2_with fail
   go_roundw
   case rel=>exact⟨i+1,oX,by go_num,by rw[hnx.out];exact hH2.out⟩
   case measure=>simp[intOf];omega
  ·obtain rfl:i=ps.length:=oX
   have hsum:=Hd (RK A b (ps.take ps.length).flatten wr hH.out hKA.out (by have:=YK ps ps.length;omega))
   rw[List.take_length] at hsum
   have hszS:(Tryz.prog.info? 47).map (·.size)=some (cB (sha ps.flatten)).toArray.size:=by rw[List.size_toArray,Zd,Yd];kernel_rfl
   have hsZ:zero32.size=(cB (sha ps.flatten)).toArray.size:=by rw[Yi,List.size_toArray,Zd,Yd]
   have hone:(cB (sha ps.flatten)).toArray.all (·.oneCell')=true:=by
    rw[List.all_toArray,List.all_eq_true]
    exact ZU _
   have hu1:Tryz.prog.underlying 47=some (.array 32 5):=Tryz.underlying47
   generalize hDD:(cB (sha ps.flatten)).toArray=DD at*
   replace hDD:=Hd hDD
   replace hBel:=Hd hBel
   go_wp2_with fail
   with_reducible refine hsum.out.mono ?_
   rintro e w3 ⟨rfl,hd⟩
   have hb3:=Hd (hBel.out.trans (hd.mono hBel.out.size))
   have hres:=Hd ((hb3.out.block _ (by rw[hsA.out];omega)).trans hzA.out)
   replace hd:=Hd hd
   go_wp2_with (with_reducible refine Zc rfl 47 (.tmp 2) (.tmp 18) rfl w.heap.size zero32 DD rfl rfl hres hszS hsZ hone ?_)
   intro w9 hU9
   go_wp2_with fail
   refine Z7 rfl rfl hu1 rfl hszS hU9.out.here ⟨by rw[hDD.out],?_⟩
   exact hbA.out.trans ((hb3.out.mono hbA.out.size).trans (hU9.out.below nR))
end Go.Proofs.YtpdhceiodgnbmaaGreatDoor
namespace Go.Proofs.YtpdhceiodgnbmaaGreatDoor
open Go.RowKit
def lnB(n:Nat):List UInt8:=[UInt8.ofNat (n / 256),UInt8.ofNat n]
def Zy(h r:List UInt8):List UInt8:=sha (h++(lnB r.length++r))
theorem QC(h r:List UInt8):(Zy h r).length=32:=Yd _
def Zn(h r:List UInt8):List UInt8:=lnB r.length++(Zy h r++r)
theorem Ya(h r:List UInt8):(Zn h r).length=34+r.length:=by simp[Zn,lnB,QC];omega
def ZA(b:List UInt8):Nat:=(b.getD 0 0).toNat*256+(b.getD 1 0).toNat
def Z1(b h:List UInt8):Option (List UInt8):=
 if b.length<34 then none else if ZA b<1\/400<ZA b\/b.length<34+ZA b then none
 else if (b.drop 2).take 32=Zy h ((b.drop 34).take (ZA b)) then some ((b.drop 34).take (ZA b)) else none
theorem Y5{b h r:List UInt8}(e:Z1 b h=some r):1<=r.length/\r.length<=400/\34+r.length<=b.length/\r.length=ZA b/\r=(b.drop 34).take r.length/\(b.drop 2).take 32=Zy h r:=by
 unfold Z1 at e
 split at e
 ·cases e
 ·split at e
  ·cases e
  ·next h2=>
   split at e
   ·next h3=>
    injection e with e
    have hl:r.length=ZA b:=by rw[<-e,List.length_take,List.length_drop];omega
    refine⟨oX,oX,oX,hl,?_,?_⟩
    ·rw[hl,e]
    ·rw[h3,e]
   ·cases e
def Ji:Nat->List UInt8->List UInt8->List (List UInt8)
 | 0,_,_=>[]
 | k+1,b,h=>match Z1 b h with
  | none=>[]
  | some r=>r::Ji k (b.drop (34+r.length)) (Zy h r)
def Qc(b h:List UInt8):List (List UInt8):=Ji (b.length+1) b h
theorem N4(k:Nat):∀ (j:Nat) (b h:List UInt8),b.length<k->b.length<j->Ji k b h=Ji j b h:=by
 induction k with
 | zero=>intro j b h h1;omega
 | succ k ih=>
  intro j b h h1 h2
  cases j with
  | zero=>omega
  | succ j=>
   simp only[Ji]
   cases e:Z1 b h with
   | none=>rfl
   | some r=>
    have:=Y5 e
    simp only
    rw[ih j (b.drop (34+r.length)) (Zy h r) (by rw[List.length_drop];omega) (by rw[List.length_drop];omega)]
theorem X0{b h:List UInt8}(e:Z1 b h=none):Qc b h=[]:=by simp[Qc,Ji,e]
theorem Xr{b h r:List UInt8}(e:Z1 b h=some r):Qc b h=r::Qc (b.drop (34+r.length)) (Zy h r):=by
 have:=Y5 e
 rw[Qc,Ji,e]
 simp only
 rw[Qc,N4 _ (((b.drop (34+r.length)).length)+1) _ _ (by rw[List.length_drop];omega) oX]
def Zg(h:List UInt8)(l:List (List UInt8)):List UInt8:=l.foldl Zy h
theorem Yv(h:List UInt8)(l:List (List UInt8))(r:List UInt8):Zg h (l++[r])=Zy (Zg h l) r:=by simp[Zg]
theorem Qf{h:List UInt8}(hl:h.length=32)(l:List (List UInt8)):(Zg h l).length=32:=by
 have:∀ (l:List (List UInt8)) (h:List UInt8),h.length=32->(Zg h l).length=32:=by
  intro l
  induction l with
  | nil=>intro h hl;exact hl
  | cons r l ih=>intro h _;exact ih (Zy h r) (QC h r)
 exact this l h hl
def QE:List UInt8->List (List UInt8)->List (List UInt8)
 | _,[]=>[]
 | h,r::l=>Zy h r::QE (Zy h r) l
theorem Vn(l:List (List UInt8)):∀ (h r:List UInt8),QE h (l++[r])=QE h l++[Zy (Zg h l) r]:=by
 induction l with
 | nil=>intro h r;rfl
 | cons q l ih=>intro h r;simp only[List.cons_append,QE,ih];rfl
theorem Ye(l:List (List UInt8)):∀ h,(QE h l).length=l.length:=by
 induction l with
 | nil=>intro h;rfl
 | cons q l ih=>intro h;simp[QE,ih]
theorem GB(l:List (List UInt8))(h:List UInt8)(hl:0<l.length):(QE h l).getD (l.length-1) []=Zg h l:=by
 obtain⟨m,r,rfl⟩:∃ m r,l=m++[r]:=by
  rcases List.eq_nil_or_concat l with e|⟨m,r,e⟩
  ·subst e;simp at hl
  ·exact⟨m,r,by rw[e,List.concat_eq_append]⟩
 rw[Vn,Yv]
 have:=Ye m h
 simp[List.getD_eq_getElem?_getD,this]
def Q0:List UInt8->List (List UInt8)->List UInt8
 | _,[]=>[]
 | h,r::l=>Zn h r++Q0 (Zy h r) l
theorem Gp(l:List (List UInt8)):∀ (h r:List UInt8),Q0 h (l++[r])=Q0 h l++Zn (Zg h l) r:=by
 induction l with
 | nil=>intro h r;simp[Q0,Zg]
 | cons q l ih=>intro h r;simp only[List.cons_append,Q0,ih,List.append_assoc];rfl
def Zh(l:List (List UInt8)):Nat:=(l.map λr=>34+r.length).sum
theorem Xg(l:List (List UInt8))(r:List UInt8):Zh (l++[r])=Zh l+(34+r.length):=by simp[Zh]
theorem XR(l:List (List UInt8)):∀ h,(Q0 h l).length=Zh l:=by
 induction l with
 | nil=>intro h;rfl
 | cons q l ih=>intro h;rw[Q0,List.length_append,ih,Ya];simp[Zh]
def okR(r:List UInt8):Prop:=1<=r.length/\r.length<=400
theorem JV{n:Nat}(h:n<=60000):(UInt8.ofNat (n / 256)).toNat=n / 256:=by rw[UInt8.toNat_ofNat'];omega
theorem JL(n:Nat):(UInt8.ofNat n).toNat=n % 256:=by rw[UInt8.toNat_ofNat']
theorem M9{r t:List UInt8}{h:List UInt8}(hr:r.length<=400):ZA (Zn h r++t)=r.length:=by
 show (UInt8.ofNat (r.length / 256)).toNat*256+(UInt8.ofNat r.length).toNat=r.length
 rw[JV oX,JL]
 omega
theorem Kv{h r t:List UInt8}(hr:okR r):Z1 (Zn h r++t) h=some r:=by
 have hn:=M9 (t:=t) (h:=h) hr.2
 have hl:=Ya h r
 have h34:(Zn h r++t).drop 34=r++t:=by
  rw[Zn,show lnB r.length++(Zy h r++r)++t=(lnB r.length++Zy h r)++(r++t) by simp[List.append_assoc]]
  rw[List.drop_append_of_le_length (by simp[lnB,QC]),List.drop_of_length_le (by simp[lnB,QC])]
  rfl
 have h2:((Zn h r++t).drop 2).take 32=Zy h r:=by
  show ((Zy h r++r)++t).take 32=_
  rw[List.append_assoc,<-QC h r,List.take_left]
 have h1:=hr.1
 have h400:=hr.2
 unfold Z1
 rw[if_neg (by rw[List.length_append];omega),hn,if_neg (by rw[List.length_append];omega),h34,List.take_left,if_pos h2]
theorem Me(h r t:List UInt8):(Zn h r++t).drop (34+r.length)=t:=by rw[<-Ya h r,List.drop_left]
theorem KN(l:List (List UInt8)):∀ (h t:List UInt8),(∀ r∈l,okR r)->Z1 t (Zg h l)=none->Qc (Q0 h l++t) h=l:=by
 induction l with
 | nil=>intro h t _ e;exact X0 e
 | cons r l ih=>
  intro h t hr e
  rw[Q0,List.append_assoc,Xr (Kv (hr r (List.mem_cons_self ..))),Me,ih _ _ (λq hq=>hr q (List.mem_cons_of_mem _ hq)) e]
theorem Gd{t h:List UInt8}(hz:∀ i,i<2->t.getD i 0=0):Z1 t h=none:=by
 have hn:ZA t=0:=by unfold ZA;rw[hz 0 oX,hz 1 oX];rfl
 unfold Z1
 split
 ·rfl
 ·rw[if_pos oX]
theorem TJ(k:Nat):∀ (b h:List UInt8),b.length<k->∀ r∈Qc b h,okR r:=by
 induction k with
 | zero=>intro b h hk;omega
 | succ k ih=>
  intro b h hk r hr
  cases e:Z1 b h with
  | none=>rw[X0 e] at hr;cases hr
  | some q=>
   have hq:=Y5 e
   rw[Xr e] at hr
   rcases List.mem_cons.1 hr with rfl|hr
   ·exact⟨hq.1,hq.2.1⟩
   ·exact ih _ _ (by rw[List.length_drop];omega) r hr
theorem PU{b:List UInt8}(h:2<=b.length):b.take 2=[b.getD 0 0,b.getD 1 0]:=by
 match b,h with
 | x::y::t,_=>rfl
theorem HP(k:Nat):∀ (b h:List UInt8),b.length<k->Zh (Qc b h)<=b.length/\b.take (Zh (Qc b h))=Q0 h (Qc b h)/\Z1 (b.drop (Zh (Qc b h))) (Zg h (Qc b h))=none:=by
 induction k with
 | zero=>intro b h hk;omega
 | succ k ih=>
  intro b h hk
  cases e:Z1 b h with
  | none=>rw[X0 e];exact⟨Nat.zero_le _,rfl,e⟩
  | some q=>
   obtain⟨q1,q2,q3,q4,q5,q6⟩:=Y5 e
   obtain⟨k1,k2,k3⟩:=ih (b.drop (34+q.length)) (Zy h q) (by rw[List.length_drop];omega)
   rw[Xr e]
   have hend:Zh (q::Qc (b.drop (34+q.length)) (Zy h q))=34+q.length+Zh (Qc (b.drop (34+q.length)) (Zy h q)):=by simp[Zh]
   rw[hend]
   rw[List.length_drop] at k1
   refine⟨oX,?_,?_⟩
   ·rw[List.take_add,k2,Q0]
    congr 1
    have hn:lnB q.length=b.take 2:=by
     have hb:=PU (show 2<=b.length by omega)
     have e0:UInt8.ofNat (q.length / 256)=b.getD 0 0:=by
      apply UInt8.toNat_inj.1
      rw[JV oX,q4]
      unfold ZA
      have:=(b.getD 1 0).toNat_lt
      omega
     have e1:UInt8.ofNat q.length=b.getD 1 0:=by
      apply UInt8.toNat_inj.1
      rw[JL,q4]
      unfold ZA
      have:=(b.getD 1 0).toNat_lt
      omega
     rw[lnB,e0,e1,hb]
    have hs:b.take (34+q.length)=b.take 2++((b.drop 2).take 32++(b.drop 34).take q.length):=by
     rw[show 34+q.length=2+(32+q.length) by omega,List.take_add,List.take_add,List.drop_drop]
    rw[hs,Zn,hn,q6,<-q5]
   ·rw[<-List.drop_drop]
    exact k3
end Go.Proofs.YtpdhceiodgnbmaaGreatDoor
namespace Go.Proofs.YtpdhceiodgnbmaaGreatDoor
open Go.RowKit
theorem KT{l:List UInt8}{i:Nat}(h:i<l.length):(cB l)[i]? = some (.int .u8 ((l.getD i 0).toNat:Int)):=by simp[cB,h]
theorem Xu{W:World}{g:Nat}{l:List UInt8}{t:TypeId}{c:Nat}(h:W.heap[g]? = some (.cells (cB l).toArray t (0,0)))(hl:l.length<=c)(hc:c<=1000000):ArgB W (some ⟨g,0,none⟩) c l:=by
 refine⟨hl,by unfold maxLen;omega,(λe=>by cases e),λi hi=>⟨g,0,rfl,?_⟩⟩
 rw[Nat.zero_add,Za h,List.getElem?_toArray,KT hi]
theorem ND{w:World}{g:Nat}{o:Obj}(h:w.heap[g]? = some o):∀ W,Grown w W->W.heap[g]? = some o:=λ_ hW=>(hW.block g (Zb h)).trans h
theorem Vj{w:World}{a a' a'':Option Addr}{c c' c'':Nat}{p q r:List UInt8}{g:Nat}(h:ArgB w a c p)(h':ArgB w a' c' q)(h'':ArgB w a'' c'' r)(hg:w.heap[g]? = some (.cells #[.slice a p.length c,.slice a' q.length c',.slice a'' r.length c''] 24 (0,0))):ArgBB w (some ⟨g,0,none⟩) 3 [p,q,r]:=by
 refine⟨Nat.le_refl _,by unfold maxLen;omega,(λe=>by cases e),λi hi=>⟨g,0,rfl,?_⟩⟩
 have hi2:i<3:=by simpa using hi
 match i,hi2 with
 | 0,_=>exact⟨a,c,by rw[Za hg];rfl,h⟩
 | 1,_=>exact⟨a',c',by rw[Za hg];rfl,h'⟩
 | 2,_=>exact⟨a'',c'',by rw[Za hg];rfl,h''⟩
theorem Qd{l:List UInt8}(h:l.length=32):(Tryz.prog.info? 47).map (·.size)=some (cB l).toArray.size:=by rw[List.size_toArray,Zd,h];kernel_rfl
theorem JE(l:List UInt8):(cB l).toArray.all (·.oneCell')=true:=by
 rw[List.all_toArray,List.all_eq_true]
 exact ZU _
theorem Vr{l:List UInt8}(h:l.length=32):zero32.size=(cB l).toArray.size:=by rw[Yi,List.size_toArray,Zd,h]
end Go.Proofs.YtpdhceiodgnbmaaGreatDoor
namespace Go.Proofs.YtpdhceiodgnbmaaGreatDoor
open Go.RowKit
theorem KF(n:Nat)(hn:n<=1000)(w:World):Calls Tryz.prog 158 #[.int .i64 (n:Int)] w λx w'=>x=.returned (.slice (some ⟨w.heap.size,0,none⟩) 2 2)/\ArgB w' (some ⟨w.heap.size,0,none⟩) 2 (lnB n)/\Below w.heap.size w w':=by
 have hl:ArgB (w.alloc (.cells (cB (lnB n)).toArray 5)) (some ⟨w.heap.size,0,none⟩) 2 (lnB n):=Xu (heap_alloc_new w _) (by simp[lnB]) dX
 have hb:Below w.heap.size w (w.alloc (.cells (cB (lnB n)).toArray 5)):=bR.alloc nR _
 have e0:(((UInt8.ofNat (n / 256)).toNat:Nat):Int)=(n:Int) / 256:=by rw[JV oX];omega
 have e1:(((UInt8.ofNat n).toNat:Nat):Int)=(n:Int) % 256:=by rw[JL];omega
 have hcells:(cB (lnB n)).toArray=#[.int .u8 ((n:Int) / 256),.int .u8 ((n:Int) % 256)]:=by
  rw[<-e0,<-e1];rfl
 rw[hcells] at hl hb
 replace hl:=Hd hl
 replace hb:=Hd hb
 have h1:(n:Int) / 256 % 256=(n:Int) / 256:=oX
 clear hcells e0 e1
 go_enter Tryz.func158,Tryz.ntmps158
 go_wp2_with fail
 go_ret
 exact⟨rfl,hl.out,hb.out⟩
theorem JC(n:Int)(w:World):Calls Tryz.prog 157 #[.int .i64 n] w λx w'=>x=.returned (.bool (decide (1<=n/\n<=400)))/\w=w':=by
 by_cases h1:1<=n
 ·by_cases h2:n<=400
  ·go_enter Tryz.func157,Tryz.ntmps157
   go_wp2_with fail
   go_ret
   exact⟨by simp[h1,h2],rfl⟩
  ·have h3:decide (n<=400)=false:=by simpa using h2
   go_enter Tryz.func157,Tryz.ntmps157
   go_wp2_with fail
   go_ret
   exact⟨by simp[h2],rfl⟩
 ·have h3:decide (1<=n)=false:=by simpa using h1
  go_enter Tryz.func157,Tryz.ntmps157
  go_wp2_with fail
  go_ret
  exact⟨by simp[h1],rfl⟩
end Go.Proofs.YtpdhceiodgnbmaaGreatDoor
namespace Go.Proofs.YtpdhceiodgnbmaaGreatDoor
open Go.RowKit
theorem XO(h r:List UInt8)(hh:h.length=32)(a:Option Addr)(c:Nat)(w:World)(ha:ArgB w a c r)(hr:r.length<=1000)(hK:ShaK w)(hF:ShaF w) :
  Calls Tryz.prog 128 #[.agg (cB h).toArray,.slice a r.length c] w λx w'=>x=.returned (.agg (cB (Zy h r)).toArray)/\Below w.heap.size w w':=by
 have zr:=QH
 have zn:=QS
 have hN:=QC h r
 obtain⟨N,hNd⟩:∃ N,N=(cB (Zy h r)).toArray:=⟨_,rfl⟩
 have tD:=Qd hN
 have t32:=Vr hN
 have tO:=JE (Zy h r)
 have hsh:=λ(W:World) (g:Nat) hA hB hC=>UV (some ⟨g,0,none⟩) 3 [h,lnB r.length,r] W hA (by simp[hh,lnB];omega) sX hB hC
 rw[show sha [h,lnB r.length,r].flatten=Zy h r by simp[Zy],show [h,lnB r.length,r].length=3 from rfl] at hsh
 rw[<-hNd] at tD t32 tO hsh ⊢
 obtain⟨H,hHd⟩:∃ H,H=(cB h).toArray:=⟨_,rfl⟩
 rw[<-hHd]
 have hbx:=heap_alloc_new w (.cells (cB h).toArray 47 (0,0))
 rw[<-hHd] at hbx
 obtain⟨A,hA⟩:∃ A,A=(w.alloc (.cells H 47)).alloc (.cells zero32 47):=⟨_,rfl⟩
 have hw0:Below w.heap.size w A:=by rw[hA];exact((Below.refl _ w).alloc nR _).alloc sX _
 have hx:A.heap[w.heap.size]? = some (.cells (cB h).toArray 47 (0,0)):=by rw[hA,<-hHd];exact(Below.heap_alloc _ _ _ sX).trans hbx
 have hZ:A.drew.heap[w.heap.size+1]? = some (.cells zero32 47 (0,0)):=by
  have:=heap_alloc_new (w.alloc (.cells H 47)) (.cells zero32 47 (0,0))
  rw[World.size_alloc] at this
  rw[hA];exact this
 have hd1:=hw0.drew
 have hah:ArgB A.drew (some ⟨w.heap.size,0,none⟩) 32 h:=Xu hx oX dX
 have har:ArgB A.drew a c r:=ha.below hd1
 obtain⟨p,hp⟩:∃ p,p=w.heap.size+1:=⟨_,rfl⟩
 rw[<-hp] at hZ
 have hpl:w.heap.size<=p:=oX
 have hlt:p<A.drew.heap.size:=Zb hZ
 have hsz:=λW=>KF r.length hr W
 have hmk:=λW ax cx ay cy az cz g (h1:ArgB W ax cx h) (h2:ArgB W ay cy (lnB r.length)) (h3:ArgB W az cz r)=>Vj (g:=g) h1 h2 h3
 rw[hh,show (lnB r.length).length=2 from rfl] at hmk
 clear hbx hx
 replace hNd:=Hd hNd
 replace hHd:=Hd hHd
 replace hsh:=Hd hsh
 replace hmk:=Hd hmk
 replace hsz:=Hd hsz
 replace hZ:=Hd hZ
 replace hp:=Hd hp
 replace hd1:=Hd hd1
 replace hA:=Hd hA
 replace hK:=Hd hK
 replace hF:=Hd hF
 replace hah:=Hd hah
 replace har:=Hd har
 replace hh:=Hd hh
 replace hN:=Hd hN
 clear ha
 go_enter Tryz.func128,Tryz.ntmps128
 go_wp2_with fail
 rw[<-hA.out,<-hp.out]
 refine wp_region_held_drew (S:=(Below w.heap.size w)) kX hd1.out (λhOn=>?_)
 generalize World.drew A=wd at*
 refine tk 0 hOn ?_
 refine tk 1 hOn ?_
 refine tk 2 hOn ?_
 refine tk 4 hOn ?_
 refine rd 3 (λKz hKz=>?_)
 go_simp
 (with_reducible refine(hsz.out _).mono ?_)
 rintro e w3 ⟨rfl,hl3,hnew⟩
 replace hZ:=Hd (ND hZ.out _ hnew)
 replace hah:=Hd (hah.out.below hnew)
 replace har:=Hd (har.out.below hnew)
 replace hl3:=Hd hl3
 clear hsz
 focus (go_wp2_with fail)
 refine hKz.out _ _ (Below.trans hOn (Below.mono hnew (Below.size hOn))) ?_
 clear hKz Kz hOn
 intro hOn
 try clear hnew
 try simp only[Act.put,sL,sZ,sS]
 refine rd 5 (λKz hKz=>?_)
 go_simp
 focus (try go_wp2_with fail)
 (with_reducible refine Z0 (t:=24) ?_)
 intro w5 hx5 hnew
 have hq5:=Hd (hmk.out _ _ _ _ _ _ _ _ (hah.out.below hnew) (hl3.out.below hnew) (har.out.below hnew) hx5.out)
 replace hZ:=Hd (ND hZ.out _ hnew)
 refine hKz.out _ _ (Below.trans hOn (Below.mono hnew (Below.size hOn))) ?_
 clear hKz Kz hOn
 intro hOn
 try clear hnew
 try simp only[Act.put,sL,sZ,sS]
 refine rd 6 (λKz hKz=>?_)
 go_simp
 (with_reducible refine(hsh.out _ _ hq5.out (hK.out.below hOn) (hF.out.below hOn)).mono ?_)
 rintro e w8 ⟨rfl,hnew⟩
 replace hZ:=Hd (ND hZ.out _ hnew)
 focus (go_wp2_with fail)
 refine hKz.out _ _ (Below.trans hOn (Below.mono hnew (Below.size hOn))) ?_
 clear hKz Kz hOn
 intro hOn
 try clear hnew
 try simp only[Act.put,sL,sZ,sS]
 refine rd 7 (λKz hKz=>?_)
 rw[if_pos (by rfl)]
 (with_reducible refine Zl 47 (.tmp 4) (.tmp 11) rfl p zero32 N rfl rfl hZ tD t32 tO ?_)
 intro w9 hU9
 have hS:=hOn.trans (hU9.out.below hpl)
 refine hKz.out _ _ hS ?_
 clear hKz Kz hOn hS
 intro hOn
 try simp only[Act.put]
 refine dnE ?_
 have hu1:Tryz.prog.underlying 47=some (.array 32 5):=Tryz.underlying47
 go_wp2_with fail
 refine Z7 rfl rfl hu1 rfl tD hU9.out.here ⟨rfl,hOn⟩
end Go.Proofs.YtpdhceiodgnbmaaGreatDoor
