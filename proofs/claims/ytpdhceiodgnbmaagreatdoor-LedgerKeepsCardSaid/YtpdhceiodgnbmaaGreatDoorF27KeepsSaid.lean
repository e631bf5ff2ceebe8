import Derived.Test.YtpdhceiodgnbmaaGreatDoorF25KeepsSaid
import Derived.Test.YtpdhceiodgnbmaaGreatDoorF26KeepsSaid
set_option linter.all false
set_option maxRecDepth 100000
set_option maxHeartbeats 8000000
namespace Go.Proofs.YtpdhceiodgnbmaaGreatDoor
open Go.RowKit
def cut(bs:List UInt8)(o m:Nat):List UInt8:=(bs.drop o).take m
theorem QC{l:List UInt8}{k n:Nat}(h:k+n<=l.length):(cut l k n).length=n:=by unfold cut;rw[List.length_take,List.length_drop];omega
theorem Nw{l:List UInt8}{k n:Nat}(h:k+n<=l.length):nO (l.drop k,false) n=cut l k n:=by
 have hh:¬(false=true\/(l.drop k).length<n):=by
  rw[List.length_drop];rintro(h1|h1)
  ·cases h1
  ·omega
 unfold nO Qv;rw[if_neg hh];rfl
theorem Yw{l:List UInt8}{k n:Nat}(h:k+n<=l.length):nB (l.drop k,false) n=(l.drop (k+n),false):=by
 rw[MN jH,List.drop_drop]
theorem YX{l:List UInt8}{k n:Nat}(h:k+n<=l.length):nN (l.drop k,false) n=(ZO (cut l k n) 0:Nat):=by
 rw[<-Nw h];rfl
theorem J3{l:List UInt8}{k:Nat}(h:k+1<=l.length):cut l k 1=[l.getD k 0]:=by
 obtain⟨b,hb⟩:=FI (QC h);rw[hb];have:(cut l k 1)[0]? = some b:=by rw[hb];rfl
 unfold cut at this;rw[List.getElem?_take_of_lt dX,List.getElem?_drop,Nat.add_zero] at this;rw[List.getD_eq_getElem?_getD,this];rfl
theorem QB(l:List UInt8)(k n:Nat):l.drop k=cut l k n++l.drop (k+n):=by
 unfold cut;rw[<-List.drop_drop,List.take_append_drop]
theorem U6{l:List UInt8}{k n:Nat}(h:l.length=k+n):l.drop k=cut l k n:=by
 unfold cut;rw[List.take_of_length_le jH]
theorem UF{l:List UInt8}(h:0<l.length):l=l.getD 0 0::l.drop 1:=by
 match l,h with
 | b::r,_=>rfl
theorem Us{l:List UInt8}(h:0<l.length):nN (l,false) 1=((l.getD 0 0).toNat:Int):=by
 have:=YX (l:=l) (k:=0) (n:=1) aB;rw[List.drop_zero,J3 aB,Yu] at this;exact this
theorem X5{l:List UInt8}(h:0<l.length):nB (l,false) 1=(l.drop 1,false):=MN aB
theorem KA{n:Nat}(h:n<=562949953421567):cO (n:Int):=⟨aB,aB⟩
theorem MZ(b:UInt8):cO (b.toNat:Int):=by have:=b.toNat_lt;exact⟨aB,aB⟩
def Ue(bs:List UInt8):Prop:=∃ (y:Rc) (N:Nat),y.Ok/\(N=0->y.chk=0/\y.out=bs)/\N<=20/\
 (∀ (a:Option Addr) (c:Nat) (w:World) (ea:Nat->Addr),aJ w a c bs->(∀ ad,a=some ad->∃ b o,ad=⟨b,o,none⟩/\b<w.heap.size)->aQ 298 aK w ea->
  Calls Tryz.prog 29 #[.slice a bs.length c] w λe w2=>∃ v,e=.returned (.tuple #[.agg y.list.toArray,v])/\aT ea w2 v N/\Below w.heap.size w w2)
theorem PY(bs:List UInt8)(h:bs.length=0):Ue bs:=by
 have e:bs=[]:=List.length_eq_zero_iff.1 h;subst e;refine⟨Rc.zero,2,Rc.zero_ok,(λh=>by cases h),dX,λa c w ea ha dR H=>?_⟩;exact Rf [] a c 0 w ea (by rw[HS dX]) ha rfl dX dR H
theorem LM(bs:List UInt8)(h:0<bs.length)(hl:bs.length<=500)(hk:dz ((bs.getD 0 0).toNat:Int) 1 4=false):Ue bs:=by
 refine⟨Rc.zero,7,Rc.zero_ok,(λh=>by cases h),dX,λa c w ea ha dR H=>?_⟩
 ·exact W6 bs a c _ w ea _ (Us h) (by rw[X5 h]) hk ha rfl aB dR H
def jV(k:Int)(y:Rc)(s2:List UInt8×Bool)(s1:List UInt8×Bool):Prop:=∀ (w:World) W pp,W.heap[pp]? = some (.cells (Rc.ofKind k).list.toArray 49 (0,0))->bD W (w.heap.size+1) w.heap.size s1.1 s1.2->pp≠w.heap.size+1->w.heap.size<=pp->
 Calls Tryz.prog 65 #[.pointer (some ⟨w.heap.size+1,0,none⟩),.pointer (some ⟨pp,0,none⟩)] W λe w2=>e=.returned (.slice none 0 0)/\w2.heap[pp]? = some (.cells y.list.toArray 49 (0,0))/\bD w2 (w.heap.size+1) w.heap.size s2.1 s2.2/\Only (λk=>k=pp\/k=w.heap.size+1) W w2
def MP(k:Int)(y:Rc)(s2:List UInt8×Bool)(s1:List UInt8×Bool):Prop:=∀ (w:World) W pp,W.heap[pp]? = some (.cells (Rc.ofKind k).list.toArray 49 (0,0))->bD W (w.heap.size+1) w.heap.size s1.1 s1.2->pp≠w.heap.size+1->w.heap.size<=pp->
 Calls Tryz.prog 65 #[.pointer (some ⟨w.heap.size+1,0,none⟩),.pointer (some ⟨pp,0,none⟩)] W λe w2=>∃ v,e=.returned v/\w2.heap[pp]? = some (.cells y.list.toArray 49 (0,0))/\bD w2 (w.heap.size+1) w.heap.size s2.1 s2.2/\Only (λk=>k=pp\/k=w.heap.size+1) W w2
theorem jV.v{k:Int}{y:Rc}{s2 s1:List UInt8×Bool}(h:jV k y s2 s1):MP k y s2 s1:=λw W pp a1 a2 a3 a4=>(h w W pp a1 a2 a3 a4).mono λe w2 ⟨q1,q2⟩=>⟨_,q1,q2⟩
theorem Jp(bs:List UInt8)(h:0<bs.length)(hl:bs.length<=500)(k:Int)(hk:((bs.getD 0 0).toNat:Int)=k)(hi:dz k 1 4=true)(y:Rc)(s2:List UInt8×Bool)(hr:MP k y s2 (nB (bs,false) 1))(h2:s2.2=true):Ue bs:=by
 refine⟨Rc.zero,2,Rc.zero_ok,(λh=>by cases h),dX,λa c w ea ha dR H=>?_⟩
 ·exact TG bs a c _ w ea k (by rw[<-hk];exact Us h) y s2 (by rw[X5 h]) hi (hr w) h2 ha rfl aB dR H
theorem VY(bs:List UInt8)(h:0<bs.length)(hl:bs.length<=500)(k:Int)(hk:((bs.getD 0 0).toNat:Int)=k)(hi:dz k 1 4=true)(y:Rc)(s2:List UInt8×Bool)(hr:MP k y s2 (nB (bs,false) 1))(h2:s2.2=false)(h3:0<s2.1.length):Ue bs:=by
 refine⟨Rc.zero,3,Rc.zero_ok,(λh=>by cases h),dX,λa c w ea ha dR H=>?_⟩
 ·exact PI bs a c _ w ea k (by rw[<-hk];exact Us h) y s2 (by rw[X5 h]) hi (hr w) h2 h3 ha rfl aB dR H
theorem Do(y:Rc):y.chk<=20:=by
 unfold Rc.chk;split
 ·decide
 ·split
  ·decide
  ·split
   ·split
    ·decide
    ·split
     ·next hb=>have:=U7 hb;omega
     ·split<;>decide
   ·split<;>decide
theorem Kw(bs:List UInt8)(h:0<bs.length)(hl:bs.length<=500)(k:Int)(hk:((bs.getD 0 0).toNat:Int)=k)(hi:dz k 1 4=true)(y:Rc)(hy:y.Ok)(s2:List UInt8×Bool)(hr:jV k y s2 (nB (bs,false) 1))(h2:s2.2=false)(h3:s2.1.length=0)
  (ho:y.chk=0->y.out=bs):Ue bs:=by
 by_cases h0:y.chk=0
 ·have ho:=ho h0;refine⟨y,0,hy,λ_=>⟨h0,ho⟩,dX,λa c w ea ha dR H=>?_⟩
  ·refine(UK y hy h0 a c _ w (by rw[ho];exact ha) (by rw[ho]) aB dR ea H).mono ?_;rintro e w2 ⟨rfl,hb⟩;exact⟨_,rfl,.inl ⟨rfl,rfl⟩,hb⟩
 ·refine⟨Rc.zero,y.chk,Rc.zero_ok,λh=>absurd h h0,Do y,λa c w ea ha dR H=>?_⟩
  ·exact Ly bs a c _ w ea k (by rw[<-hk];exact Us h) y hy s2 (by rw[X5 h]) hi (hr w) h2 h3 h0 ha rfl aB dR H
theorem YB{l:List UInt8}(h:l.length=8){v:Int}(hv:v=(ZO l 0:Nat))(h2:v<=1099511627776):Zh v=l:=by
 rw[hv] at h2 ⊢;exact LE l h aB
theorem K6{bs:List UInt8}(hl:bs.length<=500):(nB (bs,false) 1).1.length<=1000000:=Nat.le_trans (Ya _ _) (by show bs.length<=_;omega)
theorem Fx(bs:List UInt8)(h:0<bs.length)(hl:bs.length<=500)(hk:((bs.getD 0 0).toNat:Int)=2):Ue bs:=by
 have hr:jV 2 ((Rc.ofKind 2).rest2 (nB (bs,false) 1)) (Vw (nB (bs,false) 1)) (nB (bs,false) 1):=λw W pp h1 h2 h3 h4=>RT pp (w.heap.size+1) w.heap.size (Rc.ofKind 2) (nB (bs,false) 1) W Zu Zu rfl h1 h2 h3 h4 (K6 hl);have hs:Vw (nB (bs,false) 1)=sP (bs,false) [1,8,8,1,4,8]:=rfl;rcases Nat.lt_trichotomy bs.length 30 with hlt|heq|hgt
 ·exact Jp bs h hl 2 hk dX _ _ hr.v (by rw[hs];exact XQ _ _ (by simpa using hlt))
 ·have q1:nB (bs,false) 1=(bs.drop 1,false):=X5 h;have hy:(Rc.ofKind 2).rest2 (nB (bs,false) 1)={ Rc.ofKind 2 with obj:=(ZO (cut bs 1 8) 0:Nat),id:=(ZO (cut bs 9 8) 0:Nat),way:=((bs.getD 17 0).toNat:Int),index:=(ZO (cut bs 18 4) 0:Nat),tick:=(ZO (cut bs 22 8) 0:Nat) }:=by
   unfold Rc.rest2;rw[q1,Yw aB,Yw aB,Yw aB,Yw aB,YX aB,YX aB,YX aB,YX aB,YX aB,J3 (k:=17) aB,Yu]
  have hg:=λl=>KA (U0 l 0 dX);have hyk:((Rc.ofKind 2).rest2 (nB (bs,false) 1)).Ok:=by
   rw[hy];exact⟨by show cO 2;decide,hg _,hg _,Rc.zero_ok.name,Rc.zero_ok.p,Rc.zero_ok.root,Rc.zero_ok.file,MZ _,hg _,Rc.zero_ok.verdict,hg _⟩
  refine Kw bs h hl 2 hk dX _ hyk _ hr ?_ ?_ ?_
  ·rw[hs,Ye _ _ bf]
  ·rw[hs,Ye _ _ bf];simp;omega
  ·intro hc;obtain⟨_,hn,_,_⟩:=Rc.chk0 hc;obtain⟨r1,r2,r3,_⟩:=XU hn;obtain⟨r3,r4,r5⟩:=r3 rfl;unfold Rc.out Rc.head;rw[if_neg (by show ¬(2:Int)=1;decide),if_pos bT];have e1:=YB (QC (l:=bs) (k:=1) (n:=8) aB) (v:=((Rc.ofKind 2).rest2 (nB (bs,false) 1)).obj) (by rw[hy]) r1.2;have e2:=YB (QC (l:=bs) (k:=9) (n:=8) aB) (v:=((Rc.ofKind 2).rest2 (nB (bs,false) 1)).id) (by rw[hy]) r5.2;have e3:=YB (QC (l:=bs) (k:=22) (n:=8) aB) (v:=((Rc.ofKind 2).rest2 (nB (bs,false) 1)).tick) (by rw[hy]) r2.2;have e4:(Zh ((Rc.ofKind 2).rest2 (nB (bs,false) 1)).index).drop 4=cut bs 18 4:=by rw[hy];exact Lv _ (QC aB)
   have e5 : [b8 ((Rc.ofKind 2).rest2 (nB (bs,false) 1)).way]=cut bs 17 1:=by rw[hy,J3 aB];show [b8 ((bs.getD 17 0).toNat:Int)]=_;rw[Js]
   have e6:b8 ((Rc.ofKind 2).rest2 (nB (bs,false) 1)).kind=bs.getD 0 0:=by
    rw[<-Js (bs.getD 0 0),hk];rfl
   rw[e1,e2,e3,e4,e5,e6,List.cons_append,<-U6 (l:=bs) (k:=22) (n:=8) aB,<-QB bs 18 4,<-QB bs 17 1,<-QB bs 9 8,<-QB bs 1 8,<-UF h]
 ·exact VY bs h hl 2 hk dX _ _ hr.v (by rw[hs,Ye _ _ bf]) (by rw[hs,Ye _ _ bf];simp;omega)
theorem Fp(bs:List UInt8)(h:0<bs.length)(hl:bs.length<=500)(hk:((bs.getD 0 0).toNat:Int)=3):Ue bs:=by
 have hr:jV 3 ((Rc.ofKind 3).rest3 (nB (bs,false) 1)) (VC (nB (bs,false) 1)) (nB (bs,false) 1):=λw W pp h1 h2 h3 h4=>RP pp (w.heap.size+1) w.heap.size (Rc.ofKind 3) (nB (bs,false) 1) W Zu Zu rfl h1 h2 h3 h4 (K6 hl);have hs:VC (nB (bs,false) 1)=sP (bs,false) [1,8,8,1,8]:=rfl;rcases Nat.lt_trichotomy bs.length 26 with hlt|heq|hgt
 ·exact Jp bs h hl 3 hk dX _ _ hr.v (by rw[hs];exact XQ _ _ (by simpa using hlt))
 ·have q1:nB (bs,false) 1=(bs.drop 1,false):=X5 h;have hy:(Rc.ofKind 3).rest3 (nB (bs,false) 1)={ Rc.ofKind 3 with obj:=(ZO (cut bs 1 8) 0:Nat),id:=(ZO (cut bs 9 8) 0:Nat),verdict:=((bs.getD 17 0).toNat:Int),tick:=(ZO (cut bs 18 8) 0:Nat) }:=by
   unfold Rc.rest3;rw[q1,Yw aB,Yw aB,Yw aB,YX aB,YX aB,YX aB,YX aB,J3 (k:=17) aB,Yu]
  have hg:=λl=>KA (U0 l 0 dX);have hyk:((Rc.ofKind 3).rest3 (nB (bs,false) 1)).Ok:=by
   rw[hy];exact⟨by show cO 3;decide,hg _,hg _,Rc.zero_ok.name,Rc.zero_ok.p,Rc.zero_ok.root,Rc.zero_ok.file,Rc.zero_ok.way,Rc.zero_ok.index,MZ _,hg _⟩
  refine Kw bs h hl 3 hk dX _ hyk _ hr ?_ ?_ ?_
  ·rw[hs,Ye _ _ bf]
  ·rw[hs,Ye _ _ bf];simp;omega
  ·intro hc;obtain⟨_,hn,_,_⟩:=Rc.chk0 hc;obtain⟨r1,r2,_,r3⟩:=XU hn;obtain⟨r3,r5⟩:=r3 rfl;unfold Rc.out Rc.head;rw[if_neg (by show ¬(3:Int)=1;decide),if_neg (by show ¬(3:Int)=2;decide),if_pos bT];have e1:=YB (QC (l:=bs) (k:=1) (n:=8) aB) (v:=((Rc.ofKind 3).rest3 (nB (bs,false) 1)).obj) (by rw[hy]) r1.2;have e2:=YB (QC (l:=bs) (k:=9) (n:=8) aB) (v:=((Rc.ofKind 3).rest3 (nB (bs,false) 1)).id) (by rw[hy]) r5.2;have e3:=YB (QC (l:=bs) (k:=18) (n:=8) aB) (v:=((Rc.ofKind 3).rest3 (nB (bs,false) 1)).tick) (by rw[hy]) r2.2;have e5 : [b8 ((Rc.ofKind 3).rest3 (nB (bs,false) 1)).verdict]=cut bs 17 1:=by rw[hy,J3 aB];show [b8 ((bs.getD 17 0).toNat:Int)]=_;rw[Js]
   have e6:b8 ((Rc.ofKind 3).rest3 (nB (bs,false) 1)).kind=bs.getD 0 0:=by
    rw[<-Js (bs.getD 0 0),hk];rfl
   rw[e1,e2,e3,e5,e6,List.cons_append,<-U6 (l:=bs) (k:=18) (n:=8) aB,<-QB bs 17 1,<-QB bs 9 8,<-QB bs 1 8,<-UF h]
 ·exact VY bs h hl 3 hk dX _ _ hr.v (by rw[hs,Ye _ _ bf]) (by rw[hs,Ye _ _ bf];simp;omega)
theorem Fn(bs:List UInt8)(h:0<bs.length)(hl:bs.length<=500)(hk:((bs.getD 0 0).toNat:Int)=4):Ue bs:=by
 have hr:jV 4 ((Rc.ofKind 4).rest4 (nB (bs,false) 1)) (Vz (nB (bs,false) 1)) (nB (bs,false) 1):=λw W pp h1 h2 h3 h4=>RW pp (w.heap.size+1) w.heap.size (Rc.ofKind 4) (nB (bs,false) 1) W Zu Zu rfl h1 h2 h3 h4 (K6 hl);have hs:Vz (nB (bs,false) 1)=sP (bs,false) [1,8,8]:=rfl;rcases Nat.lt_trichotomy bs.length 17 with hlt|heq|hgt
 ·exact Jp bs h hl 4 hk dX _ _ hr.v (by rw[hs];exact XQ _ _ (by simpa using hlt))
 ·have q1:nB (bs,false) 1=(bs.drop 1,false):=X5 h;have hy:(Rc.ofKind 4).rest4 (nB (bs,false) 1)={ Rc.ofKind 4 with obj:=(ZO (cut bs 1 8) 0:Nat),tick:=(ZO (cut bs 9 8) 0:Nat) }:=by
   unfold Rc.rest4;rw[q1,Yw aB,YX aB,YX aB]
  have hg:=λl=>KA (U0 l 0 dX);have hyk:((Rc.ofKind 4).rest4 (nB (bs,false) 1)).Ok:=by
   rw[hy];exact⟨by show cO 4;decide,hg _,Rc.zero_ok.id,Rc.zero_ok.name,Rc.zero_ok.p,Rc.zero_ok.root,Rc.zero_ok.file,Rc.zero_ok.way,Rc.zero_ok.index,Rc.zero_ok.verdict,hg _⟩
  refine Kw bs h hl 4 hk dX _ hyk _ hr ?_ ?_ ?_
  ·rw[hs,Ye _ _ bf]
  ·rw[hs,Ye _ _ bf];simp;omega
  ·intro hc;obtain⟨_,hn,_,_⟩:=Rc.chk0 hc;obtain⟨r1,r2,_,r3⟩:=XU hn;unfold Rc.out Rc.head;rw[if_neg (by show ¬(4:Int)=1;decide),if_neg (by show ¬(4:Int)=2;decide),if_neg (by show ¬(4:Int)=3;decide)];have e1:=YB (QC (l:=bs) (k:=1) (n:=8) aB) (v:=((Rc.ofKind 4).rest4 (nB (bs,false) 1)).obj) (by rw[hy]) r1.2;have e3:=YB (QC (l:=bs) (k:=9) (n:=8) aB) (v:=((Rc.ofKind 4).rest4 (nB (bs,false) 1)).tick) (by rw[hy]) r2.2;have e6:b8 ((Rc.ofKind 4).rest4 (nB (bs,false) 1)).kind=bs.getD 0 0:=by
    rw[<-Js (bs.getD 0 0),hk];rfl
   rw[e1,e3,e6,List.cons_append,<-U6 (l:=bs) (k:=9) (n:=8) aB,<-QB bs 1 8,<-UF h]
 ·exact VY bs h hl 4 hk dX _ _ hr.v (by rw[hs,Ye _ _ bf]) (by rw[hs,Ye _ _ bf];simp;omega)
theorem FQ{l:List UInt8}(h:l.length=9):∃ b0 b1 b2 b3 b4 b5 b6 b7 b8,l=[b0,b1,b2,b3,b4,b5,b6,b7,b8]:=by
 match l,h with
 | [b0,b1,b2,b3,b4,b5,b6,b7,b8],_=>exact⟨b0,b1,b2,b3,b4,b5,b6,b7,b8,rfl⟩
def q9(l:List UInt8):P6:=⟨((l.getD 0 0).toNat:Int)*256+(l.getD 1 0).toNat,(l.getD 2 0).toNat,(l.getD 3 0).toNat,((l.getD 4 0).toNat:Int)*256+(l.getD 5 0).toNat,((l.getD 6 0).toNat:Int)*256+(l.getD 7 0).toNat,(l.getD 8 0).toNat⟩
def Bk(l:List UInt8):Option (ByteArray×Int×Nat):=Qu (q9 l).s (q9 l).n (q9 l).k (q9 l).d (q9 l).t (q9 l).r
theorem F4(l:List UInt8):(q9 l).Ok:=by
 have h:=λi=>(l.getD i 0).toNat_lt;have h0:=h 0;have h1:=h 1;have h2:=h 2;have h3:=h 3;have h4:=h 4;have h5:=h 5;have h6:=h 6;have h7:=h 7;have h8:=h 8;refine⟨?_,?_,?_,?_,?_,?_⟩<;>simp only[q9,cO]<;>omega
theorem Ve{z:Int}{b:UInt8}(h:z % 256=b.toNat):b8 z=b:=by
 refine UInt8.toNat_inj.1 ?_;have:=VG z;omega
theorem Fb{l:List UInt8}(h:l.length=9):ZL (q9 l).s (q9 l).n (q9 l).k (q9 l).d (q9 l).t (q9 l).r=l:=by
 obtain⟨b0,b1,b2,b3,b4,b5,b6,b7,b8',rfl⟩:=FQ h;have k0:=b0.toNat_lt;have k1:=b1.toNat_lt;have k2:=b2.toNat_lt;have k3:=b3.toNat_lt;have k4:=b4.toNat_lt;have k5:=b5.toNat_lt;have k6:=b6.toNat_lt;have k7:=b7.toNat_lt;have k8:=b8'.toNat_lt;unfold ZL q9;simp only[List.getD_cons_zero,List.getD_cons_succ];rw[Ve (b:=b0) aB,Ve (b:=b1) aB,Ve (b:=b2) aB,Ve (b:=b3) aB,Ve (b:=b4) aB,Ve (b:=b5) aB,Ve (b:=b6) aB,Ve (b:=b7) aB,Ve (b:=b8') aB]
theorem H7(xs:List UInt8)(h9:xs.length=9)(g cc:Nat)(w:World)(hA:aJ w (some ⟨g,0,none⟩) cc xs)(ea:Nat->Addr)(H:aQ 298 aK w ea) :
  (Bk xs=none->Calls Tryz.prog 66 #[.slice (some ⟨g,0,none⟩) 9 cc] w λe w2=>e=.returned (.tuple #[.agg (q9 xs).list.toArray,.nilIface])/\Below w.heap.size w w2)/\
  (∀ F V i,Bk xs=some (F,V,i)->Calls Tryz.prog 66 #[.slice (some ⟨g,0,none⟩) 9 cc] w λe w2=>∃ v,e=.returned (.tuple #[.agg #[.int .i64 0,.int .i64 0,.int .i64 0,.int .i64 0,.int .i64 0,.int .i64 0],v])/\aT ea w2 v (i+1)/\Below w.heap.size w w2):=by
 have hc:=N3 hA;have hcc:9<=cc:=by have:=hA.len;omega
 constructor
 ·intro h;exact KS g 0 cc (xs.getD 0 0) (xs.getD 1 0) (xs.getD 2 0) (xs.getD 3 0) (xs.getD 4 0) (xs.getD 5 0) (xs.getD 6 0) (xs.getD 7 0) (xs.getD 8 0) hcc w h (pz ea) (UV H) (hc 0 aB) (hc 1 aB) (hc 2 aB) (hc 3 aB) (hc 4 aB) (hc 5 aB) (hc 6 aB) (hc 7 aB) (hc 8 aB)
 ·intro F V i h;refine(Rn g 0 cc (xs.getD 0 0) (xs.getD 1 0) (xs.getD 2 0) (xs.getD 3 0) (xs.getD 4 0) (xs.getD 5 0) (xs.getD 6 0) (xs.getD 7 0) (xs.getD 8 0) hcc w F V i h ea H (hc 0 aB) (hc 1 aB) (hc 2 aB) (hc 3 aB) (hc 4 aB) (hc 5 aB) (hc 6 aB) (hc 7 aB) (hc 8 aB)).mono ?_;rintro e w2 ⟨g2,rfl,⟨_,h2⟩,h3⟩;exact⟨_,rfl,.inr (.inr ⟨i,g2,F,V,U7 h,rfl,rfl,h2⟩),h3⟩
theorem Fo(bs:List UInt8)(h:0<bs.length)(hl:bs.length<=500)(hk:((bs.getD 0 0).toNat:Int)=1):Ue bs:=by
 have hr0:=λ(w:World) W pp h1 h2 h3 h4=>RY pp (w.heap.size+1) w.heap.size (Rc.ofKind 1) (nB (bs,false) 1) W Zu Zu rfl h1 h2 h3 h4 (K6 hl);have hr:MP 1 ((Rc.ofKind 1).rest1 (nB (bs,false) 1)) (Y3 (nB (bs,false) 1)) (nB (bs,false) 1):=λw W pp h1 h2 h3 h4=>(hr0 w W pp h1 h2 h3 h4).mono λe w2 ⟨g,c,q1,_,_,q2⟩=>⟨_,q1,q2⟩;have hs:Y3 (nB (bs,false) 1)=sP (bs,false) [1,8,1,Y8 (nB (bs,false) 1),9,32,32,8]:=rfl;have q1:nB (bs,false) 1=(bs.drop 1,false):=X5 h;by_cases h10:bs.length<10
 ·exact Jp bs h hl 1 hk dX _ _ hr (by rw[hs];exact XQ _ _ bf)
 ·obtain⟨m,hm⟩:∃ m,(bs.getD 9 0).toNat=m:=⟨_,rfl⟩;have oK:m<=255:=by have:=(bs.getD 9 0).toNat_lt;omega
  have hrl:Y8 (nB (bs,false) 1)=m:=by
   have e:nN (nB (nB (bs,false) 1) 8) 1=(m:Int):=by rw[q1,Yw aB,YX aB,J3 aB,Yu,hm]
   have e2:nN (nB (nB (bs,false) 1) 8) 1=((Y8 (nB (bs,false) 1):Nat):Int):=rfl;omega
  rw[hrl] at hs;rcases Nat.lt_trichotomy bs.length (91+m) with hlt|heq|hgt
  ·exact Jp bs h hl 1 hk dX _ _ hr (by rw[hs];exact XQ _ _ bf)
  ·have hxs:nO (YF (nB (bs,false) 1)) 9=cut bs (10+m) 9:=by
    unfold YF Xp;rw[hrl,q1,Yw aB,Yw aB,Yw aB,Nw aB]
   have hy0:(Rc.ofKind 1).rest1 (nB (bs,false) 1)={ Rc.ofKind 1 with obj:=(ZO (cut bs 1 8) 0:Nat),name:=⟨(cut bs 10 m).toArray⟩,root:=cut bs (19+m) 32,file:=cut bs (51+m) 32,tick:=(ZO (cut bs (83+m) 8) 0:Nat) }:=by
    unfold Rc.rest1 Xr XP XM YF Xp;rw[hrl,q1,Yw aB,Yw aB,Yw aB,Yw aB,Yw aB,Yw aB,YX aB,YX aB,Nw aB,Nw aB,Nw aB];rw[show 1+8+1+m+9=19+m from by omega,show 19+m+32=51+m from by omega,show 51+m+32=83+m from by omega]
   have hg:=λl=>KA (U0 l 0 dX);have hnm:(⟨(cut bs 10 m).toArray⟩:ByteArray).size=m:=by
    show (cut bs 10 m).toArray.size=m;rw[List.size_toArray];exact QC aB
   have hnl:(⟨(cut bs 10 m).toArray⟩:ByteArray).size<=maxLen:=by rw[hnm];unfold maxLen;omega
   have kN:((Rc.ofKind 1).rest1 (nB (bs,false) 1)).Ok:=by
    rw[hy0];exact⟨by show cO 1;decide,hg _,Rc.zero_ok.id,hnl,Rc.zero_ok.p,QC aB,QC aB,Rc.zero_ok.way,Rc.zero_ok.index,Rc.zero_ok.verdict,hg _⟩
   have hs2:Y3 (nB (bs,false) 1)=(bs.drop (91+m),false):=by rw[hs,Ye _ _ bf];congr 2;simp;omega
   have hs2l:(Y3 (nB (bs,false) 1)).1.length=0:=by rw[hs2];simp;omega
   have hs2f:(Y3 (nB (bs,false) 1)).2=false:=by rw[hs2]
   have sU:(cut bs (10+m) 9).length=9:=QC aB;have hrq:∀ (w:World) W pp,W.heap[pp]? = some (.cells (Rc.ofKind 1).list.toArray 49 (0,0))->bD W (w.heap.size+1) w.heap.size (nB (bs,false) 1).1 (nB (bs,false) 1).2->pp≠w.heap.size+1->w.heap.size<=pp->
     Calls Tryz.prog 65 #[.pointer (some ⟨w.heap.size+1,0,none⟩),.pointer (some ⟨pp,0,none⟩)] W λe w2=>∃ g cc,e=.returned (.slice (some ⟨g,0,none⟩) 9 cc)/\aJ w2 (some ⟨g,0,none⟩) cc (cut bs (10+m) 9)/\w2.heap[pp]? = some (.cells ((Rc.ofKind 1).rest1 (nB (bs,false) 1)).list.toArray 49 (0,0))/\bD w2 (w.heap.size+1) w.heap.size (Y3 (nB (bs,false) 1)).1 (Y3 (nB (bs,false) 1)).2/\Only (λk=>k=pp\/k=w.heap.size+1) W w2:=by
    intro w W pp h1 h2 h3 h4;refine(hr0 w W pp h1 h2 h3 h4).mono ?_;rintro e w2 ⟨g,c,a1,a2,_,a3,a4,a5⟩;rw[hxs] at a2;exact⟨g,c,a1,a2,a3,a4,a5⟩
   cases hb:Bk (cut bs (10+m) 9) with
   | some q=>
    obtain⟨F,V,i⟩:=q;refine⟨Rc.zero,i+1,Rc.zero_ok,(λh=>by cases h),by have:=U7 hb;omega,λa c w ea ha dR H=>?_⟩
    ·exact LH bs a c _ w ea 1 (by rw[<-hk];exact Us h) _ _ (cut bs (10+m) 9) i (by rw[X5 h]) dX (hrq w) hs2f hs2l (λW g cc hA hE=>(H7 _ sU g cc W hA ea hE).2 F V i hb) ha rfl aB dR H
   | none=>
    have hq:=F4 (cut bs (10+m) 9);have hy:{ (Rc.ofKind 1).rest1 (nB (bs,false) 1) with p:=q9 (cut bs (10+m) 9) }=({ Rc.ofKind 1 with obj:=(ZO (cut bs 1 8) 0:Nat),name:=⟨(cut bs 10 m).toArray⟩,p:=q9 (cut bs (10+m) 9),root:=cut bs (19+m) 32,file:=cut bs (51+m) 32,tick:=(ZO (cut bs (83+m) 8) 0:Nat) }:Rc):=by rw[hy0]
    obtain⟨y,hyd⟩:∃ y:Rc,y={ (Rc.ofKind 1).rest1 (nB (bs,false) 1) with p:=q9 (cut bs (10+m) 9) }:=⟨_,rfl⟩;have hyp:y.p=q9 (cut bs (10+m) 9):=by rw[hyd]
    have hyk:y.Ok:=by
     rw[hyd];exact⟨kN.kind,kN.obj,kN.id,kN.name,hq,kN.root,kN.file,kN.way,kN.index,kN.verdict,kN.tick⟩
    rw[<-hyd] at hy;by_cases h0:y.chk=0
    ·have ho:y.out=bs:=by
      obtain⟨_,hn,_,_⟩:=Rc.chk0 h0;obtain⟨r1,r2,_,_⟩:=XU hn;have hkk:y.kind=1:=by rw[hy];rfl
      unfold Rc.out Rc.head;rw[if_pos hkk,hkk];have e1:=YB (QC (l:=bs) (k:=1) (n:=8) aB) (v:=y.obj) (by rw[hy]) r1.2;have e2:=YB (QC (l:=bs) (k:=83+m) (n:=8) aB) (v:=y.tick) (by rw[hy]) r2.2;have e3:ZL y.p.s y.p.n y.p.k y.p.d y.p.t y.p.r=cut bs (10+m) 9:=by rw[hyp];exact Fb sU
      have e4 : [b8 (y.name.size:Int)]=cut bs 9 1:=by
       rw[hy,J3 aB];show [b8 (((⟨(cut bs 10 m).toArray⟩:ByteArray).size:Nat):Int)]=_;rw[hnm,<-hm,Js]
      have e5:y.name.data.toList=cut bs 10 m:=by rw[hy]
      have e6:y.root=cut bs (19+m) 32:=by rw[hy]
      have e7:y.file=cut bs (51+m) 32:=by rw[hy]
      have e8:b8 1=bs.getD 0 0:=by rw[<-Js (bs.getD 0 0),hk]
      have d1:=U6 (l:=bs) (k:=83+m) (n:=8) aB;have d2:=QB bs (51+m) 32;have d3:=QB bs (19+m) 32;have d4:=QB bs (10+m) 9;have d5:=QB bs 10 m;have d6:=QB bs 9 1;have d7:=QB bs 1 8;rw[show 51+m+32=83+m from by omega] at d2;rw[show 19+m+32=51+m from by omega] at d3;rw[show 10+m+9=19+m from by omega] at d4;rw[e1,e2,e3,e4,e5,e6,e7,e8,List.cons_append,<-d1,<-d2,<-d3,<-d4,<-d5,<-d6,<-d7,<-UF h]
     refine⟨y,0,hyk,λ_=>⟨h0,ho⟩,dX,λa c w ea ha dR H=>?_⟩
     ·refine(UK y hyk h0 a c _ w (by rw[ho];exact ha) (by rw[ho]) aB dR ea H).mono ?_;rintro e w2 ⟨rfl,hb⟩;exact⟨_,rfl,.inl ⟨rfl,rfl⟩,hb⟩
    ·refine⟨Rc.zero,y.chk,Rc.zero_ok,λh=>absurd h h0,Do y,λa c w ea ha dR H=>?_⟩
     ·exact Ww bs a c _ w ea 1 (by rw[<-hk];exact Us h) y hyk _ kN (by rw[hyp];exact hyd) _ (cut bs (10+m) 9) (by rw[X5 h]) dX (hrq w) hs2f hs2l (λW g cc hA hE=>by rw[hyp];exact(H7 _ sU g cc W hA ea hE).1 hb) h0 ha rfl aB dR H
  ·exact VY bs h hl 1 hk dX _ _ hr (by rw[hs,Ye _ _ bf]) (by rw[hs,Ye _ _ bf];simp;omega)
theorem Vo(bs:List UInt8)(hl:bs.length<=500):Ue bs:=by
 by_cases h:0<bs.length
 ·cases hi:dz ((bs.getD 0 0).toNat:Int) 1 4 with
  | false=>exact LM bs h hl hi
  | true=>
   unfold dz at hi;simp only[Bool.and_eq_true,decide_eq_true_eq] at hi;rcases(show ((bs.getD 0 0).toNat:Int)=1\/((bs.getD 0 0).toNat:Int)=2\/((bs.getD 0 0).toNat:Int)=3\/((bs.getD 0 0).toNat:Int)=4 by omega) with h1|h1|h1|h1
   ·exact Fo bs h hl h1
   ·exact Fx bs h hl h1
   ·exact Fp bs h hl h1
   ·exact Fn bs h hl h1
 ·exact PY bs aB
def wJ(w:World)(q:Nat)(sh:Bool):Prop:=∃ a c,w.heap[q]? = some (.cells #[.slice a 0 c,.bool sh] 140 (0,0))
theorem wJ.only{w w':World}{q:Nat}{sh:Bool}{D:Nat->Prop}(h:wJ w q sh)(hO:Only D w w')(hq:¬D q):wJ w' q sh:=by
 obtain⟨a,c,h1⟩:=h;exact⟨a,c,hO.heap h1 hq⟩
def CK(w:World)(q:Nat)(e:Ending)(w':World):Prop:=∃ a c,e=.returned (.slice a 1 c)/\aJ w' a c [0]/\wJ w' q true/\Only (λk=>k=q) w w'
theorem DW(q:Nat)(w:World)(h:wJ w q false):Calls Tryz.prog 103 #[.pointer (some ⟨q,0,none⟩),.int .i64 1] w (CK w q):=by
 obtain⟨i0,hi,hz0,hz1,hz2⟩:=info_parts Tryz.infoByteP;obtain⟨a,c,hq⟩:=h;have c0:=Za hq 0;have c1:=Za hq 1;have f1:=Zg hq 1;have hlt:=Zb hq;obtain⟨w2,hw2⟩:∃ w2,w2=w.setCell ⟨q,1,none⟩ (.bool true):=⟨_,rfl⟩;have hU:=(ag.refl hq).setCell (j:=1) (.bool true);rw[<-hw2] at hU;replace hw2:=Hd hw2;replace hU:=Hd hU;replace hq:=Hd hq;have hpost:∀ w4,aN w.heap.size w4 (.slice (some ⟨w2.heap.size,0,none⟩) 1 1) (List.replicate 1 0)->Only (λk=>k=q) w w4->w4.heap[q]? = some (.cells #[.slice a 0 c,.bool true] 140 (0,0))->CK w q (.returned (.slice (some ⟨w2.heap.size,0,none⟩) 1 1)) w4:=λw4 h1 h2 h3=>by
  obtain⟨a4,c4,e4,h4,_⟩:=h1.arg;rw[List.length_replicate] at e4;cases e4;exact⟨_,_,rfl,h4,⟨a,c,h3⟩,h2⟩
 replace hpost:=Hd hpost;go_enter Tryz.func103,Tryz.ntmps103;go_wp2_with (at_make;rw[<-hw2.out];go_must (refine wpList_make_full _ rfl _ _ 24 rfl w.heap.size 5 i0 (.int .u8 0) 1 Tryz.underlying24 hi hz0 hz1 _ _ _ _ 1 rfl rfl aB aB (by rw[hz2];omega) kS (by have:=hU.out.size;omega) ?_));intro w4 jY hg4;have hO4:=aN.made jY;rw[UM] at hO4;have h4:=(hg4.block q (by have:=hU.out.size;omega) sX).trans hU.out.here;have aD:Only (λk=>k=q) w w4:=(Only.ofUpd (D:=λk=>k=q) hU.out rfl).trans (Only.ofGrown (D:=λ_=>False) hg4 (λk e=>by cases e)) (λ_ _ e=>e.elim);replace hO4:=Hd hO4;replace h4:=Hd h4;replace aD:=Hd aD;clear jY hg4;go_wp2_with fail;go_ret;exact hpost.out w4 hO4.out aD.out h4.out
def EW(w:World)(q:Nat)(e:Ending)(w':World):Prop:=e=.returned (.int .i64 0)/\wJ w' q true/\Only (λk=>k=q) w w'
theorem Li(q:Nat)(w:World)(h:wJ w q false):Calls Tryz.prog 63 #[.pointer (some ⟨q,0,none⟩),.int .i64 1] w (EW w q):=by
 have htk:=Hd (DW q w h);clear h;go_enter Tryz.func63,Tryz.ntmps63;go_wp2_with fail;with_reducible refine htk.out.mono ?_
 rintro e w2 ⟨a,c,rfl,ha,hrd,hO⟩;obtain⟨g,off,e0,hc⟩:=ha.row 0 dX;subst e0;replace hc:w2.cell? ⟨g,off,none⟩=some (.int .u8 0):=hc;have hfin:=Hd (show EW w q (.returned (.int .i64 0)) w2 from⟨rfl,hrd,hO⟩);have hor:bits .or .i64 (0:Int) 0=0:=dX;clear hrd hO htk ha;go_wp2_with fail;refine wp_loop_rounds 2 ?_;rw[rounds_succ];go_wp2_with fail;rw[rounds_succ];go_wp2_with fail;go_ret;exact hfin.out
theorem Ln(a:Option Addr)(c:Nat)(w:World)(ea:Nat->Addr)(H:aQ 298 aK w ea) :
  Calls Tryz.prog 29 #[.slice a 0 c] w (Kg ea 2 w):=by
 obtain⟨w1,hw1⟩:∃ w1,w1=(w.alloc (.cells Tryz.zeroCells49 49)).alloc (.cells #[.slice a 0 c,.bool false] 140):=⟨_,rfl⟩;have hb1:Below w.heap.size w w1:=by rw[hw1];exact(bR.alloc nZ _).alloc sX _
 have hs1:w1.heap.size=w.heap.size+2:=by rw[hw1];simp
 have hz1:w1.heap[w.heap.size]? = some (.cells Tryz.zeroCells49 49 (0,0)):=by rw[hw1,Z5,if_neg sX,Z5,if_pos rfl]
 have hq1:w1.heap[w.heap.size+1]? = some (.cells #[.slice a 0 c,.bool false] 140 (0,0)):=by rw[hw1,Z5,if_pos sX]
 have hr1:wJ w1 (w.heap.size+1) false:=⟨a,c,hq1⟩;obtain⟨k,hk⟩:∃ k:Int,k=0:=⟨_,rfl⟩;have hn0:∀ W,wJ W (w.heap.size+1) false->Calls Tryz.prog 63 #[.pointer (some ⟨w.heap.size+1,0,none⟩),.int .i64 1] W λe w2=>e=.returned (.int .i64 k)/\wJ w2 (w.heap.size+1) true/\Only (λk=>k=w.heap.size+1) W w2:=λW h=>by
  rw[hk];exact Li (w.heap.size+1) W h
 have hbd:=Hd (QT k);have eG:(Rc.ofKind k).list.toArray.size=78:=by rw[List.size_toArray,Rc.len (x:=Rc.ofKind k) Zu Zu]
 have i8:(Tryz.prog.info? 49).map (·.size)=some (Rc.ofKind k).list.toArray.size:=by rw[eG];kernel_rfl
 have z8:(Tryz.zeroCells49).size=(Rc.ofKind k).list.toArray.size:=by rw[eG];kernel_rfl
 have ig:=Rc.all_one (Rc.ofKind k);have iZ:(Tryz.prog.info? 49).map (·.size)=some (Tryz.zeroCells49).size:=kX;have lS:(Tryz.zeroCells49).all (·.oneCell')=true:=by rw[Rc.zeroG];exact Rc.all_one Rc.zero
 have hu:=Tryz.underlying49;have dA:∀ (W:World) b,W.heap[b]? = some (.cells (Rc.ofKind k).list.toArray 49 (0,0))->W.cell? ⟨b,0,none⟩=some (.int .i64 k):=λW b h=>by rw[Za h];rfl
 have hce:=Hd (XZ H);generalize (Rc.ofKind k).list.toArray=RK at*;have pQ:Hid (∀ v,Ending.returned (.tuple #[.agg Tryz.zeroCells49,v])=Ending.returned (.tuple #[.agg Rc.zero.list.toArray,v])):=Hd (λv=>by rw[Rc.zeroG]);clear eG;obtain⟨q,hq⟩:=aA (w.heap.size+1);obtain⟨B,hBd⟩:=aA w.heap.size;replace hw1:=Hd hw1;replace hn0:=Hd hn0;replace hr1:=Hd hr1;replace hz1:=Hd hz1;replace hb1:=Hd hb1;replace H:=Hd H;replace dA:=Hd dA;clear hq1 hk;go_enter Tryz.func29,Tryz.ntmps29;go_wp2_with fail;rw[<-hw1.out];with_reducible refine(hn0.out _ hr1.out).mono ?_
 rintro e wa ⟨rfl,hra,hoa⟩;have hza:=Hd (hoa.heap hz1.out aB);have hsa:=hoa.size;have lD:Only (λk=>k=w.heap.size+1) w1 wa:=hoa;have hna:w.heap.size+1<wa.heap.size:=aB;have mF:=Hd (heap_alloc_new wa (.cells Tryz.zeroCells49 49));have eH:Below w.heap.size w wa:=hb1.out.trans (hoa.below aB (λk e=>by omega));replace hra:=Hd hra;replace eH:=Hd eH;clear hoa lD;go_wp2_with (first
  | ((with_reducible refine wL (.build 49 _) ?_);refine Z4 rfl 49 [(0,.tmp 14)] rfl [(0,.int .i64 k)] rfl _ (hbd.out _) ?_)
  | ((with_reducible refine wL (.store 49 (.tmp 5) _) ?_);(refine Zd rfl 49 (.tmp 5) (.tmp 15) rfl wa.heap.size _ RK rfl rfl mF i8 z8 ig ?_);intro w3 dB;have hP3:=Hd dB.out.here;have hb3:=Hd ((Below.alloc (Below.refl wa.heap.size wa) nZ (.cells Tryz.zeroCells49 49)).trans (dB.out.below nZ));have hr3:=Hd (hra.out.only (D:=λ_=>False) (Only.ofBelow hb3.out) (λe=>e));have hz3:=Hd ((hb3.out.block _ (Zb hza.out)).trans hza.out);have k0:=dA.out _ _ hP3.out;obtain⟨a3,c3,hq3⟩:=hr3.out;have j1:=Za hq3 1;have dM:=Hd (eH.out.trans (hb3.out.mono eH.out.size));clear hq3))
 have hd0:Hid (Below w.heap.size w w3.drew):=Hd (dM.out.drew);have hzd:Hid (w3.drew.heap[w.heap.size]? = some (.cells Tryz.zeroCells49 49 (0,0))):=Hd hz3.out;have hcW:=λW h=>(hce.out W h).2.1;have hraw:=True.intro;have xR:∀ W:World,Below w.heap.size w W->∀ (x:Operand) (v:Value),True->True->True->True:=λ_ _ _ _ _ _ _=>trivial;clear hraw xR;refine wp_region_held_drew (S:=(Below w.heap.size w)) kX hd0.out (λaD=>?_);generalize World.drew w3=wd at*;refine tk 0 aD ?_;refine tk 1 aD ?_;refine rd 2 (λKz aF=>?_);rw[if_pos bT]
 (with_reducible refine Zl 49 (.tmp 2) (.tmp 21) rfl w.heap.size _ Tryz.zeroCells49 rfl rfl hzd iZ rfl lS ?_)
 intro w9 au;have hS:=aD.trans (au.out.below nZ);have hres:=Hd au.out.here;refine aF.out _ _ hS ?_;clear aF Kz aD hS;intro aD;try simp only[Act.put]
 refine tk 3 aD ?_;refine bz ?_;all_goals
  go_wp2_with fail;refine Zj rfl rfl hu rfl iZ hres.out ?_;exact⟨_,pQ.out _,.inr (.inl ⟨2-1,dX,dX,rfl⟩),aD⟩
noncomputable def gN(bs:List UInt8):Rc×Nat:=if bs.length=0 then (Rc.zero,2) else if h:bs.length<=500 then ((Vo bs h).choose,(Vo bs h).choose_spec.choose) else (Rc.zero,0)
theorem MY{bs:List UInt8}(h:bs.length<=500):(gN bs).1.Ok/\((gN bs).2=0->(gN bs).1.chk=0/\(gN bs).1.out=bs)/\(gN bs).2<=20/\
 (∀ (a:Option Addr) (c:Nat) (w:World) (ea:Nat->Addr),aJ w a c bs->aQ 298 aK w ea->
  Calls Tryz.prog 29 #[.slice a bs.length c] w λe w2=>∃ v,e=.returned (.tuple #[.agg (gN bs).1.list.toArray,v])/\aT ea w2 v (gN bs).2/\Below w.heap.size w w2):=by
 by_cases h0:bs.length=0
 ·have e:gN bs=(Rc.zero,2):=by unfold gN;rw[if_pos h0]
  rw[e];have e2:bs=[]:=List.length_eq_zero_iff.1 h0;subst e2;exact⟨Rc.zero_ok,(λh=>by cases h),dX,λa c w ea ha H=>Ln a c w ea H⟩
 ·have e:gN bs=((Vo bs h).choose,(Vo bs h).choose_spec.choose):=by unfold gN;rw[if_neg h0,dif_pos h]
  rw[e];obtain⟨q1,q2,q3,q4⟩:=(Vo bs h).choose_spec.choose_spec;refine⟨q1,q2,q3,λa c w ea ha H=>q4 a c w ea ha (λad e=>?_) H⟩;obtain⟨b,o,e2,hc⟩:=ha.row 0 aB;rw[e2] at e;cases e;exact⟨b,o,rfl,World.block_lt_of_cell? w _ hc⟩
noncomputable def Xa(m:St)(bs:List UInt8):St×Nat:=if (gN bs).2≠0 then (⟨[],[]⟩,(gN bs).2) else if (Zm m (gN bs).1).2≠0 then (⟨[],[]⟩,(Zm m (gN bs).1).2) else Zm m (gN bs).1
noncomputable def Qj:St->List (List UInt8)->St×Nat
 | m,[]=>(m,0)
 | m,b::bs=>if (Xa m b).2≠0 then (⟨[],[]⟩,(Xa m b).2) else Qj (Xa m b).1 bs
theorem YS(m:St)(b:List UInt8)(bs:List (List UInt8)):Qj m (b::bs)=if (Xa m b).2≠0 then (⟨[],[]⟩,(Xa m b).2) else Qj (Xa m b).1 bs:=rfl
theorem UT:∀ (l:List (List UInt8)) (m0:St) (k:Nat),k<=l.length->(Qj m0 (l.take k)).2=0->Qj m0 l=Qj (Qj m0 (l.take k)).1 (l.drop k)
 | _,_,0,_,_=>rfl
 | [],_,k+1,h,_=>absurd h sX
 | b::bs,m0,k+1,h,h0=>by
  rw[List.take_succ_cons,YS] at h0;rw[List.take_succ_cons,List.drop_succ_cons,YS,YS];by_cases hb:(Xa m0 b).2≠0
  ·rw[if_pos hb] at h0;exact absurd h0 hb
  ·rw[if_neg hb] at h0;rw[if_neg hb,if_neg hb];exact UT bs _ k (by simpa using h) h0
theorem Rp(m:St)(l:List (List UInt8))(b:List UInt8)(h:(Qj m l).2=0):Qj m (l++[b])=if (Xa (Qj m l).1 b).2≠0 then (⟨[],[]⟩,(Xa (Qj m l).1 b).2) else ((Xa (Qj m l).1 b).1,0):=by
 have:=UT (l++[b]) m l.length sX (by simpa using h);rw[List.take_left,List.drop_left] at this;rw[this,YS];rfl
structure SB (k:Nat) (m:St):Prop where
 its:m.its.length<=4
 ens:m.ens.length<=k
 us:∀ y∈m.its,y.u<=(k:Int)/\y.r<=(k:Int)
theorem SB.mono{k k':Nat}{m:St}(h:SB k m)(hk:k<=k'):SB k' m:=⟨h.its,Nat.le_trans h.ens hk,λy hy=>by have:=h.us y hy;omega⟩
theorem QJ(k:Nat):SB k ⟨[],[]⟩:=⟨Nat.zero_le _,Nat.zero_le _,λy hy=>absurd hy List.not_mem_nil⟩
theorem SB.get{k:Nat}{m:St}(h:SB k m)(i:Nat)(hi:i<m.its.length):(m.its.getD i default).u<=(k:Int)/\(m.its.getD i default).r<=(k:Int):=by
 rw[List.getD_eq_getElem?_getD,List.getElem?_eq_getElem hi,Option.getD_some];exact h.us _ (List.getElem_mem hi)
theorem Mf{k:Nat}{m:St}(h:SB k m)(x:Rc):SB (k+1) (Zm m x).1:=by
 unfold Zm;split
 ·exact QJ _
 split
 ·unfold Xx;split
  ·exact QJ _
  split
  ·exact QJ _
  split
  ·exact QJ _
  refine⟨?_,Nat.le_succ_of_le h.ens,λy hy=>?_⟩
  ·simp only[List.length_append,List.length_singleton];omega
  ·rcases List.mem_append.1 hy with hy|hy
   ·have:=h.us y hy;omega
   ·rw[List.mem_singleton.1 hy];show (0:Int)<=_/\(0:Int)<=_;omega
 split
 ·unfold X6;split
  ·exact QJ _
  next hi=>
  split
  ·exact QJ _
  split
  ·exact QJ _
  split
  ·exact QJ _
  have hg:=h.get x.obj.toNat aB;refine⟨by rw[List.length_set];exact h.its,?_,λy hy=>?_⟩
  ·simp only[List.length_append,List.length_singleton];have:=h.ens;omega
  ·rcases List.mem_or_eq_of_mem_set hy with hy|hy
   ·have:=h.us y hy;omega
   ·rw[hy];unfold Jc;split
    ·exact⟨by show _+1<=_;omega,by show (m.its.getD x.obj.toNat default).r<=_;omega⟩
    ·exact⟨by show (m.its.getD x.obj.toNat default).u<=_;omega,by show _+1<=_;omega⟩
 split
 ·unfold Va;split
  ·exact QJ _
  next hi=>
  split
  ·exact QJ _
  have hg:=h.get x.obj.toNat aB;refine⟨by rw[List.length_set];exact h.its,Nat.le_succ_of_le h.ens,λy hy=>?_⟩;rcases List.mem_or_eq_of_mem_set hy with hy|hy
  ·have:=h.us y hy;omega
  ·rw[hy];exact⟨by show (m.its.getD x.obj.toNat default).u<=_;omega,by show (m.its.getD x.obj.toNat default).r<=_;omega⟩
 ·unfold Xv;split
  ·exact QJ _
  split
  ·exact QJ _
  split
  ·exact QJ _
  exact⟨h.its,by rw[List.length_set];exact Nat.le_succ_of_le h.ens,λy hy=>by have:=h.us y hy;omega⟩
theorem CO{k:Nat}{m:St}(h:SB k m)(b:List UInt8):SB (k+1) (Xa m b).1:=by
 unfold Xa;split
 ·exact QJ _
 split
 ·exact QJ _
 ·exact Mf h _
theorem Mw:∀ (l:List (List UInt8)) (k:Nat) (m:St),SB k m->SB (k+l.length) (Qj m l).1
 | [],k,m,h=>h
 | b::bs,k,m,h=>by
  rw[YS];split
  ·exact QJ _
  ·have:=Mw bs (k+1) _ (CO h b);rwa [show k+1+bs.length=k+(b::bs).length by simp;omega] at this
end Go.Proofs.YtpdhceiodgnbmaaGreatDoor
