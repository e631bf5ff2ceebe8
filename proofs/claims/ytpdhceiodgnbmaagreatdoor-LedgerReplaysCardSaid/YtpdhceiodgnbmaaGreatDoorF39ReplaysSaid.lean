import Derived.Test.YtpdhceiodgnbmaaGreatDoorF0ReplaysSaid
import Derived.Test.YtpdhceiodgnbmaaGreatDoorF1ReplaysSaid
import Derived.Test.YtpdhceiodgnbmaaGreatDoorF32ReplaysSaid
import Derived.Test.YtpdhceiodgnbmaaGreatDoorF34ReplaysSaid
import Derived.Test.YtpdhceiodgnbmaaGreatDoorF37ReplaysSaid
import Derived.Test.YtpdhceiodgnbmaaGreatDoorF38ReplaysSaid
import Derived.Test.YtpdhceiodgnbmaaGreatDoorF36ReplaysSaid
set_option linter.unusedVariables false
set_option linter.unusedSimpArgs false
set_option linter.unnecessarySimpa false
set_option maxRecDepth 100000
set_option maxHeartbeats 8000000
namespace Go.Proofs.YtpdhceiodgnbmaaGreatDoor
open Go.RowKit
theorem Qi{l:List UInt8}{k n:Nat}(h:k+n<=l.length):(cut l k n).length=n:=by unfold cut;rw[List.length_take,List.length_drop];omega
theorem Kt{l:List UInt8}{k n:Nat}(h:k+n<=l.length):nO (l.drop k,false) n=cut l k n:=by
 have hh:¬(false=true\/(l.drop k).length<n):=by
  rw[List.length_drop]
  rintro(h1|h1)
  ·cases h1
  ·omega
 unfold nO Qg
 rw[if_neg hh]
 rfl
theorem QW{l:List UInt8}{k n:Nat}(h:k+n<=l.length):nB (l.drop k,false) n=(l.drop (k+n),false):=by
 rw[GC (by rw[List.length_drop];omega),List.drop_drop]
theorem YA{l:List UInt8}{k n:Nat}(h:k+n<=l.length):nN (l.drop k,false) n=(ZA (cut l k n) 0:Nat):=by
 rw[<-Kt h];rfl
theorem XS{l:List UInt8}{k:Nat}(h:k+1<=l.length):cut l k 1=[l.getD k 0]:=by
 obtain⟨b,hb⟩:=DH (Qi h)
 rw[hb]
 have:(cut l k 1)[0]? = some b:=by rw[hb];rfl
 unfold cut at this
 rw[List.getElem?_take_of_lt dX,List.getElem?_drop,Nat.add_zero] at this
 rw[List.getD_eq_getElem?_getD,this]
 rfl
theorem Qr(l:List UInt8)(k n:Nat):l.drop k=cut l k n++l.drop (k+n):=by
 unfold cut
 rw[<-List.drop_drop,List.take_append_drop]
theorem VB{l:List UInt8}{k n:Nat}(h:l.length=k+n):l.drop k=cut l k n:=by
 unfold cut
 rw[List.take_of_length_le (by rw[List.length_drop];omega)]
theorem VG{l:List UInt8}(h:0<l.length):l=l.getD 0 0::l.drop 1:=by
 match l,h with
 | b::r,_=>rfl
theorem Vm{l:List UInt8}(h:0<l.length):nN (l,false) 1=((l.getD 0 0).toNat:Int):=by
 have:=YA (l:=l) (k:=0) (n:=1) oX
 rw[List.drop_zero,XS oX,QR] at this
 exact this
theorem Xs{l:List UInt8}(h:0<l.length):nB (l,false) 1=(l.drop 1,false):=GC oX
theorem Uu{n:Nat}(h:n<=562949953421567):inI (n:Int):=⟨oX,oX⟩
theorem QS(bs:List UInt8):inI (ZJ bs 0):=by
 have:=Hv bs 0 dX dX
 exact⟨oX,oX⟩
theorem VD(b:UInt8):inI (b.toNat:Int):=by have:=b.toNat_lt;exact⟨oX,oX⟩
def Ji(bs:List UInt8):Prop:=∃ y N,y.Ok/\(N=0->y.chk=0/\y.out=bs)/\N<=20/\
 (∀ (a:Option Addr) (c:Nat) (w:World) (ea:Nat->Addr),ArgB w a c bs->(∀ ad,a=some ad->∃ b o,ad=⟨b,o,none⟩/\b<w.heap.size)->Errs 298 Zq w ea->
  Calls Tryz.prog 29 #[.slice a bs.length c] w λe w2=>∃ v,e=.returned (.tuple #[.agg y.list.toArray,v])/\ErrIs ea w2 v N/\Below w.heap.size w w2)/\
 (∀ (a:Option Addr) (c:Nat) (w:World),ArgB w a c bs->Calls Tryz.prog 37 #[.slice a bs.length c] w (QV y N w))
theorem Xa{w:World}{a:Option Addr}{c:Nat}{bs:List UInt8}(h:ArgB w a c bs)(h0:0<bs.length):∃ b o,a=some ⟨b,o,none⟩:=by
 obtain⟨b,o,e,_⟩:=h.row 0 h0
 exact⟨b,o,by simpa using e⟩
theorem HR(bs:List UInt8)(h:bs.length=0):Ji bs:=by
 have e:bs=[]:=List.length_eq_zero_iff.1 h
 subst e
 refine⟨Rc.zero,2,Rc.zero_ok,(λh=>by cases h),dX,λa c w ea ha haf H=>?_,λa c w ha=>UQ a c w⟩
 exact Mi [] a c 0 w ea (by rw[NM dX]) ha rfl dX haf H
theorem Pq(bs:List UInt8)(h:0<bs.length)(hl:bs.length<=500)(hk:inB ((bs.getD 0 0).toNat:Int) 1 4=false):Ji bs:=by
 refine⟨Rc.zero,7,Rc.zero_ok,(λh=>by cases h),dX,λa c w ea ha haf H=>?_,λa c w ha=>?_⟩
 ·exact H6 bs a c _ w ea _ (Vm h) (by rw[Xs h]) hk ha rfl oX haf H
 ·obtain⟨b,o,rfl⟩:=Xa ha h
  exact HB bs b o c _ _ w ha rfl oX h rfl hk
def RestIs(k:Int)(y:Rc)(s2:List UInt8×Bool)(s1:List UInt8×Bool):Prop:=∀ (w:World) W pp,W.heap[pp]? = some (.cells (Rc.ofKind k).list.toArray 49 (0,0))->RdM W (w.heap.size+1) w.heap.size s1.1 s1.2->pp≠w.heap.size+1->w.heap.size<=pp->
 Calls Tryz.prog 65 #[.pointer (some ⟨w.heap.size+1,0,none⟩),.pointer (some ⟨pp,0,none⟩)] W λe w2=>e=.returned (.slice none 0 0)/\w2.heap[pp]? = some (.cells y.list.toArray 49 (0,0))/\RdM w2 (w.heap.size+1) w.heap.size s2.1 s2.2/\Only (λk=>k=pp\/k=w.heap.size+1) W w2
def GD(k:Int)(y:Rc)(s2:List UInt8×Bool)(s1:List UInt8×Bool):Prop:=∀ (w:World) W pp,W.heap[pp]? = some (.cells (Rc.ofKind k).list.toArray 49 (0,0))->RdM W (w.heap.size+1) w.heap.size s1.1 s1.2->pp≠w.heap.size+1->w.heap.size<=pp->
 Calls Tryz.prog 65 #[.pointer (some ⟨w.heap.size+1,0,none⟩),.pointer (some ⟨pp,0,none⟩)] W λe w2=>∃ v,e=.returned v/\w2.heap[pp]? = some (.cells y.list.toArray 49 (0,0))/\RdM w2 (w.heap.size+1) w.heap.size s2.1 s2.2/\Only (λk=>k=pp\/k=w.heap.size+1) W w2
theorem RestIs.v{k:Int}{y:Rc}{s2 s1:List UInt8×Bool}(h:RestIs k y s2 s1):GD k y s2 s1:=λw W pp a1 a2 a3 a4=>(h w W pp a1 a2 a3 a4).mono λe w2 ⟨q1,q2⟩=>⟨_,q1,q2⟩
theorem XD(bs:List UInt8)(h:0<bs.length)(hl:bs.length<=500)(k:Int)(hk:((bs.getD 0 0).toNat:Int)=k)(hi:inB k 1 4=true)(y:Rc)(s2:List UInt8×Bool)(hr:GD k y s2 (nB (bs,false) 1))(h2:s2.2=true)
  (href:∀ (b o c:Nat) (w:World),ArgB w (some ⟨b,o,none⟩) c bs->Calls Tryz.prog 37 #[.slice (some ⟨b,o,none⟩) bs.length c] w (QV Rc.zero 2 w)):Ji bs:=by
 refine⟨Rc.zero,2,Rc.zero_ok,(λh=>by cases h),dX,λa c w ea ha haf H=>?_,λa c w ha=>?_⟩
 ·exact MA bs a c _ w ea k (by rw[<-hk];exact Vm h) y s2 (by rw[Xs h]) hi (hr w) h2 ha rfl oX haf H
 ·obtain⟨b,o,rfl⟩:=Xa ha h
  exact href b o c w ha
theorem JK(bs:List UInt8)(h:0<bs.length)(hl:bs.length<=500)(k:Int)(hk:((bs.getD 0 0).toNat:Int)=k)(hi:inB k 1 4=true)(y:Rc)(s2:List UInt8×Bool)(hr:GD k y s2 (nB (bs,false) 1))(h2:s2.2=false)(h3:0<s2.1.length)
  (href:∀ (b o c:Nat) (w:World),ArgB w (some ⟨b,o,none⟩) c bs->Calls Tryz.prog 37 #[.slice (some ⟨b,o,none⟩) bs.length c] w (QV Rc.zero 3 w)):Ji bs:=by
 refine⟨Rc.zero,3,Rc.zero_ok,(λh=>by cases h),dX,λa c w ea ha haf H=>?_,λa c w ha=>?_⟩
 ·exact Tz bs a c _ w ea k (by rw[<-hk];exact Vm h) y s2 (by rw[Xs h]) hi (hr w) h2 h3 ha rfl oX haf H
 ·obtain⟨b,o,rfl⟩:=Xa ha h
  exact href b o c w ha
theorem Pz(y:Rc):y.chk<=20:=by
 unfold Rc.chk
 split
 ·decide
 ·split
  ·decide
  ·split
   ·split
    ·decide
    ·split
     ·next hb=>have:=V0 hb;omega
     ·split<;>decide
   ·split<;>decide
theorem Ul(bs:List UInt8)(h:0<bs.length)(hl:bs.length<=500)(k:Int)(hk:((bs.getD 0 0).toNat:Int)=k)(hi:inB k 1 4=true)(y z:Rc)(hy:y.Ok)(hz:z.Ok)(s2:List UInt8×Bool)(hr:RestIs k y s2 (nB (bs,false) 1))(h2:s2.2=false)(h3:s2.1.length=0)
  (hc:y.chk=z.chk) (he:y.chk=0->y=z) (ho:y.chk=0->y.out=bs)
  (href:∀ (b o c:Nat) (w:World),ArgB w (some ⟨b,o,none⟩) c bs->Calls Tryz.prog 37 #[.slice (some ⟨b,o,none⟩) bs.length c] w (QB z w)):Ji bs:=by
 by_cases h0:y.chk=0
 ·have ho:=ho h0
  have he:=he h0
  subst he
  refine⟨y,0,hy,λ_=>⟨h0,ho⟩,dX,λa c w ea ha haf H=>?_,λa c w ha=>?_⟩
  ·refine(K4 y hy h0 a c _ w (by rw[ho];exact ha) (by rw[ho]) oX haf ea H).mono ?_
   rintro e w2 ⟨rfl,hb⟩
   exact⟨_,rfl,.inl ⟨rfl,rfl⟩,hb⟩
  ·obtain⟨b,o,rfl⟩:=Xa ha h
   refine(href b o c w ha).mono λe w2 h=>?_
   unfold QB at h
   rw[if_pos h0,h0] at h
   exact h
 ·refine⟨Rc.zero,y.chk,Rc.zero_ok,λh=>absurd h h0,Pz y,λa c w ea ha haf H=>?_,λa c w ha=>?_⟩
  ·exact Rl bs a c _ w ea k (by rw[<-hk];exact Vm h) y hy s2 (by rw[Xs h]) hi (hr w) h2 h3 h0 ha rfl oX haf H
  ·obtain⟨b,o,rfl⟩:=Xa ha h
   refine(href b o c w ha).mono λe w2 h=>?_
   unfold QB at h
   rw[if_neg (by rw[<-hc];exact h0),<-hc] at h
   exact h
theorem Yp{l:List UInt8}(h:l.length=8){v:Int}(hv:v=(ZA l 0:Nat))(h2:v<=1099511627776):Zn v=l:=by
 rw[hv] at h2 ⊢
 exact Rq l h oX
theorem Uy{bs:List UInt8}(hl:bs.length<=500):(nB (bs,false) 1).1.length<=1000000:=Nat.le_trans (Qz _ _) (by show bs.length<=_;omega)
theorem D0(bs:List UInt8)(h:0<bs.length)(hl:bs.length<=500)(hk:((bs.getD 0 0).toNat:Int)=2):Ji bs:=by
 have hr:RestIs 2 ((Rc.ofKind 2).rest2 (nB (bs,false) 1)) (JC (nB (bs,false) 1)) (nB (bs,false) 1):=λw W pp h1 h2 h3 h4=>Hx pp (w.heap.size+1) w.heap.size (Rc.ofKind 2) (nB (bs,false) 1) W Zh Zh rfl h1 h2 h3 h4 (Uy hl)
 have hs:JC (nB (bs,false) 1)=nBs (bs,false) [1,8,8,1,4,8]:=rfl
 rcases Nat.lt_trichotomy bs.length 30 with hlt|heq|hgt
 ·exact XD bs h hl 2 hk dX _ _ hr.v (by rw[hs];exact X7 _ _ (by simpa using hlt)) λb o c w ha=>N8 bs b o c _ w ha rfl oX h hk hlt
 ·have q1:nB (bs,false) 1=(bs.drop 1,false):=Xs h
  have hy:(Rc.ofKind 2).rest2 (nB (bs,false) 1)={ Rc.ofKind 2 with obj:=(ZA (cut bs 1 8) 0:Nat),id:=(ZA (cut bs 9 8) 0:Nat),way:=((bs.getD 17 0).toNat:Int),index:=(ZA (cut bs 18 4) 0:Nat),tick:=(ZA (cut bs 22 8) 0:Nat) }:=by
   unfold Rc.rest2
   rw[q1,QW oX,QW oX,QW oX,QW oX,YA oX,YA oX,YA oX,YA oX,YA oX,XS (k:=17) oX,QR]
  have hz:(yR2 bs).Ok:=⟨by show inI 2;decide,QS _,QS _,Rc.zero_ok.name,Rc.zero_ok.p,Rc.zero_ok.root,Rc.zero_ok.file,VD _,QS _,Rc.zero_ok.verdict,QS _⟩
  have hg:=λl=>Uu (Vn l 0 dX)
  have hyk:((Rc.ofKind 2).rest2 (nB (bs,false) 1)).Ok:=by
   rw[hy]
   exact⟨by show inI 2;decide,hg _,hg _,Rc.zero_ok.name,Rc.zero_ok.p,Rc.zero_ok.root,Rc.zero_ok.file,VD _,hg _,Rc.zero_ok.verdict,hg _⟩
  have hag:=Uz ((Rc.ofKind 2).rest2 (nB (bs,false) 1)) (yR2 bs) rfl (by rw[hy];exact Yb _ 0) (by rw[hy];exact Yb _ 0) (by rw[hy];exact Yb _ 0) (by rw[hy];exact Yb _ 0) rfl rfl rfl rfl (by rw[hy];rfl) rfl (λh=>absurd rfl h) (λh=>absurd rfl h)
  refine Ul bs h hl 2 hk dX _ (yR2 bs) hyk hz _ hr ?_ ?_ hag.1 hag.2 ?_ λb o c w ha=>?_
  ·rw[hs,QF _ _ sY]
  ·rw[hs,QF _ _ sY]
   simp;omega
  ·intro hc
   obtain⟨_,hn,_,_⟩:=Rc.chk0 hc
   obtain⟨r1,r2,r3,_⟩:=Xp hn
   obtain⟨r3,r4,r5⟩:=r3 rfl
   unfold Rc.out Rc.head
   rw[if_neg (by show ¬(2:Int)=1;decide),if_pos (by rfl)]
   have e1:=Yp (Qi (l:=bs) (k:=1) (n:=8) oX) (v:=((Rc.ofKind 2).rest2 (nB (bs,false) 1)).obj) (by rw[hy]) r1.2
   have e2:=Yp (Qi (l:=bs) (k:=9) (n:=8) oX) (v:=((Rc.ofKind 2).rest2 (nB (bs,false) 1)).id) (by rw[hy]) r5.2
   have e3:=Yp (Qi (l:=bs) (k:=22) (n:=8) oX) (v:=((Rc.ofKind 2).rest2 (nB (bs,false) 1)).tick) (by rw[hy]) r2.2
   have e4:(Zn ((Rc.ofKind 2).rest2 (nB (bs,false) 1)).index).drop 4=cut bs 18 4:=by rw[hy];exact RZ _ (Qi oX)
   have e5 : [b8 ((Rc.ofKind 2).rest2 (nB (bs,false) 1)).way]=cut bs 17 1:=by rw[hy,XS oX];show [b8 ((bs.getD 17 0).toNat:Int)]=_;rw[XT]
   have e6:b8 ((Rc.ofKind 2).rest2 (nB (bs,false) 1)).kind=bs.getD 0 0:=by
    rw[<-XT (bs.getD 0 0),hk];rfl
   rw[e1,e2,e3,e4,e5,e6,List.cons_append,<-VB (l:=bs) (k:=22) (n:=8) oX,<-Qr bs 18 4,<-Qr bs 17 1,<-Qr bs 9 8,<-Qr bs 1 8,<-VG h]
  ·have:=Mo bs b o c (yR2 bs) rfl hz w ha heq dX hk
   rw[<-heq] at this
   exact this
 ·exact JK bs h hl 2 hk dX _ _ hr.v (by rw[hs,QF _ _ sY]) (by rw[hs,QF _ _ sY];simp;omega) λb o c w ha=>MF bs b o c _ w ha rfl oX h hk hgt
theorem Dx(bs:List UInt8)(h:0<bs.length)(hl:bs.length<=500)(hk:((bs.getD 0 0).toNat:Int)=3):Ji bs:=by
 have hr:RestIs 3 ((Rc.ofKind 3).rest3 (nB (bs,false) 1)) (JI (nB (bs,false) 1)) (nB (bs,false) 1):=λw W pp h1 h2 h3 h4=>Hn pp (w.heap.size+1) w.heap.size (Rc.ofKind 3) (nB (bs,false) 1) W Zh Zh rfl h1 h2 h3 h4 (Uy hl)
 have hs:JI (nB (bs,false) 1)=nBs (bs,false) [1,8,8,1,8]:=rfl
 rcases Nat.lt_trichotomy bs.length 26 with hlt|heq|hgt
 ·exact XD bs h hl 3 hk dX _ _ hr.v (by rw[hs];exact X7 _ _ (by simpa using hlt)) λb o c w ha=>Nq bs b o c _ w ha rfl oX h hk hlt
 ·have q1:nB (bs,false) 1=(bs.drop 1,false):=Xs h
  have hy:(Rc.ofKind 3).rest3 (nB (bs,false) 1)={ Rc.ofKind 3 with obj:=(ZA (cut bs 1 8) 0:Nat),id:=(ZA (cut bs 9 8) 0:Nat),verdict:=((bs.getD 17 0).toNat:Int),tick:=(ZA (cut bs 18 8) 0:Nat) }:=by
   unfold Rc.rest3
   rw[q1,QW oX,QW oX,QW oX,YA oX,YA oX,YA oX,YA oX,XS (k:=17) oX,QR]
  have hz:(yR3 bs).Ok:=⟨by show inI 3;decide,QS _,QS _,Rc.zero_ok.name,Rc.zero_ok.p,Rc.zero_ok.root,Rc.zero_ok.file,Rc.zero_ok.way,Rc.zero_ok.index,VD _,QS _⟩
  have hg:=λl=>Uu (Vn l 0 dX)
  have hyk:((Rc.ofKind 3).rest3 (nB (bs,false) 1)).Ok:=by
   rw[hy]
   exact⟨by show inI 3;decide,hg _,hg _,Rc.zero_ok.name,Rc.zero_ok.p,Rc.zero_ok.root,Rc.zero_ok.file,Rc.zero_ok.way,Rc.zero_ok.index,VD _,hg _⟩
  have hag:=Uz ((Rc.ofKind 3).rest3 (nB (bs,false) 1)) (yR3 bs) rfl (by rw[hy];exact Yb _ 0) (by rw[hy];exact Yb _ 0) (.inl rfl) (by rw[hy];exact Yb _ 0) rfl rfl rfl rfl rfl (by rw[hy];rfl) (λ_ h=>absurd rfl h) (λ_=>rfl)
  refine Ul bs h hl 3 hk dX _ (yR3 bs) hyk hz _ hr ?_ ?_ hag.1 hag.2 ?_ λb o c w ha=>?_
  ·rw[hs,QF _ _ sY]
  ·rw[hs,QF _ _ sY]
   simp;omega
  ·intro hc
   obtain⟨_,hn,_,_⟩:=Rc.chk0 hc
   obtain⟨r1,r2,_,r3⟩:=Xp hn
   obtain⟨r3,r5⟩:=r3 rfl
   unfold Rc.out Rc.head
   rw[if_neg (by show ¬(3:Int)=1;decide),if_neg (by show ¬(3:Int)=2;decide),if_pos (by rfl)]
   have e1:=Yp (Qi (l:=bs) (k:=1) (n:=8) oX) (v:=((Rc.ofKind 3).rest3 (nB (bs,false) 1)).obj) (by rw[hy]) r1.2
   have e2:=Yp (Qi (l:=bs) (k:=9) (n:=8) oX) (v:=((Rc.ofKind 3).rest3 (nB (bs,false) 1)).id) (by rw[hy]) r5.2
   have e3:=Yp (Qi (l:=bs) (k:=18) (n:=8) oX) (v:=((Rc.ofKind 3).rest3 (nB (bs,false) 1)).tick) (by rw[hy]) r2.2
   have e5 : [b8 ((Rc.ofKind 3).rest3 (nB (bs,false) 1)).verdict]=cut bs 17 1:=by rw[hy,XS oX];show [b8 ((bs.getD 17 0).toNat:Int)]=_;rw[XT]
   have e6:b8 ((Rc.ofKind 3).rest3 (nB (bs,false) 1)).kind=bs.getD 0 0:=by
    rw[<-XT (bs.getD 0 0),hk];rfl
   rw[e1,e2,e3,e5,e6,List.cons_append,<-VB (l:=bs) (k:=18) (n:=8) oX,<-Qr bs 17 1,<-Qr bs 9 8,<-Qr bs 1 8,<-VG h]
  ·have:=MU bs b o c (yR3 bs) rfl hz w ha heq dX hk
   rw[<-heq] at this
   exact this
 ·exact JK bs h hl 3 hk dX _ _ hr.v (by rw[hs,QF _ _ sY]) (by rw[hs,QF _ _ sY];simp;omega) λb o c w ha=>Mr bs b o c _ w ha rfl oX h hk hgt
theorem Dt(bs:List UInt8)(h:0<bs.length)(hl:bs.length<=500)(hk:((bs.getD 0 0).toNat:Int)=4):Ji bs:=by
 have hr:RestIs 4 ((Rc.ofKind 4).rest4 (nB (bs,false) 1)) (JH (nB (bs,false) 1)) (nB (bs,false) 1):=λw W pp h1 h2 h3 h4=>Hl pp (w.heap.size+1) w.heap.size (Rc.ofKind 4) (nB (bs,false) 1) W Zh Zh rfl h1 h2 h3 h4 (Uy hl)
 have hs:JH (nB (bs,false) 1)=nBs (bs,false) [1,8,8]:=rfl
 rcases Nat.lt_trichotomy bs.length 17 with hlt|heq|hgt
 ·exact XD bs h hl 4 hk dX _ _ hr.v (by rw[hs];exact X7 _ _ (by simpa using hlt)) λb o c w ha=>NB bs b o c _ w ha rfl oX h hk hlt
 ·have q1:nB (bs,false) 1=(bs.drop 1,false):=Xs h
  have hy:(Rc.ofKind 4).rest4 (nB (bs,false) 1)={ Rc.ofKind 4 with obj:=(ZA (cut bs 1 8) 0:Nat),tick:=(ZA (cut bs 9 8) 0:Nat) }:=by
   unfold Rc.rest4
   rw[q1,QW oX,YA oX,YA oX]
  have hz:(yR4 bs).Ok:=⟨by show inI 4;decide,QS _,Rc.zero_ok.id,Rc.zero_ok.name,Rc.zero_ok.p,Rc.zero_ok.root,Rc.zero_ok.file,Rc.zero_ok.way,Rc.zero_ok.index,Rc.zero_ok.verdict,QS _⟩
  have hg:=λl=>Uu (Vn l 0 dX)
  have hyk:((Rc.ofKind 4).rest4 (nB (bs,false) 1)).Ok:=by
   rw[hy]
   exact⟨by show inI 4;decide,hg _,Rc.zero_ok.id,Rc.zero_ok.name,Rc.zero_ok.p,Rc.zero_ok.root,Rc.zero_ok.file,Rc.zero_ok.way,Rc.zero_ok.index,Rc.zero_ok.verdict,hg _⟩
  have hag:=Uz ((Rc.ofKind 4).rest4 (nB (bs,false) 1)) (yR4 bs) rfl (by rw[hy];exact Yb _ 0) (.inl rfl) (.inl rfl) (by rw[hy];exact Yb _ 0) rfl rfl rfl rfl rfl rfl (λ_ _=>rfl) (λ_=>rfl)
  refine Ul bs h hl 4 hk dX _ (yR4 bs) hyk hz _ hr ?_ ?_ hag.1 hag.2 ?_ λb o c w ha=>?_
  ·rw[hs,QF _ _ sY]
  ·rw[hs,QF _ _ sY]
   simp;omega
  ·intro hc
   obtain⟨_,hn,_,_⟩:=Rc.chk0 hc
   obtain⟨r1,r2,_,r3⟩:=Xp hn
   unfold Rc.out Rc.head
   rw[if_neg (by show ¬(4:Int)=1;decide),if_neg (by show ¬(4:Int)=2;decide),if_neg (by show ¬(4:Int)=3;decide)]
   have e1:=Yp (Qi (l:=bs) (k:=1) (n:=8) oX) (v:=((Rc.ofKind 4).rest4 (nB (bs,false) 1)).obj) (by rw[hy]) r1.2
   have e3:=Yp (Qi (l:=bs) (k:=9) (n:=8) oX) (v:=((Rc.ofKind 4).rest4 (nB (bs,false) 1)).tick) (by rw[hy]) r2.2
   have e6:b8 ((Rc.ofKind 4).rest4 (nB (bs,false) 1)).kind=bs.getD 0 0:=by
    rw[<-XT (bs.getD 0 0),hk];rfl
   rw[e1,e3,e6,List.cons_append,<-VB (l:=bs) (k:=9) (n:=8) oX,<-Qr bs 1 8,<-VG h]
  ·have:=MC bs b o c (yR4 bs) rfl hz w ha heq dX hk
   rw[<-heq] at this
   exact this
 ·exact JK bs h hl 4 hk dX _ _ hr.v (by rw[hs,QF _ _ sY]) (by rw[hs,QF _ _ sY];simp;omega) λb o c w ha=>MI bs b o c _ w ha rfl oX h hk hgt
theorem DC{l:List UInt8}(h:l.length=9):∃ b0 b1 b2 b3 b4 b5 b6 b7 b8,l=[b0,b1,b2,b3,b4,b5,b6,b7,b8]:=by
 match l,h with
 | [b0,b1,b2,b3,b4,b5,b6,b7,b8],_=>exact⟨b0,b1,b2,b3,b4,b5,b6,b7,b8,rfl⟩
def q9(l:List UInt8):P6:=⟨((l.getD 0 0).toNat:Int)*256+(l.getD 1 0).toNat,(l.getD 2 0).toNat,(l.getD 3 0).toNat,((l.getD 4 0).toNat:Int)*256+(l.getD 5 0).toNat,((l.getD 6 0).toNat:Int)*256+(l.getD 7 0).toNat,(l.getD 8 0).toNat⟩
def GX(l:List UInt8):Option (ByteArray×Int×Nat):=Qb (q9 l).s (q9 l).n (q9 l).k (q9 l).d (q9 l).t (q9 l).r
theorem Ds(l:List UInt8):(q9 l).Ok:=by
 have h:=λi=>(l.getD i 0).toNat_lt
 have h0:=h 0
 have h1:=h 1
 have h2:=h 2
 have h3:=h 3
 have h4:=h 4
 have h5:=h 5
 have h6:=h 6
 have h7:=h 7
 have h8:=h 8
 refine⟨?_,?_,?_,?_,?_,?_⟩<;>simp only[q9,inI]<;>omega
theorem Jr{z:Int}{b:UInt8}(h:z % 256=b.toNat):b8 z=b:=by
 refine UInt8.toNat_inj.1 ?_
 have:=Jy z
 omega
theorem LZ{l:List UInt8}(h:l.length=9):ZD (q9 l).s (q9 l).n (q9 l).k (q9 l).d (q9 l).t (q9 l).r=l:=by
 obtain⟨b0,b1,b2,b3,b4,b5,b6,b7,b8',rfl⟩:=DC h
 have k0:=b0.toNat_lt
 have k1:=b1.toNat_lt
 have k2:=b2.toNat_lt
 have k3:=b3.toNat_lt
 have k4:=b4.toNat_lt
 have k5:=b5.toNat_lt
 have k6:=b6.toNat_lt
 have k7:=b7.toNat_lt
 have k8:=b8'.toNat_lt
 unfold ZD q9
 simp only[List.getD_cons_zero,List.getD_cons_succ]
 rw[Jr (b:=b0) oX,Jr (b:=b1) oX,Jr (b:=b2) oX,Jr (b:=b3) oX,Jr (b:=b4) oX,Jr (b:=b5) oX,Jr (b:=b6) oX,Jr (b:=b7) oX,Jr (b:=b8') oX]
theorem N5(xs:List UInt8)(h9:xs.length=9)(g cc:Nat)(w:World)(hA:ArgB w (some ⟨g,0,none⟩) cc xs)(ea:Nat->Addr)(H:Errs 298 Zq w ea) :
  (GX xs=none->Calls Tryz.prog 66 #[.slice (some ⟨g,0,none⟩) 9 cc] w λe w2=>e=.returned (.tuple #[.agg (q9 xs).list.toArray,.nilIface])/\Below w.heap.size w w2)/\
  (∀ F V i,GX xs=some (F,V,i)->Calls Tryz.prog 66 #[.slice (some ⟨g,0,none⟩) 9 cc] w λe w2=>∃ v,e=.returned (.tuple #[.agg #[.int .i64 0,.int .i64 0,.int .i64 0,.int .i64 0,.int .i64 0,.int .i64 0],v])/\ErrIs ea w2 v (i+1)/\Below w.heap.size w w2):=by
 have hc:=VH hA
 have hcc:9<=cc:=by have:=hA.len;omega
 constructor
 ·intro h
  exact UK g 0 cc (xs.getD 0 0) (xs.getD 1 0) (xs.getD 2 0) (xs.getD 3 0) (xs.getD 4 0) (xs.getD 5 0) (xs.getD 6 0) (xs.getD 7 0) (xs.getD 8 0) hcc w h (pz ea) (Ub H) (hc 0 oX) (hc 1 oX) (hc 2 oX) (hc 3 oX) (hc 4 oX) (hc 5 oX) (hc 6 oX) (hc 7 oX) (hc 8 oX)
 ·intro F V i h
  refine(Mw g 0 cc (xs.getD 0 0) (xs.getD 1 0) (xs.getD 2 0) (xs.getD 3 0) (xs.getD 4 0) (xs.getD 5 0) (xs.getD 6 0) (xs.getD 7 0) (xs.getD 8 0) hcc w F V i h ea H (hc 0 oX) (hc 1 oX) (hc 2 oX) (hc 3 oX) (hc 4 oX) (hc 5 oX) (hc 6 oX) (hc 7 oX) (hc 8 oX)).mono ?_
  rintro e w2 ⟨g2,rfl,⟨_,h2⟩,h3⟩
  exact⟨_,rfl,.inr (.inr ⟨i,g2,F,V,V0 h,rfl,rfl,h2⟩),h3⟩
theorem Nu(bs:List UInt8)(b o c m:Nat)(hm:10+m+9<=bs.length)(w:World)(ha:ArgB w (some ⟨b,o,none⟩) c bs)(W:World)(hW:Below w.heap.size w W) :
  (GX (cut bs (10+m) 9)=none->Calls Tryz.prog 83 #[.slice (some ⟨b,o+(10+m),none⟩) 9 (c-(10+m))] W λe w2=>e=.returned (.tuple #[.agg (q9 (cut bs (10+m) 9)).list.toArray,.int .i64 0])/\Below W.heap.size W w2)/\
  (∀ F V i,GX (cut bs (10+m) 9)=some (F,V,i)->Calls Tryz.prog 83 #[.slice (some ⟨b,o+(10+m),none⟩) 9 (c-(10+m))] W λe w2=>e=.returned (.tuple #[.agg P6.zero.list.toArray,.int .i64 ((i+1:Nat):Int)])/\Below W.heap.size W w2):=by
 obtain⟨hA,hl⟩:=QU (ha.below hW) (10+m) 9 oX
 generalize cut bs (10+m) 9=xs at*
 have hc:∀ i,i<xs.length->W.cell? ⟨b,o+(10+m)+i,none⟩=some (.int .u8 ((xs.getD i 0).toNat:Int)):=VH hA
 have hcc:9<=c-(10+m):=by have:=hA.len;omega
 have h:=λB hB=>M4 b (o+(10+m)) (c-(10+m)) (xs.getD 0 0) (xs.getD 1 0) (xs.getD 2 0) (xs.getD 3 0) (xs.getD 4 0) (xs.getD 5 0) (xs.getD 6 0) (xs.getD 7 0) (xs.getD 8 0) hcc W B hB (hc 0 oX) (hc 1 oX) (hc 2 oX) (hc 3 oX) (hc 4 oX) (hc 5 oX) (hc 6 oX) (hc 7 oX) (hc 8 oX)
 exact⟨λhb=>h none hb,λF V i hb=>h (some (F,V,i)) hb⟩
theorem D4(bs:List UInt8)(h:0<bs.length)(hl:bs.length<=500)(hk:((bs.getD 0 0).toNat:Int)=1):Ji bs:=by
 have hr0:=λ(w:World) W pp h1 h2 h3 h4=>Hi pp (w.heap.size+1) w.heap.size (Rc.ofKind 1) (nB (bs,false) 1) W Zh Zh rfl h1 h2 h3 h4 (Uy hl)
 have hr:GD 1 ((Rc.ofKind 1).rest1 (nB (bs,false) 1)) (Yf (nB (bs,false) 1)) (nB (bs,false) 1):=λw W pp h1 h2 h3 h4=>(hr0 w W pp h1 h2 h3 h4).mono λe w2 ⟨g,c,q1,_,_,q2⟩=>⟨_,q1,q2⟩
 have hs:Yf (nB (bs,false) 1)=nBs (bs,false) [1,8,1,Yi (nB (bs,false) 1),9,32,32,8]:=rfl
 have q1:nB (bs,false) 1=(bs.drop 1,false):=Xs h
 by_cases h10:bs.length<10
 ·exact XD bs h hl 1 hk dX _ _ hr (by rw[hs];exact X7 _ _ sY) λb o c w ha=>RG bs b o c _ w ha rfl oX h hk h10
 ·obtain⟨m,hm⟩:∃ m,(bs.getD 9 0).toNat=m:=⟨_,rfl⟩
  have hm9:m<=255:=by have:=(bs.getD 9 0).toNat_lt;omega
  have hrl:Yi (nB (bs,false) 1)=m:=by
   have e:nN (nB (nB (bs,false) 1) 8) 1=(m:Int):=by rw[q1,QW oX,YA oX,XS oX,QR,hm]
   have e2:nN (nB (nB (bs,false) 1) 8) 1=((Yi (nB (bs,false) 1):Nat):Int):=rfl
   omega
  rw[hrl] at hs
  rcases Nat.lt_trichotomy bs.length (91+m) with hlt|heq|hgt
  ·exact XD bs h hl 1 hk dX _ _ hr (by rw[hs];exact X7 _ _ sY) λb o c w ha=>Nc bs b o c _ w ha rfl oX oX hk oX
  ·have hxs:nO (Yy (nB (bs,false) 1)) 9=cut bs (10+m) 9:=by
    unfold Yy YY
    rw[hrl,q1,QW oX,QW oX,QW oX,Kt oX]
   have hy0:(Rc.ofKind 1).rest1 (nB (bs,false) 1)={ Rc.ofKind 1 with obj:=(ZA (cut bs 1 8) 0:Nat),name:=⟨(cut bs 10 m).toArray⟩,root:=cut bs (19+m) 32,file:=cut bs (51+m) 32,tick:=(ZA (cut bs (83+m) 8) 0:Nat) }:=by
    unfold Rc.rest1 YV X0 X2 Yy YY
    rw[hrl,q1,QW oX,QW oX,QW oX,QW oX,QW oX,QW oX,YA oX,YA oX,Kt oX,Kt oX,Kt oX]
    rw[show 1+8+1+m+9=19+m from by omega,show 19+m+32=51+m from by omega,show 51+m+32=83+m from by omega]
   have hg:=λl=>Uu (Vn l 0 dX)
   have hnm:(⟨(cut bs 10 m).toArray⟩:ByteArray).size=m:=by
    show (cut bs 10 m).toArray.size=m
    rw[List.size_toArray]
    exact Qi oX
   have hnl:(⟨(cut bs 10 m).toArray⟩:ByteArray).size<=maxLen:=by rw[hnm];unfold maxLen;omega
   have hyk0:((Rc.ofKind 1).rest1 (nB (bs,false) 1)).Ok:=by
    rw[hy0]
    exact⟨by show inI 1;decide,hg _,Rc.zero_ok.id,hnl,Rc.zero_ok.p,Qi oX,Qi oX,Rc.zero_ok.way,Rc.zero_ok.index,Rc.zero_ok.verdict,hg _⟩
   have hzk:∀ q:P6,q.Ok->(yR1 bs m q).Ok:=λq hq=>⟨by show inI 1;decide,QS _,Rc.zero_ok.id,hnl,hq,Qi oX,Qi oX,Rc.zero_ok.way,Rc.zero_ok.index,Rc.zero_ok.verdict,QS _⟩
   have hs2:Yf (nB (bs,false) 1)=(bs.drop (91+m),false):=by rw[hs,QF _ _ sY];congr 2;simp;omega
   have hs2l:(Yf (nB (bs,false) 1)).1.length=0:=by rw[hs2];simp;omega
   have hs2f:(Yf (nB (bs,false) 1)).2=false:=by rw[hs2]
   have hx9:(cut bs (10+m) 9).length=9:=Qi oX
   have hrq:∀ (w:World) W pp,W.heap[pp]? = some (.cells (Rc.ofKind 1).list.toArray 49 (0,0))->RdM W (w.heap.size+1) w.heap.size (nB (bs,false) 1).1 (nB (bs,false) 1).2->pp≠w.heap.size+1->w.heap.size<=pp->
     Calls Tryz.prog 65 #[.pointer (some ⟨w.heap.size+1,0,none⟩),.pointer (some ⟨pp,0,none⟩)] W λe w2=>∃ g cc,e=.returned (.slice (some ⟨g,0,none⟩) 9 cc)/\ArgB w2 (some ⟨g,0,none⟩) cc (cut bs (10+m) 9)/\w2.heap[pp]? = some (.cells ((Rc.ofKind 1).rest1 (nB (bs,false) 1)).list.toArray 49 (0,0))/\RdM w2 (w.heap.size+1) w.heap.size (Yf (nB (bs,false) 1)).1 (Yf (nB (bs,false) 1)).2/\Only (λk=>k=pp\/k=w.heap.size+1) W w2:=by
    intro w W pp h1 h2 h3 h4
    refine(hr0 w W pp h1 h2 h3 h4).mono ?_
    rintro e w2 ⟨g,c,a1,a2,_,a3,a4,a5⟩
    rw[hxs] at a2
    exact⟨g,c,a1,a2,a3,a4,a5⟩
   cases hb:GX (cut bs (10+m) 9) with
   | some q=>
    obtain⟨F,V,i⟩:=q
    refine⟨Rc.zero,i+1,Rc.zero_ok,(λh=>by cases h),by have:=V0 hb;omega,λa c w ea ha haf H=>?_,λa c w ha=>?_⟩
    ·exact Pg bs a c _ w ea 1 (by rw[<-hk];exact Vm h) _ _ (cut bs (10+m) 9) i (by rw[Xs h]) dX (hrq w) hs2f hs2l (λW g cc hA hE=>(N5 _ hx9 g cc W hA ea hE).2 F V i hb) ha rfl oX haf H
    ·obtain⟨b,o,rfl⟩:=Xa ha h
     have:=Tn bs b o c m P6.zero ((i+1:Nat):Int) sY (yR1 bs m P6.zero) rfl (hzk _ Rc.zero_ok.p) w ha heq oX hk hm (λW hW=>(Nu bs b o c m oX w ha W hW).2 F V i hb)
     rw[<-heq] at this
     exact this
   | none=>
    have hq:=Ds (cut bs (10+m) 9)
    have hy:{ (Rc.ofKind 1).rest1 (nB (bs,false) 1) with p:=q9 (cut bs (10+m) 9) }=({ Rc.ofKind 1 with obj:=(ZA (cut bs 1 8) 0:Nat),name:=⟨(cut bs 10 m).toArray⟩,p:=q9 (cut bs (10+m) 9),root:=cut bs (19+m) 32,file:=cut bs (51+m) 32,tick:=(ZA (cut bs (83+m) 8) 0:Nat) }:Rc):=by rw[hy0]
    obtain⟨y,hyd⟩:∃ y:Rc,y={ (Rc.ofKind 1).rest1 (nB (bs,false) 1) with p:=q9 (cut bs (10+m) 9) }:=⟨_,rfl⟩
    have hyp:y.p=q9 (cut bs (10+m) 9):=by rw[hyd]
    have hyk:y.Ok:=by
     rw[hyd]
     exact⟨hyk0.kind,hyk0.obj,hyk0.id,hyk0.name,hq,hyk0.root,hyk0.file,hyk0.way,hyk0.index,hyk0.verdict,hyk0.tick⟩
    rw[<-hyd] at hy
    have hz:=hzk _ hq
    have hag:=Uz y (yR1 bs m (q9 (cut bs (10+m) 9))) (by rw[hy];rfl) (by rw[hy];exact Yb _ 0) (.inl (by rw[hy];rfl)) (.inl (by rw[hy];rfl)) (by rw[hy];exact Yb _ 0) (by rw[hy];rfl) (by rw[hy];rfl) (by rw[hy];rfl) (by rw[hy];rfl) (by rw[hy];rfl) (by rw[hy];rfl) (λ_ _=>by rw[hy];rfl) (λ_=>by rw[hy];rfl)
    have href:∀ (b o c:Nat) (w:World),ArgB w (some ⟨b,o,none⟩) c bs->Calls Tryz.prog 37 #[.slice (some ⟨b,o,none⟩) bs.length c] w (QB (yR1 bs m (q9 (cut bs (10+m) 9))) w):=by
     intro b o c w ha
     have:=Mm bs b o c m (q9 (cut bs (10+m) 9)) _ rfl hz w ha heq oX hk hm (λW hW=>(Nu bs b o c m oX w ha W hW).1 hb)
     rw[<-heq] at this
     exact this
    by_cases h0:y.chk=0
    ·have ho:y.out=bs:=by
      obtain⟨_,hn,_,_⟩:=Rc.chk0 h0
      obtain⟨r1,r2,_,_⟩:=Xp hn
      have hkk:y.kind=1:=by rw[hy];rfl
      unfold Rc.out Rc.head
      rw[if_pos hkk,hkk]
      have e1:=Yp (Qi (l:=bs) (k:=1) (n:=8) oX) (v:=y.obj) (by rw[hy]) r1.2
      have e2:=Yp (Qi (l:=bs) (k:=83+m) (n:=8) oX) (v:=y.tick) (by rw[hy]) r2.2
      have e3:ZD y.p.s y.p.n y.p.k y.p.d y.p.t y.p.r=cut bs (10+m) 9:=by rw[hyp];exact LZ hx9
      have e4 : [b8 (y.name.size:Int)]=cut bs 9 1:=by
       rw[hy,XS oX]
       show [b8 (((⟨(cut bs 10 m).toArray⟩:ByteArray).size:Nat):Int)]=_
       rw[hnm,<-hm,XT]
      have e5:y.name.data.toList=cut bs 10 m:=by rw[hy]
      have e6:y.root=cut bs (19+m) 32:=by rw[hy]
      have e7:y.file=cut bs (51+m) 32:=by rw[hy]
      have e8:b8 1=bs.getD 0 0:=by rw[<-XT (bs.getD 0 0),hk]
      have d1:=VB (l:=bs) (k:=83+m) (n:=8) oX
      have d2:=Qr bs (51+m) 32
      have d3:=Qr bs (19+m) 32
      have d4:=Qr bs (10+m) 9
      have d5:=Qr bs 10 m
      have d6:=Qr bs 9 1
      have d7:=Qr bs 1 8
      rw[show 51+m+32=83+m from by omega] at d2
      rw[show 19+m+32=51+m from by omega] at d3
      rw[show 10+m+9=19+m from by omega] at d4
      rw[e1,e2,e3,e4,e5,e6,e7,e8,List.cons_append,<-d1,<-d2,<-d3,<-d4,<-d5,<-d6,<-d7,<-VG h]
     have he:=hag.2 h0
     refine⟨y,0,hyk,λ_=>⟨h0,ho⟩,dX,λa c w ea ha haf H=>?_,λa c w ha=>?_⟩
     ·refine(K4 y hyk h0 a c _ w (by rw[ho];exact ha) (by rw[ho]) oX haf ea H).mono ?_
      rintro e w2 ⟨rfl,hb⟩
      exact⟨_,rfl,.inl ⟨rfl,rfl⟩,hb⟩
     ·obtain⟨b,o,rfl⟩:=Xa ha h
      refine(href b o c w ha).mono λe w2 h=>?_
      unfold QB at h
      rw[<-he,if_pos h0,h0] at h
      exact h
    ·refine⟨Rc.zero,y.chk,Rc.zero_ok,λh=>absurd h h0,Pz y,λa c w ea ha haf H=>?_,λa c w ha=>?_⟩
     ·exact T6 bs a c _ w ea 1 (by rw[<-hk];exact Vm h) y hyk _ hyk0 (by rw[hyp];exact hyd) _ (cut bs (10+m) 9) (by rw[Xs h]) dX (hrq w) hs2f hs2l (λW g cc hA hE=>by rw[hyp];exact(N5 _ hx9 g cc W hA ea hE).1 hb) h0 ha rfl oX haf H
     ·obtain⟨b,o,rfl⟩:=Xa ha h
      refine(href b o c w ha).mono λe w2 h=>?_
      unfold QB at h
      rw[if_neg (by rw[<-hag.1];exact h0),<-hag.1] at h
      exact h
  ·exact JK bs h hl 1 hk dX _ _ hr (by rw[hs,QF _ _ sY]) (by rw[hs,QF _ _ sY];simp;omega) λb o c w ha=>NV bs b o c _ w ha rfl oX oX hk oX
theorem JE(bs:List UInt8)(hl:bs.length<=500):Ji bs:=by
 by_cases h:0<bs.length
 ·cases hi:inB ((bs.getD 0 0).toNat:Int) 1 4 with
  | false=>exact Pq bs h hl hi
  | true=>
   unfold inB at hi
   simp only[Bool.and_eq_true,decide_eq_true_eq] at hi
   rcases(show ((bs.getD 0 0).toNat:Int)=1\/((bs.getD 0 0).toNat:Int)=2\/((bs.getD 0 0).toNat:Int)=3\/((bs.getD 0 0).toNat:Int)=4 by omega) with h1|h1|h1|h1
   ·exact D4 bs h hl h1
   ·exact D0 bs h hl h1
   ·exact Dx bs h hl h1
   ·exact Dt bs h hl h1
 ·exact HR bs oX
end Go.Proofs.YtpdhceiodgnbmaaGreatDoor
