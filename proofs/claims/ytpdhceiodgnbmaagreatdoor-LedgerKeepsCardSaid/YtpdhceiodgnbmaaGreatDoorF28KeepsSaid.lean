import Derived.Test.YtpdhceiodgnbmaaGreatDoorF27KeepsSaid
import Derived.Test.YtpdhceiodgnbmaaGreatDoorF19KeepsSaid
set_option linter.all false
set_option maxRecDepth 100000
set_option maxHeartbeats 8000000
namespace Go.Proofs.YtpdhceiodgnbmaaGreatDoor
section
open Go.RowKit
theorem LS{P:Program}{f:FuncId}{args:Array Value}{w:World}{R1 R2:Value->World->Prop}(h1:Calls P f args w λe w'=>∃ v,e=.returned v/\R1 v w')(h2:Calls P f args w λe w'=>∃ v,e=.returned v/\R2 v w')(hi:P.inits.idxOf? f=none):∃ v w1 w2,R1 v w1/\R2 v w2:=by
 obtain⟨n1,v1,w1,e1,r1⟩:=Calls.done (R:=R1) (h1.mono (by rintro e w' ⟨v,rfl,h⟩;exact h)) hi;obtain⟨n2,v2,w2,e2,r2⟩:=Calls.done (R:=R2) (h2.mono (by rintro e w' ⟨v,rfl,h⟩;exact h)) hi;have:=runN_same_end e1 e2;cases this;exact⟨_,w1,w2,r1,r2⟩
theorem Tw{x y:Rc}(hx:x.Ok)(hy:y.Ok)(h:x.list=y.list)(w:World):x=y:=by
 have h1:=(NS x y hx hy w).2;have h2:=(NS x x hx hx w).2;rw[<-h,h2] at h1;simpa using h1
theorem RF(x:Rc)(hx:x.Ok)(hc:x.chk=0):1<=x.out.length/\x.out.length<=400:=by
 have hl:x.kind=1->x.name.size<=12:=λh=>G5 ((Rc.chk0 hc).2.2.2 h).1;have hb:(ZL x.p.s x.p.n x.p.k x.p.d x.p.t x.p.r).length=9:=rfl;unfold Rc.out Rc.head;split
 ·next h=>
  have:=hl h;simp[Zk,hx.root,hx.file,hb];omega
 ·split
  ·simp[Zk]
  ·split<;>simp[Zk]
theorem Er(x:Rc)(hx:x.Ok)(hc:x.chk=0)(w:World)(ea:Nat->Addr)(H:aQ 298 aK w ea):gN x.out=(x,0):=by
 obtain⟨l1,l4⟩:=RF x hx hc;have hB:Below w.heap.size w (w.alloc (.cells (cB x.out).toArray 5)):=bR.alloc nZ _;have hA:=Cv w 5 x.out _ rfl aB;obtain⟨p1,_,_,p4⟩:=MY (bs:=x.out) aB;have c1:=p4 _ _ _ ea hA (H.below hB);have c2:=UK x hx hc _ _ _ _ hA rfl aB (λad e=>by cases e;exact⟨_,_,rfl,sX⟩) ea (H.below hB);obtain⟨v,w1,w2,r1,r2⟩:=LS (R1:=λv w2=>∃ u,v=.tuple #[.agg (gN x.out).1.list.toArray,u]/\aT ea w2 u (gN x.out).2) (R2:=λv w2=>v=.tuple #[.agg x.list.toArray,.nilIface]) (c1.mono (by rintro e w' ⟨u,rfl,h,_⟩;exact⟨_,rfl,u,rfl,h⟩)) (c2.mono (by rintro e w' ⟨rfl,_⟩;exact⟨_,rfl,rfl⟩)) kX;obtain⟨u,e1,e2⟩:=r1;rw[r2] at e1;simp only[Value.tuple.injEq,Array.mk.injEq,List.cons.injEq,and_true,Value.agg.injEq] at e1;obtain⟨e3,rfl⟩:=e1;have h0:(gN x.out).2=0:=by
  rcases e2 with ⟨h,_⟩|⟨i,_,_,h⟩|⟨i,_,_,_,_,_,h,_⟩
  ·exact h
  ·cases h
  ·cases h
 have hxy:x=(gN x.out).1:=Tw hx p1 (by simpa using e3) w;exact Prod.ext hxy.symm h0
def Ur:St->List Rc->Prop
 | _,[]=>True
 | m,x::xs=>x.Ok/\(Zm m x).2=0/\Ur (Zm m x).1 xs
def Jm:St->List Rc->St
 | m,[]=>m
 | m,x::xs=>Jm (Zm m x).1 xs
theorem Tv{m:St}{x:Rc}(h:(Zm m x).2=0):x.chk=0:=by
 by_cases hc:x.chk=0
 ·exact hc
 ·unfold Zm at h;rw[if_pos hc] at h;exact absurd h hc
theorem KW:∀ (xs:List Rc) (m:St) (x:Rc),Ur m xs->x.Ok->(Zm (Jm m xs) x).2=0->Ur m (xs++[x])
 | [],_,_,_,hx,h=>⟨hx,h,trivial⟩
 | y::ys,m,x,h,hx,h2=>⟨h.1,h.2.1,KW ys _ x h.2.2 hx h2⟩
theorem Gi:∀ (xs:List Rc) (m:St) (x:Rc),Jm m (xs++[x])=(Zm (Jm m xs) x).1
 | [],_,_=>rfl
 | y::ys,m,x=>Gi ys _ x
theorem Nx(w:World)(ea:Nat->Addr)(H:aQ 298 aK w ea):∀ (xs:List Rc) (m:St),Ur m xs->Qj m (xs.map Rc.out)=(Jm m xs,0)
 | [],m,_=>rfl
 | x::xs,m,h=>by
  have hc:=Tv h.2.1;have hs:Xa m x.out=((Zm m x).1,0):=by
   unfold Xa;rw[Er x h.1 hc w ea H];simp only[ne_eq,not_true_eq_false,if_false];rw[if_neg (by rw[h.2.1];simp)];exact Prod.ext rfl h.2.1
  rw[List.map_cons,YS,hs];simp only[ne_eq,not_true_eq_false,if_false];exact Nx w ea H xs _ h.2.2
theorem M3:∀ (xs:List Rc) (m:St) (k:Nat),SB k m->SB (k+xs.length) (Jm m xs)
 | [],m,k,h=>h
 | x::xs,m,k,h=>by
  have:=M3 xs _ (k+1) (Mf h x);rwa [show k+1+xs.length=k+(x::xs).length by simp;omega] at this
def Yr:Nat->List (List UInt8)->List (List UInt8)->List (List UInt8)
 | _,ps,[]=>ps
 | n,ps,b::bs=>Yr (n+1) (QU n ps b) bs
theorem Kh:∀ (bs:List (List UInt8)) (n:Nat) (ps:List (List UInt8)) (b:List UInt8),Yr n ps (bs++[b])=QU (n+bs.length) (Yr n ps bs) b
 | [],n,ps,b=>rfl
 | c::bs,n,ps,b=>by
  rw[List.cons_append,Yr,Yr,Kh bs (n+1),List.length_cons,show n+1+bs.length=n+(bs.length+1) by omega]
theorem Vu:∀ (bs:List (List UInt8)) (n:Nat) (ps:List (List UInt8)),n+bs.length<=1000000->ps.length=Qd 64 n->(Yr n ps bs).length=Qd 64 (n+bs.length)
 | [],n,ps,_,h=>h
 | b::bs,n,ps,hn,h=>by
  rw[List.length_cons] at hn;rw[Yr,Vu bs (n+1) _ aB (P9 aB h),List.length_cons,show n+1+bs.length=n+(bs.length+1) by omega]
structure mH (base:Nat) (w:World) (e ea:Nat->Addr):Prop where
 d:∀ W,Below base w W->dJ W e
 s:∀ W,Below base w W->bP W/\bZ W
 h:∀ W,Below base w W->aQ 298 aK W ea
 p:13<base
theorem mH.below{base:Nat}{w w':World}{e ea:Nat->Addr}(h:mH base w e ea)(hb:Below base w w'):mH base w' e ea:=
 ⟨λW hW=>h.d W (hb.trans hW),λW hW=>h.s W (hb.trans hW),λW hW=>h.h W (hb.trans hW),h.p⟩
theorem mH.full{base:Nat}{w:World}{e ea:Nat->Addr}(h:mH base w e ea):yZ w:=⟨_,(h.h w bR).var 11 dX⟩
theorem d9.powE{base:Nat}{w:World}{l:Nat}{V:LV}{P:LP}{e ea:Nat->Addr}(h:d9 base w l V P)(hE:mH base w e ea):13≠V.B:=λeq=>by
 have:=(h.lt V.B (.inr (.inr (.inr (.inr (.inl rfl)))))).1;have:=hE.p;omega
structure fV (P:LP) (bH:List Rc):Prop where
 dead:P.dead=false
 recs:P.recs=bH.map Rc.out
 fol:Ur ⟨[],[]⟩ bH
 m:P.m=Jm ⟨[],[]⟩ bH
 n:P.n=P.recs.length
 ps:P.ps=Yr 0 [] P.recs
 le:bH.length<=100
theorem fV.len{P:LP}{bH:List Rc}(h:fV P bH):P.recs.length=bH.length:=by rw[h.recs,List.length_map]
theorem fV.sb{P:LP}{bH:List Rc}(h:fV P bH):SB bH.length P.m:=by
 have:=M3 bH ⟨[],[]⟩ 0 (QJ 0);rw[<-h.m,Nat.zero_add] at this;exact this
theorem fV.l1{P:LP}{bH:List Rc}(h:fV P bH):P.m.its.length<=1000:=by have:=h.sb.its;omega
theorem fV.l2{P:LP}{bH:List Rc}(h:fV P bH):P.m.ens.length<=1000:=by have:=h.sb.ens;have:=h.le;omega
theorem fV.hub{P:LP}{bH:List Rc}(h:fV P bH):∀ y∈P.m.its,y.u<=1000000/\y.r<=1000000:=λy hy=>by
 have:=h.sb.us y hy;have:=h.le;omega
theorem fV.ones{P:LP}{bH:List Rc}(h:fV P bH):P.ps.length=Qd 64 P.n:=by
 have:=Vu P.recs 0 [] (by have:=h.len;have:=h.le;omega) rfl;rw[h.ps,h.n,this,Nat.zero_add]
theorem fV.next{P P':LP}{bH:List Rc}{x:Rc}(h:fV P bH)(hx:x.Ok)(hf:(Zm P.m x).2=0)(hl:bH.length<100)(h1:P'.dead=false)(h2:P'.recs=P.recs++[x.out])(h3:P'.m=(Zm P.m x).1)(h4:P'.n=P.n+1)(h5:P'.ps=QU P.n P.ps x.out):fV P' (bH++[x]):=by
 refine⟨h1,by rw[h2,h.recs,List.map_append];rfl,KW _ _ _ h.fol hx (by rw[<-h.m];exact hf),by rw[h3,Gi,<-h.m],by rw[h4,h2,h.n,List.length_append];rfl,?_,by rw[List.length_append];exact hl⟩;rw[h5,h2,Kh,<-h.ps,h.n,Nat.zero_add]
def ROg(V:LV)(P:LP)(nn:Nat)(x:Rc):fq:=λmn p recs sure dead=>mn<=V.mn+500/\P.p.l-500<=p.l/\p.l<=P.p.l/\dead=false/\recs=P.recs++[x.out]/\sure=P.recs.length+1/\Good p nn recs/\okR x.out/\Zn P.recs+(34+x.out.length)<=64*nn/\x.Ok/\(Zm P.m x).2=0
def RBg(V:LV)(P:LP)(nn:Nat)(x:Rc):fq:=λmn p recs sure dead=>mn=V.mn/\p=P.p/\recs=P.recs/\sure=P.sure/\dead=false/\((Zm P.m x).2≠0\/¬Zn P.recs+(34+x.out.length)<=64*nn)
theorem L5{base:Nat}{w:World}{l:Nat}{V:LV}{P:LP}{bH:List Rc}{e ea:Nat->Addr}(h:d9 base w l V P)(hb:base<=w.heap.size)(hI:fV P bH)(hE:mH base w e ea)(nn:Nat)(hG:Good P.p nn P.recs)(hnn:nn<=1000)(zg:Zn P.recs<=64*nn)(jO:V.mn<=50000)(hpl : -200000<=P.p.l/\P.p.l<=200000)(x:Rc)(hx:x.Ok) :
  Calls Tryz.prog 81 #[.pointer (some ⟨l,0,none⟩),.agg x.list.toArray] w (HK base w l V P (Zm P.m x).1 (QU P.n P.ps x.out) (ROg V P nn x) (RBg V P nn x)):=by
 have H:=hE.h w bR;by_cases hn:(Zm P.m x).2=0
 ·have hc:=Tv hn;obtain⟨o1,o4⟩:=RF x hx hc;refine Rw h hb x hx hI.l1 hI.l2 hI.hub ea H hn _ _ _ (λW hW=>Pf x hx hc ea W (H.below hW)) (λW a c hW hA Ap=>?_) (λW a c hW hf hA=>?_)
  ·have hWb:Below base w W:=hW.mono hb;have hEW:=hE.below hWb;have hj:=(h.below hW).jd;rw[hI.dead] at hj;have hlt:=λk hk=>(h.lt k hk).2;have ma:∀ b o s,a=some ⟨b,o,s⟩->¬JF V.J V.F V.rv b/\¬ZR V.B V.mb V.v b/\b<W.heap.size:=λb o s eq=>by
    obtain⟨q1,q2⟩:=Ap b o s eq;exact⟨λhh=>by have:=hlt b (.inr (.inr (.inr (.inl hh))));omega,λhh=>by have:=hlt b (.inr (.inr (.inr (.inr hh))));omega,q2⟩
   by_cases hfit:Zn P.recs+(34+x.out.length)<=64*nn
   ·refine(CD hj (Nat.le_trans hb hW.size) nn hG hnn jO hpl e (h.powE hE) hEW.d (hEW.s W bR).1 (hEW.s W bR).2 x.out o1 o4 hfit a c hA ma).mono ?_;rintro y w' ⟨rfl,gD,v',rv',F',p',b1,hst,hG',b3,b4⟩;exact⟨gD,v',rv',F',p',_,_,_,hst,.inl ⟨rfl,b1,b3,b4,rfl,rfl,rfl,hG',⟨o1,o4⟩,hfit,hx,hn⟩⟩
   ·refine(Ea W V.J a x.out.length c (TR hj nn hG.n hnn zg hEW.full a x.out.length c o1 o4 (by unfold Je;omega))).mono ?_;rintro y w' ⟨hs,hb'⟩;have hEw:mH base w' e ea:=hEW.below (hb'.mono (Nat.le_trans hb hW.size));obtain⟨v,rfl,hv⟩:=uL.badE (x:=y) (w:=w') hs hEw.h;exact⟨V.mn,V.v,V.rv,V.F,P.p,P.recs,P.sure,false,(bA.same hj).grow hb',.inr ⟨v,rfl,hv,rfl,rfl,rfl,rfl,rfl,.inr hfit⟩⟩
  ·exact Ra hf (Nat.le_trans hb hW.size) (by rw[hI.n,hI.len];have:=hI.le;omega) hI.ones a c x.out hA aB (λW' hW'=>(hE.s W' (hW.trans hW')).1) (λW' hW'=>(hE.s W' (hW.trans hW')).2)
 ·exact Bf h hb x hx hI.l1 hI.l2 hI.hub ea H hn _ _ _ ⟨rfl,rfl,rfl,rfl,hI.dead,.inl hn⟩ hE.h
structure Kps (m m':St):Prop where
 its:m.its.length<=m'.its.length
 ens:m.ens.length<=m'.ens.length
 it:∀ i,i<m.its.length->(m.its.getD i default).u<=(m'.its.getD i default).u/\(m'.its.getD i default).s=(m.its.getD i default).s/\((m.its.getD i default).k=true->(m'.its.getD i default).k=true)
 en:∀ i,i<m.ens.length->(m'.ens.getD i default).id=(m.ens.getD i default).id/\((m.ens.getD i default).v≠0->m'.ens.getD i default=m.ens.getD i default)
def yn(m:St):Prop:=∀ i,i<m.ens.length->(m.ens.getD i default).id=(i:Int)
theorem Kps.refl(m:St):Kps m m:=⟨Nat.le_refl _,Nat.le_refl _,λi _=>⟨Int.le_refl _,rfl,id⟩,λi _=>⟨rfl,λ_=>rfl⟩⟩
theorem Gk{α:Type}[Inhabited α]{l:List α}{x:α}{i:Nat}(h:i<l.length):(l++[x]).getD i default=l.getD i default:=by
 rw[List.getD_eq_getElem?_getD,List.getD_eq_getElem?_getD,List.getElem?_append_left h]
theorem LY{α:Type}[Inhabited α]{l:List α}{x:α}:(l++[x]).getD l.length default=x:=by
 rw[List.getD_eq_getElem?_getD,List.getElem?_append_right nZ,Nat.sub_self];rfl
theorem VX{α:Type}[Inhabited α]{l:List α}{x:α}{i j:Nat}(h:i<l.length):(l.set j x).getD i default=if j=i then x else l.getD i default:=by
 rw[List.getD_eq_getElem?_getD,List.getElem?_set,List.getD_eq_getElem?_getD];by_cases e:j=i
 ·subst e;rw[if_pos rfl,if_pos rfl,if_pos h];rfl
 ·rw[if_neg e,if_neg e]
theorem N7{m:St}{x:Rc}(h:(Zm m x).2=0)(hi:yn m):Kps m (Zm m x).1/\yn (Zm m x).1:=by
 unfold Zm at h ⊢;split at h
 ·next hc=>exact absurd h hc
 next hc=>
 rw[if_neg hc];split at h
 ·next h1=>
  rw[if_pos h1];unfold Xx at h ⊢;split at h
  ·cases h
  next q1=>
  rw[if_neg q1];split at h
  ·cases h
  next q2=>
  rw[if_neg q2];split at h
  ·cases h
  next q3=>
  rw[if_neg q3];refine⟨⟨sX,Nat.le_refl _,λi hi=>?_,λi _=>⟨rfl,λ_=>rfl⟩⟩,hi⟩;show _<=((m.its++[x.it]).getD i default).u/\_;rw[Gk hi];exact⟨Int.le_refl _,rfl,id⟩
 next h1=>
 rw[if_neg h1];split at h
 ·next h2=>
  rw[if_pos h2];unfold X6 at h ⊢;split at h
  ·cases h
  next q1=>
  rw[if_neg q1];split at h
  ·cases h
  next q2=>
  rw[if_neg q2];split at h
  ·cases h
  next q3=>
  rw[if_neg q3];split at h
  ·cases h
  next q4=>
  rw[if_neg q4];have hid:x.id=(m.ens.length:Int):=by
   by_cases hq:x.id=(m.ens.length:Int)
   ·exact hq
   ·exact absurd (Or.inl hq) q4
  refine⟨⟨sX,sX,λi hi=>?_,λi hi=>?_⟩,λi hi=>?_⟩
  ·show _<=((m.its.set x.obj.toNat (Jc (m.its.getD x.obj.toNat default) x.way)).getD i default).u/\_;rw[VX hi];split
   ·next e=>
    subst e;unfold Jc;split
    ·exact⟨by show _<=_+1;omega,rfl,id⟩
    ·exact⟨Int.le_refl _,rfl,id⟩
   ·exact⟨Int.le_refl _,rfl,id⟩
  ·show ((m.ens++[(⟨x.id,x.obj,x.way,x.index,x.tick,0,0⟩:En)]).getD i default).id=_/\_;rw[Gk hi];exact⟨rfl,λ_=>rfl⟩
  ·show ((m.ens++[(⟨x.id,x.obj,x.way,x.index,x.tick,0,0⟩:En)]).getD i default).id=_;have hi2:i<m.ens.length+1:=by simpa using hi
   by_cases hl:i<m.ens.length
   ·rw[Gk hl];exact ‹yn m› i hl
   ·obtain rfl:i=m.ens.length:=aB;rw[LY];exact hid
 next h2=>
 rw[if_neg h2];split at h
 ·next h3=>
  rw[if_pos h3];unfold Va at h ⊢;split at h
  ·cases h
  next q1=>
  rw[if_neg q1];split at h
  ·cases h
  next q2=>
  rw[if_neg q2];refine⟨⟨sX,Nat.le_refl _,λi hi=>?_,λi _=>⟨rfl,λ_=>rfl⟩⟩,hi⟩;show _<=((m.its.set x.obj.toNat _).getD i default).u/\_;rw[VX hi];split
  ·next e=>
   subst e;exact⟨Int.le_refl _,rfl,λ_=>rfl⟩
  ·exact⟨Int.le_refl _,rfl,id⟩
 next h3=>
 rw[if_neg h3];unfold Xv at h ⊢;split at h
 ·cases h
 next q1=>
 rw[if_neg q1];split at h
 ·cases h
 next q2=>
 rw[if_neg q2];split at h
 ·cases h
 next q3=>
 rw[if_neg q3];refine⟨⟨Nat.le_refl _,sX,λi _=>⟨Int.le_refl _,rfl,id⟩,λi hi=>?_⟩,λi hi=>?_⟩
 ·show ((m.ens.set x.id.toNat _).getD i default).id=_/\_;rw[VX hi];split
  ·next e=>
   subst e;exact⟨rfl,λhv=>absurd hv q3⟩
  ·exact⟨rfl,λ_=>rfl⟩
 ·have hi2:i<m.ens.length:=by simpa using hi
  show ((m.ens.set x.id.toNat _).getD i default).id=_;rw[VX hi2];split
  ·next e=>
   subst e;exact ‹yn m› _ hi2
  ·exact ‹yn m› i hi2
theorem GD:∀ (xs:List Rc) (m:St),Ur m xs->yn m->yn (Jm m xs)
 | [],_,_,h=>h
 | x::xs,m,h,hi=>GD xs _ h.2.2 (N7 h.2.1 hi).2
theorem fV.ids{P:LP}{bH:List Rc}(h:fV P bH):yn P.m:=by
 rw[h.m];exact GD bH _ h.fol (λi hi=>absurd hi (Nat.not_lt_zero _))
theorem Hy:∀ (k n:Nat) (qs:List (List UInt8)) (d:List UInt8),QI k n qs d=JG Zo k n qs [] d
 | 0,_,_,_=>rfl
 | k+1,n,qs,d=>by
  rw[QI,JG];split
  ·exact Hy k _ _ _
  ·rfl
theorem Nb:∀ (recs:List (List UInt8)) (n:Nat) (ps L:List (List UInt8)),(∃ bs:List (sM (List UInt8)),Vn Zo bs/\bs.map (·.d)=ps/\leaves bs=L)->L.length=n->
  ∃ bs:List (sM (List UInt8)),Vn Zo bs/\bs.map (·.d)=Yr n ps recs/\leaves bs=L++recs.map Zr
 | [],n,ps,L,h,_=>by
  obtain⟨bs,h1,h2,h3⟩:=h;exact⟨bs,h1,h2,by simpa using h3⟩
 | r::recs,n,ps,L,h,hn=>by
  obtain⟨bs,h1,h2,h3⟩:=h;obtain⟨cs,k1,k2,k3⟩:=Wu ([]:List UInt8) n 0 n bs [Zr r] (Zr r) nZ h1 (λb _=>Nat.zero_le _) (by rw[h3,hn];simp) rfl (.one _);rw[h2] at k2;rw[h3] at k3;have hg:cs.map (·.d)=QU n ps r:=by rw[k2];unfold QU;rw[Hy]
  obtain⟨ds,d1,d2,d3⟩:=Nb recs (n+1) (QU n ps r) (L++[Zr r]) ⟨cs,k1,hg,k3⟩ (by simp[hn]);exact⟨ds,d1,d2,by rw[d3,List.map_cons,List.append_assoc];rfl⟩
theorem WD(recs:List (List UInt8))(h:recs≠[]):∃ r,U4 Zo (Yr 0 [] recs)=some r/\Ov Zo (recs.map Zr) r:=by
 obtain⟨bs,h1,h2,h3⟩:=Nb recs 0 [] [] ⟨[],⟨λb hb=>absurd hb sX,List.Pairwise.nil⟩,rfl,rfl⟩ rfl;have hne:bs≠[]:=by
  intro e;subst e;cases recs with
  | nil=>exact h rfl
  | cons r rs=>simp[leaves] at h3
 obtain⟨r,r1,r2⟩:=Dm bs h1 hne;rw[h2] at r1;rw[h3,List.nil_append] at r2;exact⟨r,r1,r2⟩
noncomputable def fI(L:List (List UInt8)):List UInt8:=by
 classical exact if h:∃ d,Ov Zo L d then h.choose else []
theorem Ux{L:List (List UInt8)}(h:1<=L.length):Ov Zo L (fI L):=by
 have he:=Ov.ex Zo L.length L nZ h;unfold fI;rw[dif_pos he];exact he.choose_spec
theorem EE{L:List (List UInt8)}{d:List UInt8}(h:Ov Zo L d):fI L=d:=(Ux h.pos).uniq h
noncomputable def QS(L:List (List UInt8)):List UInt8:=if L=[] then sha [] else fI L
theorem J4{L:List (List UInt8)}(h:1<=L.length):Ov Zo L (QS L):=by
 unfold QS;rw[if_neg (by intro e;subst e;simp at h)];exact Ux h
theorem JN:∀ (f m n fr:Nat) (wh:Bool),(Zt f m n fr wh).2.1=true->wh=true/\(Zt f m n fr wh).2.2=fr
 | 0,_,_,_,_,h=>⟨h,rfl⟩
 | f+1,m,n,fr,wh,h=>by
  unfold Zt at h ⊢;split at h
  ·next h1=>
   rw[if_pos h1];split at h
   ·next h2=>
    rw[if_pos h2];exact JN f _ _ _ _ h
   ·next h2=>
    have:=(JN f _ _ _ _ h).1;cases this
  ·next h1=>
   rw[if_neg h1];exact⟨h,rfl⟩
theorem JC:∀ (f m n fr:Nat) (wh:Bool),1<=m->m<=n->n<=f->(∀ s∈(Zt f m n fr wh).1,s.from_<s.to/\s.to<=fr+n)/\fr<=(Zt f m n fr wh).2.2/\(Zt f m n fr wh).2.2<fr+m
 | 0,m,n,fr,wh,h1,h2,h3=>by omega
 | f+1,m,n,fr,wh,h1,h2,h3=>by
  unfold Zt;split
  ·next h4=>
   obtain⟨k,hk,hk1,hk2⟩:=J9 (n:=n) aB;split
   ·next h5=>
    obtain⟨q1,q2,q3⟩:=JC f m (Zs n) fr wh h1 h5 aB;refine⟨λs hs=>?_,q2,q3⟩;rcases List.mem_cons.1 hs with rfl|hs
    ·exact⟨by show fr+Zs n<fr+n;omega,Nat.le_refl _⟩
    ·have:=q1 s hs;omega
   ·next h5=>
    have hp:=Nat.pow_pos (n:=k) (show 0<2 by decide);obtain⟨q1,q2,q3⟩:=JC f (m-Zs n) (n-Zs n) (fr+Zs n) false aB aB aB;refine⟨λs hs=>?_,Nat.le_trans (Nat.le_add_right _ _) q2,Nat.lt_of_lt_of_le q3 aB⟩;rcases List.mem_cons.1 hs with rfl|hs
    ·exact⟨by show fr<fr+Zs n;omega,by show fr+Zs n<=fr+n;omega⟩
    ·have:=q1 s hs;omega
  ·next h4=>exact⟨λs hs=>absurd hs sX,Nat.le_refl _,by show fr<fr+m;omega⟩
noncomputable def Ys(L:List (List UInt8))(m:Nat):List (List UInt8):=
 (((Zt L.length m L.length 0 true).1.map (λs=>fI (bg L s.from_ s.to)))++(if (Zt L.length m L.length 0 true).2.1=true then [] else [fI (bg L (Zt L.length m L.length 0 true).2.2 m)])).reverse
theorem WS(L:List (List UInt8))(m:Nat):(Ys L m).length=Nj m L.length:=by
 unfold Ys Nj;rw[List.length_reverse,List.length_append,List.length_map];split<;>rfl
theorem Re(L:List (List UInt8))(m:Nat)(h1:1<=m)(h2:m<=L.length):Ug Zo (λa b=>fI (bg L a b)) (if (Zt L.length m L.length 0 true).2.1=true then QS (L.take m) else fI (bg L (Zt L.length m L.length 0 true).2.2 m)) (Zt L.length m L.length 0 true).1=(QS (L.take m),QS L):=by
 obtain⟨q1,q2,q3⟩:=JC L.length m L.length 0 true h1 h2 nZ;have hz:Ov Zo (bg L (Zt L.length m L.length 0 true).2.2 (0+m)) (if (Zt L.length m L.length 0 true).2.1=true then QS (L.take m) else fI (bg L (Zt L.length m L.length 0 true).2.2 m)):=by
  rw[Nat.zero_add];split
  ·next hw=>
   rw[(JN _ _ _ _ _ hw).2];have:bg L 0 m=L.take m:=by simp[bg]
   rw[this];exact J4 (by rw[List.length_take];omega)
  ·exact Ux (by rw[Yn h2];omega)
 obtain⟨r1,r2⟩:=LA L (λa b=>fI (bg L a b)) (λa b hab hb=>Ux (by rw[Yn hb];omega)) _ L.length m L.length 0 true nZ h1 h2 aB hz;have e1:bg L 0 (0+m)=L.take m:=by simp[bg]
 have e2:bg L 0 (0+L.length)=L:=by simp[bg]
 rw[e1] at r1;rw[e2] at r2;exact Prod.ext (r1.uniq (J4 (by rw[List.length_take];omega))) (r2.uniq (J4 aB))
open Go.RowKit Go.Shelf
theorem GI(ws:List (List UInt8)):(ZV (QN ws) ws.length).map (·.2)=ws.reverse:=by
 apply List.ext_getElem (by simp[ZV]);intro j h1 h2;have hj:j<ws.length:=by simpa[ZV] using h1
 simp[ZV,QN];rw[List.getElem?_eq_getElem aB];rfl
def pV(z:List UInt8)(pre:List (Nat×List UInt8)):List UInt8:=pre.foldl (λd p=>Zo (Xj p.2) d) z
theorem Hg(z:List UInt8)(pre:List (Nat×List UInt8))(x:Nat×List UInt8):pV z (pre++[x])=Zo (Xj x.2) (pV z pre):=by simp[pV]
theorem Rs{z:List UInt8}(hz:z.length=32)(pre:List (Nat×List UInt8)):(pV z pre).length=32:=by
 rcases List.eq_nil_or_concat pre with rfl|⟨p,x,rfl⟩
 ·exact hz
 ·rw[List.concat_eq_append,Hg];exact ZU _ _
theorem GZ{D:Type}(N:D->D->D)(z:D):∀ qs:List D,U4 N (qs++[z])=some (qs.foldr N z)
 | []=>rfl
 | [q]=>rfl
 | q::r::qs=>by
  have:=GZ N z (r::qs);show (U4 N ((r::qs)++[z])).map (N q)=_;rw[this];rfl
theorem E6(z:List UInt8)(ws:List (List UInt8))(h:∀ x∈ws,x.length=32):U4 Zo (ws++[z])=some (pV z (ZV (QN ws) ws.length)):=by
 rw[GZ];congr 1;have h2:∀ (l:List (Nat×List UInt8)) (o:List UInt8),(∀ p∈l.map (·.2),p.length=32)->l.foldl (λd p=>Zo (Xj p.2) d) o=(l.map (·.2)).foldl (λd p=>Zo p d) o:=by
  intro l;induction l with
  | nil=>intro o _;rfl
  | cons p l ih=>intro o hp;simp only[List.foldl_cons,List.map_cons];rw[G1 (hp _ sX),ih _ (λq hq=>hp q (by simp[hq]))]
 unfold pV;rw[h2 _ _ (by rw[GI];intro p hp;exact h p (by simpa using hp)),GI,List.foldl_reverse]
theorem TE{P:Program}{fn:Func}{R:Ending->World->Prop}{p:Tmp}{ty:TypeId}{tmps:Array Value}{W:World}{b D:Nat}{c:Array Value}{d:TypeDesc}(h:fn.results=#[.cell p ty])
  (hp:tmps.getD p undef=.pointer (some ⟨b,0,none⟩)) (hu:P.underlying ty=some d) (hd:(match d with | .struct _ | .array _ _=>true|_=>false)=true) (hi:(P.info? ty).map (·.size)=some c.size) (hh:W.heap[b]? = some (.cells c ty (0,0))) (hK:W.heap[D]? = some (.deferred (some []))) {n:Nat} {F:Fence}
  (hR:R (.returned (.agg c)) (W.putObj D (.deferred none))) :
  bodyPostM F n P fn R .ret { tmps:=tmps,defers:=[{ target:=.collected D,args:=#[] }] } W:=by
 have hne:b≠D:=λe=>by subst e;rw[hh] at hK;cases hK
 refine⟨sX,.inl ⟨_,_,rfl,run_takeDeferred hK,?_⟩⟩;refine⟨.agg c,?_,hR⟩;rw[Xb h,hp];simp[asAddr,Result.andThen,run_loadVar_row (W.putObj D (.deferred none)) b ty ty c (0,0) d ((World.putObj_heap_other hne).trans hh) hu hd hi]
theorem Z7{w:World}{b:Nat}{C:Array Value}{T:TypeId}(h:w.heap[b]? = some (.cells C T (0,0))):w.rangeAt b 0 C.toList:=λj v hv=>by
 rw[Nat.zero_add,Za h,<-Array.getElem?_toList];exact hv
theorem Q6{b:Nat}{C C':Array Value}{T T':TypeId}{z z':Nat×Nat}{w w':World}(h:ag b (.cells C' T' z') w w')(hb:w.heap[b]? = some (.cells C T z)):KeepsOthers w w':=⟨Nat.le_of_eq h.size.symm,λk o hk ho=>by
 have:k≠b:=λe=>by subst e;rw[hb] at hk;cases hk;cases ho
 exact(h.block k this).trans hk⟩
theorem Mo:∀ k n,Qd k n<=k
 | 0,_=>Nat.le_refl _
 | k+1,n=>by rw[Qd];have:=Mo k (n / 2);omega
section
attribute [local go_sem] Oper.semAt_some
theorem PC{base:Nat}{f n:Nat}{v:Value}(RR:List UInt8)(ws:List (List UInt8))(z:List UInt8)(w:World)(hf:jq base w f n v (ws++[z]))(hn:1<=n)(hn2:n<=1000000)(hl:ws.length<=1000)(hK:bP w)(hF:bZ w)(hRR:RR=pV z (ZV (QN ws) ws.length)) :
  Calls Tryz.prog 80 #[.pointer (some ⟨f,0,none⟩)] w λe w'=>e=.returned (.agg (cB RR).toArray)/\Below w.heap.size w w':=by
 have zr:=Qe;have zn:=ZH;obtain⟨a,c,rfl,hR,hc,hc2,ha0,ha1⟩:=J1 hf.rows;have h32:∀ x∈ws++[z],x.length=32:=λx hx=>by
  obtain⟨k,hk,rfl⟩:=List.getElem_of_mem hx;obtain⟨g,c',cs,e6,wY,h7⟩:=hf.rows.elem ZC k _ (List.getElem?_eq_getElem hk);exact wY.1
 have hz32:=h32 z sX;obtain⟨g,o,rfl,-⟩:=hR 0 sX;obtain⟨rfl,-,hg1,hg2⟩:=ha1 g o none rfl;obtain⟨w1,hw1⟩:∃ w1,w1=w.alloc (.cells aG 47):=⟨_,rfl⟩;have hG1:Below w.heap.size w w1:=by rw[hw1];exact(Below.refl _ w).alloc nZ _
 have hs1:w1.heap.size=w.heap.size+1:=by rw[hw1];simp
 have hz1:w1.heap[w.heap.size]? = some (.cells aG 47 (0,0)):=by rw[hw1];exact heap_alloc_new w _
 have hlen:(ws++[z]).length=ws.length+1:=sX;rw[hlen] at hf hc;have hf1:=(hf.below hG1).at_;have c0:w1.cell? ⟨f,0,none⟩=some (.int .i64 (n:Int)):=by rw[Za hf1];rfl
 have c1:w1.cell? ⟨f,1,none⟩=some (.slice (some ⟨g,0,none⟩) (ws.length+1) c):=by rw[Za hf1];rfl
 have hrow:=Hd (show w1.rangeAt g (ws.length*32) (cB z) from by
  obtain⟨b',o',e,hr⟩:=(hR.below hG1 nZ) ws.length sX;cases e;rw[Nat.zero_add] at hr;simpa using hr)
 obtain⟨M,hM⟩:=aA ws.length;obtain⟨N1,hN1⟩:=aA (M+1);rw[<-hM,<-hN1] at c1;rw[<-hM] at hrow hl;have e1:IntKind.i64.wrap ((N1:Int)-1)=(M:Int):=by rw[IntWalk.i64_in _ aB];omega
 have n0:¬((n:Int)=0):=aB;have m1:(M:Int)<(N1:Int):=aB;have m2:(0:Int)<=(M:Int):=aB;have m3:(M:Int)<=(c:Int):=aB;have m4:M<=c:=aB;obtain⟨Z,hZ⟩:∃ Z,Z=(cB z).toArray:=⟨_,rfl⟩;have hZl:(Tryz.prog.info? 47).map (·.size)=some (cB z).length:=by rw[Zc,hz32];kernel_rfl
 have hZs:aG.size=Z.size:=by rw[Z3,hZ,List.size_toArray,Zc,hz32]
 have Aw:(Tryz.prog.info? 47).map (·.size)=some Z.size:=by rw[hZ,List.size_toArray,Zc,hz32];kernel_rfl
 have lS:Z.all (·.oneCell')=true:=by rw[hZ];exact ZE (Zw _)
 have Oz:=Hd (heap_alloc_new w1 (.cells aG 47));have hbk:=Hd (λW=>callsIn_wide.1 (DJ Fence.wide 3 trivial rfl (some ⟨g,0,none⟩) M c W));replace hZ:=Hd hZ;replace hw1:=Hd hw1;replace hs1:=Hd hs1;replace hG1:=Hd hG1;replace hz1:=Hd hz1;have xS:=Hd (show iK w.heap.size w (some ⟨g,0,none⟩) ws from λi hi=>by
  obtain⟨b',o',e,hr⟩:=hR i bf;cases e;refine⟨g,rfl,hg2,?_⟩;rw[Nat.zero_add] at hr;have hgi:ws.getD i []=ws[i]:=by rw[List.getD_eq_getElem?_getD,List.getElem?_eq_getElem hi];rfl
  rw[hgi];unfold Ju;rw[G1 (h32 _ (List.mem_append_left _ (List.getElem_mem hi)))];rw[List.getElem_append_left hi] at hr;exact hr)
 replace hM:=Hd hM;replace hN1:=Hd hN1;refine(callsIn_wide (n:=3)).1 ?_;refine callsIn_of_wp_marks Tryz.func80 rfl trivial ?_ rfl;refine wpIn_wide.2 ?_;simp only[Tryz.ntmps80,List.size_toArray,List.length_cons,List.length_nil,Nat.reduceAdd,Nat.reduceSub,Array.replicate_succ,Array.replicate_zero,List.push_toArray,List.append_toArray,List.nil_append,List.cons_append];go_upto_region 1 with fail;rw[<-hw1.out];clear hlen hf1 hR ha0 ha1 hw1;go_upto_region 5 with (first
  | ((with_reducible refine wL (.load 47 (.tmp 24)) ?_);refine Zx rfl 47 (.tmp 24) rfl g (M*32) rfl (cB z) _ hrow.out Tryz.underlying47 rfl hZl Z hZ ?_)
  | ((with_reducible refine wL (.store 47 (.tmp 4) _) ?_);(refine Zd rfl 47 (.tmp 4) (.tmp 25) rfl w1.heap.size aG Z rfl rfl Oz Aw hZs lS ?_);intro w2 gQ))
 have hG2:Below w1.heap.size w1 w2:=(Below.alloc (Below.refl w1.heap.size w1) nZ _).trans (gQ.out.below nZ);have hd2:=Hd gQ.out.here;have hz2:=Hd ((hG2.block _ (Zb hz1.out)).trans hz1.out);have c12:w2.cell? ⟨f,1,none⟩=some (.slice (some ⟨g,0,none⟩) N1 c):=(hG2.cell (p:=⟨f,1,none⟩) (World.block_lt_of_cell? w1 _ c1)).trans c1;clear c0 c1;go_wp2_with fail;with_reducible refine(hbk.out _).mono ?_
 clear hbk;rintro e w3 ⟨rfl,rfl⟩;go_wp2_with fail;have b3:=Boxed.new w2 93 (.slice (some ⟨g,0,none⟩) M c);have hG3:Below w2.heap.size w2 (w2.alloc (.cells #[.slice (some ⟨g,0,none⟩) M c] 93)):=bR.alloc nZ _;have hd3:=(hG3.block _ (Zb hd2.out)).trans hd2.out;have hz3:=(hG3.block _ (Zb hz2.out)).trans hz2.out;have hs2:=hG2.size;have hlt2:=Zb hd2.out;have hB3:Below w.heap.size w (w2.alloc (.cells #[.slice (some ⟨g,0,none⟩) M c] 93)):=(hG1.out.trans (hG2.mono hG1.out.size)).trans (hG3.mono (by have:=hG1.out.size;omega));have xU:(w2.alloc (.cells #[.slice (some ⟨g,0,none⟩) M c] 93)).heap.size=w2.heap.size+1:=sX;obtain⟨B1,hB1⟩:=aA w1.heap.size;obtain⟨B2,hB2⟩:=aA w2.heap.size;rw[<-hB1,<-hB2];rw[<-hB1] at hd3 hs2 hlt2;rw[<-hB2] at b3 xU hs2 hlt2;have hB1w:w.heap.size<B1:=by have:=hs1.out;omega
 have xS:iK w.heap.size (w2.alloc (.cells #[.slice (some ⟨g,0,none⟩) M c] 93)) (some ⟨g,0,none⟩) ws:=xS.out.below hB3;generalize w2.alloc (.cells #[.slice (some ⟨g,0,none⟩) M c] 93)=W0 at*;clear hd2 hz2 hG2 hG3 gQ Oz hrow c12 hB1 hB2 hs1 hG1 hz1;rw[hM.out] at b3 ⊢;refine(wpIn_wide (n:=3)).1 ?_;refine wpIn_rangeFunc_ownH (n:=3) rfl dX (gf:=141) (lb:=#[.pointer (some ⟨B2,0,none⟩)]) rfl trivial (enters_of Tryz.func141 kX rfl)
  (Tm Fence.wide (3-1) trivial rfl dX B2 w.heap.size (some ⟨g,0,none⟩) c ws (by have:=hM.out;omega) W0 aB b3 xS) H4 (BW aB aB) bR (λ_=>rfl)
  (λpre W=>((W.heap[w.heap.size]? = some (.cells aG 47 (0,0))/\W.heap[B1]? = some (.cells (cB (pV z pre)).toArray 47 (0,0))/\Boxed W B2 93 (.slice (some ⟨g,0,none⟩) ws.length c)))/\Below w.heap.size w W)
  (λ_ _ _=>False)
  ?hI (λ_ _ _ _ _ hs _ _=>hs)
  ⟨⟨hz3,by rw[hZ.out] at hd3;exact hd3,b3⟩,hB3⟩
  (λx a' W=>∃ Bx,B2<Bx/\W.heap[Bx]? = some (.cells (Ju x.2) 47 (0,0))/\a'={ tmps:=#[.pointer (some ⟨f,0,none⟩),undef,.pointer (some ⟨w.heap.size,0,none⟩),.int .i64 (ws.length:Int),.pointer (some ⟨B1,0,none⟩),undef,.pointer (some ⟨Bx,0,none⟩),
   .pointer (some ⟨f,0,none⟩),.pointer (some ⟨f,0,none⟩),.pointer (some ⟨f,0,none⟩),.int .i64 (n:Int),.bool false,undef,.pointer (some ⟨f,0,none⟩),.pointer (some ⟨f,0,none⟩),.pointer (some ⟨f,1,none⟩),.slice (some ⟨g,0,none⟩) N1 c,.int .i64 (N1:Int),.int .i64 (ws.length:Int),.pointer (some ⟨f,0,none⟩),.pointer (some ⟨f,0,none⟩),.pointer (some ⟨f,1,none⟩),
   .slice (some ⟨g,0,none⟩) N1 c,.int .i64 (ws.length:Int),.pointer (some ⟨g,ws.length*32,none⟩),.agg Z,.pointer (some ⟨f,0,none⟩),.pointer (some ⟨f,0,none⟩),.pointer (some ⟨f,1,none⟩),.slice (some ⟨g,0,none⟩) N1 c,.int .i64 (ws.length:Int),.slice (some ⟨g,0,none⟩) ws.length c,
   .func (.func 141) #[] #[.pointer (some ⟨B2,0,none⟩)],.int .i64 (x.1:Int),.agg (Ju x.2),undef,undef,undef,undef],defers:=[] })
  ?hAx ?assign ?body ?done ?stop
 case hI=>exact OwnFrom.and (Own.from (λs A B row hs hg hr=>⟨Qq hs.1 rfl hg hr,Qq hs.2.1 rfl hg hr,Qq hs.2.2 rfl hg hr⟩) _) (ownFrom_below nZ aB)
 case hAx=>
  rintro x a' s X Y row ⟨Bx,e1,e2,e3⟩ hg hr;exact⟨Bx,e1,Qq e2 rfl hg (λr h=>(hr r h).2),e3⟩
 case assign=>
  rintro l pre x W K ⟨⟨c0,c1,c2⟩,hB⟩ hK;have hszW:(Tryz.prog.info? 47).map (·.size)=some (Ju x.2).size:=by rw[Gj];kernel_rfl
  have hX1:(Ju x.2).all (·.oneCell')=true:=ZE (Zw _);have hX2:=Gj x.2;simp only[MR];obtain⟨xi,xp⟩:=x;generalize O8:Ju xp=X at*;replace hX2:=Hd hX2;have hB2':=hB.size;have hl2:=c2.lt;gi_wp2_with (refine Qh rfl 47 (.tmp 6) (.tmp 34) rfl W.heap.size _ X rfl rfl (Hd (heap_alloc_new _ _)) hszW (by rw[hX2.out,Z3]) hX1 ?_;intro W2 hU);have hG:Below W.heap.size W W2:=Below.trans ((Below.refl _ W).alloc nZ _) (hU.out.below nZ);subst O8;exact hK _ _ ((ZN hG).from _) ⟨hG.mono hB2',hG.block _ hl2⟩ ⟨⟨(hG.block _ (Zb c0)).trans c0,(hG.block _ (Zb c1)).trans c1,(hG.block _ c2.lt).trans c2⟩,hB.trans (hG.mono hB2')⟩ ⟨W.heap.size,aB,hU.out.here,rfl⟩
 case body=>
  rintro l pre x a' W hl _ ⟨⟨c0,c1,c2⟩,hB⟩ ⟨Bx,hBx,bX,rfl⟩ hlt;have qc:=Rs hz32 pre;have hne:(Zo (Xj x.2) (pV z pre)).length=32:=ZU _ _;have hnd:=Hd (J2 (Xj x.2) (pV z pre) (VM _) qc W (hK.below hB) (hF.below hB));have hsn:=Hd (Hg z pre x);have hXl:(Tryz.prog.info? 47).map (·.size)=some (cB (Xj x.2)).length:=by rw[Zc,VM];kernel_rfl
  have hUl:(Tryz.prog.info? 47).map (·.size)=some (cB (pV z pre)).length:=by rw[Zc,qc];kernel_rfl
  obtain⟨E,hE⟩:∃ E,E=(cB (Zo (Xj x.2) (pV z pre))).toArray:=⟨_,rfl⟩;have hEi:(Tryz.prog.info? 47).map (·.size)=some E.size:=by rw[hE,List.size_toArray,Zc,hne];kernel_rfl
  have xV:(cB (pV z pre)).toArray.size=E.size:=by rw[hE,List.size_toArray,List.size_toArray,Zc,Zc,qc,hne]
  have hEo:E.all (·.oneCell')=true:=by rw[hE];exact ZE (Zw _)
  have r1:=Z7 bX;have r2:=Z7 c1;rw[<-hE] at hnd;simp only[Ju,List.toList_toArray] at r1 r2 bX ⊢;replace hE:=Hd hE;replace bX:=Hd bX;replace c0:=Hd c0;replace c1:=Hd c1;replace c2:=Hd c2;replace hB:=Hd hB;clear qc hne;gi_wp2_with (first
   | (refine ZY rfl 47 (.tmp 6) rfl Bx 0 rfl (cB (Xj x.2)) _ r1 Tryz.underlying47 rfl hXl ?_)
   | (refine ZY rfl 47 (.tmp 4) rfl B1 0 rfl (cB (pV z pre)) _ r2 Tryz.underlying47 rfl hUl ?_))
  refine⟨trivial,(CallsIn.inRound l (callsIn_wide.2 hnd.out)).mono ?_⟩;clear hnd;rintro e W2 ⟨rfl,hb2⟩;have d0:=(hb2.block _ (Zb c0.out)).trans c0.out;have d1:=Hd ((hb2.block _ (Zb c1.out)).trans c1.out);have d2:=(hb2.block _ (Zb c2.out)).trans c2.out;have hBW:=hB.out.size;replace hb2:=Hd hb2;replace d0:=Hd d0;replace d2:=Hd d2;gi_wp2_with (refine Qh rfl 47 (.tmp 4) (.tmp 37) rfl B1 _ E rfl rfl d1 hEi xV hEo ?_;intro W3 hU);have hG:Below w.heap.size W W3:=(hb2.out.mono hBW).trans (hU.out.below aB);have hko:KeepsOthers W W3:=(ZN hb2.out).trans (Q6 hU.out d1.out);have g0:=(hU.out.block _ aB).trans d0.out;have g2:=(hU.out.block _ aB).trans d2.out;exact⟨hko.from _,⟨hG,g2.trans c2.out.symm⟩,⟨g0,by rw[hsn.out,<-hE.out];exact hU.out.here,g2⟩,hB.out.trans hG⟩
 case done=>
  rintro D ys W hD rfl ⟨⟨c0,c1,c2⟩,hB⟩ rP;have qc:=Rs hz32 (ZV (QN ws) ws.length);rw[<-hRR] at c1 qc;obtain⟨E,hE⟩:∃ E,E=(cB RR).toArray:=⟨_,rfl⟩;have hUl:(Tryz.prog.info? 47).map (·.size)=some E.size:=by rw[hE,List.size_toArray,Zc,qc];kernel_rfl
  have xV:aG.size=E.size:=by rw[Z3,hE,List.size_toArray,Zc,qc]
  have hEo:E.all (·.oneCell')=true:=by rw[hE];exact ZE (Zw _)
  rw[<-hE] at c1;have hwl:=Zb c0;have hne0:w.heap.size≠D:=λe=>by rw[<-e,c0] at rP;cases rP
  replace hE:=Hd hE;replace c0:=Hd c0;replace hB:=Hd hB;replace rP:=Hd rP;clear c2 qc;go_wp2_with (first
   | ((with_reducible refine wL (.load 47 (.tmp 4)) ?_);refine Ze rfl 47 (.tmp 4) rfl B1 E _ rfl c1 Tryz.underlying47 rfl hUl ?_;simp only[Act.put,sL,sZ,sS])
   | ((with_reducible refine wL (.store 47 (.tmp 2) _) ?_);(refine Zd rfl 47 (.tmp 2) (.tmp 38) rfl w.heap.size aG E rfl rfl c0 hUl xV hEo ?_);intro W4 eZ))
  have hDf4:=(eZ.out.block _ hne0.symm).trans rP.out;have hB4:=hB.out.trans (eZ.out.below nZ);refine TE rfl rfl Tryz.underlying47 rfl hUl eZ.out.here hDf4 ?_;exact⟨by rw[hE.out],hB4.trans (belowK_b (w:=w) nZ W4 D _ _ aB hDf4 rfl rfl)⟩
 case stop=>
  rintro D c pre W _ _ h _;exact h.elim
end
theorem Lc{base:Nat}{f:Nat}{v:Value}{ps:List (List UInt8)}(w:World)(hf:jq base w f 0 v ps)(hK:bP w)(hF:bZ w) :
  Calls Tryz.prog 80 #[.pointer (some ⟨f,0,none⟩)] w λe w'=>e=.returned (.agg (cB (sha [])).toArray)/\Below w.heap.size w w':=by
 have zr:=Qe;have zn:=ZH;obtain⟨A,hA1⟩:∃ A,A=w.alloc (.cells aG 47):=⟨_,rfl⟩;have bi:Below w.heap.size w A:=by rw[hA1];exact(Below.refl _ w).alloc nZ _
 have bu:A.heap[w.heap.size]? = some (.cells aG 47 (0,0)):=by rw[hA1];exact heap_alloc_new w _
 obtain⟨D,hD⟩:∃ D,D=(cB (sha [])).toArray:=⟨_,rfl⟩;have hDs:aG.size=D.size:=by rw[Z3,hD,List.size_toArray,Zc,Zy]
 have gU:(Tryz.prog.info? 47).map (·.size)=some D.size:=by rw[hD,List.size_toArray,Zc,Zy];kernel_rfl
 have kU:D.all (·.oneCell')=true:=by rw[hD];exact ZE (Zw _)
 have hsh:=Hd (show Calls Tryz.prog 117 #[.slice none 0 0] A λe w'=>e=.returned (.agg (cB (sha [])).toArray)/\Below A.heap.size A w' from VQ none 0 [] A ⟨sX,dX,λ_=>rfl,λi hi=>absurd hi sX⟩ sX sX (hK.below bi) (hF.below bi));rw[<-hD] at hsh;have c0:A.cell? ⟨f,0,none⟩=some (.int .i64 0):=by rw[Za (hf.below bi).at_];rfl
 replace hA1:=Hd hA1;replace bi:=Hd bi;replace bu:=Hd bu;replace hD:=Hd hD;clear hK hF hf;go_enter Tryz.func80,Tryz.ntmps80;go_upto_region 1 with fail;rw[<-hA1.out];go_wp2_with fail;with_reducible refine hsh.out.mono ?_
 clear hsh;rintro e w3 ⟨rfl,hb3⟩;have gV:=Hd ((hb3.block _ (Zb bu.out)).trans bu.out);have hB3:=Hd (bi.out.trans (hb3.mono bi.out.size));clear hb3;go_wp2_with (refine Zd rfl 47 (.tmp 2) (.tmp 12) rfl w.heap.size aG D rfl rfl gV gU hDs kU ?_;intro w4 eZ);refine Z2 rfl rfl Tryz.underlying47 rfl gU eZ.out.here ?_;exact⟨by rw[hD.out],hB3.out.trans (eZ.out.below nZ)⟩
theorem LB{base:Nat}{f n:Nat}{v:Value}(recs:List (List UInt8))(w:World)(hn:n=recs.length)(hf:jq base w f n v (Yr 0 [] recs))(hl:recs.length<=1000)(hK:bP w)(hF:bZ w) :
  Calls Tryz.prog 80 #[.pointer (some ⟨f,0,none⟩)] w λe w'=>e=.returned (.agg (cB (QS (recs.map Zr))).toArray)/\Below w.heap.size w w':=by
 by_cases h0:recs=[]
 ·subst h0;obtain rfl:n=0:=hn;exact Lc w hf hK hF
 ·obtain⟨r,r1,r2⟩:=WD recs h0;have hpo:=Vu recs 0 [] aB rfl;generalize Yr 0 [] recs=ps at*;rcases List.eq_nil_or_concat ps with rfl|⟨ws,z,rfl⟩
  ·cases r1
  ·rw[List.concat_eq_append] at hf r1 hpo;have h32:∀ x∈ws,x.length=32:=λx hx=>by
    obtain⟨k,hk,rfl⟩:=List.getElem_of_mem (List.mem_append_left [z] hx);obtain⟨g,c',cs,e6,wY,h7⟩:=hf.rows.elem ZC k _ (List.getElem?_eq_getElem hk);exact wY.1
   rw[E6 z ws h32] at r1;injection r1 with r1;have hne:recs.map Zr≠[]:=by simpa using h0
   have hrd:QS (recs.map Zr)=pV z (ZV (QN ws) ws.length):=by
    unfold QS;rw[if_neg hne,EE r2,r1]
   have hlen:recs.length≠0:=by simpa using h0
   refine PC _ ws z w hf aB aB ?_ hK hF hrd;have h64:=Mo 64 (0+recs.length);rw[List.length_append,List.length_singleton] at hpo;omega
theorem Ml{base:Nat}{w:World}{l:Nat}{V:LV}{P:LP}(h:d9 base w l V P)(hn:P.n=P.recs.length)(hps:P.ps=Yr 0 [] P.recs)(hl:P.recs.length<=1000)(hK:bP w)(hF:bZ w) :
  Calls Tryz.prog 35 #[.pointer (some ⟨l,0,none⟩)] w λe w'=>e=.returned (.agg (cB (QS (P.recs.map Zr))).toArray)/\Below w.heap.size w w':=by
 have zr:=Qe;have zn:=ZH;obtain⟨A,hA1⟩:∃ A,A=w.alloc (.cells aG 47):=⟨_,rfl⟩;have bi:Below w.heap.size w A:=by rw[hA1];exact(Below.refl _ w).alloc nZ _
 have bu:A.heap[w.heap.size]? = some (.cells aG 47 (0,0)):=by rw[hA1];exact heap_alloc_new w _
 have iJ:(QS (P.recs.map Zr)).length=32:=by
  by_cases h0:P.recs.map Zr=[]
  ·unfold QS;rw[if_pos h0];exact Zy _
  ·refine(J4 (Nat.pos_of_ne_zero (λe=>h0 (List.length_eq_zero_iff.1 e)))).len32 (λx hx=>?_);obtain⟨y,_,rfl⟩:=List.mem_map.1 hx;exact Zy _
 have hfr:=(h.below bi).fr;rw[hps] at hfr;have hro:=LB P.recs A hn hfr hl (hK.below bi) (hF.below bi);generalize QS (P.recs.map Zr)=R at*;obtain⟨D,hD⟩:∃ D,D=(cB R).toArray:=⟨_,rfl⟩;have hDs:aG.size=D.size:=by rw[Z3,hD,List.size_toArray,Zc,iJ]
 have gU:(Tryz.prog.info? 47).map (·.size)=some D.size:=by rw[hD,List.size_toArray,Zc,iJ];kernel_rfl
 have kU:D.all (·.oneCell')=true:=by rw[hD];exact ZE (Zw _)
 rw[<-hD] at hro;have c3:A.cell? ⟨l,3,none⟩=some (.pointer (some ⟨V.f,0,none⟩)):=by rw[Za (h.below bi).at_];rfl
 replace hro:=Hd hro;replace hA1:=Hd hA1;replace bi:=Hd bi;replace bu:=Hd bu;replace hD:=Hd hD;clear hK hF hfr h hn hps hl iJ;go_enter Tryz.func35,Tryz.ntmps35;go_upto_region 1 with fail;rw[<-hA1.out];go_wp2_with fail;with_reducible refine hro.out.mono ?_
 clear hro;rintro e w3 ⟨rfl,hb3⟩;have gV:=Hd ((hb3.block _ (Zb bu.out)).trans bu.out);have hB3:=Hd (bi.out.trans (hb3.mono bi.out.size));clear hb3;go_wp2_with (refine Zd rfl 47 (.tmp 2) (.tmp 7) rfl w.heap.size aG D rfl rfl gV gU hDs kU ?_;intro w4 eZ);refine Z2 rfl rfl Tryz.underlying47 rfl gU eZ.out.here ?_;exact⟨by rw[hD.out],hB3.out.trans (eZ.out.below nZ)⟩
end
end Go.Proofs.YtpdhceiodgnbmaaGreatDoor
