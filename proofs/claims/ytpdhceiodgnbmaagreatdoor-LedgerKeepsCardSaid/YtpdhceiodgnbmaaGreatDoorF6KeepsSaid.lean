import Derived.Test.YtpdhceiodgnbmaaGreatDoorF5KeepsSaid
import Derived.Lib.AppendZeros
import Derived.Deep.Cut
import Derived.Lib.Tables
set_option linter.all false
set_option maxRecDepth 100000
set_option maxHeartbeats 8000000
namespace Go.Proofs.YtpdhceiodgnbmaaGreatDoor
open Go.RowKit
theorem ZE{l:List Value}(h:∀ u∈l,u.oneCell'=true):l.toArray.all (·.oneCell')=true:=by
 rw[Array.all_eq_true'];intro u hu;exact h u (by simpa using hu)
theorem DH(a:Option Addr)(c:Nat)(bs:List UInt8)(w:World)(hA:aJ w a c bs)(hl:bs.length<=100000) :
  Calls Tryz.prog 132 #[.slice a bs.length c] w λe w'=>∃ v,e=.returned v/\aN w.heap.size w' v (0::bs)/\Below w.heap.size w w':=by
 have hG:Below w.heap.size w (w.alloc (.cells #[.int .u8 0] 5)):=bR.alloc nZ _;have hown:=Hd (Ry w [0] #[.int .u8 0] rfl dX);have hA2:=Hd (hA.below hG);obtain⟨L,hL⟩:=aA bs.length;rw[<-hL] at hl ⊢;have hL2:=Hd hL.symm;replace hG:=Hd hG;clear hA hL;go_enter Tryz.func132,Tryz.ntmps132;go_wp2_with (at_builtin;go_must (refine Vh rfl (.tmp 3) (.tmp 4) rfl w.heap.size _ [0] rfl hown a c bs L rfl hL2 hA2 dX aB sX ?_);intro v' w' ho hb);go_ret;exact⟨_,rfl,ho.out,hG.out.trans (hb.out.mono nZ)⟩
theorem UY{w:World}{a:Option Addr}{c:Nat}{p:List UInt8}{g:Nat}(h:aJ w a c p)(hg:w.heap[g]? = some (.cells #[.slice a p.length c] 24 (0,0))):eQ w (some ⟨g,0,none⟩) 1 [p]:=by
 refine⟨Nat.le_refl _,by unfold maxLen;omega,(λe=>by cases e),λi hi=>⟨g,0,rfl,?_⟩⟩;obtain rfl:i=0:=by simpa using hi
 exact⟨a,c,by rw[Za hg];rfl,h⟩
def Zr(bs:List UInt8):List UInt8:=sha (0::bs)
theorem G4(a:Option Addr)(c:Nat)(bs:List UInt8)(w:World)(hA:aJ w a c bs)(hl:bs.length<=1000)(hK:bP w)(hF:bZ w) :
  Calls Tryz.prog 102 #[.slice a bs.length c] w λe w'=>e=.returned (.agg (cB (Zr bs)).toArray)/\Below w.heap.size w w':=by
 have zr:=Qe;have zn:=ZH;obtain⟨A,hA1⟩:∃ A,A=w.alloc (.cells aG 47):=⟨_,rfl⟩;have bi:Below w.heap.size w A:=by rw[hA1];exact(Below.refl _ w).alloc nZ _
 have hsA:A.heap.size=w.heap.size+1:=by rw[hA1];simp
 have bu:A.heap[w.heap.size]? = some (.cells aG 47 (0,0)):=by rw[hA1];exact heap_alloc_new w _
 have iJ:(Zr bs).length=32:=Zy _;have hou:=Hd (DH a c bs A (hA.below bi) aB);obtain⟨D,hD⟩:∃ D,D=(cB (Zr bs)).toArray:=⟨_,rfl⟩;have hDs:aG.size=D.size:=by rw[Z3,hD,List.size_toArray,Zc,iJ]
 have gU:(Tryz.prog.info? 47).map (·.size)=some D.size:=by rw[hD,List.size_toArray,Zc,iJ];kernel_rfl
 have kU:D.all (·.oneCell')=true:=by rw[hD];exact ZE (Zw _)
 have hfin:∀ (e:Ending) (w':World),e=.returned (.agg D)->Below w.heap.size w w'->e=.returned (.agg (cB (Zr bs)).toArray)/\Below w.heap.size w w':=λe w' h1 h2=>⟨by rw[h1,hD],h2⟩;have hsh:=Hd (λ(W:World) (v:Value) (h:aN A.heap.size W v (0::bs)) (hb:Below A.heap.size A W)=>show ∃ a1 c1,v=.slice a1 (bs.length+1) c1/\∀ W2,W2=W.alloc (.cells #[v] 24)->Calls Tryz.prog 117 #[.slice (some ⟨W.heap.size,0,none⟩) 1 1] W2 λe w'=>e=.returned (.agg D)/\Below W2.heap.size W2 w' from by
  obtain⟨a1,c1,rfl,h1,_⟩:=h.arg;refine⟨a1,c1,rfl,λW2 hW2=>?_⟩;have hG:Below W.heap.size W W2:=by rw[hW2];exact bR.alloc nZ _
  have hB2:Below w.heap.size w W2:=(bi.trans (hb.mono aB)).trans (hG.mono (by have:=hb.size;omega));have:=VQ (some ⟨W.heap.size,0,none⟩) 1 [0::bs] W2 (UY (h1.below hG) (by rw[hW2];exact heap_alloc_new W _)) bf sX (hK.below hB2) (hF.below hB2);rwa [show ([0::bs]:List (List UInt8)).flatten=0::bs from by simp,show sha (0::bs)=Zr bs from rfl,<-hD] at this)
 obtain⟨L,hL⟩:=aA bs.length;rw[<-hL] at hou ⊢;replace hA1:=Hd hA1;replace bi:=Hd bi;replace bu:=Hd bu;replace hfin:=Hd hfin;replace hsA:=Hd hsA;clear hA hL hD iJ hK hF;go_enter Tryz.func102,Tryz.ntmps102;go_wp2_with fail;rw[<-hA1.out];with_reducible refine hou.out.mono ?_
 rintro e w2 ⟨v2,rfl,ho2,hb2⟩;obtain⟨a1,c1,hv2,hcall⟩:=hsh.out w2 v2 ho2 hb2;subst hv2;have jN:=Hd ((hb2.block w.heap.size (by have:=hsA.out;omega)).trans bu.out);have hB2:=Hd (bi.out.trans (hb2.mono (by have:=hsA.out;omega)));have hs2:=Hd hb2.size;replace hcall:=Hd hcall;clear ho2 hb2 hou hsh;go_wp2_with fail;with_reducible refine(hcall.out _ rfl).mono ?_
 rintro e w3 ⟨rfl,hb3⟩;have hlt2:=Zb jN.out;have hG3:Below w2.heap.size w2 (w2.alloc (.cells #[.slice a1 (bs.length+1) c1] 24)):=bR.alloc nZ _;have gV:=Hd ((hb3.block _ (by have:=hG3.size;omega)).trans ((hG3.block _ hlt2).trans jN.out));have hB3:=Hd ((hB2.out.trans (hG3.mono hB2.out.size)).trans (hb3.mono (by have:=hG3.size;have:=hB2.out.size;omega)));clear hb3 hG3 hcall;go_wp2_with (refine Zd rfl 47 (.tmp 2) (.tmp 6) rfl w.heap.size aG D rfl rfl gV gU hDs kU ?_;intro w4 eZ);refine Z2 rfl rfl Tryz.underlying47 rfl gU eZ.out.here ?_;exact hfin.out _ _ rfl (hB3.out.trans (eZ.out.below nZ))
structure jq (base:Nat) (w:World) (f:Nat) (n:Nat) (v:Value) (ps:List (List UInt8)):Prop where
 at_:w.heap[f]? = some (.cells #[.int .i64 (n:Int),v] 194 (0,0))
 rows:aH RD 47 32 base w (λ_=>False) v ps
 nv:v.ownBlock≠some f
 ge:base<=f
def lH(f:Nat)(v:Value)(k:Nat):Prop:=k=f\/v.ownBlock=some k
theorem jq.lt{base:Nat}{w:World}{f n:Nat}{v:Value}{ps:List (List UInt8)}(h:jq base w f n v ps):∀ k,lH f v k->base<=k/\k<w.heap.size:=by
 rintro k (rfl|hk)
 ·exact⟨h.ge,Zb h.at_⟩
 ·exact h.rows.ownLt k hk
theorem jq.only{base:Nat}{w w':World}{f n:Nat}{v:Value}{ps:List (List UInt8)}{D:Nat->Prop}(h:jq base w f n v ps)(hO:Only D w w')(hd:∀ k,lH f v k->¬D k):jq base w' f n v ps:=
 ⟨hO.heap h.at_ (hd f (.inl rfl)),h.rows.only ZC hO (λk hk=>hk.elim) (λk hk=>hd k (.inr hk)),h.nv,h.ge⟩
theorem jq.below{base:Nat}{w w':World}{f n:Nat}{v:Value}{ps:List (List UInt8)}(h:jq base w f n v ps)(hb:Below w.heap.size w w'):jq base w' f n v ps:=
 h.only (Only.ofBelow (D:=λ_=>False) hb) (λ_ _ h=>h)
theorem MH(w:World):Calls Tryz.prog 61 #[] w λe w'=>e=.returned (.pointer (some ⟨w.heap.size,0,none⟩))/\jq w.heap.size w' w.heap.size 0 (.slice none 0 0) []/\Below w.heap.size w w':=by
 have hb:Below w.heap.size w (w.alloc (.cells #[.int .i64 0,.slice none 0 0] 194)):=bR.alloc nZ _;have hh:=heap_alloc_new w (.cells #[.int .i64 0,.slice none 0 0] 194 (0,0));have hf:jq w.heap.size (w.alloc (.cells #[.int .i64 0,.slice none 0 0] 194)) w.heap.size 0 (.slice none 0 0) []:=⟨hh,aH.nil _ _,by simp[Value.ownBlock],Nat.le_refl _⟩;replace hb:=Hd hb;replace hf:=Hd hf;clear hh;go_enter Tryz.func61,Tryz.ntmps61;go_wp2_with fail;go_ret;exact⟨rfl,hf.out,hb.out⟩
theorem Cq(n:Nat)(w:World)(h1:1<=n)(h2:n<=1000000):Calls Tryz.prog 167 #[.slice none 0 0,.int .i64 (n:Int)] w λe w'=>∃ v,e=.returned v/\aN w.heap.size w' v []/\Below w.heap.size w w':=by
 obtain⟨i0,hi,hz0,hz1,hz2⟩:=info_parts Tryz.infoByteP;have happ:=Lib.run_append_nil_zeros (P:=Tryz.prog) w 24 3 24 5 i0 (.int .u8 0) .i64 .i64 Tryz.underlying24 Tryz.underlying3 hi hz0 n aB aB aB (by rw[hz2];omega);generalize hcap:grownCap w n 0 5=cap2 at happ;have hcapge:n<=cap2:=by rw[<-hcap];exact grownCap_ge w _ 0 5
 have hcaple:cap2<=maxLen:=by rw[<-hcap];exact grownCap_le_maxLen w _ 0 5 kS
 generalize hZ:(Builtin.zeroCells (Value.int .u8 0).cells n++Builtin.zeroCells (Value.int .u8 0).cells (cap2-n))=Z at happ;have hZs:Z.size=cap2:=by rw[<-hZ];simp[size_zeroCells,Value.cells];omega
 clear hcap hZ;have hZs:=Hd hZs;have h3:=Hd hcaple;clear hcaple;have happ:=Hd happ;go_enter Tryz.func167,Tryz.ntmps167;go_wp2_with (at_builtin;refine Lib.wpList_append_run _ rfl _ _ _ _ rfl _ _ rfl rfl _ _ happ.out ?_);go_ret;refine⟨_,rfl,?_,?_⟩
 ·exact⟨rfl,.inr ⟨w.heap.size,cap2,Z,rfl,Nat.le_refl _,heap_alloc_new w _,Nat.zero_le _,h3.out,by rw[Nat.mul_one];exact hZs.out,rfl⟩⟩
 ·exact Below.alloc (eP.below ⟨1,rfl⟩ _) nZ _
def eU(w:World)(b:Nat)(ps:List (List UInt8)):Prop:=∀ k,k<ps.length->∃ a c,w.cell? ⟨b,k,none⟩=some (.slice a (ps.getD k []).length c)/\aJ w a c (ps.getD k [])
theorem eU.below{w w':World}{b:Nat}{ps:List (List UInt8)}(h:eU w b ps)(hb:Below w.heap.size w w'):eU w' b ps:=λk hk=>by
 obtain⟨a,c,h1,h2⟩:=h k hk;exact⟨a,c,(hb.cell (World.block_lt_of_cell? w _ h1)).trans h1,h2.below hb⟩
def Yt(ps:List (List UInt8))(k:Nat):Nat:=((ps.take k).flatten).length
theorem H6{ps:List (List UInt8)}{k:Nat}(h:k<ps.length):(ps.take (k+1)).flatten=(ps.take k).flatten++ps.getD k []:=by
 rw[List.take_succ_eq_append_getElem h,List.flatten_append,List.getD_eq_getElem?_getD,List.getElem?_eq_getElem h];simp
theorem KR{ps:List (List UInt8)}{k:Nat}(h:k<ps.length):Yt ps (k+1)=Yt ps k+(ps.getD k []).length:=by
 unfold Yt;rw[H6 h,List.length_append]
theorem Mz(ps:List (List UInt8))(k:Nat):Yt ps k<=ps.flatten.length:=by
 have h:(ps.take k).flatten.length+(ps.drop k).flatten.length=ps.flatten.length:=by rw[<-List.length_append,<-List.flatten_append,List.take_append_drop]
 unfold Yt;omega
theorem Ul(b:Nat)(ps:List (List UInt8))(w:World)(hA:eU w b ps)(hm:ps.length<=100000)(h1:1<=ps.flatten.length)(h2:ps.flatten.length<=1000000) :
  Calls Tryz.prog 140 #[.slice (some ⟨b,0,none⟩) ps.length ps.length] w λe w'=>∃ v,e=.returned v/\aN w.heap.size w' v ps.flatten/\Below w.heap.size w w':=by
 obtain⟨L,hL⟩:=aA ps.length;have hA2:=Hd hA;rw[<-hL];replace hL:=Hd hL;have zm:L<=100000:=by rw[hL.out];exact hm
 go_enter Tryz.func140,Tryz.ntmps140;go_wp2_with fail
 go_loop [3,5,11] (λs _ j=>∃ k:Nat,k<=L/\j=.int .i64 k/\s=.int .i64 (Yt ps k)) (λ_ _ j=>L-(intOf j).toNat)
 case atStart=>exact⟨0,Nat.zero_le _,rfl,rfl⟩
 case round=>
  obtain⟨k,hk,rfl,rfl⟩:=hrel;by_cases hlt:k<L
  ·have hkp:k<ps.length:=by rw[<-hL.out];exact hlt
   obtain⟨ai,ci,hc,ha⟩:=hA2.out k hkp;have wT:(k:Int)<L:=aB;have hs:=KR hkp;have hle:=Mz ps (k+1);have hneg:¬((Yt ps k:Int)+(ps.getD k []).length<0):=aB;have hs2:=Hd (show ((Yt ps k:Int)+(ps.getD k []).length)=(Yt ps (k+1):Int) from by omega);have hb:Yt ps (k+1)<=1000000:=aB;generalize (ps.getD k []).length=l at*;generalize Yt ps k=S at*;have hw:IntKind.i64.wrap ((S:Int)+l)=(S:Int)+l:=IntWalk.i64_in _ aB;clear hs hle ha;go_wp2_with fail;exact⟨⟨k+1,aB,by go_num,by rw[<-hs2.out]⟩,by simp[intOf];omega⟩
  ·obtain rfl:k=L:=aB;have hfl:Yt ps k=ps.flatten.length:=by unfold Yt;rw[hL.out,List.take_length]
   rw[hfl];clear hfl;have hg:=Hd (Cq ps.flatten.length w h1 aB);have hfn:=Hd (show ∀ i,Yt ps i<=ps.flatten.length from Mz ps);generalize ps.flatten.length=nn at*;go_wp2_with fail;with_reducible refine hg.out.mono ?_
   rintro e w1 ⟨v,rfl,ho,hb1⟩;replace ho:=Hd ho;replace hb1:=Hd hb1;clear hg;go_wp2_with fail;go_loopw [6,8,27] (λv _ j wr=>∃ i:Nat,i<=k/\j=.int .i64 i/\aN w.heap.size wr v (ps.take i).flatten/\Below w.heap.size w wr) (λ_ _ j _=>k-(intOf j).toNat)
   case atStart=>exact⟨0,Nat.zero_le _,rfl,ho.out,hb1.out⟩
   case round=>
    clear ho hb1;obtain⟨i,hi,rfl,hown,hbel⟩:=hrel;have hsz:=hbel.size;have hA3:=hA2.out.below hbel;replace hbel:=Hd hbel;replace hown:=Hd hown;by_cases hil:i<k
    ·have hip:i<ps.length:=by rw[<-hL.out];exact hil
     obtain⟨ai,ci,hc,ha⟩:=hA3 i hip;have wT:(i:Int)<k:=aB;have htk:=Hd (H6 hip);have hlx:=Hd (Eq.refl (ps.getD i []).length);have hle:=hfn.out i;have hle2:=hfn.out (i+1);have hsu:=KR hip;have hz1:(ps.take i).flatten.length<=1000000:=by unfold Yt at hle;omega
     have hz2:(ps.getD i []).length<=1000000:=aB;clear hle hle2 hsu hA3;replace ha:=Hd ha;generalize ps.getD i []=p at*;go_wp2_with (at_builtin;go_must (refine Vh rfl (.tmp 31) (.tmp 32) rfl w.heap.size _ (ps.take i).flatten rfl hown ai ci p _ rfl hlx ha aB aB hsz ?_));intro v' w3 hown3 hb3;go_wp2_with fail;go_roundw
     case rel=>exact⟨i+1,aB,by go_num,by rw[htk.out];exact hown3.out,hbel.out.trans hb3.out⟩
     case measure=>simp[intOf];omega
    ·obtain rfl:i=k:=aB;rw[show ps.take i=ps from by rw[hL.out,List.take_length]] at hown;clear hA3;go_wp2_with fail;go_ret;exact⟨_,rfl,hown.out,hbel.out⟩
theorem Fq{w:World}{B:Nat}{p0 p1 p2:List UInt8}{a0 a1 a2:Option Addr}{c0 c1 c2 l0 l1 l2:Nat}(hB:w.heap[B]? = some (.cells #[.slice a0 l0 c0,.slice a1 l1 c1,.slice a2 l2 c2] 24 (0,0)))
  (e0:p0.length=l0) (e1:p1.length=l1) (e2:p2.length=l2) (h0:aJ w a0 c0 p0) (h1:aJ w a1 c1 p1) (h2:aJ w a2 c2 p2):eU w B [p0,p1,p2]:=by
 intro k hk;match k,hk with
 | 0,_=>exact⟨a0,c0,by rw[Za hB];show some (Value.slice a0 l0 c0)=_;rw[<-e0];rfl,h0⟩
 | 1,_=>exact⟨a1,c1,by rw[Za hB];show some (Value.slice a1 l1 c1)=_;rw[<-e1];rfl,h1⟩
 | 2,_=>exact⟨a2,c2,by rw[Za hB];show some (Value.slice a2 l2 c2)=_;rw[<-e2];rfl,h2⟩
theorem E5(b:Nat)(l r:List UInt8)(w:World)(hA:eU w b [[1],l,r])(e1:l.length=32)(e2:r.length=32) :
  Calls Tryz.prog 140 #[.slice (some ⟨b,0,none⟩) 3 3] w λe w'=>∃ v,e=.returned v/\aN w.heap.size w' v (1::(l++r))/\Below w.heap.size w w':=by
 have h:=Ul b [[1],l,r] w hA sX sX (by simp[e1,e2]);rwa [show ([[1],l,r]:List (List UInt8)).flatten=1::(l++r) by simp] at h
theorem LC(l r:List UInt8)(hl:l.length=32)(hr:r.length=32)(w:World) :
  Calls Tryz.prog 118 #[.agg (cB l).toArray,.agg (cB r).toArray] w λe w'=>∃ v,e=.returned v/\aN w.heap.size w' v (1::(l++r))/\Below w.heap.size w w':=by
 obtain⟨L,hL⟩:∃ L,L=(cB l).toArray:=⟨_,rfl⟩;obtain⟨R,hR⟩:∃ R,R=(cB r).toArray:=⟨_,rfl⟩;rw[<-hL,<-hR];obtain⟨A,hA⟩:∃ A,A=(w.alloc (.cells L 47)).alloc (.cells R 47):=⟨_,rfl⟩;have hw0:Below w.heap.size w A:=by rw[hA];exact((Below.refl _ w).alloc nZ _).alloc sX _
 have hx:A.heap[w.heap.size]? = some (.cells (cB l).toArray 47 (0,0)):=by rw[hA,<-hL];exact(Below.heap_alloc _ _ _ sX).trans (heap_alloc_new w _)
 have hy:A.heap[w.heap.size+1]? = some (.cells (cB r).toArray 47 (0,0)):=by
  have:=heap_alloc_new (w.alloc (.cells L 47)) (.cells R 47 (0,0));rw[World.size_alloc] at this;rw[hA,<-hR];exact this
 have hd1:=hw0.drew;have h6:aJ A.drew (some ⟨w.heap.size,0,none⟩) 32 l:=Yk hx aB dX;have h7:aJ A.drew (some ⟨w.heap.size+1,0,none⟩) 32 r:=Yk hy aB dX;obtain⟨p,hp⟩:=aA (w.heap.size+1);rw[<-hp] at h7;have hcc:=Hd (λb W h=>E5 b l r W h hl hr);clear hx hy hw0;replace hd1:=Hd hd1;replace h6:=Hd h6;replace h7:=Hd h7;replace hA:=Hd hA;replace hp:=Hd hp;replace hl:=Hd hl;replace hr:=Hd hr;replace hL:=Hd hL;replace hR:=Hd hR;go_enter Tryz.func118,Tryz.ntmps118;go_wp2_with fail;rw[<-hA.out,<-hp.out];refine wp_region_held_drew (S:=(Below w.heap.size w)) kX hd1.out (λaD=>?_);generalize World.drew A=wd at*;refine tk 1 aD ?_;refine tk 2 aD ?_;refine rd 0 (λKz aF=>?_);go_simp;focus (try go_wp2_with fail)
 (with_reducible refine Zp (t:=5) ?_)
 intro w5 hx5 hnew;have h5:=Hd (Yk (c:=1) (l:=[1]) hx5.out dX dX);replace h6:=Hd (h6.out.below hnew);replace h7:=Hd (h7.out.below hnew);refine aF.out _ _ (Below.trans aD (Below.mono hnew (Below.size aD))) ?_;clear aF Kz aD;intro aD;try clear hnew
 try simp only[Act.put,sL,sZ,sS]
 refine rd 3 (λKz aF=>?_);go_simp;focus (try go_wp2_with fail)
 (with_reducible refine Zp (t:=24) ?_)
 intro w8 yP hnew;have hrows:=Hd (Fq yP.out rfl hl.out hr.out (h5.out.below hnew) (h6.out.below hnew) (h7.out.below hnew));refine aF.out _ _ (Below.trans aD (Below.mono hnew (Below.size aD))) ?_;clear aF Kz aD;intro aD;try clear hnew
 try simp only[Act.put,sL,sZ,sS]
 refine rd 4 (λKz aF=>?_);go_simp
 (with_reducible refine(hcc.out _ _ hrows.out).mono ?_)
 rintro e w9 ⟨v9,rfl,fB,hnew⟩;have hfo:=Hd (fB.mono aD.size);focus (go_wp2_with fail)
 refine aF.out _ _ (Below.trans aD (Below.mono hnew (Below.size aD))) ?_;clear aF Kz aD;intro aD;try clear hnew
 try simp only[Act.put,sL,sZ,sS]
 refine tk 5 aD ?_;refine bz ?_;all_goals
  go_wp2_with fail;go_ret;exact⟨_,rfl,hfo.out,aD⟩
def Zo(l r:List UInt8):List UInt8:=sha (1::(l++r))
theorem ZU(l r:List UInt8):(Zo l r).length=32:=Zy _
theorem J2(l r:List UInt8)(hl:l.length=32)(hr:r.length=32)(w:World)(hK:bP w)(hF:bZ w) :
  Calls Tryz.prog 79 #[.agg (cB l).toArray,.agg (cB r).toArray] w λe w'=>e=.returned (.agg (cB (Zo l r)).toArray)/\Below w.heap.size w w':=by
 have zr:=Qe;have zn:=ZH;obtain⟨L,hL⟩:∃ L,L=(cB l).toArray:=⟨_,rfl⟩;obtain⟨R,hR⟩:∃ R,R=(cB r).toArray:=⟨_,rfl⟩;have iL:(Tryz.prog.info? 47).map (·.size)=some L.size:=by rw[hL];exact Qi hl
 have iR:(Tryz.prog.info? 47).map (·.size)=some R.size:=by rw[hR];exact Qi hr
 have hin:=λW=>LC l r hl hr W;rw[<-hL,<-hR] at hin;rw[<-hL,<-hR];obtain⟨A,hA1⟩:∃ A,A=((w.alloc (.cells L 47)).alloc (.cells R 47)).alloc (.cells aG 47):=⟨_,rfl⟩;have bi:Below w.heap.size w A:=by rw[hA1];exact(((Below.refl _ w).alloc nZ _).alloc oU _).alloc oU _
 have hsA:A.heap.size=w.heap.size+3:=by rw[hA1];simp
 have zo:A.heap[w.heap.size]? = some (.cells L 47 (0,0)):=by rw[hA1];exact(Below.heap_alloc _ _ _ oU).trans ((Below.heap_alloc _ _ _ oU).trans (heap_alloc_new w _))
 have wU:A.heap[w.heap.size+1]? = some (.cells R 47 (0,0)):=by
  have:=heap_alloc_new (w.alloc (.cells L 47)) (.cells R 47 (0,0));rw[World.size_alloc] at this;rw[hA1];exact(Below.heap_alloc _ _ _ oU).trans this
 have bu:A.heap[w.heap.size+2]? = some (.cells aG 47 (0,0)):=by
  have:=heap_alloc_new ((w.alloc (.cells L 47)).alloc (.cells R 47)) (.cells aG 47 (0,0));rw[World.size_alloc,World.size_alloc] at this;rw[hA1];exact this
 have iJ:(Zo l r).length=32:=Zy _;obtain⟨D,hD⟩:∃ D,D=(cB (Zo l r)).toArray:=⟨_,rfl⟩;have hDs:aG.size=D.size:=by rw[Z3,hD,List.size_toArray,Zc,iJ]
 have gU:(Tryz.prog.info? 47).map (·.size)=some D.size:=by rw[hD,List.size_toArray,Zc,iJ];kernel_rfl
 have kU:D.all (·.oneCell')=true:=by rw[hD];exact ZE (Zw _)
 have hsh:=Hd (λ(W:World) (v:Value) (h:aN A.heap.size W v (1::(l++r))) (hb:Below A.heap.size A W)=>show ∃ a1 c1,v=.slice a1 65 c1/\∀ W2,W2=W.alloc (.cells #[v] 24)->Calls Tryz.prog 117 #[.slice (some ⟨W.heap.size,0,none⟩) 1 1] W2 λe w'=>e=.returned (.agg D)/\Below W2.heap.size W2 w' from by
  obtain⟨a1,c1,rfl,h1,_⟩:=h.arg;refine⟨a1,c1,by simp[hl,hr],λW2 hW2=>?_⟩;have hG:Below W.heap.size W W2:=by rw[hW2];exact bR.alloc nZ _
  have hB2:Below w.heap.size w W2:=(bi.trans (hb.mono aB)).trans (hG.mono (by have:=hb.size;omega));have:=VQ (some ⟨W.heap.size,0,none⟩) 1 [1::(l++r)] W2 (UY (h1.below hG) (by rw[hW2];exact heap_alloc_new W _)) (by simp[hl,hr]) sX (hK.below hB2) (hF.below hB2);rwa [show ([1::(l++r)]:List (List UInt8)).flatten=1::(l++r) from by simp,show sha (1::(l++r))=Zo l r from rfl,<-hD] at this)
 replace hin:=Hd (hin A);obtain⟨p,hp⟩:=aA (w.heap.size+1);obtain⟨q,hq⟩:=aA (p+1);rw[<-hp] at wU;rw[show w.heap.size+2=q by omega] at bu;have hqA:q<A.heap.size:=Zb bu;have wV:w.heap.size<=q:=aB;have Iy:=Tryz.underlying47;replace hp:=Hd hp;replace hq:=Hd hq;replace hA1:=Hd hA1;replace bi:=Hd bi;replace zo:=Hd zo;replace wU:=Hd wU;replace bu:=Hd bu;replace hsA:=Hd hsA;replace hD:=Hd hD;replace hqA:=Hd hqA;replace wV:=Hd wV;clear iJ hK hF hL hR hl hr;go_enter Tryz.func79,Tryz.ntmps79;go_upto_region 1 with fail;rw[<-hA1.out,<-hp.out,<-hq.out];go_wp2_with (first
  | ((with_reducible refine wL (.load 47 (.tmp 2)) ?_);refine Ze rfl 47 (.tmp 2) rfl w.heap.size L _ rfl zo Iy rfl iL ?_;simp only[Act.put,sL,sZ,sS])
  | ((with_reducible refine wL (.load 47 (.tmp 3)) ?_);refine Ze rfl 47 (.tmp 3) rfl p R _ rfl wU Iy rfl iR ?_;simp only[Act.put,sL,sZ,sS]))
 with_reducible refine hin.out.mono ?_
 rintro e w2 ⟨v2,rfl,ho2,hb2⟩;obtain⟨a1,c1,hv2,hcall⟩:=hsh.out w2 v2 ho2 hb2;subst hv2;have jN:=Hd ((hb2.block q hqA.out).trans bu.out);have hB2:=Hd (bi.out.trans (hb2.mono (by have:=hsA.out;omega)));have hs2:=Hd hb2.size;replace hcall:=Hd hcall;clear ho2 hb2 hin hsh;go_wp2_with fail;with_reducible refine(hcall.out _ rfl).mono ?_
 rintro e w3 ⟨rfl,hb3⟩;have hlt2:=Zb jN.out;have hG3:Below w2.heap.size w2 (w2.alloc (.cells #[.slice a1 65 c1] 24)):=bR.alloc nZ _;have gV:=Hd ((hb3.block _ (by have:=hG3.size;omega)).trans ((hG3.block _ hlt2).trans jN.out));have hB3:=Hd ((hB2.out.trans (hG3.mono hB2.out.size)).trans (hb3.mono (by have:=hG3.size;have:=hB2.out.size;omega)));clear hb3 hG3 hcall;go_wp2_with (refine Zd rfl 47 (.tmp 4) (.tmp 9) rfl q aG D rfl rfl gV gU hDs kU ?_;intro w4 eZ);refine Z2 rfl rfl Tryz.underlying47 rfl gU eZ.out.here ?_;exact⟨by rw[hD.out],hB3.out.trans (eZ.out.below wV.out)⟩
inductive Ov {D:Type} (N:D->D->D):List D->D->Prop
 | one (d:D):Ov N [d] d
 | node (k:Nat) (A B:List D) (a b:D):A.length=2 ^ k->1<=B.length->B.length<=2 ^ k->Ov N A a->Ov N B b->Ov N (A++B) (N a b)
theorem Ov.pos{D:Type}{N:D->D->D}{l:List D}{d:D}(h:Ov N l d):1<=l.length:=by
 cases h with
 | one=>exact Nat.le_refl _
 | node k A B a b h1 h2 h3 h4 h5=>rw[List.length_append];omega
theorem Rr{k j b c:Nat}(h1:1<=b)(h2:b<=2 ^ k)(h3:1<=c)(h4:c<=2 ^ j)(h:2 ^ k+b=2 ^ j+c):k=j:=by
 rcases Nat.lt_trichotomy k j with hlt|rfl|hlt
 ·have:2 ^ (k+1)<=2 ^ j:=Nat.pow_le_pow_right dX hlt;rw[Nat.pow_succ] at this;omega
 ·rfl
 ·have:2 ^ (j+1)<=2 ^ k:=Nat.pow_le_pow_right dX hlt;rw[Nat.pow_succ] at this;omega
theorem Ov.uniq{D:Type}{N:D->D->D}:∀ {l:List D} {d e:D},Ov N l d->Ov N l e->d=e:=by
 intro l d e h;induction h generalizing e with
 | one d=>
  intro h2;generalize hl : [d]=l at h2;cases h2 with
  | one=>simpa using hl
  | node k A B a b h1 h2 h3 h4 h5=>
   have h6:=h4.pos;have:=congrArg List.length hl;rw[List.length_append,List.length_singleton] at this;omega
 | node k A B a b h1 h2 h3 h4 h5 ih1 ih2=>
  intro hx;generalize hl:A++B=l at hx;cases hx with
  | one=>
   have h6:=h4.pos;have:=congrArg List.length hl;rw[List.length_append,List.length_singleton] at this;omega
  | node j A' B' a' b' g1 g2 g3 g4 g5=>
   have hlen:=congrArg List.length hl;rw[List.length_append,List.length_append,h1,g1] at hlen;obtain rfl:=Rr h2 h3 g2 g3 hlen;obtain⟨rfl,rfl⟩:=List.append_inj hl (by rw[h1,g1]);rw[ih1 g4,ih2 g5]
theorem Da:∀ n:Nat,2<=n->∃ k,2 ^ k<n/\n<=2 ^ (k+1):=by
 intro n;induction n with
 | zero=>omega
 | succ n ih=>
  intro h;by_cases h2:2<=n
  ·obtain⟨k,h3,h4⟩:=ih h2;by_cases h5:n+1<=2 ^ (k+1)
   ·exact⟨k,aB,h5⟩
   ·exact⟨k+1,aB,by rw[Nat.pow_succ];omega⟩
  ·exact⟨0,bf,bf⟩
theorem Ov.ex{D:Type}(N:D->D->D):∀ (n:Nat) (l:List D),l.length<=n->1<=l.length->∃ d,Ov N l d:=by
 intro n;induction n with
 | zero=>intro l h1 h2;omega
 | succ n ih=>
  intro l h1 h2;by_cases h:l.length=1
  ·obtain⟨d,rfl⟩:=List.length_eq_one_iff.1 h;exact⟨d,.one d⟩
  ·obtain⟨k,h3,h4⟩:=Da l.length aB;rw[Nat.pow_succ] at h4;obtain⟨a,ha⟩:=ih (l.take (2 ^ k)) (by rw[List.length_take];omega) (by rw[List.length_take];have:=Nat.pow_pos (n:=k) (show 0<2 by decide);omega);obtain⟨b,hb⟩:=ih (l.drop (2 ^ k)) (by rw[List.length_drop];have:=Nat.pow_pos (n:=k) (show 0<2 by decide);omega) jH;have:=Ov.node k _ _ a b (by rw[List.length_take];omega) jH jH ha hb;rw[List.take_append_drop] at this;exact⟨_,this⟩
def oH{D:Type}(N:D->D->D):List D->List D
 | []=>[]
 | [a]=>[a]
 | a::b::l=>N a b::oH N l
theorem KF{D:Type}(N:D->D->D):∀ (n:Nat) (l:List D),l.length<=n->(oH N l).length=(l.length+1) / 2:=by
 intro n;induction n with
 | zero=>intro l h;obtain rfl:=List.length_eq_zero_iff.1 (Nat.le_zero.1 h);simp[oH]
 | succ n ih=>
  intro l h;match l with
  | []=>simp[oH]
  | [a]=>simp[oH]
  | a::b::l=>
   simp only[oH,List.length_cons] at h ⊢;rw[ih l aB];omega
theorem Wv{D:Type}(N:D->D->D):∀ (n:Nat) (l r:List D),l.length=2*n->oH N (l++r)=oH N l++oH N r:=by
 intro n;induction n with
 | zero=>intro l r h;obtain rfl:=List.length_eq_zero_iff.1 (by omega:l.length=0);rfl
 | succ n ih=>
  intro l r h;match l with
  | []=>simp at h
  | [a]=>simp at h;omega
  | a::b::l=>
   simp only[List.cons_append,oH];rw[ih l r (by simp at h;omega)]
theorem Ov.up{D:Type}{N:D->D->D}{l:List D}{d:D}(h:Ov N l d):2<=l.length->Ov N (oH N l) d:=by
 induction h with
 | one d=>intro h;simp at h
 | node k A B a b h1 h2 h3 h4 h5 ih1 ih2=>
  intro _;match k with
  | 0=>
   obtain⟨x,rfl⟩:=List.length_eq_one_iff.1 (show A.length=1 by rw[h1]);obtain⟨y,rfl⟩:=List.length_eq_one_iff.1 (show B.length=1 by have:2 ^ 0=1:=rfl;omega);obtain rfl:=h4.uniq (.one x);obtain rfl:=h5.uniq (.one y);exact .one _
  | k+1=>
   have hp:=Nat.pow_pos (n:=k) (show 0<2 by decide);rw[Nat.pow_succ] at h1 h3;rw[Wv N (2 ^ k) A B aB];refine .node k _ _ a b (by rw[KF N _ A nZ];omega) (by rw[KF N _ B nZ];omega) (by rw[KF N _ B nZ];omega) (ih1 aB) ?_;by_cases hB:2<=B.length
   ·exact ih2 hB
   ·obtain⟨y,rfl⟩:=List.length_eq_one_iff.1 (show B.length=1 by omega);exact h5
structure sM (D:Type) where
 k:Nat
 l:List D
 d:D
def Vn{D:Type}(N:D->D->D)(bs:List (sM D)):Prop:=(∀ b∈bs,b.l.length=2 ^ b.k/\Ov N b.l b.d)/\bs.Pairwise (λx y=>y.k<x.k)
def leaves{D:Type}(bs:List (sM D)):List D:=(bs.map (·.l)).flatten
def U4{D:Type}(N:D->D->D):List D->Option D
 | []=>none
 | [d]=>some d
 | d::ds=>(U4 N ds).map (N d)
theorem Ec{D:Type}{N:D->D->D}:∀ (bs:List (sM D)) (K:Nat),Vn N bs->(∀ b∈bs,b.k<K)->(leaves bs).length<2 ^ K:=by
 intro bs;induction bs with
 | nil=>intro K _ _;exact Nat.pow_pos dX
 | cons b bs ih=>
  intro K h hK;have hp:=List.pairwise_cons.1 h.2;have h1:=ih b.k ⟨λx hx=>h.1 x (List.mem_cons_of_mem _ hx),hp.2⟩ hp.1;have h2:=(h.1 b (List.mem_cons_self ..)).1;have h3:2 ^ (b.k+1)<=2 ^ K:=Nat.pow_le_pow_right dX (hK b (List.mem_cons_self ..));rw[Nat.pow_succ] at h3;simp only[leaves,List.map_cons,List.flatten_cons,List.length_append] at h1 ⊢;omega
theorem Dm{D:Type}{N:D->D->D}:∀ (bs:List (sM D)),Vn N bs->bs≠[]->∃ r,U4 N (bs.map (·.d))=some r/\Ov N (leaves bs) r:=by
 intro bs;induction bs with
 | nil=>intro _ h;exact absurd rfl h
 | cons b bs ih=>
  intro h _;have hp:=List.pairwise_cons.1 h.2;obtain⟨hb1,hb2⟩:=h.1 b (List.mem_cons_self ..);have hbs:Vn N bs:=⟨λx hx=>h.1 x (List.mem_cons_of_mem _ hx),hp.2⟩;cases bs with
  | nil=>exact⟨b.d,rfl,by simpa[leaves] using hb2⟩
  | cons c cs=>
   obtain⟨r,h1,h2⟩:=ih hbs sX;have hlt:=Ec (c::cs) b.k hbs hp.1;refine⟨N b.d r,?_,?_⟩
   ·show (U4 N ((c::cs).map (·.d))).map (N b.d)=_;rw[h1];rfl
   ·have:leaves (b::c::cs)=b.l++leaves (c::cs):=by simp[leaves]
    rw[this];exact .node b.k _ _ _ _ hb1 h2.pos aB hb2 h2
def JG{D:Type}(N:D->D->D):Nat->Nat->List D->D->D->List D×D
 | 0,_,qs,_,d=>(qs,d)
 | k+1,n,qs,z,d=>if n % 2=1 then JG N k (n / 2) qs.dropLast z (N (qs.getD (qs.length-1) z) d) else (qs,d)
theorem Hn{D:Type}{N:D->D->D}(j:Nat):∀ (bs:List (sM D)),Vn N bs->(∀ b∈bs,j<=b.k)->∃ m,(leaves bs).length=2 ^ j*m:=by
 intro bs;induction bs with
 | nil=>intro _ _;exact⟨0,rfl⟩
 | cons b bs ih=>
  intro h hj;obtain⟨m,hm⟩:=ih ⟨λx hx=>h.1 x (List.mem_cons_of_mem _ hx),(List.pairwise_cons.1 h.2).2⟩ (λx hx=>hj x (List.mem_cons_of_mem _ hx));have h2:=(h.1 b (List.mem_cons_self ..)).1;have h3:=hj b (List.mem_cons_self ..);refine⟨2 ^ (b.k-j)+m,?_⟩;have:2 ^ b.k=2 ^ j*2 ^ (b.k-j):=by rw[<-Nat.pow_add];congr 1;omega
  simp only[leaves,List.map_cons,List.flatten_cons,List.length_append] at hm ⊢;rw[h2,hm,this,Nat.mul_add]
theorem lI{D:Type}{N:D->D->D}{bs:List (sM D)}{c:sM D}:Vn N (bs++[c])↔Vn N bs/\(c.l.length=2 ^ c.k/\Ov N c.l c.d)/\∀ b∈bs,c.k<b.k:=by
 unfold Vn;rw[List.pairwise_append];constructor
 ·rintro⟨h1,h2,h3,h4⟩;exact⟨⟨λb hb=>h1 b (List.mem_append_left _ hb),h2⟩,h1 c sX,λb hb=>h4 b hb c sX⟩
 ·rintro⟨⟨h1,h2⟩,h3,h4⟩;refine⟨λb hb=>?_,h2,List.pairwise_singleton _ _,λb hb x hx=>?_⟩
  ·rcases List.mem_append.1 hb with hb|hb
   ·exact h1 b hb
   ·rw[List.mem_singleton.1 hb];exact h3
  ·rw[List.mem_singleton.1 hx];exact h4 b hb
theorem Ub{D:Type}(bs:List (sM D))(c:sM D):leaves (bs++[c])=leaves bs++c.l:=by simp[leaves]
theorem Wu{D:Type}{N:D->D->D}(z:D):∀ (f j m:Nat) (bs:List (sM D)) (C:List D) (d:D),m<=f->Vn N bs->(∀ b∈bs,j<=b.k)->(leaves bs).length=2 ^ j*m->C.length=2 ^ j->Ov N C d->
  ∃ cs,Vn N cs/\cs.map (·.d)=(JG N f m (bs.map (·.d)) z d).1++[(JG N f m (bs.map (·.d)) z d).2]/\leaves cs=leaves bs++C:=by
 intro f;induction f with
 | zero=>
  intro j m bs C d hm h hj hl hC hd;obtain rfl:m=0:=aB;have hnil:bs=[]:=by
   cases bs with
   | nil=>rfl
   | cons b bs=>
    exfalso;have h2:=(h.1 b (List.mem_cons_self ..)).1;have:=Nat.pow_pos (n:=b.k) (show 0<2 by decide);simp only[leaves,List.map_cons,List.flatten_cons,List.length_append] at hl;omega
  subst hnil;exact⟨[⟨j,C,d⟩],⟨λb hb=>by rw[List.mem_singleton.1 hb];exact⟨hC,hd⟩,List.pairwise_singleton _ _⟩,rfl,by simp[leaves]⟩
 | succ f ih=>
  intro j m bs C d hm h hj hl hC hd;have hp:=Nat.pow_pos (n:=j) (show 0<2 by decide);rcases List.eq_nil_or_concat bs with rfl|⟨bs',c,hbs⟩
  ·have h0:m=0:=by
    have:2 ^ j*m=0:=by rw[<-hl];rfl
    rcases Nat.mul_eq_zero.1 this with h|h<;>omega
   subst h0;refine⟨[⟨j,C,d⟩],⟨λb hb=>by rw[List.mem_singleton.1 hb];exact⟨hC,hd⟩,List.pairwise_singleton _ _⟩,?_,by simp[leaves]⟩;rw[JG,if_neg dX];rfl
  ·rw[List.concat_eq_append] at hbs;subst hbs;obtain⟨h1,h2,h3⟩:=lI.1 h;by_cases hck:c.k=j
   ·obtain⟨q,hq⟩:=Hn (j+1) bs' h1 (λb hb=>by have:=h3 b hb;omega);rw[Ub,List.length_append,h2.1,hck,hq] at hl;have hm2:m=2*q+1:=by
     rw[Nat.pow_succ,Nat.mul_assoc] at hl;have:2 ^ j*(2*q+1)=2 ^ j*m:=by rw[Nat.mul_add,Nat.mul_one];exact hl
     exact(Nat.eq_of_mul_eq_mul_left hp this).symm
    have hgd:((bs'++[c]).map (·.d)).getD (((bs'++[c]).map (·.d)).length-1) z=c.d:=by
     simp[List.getD_eq_getElem?_getD]
    have hdl:((bs'++[c]).map (·.d)).dropLast=bs'.map (·.d):=sX;rw[JG,if_pos aB,hgd,hdl,show m / 2=q by omega];obtain⟨cs,k1,k2,k3⟩:=ih (j+1) q bs' (c.l++C) (N c.d d) aB h1 (λb hb=>by have:=h3 b hb;omega) hq (by rw[List.length_append,h2.1,hC,hck,Nat.pow_succ];omega) (.node j _ _ _ _ (by rw[h2.1,hck]) aB aB h2.2 hd);exact⟨cs,k1,k2,by rw[k3,Ub,List.append_assoc]⟩
   ·have hjc:=hj c sX;obtain⟨q,hq⟩:=Hn (j+1) (bs'++[c]) h (λb hb=>by
     rcases List.mem_append.1 hb with hb|hb
     ·have:=h3 b hb;omega
     ·rw[List.mem_singleton.1 hb];omega)
    rw[hq,Nat.pow_succ,Nat.mul_assoc] at hl;have hm2:m=2*q:=(Nat.eq_of_mul_eq_mul_left hp hl).symm;rw[JG,if_neg aB];refine⟨(bs'++[c])++[⟨j,C,d⟩],lI.2 ⟨h,⟨hC,hd⟩,λb hb=>?_⟩,sX,by rw[Ub]⟩;rcases List.mem_append.1 hb with hb|hb
    ·have:=h3 b hb;show j<b.k;omega
    ·rw[List.mem_singleton.1 hb];show j<c.k;omega
structure Stp where
 left:Bool
 from_:Nat
 to:Nat
def Zs(n:Nat):Nat:=if n<2 then 0 else 2 ^ Nat.log2 (n-1)
theorem J9{n:Nat}(h:2<=n):∃ k,Zs n=2 ^ k/\Zs n<n/\n<=2*Zs n:=by
 unfold Zs;rw[if_neg aB];refine⟨_,rfl,?_,?_⟩
 ·have:=Nat.log2_self_le (n:=n-1) aB;omega
 ·have:=Nat.lt_log2_self (n:=n-1);rw[Nat.pow_succ] at this;omega
def Zt:Nat->Nat->Nat->Nat->Bool->List Stp×Bool×Nat
 | 0,_,_,fr,wh=>([],wh,fr)
 | f+1,m,n,fr,wh=>if m<n then
   (if m<=Zs n then (⟨false,fr+Zs n,fr+n⟩::(Zt f m (Zs n) fr wh).1,(Zt f m (Zs n) fr wh).2)
   else (⟨true,fr,fr+Zs n⟩::(Zt f (m-Zs n) (n-Zs n) (fr+Zs n) false).1,(Zt f (m-Zs n) (n-Zs n) (fr+Zs n) false).2))
  else ([],wh,fr)
def Ug{D:Type}(N:D->D->D)(ov:Nat->Nat->D)(z:D):List Stp->D×D
 | []=>(z,z)
 | s::r=>if s.left then (N (ov s.from_ s.to) (Ug N ov z r).1,N (ov s.from_ s.to) (Ug N ov z r).2) else ((Ug N ov z r).1,N (Ug N ov z r).2 (ov s.from_ s.to))
def bg{D:Type}(L:List D)(a b:Nat):List D:=(L.drop a).take (b-a)
theorem Yn{D:Type}{L:List D}{a b:Nat}(h:b<=L.length):(bg L a b).length=b-a:=by unfold bg;rw[List.length_take,List.length_drop];omega
theorem G3{D:Type}{L:List D}{a b c:Nat}(h1:a<=b)(h2:b<=c):bg L a c=bg L a b++bg L b c:=by
 unfold bg;rw[show c-a=(b-a)+(c-b) by omega,List.take_add,List.drop_drop,show a+(b-a)=b by omega]
theorem LA{D:Type}{N:D->D->D}(L:List D)(ov:Nat->Nat->D)(hov:∀ a b,a<b->b<=L.length->Ov N (bg L a b) (ov a b))(z:D):∀ (f m n fr:Nat) (wh:Bool),n<=f->1<=m->m<=n->fr+n<=L.length->
  (Ov N (bg L (Zt f m n fr wh).2.2 (fr+m)) z)->Ov N (bg L fr (fr+m)) (Ug N ov z (Zt f m n fr wh).1).1/\Ov N (bg L fr (fr+n)) (Ug N ov z (Zt f m n fr wh).1).2:=by
 intro f;induction f with
 | zero=>intro m n fr wh h1 h2 h3;omega
 | succ f ih=>
  intro m n fr wh h1 h2 h3 h4 hz;unfold Zt at hz ⊢;by_cases jO:m<n
  ·rw[if_pos jO] at hz ⊢;obtain⟨k,hk,hk1,hk2⟩:=J9 (n:=n) aB;have hp:=Nat.pow_pos (n:=k) (show 0<2 by decide);by_cases hms:m<=Zs n
   ·rw[if_pos hms] at hz ⊢;obtain⟨r1,r2⟩:=ih m (Zs n) fr wh aB h2 hms aB hz;refine⟨r1,?_⟩;show Ov N (bg L fr (fr+n)) (N _ (ov (fr+Zs n) (fr+n)));rw[G3 (b:=fr+Zs n) aB aB];refine .node k _ _ _ _ (by rw[Yn aB];omega) (by rw[Yn aB];omega) (by rw[Yn aB];omega) r2 (hov _ _ aB aB)
   ·rw[if_neg hms] at hz ⊢;obtain⟨r1,r2⟩:=ih (m-Zs n) (n-Zs n) (fr+Zs n) false aB aB aB aB (by rw[show fr+Zs n+(m-Zs n)=fr+m by omega];exact hz);rw[show fr+Zs n+(m-Zs n)=fr+m by omega] at r1;rw[show fr+Zs n+(n-Zs n)=fr+n by omega] at r2;constructor
    ·show Ov N (bg L fr (fr+m)) (N (ov fr (fr+Zs n)) _);rw[G3 (b:=fr+Zs n) aB aB];exact .node k _ _ _ _ (by rw[Yn aB];omega) (by rw[Yn aB];omega) (by rw[Yn aB];omega) (hov _ _ aB aB) r1
    ·show Ov N (bg L fr (fr+n)) (N (ov fr (fr+Zs n)) _);rw[G3 (b:=fr+Zs n) aB aB];exact .node k _ _ _ _ (by rw[Yn aB];omega) (by rw[Yn aB];omega) (by rw[Yn aB];omega) (hov _ _ aB aB) r2
  ·rw[if_neg jO] at hz ⊢;obtain rfl:m=n:=aB;exact⟨hz,hz⟩
theorem Ch:∀ x:Fin 256,Lib.len8 ((x.val:Nat):Int)=(if x.val=0 then 0 else (Nat.log2 x.val+1:Nat)):=by decide +kernel
theorem Cc{x:Nat}(h0:1<=x)(h1:x<256):Lib.len8 (x:Int)=((Nat.log2 x+1:Nat):Int):=by
 have:=Ch ⟨x,h1⟩;rw[this,if_neg (by show ¬x=0;omega)]
theorem LU(y:Int)(h:y<(Lib.len8tab.size:Int))(h2:y.toNat<Lib.len8tab.size:=by omega):((Lib.len8tab[y.toNat]'h2).toNat:Int)=Lib.len8 y:=by
 unfold Lib.len8;rw[getElem?_pos Lib.len8tab y.toNat h2];rfl
theorem RZ{x k:Nat}(h0:1<=x)(h:x<2 ^ (k+1)):Nat.log2 x<=k:=by
 have h1:=Nat.log2_self_le (n:=x) aB;have h2:=Nat.lt_of_le_of_lt h1 h;have:=(Nat.pow_lt_pow_iff_right (a:=2) dX).1 h2;omega
theorem Dz(x:Nat)(h0:1<=x)(h1:x<256)(w:World):Calls Tryz.prog 164 #[.int .u64 (x:Int)] w λe w'=>e=.returned (.int .i64 ((Nat.log2 x+1:Nat):Int))/\w'=w:=by
 have hb:=Cc h0 h1;have hk:=RZ (x:=x) (k:=7) h0 aB;obtain⟨X,hX⟩:∃ X:Int,X=(x:Int):=⟨_,rfl⟩;rw[<-hX] at hb ⊢;have p0:0<=X:=aB;have p1:X<256:=aB;have g1:¬(4294967296<=X):=aB;have g2:¬(65536<=X):=aB;have g3:¬(256<=X):=aB;clear hX h0 h1;go_enter Tryz.func164,Tryz.ntmps164;go_wp2_with fail;have e:=LU X (by assumption);go_ret;refine⟨congrArg (λz=>Ending.returned (.int .i64 z)) ?_,rfl⟩;rw[e,hb];unfold wrap64;omega
theorem CR(x:Nat)(h0:1<=x)(h1:x<256)(w:World):Calls Tryz.prog 136 #[.int .u64 (x:Int)] w λe w'=>e=.returned (.int .i64 ((Nat.log2 x+1:Nat):Int))/\w'=w:=by
 have hc:=Dz x h0 h1 w;go_enter Tryz.func136,Tryz.ntmps136;go_wp2_with fail;refine hc.mono ?_;rintro e w' ⟨rfl,rfl⟩;go_wp2_with fail;go_ret;exact⟨rfl,rfl⟩
theorem D7(n:Nat)(h1:2<=n)(hn:n<=256)(w:World):Calls Tryz.prog 115 #[.int .i64 (n:Int)] w λe w'=>e=.returned (.int .i64 (Zs n:Nat))/\w'=w:=by
 have hc:=CR (n-1) aB aB w;have hk:=RZ (x:=n-1) (k:=7) aB aB;have hs:Zs n=2 ^ Nat.log2 (n-1):=by unfold Zs;rw[if_neg aB]
 rw[hs];generalize Nat.log2 (n-1)=k at*;have e1:((n-1:Nat):Int)=(n:Int)-1:=aB;rw[e1] at hc;have g1:¬((n:Int)<2):=aB;have g2:IntKind.i64.wrap ((n:Int)-1)=(n:Int)-1:=IntWalk.i64_in _ aB;have g3:IntKind.u64.wrap ((n:Int)-1)=(n:Int)-1:=IntWalk.u64_in _ aB;go_enter Tryz.func115,Tryz.ntmps115;go_wp2_with fail;refine hc.mono ?_;rintro e w' ⟨rfl,rfl⟩;have:k=0\/k=1\/k=2\/k=3\/k=4\/k=5\/k=6\/k=7:=aB;rcases this with rfl|rfl|rfl|rfl|rfl|rfl|rfl|rfl;all_goals
  go_wp2_with fail;go_ret;exact⟨rfl,rfl⟩
def GL(fn:Nat->Option (Nat×Nat)):Nat->Nat->List Value->Prop
 | _,_,[]=>True
 | i,o,v::vs=>fn i=some (o,v.cells.size)/\GL fn (i+1) (o+v.cells.size) vs
section
variable {P:Program}
theorem Ym{t e:TypeId}{size bytes:Nat}(ht:P.underlying t=some (.slice e))(hi:(P.info? e).map (λi=>(i.zero.map (·.cells.size),i.size,i.bytes))=some (some size,size,bytes))(hs:0<size)(hs2:size<=10000)(R:Array Value)(hR:R.size=size)(W:World) :
  (Instr.buildSlice t 1 #[(0,.agg R)]).run P W=.ok (.slice (some ⟨W.heap.size,0,none⟩) 1 1) (W.alloc (.cells R e)):=by
 obtain⟨ie,hie,h2⟩:=Option.map_eq_some_iff.1 hi;simp only[Prod.mk.injEq] at h2;obtain⟨hz,hs1,hb⟩:=h2;obtain⟨z,hz1,hz2⟩:=Option.map_eq_some_iff.1 hz;refine run_buildSlice W _ _ 1 _ R ie z ht hie hz1 (by rw[hs1];omega) (by rw[hs1];omega) ?_;have h:=Go.Great.fill_whole (s:=size) hs [.agg R] ((Array.range (1*ie.size)).map (z.cells[· % z.cells.size]!)) (by simp[Value.cells,hR]) (by simp[hs1]);simpa[hs1,Value.cells] using h
variable {ops:Array Oper} {rest:List Oper} {K:Act->World->Prop} {Q:Exit->Act->World->Prop} {o:Oper} {a:Act} {w:World}
theorem Wc(t:TypeId)(ps:List (Nat×Operand))(ho:o.op=.build t ps.toArray)(vs:List (Nat×Value))(hv:(ps.map λx=>(x.1,a.eval x.2))=vs)(R:Value)(h:(Instr.build t vs.toArray).run P w=.ok R w)(hK:K (a.put o.dst R) w):o.wp P a w K Q:=by
 unfold Oper.wp execOp;simp only[ho,Sem.run_bind,Sem.run_pure,Result.andThen_ok,List.map_toArray,hv,h];exact hK
theorem Z4(hgd:o.guard=none)(t:TypeId)(ps:List (Nat×Operand))(ho:o.op=.build t ps.toArray)(vs:List (Nat×Value))(hv:(ps.map λx=>(x.1,a.eval x.2))=vs)(R:Value)(h:(Instr.build t vs.toArray).run P w=.ok R w)(hK:wpList P ops Q rest (a.put o.dst R) w):wpList P ops Q (o::rest) a w:=by
 refine wpList_plain hgd λK' hK'=>?_;exact Wc t ps ho vs hv R h (hK' _ _ hK)
theorem WC(t:TypeId)(n:Nat)(ps:List (Nat×Operand))(ho:o.op=.buildSlice t n ps.toArray)(vs:List (Nat×Value))(hv:(ps.map λx=>(x.1,a.eval x.2))=vs)(R:Value)(w':World)(h:(Instr.buildSlice t n vs.toArray).run P w=.ok R w')(hK:K (a.put o.dst R) w'):o.wp P a w K Q:=by
 unfold Oper.wp execOp;simp only[ho,Sem.run_bind,Sem.run_pure,Result.andThen_ok,List.map_toArray,hv,h];exact hK
theorem QD(hgd:o.guard=none)(t:TypeId)(n:Nat)(ps:List (Nat×Operand))(ho:o.op=.buildSlice t n ps.toArray)(vs:List (Nat×Value))(hv:(ps.map λx=>(x.1,a.eval x.2))=vs)(R:Value)(w':World)(h:(Instr.buildSlice t n vs.toArray).run P w=.ok R w')(hK:wpList P ops Q rest (a.put o.dst R) w'):wpList P ops Q (o::rest) a w:=by
 refine wpList_plain hgd λK' hK'=>?_;exact WC t n ps ho vs hv R w' h (hK' _ _ hK)
end
def Stp.list(s:Stp):List Value:=[.bool s.left,.int .i64 (s.from_:Int),.int .i64 (s.to:Int)]
def Kc(_:World)(_:Nat->Prop)(x:Stp)(cs:List Value):Prop:=cs=x.list
theorem Stp.one(x:Stp):∀ u∈x.list,u.oneCell'=true:=by
 intro u hu;simp only[Stp.list,List.mem_cons,List.not_mem_nil,or_false] at hu;rcases hu with rfl|rfl|rfl<;>rfl
theorem NC:dN Kc 3:=⟨λh _ _=>h,λh _=>h,λh=>by rw[h];exact⟨rfl,Stp.one _⟩⟩
theorem KD:(Tryz.prog.info? 166).map (λi=>(i.zero.map (·.cells.size),i.size,i.bytes))=some (some 3,3,24):=kX
theorem M8(b:Bool)(x y:Int)(W:World):(Instr.build 166 #[(0,.bool b),(1,.int .i64 x),(2,.int .i64 y)]).run Tryz.prog W=.ok (.agg #[.bool b,.int .i64 x,.int .i64 y]) W:=by
 refine run_build W _ _ _ ?_;kernel_rfl
theorem UG:∀ (f m n fr:Nat) (wh:Bool),n<=f->(Zt f m n fr wh).1.length<=n:=by
 intro f;induction f with
 | zero=>intro m n fr wh h;simp[Zt]
 | succ f ih=>
  intro m n fr wh h;unfold Zt;by_cases jO:m<n
  ·rw[if_pos jO];by_cases h2:2<=n
   ·obtain⟨k,h3,h4,h5⟩:=J9 h2;by_cases hms:m<=Zs n
    ·rw[if_pos hms];have:=ih m (Zs n) fr wh aB;simp only[List.length_cons];omega
    ·rw[if_neg hms];have:=ih (m-Zs n) (n-Zs n) (fr+Zs n) false aB;simp only[List.length_cons];omega
   ·have h1:n=1:=aB;subst h1;have h0:m=0:=aB;subst h0;rw[if_pos aB];have:Zs 1=0:=rfl;rw[this];have:=ih 0 0 fr wh aB;simp only[List.length_cons];omega
  ·rw[if_neg jO];simp
def EQ(w:World)(r:List Stp×Bool)(e:Ending)(w':World):Prop:=∃ v,e=.returned (.tuple #[v,.bool r.2])/\aH Kc 166 3 w.heap.size w' (λ_=>False) v r.1/\Below w.heap.size w w'
structure zq (B:Nat) (w0 w:World) (v:Value) (m n fr:Nat) (wh:Bool) (M N:Nat):Prop where
 ex:∃ acc f,aH Kc 166 3 B w (λ_=>False) v acc/\n<=f/\Zt N M N 0 true=(acc++(Zt f m n fr wh).1,(Zt f m n fr wh).2)/\acc.length+n<=N
 m1:1<=m
 mn:m<=n
 fr:fr+n<=N
 bel:Below B w0 w
theorem Kn(M N:Nat)(h1:1<=M)(h2:M<=N)(hn:N<=256)(w:World):Calls Tryz.prog 77 #[.int .i64 (M:Int),.int .i64 (N:Int)] w (EQ w ((Zt N M N 0 true).1,(Zt N M N 0 true).2.1)):=by
 go_enter Tryz.func77,Tryz.ntmps77;go_wp2_with fail;refine ZG [(true,2),(false,4),(true,40),(false,2)] _ [] (λU wr=>∃ (m n fr:Nat) (wh:Bool),U 0=.int .i64 (m:Nat)/\U 1=.int .i64 (n:Nat)/\U 7=.int .i64 (fr:Nat)/\U 8=.bool wh/\zq w.heap.size w wr (U 6) m n fr wh M N) (λU _=>(intOf (U 1)).toNat) ?_ ?_
 ·simp only[List.getD_cons_zero,List.getD_cons_succ];exact⟨M,N,0,true,rfl,rfl,rfl,rfl,⟨[],N,aH.nil _ _,Nat.le_refl _,rfl,sX⟩,h1,h2,aB,Below.refl _ _⟩
 ·intro U wr hrel KK hback l' hl';obtain⟨m,n,fr,wh,u0,u1,u7,u8,hL⟩:=hrel;simp only[ZQ,ZM,cond_true,cond_false,Nat.reduceAdd,u0,u1,u7,u8] at hl';generalize hu6:U 6=v at*;subst hl';obtain⟨acc,f,hr,hf,hst,hac⟩:=hL.ex;have m1:=hL.m1;have mn:=hL.mn;have hfr:=hL.fr;have hbw:=hL.bel;have gW:=hbw.size;replace u0:=Hd u0;replace u1:=Hd u1;replace u7:=Hd u7;replace u8:=Hd u8;replace hu6:=Hd hu6;clear hL;by_cases hlt:m<n
  ·have hlt2:(m:Int)<(n:Int):=aB;obtain⟨f,rfl⟩:∃ g,f=g+1:=⟨f-1,aB⟩;obtain⟨k,hs1,hs2,hs3⟩:=J9 (n:=n) aB;have hsp:=D7 n aB aB wr;have O6:Zt (f+1) m n fr wh=if m<=Zs n then (⟨false,fr+Zs n,fr+n⟩::(Zt f m (Zs n) fr wh).1,(Zt f m (Zs n) fr wh).2) else (⟨true,fr,fr+Zs n⟩::(Zt f (m-Zs n) (n-Zs n) (fr+Zs n) false).1,(Zt f (m-Zs n) (n-Zs n) (fr+Zs n) false).2):=by
    rw[Zt,if_pos hlt]
   rw[O6] at hst;clear O6 hs1;generalize hS:Zs n=S at*;have hS1:1<=S:=aB;have a1:=IntWalk.i64_in ((fr:Int)+(S:Int)) aB;have a2:=IntWalk.i64_in ((fr:Int)+(n:Int)) aB;have a3:=IntWalk.i64_in ((m:Int)-(S:Int)) aB;have a4:=IntWalk.i64_in ((n:Int)-(S:Int)) aB;have hln:acc.length<=1000000:=aB;have kV:=Hd (show ∀ k:Nat,(λ_:Nat=>False) k->(λ_:Nat=>False) k from λ_ h=>h);replace hr:=Hd hr;replace hbw:=Hd hbw;replace hst:=Hd hst;replace hS:=Hd hS;go_wp2_with fail;with_reducible refine hsp.mono ?_
   clear hsp;rintro e w2 ⟨rfl,rfl⟩;by_cases hms:m<=S
   ·have hms2:(m:Int)<=(S:Int):=aB;obtain⟨Y,hY⟩:∃ Y:Stp,Y=⟨false,fr+S,fr+n⟩:=⟨_,rfl⟩;obtain⟨XE,oJ⟩:∃ XE:Array Value,XE=#[.bool false,.int .i64 ((fr:Int)+(S:Int)),.int .i64 ((fr:Int)+(n:Int))]:=⟨_,rfl⟩;have oq:XE.size=3:=by rw[oJ];rfl
    have yQ:Hid (Kc w2 (λ_=>False) Y XE.toList):=Hd (by rw[oJ,hY];show _=Stp.list _;unfold Stp.list;simp);have hbd:=Hd (λW=>M8 false ((fr:Int)+(S:Int)) ((fr:Int)+(n:Int)) W);rw[<-oJ] at hbd;have hsl:=Hd (λW=>Ym (P:=Tryz.prog) (t:=159) Tryz.underlying159 KD dX dX XE oq W);replace oJ:=Hd oJ;clear oq;replace hY:=Hd hY;go_wp2_with (first
     | ((with_reducible refine wL (.build 166 _) ?_);refine Z4 rfl 166 [(0,.const (.bool false)),(1,.tmp 21),(2,.tmp 24)] rfl [(0,.bool false),(1,.int .i64 ((fr:Int)+(S:Int))),(2,.int .i64 ((fr:Int)+(n:Int)))] rfl _ (hbd.out _) ?_)
     | ((with_reducible refine wL (.buildSlice _ _ _) ?_);refine QD rfl 159 1 [(0,.tmp 25)] rfl [(0,.agg XE)] rfl _ _ (hsl.out _) ?_)
     | (at_builtin;refine Qa (P:=Tryz.prog) (R:=Kc) (e:=166) (size:=3) (base:=w.heap.size) (F:=λ_=>False) (F':=λ_=>False) rfl NC (.tmp 18) (.tmp 26) 159 rfl Tryz.underlying159 24 KD dX rfl hr Y XE yQ kV (Hd (λ_ _ h=>h)) (Hd (λ_ h=>h.elim)) rfl hln dX gW ?_;intro v9 w9 iH gz qJ))
    refine hback.out _ _ kX ?_ ?_
    ·simp only[List.getD_cons_zero,List.getD_cons_succ];refine⟨m,S,fr,wh,rfl,rfl,rfl,rfl,⟨⟨acc++[Y],f,iH.out,aB,?_,by rw[List.length_append,List.length_singleton];omega⟩,m1,hms,aB,hbw.out.trans (gz.out.below hbw.out.size (λk hk=>(hr.out.ownLt k hk).1))⟩⟩;rw[hst.out,if_pos hms,hY.out,List.append_assoc];rfl
    ·simp only[List.getD_cons_zero,List.getD_cons_succ,u1.out,intOf];omega
   ·have hms2:¬((m:Int)<=(S:Int)):=aB;obtain⟨Y,hY⟩:∃ Y:Stp,Y=⟨true,fr,fr+S⟩:=⟨_,rfl⟩;obtain⟨XE,oJ⟩:∃ XE:Array Value,XE=#[.bool true,.int .i64 (fr:Int),.int .i64 ((fr:Int)+(S:Int))]:=⟨_,rfl⟩;have oq:XE.size=3:=by rw[oJ];rfl
    have yQ:Hid (Kc w2 (λ_=>False) Y XE.toList):=Hd (by rw[oJ,hY];show _=Stp.list _;unfold Stp.list;simp);have hbd:=Hd (λW=>M8 true (fr:Int) ((fr:Int)+(S:Int)) W);rw[<-oJ] at hbd;have hsl:=Hd (λW=>Ym (P:=Tryz.prog) (t:=159) Tryz.underlying159 KD dX dX XE oq W);replace oJ:=Hd oJ;clear oq;replace hY:=Hd hY;go_wp2_with (first
     | ((with_reducible refine wL (.build 166 _) ?_);refine Z4 rfl 166 [(0,.const (.bool true)),(1,.tmp 30),(2,.tmp 33)] rfl [(0,.bool true),(1,.int .i64 (fr:Int)),(2,.int .i64 ((fr:Int)+(S:Int)))] rfl _ (hbd.out _) ?_)
     | ((with_reducible refine wL (.buildSlice _ _ _) ?_);refine QD rfl 159 1 [(0,.tmp 34)] rfl [(0,.agg XE)] rfl _ _ (hsl.out _) ?_)
     | (at_builtin;refine Qa (P:=Tryz.prog) (R:=Kc) (e:=166) (size:=3) (base:=w.heap.size) (F:=λ_=>False) (F':=λ_=>False) rfl NC (.tmp 29) (.tmp 35) 159 rfl Tryz.underlying159 24 KD dX rfl hr Y XE yQ kV (Hd (λ_ _ h=>h)) (Hd (λ_ h=>h.elim)) rfl hln dX gW ?_;intro v9 w9 iH gz qJ))
    refine hback.out _ _ kX ?_ ?_
    ·simp only[List.getD_cons_zero,List.getD_cons_succ];refine⟨m-S,n-S,fr+S,false,by congr 1;omega,by congr 1;omega,by congr 1,rfl,⟨⟨acc++[Y],f,iH.out,aB,?_,by rw[List.length_append,List.length_singleton];omega⟩,aB,aB,aB,hbw.out.trans (gz.out.below hbw.out.size (λk hk=>(hr.out.ownLt k hk).1))⟩⟩;rw[hst.out,if_neg hms,hY.out,List.append_assoc];rfl
    ·simp only[List.getD_cons_zero,List.getD_cons_succ,u1.out,intOf];omega
  ·have hlt2:¬((m:Int)<(n:Int)):=aB;have hz:Zt f m n fr wh=([],wh,fr):=by
    cases f with
    | zero=>rfl
    | succ f=>rw[Zt,if_neg hlt]
   rw[hz,List.append_nil] at hst;clear hz;go_wp2_with fail;go_ret2;first|exact⟨v,rfl,hr,hbw⟩|(rw[hst];exact⟨v,rfl,hr,hbw⟩)
def Xl(m n:Int):Bool:=decide (1<=m)&&(decide (m<=n)&&decide (n<=512))
theorem Uf(m n:Int)(w:World):Calls Tryz.prog 112 #[.int .i64 m,.int .i64 n] w λe w'=>e=.returned (.bool (Xl m n))/\w'=w:=by
 unfold Xl;by_cases h1:1<=m
 ·by_cases h2:m<=n
  ·by_cases h3:n<=512;all_goals
    go_enter Tryz.func112,Tryz.ntmps112;go_wp2_with fail;go_ret;exact⟨by simp[h1,h2,h3],rfl⟩
  ·go_enter Tryz.func112,Tryz.ntmps112;go_wp2_with fail;go_ret;exact⟨bf,rfl⟩
 ·go_enter Tryz.func112,Tryz.ntmps112;go_wp2_with fail;go_ret;exact⟨bf,rfl⟩
def Nj(m n:Nat):Nat:=(Zt n m n 0 true).1.length+(if (Zt n m n 0 true).2.1=true then 0 else 1)
theorem L6(m n:Nat)(h1:1<=m)(h2:m<=n)(hn:n<=256)(w:World):Calls Tryz.prog 76 #[.int .i64 (m:Int),.int .i64 (n:Int)] w λe w'=>e=.returned (.int .i64 (Nj m n:Nat))/\Below w.heap.size w w':=by
 have hcb:Xl m n=true:=by unfold Xl;simp;omega
 have hc:=Uf m n w;rw[hcb] at hc;have hst:=Kn m n h1 h2 hn w;have hl:=UG n m n 0 true nZ;unfold Nj;generalize Zt n m n 0 true=r at*;obtain⟨ls,wh,fr⟩:=r;clear hcb;go_enter Tryz.func76,Tryz.ntmps76;go_wp2_with fail;with_reducible refine hc.mono ?_
 rintro e w2 ⟨rfl,rfl⟩;go_wp2_with fail;with_reducible refine hst.mono ?_
 rintro e w3 ⟨v,rfl,hr,hb⟩;obtain⟨a,c,rfl,-⟩:=hr.form;have e1:=IntWalk.i64_in ((ls.length:Int)+1) (by have:ls.length<=n:=hl;omega);replace hb:=Hd hb;clear hst hc hr;cases wh with
 | true=>
  go_wp2_with fail;go_ret;exact⟨rfl,hb.out⟩
 | false=>
  go_wp2_with fail;go_ret;exact⟨sX,hb.out⟩
end Go.Proofs.YtpdhceiodgnbmaaGreatDoor
