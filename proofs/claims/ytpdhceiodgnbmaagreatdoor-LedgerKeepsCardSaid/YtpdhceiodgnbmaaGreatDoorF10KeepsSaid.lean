import Derived.Test.YtpdhceiodgnbmaaGreatDoorF9KeepsSaid
set_option linter.all false
set_option maxRecDepth 100000
set_option maxHeartbeats 8000000
namespace Go.Proofs.YtpdhceiodgnbmaaGreatDoor
open Go.RowKit
theorem Tryz.infoRowP:(Tryz.prog.info? 24).map (λi=>(i.zero,i.size,i.bytes))=some (some (.slice none 0 0),1,24):=kX
theorem aJ.kept{w w':World}{a:Option Addr}{cap:Nat}{bs:List UInt8}{row:Option Nat}(h:aJ w a cap bs)(hg:w.grownBy w' row)(hr:0<bs.length->∀ b o,a=some ⟨b,o,none⟩->row≠some b):aJ w' a cap bs:=by
 refine⟨h.len,h.most,h.nil,λi hi=>?_⟩;obtain⟨b,o,e,hc⟩:=h.row i hi;exact⟨b,o,e,hg.cell hc (λe2=>hr aB b o e e2.symm)⟩
theorem Z5(w:World)(o:Obj)(k:Nat):(w.alloc o).heap[k]? = if k=w.heap.size then some o else w.heap[k]? := by
 show (w.heap.push o)[k]? = _;rw[Array.getElem?_push]
def NM(n:Int):Nat:=(n % 18446744073709551616).toNat
def Z1(n:Int)(j:Nat):UInt8:=UInt8.ofNat (NM n / 2 ^ (8*(7-j)))
def Zh(n:Int):List UInt8:=(List.range 8).map (Z1 n)
theorem Zk(n:Int):(Zh n).length=8:=by simp[Zh]
theorem Rl(n:Int)(k:Nat)(hk:k<8):n / ((2 ^ (8*(7-k)):Nat):Int) % 256=((Z1 n k).toNat:Int):=by
 unfold Z1;rw[UInt8.toNat_ofNat'];obtain⟨m,hm⟩:∃ m:Int,n=(NM n:Int)+18446744073709551616*m:=⟨n / 18446744073709551616,by unfold NM;omega⟩;generalize NM n=u at*;rw[hm];have h:k=0\/k=1\/k=2\/k=3\/k=4\/k=5\/k=6\/k=7:=aB;rcases h with rfl|rfl|rfl|rfl|rfl|rfl|rfl|rfl<;>simp<;>omega
def Bo(n:Int)(r:Nat):Nat:=NM n / 256 ^ r
theorem Dp(n:Int)(r:Nat)(hr:r<8):((Bo n r:Nat):Int) % 256=((Z1 n (7-r)).toNat:Int):=by
 unfold Bo Z1;rw[UInt8.toNat_ofNat',show 7-(7-r)=r from by omega,show (256:Nat)=2 ^ 8 from rfl,<-Nat.pow_mul];omega
theorem Wz(n:Int)(k:Nat):(List.range (k+1)).map (Z1 n)=(List.range k).map (Z1 n)++[Z1 n k]:=by simp[List.range_succ]
section
variable {w:World} {ops:Array Oper} {rest:List Oper} {o:Oper} {a:Act} {Q:Exit->Act->World->Prop}
theorem LZ(hgd:o.guard=none)(s x:Operand)(ho:o.op=.call { callee:=.builtin .append,args:=#[s,x],argTypes:=#[24,24] })
  (base:Nat) (v:Value) (bs:List UInt8) (hs:a.eval s=v) (hown:Hid (aN base w v bs))
  (u:UInt8) (z:Int) (hz:z=(u.toNat:Int)) (hx:a.eval x=.slice (some ⟨w.heap.size,0,none⟩) 1 1) (hl:bs.length<=1000000) (hbase:base<=w.heap.size)
  (h:∀ v' w',Hid (aN base w' v' (bs++[u]))->Hid (Below base w w')->wpList Tryz.prog ops Q rest (a.put o.dst v') w') :
  wpList Tryz.prog ops Q (o::rest) a (w.alloc (.cells #[.int .u8 z] 5)):=by
 subst hz;exact HZ hgd s x ho base v bs hs hown u hx hl hbase h
end
theorem QR(n:Int)(w:World)(h1 : -9223372036854775808<=n)(h2:n<=9223372036854775807) :
  Calls Tryz.prog 142 #[.int .i64 n] w λe w'=>∃ v,e=.returned v/\aN w.heap.size w' v (Zh n)/\Below w.heap.size w w':=by
 have h0:=Hd (aN.nil w.heap.size w);have hby:=Hd (Rl n);have hsc:=Hd (Wz n);have hend:=Hd (show (List.range 8).map (Z1 n)=Zh n from rfl);replace h1:=Hd h1;replace h2:=Hd h2;go_enter Tryz.func142,Tryz.ntmps142;go_wp2_with fail;go_loopw [3,4] (λv j wr=>∃ k:Nat,k<=8/\j=.int .i64 (7-(k:Int))/\aN w.heap.size wr v ((List.range k).map (Z1 n))/\Below w.heap.size w wr)
  (λ_ j _=>(intOf j+8).toNat)
 case atStart=>exact⟨0,Nat.zero_le _,rfl,h0.out,Below.refl _ _⟩
 case round=>
  clear h0;obtain⟨k,hk,rfl,hown,hbel⟩:=hrel;have hsz:=hbel.size;replace hown:=Hd hown;replace hbel:=Hd hbel;by_cases hlt:k<8
  ·have hll:((List.range k).map (Z1 n)).length<=1000000:=by rw[List.length_map,List.length_range];omega
   have hge:(0:Int)<=7-(k:Int):=aB;have hb:=Hd (hby.out k hlt);have hs:=Hd (hsc.out k);generalize (List.range k).map (Z1 n)=T at*;go_wp2_with (at_builtin;go_must (refine LZ rfl (.tmp 9) (.tmp 15) rfl w.heap.size _ T rfl hown (Z1 n k) _ ?hz rfl hll hsz ?_))
   case hz=>exact hb.out
   intro v5 w5 dW hd5;have hb5:=Hd (hbel.out.trans hd5.out);go_wp2_with fail;go_roundw
   case rel=>exact⟨k+1,aB,by go_num,by rw[hs.out];exact dW.out,hb5.out⟩
   case measure=>simp[intOf];omega
  ·obtain rfl:k=8:=aB;have SC:¬(0:Int)<=7-((8:Nat):Int):=aB;go_wp2_with fail;go_ret;exact⟨_,rfl,by rw[<-hend.out];exact hown.out,hbel.out⟩
theorem Hh{w w':World}{b:Nat}{o:Obj}(h:w.heap[b]? = some o)(hg:Grown w w'):w'.heap[b]? = some o:=(hg.block b (Zb h)).trans h
theorem ZX{a b:World}{C:World->Prop}(k:∀ W,Grown a W->C W)(h:Grown a b):∀ W,Grown b W->C W:=λW hW=>k W (Grown.trans h hW)
theorem YC{base g:Nat}{w:World}{x:UInt8}(h:w.heap[g]? = some (.cells #[.int .u8 (x.toNat:Int)] 5 (0,0)))(hg:base<=g):aN base w (.slice (some ⟨g,0,none⟩) 1 1) [x]:=
 ⟨rfl,.inr ⟨g,1,#[.int .u8 (x.toNat:Int)],rfl,hg,h,Nat.le_refl _,by unfold maxLen;omega,rfl,rfl⟩⟩
theorem VA{g:Nat}{w:World}{x:UInt8}(h:w.heap[g]? = some (.cells #[.int .u8 (x.toNat:Int)] 5 (0,0))):aJ w (some ⟨g,0,none⟩) 1 [x]:=by
 obtain⟨a,c,e,h2,_⟩:=(YC (base:=0) h (Nat.zero_le _)).arg;cases e;exact h2
theorem CF{w:World}{B:Nat}{p0 p1 p2 p3:List UInt8}{a0 a1 a2 a3:Option Addr}{c0 c1 c2 c3 l0 l1 l2 l3:Nat}(hB:w.heap[B]? = some (.cells #[.slice a0 l0 c0,.slice a1 l1 c1,.slice a2 l2 c2,.slice a3 l3 c3] 24 (0,0)))
  (e0:p0.length=l0) (e1:p1.length=l1) (e2:p2.length=l2) (e3:p3.length=l3) (h0:aJ w a0 c0 p0) (h1:aJ w a1 c1 p1) (h2:aJ w a2 c2 p2) (h3:aJ w a3 c3 p3):eU w B [p0,p1,p2,p3]:=by
 intro k hk;match k,hk with
 | 0,_=>exact⟨a0,c0,by rw[Za hB];show some (Value.slice a0 l0 c0)=_;rw[<-e0];rfl,h0⟩
 | 1,_=>exact⟨a1,c1,by rw[Za hB];show some (Value.slice a1 l1 c1)=_;rw[<-e1];rfl,h1⟩
 | 2,_=>exact⟨a2,c2,by rw[Za hB];show some (Value.slice a2 l2 c2)=_;rw[<-e2];rfl,h2⟩
 | 3,_=>exact⟨a3,c3,by rw[Za hB];show some (Value.slice a3 l3 c3)=_;rw[<-e3];rfl,h3⟩
theorem aU.takeP{α:Type}{f:α->List Value}{S:Nat}{w:World}{a:Option Addr}{xs:List α}(h:aU f S w a xs)(k:Nat):aU f S w a (xs.take k):=λj hj=>by
 rw[List.length_take] at hj;obtain⟨b,o,e,hr⟩:=h j aB;exact⟨b,o,e,by rw[List.getElem_take];exact hr⟩
theorem aU.dropP{α:Type}{f:α->List Value}{S:Nat}{w:World}{b o:Nat}{xs:List α}(h:aU f S w (some ⟨b,o,none⟩) xs)(k:Nat):aU f S w (some ⟨b,o+k*S,none⟩) (xs.drop k):=λj hj=>by
 rw[List.length_drop] at hj;obtain⟨b',o',e,hr⟩:=h (k+j) aB;cases e;refine⟨b,o+k*S,rfl,?_⟩;rw[List.getElem_drop,Nat.add_assoc,<-Nat.add_mul];exact hr
theorem LL(a:Option Addr)(c:Nat)(bs:List UInt8)(w:World)(hA:aJ w a c bs)(hl:bs.length<=1000)(hK:gY w)(hF:gZ w) :
  Calls Tryz.prog 111 #[.slice a bs.length c] w λe w'=>e=.returned (.agg (cB (Zr bs)).toArray)/\Below w.heap.size w w':=by
 have zr:=Xq;have zn:=ZH;obtain⟨A,hA1⟩:∃ A,A=w.alloc (.cells aG 46):=⟨_,rfl⟩;have bi:Below w.heap.size w A:=by rw[hA1];exact(Below.refl _ w).alloc nZ _
 have hsA:A.heap.size=w.heap.size+1:=by rw[hA1];simp
 have bu:A.heap[w.heap.size]? = some (.cells aG 46 (0,0)):=by rw[hA1];exact heap_alloc_new w _
 have hG:Below A.heap.size A (A.alloc (.cells #[.int .u8 0] 5)):=bR.alloc nZ _;have hown:=Hd (Ry A [0] #[.int .u8 0] rfl dX);have hA2:=Hd ((hA.below bi).below hG);have iJ:(Zr bs).length=32:=Zy _;obtain⟨D,hD⟩:∃ D,D=(cB (Zr bs)).toArray:=⟨_,rfl⟩;have hDs:aG.size=D.size:=by rw[Z3,hD,List.size_toArray,Zc,iJ]
 have gU:(Tryz.prog.info? 46).map (·.size)=some D.size:=by rw[hD,List.size_toArray,Zc,iJ];kernel_rfl
 have kU:D.all (·.oneCell')=true:=by rw[hD];exact ZE (Zw _)
 have hsh:=Hd (λ(W:World) (v:Value) (h:aN A.heap.size W v (0::bs)) (hb:Below A.heap.size A W)=>show ∃ a1 c1,v=.slice a1 (bs.length+1) c1/\Calls Tryz.prog 108 #[.slice a1 (bs.length+1) c1] W λe w'=>e=.returned (.agg D)/\Below W.heap.size W w' from by
  obtain⟨a1,c1,rfl,h1,_⟩:=h.arg;refine⟨a1,c1,rfl,?_⟩;have hB2:Below w.heap.size w W:=bi.trans (hb.mono aB);have:=UB a1 c1 (0::bs) W h1 bf (hK.below hB2) (hF.below hB2);rwa [show sha (0::bs)=Zr bs from rfl,<-hD] at this)
 obtain⟨L,hL⟩:=aA bs.length;rw[<-hL] at hl hsh ⊢;have hL2:=Hd hL.symm;replace hA1:=Hd hA1;replace bi:=Hd bi;replace bu:=Hd bu;replace hsA:=Hd hsA;replace hG:=Hd hG;replace hD:=Hd hD;clear hA hL iJ hK hF;go_enter Tryz.func111,Tryz.ntmps111;go_upto_region 1 with fail;rw[<-hA1.out];go_wp2_with (at_builtin;go_must (refine Vh rfl (.tmp 3) (.tmp 4) rfl A.heap.size _ [0] rfl hown a c bs L rfl hL2 hA2 dX aB sX ?_);intro v2 w2 ho2 hb2);have wX:=hG.out.trans (hb2.out.mono nZ);obtain⟨a1,c1,hv2,hcall⟩:=hsh.out w2 v2 ho2.out wX;subst hv2;have jN:=Hd ((wX.block w.heap.size (by have:=hsA.out;omega)).trans bu.out);have hB2:=Hd (bi.out.trans (wX.mono (by have:=hsA.out;omega)));replace hcall:=Hd hcall;clear ho2 hb2 wX hsh;go_wp2_with fail;with_reducible refine hcall.out.mono ?_
 rintro e w3 ⟨rfl,hb3⟩;have gV:=Hd ((hb3.block _ (Zb jN.out)).trans jN.out);have hB3:=Hd (hB2.out.trans (hb3.mono hB2.out.size));clear hb3 hcall;go_wp2_with (refine Zd rfl 46 (.tmp 2) (.tmp 6) rfl w.heap.size aG D rfl rfl gV gU hDs kU ?_;intro w4 eZ);refine Z2 rfl rfl Tryz.underlying46 rfl gU eZ.out.here ?_;exact⟨by rw[hD.out],hB3.out.trans (eZ.out.below nZ)⟩
theorem LG(l r:List UInt8)(hl:l.length=32)(hr:r.length=32)(w:World)(hK:gY w)(hF:gZ w) :
  Calls Tryz.prog 110 #[.agg (cB l).toArray,.agg (cB r).toArray] w λe w'=>e=.returned (.agg (cB (Zo l r)).toArray)/\Below w.heap.size w w':=by
 have zr:=Xq;have zn:=ZH;obtain⟨L,hL⟩:∃ L,L=(cB l).toArray:=⟨_,rfl⟩;obtain⟨R,hR⟩:∃ R,R=(cB r).toArray:=⟨_,rfl⟩;rw[<-hL,<-hR];obtain⟨A,hA1⟩:∃ A,A=((w.alloc (.cells L 46)).alloc (.cells R 46)).alloc (.cells aG 46):=⟨_,rfl⟩;have bi:Below w.heap.size w A:=by rw[hA1];exact(((Below.refl _ w).alloc nZ _).alloc oU _).alloc oU _
 have hx:A.heap[w.heap.size]? = some (.cells (cB l).toArray 46 (0,0)):=by rw[hA1,<-hL];exact(Below.heap_alloc _ _ _ oU).trans ((Below.heap_alloc _ _ _ oU).trans (heap_alloc_new w _))
 have hy:A.heap[w.heap.size+1]? = some (.cells (cB r).toArray 46 (0,0)):=by
  have:=heap_alloc_new (w.alloc (.cells L 46)) (.cells R 46 (0,0));rw[World.size_alloc] at this;rw[hA1,<-hR];exact(Below.heap_alloc _ _ _ oU).trans this
 have hz:A.heap[w.heap.size+2]? = some (.cells aG 46 (0,0)):=by
  have:=heap_alloc_new ((w.alloc (.cells L 46)).alloc (.cells R 46)) (.cells aG 46 (0,0));rw[World.size_alloc,World.size_alloc] at this;rw[hA1];exact this
 have hd1:=bi.drew;have h6:aJ A.drew (some ⟨w.heap.size,0,none⟩) 32 l:=Yk hx aB dX;have h8:aJ A.drew (some ⟨w.heap.size+1,0,none⟩) 32 r:=Yk hy aB dX;have hz0:Hid (A.drew.heap[w.heap.size+2]? = some (.cells aG 46 (0,0))):=Hd hz;obtain⟨p,hp⟩:=aA (w.heap.size+1);obtain⟨q,hq⟩:=aA (p+1);rw[<-hp] at h8;rw[show w.heap.size+2=q by omega] at hz0;have wV:w.heap.size<=q:=aB;have iJ:(Zo l r).length=32:=Zy _;obtain⟨D,hD⟩:∃ D,D=(cB (Zo l r)).toArray:=⟨_,rfl⟩;have hDs:aG.size=D.size:=by rw[Z3,hD,List.size_toArray,Zc,iJ]
 have gU:(Tryz.prog.info? 46).map (·.size)=some D.size:=by rw[hD,List.size_toArray,Zc,iJ];kernel_rfl
 have kU:D.all (·.oneCell')=true:=by rw[hD];exact ZE (Zw _)
 have hsh:=Hd (λ(W:World) (v:Value) (B:Nat) (h:aN B W v ([1]++l++r)) (hb:Below w.heap.size w W)=>show ∃ a1 c1,v=.slice a1 65 c1/\Calls Tryz.prog 108 #[.slice a1 65 c1] W λe w'=>e=.returned (.agg D)/\Below W.heap.size W w' from by
  obtain⟨a1,c1,rfl,h1,_⟩:=h.arg;refine⟨a1,c1,by simp[hl,hr],?_⟩;have:=UB a1 c1 ([1]++l++r) W h1 (by simp[hl,hr]) (hK.below hb) (hF.below hb);rwa [show (([1]:List UInt8)++l++r).length=65 by simp[hl,hr],show sha (([1]:List UInt8)++l++r)=Zo l r by unfold Zo;simp,<-hD] at this)
 clear hx hy hz bi;replace hd1:=Hd hd1;replace h6:=Hd h6;replace h8:=Hd h8;replace hA1:=Hd hA1;replace hp:=Hd hp;replace hq:=Hd hq;replace wV:=Hd wV;replace hl:=Hd hl;replace hr:=Hd hr;replace hL:=Hd hL;replace hR:=Hd hR;replace hD:=Hd hD;clear hK hF iJ;go_enter Tryz.func110,Tryz.ntmps110;go_upto_region 1 with fail;rw[<-hA1.out,<-hp.out,<-hq.out];go_wp2_with fail;refine wp_region_held_drew (S:=(Below w.heap.size w)) kX hd1.out (λaD=>?_);generalize World.drew A=wd at*;refine tk 1 aD ?_;refine tk 3 aD ?_;refine rd 0 (λKz aF=>?_);go_simp;focus (try go_wp2_with fail)
 (with_reducible refine Zp (t:=5) ?_)
 intro w5 hx5 hnew;have dS:=Hd (YC (x:=1) (base:=q+1) hx5.out (Zb hz0.out))
 (try replace h6:=Hd (h6.out.below hnew))
 (try replace h8:=Hd (h8.out.below hnew))
 replace hz0:=Hd ((hnew.block _ (Zb hz0.out)).trans hz0.out);clear hx5;refine aF.out _ _ (Below.trans aD (Below.mono hnew (Below.size aD))) ?_;clear aF Kz aD;intro aD;try clear hnew
 try simp only[Act.put,sL,sZ,sS]
 refine rd 2 (λKz aF=>?_);rw[if_pos bT]
 (refine YD (.tmp 5) (.tmp 6) rfl (q+1) _ [1] rfl dS _ _ l 32 rfl hl h6 dX dX (Zb hz0.out) ?_)
 intro v7 w7 tN hd7 Ot;have hS:=Below.grown aD hd7.out aD.size (λk hk=>by have:=(World.ownsRow.lt dS.out k hk).1;have:=wV.out;omega);replace h8:=Hd (h8.out.kept hd7.out (λ_ b o e hk=>by cases e;have:=(World.ownsRow.lt dS.out _ hk).1;have:=hq.out;omega));replace hz0:=Hd ((hd7.out.block q (Zb hz0.out) (λhk=>by have:=(World.ownsRow.lt dS.out _ hk.symm).1;omega)).trans hz0.out);clear Ot h6;refine aF.out _ _ hS ?_;clear aF Kz aD hS;intro aD;try simp only[Act.put]
 refine rd 4 (λKz aF=>?_);rw[if_pos bT]
 (refine YD (.tmp 7) (.tmp 8) rfl (q+1) _ ([1]++l) rfl tN _ _ r 32 rfl hr h8 (by simp[hl.out]) dX (Zb hz0.out) ?_)
 intro v9 w9 gz lK oK;have hS:=Below.grown aD lK.out aD.size (λk hk=>by have:=(World.ownsRow.lt tN.out k hk).1;have:=wV.out;omega);replace hz0:=Hd ((lK.out.block q (Zb hz0.out) (λhk=>by have:=(World.ownsRow.lt tN.out _ hk.symm).1;omega)).trans hz0.out);obtain⟨a9,c9,e9,hcall⟩:=hsh.out w9 v9 (q+1) gz.out hS;subst e9;replace hcall:=Hd hcall;clear oK h8;refine aF.out _ _ hS ?_;clear aF Kz aD hS;intro aD;try simp only[Act.put]
 refine rd 5 (λKz aF=>?_);go_simp
 (with_reducible refine hcall.out.mono ?_)
 rintro e w10 ⟨rfl,hnew⟩;replace hz0:=Hd ((hnew.block _ (Zb hz0.out)).trans hz0.out);focus (go_wp2_with fail)
 refine aF.out _ _ (Below.trans aD (Below.mono hnew (Below.size aD))) ?_;clear aF Kz aD;intro aD;try clear hnew
 try simp only[Act.put,sL,sZ,sS]
 refine rd 6 (λKz aF=>?_);rw[if_pos bT]
 (with_reducible refine Zl 46 (.tmp 4) (.tmp 10) rfl q _ D rfl rfl hz0 gU hDs kU ?_)
 intro w11 dY;have hS:=Below.trans aD (dY.out.below wV.out);refine aF.out _ _ hS ?_;clear aF Kz aD hS;intro aD;try simp only[Act.put]
 refine bz ?_;all_goals
  go_wp2_with fail;refine Z2 rfl rfl Tryz.underlying46 rfl gU dY.out.here ?_;exact⟨by rw[hD.out],aD⟩
def EV(n:Nat)(w:World)(e:Ending)(w':World):Prop:=∃ K j:Nat,e=.returned (.int .i64 (K:Int))/\K=2 ^ j/\K<n/\n<=2*K/\w'=w
theorem WI(n:Nat)(h2:2<=n)(hn:n<=256)(w:World):Calls Tryz.prog 109 #[.int .i64 (n:Int)] w (EV n w):=by
 go_enter Tryz.func109,Tryz.ntmps109;go_wp2_with fail;go_loopw [3] (λv wr=>∃ K j:Nat,v=.int .i64 (K:Int)/\K=2 ^ j/\K<n/\wr=w) (λv _=>n-(intOf v).toNat)
 case atStart=>exact⟨1,0,rfl,rfl,aB,rfl⟩
 case round=>
  obtain⟨K,j,rfl,hK,hlt,rfl⟩:=hrel;have hp:1<=K:=by rw[hK];exact Nat.pow_pos dX
  have g1:=IntWalk.i64_in ((n:Int)-(K:Int)) aB;have g2:=IntWalk.i64_in ((K:Int)*2) aB;replace hK:=Hd hK;by_cases hc:K<n-K
  ·have hc2:(K:Int)<(n:Int)-(K:Int):=aB;go_wp2_with fail;go_roundw
   case rel=>exact⟨K*2,j+1,by congr 1,by rw[hK.out,Nat.pow_succ],aB,by first|rfl|trivial⟩
   case measure=>simp[intOf];omega
  ·have hc2:¬((K:Int)<(n:Int)-(K:Int)):=aB;go_wp2_with fail;go_ret;exact⟨K,j,rfl,hK.out,hlt,aB,rfl⟩
theorem Ov.parts{D:Type}{N:D->D->D}{L:List D}{d:D}(h:Ov N L d){K j:Nat}(hK:K=2 ^ j)(h1:K<L.length)(h2:L.length<=2*K):∃ a b,Ov N (L.take K) a/\Ov N (L.drop K) b/\d=N a b:=by
 have hp:1<=K:=by rw[hK];exact Nat.pow_pos dX
 obtain⟨a,ha⟩:=Ov.ex N (L.take K).length (L.take K) nZ (by rw[List.length_take];omega);obtain⟨b,hb⟩:=Ov.ex N (L.drop K).length (L.drop K) nZ jH;refine⟨a,b,ha,hb,?_⟩;have:=Ov.node j (L.take K) (L.drop K) a b (by rw[List.length_take];omega) jH jH ha hb;rw[List.take_append_drop] at this;exact h.uniq this
theorem Ov.len32{L:List (List UInt8)}{d:List UInt8}(h:Ov Zo L d):(∀ x∈L,x.length=32)->d.length=32:=by
 cases h with
 | one=>intro h;exact h _ sX
 | node=>intro _;exact ZU _ _
theorem DN:∀ (n:Nat) (L:List (List UInt8)),L.length<=n->∀ (d:List UInt8) (a0:Option Addr) (c0:Nat) (w:World),Ov Zo L d->(∀ x∈L,x.length=32)->L.length<=256->L.length<=c0->aU cB 32 w a0 L->gY w->gZ w->
  Calls Tryz.prog 72 #[.slice a0 L.length c0] w λe w'=>e=.returned (.agg (cB d).toArray)/\Below w.heap.size w w':=by
 intro n;induction n with
 | zero=>intro L hL d a0 c0 w hO;have:=hO.pos;omega
 | succ n ih=>
  intro L hL d a0 c0 w hO h32 hn hc hA hK hF;have zr:=Xq;have zn:=ZH;have hd32:=hO.len32 h32;obtain⟨A,hA1⟩:∃ A,A=w.alloc (.cells aG 46):=⟨_,rfl⟩;have bi:Below w.heap.size w A:=by rw[hA1];exact(Below.refl _ w).alloc nZ _
  have bu:A.heap[w.heap.size]? = some (.cells aG 46 (0,0)):=by rw[hA1];exact heap_alloc_new w _
  obtain⟨D,hD⟩:∃ D,D=(cB d).toArray:=⟨_,rfl⟩;have hDs:aG.size=D.size:=by rw[Z3,hD,List.size_toArray,Zc,hd32]
  have gU:(Tryz.prog.info? 46).map (·.size)=some D.size:=by rw[hD,List.size_toArray,Zc,hd32];kernel_rfl
  have kU:D.all (·.oneCell')=true:=by rw[hD];exact ZE (Zw _)
  have wC:=Hd (hA.below bi nZ);have hpos:=hO.pos;replace hD:=Hd hD;obtain⟨b,o,e0,-⟩:=hA 0 hpos;subst e0;by_cases h1:L.length=1
  ·have hL1:(L.length==0)=false:=by rw[h1];rfl
   obtain⟨x,hx⟩:=List.length_eq_one_iff.1 h1;have hdx:d=x:=by rw[hx] at hO;exact hO.uniq (.one x)
   have hrow:Hid (A.rangeAt b o (cB x)):=Hd (by
    obtain⟨b',o',e,hr⟩:=wC.out 0 hpos;cases e;rw[Nat.zero_mul,Nat.add_zero] at hr;have:L[0]=x:=by simp[hx]
    rwa [this] at hr)
   have hDl:(Tryz.prog.info? 46).map (·.size)=some (cB x).length:=by rw[Zc,<-hdx,hd32];kernel_rfl
   have hDx:=Hd (show D=(cB x).toArray by rw[hD.out,hdx]);rw[h1];rw[h1] at hc;have hcI:¬(c0=0):=aB;replace hA1:=Hd hA1;replace bi:=Hd bi;replace bu:=Hd bu;clear ih hO h32 hn hA hK hF wC hpos hL1 hx hdx h1 hL;go_enter Tryz.func72,Tryz.ntmps72;go_upto_region 1 with fail;rw[<-hA1.out];go_wp2_with (first
    | ((with_reducible refine wL (.load 46 (.tmp 12)) ?_);refine Zx rfl 46 (.tmp 12) rfl b o rfl (cB x) _ hrow.out Tryz.underlying46 rfl hDl D hDx ?_)
    | (refine Zd rfl 46 (.tmp 2) (.tmp 13) rfl w.heap.size aG D rfl rfl bu gU hDs kU ?_;intro w4 eZ))
   refine Z2 rfl rfl Tryz.underlying46 rfl gU eZ.out.here ?_;exact⟨by rw[hD.out],bi.out.trans (eZ.out.below nZ)⟩
  ·have h2:2<=L.length:=aB;have hsp:=Hd (WI L.length h2 hn A);obtain⟨N,hN⟩:=aA L.length;have i0:¬((N:Int)=0):=aB;have i1:¬((N:Int)=1):=aB;have hl1:=Hd (λ(K j:Nat) (hK1:K=2 ^ j) (hK2:K<N) (hK3:N<=2*K)=>hO.parts hK1 (by rw[<-hN];exact hK2) (by rw[<-hN];exact hK3));have hrec:=Hd (λ(K:Nat) (a b':List UInt8) (ha:Ov Zo (L.take K) a) (hb:Ov Zo (L.drop K) b') (hK1:1<=K) (hK2:K<N)=>show
     (∀ W,Below w.heap.size w W->Calls Tryz.prog 72 #[.slice (some ⟨b,o,none⟩) K c0] W λe w'=>e=.returned (.agg (cB a).toArray)/\Below W.heap.size W w')/\
     (∀ W,Below w.heap.size w W->Calls Tryz.prog 72 #[.slice (some ⟨b,o+K*32,none⟩) (N-K) (c0-K)] W λe w'=>e=.returned (.agg (cB b').toArray)/\Below W.heap.size W w')/\
     (∀ W,Below w.heap.size w W->Calls Tryz.prog 110 #[.agg (cB a).toArray,.agg (cB b').toArray] W λe w'=>e=.returned (.agg (cB (Zo a b')).toArray)/\Below W.heap.size W w') from by
    have t32:∀ x∈L.take K,x.length=32:=λx hx=>h32 x (List.mem_of_mem_take hx);have d32:∀ x∈L.drop K,x.length=32:=λx hx=>h32 x (List.mem_of_mem_drop hx);have tl:(L.take K).length=K:=by rw[List.length_take];omega
    have dl:(L.drop K).length=N-K:=by rw[List.length_drop,hN]
    refine⟨λW hW=>?_,λW hW=>?_,λW hW=>?_⟩
    ·have:=ih (L.take K) aB a (some ⟨b,o,none⟩) c0 W ha t32 aB aB ((hA.below hW nZ).takeP K) (hK.below hW) (hF.below hW);rwa [tl] at this
    ·have:=ih (L.drop K) aB b' (some ⟨b,o+K*32,none⟩) (c0-K) W hb d32 aB aB ((hA.below hW nZ).dropP K) (hK.below hW) (hF.below hW);rwa [dl] at this
    ·exact LG a b' (ha.len32 t32) (hb.len32 d32) W (hK.below hW) (hF.below hW))
   rw[<-hN] at hsp hc;rw[<-hN];replace hA1:=Hd hA1;replace bi:=Hd bi;replace bu:=Hd bu;replace hN:=Hd hN;clear ih hO h32 hA hK hF wC hpos h1 hL h2 hn hd32;go_enter Tryz.func72,Tryz.ntmps72;go_upto_region 1 with fail;rw[<-hA1.out];go_wp2_with fail;with_reducible refine hsp.out.mono ?_
   clear hsp;rintro e w2 ⟨K,j,rfl,hK1,hK2,hK3,rfl⟩;have hp:1<=K:=by rw[hK1];exact Nat.pow_pos dX
   obtain⟨a,b',ha,hb,hdN⟩:=hl1.out K j hK1 hK2 hK3;obtain⟨r1,r2,r3⟩:=hrec.out K a b' ha hb hp hK2;have hd1:=bi.out.drew;have hz0:Hid (w2.drew.heap[w.heap.size]? = some (.cells aG 46 (0,0))):=bu;have k1:(0:Int)<=(K:Int):=aB;have k2:(K:Int)<=(c0:Int):=aB;have k3:(K:Int)<=(N:Int):=aB;have k4:(N:Int)<=(c0:Int):=aB;have k5:¬(c0=K):=aB;have k6:((N:Int).toNat-K)=N-K:=aB;rw[hdN] at hD;replace hdN:=Hd hdN;replace r1:=Hd r1;replace r2:=Hd r2;replace r3:=Hd r3;replace hd1:=Hd hd1;clear hK1 hK3 ha hb hl1 hrec bu hA1;go_wp2_with fail;refine wp_region_held_drew (S:=(Below w.heap.size w)) kX hd1.out (λaD=>?_);generalize World.drew w2=wd at*;refine tk 0 aD ?_;refine tk 1 aD ?_;refine tk 2 aD ?_;refine tk 4 aD ?_;refine tk 5 aD ?_;refine tk 6 aD ?_;refine rd 3 (λKz aF=>?_);go_simp
   (with_reducible refine(r1.out _ aD).mono ?_)
   rintro e w5 ⟨rfl,hnew⟩;replace hz0:=Hd ((hnew.block _ (Zb hz0.out)).trans hz0.out);clear r1;focus (go_wp2_with fail)
   refine aF.out _ _ (Below.trans aD (Below.mono hnew (Below.size aD))) ?_;clear aF Kz aD;intro aD;try clear hnew
   try simp only[Act.put,sL,sZ,sS]
   refine rd 7 (λKz aF=>?_);go_simp
   (with_reducible refine(r2.out _ aD).mono ?_)
   rintro e w6 ⟨rfl,hnew⟩;replace hz0:=Hd ((hnew.block _ (Zb hz0.out)).trans hz0.out);clear r2;focus (go_wp2_with fail)
   refine aF.out _ _ (Below.trans aD (Below.mono hnew (Below.size aD))) ?_;clear aF Kz aD;intro aD;try clear hnew
   try simp only[Act.put,sL,sZ,sS]
   refine rd 8 (λKz aF=>?_);go_simp
   (with_reducible refine(r3.out _ aD).mono ?_)
   rintro e w7 ⟨rfl,hnew⟩;replace hz0:=Hd ((hnew.block _ (Zb hz0.out)).trans hz0.out);rw[<-hD.out];focus (go_wp2_with fail)
   refine aF.out _ _ (Below.trans aD (Below.mono hnew (Below.size aD))) ?_;clear aF Kz aD;intro aD;try clear hnew
   try simp only[Act.put,sL,sZ,sS]
   refine rd 9 (λKz aF=>?_);rw[if_pos bT]
   (with_reducible refine Zl 46 (.tmp 2) (.tmp 25) rfl w.heap.size _ D rfl rfl hz0 gU hDs kU ?_)
   intro w11 dY;have hS:=Below.trans aD (dY.out.below nZ);refine aF.out _ _ hS ?_;clear aF Kz aD hS;intro aD;try simp only[Act.put]
   refine bz ?_;all_goals
    go_wp2_with fail;refine Z2 rfl rfl Tryz.underlying46 rfl gU dY.out.here ?_;exact⟨by rw[hdN.out,hD.out],aD⟩
theorem RU:(Tryz.prog.info? 46).map (λi=>(i.zero.map (·.cells.size),i.size,i.bytes))=some (some 32,32,32):=kX
theorem Rm(a0:Option Addr)(c0:Nat)(bs:List (List UInt8))(w:World)(hA:eQ w a0 c0 bs)(hl:∀ b∈bs,b.length<=1000)(hn:bs.length<=1000)(hK:gY w)(hF:gZ w) :
  Calls Tryz.prog 73 #[.slice a0 bs.length c0] w λe w'=>∃ v,e=.returned v/\aH RD 46 32 w.heap.size w' (λ_=>False) v (bs.map Zr)/\Below w.heap.size w w':=by
 obtain⟨N,hN⟩:=aA bs.length;rw[<-hN] at hn ⊢;have hr0:aH RD 46 32 w.heap.size (w.alloc (.cells #[] 46)) (λ_=>False) (.slice (some ⟨w.heap.size,0,none⟩) 0 0) ([]:List (List UInt8)):=aH.made0 w w.heap.size nZ;have hb0:Below w.heap.size w (w.alloc (.cells #[] 46)):=(Below.refl _ w).alloc nZ _;replace hr0:=Hd hr0;replace hb0:=Hd hb0;replace hA:=Hd hA;replace hN:=Hd hN;replace hl:=Hd hl;replace hK:=Hd hK;replace hF:=Hd hF;go_enter Tryz.func73,Tryz.ntmps73;go_wp2_with fail;refine ZG [(false,3),(true,1),(false,1),(true,1),(false,3),(true,10),(false,1)] _ [] (λU wr=>∃ k:Nat,k<=N/\U 9=.int .i64 (k:Nat)/\aH RD 46 32 w.heap.size wr (λ_=>False) (U 3) ((bs.take k).map Zr)/\Below w.heap.size w wr) (λU _=>N-(intOf (U 9)).toNat) ?_ ?_
 ·simp only[List.getD_cons_zero,List.getD_cons_succ];exact⟨0,Nat.zero_le _,rfl,hr0.out,hb0.out⟩
 ·clear hr0 hb0;intro U wr hrel KK hback l' hl';obtain⟨k,hk,kw,hr,hbw⟩:=hrel;simp only[ZQ,ZM,cond_true,cond_false,Nat.reduceAdd,kw] at hl';generalize hu3:U 3=v at*;subst hl';replace kw:=Hd kw;replace hu3:=Hd hu3;have gW:=hbw.size;by_cases hlt:k<N
  ·have hlt2:(k:Int)<(N:Int):=aB;have hkN:k<bs.length:=by rw[<-hN.out];exact hlt
   obtain⟨b1,o1,rfl,ai,ci,hce,vg⟩:=(hA.out.below hbw).row k hkN;have hgd:bs.getD k []=bs[k]:=by rw[List.getD_eq_getElem?_getD,List.getElem?_eq_getElem hkN];rfl
   rw[hgd] at vg hce;have hlb:=hl.out _ (List.getElem_mem hkN);have htk:bs.take (k+1)=bs.take k++[bs[k]]:=by rw[List.take_add_one,List.getElem?_eq_getElem hkN];rfl
   generalize bs[k]=B at*;have hlf:=LL ai ci B wr vg hlb (hK.out.below hbw) (hF.out.below hbw);obtain⟨L,hL⟩:=aA B.length;rw[<-hL] at hce hlf;replace hlf:=Hd hlf;replace hL:=Hd hL;replace htk:=Hd htk;replace hr:=Hd hr;replace hbw:=Hd hbw;clear vg hlb hgd;go_wp2_with fail;with_reducible refine hlf.out.mono ?_
   clear hlf;rintro e w5 ⟨rfl,hb5⟩;have fM:=Hd (hr.out.below ZC hb5);have bQ:=Hd (hbw.out.trans (hb5.mono gW));have hsz5:w.heap.size<=w5.heap.size:=bQ.out.size;obtain⟨D,hD⟩:∃ D,D=(cB (Zr B)).toArray:=⟨_,rfl⟩;have hDs:D.size=32:=by rw[hD,List.size_toArray,Zc,Zr];exact Zy _
   have ky:Hid (RD w5 (λ_=>False) (Zr B) D.toList):=Hd (by rw[hD];exact⟨Zy _,rfl⟩);rw[<-hD];have hsl:=Hd (λW=>Ym (P:=Tryz.prog) (t:=154) Tryz.underlying154 RU dX dX D hDs W);have kV:=Hd (show ∀ k:Nat,(λ_:Nat=>False) k->(λ_:Nat=>False) k from λ_ h=>h);have hln:((bs.take k).map Zr).length<=1000000:=by rw[List.length_map,List.length_take];omega
   replace hD:=Hd hD;clear hDs hb5;go_wp2_with (first
    | ((with_reducible refine wL (.buildSlice _ _ _) ?_);refine QD rfl 154 1 [(0,.tmp 15)] rfl [(0,.agg D)] rfl _ _ (hsl.out _) ?_)
    | (at_builtin;refine Qa (P:=Tryz.prog) (R:=RD) (e:=46) (size:=32) (base:=w.heap.size) (F:=λ_=>False) (F':=λ_=>False) rfl ZC (.tmp 13) (.tmp 16) 154 rfl Tryz.underlying154 32 RU dX rfl fM (Zr B) D ky kV (Hd (λ_ _ h=>h)) (Hd (λ_ h=>h.elim)) rfl hln dX hsz5 ?_;intro v9 w9 iH gz qJ))
   refine hback.out _ _ kX ?_ ?_
   ·simp only[List.getD_cons_zero,List.getD_cons_succ];refine⟨k+1,aB,by congr 1,?_,bQ.out.trans (gz.out.below hsz5 (λk hk=>(fM.out.ownLt k hk).1))⟩;rw[htk.out,List.map_append];exact iH.out
   ·have:=kw.out;simp only[List.getD_cons_zero,List.getD_cons_succ,this,intOf];omega
  ·have hlt2:¬((k:Int)<(N:Int)):=aB;have htk:bs.take k=bs:=List.take_of_length_le (by rw[<-hN.out];omega);rw[htk] at hr;replace hr:=Hd hr;replace hbw:=Hd hbw;clear htk;go_wp2_with fail;go_ret;exact⟨v,rfl,hr.out,hbw.out⟩
theorem J1{base:Nat}{w:World}{e:TypeId}{F:Nat->Prop}{v:Value}{xs:List (List UInt8)}(h:aH RD e 32 base w F v xs):∃ a c,v=.slice a xs.length c/\aU cB 32 w a xs/\xs.length<=c/\c<=maxLen/\(a=none->c=0/\xs.length=0)/\(∀ b o s,a=some ⟨b,o,s⟩->o=0/\s=none/\base<=b/\b<w.heap.size):=by
 obtain⟨a,c,e1,e2,e3,e4,e5⟩:=h.form;refine⟨a,c,e1,λk hk=>?_,e3,e4,e2,e5⟩;obtain⟨g,c',cs,e6,wY,h7⟩:=h.elem ZC k _ (List.getElem?_eq_getElem hk);rw[e1] at e6;cases e6;have:cs=cB xs[k]:=wY.2;rw[this] at h7;exact⟨g,0,rfl,by rw[Nat.zero_add];exact h7⟩
theorem LX(a0:Option Addr)(c0:Nat)(w:World)(hK:gY w)(hF:gZ w):Calls Tryz.prog 72 #[.slice a0 0 c0] w λe w'=>e=.returned (.agg (cB (sha [])).toArray)/\Below w.heap.size w w':=by
 have zr:=Xq;have zn:=ZH;obtain⟨A,hA1⟩:∃ A,A=w.alloc (.cells aG 46):=⟨_,rfl⟩;have bi:Below w.heap.size w A:=by rw[hA1];exact(Below.refl _ w).alloc nZ _
 have bu:A.heap[w.heap.size]? = some (.cells aG 46 (0,0)):=by rw[hA1];exact heap_alloc_new w _
 obtain⟨D,hD⟩:∃ D,D=(cB (sha [])).toArray:=⟨_,rfl⟩;have hDs:aG.size=D.size:=by rw[Z3,hD,List.size_toArray,Zc,Zy]
 have gU:(Tryz.prog.info? 46).map (·.size)=some D.size:=by rw[hD,List.size_toArray,Zc,Zy];kernel_rfl
 have kU:D.all (·.oneCell')=true:=by rw[hD];exact ZE (Zw _)
 have hsh:=Hd (show Calls Tryz.prog 108 #[.slice none 0 0] A λe w'=>e=.returned (.agg (cB (sha [])).toArray)/\Below A.heap.size A w' from UB none 0 [] A ⟨sX,dX,λ_=>rfl,λi hi=>absurd hi sX⟩ sX (hK.below bi) (hF.below bi));rw[<-hD] at hsh;replace hA1:=Hd hA1;replace bi:=Hd bi;replace bu:=Hd bu;replace hD:=Hd hD;clear hK hF;go_enter Tryz.func72,Tryz.ntmps72;go_upto_region 1 with fail;rw[<-hA1.out];go_wp2_with fail;with_reducible refine hsh.out.mono ?_
 clear hsh;rintro e w3 ⟨rfl,hb3⟩;have gV:=Hd ((hb3.block _ (Zb bu.out)).trans bu.out);have hB3:=Hd (bi.out.trans (hb3.mono bi.out.size));clear hb3;go_wp2_with (refine Zd rfl 46 (.tmp 2) (.tmp 7) rfl w.heap.size aG D rfl rfl gV gU hDs kU ?_;intro w4 eZ);refine Z2 rfl rfl Tryz.underlying46 rfl gU eZ.out.here ?_;exact⟨by rw[hD.out],hB3.out.trans (eZ.out.below nZ)⟩
theorem HE(a0:Option Addr)(c0:Nat)(bs:List (List UInt8))(d:List UInt8)(hd32:d.length=32)(w:World)(hO:∀ (W:World) (a:Option Addr) (c:Nat),Below w.heap.size w W->aU cB 32 W a (bs.map Zr)->(bs.map Zr).length<=c->Calls Tryz.prog 72 #[.slice a (bs.map Zr).length c] W λe w'=>e=.returned (.agg (cB d).toArray)/\Below W.heap.size W w')(hA:eQ w a0 c0 bs)(hl:∀ b∈bs,b.length<=1000)(hn:bs.length<=256)(hK:gY w)(hF:gZ w) :
  Calls Tryz.prog 32 #[.slice a0 bs.length c0] w λe w'=>e=.returned (.agg (cB d).toArray)/\Below w.heap.size w w':=by
 have zr:=Xq;have zn:=ZH;obtain⟨A,hA1⟩:∃ A,A=w.alloc (.cells aG 46):=⟨_,rfl⟩;have bi:Below w.heap.size w A:=by rw[hA1];exact(Below.refl _ w).alloc nZ _
 have bu:A.heap[w.heap.size]? = some (.cells aG 46 (0,0)):=by rw[hA1];exact heap_alloc_new w _
 obtain⟨D,hD⟩:∃ D,D=(cB d).toArray:=⟨_,rfl⟩;have hDs:aG.size=D.size:=by rw[Z3,hD,List.size_toArray,Zc,hd32]
 have gU:(Tryz.prog.info? 46).map (·.size)=some D.size:=by rw[hD,List.size_toArray,Zc,hd32];kernel_rfl
 have kU:D.all (·.oneCell')=true:=by rw[hD];exact ZE (Zw _)
 have hlv:=Hd (Rm a0 c0 bs A (hA.below bi) hl aB (hK.below bi) (hF.below bi));have hov:=Hd hO;rw[<-hD] at hov;generalize bs.map Zr=LD at*;obtain⟨N,hN⟩:=aA bs.length;rw[<-hN] at hlv ⊢;replace hA1:=Hd hA1;replace bi:=Hd bi;replace bu:=Hd bu;replace hD:=Hd hD;clear hO hd32 hA hl hn hK hF hN;go_enter Tryz.func32,Tryz.ntmps32;go_upto_region 1 with fail;rw[<-hA1.out];go_wp2_with fail;with_reducible refine hlv.out.mono ?_
 clear hlv;rintro e w2 ⟨v,rfl,hr,hb⟩;obtain⟨a,c,rfl,hR,hc,-⟩:=J1 hr;have hB2:=bi.out.trans (hb.mono bi.out.size);have ho2:=Hd (hov.out w2 a c hB2 hR hc);have jN:=Hd ((hb.block _ (Zb bu.out)).trans bu.out);replace hB2:=Hd hB2;clear hr hb hR hc hov;go_wp2_with fail;with_reducible refine ho2.out.mono ?_
 clear ho2;rintro e w3 ⟨rfl,hb3⟩;have gV:=Hd ((hb3.block _ (Zb jN.out)).trans jN.out);have hB3:=Hd (hB2.out.trans (hb3.mono hB2.out.size));clear hb3;go_wp2_with (refine Zd rfl 46 (.tmp 2) (.tmp 5) rfl w.heap.size aG D rfl rfl gV gU hDs kU ?_;intro w4 eZ);refine Z2 rfl rfl Tryz.underlying46 rfl gU eZ.out.here ?_;exact⟨by rw[hD.out],hB3.out.trans (eZ.out.below nZ)⟩
theorem DB(a0:Option Addr)(c0:Nat)(bs:List (List UInt8))(d:List UInt8)(w:World)(hO:(bs=[]/\d=sha [])\/Ov Zo (bs.map Zr) d)(hA:eQ w a0 c0 bs)(hl:∀ b∈bs,b.length<=1000)(hn:bs.length<=256)(hK:gY w)(hF:gZ w) :
  Calls Tryz.prog 32 #[.slice a0 bs.length c0] w λe w'=>e=.returned (.agg (cB d).toArray)/\Below w.heap.size w w':=by
 rcases hO with ⟨rfl,rfl⟩|hO
 ·exact HE a0 c0 [] _ (Zy _) w (λW a c hW _ _=>LX a c W (hK.below hW) (hF.below hW)) hA hl hn hK hF
 ·have h32:∀ x∈bs.map Zr,x.length=32:=λx hx=>by obtain⟨y,_,rfl⟩:=List.mem_map.1 hx;exact Zy _
  exact HE a0 c0 bs d (hO.len32 h32) w (λW a c hW hR hc=>DN _ (bs.map Zr) nZ d a c W hO h32 (by rw[List.length_map];omega) hc hR (hK.below hW) (hF.below hW)) hA hl hn hK hF
end Go.Proofs.YtpdhceiodgnbmaaGreatDoor
