import Derived.Test.YtpdhceiodgnbmaaGreatDoorF2KeepsSaid
set_option linter.all false
set_option maxRecDepth 100000
set_option maxHeartbeats 8000000
namespace Go.Proofs.YtpdhceiodgnbmaaGreatDoor
section
open Go.RowKit Go.Shelf
@[irreducible] def aG:Array Value:=(cB (tab 32 λ_=>0)).toArray
theorem Qe(w:World):(zeroValue 47).run Tryz.prog w=.ok (.agg aG) w:=kX
theorem Z3:aG.size=32:=kX
theorem ZH:aG≠#[]:=λe=>by have:=Z3;rw[e] at this;cases this
theorem WQ:aG.all (·.oneCell')=true:=kX
theorem Km:aG=(cB (tab 32 λ_=>0)).toArray:=by unfold aG;rfl
section
variable {w:World} {ops:Array Oper} {rest:List Oper} {o:Oper} {a:Act} {Q:Exit->Act->World->Prop}
theorem Xg(hgd:o.guard=none)(s x:Operand)(ho:o.op=.call { callee:=.builtin .append,args:=#[s,x],argTypes:=#[24,24] })
  (base:Nat) (v:Value) (bs:List UInt8) (hs:a.eval s=v) (hown:Hid (aN base w v bs))
  (u:UInt8) (z:Int) (hz:z=(u.toNat:Int)) (hx:a.eval x=.slice (some ⟨w.heap.size,0,none⟩) 1 1) (hl:bs.length<=1000000) (hbase:base<=w.heap.size)
  (h:∀ v' w',Hid (aN base w' v' (bs++[u]))->Hid (Below base w w')->wpList Tryz.prog ops Q rest (a.put o.dst v') w') :
  wpList Tryz.prog ops Q (o::rest) a (w.alloc (.cells #[.int .u8 z] 5)):=by
 subst hz;exact HZ hgd s x ho base v bs hs hown u hx hl hbase h
end
def YK(m:List UInt8)(k:Nat):List UInt8:=m.drop (64*(m.length / 64))++[128]++List.replicate k 0
theorem VF(m:List UInt8)(k:Nat):(YK m k).length=m.length % 64+1+k:=by simp[YK];omega
theorem Px(m:List UInt8)(k:Nat):YK m (k+1)=YK m k++[0]:=by simp[YK,List.replicate_succ']
def U5(n j:Nat):UInt8:=UInt8.ofNat (8*n / 2 ^ (8*(7-j)))
def Y7(m:List UInt8)(j:Nat):List UInt8:=YK m (Qw m.length)++(List.range j).map (U5 m.length)
theorem Wp(m:List UInt8)(j:Nat):Y7 m (j+1)=Y7 m j++[U5 m.length j]:=by simp[Y7,List.range_succ]
theorem Ts(m:List UInt8)(j:Nat):(Y7 m j).length=m.length % 64+1+Qw m.length+j:=by simp[Y7,VF]
theorem Ri(m:List UInt8):Y7 m 8=(XK m).drop (64*(m.length / 64)):=by
 unfold Y7 YK XK be8 U5;rw[List.append_assoc,List.append_assoc,List.append_assoc,List.append_assoc,List.drop_append_of_le_length aB]
theorem Pc(n j:Nat):(n:Int)*8 / 2 ^ (56-8*j) % 256=((U5 n j).toNat:Int):=by
 unfold U5;rw[UInt8.toNat_ofNat',Nat.mul_comm 8 n,show 8*(7-j)=56-8*j from by omega];rw[show ((n:Int)*8)=((n*8:Nat):Int) from by omega,show (2:Int) ^ (56-8*j)=((2 ^ (56-8*j):Nat):Int) from by simp,<-Int.natCast_ediv];omega
def KC:Value->Nat
 | .slice _ n _=>n
 | _=>0
theorem EG(m:List UInt8)(q:Nat)(h:(Y7 m 8).length=64*q):sha m=Qx (ZP (ZP ZB m (m.length / 64)) (Y7 m 8) q):=by
 have h2:=Ri m;have h3:(XK m).length=64*(m.length / 64)+64*q:=by
  have h4:(XK m).length-64*(m.length / 64)=64*q:=by rw[<-List.length_drop,<-h2,h]
  have h5:m.length<=(XK m).length:=by simp[XK]
  omega
 have h6:ZP ZB (XK m) (m.length / 64)=ZP ZB m (m.length / 64):=by
  have:=V0 ZB m ([128]++List.replicate (Qw m.length) 0++be8 (8*m.length)) (m.length / 64) aB;rw[<-this];simp[XK,List.append_assoc]
 unfold sha;rw[show (XK m).length / 64=m.length / 64+q from by omega,M4,h6,<-h2]
theorem JO(s:S8)(i k:Nat)(hi:i<8)(hk:k<4):((cf (Qx s) (4*i+k)).toNat:Int)=wn (sAt s i) / 2 ^ (24-8*k) % 256:=by
 have h:cf (Qx s) (4*i+k)=UInt8.ofNat ((sAt s i).toNat / 2 ^ (24-8*k)):=by
  have hi':i=0\/i=1\/i=2\/i=3\/i=4\/i=5\/i=6\/i=7:=aB;have hk':k=0\/k=1\/k=2\/k=3:=aB;rcases hi' with rfl|rfl|rfl|rfl|rfl|rfl|rfl|rfl<;>rcases hk' with rfl|rfl|rfl|rfl<;>simp[Qx,Jh,cf,sAt]
 rw[h,UInt8.toNat_ofNat'];unfold wn;rw[show (2:Int) ^ (24-8*k)=((2 ^ (24-8*k):Nat):Int) from by simp,<-Int.natCast_ediv];omega
def QF(s:S8)(n i:Nat):UInt8:=if i<n then cf (Qx s) i else 0
theorem GY(s:S8):tab 32 (QF s 0)=tab 32 λ_=>0:=Ki λi _=>by unfold QF;rw[if_neg (Nat.not_lt_zero i)]
theorem MB(s:S8)(n:Nat):(tab 32 (QF s n)).set n (cf (Qx s) n)=tab 32 (QF s (n+1)):=by
 rw[Ef];refine Ki λi _=>?_;unfold QF;by_cases h:i=n
 ·subst h;rw[if_pos rfl,if_pos (Nat.lt_succ_self i)]
 ·rw[if_neg h];by_cases h2:i<n
  ·rw[if_pos h2,if_pos aB]
  ·rw[if_neg h2,if_neg aB]
theorem Mx(s:S8):tab 32 (QF s 32)=Qx s:=by
 have h:tab 32 (QF s 32)=tab (Qx s).length (cf (Qx s)):=Ki λi hi=>by unfold QF;rw[if_pos hi]
 rw[h,ER]
theorem RS(l:List UInt8)(j:Nat)(x:UInt8):(cB l).toArray.setIfInBounds j (.int .u8 (x.toNat:Int))=(cB (l.set j x)).toArray:=by
 simp[cB,List.map_set]
theorem P8(l:List UInt8){j:Nat}(h:j<l.length):(cB l).toArray[j]? = some (.int .u8 ((cf l j).toNat:Int)):=by
 simp[cB,cf,h]
theorem FN(s:S8)(t:Nat)(h:t<8)(w:World):(Instr.index 273 (.agg (c8 s)) (.int .i64 (t:Int))).run Tryz.prog w=.ok (.int .u32 (wn (sAt s t))) w:=by
 have hs:(sizeOf 239).run Tryz.prog w=.ok 1 w:=kX;have hp:(part 239 (c8 s) t).run Tryz.prog w=.ok (.int .u32 (wn (sAt s t))) w:=by
  simp[part,isAgg,run_underlying Tryz.underlying239];have:=GK s h;simp[this]
 have ht:(t:Int)<8:=aB;simp[Instr.index,asIntOf,run_underlying Tryz.underlying273,hs,hp,h]
structure gq (w:World) (f:Nat->UInt8) (W:World):Prop where
 row:W.heap[w.heap.size]? = some (.cells (cB (tab 32 f)).toArray 47 (0,0))
 bel:Below w.heap.size w W
theorem gq.cell{w:World}{f:Nat->UInt8}{W:World}(h:gq w f W){j:Nat}(hj:j<32):W.cell? ⟨w.heap.size,j,none⟩=some (.int .u8 ((f j).toNat:Int)):=by
 rw[Za h.row,P8 _ (by rw[QX];exact hj),Vm,if_pos hj]
theorem gq.free{w:World}{f:Nat->UInt8}{W:World}(h:gq w f W)(j:Nat):W.frozen? ⟨w.heap.size,j,none⟩=false:=Zg h.row _
theorem gq.set{w:World}{s:S8}{n:Nat}{W:World}(h:gq w (QF s n) W):gq w (QF s (n+1)) (W.setCell ⟨w.heap.size,n,none⟩ (.int .u8 ((cf (Qx s) n).toNat:Int))):=by
 have hu:=(ag.refl h.row).setCell (j:=n) (.int .u8 ((cf (Qx s) n).toNat:Int));have hu2:=hu.to (show _=Obj.cells (cB (tab 32 (QF s (n+1)))).toArray 47 (0,0) from by rw[RS,MB]);exact⟨hu2.here,h.bel.trans (hu2.below nZ)⟩
structure lY (w:World) (p Bs Ns:Nat) (v:Value) (T:List UInt8) (S:S8) (W:World):Prop where
 row:W.heap[p]? = some (.cells (c8 S) 273 (0,0))
 bB:Boxed W Bs 24 v
 bN:Boxed W Ns 3 (.int .i64 64)
 own:aN (w.heap.size+1) W v T
 res:W.heap[w.heap.size]? = some (.cells aG 47 (0,0))
 bel:Below w.heap.size w W
 ne:p≠Bs/\p≠Ns/\w.heap.size<p
theorem Qf{W W':World}{row:Option Nat}{b:Nat}{o:Obj}(h:W.heap[b]? = some o)(ho:o.isCells=true)(hg:W.grownBy W' row)(hr:∀ r,row=some r->∃ o:Obj,W.heap[r]? = some o/\o.isCells=false):W'.heap[b]? = some o:=
 (hg.block b (Zb h) (λe=>by obtain⟨o',h',h2⟩:=hr b e.symm;rw[h] at h';cases h';rw[ho] at h2;cases h2)).trans h
theorem aN.keptIn{base:Nat}{W W':World}{row:Option Nat}{v:Value}{bs:List UInt8}(h:aN base W v bs)(hg:W.grownBy W' row)(hr:∀ r,row=some r->∃ o:Obj,W.heap[r]? = some o/\o.isCells=false):aN base W' v bs:=by
 refine⟨h.1,?_⟩;rcases h.2 with h2|⟨g,cap,cur,e1,e2,e3,e4⟩
 ·exact .inl h2
 ·exact .inr ⟨g,cap,cur,e1,e2,Qf e3 rfl hg hr,e4⟩
theorem lY.kept{w:World}{p Bs Ns:Nat}{v:Value}{T:List UInt8}{S:S8}{W W':World}{row:Option Nat}{B:Nat}(h:lY w p Bs Ns v T S W)(hB:w.heap.size<=B)(hg:W.grownBy W' row)(hr:∀ r,row=some r->B<=r/\∃ o:Obj,W.heap[r]? = some o/\o.isCells=false):lY w p Bs Ns v T S W':=
 have hr2:=λr e=>(hr r e).2
 ⟨Qf h.row rfl hg hr2,Qf h.bB rfl hg hr2,Qf h.bN rfl hg hr2,h.own.keptIn hg hr2,Qf h.res rfl hg hr2,h.bel.grown hg h.bel.size (λk e=>Nat.le_trans hB (hr k e).1),h.ne⟩
theorem Wt{w:World}{a:Option Addr}{c c':Nat}{bs:List UInt8}(h:aJ w a c bs)(h1:bs.length<=c')(h2:c'<=maxLen)(h3:a=none->c'=0):aJ w a c' bs:=⟨h1,h2,h3,h.row⟩
theorem Ls{base g c:Nat}{W:World}{T:List UInt8}(h:aN base W (.slice (some ⟨g,0,none⟩) T.length c) T)(x:Nat)(hx:64*x+64<=T.length):aJ W (some ⟨g,64*x,none⟩) 64 ((T.drop (64*x)).take 64):=by
 obtain⟨a',c',hv,hr,_⟩:=h.arg;cases hv;have h1:=GO hr (64*x) aB;rw[Nat.zero_add] at h1;have h2:=GR h1 64 jH;exact Wt h2 (by rw[List.length_take,List.length_drop];omega) kS (λe=>by cases e)
section
attribute [local go_sem] Oper.semAt_some
variable {F:Fence} {n:Nat} {P:Program} {ops:Array Oper} {rest:List Oper} {o:Oper} {a:Act} {w:World} {Q:Exit->Act->World->Prop}
theorem Ke(hgd:o.guard=none)(ty:TypeId)(x y:Operand)(ho:o.op=.store ty x y)(g:Nat)(c c':Array Value)
  (hx:a.eval x=.pointer (some ⟨g,0,none⟩)) (hy:a.eval y=.agg c') (hg:Hid (w.heap[g]? = some (.cells c ty (0,0)))) (hi:(P.info? ty).map (·.size)=some c'.size) (hs:c.size=c'.size) (h1:c'.all (·.oneCell')=true)
  (h:∀ w',Hid (ag g (.cells c' ty (0,0)) w w')->wpListIn F n P ops Q rest (a.put o.dst undef) w'):wpListIn F n P ops Q (o::rest) a w:=by
 refine wpListIn_plain hgd λK hK=>?_;have h2:=hK _ _ (h _ (Hd (ag.setRow (cs:=c') hg.out)));refine⟨λf hf=>(by simp[Oper.about,ho] at hf),?_⟩;rw[Oper.semAt_eq _ _ _ (by rw[ho];simp)];unfold execOp;simp only[ho,hx,hy,Instr.storeAt,Instr.sureAddr,Sem.run_bind,Sem.run_pure,Result.andThen_ok,run_storeVar_row w g ty ty c c' hg.out hi hs h1];exact h2
theorem KI(hgd:o.guard=none)(ty:TypeId)(x:Operand)(ho:o.op=.load ty x)(g:Nat)(c:Array Value)(d:TypeDesc)
  (hx:a.eval x=.pointer (some ⟨g,0,none⟩)) (hg:Hid (w.heap[g]? = some (.cells c ty (0,0)))) (hu:P.underlying ty=some d) (hd:(match d with | .struct _ | .array _ _=>true|_=>false)=true) (hi:(P.info? ty).map (·.size)=some c.size)
  (h:wpListIn F n P ops Q rest (a.put o.dst (.agg c)) w):wpListIn F n P ops Q (o::rest) a w:=by
 refine wpListIn_plain hgd λK hK=>?_;have h2:=hK _ _ h;refine⟨λf hf=>(by simp[Oper.about,ho] at hf),?_⟩;rw[Oper.semAt_eq _ _ _ (by rw[ho];simp)];unfold execOp;simp only[ho,hx,Instr.loadAt,Instr.sureAddr,Sem.run_bind,Sem.run_pure,Result.andThen_ok,run_loadVar_row w g ty ty c (0,0) d hg.out hu hd hi];exact h2
end
structure lG (w:World) (v:Value) (bs:List UInt8) (W:World):Prop where
 own:aN (w.heap.size+1) W v bs
 res:W.heap[w.heap.size]? = some (.cells aG 47 (0,0))
 bel:Below w.heap.size w W
 siz:w.heap.size+1<=W.heap.size
theorem lG.next{w:World}{v v':Value}{bs bs':List UInt8}{W W':World}(h:lG w v bs W)(ho:aN (w.heap.size+1) W' v' bs')(hb:Below (w.heap.size+1) W W'):lG w v' bs' W':=
 ⟨ho,(hb.block _ (Nat.lt_succ_self _)).trans h.res,h.bel.trans (hb.mono (Nat.le_succ _)),Nat.le_trans h.siz hb.size⟩
attribute [local go_sem] Oper.semAt_some in
theorem Ei(w0:World)(b:Nat)(m:List UInt8)(w:World)(hH:UZ w0 b m w)(hK:bP w0)(hm:m.length<=200000) :
  Calls Tryz.prog 139 #[.pointer (some ⟨b,0,none⟩)] w λe w'=>e=.returned (.agg (cB (sha m)).toArray)/\Below w.heap.size w w':=by
 obtain⟨a1,n1,c1,hA,hO,hbb⟩:=hH;have zr:=Qe;have zn:=ZH;have ql:=VF m 0;have e8:w.cell? ⟨b,8,none⟩=some (.slice a1 n1 c1):=hA.restAt;obtain⟨a1',c1',hv,hR,_⟩:=hO.arg;rw[List.length_drop] at hv;cases hv;obtain⟨A1,hA1⟩:∃ A,A=w.alloc (.cells aG 47):=⟨_,rfl⟩;have hb1:Below w.heap.size w A1:=by rw[hA1];exact(Below.refl w.heap.size w).alloc nZ _
 have hs1:A1.heap.size=w.heap.size+1:=by rw[hA1];simp
 have hz1:A1.heap[w.heap.size]? = some (.cells aG 47 (0,0)):=by rw[hA1];exact heap_alloc_new w _
 have e81:A1.cell? ⟨b,8,none⟩=some (.slice a1 (m.length-64*(m.length / 64)) c1):=(hb1.cell (Zb hA.blk)).trans e8;have hcl:=XY a1 c1 (m.drop (64*(m.length / 64))) A1 (hR.below hb1) jH;rw[List.length_drop] at hcl;replace hcl:=Hd hcl;rw[hA1] at e81;replace hA1:=Hd hA1;have hlr:=Hd (show (m.drop (64*(m.length / 64))).length<=64 from by rw[List.length_drop];omega);replace hb1:=Hd hb1;replace hs1:=Hd hs1;replace hz1:=Hd hz1;have hBel:=Hd hA.bel;replace hA:=Hd hA;replace hK:=Hd hK;replace hO:=Hd hO;replace ql:=Hd ql;clear e8 hR;generalize m.length-64*(m.length / 64)=n1 at*;have zr8:=M0;have zn8:=Gq;refine(callsIn_wide (n:=5)).1 ?_;refine callsIn_of_wp_marks Tryz.func139 rfl trivial ?_ rfl;refine wpIn_wide.2 ?_;simp only[Tryz.ntmps139,List.size_toArray,List.length_cons,List.length_nil,Nat.reduceAdd,Nat.reduceSub,Array.replicate_succ,Array.replicate_zero,List.push_toArray,List.append_toArray,List.nil_append,List.cons_append];go_wp2_with fail;rw[<-hA1.out];with_reducible refine hcl.out.mono ?_
 rintro e w1 ⟨v,rfl,ho,hd⟩;rw[hs1.out] at ho hd;have hsz:=hd.size;replace ho:=Hd ho;have ol:(m.drop (64*(m.length / 64))).length<=1000000:=by have:=hlr.out;omega
 have hsz1:w.heap.size+1<=w1.heap.size:=by rw[<-hs1.out];exact hsz
 clear hsz;go_wp2_with (at_builtin;go_must (refine Xg rfl (.tmp 15) (.tmp 16) rfl (w.heap.size+1) v _ rfl ho 128 128 rfl rfl ol hsz1 ?_));intro v2 w2 ho2 hd2;have hS:=Hd (show lG w v2 (YK m 0) w2 from⟨by simpa[YK] using ho2.out,(hd2.out.block _ (Nat.lt_succ_self _)).trans ((hd.block _ (Nat.lt_succ_self _)).trans hz1.out),hb1.out.trans ((hd.mono (Nat.le_succ _)).trans (hd2.out.mono (Nat.le_succ _))),Nat.le_trans hsz1 hd2.out.size⟩);clear ho2 hd2 ho hcl hd hz1 e81 hsz1 ol;go_wp2_with fail;go_loopw [3] (λv wr=>∃ k:Nat,k<=Qw m.length/\lG w v (YK m k) wr)
  (λv _=>Qw m.length+65-KC v)
 case atStart=>exact⟨0,Nat.zero_le _,hS.out⟩
 case round=>
  clear hS;obtain⟨k,hk,hS⟩:=hrel;obtain⟨a3,c3,rfl,_,_⟩:=hS.own.arg;have hpl:=VF m k;have hps:=Hd (Px m k);have hown:=Hd hS.own;have jv:=hS.siz;replace hS:=Hd hS;by_cases hlt:k<Qw m.length
  ·have hne:¬(((YK m k).length:Int) % 64=56):=by unfold Qw at hlt;omega
   have hll:(YK m k).length<=1000000:=by unfold Qw at hlt;omega
   replace hpl:=Hd hpl;generalize hT:YK m k=T at*;go_wp2_with (at_builtin;go_must (refine Xg rfl (.tmp 22) (.tmp 23) rfl (w.heap.size+1) _ T rfl hown 0 0 rfl rfl hll jv ?_));intro v5 w5 dW hd5;have hS5:=Hd (hS.out.next (by rw[<-hps.out] at dW;exact dW.out) hd5.out);obtain⟨a5,c5,hv5,_,_⟩:=dW.out.arg;rw[hv5] at hS5 ⊢;clear dW hd5;go_wp2_with fail;go_roundw
   case rel=>exact⟨k+1,aB,hS5.out⟩
   case measure=>have:=hpl.out;simp[KC];omega
  ·obtain rfl:k=Qw m.length:=aB;have hne:((YK m (Qw m.length)).length:Int) % 64=56:=by unfold Qw at hpl ⊢;omega
   have jL:=Hd hpl;clear hpl;generalize hT:YK m (Qw m.length)=T at*;go_wp2_with fail;go_loopw [3,4] (λv j wr=>∃ k:Nat,k<=8/\j=.int .i64 (56-8*(k:Int))/\lG w v (Y7 m k) wr)
    (λ_ j _=>(intOf j+8).toNat)
   case atStart=>exact⟨0,Nat.zero_le _,rfl,by unfold Y7;rw[hT];simpa using hS.out⟩
   case round=>
    clear hS hown jv hne jL;obtain⟨k,hk,rfl,hS⟩:=hrel;obtain⟨a3,c3,rfl,_,_⟩:=hS.own.arg;have hpl:=Ts m k;have hps:=Hd (Wp m k);have hown:=Hd hS.own;have jv:=hS.siz;have e9:=(hS.bel.cell (Zb hA.out.blk)).trans hA.out.countAt;replace hS:=Hd hS;by_cases hlt:k<8
    ·have hll:(Y7 m k).length<=1000000:=by unfold Qw at hpl;omega
     have hby:=Hd (Pc m.length k);clear hpl;generalize hT:Y7 m k=T2 at*;have hge:(0:Int)<=56-8*(k:Int):=aB;go_wp2_with (at_builtin;go_must (refine Xg rfl (.tmp 29) (.tmp 39) rfl (w.heap.size+1) _ T2 rfl hown (U5 m.length k) _ hby.out rfl hll jv ?_));intro v5 w5 dW hd5;have hS5:=Hd (hS.out.next (by rw[<-hps.out] at dW;exact dW.out) hd5.out);obtain⟨a5,c5,hv5,_,_⟩:=dW.out.arg;rw[hv5] at hS5 ⊢;clear dW hd5 e9;go_wp2_with fail;go_roundw
     case rel=>exact⟨k+1,aB,by go_num,hS5.out⟩
     case measure=>simp[intOf];omega
    ·obtain rfl:k=8:=aB;clear e9;have hform:=hS.out.own.form aB;have hlq:(Y7 m 8).length=64*((Y7 m 8).length / 64):=by unfold Qw at hpl;omega
     have sF:(Y7 m 8).length / 64<=10000:=by unfold Qw at hpl;omega
     clear hpl;replace hlq:=Hd hlq;replace hform:=Hd hform;replace sF:=Hd sF;have yK:=hA.out.grown (hS.out.bel);obtain⟨g0,g1,g2,g3,g4,g5,g6,g7⟩:=yK.words;have hlt56:(56:Int)-8*((8:Nat):Int)<0:=aB;generalize hT:Y7 m 8=T2 at*;generalize hSS:ZP ZB m (m.length / 64)=S at*;have hrw2:Hid ((wr.alloc (.cells dL 273)).heap[wr.heap.size]? = some (.cells dL 273 (0,0))):=Hd (heap_alloc_new wr _);have sW:(Tryz.prog.info? 273).map (·.size)=some (#[.int .u32 (wn S.a),.int .u32 (wn S.b),.int .u32 (wn S.c),.int .u32 (wn S.d),.int .u32 (wn S.e),.int .u32 (wn S.f),.int .u32 (wn S.g),.int .u32 (wn S.h)]:Array Value).size:=kX;have je:dL.size=(#[.int .u32 (wn S.a),.int .u32 (wn S.b),.int .u32 (wn S.c),.int .u32 (wn S.d),.int .u32 (wn S.e),.int .u32 (wn S.f),.int .u32 (wn S.g),.int .u32 (wn S.h)]:Array Value).size:=Jf;have hoE:(#[.int .u32 (wn S.a),.int .u32 (wn S.b),.int .u32 (wn S.c),.int .u32 (wn S.d),.int .u32 (wn S.e),.int .u32 (wn S.f),.int .u32 (wn S.g),.int .u32 (wn S.h)]:Array Value).all (·.oneCell')=true:=Ut S;go_wp2_with (with_reducible refine Zd rfl 273 (.tmp 5) (.tmp 44) rfl wr.heap.size dL #[.int .u32 (wn S.a),.int .u32 (wn S.b),.int .u32 (wn S.c),.int .u32 (wn S.d),.int .u32 (wn S.e),.int .u32 (wn S.f),.int .u32 (wn S.g),.int .u32 (wn S.h)] rfl rfl hrw2 sW je hoE ?_);intro w7 aZ;have gu:w7.heap[wr.heap.size]? = some (.cells (c8 S) 273 (0,0)):=aZ.out.here;have bV:Below wr.heap.size wr w7:=((Below.refl wr.heap.size wr).alloc nZ _).trans (aZ.out.below nZ)
     have su:aN (w.heap.size+1) w7 (.slice a3 T2.length c3) T2:=hown.out.below bV nZ;have sw:=(bV.block _ (Zb hS.out.res)).trans hS.out.res;have tC:=hS.out.bel.trans (bV.mono hS.out.bel.size);have hp7:=aZ.out.size;clear hrw2 sW je hoE g0 g1 g2 g3 g4 g5 g6 g7 yK aZ;obtain⟨g,c,hv,hg⟩:=hform.out;replace hlq:=hlq.out;replace sF:=sF.out;cases hv;obtain⟨q,wN⟩:=aA (T2.length / 64);rw[<-wN] at hlq sF;rw[hlq] at su ⊢;have hqc:64*q<=c3:=by
      obtain⟨a',c',hv,hr,_⟩:=hown.out.arg;cases hv;have:=hr.len;omega
     have om:=Hd (λW=>callsIn_wide.1 (Cj Fence.wide 1 trivial rfl (some ⟨g,0,none⟩) (64*q) c3 W));obtain⟨p,hp⟩:=aA wr.heap.size;have tH:w7.heap.size=p+1:=by rw[hp7,hp];simp
     have hpw:w.heap.size<p:=by rw[hp];exact hS.out.siz
     rw[<-hp] at gu ⊢;have tJ:lY w p (p+1) (p+2) (.slice (some ⟨g,0,none⟩) (64*q) c3) T2 S ((w7.alloc (.cells #[.slice (some ⟨g,0,none⟩) (64*q) c3] 24)).alloc (.cells #[.int .i64 64] 3)):=by
      have bi:Below w7.heap.size w7 ((w7.alloc (.cells #[.slice (some ⟨g,0,none⟩) (64*q) c3] 24)).alloc (.cells #[.int .i64 64] 3)):=((Below.refl _ w7).alloc nZ _).alloc sX _;have mO:=Boxed.new w7 24 (.slice (some ⟨g,0,none⟩) (64*q) c3);have hNs:=Boxed.new (w7.alloc (.cells #[.slice (some ⟨g,0,none⟩) (64*q) c3] 24)) 3 (.int .i64 64);rw[World.size_alloc,tH] at hNs;rw[tH] at mO;exact⟨(bi.block p aB).trans gu,mO.alloc _,hNs,su.below bi nZ,(bi.block _ (Zb sw)).trans sw,tC.trans (bi.mono tC.size),aB,aB,hpw⟩
     clear hS hown jv hg gu bV su sw tC hp7 hA hbb hb1 hO hlr hs1 ql;replace tJ:=Hd tJ;have hTq:=Hd hlq;replace sF:=Hd sF;replace wN:=Hd wN;clear hlq;replace tH:=Hd tH;clear hp;go_wp2_with fail;with_reducible refine(om.out w7).mono ?_
     rintro e w8 ⟨rfl,rfl⟩;rw[tH.out];have hTl:T2.length=64*q:=hTq.out;generalize ((w7.alloc (.cells #[.slice (some ⟨g,0,none⟩) (64*q) c3] 24)).alloc (.cells #[.int .i64 64] 3))=W0 at*;go_wp2_with fail;refine(wpIn_wide (n:=3)).1 ?_;apply wpIn_rangeFunc_ownG (n:=3) (w:=W0) rfl dX (gf:=178) (lb:=#[.pointer (some ⟨p+1,0,none⟩),.pointer (some ⟨p+2,0,none⟩)]) rfl trivial (enters_of Tryz.func178 kX rfl)
      (TT Fence.wide (3-1) trivial rfl dX (p+1) (p+2) w.heap.size g 0 c3 q hqc sF.out W0 tJ.out.bB tJ.out.bN) Xf (Pa tJ.out.bel.size (tJ.out.bB.lt) (tJ.out.bN.lt)) bR (λ_=>rfl)
      (λpre W=>lY w p (p+1) (p+2) (.slice (some ⟨g,0,none⟩) (64*q) c3) T2 (J5 S T2 (pre.map Fin.val)) W)
      (λ_ _ _=>False)
      (λs A B row hs hg hr=>lY.kept hs tJ.out.bel.size hg hr)
      (λ_ _ _ _ _ hs _ _=>hs)
      tJ.out
     case hassign=>
      intro l x W K hK;gi_wp2;exact hK
     case hbody=>
      rintro l pre ⟨x,hx⟩ W hI hl;have zT:=Hd (λW h1 h2=>GT (J5 S T2 (pre.map Fin.val)) (some ⟨g,64*x,none⟩) 64 ((T2.drop (64*x)).take 64) W h1 (by rw[List.length_take,List.length_drop];omega) h2);have hag:=Ls (by rw[hTl];exact hI.own) x aB;have hnx:=Hd (Nn S T2 (pre.map Fin.val) x);have hKW:bP W:=hK.out.below (hBel.out.trans (hI.bel.mono hBel.out.size));have hrow:=Hd hI.row;have hsz:=Vi (J5 S T2 (pre.map Fin.val));replace hI:=Hd hI;generalize J5 S T2 (pre.map Fin.val)=s1 at*;have hu0:Tryz.prog.underlying 273=some (.array 8 239):=Tryz.underlying273;have tK:∀ s,(Tryz.prog.info? 273).map (·.size)=some (c8 s).size:=λs=>by kernel_rfl
      have qj:=tK s1;have hszD:=tK (QH s1 ((T2.drop (64*x)).take 64));have hsCD:(c8 s1).size=(c8 (QH s1 ((T2.drop (64*x)).take 64))).size:=by rw[Vi,Vi]
      clear tK;have hone:=Ut (QH s1 ((T2.drop (64*x)).take 64));generalize QH s1 ((T2.drop (64*x)).take 64)=s2 at*;generalize hC1:c8 s1=C1 at*;generalize hC2:c8 s2=C2 at*;replace hC1:=Hd hC1;replace hC2:=Hd hC2;gi_wp2_with (with_reducible refine KI rfl 273 (.tmp 5) rfl p C1 (.array 8 239) rfl hrow hu0 rfl qj ?_);refine⟨trivial,(CallsIn.inRound l (callsIn_wide.2 (zT.out _ hag hKW))).mono ?_⟩;rintro e w2 ⟨rfl,hd⟩;have hrow2:Hid (w2.heap[p]? = some (.cells C1 273 (0,0))):=Hd ((hd.block p (Zb hrow.out)).trans hrow.out);replace hd:=Hd hd;gi_wp2_with (with_reducible refine Ke rfl 273 (.tmp 5) (.tmp 50) rfl p C1 C2 rfl rfl hrow2 hszD hsCD hone ?_);intro w3 hU;gi_wp2_with fail;have gQ:=hU.out;have hne:=hI.out.ne;have hbd:=hd.out;have hb3:Below w.heap.size W w3:=(hbd.mono hI.out.bel.size).trans (gQ.below aB);refine⟨⟨Nat.le_trans hbd.size (by rw[gQ.size];exact Nat.le_refl _),λk o _ hk ho=>?_⟩,⟨hb3,?_,?_⟩,?_⟩
      ·have hkp:k≠p:=by
        rintro rfl;rw[hrow.out] at hk;cases hk;cases ho
       rw[gQ.block k hkp,hbd.block k (Zb hk)];exact hk
      ·rw[gQ.block _ (λe=>hne.1 e.symm),hbd.block _ (Zb hI.out.bB)]
      ·rw[gQ.block _ (λe=>hne.2.1 e.symm),hbd.block _ (Zb hI.out.bN)]
      ·show lY w p (p+1) (p+2) _ T2 (J5 S T2 ((pre++[(⟨x,hx⟩:Fin q)]).map Fin.val)) w3;rw[List.map_append];show lY w p (p+1) (p+2) _ T2 (J5 S T2 (pre.map Fin.val++[x])) w3;rw[hnx.out];have hown2:=hI.out.own.below hbd nZ;refine⟨by rw[hC2.out];exact gQ.here,?_,?_,?_,?_,hI.out.bel.trans hb3,hne⟩
       ·exact(gQ.block _ (λe=>hne.1 e.symm)).trans ((hbd.block _ (Zb hI.out.bB)).trans hI.out.bB)
       ·exact(gQ.block _ (λe=>hne.2.1 e.symm)).trans ((hbd.block _ (Zb hI.out.bN)).trans hI.out.bN)
       ·refine hown2.upd gQ (λcur fz e=>?_);rw[hrow2.out] at e;have:273=5:=by injection e with e;injection e
        exact absurd this dX
       ·exact(gQ.block _ aB).trans ((hbd.block _ (Zb hI.out.res)).trans hI.out.res)
     case hstop=>
      rintro D c pre W _ _ h _;exact h.elim
     case hdone=>
      rintro D ys W hD hys hI hK;have hfin:lY w p (p+1) (p+2) (.slice (some ⟨g,0,none⟩) (64*q) c3) T2 (ZP S T2 q) W:=by rw[<-N5,<-hys];exact hI
      have tL:=hfin.row;have hu0:Tryz.prog.underlying 273=some (.array 8 239):=Tryz.underlying273;have qj:(Tryz.prog.info? 273).map (·.size)=some (c8 (ZP S T2 q)).size:=kX;have bi:Below W.heap.size W (W.alloc (.cells aG 47)):=(Below.refl _ W).alloc nZ _;have jo:gq W (QF (ZP S T2 q) 0) (W.alloc (.cells aG 47)):=⟨by rw[GY,<-Km];exact heap_alloc_new W _,bi⟩;have hidx:=λt h w=>FN (ZP S T2 q) t h w;have yL:Hid ((W.alloc (.cells aG 47)).heap[p]? = some (.cells (c8 (ZP S T2 q)) 273 (0,0))):=Hd ((bi.block p (Zb tL)).trans tL);generalize hF:ZP S T2 q=F8 at*;generalize hC:c8 F8=C at*;replace hF:=Hd hF;replace hC:=Hd hC;replace hidx:=Hd hidx;replace jo:=Hd jo;replace hfin:=Hd hfin;clear hI hys tL bi hTl;replace hD:=Hd hD;replace hK:=Hd hK;go_wp2_with (with_reducible refine Ze rfl 273 (.tmp 5) rfl p C (.array 8 239) rfl yL hu0 rfl qj ?_);go_loopw [8,9,10,52] (λ_ _ _ j wr=>∃ i:Nat,i<=8/\j=.int .i64 i/\gq W (QF F8 (4*i)) wr)
       (λ_ _ _ j _=>8-(intOf j).toNat)
      case atStart=>exact⟨0,Nat.zero_le _,rfl,jo.out⟩
      case round=>
       clear jo;obtain⟨i,hi,rfl,hO⟩:=hrel;replace hO:=Hd hO;by_cases hlt:i<8
       ·have hix:=hidx.out i hlt;have hi8:(i:Int)<8:=aB;go_wp2_with fail;go_loopw [10,56] (λ_ j wr=>∃ k:Nat,k<=4/\j=.int .i64 k/\gq W (QF F8 (4*i+k)) wr)
         (λ_ j _=>4-(intOf j).toNat)
        case atStart=>exact⟨0,Nat.zero_le _,rfl,hO.out⟩
        case round=>
         clear hO;obtain⟨k,hk,rfl,hO⟩:=hrel;by_cases hlk:k<4
         ·have hb:=Hd (JO F8 i k hlt hlk);have hc:=hO.cell (j:=4*i+k) aB;have hf:=hO.free (4*i+k);have hS2:=Hd hO.set;replace hO:=Hd hO;have hk4:(k:Int)<4:=aB;go_wp2_with fail;exact⟨⟨k+1,aB,by go_num,by rw[<-hb.out];exact hS2.out⟩,by simp[intOf];omega⟩
         ·obtain rfl:k=4:=aB;replace hO:=Hd hO;go_wp2_with fail;exact⟨⟨i+1,aB,by go_num,hO.out⟩,by simp[intOf];omega⟩
       ·obtain rfl:i=8:=aB;have hO2:=hO.out;rw[show 4*8=32 from rfl] at hO2;have hro:=Hd hO2.row;have hres:=Hd ((hO2.bel.block _ (Zb hfin.out.res)).trans hfin.out.res);have hbel:=Hd hO2.bel;have Ob:cB (tab 32 (QF F8 32))=cB (sha m):=by
         rw[Mx,EG m q (by rw[hT];exact hTq.out),hT,hSS,hF.out]
        rw[Ob] at hro;have hu1:Tryz.prog.underlying 47=some (.array 32 5):=Tryz.underlying47;have ko:(Tryz.prog.info? 47).map (·.size)=some (cB (sha m)).toArray.size:=by rw[List.size_toArray,Zc,Zy];kernel_rfl
        have Oc:aG.size=(cB (sha m)).toArray.size:=by rw[Z3,List.size_toArray,Zc,Zy]
        have hone:(cB (sha m)).toArray.all (·.oneCell')=true:=by
         rw[List.all_toArray,List.all_eq_true];exact Zw _
        generalize zW:(cB (sha m)).toArray=DD at*;clear hO hO2 Ob hidx yL;go_wp2_with (first|with_reducible refine Ze rfl 47 (.tmp 7) rfl W.heap.size DD (.array 32 5) rfl hro hu1 rfl ko ?_|with_reducible refine Zd rfl 47 (.tmp 2) (.tmp 72) rfl w.heap.size aG DD rfl rfl hres ko Oc hone ?_);intro w9 au;go_wp2_with fail;have hDp:w.heap.size<D:=by
         have h1:=tJ.out.ne.2.2;have h2:=Zb tJ.out.row;have h3:=hD.out;omega
        have hU:=au.out;have hK9:w9.heap[D]? = some (.deferred (some [])):=(hU.block D aB).trans ((hbel.out.block D (Zb hK.out)).trans hK.out);have jf:Below w.heap.size w w9:=hfin.out.bel.trans ((hbel.out.mono hfin.out.bel.size).trans (hU.below nZ));refine⟨sX,.inl ⟨_,_,rfl,run_takeDeferred hK9,?_⟩⟩;refine⟨.agg DD,?_,by rw[zW],jf.trans (belowK_b (w:=w) nZ w9 D _ _ aB hK9 rfl rfl)⟩;have hh:(w9.putObj D (.deferred none)).heap[w.heap.size]? = some (.cells DD 47 (0,0)):=(World.putObj_heap_other aB).trans hU.here;rw[Xb rfl];simp[asAddr,Result.andThen,run_loadVar_row _ w.heap.size _ _ DD (0,0) _ hh hu1 rfl ko]
open Go.RowKit
structure eQ (w:World) (a:Option Addr) (cap:Nat) (ps:List (List UInt8)):Prop where
 len:ps.length<=cap
 most:cap<=maxLen
 nil:a=none->cap=0
 row:∀ i,i<ps.length->∃ b off,a=some ⟨b,off,none⟩/\∃ ai ci,w.cell? ⟨b,off+i,none⟩=some (.slice ai (ps.getD i []).length ci)/\aJ w ai ci (ps.getD i [])
theorem eQ.below{w w':World}{a:Option Addr}{cap:Nat}{ps:List (List UInt8)}(h:eQ w a cap ps)(hb:Below w.heap.size w w'):eQ w' a cap ps:=
 ⟨h.len,h.most,h.nil,λi hi=>by
  obtain⟨b,off,e,ai,ci,hc,hr⟩:=h.row i hi;exact⟨b,off,e,ai,ci,(hb.cell (World.block_lt_of_cell? w _ hc)).trans hc,hr.below hb⟩⟩
theorem JU(ps:List (List UInt8))(i:Nat)(h:i<ps.length):(ps.take (i+1)).flatten=(ps.take i).flatten++ps.getD i []:=by
 rw[List.take_add_one,List.flatten_append];simp[List.getD_eq_getElem?_getD,h]
theorem Jd(ps:List (List UInt8))(i:Nat):(ps.take i).flatten.length<=ps.flatten.length:=by
 conv=>rhs;rw[<-List.take_append_drop i ps]
 rw[List.flatten_append,List.length_append];omega
theorem Eh(ps:List (List UInt8))(i:Nat):(ps.getD i []).length<=ps.flatten.length:=by
 by_cases h:i<ps.length
 ·have h1:=JU ps i h;have h2:=Jd ps (i+1);rw[h1,List.length_append] at h2;omega
 ·rw[List.getD_eq_getElem?_getD,List.getElem?_eq_none aB];exact Nat.zero_le _
theorem VQ(a:Option Addr)(ca:Nat)(ps:List (List UInt8))(w:World)(h:eQ w a ca ps)(hl:ps.flatten.length<=100000)(hn:ps.length<=100000)(hK:bP w)(hF:bZ w) :
  Calls Tryz.prog 117 #[.slice a ps.length ca] w λe w'=>e=.returned (.agg (cB (sha ps.flatten)).toArray)/\Below w.heap.size w w':=by
 have zr:=Qe;have zn:=ZH;obtain⟨A,hA⟩:∃ A,A=w.alloc (.cells aG 47):=⟨_,rfl⟩;have bi:Below w.heap.size w A:=by rw[hA];exact(Below.refl _ w).alloc nZ _
 have hsA:A.heap.size=w.heap.size+1:=by rw[hA];simp
 have gy:A.heap[w.heap.size]? = some (.cells aG 47 (0,0)):=by rw[hA];exact heap_alloc_new w _
 have hnew:=Hd (Ca A (hF.below bi));have hKA:=Hd (hK.below bi);have qF:=Hd (h.below bi);replace bi:=Hd bi;replace hsA:=Hd hsA;replace gy:=Hd gy;replace hA:=Hd hA;clear hF hK h;go_enter Tryz.func117,Tryz.ntmps117;go_wp2_with fail;rw[<-hA.out];with_reducible refine hnew.out.mono ?_
 rintro e w1 ⟨rfl,hH⟩;replace hH:=Hd hH;obtain⟨b,hb⟩:=aA A.heap.size;rw[<-hb] at hH ⊢;replace hb:=Hd hb;go_wp2_with fail;go_loopw [5,9] (λ_ j wr=>∃ i:Nat,i<=ps.length/\j=.int .i64 i/\UZ A b (ps.take i).flatten wr)
  (λ_ j _=>ps.length-(intOf j).toNat)
 case atStart=>exact⟨0,Nat.zero_le _,rfl,hH.out⟩
 case round=>
  clear hH;obtain⟨i,hi,rfl,hH⟩:=hrel;have hH0:=hH;obtain⟨_,_,_,Od,_,_⟩:=hH0;have hBel:=Od.bel;clear Od;replace hH:=Hd hH;by_cases hlt:i<ps.length
  ·obtain⟨pb,po,rfl,ai,ci,hc,hr⟩:=qF.out.row i hlt;replace hc:=(hBel.cell (World.block_lt_of_cell? A _ hc)).trans hc;have hput:=Hd (E8 A b (ps.take i).flatten ai ci (ps.getD i []) wr hH.out hr hKA.out (by have:=Jd ps i;omega) (by have:=Eh ps i;omega));have hnx:=Hd (JU ps i hlt);have hil:(i:Int)<ps.length:=aB;replace hr:=Hd hr;generalize ps.getD i []=pi at*;go_wp2_with fail;with_reducible refine hput.out.mono ?_
   rintro e w2 ⟨rfl,hH2⟩;replace hH2:=Hd hH2;go_wp2_with fail;go_roundw
   case rel=>exact⟨i+1,aB,by go_num,by rw[hnx.out];exact hH2.out⟩
   case measure=>simp[intOf];omega
  ·obtain rfl:i=ps.length:=aB;have hsum:=Hd (Ei A b (ps.take ps.length).flatten wr hH.out hKA.out (by have:=Jd ps ps.length;omega));rw[List.take_length] at hsum;have ko:(Tryz.prog.info? 47).map (·.size)=some (cB (sha ps.flatten)).toArray.size:=by rw[List.size_toArray,Zc,Zy];kernel_rfl
   have Oc:aG.size=(cB (sha ps.flatten)).toArray.size:=by rw[Z3,List.size_toArray,Zc,Zy]
   have hone:(cB (sha ps.flatten)).toArray.all (·.oneCell')=true:=by
    rw[List.all_toArray,List.all_eq_true];exact Zw _
   have hu1:Tryz.prog.underlying 47=some (.array 32 5):=Tryz.underlying47;generalize zW:(cB (sha ps.flatten)).toArray=DD at*;replace zW:=Hd zW;replace hBel:=Hd hBel;go_wp2_with fail;with_reducible refine hsum.out.mono ?_
   rintro e w3 ⟨rfl,hd⟩;have hb3:=Hd (hBel.out.trans (hd.mono hBel.out.size));have hres:=Hd ((hb3.out.block _ (by rw[hsA.out];omega)).trans gy.out);replace hd:=Hd hd;go_wp2_with (with_reducible refine Zd rfl 47 (.tmp 2) (.tmp 18) rfl w.heap.size aG DD rfl rfl hres ko Oc hone ?_);intro w9 au;go_wp2_with fail;refine Z2 rfl rfl hu1 rfl ko au.out.here ⟨by rw[zW.out],?_⟩;exact bi.out.trans ((hb3.out.mono bi.out.size).trans (au.out.below nZ))
end
open Go.RowKit
def jI(n:Nat):List UInt8:=[UInt8.ofNat (n / 256),UInt8.ofNat n]
def ZF(h r:List UInt8):List UInt8:=sha (h++(jI r.length++r))
theorem Y5(h r:List UInt8):(ZF h r).length=32:=Zy _
def Z0(h r:List UInt8):List UInt8:=jI r.length++(ZF h r++r)
theorem YN(h r:List UInt8):(Z0 h r).length=34+r.length:=by simp[Z0,jI,Y5];omega
def Qc(b:List UInt8):Nat:=(b.getD 0 0).toNat*256+(b.getD 1 0).toNat
def ZK(b h:List UInt8):Option (List UInt8):=
 if b.length<34 then none else if Qc b<1\/400<Qc b\/b.length<34+Qc b then none
 else if (b.drop 2).take 32=ZF h ((b.drop 34).take (Qc b)) then some ((b.drop 34).take (Qc b)) else none
theorem X7{b h r:List UInt8}(e:ZK b h=some r):1<=r.length/\r.length<=400/\34+r.length<=b.length/\r.length=Qc b/\r=(b.drop 34).take r.length/\(b.drop 2).take 32=ZF h r:=by
 unfold ZK at e;split at e
 ·cases e
 ·split at e
  ·cases e
  ·next h2=>
   split at e
   ·next h3=>
    injection e with e;have hl:r.length=Qc b:=by rw[<-e,List.length_take,List.length_drop];omega
    refine⟨aB,aB,aB,hl,?_,?_⟩
    ·rw[hl,e]
    ·rw[h3,e]
   ·cases e
def UC:Nat->List UInt8->List UInt8->List (List UInt8)
 | 0,_,_=>[]
 | k+1,b,h=>match ZK b h with
  | none=>[]
  | some r=>r::UC k (b.drop (34+r.length)) (ZF h r)
def QA(b h:List UInt8):List (List UInt8):=UC (b.length+1) b h
theorem Ph(k:Nat):∀ (j:Nat) (b h:List UInt8),b.length<k->b.length<j->UC k b h=UC j b h:=by
 induction k with
 | zero=>intro j b h h1;omega
 | succ k ih=>
  intro j b h h1 h2;cases j with
  | zero=>omega
  | succ j=>
   simp only[UC];cases e:ZK b h with
   | none=>rfl
   | some r=>
    have:=X7 e;simp only;rw[ih j (b.drop (34+r.length)) (ZF h r) jH jH]
theorem JZ{b h:List UInt8}(e:ZK b h=none):QA b h=[]:=by simp[QA,UC,e]
theorem Vc{b h r:List UInt8}(e:ZK b h=some r):QA b h=r::QA (b.drop (34+r.length)) (ZF h r):=by
 have:=X7 e;rw[QA,UC,e];simp only;rw[QA,Ph _ (((b.drop (34+r.length)).length)+1) _ _ jH aB]
def Zi(h:List UInt8)(l:List (List UInt8)):List UInt8:=l.foldl ZF h
theorem Xw(h:List UInt8)(l:List (List UInt8))(r:List UInt8):Zi h (l++[r])=ZF (Zi h l) r:=by simp[Zi]
theorem QE{h:List UInt8}(hl:h.length=32)(l:List (List UInt8)):(Zi h l).length=32:=by
 have:∀ (l:List (List UInt8)) (h:List UInt8),h.length=32->(Zi h l).length=32:=by
  intro l;induction l with
  | nil=>intro h hl;exact hl
  | cons r l ih=>intro h _;exact ih (ZF h r) (Y5 h r)
 exact this l h hl
def Y4:List UInt8->List (List UInt8)->List (List UInt8)
 | _,[]=>[]
 | h,r::l=>ZF h r::Y4 (ZF h r) l
theorem Ge(l:List (List UInt8)):∀ (h r:List UInt8),Y4 h (l++[r])=Y4 h l++[ZF (Zi h l) r]:=by
 induction l with
 | nil=>intro h r;rfl
 | cons q l ih=>intro h r;simp only[List.cons_append,Y4,ih];rfl
theorem Xc(l:List (List UInt8)):∀ h,(Y4 h l).length=l.length:=by
 induction l with
 | nil=>intro h;rfl
 | cons q l ih=>intro h;simp[Y4,ih]
theorem TD(l:List (List UInt8))(h:List UInt8)(hl:0<l.length):(Y4 h l).getD (l.length-1) []=Zi h l:=by
 obtain⟨m,r,rfl⟩:∃ m r,l=m++[r]:=by
  rcases List.eq_nil_or_concat l with e|⟨m,r,e⟩
  ·subst e;simp at hl
  ·exact⟨m,r,by rw[e,List.concat_eq_append]⟩
 rw[Ge,Xw];have:=Xc m h;simp[List.getD_eq_getElem?_getD,this]
def Yp:List UInt8->List (List UInt8)->List UInt8
 | _,[]=>[]
 | h,r::l=>Z0 h r++Yp (ZF h r) l
theorem MT(l:List (List UInt8)):∀ (h r:List UInt8),Yp h (l++[r])=Yp h l++Z0 (Zi h l) r:=by
 induction l with
 | nil=>intro h r;simp[Yp,Zi]
 | cons q l ih=>intro h r;simp only[List.cons_append,Yp,ih,List.append_assoc];rfl
def Zn(l:List (List UInt8)):Nat:=(l.map λr=>34+r.length).sum
theorem XV(l:List (List UInt8))(r:List UInt8):Zn (l++[r])=Zn l+(34+r.length):=by simp[Zn]
theorem Uq(l:List (List UInt8)):∀ h,(Yp h l).length=Zn l:=by
 induction l with
 | nil=>intro h;rfl
 | cons q l ih=>intro h;rw[Yp,List.length_append,ih,YN];simp[Zn]
def okR(r:List UInt8):Prop:=1<=r.length/\r.length<=400
theorem Ku{n:Nat}(h:n<=60000):(UInt8.ofNat (n / 256)).toNat=n / 256:=by rw[UInt8.toNat_ofNat'];omega
theorem UX(n:Nat):(UInt8.ofNat n).toNat=n % 256:=by rw[UInt8.toNat_ofNat']
theorem WV{r t:List UInt8}{h:List UInt8}(hr:r.length<=400):Qc (Z0 h r++t)=r.length:=by
 show (UInt8.ofNat (r.length / 256)).toNat*256+(UInt8.ofNat r.length).toNat=r.length;rw[Ku aB,UX];omega
theorem H8{h r t:List UInt8}(hr:okR r):ZK (Z0 h r++t) h=some r:=by
 have hn:=WV (t:=t) (h:=h) hr.2;have hl:=YN h r;have yM:(Z0 h r++t).drop 34=r++t:=by
  rw[Z0,show jI r.length++(ZF h r++r)++t=(jI r.length++ZF h r)++(r++t) by simp[List.append_assoc]];rw[List.drop_append_of_le_length (by simp[jI,Y5]),List.drop_of_length_le (by simp[jI,Y5])];rfl
 have h2:((Z0 h r++t).drop 2).take 32=ZF h r:=by
  show ((ZF h r++r)++t).take 32=_;rw[List.append_assoc,<-Y5 h r,List.take_left]
 have h1:=hr.1;have Oe:=hr.2;unfold ZK;rw[if_neg (by rw[List.length_append];omega),hn,if_neg (by rw[List.length_append];omega),yM,List.take_left,if_pos h2]
theorem We(h r t:List UInt8):(Z0 h r++t).drop (34+r.length)=t:=by rw[<-YN h r,List.drop_left]
theorem Tl(l:List (List UInt8)):∀ (h t:List UInt8),(∀ r∈l,okR r)->ZK t (Zi h l)=none->QA (Yp h l++t) h=l:=by
 induction l with
 | nil=>intro h t _ e;exact JZ e
 | cons r l ih=>
  intro h t hr e;rw[Yp,List.append_assoc,Vc (H8 (hr r (List.mem_cons_self ..))),We,ih _ _ (λq hq=>hr q (List.mem_cons_of_mem _ hq)) e]
theorem Ha{t h:List UInt8}(hz:∀ i,i<2->t.getD i 0=0):ZK t h=none:=by
 have hn:Qc t=0:=by unfold Qc;rw[hz 0 aB,hz 1 aB];rfl
 unfold ZK;split
 ·rfl
 ·rw[if_pos aB]
theorem Cf(k:Nat):∀ (b h:List UInt8),b.length<k->∀ r∈QA b h,okR r:=by
 induction k with
 | zero=>intro b h hk;omega
 | succ k ih=>
  intro b h hk r hr;cases e:ZK b h with
  | none=>rw[JZ e] at hr;cases hr
  | some q=>
   have hq:=X7 e;rw[Vc e] at hr;rcases List.mem_cons.1 hr with rfl|hr
   ·exact⟨hq.1,hq.2.1⟩
   ·exact ih _ _ jH r hr
theorem Ft{b:List UInt8}(h:2<=b.length):b.take 2=[b.getD 0 0,b.getD 1 0]:=by
 match b,h with
 | x::y::t,_=>rfl
theorem Lq(k:Nat):∀ (b h:List UInt8),b.length<k->Zn (QA b h)<=b.length/\b.take (Zn (QA b h))=Yp h (QA b h)/\ZK (b.drop (Zn (QA b h))) (Zi h (QA b h))=none:=by
 induction k with
 | zero=>intro b h hk;omega
 | succ k ih=>
  intro b h hk;cases e:ZK b h with
  | none=>rw[JZ e];exact⟨Nat.zero_le _,rfl,e⟩
  | some q=>
   obtain⟨q1,q2,q3,q4,q5,q6⟩:=X7 e;obtain⟨k1,k2,k3⟩:=ih (b.drop (34+q.length)) (ZF h q) jH;rw[Vc e];have hend:Zn (q::QA (b.drop (34+q.length)) (ZF h q))=34+q.length+Zn (QA (b.drop (34+q.length)) (ZF h q)):=by simp[Zn]
   rw[hend];rw[List.length_drop] at k1;refine⟨aB,?_,?_⟩
   ·rw[List.take_add,k2,Yp];congr 1;have hn:jI q.length=b.take 2:=by
     have hb:=Ft (show 2<=b.length by omega);have e0:UInt8.ofNat (q.length / 256)=b.getD 0 0:=by
      apply UInt8.toNat_inj.1;rw[Ku aB,q4];unfold Qc;have:=(b.getD 1 0).toNat_lt;omega
     have e1:UInt8.ofNat q.length=b.getD 1 0:=by
      apply UInt8.toNat_inj.1;rw[UX,q4];unfold Qc;have:=(b.getD 1 0).toNat_lt;omega
     rw[jI,e0,e1,hb]
    have hs:b.take (34+q.length)=b.take 2++((b.drop 2).take 32++(b.drop 34).take q.length):=by
     rw[show 34+q.length=2+(32+q.length) by omega,List.take_add,List.take_add,List.drop_drop]
    rw[hs,Z0,hn,q6,<-q5]
   ·rw[<-List.drop_drop];exact k3
theorem Ti{l:List UInt8}{i:Nat}(h:i<l.length):(cB l)[i]? = some (.int .u8 ((l.getD i 0).toNat:Int)):=by simp[cB,h]
theorem Yk{W:World}{g:Nat}{l:List UInt8}{t:TypeId}{c:Nat}(h:W.heap[g]? = some (.cells (cB l).toArray t (0,0)))(hl:l.length<=c)(hc:c<=1000000):aJ W (some ⟨g,0,none⟩) c l:=by
 refine⟨hl,by unfold maxLen;omega,(λe=>by cases e),λi hi=>⟨g,0,rfl,?_⟩⟩;rw[Nat.zero_add,Za h,List.getElem?_toArray,Ti hi]
theorem PE{w:World}{g:Nat}{o:Obj}(h:w.heap[g]? = some o):∀ W,Grown w W->W.heap[g]? = some o:=λ_ hW=>(hW.block g (Zb h)).trans h
theorem KX{w:World}{a a' a'':Option Addr}{c c' c'':Nat}{p q r:List UInt8}{g:Nat}(h:aJ w a c p)(h':aJ w a' c' q)(h'':aJ w a'' c'' r)(hg:w.heap[g]? = some (.cells #[.slice a p.length c,.slice a' q.length c',.slice a'' r.length c''] 24 (0,0))):eQ w (some ⟨g,0,none⟩) 3 [p,q,r]:=by
 refine⟨Nat.le_refl _,by unfold maxLen;omega,(λe=>by cases e),λi hi=>⟨g,0,rfl,?_⟩⟩;have hi2:i<3:=by simpa using hi
 match i,hi2 with
 | 0,_=>exact⟨a,c,by rw[Za hg];rfl,h⟩
 | 1,_=>exact⟨a',c',by rw[Za hg];rfl,h'⟩
 | 2,_=>exact⟨a'',c'',by rw[Za hg];rfl,h''⟩
theorem Qi{l:List UInt8}(h:l.length=32):(Tryz.prog.info? 47).map (·.size)=some (cB l).toArray.size:=by rw[List.size_toArray,Zc,h];kernel_rfl
theorem U3(l:List UInt8):(cB l).toArray.all (·.oneCell')=true:=by
 rw[List.all_toArray,List.all_eq_true];exact Zw _
theorem KT{l:List UInt8}(h:l.length=32):aG.size=(cB l).toArray.size:=by rw[Z3,List.size_toArray,Zc,h]
theorem Hk(n:Nat)(hn:n<=1000)(w:World):Calls Tryz.prog 158 #[.int .i64 (n:Int)] w λx w'=>x=.returned (.slice (some ⟨w.heap.size,0,none⟩) 2 2)/\aJ w' (some ⟨w.heap.size,0,none⟩) 2 (jI n)/\Below w.heap.size w w':=by
 have hl:aJ (w.alloc (.cells (cB (jI n)).toArray 5)) (some ⟨w.heap.size,0,none⟩) 2 (jI n):=Yk (heap_alloc_new w _) (by simp[jI]) dX;have hb:Below w.heap.size w (w.alloc (.cells (cB (jI n)).toArray 5)):=bR.alloc nZ _;have e0:(((UInt8.ofNat (n / 256)).toNat:Nat):Int)=(n:Int) / 256:=by rw[Ku aB];omega
 have e1:(((UInt8.ofNat n).toNat:Nat):Int)=(n:Int) % 256:=by rw[UX];omega
 have hcells:(cB (jI n)).toArray=#[.int .u8 ((n:Int) / 256),.int .u8 ((n:Int) % 256)]:=by
  rw[<-e0,<-e1];rfl
 rw[hcells] at hl hb;replace hl:=Hd hl;replace hb:=Hd hb;have h1:(n:Int) / 256 % 256=(n:Int) / 256:=aB;clear hcells e0 e1;go_enter Tryz.func158,Tryz.ntmps158;go_wp2_with fail;go_ret;exact⟨rfl,hl.out,hb.out⟩
theorem VK(n:Int)(w:World):Calls Tryz.prog 157 #[.int .i64 n] w λx w'=>x=.returned (.bool (decide (1<=n/\n<=400)))/\w=w':=by
 by_cases h1:1<=n
 ·by_cases h2:n<=400
  ·go_enter Tryz.func157,Tryz.ntmps157;go_wp2_with fail;go_ret;exact⟨by simp[h1,h2],rfl⟩
  ·have h3:decide (n<=400)=false:=by simpa using h2
   go_enter Tryz.func157,Tryz.ntmps157;go_wp2_with fail;go_ret;exact⟨by simp[h2],rfl⟩
 ·have h3:decide (1<=n)=false:=by simpa using h1
  go_enter Tryz.func157,Tryz.ntmps157;go_wp2_with fail;go_ret;exact⟨by simp[h1],rfl⟩
theorem VU(h r:List UInt8)(hh:h.length=32)(a:Option Addr)(c:Nat)(w:World)(ha:aJ w a c r)(hr:r.length<=1000)(hK:bP w)(hF:bZ w) :
  Calls Tryz.prog 128 #[.agg (cB h).toArray,.slice a r.length c] w λx w'=>x=.returned (.agg (cB (ZF h r)).toArray)/\Below w.heap.size w w':=by
 have zr:=Qe;have zn:=ZH;have hN:=Y5 h r;obtain⟨N,hNd⟩:∃ N,N=(cB (ZF h r)).toArray:=⟨_,rfl⟩;have tD:=Qi hN;have t32:=KT hN;have tO:=U3 (ZF h r);have hsh:=λ(W:World) (g:Nat) hA hB hC=>VQ (some ⟨g,0,none⟩) 3 [h,jI r.length,r] W hA (by simp[hh,jI];omega) sX hB hC;rw[show sha [h,jI r.length,r].flatten=ZF h r by simp[ZF],show [h,jI r.length,r].length=3 from rfl] at hsh;rw[<-hNd] at tD t32 tO hsh ⊢;obtain⟨H,hHd⟩:∃ H,H=(cB h).toArray:=⟨_,rfl⟩;rw[<-hHd];have hbx:=heap_alloc_new w (.cells (cB h).toArray 47 (0,0));rw[<-hHd] at hbx;obtain⟨A,hA⟩:∃ A,A=(w.alloc (.cells H 47)).alloc (.cells aG 47):=⟨_,rfl⟩;have hw0:Below w.heap.size w A:=by rw[hA];exact((Below.refl _ w).alloc nZ _).alloc sX _
 have hx:A.heap[w.heap.size]? = some (.cells (cB h).toArray 47 (0,0)):=by rw[hA,<-hHd];exact(Below.heap_alloc _ _ _ sX).trans hbx
 have hZ:A.drew.heap[w.heap.size+1]? = some (.cells aG 47 (0,0)):=by
  have:=heap_alloc_new (w.alloc (.cells H 47)) (.cells aG 47 (0,0));rw[World.size_alloc] at this;rw[hA];exact this
 have hd1:=hw0.drew;have hah:aJ A.drew (some ⟨w.heap.size,0,none⟩) 32 h:=Yk hx aB dX;have har:aJ A.drew a c r:=ha.below hd1;obtain⟨p,hp⟩:=aA (w.heap.size+1);rw[<-hp] at hZ;have hpl:w.heap.size<=p:=aB;have hlt:p<A.drew.heap.size:=Zb hZ;have hsz:=λW=>Hk r.length hr W;have hmk:=λW ax cx ay cy az cz g (h1:aJ W ax cx h) (h2:aJ W ay cy (jI r.length)) (h3:aJ W az cz r)=>KX (g:=g) h1 h2 h3;rw[hh,show (jI r.length).length=2 from rfl] at hmk;clear hbx hx;replace hNd:=Hd hNd;replace hHd:=Hd hHd;replace hsh:=Hd hsh;replace hmk:=Hd hmk;replace hsz:=Hd hsz;replace hZ:=Hd hZ;replace hp:=Hd hp;replace hd1:=Hd hd1;replace hA:=Hd hA;replace hK:=Hd hK;replace hF:=Hd hF;replace hah:=Hd hah;replace har:=Hd har;replace hh:=Hd hh;replace hN:=Hd hN;clear ha;go_enter Tryz.func128,Tryz.ntmps128;go_wp2_with fail;rw[<-hA.out,<-hp.out];refine wp_region_held_drew (S:=(Below w.heap.size w)) kX hd1.out (λaD=>?_);generalize World.drew A=wd at*;refine tk 0 aD ?_;refine tk 1 aD ?_;refine tk 2 aD ?_;refine tk 4 aD ?_;refine rd 3 (λKz aF=>?_);go_simp
 (with_reducible refine(hsz.out _).mono ?_)
 rintro e w3 ⟨rfl,hl3,hnew⟩;replace hZ:=Hd (PE hZ.out _ hnew);replace hah:=Hd (hah.out.below hnew);replace har:=Hd (har.out.below hnew);replace hl3:=Hd hl3;clear hsz;focus (go_wp2_with fail)
 refine aF.out _ _ (Below.trans aD (Below.mono hnew (Below.size aD))) ?_;clear aF Kz aD;intro aD;try clear hnew
 try simp only[Act.put,sL,sZ,sS]
 refine rd 5 (λKz aF=>?_);go_simp;focus (try go_wp2_with fail)
 (with_reducible refine Zp (t:=24) ?_)
 intro w5 hx5 hnew;have fA:=Hd (hmk.out _ _ _ _ _ _ _ _ (hah.out.below hnew) (hl3.out.below hnew) (har.out.below hnew) hx5.out);replace hZ:=Hd (PE hZ.out _ hnew);refine aF.out _ _ (Below.trans aD (Below.mono hnew (Below.size aD))) ?_;clear aF Kz aD;intro aD;try clear hnew
 try simp only[Act.put,sL,sZ,sS]
 refine rd 6 (λKz aF=>?_);go_simp
 (with_reducible refine(hsh.out _ _ fA.out (hK.out.below aD) (hF.out.below aD)).mono ?_)
 rintro e w8 ⟨rfl,hnew⟩;replace hZ:=Hd (PE hZ.out _ hnew);focus (go_wp2_with fail)
 refine aF.out _ _ (Below.trans aD (Below.mono hnew (Below.size aD))) ?_;clear aF Kz aD;intro aD;try clear hnew
 try simp only[Act.put,sL,sZ,sS]
 refine rd 7 (λKz aF=>?_);rw[if_pos bT]
 (with_reducible refine Zl 47 (.tmp 4) (.tmp 11) rfl p aG N rfl rfl hZ tD t32 tO ?_)
 intro w9 au;have hS:=aD.trans (au.out.below hpl);refine aF.out _ _ hS ?_;clear aF Kz aD hS;intro aD;try simp only[Act.put]
 refine bz ?_;have hu1:Tryz.prog.underlying 47=some (.array 32 5):=Tryz.underlying47;go_wp2_with fail;refine Z2 rfl rfl hu1 rfl tD au.out.here ⟨rfl,aD⟩
end Go.Proofs.YtpdhceiodgnbmaaGreatDoor
