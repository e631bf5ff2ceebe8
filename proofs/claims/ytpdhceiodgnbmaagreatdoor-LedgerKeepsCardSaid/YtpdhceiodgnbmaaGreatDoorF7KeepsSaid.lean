import Derived.Test.YtpdhceiodgnbmaaGreatDoorF6KeepsSaid
import Derived.Sort.QuietIn
set_option linter.all false
set_option maxRecDepth 100000
set_option maxHeartbeats 8000000
namespace Go.Proofs.YtpdhceiodgnbmaaGreatDoor
section
open Go.RowKit
theorem X4:(Tryz.prog.info? 47).map (λi=>(i.zero.map (·.cells.size),i.size,i.bytes))=some (some 32,32,32):=kX
def Ed(w:World)(ds:List (List UInt8))(e:Ending)(w':World):Prop:=∃ v,e=.returned v/\aH RD 47 32 w.heap.size w' (λ_=>False) v ds/\Below w.heap.size w w'
theorem KJ(a0:Option Addr)(c0:Nat)(bs:List (List UInt8))(w:World)(hA:eQ w a0 c0 bs)(hl:∀ b∈bs,b.length<=1000)(hn:bs.length<=1000)(hK:bP w)(hF:bZ w) :
  Calls Tryz.prog 75 #[.slice a0 bs.length c0] w (Ed w (bs.map Zr)):=by
 obtain⟨N,hN⟩:=aA bs.length;rw[<-hN] at hn ⊢;replace hA:=Hd hA;replace hN:=Hd hN;replace hl:=Hd hl;replace hK:=Hd hK;replace hF:=Hd hF;go_enter Tryz.func75,Tryz.ntmps75;go_wp2_with fail;refine ZG [(false,3),(true,1),(false,1),(true,1),(false,2),(true,10),(false,1)] _ [] (λU wr=>∃ k:Nat,k<=N/\U 8=.int .i64 (k:Nat)/\aH RD 47 32 w.heap.size wr (λ_=>False) (U 3) ((bs.take k).map Zr)/\Below w.heap.size w wr) (λU _=>N-(intOf (U 8)).toNat) ?_ ?_
 ·simp only[List.getD_cons_zero,List.getD_cons_succ];exact⟨0,Nat.zero_le _,rfl,aH.nil _ _,Below.refl _ _⟩
 ·intro U wr hrel KK hback l' hl';obtain⟨k,hk,kw,hr,hbw⟩:=hrel;simp only[ZQ,ZM,cond_true,cond_false,Nat.reduceAdd,kw] at hl';generalize hu3:U 3=v at*;subst hl';replace kw:=Hd kw;replace hu3:=Hd hu3;have gW:=hbw.size;by_cases hlt:k<N
  ·have hlt2:(k:Int)<(N:Int):=aB;have hkN:k<bs.length:=by rw[<-hN.out];exact hlt
   obtain⟨b1,o1,rfl,ai,ci,hce,vg⟩:=(hA.out.below hbw).row k hkN;have hgd:bs.getD k []=bs[k]:=by rw[List.getD_eq_getElem?_getD,List.getElem?_eq_getElem hkN];rfl
   rw[hgd] at vg hce;have hlb:=hl.out _ (List.getElem_mem hkN);have htk:bs.take (k+1)=bs.take k++[bs[k]]:=by rw[List.take_add_one,List.getElem?_eq_getElem hkN];rfl
   generalize bs[k]=B at*;have hlf:=G4 ai ci B wr vg hlb (hK.out.below hbw) (hF.out.below hbw);obtain⟨L,hL⟩:=aA B.length;rw[<-hL] at hce hlf;replace hlf:=Hd hlf;replace hL:=Hd hL;replace htk:=Hd htk;replace hr:=Hd hr;replace hbw:=Hd hbw;clear vg hlb hgd;go_wp2_with fail;with_reducible refine hlf.out.mono ?_
   clear hlf;rintro e w5 ⟨rfl,hb5⟩;have fM:=Hd (hr.out.below ZC hb5);have bQ:=Hd (hbw.out.trans (hb5.mono gW));have hsz5:w.heap.size<=w5.heap.size:=bQ.out.size;obtain⟨D,hD⟩:∃ D,D=(cB (Zr B)).toArray:=⟨_,rfl⟩;have hDs:D.size=32:=by rw[hD,List.size_toArray,Zc,Zr];exact Zy _
   have ky:Hid (RD w5 (λ_=>False) (Zr B) D.toList):=Hd (by rw[hD];exact⟨Zy _,rfl⟩);rw[<-hD];have hsl:=Hd (λW=>Ym (P:=Tryz.prog) (t:=93) Tryz.underlying93 X4 dX dX D hDs W);have kV:=Hd (show ∀ k:Nat,(λ_:Nat=>False) k->(λ_:Nat=>False) k from λ_ h=>h);have hln:((bs.take k).map Zr).length<=1000000:=by rw[List.length_map,List.length_take];omega
   replace hD:=Hd hD;clear hDs hb5;go_wp2_with (first
    | ((with_reducible refine wL (.buildSlice _ _ _) ?_);refine QD rfl 93 1 [(0,.tmp 14)] rfl [(0,.agg D)] rfl _ _ (hsl.out _) ?_)
    | (at_builtin;refine Qa (P:=Tryz.prog) (R:=RD) (e:=47) (size:=32) (base:=w.heap.size) (F:=λ_=>False) (F':=λ_=>False) rfl ZC (.tmp 12) (.tmp 15) 93 rfl Tryz.underlying93 32 X4 dX rfl fM (Zr B) D ky kV (Hd (λ_ _ h=>h)) (Hd (λ_ h=>h.elim)) rfl hln dX hsz5 ?_;intro v9 w9 iH gz qJ))
   refine hback.out _ _ kX ?_ ?_
   ·simp only[List.getD_cons_zero,List.getD_cons_succ];refine⟨k+1,aB,by congr 1,?_,bQ.out.trans (gz.out.below hsz5 (λk hk=>(fM.out.ownLt k hk).1))⟩;rw[htk.out,List.map_append];exact iH.out
   ·have:=kw.out;simp only[List.getD_cons_zero,List.getD_cons_succ,this,intOf];omega
  ·have hlt2:¬((k:Int)<(N:Int)):=aB;have htk:bs.take k=bs:=List.take_of_length_le (by rw[<-hN.out];omega);rw[htk] at hr;replace hr:=Hd hr;replace hbw:=Hd hbw;clear htk;go_wp2_with fail;go_ret;exact⟨v,rfl,hr.out,hbw.out⟩
open Go.RowKit Go.Shelf
attribute [local go_sem] Oper.semAt_some
theorem KP(n₀ Bs Ns:Nat)(W:World)(m:Nat):dQ n₀ Bs Ns W (W.drewN m):=⟨below_drewN (Below.refl _ W) m,rfl,rfl⟩
theorem Pv(n:Nat)(hn:1<=n)(l Bs Ns n₀ g off cap L q:Nat)(hq:q=(L+1) / 2)(hLc:L<=cap)(hcap:L<=10000)(J Jx:List Nat->World->Prop)(hJd:∀ pre W m,J pre W->J pre (W.drewN m))
  (hY:∀ pre x W,J pre W->pre.length<q->x<q->YieldAt Fence.wide (n-1) Tryz.prog l #[.slice (some ⟨g,off+2*x*32,none⟩) (min 2 (L-2*x)) (min 2 (L-2*x))] W λe W'=>
   (e=.returned (.bool true)/\J (pre++[x]) W'/\dQ n₀ Bs Ns W W')\/(e=.returned (.bool false)/\Jx (pre++[x]) W'))
  (W:World) (mO:Boxed W Bs 93 (.slice (some ⟨g,off,none⟩) L cap)) (hNs:Boxed W Ns 3 (.int .i64 2)) (h0:J [] W) :
  CallsIn Fence.wide n Tryz.prog 162 #[.func (.yield l) #[] #[],.pointer (some ⟨Bs,0,none⟩),.pointer (some ⟨Ns,0,none⟩)] W λe W'=>(∃ v,e=.returned v)/\
   ((∃ ys,ys=upto (λk=>k) q/\J ys W')\/(∃ pre,(∃ k,k<=q/\pre=upto (λk=>k) k)/\Jx pre W')):=by
 refine callsIn_of_wp Tryz.func162 rfl trivial ?_ rfl;simp only[Tryz.ntmps162,List.size_toArray,List.length_cons,List.length_nil,Nat.reduceAdd,Nat.reduceSub,Array.replicate_succ,Array.replicate_zero,List.push_toArray,List.append_toArray,List.nil_append,List.cons_append];replace hq:=Hd hq;gi_wp2;gi_loopw [4,5] (λi _ wr=>∃ k:Nat,k<=q/\i=.int .i64 ((2*k:Nat):Int)/\J (upto (λk=>k) k) wr/\dQ n₀ Bs Ns W wr)
  (λi _ _=>2*q-(intOf i).toNat)
 case atStart=>exact⟨0,Nat.zero_le _,rfl,h0,dQ.refl _ _ _ _⟩
 case round=>
  obtain⟨k,hk,rfl,hJs,hnx⟩:=hrel;have hBx:=(show Boxed wr Bs 93 (.slice (some ⟨g,off,none⟩) L cap) from hnx.2.1.trans mO).cell;have hNx:=(show Boxed wr Ns 3 (.int .i64 2) from hnx.2.2.trans hNs).cell;have hqo:=hq.out;by_cases hlt:k<q
  ·have hy0:=λm=>hY _ k (wr.drewN m) (hJd _ _ m hJs) (by rw[KQ];omega) hlt;obtain⟨K,hK⟩:=aA (2*k);rw[<-hK];rw[<-hK] at hy0;obtain⟨E,hE⟩:=aA (min 2 (L-K));rw[<-hE] at hy0;have k1:(K:Int)<(L:Int):=aB;have k4:(0:Int)<=(K:Int):=aB;have k5:(K:Int)<=(L:Int):=aB;have k2:K+E<=L:=aB;have k6:(K:Int)+(E:Int)<=(cap:Int):=aB;have k7:=IntWalk.i64_in ((K:Int)+(E:Int)) aB;have k7b:=IntWalk.i64_in ((K:Int)+2) aB;have k8:min (2:Int) ((L-K:Nat):Int)=(E:Int):=aB;have k8b:(if ((L-K:Nat):Int)<(2:Int) then ((L-K:Nat):Int) else (2:Int))=(E:Int):=by split<;>omega
   have k10:¬(cap=K):=aB;have k9:((K:Int)+(E:Int)).toNat-K=E:=aB;have k11:(K:Int)<=(K:Int)+(E:Int):=aB;clear hqo;replace hK:=Hd hK;replace hE:=Hd hE;gi_wp2;replace hy0:=Hd hy0
   gi_quiet (fail)
   obtain⟨fn,tmps,assign,body,hy,hR⟩:=hy0.out nq;all_goals gi_wp2
   all_goals (refine hR.mono ?_)
   all_goals (rintro e W3 (⟨rfl,hJ3,hk3⟩|⟨rfl,hJx3⟩))
   all_goals (try (have hN3:=(show Boxed W3 Ns 3 (.int .i64 2) from hk3.2.2.trans (hnx.2.2.trans hNs)).cell))
   all_goals gi_wp2
   all_goals (try (refine bodyPost_ret (results_none rfl _ _ _) rfl ⟨⟨_,rfl⟩,.inr ⟨_,⟨k+1,aB,by rw[Xn]⟩,hJx3⟩⟩))
   all_goals (try go_roundw)
   any_goals (case rel=>exact⟨k+1,aB,by rw[hK.out];go_num,by rw[Xn];exact hJ3,Xf hnx (Xf (KP n₀ Bs Ns wr nq) hk3)⟩)
   any_goals (case measure=>(have:=hK.out;simp[intOf];omega))
   all_goals exact⟨⟨k+1,aB,by rw[hK.out];go_num,by rw[Xn];exact hJ3,Xf hnx (Xf (KP n₀ Bs Ns wr nq) hk3)⟩,by have:=hK.out;simp[intOf];omega⟩
  ·obtain rfl:k=q:=aB;have k1:¬(((2*k:Nat):Int)<(L:Int)):=aB;clear hqo;gi_wp2
   go_end0
   first|exact⟨⟨_,rfl⟩,.inl ⟨_,rfl,hJs⟩⟩|exact⟨⟨_,rfl⟩,.inl hJs⟩
theorem DF(n:Nat)(a:Option Addr)(len cap:Nat)(w:World) :
  CallsIn Fence.wide n Tryz.prog 135 #[.slice a len cap,.int .i64 2] w λe w'=>e=.returned (.func (.func 162) #[] #[.pointer (some ⟨w.heap.size,0,none⟩),.pointer (some ⟨w.heap.size+1,0,none⟩)])/\
   w'=(w.alloc (.cells #[.slice a len cap] 93)).alloc (.cells #[.int .i64 2] 3):=by
 refine callsIn_of_wp Tryz.func135 rfl trivial ?_ rfl;simp only[Tryz.ntmps135,List.size_toArray,List.length_cons,List.length_nil,Nat.reduceAdd,Nat.reduceSub,Array.replicate_succ,Array.replicate_zero,List.push_toArray,List.append_toArray,List.nil_append,List.cons_append];gi_wp2;go_ret;exact⟨rfl,rfl⟩
theorem Tp(n:Nat)(hn:1<=n)(Bs Ns n₀ g off cap L q:Nat)(hq:q=(L+1) / 2)(hLc:L<=cap)(hcap:L<=10000)(w:World)
  (hB:Boxed w Bs 93 (.slice (some ⟨g,off,none⟩) L cap)) (hN:Boxed w Ns 3 (.int .i64 2)) :
  SeqStopsK Fence.wide n Tryz.prog 162 #[.pointer (some ⟨Bs,0,none⟩),.pointer (some ⟨Ns,0,none⟩)] (λx:Fin q=>#[Value.slice (some ⟨g,off+2*x.val*32,none⟩) (min 2 (L-2*x.val)) (min 2 (L-2*x.val))]) (dQ n₀ Bs Ns) (λys=>ys.map Fin.val=upto (λk=>k) q)
   (λ_=>True) q w:=by
 intro l J Jx W hW hJ _ hY h0;refine(Pv n hn l Bs Ns n₀ g off cap L q hq hLc hcap (λns W=>∃ fs:List (Fin q),fs.map Fin.val=ns/\J fs W) (λns W=>∃ fs:List (Fin q),fs.map Fin.val=ns/\Jx fs W)
  (λpre W m h=>?_) ?_ W ((hW.block Bs hB.lt).trans hB) ((hW.block Ns hN.lt).trans hN) ⟨[],rfl,h0⟩).mono ?_
 ·obtain⟨fs,h1,h2⟩:=h;exact⟨fs,h1,hJ fs W (W.drewN m) none h2 ⟨rfl,rfl,rfl,Nat.le_refl _,λ_ _ _=>rfl⟩ (λr e=>by cases e)⟩
 ·rintro pre x W1 ⟨fs,h1,h2⟩ hl hx;obtain⟨fn,tmps,assign,body,hy,hR⟩:=hY fs ⟨x,hx⟩ W1 h2 (by rw[<-h1,List.length_map] at hl;exact hl);refine⟨fn,tmps,assign,body,hy,hR.mono ?_⟩;rintro e W' (⟨e1,e2,e3⟩|⟨e1,e2⟩)
  ·exact .inl ⟨e1,⟨fs++[⟨x,hx⟩],by rw[List.map_append,h1];rfl,e2⟩,e3⟩
  ·exact .inr ⟨e1,⟨fs++[⟨x,hx⟩],by rw[List.map_append,h1];rfl,e2⟩⟩
 ·rintro e W' ⟨hv,(⟨ys,rfl,fs,h1,h2⟩|⟨pre,_,fs,_,h2⟩)⟩
  ·exact⟨hv,.inl ⟨fs,h1,h2⟩⟩
  ·exact⟨hv,.inr ⟨fs,trivial,h2⟩⟩
theorem KO{α:Type}{enc:α->List Value}{size:Nat}:∀ (xs:List α),(∀ x∈xs,(enc x).length=size)->∀ (i r:Nat) (hi:i<xs.length),r<size->(xs.flatMap enc)[i*size+r]? = (enc xs[i])[r]?
 | [],_,i,r,hi,_=>absurd hi (Nat.not_lt_zero _)
 | x::xs,h,i,r,hi,hr=>by
  have hx:=h x (List.mem_cons_self ..);rw[List.flatMap_cons];cases i with
  | zero=>rw[Nat.zero_mul,Nat.zero_add,List.getElem?_append_left aB];rfl
  | succ i=>
   rw[Nat.succ_mul,List.getElem?_append_right aB,hx,show i*size+size+r-size=i*size+r by omega];exact KO xs (λy hy=>h y (List.mem_cons_of_mem _ hy)) i r (by simpa using hi) hr
theorem QW{α:Type}{enc:α->List Value}{size:Nat}:∀ (xs:List α),(∀ x∈xs,(enc x).length=size)->(xs.flatMap enc).length=xs.length*size
 | [],_=>by simp
 | x::xs,h=>by
  rw[List.flatMap_cons,List.length_append,QW xs (λy hy=>h y (List.mem_cons_of_mem _ hy)),h x (List.mem_cons_self ..),List.length_cons,Nat.succ_mul];omega
theorem Vf{α:Type}{enc:α->List Value}{size:Nat}{w:World}{b o:Nat}{xs:List α}(hs:0<size)(hl:∀ x∈xs,(enc x).length=size)(h:∀ k (h:k<xs.length),w.rangeAt b (o+k*size) (enc xs[k])):w.rangeAt b o (xs.flatMap enc):=λj v hv=>by
 have hj:j<xs.length*size:=by rw[<-QW xs hl];exact(List.getElem?_eq_some_iff.1 hv).1
 have hi:j / size<xs.length:=Nat.div_lt_of_lt_mul (by rw[Nat.mul_comm];exact hj);have hr:j % size<size:=Nat.mod_lt _ hs;have hd:j / size*size+j % size=j:=by rw[Nat.mul_comm];exact Nat.div_add_mod j size
 have h1:=KO xs hl (j / size) (j % size) hi hr;rw[hd,hv] at h1;have:=h (j / size) hi (j % size) v h1.symm;rw[Nat.add_assoc,hd] at this;exact this
theorem Jj{α:Type}{enc:α->List Value}{R:World->(Nat->Prop)->α->List Value->Prop}{e:TypeId}{size base:Nat}{w:World}{v:Value}{xs:List α}(hR:∀ x∈xs,R w (λ_=>False) x (enc x))(h:w.ownsRow base e size v xs.length (xs.flatMap enc)):aH R e size base w (λ_=>False) v xs:=by
 refine⟨⟨xs.map enc,sX,by rw[<-List.flatMap_def];exact h,λi x cs hx hc=>?_⟩,λk _ hf=>hf,λk hk=>hk.elim⟩;rw[List.getElem?_map,hx] at hc;cases hc;exact hR x (List.mem_of_getElem? hx)
theorem Ji{α:Type}{A B C:List α}{o n:Nat}(hA:A.length=o)(hB:B.length=n):((A++(B++C)).drop o).take n=B:=by
 subst hA hB;rw[List.drop_left,List.take_left]
theorem ZS{α:Type}{cs B:List α}{o n:Nat}(h:(cs.drop o).take n=B):cs.drop o=B++cs.drop (o+n):=by
 rw[<-h,<-List.drop_drop,List.take_append_drop]
theorem Ms{α β:Type}{g:α->Option β}{h:α->β}:∀ l:List α,(∀ i∈l,g i=some (h i))->l.mapM g=some (l.map h)
 | [],_=>rfl
 | x::l,hl=>by
  rw[List.mapM_cons,hl x (List.mem_cons_self ..),Ms l (λi hi=>hl i (List.mem_cons_of_mem _ hi))];rfl
theorem G8{α β:Type}{g:α->Option β}:∀ {l:List α} {ys:List β},l.mapM g=some ys->∀ (i:Nat) (x:α),l[i]? = some x->∃ y,g x=some y
 | [],_,_,i,x,hx=>by simp at hx
 | a::l,ys,h,i,x,hx=>by
  rw[List.mapM_cons] at h;simp only[bind,Option.bind_eq_some_iff,pure,Option.some.injEq] at h;obtain⟨y,hy,zs,hz,_⟩:=h;cases i with
  | zero=>simp at hx;subst hx;exact⟨y,hy⟩
  | succ i=>exact G8 hz i x (by simpa using hx)
theorem Na{α β γ:Type}(k:α->γ)(g:γ->Option β):∀ l:List α,l.mapM (λx=>g (k x))=(l.map k).mapM g
 | []=>rfl
 | x::l=>by rw[List.mapM_cons,List.map_cons,List.mapM_cons,Na k g l]
section
variable {P:Program}
theorem Jq{d:Nat}{t:TypeId}{fs:Array Field}{cs:List Value}{l:List Lit}(ht:P.underlying t=some (.struct fs))(h:P.keyLits (d+1) t cs=some l) :
  cs.length=P.cellsOf t/\∀ (i:Nat) (f:Field),fs[i]? = some f->∃ lf,P.keyLits d f.type ((cs.drop f.offset).take (P.cellsOf f.type))=some lf:=by
 unfold Program.keyLits at h;simp only[ht] at h;split at h
 ·next hc=>
  refine⟨hc.1,λi f hf=>?_⟩;rw[Option.map_eq_some_iff] at h;obtain⟨ls,h1,_⟩:=h;exact G8 h1 i f (by simpa using hf)
 ·cases h
theorem US{d n:Nat}{t e:TypeId}{cs:List Value}{l:List Lit}(ht:P.underlying t=some (.array n e))(h:P.keyLits (d+1) t cs=some l) :
  cs.length=P.cellsOf t/\∀ i,i<n->∃ lf,P.keyLits d e ((cs.drop (i*P.cellsOf e)).take (P.cellsOf e))=some lf:=by
 unfold Program.keyLits at h;simp only[ht] at h;split at h
 ·next hc=>
  refine⟨hc,λi hi=>?_⟩;rw[Option.map_eq_some_iff] at h;obtain⟨ls,h1,_⟩:=h;exact G8 h1 i i (by simp[hi])
 ·cases h
theorem Vd{d:Nat}{t:TypeId}{fs:Array Field}{cs:List Value}{qs:List (TypeId×Nat)}{ls:List (List Lit)}(ht:P.underlying t=some (.struct fs))(hq:fs.toList.map (λf=>(f.type,f.offset))=qs)(hn:fs.all (·.name != "_")=true)
  (hl:cs.length=P.cellsOf t) (h:qs.mapM (λq=>P.keyLits d q.1 ((cs.drop q.2).take (P.cellsOf q.1)))=some ls):P.keyLits (d+1) t cs=some ls.flatten:=by
 unfold Program.keyLits;simp only[ht];rw[if_pos ⟨hl,hn⟩,Na (λf:Field=>(f.type,f.offset)) (λq=>P.keyLits d q.1 ((cs.drop q.2).take (P.cellsOf q.1))),hq,h];rfl
theorem XB{d:Nat}{t:TypeId}{k:IntKind}{n:Int}(ht:P.underlying t=some (.int k))(h:(Lit.int k n).wf=true):P.keyLits (d+1) t [.int k n]=some [.int k n]:=by
 unfold Program.keyLits;simp[ht,h]
theorem KN{d:Nat}{t:TypeId}{s:ByteArray}(ht:P.underlying t=some .string)(h:s.size<=maxLen):P.keyLits (d+1) t [.string s]=some [.string s.data.toList]:=by
 unfold Program.keyLits;simp[ht,h]
theorem T8{d:Nat}{t:TypeId}{b:Bool}(ht:P.underlying t=some .bool):P.keyLits (d+1) t [.bool b]=some [.bool b]:=by
 unfold Program.keyLits;simp[ht]
theorem Fw(x:UInt8):(Lit.int .u8 (x.toNat:Int)).wf=true:=by
 have:=x.toNat_lt;simp[Lit.wf,IntKind.min,IntKind.max,IntKind.signed,IntKind.bits];omega
def QV(f:List UInt8):List Lit:=f.map λx=>.int .u8 (x.toNat:Int)
theorem JL{f g:List UInt8}(h:QV f=QV g):f=g:=by
 induction f generalizing g with
 | nil=>cases g with
  | nil=>rfl
  | cons y g=>cases h
 | cons x f ih=>cases g with
  | nil=>cases h
  | cons y g=>
   simp only[QV,List.map_cons,List.cons.injEq,Lit.int.injEq,true_and] at h;have:x=y:=UInt8.toNat.inj aB;rw[this,ih h.2]
theorem UP{d n:Nat}{t e:TypeId}(ht:P.underlying t=some (.array n e))(he:P.underlying e=some (.int .u8))(hce:P.cellsOf e=1)(hct:P.cellsOf t=n)(f:List UInt8)(hf:f.length=n):P.keyLits (d+2) t (cB f)=some (QV f):=by
 unfold Program.keyLits;simp only[ht];rw[if_pos (by rw[Zc,hct,hf]),hce];have h:=Ms (g:=λi=>P.keyLits (d+1) e (((cB f).drop (i*1)).take 1)) (h:=λi=>[Lit.int .u8 ((f.getD i 0).toNat:Int)]) (List.range n) (λi hi=>by
  have hi':i<f.length:=by rw[hf];simpa using hi
  have:((cB f).drop (i*1)).take 1=[.int .u8 ((f.getD i 0).toNat:Int)]:=by
   rw[Nat.mul_one,List.drop_eq_getElem_cons (by rw[Zc];exact hi')];simp[cB,hi']
  rw[this];exact XB he (Fw _))
 rw[h];simp only[Option.map_some,Option.some.injEq];rw[<-List.flatMap_def];apply List.ext_getElem?
 intro j;have:(List.range n).flatMap (λi=>[Lit.int .u8 ((f.getD i 0).toNat:Int)])=(List.range n).map λi=>Lit.int .u8 ((f.getD i 0).toNat:Int):=by
  exact List.map_eq_flatMap.symm
 rw[this];unfold QV;by_cases hj:j<n
 ·simp[hj,hf]
 ·simp[hj,hf]
theorem VI{d n:Nat}{t e:TypeId}{cs:List Value}{l:List Lit}(ht:P.underlying t=some (.array n e))(he:P.underlying e=some (.int .u8))(hce:P.cellsOf e=1)(hct:P.cellsOf t=n)(h:P.keyLits (d+1) t cs=some l):∃ f:List UInt8,cs=cB f/\f.length=n:=by
 obtain⟨hl,hi⟩:=US ht h;rw[hct] at hl;rw[hce] at hi;refine⟨cs.map λv=>match v with | .int _ z=>UInt8.ofNat z.toNat|_=>0,?_,by simp[hl]⟩
 apply List.ext_getElem?
 intro i;by_cases hin:i<n
 ·obtain⟨lf,h1⟩:=hi i hin;rw[Nat.mul_one] at h1;cases d with
  | zero=>simp[Program.keyLits] at h1
  | succ d=>
   have hi2:i<cs.length:=aB;rw[List.drop_eq_getElem_cons hi2] at h1;have h3:(cs[i]::cs.drop (i+1)).take 1=[cs[i]]:=rfl;rw[h3] at h1;obtain⟨z,e1,e2⟩:=keyLits_int' he h1;have hw:=h1;rw[e1] at hw;have hwf:(Lit.int .u8 z).wf=true:=by
    unfold Program.keyLits at hw;simp only[he] at hw;split at hw
    ·next hh=>exact hh.2
    ·cases hw
   have hz:0<=z/\z<=255:=by simpa[Lit.wf,IntKind.min,IntKind.max,IntKind.signed,IntKind.bits] using hwf
   have hc:cs[i]=.int .u8 z:=by simpa using e1
   rw[List.getElem?_eq_getElem hi2,hc];simp only[cB,List.map_map,List.getElem?_map,List.getElem?_eq_getElem hi2,Option.map_some,Function.comp_apply,hc,Option.some.injEq,Value.int.injEq,true_and];rw[UInt8.toNat_ofNat_of_lt' (by show z.toNat<256;omega)];omega
 ·rw[List.getElem?_eq_none aB,List.getElem?_eq_none (by simp[cB];omega)]
theorem K7{w:World}{t:TypeId}(hk:P.keyTypeAt 6 t=true){d:Nat}{xs ys:Array Value}{la lb:List Lit}(hx:P.keyLits d t xs.toList=some la)(hy:P.keyLits d t ys.toList=some lb)(fx:(Value.agg xs).formed P t=true)(fy:(Value.agg ys).formed P t=true) :
  ∃ r:Bool,(r=true↔la=lb)/\(binOp .eql t (.agg xs) (.agg ys)).run P w=.ok (.bool r) w/\(binOp .neq t (.agg xs) (.agg ys)).run P w=.ok (.bool (!r)) w:=by
 have h:=run_equalIn_deep (P:=P) 9994 6 t hk;obtain⟨r,hr,hiff⟩:=h w d d (.agg xs) (.agg ys) la lb fx fy (by simpa[Value.cells] using hx) (by simpa[Value.cells] using hy);refine⟨r,hiff,?_,?_⟩
 ·rw[run_eql_struct,show (10000:Nat)=9994+6 from rfl,hr];rfl
 ·rw[run_neq_struct,show (10000:Nat)=9994+6 from rfl,hr];rfl
theorem Y6{t:TypeId}{d:TypeDesc}{xs:Array Value}(ht:P.underlying t=some d)(hd:(match d with | .struct _ | .array _ _=>true|_=>false)=true)(hs:xs.size=P.cellsOf t):(Value.agg xs).formed P t=true:=by
 cases d<;>simp at hd<;>simp[Value.formed,ht,hs]
end
structure P6 where
 s:Int
 n:Int
 k:Int
 d:Int
 t:Int
 r:Int
deriving DecidableEq
abbrev cO (x:Int):Prop := -9223372036854775808<=x/\x<=9223372036854775807
theorem GF{x:Int}(h:cO x):(Lit.int .i64 x).wf=true:=by
 have:=h;unfold cO at this;simp[Lit.wf,IntKind.min,IntKind.max,IntKind.signed,IntKind.bits];omega
theorem X8{x:Int}(h:(Lit.int .i64 x).wf=true):cO x:=by simpa[cO,Lit.wf,IntKind.min,IntKind.max,IntKind.signed,IntKind.bits] using h
def P6.list(p:P6):List Value:=[.int .i64 p.s,.int .i64 p.n,.int .i64 p.k,.int .i64 p.d,.int .i64 p.t,.int .i64 p.r]
def P6.lits(p:P6):List Lit:=[.int .i64 p.s,.int .i64 p.n,.int .i64 p.k,.int .i64 p.d,.int .i64 p.t,.int .i64 p.r]
def P6.Ok(p:P6):Prop:=cO p.s/\cO p.n/\cO p.k/\cO p.d/\cO p.t/\cO p.r
theorem P6.lits_inj{p q:P6}(h:p.lits=q.lits):p=q:=by
 cases p;cases q;simpa[P6.lits] using h
section
variable {P:Program}
theorem Rd{t i64:TypeId}{fs:Array Field}(ht:P.underlying t=some (.struct fs))(hq:fs.toList.map (λf=>(f.type,f.offset))=[(i64,0),(i64,1),(i64,2),(i64,3),(i64,4),(i64,5)])(hn:fs.all (·.name != "_")=true)(hi:P.underlying i64=some (.int .i64))(ci:P.cellsOf i64=1)(ct:P.cellsOf t=6)
  (p:P6) (hp:p.Ok) (d:Nat):P.keyLits (d+2) t p.list=some p.lits:=by
 obtain⟨h1,h2,h3,h4,h5,h6⟩:=hp;have e:=λ(n:Int) (h:cO n)=>XB (d:=d) hi (GF h);refine Vd (ls:=[[.int .i64 p.s],[.int .i64 p.n],[.int .i64 p.k],[.int .i64 p.d],[.int .i64 p.t],[.int .i64 p.r]]) ht hq hn (by rw[ct];rfl) ?_;simp only[List.mapM_cons,List.mapM_nil,ci,P6.list,List.drop_zero,List.drop_succ_cons,List.take_succ_cons,List.take_zero,e _ h1,e _ h2,e _ h3,e _ h4,e _ h5,e _ h6,Option.bind_eq_bind,Option.bind_some,Option.pure_def]
theorem N8{d:Nat}{t i64:TypeId}{f0 f1 f2 f3 f4 f5:Field}{cs:List Value}{l:List Lit}(ht:P.underlying t=some (.struct #[f0,f1,f2,f3,f4,f5]))(hq : [f0,f1,f2,f3,f4,f5].map (λf=>(f.type,f.offset))=[(i64,0),(i64,1),(i64,2),(i64,3),(i64,4),(i64,5)])(hi:P.underlying i64=some (.int .i64))(ci:P.cellsOf i64=1)(ct:P.cellsOf t=6)
  (h:P.keyLits (d+1) t cs=some l):∃ p:P6,cs=p.list/\p.Ok:=by
 obtain⟨hl,hf⟩:=Jq ht h;rw[ct] at hl;simp only[List.map_cons,List.map_nil,List.cons.injEq,Prod.mk.injEq,and_true] at hq;obtain⟨⟨a0,b0⟩,⟨a1,b1⟩,⟨a2,b2⟩,⟨a3,b3⟩,⟨a4,b4⟩,⟨a5,b5⟩⟩:=hq;have cell:∀ (o:Nat) (f:Field) (i:Nat),(#[f0,f1,f2,f3,f4,f5]:Array Field)[i]? = some f->f.type=i64->f.offset=o->∃ n,(cs.drop o).take 1=[.int .i64 n]/\cO n:=λo f i hg ht' ho=>by
  obtain⟨lf,h1⟩:=hf i f hg;rw[ht',ho,ci] at h1;obtain⟨n,e1,e2⟩:=keyLits_int' hi h1;refine⟨n,e1,?_⟩;rw[e1] at h1;cases d with
  | zero=>simp[Program.keyLits] at h1
  | succ d=>
   unfold Program.keyLits at h1;simp only[hi] at h1;split at h1
   ·next hh=>exact X8 hh.2
   ·cases h1
 obtain⟨n0,e0,w0⟩:=cell 0 f0 0 rfl a0 b0;obtain⟨n1,e1,w1⟩:=cell 1 f1 1 rfl a1 b1;obtain⟨n2,e2,w2⟩:=cell 2 f2 2 rfl a2 b2;obtain⟨n3,e3,w3⟩:=cell 3 f3 3 rfl a3 b3;obtain⟨n4,e4,w4⟩:=cell 4 f4 4 rfl a4 b4;obtain⟨n5,e5,w5⟩:=cell 5 f5 5 rfl a5 b5;refine⟨⟨n0,n1,n2,n3,n4,n5⟩,?_,w0,w1,w2,w3,w4,w5⟩;have h0:=ZS e0;rw[List.drop_zero,ZS e1,ZS e2,ZS e3,ZS e4,ZS e5,List.drop_of_length_le (i:=5+1) aB] at h0;exact h0
end
end
end Go.Proofs.YtpdhceiodgnbmaaGreatDoor
