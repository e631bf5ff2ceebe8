import Derived.Test.YtdilmfnpkeihiaaGreatDoorF0AudSaid
import Derived.Test.YtdilmfnpkeihiaaGreatDoorF2AudSaid
import Derived.Test.YtdilmfnpkeihiaaGreatDoorF16AudSaid
import Derived.Test.YtdilmfnpkeihiaaGreatDoorF19AudSaid
import Derived.BigRegionIn
import Derived.Test.YtdilmfnpkeihiaaGreatDoorF18AudSaid
set_option linter.unusedVariables false
set_option linter.unusedSimpArgs false
set_option linter.unnecessarySimpa false
set_option maxRecDepth 100000
set_option maxHeartbeats 8000000
namespace Go.Proofs.YtdilmfnpkeihiaaGreatDoor
open Go.RowKit Go.Shelf
attribute [local go_sem] Oper.semAt_some
def KeepC(n₀ Bs Ns:Nat)(W W':World):Prop:=Below n₀ W W'/\W'.heap[Bs]? = W.heap[Bs]? /\ W'.heap[Ns]? = W.heap[Ns]?
theorem KeepC.refl(n₀ Bs Ns:Nat)(W:World):KeepC n₀ Bs Ns W W:=⟨Below.refl _ _,rfl,rfl⟩
theorem Yl{n₀ Bs Ns:Nat}{A B C:World}(h:KeepC n₀ Bs Ns A B)(k:KeepC n₀ Bs Ns B C):KeepC n₀ Bs Ns A C:=⟨h.1.trans k.1,k.2.1.trans h.2.1,k.2.2.trans h.2.2⟩
theorem Xr(n₀ Bs Ns:Nat)(W:World):KeepC n₀ Bs Ns W W.drew:=⟨(Below.refl _ W).drew,rfl,rfl⟩
theorem GG{n₀ Bs Ns:Nat}{w:World}(hn:n₀<=w.heap.size)(hB:Bs<w.heap.size)(hN:Ns<w.heap.size)(W:World)(l:Nat)(o o':Obj)(hl:w.heap.size<=l)(h:W.heap[l]? = some o)(h1:o.isCells=false)(h2:o.isWalk=false):KeepC n₀ Bs Ns W (W.putObj l o'):=
 ⟨belowK_b hn W l o o' hl h h1 h2,World.putObj_heap_other oX,World.putObj_heap_other oX⟩
theorem UA(F:Fence)(n:Nat)(h7:F.fn 123)(hro:F.round=none)(hn:1<=n)(l Bs Ns n₀ g off cap q:Nat)(hq:64*q<=cap)(hcap:q<=10000)(J Jx:List Nat->World->Prop)(hJd:∀ pre W,J pre W->J pre W.drew)
  (hY:∀ pre x W,J pre W->pre.length<q->x<q->YieldAt F (n-1) Tryz.prog l #[.slice (some ⟨g,off+64*x,none⟩) 64 64] W λe W'=>
   (e=.returned (.bool true)/\J (pre++[x]) W'/\KeepC n₀ Bs Ns W W')\/(e=.returned (.bool false)/\Jx (pre++[x]) W'))
  (W:World) (hBs:Boxed W Bs 52 (.slice (some ⟨g,off,none⟩) (64*q) cap)) (hNs:Boxed W Ns 3 (.int .i64 64)) (h0:J [] W) :
  CallsIn F n Tryz.prog 123 #[.func (.yield l) #[] #[],.pointer (some ⟨Bs,0,none⟩),.pointer (some ⟨Ns,0,none⟩)] W λe W'=>(∃ v,e=.returned v)/\
   ((∃ ys,ys=upto (λk=>k) q/\J ys W')\/(∃ pre,(∃ k,k<=q/\pre=upto (λk=>k) k)/\Jx pre W')):=by
 refine callsIn_of_wp Tryz.func123 rfl h7 ?_ hro
 simp only[Tryz.ntmps123,List.size_toArray,List.length_cons,List.length_nil,Nat.reduceAdd,Nat.reduceSub,Array.replicate_succ,Array.replicate_zero,List.push_toArray,List.append_toArray,List.nil_append,List.cons_append]
 gi_wp2
 gi_loopw [4,5] (λi _ wr=>∃ k:Nat,k<=q/\i=.int .i64 ((64*k:Nat):Int)/\J (upto (λk=>k) k) wr/\KeepC n₀ Bs Ns W wr)
  (λi _ _=>64*q-(intOf i).toNat)
 case atStart=>exact⟨0,Nat.zero_le _,rfl,h0,KeepC.refl _ _ _ _⟩
 case round=>
  obtain⟨k,hk,rfl,hJs,hnx⟩:=hrel
  have hBx:=(show Boxed wr Bs 52 (.slice (some ⟨g,off,none⟩) (64*q) cap) from hnx.2.1.trans hBs).cell
  have hNx:=(show Boxed wr Ns 3 (.int .i64 64) from hnx.2.2.trans hNs).cell
  by_cases hlt:k<q
  ·obtain⟨fn,tmps,assign,body,hy,hR⟩:=hY _ k wr.drew (hJd _ _ hJs) (by rw[JY];omega) hlt
   obtain⟨K,hK⟩:∃ K,K=64*k:=⟨_,rfl⟩
   obtain⟨Q,hQ⟩:∃ Q,Q=64*q:=⟨_,rfl⟩
   rw[<-hQ] at hBx
   rw[<-hK]
   rw[<-hK] at hy
   have k1:(K:Int)<(Q:Int):=oX
   have k2:K+64<=Q:=oX
   have k3:(64:Int)<=(Q:Int)-(K:Int):=oX
   have k4:(0:Int)<=(K:Int):=oX
   have k5:(K:Int)<=(Q:Int):=oX
   have k6:(K:Int)+64<=(cap:Int):=oX
   have k7:=IntWalk.i64_in ((K:Int)+64) oX
   have k8:(64:Int)<=((Q-K:Nat):Int):=oX
   have k10:¬(cap=K):=oX
   have k9:((K:Int)+64).toNat-K=64:=oX
   replace hK:=Hd hK
   replace hQ:=Hd hQ
   gi_wp2
   gi_region
   all_goals gi_wp2
   all_goals (refine hR.mono ?_)
   all_goals (rintro e W3 (⟨rfl,hJ3,hk3⟩|⟨rfl,hJx3⟩))
   all_goals (try (have hN3:=(show Boxed W3 Ns 3 (.int .i64 64) from hk3.2.2.trans (hnx.2.2.trans hNs)).cell))
   all_goals gi_wp2
   all_goals (try (refine bodyPost_ret (results_none rfl _ _ _) rfl ⟨⟨_,rfl⟩,.inr ⟨_,⟨k+1,oX,by rw[Yb]⟩,hJx3⟩⟩))
   all_goals (try go_roundw)
   any_goals (case rel=>exact⟨k+1,oX,by rw[hK.out];go_num,by rw[Yb];exact hJ3,Yl hnx (Yl (Xr n₀ Bs Ns wr) hk3)⟩)
   any_goals (case measure=>(have:=hK.out;have:=hQ.out;simp[intOf];omega))
   all_goals exact⟨⟨k+1,oX,by rw[hK.out];go_num,by rw[Yb];exact hJ3,Yl hnx (Yl (Xr n₀ Bs Ns wr) hk3)⟩,by have:=hK.out;have:=hQ.out;simp[intOf];omega⟩
  ·obtain rfl:k=q:=oX
   gi_wp2
   go_end0
   exact⟨⟨_,rfl⟩,.inl ⟨_,rfl,hJs⟩⟩
attribute [local go_sem] Oper.semAt_some
theorem Gj(F:Fence)(n:Nat)(h5:F.fn 106)(hro:F.round=none)(a:Option Addr)(len cap:Nat)(w:World) :
  CallsIn F n Tryz.prog 106 #[.slice a len cap,.int .i64 64] w λe w'=>e=.returned (.func (.func 123) #[] #[.pointer (some ⟨w.heap.size,0,none⟩),.pointer (some ⟨w.heap.size+1,0,none⟩)])/\
   w'=(w.alloc (.cells #[.slice a len cap] 52)).alloc (.cells #[.int .i64 64] 3):=by
 refine callsIn_of_wp Tryz.func106 rfl h5 ?_ hro
 simp only[Tryz.ntmps106,List.size_toArray,List.length_cons,List.length_nil,Nat.reduceAdd,Nat.reduceSub,Array.replicate_succ,Array.replicate_zero,List.push_toArray,List.append_toArray,List.nil_append,List.cons_append]
 gi_wp2
 go_ret
 exact⟨rfl,rfl⟩
theorem Vb(F:Fence)(n:Nat)(h8:F.fn 123)(hro:F.round=none)(hn:1<=n)(Bs Ns n₀ g off cap q:Nat)(hq:64*q<=cap)(hcap:q<=10000)(w:World)
  (hB:Boxed w Bs 52 (.slice (some ⟨g,off,none⟩) (64*q) cap)) (hN:Boxed w Ns 3 (.int .i64 64)) :
  SeqStopsK F n Tryz.prog 123 #[.pointer (some ⟨Bs,0,none⟩),.pointer (some ⟨Ns,0,none⟩)] (λx:Fin q=>#[Value.slice (some ⟨g,off+64*x.val,none⟩) 64 64]) (KeepC n₀ Bs Ns) (λys=>ys.map Fin.val=upto (λk=>k) q)
   (λ_=>True) q w:=by
 intro l J Jx W hW hJ _ hY h0
 refine(UA F n h8 hro hn l Bs Ns n₀ g off cap q hq hcap (λns W=>∃ fs:List (Fin q),fs.map Fin.val=ns/\J fs W) (λns W=>∃ fs:List (Fin q),fs.map Fin.val=ns/\Jx fs W)
  (λpre W h=>?_) ?_ W ((hW.block Bs hB.lt).trans hB) ((hW.block Ns hN.lt).trans hN) ⟨[],rfl,h0⟩).mono ?_
 ·obtain⟨fs,h1,h2⟩:=h
  exact⟨fs,h1,hJ fs W W.drew none h2 ⟨rfl,rfl,rfl,Nat.le_refl _,λ_ _ _=>rfl⟩ (λr e=>by cases e)⟩
 ·rintro pre x W1 ⟨fs,h1,h2⟩ hl hx
  obtain⟨fn,tmps,assign,body,hy,hR⟩:=hY fs ⟨x,hx⟩ W1 h2 (by rw[<-h1,List.length_map] at hl;exact hl)
  refine⟨fn,tmps,assign,body,hy,hR.mono ?_⟩
  rintro e W' (⟨e1,e2,e3⟩|⟨e1,e2⟩)
  ·exact .inl ⟨e1,⟨fs++[⟨x,hx⟩],by rw[List.map_append,h1];rfl,e2⟩,e3⟩
  ·exact .inr ⟨e1,⟨fs++[⟨x,hx⟩],by rw[List.map_append,h1];rfl,e2⟩⟩
 ·rintro e W' ⟨hv,(⟨ys,rfl,fs,h1,h2⟩|⟨pre,_,fs,_,h2⟩)⟩
  ·exact⟨hv,.inl ⟨fs,h1,h2⟩⟩
  ·exact⟨hv,.inr ⟨fs,trivial,h2⟩⟩
def Q5(s:S8)(m:List UInt8)(ns:List Nat):S8:=ns.foldl (λs x=>ZB s ((m.drop (64*x)).take 64)) s
theorem X2(s:S8)(m:List UInt8)(ns:List Nat)(x:Nat):Q5 s m (ns++[x])=ZB (Q5 s m ns) ((m.drop (64*x)).take 64):=by simp[Q5]
theorem X1(s:S8)(m:List UInt8):∀ q,Q5 s m (upto (λk=>k) q)=Zr s m q
 | 0=>rfl
 | q+1=>by rw[Yb,X2,X1 s m q,Zr]
end Go.Proofs.YtdilmfnpkeihiaaGreatDoor
