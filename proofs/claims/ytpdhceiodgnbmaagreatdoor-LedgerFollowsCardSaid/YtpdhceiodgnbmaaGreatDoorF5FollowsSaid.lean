import Derived.Test.YtpdhceiodgnbmaaGreatDoorF0FollowsSaid
import Derived.Test.YtpdhceiodgnbmaaGreatDoorF1FollowsSaid
import Derived.Test.YtpdhceiodgnbmaaGreatDoorF4FollowsSaid
import Derived.Lib.LazyBuf
import Derived.Test.YtpdhceiodgnbmaaGreatDoorRows
import Derived.Outline
set_option linter.unusedVariables false
set_option linter.unusedSimpArgs false
set_option linter.unnecessarySimpa false
set_option maxRecDepth 100000
set_option maxHeartbeats 8000000
namespace Go.Proofs.YtpdhceiodgnbmaaGreatDoor
open Go.RowKit
theorem Np:(Tryz.prog.info? 58).map (·.size)=some 76:=kX
def YZ(ns:List It)(s:ByteArray):Int:=match ns.findIdx? (λx=>decide (x.s=s)) with
 | some i=>(i:Int)
 | none => -1
theorem HQ{ns:List It}{s:ByteArray}{k:Nat}(hk:k<ns.length)(h:∀ j (hj:j<ns.length),j<k->ns[j].s≠s)(he:ns[k].s=s):YZ ns s=(k:Int):=by
 have:ns.findIdx? (λx=>decide (x.s=s))=some k:=by
  rw[List.findIdx?_eq_some_iff_getElem]
  refine⟨hk,by simpa using he,λj hj=>?_⟩
  simpa using h j oX hj
 unfold YZ
 rw[this]
theorem Ml{ns:List It}{s:ByteArray}(h:∀ j (hj:j<ns.length),ns[j].s≠s):YZ ns s = -1:=by
 have:ns.findIdx? (λx=>decide (x.s=s))=none:=by
  rw[List.findIdx?_eq_none_iff]
  intro x hx
  obtain⟨j,hj,rfl⟩:=List.getElem_of_mem hx
  simpa using h j hj
 unfold YZ
 rw[this]
theorem M8(x:It)(X:Array Value)(hX:X=x.list.toArray)(b:Nat)(s:ByteArray)(w:World)(hb:w.cell? ⟨b,0,none⟩=some (.string s)) :
  Calls Tryz.prog 48 #[.agg X,.pointer (some ⟨b,0,none⟩)] w λr w'=>r=.returned (.bool (decide (x.s=s)))/\Below w.heap.size w w':=by
 have hG:Below w.heap.size w (w.alloc (.cells X 58)):=bR.alloc nR _
 have k0:(w.alloc (.cells X 58)).cell? ⟨w.heap.size,1,none⟩=some (.string x.s):=by rw[Za (heap_alloc_new w _)];rw[hX];rfl
 have k1:=Yr hb (.cells X 58)
 replace hG:=Hd hG
 obtain⟨S,hS⟩:∃ S,S=x.s:=⟨_,rfl⟩
 rw[<-hS] at k0 ⊢
 replace hS:=Hd hS
 clear hX hb
 by_cases he:S=s
 ·subst he
  go_enter Tryz.func48,Tryz.ntmps48
  go_wp2_with fail
  go_ret
  exact⟨sX,hG.out⟩
 ·have hd:decide (S=s)=false:=decide_eq_false he
  rw[hd]
  go_enter Tryz.func48,Tryz.ntmps48
  go_wp2_with fail
  go_ret
  exact⟨by rw[show (S.toList==s.toList)=false by rw[Jn,hd]];rfl,hG.out⟩
theorem N6(a:Option Addr)(c:Nat)(ns:List It)(hok:∀ x∈ns,x.Ok)(w:World)(h:RowAt It.list 76 w a ns)(hl:ns.length<=1000000)(b:Nat)(s:ByteArray)(hb:w.cell? ⟨b,0,none⟩=some (.string s)) :
  Calls Tryz.prog 47 #[.slice a ns.length c,.func (.func 48) #[] #[.pointer (some ⟨b,0,none⟩)]] w λr w'=>r=.returned (.int .i64 (YZ ns s))/\Below w.heap.size w w':=by
 have huN:Tryz.prog.underlying 58=_:=Tryz.underlying58
 obtain⟨q,hq⟩:∃ q,q=YZ ns s:=⟨_,rfl⟩
 rw[<-hq]
 obtain⟨N,hN⟩:∃ N,N=ns.length:=⟨_,rfl⟩
 rw[<-hN] at hl ⊢
 replace hN:=Hd hN
 replace hq:=Hd hq
 replace h:=Hd h
 replace hok:=Hd hok
 replace hb:=Hd hb
 go_enter Tryz.func47,Tryz.ntmps47
 go_wp2_with fail
 refine Z8 [(false,4),(true,2),(false,2),(true,11)] _ [] (λU wr=>∃ k:Nat,k<=N/\U 8=.int .i64 (k:Nat)/\Below w.heap.size w wr/\∀ j (hj:j<ns.length),j<k->ns[j].s≠s) (λU _=>N-(intOf (U 8)).toNat) ?_ ?_
 ·simp only[List.getD_cons_zero,List.getD_cons_succ]
  exact⟨0,Nat.zero_le _,rfl,Below.refl _ _,λj _ hj=>absurd hj (Nat.not_lt_zero _)⟩
 ·intro U wr hrel KK hback l' hl'
  obtain⟨k,hk,h8,hbw,hle⟩:=hrel
  simp only[ZR,ZD,cond_true,cond_false,Nat.reduceAdd,h8] at hl'
  subst hl'
  replace h8:=Hd h8
  replace hle:=Hd hle
  by_cases hlt:k<N
  ·have hlt2:(k:Int)<(N:Int):=oX
   have hkN:k<ns.length:=by rw[<-hN.out];exact hlt
   obtain⟨b1,o1,rfl,hr1⟩:=h.out.below hbw nR k hkN
   have ox:=hok.out _ (List.getElem_mem hkN)
   have hhit:=λ(e:ns[k].s=s)=>HQ hkN hle.out e
   have hstep:=λ(e:ns[k].s≠s)=>show ∀ j (hj:j<ns.length),j<k+1->ns[j].s≠s from λj hj hjk=>by
    by_cases hjk2:j<k
    ·exact hle.out j hj hjk2
    ·obtain rfl:j=k:=oX
     exact e
   generalize ns[k]=x at*
   obtain⟨X,hX⟩:∃ X,X=x.list.toArray:=⟨_,rfl⟩
   have ix:(Tryz.prog.info? 58).map (·.size)=some x.list.length:=by rw[It.list_length ox];exact Np
   have hcall:=M8 x X hX b s wr ((hbw.cell (World.block_lt_of_cell? w _ hb.out)).trans hb.out)
   have hsz:=hbw.size
   replace hX:=Hd hX
   replace hr1:=Hd hr1
   replace hbw:=Hd hbw
   replace hhit:=Hd hhit
   replace hstep:=Hd hstep
   replace ox:=Hd ox
   by_cases he:x.s=s
   ·have hqk:q=(k:Int):=by rw[hq.out];exact hhit.out he
    rw[decide_eq_true he] at hcall
    replace hcall:=Hd hcall
    subst hqk
    replace he:=Hd he
    clear hq
    go_wp2_with (refine wpList_load_mid rfl 58 (.tmp 14) rfl b1 (o1+k*76) rfl x.list _ hr1.out huN rfl ix ?_;rw[<-hX.out])
    with_reducible refine hcall.out.mono ?_
    rintro e w2 ⟨rfl,hb2⟩
    have hbf:=Hd (hbw.out.trans (hb2.mono hsz))
    go_wp2_with fail
    go_ret
    exact⟨rfl,hbf.out⟩
   ·rw[decide_eq_false he] at hcall
    replace hcall:=Hd hcall
    replace he:=Hd he
    go_wp2_with (refine wpList_load_mid rfl 58 (.tmp 14) rfl b1 (o1+k*76) rfl x.list _ hr1.out huN rfl ix ?_;rw[<-hX.out])
    with_reducible refine hcall.out.mono ?_
    rintro e w2 ⟨rfl,hb2⟩
    have hbf:=Hd (hbw.out.trans (hb2.mono hsz))
    go_wp2_with fail
    refine hback.out _ _ kX ?_ ?_
    ·simp only[List.getD_cons_zero,List.getD_cons_succ]
     exact⟨k+1,oX,by go_num,hbf.out,hstep.out he.out⟩
    ·have h8:=h8.out
     simp only[List.getD_cons_zero,List.getD_cons_succ,h8,intOf]
     omega
  ·obtain rfl:k=N:=oX
   have hqn:q = -1:=by rw[hq.out];exact Ml (λj hj=>hle.out j hj (by rw[hN.out];exact hj))
   subst hqn
   replace hbw:=Hd hbw
   clear hq
   go_wp2_with fail
   go_ret
   exact⟨rfl,hbw.out⟩
def Zx(ns:List It)(s:ByteArray):It×Bool:=match ns.findIdx? (λx=>decide (x.s=s)) with
 | some i=>(ns.getD i default,true)
 | none=>(default,false)
theorem Zq(w:World)(C D E:Array Value)(t u v:TypeId)(W:World)(hW:W=((w.alloc (.cells C t)).alloc (.cells D u)).alloc (.cells E v)) :
  W.heap[w.heap.size]? = some (.cells C t (0,0))/\W.heap[w.heap.size+1]? = some (.cells D u (0,0))/\W.heap[w.heap.size+2]? = some (.cells E v (0,0))/\W.heap.size=w.heap.size+3/\Below w.heap.size w W:=by
 obtain⟨h1,h2,h3,h4⟩:=QI w C D t u _ rfl
 subst hW
 refine⟨XX h1 _,XX h2 _,?_,sX,h4.alloc oX _⟩
 have h:=heap_alloc_new ((w.alloc (.cells C t)).alloc (.cells D u)) (.cells E v (0,0))
 rw[h3] at h
 exact h
theorem Xh(va:Value)(m:St)(w:World)(ha:ArgS w va m)(hl:m.its.length<=1000)(s:ByteArray) :
  Calls Tryz.prog 18 #[va,.string s] w λx w'=>x=.returned (.tuple #[.agg (Zx m.its s).1.list.toArray,.bool (Zx m.its s).2])/\Below w.heap.size w w':=by
 have hit:∀ W,Below w.heap.size w W->Calls Tryz.prog 17 #[va,.int .i64 (YZ m.its s)] W λx w'=>x=.returned (.tuple #[.agg (Zx m.its s).1.list.toArray,.bool (Zx m.its s).2])/\Below W.heap.size W w':=by
  intro W hW
  have ha2:=ha.below hW nR
  unfold YZ Zx
  cases hf:m.its.findIdx? (λx=>decide (x.s=s)) with
  | none=>exact Jr va m W ha2 (-1) oX hl
  | some i=>
   have hi:i<m.its.length:=(List.findIdx?_eq_some_iff_getElem.1 hf).1
   have:=Yj va m W ha2 i hi hl
   simp only[List.getD_eq_getElem?_getD,List.getElem?_eq_getElem hi,Option.getD_some]
   exact this
 have hok:(Zx m.its s).1.Ok:=by
  obtain⟨_,okN,_⟩:=ha
  have hd:(default:It).Ok:=⟨dX,dX,⟨dX,dX,dX,dX,dX,dX⟩,rfl,rfl,dX,dX,dX⟩
  unfold Zx
  cases hf:m.its.findIdx? (λx=>decide (x.s=s)) with
  | none=>exact hd
  | some i=>
   have hi:i<m.its.length:=(List.findIdx?_eq_some_iff_getElem.1 hf).1
   simp only[List.getD_eq_getElem?_getD,List.getElem?_eq_getElem hi,Option.getD_some]
   exact okN _ (List.getElem_mem hi)
 have hix:∀ W b,Below w.heap.size w W->W.cell? ⟨b,0,none⟩=some (.string s)->∀ an cn,(∃ av cv V,va=.agg #[.slice an m.its.length cn,.slice av V cv])->Calls Tryz.prog 47 #[.slice an m.its.length cn,.func (.func 48) #[] #[.pointer (some ⟨b,0,none⟩)]] W λr w'=>r=.returned (.int .i64 (YZ m.its s))/\Below W.heap.size W w':=by
  intro W b hW hb an cn ⟨av,cv,V,e⟩
  obtain⟨⟨a,c,a',c',e2,h1,_⟩,okN,_⟩:=ha.below hW nR
  rw[e] at e2
  cases e2
  exact N6 an cn m.its okN W h1 oX b s hb
 obtain⟨⟨an,cn,av,cv,rfl,hN,hN1,hN2,hV,hV1,hV2⟩,okN,okV⟩:=ha
 have hix2:=λW b h1 h2=>hix W b h1 h2 an cn ⟨av,cv,_,rfl⟩
 generalize YZ m.its s=q at*
 generalize (Zx m.its s).2=kn at*
 obtain⟨XA,hXA⟩:∃ XA,XA=(Zx m.its s).1.list.toArray:=⟨_,rfl⟩
 have iA:(Tryz.prog.info? 58).map (·.size)=some XA.size:=by rw[hXA,It.size hok];kernel_rfl
 have zA:(Tryz.zeroCells58).size=XA.size:=by rw[hXA,It.size hok];kernel_rfl
 have h1A:XA.all (·.oneCell')=true:=by rw[hXA];exact It.all_one _
 rw[<-hXA] at hit ⊢
 have hu:=Tryz.underlying58
 obtain⟨N,hNl⟩:∃ N,N=m.its.length:=⟨_,rfl⟩
 obtain⟨V,hVl⟩:∃ V,V=m.ens.length:=⟨_,rfl⟩
 rw[<-hNl,<-hVl] at hit
 rw[<-hNl] at hix2
 rw[<-hNl,<-hVl]
 obtain⟨a1,a2,a3,hs3,hB⟩:=Zq w #[.slice an N cn,.slice av V cv] #[.string s] Tryz.zeroCells58 28 9 58 _ rfl
 obtain⟨w3,hw3⟩:∃ w3,w3=((w.alloc (.cells #[.slice an N cn,.slice av V cv] 28)).alloc (.cells #[.string s] 9)).alloc (.cells Tryz.zeroCells58 58):=⟨_,rfl⟩
 have e10:=Za a1 0
 rw[<-hw3] at a1 a2 a3 hs3 hB
 replace hw3:=Hd hw3
 replace hit:=Hd hit
 replace hix2:=Hd hix2
 replace a1:=Hd a1
 replace a2:=Hd a2
 replace a3:=Hd a3
 replace hB:=Hd hB
 replace hs3:=Hd hs3
 clear hix hN hV hN1 hN2 hV1 hV2 okN okV hXA hok hNl hVl hl
 go_enter Tryz.func18,Tryz.ntmps18
 go_wp2_with fail
 rw[<-hw3.out]
 with_reducible refine(hix2.out w3 (w.heap.size+1) hB.out (by rw[Za a2.out];simp)).mono ?_
 rintro e w4 ⟨rfl,hb⟩
 have b1:=(hb.block _ (Zb a1.out)).trans a1.out
 have b3:=Hd ((hb.block _ (Zb a3.out)).trans a3.out)
 have f0:=Za b1 0
 have f1:=Za b1 1
 have hB4:=Hd (hB.out.trans (hb.mono hB.out.size))
 clear b1 hb e10
 go_wp2_with fail
 with_reducible refine(hit.out w4 hB4.out).mono ?_
 rintro e w5 ⟨rfl,hb⟩
 have c3:=Hd ((hb.block _ (Zb b3.out)).trans b3.out)
 have hB5:=Hd (hB4.out.trans (hb.mono hB4.out.size))
 clear hb f0 f1
 go_wp2_with ((with_reducible refine wL (.store 58 (.tmp 4) _) ?_);(refine Zc rfl 58 (.tmp 4) (.tmp 14) rfl (w.heap.size+2) _ XA rfl rfl c3 iA zA h1A ?_);intro w6 hU6)
 refine Zf rfl rfl hu rfl iA hU6.out.here ?_
 exact⟨rfl,hB5.out.trans (hU6.out.below oX)⟩
def cf(p:List UInt8)(i:Nat):UInt8:=p.getD i 0
theorem Rz{p:List UInt8}{i:Nat}(h:i<p.length):cf p i=p[i]:=by simp[cf,h]
theorem Mw{p:List UInt8}{i:Nat}(h:p.length<=i):cf p i=0:=by simp[cf,h]
theorem KB{p q:List UInt8}(hl:p.length=q.length)(h:∀ i,cf p i=cf q i):p=q:=by
 apply List.ext_getElem hl
 intro i h1 h2
 have:=h i
 rwa [Rz h1,Rz h2] at this
def tab(n:Nat)(f:Nat->UInt8):List UInt8:=(List.range n).map f
theorem QF(n:Nat)(f:Nat->UInt8):(tab n f).length=n:=by simp[tab]
theorem Jh(n:Nat)(f:Nat->UInt8)(i:Nat):cf (tab n f) i=if i<n then f i else 0:=by
 unfold cf tab
 by_cases h:i<n
 ·simp[h]
 ·simp[h]
theorem Pz(p:List UInt8):tab p.length (cf p)=p:=by
 apply KB (QF _ _)
 intro i
 rw[Jh]
 by_cases h:i<p.length
 ·rw[if_pos h]
 ·rw[if_neg h,Mw (Nat.le_of_not_lt h)]
theorem JN{n:Nat}{f g:Nat->UInt8}(h:∀ i,i<n->f i=g i):tab n f=tab n g:=by
 apply KB (by simp[QF])
 intro i
 rw[Jh,Jh]
 by_cases hi:i<n
 ·rw[if_pos hi,if_pos hi,h i hi]
 ·rw[if_neg hi,if_neg hi]
theorem RC(n:Nat)(f:Nat->UInt8)(i:Nat)(x:UInt8):(tab n f).set i x=tab n λj=>if j=i then x else f j:=by
 apply KB (by simp[QF])
 intro j
 by_cases hj:j<n
 ·rw[Jh,if_pos hj]
  unfold cf
  rw[List.getD_eq_getElem?_getD,List.getElem?_set]
  by_cases h:i=j
  ·subst h
   rw[if_pos rfl,if_pos (by rw[QF];exact hj),if_pos rfl];rfl
  ·rw[if_neg h,if_neg (λe=>h e.symm),<-List.getD_eq_getElem?_getD]
   have:=Jh n f j
   rw[if_pos hj] at this
   exact this
 ·rw[Mw (by simp[QF];omega),Mw (by simp[QF];omega)]
theorem Tryz.infoByteP:(Tryz.prog.info? 5).map (λi=>(i.zero,i.size,i.bytes))=some (some (.int .u8 0),1,1):=kX
def OwnB(base:Nat)(w:World)(v:Value)(bs:List UInt8):Prop:=w.ownsRow base 5 1 v bs.length (cB bs)
theorem OwnB.arg{base:Nat}{w:World}{v:Value}{bs:List UInt8}(h:OwnB base w v bs):∃ a c,v=.slice a bs.length c/\ArgB w a c bs/\∀ b o s,a=some ⟨b,o,s⟩->base<=b/\b<w.heap.size:=by
 obtain⟨a,c,rfl,h1,h2,h3,h4,_,h5⟩:=Gc h
 rw[Zd] at h2
 refine⟨a,c,by rw[Zd],⟨h2,h3,h1,h4.toB⟩,h5⟩
theorem OwnB.nil(base:Nat)(w:World):OwnB base w (.slice none 0 0) []:=⟨rfl,.inl ⟨rfl,rfl⟩⟩
theorem OwnB.mono{base base':Nat}{w:World}{v:Value}{bs:List UInt8}(h:OwnB base w v bs)(hb:base'<=base):OwnB base' w v bs:=by
 obtain⟨h1,h2⟩:=h
 refine⟨h1,?_⟩
 rcases h2 with h2|⟨g,cap,cur,e1,e2,e3⟩
 ·exact .inl h2
 ·exact .inr ⟨g,cap,cur,e1,oX,e3⟩
theorem MR(w:World)(base:Nat)(hb:base<=w.heap.size):OwnB base (w.alloc (.cells #[] 5)) (.slice (some ⟨w.heap.size,0,none⟩) 0 0) []:=by
 have h:=World.ownsRow_made (base:=base) (e:=5) (size:=1) w #[] 0 hb dX sX
 simpa[OwnB,cB] using h
theorem Xj(a:Option Addr)(cap:Nat)(bs:List UInt8)(w:World)(h:ArgB w a cap bs)(hr:bs.length<=1000000) :
  Calls Tryz.prog 97 #[.slice a bs.length cap] w λe w'=>∃ v,e=.returned v/\OwnB w.heap.size w' v bs/\Below w.heap.size w w':=by
 obtain⟨i0,hi,hz0,hz1,hz2⟩:=info_parts Tryz.infoByteP
 have h:=Hd h
 have hq:=@Lib.run_eql_slice_nil Tryz.prog w 24 5 a bs.length cap 0 0 Tryz.underlying24
 cases a with
 | none=>
  have hc:=h.out.nil rfl
  subst hc
  have hl:bs=[]:=List.eq_nil_of_length_eq_zero (by have:=h.out.len;omega)
  subst hl
  have hq':=@Lib.run_eql_slice_nil Tryz.prog w 24 5 none 0 0 0 0 Tryz.underlying24
  clear hq
  go_enter Tryz.func97,Tryz.ntmps97
  go_wp2_with fail
  go_ret
  exact⟨_,rfl,OwnB.nil _ _,Below.refl _ _⟩
 | some ad=>
  have hnil:=Hd (show (some ad=none->cap=0) from λe=>by cases e)
  have hlen:=Hd (Zd bs)
  have hown0:=Hd (MR w w.heap.size nR)
  have hb0:=Hd ((Below.refl w.heap.size w).alloc nR (.cells #[] 5))
  have hsrc:=Hd ((At.ofB h.out.row).below hb0.out)
  unfold OwnB at hown0
  go_enter Tryz.func97,Tryz.ntmps97
  go_wp2_with (at_builtin;go_must (refine Jl rfl (.tmp 5) (.tmp 6) 24 rfl w.heap.size 5 i0 (.int .u8 0) 1 Tryz.underlying24 hi hz0 hz1 hz2 dX _ 0 [] rfl hown0 _ bs.length cap (cB bs) rfl hlen hsrc hnil (ZU bs) (by unfold maxLen;omega) oX sX ?_))
  intro v' w2 hown2 hg2
  have hb2:=Hd (hb0.out.grown hg2.out sX (λk hk=>by cases hk;exact Nat.le_refl _))
  go_wp2_with fail
  go_ret
  refine⟨_,rfl,?_,hb2.out⟩
  have:=hown2.out
  simpa[OwnB] using this
section
variable {w:World} {ops:Array Oper} {rest:List Oper} {o:Oper} {a:Act} {Q:Exit->Act->World->Prop}
theorem KO(hgd:o.guard=none)(s x:Operand)(ho:o.op=.call { callee:=.builtin .append,args:=#[s,x],argTypes:=#[24,24] })
  (base:Nat) (v:Value) (bs:List UInt8) (hs:a.eval s=v) (hown:Hid (OwnB base w v bs))
  (u:UInt8) (hx:a.eval x=.slice (some ⟨w.heap.size,0,none⟩) 1 1) (hl:bs.length<=1000000) (hbase:base<=w.heap.size)
  (h:∀ v' w',Hid (OwnB base w' v' (bs++[u]))->Hid (Below base w w')->wpList Tryz.prog ops Q rest (a.put o.dst v') w') :
  wpList Tryz.prog ops Q (o::rest) a (w.alloc (.cells #[.int .u8 (u.toNat:Int)] 5)):=by
 obtain⟨i0,hi,hz0,hz1,hz2⟩:=info_parts Tryz.infoByteP
 refine XY hgd s x 24 ho base 5 i0 (.int .u8 0) 1 Tryz.underlying24 hi hz0 hz1 hz2 rfl v bs.length (cB bs) hs (Hd hown.out) (.int .u8 (u.toNat:Int)) hx rfl (by unfold maxLen;omega) oX hbase ?_
 intro v' w' h1 h2 _
 refine h v' w' (Hd ?_) (Hd ((Below.refl base w).grown h2.out hbase (λk hk=>(World.ownsRow.lt hown.out k hk).1)))
 unfold OwnB
 rw[QR,List.length_append]
 exact h1.out
theorem Uz(hgd:o.guard=none)(s x:Operand)(ho:o.op=.call { callee:=.builtin .append,args:=#[s,x],argTypes:=#[24,24] })
  (base:Nat) (v:Value) (bs:List UInt8) (hs:a.eval s=v) (hown:Hid (OwnB base w v bs))
  (ao:Option Addr) (c:Nat) (ys:List UInt8) (m:Nat) (hx:a.eval x=.slice ao m c) (hm:Hid (ys.length=m)) (hy:Hid (ArgB w ao c ys)) (hl:bs.length<=1000000) (hl2:m<=1000000) (hbase:base<=w.heap.size)
  (h:∀ v' w',Hid (OwnB base w' v' (bs++ys))->Hid (Below base w w')->wpList Tryz.prog ops Q rest (a.put o.dst v') w') :
  wpList Tryz.prog ops Q (o::rest) a w:=by
 obtain⟨i0,hi,hz0,hz1,hz2⟩:=info_parts Tryz.infoByteP
 refine Jl hgd s x 24 ho base 5 i0 (.int .u8 0) 1 Tryz.underlying24 hi hz0 hz1 hz2 rfl v bs.length (cB bs) hs (Hd hown.out) ao m c (cB ys) hx (Hd (by rw[Zd];exact hm.out)) (Hd (At.ofB hy.out.row)) (Hd hy.out.nil) (ZU ys) (by unfold maxLen;omega) oX hbase ?_
 intro v' w' h1 h2
 refine h v' w' (Hd ?_) (Hd ((Below.refl base w).grown h2.out hbase (λk hk=>(World.ownsRow.lt hown.out k hk).1)))
 unfold OwnB
 rw[QR,List.length_append,hm.out]
 exact h1.out
end
theorem PX(w:World)(t:TypeId)(bs:List UInt8)(cs:Array Value)(h:cs=(cB bs).toArray)(hl:bs.length<=1000000):ArgB (w.alloc (.cells cs t)) (some ⟨w.heap.size,0,none⟩) bs.length bs:=by
 subst h
 refine⟨Nat.le_refl _,(by unfold maxLen;omega),(λe=>by cases e),λi hi=>⟨_,_,rfl,?_⟩⟩
 rw[Za (heap_alloc_new w _)]
 simp[cB,hi]
theorem Pg(w:World)(bs:List UInt8)(cs:Array Value)(h:cs=(cB bs).toArray)(hl:bs.length<=1000000):OwnB w.heap.size (w.alloc (.cells cs 5)) (.slice (some ⟨w.heap.size,0,none⟩) bs.length bs.length) bs:=by
 subst h
 have:=World.ownsRow_lit (base:=w.heap.size) (e:=5) (size:=1) w (cB bs).toArray bs.length nR (by unfold maxLen;omega) (by simp[Zd])
 unfold OwnB
 simpa using this
theorem OwnB.below{base B:Nat}{w w':World}{v:Value}{bs:List UInt8}(h:OwnB base w v bs)(hb:Below B w w')(hB:w.heap.size<=B):OwnB base w' v bs:=by
 refine⟨h.1,?_⟩
 rcases h.2 with h2|⟨g,cap,cur,e1,e2,e3,e4⟩
 ·exact .inl h2
 ·exact .inr ⟨g,cap,cur,e1,e2,(hb.block g (by have:=Zb e3;omega)).trans e3,e4⟩
theorem OwnB.form{base:Nat}{w:World}{v:Value}{bs:List UInt8}(h:OwnB base w v bs)(hn:0<bs.length):∃ g c,v=.slice (some ⟨g,0,none⟩) bs.length c/\base<=g:=by
 rcases h.2 with ⟨_,hx⟩|⟨g,cap,cur,e1,e2,_⟩
 ·rw[hx] at hn;exact absurd hn oX
 ·exact⟨g,cap,e1,e2⟩
end Go.Proofs.YtpdhceiodgnbmaaGreatDoor
