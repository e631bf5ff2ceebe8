import Derived.Test.YtpdhceiodgnbmaaGreatDoorF0ReplaysSaid
import Derived.Test.YtpdhceiodgnbmaaGreatDoorF1ReplaysSaid
import Derived.Test.YtpdhceiodgnbmaaGreatDoorF3ReplaysSaid
import Derived.Lib.LazyBuf
import Derived.Test.YtpdhceiodgnbmaaGreatDoorRows
import Derived.Outline
import Derived.Lib.AppendZeros
import Derived.Test.YtpdhceiodgnbmaaGreatDoorF2ReplaysSaid
import Derived.Deep.MidRow
import Derived.Lib.SmallJoins
import Derived.Deep.Slices
import Derived.Deep.Fields
import Derived.ChangeSame
set_option linter.unusedVariables false
set_option linter.unusedSimpArgs false
set_option linter.unnecessarySimpa false
set_option maxRecDepth 100000
set_option maxHeartbeats 8000000
namespace Go.Proofs.YtpdhceiodgnbmaaGreatDoor
open Go.RowKit
theorem WY:(Tryz.prog.info? 58).map (·.size)=some 76:=kX
def Ja(ns:List It)(s:ByteArray):Int:=match ns.findIdx? (λx=>decide (x.s=s)) with
 | some i=>(i:Int)
 | none => -1
theorem Rp{ns:List It}{s:ByteArray}{k:Nat}(hk:k<ns.length)(h:∀ j (hj:j<ns.length),j<k->ns[j].s≠s)(he:ns[k].s=s):Ja ns s=(k:Int):=by
 have:ns.findIdx? (λx=>decide (x.s=s))=some k:=by
  rw[List.findIdx?_eq_some_iff_getElem]
  refine⟨hk,by simpa using he,λj hj=>?_⟩
  simpa using h j oX hj
 unfold Ja
 rw[this]
theorem HN{ns:List It}{s:ByteArray}(h:∀ j (hj:j<ns.length),ns[j].s≠s):Ja ns s = -1:=by
 have:ns.findIdx? (λx=>decide (x.s=s))=none:=by
  rw[List.findIdx?_eq_none_iff]
  intro x hx
  obtain⟨j,hj,rfl⟩:=List.getElem_of_mem hx
  simpa using h j hj
 unfold Ja
 rw[this]
theorem TE(x:It)(X:Array Value)(hX:X=x.list.toArray)(b:Nat)(s:ByteArray)(w:World)(hb:w.cell? ⟨b,0,none⟩=some (.string s)) :
  Calls Tryz.prog 48 #[.agg X,.pointer (some ⟨b,0,none⟩)] w λr w'=>r=.returned (.bool (decide (x.s=s)))/\Below w.heap.size w w':=by
 have hG:Below w.heap.size w (w.alloc (.cells X 58)):=bR.alloc nR _
 have k0:(w.alloc (.cells X 58)).cell? ⟨w.heap.size,1,none⟩=some (.string x.s):=by rw[Za (heap_alloc_new w _)];rw[hX];rfl
 have k1:=Xc hb (.cells X 58)
 replace hG:=Hd hG
 obtain⟨S,hS⟩:∃ S,S=x.s:=⟨_,rfl⟩
 rw[<-hS] at k0 ⊢
 replace hS:=Hd hS
 clear hX hb
 by_cases he:S=s
 ·subst he
  go_enter Tryz.func48,Tryz.ntmps48
  go_wp2_with fail
  go_ret
  exact⟨sX,hG.out⟩
 ·have hd:decide (S=s)=false:=decide_eq_false he
  rw[hd]
  go_enter Tryz.func48,Tryz.ntmps48
  go_wp2_with fail
  go_ret
  exact⟨by rw[show (S.toList==s.toList)=false by rw[NA,hd]];rfl,hG.out⟩
theorem H0(a:Option Addr)(c:Nat)(ns:List It)(hok:∀ x∈ns,x.Ok)(w:World)(h:RowAt It.list 76 w a ns)(hl:ns.length<=1000000)(b:Nat)(s:ByteArray)(hb:w.cell? ⟨b,0,none⟩=some (.string s)) :
  Calls Tryz.prog 47 #[.slice a ns.length c,.func (.func 48) #[] #[.pointer (some ⟨b,0,none⟩)]] w λr w'=>r=.returned (.int .i64 (Ja ns s))/\Below w.heap.size w w':=by
 have huN:Tryz.prog.underlying 58=_:=Tryz.underlying58
 obtain⟨q,hq⟩:∃ q,q=Ja ns s:=⟨_,rfl⟩
 rw[<-hq]
 obtain⟨N,hN⟩:∃ N,N=ns.length:=⟨_,rfl⟩
 rw[<-hN] at hl ⊢
 replace hN:=Hd hN
 replace hq:=Hd hq
 replace h:=Hd h
 replace hok:=Hd hok
 replace hb:=Hd hb
 go_enter Tryz.func47,Tryz.ntmps47
 go_wp2_with fail
 refine Qf [(false,4),(true,2),(false,2),(true,11)] _ [] (λU wr=>∃ k:Nat,k<=N/\U 8=.int .i64 (k:Nat)/\Below w.heap.size w wr/\∀ j (hj:j<ns.length),j<k->ns[j].s≠s) (λU _=>N-(intOf (U 8)).toNat) ?_ ?_
 ·simp only[List.getD_cons_zero,List.getD_cons_succ]
  exact⟨0,Nat.zero_le _,rfl,Below.refl _ _,λj _ hj=>absurd hj (Nat.not_lt_zero _)⟩
 ·intro U wr hrel KK hback l' hl'
  obtain⟨k,hk,h8,hbw,hle⟩:=hrel
  simp only[Qq,Qk,cond_true,cond_false,Nat.reduceAdd,h8] at hl'
  subst hl'
  replace h8:=Hd h8
  replace hle:=Hd hle
  by_cases hlt:k<N
  ·have hlt2:(k:Int)<(N:Int):=oX
   have hkN:k<ns.length:=by rw[<-hN.out];exact hlt
   obtain⟨b1,o1,rfl,hr1⟩:=h.out.below hbw nR k hkN
   have ox:=hok.out _ (List.getElem_mem hkN)
   have hhit:=λ(e:ns[k].s=s)=>Rp hkN hle.out e
   have hstep:=λ(e:ns[k].s≠s)=>show ∀ j (hj:j<ns.length),j<k+1->ns[j].s≠s from λj hj hjk=>by
    by_cases hjk2:j<k
    ·exact hle.out j hj hjk2
    ·obtain rfl:j=k:=oX
     exact e
   generalize ns[k]=x at*
   obtain⟨X,hX⟩:∃ X,X=x.list.toArray:=⟨_,rfl⟩
   have ix:(Tryz.prog.info? 58).map (·.size)=some x.list.length:=by rw[It.list_length ox];exact WY
   have hcall:=TE x X hX b s wr ((hbw.cell (World.block_lt_of_cell? w _ hb.out)).trans hb.out)
   have hsz:=hbw.size
   replace hX:=Hd hX
   replace hr1:=Hd hr1
   replace hbw:=Hd hbw
   replace hhit:=Hd hhit
   replace hstep:=Hd hstep
   replace ox:=Hd ox
   by_cases he:x.s=s
   ·have hqk:q=(k:Int):=by rw[hq.out];exact hhit.out he
    rw[decide_eq_true he] at hcall
    replace hcall:=Hd hcall
    subst hqk
    replace he:=Hd he
    clear hq
    go_wp2_with (refine wpList_load_mid rfl 58 (.tmp 14) rfl b1 (o1+k*76) rfl x.list _ hr1.out huN rfl ix ?_;rw[<-hX.out])
    with_reducible refine hcall.out.mono ?_
    rintro e w2 ⟨rfl,hb2⟩
    have hbf:=Hd (hbw.out.trans (hb2.mono hsz))
    go_wp2_with fail
    go_ret
    exact⟨rfl,hbf.out⟩
   ·rw[decide_eq_false he] at hcall
    replace hcall:=Hd hcall
    replace he:=Hd he
    go_wp2_with (refine wpList_load_mid rfl 58 (.tmp 14) rfl b1 (o1+k*76) rfl x.list _ hr1.out huN rfl ix ?_;rw[<-hX.out])
    with_reducible refine hcall.out.mono ?_
    rintro e w2 ⟨rfl,hb2⟩
    have hbf:=Hd (hbw.out.trans (hb2.mono hsz))
    go_wp2_with fail
    refine hback.out _ _ kX ?_ ?_
    ·simp only[List.getD_cons_zero,List.getD_cons_succ]
     exact⟨k+1,oX,by go_num,hbf.out,hstep.out he.out⟩
    ·have h8:=h8.out
     simp only[List.getD_cons_zero,List.getD_cons_succ,h8,intOf]
     omega
  ·obtain rfl:k=N:=oX
   have hqn:q = -1:=by rw[hq.out];exact HN (λj hj=>hle.out j hj (by rw[hN.out];exact hj))
   subst hqn
   replace hbw:=Hd hbw
   clear hq
   go_wp2_with fail
   go_ret
   exact⟨rfl,hbw.out⟩
def ZS(ns:List It)(s:ByteArray):It×Bool:=match ns.findIdx? (λx=>decide (x.s=s)) with
 | some i=>(ns.getD i default,true)
 | none=>(default,false)
theorem Z4(w:World)(C D E:Array Value)(t u v:TypeId)(W:World)(hW:W=((w.alloc (.cells C t)).alloc (.cells D u)).alloc (.cells E v)) :
  W.heap[w.heap.size]? = some (.cells C t (0,0))/\W.heap[w.heap.size+1]? = some (.cells D u (0,0))/\W.heap[w.heap.size+2]? = some (.cells E v (0,0))/\W.heap.size=w.heap.size+3/\Below w.heap.size w W:=by
 obtain⟨h1,h2,h3,h4⟩:=Y6 w C D t u _ rfl
 subst hW
 refine⟨Ve h1 _,Ve h2 _,?_,sX,h4.alloc oX _⟩
 have h:=heap_alloc_new ((w.alloc (.cells C t)).alloc (.cells D u)) (.cells E v (0,0))
 rw[h3] at h
 exact h
theorem JL(va:Value)(m:St)(w:World)(ha:ArgS w va m)(hl:m.its.length<=1000)(s:ByteArray) :
  Calls Tryz.prog 18 #[va,.string s] w λx w'=>x=.returned (.tuple #[.agg (ZS m.its s).1.list.toArray,.bool (ZS m.its s).2])/\Below w.heap.size w w':=by
 have hit:∀ W,Below w.heap.size w W->Calls Tryz.prog 17 #[va,.int .i64 (Ja m.its s)] W λx w'=>x=.returned (.tuple #[.agg (ZS m.its s).1.list.toArray,.bool (ZS m.its s).2])/\Below W.heap.size W w':=by
  intro W hW
  have ha2:=ha.below hW nR
  unfold Ja ZS
  cases hf:m.its.findIdx? (λx=>decide (x.s=s)) with
  | none=>exact Ki va m W ha2 (-1) oX hl
  | some i=>
   have hi:i<m.its.length:=(List.findIdx?_eq_some_iff_getElem.1 hf).1
   have:=Xj va m W ha2 i hi hl
   simp only[List.getD_eq_getElem?_getD,List.getElem?_eq_getElem hi,Option.getD_some]
   exact this
 have hok:(ZS m.its s).1.Ok:=by
  obtain⟨_,okN,_⟩:=ha
  have hd:(default:It).Ok:=⟨dX,dX,⟨dX,dX,dX,dX,dX,dX⟩,rfl,rfl,dX,dX,dX⟩
  unfold ZS
  cases hf:m.its.findIdx? (λx=>decide (x.s=s)) with
  | none=>exact hd
  | some i=>
   have hi:i<m.its.length:=(List.findIdx?_eq_some_iff_getElem.1 hf).1
   simp only[List.getD_eq_getElem?_getD,List.getElem?_eq_getElem hi,Option.getD_some]
   exact okN _ (List.getElem_mem hi)
 have hix:∀ W b,Below w.heap.size w W->W.cell? ⟨b,0,none⟩=some (.string s)->∀ an cn,(∃ av cv V,va=.agg #[.slice an m.its.length cn,.slice av V cv])->Calls Tryz.prog 47 #[.slice an m.its.length cn,.func (.func 48) #[] #[.pointer (some ⟨b,0,none⟩)]] W λr w'=>r=.returned (.int .i64 (Ja m.its s))/\Below W.heap.size W w':=by
  intro W b hW hb an cn ⟨av,cv,V,e⟩
  obtain⟨⟨a,c,a',c',e2,h1,_⟩,okN,_⟩:=ha.below hW nR
  rw[e] at e2
  cases e2
  exact H0 an cn m.its okN W h1 oX b s hb
 obtain⟨⟨an,cn,av,cv,rfl,hN,hN1,hN2,hV,hV1,hV2⟩,okN,okV⟩:=ha
 have hix2:=λW b h1 h2=>hix W b h1 h2 an cn ⟨av,cv,_,rfl⟩
 generalize Ja m.its s=q at*
 generalize (ZS m.its s).2=kn at*
 obtain⟨XA,hXA⟩:∃ XA,XA=(ZS m.its s).1.list.toArray:=⟨_,rfl⟩
 have iA:(Tryz.prog.info? 58).map (·.size)=some XA.size:=by rw[hXA,It.size hok];kernel_rfl
 have zA:(Tryz.zeroCells58).size=XA.size:=by rw[hXA,It.size hok];kernel_rfl
 have h1A:XA.all (·.oneCell')=true:=by rw[hXA];exact It.all_one _
 rw[<-hXA] at hit ⊢
 have hu:=Tryz.underlying58
 obtain⟨N,hNl⟩:∃ N,N=m.its.length:=⟨_,rfl⟩
 obtain⟨V,hVl⟩:∃ V,V=m.ens.length:=⟨_,rfl⟩
 rw[<-hNl,<-hVl] at hit
 rw[<-hNl] at hix2
 rw[<-hNl,<-hVl]
 obtain⟨a1,a2,a3,hs3,hB⟩:=Z4 w #[.slice an N cn,.slice av V cv] #[.string s] Tryz.zeroCells58 28 9 58 _ rfl
 obtain⟨w3,hw3⟩:∃ w3,w3=((w.alloc (.cells #[.slice an N cn,.slice av V cv] 28)).alloc (.cells #[.string s] 9)).alloc (.cells Tryz.zeroCells58 58):=⟨_,rfl⟩
 have e10:=Za a1 0
 rw[<-hw3] at a1 a2 a3 hs3 hB
 replace hw3:=Hd hw3
 replace hit:=Hd hit
 replace hix2:=Hd hix2
 replace a1:=Hd a1
 replace a2:=Hd a2
 replace a3:=Hd a3
 replace hB:=Hd hB
 replace hs3:=Hd hs3
 clear hix hN hV hN1 hN2 hV1 hV2 okN okV hXA hok hNl hVl hl
 go_enter Tryz.func18,Tryz.ntmps18
 go_wp2_with fail
 rw[<-hw3.out]
 with_reducible refine(hix2.out w3 (w.heap.size+1) hB.out (by rw[Za a2.out];simp)).mono ?_
 rintro e w4 ⟨rfl,hb⟩
 have b1:=(hb.block _ (Zb a1.out)).trans a1.out
 have b3:=Hd ((hb.block _ (Zb a3.out)).trans a3.out)
 have f0:=Za b1 0
 have f1:=Za b1 1
 have hB4:=Hd (hB.out.trans (hb.mono hB.out.size))
 clear b1 hb e10
 go_wp2_with fail
 with_reducible refine(hit.out w4 hB4.out).mono ?_
 rintro e w5 ⟨rfl,hb⟩
 have c3:=Hd ((hb.block _ (Zb b3.out)).trans b3.out)
 have hB5:=Hd (hB4.out.trans (hb.mono hB4.out.size))
 clear hb f0 f1
 go_wp2_with ((with_reducible refine wL (.store 58 (.tmp 4) _) ?_);(refine Zc rfl 58 (.tmp 4) (.tmp 14) rfl (w.heap.size+2) _ XA rfl rfl c3 iA zA h1A ?_);intro w6 hU6)
 refine Zf rfl rfl hu rfl iA hU6.out.here ?_
 exact⟨rfl,hB5.out.trans (hU6.out.below oX)⟩
def cf(p:List UInt8)(i:Nat):UInt8:=p.getD i 0
theorem WO{p:List UInt8}{i:Nat}(h:i<p.length):cf p i=p[i]:=by simp[cf,h]
theorem TD{p:List UInt8}{i:Nat}(h:p.length<=i):cf p i=0:=by simp[cf,h]
theorem GS{p q:List UInt8}(hl:p.length=q.length)(h:∀ i,cf p i=cf q i):p=q:=by
 apply List.ext_getElem hl
 intro i h1 h2
 have:=h i
 rwa [WO h1,WO h2] at this
def tab(n:Nat)(f:Nat->UInt8):List UInt8:=(List.range n).map f
theorem QJ(n:Nat)(f:Nat->UInt8):(tab n f).length=n:=by simp[tab]
theorem Vq(n:Nat)(f:Nat->UInt8)(i:Nat):cf (tab n f) i=if i<n then f i else 0:=by
 unfold cf tab
 by_cases h:i<n
 ·simp[h]
 ·simp[h]
theorem LY(p:List UInt8):tab p.length (cf p)=p:=by
 apply GS (QJ _ _)
 intro i
 rw[Vq]
 by_cases h:i<p.length
 ·rw[if_pos h]
 ·rw[if_neg h,TD (Nat.le_of_not_lt h)]
theorem Uh{n:Nat}{f g:Nat->UInt8}(h:∀ i,i<n->f i=g i):tab n f=tab n g:=by
 apply GS (by simp[QJ])
 intro i
 rw[Vq,Vq]
 by_cases hi:i<n
 ·rw[if_pos hi,if_pos hi,h i hi]
 ·rw[if_neg hi,if_neg hi]
theorem LA(n:Nat)(f:Nat->UInt8)(i:Nat)(x:UInt8):(tab n f).set i x=tab n λj=>if j=i then x else f j:=by
 apply GS (by simp[QJ])
 intro j
 by_cases hj:j<n
 ·rw[Vq,if_pos hj]
  unfold cf
  rw[List.getD_eq_getElem?_getD,List.getElem?_set]
  by_cases h:i=j
  ·subst h
   rw[if_pos rfl,if_pos (by rw[QJ];exact hj),if_pos rfl];rfl
  ·rw[if_neg h,if_neg (λe=>h e.symm),<-List.getD_eq_getElem?_getD]
   have:=Vq n f j
   rw[if_pos hj] at this
   exact this
 ·rw[TD (by simp[QJ];omega),TD (by simp[QJ];omega)]
theorem Vz(n:Nat):tab n (λ_=>0)=List.replicate n 0:=by
 apply List.ext_getElem (by simp[tab])
 intro i h1 h2
 simp[tab]
theorem Tryz.infoByteP:(Tryz.prog.info? 5).map (λi=>(i.zero,i.size,i.bytes))=some (some (.int .u8 0),1,1):=kX
def OwnB(base:Nat)(w:World)(v:Value)(bs:List UInt8):Prop:=w.ownsRow base 5 1 v bs.length (cB bs)
theorem OwnB.arg{base:Nat}{w:World}{v:Value}{bs:List UInt8}(h:OwnB base w v bs):∃ a c,v=.slice a bs.length c/\ArgB w a c bs/\∀ b o s,a=some ⟨b,o,s⟩->base<=b/\b<w.heap.size:=by
 obtain⟨a,c,rfl,h1,h2,h3,h4,_,h5⟩:=N1 h
 rw[Zg] at h2
 refine⟨a,c,by rw[Zg],⟨h2,h3,h1,h4.toB⟩,h5⟩
theorem OwnB.nil(base:Nat)(w:World):OwnB base w (.slice none 0 0) []:=⟨rfl,.inl ⟨rfl,rfl⟩⟩
theorem OwnB.mono{base base':Nat}{w:World}{v:Value}{bs:List UInt8}(h:OwnB base w v bs)(hb:base'<=base):OwnB base' w v bs:=by
 obtain⟨h1,h2⟩:=h
 refine⟨h1,?_⟩
 rcases h2 with h2|⟨g,cap,cur,e1,e2,e3⟩
 ·exact .inl h2
 ·exact .inr ⟨g,cap,cur,e1,oX,e3⟩
theorem T1(w:World)(base:Nat)(hb:base<=w.heap.size):OwnB base (w.alloc (.cells #[] 5)) (.slice (some ⟨w.heap.size,0,none⟩) 0 0) []:=by
 have h:=World.ownsRow_made (base:=base) (e:=5) (size:=1) w #[] 0 hb dX sX
 simpa[OwnB,cB] using h
theorem X4(a:Option Addr)(cap:Nat)(bs:List UInt8)(w:World)(h:ArgB w a cap bs)(hr:bs.length<=1000000) :
  Calls Tryz.prog 97 #[.slice a bs.length cap] w λe w'=>∃ v,e=.returned v/\OwnB w.heap.size w' v bs/\Below w.heap.size w w':=by
 obtain⟨i0,hi,hz0,hz1,hz2⟩:=info_parts Tryz.infoByteP
 have h:=Hd h
 have hq:=@Lib.run_eql_slice_nil Tryz.prog w 24 5 a bs.length cap 0 0 Tryz.underlying24
 cases a with
 | none=>
  have hc:=h.out.nil rfl
  subst hc
  have hl:bs=[]:=List.eq_nil_of_length_eq_zero (by have:=h.out.len;omega)
  subst hl
  have hq':=@Lib.run_eql_slice_nil Tryz.prog w 24 5 none 0 0 0 0 Tryz.underlying24
  clear hq
  go_enter Tryz.func97,Tryz.ntmps97
  go_wp2_with fail
  go_ret
  exact⟨_,rfl,OwnB.nil _ _,Below.refl _ _⟩
 | some ad=>
  have hnil:=Hd (show (some ad=none->cap=0) from λe=>by cases e)
  have hlen:=Hd (Zg bs)
  have hown0:=Hd (T1 w w.heap.size nR)
  have hb0:=Hd ((Below.refl w.heap.size w).alloc nR (.cells #[] 5))
  have hsrc:=Hd ((At.ofB h.out.row).below hb0.out)
  unfold OwnB at hown0
  go_enter Tryz.func97,Tryz.ntmps97
  go_wp2_with (at_builtin;go_must (refine VE rfl (.tmp 5) (.tmp 6) 24 rfl w.heap.size 5 i0 (.int .u8 0) 1 Tryz.underlying24 hi hz0 hz1 hz2 dX _ 0 [] rfl hown0 _ bs.length cap (cB bs) rfl hlen hsrc hnil (ZQ bs) (by unfold maxLen;omega) oX sX ?_))
  intro v' w2 hown2 hg2
  have hb2:=Hd (hb0.out.grown hg2.out sX (λk hk=>by cases hk;exact Nat.le_refl _))
  go_wp2_with fail
  go_ret
  refine⟨_,rfl,?_,hb2.out⟩
  have:=hown2.out
  simpa[OwnB] using this
section
variable {w:World} {ops:Array Oper} {rest:List Oper} {o:Oper} {a:Act} {Q:Exit->Act->World->Prop}
theorem Nk(hgd:o.guard=none)(s x:Operand)(ho:o.op=.call { callee:=.builtin .append,args:=#[s,x],argTypes:=#[24,24] })
  (base:Nat) (v:Value) (bs:List UInt8) (hs:a.eval s=v) (hown:Hid (OwnB base w v bs))
  (u:UInt8) (hx:a.eval x=.slice (some ⟨w.heap.size,0,none⟩) 1 1) (hl:bs.length<=1000000) (hbase:base<=w.heap.size)
  (h:∀ v' w',Hid (OwnB base w' v' (bs++[u]))->Hid (Below base w w')->wpList Tryz.prog ops Q rest (a.put o.dst v') w') :
  wpList Tryz.prog ops Q (o::rest) a (w.alloc (.cells #[.int .u8 (u.toNat:Int)] 5)):=by
 obtain⟨i0,hi,hz0,hz1,hz2⟩:=info_parts Tryz.infoByteP
 refine Vr hgd s x 24 ho base 5 i0 (.int .u8 0) 1 Tryz.underlying24 hi hz0 hz1 hz2 rfl v bs.length (cB bs) hs (Hd hown.out) (.int .u8 (u.toNat:Int)) hx rfl (by unfold maxLen;omega) oX hbase ?_
 intro v' w' h1 h2 _
 refine h v' w' (Hd ?_) (Hd ((Below.refl base w).grown h2.out hbase (λk hk=>(World.ownsRow.lt hown.out k hk).1)))
 unfold OwnB
 rw[Y5,List.length_append]
 exact h1.out
theorem Gc(hgd:o.guard=none)(s x:Operand)(ho:o.op=.call { callee:=.builtin .append,args:=#[s,x],argTypes:=#[24,24] })
  (base:Nat) (v:Value) (bs:List UInt8) (hs:a.eval s=v) (hown:Hid (OwnB base w v bs))
  (ao:Option Addr) (c:Nat) (ys:List UInt8) (m:Nat) (hx:a.eval x=.slice ao m c) (hm:Hid (ys.length=m)) (hy:Hid (ArgB w ao c ys)) (hl:bs.length<=1000000) (hl2:m<=1000000) (hbase:base<=w.heap.size)
  (h:∀ v' w',Hid (OwnB base w' v' (bs++ys))->Hid (Below base w w')->wpList Tryz.prog ops Q rest (a.put o.dst v') w') :
  wpList Tryz.prog ops Q (o::rest) a w:=by
 obtain⟨i0,hi,hz0,hz1,hz2⟩:=info_parts Tryz.infoByteP
 refine VE hgd s x 24 ho base 5 i0 (.int .u8 0) 1 Tryz.underlying24 hi hz0 hz1 hz2 rfl v bs.length (cB bs) hs (Hd hown.out) ao m c (cB ys) hx (Hd (by rw[Zg];exact hm.out)) (Hd (At.ofB hy.out.row)) (Hd hy.out.nil) (ZQ ys) (by unfold maxLen;omega) oX hbase ?_
 intro v' w' h1 h2
 refine h v' w' (Hd ?_) (Hd ((Below.refl base w).grown h2.out hbase (λk hk=>(World.ownsRow.lt hown.out k hk).1)))
 unfold OwnB
 rw[Y5,List.length_append,hm.out]
 exact h1.out
end
theorem DA(w:World)(t:TypeId)(bs:List UInt8)(cs:Array Value)(h:cs=(cB bs).toArray)(hl:bs.length<=1000000):ArgB (w.alloc (.cells cs t)) (some ⟨w.heap.size,0,none⟩) bs.length bs:=by
 subst h
 refine⟨Nat.le_refl _,(by unfold maxLen;omega),(λe=>by cases e),λi hi=>⟨_,_,rfl,?_⟩⟩
 rw[Za (heap_alloc_new w _)]
 simp[cB,hi]
theorem LI(w:World)(bs:List UInt8)(cs:Array Value)(h:cs=(cB bs).toArray)(hl:bs.length<=1000000):OwnB w.heap.size (w.alloc (.cells cs 5)) (.slice (some ⟨w.heap.size,0,none⟩) bs.length bs.length) bs:=by
 subst h
 have:=World.ownsRow_lit (base:=w.heap.size) (e:=5) (size:=1) w (cB bs).toArray bs.length nR (by unfold maxLen;omega) (by simp[Zg])
 unfold OwnB
 simpa using this
theorem OwnB.below{base B:Nat}{w w':World}{v:Value}{bs:List UInt8}(h:OwnB base w v bs)(hb:Below B w w')(hB:w.heap.size<=B):OwnB base w' v bs:=by
 refine⟨h.1,?_⟩
 rcases h.2 with h2|⟨g,cap,cur,e1,e2,e3,e4⟩
 ·exact .inl h2
 ·exact .inr ⟨g,cap,cur,e1,e2,(hb.block g (by have:=Zb e3;omega)).trans e3,e4⟩
theorem OwnB.made{base g n cap:Nat}{w:World}(h:w.ownsRow base 5 1 (.slice (some ⟨g,0,none⟩) n cap) n (madeCells #[Value.int .u8 0] n).toList):OwnB base w (.slice (some ⟨g,0,none⟩) n cap) (tab n λ_=>0):=by
 unfold OwnB
 rw[QJ,Vz]
 rw[show cB (List.replicate n 0)=(madeCells #[Value.int .u8 0] n).toList from by rw[toList_madeCells_one];simp[cB]]
 exact h
theorem OwnB.form{base:Nat}{w:World}{v:Value}{bs:List UInt8}(h:OwnB base w v bs)(hn:0<bs.length):∃ g c,v=.slice (some ⟨g,0,none⟩) bs.length c/\base<=g:=by
 rcases h.2 with ⟨_,hx⟩|⟨g,cap,cur,e1,e2,_⟩
 ·rw[hx] at hn;exact absurd hn oX
 ·exact⟨g,cap,e1,e2⟩
theorem Wc(n:Nat)(w:World)(h1:1<=n)(h2:n<=1000000):Calls Tryz.prog 167 #[.slice none 0 0,.int .i64 (n:Int)] w λe w'=>∃ v,e=.returned v/\OwnB w.heap.size w' v []/\Below w.heap.size w w':=by
 obtain⟨i0,hi,hz0,hz1,hz2⟩:=info_parts Tryz.infoByteP
 have happ:=Lib.run_append_nil_zeros (P:=Tryz.prog) w 24 3 24 5 i0 (.int .u8 0) .i64 .i64 Tryz.underlying24 Tryz.underlying3 hi hz0 n oX oX oX (by rw[hz2];omega)
 generalize hcap:grownCap w n 0 5=cap2 at happ
 have hcapge:n<=cap2:=by rw[<-hcap];exact grownCap_ge w _ 0 5
 have hcaple:cap2<=maxLen:=by rw[<-hcap];exact grownCap_le_maxLen w _ 0 5 (by unfold maxLen;omega)
 generalize hZ:(Builtin.zeroCells (Value.int .u8 0).cells n++Builtin.zeroCells (Value.int .u8 0).cells (cap2-n))=Z at happ
 have hZs:Z.size=cap2:=by rw[<-hZ];simp[size_zeroCells,Value.cells];omega
 clear hcap hZ
 have hZs:=Hd hZs
 have h3:=Hd hcaple
 clear hcaple
 have happ:=Hd happ
 go_enter Tryz.func167,Tryz.ntmps167
 go_wp2_with (at_builtin;refine Lib.wpList_append_run _ rfl _ _ _ _ rfl _ _ rfl rfl _ _ happ.out ?_)
 go_ret
 refine⟨_,rfl,?_,?_⟩
 ·exact⟨rfl,.inr ⟨w.heap.size,cap2,Z,rfl,Nat.le_refl _,heap_alloc_new w _,Nat.zero_le _,h3.out,by rw[Nat.mul_one];exact hZs.out,rfl⟩⟩
 ·exact Below.alloc (Drawn.below ⟨1,rfl⟩ _) nR _
def RowsAt(w:World)(b:Nat)(ps:List (List UInt8)):Prop:=∀ k,k<ps.length->∃ a c,w.cell? ⟨b,k,none⟩=some (.slice a (ps.getD k []).length c)/\ArgB w a c (ps.getD k [])
theorem RowsAt.below{w w':World}{b:Nat}{ps:List (List UInt8)}(h:RowsAt w b ps)(hb:Below w.heap.size w w'):RowsAt w' b ps:=λk hk=>by
 obtain⟨a,c,h1,h2⟩:=h k hk
 exact⟨a,c,(hb.cell (World.block_lt_of_cell? w _ h1)).trans h1,h2.below hb⟩
def QP(ps:List (List UInt8))(k:Nat):Nat:=((ps.take k).flatten).length
theorem GG{ps:List (List UInt8)}{k:Nat}(h:k<ps.length):(ps.take (k+1)).flatten=(ps.take k).flatten++ps.getD k []:=by
 rw[List.take_succ_eq_append_getElem h,List.flatten_append,List.getD_eq_getElem?_getD,List.getElem?_eq_getElem h]
 simp
theorem UV{ps:List (List UInt8)}{k:Nat}(h:k<ps.length):QP ps (k+1)=QP ps k+(ps.getD k []).length:=by
 unfold QP
 rw[GG h,List.length_append]
theorem Gy(ps:List (List UInt8))(k:Nat):QP ps k<=ps.flatten.length:=by
 have h:(ps.take k).flatten.length+(ps.drop k).flatten.length=ps.flatten.length:=by rw[<-List.length_append,<-List.flatten_append,List.take_append_drop]
 unfold QP
 omega
theorem UT(b:Nat)(ps:List (List UInt8))(w:World)(hA:RowsAt w b ps)(hm:ps.length<=100000)(h1:1<=ps.flatten.length)(h2:ps.flatten.length<=1000000) :
  Calls Tryz.prog 140 #[.slice (some ⟨b,0,none⟩) ps.length ps.length] w λe w'=>∃ v,e=.returned v/\OwnB w.heap.size w' v ps.flatten/\Below w.heap.size w w':=by
 obtain⟨L,hL⟩:∃ L,L=ps.length:=⟨_,rfl⟩
 have hA2:=Hd hA
 rw[<-hL]
 replace hL:=Hd hL
 have hLm:L<=100000:=by rw[hL.out];exact hm
 go_enter Tryz.func140,Tryz.ntmps140
 go_wp2_with fail
 go_loop [3,5,11] (λs _ j=>∃ k:Nat,k<=L/\j=.int .i64 k/\s=.int .i64 (QP ps k)) (λ_ _ j=>L-(intOf j).toNat)
 case atStart=>exact⟨0,Nat.zero_le _,rfl,rfl⟩
 case round=>
  obtain⟨k,hk,rfl,rfl⟩:=hrel
  by_cases hlt:k<L
  ·have hkp:k<ps.length:=by rw[<-hL.out];exact hlt
   obtain⟨ai,ci,hc,ha⟩:=hA2.out k hkp
   have hli:(k:Int)<L:=oX
   have hs:=UV hkp
   have hle:=Gy ps (k+1)
   have hneg:¬((QP ps k:Int)+(ps.getD k []).length<0):=oX
   have hs2:=Hd (show ((QP ps k:Int)+(ps.getD k []).length)=(QP ps (k+1):Int) from by omega)
   have hb:QP ps (k+1)<=1000000:=oX
   generalize (ps.getD k []).length=l at*
   generalize QP ps k=S at*
   have hw:IntKind.i64.wrap ((S:Int)+l)=(S:Int)+l:=IntWalk.i64_in _ oX
   clear hs hle ha
   go_wp2_with fail
   exact⟨⟨k+1,oX,by go_num,by rw[<-hs2.out]⟩,by simp[intOf];omega⟩
  ·obtain rfl:k=L:=oX
   have hfl:QP ps k=ps.flatten.length:=by unfold QP;rw[hL.out,List.take_length]
   rw[hfl]
   clear hfl
   have hg:=Hd (Wc ps.flatten.length w h1 oX)
   have hfn:=Hd (show ∀ i,QP ps i<=ps.flatten.length from Gy ps)
   generalize ps.flatten.length=nn at*
   go_wp2_with fail
   with_reducible refine hg.out.mono ?_
   rintro e w1 ⟨v,rfl,ho,hb1⟩
   replace ho:=Hd ho
   replace hb1:=Hd hb1
   clear hg
   go_wp2_with fail
   go_loopw [6,8,27] (λv _ j wr=>∃ i:Nat,i<=k/\j=.int .i64 i/\OwnB w.heap.size wr v (ps.take i).flatten/\Below w.heap.size w wr) (λ_ _ j _=>k-(intOf j).toNat)
   case atStart=>exact⟨0,Nat.zero_le _,rfl,ho.out,hb1.out⟩
   case round=>
    clear ho hb1
    obtain⟨i,hi,rfl,hown,hbel⟩:=hrel
    have hsz:=hbel.size
    have hA3:=hA2.out.below hbel
    replace hbel:=Hd hbel
    replace hown:=Hd hown
    by_cases hil:i<k
    ·have hip:i<ps.length:=by rw[<-hL.out];exact hil
     obtain⟨ai,ci,hc,ha⟩:=hA3 i hip
     have hli:(i:Int)<k:=oX
     have htk:=Hd (GG hip)
     have hlx:=Hd (Eq.refl (ps.getD i []).length)
     have hle:=hfn.out i
     have hle2:=hfn.out (i+1)
     have hsu:=UV hip
     have hz1:(ps.take i).flatten.length<=1000000:=by unfold QP at hle;omega
     have hz2:(ps.getD i []).length<=1000000:=oX
     clear hle hle2 hsu hA3
     replace ha:=Hd ha
     generalize ps.getD i []=p at*
     go_wp2_with (at_builtin;go_must (refine Gc rfl (.tmp 31) (.tmp 32) rfl w.heap.size _ (ps.take i).flatten rfl hown ai ci p _ rfl hlx ha oX oX hsz ?_))
     intro v' w3 hown3 hb3
     go_wp2_with fail
     go_roundw
     case rel=>exact⟨i+1,oX,by go_num,by rw[htk.out];exact hown3.out,hbel.out.trans hb3.out⟩
     case measure=>simp[intOf];omega
    ·obtain rfl:i=k:=oX
     rw[show ps.take i=ps from by rw[hL.out,List.take_length]] at hown
     clear hA3
     go_wp2_with fail
     go_ret
     exact⟨_,rfl,hown.out,hbel.out⟩
theorem Zk(w:World)(o:Obj)(k:Nat):(w.alloc o).heap[k]? = if k=w.heap.size then some o else w.heap[k]? := by
 show (w.heap.push o)[k]? = _
 rw[Array.getElem?_push]
def inB(x lo hi:Int):Bool:=decide (lo<=x)&&decide (x<=hi)
theorem Z2(x lo hi:Int)(w:World):Calls Tryz.prog 64 #[.int .i64 x,.int .i64 lo,.int .i64 hi] w λe w'=>e=.returned (.bool (inB x lo hi))/\w=w':=by
 unfold inB
 cases h1:decide (lo<=x)<;>cases h2:decide (x<=hi)
 all_goals
  go_enter Tryz.func64,Tryz.ntmps64
  go_wp2_with fail
  go_ret
  exact⟨rfl,rfl⟩
def Zy(k o i y x v t:Int):Bool:=
 inB o 0 1099511627776&&inB t 0 1099511627776&&(if k=2 then inB y 1 2&&inB x 0 1048576&&inB i 0 1099511627776 else if k=3 then inB v 1 3&&inB i 0 1099511627776 else true)
theorem GA(R:Array Value)(k o i y x v t:Int)(hs:R.size=78)(r0:∀ h,R[0]'h=.int .i64 k)(r1:∀ h,R[1]'h=.int .i64 o)(r7:∀ h,R[77]'h=.int .i64 t)(h2:k≠2)(h3:k≠3)(w:World) :
  Calls Tryz.prog 86 #[.agg R] w λe w'=>e=.returned (.bool (Zy k o i y x v t))/\Below w.heap.size w w':=by
 have hb:=Hd (show Below w.heap.size w (w.alloc (.cells R 49)) from bR.alloc nR _)
 have e2:(k==2)=false:=by simpa using h2
 have e3:(k==3)=false:=by simpa using h3
 have hn:Zy k o i y x v t=(inB o 0 1099511627776&&inB t 0 1099511627776):=by unfold Zy;rw[if_neg h2,if_neg h3,Bool.and_true]
 rw[hn]
 clear hn h2 h3
 go_enter Tryz.func86,Tryz.ntmps86
 go_wp2_with fail
 with_reducible refine(Z2 o 0 1099511627776 _).mono ?_
 rintro e w1 ⟨rfl,rfl⟩
 cases h0:inB o 0 1099511627776
 ·replace h0:=Hd h0
  go_wp2_with fail
  go_ret
  exact⟨by rw[h0.out];rfl,hb.out⟩
 ·replace h0:=Hd h0
  go_wp2_with fail
  with_reducible refine(Z2 t 0 1099511627776 _).mono ?_
  rintro e w1 ⟨rfl,rfl⟩
  go_wp2_with fail
  go_ret
  exact⟨by rw[h0.out,Bool.true_and];rfl,hb.out⟩
theorem G9(R:Array Value)(o i y x v t:Int)(hs:R.size=78)(r0:∀ h,R[0]'h=.int .i64 3)(r1:∀ h,R[1]'h=.int .i64 o)(r2:∀ h,R[2]'h=.int .i64 i)(r6:∀ h,R[76]'h=.int .i64 v)(r7:∀ h,R[77]'h=.int .i64 t)(w:World) :
  Calls Tryz.prog 86 #[.agg R] w λe w'=>e=.returned (.bool (Zy 3 o i y x v t))/\Below w.heap.size w w':=by
 have hb:=Hd (show Below w.heap.size w (w.alloc (.cells R 49)) from bR.alloc nR _)
 have hn:Zy 3 o i y x v t=(inB o 0 1099511627776&&inB t 0 1099511627776&&(inB v 1 3&&inB i 0 1099511627776)):=rfl
 rw[hn]
 clear hn
 go_enter Tryz.func86,Tryz.ntmps86
 go_wp2_with fail
 with_reducible refine(Z2 o 0 1099511627776 _).mono ?_
 rintro e w1 ⟨rfl,rfl⟩
 cases h0:inB o 0 1099511627776
 ·replace h0:=Hd h0
  go_wp2_with fail
  go_ret
  exact⟨by rw[h0.out];rfl,hb.out⟩
 ·replace h0:=Hd h0
  go_wp2_with fail
  with_reducible refine(Z2 t 0 1099511627776 _).mono ?_
  rintro e w1 ⟨rfl,rfl⟩
  cases h1:inB t 0 1099511627776
  ·replace h1:=Hd h1
   go_wp2_with fail
   go_ret
   exact⟨by rw[h0.out,h1.out];rfl,hb.out⟩
  ·replace h1:=Hd h1
   go_wp2_with fail
   with_reducible refine(Z2 v 1 3 _).mono ?_
   rintro e w1 ⟨rfl,rfl⟩
   cases h2:inB v 1 3
   ·replace h2:=Hd h2
    go_wp2_with fail
    go_ret
    exact⟨by rw[h0.out,h1.out,h2.out];rfl,hb.out⟩
   ·replace h2:=Hd h2
    go_wp2_with fail
    with_reducible refine(Z2 i 0 1099511627776 _).mono ?_
    rintro e w1 ⟨rfl,rfl⟩
    go_wp2_with fail
    go_ret
    exact⟨by rw[h0.out,h1.out,h2.out];rfl,hb.out⟩
theorem Ma(R:Array Value)(o i y x v t:Int)(hs:R.size=78)(r0:∀ h,R[0]'h=.int .i64 2)(r1:∀ h,R[1]'h=.int .i64 o)(r2:∀ h,R[2]'h=.int .i64 i)(r4:∀ h,R[74]'h=.int .i64 y)(r5:∀ h,R[75]'h=.int .i64 x)(r7:∀ h,R[77]'h=.int .i64 t)(w:World) :
  Calls Tryz.prog 86 #[.agg R] w λe w'=>e=.returned (.bool (Zy 2 o i y x v t))/\Below w.heap.size w w':=by
 have hb:=Hd (show Below w.heap.size w (w.alloc (.cells R 49)) from bR.alloc nR _)
 have hn:Zy 2 o i y x v t=(inB o 0 1099511627776&&inB t 0 1099511627776&&(inB y 1 2&&inB x 0 1048576&&inB i 0 1099511627776)):=rfl
 rw[hn]
 clear hn
 go_enter Tryz.func86,Tryz.ntmps86
 go_wp2_with fail
 with_reducible refine(Z2 o 0 1099511627776 _).mono ?_
 rintro e w1 ⟨rfl,rfl⟩
 cases h0:inB o 0 1099511627776
 ·replace h0:=Hd h0
  go_wp2_with fail
  go_ret
  exact⟨by rw[h0.out];rfl,hb.out⟩
 ·replace h0:=Hd h0
  go_wp2_with fail
  with_reducible refine(Z2 t 0 1099511627776 _).mono ?_
  rintro e w1 ⟨rfl,rfl⟩
  cases h1:inB t 0 1099511627776
  ·replace h1:=Hd h1
   go_wp2_with fail
   go_ret
   exact⟨by rw[h0.out,h1.out];rfl,hb.out⟩
  ·replace h1:=Hd h1
   go_wp2_with fail
   with_reducible refine(Z2 y 1 2 _).mono ?_
   rintro e w1 ⟨rfl,rfl⟩
   cases h2:inB y 1 2
   ·replace h2:=Hd h2
    go_wp2_with fail
    go_ret
    exact⟨by rw[h0.out,h1.out,h2.out];rfl,hb.out⟩
   ·replace h2:=Hd h2
    go_wp2_with fail
    with_reducible refine(Z2 x 0 1048576 _).mono ?_
    rintro e w1 ⟨rfl,rfl⟩
    cases h3:inB x 0 1048576
    ·replace h3:=Hd h3
     go_wp2_with fail
     go_ret
     exact⟨by rw[h0.out,h1.out,h2.out,h3.out];rfl,hb.out⟩
    ·replace h3:=Hd h3
     go_wp2_with fail
     with_reducible refine(Z2 i 0 1099511627776 _).mono ?_
     rintro e w1 ⟨rfl,rfl⟩
     go_wp2_with fail
     go_ret
     exact⟨by rw[h0.out,h1.out,h2.out,h3.out];rfl,hb.out⟩
theorem L7(R:Array Value)(i:Nat)(v:Value)(h:(R.all (·.oneCell'))=true)(hv:v.oneCell'=true):((R.setIfInBounds i v).all (·.oneCell'))=true:=by
 rw[Array.all_eq_true'] at h ⊢
 intro x hx
 rcases Array.mem_or_eq_of_mem_setIfInBounds hx with hx|rfl
 ·exact h x hx
 ·exact hv
theorem Kk(R:Array Value)(i:Nat)(k:IntKind)(z:Int)(h:(R.all (·.oneCell'))=true):((R.setIfInBounds i (.int k z)).all (·.oneCell'))=true:=L7 R i _ h rfl
theorem PT(R:Array Value)(hs:R.size=78)(r0:∀ h,R[0]'h=.int .i64 2)(hone:(R.all (·.oneCell'))=true)(w:World) :
  Calls Tryz.prog 89 #[.agg R] w λe w'=>e=.returned (.agg ((((((R.setIfInBounds 1 (Value.int IntKind.i64 0)).setIfInBounds 77 (Value.int IntKind.i64 0)).setIfInBounds 74 (Value.int IntKind.i64 0)).setIfInBounds 75 (Value.int IntKind.i64 0)).setIfInBounds 2 (Value.int IntKind.i64 0)).setIfInBounds 0 (Value.int IntKind.i64 0)))/\Below w.heap.size w w':=by
 obtain⟨V,hV⟩:∃ V,V=((((((R.setIfInBounds 1 (Value.int IntKind.i64 0)).setIfInBounds 77 (Value.int IntKind.i64 0)).setIfInBounds 74 (Value.int IntKind.i64 0)).setIfInBounds 75 (Value.int IntKind.i64 0)).setIfInBounds 2 (Value.int IntKind.i64 0)).setIfInBounds 0 (Value.int IntKind.i64 0)):=⟨_,rfl⟩
 have hVs:V.size=78:=by rw[hV];simp[hs]
 have hVo:(V.all (·.oneCell'))=true:=by rw[hV];(repeat with_reducible refine Kk _ _ _ _ ?_);with_reducible exact hone
 rw[<-hV]
 have hld:=Hd (show ((w.alloc (Obj.cells ((((((R.setIfInBounds 1 (Value.int IntKind.i64 0)).setIfInBounds 77 (Value.int IntKind.i64 0)).setIfInBounds 74 (Value.int IntKind.i64 0)).setIfInBounds 75 (Value.int IntKind.i64 0)).setIfInBounds 2 (Value.int IntKind.i64 0)).setIfInBounds 0 (Value.int IntKind.i64 0)) 49)).alloc (Obj.cells Tryz.zeroCells49 49)).heap[w.heap.size]? = some (.cells V 49 (0,0)) from by
  rw[Zk,if_neg sX,Zk,if_pos rfl,hV])
 have hst:=Hd (show ((w.alloc (Obj.cells ((((((R.setIfInBounds 1 (Value.int IntKind.i64 0)).setIfInBounds 77 (Value.int IntKind.i64 0)).setIfInBounds 74 (Value.int IntKind.i64 0)).setIfInBounds 75 (Value.int IntKind.i64 0)).setIfInBounds 2 (Value.int IntKind.i64 0)).setIfInBounds 0 (Value.int IntKind.i64 0)) 49)).alloc (Obj.cells Tryz.zeroCells49 49)).heap[w.heap.size+1]? = some (.cells Tryz.zeroCells49 49 (0,0)) from by
  rw[Zk,if_pos sX])
 have hb:=Hd (show Below w.heap.size w ((w.alloc (Obj.cells ((((((R.setIfInBounds 1 (Value.int IntKind.i64 0)).setIfInBounds 77 (Value.int IntKind.i64 0)).setIfInBounds 74 (Value.int IntKind.i64 0)).setIfInBounds 75 (Value.int IntKind.i64 0)).setIfInBounds 2 (Value.int IntKind.i64 0)).setIfInBounds 0 (Value.int IntKind.i64 0)) 49)).alloc (Obj.cells Tryz.zeroCells49 49)) from(bR.alloc nR _).alloc sX _)
 have hzc:=Tryz.underlying49
 have hsz:(Tryz.prog.info? 49).map (·.size)=some V.size:=by rw[hVs];kernel_rfl
 have hzz:(Tryz.zeroCells49).size=V.size:=by rw[hVs];kernel_rfl
 clear hVs
 replace hV:=Hd hV
 go_enter Tryz.func89,Tryz.ntmps89
 go_wp2_with (first|with_reducible refine Ze rfl 49 (.tmp 1) rfl w.heap.size V _ rfl hld hzc rfl hsz ?_|with_reducible refine Zc rfl 49 (.tmp 2) (.tmp 26) rfl (w.heap.size+1) _ V rfl rfl hst hsz hzz hVo ?_)
 intro w3 hU
 have hb3:=Hd (hb.out.trans (hU.out.below (Nat.le_succ _)))
 have hr3:=Hd hU.out.here
 clear hU hst hld
 go_wp2_with fail
 exact ZM rfl rfl hzc rfl hsz hr3.out ⟨rfl,hb3.out⟩
theorem TC(R:Array Value)(hs:R.size=78)(r0:∀ h,R[0]'h=.int .i64 3)(hone:(R.all (·.oneCell'))=true)(w:World) :
  Calls Tryz.prog 89 #[.agg R] w λe w'=>e=.returned (.agg (((((R.setIfInBounds 1 (Value.int IntKind.i64 0)).setIfInBounds 77 (Value.int IntKind.i64 0)).setIfInBounds 76 (Value.int IntKind.i64 0)).setIfInBounds 2 (Value.int IntKind.i64 0)).setIfInBounds 0 (Value.int IntKind.i64 0)))/\Below w.heap.size w w':=by
 obtain⟨V,hV⟩:∃ V,V=(((((R.setIfInBounds 1 (Value.int IntKind.i64 0)).setIfInBounds 77 (Value.int IntKind.i64 0)).setIfInBounds 76 (Value.int IntKind.i64 0)).setIfInBounds 2 (Value.int IntKind.i64 0)).setIfInBounds 0 (Value.int IntKind.i64 0)):=⟨_,rfl⟩
 have hVs:V.size=78:=by rw[hV];simp[hs]
 have hVo:(V.all (·.oneCell'))=true:=by rw[hV];(repeat with_reducible refine Kk _ _ _ _ ?_);with_reducible exact hone
 rw[<-hV]
 have hld:=Hd (show ((w.alloc (Obj.cells (((((R.setIfInBounds 1 (Value.int IntKind.i64 0)).setIfInBounds 77 (Value.int IntKind.i64 0)).setIfInBounds 76 (Value.int IntKind.i64 0)).setIfInBounds 2 (Value.int IntKind.i64 0)).setIfInBounds 0 (Value.int IntKind.i64 0)) 49)).alloc (Obj.cells Tryz.zeroCells49 49)).heap[w.heap.size]? = some (.cells V 49 (0,0)) from by
  rw[Zk,if_neg sX,Zk,if_pos rfl,hV])
 have hst:=Hd (show ((w.alloc (Obj.cells (((((R.setIfInBounds 1 (Value.int IntKind.i64 0)).setIfInBounds 77 (Value.int IntKind.i64 0)).setIfInBounds 76 (Value.int IntKind.i64 0)).setIfInBounds 2 (Value.int IntKind.i64 0)).setIfInBounds 0 (Value.int IntKind.i64 0)) 49)).alloc (Obj.cells Tryz.zeroCells49 49)).heap[w.heap.size+1]? = some (.cells Tryz.zeroCells49 49 (0,0)) from by
  rw[Zk,if_pos sX])
 have hb:=Hd (show Below w.heap.size w ((w.alloc (Obj.cells (((((R.setIfInBounds 1 (Value.int IntKind.i64 0)).setIfInBounds 77 (Value.int IntKind.i64 0)).setIfInBounds 76 (Value.int IntKind.i64 0)).setIfInBounds 2 (Value.int IntKind.i64 0)).setIfInBounds 0 (Value.int IntKind.i64 0)) 49)).alloc (Obj.cells Tryz.zeroCells49 49)) from(bR.alloc nR _).alloc sX _)
 have hzc:=Tryz.underlying49
 have hsz:(Tryz.prog.info? 49).map (·.size)=some V.size:=by rw[hVs];kernel_rfl
 have hzz:(Tryz.zeroCells49).size=V.size:=by rw[hVs];kernel_rfl
 clear hVs
 replace hV:=Hd hV
 go_enter Tryz.func89,Tryz.ntmps89
 go_wp2_with (first|with_reducible refine Ze rfl 49 (.tmp 1) rfl w.heap.size V _ rfl hld hzc rfl hsz ?_|with_reducible refine Zc rfl 49 (.tmp 2) (.tmp 26) rfl (w.heap.size+1) _ V rfl rfl hst hsz hzz hVo ?_)
 intro w3 hU
 have hb3:=Hd (hb.out.trans (hU.out.below (Nat.le_succ _)))
 have hr3:=Hd hU.out.here
 clear hU hst hld
 go_wp2_with fail
 exact ZM rfl rfl hzc rfl hsz hr3.out ⟨rfl,hb3.out⟩
theorem Tf(R:Array Value)(k:Int)(h1:k≠1)(h2:k≠2)(h3:k≠3)(hs:R.size=78)(r0:∀ h,R[0]'h=.int .i64 k)(hone:(R.all (·.oneCell'))=true)(w:World) :
  Calls Tryz.prog 89 #[.agg R] w λe w'=>e=.returned (.agg (((R.setIfInBounds 1 (Value.int IntKind.i64 0)).setIfInBounds 77 (Value.int IntKind.i64 0)).setIfInBounds 0 (Value.int IntKind.i64 0)))/\Below w.heap.size w w':=by
 have e1:(k==1)=false:=by simpa using h1
 have e2:(k==2)=false:=by simpa using h2
 have e3:(k==3)=false:=by simpa using h3
 clear h1 h2 h3
 obtain⟨V,hV⟩:∃ V,V=(((R.setIfInBounds 1 (Value.int IntKind.i64 0)).setIfInBounds 77 (Value.int IntKind.i64 0)).setIfInBounds 0 (Value.int IntKind.i64 0)):=⟨_,rfl⟩
 have hVs:V.size=78:=by rw[hV];simp[hs]
 have hVo:(V.all (·.oneCell'))=true:=by rw[hV];(repeat with_reducible refine Kk _ _ _ _ ?_);with_reducible exact hone
 rw[<-hV]
 have hld:=Hd (show ((w.alloc (Obj.cells (((R.setIfInBounds 1 (Value.int IntKind.i64 0)).setIfInBounds 77 (Value.int IntKind.i64 0)).setIfInBounds 0 (Value.int IntKind.i64 0)) 49)).alloc (Obj.cells Tryz.zeroCells49 49)).heap[w.heap.size]? = some (.cells V 49 (0,0)) from by
  rw[Zk,if_neg sX,Zk,if_pos rfl,hV])
 have hst:=Hd (show ((w.alloc (Obj.cells (((R.setIfInBounds 1 (Value.int IntKind.i64 0)).setIfInBounds 77 (Value.int IntKind.i64 0)).setIfInBounds 0 (Value.int IntKind.i64 0)) 49)).alloc (Obj.cells Tryz.zeroCells49 49)).heap[w.heap.size+1]? = some (.cells Tryz.zeroCells49 49 (0,0)) from by
  rw[Zk,if_pos sX])
 have hb:=Hd (show Below w.heap.size w ((w.alloc (Obj.cells (((R.setIfInBounds 1 (Value.int IntKind.i64 0)).setIfInBounds 77 (Value.int IntKind.i64 0)).setIfInBounds 0 (Value.int IntKind.i64 0)) 49)).alloc (Obj.cells Tryz.zeroCells49 49)) from(bR.alloc nR _).alloc sX _)
 have hzc:=Tryz.underlying49
 have hsz:(Tryz.prog.info? 49).map (·.size)=some V.size:=by rw[hVs];kernel_rfl
 have hzz:(Tryz.zeroCells49).size=V.size:=by rw[hVs];kernel_rfl
 clear hVs
 replace hV:=Hd hV
 go_enter Tryz.func89,Tryz.ntmps89
 go_wp2_with (first|with_reducible refine Ze rfl 49 (.tmp 1) rfl w.heap.size V _ rfl hld hzc rfl hsz ?_|with_reducible refine Zc rfl 49 (.tmp 2) (.tmp 26) rfl (w.heap.size+1) _ V rfl rfl hst hsz hzz hVo ?_)
 intro w3 hU
 have hb3:=Hd (hb.out.trans (hU.out.below (Nat.le_succ _)))
 have hr3:=Hd hU.out.here
 clear hU hst hld
 go_wp2_with fail
 exact ZM rfl rfl hzc rfl hsz hr3.out ⟨rfl,hb3.out⟩
def ZU(C:Array Value)(o:Nat)(vs:List Value):Array Value:=(C.toList.take o++(vs++C.toList.drop (o+vs.length))).toArray
theorem Ku(C:Array Value)(o:Nat)(v:Value)(r:List Value)(h:o<C.size):ZU (C.setIfInBounds o v) (o+1) r=ZU C o (v::r):=by
 unfold ZU
 congr 1
 rw[Array.toList_setIfInBounds,List.length_cons]
 have h':o<C.toList.length:=by simpa using h
 have e1:(C.toList.set o v).take (o+1)=C.toList.take o++[v]:=by
  rw[List.take_set,List.take_succ_eq_append_getElem h',List.set_append]
  have:(C.toList.take o).length=o:=sY
  simp[this]
 have e2:(C.toList.set o v).drop (o+1+r.length)=C.toList.drop (o+(r.length+1)):=by
  rw[List.drop_set_of_lt oX]
  congr 1;omega
 rw[e1,e2]
 simp
theorem G2(C:Array Value)(o:Nat):ZU C o []=C:=by simp[ZU]
theorem Upd.setCells{b:Nat}{t:TypeId}{fz:Nat×Nat}{w:World}:∀ (vs:List Value) (o:Nat) (C:Array Value) (w':World),Upd b (.cells C t fz) w w'->o+vs.length<=C.size->Upd b (.cells (ZU C o vs) t fz) w (w'.setCells b o vs)
 | [],o,C,w',h,_=>by rw[G2];exact h
 | v::r,o,C,w',h,hl=>by
  rw[List.length_cons] at hl
  rw[World.setCells,<-Ku C o v r oX]
  exact Upd.setCells r (o+1) _ _ (h.setCell v) (by rw[Array.size_setIfInBounds];omega)
theorem Vo{w:World}{b:Nat}{C:Array Value}{t:TypeId}(h:w.heap[b]? = some (.cells C t (0,0)))(o n:Nat)(hn:o+n<=C.size):w.there b o n:=λj hj=>by
 refine⟨?_,Zo h _⟩
 rw[Za h,Array.getElem?_eq_getElem oX]
 rfl
section
variable {P:Program} {ops:Array Oper} {rest:List Oper} {o:Oper} {a:Act} {w:World} {Q:Exit->Act->World->Prop}
theorem ZK(hgd:o.guard=none)(ty T:TypeId)(x y:Operand)(ho:o.op=.store ty x y)(g off:Nat)(C c':Array Value)
  (hx:a.eval x=.pointer (some ⟨g,off,none⟩)) (hy:a.eval y=.agg c') (hg:Hid (w.heap[g]? = some (.cells C T (0,0)))) (hi:(P.info? ty).map (·.size)=some c'.size) (hs:off+c'.size<=C.size) (h1:c'.all (·.oneCell')=true)
  (h:∀ w',Hid (Upd g (.cells (ZU C off c'.toList) T (0,0)) w w')->wpList P ops Q rest (a.put o.dst undef) w'):wpList P ops Q (o::rest) a w:=
 wpList_store_mid hgd ty x y ho g off c' hx hy (Vo hg.out off c'.size hs) hi h1 (h _ (Hd (Upd.setCells c'.toList off C w (Upd.refl hg.out) (by simpa using hs))))
end
open Go.RowKit Go.ChangeShapes Go.WideShapes
section
variable {H:Type} {enc:TypeId×Value->H} {P:Program} {w:World}
end
open Go.RowKit Go.ChangeShapes Go.WideShapes Go.Deep
section
variable {H:Type} {enc:TypeId×Value->H} {P:Program} {w:World} {base:Nat} {spare:Nat->Bool} {held:Bool}
end
end Go.Proofs.YtpdhceiodgnbmaaGreatDoor
