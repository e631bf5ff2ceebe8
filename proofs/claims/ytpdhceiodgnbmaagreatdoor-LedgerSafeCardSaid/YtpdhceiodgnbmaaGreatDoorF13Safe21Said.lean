import Derived.Test.YtpdhceiodgnbmaaGreatDoorF0Safe21Said
import Derived.Test.YtpdhceiodgnbmaaGreatDoorF1Safe21Said
import Derived.Test.YtpdhceiodgnbmaaGreatDoorF12Safe21Said
import Derived.Test.YtpdhceiodgnbmaaGreatDoorF2Safe21Said
import Derived.Test.YtpdhceiodgnbmaaGreatDoorF8Safe21Said
import Derived.Lib.SlBytesConst
set_option linter.unusedVariables false
set_option linter.unusedSimpArgs false
set_option linter.unnecessarySimpa false
set_option maxRecDepth 100000
set_option maxHeartbeats 8000000
namespace Go.Proofs.YtpdhceiodgnbmaaGreatDoor
open Go.RowKit
section
variable {α:Type} {R:World->(Nat->Prop)->α->List Value->Prop} {e:TypeId} {size base:Nat} {w:World} {F F':Nat->Prop} {v:Value} {ps:List α} {P:Program} {o:Oper} {a:Act} {Q:Exit->Act->World->Prop} {K:Act->World->Prop}
theorem Nt(hR:LiesOk R size)(s x:Operand)(t:TypeId)(ho:o.op=.call { callee:=.builtin .append,args:=#[s,x],argTypes:=#[t,t] })
  (ht:P.underlying t=some (.slice e)) (bytes:Nat) (hi:(P.info? e).map (λi=>(i.zero.map (·.cells.size),i.size,i.bytes))=some (some size,size,bytes)) (hsz:0<size)
  (hs:a.eval s=v) (h:Hid (RowsOf R e size base w F v ps)) (y:α) (C:Array Value) (hy:Hid (R w F' y C.toList)) (hF:Hid (∀ k,F k->F' k)) (ha:Hid (∀ k,v.ownBlock=some k->¬F' k)) (hl:Hid (∀ k,F' k->k<w.heap.size))
  (g:Nat) (hx:a.eval x=.slice (some ⟨g,0,none⟩) 1 1) (hg:Hid (w.heap[g]? = some (.cells C e (0,0)))) (h63:ps.length<=1000000) (hb8:bytes<=10000) (hbase:base<=w.heap.size)
  (hK:∀ v' w',Hid (RowsOf R e size base w' F' v' (ps++[y]))->Hid (Only (λk=>v.ownBlock=some k) w w')->Hid (JH w v v')->K (a.put o.dst v') w'):o.wp P a w K Q:=by
 obtain⟨ie,hie,h2⟩:=Option.map_eq_some_iff.1 hi
 simp only[Prod.mk.injEq] at h2
 obtain⟨hz,hs1,hby⟩:=h2
 obtain⟨z,hz1,hz2⟩:=Option.map_eq_some_iff.1 hz
 obtain⟨v',w',hr,k1,k2,k3⟩:=h.out.app1 (P:=P) hR t o.type ie z bytes ht hie hz1 hs1 hby hz2 hsz y C.toList hy.out hF.out ha.out hl.out g C rfl hg.out c6X
  (Nat.le_trans (Nat.mul_le_mul (Nat.succ_le_succ h63) hb8) dX) hbase
 unfold Oper.wp execOp
 simp only[ho,resolve,invoke,builtin,Sem.run_bind,Sem.run_pure,Result.andThen_ok,List.map_toArray,List.map_cons,List.map_nil,hs,hx,hr]
 exact hK v' w' (Hd k1) (Hd k2) (Hd k3)
end
theorem MY{w:World}{b c:Nat}{ps:List (List UInt8)}(h:ArgBB w (some ⟨b,0,none⟩) c ps):RowsAt w b ps:=by
 intro k hk
 obtain⟨b',o',e',a,c',h1,h2⟩:=h.row k hk
 cases e'
 rw[Nat.zero_add] at h1
 exact⟨a,c',h1,h2⟩
theorem JStep.appended{base:Nat}{w w8 w9:World}{J B mb mn:Nat}{v rv rv':Value}{F F':Nat->Prop}{p:DP}{recs:List (List UInt8)}{sure:Nat}{dead:Bool}{r:List UInt8}(h:JD base w J B mb mn v rv F p recs sure dead)(hr:okR r)
  (hO:Only (λk=>rv.ownBlock=some k) w w8) (hF:∀ k,F' k->F k\/w.heap.size<=k) (hv:∀ k,rv'.ownBlock=some k->rv.ownBlock=some k\/w.heap.size<=k) (hrow:RowsOf RB 24 1 base w8 F' rv' (recs++[r]))
  (hU:Upd J (.cells (Z4 B rv' (Zg z32J (recs++[r])) (Zh (recs++[r]):Nat) sure dead) 190 (0,0)) w8 w9) (hb:base<=w.heap.size):JStep base w w9 J B mb v rv F mn v rv' F' p (recs++[r]) sure dead:=by
 have hJl:=Zb h.jm.at_
 have hU2:Only (λk=>k=J) w8 w9:=Only.ofUpd hU rfl
 have hO3:Only (JF J F rv) w w9:=(hO.mono (λk _ e=>(.inr (.inr e):JF J F rv k))).trans hU2 (λk _ e=>.inl e)
 have hO2:Only (λk=>JF J F rv k\/Zw B mb v k) w w9:=hO3.mono (λ_ _ h=>.inl h)
 have hnF:¬F' J:=λhk=>(hF J hk).elim h.jm.nF (λh=>by omega)
 have hnv:rv'.ownBlock≠some J:=λhk=>(hv J hk).elim h.jm.nv (λh=>by omega)
 have hnew:∀ k,JF J F' rv' k->JF J F rv k\/w.heap.size<=k:=by
  rintro k (hk|hk|hk)
  ·exact .inl (.inl hk)
  ·exact(hF k hk).imp (λh=>.inr (.inl h)) id
  ·exact(hv k hk).imp (λh=>.inr (.inr h)) id
 refine⟨⟨⟨hU.here,hrow.only liesRB hU2 (λk hk e=>hnF (e▸hk)) (λk hk e=>hnv (e▸hk)),hnF,hnv,h.jm.ge,λk hk=>(hF k hk).elim (h.jm.geF k) (λh=>by omega),λx hx=>?_⟩,h.dm.only hO3 (λk hk hd=>h.dj k hd hk),λk hk hd=>?_⟩,hO2,hnew,λ_ h=>.inl h⟩
 ·rcases List.mem_append.1 hx with hx|hx
  ·exact h.jm.okR x hx
  ·rw[List.mem_singleton.1 hx];exact hr
 ·rcases hnew k hk with h1|h1
  ·exact h.dj k h1 hd
  ·have:=(h.dm.lt k hd).2;omega
theorem JStep.appended3{base:Nat}{w w11 w12 w13 w14 w15:World}{J B mb mn:Nat}{v rv rv':Value}{F:Nat->Prop}{p:DP}{recs:List (List UInt8)}{sure:Nat}{dead:Bool}{r:List UInt8}(h:JD base w J B mb mn v rv F p recs sure dead)(hr:okR r)
  (hb11:Below w.heap.size w w11) (hO:Only (λk=>rv.ownBlock=some k) w11 w12) (hM:JH w11 rv rv') (g10:Nat) (hg:w.heap.size<=g10) (hrow:RowsOf RB 24 1 base w12 (λk=>F k\/k=g10) rv' (recs++[r])) (E FL:Nat) (hE:E=Zh recs) (hFL:FL=34+r.length)
  (h13:Upd J (.cells (Z4 B rv' (Zg z32J recs) (E:Nat) sure dead) 190 (0,0)) w12 w13) (h14:Upd J (.cells (Z4 B rv' (Zn (Zg z32J recs) r) (E:Nat) sure dead) 190 (0,0)) w13 w14)
  (h15:Upd J (.cells ((Z4 B rv' (Zn (Zg z32J recs) r) (E:Nat) sure dead).setIfInBounds 34 (.int .i64 ((E:Int)+(FL:Int)))) 190 (0,0)) w14 w15) (hb:base<=w.heap.size):JStep base w w15 J B mb v rv F mn v rv' (λk=>F k\/k=g10) p (recs++[r]) sure dead:=by
 have hU:=(h13.trans h14).trans h15
 rw[Wo (Qh _ _),show (E:Int)+(FL:Int)=((Zh (recs++[r]):Nat):Int) by rw[QK,hE,hFL];omega,<-Yn] at hU
 exact JStep.appended h hr ((Only.ofBelow (D:=λk=>rv.ownBlock=some k) hb11).trans hO (λ_ _ h=>h)) (λk hk=>hk.imp id (λe=>by omega)) (λk hk=>(hM k hk).imp id (λh=>Nat.le_trans hb11.size h)) hrow hU hb
theorem UQ{K:Act->World->Prop}{a:Act}{w:World}{x:Addr}{u:Value}(h:∀ w',w'=w.setCell x u->K a w'):K a (w.setCell x u):=h _ rfl
theorem Mm{K:Act->World->Prop}{a:Act}{w:World}{b o:Nat}{us:List Value}(h:∀ w',w'=w.setCells b o us->K a w'):K a (w.setCells b o us):=h _ rfl
def TF(n:Nat)(recs:List (List UInt8))(r:List UInt8):Prop:=1<=r.length/\r.length<=400/\r.length<=Xi n (Zh recs)
def Bi(base:Nat)(w:World)(J B mb mn:Nat)(v rv:Value)(F:Nat->Prop)(q:DP×Bool)(recs:List (List UInt8))(r:List UInt8)(sure:Nat)(x:Ending)(w':World):Prop:=
 (if q.2=true then x=.returned .nilIface else FltR x w')/\∃ v' rv' F',JStep base w w' J B mb v rv F mn v' rv' F' q.1 (if q.2=true then recs++[r] else recs) sure (!q.2)
theorem HE{base:Nat}{w:World}{J B mb mn:Nat}{v rv:Value}{F:Nat->Prop}{p:DP}{recs:List (List UInt8)}{sure:Nat}(h:JD base w J B mb mn v rv F p recs sure false)(hb:base<=w.heap.size)(n:Nat)(hpn:p.n=(n:Int))(hn:n<=1000)(hE64:Zh recs<=64*n)(hws:p.ws.length<=20000)(hpl : -200000<=p.l/\p.l<=200000)(hg:p.gone=false)(e:Nat->Addr)(hBE:13≠B)(hEb:∀ W,Below base w W->DErr W e)
  (hK:ShaK w) (hF:ShaF w) (r:List UInt8) (hgood:TF n recs r) (a:Option Addr) (c:Nat) (hA:ArgB w a c r) (hAD:∀ b o s,a=some ⟨b,o,s⟩->¬JF J F rv b/\¬Zw B mb v b/\b<w.heap.size) :
  Calls Tryz.prog 145 #[.pointer (some ⟨J,0,none⟩),.slice a r.length c] w (Bi base w J B mb mn v rv F (lay p (Zh recs) (Zp (Zg z32J recs) r)) recs r sure):=by
 have zr:=QF
 have zn:=Qg
 obtain⟨g1,g2,g3⟩:=hgood
 obtain⟨ra,rc,hrv,_⟩:=h.jm.rows.argBB
 subst hrv
 have hrl:recs.length<=1000000:=by have:=Nx recs;omega
 have hroom:Zh recs+34+r.length<=64*n:=by unfold Xi at g3;omega
 have hfl:=QW (Zg z32J recs) r
 have hc36:=h.jm.cell36
 have hsd:=λW=>J1 (r.length:Int) W
 have hd2:decide (1<=(r.length:Int)/\(r.length:Int)<=400)=true:=decide_eq_true oX
 rw[hd2] at hsd
 have hrm:=Hl h n hpn hn hE64
 have hH:=Qj ZQ recs
 have hNl:=Qh (Zg z32J recs) r
 have hhs:Zg z32J (recs++[r])=Zn (Zg z32J recs) r:=Yn _ _ _
 have hes:Zh (recs++[r])=Zh recs+(34+r.length):=QK _ _
 obtain⟨q,hq⟩:∃ q,q=lay p (Zh recs) (Zp (Zg z32J recs) r):=⟨_,rfl⟩
 rw[<-hq]
 replace hq:=Hd hq
 obtain⟨RM,hRM⟩:∃ RM,RM=Xi n (Zh recs):=⟨_,rfl⟩
 rw[<-hRM] at hrm g3
 have hR3:¬((r.length:Int)>(RM:Int)):=oX
 have hR3':¬((RM:Int)<(r.length:Int)):=oX
 obtain⟨L,hL⟩:∃ L,L=r.length:=⟨_,rfl⟩
 rw[<-hL] at hsd hR3 hR3' ⊢
 obtain⟨H,hHd⟩:∃ H,H=(cB (Zg z32J recs)).toArray:=⟨_,rfl⟩
 have hiH:(Tryz.prog.info? 47).map (·.size)=some (cB (Zg z32J recs)).length:=by rw[Qb hH,List.size_toArray]
 have huA:Tryz.prog.underlying 47=some (.array 32 5):=Tryz.underlying47
 obtain⟨N,hN⟩:∃ N,N=(cB (Zn (Zg z32J recs) r)).toArray:=⟨_,rfl⟩
 have tD:(Tryz.prog.info? 47).map (·.size)=some N.size:=by rw[hN];exact Qb hNl
 have t32:zero32.size=N.size:=by rw[hN];exact YQ hNl
 have tO:N.all (·.oneCell')=true:=by rw[hN];exact YM _
 replace h:=Hd h
 replace hpn:=Hd hpn
 replace hws:=Hd hws
 replace hpl:=Hd hpl
 replace hg:=Hd hg
 replace hEb:=Hd hEb
 replace hK:=Hd hK
 replace hF:=Hd hF
 replace hA:=Hd hA
 replace hAD:=Hd hAD
 replace hrm:=Hd hrm
 replace hsd:=Hd hsd
 replace hhs:=Hd hhs
 replace hes:=Hd hes
 replace hfl:=Hd hfl
 replace hRM:=Hd hRM
 replace hL:=Hd hL
 replace hN:=Hd hN
 replace hHd:=Hd hHd
 go_enter Tryz.func145,Tryz.ntmps145
 go_wp2_with fail
 with_reducible refine(hsd.out _).mono ?_
 rintro x w0 ⟨rfl,hq⟩
 obtain rfl:=hq
 clear hsd
 go_wp2_with fail
 with_reducible refine hrm.out.mono ?_
 rintro x w1 ⟨rfl,nd,rfl⟩
 clear hrm
 have hb1:Below w.heap.size w (w.drewN nd):=Drawn.below ⟨nd,rfl⟩ _
 generalize w.drewN nd=w1 at*
 have hhd:w1.rangeAt J 2 (cB (Zg z32J recs)):=(h.out.below hb1).jm.head
 have hnx:=Vo (Zg z32J recs) r hH a c w1 (hA.out.below hb1) oX (hK.out.below hb1) (hF.out.below hb1)
 rw[<-hHd.out,<-hN.out,<-hL.out] at hnx
 replace hnx:=Hd hnx
 replace hhd:=Hd hhd
 replace hb1:=Hd hb1
 go_wp2_with (refine wpList_load_mid rfl 47 (.tmp 29) rfl J 2 rfl (cB (Zg z32J recs)) _ hhd.out huA rfl hiH ?_;rw[<-hHd.out])
 with_reducible refine hnx.out.mono ?_
 rintro x w2 ⟨rfl,hb2⟩
 clear hnx hhd
 have hz2:Hid ((w2.alloc (.cells zero32 47)).heap[w2.heap.size]? = some (.cells zero32 47 (0,0))):=heap_alloc_new w2 (.cells zero32 47 (0,0))
 go_wp2_with (refine Zc rfl 47 (.tmp 5) (.tmp 32) rfl w2.heap.size zero32 N rfl rfl hz2 tD t32 tO ?_;intro w4 hU4)
 have hb4:Below w.heap.size w w4:=(hb1.out.trans (hb2.mono hb1.out.size)).trans ((bR.alloc (Nat.le_trans hb1.out.size hb2.size) _).trans (hU4.out.below (Nat.le_trans hb1.out.size hb2.size)))
 obtain⟨g,hgd⟩:∃ g,g=w2.heap.size:=⟨_,rfl⟩
 have hNb:w4.heap[g]? = some (.cells N 47 (0,0)):=by rw[hgd];exact hU4.out.here
 have hgw:w.heap.size<=g:=by rw[hgd];exact Nat.le_trans hb1.out.size hb2.size
 rw[<-hgd]
 replace hgd:=Hd hgd
 have hd4:Below w4.heap.size w4 w4.drew:=bR.drew
 have hah:ArgB w4.drew (some ⟨g,0,none⟩) 32 (Zn (Zg z32J recs) r):=QH (by rw[<-hN.out];exact hNb) oX dX
 have har:ArgB w4.drew a c r:=(hA.out.below hb4).below hd4
 have hsz:=λW=>H7 r.length oX W
 rw[<-hL.out] at hsz
 have hmk:=λW ax cx ay cy az cz g (h1:ArgB W ax cx (lnB r.length)) (h2:ArgB W ay cy (Zn (Zg z32J recs) r)) (h3:ArgB W az cz r)=>K8 (g:=g) h1 h2 h3
 rw[hNl,show (lnB r.length).length=2 from rfl,<-hL.out] at hmk
 have hcc:=λW g hA=>VM g [lnB r.length,Zn (Zg z32J recs) r,r] W hA sX (by simp[lnB]) (by simp[lnB,hNl];omega)
 rw[show [lnB r.length,Zn (Zg z32J recs) r,r].length=3 from rfl,show [lnB r.length,Zn (Zg z32J recs) r,r].flatten=Zp (Zg z32J recs) r by simp[Zp]] at hcc
 rw[hL.out] at hmk hsz
 replace hcc:=Hd hcc
 replace hmk:=Hd hmk
 replace hsz:=Hd hsz
 replace hd4:=Hd hd4
 replace hb4:=Hd hb4
 replace hNb:=Hd hNb
 replace hah:=Hd hah
 replace har:=Hd har
 clear hz2 hU4 hb2 hb1
 rw[hL.out]
 go_wp2_with fail
 refine wp_region_held_drew (S:=(Below w4.heap.size w4)) kX hd4.out (λhOn=>?_)
 generalize World.drew w4=wd at*
 refine tk 0 hOn ?_
 refine tk 1 hOn ?_
 refine tk 3 hOn ?_
 refine tk 4 hOn ?_
 refine rd 2 (λKz hKz=>?_)
 go_simp
 (with_reducible refine(hsz.out _).mono ?_)
 rintro e w3 ⟨rfl,hl3,hnew⟩
 replace hah:=Hd (hah.out.below hnew)
 replace har:=Hd (har.out.below hnew)
 replace hl3:=Hd hl3
 clear hsz
 focus (go_wp2_with fail)
 refine hKz.out _ _ (Below.trans hOn (Below.mono hnew (Below.size hOn))) ?_
 clear hKz Kz hOn
 intro hOn
 try clear hnew
 try simp only[Act.put,sL,sZ,sS]
 refine rd 5 (λKz hKz=>?_)
 go_simp
 focus (try go_wp2_with fail)
 (with_reducible refine Zq (t:=24) ?_)
 intro w5 hx5 hnew
 have hq5:=Hd (hmk.out _ _ _ _ _ _ _ _ (hl3.out.below hnew) (hah.out.below hnew) (har.out.below hnew) hx5.out)
 refine hKz.out _ _ (Below.trans hOn (Below.mono hnew (Below.size hOn))) ?_
 clear hKz Kz hOn
 intro hOn
 try clear hnew
 try simp only[Act.put,sL,sZ,sS]
 refine rd 6 (λKz hKz=>?_)
 go_simp
 (with_reducible refine(hcc.out _ _ (MY hq5.out)).mono ?_)
 rintro e w8 ⟨v8,rfl,ho8,hnew⟩
 have ho8:=Hd (OwnB.mono ho8 hOn.size)
 focus (go_wp2_with fail)
 refine hKz.out _ _ (Below.trans hOn (Below.mono hnew (Below.size hOn))) ?_
 clear hKz Kz hOn
 intro hOn
 try clear hnew
 try simp only[Act.put,sL,sZ,sS]
 refine tk 7 hOn ?_
 refine dnE ?_
 have hb8:Below w.heap.size w w8:=hb4.out.trans (hOn.mono hb4.out.size)
 have hN8:w8.heap[g]? = some (.cells N 47 (0,0)):=(hOn.block _ (Zb hNb.out)).trans hNb.out
 obtain⟨a8,c8,rfl,hA8,hB8⟩:=ho8.out.arg
 have hw4:=hb4.out.size
 have hlay:=Bz (h.out.below hb8) (Nat.le_trans hb hb8.size) n hpn.out hn hws.out hpl.out hg.out e hBE (λW hW=>hEb.out W ((hb8.mono hb).trans hW)) (Zp (Zg z32J recs) r) (by rw[hfl.out];omega) (by rw[hfl.out];omega) a8 c8 hA8
  (λb' o' s' e'=>by
   have hbb:=hB8 b' o' s' e'
   exact⟨λhj=>by have:=(h.out.jm.lt _ hj).2;omega,λhd=>by have:=(h.out.dm.lt _ hd).2;omega,hbb.2⟩)
 rw[<-hq.out] at hlay
 obtain⟨FL,hFL⟩:∃ FL,FL=(Zp (Zg z32J recs) r).length:=⟨_,rfl⟩
 rw[<-hFL] at hlay ⊢
 have hFLn:FL=34+r.length:=by rw[hFL,hfl.out]
 replace hFL:=Hd hFL
 replace hFLn:=Hd hFLn
 replace hlay:=Hd hlay
 replace hb8:=Hd hb8
 replace hN8:=Hd hN8
 clear hA8 hB8 ho8 hcc hmk hOn hc36 hd4 hx5 hq5 hah har hl3
 go_wp2_with fail
 with_reducible refine hlay.out.mono ?_
 clear hlay
 obtain⟨p',ok⟩:=q
 rintro x w9 ⟨hx,v9,hst9⟩
 have hst:=((JStep.same h.out).grow hb8.out).trans hst9
 cases ok with
 | false=>
  obtain⟨g9,F9,V9,a9,rfl,hfc,hpe⟩:=hx
  replace hst:=Hd hst
  replace hfc:=Hd hfc
  replace hpe:=Hd hpe
  clear hst9
  go_wp2_with fail
  go_ret
  exact⟨⟨_,_,_,_,rfl,hfc.out,hpe.out⟩,_,_,_,hst.out⟩
 | true=>
  cases (show x=_ from hx)
  have hw8:=hb8.out.size
  have hgl:=Zb hN8.out
  have hnJ:¬JF J F (.slice ra recs.length rc) g:=λhj=>by have:=(h.out.jm.lt _ hj).2;omega
  have hnD:¬Zw B mb v g:=λhd=>by have:=(h.out.dm.lt _ hd).2;omega
  have hS9:w9.drew.heap[g]? = some (.cells N 47 (0,0)):=hst9.only.heap hN8.out (λhd=>hd.elim hnJ hnD)
  have hA9:ArgB w9.drew a c r:=(hst.only.argB hA.out (λb' o' e' hd=>(hAD.out b' o' none e').elim (λh1 h2=>hd.elim h1 h2.1))).below (bR.drew)
  have hcl:=XM a c r w9.drew hA9 oX
  have hgv:(Value.slice ra recs.length rc).ownBlock≠some g:=λe=>hnJ (.inr (.inr e))
  have hgJ:g≠J:=λe=>hnJ (.inl e)
  obtain⟨E,hE⟩:∃ E,E=Zh recs:=⟨_,rfl⟩
  have hE2:E<=64000:=oX
  have hFL2:FL<=434:=by rw[hFLn.out];omega
  have hatd:w9.drew.heap[J]? = some (.cells (Z4 B (.slice ra recs.length rc) (Zg z32J recs) (Zh recs:Nat) sure false) 190 (0,0)):=hst9.ok.jm.at_
  rw[<-hE] at hatd
  have hrow9:RowsOf RB 24 1 base w9.drew F (.slice ra recs.length rc) recs:=hst9.ok.jm.rows.below liesRB (bR.drew)
  have hb9:base<=w9.drew.heap.size:=Nat.le_trans hb (Nat.le_trans hw8 hst9.only.size)
  have hbd:Below w9.heap.size w9 w9.drew:=bR.drew
  have k1:w9.drew.cell? ⟨J,1,none⟩=some (.slice ra recs.length rc):=by rw[Za hatd];exact jc1
  have k34:w9.drew.cell? ⟨J,34,none⟩=some (.int .i64 (E:Nat)):=by rw[Za hatd];exact Ki hH
  have rlA:∀ W:World,W.heap[g]? = some (.cells N 47 (0,0))->W.heap[g]? = some (.cells N 47 (0,0)):=λ_ h=>h
  have hzA:=tD
  have hNL:N.toList=cB (Zn (Zg z32J recs) r):=by rw[hN.out]
  have hwrap:IntKind.i64.wrap ((E:Int)+(FL:Int))=(E:Int)+(FL:Int):=IntWalk.i64_in _ oX
  have hinfo:=Hd VA
  have hus:=Tryz.underlying22
  replace hS9:=Hd hS9
  replace hcl:=Hd hcl
  replace hatd:=Hd hatd
  replace hrow9:=Hd hrow9
  replace hNL:=Hd hNL
  replace hE:=Hd hE
  replace hst:=Hd hst
  replace hst9:=Hd hst9
  replace hbd:=Hd hbd
  clear hA9 hnJ hnD
  go_wp2_with fail
  refine wp_region_held_drew (S:=(λW:World=>W.heap[g]? = some (.cells N 47 (0,0)))) kX hS9.out (λhOn=>?_)
  generalize World.drew w9=wd at*
  refine tk 0 hOn ?_
  refine tk 1 hOn ?_
  refine tk 2 hOn ?_
  refine tk 3 hOn ?_
  refine tk 4 hOn ?_
  refine tk 5 hOn ?_
  refine tk 7 hOn ?_
  refine tk 11 hOn ?_ (v:=Value.agg _) (hy:=Or.inl ⟨by rfl,λW hSW=>Zt _ _ rfl _ _ _ rfl (rlA W hSW) huA rfl hzA⟩)
  refine tk 12 hOn ?_
  refine tk 13 hOn ?_
  refine tk 14 hOn ?_
  refine tk 16 hOn ?_
  refine tk 17 hOn ?_
  repeat' first
   | exact AllReadyH.nil
   |
    first|refine acI 6 (λKz hKz=>?_) ?_|refine rdK 6 (λKz hKz=>?_)|refine acI 15 (λKz hKz=>?_) ?_|refine rdK 15 (λKz hKz=>?_)
    go_simp
    focus (try go_wp2_with fail)
    refine hKz.out _ _ c1X ?_
    clear hKz Kz hOn
    intro hOn
    try simp only[Act.put,sL,sZ,sS]
   |
    first|refine acI 8 (λKz hKz=>?_) ?_|refine rdK 8 (λKz hKz=>?_)
    go_simp
    (with_reducible refine hcl.out.mono ?_)
    rintro y w10 ⟨v10,rfl,ho10,hnew⟩
    have hS:=(hnew.block g (Zb hOn)).trans hOn
    have hat10:=Hd ((hnew.block J (Zb hatd.out)).trans hatd.out)
    have hb10:=Hd hnew
    obtain⟨g10,c10,rfl,hg10⟩:=OwnB.form ho10 g1
    have ho10:=Hd ho10
    have k1c:w10.cell? ⟨J,1,none⟩=some (.slice ra recs.length rc):=(by rw[Za hat10.out];exact jc1)
    have k34c:w10.cell? ⟨J,34,none⟩=some (.int .i64 (E:Nat)):=(by rw[Za hat10.out];exact Ki hH)
    focus (go_wp2_with fail)
    refine hKz.out _ _ hS ?_
    clear hKz Kz hOn hS
    intro hOn
    try clear hnew
    try simp only[Act.put,sL,sZ,sS]
   |
    first|refine acI 9 (λKz hKz=>?_) ?_|refine rdK 9 (λKz hKz=>?_)
    go_simp
    focus (try go_wp2_with fail)
    (with_reducible refine Zq (t:=24) ?_)
    intro w11 hx11 hnew
    have hS:=(hnew.block g (Zb hOn)).trans hOn
    have hat11:=Hd ((hnew.block J (Zb hat10.out)).trans hat10.out)
    have hb11:=Hd (hb10.out.trans (hnew.mono hb10.out.size))
    have ho11:=Hd (OwnB.below ho10.out hnew nR)
    have hrow11:=Hd (hrow9.out.below liesRB hb11.out)
    have hbs11:base<=w11.heap.size:=Nat.le_trans hb9 hb11.out.size
    have hyB:=Hd (show RB w11 (λk=>F k\/k=g10) r (#[Value.slice (some ⟨g10,0,none⟩) r.length c10]:Array Value).toList from liesRB.more (G8 ho11.out) (λk h=>by cases h;exact .inr rfl))
    have hFB:=Hd (show ∀ k,F k->F k\/k=g10 from λk h=>.inl h)
    have haB:=Hd (show ∀ k,(Value.slice ra recs.length rc).ownBlock=some k->¬(F k\/k=g10) from λk hk h=>h.elim (hrow9.out.apart k hk) (λh=>by have:=(hrow9.out.ownLt k hk).2;omega))
    have hlB:=Hd (show ∀ k,F k\/k=g10->k<w11.heap.size from λk h=>h.elim (λh=>hrow11.out.lt k h) (λh=>h▸(World.ownsRow.lt ho11.out g10 rfl).2))
    have k1c:w11.cell? ⟨J,1,none⟩=some (.slice ra recs.length rc):=(by rw[Za hat11.out];exact jc1)
    have k34c:w11.cell? ⟨J,34,none⟩=some (.int .i64 (E:Nat)):=(by rw[Za hat11.out];exact Ki hH)
    refine hKz.out _ _ hS ?_
    clear hKz Kz hOn hS
    intro hOn
    try clear hnew
    try simp only[Act.put,sL,sZ,sS]
   |
    first|refine acI 10 (λKz hKz=>?_) ?_|refine rdK 10 (λKz hKz=>?_)
    rw[if_pos (by rfl)]
    (refine Nt liesRB (.tmp 52) (.tmp 55) 22 rfl hus 24 hinfo.out dX rfl hrow11 r _ hyB hFB haB hlB w10.heap.size rfl hx11 hrl dX hbs11 ?_)
    intro v12 w12 hr12 hO12 hM12
    have hS:=hO12.out.heap hOn hgv
    have hat12:=Hd (hO12.out.heap hat11.out (λhd=>hst9.out.ok.jm.nv hd))
    have k1c:w12.cell? ⟨J,1,none⟩=some (.slice ra recs.length rc):=(by rw[Za hat12.out];exact jc1)
    have k34c:w12.cell? ⟨J,34,none⟩=some (.int .i64 (E:Nat)):=(by rw[Za hat12.out];exact Ki hH)
    have f1c:w12.frozen? ⟨J,1,none⟩=false:=Zj hat12.out _
    obtain⟨a12,n12,c12,hv12⟩:∃ a n c,v12=.slice a n c:=(by obtain⟨a,c,e,_⟩:=hr12.out.form;exact⟨a,_,c,e⟩)
    subst hv12
    refine hKz.out _ _ hS ?_
    clear hKz Kz hOn hS
    intro hOn
    try simp only[Act.put]
   | refine tkK 18 hOn ?_
   | refine QP [6,8,15] ?_
   | refine QP [6,9,15] ?_
   | refine QP [8,15] ?_
   | refine QP [9,15] ?_
   | refine QP [10,15] ?_
   | refine QP [6,15] ?_
   | refine QP [6,9] ?_
   | refine QP [6,8] ?_
   | fail
  all_goals
   refine tk 19 hOn ?_
   refine tk 20 hOn ?_
   refine rd 21 (λKz hKz=>?_)
   have hU13:=((Upd.refl hat12.out).setCell (j:=1) (.slice a12 n12 c12))
   go_simp
   (with_reducible refine UQ ?_)
   intro w13 hw13
   rw[<-hw13,DF] at hU13
   clear hw13
   have hS:=(hU13.block g hgJ).trans hOn
   replace hU13:=Hd hU13
   have hth:=Hd (show w13.there J 2 N.size from KI hU13.out.here (by rw[VK hH,hN.out,List.size_toArray,Ze,hNl];decide))
   refine hKz.out _ _ hS ?_
   clear hKz Kz hOn hS
   intro hOn
   try simp only[Act.put]
   refine tk 22 hOn ?_
   refine tk 23 hOn ?_
   refine rd 24 (λKz hKz=>?_)
   rw[if_pos (by rfl)]
   have hU14:=(Kd N.toList 2 (Upd.refl hU13.out.here))
   (refine wp_store_mid 47 (.tmp 68) (.tmp 57) rfl J 2 N rfl rfl hth.out tD tO ?_)
   (with_reducible refine Mm ?_)
   intro w14 hw14
   rw[<-hw14,hNL.out,DS hH hNl] at hU14
   clear hw14
   have hS:=(hU14.block g hgJ).trans hOn
   replace hU14:=Hd hU14
   have k34c:w14.cell? ⟨J,34,none⟩=some (.int .i64 (E:Nat)):=(by rw[Za hU14.out.here];exact Ki hNl)
   have f34c:w14.frozen? ⟨J,34,none⟩=false:=Zj hU14.out.here _
   refine hKz.out _ _ hS ?_
   clear hKz Kz hOn hS
   intro hOn
   try simp only[Act.put]
   refine tk 25 hOn ?_
   refine tk 26 hOn ?_
   refine rd 27 (λKz hKz=>?_)
   have hU15:=Hd ((Upd.refl hU14.out.here).setCell (j:=34) (.int .i64 ((E:Int)+(FL:Int))))
   go_simp
   (with_reducible refine UQ ?_)
   intro w15 hw15
   rw[<-hw15] at hU15
   clear hw15
   have hS:=(hU15.out.block g hgJ).trans hOn
   refine hKz.out _ _ hS ?_
   clear hKz Kz hOn hS
   intro hOn
   try simp only[Act.put]
   refine dnE ?_
  all_goals
   go_wp2_with fail
   go_ret
   exact⟨rfl,v9,_,_,hst.out.trans (JStep.appended3 hst9.out.ok ⟨g1,g2⟩ (hbd.out.trans (hb11.out.mono hbd.out.size)) hO12.out hM12.out g10 (Nat.le_trans hbd.out.size hg10) hr12.out E FL hE.out hFLn.out hU13.out hU14.out hU15.out (Nat.le_trans hb (Nat.le_trans hw8 hst9.out.only.size)))⟩
end Go.Proofs.YtpdhceiodgnbmaaGreatDoor
namespace Go.Proofs.YtpdhceiodgnbmaaGreatDoor
open Go.RowKit
theorem Us:∀ (f:Nat) (p:DP) (k:Nat) (b:List UInt8),p.gone=false->((layF f p k b).2=true->(layF f p k b).1.gone=false)/\(layF f p k b).1.n=p.n/\(layF f p k b).1.ws.length<=p.ws.length+f/\p.l-f<=(layF f p k b).1.l/\(layF f p k b).1.l<=p.l/\(layF f p k b).1.armed=p.armed/\(layF f p k b).1.f=p.f:=by
 intro f
 induction f with
 | zero=>intro p k b hg;exact⟨λ_=>hg,rfl,Nat.le_refl _,by show p.l-0<=p.l;omega,Int.le_refl _,rfl,rfl⟩
 | succ f ih=>
  intro p k b hg
  rw[layF]
  split
  ·exact⟨λ_=>hg,rfl,by simp only;omega,by simp only;omega,by simp only;omega,rfl,rfl⟩
  ·generalize Xs _ b k=s
   generalize ((k / 64:Nat):Int)=i
   have hw:(p.write i s).2=0/\p.write i s=({ p with l:=p.l-1,ws:=p.ws++[(i,s)] },0)\/(p.write i s).2≠0/\((p.write i s).1=p\/(p.write i s).1={ p with gone:=true }):=by
    unfold DP.write
    split
    ·exact .inr ⟨sX,.inl rfl⟩
    ·split
     ·exact .inr ⟨sX,.inl rfl⟩
     ·split
      ·exact .inr ⟨sX,.inr rfl⟩
      ·exact .inl ⟨rfl,rfl⟩
   rcases hw with ⟨h0,hw⟩|⟨h0,hw⟩
   ·rw[if_pos h0]
    obtain⟨a1,a2,a3,a4,a5,a6,a7⟩:=ih (p.write i s).1 (k+ZY b k) (b.drop (ZY b k)) (by rw[hw];exact hg)
    generalize layF f (p.write i s).1 (k+ZY b k) (b.drop (ZY b k))=z at*
    rw[hw] at a2 a3 a4 a5 a6 a7
    simp only[List.length_append,List.length_singleton] at a2 a3 a4 a5 a6 a7
    exact⟨a1,a2,oX,oX,oX,a6,a7⟩
   ·rw[if_neg h0]
    rcases hw with hw|hw<;>rw[hw]
    ·exact⟨λh=>absurd h sX,rfl,oX,oX,oX,rfl,rfl⟩
    ·exact⟨λh=>absurd h sX,rfl,by simp only;omega,by simp only;omega,by simp only;omega,rfl,rfl⟩
def DZ(base:Nat)(w:World)(J B mb mn:Nat)(v rv:Value)(F:Nat->Prop)(q:DP×Bool)(recs:List (List UInt8))(r:List UInt8)(sure:Nat)(x:Ending)(w':World):Prop:=
 (if q.2=true/\q.1.sync.2=0 then x=.returned .nilIface else FltR x w')/\∃ mn' v' rv' F',mn'<=mn+q.1.ws.length/\JStep base w w' J B mb v rv F mn' v' rv' F' (if q.2=true then q.1.sync.1 else q.1) (if q.2=true then recs++[r] else recs) (if q.2=true/\q.1.sync.2=0 then recs.length+1 else sure) (!(q.2&&q.1.sync.2==0))
theorem Hk{base:Nat}{w:World}{J B mb mn:Nat}{v rv:Value}{F:Nat->Prop}{p:DP}{recs:List (List UInt8)}{sure:Nat}(h:JD base w J B mb mn v rv F p recs sure false)(hb:base<=w.heap.size)(n:Nat)(hpn:p.n=(n:Int))(hn:n<=1000)(hE64:Zh recs<=64*n)(hws:p.ws.length<=20000)(hmn:mn<=50000)(hpl : -200000<=p.l/\p.l<=200000)(hg:p.gone=false)(e:Nat->Addr)(hBE:13≠B)(hEb:∀ W,Below base w W->DErr W e)
  (hK:ShaK w) (hF:ShaF w) (r:List UInt8) (hgood:TF n recs r) (a:Option Addr) (c:Nat) (hA:ArgB w a c r) (hAD:∀ b o s,a=some ⟨b,o,s⟩->¬JF J F rv b/\¬Zw B mb v b/\b<w.heap.size) :
  Calls Tryz.prog 121 #[.pointer (some ⟨J,0,none⟩),.slice a r.length c] w (DZ base w J B mb mn v rv F (lay p (Zh recs) (Zp (Zg z32J recs) r)) recs r sure):=by
 have hap:=HE h hb n hpn hn hE64 hws hpl hg e hBE hEb hK hF r hgood a c hA hAD
 have hkp:=Us (Zp (Zg z32J recs) r).length p (Zh recs) (Zp (Zg z32J recs) r) hg
 rw[show layF (Zp (Zg z32J recs) r).length p (Zh recs) (Zp (Zg z32J recs) r)=lay p (Zh recs) (Zp (Zg z32J recs) r) from rfl,QW] at hkp
 generalize lay p (Zh recs) (Zp (Zg z32J recs) r)=q at*
 obtain⟨q,ok⟩:=q
 obtain⟨k1,k2,k3,k4,k5,k6,k7⟩:=hkp
 simp only at k1 k2 k3 k4 k5 k6 k7
 have hr4:=hgood.2.1
 have hrl:recs.length<=64000:=by have:=Nx recs;omega
 replace hap:=Hd hap
 replace h:=Hd h
 replace hpn:=Hd hpn
 replace hEb:=Hd hEb
 replace k1:=Hd k1
 replace k2:=Hd k2
 go_enter Tryz.func121,Tryz.ntmps121
 go_wp2_with fail
 with_reducible refine hap.out.mono ?_
 rintro x w1 ⟨hx,v1,rv1,F1,hst⟩
 clear hap
 cases ok with
 | false=>
  obtain⟨g9,F9,V9,a9,rfl,hfc,hpe⟩:=hx
  replace hst:=Hd hst
  replace hfc:=Hd hfc
  replace hpe:=Hd hpe
  go_wp2_with fail
  go_ret
  exact⟨⟨_,_,_,_,rfl,hfc.out,hpe.out⟩,_,_,_,_,Nat.le_add_right _ _,hst.out⟩
 | true=>
  cases (show x=_ from hx)
  have hO:Below base w w1:=hst.only.below hb (λk hk=>hk.elim (λh1=>(h.out.jm.lt k h1).1) (λh1=>(h.out.dm.lt k h1).1))
  have hst':JStep base w w1 J B mb v rv F mn v1 rv1 F1 q (recs++[r]) sure false:=hst
  have hsy:=Wl hst'.ok (Nat.le_trans hb hst'.only.size) n (by rw[k2.out];exact hpn.out) hn oX oX sYq oX (k1.out rfl) e hBE (λW hW=>hEb.out W (hO.trans hW))
  replace hst':=Hd hst'
  replace hsy:=Hd hsy
  clear hst hO
  go_wp2_with fail
  with_reducible refine hsy.out.mono ?_
  rintro x w2 ⟨hx,v2,mn2,hm2,hst2⟩
  have hst3:=hst'.out.trans hst2
  clear hsy
  rw[List.length_append,List.length_singleton] at hst3
  by_cases hs:q.sync.2=0
  ·rw[if_pos hs] at hx hst3
   subst hx
   replace hst3:=Hd hst3
   replace hs:=Hd hs
   clear hst2
   go_wp2_with fail
   go_ret
   refine⟨by rw[if_pos ⟨rfl,hs.out⟩];rfl,mn2,v2,rv1,F1,hm2,?_⟩
   have e3:=hst3.out
   rw[if_pos rfl,if_pos rfl,if_pos ⟨rfl,hs.out⟩,hs.out]
   rw[hs.out] at e3
   exact e3
  ·rw[if_neg hs] at hx hst3
   obtain⟨g9,F9,V9,a9,rfl,hfc,hpe⟩:=hx
   replace hfc:=Hd hfc
   replace hpe:=Hd hpe
   have hne:(q.sync.2 != 0) = !(true&&q.sync.2==0):=by simp[bne]
   rw[hne] at hst3
   replace hst3:=Hd hst3
   replace hs:=Hd hs
   clear hst2 hne
   go_wp2_with fail
   go_ret
   refine⟨by rw[if_neg (λhh=>hs.out hh.2)];exact⟨_,_,_,_,rfl,hfc.out,hpe.out⟩,mn2,v2,rv1,F1,hm2,?_⟩
   rw[if_pos rfl,if_pos rfl,if_neg (λhh=>hs.out hh.2)]
   exact hst3.out
end Go.Proofs.YtpdhceiodgnbmaaGreatDoor
namespace Go.Proofs.YtpdhceiodgnbmaaGreatDoor
open Go.RowKit
def M6(w:World)(recs:List (List UInt8))(x:Ending)(w':World):Prop:=∃ v F,x=.returned v/\RowsOf RB 24 1 w.heap.size w' F v recs/\(∀ k,F k->w.heap.size<=k)/\Below w.heap.size w w'
theorem X0{base:Nat}{w:World}{J B:Nat}{rv:Value}{F0:Nat->Prop}{recs:List (List UInt8)}{sure:Nat}{dead:Bool}(h:JM base w J B rv F0 recs sure dead)(hn:recs.length<=100000) :
  Calls Tryz.prog 57 #[.pointer (some ⟨J,0,none⟩)] w (M6 w recs):=by
 have k1:=h.cell1
 obtain⟨ra,rc,rfl,ha⟩:=h.rows.argBB
 have hok:=h.okR
 obtain⟨L,hL⟩:∃ L,L=recs.length:=⟨_,rfl⟩
 rw[<-hL] at k1 hn
 replace hL:=Hd hL
 replace ha:=Hd ha
 replace hok:=Hd hok
 have hinfo:=Hd VA
 clear h
 go_enter Tryz.func57,Tryz.ntmps57
 go_wp2_with fail
 refine Z8 [(false,3),(true,1),(false,1),(true,1),(false,5),(true,10),(false,1)] _ [] (λU wr=>∃ (k:Nat) (F:Nat->Prop),k<=L/\U 11=.int .i64 k/\RowsOf RB 24 1 w.heap.size wr F (U 3) (recs.take k)/\(∀ x,F x->w.heap.size<=x)/\Below w.heap.size w wr)
  (λU _=>L-(intOf (U 11)).toNat) ?_ ?_
 ·simp only[List.getD_cons_zero,List.getD_cons_succ]
  exact⟨0,λ_=>False,Nat.zero_le _,rfl,RowsOf.nil _ _,λ_ h=>False.elim h,Below.refl _ _⟩
 ·intro U wr hrel KK hback l' hl'
  obtain⟨k,F,hk,h11,hr,hFb,hbel⟩:=hrel
  simp only[ZU,ZG,cond_true,cond_false,Nat.reduceAdd,h11] at hl'
  generalize hv3:U 3=vo at*
  subst hl'
  replace h11:=Hd h11
  have hsz:=hbel.size
  by_cases hlt:k<L
  ·have hlt2:(k:Int)<L:=oX
   have hkl:k<recs.length:=by rw[<-hL.out];exact hlt
   have hab:=ha.out.below hbel
   obtain⟨b,o,rfl,ai,ci,hc,hai⟩:=hab.row k hkl
   have hgd:recs.getD k []=recs[k]:=by simp[List.getD_eq_getElem?_getD,hkl]
   rw[hgd] at hc hai
   have hokr:=hok.out recs[k] (List.getElem_mem hkl)
   have htk:recs.take (k+1)=recs.take k++[recs[k]]:=List.take_succ_eq_append_getElem hkl
   have hlen:(recs.take k).length<=1000000:=by rw[List.length_take];omega
   generalize recs[k]=r at*
   obtain⟨hok1,hok4⟩:=hokr
   have hcl:=Hd (XM ai ci r wr hai oX)
   replace hr:=Hd hr
   replace hbel:=Hd hbel
   replace htk:=Hd htk
   replace hFb:=Hd hFb
   clear hab hgd hai
   go_wp2_with fail
   with_reducible refine hcl.out.mono ?_
   rintro e w4 ⟨v4,rfl,ho4,hb4⟩
   clear hcl
   obtain⟨g,cg,rfl,hg⟩:=OwnB.form ho4 hok1
   have hs4:=hb4.size
   have hr4:=Hd (hr.out.below liesRB hb4)
   have hbs4:w.heap.size<=w4.heap.size:=oX
   have hyB:=Hd (show RB w4 (λk=>F k\/k=g) r (#[Value.slice (some ⟨g,0,none⟩) r.length cg]:Array Value).toList from liesRB.more (G8 ho4) (λk h=>by cases h;exact .inr rfl))
   have hFB:=Hd (show ∀ k,F k->F k\/k=g from λk h=>.inl h)
   have haB:=Hd (show ∀ k,vo.ownBlock=some k->¬(F k\/k=g) from λk hk h=>h.elim (hr.out.apart k hk) (λh=>by have:=(hr.out.ownLt k hk).2;omega))
   have hlB:=Hd (show ∀ k,F k\/k=g->k<w4.heap.size from λk h=>h.elim (λh=>hr4.out.lt k h) (λh=>h▸(World.ownsRow.lt ho4 g rfl).2))
   have hb44:=Hd (hbel.out.trans (hb4.mono hsz))
   have hFb2:=Hd (show ∀ x,F x\/x=g->w.heap.size<=x from λx h=>h.elim (hFb.out x) (λh=>by omega))
   clear hb4 ho4
   go_wp2_with (at_builtin;refine Yb (P:=Tryz.prog) (R:=RB) (e:=24) (size:=1) (base:=w.heap.size) (F:=F) (F':=λk=>F k\/k=g) rfl liesRB (.tmp 15) (.tmp 18) 22 rfl Tryz.underlying22 24 hinfo.out dX rfl hr4 r #[.slice (some ⟨g,0,none⟩) r.length cg] hyB hFB haB hlB rfl hlen dX hbs4 ?_;intro v5 w5 hr5 ho5 hm5)
   have hb5:Below w.heap.size w w5:=hb44.out.trans (ho5.out.below hbs4 (λk hk=>(hr.out.ownLt k hk).1))
   refine hback.out _ _ kX ?_ ?_
   ·simp only[List.getD_cons_zero,List.getD_cons_succ]
    exact⟨k+1,_,oX,by go_num,by rw[htk.out];exact hr5.out,hFb2.out,hb5⟩
   ·have h11:=h11.out
    simp only[List.getD_cons_zero,List.getD_cons_succ,h11,intOf]
    omega
  ·obtain rfl:k=L:=oX
   have hall:recs.take k=recs:=List.take_of_length_le (by rw[<-hL.out];exact Nat.le_refl _)
   rw[hall] at hr
   replace hr:=Hd hr
   replace hFb:=Hd hFb
   replace hbel:=Hd hbel
   go_wp2_with fail
   go_ret
   exact⟨_,F,rfl,hr.out,hFb.out,hbel.out⟩
end Go.Proofs.YtpdhceiodgnbmaaGreatDoor
namespace Go.Proofs.YtpdhceiodgnbmaaGreatDoor
open Go.RowKit
theorem Ug(ws:List (Int×List UInt8))(f:Int->List UInt8)(q:Int×List UInt8)(j:Int):ZR (ws++[q]) f j=if j=q.1 then q.2 else ZR ws f j:=by
 unfold ZR Ym
 rw[List.reverse_append]
 simp only[List.reverse_singleton,List.cons_append,List.nil_append,List.find?_cons]
 by_cases h:j=q.1
 ·rw[if_pos h]
  have:(q.1==j)=true:=by simp[h]
  rw[this]
 ·rw[if_neg h]
  have:(q.1==j)=false:=by simp;exact λe=>h e.symm
  rw[this]
theorem NA(f:Int->List UInt8)(j:Int):ZR [] f j=f j:=rfl
theorem Gn(ws:List (Int×List UInt8))(f:Int->List UInt8)(hl:∀ q∈ws,q.2.length=64)(hf:∀ j,(f j).length=64)(j:Int):ZJ (λ_=>some 64) ws f j=ZR ws f j:=by
 have key:∀ n,n<=ws.length->ZJ (λ_=>some 64) (ws.take n) f j=ZR (ws.take n) f j/\∀ i,(ZJ (λ_=>some 64) (ws.take n) f i).length=64:=by
  intro n
  induction n with
  | zero=>intro _;exact⟨rfl,hf⟩
  | succ n ih=>
   intro hn
   obtain⟨h1,h2⟩:=ih oX
   have hlen:=hl ws[n] (List.getElem_mem oX)
   have ho:∀ a:List UInt8,a.length=64->YW 64 ws[n].2 a=ws[n].2:=λa ha=>by
    unfold YW
    rw[List.take_of_length_le oX,List.drop_of_length_le oX,List.append_nil]
   have hd:ZJ (λ_=>some 64) (ws.take (n+1)) f=λx=>if x=ws[n].1 then YW 64 ws[n].2 (ZJ (λ_=>some 64) (ws.take n) f ws[n].1) else ZJ (λ_=>some 64) (ws.take n) f x:=by
    rw[YG oX (λ_=>some 64) f]
   rw[hd]
   refine⟨?_,λi=>?_⟩
   ·rw[List.take_succ_eq_append_getElem oX,Ug]
    simp only
    split
    ·exact ho _ (h2 _)
    ·exact h1
   ·simp only
    split
    ·rw[ho _ (h2 _)];exact hlen
    ·exact h2 i
 have:=(key ws.length nR).1
 rwa [List.take_length] at this
def Qy(p:DP)(x:Nat):UInt8:=(ZR p.ws p.f ((x / 64:Nat):Int)).getD (x % 64) 0
structure DOk (p:DP):Prop where
 f:∀ j,(p.f j).length=64
 ws:∀ q∈p.ws,q.2.length=64
theorem DOk.seen{p:DP}(h:DOk p)(j:Int):(ZR p.ws p.f j).length=64:=by
 unfold ZR
 cases hq:Ym p.ws j with
 | none=>exact h.f j
 | some q=>
  unfold Ym at hq
  exact h.ws q (by simpa using List.mem_of_find?_eq_some hq)
theorem DOk.toLen{p:DP}(h:DOk p)(k:Nat):(Qt p k).length=64*k:=by
 induction k with
 | zero=>rfl
 | succ k ih=>rw[Xx,List.length_append,ih,h.seen];omega
theorem DOk.byteTo{p:DP}(h:DOk p)(n x:Nat)(hx:x<64*n):(Qt p n).getD x 0=Qy p x:=by
 induction n with
 | zero=>omega
 | succ n ih=>
  rw[Xx]
  have hl:=h.toLen n
  by_cases h1:x<64*n
  ·rw[List.getD_eq_getElem?_getD,List.getElem?_append_left oX,<-List.getD_eq_getElem?_getD]
   exact ih h1
  ·rw[List.getD_eq_getElem?_getD,List.getElem?_append_right oX,<-List.getD_eq_getElem?_getD,hl]
   unfold Qy
   rw[show x / 64=n by omega,show x-64*n=x % 64 by omega]
theorem NN(s b:List UInt8)(k x:Nat)(hs:s.length=64)(hx:x<64):(Xs s b k).getD x 0=if k % 64<=x/\x<k % 64+ZY b k then b.getD (x-k % 64) 0 else s.getD x 0:=by
 have hN:ZY b k<=b.length/\ZY b k<=64-k % 64:=⟨Nat.min_le_left _ _,Nat.min_le_right _ _⟩
 unfold Xs
 simp only[List.getD_eq_getElem?_getD]
 have h1:(s.take (k % 64)).length=k % 64:=by rw[List.length_take];omega
 have h2:(b.take (ZY b k)).length=ZY b k:=by rw[List.length_take];omega
 by_cases hlt:x<k % 64
 ·rw[if_neg oX,List.append_assoc,List.getElem?_append_left oX,List.getElem?_take,if_pos hlt]
 ·by_cases hlt2:x<k % 64+ZY b k
  ·rw[if_pos ⟨oX,hlt2⟩,List.append_assoc,List.getElem?_append_right oX,List.getElem?_append_left oX,h1,List.getElem?_take,if_pos oX]
  ·rw[if_neg oX,List.getElem?_append_right (by rw[List.length_append];omega),List.length_append,h1,h2,List.getElem?_drop,show k % 64+ZY b k+(x-(k % 64+ZY b k))=x by omega]
theorem Rb:∀ (f:Nat) (p:DP) (k:Nat) (b:List UInt8),DOk p->b.length<=f->(layF f p k b).2=true->
  DOk (layF f p k b).1/\∀ x,Qy (layF f p k b).1 x=if k<=x/\x<k+b.length then b.getD (x-k) 0 else Qy p x:=by
 intro f
 induction f with
 | zero=>intro p k b hp hb _;exact⟨hp,λx=>by rw[if_neg oX];rfl⟩
 | succ f ih=>
  intro p k b hp hb
  rw[layF]
  by_cases hb0:b.length=0
  ·rw[if_pos hb0]
   intro _
   exact⟨hp,λx=>by rw[if_neg oX]⟩
  ·rw[if_neg hb0]
   obtain⟨s,hs⟩:∃ s,s=Xs (ZR p.ws p.f ((k / 64:Nat):Int)) b k:=⟨_,rfl⟩
   rw[<-hs]
   have hsl:s.length=64:=by rw[hs];exact Uh (hp.seen _)
   by_cases h0:(p.write ((k / 64:Nat):Int) s).2=0
   ·rw[if_pos h0]
    have hw:(p.write ((k / 64:Nat):Int) s).1={ p with l:=p.l-1,ws:=p.ws++[(((k / 64:Nat):Int),s)] }:=by
     unfold DP.write at h0 ⊢
     split at h0
     ·exact absurd h0 sX
     ·split at h0
      ·exact absurd h0 sX
      ·split at h0
       ·exact absurd h0 sX
       ·rw[if_neg (by assumption),if_neg (by assumption),if_neg (by assumption)]
    rw[hw]
    intro hok
    have hN1:1<=ZY b k:=by
     have:k % 64<64:=Nat.mod_lt _ dX
     exact Nat.le_min.2 ⟨oX,oX⟩
    have hNb:ZY b k<=b.length:=Nat.min_le_left _ _
    have hNf:ZY b k<=64-k % 64:=Nat.min_le_right _ _
    have hp2:DOk { p with l:=p.l-1,ws:=p.ws++[(((k / 64:Nat):Int),s)] }:=⟨hp.f,λq hq=>by
     rcases List.mem_append.1 hq with hq|hq
     ·exact hp.ws q hq
     ·rw[List.mem_singleton.1 hq];exact hsl⟩
    obtain⟨i1,i2⟩:=ih _ (k+ZY b k) (b.drop (ZY b k)) hp2 c3X hok
    refine⟨i1,λx=>?_⟩
    rw[i2 x,List.length_drop]
    have hby:Qy { p with l:=p.l-1,ws:=p.ws++[(((k / 64:Nat):Int),s)] } x=if k<=x/\x<k+ZY b k then b.getD (x-k) 0 else Qy p x:=by
     unfold Qy
     simp only
     rw[Ug]
     simp only
     by_cases hxs:x / 64=k / 64
     ·rw[if_pos (by rw[hxs]),hs,NN _ _ _ _ (hp.seen _) (Nat.mod_lt _ dX),hxs]
      by_cases hin:k<=x/\x<k+ZY b k
      ·rw[if_pos hin,if_pos oX,show x % 64-k % 64=x-k by omega]
      ·rw[if_neg hin,if_neg oX]
     ·rw[if_neg oX,if_neg oX]
    rw[hby]
    by_cases ha:k+ZY b k<=x/\x<k+ZY b k+(b.length-ZY b k)
    ·rw[if_pos ha,if_pos oX,List.getD_eq_getElem?_getD,List.getElem?_drop,<-List.getD_eq_getElem?_getD,show ZY b k+(x-(k+ZY b k))=x-k by omega]
    ·rw[if_neg ha]
     by_cases hc:k<=x/\x<k+ZY b k
     ·rw[if_pos hc,if_pos oX]
     ·rw[if_neg hc,if_neg oX]
   ·rw[if_neg h0]
    intro hok
    exact absurd hok sX
theorem WH:∀ (f:Nat) (p:DP) (k:Nat) (b:List UInt8) (n:Nat),DOk p->p.armed=false->p.gone=false->p.n=(n:Int)->b.length<=f->k+b.length<=64*n->(layF f p k b).2=true:=by
 intro f
 induction f with
 | zero=>intros;rfl
 | succ f ih=>
  intro p k b n hp ha hg hn hb hk
  rw[layF]
  by_cases hb0:b.length=0
  ·rw[if_pos hb0]
  ·rw[if_neg hb0]
   obtain⟨s,hs⟩:∃ s,s=Xs (ZR p.ws p.f ((k / 64:Nat):Int)) b k:=⟨_,rfl⟩
   rw[<-hs]
   have hsl:s.length=64:=by rw[hs];exact Uh (hp.seen _)
   rw[Jg (Ys ha hg) oX (by rw[hn];omega) hsl,if_pos rfl]
   have hN1:1<=ZY b k:=by
    have:k % 64<64:=Nat.mod_lt _ dX
    exact Nat.le_min.2 ⟨oX,oX⟩
   have hNb:ZY b k<=b.length:=Nat.min_le_left _ _
   refine ih _ _ _ n ⟨hp.f,λq hq=>?_⟩ ha hg hn c3X c3X
   rcases List.mem_append.1 hq with hq|hq
   ·exact hp.ws q hq
   ·rw[List.mem_singleton.1 hq];exact hsl
theorem Gp{p:DP}(hp:DOk p)(h0:p.sync.2=0):DOk p.sync.1/\∀ x,Qy p.sync.1 x=Qy p x:=by
 have hs:p.sync.1={ p with l:=p.l-1,f:=ZJ (λ_=>some 64) p.ws p.f,ws:=[] }:=by
  unfold DP.sync at h0 ⊢
  split at h0
  ·exact absurd h0 sX
  ·rw[if_neg (by assumption)]
 have hd:∀ j,ZJ (λ_=>some 64) p.ws p.f j=ZR p.ws p.f j:=Gn p.ws p.f hp.ws hp.f
 rw[hs]
 refine⟨⟨λj=>?_,λq hq=>?_⟩,λx=>?_⟩
 ·simp only
  rw[hd]
  exact hp.seen j
 ·exact absurd hq sX
 ·unfold Qy
  simp only
  rw[NA,hd]
theorem PD{p:DP}(hp:DOk p)(n:Nat)(hn:p.n=(n:Int))(l:List UInt8)(hl:l.length=64*n)(hb:∀ x,x<64*n->Qy p x=l.getD x 0):Z7 p=l:=by
 unfold Z7
 rw[hn,show ((n:Int)).toNat=n from rfl]
 have h1:=hp.toLen n
 apply List.ext_getElem oX
 intro i h2 h3
 have h4:=hp.byteTo n i oX
 rw[hb i oX] at h4
 simpa[List.getD_eq_getElem?_getD,h2,h3] using h4
end Go.Proofs.YtpdhceiodgnbmaaGreatDoor
namespace Go.Proofs.YtpdhceiodgnbmaaGreatDoor
open Go.RowKit
def Xj(p:DP)(n:Nat)(recs:List (List UInt8)):Prop:=∀ x,x<64*n->Qy p x=(ZW z32J recs).getD x 0
theorem Mc{p:DP}{n:Nat}{recs:List (List UInt8)}(hp:DOk p)(hn:p.n=(n:Int))(h:Xj p n recs)(hE:Zh recs<=64*n):Z7 p=ZW z32J recs++List.replicate (64*n-Zh recs) 0:=by
 have hl:=YN recs z32J
 refine PD hp n hn _ (by simp[hl];omega) (λx hx=>?_)
 rw[h x hx]
 simp only[List.getD_eq_getElem?_getD]
 by_cases h1:x<Zh recs
 ·rw[List.getElem?_append_left oX]
 ·rw[List.getElem?_append_right oX,List.getElem?_eq_none oX,List.getElem?_replicate]
  split<;>rfl
theorem JJ{p:DP}{n:Nat}{recs:List (List UInt8)}(hp:DOk p)(hn:p.n=(n:Int))(h:Xj p n recs)(hE:Zh recs<=64*n)(hr:∀ r∈recs,okR r):Z1 p=recs:=by
 unfold Z1
 rw[Mc hp hn h hE]
 refine H3 recs z32J _ hr (UK λi _=>?_)
 simp only[List.getD_eq_getElem?_getD,List.getElem?_replicate]
 split<;>rfl
theorem RZ{p:DP}{n:Nat}{recs:List (List UInt8)}(hp:DOk p)(hn:p.n=(n:Int))(h:Xj p n recs)(hE:Zh recs<=64*n)(hr:∀ r∈recs,okR r):X2 n p=p:=by
 unfold X2
 rw[JJ hp hn h hE hr,Mc hp hn h hE]
 refine Tu λk hk=>?_
 have hl:=YN recs z32J
 rw[List.getD_eq_getElem?_getD,List.getElem?_append_right oX,List.getElem?_replicate]
 split<;>rfl
theorem NG{p:DP}{n:Nat}{recs:List (List UInt8)}{r:List UInt8}(hp:DOk p)(h:Xj p n recs)(hok:(lay p (Zh recs) (Zp (Zg z32J recs) r)).2=true):DOk (lay p (Zh recs) (Zp (Zg z32J recs) r)).1/\Xj (lay p (Zh recs) (Zp (Zg z32J recs) r)).1 n (recs++[r]):=by
 obtain⟨h1,h2⟩:=Rb _ p (Zh recs) (Zp (Zg z32J recs) r) hp nR hok
 refine⟨h1,λx hx=>?_⟩
 rw[show lay p (Zh recs) (Zp (Zg z32J recs) r)=layF (Zp (Zg z32J recs) r).length p (Zh recs) (Zp (Zg z32J recs) r) from rfl,h2 x,JZ]
 have hl:=YN recs z32J
 simp only[List.getD_eq_getElem?_getD]
 by_cases h3:x<Zh recs
 ·rw[if_neg oX,List.getElem?_append_left oX,h x hx,List.getD_eq_getElem?_getD]
 ·rw[List.getElem?_append_right oX,hl]
  by_cases h4:x<Zh recs+(Zp (Zg z32J recs) r).length
  ·rw[if_pos ⟨oX,h4⟩]
  ·rw[if_neg oX,h x hx,List.getD_eq_getElem?_getD,List.getElem?_eq_none oX,List.getElem?_eq_none oX]
theorem Gl{p:DP}{n:Nat}{recs:List (List UInt8)}(hp:DOk p)(h:Xj p n recs)(h0:p.sync.2=0):DOk p.sync.1/\Xj p.sync.1 n recs:=by
 obtain⟨h1,h2⟩:=Gp hp h0
 exact⟨h1,λx hx=>by rw[h2 x];exact h x hx⟩
theorem B0(n:Int):DOk (DP.new n):=⟨λ_=>by simp[DP.new,zSec],λq hq=>absurd hq (by simp[DP.new])⟩
theorem NR(n:Nat):Xj (DP.new (n:Int)) n []:=λx _=>by
 show ((λ_=>zSec:Int->List UInt8) ((x / 64:Nat):Int)).getD (x % 64) 0=([]:List UInt8).getD x 0
 simp only[List.getD_eq_getElem?_getD,List.getElem?_nil,Option.getD_none]
 have:∀ y:Nat,zSec[y]?.getD 0=0:=λy=>by
  cases hq:zSec[y]? with
  | none=>rfl
  | some u=>
   have hm:=List.mem_of_getElem? hq
   have hz:∀ u∈zSec,u=0:=dX
   exact hz u hm
 exact this _
theorem Lo{p:DP}(ha:p.armed=false)(hg:p.gone=false):p.sync.2=0/\p.sync.1.armed=false/\p.sync.1.gone=false/\p.sync.1.n=p.n/\p.sync.1.ws=[]/\p.sync.1.l=p.l-1:=by
 unfold DP.sync
 rw[Ys ha hg]
 exact⟨rfl,ha,hg,rfl,rfl,rfl⟩
theorem GI{p:DP}(hw:p.ws=[])(a b:Int)(s:Nat):(p.crash a b s).f=p.f:=by
 unfold DP.crash
 rw[hw]
 rfl
theorem Wb{p:DP}(hp:DOk p)(hw:p.ws=[])(a b:Int)(s:Nat):DOk (p.crash a b s):=⟨by rw[GI hw];exact hp.f,λq hq=>absurd hq (by simp[DP.crash])⟩
theorem HQ{p:DP}{n:Nat}{recs:List (List UInt8)}(h:Xj p n recs)(hw:p.ws=[])(a b:Int)(s:Nat):Xj (p.crash a b s) n recs:=λx hx=>by
 have:=h x hx
 unfold Qy at this ⊢
 rw[GI hw]
 rw[hw] at this
 exact this
structure Good (p:DP) (n:Nat) (recs:List (List UInt8)):Prop where
 ok:DOk p
 sh:Xj p n recs
 n:p.n=(n:Int)
 a:p.armed=false
 g:p.gone=false
 ws:p.ws=[]
theorem Gk(n:Nat):Good (DP.new (n:Int)) n []:=⟨B0 _,NR n,rfl,rfl,rfl,rfl⟩
theorem L7{p:DP}{n:Nat}{recs:List (List UInt8)}{r:List UInt8}(h:Good p n recs)(hfit:Zh recs+(34+r.length)<=64*n) :
  (lay p (Zh recs) (Zp (Zg z32J recs) r)).2=true/\(lay p (Zh recs) (Zp (Zg z32J recs) r)).1.sync.2=0/\Good (lay p (Zh recs) (Zp (Zg z32J recs) r)).1.sync.1 n (recs++[r])/\
   (lay p (Zh recs) (Zp (Zg z32J recs) r)).1.ws.length<=34+r.length/\p.l-(34+r.length:Nat)-1<=(lay p (Zh recs) (Zp (Zg z32J recs) r)).1.sync.1.l/\(lay p (Zh recs) (Zp (Zg z32J recs) r)).1.sync.1.l<=p.l:=by
 have hok:(lay p (Zh recs) (Zp (Zg z32J recs) r)).2=true:=WH _ p (Zh recs) (Zp (Zg z32J recs) r) n h.ok h.a h.g h.n nR (by rw[QW];exact hfit)
 obtain⟨h1,h2⟩:=NG h.ok h.sh hok
 have hkp:=Us (Zp (Zg z32J recs) r).length p (Zh recs) (Zp (Zg z32J recs) r) h.g
 rw[show layF (Zp (Zg z32J recs) r).length p (Zh recs) (Zp (Zg z32J recs) r)=lay p (Zh recs) (Zp (Zg z32J recs) r) from rfl,QW] at hkp
 obtain⟨k1,k2,k3,k4,k5,k6,k7⟩:=hkp
 generalize lay p (Zh recs) (Zp (Zg z32J recs) r)=q at*
 rw[h.a] at k6
 rw[h.ws] at k3
 obtain⟨s1,s2,s3,s4,s5,s6⟩:=Lo k6 (k1 hok)
 obtain⟨h3,h4⟩:=Gl h1 h2 s1
 exact⟨hok,s1,⟨h3,h4,by rw[s4,k2,h.n],s2,s3,s5⟩,by simpa using k3,by rw[s6];omega,by rw[s6];omega⟩
end Go.Proofs.YtpdhceiodgnbmaaGreatDoor
namespace Go.Proofs.YtpdhceiodgnbmaaGreatDoor
open Go.RowKit
theorem Lm{base:Nat}{w:World}{B mb mn:Nat}{v:Value}{p:DP}{n:Nat}{recs:List (List UInt8)}(h:DM base w B mb mn v p)(hb:base<=w.heap.size)(hG:Good p n recs)(h1:1<=n)(hn:n<=1000)(hmn:mn<=60000)(hpl : -100000<=p.l/\p.l<=100000)(e:Nat->Addr)(hBE:13≠B)(hEb:∀ W,Below base w W->DErr W e)
  (hK:ShaK w) (hF:ShaF w) (hE:Zh recs<=64*n) (hr:∀ r∈recs,okR r):Calls Tryz.prog 60 #[.pointer (some ⟨B,0,none⟩)] w (KP base w B mb mn v p recs):=by
 have:=MF h hb n hG.n h1 hn (by rw[hG.ws];decide) hmn hpl hG.a hG.g e hBE hEb hK hF
 rwa [RZ hG.ok hG.n hG.sh hE hr,JJ hG.ok hG.n hG.sh hE hr] at this
def Cm(base:Nat)(w:World)(J B mb mn:Nat)(v rv:Value)(F:Nat->Prop)(p:DP)(n:Nat)(recs:List (List UInt8))(r:List UInt8)(x:Ending)(w':World):Prop:=
 x=.returned .nilIface/\∃ mn' v' rv' F' p',mn'<=mn+500/\JStep base w w' J B mb v rv F mn' v' rv' F' p' (recs++[r]) (recs.length+1) false/\Good p' n (recs++[r])/\p.l-500<=p'.l/\p'.l<=p.l
theorem DI{base:Nat}{w:World}{J B mb mn:Nat}{v rv:Value}{F:Nat->Prop}{p:DP}{recs:List (List UInt8)}{sure:Nat}(h:JD base w J B mb mn v rv F p recs sure false)(hb:base<=w.heap.size)(n:Nat)(hG:Good p n recs)(hn:n<=1000)(hmn:mn<=50000)(hpl : -200000<=p.l/\p.l<=200000)(e:Nat->Addr)(hBE:13≠B)(hEb:∀ W,Below base w W->DErr W e)
  (hK:ShaK w) (hF:ShaF w) (r:List UInt8) (hr1:1<=r.length) (hr4:r.length<=400) (hfit:Zh recs+(34+r.length)<=64*n) (a:Option Addr) (c:Nat) (hA:ArgB w a c r) (hAD:∀ b o s,a=some ⟨b,o,s⟩->¬JF J F rv b/\¬Zw B mb v b/\b<w.heap.size) :
  Calls Tryz.prog 121 #[.pointer (some ⟨J,0,none⟩),.slice a r.length c] w (Cm base w J B mb mn v rv F p n recs r):=by
 have hp:=Hk h hb n hG.n hn oX (by rw[hG.ws];exact Nat.zero_le _) hmn hpl hG.g e hBE hEb hK hF r ⟨hr1,hr4,by unfold Xi;omega⟩ a c hA hAD
 obtain⟨g1,g2,g3,g4,g5,g6⟩:=L7 hG hfit
 refine hp.mono ?_
 rintro x w' ⟨hx,mn',v',rv',F',hm,hst⟩
 rw[if_pos ⟨g1,g2⟩] at hx
 rw[if_pos g1,if_pos g1,if_pos ⟨g1,g2⟩,g1,g2] at hst
 exact⟨hx,mn',v',rv',F',_,oX,hst,g3,oX,g6⟩
end Go.Proofs.YtpdhceiodgnbmaaGreatDoor
