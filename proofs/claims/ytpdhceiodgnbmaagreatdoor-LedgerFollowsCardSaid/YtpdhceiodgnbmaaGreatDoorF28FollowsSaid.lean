import Derived.Test.YtpdhceiodgnbmaaGreatDoorF0FollowsSaid
import Derived.Test.YtpdhceiodgnbmaaGreatDoorF1FollowsSaid
import Derived.Test.YtpdhceiodgnbmaaGreatDoorF27FollowsSaid
import Derived.Test.YtpdhceiodgnbmaaGreatDoorF6FollowsSaid
import Derived.Test.YtpdhceiodgnbmaaGreatDoorF22FollowsSaid
set_option linter.unusedVariables false
set_option linter.unusedSimpArgs false
set_option linter.unnecessarySimpa false
set_option maxRecDepth 100000
set_option maxHeartbeats 8000000
namespace Go.Proofs.YtpdhceiodgnbmaaGreatDoor
open Go.RowKit
section
variable {α:Type} {R:World->(Nat->Prop)->α->List Value->Prop} {e:TypeId} {size base:Nat} {w:World} {F F':Nat->Prop} {v:Value} {ps:List α} {P:Program} {o:Oper} {a:Act} {Q:Exit->Act->World->Prop} {K:Act->World->Prop}
theorem U1(hR:LiesOk R size)(s x:Operand)(t:TypeId)(ho:o.op=.call { callee:=.builtin .append,args:=#[s,x],argTypes:=#[t,t] })
  (ht:P.underlying t=some (.slice e)) (bytes:Nat) (hi:(P.info? e).map (λi=>(i.zero.map (·.cells.size),i.size,i.bytes))=some (some size,size,bytes)) (hsz:0<size)
  (hs:a.eval s=v) (h:Hid (RowsOf R e size base w F v ps)) (y:α) (C:Array Value) (hy:Hid (R w F' y C.toList)) (hF:Hid (∀ k,F k->F' k)) (ha:Hid (∀ k,v.ownBlock=some k->¬F' k)) (hl:Hid (∀ k,F' k->k<w.heap.size))
  (g:Nat) (hx:a.eval x=.slice (some ⟨g,0,none⟩) 1 1) (hg:Hid (w.heap[g]? = some (.cells C e (0,0)))) (h63:ps.length<=1000000) (hb8:bytes<=10000) (hbase:base<=w.heap.size)
  (hK:∀ v' w',Hid (RowsOf R e size base w' F' v' (ps++[y]))->Hid (Only (λk=>v.ownBlock=some k) w w')->Hid (YI w v v')->K (a.put o.dst v') w'):o.wp P a w K Q:=by
 obtain⟨ie,hie,h2⟩:=Option.map_eq_some_iff.1 hi
 simp only[Prod.mk.injEq] at h2
 obtain⟨hz,hs1,hby⟩:=h2
 obtain⟨z,hz1,hz2⟩:=Option.map_eq_some_iff.1 hz
 obtain⟨v',w',hr,k1,k2,k3⟩:=h.out.app1 (P:=P) hR t o.type ie z bytes ht hie hz1 hs1 hby hz2 hsz y C.toList hy.out hF.out ha.out hl.out g C rfl hg.out (by unfold maxLen;omega)
  (Nat.le_trans (Nat.mul_le_mul (Nat.succ_le_succ h63) hb8) dX) hbase
 unfold Oper.wp execOp
 simp only[ho,resolve,invoke,builtin,Sem.run_bind,Sem.run_pure,Result.andThen_ok,List.map_toArray,List.map_cons,List.map_nil,hs,hx,hr]
 exact hK v' w' (Hd k1) (Hd k2) (Hd k3)
end
theorem KQ{w:World}{b c:Nat}{ps:List (List UInt8)}(h:ArgBB w (some ⟨b,0,none⟩) c ps):RowsAt w b ps:=by
 intro k hk
 obtain⟨b',o',e',a,c',h1,h2⟩:=h.row k hk
 cases e'
 rw[Nat.zero_add] at h1
 exact⟨a,c',h1,h2⟩
theorem JStep.appended{base:Nat}{w w8 w9:World}{J B mb mn:Nat}{v rv rv':Value}{F F':Nat->Prop}{p:DP}{recs:List (List UInt8)}{sure:Nat}{dead:Bool}{r:List UInt8}(h:JD base w J B mb mn v rv F p recs sure dead)(hr:okR r)
  (hO:Only (λk=>rv.ownBlock=some k) w w8) (hF:∀ k,F' k->F k\/w.heap.size<=k) (hv:∀ k,rv'.ownBlock=some k->rv.ownBlock=some k\/w.heap.size<=k) (hrow:RowsOf RB 24 1 base w8 F' rv' (recs++[r]))
  (hU:Upd J (.cells (Zu B rv' (Zg z32J (recs++[r])) (Zh (recs++[r]):Nat) sure dead) 190 (0,0)) w8 w9) (hb:base<=w.heap.size):JStep base w w9 J B mb v rv F mn v rv' F' p (recs++[r]) sure dead:=by
 have hJl:=Zb h.jm.at_
 have hU2:Only (λk=>k=J) w8 w9:=Only.ofUpd hU rfl
 have hO3:Only (JF J F rv) w w9:=(hO.mono (λk _ e=>(.inr (.inr e):JF J F rv k))).trans hU2 (λk _ e=>.inl e)
 have hO2:Only (λk=>JF J F rv k\/Z2 B mb v k) w w9:=hO3.mono (λ_ _ h=>.inl h)
 have hnF:¬F' J:=λhk=>(hF J hk).elim h.jm.nF (λh=>by omega)
 have hnv:rv'.ownBlock≠some J:=λhk=>(hv J hk).elim h.jm.nv (λh=>by omega)
 have hnew:∀ k,JF J F' rv' k->JF J F rv k\/w.heap.size<=k:=by
  rintro k (hk|hk|hk)
  ·exact .inl (.inl hk)
  ·exact(hF k hk).imp (λh=>.inr (.inl h)) id
  ·exact(hv k hk).imp (λh=>.inr (.inr h)) id
 refine⟨⟨⟨hU.here,hrow.only liesRB hU2 (λk hk e=>hnF (e▸hk)) (λk hk e=>hnv (e▸hk)),hnF,hnv,h.jm.ge,λk hk=>(hF k hk).elim (h.jm.geF k) (λh=>by omega),λx hx=>?_⟩,h.dm.only hO3 (λk hk hd=>h.dj k hd hk),λk hk hd=>?_⟩,hO2,hnew,λ_ h=>.inl h⟩
 ·rcases List.mem_append.1 hx with hx|hx
  ·exact h.jm.okR x hx
  ·rw[List.mem_singleton.1 hx];exact hr
 ·rcases hnew k hk with h1|h1
  ·exact h.dj k h1 hd
  ·have:=(h.dm.lt k hd).2;omega
theorem JStep.appended3{base:Nat}{w w11 w12 w13 w14 w15:World}{J B mb mn:Nat}{v rv rv':Value}{F:Nat->Prop}{p:DP}{recs:List (List UInt8)}{sure:Nat}{dead:Bool}{r:List UInt8}(h:JD base w J B mb mn v rv F p recs sure dead)(hr:okR r)
  (hb11:Below w.heap.size w w11) (hO:Only (λk=>rv.ownBlock=some k) w11 w12) (hM:YI w11 rv rv') (g10:Nat) (hg:w.heap.size<=g10) (hrow:RowsOf RB 24 1 base w12 (λk=>F k\/k=g10) rv' (recs++[r])) (E FL:Nat) (hE:E=Zh recs) (hFL:FL=34+r.length)
  (h13:Upd J (.cells (Zu B rv' (Zg z32J recs) (E:Nat) sure dead) 190 (0,0)) w12 w13) (h14:Upd J (.cells (Zu B rv' (Zy (Zg z32J recs) r) (E:Nat) sure dead) 190 (0,0)) w13 w14)
  (h15:Upd J (.cells ((Zu B rv' (Zy (Zg z32J recs) r) (E:Nat) sure dead).setIfInBounds 34 (.int .i64 ((E:Int)+(FL:Int)))) 190 (0,0)) w14 w15) (hb:base<=w.heap.size):JStep base w w15 J B mb v rv F mn v rv' (λk=>F k\/k=g10) p (recs++[r]) sure dead:=by
 have hU:=(h13.trans h14).trans h15
 rw[H7 (QC _ _),show (E:Int)+(FL:Int)=((Zh (recs++[r]):Nat):Int) by rw[Xg,hE,hFL];omega,<-Yv] at hU
 exact JStep.appended h hr ((Only.ofBelow (D:=λk=>rv.ownBlock=some k) hb11).trans hO (λ_ _ h=>h)) (λk hk=>hk.imp id (λe=>by omega)) (λk hk=>(hM k hk).imp id (λh=>Nat.le_trans hb11.size h)) hrow hU hb
theorem J7{K:Act->World->Prop}{a:Act}{w:World}{x:Addr}{u:Value}(h:∀ w',w'=w.setCell x u->K a w'):K a (w.setCell x u):=h _ rfl
theorem Km{K:Act->World->Prop}{a:Act}{w:World}{b o:Nat}{us:List Value}(h:∀ w',w'=w.setCells b o us->K a w'):K a (w.setCells b o us):=h _ rfl
def Nj(n:Nat)(recs:List (List UInt8))(r:List UInt8):Prop:=1<=r.length/\r.length<=400/\r.length<=XK n (Zh recs)
def RF(base:Nat)(w:World)(J B mb mn:Nat)(v rv:Value)(F:Nat->Prop)(q:DP×Bool)(recs:List (List UInt8))(r:List UInt8)(sure:Nat)(x:Ending)(w':World):Prop:=
 (if q.2=true then x=.returned .nilIface else ∃ a,x=.returned (.iface 232 (.pointer (some a))))/\∃ v' rv' F',JStep base w w' J B mb v rv F mn v' rv' F' q.1 (if q.2=true then recs++[r] else recs) sure (!q.2)
theorem GG{base:Nat}{w:World}{J B mb mn:Nat}{v rv:Value}{F:Nat->Prop}{p:DP}{recs:List (List UInt8)}{sure:Nat}(h:JD base w J B mb mn v rv F p recs sure false)(hb:base<=w.heap.size)(n:Nat)(hpn:p.n=(n:Int))(hn:n<=1000)(hE64:Zh recs<=64*n)(hws:p.ws.length<=20000)(hpl : -200000<=p.l/\p.l<=200000)(hg:p.gone=false)(e:Nat->Addr)(hBE:13≠B)(hEb:∀ W,Below base w W->DErr W e)
  (hK:ShaK w) (hF:ShaF w) (r:List UInt8) (hgood:Nj n recs r) (a:Option Addr) (c:Nat) (hA:ArgB w a c r) (hAD:∀ b o s,a=some ⟨b,o,s⟩->¬JF J F rv b/\¬Z2 B mb v b/\b<w.heap.size) :
  Calls Tryz.prog 145 #[.pointer (some ⟨J,0,none⟩),.slice a r.length c] w (RF base w J B mb mn v rv F (lay p (Zh recs) (Zn (Zg z32J recs) r)) recs r sure):=by
 have zr:=QH
 have zn:=QS
 obtain⟨g1,g2,g3⟩:=hgood
 obtain⟨ra,rc,hrv,_⟩:=h.jm.rows.argBB
 subst hrv
 have hrl:recs.length<=1000000:=by have:=Uv recs;omega
 have hroom:Zh recs+34+r.length<=64*n:=by unfold XK at g3;omega
 have hfl:=Ya (Zg z32J recs) r
 have hc36:=h.jm.cell36
 have hsd:=λW=>JC (r.length:Int) W
 have hd2:decide (1<=(r.length:Int)/\(r.length:Int)<=400)=true:=decide_eq_true oX
 rw[hd2] at hsd
 have hrm:=TX h n hpn hn hE64
 have hH:=Qf ZK recs
 have hNl:=QC (Zg z32J recs) r
 have hhs:Zg z32J (recs++[r])=Zy (Zg z32J recs) r:=Yv _ _ _
 have hes:Zh (recs++[r])=Zh recs+(34+r.length):=Xg _ _
 obtain⟨q,hq⟩:∃ q,q=lay p (Zh recs) (Zn (Zg z32J recs) r):=⟨_,rfl⟩
 rw[<-hq]
 replace hq:=Hd hq
 obtain⟨RM,hRM⟩:∃ RM,RM=XK n (Zh recs):=⟨_,rfl⟩
 rw[<-hRM] at hrm g3
 have hR3:¬((r.length:Int)>(RM:Int)):=oX
 have hR3':¬((RM:Int)<(r.length:Int)):=oX
 obtain⟨L,hL⟩:∃ L,L=r.length:=⟨_,rfl⟩
 rw[<-hL] at hsd hR3 hR3' ⊢
 obtain⟨H,hHd⟩:∃ H,H=(cB (Zg z32J recs)).toArray:=⟨_,rfl⟩
 have hiH:(Tryz.prog.info? 47).map (·.size)=some (cB (Zg z32J recs)).length:=by rw[Qd hH,List.size_toArray]
 have huA:Tryz.prog.underlying 47=some (.array 32 5):=Tryz.underlying47
 obtain⟨N,hN⟩:∃ N,N=(cB (Zy (Zg z32J recs) r)).toArray:=⟨_,rfl⟩
 have tD:(Tryz.prog.info? 47).map (·.size)=some N.size:=by rw[hN];exact Qd hNl
 have t32:zero32.size=N.size:=by rw[hN];exact Vr hNl
 have tO:N.all (·.oneCell')=true:=by rw[hN];exact JE _
 replace h:=Hd h
 replace hpn:=Hd hpn
 replace hws:=Hd hws
 replace hpl:=Hd hpl
 replace hg:=Hd hg
 replace hEb:=Hd hEb
 replace hK:=Hd hK
 replace hF:=Hd hF
 replace hA:=Hd hA
 replace hAD:=Hd hAD
 replace hrm:=Hd hrm
 replace hsd:=Hd hsd
 replace hhs:=Hd hhs
 replace hes:=Hd hes
 replace hfl:=Hd hfl
 replace hRM:=Hd hRM
 replace hL:=Hd hL
 replace hN:=Hd hN
 replace hHd:=Hd hHd
 go_enter Tryz.func145,Tryz.ntmps145
 go_wp2_with fail
 with_reducible refine(hsd.out _).mono ?_
 rintro x w0 ⟨rfl,hq⟩
 obtain rfl:=hq
 clear hsd
 go_wp2_with fail
 with_reducible refine hrm.out.mono ?_
 rintro x w1 ⟨rfl,nd,rfl⟩
 clear hrm
 have hb1:Below w.heap.size w (w.drewN nd):=Drawn.below ⟨nd,rfl⟩ _
 generalize w.drewN nd=w1 at*
 have hhd:w1.rangeAt J 2 (cB (Zg z32J recs)):=(h.out.below hb1).jm.head
 have hnx:=XO (Zg z32J recs) r hH a c w1 (hA.out.below hb1) oX (hK.out.below hb1) (hF.out.below hb1)
 rw[<-hHd.out,<-hN.out,<-hL.out] at hnx
 replace hnx:=Hd hnx
 replace hhd:=Hd hhd
 replace hb1:=Hd hb1
 go_wp2_with (refine wpList_load_mid rfl 47 (.tmp 29) rfl J 2 rfl (cB (Zg z32J recs)) _ hhd.out huA rfl hiH ?_;rw[<-hHd.out])
 with_reducible refine hnx.out.mono ?_
 rintro x w2 ⟨rfl,hb2⟩
 clear hnx hhd
 have hz2:Hid ((w2.alloc (.cells zero32 47)).heap[w2.heap.size]? = some (.cells zero32 47 (0,0))):=heap_alloc_new w2 (.cells zero32 47 (0,0))
 go_wp2_with (refine Zc rfl 47 (.tmp 5) (.tmp 32) rfl w2.heap.size zero32 N rfl rfl hz2 tD t32 tO ?_;intro w4 hU4)
 have hb4:Below w.heap.size w w4:=(hb1.out.trans (hb2.mono hb1.out.size)).trans ((bR.alloc (Nat.le_trans hb1.out.size hb2.size) _).trans (hU4.out.below (Nat.le_trans hb1.out.size hb2.size)))
 obtain⟨g,hgd⟩:∃ g,g=w2.heap.size:=⟨_,rfl⟩
 have hNb:w4.heap[g]? = some (.cells N 47 (0,0)):=by rw[hgd];exact hU4.out.here
 have hgw:w.heap.size<=g:=by rw[hgd];exact Nat.le_trans hb1.out.size hb2.size
 rw[<-hgd]
 replace hgd:=Hd hgd
 have hd4:Below w4.heap.size w4 w4.drew:=bR.drew
 have hah:ArgB w4.drew (some ⟨g,0,none⟩) 32 (Zy (Zg z32J recs) r):=Xu (by rw[<-hN.out];exact hNb) oX dX
 have har:ArgB w4.drew a c r:=(hA.out.below hb4).below hd4
 have hsz:=λW=>KF r.length oX W
 rw[<-hL.out] at hsz
 have hmk:=λW ax cx ay cy az cz g (h1:ArgB W ax cx (lnB r.length)) (h2:ArgB W ay cy (Zy (Zg z32J recs) r)) (h3:ArgB W az cz r)=>Vj (g:=g) h1 h2 h3
 rw[hNl,show (lnB r.length).length=2 from rfl,<-hL.out] at hmk
 have hcc:=λW g hA=>Vl g [lnB r.length,Zy (Zg z32J recs) r,r] W hA sX (by simp[lnB]) (by simp[lnB,hNl];omega)
 rw[show [lnB r.length,Zy (Zg z32J recs) r,r].length=3 from rfl,show [lnB r.length,Zy (Zg z32J recs) r,r].flatten=Zn (Zg z32J recs) r by simp[Zn]] at hcc
 rw[hL.out] at hmk hsz
 replace hcc:=Hd hcc
 replace hmk:=Hd hmk
 replace hsz:=Hd hsz
 replace hd4:=Hd hd4
 replace hb4:=Hd hb4
 replace hNb:=Hd hNb
 replace hah:=Hd hah
 replace har:=Hd har
 clear hz2 hU4 hb2 hb1
 rw[hL.out]
 go_wp2_with fail
 refine wp_region_held_drew (S:=(Below w4.heap.size w4)) kX hd4.out (λhOn=>?_)
 generalize World.drew w4=wd at*
 refine tk 0 hOn ?_
 refine tk 1 hOn ?_
 refine tk 3 hOn ?_
 refine tk 4 hOn ?_
 refine rd 2 (λKz hKz=>?_)
 go_simp
 (with_reducible refine(hsz.out _).mono ?_)
 rintro e w3 ⟨rfl,hl3,hnew⟩
 replace hah:=Hd (hah.out.below hnew)
 replace har:=Hd (har.out.below hnew)
 replace hl3:=Hd hl3
 clear hsz
 focus (go_wp2_with fail)
 refine hKz.out _ _ (Below.trans hOn (Below.mono hnew (Below.size hOn))) ?_
 clear hKz Kz hOn
 intro hOn
 try clear hnew
 try simp only[Act.put,sL,sZ,sS]
 refine rd 5 (λKz hKz=>?_)
 go_simp
 focus (try go_wp2_with fail)
 (with_reducible refine Z0 (t:=24) ?_)
 intro w5 hx5 hnew
 have hq5:=Hd (hmk.out _ _ _ _ _ _ _ _ (hl3.out.below hnew) (hah.out.below hnew) (har.out.below hnew) hx5.out)
 refine hKz.out _ _ (Below.trans hOn (Below.mono hnew (Below.size hOn))) ?_
 clear hKz Kz hOn
 intro hOn
 try clear hnew
 try simp only[Act.put,sL,sZ,sS]
 refine rd 6 (λKz hKz=>?_)
 go_simp
 (with_reducible refine(hcc.out _ _ (KQ hq5.out)).mono ?_)
 rintro e w8 ⟨v8,rfl,ho8,hnew⟩
 have ho8:=Hd (OwnB.mono ho8 hOn.size)
 focus (go_wp2_with fail)
 refine hKz.out _ _ (Below.trans hOn (Below.mono hnew (Below.size hOn))) ?_
 clear hKz Kz hOn
 intro hOn
 try clear hnew
 try simp only[Act.put,sL,sZ,sS]
 refine tk 7 hOn ?_
 refine dnE ?_
 have hb8:Below w.heap.size w w8:=hb4.out.trans (hOn.mono hb4.out.size)
 have hN8:w8.heap[g]? = some (.cells N 47 (0,0)):=(hOn.block _ (Zb hNb.out)).trans hNb.out
 obtain⟨a8,c8,rfl,hA8,hB8⟩:=ho8.out.arg
 have hw4:=hb4.out.size
 have hlay:=RV (h.out.below hb8) (Nat.le_trans hb hb8.size) n hpn.out hn hws.out hpl.out hg.out e hBE (λW hW=>hEb.out W ((hb8.mono hb).trans hW)) (Zn (Zg z32J recs) r) (by rw[hfl.out];omega) (by rw[hfl.out];omega) a8 c8 hA8
  (λb' o' s' e'=>by
   have hbb:=hB8 b' o' s' e'
   exact⟨λhj=>by have:=(h.out.jm.lt _ hj).2;omega,λhd=>by have:=(h.out.dm.lt _ hd).2;omega,hbb.2⟩)
 rw[<-hq.out] at hlay
 obtain⟨FL,hFL⟩:∃ FL,FL=(Zn (Zg z32J recs) r).length:=⟨_,rfl⟩
 rw[<-hFL] at hlay ⊢
 have hFLn:FL=34+r.length:=by rw[hFL,hfl.out]
 replace hFL:=Hd hFL
 replace hFLn:=Hd hFLn
 replace hlay:=Hd hlay
 replace hb8:=Hd hb8
 replace hN8:=Hd hN8
 clear hA8 hB8 ho8 hcc hmk hOn hc36 hd4 hx5 hq5 hah har hl3
 go_wp2_with fail
 with_reducible refine hlay.out.mono ?_
 clear hlay
 obtain⟨p',ok⟩:=q
 rintro x w9 ⟨hx,v9,hst9⟩
 have hst:=((JStep.same h.out).grow hb8.out).trans hst9
 cases ok with
 | false=>
  obtain⟨ad,rfl⟩:=hx
  replace hst:=Hd hst
  clear hst9
  go_wp2_with fail
  go_ret
  exact⟨⟨_,rfl⟩,_,_,_,hst.out⟩
 | true=>
  cases (show x=_ from hx)
  have hw8:=hb8.out.size
  have hgl:=Zb hN8.out
  have hnJ:¬JF J F (.slice ra recs.length rc) g:=λhj=>by have:=(h.out.jm.lt _ hj).2;omega
  have hnD:¬Z2 B mb v g:=λhd=>by have:=(h.out.dm.lt _ hd).2;omega
  have hS9:w9.drew.heap[g]? = some (.cells N 47 (0,0)):=hst9.only.heap hN8.out (λhd=>hd.elim hnJ hnD)
  have hA9:ArgB w9.drew a c r:=(hst.only.argB hA.out (λb' o' e' hd=>(hAD.out b' o' none e').elim (λh1 h2=>hd.elim h1 h2.1))).below (bR.drew)
  have hcl:=Xj a c r w9.drew hA9 oX
  have hgv:(Value.slice ra recs.length rc).ownBlock≠some g:=λe=>hnJ (.inr (.inr e))
  have hgJ:g≠J:=λe=>hnJ (.inl e)
  obtain⟨E,hE⟩:∃ E,E=Zh recs:=⟨_,rfl⟩
  have hE2:E<=64000:=oX
  have hFL2:FL<=434:=by rw[hFLn.out];omega
  have hatd:w9.drew.heap[J]? = some (.cells (Zu B (.slice ra recs.length rc) (Zg z32J recs) (Zh recs:Nat) sure false) 190 (0,0)):=hst9.ok.jm.at_
  rw[<-hE] at hatd
  have hrow9:RowsOf RB 24 1 base w9.drew F (.slice ra recs.length rc) recs:=hst9.ok.jm.rows.below liesRB (bR.drew)
  have hb9:base<=w9.drew.heap.size:=Nat.le_trans hb (Nat.le_trans hw8 hst9.only.size)
  have hbd:Below w9.heap.size w9 w9.drew:=bR.drew
  have k1:w9.drew.cell? ⟨J,1,none⟩=some (.slice ra recs.length rc):=by rw[Za hatd];exact jc1
  have k34:w9.drew.cell? ⟨J,34,none⟩=some (.int .i64 (E:Nat)):=by rw[Za hatd];exact J9 hH
  have rlA:∀ W:World,W.heap[g]? = some (.cells N 47 (0,0))->W.heap[g]? = some (.cells N 47 (0,0)):=λ_ h=>h
  have hzA:=tD
  have hNL:N.toList=cB (Zy (Zg z32J recs) r):=by rw[hN.out]
  have hwrap:IntKind.i64.wrap ((E:Int)+(FL:Int))=(E:Int)+(FL:Int):=IntWalk.i64_in _ oX
  have hinfo:=Hd JP
  have hus:=Tryz.underlying22
  replace hS9:=Hd hS9
  replace hcl:=Hd hcl
  replace hatd:=Hd hatd
  replace hrow9:=Hd hrow9
  replace hNL:=Hd hNL
  replace hE:=Hd hE
  replace hst:=Hd hst
  replace hst9:=Hd hst9
  replace hbd:=Hd hbd
  clear hA9 hnJ hnD
  go_wp2_with fail
  refine wp_region_held_drew (S:=(λW:World=>W.heap[g]? = some (.cells N 47 (0,0)))) kX hS9.out (λhOn=>?_)
  generalize World.drew w9=wd at*
  refine tk 0 hOn ?_
  refine tk 1 hOn ?_
  refine tk 2 hOn ?_
  refine tk 3 hOn ?_
  refine tk 4 hOn ?_
  refine tk 5 hOn ?_
  refine tk 7 hOn ?_
  refine tk 11 hOn ?_ (v:=Value.agg _) (hy:=Or.inl ⟨by rfl,λW hSW=>Zi _ _ rfl _ _ _ rfl (rlA W hSW) huA rfl hzA⟩)
  refine tk 12 hOn ?_
  refine tk 13 hOn ?_
  refine tk 14 hOn ?_
  refine tk 16 hOn ?_
  refine tk 17 hOn ?_
  repeat' first
   | exact AllReadyH.nil
   |
    first|refine acI 6 (λKz hKz=>?_) ?_|refine rdK 6 (λKz hKz=>?_)|refine acI 15 (λKz hKz=>?_) ?_|refine rdK 15 (λKz hKz=>?_)
    go_simp
    focus (try go_wp2_with fail)
    refine hKz.out _ _ (by first|exact hOn|exact Grown.alloc hOn _|exact Below.alloc hOn (Below.size hOn) _|exact Grown.alloc (Grown.refl _) _) ?_
    clear hKz Kz hOn
    intro hOn
    try simp only[Act.put,sL,sZ,sS]
   |
    first|refine acI 8 (λKz hKz=>?_) ?_|refine rdK 8 (λKz hKz=>?_)
    go_simp
    (with_reducible refine hcl.out.mono ?_)
    rintro y w10 ⟨v10,rfl,ho10,hnew⟩
    have hS:=(hnew.block g (Zb hOn)).trans hOn
    have hat10:=Hd ((hnew.block J (Zb hatd.out)).trans hatd.out)
    have hb10:=Hd hnew
    obtain⟨g10,c10,rfl,hg10⟩:=OwnB.form ho10 g1
    have ho10:=Hd ho10
    have k1c:w10.cell? ⟨J,1,none⟩=some (.slice ra recs.length rc):=(by rw[Za hat10.out];exact jc1)
    have k34c:w10.cell? ⟨J,34,none⟩=some (.int .i64 (E:Nat)):=(by rw[Za hat10.out];exact J9 hH)
    focus (go_wp2_with fail)
    refine hKz.out _ _ hS ?_
    clear hKz Kz hOn hS
    intro hOn
    try clear hnew
    try simp only[Act.put,sL,sZ,sS]
   |
    first|refine acI 9 (λKz hKz=>?_) ?_|refine rdK 9 (λKz hKz=>?_)
    go_simp
    focus (try go_wp2_with fail)
    (with_reducible refine Z0 (t:=24) ?_)
    intro w11 hx11 hnew
    have hS:=(hnew.block g (Zb hOn)).trans hOn
    have hat11:=Hd ((hnew.block J (Zb hat10.out)).trans hat10.out)
    have hb11:=Hd (hb10.out.trans (hnew.mono hb10.out.size))
    have ho11:=Hd (OwnB.below ho10.out hnew nR)
    have hrow11:=Hd (hrow9.out.below liesRB hb11.out)
    have hbs11:base<=w11.heap.size:=Nat.le_trans hb9 hb11.out.size
    have hyB:=Hd (show RB w11 (λk=>F k\/k=g10) r (#[Value.slice (some ⟨g10,0,none⟩) r.length c10]:Array Value).toList from liesRB.more (KL ho11.out) (λk h=>by cases h;exact .inr rfl))
    have hFB:=Hd (show ∀ k,F k->F k\/k=g10 from λk h=>.inl h)
    have haB:=Hd (show ∀ k,(Value.slice ra recs.length rc).ownBlock=some k->¬(F k\/k=g10) from λk hk h=>h.elim (hrow9.out.apart k hk) (λh=>by have:=(hrow9.out.ownLt k hk).2;omega))
    have hlB:=Hd (show ∀ k,F k\/k=g10->k<w11.heap.size from λk h=>h.elim (λh=>hrow11.out.lt k h) (λh=>h▸(World.ownsRow.lt ho11.out g10 rfl).2))
    have k1c:w11.cell? ⟨J,1,none⟩=some (.slice ra recs.length rc):=(by rw[Za hat11.out];exact jc1)
    have k34c:w11.cell? ⟨J,34,none⟩=some (.int .i64 (E:Nat)):=(by rw[Za hat11.out];exact J9 hH)
    refine hKz.out _ _ hS ?_
    clear hKz Kz hOn hS
    intro hOn
    try clear hnew
    try simp only[Act.put,sL,sZ,sS]
   |
    first|refine acI 10 (λKz hKz=>?_) ?_|refine rdK 10 (λKz hKz=>?_)
    rw[if_pos (by rfl)]
    (refine U1 liesRB (.tmp 52) (.tmp 55) 22 rfl hus 24 hinfo.out dX rfl hrow11 r _ hyB hFB haB hlB w10.heap.size rfl hx11 hrl dX hbs11 ?_)
    intro v12 w12 hr12 hO12 hM12
    have hS:=hO12.out.heap hOn hgv
    have hat12:=Hd (hO12.out.heap hat11.out (λhd=>hst9.out.ok.jm.nv hd))
    have k1c:w12.cell? ⟨J,1,none⟩=some (.slice ra recs.length rc):=(by rw[Za hat12.out];exact jc1)
    have k34c:w12.cell? ⟨J,34,none⟩=some (.int .i64 (E:Nat)):=(by rw[Za hat12.out];exact J9 hH)
    have f1c:w12.frozen? ⟨J,1,none⟩=false:=Zm hat12.out _
    obtain⟨a12,n12,c12,hv12⟩:∃ a n c,v12=.slice a n c:=(by obtain⟨a,c,e,_⟩:=hr12.out.form;exact⟨a,_,c,e⟩)
    subst hv12
    refine hKz.out _ _ hS ?_
    clear hKz Kz hOn hS
    intro hOn
    try simp only[Act.put]
   | refine tkK 18 hOn ?_
   | refine Qv [6,8,15] ?_
   | refine Qv [6,9,15] ?_
   | refine Qv [8,15] ?_
   | refine Qv [9,15] ?_
   | refine Qv [10,15] ?_
   | refine Qv [6,15] ?_
   | refine Qv [6,9] ?_
   | refine Qv [6,8] ?_
   | fail
  all_goals
   refine tk 19 hOn ?_
   refine tk 20 hOn ?_
   refine rd 21 (λKz hKz=>?_)
   have hU13:=((Upd.refl hat12.out).setCell (j:=1) (.slice a12 n12 c12))
   go_simp
   (with_reducible refine J7 ?_)
   intro w13 hw13
   rw[<-hw13,Rv] at hU13
   clear hw13
   have hS:=(hU13.block g hgJ).trans hOn
   replace hU13:=Hd hU13
   have hth:=Hd (show w13.there J 2 N.size from Vw hU13.out.here (by rw[XW hH,hN.out,List.size_toArray,Zd,hNl];decide))
   refine hKz.out _ _ hS ?_
   clear hKz Kz hOn hS
   intro hOn
   try simp only[Act.put]
   refine tk 22 hOn ?_
   refine tk 23 hOn ?_
   refine rd 24 (λKz hKz=>?_)
   rw[if_pos (by rfl)]
   have hU14:=(JI N.toList 2 (Upd.refl hU13.out.here))
   (refine wp_store_mid 47 (.tmp 68) (.tmp 57) rfl J 2 N rfl rfl hth.out tD tO ?_)
   (with_reducible refine Km ?_)
   intro w14 hw14
   rw[<-hw14,hNL.out,Rw hH hNl] at hU14
   clear hw14
   have hS:=(hU14.block g hgJ).trans hOn
   replace hU14:=Hd hU14
   have k34c:w14.cell? ⟨J,34,none⟩=some (.int .i64 (E:Nat)):=(by rw[Za hU14.out.here];exact J9 hNl)
   have f34c:w14.frozen? ⟨J,34,none⟩=false:=Zm hU14.out.here _
   refine hKz.out _ _ hS ?_
   clear hKz Kz hOn hS
   intro hOn
   try simp only[Act.put]
   refine tk 25 hOn ?_
   refine tk 26 hOn ?_
   refine rd 27 (λKz hKz=>?_)
   have hU15:=Hd ((Upd.refl hU14.out.here).setCell (j:=34) (.int .i64 ((E:Int)+(FL:Int))))
   go_simp
   (with_reducible refine J7 ?_)
   intro w15 hw15
   rw[<-hw15] at hU15
   clear hw15
   have hS:=(hU15.out.block g hgJ).trans hOn
   refine hKz.out _ _ hS ?_
   clear hKz Kz hOn hS
   intro hOn
   try simp only[Act.put]
   refine dnE ?_
  all_goals
   go_wp2_with fail
   go_ret
   exact⟨rfl,v9,_,_,hst.out.trans (JStep.appended3 hst9.out.ok ⟨g1,g2⟩ (hbd.out.trans (hb11.out.mono hbd.out.size)) hO12.out hM12.out g10 (Nat.le_trans hbd.out.size hg10) hr12.out E FL hE.out hFLn.out hU13.out hU14.out hU15.out (Nat.le_trans hb (Nat.le_trans hw8 hst9.out.only.size)))⟩
end Go.Proofs.YtpdhceiodgnbmaaGreatDoor
