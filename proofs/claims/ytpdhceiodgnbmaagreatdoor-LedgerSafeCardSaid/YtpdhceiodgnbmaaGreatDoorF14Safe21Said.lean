import Derived.Test.YtpdhceiodgnbmaaGreatDoorF0Safe21Said
import Derived.Test.YtpdhceiodgnbmaaGreatDoorF1Safe21Said
import Derived.Test.YtpdhceiodgnbmaaGreatDoorF9Safe21Said
import Derived.Laws.AppendOwnNone
import Derived.Laws.OwnMore
import Derived.Test.YtpdhceiodgnbmaaGreatDoorF8Safe21Said
import Derived.Test.YtpdhceiodgnbmaaGreatDoorF2Safe21Said
import Derived.Deep.LoopGhost
import Derived.Test.YtpdhceiodgnbmaaGreatDoorF4Safe21Said
import Derived.Test.YtpdhceiodgnbmaaGreatDoorF3Safe21Said
import Derived.MapViews
import Derived.Deep.MidRow
import Derived.Test.YtpdhceiodgnbmaaGreatDoorF13Safe21Said
set_option linter.unusedVariables false
set_option linter.unusedSimpArgs false
set_option linter.unnecessarySimpa false
set_option maxRecDepth 100000
set_option maxHeartbeats 8000000
namespace Go.Proofs.YtpdhceiodgnbmaaGreatDoor
open Go.RowKit
theorem Ue{l:List Value}(h:∀ u∈l,u.oneCell'=true):l.toArray.all (·.oneCell')=true:=by
 rw[Array.all_eq_true']
 intro u hu
 exact h u (by simpa using hu)
theorem Wz(a:Option Addr)(c:Nat)(bs:List UInt8)(w:World)(hA:ArgB w a c bs)(hl:bs.length<=100000) :
  Calls Tryz.prog 132 #[.slice a bs.length c] w λe w'=>∃ v,e=.returned v/\OwnB w.heap.size w' v (0::bs)/\Below w.heap.size w w':=by
 have hG:Below w.heap.size w (w.alloc (.cells #[.int .u8 0] 5)):=bR.alloc nR _
 have hown:=Hd (TJ w [0] #[.int .u8 0] rfl dX)
 have hA2:=Hd (hA.below hG)
 obtain⟨L,hL⟩:∃ L,L=bs.length:=⟨_,rfl⟩
 rw[<-hL] at hl ⊢
 have hL2:=Hd hL.symm
 replace hG:=Hd hG
 clear hA hL
 go_enter Tryz.func132,Tryz.ntmps132
 go_wp2_with (at_builtin;go_must (refine YU rfl (.tmp 3) (.tmp 4) rfl w.heap.size _ [0] rfl hown a c bs L rfl hL2 hA2 dX oX sX ?_);intro v' w' ho hb)
 go_ret
 exact⟨_,rfl,ho.out,hG.out.trans (hb.out.mono nR)⟩
theorem UM{w:World}{a:Option Addr}{c:Nat}{p:List UInt8}{g:Nat}(h:ArgB w a c p)(hg:w.heap[g]? = some (.cells #[.slice a p.length c] 24 (0,0))):ArgBB w (some ⟨g,0,none⟩) 1 [p]:=by
 refine⟨Nat.le_refl _,by unfold maxLen;omega,(λe=>by cases e),λi hi=>⟨g,0,rfl,?_⟩⟩
 obtain rfl:i=0:=by simpa using hi
 exact⟨a,c,by rw[Za hg];rfl,h⟩
def Qv(bs:List UInt8):List UInt8:=sha (0::bs)
theorem MQ(a:Option Addr)(c:Nat)(bs:List UInt8)(w:World)(hA:ArgB w a c bs)(hl:bs.length<=1000)(hK:ShaK w)(hF:ShaF w) :
  Calls Tryz.prog 102 #[.slice a bs.length c] w λe w'=>e=.returned (.agg (cB (Qv bs)).toArray)/\Below w.heap.size w w':=by
 have zr:=QF
 have zn:=Qg
 obtain⟨A,hA1⟩:∃ A,A=w.alloc (.cells zero32 47):=⟨_,rfl⟩
 have hbA:Below w.heap.size w A:=by rw[hA1];exact(Below.refl _ w).alloc nR _
 have hsA:A.heap.size=w.heap.size+1:=by rw[hA1];simp
 have hatA:A.heap[w.heap.size]? = some (.cells zero32 47 (0,0)):=by rw[hA1];exact heap_alloc_new w _
 have hlD:(Qv bs).length=32:=Qp _
 have hou:=Hd (Wz a c bs A (hA.below hbA) oX)
 obtain⟨D,hD⟩:∃ D,D=(cB (Qv bs)).toArray:=⟨_,rfl⟩
 have hDs:zero32.size=D.size:=by rw[QG,hD,List.size_toArray,Ze,hlD]
 have hDi:(Tryz.prog.info? 47).map (·.size)=some D.size:=by rw[hD,List.size_toArray,Ze,hlD];kernel_rfl
 have hDo:D.all (·.oneCell')=true:=by rw[hD];exact Ue (ZI _)
 have hfin:∀ (e:Ending) (w':World),e=.returned (.agg D)->Below w.heap.size w w'->e=.returned (.agg (cB (Qv bs)).toArray)/\Below w.heap.size w w':=λe w' h1 h2=>⟨by rw[h1,hD],h2⟩
 have hsh:=Hd (λ(W:World) (v:Value) (h:OwnB A.heap.size W v (0::bs)) (hb:Below A.heap.size A W)=>show ∃ a1 c1,v=.slice a1 (bs.length+1) c1/\∀ W2,W2=W.alloc (.cells #[v] 24)->Calls Tryz.prog 117 #[.slice (some ⟨W.heap.size,0,none⟩) 1 1] W2 λe w'=>e=.returned (.agg D)/\Below W2.heap.size W2 w' from by
  obtain⟨a1,c1,rfl,h1,_⟩:=h.arg
  refine⟨a1,c1,rfl,λW2 hW2=>?_⟩
  have hG:Below W.heap.size W W2:=by rw[hW2];exact bR.alloc nR _
  have hB2:Below w.heap.size w W2:=(hbA.trans (hb.mono oX)).trans (hG.mono (by have:=hb.size;omega))
  have:=Kj (some ⟨W.heap.size,0,none⟩) 1 [0::bs] W2 (UM (h1.below hG) (by rw[hW2];exact heap_alloc_new W _)) sYq sX (hK.below hB2) (hF.below hB2)
  rwa [show ([0::bs]:List (List UInt8)).flatten=0::bs from by simp,show sha (0::bs)=Qv bs from rfl,<-hD] at this)
 obtain⟨L,hL⟩:∃ L,L=bs.length:=⟨_,rfl⟩
 rw[<-hL] at hou ⊢
 replace hA1:=Hd hA1
 replace hbA:=Hd hbA
 replace hatA:=Hd hatA
 replace hfin:=Hd hfin
 replace hsA:=Hd hsA
 clear hA hL hD hlD hK hF
 go_enter Tryz.func102,Tryz.ntmps102
 go_wp2_with fail
 rw[<-hA1.out]
 with_reducible refine hou.out.mono ?_
 rintro e w2 ⟨v2,rfl,ho2,hb2⟩
 obtain⟨a1,c1,hv2,hcall⟩:=hsh.out w2 v2 ho2 hb2
 subst hv2
 have hat2:=Hd ((hb2.block w.heap.size (by have:=hsA.out;omega)).trans hatA.out)
 have hB2:=Hd (hbA.out.trans (hb2.mono (by have:=hsA.out;omega)))
 have hs2:=Hd hb2.size
 replace hcall:=Hd hcall
 clear ho2 hb2 hou hsh
 go_wp2_with fail
 with_reducible refine(hcall.out _ rfl).mono ?_
 rintro e w3 ⟨rfl,hb3⟩
 have hlt2:=Zb hat2.out
 have hG3:Below w2.heap.size w2 (w2.alloc (.cells #[.slice a1 (bs.length+1) c1] 24)):=bR.alloc nR _
 have hat3:=Hd ((hb3.block _ (by have:=hG3.size;omega)).trans ((hG3.block _ hlt2).trans hat2.out))
 have hB3:=Hd ((hB2.out.trans (hG3.mono hB2.out.size)).trans (hb3.mono (by have:=hG3.size;have:=hB2.out.size;omega)))
 clear hb3 hG3 hcall
 go_wp2_with (refine Zc rfl 47 (.tmp 2) (.tmp 6) rfl w.heap.size zero32 D rfl rfl hat3 hDi hDs hDo ?_;intro w4 hU4)
 refine ZE rfl rfl Tryz.underlying47 rfl hDi hU4.out.here ?_
 exact hfin.out _ _ rfl (hB3.out.trans (hU4.out.below nR))
structure FrM (base:Nat) (w:World) (f:Nat) (n:Nat) (v:Value) (ps:List (List UInt8)):Prop where
 at_:w.heap[f]? = some (.cells #[.int .i64 (n:Int),v] 194 (0,0))
 rows:RowsOf RD 47 32 base w (λ_=>False) v ps
 nv:v.ownBlock≠some f
 ge:base<=f
def FrD(f:Nat)(v:Value)(k:Nat):Prop:=k=f\/v.ownBlock=some k
theorem FrM.lt{base:Nat}{w:World}{f n:Nat}{v:Value}{ps:List (List UInt8)}(h:FrM base w f n v ps):∀ k,FrD f v k->base<=k/\k<w.heap.size:=by
 rintro k (rfl|hk)
 ·exact⟨h.ge,Zb h.at_⟩
 ·exact h.rows.ownLt k hk
theorem FrM.only{base:Nat}{w w':World}{f n:Nat}{v:Value}{ps:List (List UInt8)}{D:Nat->Prop}(h:FrM base w f n v ps)(hO:Only D w w')(hd:∀ k,FrD f v k->¬D k):FrM base w' f n v ps:=
 ⟨hO.heap h.at_ (hd f (.inl rfl)),h.rows.only Yg hO (λk hk=>hk.elim) (λk hk=>hd k (.inr hk)),h.nv,h.ge⟩
theorem FrM.below{base:Nat}{w w':World}{f n:Nat}{v:Value}{ps:List (List UInt8)}(h:FrM base w f n v ps)(hb:Below w.heap.size w w'):FrM base w' f n v ps:=
 h.only (Only.ofBelow (D:=λ_=>False) hb) (λ_ _ h=>h)
theorem U7(w:World):Calls Tryz.prog 61 #[] w λe w'=>e=.returned (.pointer (some ⟨w.heap.size,0,none⟩))/\FrM w.heap.size w' w.heap.size 0 (.slice none 0 0) []/\Below w.heap.size w w':=by
 have hb:Below w.heap.size w (w.alloc (.cells #[.int .i64 0,.slice none 0 0] 194)):=bR.alloc nR _
 have hh:=heap_alloc_new w (.cells #[.int .i64 0,.slice none 0 0] 194 (0,0))
 have hf:FrM w.heap.size (w.alloc (.cells #[.int .i64 0,.slice none 0 0] 194)) w.heap.size 0 (.slice none 0 0) []:=⟨hh,RowsOf.nil _ _,by simp[Value.ownBlock],Nat.le_refl _⟩
 replace hb:=Hd hb
 replace hf:=Hd hf
 clear hh
 go_enter Tryz.func61,Tryz.ntmps61
 go_wp2_with fail
 go_ret
 exact⟨rfl,hf.out,hb.out⟩
section
variable {α:Type} {R:World->(Nat->Prop)->α->List Value->Prop} {e:TypeId} {size base:Nat} {w:World} {F F':Nat->Prop} {v:Value} {ps:List α} {P:Program} {ops:Array Oper} {rest:List Oper} {o:Oper} {a:Act} {Q:Exit->Act->World->Prop} {K:Act->World->Prop}
theorem U4(hR:LiesOk R size)(s x:Operand)(t:TypeId)(ho:o.op=.call { callee:=.builtin .append,args:=#[s,x],argTypes:=#[t,t] })
  (ht:P.underlying t=some (.slice e)) (bytes:Nat) (hi:(P.info? e).map (λi=>(i.zero.map (·.cells.size),i.size,i.bytes))=some (some size,size,bytes)) (hsz:0<size)
  (hs:a.eval s=v) (h:Hid (RowsOf R e size base w F v ps)) (y:α) (g:Nat) (C:Array Value) (hy:Hid (R w F' y C.toList)) (hF:Hid (∀ k,F k->F' k)) (ha:Hid (∀ k,v.ownBlock=some k->¬F' k)) (hl:Hid (∀ k,F' k->k<w.heap.size))
  (hx:a.eval x=.slice (some ⟨g,0,none⟩) 1 1) (hg:Hid (w.heap[g]? = some (.cells C e (0,0)))) (h63:ps.length<=1000000) (hb8:bytes<=10000) (hbase:base<=w.heap.size)
  (hK:∀ v' w',Hid (RowsOf R e size base w' F' v' (ps++[y]))->Hid (Only (λk=>v.ownBlock=some k) w w')->Hid (JH w v v')->K (a.put o.dst v') w'):o.wp P a w K Q:=by
 obtain⟨ie,hie,h2⟩:=Option.map_eq_some_iff.1 hi
 simp only[Prod.mk.injEq] at h2
 obtain⟨hz,hs1,hby⟩:=h2
 obtain⟨z,hz1,hz2⟩:=Option.map_eq_some_iff.1 hz
 obtain⟨v',w',hr,k1,k2,k3⟩:=h.out.app1 (P:=P) hR t o.type ie z bytes ht hie hz1 hs1 hby hz2 hsz y C.toList hy.out hF.out ha.out hl.out g C rfl hg.out c6X
  (Nat.le_trans (Nat.mul_le_mul (Nat.succ_le_succ h63) hb8) dX) hbase
 unfold Oper.wp execOp
 simp only[ho,resolve,invoke,builtin,Sem.run_bind,Sem.run_pure,Result.andThen_ok,List.map_toArray,List.map_cons,List.map_nil,hs,hx,hr]
 exact hK v' w' (Hd k1) (Hd k2) (Hd k3)
end
theorem X5{K:Act->World->Prop}{a:Act}{w:World}{x:Addr}{u:Value}(h:∀ w',w'=w.setCell x u->K a w'):K a (w.setCell x u):=h _ rfl
def XC(base:Nat)(w:World)(f n:Nat)(v:Value)(ps:List (List UInt8))(x:Ending)(w':World):Prop:=
 x=.returned .nilIface/\∃ v',FrM base w' f n v' ps/\Only (FrD f v) w w'/\∀ k,v'.ownBlock=some k->FrD f v k\/w.heap.size<=k
theorem UV{base:Nat}{w:World}{f n:Nat}{v:Value}{ps:List (List UInt8)}(h:FrM base w f n v ps)(hb:base<=w.heap.size)(hn:n % 2=0)(hn2:n<=1000000)(hp:ps.length<=1000000)(a:Option Addr)(c:Nat)(bs:List UInt8)(hA:ArgB w a c bs)(hl:bs.length<=1000)(hK:ShaK w)(hF:ShaF w) :
  Calls Tryz.prog 62 #[.pointer (some ⟨f,0,none⟩),.slice a bs.length c] w (XC base w f (n+1) v (ps++[Qv bs])):=by
 have hle:=Hd (MQ a c bs w hA hl hK hF)
 have hlD:(Qv bs).length=32:=Qp _
 obtain⟨D,hD⟩:∃ D,D=(cB (Qv bs)).toArray:=⟨_,rfl⟩
 have hDi:(Tryz.prog.info? 47).map (·.size)=some D.size:=by rw[hD,List.size_toArray,Ze,hlD];kernel_rfl
 have hDz:zero32.size=D.size:=by rw[QG,hD,List.size_toArray,Ze,hlD]
 have zr:=QF
 have zn:=Qg
 have hDo:D.all (·.oneCell')=true:=by rw[hD];exact Ue (ZI _)
 have hDL:D.size=32:=by rw[hD,List.size_toArray,Ze,hlD]
 have hand:bits .and .i64 (n:Int) 1=0:=by
  have:=VO n 1 oX oX
  rw[Nat.and_one_is_mod,hn] at this
  exact this
 have hyD:=Hd (λ(W:World)=>show RD W (λ_=>False) (Qv bs) D.toList from⟨hlD,by rw[hD]⟩)
 rw[<-hD] at hle
 obtain⟨nn,hnn⟩:∃ nn:Int,(n:Int)=nn:=⟨_,rfl⟩
 have hc0:w.cell? ⟨f,0,none⟩=some (.int .i64 nn):=by rw[Za h.at_,<-hnn];rfl
 have hwr:IntKind.i64.wrap (nn+1)=nn+1:=IntWalk.i64_in _ oX
 have hnlt:nn<1099511627776:=oX
 rw[hnn] at hand
 have hfin:∀ (W:World) (v':Value),FrM base W f (n+1) v' (ps++[Qv bs])->Only (FrD f v) w W->(∀ k,v'.ownBlock=some k->FrD f v k\/w.heap.size<=k)->XC base w f (n+1) v (ps++[Qv bs]) (.returned .nilIface) W:=λW v' h1 h2 h3=>⟨rfl,v',h1,h2,h3⟩
 replace hfin:=Hd hfin
 obtain⟨L,hL⟩:∃ L,L=bs.length:=⟨_,rfl⟩
 rw[<-hL] at hle ⊢
 replace h:=Hd h
 replace hD:=Hd hD
 replace hL:=Hd hL
 have hn0:=Hd hn
 replace hnn:=Hd hnn
 clear hA hl hK hF hlD hn
 go_enter Tryz.func62,Tryz.ntmps62
 go_wp2_with fail
 with_reducible refine hle.out.mono ?_
 clear hle
 rintro e w2 ⟨rfl,hb2⟩
 have h2:=Hd (h.out.below hb2)
 have hw2:=Hd hb2.size
 have hZ2:=Hd (heap_alloc_new w2 (.cells zero32 47))
 replace hb2:=Hd hb2
 clear hc0
 go_wp2_with ((with_reducible refine wL (.store 47 (.tmp 5) _) ?_);(refine Zc rfl 47 (.tmp 5) (.tmp 15) rfl w2.heap.size _ D rfl rfl hZ2 hDi hDz hDo ?_);intro w3 hU3;have hb3:Below w2.heap.size w2 w3:=(Below.alloc (Below.refl w2.heap.size w2) nR _).trans (hU3.out.below nR);have aD3:=Hd hU3.out.here;have h3:=Hd (h2.out.below hb3);have hw3:=Hd (show w2.heap.size<w3.heap.size from Zb hU3.out.here);have hc0:w3.cell? ⟨f,0,none⟩=some (.int .i64 nn):=(by rw[Za h3.out.at_,<-hnn.out];rfl);have hc1:=Za h3.out.at_ 1;have hOn3:=Hd (show Below w.heap.size w w3 from hb2.out.trans (hb3.mono hw2.out)))
 refine wp_loop_rounds 1 ?_
 rw[rounds_succ]
 go_wp2_with fail
 have hfw:f<w.heap.size:=Zb h.out.at_
 have hown:=Hd (λk (hk:v.ownBlock=some k)=>h.out.rows.ownLt k hk)
 have hat3:=h3.out.at_
 have hrow3:=Hd (h3.out.rows.below Yg ((Below.refl w3.heap.size w3).drew))
 have hatd:w3.drew.heap[f]? = some (.cells #[.int .i64 (n:Int),v] 194 (0,0)):=hat3
 have k1:w3.drew.cell? ⟨f,1,none⟩=some v:=by rw[Za hatd];rfl
 have hgf:w2.heap.size≠f:=by have:=hw2.out;omega
 have hgv:v.ownBlock≠some w2.heap.size:=λe=>by have:=(hown.out _ e).2;have:=hw2.out;omega
 have hnv:v.ownBlock≠some f:=h.out.nv
 have hS3:Hid (w3.drew.heap[w2.heap.size]? = some (.cells D 47 (0,0))):=Hd aD3.out
 have rlA:∀ W:World,W.heap[w2.heap.size]? = some (.cells D 47 (0,0))->W.heap[w2.heap.size]? = some (.cells D 47 (0,0)):=λ_ h=>h
 have huA:=Tryz.underlying47
 have hzA:=hDi
 have hbs3:base<=w3.drew.heap.size:=by show base<=w3.heap.size;have:=hw2.out;have:=hw3.out;omega
 have hOnd:Hid (Below w.heap.size w w3.drew):=Hd hOn3.out.drew
 clear hOn3
 have hF0:=Hd (show ∀ k:Nat,(λ_:Nat=>False) k->(λ_:Nat=>False) k from λ_ h=>h)
 have hus:=Tryz.underlying93
 have infoD:=Hd (show (Tryz.prog.info? 47).map (λi=>(i.zero.map (·.cells.size),i.size,i.bytes))=some (some 32,32,32) by kernel_rfl)
 replace hatd:=Hd hatd
 replace hw3:Hid (w2.heap.size<w3.drew.heap.size):=Hd hw3.out
 clear hc0 hc1 hat3
 have hsl:=Hd (λW=>Vm D hDL W)
 have hraw:=True.intro
 refine wp_region_held_drew (S:=(λW:World=>W.heap[w2.heap.size]? = some (.cells D 47 (0,0)))) kX hS3.out (λhOn=>?_)
 generalize World.drew w3=wd at*
 refine tk 0 hOn ?_
 refine tk 1 hOn ?_
 refine tk 2 hOn ?_
 refine tk 3 hOn ?_
 refine tk 5 hOn ?_ (v:=Value.agg _) (hy:=Or.inl ⟨by rfl,λW hSW=>Zt _ _ rfl _ _ _ rfl (rlA W hSW) huA rfl hzA⟩)
 refine rds [4,6] ?_
 refine ac (λKz hKz=>?_) ?_
 go_simp
 focus (try go_wp2_with fail)
 refine hKz.out _ _ c1X ?_
 clear hKz Kz hOn
 intro hOn
 try simp only[Act.put,sL,sZ,sS]
 refine rd 6 (λKz hKz=>?_)
 rw[if_pos (by rfl)]
 (refine QZ 93 1 (.tmp 55) rfl (.agg D) rfl _ _ (hsl.out _) ?_)
 (with_reducible refine Zq (t:=47) ?_)
 intro w5 hx5 hnew
 have hS:=(hnew.block _ (Zb hOn)).trans hOn
 have hat5:=Hd ((hnew.block f (Zb hatd.out)).trans hatd.out)
 have hb5:=Hd hnew
 have hrow5:=Hd (hrow3.out.below Yg hb5.out)
 have k1c:w5.cell? ⟨f,1,none⟩=some v:=(by rw[Za hat5.out];rfl)
 have hbs5:base<=w5.heap.size:=Nat.le_trans hbs3 hb5.out.size
 refine hKz.out _ _ hS ?_
 clear hKz Kz hOn hS
 intro hOn
 try clear hnew
 try simp only[Act.put]
 refine rd 7 (λKz hKz=>?_)
 rw[if_pos (by rfl)]
 (refine U4 Yg (.tmp 54) (.tmp 56) 93 rfl hus 32 infoD.out dX rfl hrow5 (Qv bs) _ D (Hd (hyD.out _)) hF0 (Hd (λ_ _ h=>h)) (Hd (λ_ h=>h.elim)) rfl hx5 hp dX hbs5 ?_)
 intro v6 w6 hr6 hO6 hM6
 have hS:=hO6.out.heap hOn hgv
 have hat6:=Hd (hO6.out.heap hat5.out hnv)
 have f1c:w6.frozen? ⟨f,1,none⟩=false:=Zj hat6.out _
 have k1c:w6.cell? ⟨f,1,none⟩=some v:=(by rw[Za hat6.out];rfl)
 obtain⟨a6,n6,c6,hv6⟩:∃ a n c,v6=.slice a n c:=(by obtain⟨a,c,e,_⟩:=hr6.out.form;exact⟨a,_,c,e⟩)
 subst hv6
 refine hKz.out _ _ hS ?_
 clear hKz Kz hOn hS
 intro hOn
 try simp only[Act.put]
 refine tk 8 hOn ?_
 refine tk 9 hOn ?_
 refine rd 10 (λKz hKz=>?_)
 have hU7:=((Upd.refl hat6.out).setCell (j:=1) (.slice a6 n6 c6))
 go_simp
 (with_reducible refine X5 ?_)
 intro w7 hw7
 rw[<-hw7] at hU7
 clear hw7
 have hS:=(hU7.block _ hgf).trans hOn
 replace hU7:=Hd hU7
 refine hKz.out _ _ hS ?_
 clear hKz Kz hOn hS
 intro hOn
 try simp only[Act.put]
 refine dnE ?_
 rotate_left
 refine ac (λKz hKz=>?_) AllReadyH.nil
 rw[if_pos (by rfl)]
 (refine QZ 93 1 (.tmp 55) rfl (.agg D) rfl _ _ (hsl.out _) ?_)
 (with_reducible refine Zq (t:=47) ?_)
 intro w5 hx5 hnew
 have hS:=(hnew.block _ (Zb hOn)).trans hOn
 have hat5:=Hd ((hnew.block f (Zb hatd.out)).trans hatd.out)
 have hb5:=Hd hnew
 have hrow5:=Hd (hrow3.out.below Yg hb5.out)
 have k1c:w5.cell? ⟨f,1,none⟩=some v:=(by rw[Za hat5.out];rfl)
 have hbs5:base<=w5.heap.size:=Nat.le_trans hbs3 hb5.out.size
 refine hKz.out _ _ hS ?_
 clear hKz Kz hOn hS
 intro hOn
 try clear hnew
 try simp only[Act.put]
 refine rd 4 (λKz hKz=>?_)
 go_simp
 focus (try go_wp2_with fail)
 refine hKz.out _ _ c1X ?_
 clear hKz Kz hOn
 intro hOn
 try simp only[Act.put,sL,sZ,sS]
 refine rd 7 (λKz hKz=>?_)
 rw[if_pos (by rfl)]
 (refine U4 Yg (.tmp 54) (.tmp 56) 93 rfl hus 32 infoD.out dX rfl hrow5 (Qv bs) _ D (Hd (hyD.out _)) hF0 (Hd (λ_ _ h=>h)) (Hd (λ_ h=>h.elim)) rfl hx5 hp dX hbs5 ?_)
 intro v6 w6 hr6 hO6 hM6
 have hS:=hO6.out.heap hOn hgv
 have hat6:=Hd (hO6.out.heap hat5.out hnv)
 have f1c:w6.frozen? ⟨f,1,none⟩=false:=Zj hat6.out _
 have k1c:w6.cell? ⟨f,1,none⟩=some v:=(by rw[Za hat6.out];rfl)
 obtain⟨a6,n6,c6,hv6⟩:∃ a n c,v6=.slice a n c:=(by obtain⟨a,c,e,_⟩:=hr6.out.form;exact⟨a,_,c,e⟩)
 subst hv6
 refine hKz.out _ _ hS ?_
 clear hKz Kz hOn hS
 intro hOn
 try simp only[Act.put]
 refine tk 8 hOn ?_
 refine tk 9 hOn ?_
 refine rd 10 (λKz hKz=>?_)
 have hU7:=((Upd.refl hat6.out).setCell (j:=1) (.slice a6 n6 c6))
 go_simp
 (with_reducible refine X5 ?_)
 intro w7 hw7
 rw[<-hw7] at hU7
 clear hw7
 have hS:=(hU7.block _ hgf).trans hOn
 replace hU7:=Hd hU7
 refine hKz.out _ _ hS ?_
 clear hKz Kz hOn hS
 intro hOn
 try simp only[Act.put]
 refine dnE ?_
 all_goals
  have g0:w7.cell? ⟨f,0,none⟩=some (.int .i64 nn):=by rw[Za hU7.out.here,<-hnn.out];rfl
  have gf:=Zj hU7.out.here 0
  have hU8:=Hd (hU7.out.setCell (j:=0) (.int .i64 (nn+1)))
  go_wp2_with fail
  go_ret
  have hO5:Only (FrD f v) w w5:=Only.ofBelow (hOnd.out.trans (hb5.out.mono hOnd.out.size))
  have hO8:=Only.ofUpd (D:=λk=>k=f) hU8.out rfl
  have h6s:=hO6.out.size
  have hmv:∀ k,(Value.slice a6 n6 c6).ownBlock=some k->v.ownBlock=some k\/w.heap.size<=k:=λk hk=>by
   rcases hM6.out k hk with q|q
   ·exact .inl q
   ·right;have:=hb5.out.size;have:=hOnd.out.size;omega
  have hat8:=hU8.out.here
  have hcs:((#[.int .i64 (n:Int),v]:Array Value).setIfInBounds 1 (.slice a6 n6 c6)).setIfInBounds 0 (.int .i64 (nn+1))=#[.int .i64 ((n+1:Nat):Int),.slice a6 n6 c6]:=by rw[<-hnn.out];rfl
  rw[hcs] at hat8
  refine hfin.out _ _ ⟨hat8,hr6.out.only Yg hO8 (λk hk=>hk.elim) (λk hk e=>?_),λe=>?_,h.out.ge⟩ ?_ (λk hk=>(hmv k hk).imp .inr id)
  ·rcases hmv k hk with q|q
   ·exact hnv (e▸q)
   ·omega
  ·rcases hmv f e with q|q
   ·exact hnv q
   ·omega
  ·exact(hO5.trans hO6.out (λk _ hk=>.inr hk)).trans hO8 (λk _ hk=>.inl hk)
def Nc(n:Int):Nat:=(n % 18446744073709551616).toNat
def Zx(n:Int)(j:Nat):UInt8:=UInt8.ofNat (Nc n / 2 ^ (8*(7-j)))
def Zk(n:Int):List UInt8:=(List.range 8).map (Zx n)
theorem Zm(n:Int):(Zk n).length=8:=by simp[Zk]
theorem HL(n:Int)(k:Nat)(hk:k<8):n / ((2 ^ (8*(7-k)):Nat):Int) % 256=((Zx n k).toNat:Int):=by
 unfold Zx
 rw[UInt8.toNat_ofNat']
 obtain⟨m,hm⟩:∃ m:Int,n=(Nc n:Int)+18446744073709551616*m:=⟨n / 18446744073709551616,by unfold Nc;omega⟩
 generalize Nc n=u at*
 rw[hm]
 have h:k=0\/k=1\/k=2\/k=3\/k=4\/k=5\/k=6\/k=7:=oX
 rcases h with rfl|rfl|rfl|rfl|rfl|rfl|rfl|rfl<;>simp<;>omega
def Dz(n:Int)(r:Nat):Nat:=Nc n / 256 ^ r
theorem Wp(n:Int)(r:Nat)(hr:r<8):((Dz n r:Nat):Int) % 256=((Zx n (7-r)).toNat:Int):=by
 unfold Dz Zx
 rw[UInt8.toNat_ofNat',show 7-(7-r)=r from by omega,show (256:Nat)=2 ^ 8 from rfl,<-Nat.pow_mul]
 omega
theorem Py(n:Int)(k:Nat):(List.range (k+1)).map (Zx n)=(List.range k).map (Zx n)++[Zx n k]:=by simp[List.range_succ]
section
variable {w:World} {ops:Array Oper} {rest:List Oper} {o:Oper} {a:Act} {Q:Exit->Act->World->Prop}
theorem Lf(hgd:o.guard=none)(s x:Operand)(ho:o.op=.call { callee:=.builtin .append,args:=#[s,x],argTypes:=#[24,24] })
  (base:Nat) (v:Value) (bs:List UInt8) (hs:a.eval s=v) (hown:Hid (OwnB base w v bs))
  (u:UInt8) (z:Int) (hz:z=(u.toNat:Int)) (hx:a.eval x=.slice (some ⟨w.heap.size,0,none⟩) 1 1) (hl:bs.length<=1000000) (hbase:base<=w.heap.size)
  (h:∀ v' w',Hid (OwnB base w' v' (bs++[u]))->Hid (Below base w w')->wpList Tryz.prog ops Q rest (a.put o.dst v') w') :
  wpList Tryz.prog ops Q (o::rest) a (w.alloc (.cells #[.int .u8 z] 5)):=by
 subst hz
 exact Ho hgd s x ho base v bs hs hown u hx hl hbase h
end
theorem Q9(n:Int)(w:World)(h1 : -9223372036854775808<=n)(h2:n<=9223372036854775807) :
  Calls Tryz.prog 142 #[.int .i64 n] w λe w'=>∃ v,e=.returned v/\OwnB w.heap.size w' v (Zk n)/\Below w.heap.size w w':=by
 have h0:=Hd (OwnB.nil w.heap.size w)
 have hby:=Hd (HL n)
 have hsc:=Hd (Py n)
 have hend:=Hd (show (List.range 8).map (Zx n)=Zk n from rfl)
 replace h1:=Hd h1
 replace h2:=Hd h2
 go_enter Tryz.func142,Tryz.ntmps142
 go_wp2_with fail
 go_loopw [3,4] (λv j wr=>∃ k:Nat,k<=8/\j=.int .i64 (7-(k:Int))/\OwnB w.heap.size wr v ((List.range k).map (Zx n))/\Below w.heap.size w wr)
  (λ_ j _=>(intOf j+8).toNat)
 case atStart=>exact⟨0,Nat.zero_le _,rfl,h0.out,Below.refl _ _⟩
 case round=>
  clear h0
  obtain⟨k,hk,rfl,hown,hbel⟩:=hrel
  have hsz:=hbel.size
  replace hown:=Hd hown
  replace hbel:=Hd hbel
  by_cases hlt:k<8
  ·have hll:((List.range k).map (Zx n)).length<=1000000:=by rw[List.length_map,List.length_range];omega
   have hge:(0:Int)<=7-(k:Int):=oX
   have hb:=Hd (hby.out k hlt)
   have hs:=Hd (hsc.out k)
   generalize (List.range k).map (Zx n)=T at*
   go_wp2_with (at_builtin;go_must (refine Lf rfl (.tmp 9) (.tmp 15) rfl w.heap.size _ T rfl hown (Zx n k) _ ?hz rfl hll hsz ?_))
   case hz=>exact hb.out
   intro v5 w5 ho5 hd5
   have hb5:=Hd (hbel.out.trans hd5.out)
   go_wp2_with fail
   go_roundw
   case rel=>exact⟨k+1,oX,by go_num,by rw[hs.out];exact ho5.out,hb5.out⟩
   case measure=>simp[intOf];omega
  ·obtain rfl:k=8:=oX
   have hlt7:¬(0:Int)<=7-((8:Nat):Int):=oX
   go_wp2_with fail
   go_ret
   exact⟨_,rfl,by rw[<-hend.out];exact hown.out,hbel.out⟩
theorem H2{w w':World}{b:Nat}{o:Obj}(h:w.heap[b]? = some o)(hg:Grown w w'):w'.heap[b]? = some o:=(hg.block b (Zb h)).trans h
theorem ZS{a b:World}{C:World->Prop}(k:∀ W,Grown a W->C W)(h:Grown a b):∀ W,Grown b W->C W:=λW hW=>k W (Grown.trans h hW)
theorem Y6{base g:Nat}{w:World}{x:UInt8}(h:w.heap[g]? = some (.cells #[.int .u8 (x.toNat:Int)] 5 (0,0)))(hg:base<=g):OwnB base w (.slice (some ⟨g,0,none⟩) 1 1) [x]:=
 ⟨rfl,.inr ⟨g,1,#[.int .u8 (x.toNat:Int)],rfl,hg,h,Nat.le_refl _,by unfold maxLen;omega,rfl,rfl⟩⟩
theorem Vi{g:Nat}{w:World}{x:UInt8}(h:w.heap[g]? = some (.cells #[.int .u8 (x.toNat:Int)] 5 (0,0))):ArgB w (some ⟨g,0,none⟩) 1 [x]:=by
 obtain⟨a,c,e,h2,_⟩:=(Y6 (base:=0) h (Nat.zero_le _)).arg
 cases e
 exact h2
theorem DC{w:World}{B:Nat}{p0 p1 p2 p3:List UInt8}{a0 a1 a2 a3:Option Addr}{c0 c1 c2 c3 l0 l1 l2 l3:Nat}(hB:w.heap[B]? = some (.cells #[.slice a0 l0 c0,.slice a1 l1 c1,.slice a2 l2 c2,.slice a3 l3 c3] 24 (0,0)))
  (e0:p0.length=l0) (e1:p1.length=l1) (e2:p2.length=l2) (e3:p3.length=l3) (h0:ArgB w a0 c0 p0) (h1:ArgB w a1 c1 p1) (h2:ArgB w a2 c2 p2) (h3:ArgB w a3 c3 p3):RowsAt w B [p0,p1,p2,p3]:=by
 intro k hk
 match k,hk with
 | 0,_=>exact⟨a0,c0,by rw[Za hB];show some (Value.slice a0 l0 c0)=_;rw[<-e0];rfl,h0⟩
 | 1,_=>exact⟨a1,c1,by rw[Za hB];show some (Value.slice a1 l1 c1)=_;rw[<-e1];rfl,h1⟩
 | 2,_=>exact⟨a2,c2,by rw[Za hB];show some (Value.slice a2 l2 c2)=_;rw[<-e2];rfl,h2⟩
 | 3,_=>exact⟨a3,c3,by rw[Za hB];show some (Value.slice a3 l3 c3)=_;rw[<-e3];rfl,h3⟩
theorem DY(bs:List UInt8)(k:Nat)(h:k<bs.length):bs.drop k=bs.getD k 0::bs.drop (k+1):=by
 rw[List.drop_eq_getElem_cons h]
 congr 1
 simp[List.getD_eq_getElem?_getD,h]
theorem ArgB.tail4{w:World}{b o c:Nat}{bs:List UInt8}(h:ArgB w (some ⟨b,o,none⟩) c bs)(hl:bs.length=8):ArgB w (some ⟨b,o+4,none⟩) (c-4) (bs.drop 4):=by
 refine⟨by rw[List.length_drop];have:=h.len;omega,by have:=h.most;omega,(λe=>by cases e),λi hi=>?_⟩
 rw[List.length_drop] at hi
 obtain⟨b',o',e,hc⟩:=h.row (4+i) oX
 cases e
 refine⟨_,_,rfl,?_⟩
 rw[show o+4+i=o+(4+i) from by omega,hc]
 congr 2
 simp[List.getD_eq_getElem?_getD,List.getElem?_drop]
theorem Ws(n:Int)(w:World)(h1 : -9223372036854775808<=n)(h2:n<=9223372036854775807):Calls Tryz.prog 144 #[.int .i64 n] w λe w'=>∃ a c,e=.returned (.slice a 4 c)/\ArgB w' a c ((Zk n).drop 4)/\Below w.heap.size w w':=by
 have hln:=Hd (Q9 n w h1 h2)
 go_enter Tryz.func144,Tryz.ntmps144
 go_wp2_with fail
 with_reducible refine hln.out.mono ?_
 rintro e w1 ⟨v,rfl,ho,hb⟩
 obtain⟨g,c,e3,_⟩:=ho.form (by rw[Zm];omega)
 subst e3
 obtain⟨a4,c4,e4,h3,_⟩:=ho.arg
 cases e4
 rw[Zm]
 have hc8:8<=c:=by have:=h3.len;rw[Zm] at this;exact this
 have ht:=Hd (h3.tail4 (Zm n))
 replace hb:=Hd hb
 clear ho h3 hln
 go_wp2_with fail
 go_ret
 exact⟨_,_,rfl,ht.out,hb.out⟩
section
variable (s n k d t r:Int) (F:ByteArray) (V:Int) (i:Nat) (ea:Nat->Addr) (w:World)
def b8(z:Int):UInt8:=UInt8.ofNat (z % 256).toNat
theorem Q0(z:Int)(h:0<=z/\z<=255):((b8 z).toNat:Int)=z:=by unfold b8;simp;omega
theorem Vf(z:Int):((b8 z).toNat:Int)=z % 256:=by unfold b8;simp;omega
theorem Pn(w:World)(t:TypeId)(bs:List UInt8)(cs:Array Value)(h:cs=(cB bs).toArray)(hl:bs.length<=1000000):ArgB (w.alloc (.cells cs t)) (some ⟨w.heap.size,0,none⟩) bs.length bs:=by
 subst h
 refine⟨Nat.le_refl _,c6X,(λe=>by cases e),λi hi=>⟨_,_,rfl,?_⟩⟩
 rw[Za (heap_alloc_new w _)]
 simp[cB,hi]
def ZF:List UInt8:=[b8 (s / 256),b8 s,b8 n,b8 k,b8 (d / 256),b8 d,b8 (t / 256),b8 t,b8 r]
theorem HN(h:Kn s n k d t r):(#[.int .u8 (s / 256),.int .u8 (s % 256),.int .u8 n,.int .u8 k,.int .u8 (d / 256),.int .u8 (d % 256),.int .u8 (t / 256),.int .u8 (t % 256),.int .u8 r]:Array Value)=(cB (ZF s n k d t r)).toArray:=by
 obtain⟨hs,hn,hk,hd,ht,hr⟩:=h
 simp only[cB,ZF,List.map]
 rw[Q0 (s / 256) oX,Vf s,Q0 n oX,Q0 k oX,Q0 (d / 256) oX,Vf d,Q0 (t / 256) oX,Vf t,Q0 r oX]
theorem LD(h:Kn s n k d t r)(z:Nat->Addr)(hE:ParErrs w z) :
  Calls Tryz.prog 143 #[.agg #[.int .i64 s,.int .i64 n,.int .i64 k,.int .i64 d,.int .i64 t,.int .i64 r]] w λe w'=>∃ b,e=.returned (.tuple #[.slice (some ⟨b,0,none⟩) 9 9,.nilIface])/\ArgB w' (some ⟨b,0,none⟩) 9 (ZF s n k d t r)/\Below w.heap.size w w':=by
 obtain⟨hs,hn,hk,hd,ht,hr⟩:=id h
 have hb1:=Hd ((Below.refl w.heap.size w).alloc nR (.cells #[.int .i64 s,.int .i64 n,.int .i64 k,.int .i64 d,.int .i64 t,.int .i64 r] 45))
 have hp:=Hd (heap_alloc_new w (.cells #[.int .i64 s,.int .i64 n,.int .i64 k,.int .i64 d,.int .i64 t,.int .i64 r] 45))
 have hcall:=Hd (ND s n k d t r h z _ (hE.below hb1.out))
 clear h
 go_enter Tryz.func143,Tryz.ntmps143
 go_wp2_with (refine Zd rfl 45 (.tmp 1) rfl w.heap.size #[.int .i64 s,.int .i64 n,.int .i64 k,.int .i64 d,.int .i64 t,.int .i64 r] _ rfl hp Tryz.underlying45 rfl kX ?_)
 with_reducible refine hcall.out.mono ?_
 rintro e w1 ⟨rfl,hb2⟩
 replace hp:=Hd ((hb2.block _ sX).trans hp.out)
 replace hb1:=Hd (hb1.out.trans (hb2.mono hb1.out.size))
 obtain⟨c0,c1,c2,c3,c4,c5⟩:=Kh hp.out
 clear hb2 hcall
 go_wp2_with fail
 go_ret2
 exact⟨_,rfl,Pn w1 _ (ZF s n k d t r) _ (HN s n k d t r ⟨hs,hn,hk,hd,ht,hr⟩) (by simp[ZF]),hb1.out.alloc hb1.out.size _⟩
end
theorem ZM{w:World}{b:Nat}{C:Array Value}{t:TypeId}{fz:Nat×Nat}(hb:w.heap[b]? = some (.cells C t fz)){o n:Nat}{B:List Value}(h:(C.toList.drop o).take n=B):w.rangeAt b o B:=λj v hv=>by
 rw[Za hb]
 rw[<-h,List.getElem?_take] at hv
 split at hv
 ·rw[List.getElem?_drop,Array.getElem?_toList] at hv
  exact hv
 ·cases hv
theorem VE(C:Array Value)(o:Nat)(u:Value)(h:o<C.size):Qw C o [u]=C.setIfInBounds o u:=by
 rw[<-G4 C o u [] h,N3]
theorem YD(fn:Nat->Option (Nat×Nat))(C:Array Value)(i o:Nat)(v:Value)(ps:List (Nat×Value))(h1:fn i=some (o,v.cells.size))(hs:o+v.cells.size<=C.size) :
  Instr.fill fn C ((i,v)::ps)=Instr.fill fn (Qw C o v.cells.toList) ps:=by
 conv=>lhs;unfold Instr.fill
 simp only[h1]
 rw[if_neg sYq]
 obtain⟨g1,g2⟩:=Go.Great.foldl_set o v.cells.toList 0 C
 have hll:v.cells.toList.length=v.cells.size:=Array.length_toList ..
 generalize hl:v.cells.toList=l at*
 have hfold:Array.foldl (λcs (x:Value×Nat)=>cs.setIfInBounds (o+x.2) x.1) C v.cells.zipIdx=Qw C o l:=by
  rw[<-Array.foldl_toList,Array.toList_zipIdx,hl]
  apply Array.ext_getElem?
  intro k
  rw[g2 k]
  unfold Qw
  simp only[Nat.add_zero,List.getElem?_toArray]
  have hC:C.toList.length=C.size:=Array.length_toList ..
  by_cases hk:o<=k/\k<o+l.length/\k<C.size
  ·rw[if_pos hk,List.getElem?_append_right (by rw[List.length_take];omega),List.getElem?_append_left (by rw[List.length_take];omega)]
   congr 1
   rw[List.length_take];omega
  ·rw[if_neg hk]
   by_cases hk1:k<o
   ·rw[List.getElem?_append_left (by rw[List.length_take];omega),List.getElem?_take,if_pos hk1,Array.getElem?_toList]
   ·rw[List.getElem?_append_right (by rw[List.length_take];omega),List.getElem?_append_right (by rw[List.length_take];omega),List.getElem?_drop,List.length_take,<-Array.getElem?_toList]
    congr 1
    omega
 rw[hfold]
theorem Df(fn:Nat->Option (Nat×Nat))(C:Array Value):Instr.fill fn C []=some C:=by simp[Instr.fill]
theorem He{P:Program}{t:TypeId}{fs:Array Field}{places:List (Nat×Nat)}{Z:List Value}(hz:(P.info? t).map (λi=>i.zero.map (·.cells.toList))=some (some Z))(hu:P.underlying t=some (.struct fs))(hp:fs.toList.mapM (λf=>(P.info? f.type).map λi=>(f.offset,i.size))=some places)
  (ps:List (Nat×Value)):P.built t ps=Instr.fill (λi=>places.toArray[i]?) Z.toArray ps:=by
 obtain⟨it,hit,h2⟩:=Option.map_eq_some_iff.1 hz
 obtain⟨z,hz1,hz2⟩:=Option.map_eq_some_iff.1 h2
 unfold Program.built
 simp only[hit,hu,hz1,hp]
 have hz3:z.cells=Z.toArray:=by rw[<-hz2]
 rw[hz3]
open Go.RowKit Go.ChangeShapes Go.WideShapes Go.Deep
section
variable {H:Type} {enc:TypeId×Value->H} {P:Program} {w:World}
theorem WP{α:Type}[Inhabited α]{en:α->List Value}{Ok:α->Prop}{size:Nat}{t e:TypeId}{n o:Nat}{cs:List Value}{y:DataW H×List MemPlace}(ht:P.underlying t=some (.slice e))(hce:P.cellsOf t=1)(hC:P.cellsOf e=size)(h0:0<size)(hlen:∀ x,Ok x->(en x).length=size)
  (hel:∀ n cs' y,DataW.trod enc P w 0 (λ_=>true) true n e cs'=some y->∃ x,cs'=en x/\Ok x) (h:DataW.trod enc P w 0 (λ_=>true) true n t ((cs.drop o).take (P.cellsOf t))=some y) :
  ∃ a c xs,cs[o]? = some (.slice a (List.length xs) c)/\RowAt en size w a xs/\xs.length<=c/\c<=maxLen/\∀ x∈xs,Ok x:=by
 rw[hce] at h
 rcases open_slice ht h with ⟨hcs,_⟩|⟨a,len,cap,m,n',D,Pl,hcs,_,hl,hx,hm,_,hrow⟩
 ·have hc0:cs[o]? = some (.slice none 0 0):=by
   have:=congrArg (·[0]?) hcs
   simpa[List.getElem?_take,List.getElem?_drop] using this
  exact⟨none,0,[],hc0,λk hk=>absurd hk (Nat.not_lt_zero k),Nat.le_refl _,Nat.zero_le _,λx hx=>(List.not_mem_nil hx).elim⟩
 ·have hc0:cs[o]? = some (.slice (some a) len cap):=by
   have:=congrArg (·[0]?) hcs
   simpa[List.getElem?_take,List.getElem?_drop] using this
  have hm':m=cap:=by simpa using hm
  have each:∀ k,k<len->∃ b o' x,some a=some (⟨b,o',none⟩:Addr)/\w.rangeAt b (o'+k*size) (en x)/\Ok x:=by
   intro k hk
   obtain⟨cs',hcell,htr⟩:=hrow k oX
   rw[hC] at hcell
   obtain⟨_,hcl,hat⟩:=World.cells?_some hcell
   obtain⟨x,rfl,hok⟩:=hel _ _ _ htr
   have hln:=hlen x hok
   have hcell:∀ j u,(en x)[j]? = some u->w.cell? ((a.add (k*size)).add j)=some u:=λj u hj=>by
    have hj7:j<size:=by have:=(List.getElem?_eq_some_iff.1 hj).1;omega
    rw[hat j hj7];exact hj
   obtain⟨b,o',spot⟩:=a
   have hspot:spot=none:=by
    obtain⟨cs2,hcell2,htr2⟩:=hrow 0 oX
    rw[hC] at hcell2
    obtain⟨_,_,hat2⟩:=World.cells?_some hcell2
    obtain⟨x2,rfl,hok2⟩:=hel _ _ _ htr2
    have h7:=hat2 0 h0
    have hln2:=hlen x2 hok2
    rw[List.getElem?_eq_getElem oX] at h7
    simpa[Addr.add] using World.cell?_spot h7
   subst hspot
   have hadd1:∀ o j,(⟨b,o,none⟩:Addr).add j=⟨b,o+j,none⟩:=λo j=>by unfold Addr.add;split<;>simp_all
   have hadd:∀ j,((⟨b,o',none⟩:Addr).add (k*size)).add j=⟨b,o'+k*size+j,none⟩:=λj=>by rw[hadd1,hadd1]
   exact⟨b,o',x,rfl,λj u hj=>(hadd j)▸hcell j u hj,hok⟩
  have hch:∃ X:Nat->α,∀ k,k<len->∃ b o',some a=some (⟨b,o',none⟩:Addr)/\w.rangeAt b (o'+k*size) (en (X k))/\Ok (X k):=by
   refine⟨λk=>if hk:k<len then (each k hk).choose_spec.choose_spec.choose else default,λk hk=>?_⟩
   simp only[hk,dif_pos]
   exact⟨_,_,(each k hk).choose_spec.choose_spec.choose_spec⟩
  obtain⟨X,hX⟩:=hch
  refine⟨some a,cap,(List.range len).map X,by simp[hc0],λk hk=>?_,by simpa using hl,hx,λx hx=>?_⟩
  ·have hk':k<len:=by simpa using hk
   obtain⟨b,o',e1,e2,_⟩:=hX k hk'
   exact⟨b,o',e1,by simpa using e2⟩
  ·obtain⟨k,hk,rfl⟩:=List.mem_map.1 hx
   obtain⟨_,_,_,_,e3⟩:=hX k (by simpa using hk)
   exact e3
end
section
variable {H:Type} {enc:TypeId×Value->H} {w:World}
end
section
variable {P:Program} {ops:Array Oper} {rest:List Oper} {op:Oper} {a:Act} {w:World} {Q:Exit->Act->World->Prop}
theorem Z0(hgd:op.guard=none)(ty:TypeId)(x:Operand)(ho:op.op=.load ty x)
  (b o:Nat) (hx:a.eval x=.pointer (some ⟨b,o,none⟩)) (cs:List Value) (d:TypeDesc) (hc:w.rangeAt b o cs)
  (hu:P.underlying ty=some d) (hd:d.isRow=true) (hi:(P.info? ty).map (·.size)=some cs.length) (C:Array Value) (hC:Hid (C=cs.toArray))
  (h:wpList P ops Q rest (a.put op.dst (.agg C)) w):wpList P ops Q (op::rest) a w:=by
 rw[hC.out] at h
 exact wpList_load_mid hgd ty x ho b o hx cs d hc hu hd hi h
end
def G2(G:Nat->UInt8)(S x:Nat)(b:UInt8):Prop:=(b=G x\/b=0)/\(x<S->b=G x)
def Uf(G:Nat->UInt8)(S:Nat)(i:Int)(s:List UInt8):Prop:=∀ j:Nat,i=(j:Int)->∀ y,y<64->G2 G S (64*j+y) (s.getD y 0)
structure BInv (p:DP) (G:Nat->UInt8) (S:Nat):Prop where
 ok:DOk p
 f:∀ i,Uf G S i (p.f i)
 ws:∀ q∈p.ws,Uf G S q.1 q.2
theorem BInv.seen{p:DP}{G:Nat->UInt8}{S:Nat}(h:BInv p G S)(i:Int):Uf G S i (ZR p.ws p.f i):=by
 unfold ZR
 cases hq:Ym p.ws i with
 | none=>exact h.f i
 | some q=>
  unfold Ym at hq
  have h1:=List.find?_some hq
  have h2:q∈p.ws:=by simpa using List.mem_of_find?_eq_some hq
  have h3:q.1=i:=by simpa using h1
  have:=h.ws q h2
  rw[h3] at this
  exact this
theorem BInv.write{p:DP}{G:Nat->UInt8}{S:Nat}(h:BInv p G S){i:Int}{bs:List UInt8}(hs:Uf G S i bs)(hl:bs.length=64):BInv (p.write i bs).1 G S:=by
 unfold DP.write
 split
 ·exact h
 ·split
  ·exact h
  ·split
   ·exact⟨⟨h.ok.f,h.ok.ws⟩,h.f,h.ws⟩
   ·refine⟨⟨h.ok.f,λq hq=>?_⟩,h.f,λq hq=>?_⟩
    ·rcases List.mem_append.1 hq with hq|hq
     ·exact h.ok.ws q hq
     ·rw[List.mem_singleton.1 hq];exact hl
    ·rcases List.mem_append.1 hq with hq|hq
     ·exact h.ws q hq
     ·rw[List.mem_singleton.1 hq];exact hs
theorem BInv.mono{p:DP}{G G':Nat->UInt8}{S S':Nat}(h:BInv p G S)(hm:∀ x b,G2 G S x b->G2 G' S' x b):BInv p G' S':=
 ⟨h.ok,λi j e y hy=>hm _ _ (h.f i j e y hy),λq hq j e y hy=>hm _ _ (h.ws q hq j e y hy)⟩
theorem BInv.layF{G:Nat->UInt8}{S:Nat}:∀ (f:Nat) (p:DP) (k:Nat) (b:List UInt8),BInv p G S->(∀ m,m<b.length->b.getD m 0=G (k+m))->BInv (layF f p k b).1 G S:=by
 intro f
 induction f with
 | zero=>intro p k b h _;exact h
 | succ f ih=>
  intro p k b h hb
  rw[Go.Proofs.YtpdhceiodgnbmaaGreatDoor.layF]
  split
  ·exact h
  ·have hsl:=h.ok.seen ((k / 64:Nat):Int)
   have hS:=h.seen ((k / 64:Nat):Int)
   have hN:ZY b k<=b.length/\ZY b k<=64-k % 64:=⟨Nat.min_le_left _ _,Nat.min_le_right _ _⟩
   have hw:=h.write (i:=((k / 64:Nat):Int)) (bs:=Xs (ZR p.ws p.f ((k / 64:Nat):Int)) b k) (by
    intro j e y hy
    have ej:j=k / 64:=oX
    rw[NN _ b k y hsl hy]
    split
    ·next hx=>
     have:=hb (y-k % 64) oX
     rw[this,show k+(y-k % 64)=64*j+y by omega]
     exact⟨.inl rfl,λ_=>rfl⟩
    ·exact hS j e y hy) (Uh hsl)
   split
   ·refine ih _ _ _ hw (λm hm=>?_)
    rw[List.length_drop] at hm
    have:=hb (ZY b k+m) oX
    rw[show k+ZY b k+m=k+(ZY b k+m) by omega,<-this]
    simp only[List.getD_eq_getElem?_getD,List.getElem?_drop]
   ·exact hw
theorem Dg{G:Nat->UInt8}{S:Nat}(ws:List (Int×List UInt8)):∀ (ks:Nat->Option Nat) (f:Int->List UInt8),(∀ q∈ws,q.2.length=64/\Uf G S q.1 q.2)->(∀ i,(f i).length=64/\Uf G S i (f i))->(∀ j m,ks j=some m->m<=64)->
  ∀ i,(ZJ ks ws f i).length=64/\Uf G S i (ZJ ks ws f i):=by
 induction ws with
 | nil=>intro ks f _ hf _ i;exact hf i
 | cons q ws ih=>
  intro ks f hw hf hk
  rw[ZJ]
  have hq:=hw q (List.mem_cons_self ..)
  refine ih _ _ (λr hr=>hw r (List.mem_cons_of_mem _ hr)) ?_ (λj m=>hk (j+1) m)
  intro i
  cases h0:ks 0 with
  | none=>exact hf i
  | some k=>
   simp only
   split
   ·next e=>
    have hk0:=hk 0 k h0
    refine⟨N7 hk0 hq.1 (hf _).1,λj ej y hy=>?_⟩
    have e1:=hq.2 j (by rw[<-e];exact ej) y hy
    have e2:=(hf q.1).2 j (by rw[<-e];exact ej) y hy
    unfold YW
    simp only[List.getD_eq_getElem?_getD] at e1 e2 ⊢
    by_cases hlt:y<k
    ·rw[List.getElem?_append_left (by rw[List.length_take];omega),List.getElem?_take,if_pos hlt];exact e1
    ·rw[List.getElem?_append_right (by rw[List.length_take];omega),List.length_take,List.getElem?_drop,show k+(y-min k q.2.length)=y by omega];exact e2
   ·exact hf i
theorem BInv.crash{p:DP}{G:Nat->UInt8}{S:Nat}(h:BInv p G S)(a b:Int)(s:Nat):BInv (p.crash a b s) G S:=by
 have hd:=Dg (G:=G) (S:=S) p.ws (Q8 a b s) p.f (λq hq=>⟨h.ok.ws q hq,h.ws q hq⟩) (λi=>⟨h.ok.f i,h.f i⟩) (λj m hm=>Ld hm)
 exact⟨⟨λi=>(hd i).1,λq hq=>absurd hq (by simp[DP.crash])⟩,λi=>(hd i).2,λq hq=>absurd hq (by simp[DP.crash])⟩
theorem BInv.all{p:DP}{G:Nat->UInt8}{S n:Nat}(h:BInv p G S)(hn:p.n=(n:Int)):(Z7 p).length=64*n/\∀ x,x<64*n->G2 G S x ((Z7 p).getD x 0):=by
 have h1:=h.ok.toLen n
 unfold Z7
 rw[hn,show ((n:Int)).toNat=n from rfl]
 refine⟨h1,λx hx=>?_⟩
 rw[h.ok.byteTo n x hx]
 have:=h.seen ((x / 64:Nat):Int) (x / 64) rfl (x % 64) (Nat.mod_lt _ dX)
 rw[show 64*(x / 64)+x % 64=x by omega] at this
 exact this
def QC(l:List (List UInt8))(x:Nat):UInt8:=(ZW z32J l).getD x 0
theorem Mz(l:List (List UInt8))(r:List UInt8)(x:Nat)(hx:x<Zh l):QC (l++[r]) x=QC l x:=by
 unfold QC
 rw[JZ]
 have hl:=YN l z32J
 simp only[List.getD_eq_getElem?_getD]
 rw[List.getElem?_append_left oX]
theorem Tq(l:List (List UInt8))(x:Nat)(hx:Zh l<=x):QC l x=0:=by
 unfold QC
 have hl:=YN l z32J
 rw[List.getD_eq_getElem?_getD,List.getElem?_eq_none oX]
 rfl
theorem BInv.snoc{p:DP}{l:List (List UInt8)}{S:Nat}(h:BInv p (QC l) S)(hS:S<=Zh l)(r:List UInt8):BInv p (QC (l++[r])) S:=h.mono λx b hb=>by
 by_cases hx:x<Zh l
 ·unfold G2
  rw[Mz l r x hx]
  exact hb
 ·refine⟨.inr ?_,λh=>by omega⟩
  rcases hb.1 with e|e
  ·rw[e,Tq l x oX]
  ·exact e
theorem BInv.lay{p:DP}{l:List (List UInt8)}{S:Nat}(h:BInv p (QC l) S)(hS:S<=Zh l)(r:List UInt8):BInv (lay p (Zh l) (Zp (Zg z32J l) r)).1 (QC (l++[r])) S:=by
 refine BInv.layF _ _ _ _ (h.snoc hS r) (λm hm=>?_)
 unfold QC
 rw[JZ]
 have hl:=YN l z32J
 simp only[List.getD_eq_getElem?_getD]
 rw[List.getElem?_append_right oX,hl,show Zh l+m-Zh l=m by omega]
theorem BInv.synced{p:DP}{l:List (List UInt8)}{n:Nat}(hok:DOk p)(hsh:Xj p n l)(hE:Zh l<=64*n)(hn:∀ j:Int,(n:Int)<=j->p.f j=zSec)(hw:p.ws=[]):BInv p (QC l) (Zh l):=by
 refine⟨hok,λi j e y hy=>?_,λq hq=>absurd hq (by rw[hw];simp)⟩
 subst e
 by_cases hj:j<n
 ·have h1:=hsh (64*j+y) oX
  unfold Qy at h1
  rw[hw,NA,show (64*j+y) / 64=j by omega,show (64*j+y) % 64=y by omega] at h1
  exact⟨.inl h1,λ_=>h1⟩
 ·rw[hn _ oX]
  refine⟨.inr ?_,λh=>by omega⟩
  rw[List.getD_eq_getElem?_getD]
  cases hq:zSec[y]? with
  | none=>rfl
  | some u=>
   have hm:=List.mem_of_getElem? hq
   have hz:∀ u∈zSec,u=0:=dX
   exact hz u hm
def XU(h:List UInt8):List (List UInt8)->List (List UInt8)->Bool
 | [],_=>false
 | _::_,[]=>false
 | r::rs,x::xs=>if r=x then XU (Zn h r) rs xs else (List.range 32).all λk=>(Zn h r).getD k 0==(Zn h x).getD k 0 || (Zn h r).getD k 0==0
def Yh:List (List UInt8)->List (List UInt8)->Bool
 | [],_=>true
 | _::_,[]=>false
 | r::rs,x::xs=>r==x&&Yh rs xs
theorem Ke(r:List UInt8)(l:List (List UInt8)):Zh (r::l)=34+r.length+Zh l:=by simp[Zh]
theorem Na(Y:List UInt8)(k:Nat)(hk:k<32):((Y.drop 2).take 32).getD k 0=Y.getD (2+k) 0:=by
 simp only[List.getD_eq_getElem?_getD,List.getElem?_take,List.getElem?_drop]
 rw[if_pos hk]
theorem WD:∀ (all:List (List UInt8)) (h Y:List UInt8) (s:Nat),s<=all.length->(∀ r∈all.take s,okR r)->Zh (all.take s)<=Y.length->
  (∀ x,x<Y.length->((Y.getD x 0=(ZW h all).getD x 0)\/Y.getD x 0=0)/\(x<Zh (all.take s)->Y.getD x 0=(ZW h all).getD x 0))->
  s<=(ZC Y h).length/\(Yh (ZC Y h) all=true\/XU h (ZC Y h) all=true):=by
 intro all
 induction all with
 | nil=>
  intro h Y s hs _ _ hY
  have hz:Zy Y h=none:=by
   by_cases h2:2<=Y.length
   ·refine UK λi hi=>?_
    rcases(hY i oX).1 with e|e
    ·rw[e];rfl
    ·exact e
   ·unfold Zy
    rw[if_pos oX]
  rw[YI hz]
  exact⟨by simpa using hs,.inl rfl⟩
 | cons a tl ih=>
  intro h Y s hs hr hE hY
  have hfl:=QW h a
  have hfr:∀ x,x<34+a.length->(ZW h (a::tl)).getD x 0=(Zp h a).getD x 0:=by
   intro x hx
   rw[ZW]
   simp only[List.getD_eq_getElem?_getD]
   rw[List.getElem?_append_left oX]
  have hsure:1<=s->Zy Y h=some a:=by
   intro h1
   obtain⟨t,rfl⟩:∃ t,s=t+1:=⟨s-1,oX⟩
   rw[List.take_succ_cons,Ke] at hE hY
   have hok:=hr a (by rw[List.take_succ_cons];exact List.mem_cons_self ..)
   have hYeq:Y=Zp h a++Y.drop (34+a.length):=by
    have h3:Y.take (34+a.length)=Zp h a:=by
     apply List.ext_getElem (by rw[List.length_take,hfl];omega)
     intro i h4 h5
     have h6:=(hY i (by rw[List.length_take] at h4;omega)).2 (by rw[List.length_take] at h4;omega)
     rw[hfr i oX] at h6
     rw[List.getElem_take]
     simpa[List.getD_eq_getElem?_getD,h5,show i<Y.length by rw[List.length_take] at h4;omega] using h6
    rw[<-h3,List.take_append_drop]
   rw[hYeq]
   exact UX hok
  cases hf:Zy Y h with
  | none=>
   rw[YI hf]
   have:s=0:=by
    rcases Nat.eq_zero_or_pos s with h|h
    ·exact h
    ·rw[hsure h] at hf;cases hf
   exact⟨by rw[this];exact Nat.zero_le _,.inl rfl⟩
  | some r=>
   rw[Xk hf]
   obtain⟨f1,f2,f3,f4,f5,f6⟩:=YT hf
   by_cases hra:r=a
   ·subst hra
    have hsub:=ih (Zn h r) (Y.drop (34+r.length)) (s-1) (by simp only[List.length_cons] at hs;omega) (λq hq=>hr q (by
      cases s with
      | zero=>simp at hq
      | succ s=>rw[List.take_succ_cons];exact List.mem_cons_of_mem _ hq)) (by
      cases s with
      | zero=>simp[Zh]
      | succ s=>rw[List.take_succ_cons,Ke] at hE;rw[List.length_drop,Nat.add_sub_cancel];omega) (by
      intro x hx
      rw[List.length_drop] at hx
      have h1:=hY (34+r.length+x) oX
      rw[ZW] at h1
      simp only[List.getD_eq_getElem?_getD] at h1 ⊢
      rw[List.getElem?_append_right oX,hfl,show 34+r.length+x-(34+r.length)=x by omega] at h1
      rw[List.getElem?_drop]
      refine⟨h1.1,λhx2=>h1.2 ?_⟩
      cases s with
      | zero=>simp[Zh] at hx2
      | succ s=>rw[List.take_succ_cons,Ke];rw[Nat.add_sub_cancel] at hx2;omega)
    refine⟨by rw[List.length_cons];omega,?_⟩
    rw[Yh,XU,if_pos rfl]
    simpa using hsub.2
   ·have hs0:s=0:=by
     rcases Nat.eq_zero_or_pos s with h|h
     ·exact h
     ·have:=hsure h
      rw[hf] at this
      exact absurd (Option.some.inj this) hra
    refine⟨oX,.inr ?_⟩
    rw[XU,if_neg hra,List.all_eq_true]
    intro k hk
    rw[List.mem_range] at hk
    have e1:(Zn h r).getD k 0=Y.getD (2+k) 0:=by rw[<-f6,Na Y k hk]
    have e2:(ZW h (a::tl)).getD (2+k) 0=(Zn h a).getD k 0:=by
     rw[hfr _ oX]
     show ((lnB a.length++(Zn h a++a))).getD (2+k) 0=_
     have:=Qh h a
     simp only[List.getD_eq_getElem?_getD]
     rw[List.getElem?_append_right (by simp[lnB]),List.getElem?_append_left (by simp[lnB];omega)]
     simp[lnB]
    have h1:=(hY (2+k) oX).1
    rw[e2,<-e1] at h1
    rw[Bool.or_eq_true,beq_iff_eq,beq_iff_eq]
    exact h1
end Go.Proofs.YtpdhceiodgnbmaaGreatDoor
