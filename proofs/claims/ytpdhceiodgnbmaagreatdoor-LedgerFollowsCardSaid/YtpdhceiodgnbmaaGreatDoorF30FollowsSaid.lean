import Derived.Test.YtpdhceiodgnbmaaGreatDoorF0FollowsSaid
import Derived.Test.YtpdhceiodgnbmaaGreatDoorF1FollowsSaid
import Derived.Test.YtpdhceiodgnbmaaGreatDoorF23FollowsSaid
import Derived.Test.YtpdhceiodgnbmaaGreatDoorF3FollowsSaid
import Derived.Test.YtpdhceiodgnbmaaGreatDoorF2FollowsSaid
import Derived.Laws.AppendOwnNone
import Derived.Laws.OwnMore
import Derived.Test.YtpdhceiodgnbmaaGreatDoorF21FollowsSaid
import Derived.Test.YtpdhceiodgnbmaaGreatDoorF22FollowsSaid
set_option linter.unusedVariables false
set_option linter.unusedSimpArgs false
set_option linter.unnecessarySimpa false
set_option maxRecDepth 100000
set_option maxHeartbeats 8000000
namespace Go.Proofs.YtpdhceiodgnbmaaGreatDoor
open Go.RowKit
theorem K7{l:List Value}(h:∀ u∈l,u.oneCell'=true):l.toArray.all (·.oneCell')=true:=by
 rw[Array.all_eq_true']
 intro u hu
 exact h u (by simpa using hu)
theorem Hn(a:Option Addr)(c:Nat)(bs:List UInt8)(w:World)(hA:ArgB w a c bs)(hl:bs.length<=100000) :
  Calls Tryz.prog 132 #[.slice a bs.length c] w λe w'=>∃ v,e=.returned v/\OwnB w.heap.size w' v (0::bs)/\Below w.heap.size w w':=by
 have hG:Below w.heap.size w (w.alloc (.cells #[.int .u8 0] 5)):=bR.alloc nR _
 have hown:=Hd (Pg w [0] #[.int .u8 0] rfl dX)
 have hA2:=Hd (hA.below hG)
 obtain⟨L,hL⟩:∃ L,L=bs.length:=⟨_,rfl⟩
 rw[<-hL] at hl ⊢
 have hL2:=Hd hL.symm
 replace hG:=Hd hG
 clear hA hL
 go_enter Tryz.func132,Tryz.ntmps132
 go_wp2_with (at_builtin;go_must (refine Uz rfl (.tmp 3) (.tmp 4) rfl w.heap.size _ [0] rfl hown a c bs L rfl hL2 hA2 dX oX sX ?_);intro v' w' ho hb)
 go_ret
 exact⟨_,rfl,ho.out,hG.out.trans (hb.out.mono nR)⟩
theorem Kx{w:World}{a:Option Addr}{c:Nat}{p:List UInt8}{g:Nat}(h:ArgB w a c p)(hg:w.heap[g]? = some (.cells #[.slice a p.length c] 24 (0,0))):ArgBB w (some ⟨g,0,none⟩) 1 [p]:=by
 refine⟨Nat.le_refl _,by unfold maxLen;omega,(λe=>by cases e),λi hi=>⟨g,0,rfl,?_⟩⟩
 obtain rfl:i=0:=by simpa using hi
 exact⟨a,c,by rw[Za hg];rfl,h⟩
def QJ(bs:List UInt8):List UInt8:=sha (0::bs)
theorem TW(a:Option Addr)(c:Nat)(bs:List UInt8)(w:World)(hA:ArgB w a c bs)(hl:bs.length<=1000)(hK:ShaK w)(hF:ShaF w) :
  Calls Tryz.prog 102 #[.slice a bs.length c] w λe w'=>e=.returned (.agg (cB (QJ bs)).toArray)/\Below w.heap.size w w':=by
 have zr:=QH
 have zn:=QS
 obtain⟨A,hA1⟩:∃ A,A=w.alloc (.cells zero32 47):=⟨_,rfl⟩
 have hbA:Below w.heap.size w A:=by rw[hA1];exact(Below.refl _ w).alloc nR _
 have hsA:A.heap.size=w.heap.size+1:=by rw[hA1];simp
 have hatA:A.heap[w.heap.size]? = some (.cells zero32 47 (0,0)):=by rw[hA1];exact heap_alloc_new w _
 have hlD:(QJ bs).length=32:=Yd _
 have hou:=Hd (Hn a c bs A (hA.below hbA) oX)
 obtain⟨D,hD⟩:∃ D,D=(cB (QJ bs)).toArray:=⟨_,rfl⟩
 have hDs:zero32.size=D.size:=by rw[Yi,hD,List.size_toArray,Zd,hlD]
 have hDi:(Tryz.prog.info? 47).map (·.size)=some D.size:=by rw[hD,List.size_toArray,Zd,hlD];kernel_rfl
 have hDo:D.all (·.oneCell')=true:=by rw[hD];exact K7 (ZU _)
 have hfin:∀ (e:Ending) (w':World),e=.returned (.agg D)->Below w.heap.size w w'->e=.returned (.agg (cB (QJ bs)).toArray)/\Below w.heap.size w w':=λe w' h1 h2=>⟨by rw[h1,hD],h2⟩
 have hsh:=Hd (λ(W:World) (v:Value) (h:OwnB A.heap.size W v (0::bs)) (hb:Below A.heap.size A W)=>show ∃ a1 c1,v=.slice a1 (bs.length+1) c1/\∀ W2,W2=W.alloc (.cells #[v] 24)->Calls Tryz.prog 117 #[.slice (some ⟨W.heap.size,0,none⟩) 1 1] W2 λe w'=>e=.returned (.agg D)/\Below W2.heap.size W2 w' from by
  obtain⟨a1,c1,rfl,h1,_⟩:=h.arg
  refine⟨a1,c1,rfl,λW2 hW2=>?_⟩
  have hG:Below W.heap.size W W2:=by rw[hW2];exact bR.alloc nR _
  have hB2:Below w.heap.size w W2:=(hbA.trans (hb.mono oX)).trans (hG.mono (by have:=hb.size;omega))
  have:=UV (some ⟨W.heap.size,0,none⟩) 1 [0::bs] W2 (Kx (h1.below hG) (by rw[hW2];exact heap_alloc_new W _)) sY sX (hK.below hB2) (hF.below hB2)
  rwa [show ([0::bs]:List (List UInt8)).flatten=0::bs from by simp,show sha (0::bs)=QJ bs from rfl,<-hD] at this)
 obtain⟨L,hL⟩:∃ L,L=bs.length:=⟨_,rfl⟩
 rw[<-hL] at hou ⊢
 replace hA1:=Hd hA1
 replace hbA:=Hd hbA
 replace hatA:=Hd hatA
 replace hfin:=Hd hfin
 replace hsA:=Hd hsA
 clear hA hL hD hlD hK hF
 go_enter Tryz.func102,Tryz.ntmps102
 go_wp2_with fail
 rw[<-hA1.out]
 with_reducible refine hou.out.mono ?_
 rintro e w2 ⟨v2,rfl,ho2,hb2⟩
 obtain⟨a1,c1,hv2,hcall⟩:=hsh.out w2 v2 ho2 hb2
 subst hv2
 have hat2:=Hd ((hb2.block w.heap.size (by have:=hsA.out;omega)).trans hatA.out)
 have hB2:=Hd (hbA.out.trans (hb2.mono (by have:=hsA.out;omega)))
 have hs2:=Hd hb2.size
 replace hcall:=Hd hcall
 clear ho2 hb2 hou hsh
 go_wp2_with fail
 with_reducible refine(hcall.out _ rfl).mono ?_
 rintro e w3 ⟨rfl,hb3⟩
 have hlt2:=Zb hat2.out
 have hG3:Below w2.heap.size w2 (w2.alloc (.cells #[.slice a1 (bs.length+1) c1] 24)):=bR.alloc nR _
 have hat3:=Hd ((hb3.block _ (by have:=hG3.size;omega)).trans ((hG3.block _ hlt2).trans hat2.out))
 have hB3:=Hd ((hB2.out.trans (hG3.mono hB2.out.size)).trans (hb3.mono (by have:=hG3.size;have:=hB2.out.size;omega)))
 clear hb3 hG3 hcall
 go_wp2_with (refine Zc rfl 47 (.tmp 2) (.tmp 6) rfl w.heap.size zero32 D rfl rfl hat3 hDi hDs hDo ?_;intro w4 hU4)
 refine Z7 rfl rfl Tryz.underlying47 rfl hDi hU4.out.here ?_
 exact hfin.out _ _ rfl (hB3.out.trans (hU4.out.below nR))
structure FrM (base:Nat) (w:World) (f:Nat) (n:Nat) (v:Value) (ps:List (List UInt8)):Prop where
 at_:w.heap[f]? = some (.cells #[.int .i64 (n:Int),v] 194 (0,0))
 rows:RowsOf RD 47 32 base w (λ_=>False) v ps
 nv:v.ownBlock≠some f
 ge:base<=f
def FrD(f:Nat)(v:Value)(k:Nat):Prop:=k=f\/v.ownBlock=some k
theorem FrM.lt{base:Nat}{w:World}{f n:Nat}{v:Value}{ps:List (List UInt8)}(h:FrM base w f n v ps):∀ k,FrD f v k->base<=k/\k<w.heap.size:=by
 rintro k (rfl|hk)
 ·exact⟨h.ge,Zb h.at_⟩
 ·exact h.rows.ownLt k hk
theorem FrM.only{base:Nat}{w w':World}{f n:Nat}{v:Value}{ps:List (List UInt8)}{D:Nat->Prop}(h:FrM base w f n v ps)(hO:Only D w w')(hd:∀ k,FrD f v k->¬D k):FrM base w' f n v ps:=
 ⟨hO.heap h.at_ (hd f (.inl rfl)),h.rows.only Yt hO (λk hk=>hk.elim) (λk hk=>hd k (.inr hk)),h.nv,h.ge⟩
theorem FrM.below{base:Nat}{w w':World}{f n:Nat}{v:Value}{ps:List (List UInt8)}(h:FrM base w f n v ps)(hb:Below w.heap.size w w'):FrM base w' f n v ps:=
 h.only (Only.ofBelow (D:=λ_=>False) hb) (λ_ _ h=>h)
theorem Kd(w:World):Calls Tryz.prog 61 #[] w λe w'=>e=.returned (.pointer (some ⟨w.heap.size,0,none⟩))/\FrM w.heap.size w' w.heap.size 0 (.slice none 0 0) []/\Below w.heap.size w w':=by
 have hb:Below w.heap.size w (w.alloc (.cells #[.int .i64 0,.slice none 0 0] 194)):=bR.alloc nR _
 have hh:=heap_alloc_new w (.cells #[.int .i64 0,.slice none 0 0] 194 (0,0))
 have hf:FrM w.heap.size (w.alloc (.cells #[.int .i64 0,.slice none 0 0] 194)) w.heap.size 0 (.slice none 0 0) []:=⟨hh,RowsOf.nil _ _,by simp[Value.ownBlock],Nat.le_refl _⟩
 replace hb:=Hd hb
 replace hf:=Hd hf
 clear hh
 go_enter Tryz.func61,Tryz.ntmps61
 go_wp2_with fail
 go_ret
 exact⟨rfl,hf.out,hb.out⟩
section
variable {α:Type} {R:World->(Nat->Prop)->α->List Value->Prop} {e:TypeId} {size base:Nat} {w:World} {F F':Nat->Prop} {v:Value} {ps:List α} {P:Program} {ops:Array Oper} {rest:List Oper} {o:Oper} {a:Act} {Q:Exit->Act->World->Prop} {K:Act->World->Prop}
theorem N8{w:World}{g base size:Nat}{e:TypeId}(h:w.heap[g]? = some (.cells #[] e (0,0)))(hb:base<=g):w.ownsRow base e size (.slice (some ⟨g,0,none⟩) 0 0) 0 []:=
 ⟨sX,.inr ⟨g,0,#[],rfl,hb,h,Nat.le_refl _,Nat.zero_le _,sX,sX⟩⟩
theorem Js(hR:LiesOk R size)(s x:Operand)(t:TypeId)(ho:o.op=.call { callee:=.builtin .append,args:=#[s,x],argTypes:=#[t,t] })
  (ht:P.underlying t=some (.slice e)) (bytes:Nat) (hi:(P.info? e).map (λi=>(i.zero.map (·.cells.size),i.size,i.bytes))=some (some size,size,bytes)) (hsz:0<size)
  (hs:a.eval s=v) (h:Hid (RowsOf R e size base w F v ps)) (y:α) (g:Nat) (C:Array Value) (hy:Hid (R w F' y C.toList)) (hF:Hid (∀ k,F k->F' k)) (ha:Hid (∀ k,v.ownBlock=some k->¬F' k)) (hl:Hid (∀ k,F' k->k<w.heap.size))
  (hx:a.eval x=.slice (some ⟨g,0,none⟩) 1 1) (hg:Hid (w.heap[g]? = some (.cells C e (0,0)))) (h63:ps.length<=1000000) (hb8:bytes<=10000) (hbase:base<=w.heap.size)
  (hK:∀ v' w',Hid (RowsOf R e size base w' F' v' (ps++[y]))->Hid (Only (λk=>v.ownBlock=some k) w w')->Hid (YI w v v')->K (a.put o.dst v') w'):o.wp P a w K Q:=by
 obtain⟨ie,hie,h2⟩:=Option.map_eq_some_iff.1 hi
 simp only[Prod.mk.injEq] at h2
 obtain⟨hz,hs1,hby⟩:=h2
 obtain⟨z,hz1,hz2⟩:=Option.map_eq_some_iff.1 hz
 obtain⟨v',w',hr,k1,k2,k3⟩:=h.out.app1 (P:=P) hR t o.type ie z bytes ht hie hz1 hs1 hby hz2 hsz y C.toList hy.out hF.out ha.out hl.out g C rfl hg.out (by unfold maxLen;omega)
  (Nat.le_trans (Nat.mul_le_mul (Nat.succ_le_succ h63) hb8) dX) hbase
 unfold Oper.wp execOp
 simp only[ho,resolve,invoke,builtin,Sem.run_bind,Sem.run_pure,Result.andThen_ok,List.map_toArray,List.map_cons,List.map_nil,hs,hx,hr]
 exact hK v' w' (Hd k1) (Hd k2) (Hd k3)
end
theorem Ju{K:Act->World->Prop}{a:Act}{w:World}{x:Addr}{u:Value}(h:∀ w',w'=w.setCell x u->K a w'):K a (w.setCell x u):=h _ rfl
def VA(base:Nat)(w:World)(f n:Nat)(v:Value)(ps:List (List UInt8))(x:Ending)(w':World):Prop:=
 x=.returned .nilIface/\∃ v',FrM base w' f n v' ps/\Only (FrD f v) w w'/\∀ k,v'.ownBlock=some k->FrD f v k\/w.heap.size<=k
theorem KH{base:Nat}{w:World}{f n:Nat}{v:Value}{ps:List (List UInt8)}(h:FrM base w f n v ps)(hb:base<=w.heap.size)(hn:n % 2=0)(hn2:n<=1000000)(hp:ps.length<=1000000)(a:Option Addr)(c:Nat)(bs:List UInt8)(hA:ArgB w a c bs)(hl:bs.length<=1000)(hK:ShaK w)(hF:ShaF w) :
  Calls Tryz.prog 62 #[.pointer (some ⟨f,0,none⟩),.slice a bs.length c] w (VA base w f (n+1) v (ps++[QJ bs])):=by
 have hle:=Hd (TW a c bs w hA hl hK hF)
 have hlD:(QJ bs).length=32:=Yd _
 obtain⟨D,hD⟩:∃ D,D=(cB (QJ bs)).toArray:=⟨_,rfl⟩
 have hDi:(Tryz.prog.info? 47).map (·.size)=some D.size:=by rw[hD,List.size_toArray,Zd,hlD];kernel_rfl
 have hDz:zero32.size=D.size:=by rw[Yi,hD,List.size_toArray,Zd,hlD]
 have zr:=QH
 have zn:=QS
 have hDo:D.all (·.oneCell')=true:=by rw[hD];exact K7 (ZU _)
 have hDL:D.size=32:=by rw[hD,List.size_toArray,Zd,hlD]
 have hand:bits .and .i64 (n:Int) 1=0:=by
  have:=G4 n 1 oX oX
  rw[Nat.and_one_is_mod,hn] at this
  exact this
 have hyD:=Hd (λ(W:World)=>show RD W (λ_=>False) (QJ bs) D.toList from⟨hlD,by rw[hD]⟩)
 rw[<-hD] at hle
 obtain⟨nn,hnn⟩:∃ nn:Int,(n:Int)=nn:=⟨_,rfl⟩
 have hc0:w.cell? ⟨f,0,none⟩=some (.int .i64 nn):=by rw[Za h.at_,<-hnn];rfl
 have hwr:IntKind.i64.wrap (nn+1)=nn+1:=IntWalk.i64_in _ oX
 have hnlt:nn<1099511627776:=oX
 rw[hnn] at hand
 have hfin:∀ (W:World) (v':Value),FrM base W f (n+1) v' (ps++[QJ bs])->Only (FrD f v) w W->(∀ k,v'.ownBlock=some k->FrD f v k\/w.heap.size<=k)->VA base w f (n+1) v (ps++[QJ bs]) (.returned .nilIface) W:=λW v' h1 h2 h3=>⟨rfl,v',h1,h2,h3⟩
 replace hfin:=Hd hfin
 obtain⟨L,hL⟩:∃ L,L=bs.length:=⟨_,rfl⟩
 rw[<-hL] at hle ⊢
 replace h:=Hd h
 replace hD:=Hd hD
 replace hL:=Hd hL
 have hn0:=Hd hn
 replace hnn:=Hd hnn
 clear hA hl hK hF hlD hn
 go_enter Tryz.func62,Tryz.ntmps62
 go_wp2_with fail
 with_reducible refine hle.out.mono ?_
 clear hle
 rintro e w2 ⟨rfl,hb2⟩
 have h2:=Hd (h.out.below hb2)
 have hw2:=Hd hb2.size
 have hZ2:=Hd (heap_alloc_new w2 (.cells zero32 47))
 replace hb2:=Hd hb2
 clear hc0
 go_wp2_with ((with_reducible refine wL (.store 47 (.tmp 5) _) ?_);(refine Zc rfl 47 (.tmp 5) (.tmp 15) rfl w2.heap.size _ D rfl rfl hZ2 hDi hDz hDo ?_);intro w3 hU3;have hb3:Below w2.heap.size w2 w3:=(Below.alloc (Below.refl w2.heap.size w2) nR _).trans (hU3.out.below nR);have aD3:=Hd hU3.out.here;have h3:=Hd (h2.out.below hb3);have hw3:=Hd (show w2.heap.size<w3.heap.size from Zb hU3.out.here);have hc0:w3.cell? ⟨f,0,none⟩=some (.int .i64 nn):=(by rw[Za h3.out.at_,<-hnn.out];rfl);have hc1:=Za h3.out.at_ 1;have hOn3:=Hd (show Below w.heap.size w w3 from hb2.out.trans (hb3.mono hw2.out)))
 refine wp_loop_rounds 1 ?_
 rw[rounds_succ]
 go_wp2_with fail
 have hfw:f<w.heap.size:=Zb h.out.at_
 have hown:=Hd (λk (hk:v.ownBlock=some k)=>h.out.rows.ownLt k hk)
 have hat3:=h3.out.at_
 have hrow3:=Hd (h3.out.rows.below Yt ((Below.refl w3.heap.size w3).drew))
 have hatd:w3.drew.heap[f]? = some (.cells #[.int .i64 (n:Int),v] 194 (0,0)):=hat3
 have k1:w3.drew.cell? ⟨f,1,none⟩=some v:=by rw[Za hatd];rfl
 have hgf:w2.heap.size≠f:=by have:=hw2.out;omega
 have hgv:v.ownBlock≠some w2.heap.size:=λe=>by have:=(hown.out _ e).2;have:=hw2.out;omega
 have hnv:v.ownBlock≠some f:=h.out.nv
 have hS3:Hid (w3.drew.heap[w2.heap.size]? = some (.cells D 47 (0,0))):=Hd aD3.out
 have rlA:∀ W:World,W.heap[w2.heap.size]? = some (.cells D 47 (0,0))->W.heap[w2.heap.size]? = some (.cells D 47 (0,0)):=λ_ h=>h
 have huA:=Tryz.underlying47
 have hzA:=hDi
 have hbs3:base<=w3.drew.heap.size:=by show base<=w3.heap.size;have:=hw2.out;have:=hw3.out;omega
 have hOnd:Hid (Below w.heap.size w w3.drew):=Hd hOn3.out.drew
 clear hOn3
 have hF0:=Hd (show ∀ k:Nat,(λ_:Nat=>False) k->(λ_:Nat=>False) k from λ_ h=>h)
 have hus:=Tryz.underlying93
 have infoD:=Hd (show (Tryz.prog.info? 47).map (λi=>(i.zero.map (·.cells.size),i.size,i.bytes))=some (some 32,32,32) by kernel_rfl)
 replace hatd:=Hd hatd
 replace hw3:Hid (w2.heap.size<w3.drew.heap.size):=Hd hw3.out
 clear hc0 hc1 hat3
 have hsl:=Hd (λW=>JQ D hDL W)
 have hraw:=True.intro
 refine wp_region_held_drew (S:=(λW:World=>W.heap[w2.heap.size]? = some (.cells D 47 (0,0)))) kX hS3.out (λhOn=>?_)
 generalize World.drew w3=wd at*
 refine tk 0 hOn ?_
 refine tk 1 hOn ?_
 refine tk 2 hOn ?_
 refine tk 3 hOn ?_
 refine tk 5 hOn ?_ (v:=Value.agg _) (hy:=Or.inl ⟨by rfl,λW hSW=>Zi _ _ rfl _ _ _ rfl (rlA W hSW) huA rfl hzA⟩)
 refine rds [4,6] ?_
 refine ac (λKz hKz=>?_) ?_
 go_simp
 focus (try go_wp2_with fail)
 refine hKz.out _ _ (by first|exact hOn|exact Grown.alloc hOn _|exact Below.alloc hOn (Below.size hOn) _|exact Grown.alloc (Grown.refl _) _) ?_
 clear hKz Kz hOn
 intro hOn
 try simp only[Act.put,sL,sZ,sS]
 refine rd 6 (λKz hKz=>?_)
 rw[if_pos (by rfl)]
 (refine Y0 93 1 (.tmp 55) rfl (.agg D) rfl _ _ (hsl.out _) ?_)
 (with_reducible refine Z0 (t:=47) ?_)
 intro w5 hx5 hnew
 have hS:=(hnew.block _ (Zb hOn)).trans hOn
 have hat5:=Hd ((hnew.block f (Zb hatd.out)).trans hatd.out)
 have hb5:=Hd hnew
 have hrow5:=Hd (hrow3.out.below Yt hb5.out)
 have k1c:w5.cell? ⟨f,1,none⟩=some v:=(by rw[Za hat5.out];rfl)
 have hbs5:base<=w5.heap.size:=Nat.le_trans hbs3 hb5.out.size
 refine hKz.out _ _ hS ?_
 clear hKz Kz hOn hS
 intro hOn
 try clear hnew
 try simp only[Act.put]
 refine rd 7 (λKz hKz=>?_)
 rw[if_pos (by rfl)]
 (refine Js Yt (.tmp 54) (.tmp 56) 93 rfl hus 32 infoD.out dX rfl hrow5 (QJ bs) _ D (Hd (hyD.out _)) hF0 (Hd (λ_ _ h=>h)) (Hd (λ_ h=>h.elim)) rfl hx5 hp dX hbs5 ?_)
 intro v6 w6 hr6 hO6 hM6
 have hS:=hO6.out.heap hOn hgv
 have hat6:=Hd (hO6.out.heap hat5.out hnv)
 have f1c:w6.frozen? ⟨f,1,none⟩=false:=Zm hat6.out _
 have k1c:w6.cell? ⟨f,1,none⟩=some v:=(by rw[Za hat6.out];rfl)
 obtain⟨a6,n6,c6,hv6⟩:∃ a n c,v6=.slice a n c:=(by obtain⟨a,c,e,_⟩:=hr6.out.form;exact⟨a,_,c,e⟩)
 subst hv6
 refine hKz.out _ _ hS ?_
 clear hKz Kz hOn hS
 intro hOn
 try simp only[Act.put]
 refine tk 8 hOn ?_
 refine tk 9 hOn ?_
 refine rd 10 (λKz hKz=>?_)
 have hU7:=((Upd.refl hat6.out).setCell (j:=1) (.slice a6 n6 c6))
 go_simp
 (with_reducible refine Ju ?_)
 intro w7 hw7
 rw[<-hw7] at hU7
 clear hw7
 have hS:=(hU7.block _ hgf).trans hOn
 replace hU7:=Hd hU7
 refine hKz.out _ _ hS ?_
 clear hKz Kz hOn hS
 intro hOn
 try simp only[Act.put]
 refine dnE ?_
 rotate_left
 refine ac (λKz hKz=>?_) AllReadyH.nil
 rw[if_pos (by rfl)]
 (refine Y0 93 1 (.tmp 55) rfl (.agg D) rfl _ _ (hsl.out _) ?_)
 (with_reducible refine Z0 (t:=47) ?_)
 intro w5 hx5 hnew
 have hS:=(hnew.block _ (Zb hOn)).trans hOn
 have hat5:=Hd ((hnew.block f (Zb hatd.out)).trans hatd.out)
 have hb5:=Hd hnew
 have hrow5:=Hd (hrow3.out.below Yt hb5.out)
 have k1c:w5.cell? ⟨f,1,none⟩=some v:=(by rw[Za hat5.out];rfl)
 have hbs5:base<=w5.heap.size:=Nat.le_trans hbs3 hb5.out.size
 refine hKz.out _ _ hS ?_
 clear hKz Kz hOn hS
 intro hOn
 try clear hnew
 try simp only[Act.put]
 refine rd 4 (λKz hKz=>?_)
 go_simp
 focus (try go_wp2_with fail)
 refine hKz.out _ _ (by first|exact hOn|exact Grown.alloc hOn _|exact Below.alloc hOn (Below.size hOn) _|exact Grown.alloc (Grown.refl _) _) ?_
 clear hKz Kz hOn
 intro hOn
 try simp only[Act.put,sL,sZ,sS]
 refine rd 7 (λKz hKz=>?_)
 rw[if_pos (by rfl)]
 (refine Js Yt (.tmp 54) (.tmp 56) 93 rfl hus 32 infoD.out dX rfl hrow5 (QJ bs) _ D (Hd (hyD.out _)) hF0 (Hd (λ_ _ h=>h)) (Hd (λ_ h=>h.elim)) rfl hx5 hp dX hbs5 ?_)
 intro v6 w6 hr6 hO6 hM6
 have hS:=hO6.out.heap hOn hgv
 have hat6:=Hd (hO6.out.heap hat5.out hnv)
 have f1c:w6.frozen? ⟨f,1,none⟩=false:=Zm hat6.out _
 have k1c:w6.cell? ⟨f,1,none⟩=some v:=(by rw[Za hat6.out];rfl)
 obtain⟨a6,n6,c6,hv6⟩:∃ a n c,v6=.slice a n c:=(by obtain⟨a,c,e,_⟩:=hr6.out.form;exact⟨a,_,c,e⟩)
 subst hv6
 refine hKz.out _ _ hS ?_
 clear hKz Kz hOn hS
 intro hOn
 try simp only[Act.put]
 refine tk 8 hOn ?_
 refine tk 9 hOn ?_
 refine rd 10 (λKz hKz=>?_)
 have hU7:=((Upd.refl hat6.out).setCell (j:=1) (.slice a6 n6 c6))
 go_simp
 (with_reducible refine Ju ?_)
 intro w7 hw7
 rw[<-hw7] at hU7
 clear hw7
 have hS:=(hU7.block _ hgf).trans hOn
 replace hU7:=Hd hU7
 refine hKz.out _ _ hS ?_
 clear hKz Kz hOn hS
 intro hOn
 try simp only[Act.put]
 refine dnE ?_
 all_goals
  have g0:w7.cell? ⟨f,0,none⟩=some (.int .i64 nn):=by rw[Za hU7.out.here,<-hnn.out];rfl
  have gf:=Zm hU7.out.here 0
  have hU8:=Hd (hU7.out.setCell (j:=0) (.int .i64 (nn+1)))
  go_wp2_with fail
  go_ret
  have hO5:Only (FrD f v) w w5:=Only.ofBelow (hOnd.out.trans (hb5.out.mono hOnd.out.size))
  have hO8:=Only.ofUpd (D:=λk=>k=f) hU8.out rfl
  have h6s:=hO6.out.size
  have hmv:∀ k,(Value.slice a6 n6 c6).ownBlock=some k->v.ownBlock=some k\/w.heap.size<=k:=λk hk=>by
   rcases hM6.out k hk with q|q
   ·exact .inl q
   ·right;have:=hb5.out.size;have:=hOnd.out.size;omega
  have hat8:=hU8.out.here
  have hcs:((#[.int .i64 (n:Int),v]:Array Value).setIfInBounds 1 (.slice a6 n6 c6)).setIfInBounds 0 (.int .i64 (nn+1))=#[.int .i64 ((n+1:Nat):Int),.slice a6 n6 c6]:=by rw[<-hnn.out];rfl
  rw[hcs] at hat8
  refine hfin.out _ _ ⟨hat8,hr6.out.only Yt hO8 (λk hk=>hk.elim) (λk hk e=>?_),λe=>?_,h.out.ge⟩ ?_ (λk hk=>(hmv k hk).imp .inr id)
  ·rcases hmv k hk with q|q
   ·exact hnv (e▸q)
   ·omega
  ·rcases hmv f e with q|q
   ·exact hnv q
   ·omega
  ·exact(hO5.trans hO6.out (λk _ hk=>.inr hk)).trans hO8 (λk _ hk=>.inl hk)
end Go.Proofs.YtpdhceiodgnbmaaGreatDoor
