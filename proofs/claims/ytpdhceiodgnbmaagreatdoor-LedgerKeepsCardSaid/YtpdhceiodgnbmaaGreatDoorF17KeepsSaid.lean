import Derived.Test.YtpdhceiodgnbmaaGreatDoorF16KeepsSaid
import Derived.Deep.Upon
set_option linter.all false
set_option maxRecDepth 100000
set_option maxHeartbeats 8000000
namespace Go.Proofs.YtpdhceiodgnbmaaGreatDoor
open Go.RowKit
section
variable {α:Type} {R:World->(Nat->Prop)->α->List Value->Prop} {e:TypeId} {size base:Nat} {w:World} {F F':Nat->Prop} {v:Value} {ps:List α} {P:Program} {ops:Array Oper} {rest:List Oper} {o:Oper} {a:Act} {Q:Exit->Act->World->Prop} {K:Act->World->Prop}
theorem Yd(hR:dN R size)(s x:Operand)(t:TypeId)(ho:o.op=.call { callee:=.builtin .append,args:=#[s,x],argTypes:=#[t,t] })
  (ht:P.underlying t=some (.slice e)) (bytes:Nat) (hi:(P.info? e).map (λi=>(i.zero.map (·.cells.size),i.size,i.bytes))=some (some size,size,bytes)) (hsz:0<size)
  (hs:a.eval s=v) (h:Hid (aH R e size base w F v ps)) (y:α) (g:Nat) (C:Array Value) (hy:Hid (R w F' y C.toList)) (hF:Hid (∀ k,F k->F' k)) (ha:Hid (∀ k,v.ownBlock=some k->¬F' k)) (hl:Hid (∀ k,F' k->k<w.heap.size))
  (hx:a.eval x=.slice (some ⟨g,0,none⟩) 1 1) (hg:Hid (w.heap[g]? = some (.cells C e (0,0)))) (h63:ps.length<=1000000) (ib:bytes<=10000) (hbase:base<=w.heap.size)
  (hK:∀ v' w',Hid (aH R e size base w' F' v' (ps++[y]))->Hid (Only (λk=>v.ownBlock=some k) w w')->Hid (JX w v v')->K (a.put o.dst v') w'):o.wp P a w K Q:=by
 obtain⟨ie,hie,h2⟩:=Option.map_eq_some_iff.1 hi;simp only[Prod.mk.injEq] at h2;obtain⟨hz,hs1,hby⟩:=h2;obtain⟨z,hz1,hz2⟩:=Option.map_eq_some_iff.1 hz;obtain⟨v',w',hr,k1,k2,k3⟩:=h.out.app1 (P:=P) hR t o.type ie z bytes ht hie hz1 hs1 hby hz2 hsz y C.toList hy.out hF.out ha.out hl.out g C rfl hg.out kS
  (Nat.le_trans (Nat.mul_le_mul (Nat.succ_le_succ h63) ib) dX) hbase
 unfold Oper.wp execOp;simp only[ho,resolve,invoke,builtin,Sem.run_bind,Sem.run_pure,Result.andThen_ok,List.map_toArray,List.map_cons,List.map_nil,hs,hx,hr];exact hK v' w' (Hd k1) (Hd k2) (Hd k3)
end
theorem Q0{K:Act->World->Prop}{a:Act}{w:World}{x:Addr}{u:Value}(h:∀ w',w'=w.setCell x u->K a w'):K a (w.setCell x u):=h _ rfl
def XO(base:Nat)(w:World)(f n:Nat)(v:Value)(ps:List (List UInt8))(x:Ending)(w':World):Prop:=
 x=.returned .nilIface/\∃ v',jq base w' f n v' ps/\Only (lH f v) w w'/\∀ k,v'.ownBlock=some k->lH f v k\/w.heap.size<=k
theorem UU{base:Nat}{w:World}{f n:Nat}{v:Value}{ps:List (List UInt8)}(h:jq base w f n v ps)(hb:base<=w.heap.size)(hn:n % 2=0)(hn2:n<=1000000)(hp:ps.length<=1000000)(a:Option Addr)(c:Nat)(bs:List UInt8)(hA:aJ w a c bs)(hl:bs.length<=1000)(hK:bP w)(hF:bZ w) :
  Calls Tryz.prog 62 #[.pointer (some ⟨f,0,none⟩),.slice a bs.length c] w (XO base w f (n+1) v (ps++[Zr bs])):=by
 have hle:=Hd (G4 a c bs w hA hl hK hF);have iJ:(Zr bs).length=32:=Zy _;obtain⟨D,hD⟩:∃ D,D=(cB (Zr bs)).toArray:=⟨_,rfl⟩;have gU:(Tryz.prog.info? 47).map (·.size)=some D.size:=by rw[hD,List.size_toArray,Zc,iJ];kernel_rfl
 have hDz:aG.size=D.size:=by rw[Z3,hD,List.size_toArray,Zc,iJ]
 have zr:=Qe;have zn:=ZH;have kU:D.all (·.oneCell')=true:=by rw[hD];exact ZE (Zw _)
 have hDL:D.size=32:=by rw[hD,List.size_toArray,Zc,iJ]
 have hand:bits .and .i64 (n:Int) 1=0:=by
  have:=Un n 1 aB aB;rw[Nat.and_one_is_mod,hn] at this;exact this
 have ky:=Hd (λ(W:World)=>show RD W (λ_=>False) (Zr bs) D.toList from⟨iJ,by rw[hD]⟩);rw[<-hD] at hle;obtain⟨nn,hnn⟩:∃ nn:Int,(n:Int)=nn:=⟨_,rfl⟩;have hc0:w.cell? ⟨f,0,none⟩=some (.int .i64 nn):=by rw[Za h.at_,<-hnn];rfl
 have hwr:IntKind.i64.wrap (nn+1)=nn+1:=IntWalk.i64_in _ aB;have xG:nn<1099511627776:=aB;rw[hnn] at hand;have hfin:∀ (W:World) (v':Value),jq base W f (n+1) v' (ps++[Zr bs])->Only (lH f v) w W->(∀ k,v'.ownBlock=some k->lH f v k\/w.heap.size<=k)->XO base w f (n+1) v (ps++[Zr bs]) (.returned .nilIface) W:=λW v' h1 h2 h3=>⟨rfl,v',h1,h2,h3⟩;replace hfin:=Hd hfin;obtain⟨L,hL⟩:=aA bs.length;rw[<-hL] at hle ⊢;replace h:=Hd h;replace hD:=Hd hD;replace hL:=Hd hL;have hn0:=Hd hn;replace hnn:=Hd hnn;clear hA hl hK hF iJ hn;go_enter Tryz.func62,Tryz.ntmps62;go_wp2_with fail;with_reducible refine hle.out.mono ?_
 clear hle;rintro e w2 ⟨rfl,hb2⟩;have h2:=Hd (h.out.below hb2);have hw2:=Hd hb2.size;have hZ2:=Hd (heap_alloc_new w2 (.cells aG 47));replace hb2:=Hd hb2;clear hc0;go_wp2_with ((with_reducible refine wL (.store 47 (.tmp 5) _) ?_);(refine Zd rfl 47 (.tmp 5) (.tmp 15) rfl w2.heap.size _ D rfl rfl hZ2 gU hDz kU ?_);intro w3 dB;have hb3:Below w2.heap.size w2 w3:=(Below.alloc (Below.refl w2.heap.size w2) nZ _).trans (dB.out.below nZ);have Sy:=Hd dB.out.here;have h3:=Hd (h2.out.below hb3);have hw3:=Hd (show w2.heap.size<w3.heap.size from Zb dB.out.here);have hc0:w3.cell? ⟨f,0,none⟩=some (.int .i64 nn):=(by rw[Za h3.out.at_,<-hnn.out];rfl);have hc1:=Za h3.out.at_ 1;have uJ:=Hd (show Below w.heap.size w w3 from hb2.out.trans (hb3.mono hw2.out)));refine wp_loop_rounds 1 ?_;rw[rounds_succ];go_wp2_with fail;have hfw:f<w.heap.size:=Zb h.out.at_;have hown:=Hd (λk (hk:v.ownBlock=some k)=>h.out.rows.ownLt k hk);have gV:=h3.out.at_;have hrow3:=Hd (h3.out.rows.below ZC ((Below.refl w3.heap.size w3).drew));have dP:w3.drew.heap[f]? = some (.cells #[.int .i64 (n:Int),v] 194 (0,0)):=gV;have k1:w3.drew.cell? ⟨f,1,none⟩=some v:=by rw[Za dP];rfl
 have hgf:w2.heap.size≠f:=by have:=hw2.out;omega
 have hgv:v.ownBlock≠some w2.heap.size:=λe=>by have:=(hown.out _ e).2;have:=hw2.out;omega
 have AU:v.ownBlock≠some f:=h.out.nv;have hS3:Hid (w3.drew.heap[w2.heap.size]? = some (.cells D 47 (0,0))):=Hd Sy.out;have iW:∀ W:World,W.heap[w2.heap.size]? = some (.cells D 47 (0,0))->W.heap[w2.heap.size]? = some (.cells D 47 (0,0)):=λ_ h=>h;have huA:=Tryz.underlying47;have gy:=gU;have Sz:base<=w3.drew.heap.size:=by show base<=w3.heap.size;have:=hw2.out;have:=hw3.out;omega
 have Aa:Hid (Below w.heap.size w w3.drew):=Hd uJ.out.drew;clear uJ;have kV:=Hd (show ∀ k:Nat,(λ_:Nat=>False) k->(λ_:Nat=>False) k from λ_ h=>h);have qH:=Tryz.underlying93;have gH:=Hd (show (Tryz.prog.info? 47).map (λi=>(i.zero.map (·.cells.size),i.size,i.bytes))=some (some 32,32,32) by kernel_rfl);replace dP:=Hd dP;replace hw3:Hid (w2.heap.size<w3.drew.heap.size):=Hd hw3.out;clear hc0 hc1 gV;have hsl:=Hd (λW=>Vp D hDL W);have hraw:=True.intro;refine wp_region_held_drew (S:=(λW:World=>W.heap[w2.heap.size]? = some (.cells D 47 (0,0)))) kX hS3.out (λaD=>?_);generalize World.drew w3=wd at*;refine tk 0 aD ?_;refine tk 1 aD ?_;refine tk 2 aD ?_;refine tk 3 aD ?_;refine tk 5 aD ?_ (v:=Value.agg _) (hy:=Or.inl ⟨by rfl,λW hSW=>Z6 _ _ rfl _ _ _ rfl (iW W hSW) huA rfl gy⟩);refine fZ [4,6] ?_;refine ac (λKz aF=>?_) ?_;go_simp;focus (try go_wp2_with fail)
 refine aF.out _ _ qD ?_;clear aF Kz aD;intro aD;try simp only[Act.put,sL,sZ,sS]
 refine rd 6 (λKz aF=>?_);rw[if_pos bT]
 (refine ZZ 93 1 (.tmp 55) rfl (.agg D) rfl _ _ (hsl.out _) ?_)
 (with_reducible refine Zp (t:=47) ?_)
 intro w5 hx5 hnew;have hS:=(hnew.block _ (Zb aD)).trans aD;have jM:=Hd ((hnew.block f (Zb dP.out)).trans dP.out);have hb5:=Hd hnew;have bY:=Hd (hrow3.out.below ZC hb5.out);have mq:w5.cell? ⟨f,1,none⟩=some v:=(by rw[Za jM.out];rfl);have gT:base<=w5.heap.size:=Nat.le_trans Sz hb5.out.size;refine aF.out _ _ hS ?_;clear aF Kz aD hS;intro aD;try clear hnew
 try simp only[Act.put]
 refine rd 7 (λKz aF=>?_);rw[if_pos bT]
 (refine Yd ZC (.tmp 54) (.tmp 56) 93 rfl qH 32 gH.out dX rfl bY (Zr bs) _ D (Hd (ky.out _)) kV (Hd (λ_ _ h=>h)) (Hd (λ_ h=>h.elim)) rfl hx5 hp dX gT ?_)
 intro v6 w6 gL eT Ab;have hS:=eT.out.heap aD hgv;have fK:=Hd (eT.out.heap jM.out AU);have xE:w6.frozen? ⟨f,1,none⟩=false:=Zg fK.out _;have mq:w6.cell? ⟨f,1,none⟩=some v:=(by rw[Za fK.out];rfl);obtain⟨a6,n6,c6,hv6⟩:∃ a n c,v6=.slice a n c:=(by obtain⟨a,c,e,_⟩:=gL.out.form;exact⟨a,_,c,e⟩);subst hv6;refine aF.out _ _ hS ?_;clear aF Kz aD hS;intro aD;try simp only[Act.put]
 refine tk 8 aD ?_;refine tk 9 aD ?_;refine rd 10 (λKz aF=>?_);have aZ:=((ag.refl fK.out).setCell (j:=1) (.slice a6 n6 c6));go_simp
 (with_reducible refine Q0 ?_)
 intro w7 hw7;rw[<-hw7] at aZ;clear hw7;have hS:=(aZ.block _ hgf).trans aD;replace aZ:=Hd aZ;refine aF.out _ _ hS ?_;clear aF Kz aD hS;intro aD;try simp only[Act.put]
 refine bz ?_;rotate_left;refine ac (λKz aF=>?_) AllReadyH.nil;rw[if_pos bT]
 (refine ZZ 93 1 (.tmp 55) rfl (.agg D) rfl _ _ (hsl.out _) ?_)
 (with_reducible refine Zp (t:=47) ?_)
 intro w5 hx5 hnew;have hS:=(hnew.block _ (Zb aD)).trans aD;have jM:=Hd ((hnew.block f (Zb dP.out)).trans dP.out);have hb5:=Hd hnew;have bY:=Hd (hrow3.out.below ZC hb5.out);have mq:w5.cell? ⟨f,1,none⟩=some v:=(by rw[Za jM.out];rfl);have gT:base<=w5.heap.size:=Nat.le_trans Sz hb5.out.size;refine aF.out _ _ hS ?_;clear aF Kz aD hS;intro aD;try clear hnew
 try simp only[Act.put]
 refine rd 4 (λKz aF=>?_);go_simp;focus (try go_wp2_with fail)
 refine aF.out _ _ qD ?_;clear aF Kz aD;intro aD;try simp only[Act.put,sL,sZ,sS]
 refine rd 7 (λKz aF=>?_);rw[if_pos bT]
 (refine Yd ZC (.tmp 54) (.tmp 56) 93 rfl qH 32 gH.out dX rfl bY (Zr bs) _ D (Hd (ky.out _)) kV (Hd (λ_ _ h=>h)) (Hd (λ_ h=>h.elim)) rfl hx5 hp dX gT ?_)
 intro v6 w6 gL eT Ab;have hS:=eT.out.heap aD hgv;have fK:=Hd (eT.out.heap jM.out AU);have xE:w6.frozen? ⟨f,1,none⟩=false:=Zg fK.out _;have mq:w6.cell? ⟨f,1,none⟩=some v:=(by rw[Za fK.out];rfl);obtain⟨a6,n6,c6,hv6⟩:∃ a n c,v6=.slice a n c:=(by obtain⟨a,c,e,_⟩:=gL.out.form;exact⟨a,_,c,e⟩);subst hv6;refine aF.out _ _ hS ?_;clear aF Kz aD hS;intro aD;try simp only[Act.put]
 refine tk 8 aD ?_;refine tk 9 aD ?_;refine rd 10 (λKz aF=>?_);have aZ:=((ag.refl fK.out).setCell (j:=1) (.slice a6 n6 c6));go_simp
 (with_reducible refine Q0 ?_)
 intro w7 hw7;rw[<-hw7] at aZ;clear hw7;have hS:=(aZ.block _ hgf).trans aD;replace aZ:=Hd aZ;refine aF.out _ _ hS ?_;clear aF Kz aD hS;intro aD;try simp only[Act.put]
 refine bz ?_;all_goals
  have g0:w7.cell? ⟨f,0,none⟩=some (.int .i64 nn):=by rw[Za aZ.out.here,<-hnn.out];rfl
  have gf:=Zg aZ.out.here 0;have hU8:=Hd (aZ.out.setCell (j:=0) (.int .i64 (nn+1)));go_wp2_with fail;go_ret;have dS:Only (lH f v) w w5:=Only.ofBelow (Aa.out.trans (hb5.out.mono Aa.out.size));have sN:=Only.ofUpd (D:=λk=>k=f) hU8.out rfl;have h6s:=eT.out.size;have hmv:∀ k,(Value.slice a6 n6 c6).ownBlock=some k->v.ownBlock=some k\/w.heap.size<=k:=λk hk=>by
   rcases Ab.out k hk with q|q
   ·exact .inl q
   ·right;have:=hb5.out.size;have:=Aa.out.size;omega
  have uK:=hU8.out.here;have hcs:((#[.int .i64 (n:Int),v]:Array Value).setIfInBounds 1 (.slice a6 n6 c6)).setIfInBounds 0 (.int .i64 (nn+1))=#[.int .i64 ((n+1:Nat):Int),.slice a6 n6 c6]:=by rw[<-hnn.out];rfl
  rw[hcs] at uK;refine hfin.out _ _ ⟨uK,gL.out.only ZC sN (λk hk=>hk.elim) (λk hk e=>?_),λe=>?_,h.out.ge⟩ ?_ (λk hk=>(hmv k hk).imp .inr id)
  ·rcases hmv k hk with q|q
   ·exact AU (e▸q)
   ·omega
  ·rcases hmv f e with q|q
   ·exact AU q
   ·omega
  ·exact(dS.trans eT.out (λk _ hk=>.inr hk)).trans sN (λk _ hk=>.inl hk)
theorem EA(bs:List UInt8)(k:Nat)(h:k<bs.length):bs.drop k=bs.getD k 0::bs.drop (k+1):=by
 rw[List.drop_eq_getElem_cons h];congr 1;simp[List.getD_eq_getElem?_getD,h]
theorem aJ.tail4{w:World}{b o c:Nat}{bs:List UInt8}(h:aJ w (some ⟨b,o,none⟩) c bs)(hl:bs.length=8):aJ w (some ⟨b,o+4,none⟩) (c-4) (bs.drop 4):=by
 refine⟨by rw[List.length_drop];have:=h.len;omega,by have:=h.most;omega,(λe=>by cases e),λi hi=>?_⟩
 rw[List.length_drop] at hi;obtain⟨b',o',e,hc⟩:=h.row (4+i) aB;cases e;refine⟨_,_,rfl,?_⟩;rw[show o+4+i=o+(4+i) from by omega,hc];congr 2;simp[List.getD_eq_getElem?_getD,List.getElem?_drop]
theorem LT(n:Int)(w:World)(h1 : -9223372036854775808<=n)(h2:n<=9223372036854775807):Calls Tryz.prog 144 #[.int .i64 n] w λe w'=>∃ a c,e=.returned (.slice a 4 c)/\aJ w' a c ((Zh n).drop 4)/\Below w.heap.size w w':=by
 have hln:=Hd (QR n w h1 h2);go_enter Tryz.func144,Tryz.ntmps144;go_wp2_with fail;with_reducible refine hln.out.mono ?_
 rintro e w1 ⟨v,rfl,ho,hb⟩;obtain⟨g,c,e3,_⟩:=ho.form (by rw[Zk];omega);subst e3;obtain⟨a4,c4,e4,h3,_⟩:=ho.arg;cases e4;rw[Zk];have hc8:8<=c:=by have:=h3.len;rw[Zk] at this;exact this
 have ht:=Hd (h3.tail4 (Zk n));replace hb:=Hd hb;clear ho h3 hln;go_wp2_with fail;go_ret;exact⟨_,_,rfl,ht.out,hb.out⟩
section
variable (s n k d t r:Int) (F:ByteArray) (V:Int) (i:Nat) (ea:Nat->Addr) (w:World)
def b8(z:Int):UInt8:=UInt8.ofNat (z % 256).toNat
theorem Q9(z:Int)(h:0<=z/\z<=255):((b8 z).toNat:Int)=z:=by unfold b8;simp;omega
theorem VG(z:Int):((b8 z).toNat:Int)=z % 256:=by unfold b8;simp;omega
theorem Wy(w:World)(t:TypeId)(bs:List UInt8)(cs:Array Value)(h:cs=(cB bs).toArray)(hl:bs.length<=1000000):aJ (w.alloc (.cells cs t)) (some ⟨w.heap.size,0,none⟩) bs.length bs:=by
 subst h;refine⟨Nat.le_refl _,kS,(λe=>by cases e),λi hi=>⟨_,_,rfl,?_⟩⟩;rw[Za (heap_alloc_new w _)];simp[cB,hi]
def ZL:List UInt8:=[b8 (s / 256),b8 s,b8 n,b8 k,b8 (d / 256),b8 d,b8 (t / 256),b8 t,b8 r]
theorem Rh(h:K4 s n k d t r):(#[.int .u8 (s / 256),.int .u8 (s % 256),.int .u8 n,.int .u8 k,.int .u8 (d / 256),.int .u8 (d % 256),.int .u8 (t / 256),.int .u8 (t % 256),.int .u8 r]:Array Value)=(cB (ZL s n k d t r)).toArray:=by
 obtain⟨hs,hn,hk,hd,ht,hr⟩:=h;simp only[cB,ZL,List.map];rw[Q9 (s / 256) aB,VG s,Q9 n aB,Q9 k aB,Q9 (d / 256) aB,VG d,Q9 (t / 256) aB,VG t,Q9 r aB]
theorem BX(h:K4 s n k d t r)(z:Nat->Addr)(hE:bG w z) :
  Calls Tryz.prog 143 #[.agg #[.int .i64 s,.int .i64 n,.int .i64 k,.int .i64 d,.int .i64 t,.int .i64 r]] w λe w'=>∃ b,e=.returned (.tuple #[.slice (some ⟨b,0,none⟩) 9 9,.nilIface])/\aJ w' (some ⟨b,0,none⟩) 9 (ZL s n k d t r)/\Below w.heap.size w w':=by
 obtain⟨hs,hn,hk,hd,ht,hr⟩:=id h;have hb1:=Hd ((Below.refl w.heap.size w).alloc nZ (.cells #[.int .i64 s,.int .i64 n,.int .i64 k,.int .i64 d,.int .i64 t,.int .i64 r] 45));have hp:=Hd (heap_alloc_new w (.cells #[.int .i64 s,.int .i64 n,.int .i64 k,.int .i64 d,.int .i64 t,.int .i64 r] 45));have hcall:=Hd (M1 s n k d t r h z _ (hE.below hb1.out));clear h;go_enter Tryz.func143,Tryz.ntmps143;go_wp2_with (refine Ze rfl 45 (.tmp 1) rfl w.heap.size #[.int .i64 s,.int .i64 n,.int .i64 k,.int .i64 d,.int .i64 t,.int .i64 r] _ rfl hp Tryz.underlying45 rfl kX ?_);with_reducible refine hcall.out.mono ?_
 rintro e w1 ⟨rfl,hb2⟩;replace hp:=Hd ((hb2.block _ sX).trans hp.out);replace hb1:=Hd (hb1.out.trans (hb2.mono hb1.out.size));obtain⟨c0,c1,c2,c3,c4,c5⟩:=Ka hp.out;clear hb2 hcall;go_wp2_with fail;go_ret2;exact⟨_,rfl,Wy w1 _ (ZL s n k d t r) _ (Rh s n k d t r ⟨hs,hn,hk,hd,ht,hr⟩) (by simp[ZL]),hb1.out.alloc hb1.out.size _⟩
end
theorem Qm{w:World}{b:Nat}{C:Array Value}{t:TypeId}{fz:Nat×Nat}(hb:w.heap[b]? = some (.cells C t fz)){o n:Nat}{B:List Value}(h:(C.toList.drop o).take n=B):w.rangeAt b o B:=λj v hv=>by
 rw[Za hb];rw[<-h,List.getElem?_take] at hv;split at hv
 ·rw[List.getElem?_drop,Array.getElem?_toList] at hv;exact hv
 ·cases hv
abbrev yZ (w:World):Prop:=∃ a,w.cell? ⟨11,0,none⟩=some (.iface 298 (.pointer (some a)))
def NN(w:World)(x:Ending)(w':World):Prop:=(∃ u,x=.returned (.iface 298 (.pointer (some u)))/\(w'.cell? ⟨7,0,none⟩=some (.iface 298 (.pointer (some u)))\/w'.cell? ⟨11,0,none⟩=some (.iface 298 (.pointer (some u)))))/\Below w.heap.size w w'
theorem TR{base:Nat}{w:World}{J B mb mn:Nat}{v rv:Value}{F:Nat->Prop}{p:DP}{recs:List (List UInt8)}{sure:Nat}(h:JD base w J B mb mn v rv F p recs sure false)(n:Nat)(hpn:p.n=(n:Int))(hn:n<=1000)(uG:Zn recs<=64*n)(hfu:yZ w)(a:Option Addr)(m c:Nat)(h1:1<=m)(h4:m<=400)(hm:Je n (Zn recs)<m) :
  Calls Tryz.prog 145 #[.pointer (some ⟨J,0,none⟩),.slice a m c] w (NN w):=by
 have uF:=h.jm.cell36;obtain⟨ef,hef⟩:=hfu;have hrm:=Te h n hpn hn uG;have hsd:=λW=>VK (m:Int) W;rw[show decide (1<=(m:Int)/\(m:Int)<=400)=true by simp;omega] at hsd;replace hsd:=Hd hsd;generalize Je n (Zn recs)=R at*;have hlt:(R:Int)<(m:Int):=aB;replace hrm:=Hd hrm;clear h hm;go_enter Tryz.func145,Tryz.ntmps145;go_wp2_with fail;with_reducible refine(hsd.out _).mono ?_
 rintro x w0 ⟨rfl,hq⟩;obtain rfl:=hq;clear hsd;go_wp2_with fail;with_reducible refine hrm.out.mono ?_
 rintro x w1 ⟨rfl,nd,rfl⟩;clear hrm;have hef1:(w.drewN nd).cell? ⟨11,0,none⟩=some (.iface 298 (.pointer (some ef))):=by rw[World.cell?_drewN];exact hef
 have hef2:=Hd hef1;go_wp2_with fail;go_ret;exact⟨⟨_,rfl,.inr hef2.out⟩,eP.below ⟨nd,rfl⟩ _⟩
theorem Ea(w:World)(J:Nat)(a:Option Addr)(m c:Nat)(h:Calls Tryz.prog 145 #[.pointer (some ⟨J,0,none⟩),.slice a m c] w (NN w)) :
  Calls Tryz.prog 121 #[.pointer (some ⟨J,0,none⟩),.slice a m c] w (NN w):=by
 replace h:=Hd h;go_enter Tryz.func121,Tryz.ntmps121;go_wp2_with fail;with_reducible refine h.out.mono ?_
 clear h;rintro x w1 ⟨⟨u,rfl,hu⟩,hb⟩;replace hb:=Hd hb;replace hu:=Hd hu;go_wp2_with fail;go_ret;exact⟨⟨_,rfl,hu.out⟩,hb.out⟩
def uL(x:Ending)(w':World):Prop:=∃ u,x=.returned (.iface 298 (.pointer (some u)))/\(w'.cell? ⟨7,0,none⟩=some (.iface 298 (.pointer (some u)))\/w'.cell? ⟨11,0,none⟩=some (.iface 298 (.pointer (some u))))
def Qv(bs:List UInt8)(sh:Bool)(n:Nat):List UInt8:=if sh=true\/bs.length<n then List.replicate n 0 else bs.take n
def YU(bs:List UInt8)(sh:Bool)(n:Nat):List UInt8:=if sh=true\/bs.length<n then bs else bs.drop n
def YV(bs:List UInt8)(sh:Bool)(n:Nat):Bool:=if sh=true\/bs.length<n then true else false
theorem YG(bs:List UInt8)(sh:Bool)(n:Nat):(Qv bs sh n).length=n:=by
 unfold Qv;split
 ·simp
 ·next h=>rw[List.length_take];omega
theorem DT(bs:List UInt8)(sh:Bool)(n:Nat):(YU bs sh n).length<=bs.length:=by
 unfold YU;split
 ·exact Nat.le_refl _
 ·rw[List.length_drop];omega
def bD(w:World)(q B:Nat)(bs:List UInt8)(sh:Bool):Prop:=
 ∃ a c,w.heap[q]? = some (.cells #[.slice a bs.length c,.bool sh] 140 (0,0))/\aJ w a c bs/\∀ ad,a=some ad->∃ b o,ad=⟨b,o,none⟩/\b≠q/\b<B
theorem PJ{a:Option Addr}{q B b o:Nat}(h:∀ ad,a=some ad->∃ b o,ad=⟨b,o,none⟩/\b≠q/\b<B)(e:a=some ⟨b,o,none⟩):b≠q:=by
 obtain⟨b',o',e',hn⟩:=h _ e;cases e';exact hn.1
theorem bD.only{w w':World}{q B:Nat}{bs:List UInt8}{sh:Bool}{D:Nat->Prop}(h:bD w q B bs sh)(hO:Only D w w')(hq:¬D q)(hD:∀ k,D k->B<=k):bD w' q B bs sh:=by
 obtain⟨a,c,h1,h2,h3⟩:=h;refine⟨a,c,hO.heap h1 hq,hO.argB h2 (λb o e hk=>?_),h3⟩;obtain⟨b',o',e',_,hn⟩:=h3 _ e;cases e';have:=hD b hk;omega
def Jt(w:World)(q B:Nat)(bs:List UInt8)(sh:Bool)(n:Nat)(e:Ending)(w':World):Prop:=
 ∃ a c,e=.returned (.slice a n c)/\aJ w' a c (Qv bs sh n)/\(∀ ad,a=some ad->∃ b o,ad=⟨b,o,none⟩/\b≠q)/\bD w' q B (YU bs sh n) (YV bs sh n)/\Only (λk=>k=q) w w'
theorem DR{w:World}{b o c n:Nat}{bs:List UInt8}(h:aJ w (some ⟨b,o,none⟩) c bs)(hn:n<=bs.length):aJ w (some ⟨b,o,none⟩) c (bs.take n)/\aJ w (some ⟨b,o+n,none⟩) (c-n) (bs.drop n):=by
 have hl:=h.len;have hm:=h.most;refine⟨⟨by rw[List.length_take];omega,hm,(λe=>by cases e),λi hi=>?_⟩,⟨by rw[List.length_drop];omega,aB,(λe=>by cases e),λi hi=>?_⟩⟩
 ·rw[List.length_take] at hi;obtain⟨b',o',e,hc⟩:=h.row i aB;cases e;refine⟨_,_,rfl,?_⟩;rw[hc];congr 2;simp[List.getD_eq_getElem?_getD,show i<n by omega]
 ·rw[List.length_drop] at hi;obtain⟨b',o',e,hc⟩:=h.row (n+i) aB;cases e;refine⟨_,_,rfl,?_⟩;rw[show o+n+i=o+(n+i) from by omega,hc];congr 2;simp[List.getD_eq_getElem?_getD,List.getElem?_drop]
theorem U8{w:World}{a:Option Addr}{c:Nat}(hm:c<=maxLen)(hn:a=none->c=0):aJ w a c []:=⟨Nat.zero_le _,hm,hn,λ_ hi=>absurd hi (Nat.not_lt_zero _)⟩
theorem Wo(q B:Nat)(bs:List UInt8)(sh:Bool)(n:Nat)(w:World)(h:bD w q B bs sh)(hn:n<=1000)(hs:sh=true\/bs.length<n):Calls Tryz.prog 103 #[.pointer (some ⟨q,0,none⟩),.int .i64 (n:Int)] w (Jt w q B bs sh n):=by
 obtain⟨i0,hi,hz0,hz1,hz2⟩:=info_parts Tryz.infoByteP;obtain⟨a,c,hq,ha,hne⟩:=h;have eO:Qv bs sh n=List.replicate n 0:=by unfold Qv;rw[if_pos hs]
 have eB:YU bs sh n=bs:=by unfold YU;rw[if_pos hs]
 have eS:YV bs sh n=true:=by unfold YV;rw[if_pos hs]
 have c0:=Za hq 0;have c1:=Za hq 1;have f1:=Zg hq 1;have hlt:=Zb hq;obtain⟨w2,hw2⟩:∃ w2,w2=w.setCell ⟨q,1,none⟩ (.bool true):=⟨_,rfl⟩;have hU:=(ag.refl hq).setCell (j:=1) (.bool true);rw[<-hw2] at hU;replace hw2:=Hd hw2;obtain⟨L,hL⟩:=aA bs.length;rw[<-hL] at c0 hs;replace hL:=Hd hL;replace hU:=Hd hU;replace ha:=Hd ha;replace hne:=Hd hne;replace hq:=Hd hq;have hfin:∀ w4,Only (λk=>k=q) w w4->w4.heap[q]? = some (.cells #[.slice a bs.length c,.bool true] 140 (0,0))->bD w4 q B bs true:=λw4 hO h4=>⟨a,c,h4,hO.argB ha.out (λb o e=>PJ hne.out e),hne.out⟩;replace hfin:=Hd hfin;have hpost:∀ w4,aN w.heap.size w4 (.slice (some ⟨w2.heap.size,0,none⟩) n n) (List.replicate n 0)->Only (λk=>k=q) w w4->w4.heap[q]? = some (.cells #[.slice a bs.length c,.bool true] 140 (0,0))->Jt w q B bs sh n (.returned (.slice (some ⟨w2.heap.size,0,none⟩) n n)) w4:=λw4 h1 h2 h3=>by
  obtain⟨a4,c4,e4,h4,_⟩:=h1.arg;rw[List.length_replicate] at e4;cases e4;refine⟨_,_,rfl,by rw[eO];exact h4,λad e=>?_,by rw[eB,eS];exact hfin.out w4 h2 h3,h2⟩;cases e;refine⟨_,_,rfl,?_⟩;have:=hU.out.size;omega
 replace hpost:=Hd hpost;clear eO eB eS;by_cases hsh:sh=true
 ·subst hsh;clear hs;go_enter Tryz.func103,Tryz.ntmps103;go_wp2_with (at_make;rw[<-hw2.out];go_must (refine wpList_make_full _ rfl _ _ 24 rfl w.heap.size 5 i0 (.int .u8 0) 1 Tryz.underlying24 hi hz0 hz1 _ _ _ _ n rfl rfl aB aB (by rw[hz2];omega) kS (by have:=hU.out.size;omega) ?_));intro w4 jY hg4;have hO4:=aN.made jY;rw[UM] at hO4;have h4:=(hg4.block q (by have:=hU.out.size;omega) sX).trans hU.out.here;have aD:Only (λk=>k=q) w w4:=(Only.ofUpd (D:=λk=>k=q) hU.out rfl).trans (Only.ofGrown (D:=λ_=>False) hg4 (λk e=>by cases e)) (λ_ _ e=>e.elim);replace hO4:=Hd hO4;replace h4:=Hd h4;replace aD:=Hd aD;clear jY hg4;go_wp2_with fail;go_ret;exact hpost.out w4 hO4.out aD.out h4.out
 ·have Ac:sh=false:=by simpa using hsh
  subst Ac;have hln:L<n:=hs.resolve_left sX;have hlt2:(L:Int)<(n:Int):=aB;clear hs hsh hln;go_enter Tryz.func103,Tryz.ntmps103;go_wp2_with (at_make;rw[<-hw2.out];go_must (refine wpList_make_full _ rfl _ _ 24 rfl w.heap.size 5 i0 (.int .u8 0) 1 Tryz.underlying24 hi hz0 hz1 _ _ _ _ n rfl rfl aB aB (by rw[hz2];omega) kS (by have:=hU.out.size;omega) ?_));intro w4 jY hg4;have hO4:=aN.made jY;rw[UM] at hO4;have h4:=(hg4.block q (by have:=hU.out.size;omega) sX).trans hU.out.here;have aD:Only (λk=>k=q) w w4:=(Only.ofUpd (D:=λk=>k=q) hU.out rfl).trans (Only.ofGrown (D:=λ_=>False) hg4 (λk e=>by cases e)) (λ_ _ e=>e.elim);replace hO4:=Hd hO4;replace h4:=Hd h4;replace aD:=Hd aD;clear jY hg4;go_wp2_with fail;go_ret;exact hpost.out w4 hO4.out aD.out h4.out
theorem L4(q B:Nat)(bs:List UInt8)(n:Nat)(w:World)(h:bD w q B bs false)(hn:n<=bs.length)(hm:bs.length<=1000000):Calls Tryz.prog 103 #[.pointer (some ⟨q,0,none⟩),.int .i64 (n:Int)] w (Jt w q B bs false n):=by
 obtain⟨a,c,hq,ha,hne⟩:=h;have hs:¬(false=true\/bs.length<n):=bf;have eO:Qv bs false n=bs.take n:=by unfold Qv;rw[if_neg hs]
 have eB:YU bs false n=bs.drop n:=by unfold YU;rw[if_neg hs]
 have eS:YV bs false n=false:=by unfold YV;rw[if_neg hs]
 have c0:=Za hq 0;have c1:=Za hq 1;have f0:=Zg hq 0;have hlt:=Zb hq;have hlen:=ha.len;have OX:=ha.most;have hU:∀ v,ag q (.cells #[v,.bool false] 140 (0,0)) w (w.setCell ⟨q,0,none⟩ v):=λv=>(ag.refl hq).setCell (j:=0) v;have hfin:∀ a2 c2,aJ w a2 c2 (bs.drop n)->(∀ ad,a2=some ad->∃ b o,ad=⟨b,o,none⟩/\b≠q/\b<B)->aJ w a c (bs.take n)->Jt w q B bs false n (.returned (.slice a n c)) (w.setCell ⟨q,0,none⟩ (.slice a2 (bs.length-n) c2)):=λa2 c2 h1 h2 h3=>by
  have hO:Only (λk=>k=q) w (w.setCell ⟨q,0,none⟩ (.slice a2 (bs.length-n) c2)):=Only.ofUpd (hU _) rfl;refine⟨a,c,rfl,by rw[eO];exact hO.argB h3 (λb o e=>PJ hne e),(λad e=>by obtain⟨b,o,h4,h5,_⟩:=hne ad e;exact⟨b,o,h4,h5⟩),?_,hO⟩;rw[eB,eS];refine⟨a2,c2,?_,hO.argB h1 (λb o e=>PJ h2 e),h2⟩;rw[List.length_drop];exact(hU _).here
 obtain⟨L,hL⟩:=aA bs.length;rw[<-hL] at c0 hfin hlen hn hm;have hnl:¬(L:Int)<(n:Int):=aB;have hn0:(0:Int)<=(n:Int):=aB;have hle:(n:Int)<=(L:Int):=aB;have hlc:(L:Int)<=(c:Int):=aB;have hnc:(n:Int)<=(c:Int):=aB;have hsub:((L:Int)-(n:Int)).toNat=L-n:=aB;have hsubc:((c:Int)-(n:Int)).toNat=c-n:=aB;replace hL:=Hd hL;replace hfin:=Hd hfin;replace hU:=Hd hU;clear eO eB eS hs hq;cases a with
 | none=>
  have hc0:=ha.nil rfl;subst hc0;obtain rfl:L=0:=aB;obtain rfl:n=0:=aB;have he:bs=[]:=List.length_eq_zero_iff.1 hL.out.symm;subst he;have hgo:=Hd (hfin.out none 0 (by exact U8 dX (λ_=>rfl)) (λad e=>by cases e) (by exact U8 dX (λ_=>rfl)));clear ha hne hfin hU;go_enter Tryz.func103,Tryz.ntmps103;go_wp2_with fail;go_ret;exact hgo.out
 | some ad=>
  obtain⟨b,o,rfl,hbq,sG⟩:=hne ad rfl;obtain⟨h1,h2⟩:=DR ha (n:=n) (by rw[<-hL.out];exact hn);by_cases hcc:n=c
  ·subst hcc;obtain rfl:L=n:=aB;have hgo:=Hd (λb2 o2 (h:b2≠q/\b2<B)=>hfin.out (some ⟨b2,o2,none⟩) 0 (by rw[show bs.drop L=[] from by rw[hL.out];exact List.drop_length];exact U8 dX (λe=>by cases e)) (λad e=>by cases e;exact⟨_,_,rfl,h.1,h.2⟩) h1);clear ha hne hfin hU h1 h2;go_enter Tryz.func103,Tryz.ntmps103;go_wp2_with fail;go_ret;have:=hgo.out b o ⟨hbq,sG⟩;simpa using this
  ·have hgo:=Hd (hfin.out (some ⟨b,o+n,none⟩) (c-n) h2 (λad e=>by cases e;exact⟨_,_,rfl,hbq,sG⟩) h1);have hlt2:n<c:=aB;have hcn:¬c=n:=aB;have hcb:¬c<=n:=aB;clear ha hne hfin hU h1 h2;go_enter Tryz.func103,Tryz.ntmps103;go_wp2_with fail;go_ret;exact hgo.out
theorem Gy(q B:Nat)(bs:List UInt8)(sh:Bool)(n:Nat)(w:World)(h:bD w q B bs sh)(hn:n<=1000)(hm:bs.length<=1000000):Calls Tryz.prog 103 #[.pointer (some ⟨q,0,none⟩),.int .i64 (n:Int)] w (Jt w q B bs sh n):=by
 by_cases hs:sh=true\/bs.length<n
 ·exact Wo q B bs sh n w h hn hs
 ·have Ac:sh=false:=by
   cases sh
   ·rfl
   ·exact absurd (Or.inl rfl) hs
  subst Ac;exact L4 q B bs n w h aB hm
theorem Fm{w:World}{a:Option Addr}{c:Nat}{bs:List UInt8}(h:aJ w a c bs)(n:Nat)(hn:bs.length=n):(convert 24 9 (.slice a n c)).run Tryz.prog w=.ok (.string ⟨bs.toArray⟩) w:=by
 subst hn;exact Cs bs Tryz.underlying24 Tryz.underlying5 Tryz.underlying9 h.row
def uM(base:Nat)(w:World)(v:Value)(bs:List UInt8):Prop:=
 ∃ g cap,v=.slice (some ⟨g,0,none⟩) bs.length cap/\base<=g/\g<w.heap.size/\bs.length<=cap/\cap<=maxLen/\(∀ i,i<bs.length->w.cell? ⟨g,i,none⟩=some (.int .u8 ((cf bs i).toNat:Int)))/\
  ∀ j,bs.length<=j->j<cap->(w.cell? ⟨g,j,none⟩).isSome=true/\w.frozen? ⟨g,j,none⟩=false
theorem uM.arg{base:Nat}{w:World}{v:Value}{bs:List UInt8}(h:uM base w v bs):∃ a c,v=.slice a bs.length c/\aJ w a c bs:=by
 obtain⟨g,cap,rfl,h1,h2,h3,h4,h5,h6⟩:=h;refine⟨_,cap,rfl,h3,h4,(λe=>by cases e),λi hi=>⟨g,0,rfl,?_⟩⟩;rw[Nat.zero_add];exact h5 i hi
theorem Ff(x y:UInt8):bits BinOp.or IntKind.i64 ((x.toNat:Int)*256) (y.toNat:Int)=(x.toNat:Int)*256+y.toNat:=by
 have hx:=x.toNat_lt;have hy:=y.toNat_lt;have e0:((x.toNat:Int)*256)=((256*x.toNat:Nat):Int):=aB;rw[e0];have e1:(BitVec.ofInt 64 ((256*x.toNat:Nat):Int)).toNat=256*x.toNat:=by rw[BitVec.ofInt_natCast,BitVec.toNat_ofNat];exact Nat.mod_eq_of_lt aB
 have e2:(BitVec.ofInt 64 (y.toNat:Int)).toNat=y.toNat:=by rw[BitVec.ofInt_natCast,BitVec.toNat_ofNat];exact Nat.mod_eq_of_lt aB
 have e3:256*x.toNat ||| y.toNat=256*x.toNat+y.toNat:=(Nat.two_pow_add_eq_or_of_lt (i:=8) aB x.toNat).symm;show IntKind.i64.wrap ((BitVec.ofInt 64 ((256*x.toNat:Nat):Int) ||| BitVec.ofInt 64 (y.toNat:Int)).toNat:Int)=_;rw[BitVec.toNat_or,e1,e2,e3,IntKind.wrap_i64];omega
theorem CQ(b off m c:Nat)(x y:UInt8)(w:World)(h0:w.cell? ⟨b,off,none⟩=some (.int .u8 (x.toNat:Int)))(h1:w.cell? ⟨b,off+1,none⟩=some (.int .u8 (y.toNat:Int)))(hm:2<=m) :
  Calls Tryz.prog 105 #[.slice (some ⟨b,off,none⟩) m c] w λe w'=>e=.returned (.int .i64 ((x.toNat:Int)*256+y.toNat))/\∃ n,w'=w.drewN n:=by
 have hx:=x.toNat_lt;have hy:=y.toNat_lt;have m0:(0:Int)<(m:Int):=aB;have m1:(1:Int)<(m:Int):=aB;go_enter Tryz.func105,Tryz.ntmps105;go_wp2_with fail;go_quiet (fail);go_wp2_with fail;go_ret;exact⟨by rw[Ff];rfl,_,rfl⟩
theorem Vv{P:Program}{fn:Func}{R:Ending->World->Prop}{p u:Tmp}{ty:TypeId}{tmps:Array Value}{W:World}{b:Nat}{c:Array Value}{y:Value}{d:TypeDesc}(h:fn.results=#[.cell p ty,.tmp u])
  (hp:tmps.getD p undef=.pointer (some ⟨b,0,none⟩)) (hy:tmps.getD u undef=y) (hu:P.underlying ty=some d) (hd:(match d with | .struct _ | .array _ _=>true|_=>false)=true) (hi:(P.info? ty).map (·.size)=some c.size) (hh:W.heap[b]? = some (.cells c ty (0,0))) (hR:R (.returned (.tuple #[.agg c,y])) W) :
  bodyPost P fn R .ret ⟨tmps,[]⟩ W:=by
 refine bodyPost_ret (v:=.tuple #[.agg c,y]) ?_ rfl hR;have hr:(results fn tmps).run P W=((asAddr (tmps.getD p undef)).run P W).andThen λa w₁=>((loadVar ty a).run P w₁).andThen λv w₂=>.ok (.tuple #[v,tmps.getD u undef]) w₂:=by
  simp only[results,h];simp[Sem.run_bind,Result.andThen]
 rw[hr,hp,hy];simp[asAddr,Result.andThen,run_loadVar_row W b ty ty c (0,0) d hh hu hd hi]
end Go.Proofs.YtpdhceiodgnbmaaGreatDoor
