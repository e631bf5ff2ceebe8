import Derived.Test.YtpdhceiodgnbmaaGreatDoorF29KeepsSaid
set_option linter.all false
set_option maxRecDepth 100000
set_option maxHeartbeats 8000000
namespace Go.Proofs.YtpdhceiodgnbmaaGreatDoor
open Go.RowKit Go.Shelf
def Jw(ov:Nat->Nat->List UInt8)(st:List Stp)(z:List UInt8)(ns:List Nat):List UInt8×List UInt8:=
 ns.foldl (λp k=>if (st.getD k ⟨false,0,0⟩).left=true then (Zo (ov (st.getD k ⟨false,0,0⟩).from_ (st.getD k ⟨false,0,0⟩).to) p.1,Zo (ov (st.getD k ⟨false,0,0⟩).from_ (st.getD k ⟨false,0,0⟩).to) p.2) else (p.1,Zo p.2 (ov (st.getD k ⟨false,0,0⟩).from_ (st.getD k ⟨false,0,0⟩).to))) (z,z)
theorem Mk(ov:Nat->Nat->List UInt8)(st:List Stp)(z:List UInt8)(ns:List Nat)(k:Nat):Jw ov st z (ns++[k])=if (st.getD k ⟨false,0,0⟩).left=true then (Zo (ov (st.getD k ⟨false,0,0⟩).from_ (st.getD k ⟨false,0,0⟩).to) (Jw ov st z ns).1,Zo (ov (st.getD k ⟨false,0,0⟩).from_ (st.getD k ⟨false,0,0⟩).to) (Jw ov st z ns).2) else ((Jw ov st z ns).1,Zo (Jw ov st z ns).2 (ov (st.getD k ⟨false,0,0⟩).from_ (st.getD k ⟨false,0,0⟩).to)):=by
 simp only[Jw,List.foldl_append,List.foldl_cons,List.foldl_nil]
theorem Me(ov:Nat->Nat->List UInt8)(st:List Stp)(z:List UInt8):∀ k,k<=st.length->Jw ov st z (ZV (JB st.length) k)=Ug Zo ov z (st.drop (st.length-k))
 | 0,_=>by rw[Nat.sub_zero,List.drop_length];rfl
 | k+1,h=>by
  have hlt:st.length-(k+1)<st.length:=aB;have hgd:st.getD (JB st.length k) ⟨false,0,0⟩=st[st.length-(k+1)]:=by
   unfold JB;rw[show st.length-1-k=st.length-(k+1) by omega,List.getD_eq_getElem?_getD,List.getElem?_eq_getElem hlt];rfl
  rw[YZ,Mk,Me ov st z k aB,hgd,List.drop_eq_getElem_cons hlt,show st.length-(k+1)+1=st.length-k by omega,Ug]
theorem Ck(ov:Nat->Nat->List UInt8)(st:List Stp)(z:List UInt8):Jw ov st z (ZV (JB st.length) st.length)=Ug Zo ov z st:=by
 have:=Me ov st z st.length nZ;rwa [Nat.sub_self,List.drop_zero] at this
theorem BZ{ov:Nat->Nat->List UInt8}{st:List Stp}{z:List UInt8}(hz:z.length=32)(ns:List Nat):(Jw ov st z ns).1.length=32/\(Jw ov st z ns).2.length=32:=by
 have:∀ (ns:List Nat) (p:List UInt8×List UInt8),p.1.length=32/\p.2.length=32->(ns.foldl (λp k=>if (st.getD k ⟨false,0,0⟩).left=true then (Zo (ov (st.getD k ⟨false,0,0⟩).from_ (st.getD k ⟨false,0,0⟩).to) p.1,Zo (ov (st.getD k ⟨false,0,0⟩).from_ (st.getD k ⟨false,0,0⟩).to) p.2) else (p.1,Zo p.2 (ov (st.getD k ⟨false,0,0⟩).from_ (st.getD k ⟨false,0,0⟩).to))) p).1.length=32/\(ns.foldl (λp k=>if (st.getD k ⟨false,0,0⟩).left=true then (Zo (ov (st.getD k ⟨false,0,0⟩).from_ (st.getD k ⟨false,0,0⟩).to) p.1,Zo (ov (st.getD k ⟨false,0,0⟩).from_ (st.getD k ⟨false,0,0⟩).to) p.2) else (p.1,Zo p.2 (ov (st.getD k ⟨false,0,0⟩).from_ (st.getD k ⟨false,0,0⟩).to))) p).2.length=32:=by
  intro ns;induction ns with
  | nil=>intro p hp;exact hp
  | cons k ns ih=>
   intro p hp;rw[List.foldl_cons];refine ih _ ?_;split
   ·exact⟨ZU _ _,ZU _ _⟩
   ·exact⟨hp.1,ZU _ _⟩
 exact this ns (z,z) ⟨hz,hz⟩
structure CkN (w:World) (B8 B9 gP A B:Nat):Prop where
 h6:w.heap.size<B8
 h8:B8<B9
 h9:B9<gP
 hA:gP<A
 hB:gP<B
 ne:A≠B
structure pY (w:World) (VO VN:Array Value) (B8 B9 gP A B BI:Nat) (pv sv:Value) (p:List UInt8×List UInt8) (W:World):Prop where
 old:W.heap[w.heap.size]? = some (.cells VO 47 (0,0))
 now:W.heap[B8]? = some (.cells VN 47 (0,0))
 pr:W.heap[B9]? = some (.cells #[pv] 93 (0,0))
 dn:W.heap[gP]? = some (.cells #[sv] 159 (0,0))
 a:W.heap[A]? = some (.cells (cB p.1).toArray 47 (0,0))
 b:W.heap[B]? = some (.cells (cB p.2).toArray 47 (0,0))
 it:Boxed W BI 159 sv
 bel:Below w.heap.size w W
section
variable {w:World} {VO VN:Array Value} {B8 B9 gP A B BI:Nat} {pv sv:Value} {p q:List UInt8×List UInt8} {W W' W1 W2:World}
theorem pY.below(h:pY w VO VN B8 B9 gP A B BI pv sv p W)(hb:Below W.heap.size W W'):pY w VO VN B8 B9 gP A B BI pv sv p W':=
 ⟨(hb.block _ (Zb h.old)).trans h.old,(hb.block _ (Zb h.now)).trans h.now,(hb.block _ (Zb h.pr)).trans h.pr,(hb.block _ (Zb h.dn)).trans h.dn,(hb.block _ (Zb h.a)).trans h.a,(hb.block _ (Zb h.b)).trans h.b,(hb.block _ h.it.lt).trans h.it,h.bel.trans (hb.mono h.bel.size)⟩
theorem pY.kept{row:Option Nat}{n:Nat}(h:pY w VO VN B8 B9 gP A B BI pv sv p W)(hn:w.heap.size<=n)(hg:W.grownBy W' row)(hr:∀ r,row=some r->n<=r/\∃ o:Obj,W.heap[r]? = some o/\o.isCells=false):pY w VO VN B8 B9 gP A B BI pv sv p W':=by
 have hr2:=λr e=>(hr r e).2;exact⟨Qf h.old rfl hg hr2,Qf h.now rfl hg hr2,Qf h.pr rfl hg hr2,Qf h.dn rfl hg hr2,Qf h.a rfl hg hr2,Qf h.b rfl hg hr2,Qf h.it rfl hg hr2,h.bel.grown hg h.bel.size (λk e=>Nat.le_trans hn (hr k e).1)⟩
theorem pY.setB(h:pY w VO VN B8 B9 gP A B BI pv sv p W)(hN:CkN w B8 B9 gP A B)(hBI:B<BI)(hq:q.1=p.1)(hU:ag B (.cells (cB q.2).toArray 47 (0,0)) W W1):pY w VO VN B8 B9 gP A B BI pv sv q W1:=by
 obtain⟨n6,n8,n9,nA,nB,ne⟩:=hN;exact⟨(hU.block _ aB).trans h.old,(hU.block _ aB).trans h.now,(hU.block _ aB).trans h.pr,(hU.block _ aB).trans h.dn,by rw[hq];exact(hU.block _ ne).trans h.a,hU.here,(hU.block _ aB).trans h.it,h.bel.trans (hU.below aB)⟩
theorem pY.setAB(h:pY w VO VN B8 B9 gP A B BI pv sv p W)(hN:CkN w B8 B9 gP A B)(hAI:A<BI)(hBI:B<BI)(hU:ag A (.cells (cB q.1).toArray 47 (0,0)) W W1)(gQ:ag B (.cells (cB q.2).toArray 47 (0,0)) W1 W2):pY w VO VN B8 B9 gP A B BI pv sv q W2:=by
 obtain⟨n6,n8,n9,nA,nB,ne⟩:=hN;refine⟨(gQ.block _ aB).trans ((hU.block _ aB).trans h.old),(gQ.block _ aB).trans ((hU.block _ aB).trans h.now),(gQ.block _ aB).trans ((hU.block _ aB).trans h.pr),(gQ.block _ aB).trans ((hU.block _ aB).trans h.dn),(gQ.block _ ne).trans hU.here,gQ.here,(gQ.block _ aB).trans ((hU.block _ aB).trans h.it),(h.bel.trans (hU.below aB)).trans (gQ.below aB)⟩
end
theorem Tx:∀ (f m n fr:Nat),(Zt f m n fr true).2.1=false->1<=(Zt f m n fr true).1.length
 | 0,_,_,_,h=>by cases h
 | f+1,m,n,fr,h=>by
  unfold Zt at h ⊢;split
  ·split<;>simp
  ·next hc=>rw[if_neg hc] at h;cases h
theorem dw.apart{n0 B9:Nat}{D:Nat->Prop}{w w6 w7:World}{a:Option Addr}{ws:List Stp}{o:Obj}(h:dw n0 w a ws)(hO:Only D w w6)(hU:ag B9 o w6 w7)(hge:∀ g,a=some ⟨g,0,none⟩->g≠B9)(hD:∀ g,a=some ⟨g,0,none⟩->g<n0->¬D g):dw n0 w7 a ws:=λi hi=>by
 obtain⟨g,e,hg,hr⟩:=h i hi;refine⟨g,e,hg,λj v hv=>?_⟩;have h1:=hr j v hv;have h2:=World.block_lt_of_cell? w _ h1;have e1:=(hU.block g (hge g e)).trans (hO.block g h2 (hD g e hg));exact(World.cell?_of_block (a:=⟨g,i*3+j,none⟩) e1).trans h1
attribute [local go_sem] Oper.semAt_some in
theorem Ld(L:List (List UInt8))(m:Nat)(h1:1<=m)(h2:m<=L.length)(hn:L.length<=256)(old now:List UInt8)(ho:old=QS (L.take m))(hw:now=QS L)(hol:old.length=32)(hnl:now.length=32)(a:Option Addr)(c:Nat)(w:World)(hA:aU cB 32 w a (Ys L m))(hc:(Ys L m).length<=c)(h32:∀ x∈Ys L m,x.length=32)(hK:bP w)(hF:bZ w) :
  Calls Tryz.prog 34 #[.int .i64 (m:Int),.agg (cB old).toArray,.int .i64 (L.length:Int),.agg (cB now).toArray,.slice a (Ys L m).length c] w λe w'=>e=.returned .nilIface/\Below w.heap.size w w':=by
 obtain⟨VO,qf⟩:∃ V,V=(cB old).toArray:=⟨_,rfl⟩;obtain⟨VN,FW⟩:∃ V,V=(cB now).toArray:=⟨_,rfl⟩;obtain⟨NP,hNP⟩:∃ NP,NP=(Ys L m).length:=⟨_,rfl⟩;obtain⟨w1,hw1⟩:∃ w1,w1=((w.alloc (.cells VO 47)).alloc (.cells VN 47)).alloc (.cells #[.slice a NP c] 93):=⟨_,rfl⟩;have hb1:Below w.heap.size w w1:=by rw[hw1];exact(((Below.refl _ w).alloc nZ _).alloc oU _).alloc oU _
 have hx6:w1.heap[w.heap.size]? = some (.cells VO 47 (0,0)):=by rw[hw1];exact(Below.heap_alloc _ _ _ oU).trans ((Below.heap_alloc _ _ _ oU).trans (heap_alloc_new w _))
 have yP:w1.heap[w.heap.size+1]? = some (.cells VN 47 (0,0)):=by
  have:=heap_alloc_new (w.alloc (.cells VO 47)) (.cells VN 47 (0,0));rw[World.size_alloc] at this;rw[hw1];exact(Below.heap_alloc _ _ _ oU).trans this
 have sU:w1.heap[w.heap.size+2]? = some (.cells #[.slice a NP c] 93 (0,0)):=by
  have:=heap_alloc_new ((w.alloc (.cells VO 47)).alloc (.cells VN 47)) (.cells #[.slice a NP c] 93 (0,0));rw[World.size_alloc,World.size_alloc] at this;rw[hw1];exact this
 have hcount:=Hd (L6 m L.length h1 h2 hn w1);have hsteps:=Hd (λW=>Kn m L.length h1 h2 hn W);have hpl:=WS L m;obtain⟨B8,yX⟩:∃ B,B=w.heap.size+1:=⟨_,rfl⟩;obtain⟨B9,hB9⟩:∃ B,B=B8+1:=⟨_,rfl⟩;rw[<-yX] at yP;rw[show w.heap.size+2=B9 by omega] at sU;rw[<-hpl,<-hNP] at hcount;rw[<-qf,<-FW,<-hNP];obtain⟨N,hN⟩:=aA L.length;rw[<-hN] at hcount hsteps ⊢;have k9:∀ W,Below w1.heap.size w1 W->W.cell? ⟨B9,0,none⟩=some (.slice a NP c):=λW hW=>by rw[Za ((hW.block _ (Zb sU)).trans sU)];rfl
 have n0:¬((NP:Int)<0):=aB;replace hb1:=Hd hb1;replace hx6:=Hd hx6;replace yP:=Hd yP;replace sU:=Hd sU;replace hw1:=Hd hw1;replace yX:=Hd yX;replace hB9:=Hd hB9;replace qf:=Hd qf;replace FW:=Hd FW;replace hNP:=Hd hNP;replace hN:=Hd hN;replace hA:=Hd hA;replace h32:=Hd h32;replace ho:=Hd ho;replace hw:=Hd hw;refine(callsIn_wide (n:=3)).1 ?_;refine callsIn_of_wp_marks Tryz.func34 rfl trivial ?_ rfl;refine wpIn_wide.2 ?_;refine Wr ?_;simp only[Tryz.ntmps34,List.size_toArray,List.length_cons,List.length_nil,Nat.reduceAdd,Nat.reduceSub,Array.replicate_succ,Array.replicate_zero,List.push_toArray,List.append_toArray,List.nil_append,List.cons_append];go_upto_region 1 with fail;rw[<-hw1.out,<-yX.out,<-hB9.out];go_wp2_with fail;with_reducible refine hcount.out.mono ?_
 clear hcount;rintro e w2 ⟨rfl,hb2⟩;have hk9:=k9 w2 hb2;replace hb2:=Hd hb2;go_wp2_with fail;with_reducible refine(hsteps.out _).mono ?_
 clear hsteps;rintro e w3 ⟨vS,rfl,nX,hb3⟩;obtain⟨aS,cS,rfl,A8,hcS,-,hoS⟩:=H2 nX;clear hk9;have hst:=JC N m N 0 true h1 (by rw[hN.out];exact h2) nZ;have hfr:=JN N m N 0 true;have uZ:Ys L m=(((Zt N m N 0 true).1.map (λs=>fI (bg L s.from_ s.to)))++(if (Zt N m N 0 true).2.1=true then [] else [fI (bg L (Zt N m N 0 true).2.2 m)])).reverse:=by rw[hN.out];rfl
 have qN:=Re L m h1 h2;rw[<-hN.out,<-ho.out,<-hw.out] at qN;have hsl0:=Tx N m N 0;have hsn0:=UG N m N 0 true nZ;generalize Zt N m N 0 true=r at*;have hsl1:r.2.1=false->1<=r.1.length:=hsl0;obtain⟨st,wh,fr⟩:=r;simp only at hst hfr uZ qN A8 hcS nX hsl1 hsn0 ⊢;obtain⟨SL,FX⟩:=aA st.length;rw[<-FX] at hcS hsl1 ⊢;clear hsl0;replace hsl1:=Hd hsl1;have hsn:Hid (SL<=N/\N<=256):=Hd ⟨by rw[FX];exact hsn0,by rw[hN.out];exact hn⟩;obtain⟨w4,hw4⟩:∃ w4,w4=w3.alloc (.cells #[.slice aS SL cS] 159):=⟨_,rfl⟩;have hG4:Below w3.heap.size w3 w4:=by rw[hw4];exact bR.alloc nZ _
 have fC:w4.heap[w3.heap.size]? = some (.cells #[.slice aS SL cS] 159 (0,0)):=by rw[hw4];exact heap_alloc_new w3 _
 have xg:Below w1.heap.size w1 w3:=hb2.out.trans (hb3.mono hb2.out.size);have pg:Below w1.heap.size w1 w4:=xg.trans (hG4.mono xg.size);have hs13:=xg.size;have hl9:=Zb sU.out;have hl8:=Zb yP.out;have ug:=Hd ((pg.block _ (Zb hx6.out)).trans hx6.out);have FY:=Hd ((pg.block _ hl8).trans yP.out);have FZ:=Hd ((pg.block _ hl9).trans sU.out);have xS:dw w3.heap.size w4 aS st:=λk hk=>by
  obtain⟨b,o,e,hr⟩:=A8 k hk;obtain⟨rfl,-,hg1,hg2⟩:=hoS b o none e;rw[Nat.zero_add] at hr;have OG:st.getD k ⟨false,0,0⟩=st[k]:=by rw[List.getD_eq_getElem?_getD,List.getElem?_eq_getElem hk];rfl
  rw[OG];exact⟨b,e,hg2,YM (by simpa[JS] using hr) hG4 hg2⟩
 have uh:Below w.heap.size w w4:=hb1.out.trans (pg.mono hb1.out.size);obtain⟨gP,rQ⟩:∃ B,B=w3.heap.size:=⟨_,rfl⟩;rw[<-rQ] at fC xS;have hs4:w4.heap.size=gP+1:=by rw[hw4,rQ];simp
 have FV:B9<gP:=by rw[rQ];omega
 have hlt8:B8<B9:=by have:=hB9.out;omega
 have jU:w.heap.size<B8:=by have:=yX.out;omega
 have hdr:Hid (Below w4.heap.size w4 w4.drew):=Hd ((Below.refl _ w4).drew);have IA:VO.size=32:=by rw[qf.out,List.size_toArray,Zc,hol]
 have lF:(Tryz.prog.info? 47).map (·.size)=some VO.size:=by rw[IA];kernel_rfl
 have xh:aG.size=VO.size:=by rw[Z3,IA]
 have xk:VO.all (·.oneCell')=true:=by rw[qf.out];exact ZE (Zw _)
 have zr:=Qe;have zn:=ZH;have iW:∀ W,Below w4.heap.size w4 W->W.heap[w.heap.size]? = some (.cells VO 47 (0,0)):=λW hW=>(hW.block _ (Zb ug.out)).trans ug.out;have huA:=Tryz.underlying47;have gy:=lF;have IB:∀ g,aS=some ⟨g,0,none⟩->g≠B9:=λg e hq=>by
  obtain⟨-,-,hg1,-⟩:=hoS g 0 none e;have:=hb2.out.size;omega
 replace IB:=Hd IB;replace FX:=Hd FX;replace hw4:=Hd hw4;replace fC:=Hd fC;replace xS:=Hd xS;replace uh:=Hd uh;replace rQ:=Hd rQ;replace hs4:=Hd hs4;replace uZ:=Hd uZ;replace qN:=Hd qN;replace hst:=Hd hst;replace hfr:=Hd hfr;replace pg:=Hd pg;clear nX A8 hoS hb3 hG4 xg hx6 yP sU hb2 hw1;go_upto_region 7 with fail;rw[<-hw4.out,<-rQ.out];go_cut [14,15] from 38 (λs14 s15 wx=>∃ A B,s14=.pointer (some ⟨A,0,none⟩)/\s15=.pointer (some ⟨B,0,none⟩)/\A≠B/\w4.heap.size<=A/\w4.heap.size<=B/\wx.heap[A]? = some (.cells VO 47 (0,0))/\wx.heap[B]? = some (.cells VO 47 (0,0))/\Below w4.heap.size w4 wx)
 case first=>
  refine wp_region_held_drew (S:=(Below w4.heap.size w4)) kX hdr.out (λaD=>?_);generalize World.drew w4=wd at*;refine tk 0 aD ?_ (v:=Value.agg _) (hy:=Or.inl ⟨by rfl,λW hSW=>Z6 _ _ rfl _ _ _ rfl (iW W hSW) huA rfl gy⟩);refine tk 1 aD ?_ (v:=Value.agg _) (hy:=Or.inl ⟨by rfl,λW hSW=>Z6 _ _ rfl _ _ _ rfl (iW W hSW) huA rfl gy⟩);refine fZ [2,3] ?_;refine ac (λKz aF=>?_) ?_;go_simp;focus (try go_wp2_with fail)
  (fail_if_success (have:=hz1))
  (with_reducible refine Zp (t:=47) ?_)
  intro w5 hz1 hnew;have ui:=Hd aD.size;refine aF.out _ _ (Below.trans aD (Below.mono hnew (Below.size aD))) ?_;clear aF Kz aD;intro aD;try clear hnew
  try simp only[Act.put,sL,sZ,sS]
  refine rd 3 (λKz aF=>?_);go_simp;focus (try go_wp2_with fail)
  (fail_if_success (have:=hz2))
  (with_reducible refine Zp (t:=47) ?_)
  intro w6 hz2 hnew;have pq:=Hd (Zb hz1.out);have uj:=Hd aD.size;replace hz1:=Hd ((hnew.block _ (Zb hz1.out)).trans hz1.out);refine aF.out _ _ (Below.trans aD (Below.mono hnew (Below.size aD))) ?_;clear aF Kz aD;intro aD;try clear hnew
  try simp only[Act.put,sL,sZ,sS]
  refine rd 4 (λKz aF=>?_);rw[if_pos bT]
  (with_reducible refine Zl 47 (.tmp 14) (.tmp 38) rfl _ aG VO rfl rfl hz1 lF xh xk ?_)
  intro w7 aZ;have hS:=aD.trans (aZ.out.below ui.out);have hN7:=Hd aZ.out.here;have hz3:=Hd ((aZ.out.block _ (by have:=pq.out;omega)).trans hz2.out);have hne7:=Hd pq.out;have IC:=Hd uj.out;refine aF.out _ _ hS ?_;clear aF Kz aD hS;intro aD;try simp only[Act.put]
  refine rd 5 (λKz aF=>?_);rw[if_pos bT]
  (with_reducible refine Zl 47 (.tmp 15) (.tmp 39) rfl _ aG VO rfl rfl hz3 lF xh xk ?_)
  intro w8 hU8;have hS:=aD.trans (hU8.out.below IC.out);have hY8:=Hd hU8.out.here;have AX:=Hd ((hU8.out.block _ (by have:=pq.out;omega)).trans hN7.out);refine aF.out _ _ hS ?_;clear aF Kz aD hS;intro aD;try simp only[Act.put]
  refine bz ?_;rotate_left;refine ac (λKz aF=>?_) AllReadyH.nil;go_simp;focus (try go_wp2_with fail)
  (fail_if_success (have:=hz1))
  (with_reducible refine Zp (t:=47) ?_)
  intro w5 hz1 hnew;have ui:=Hd aD.size;refine aF.out _ _ (Below.trans aD (Below.mono hnew (Below.size aD))) ?_;clear aF Kz aD;intro aD;try clear hnew
  try simp only[Act.put,sL,sZ,sS]
  refine rd 2 (λKz aF=>?_);go_simp;focus (try go_wp2_with fail)
  (fail_if_success (have:=hz2))
  (with_reducible refine Zp (t:=47) ?_)
  intro w6 hz2 hnew;have pq:=Hd (Zb hz1.out);have uj:=Hd aD.size;replace hz1:=Hd ((hnew.block _ (Zb hz1.out)).trans hz1.out);refine aF.out _ _ (Below.trans aD (Below.mono hnew (Below.size aD))) ?_;clear aF Kz aD;intro aD;try clear hnew
  try simp only[Act.put,sL,sZ,sS]
  refine rd 4 (λKz aF=>?_);rw[if_pos bT]
  (with_reducible refine Zl 47 (.tmp 14) (.tmp 38) rfl _ aG VO rfl rfl hz2 lF xh xk ?_)
  intro w7 aZ;have hS:=aD.trans (aZ.out.below uj.out);have hN7:=Hd aZ.out.here;have hz3:=Hd ((aZ.out.block _ (by have:=pq.out;omega)).trans hz1.out);have IC:=Hd ui.out;refine aF.out _ _ hS ?_;clear aF Kz aD hS;intro aD;try simp only[Act.put]
  refine rd 5 (λKz aF=>?_);rw[if_pos bT]
  (with_reducible refine Zl 47 (.tmp 15) (.tmp 39) rfl _ aG VO rfl rfl hz3 lF xh xk ?_)
  intro w8 hU8;have hS:=aD.trans (hU8.out.below IC.out);have hY8:=Hd hU8.out.here;have AX:=Hd ((hU8.out.block _ (by have:=pq.out;omega)).trans hN7.out);refine aF.out _ _ hS ?_;clear aF Kz aD hS;intro aD;try simp only[Act.put]
  refine bz ?_;all_goals
   go_wp2_with fail;go_meet;exact⟨_,_,rfl,rfl,by have:=pq.out;omega,by first|exact ui.out|exact uj.out,by first|exact uj.out|exact ui.out,AX.out,hY8.out,aD⟩
 case rest=>
  obtain⟨A,B,rfl,rfl,wH,hA4,hB4,IE,vZ,hbx⟩:=hcut;generalize wc=wA at*;obtain⟨PD,IG⟩:∃ PD,PD=(st.map (λs=>fI (bg L s.from_ s.to))).reverse:=⟨_,rfl⟩;have uk:PD.length=SL:=by rw[IG,List.length_reverse,List.length_map,FX.out]
  obtain⟨zz,hzz⟩:=aA (if wh=true then old else fI (bg L fr m));rw[<-hzz] at qN;obtain⟨Z,hZ⟩:∃ Z,Z=(cB zz).toArray:=⟨_,rfl⟩;have bi:Below w.heap.size w wA:=uh.out.trans (hbx.mono uh.out.size);have hq6:=Hd ((hbx.block _ (Zb ug.out)).trans ug.out);have hq8:=Hd ((hbx.block _ (Zb FY.out)).trans FY.out);have xm:=Hd ((hbx.block _ (Zb FZ.out)).trans FZ.out);have hq12:=Hd ((hbx.block _ (Zb fC.out)).trans fC.out);have hs4o:=hs4.out;have II:Hid (dw gP wA aS st):=Hd (xS.out.below (hbx.mono aB));have hzl:zz.length=32:=by
   rw[hzz];split
   ·exact hol
   ·next hw=>exact h32.out _ (by rw[uZ.out];simp[hw])
  replace qN:=Hd qN;replace hZ:=Hd hZ;replace IG:=Hd IG;replace hzz:=Hd hzz;replace uk:=Hd uk;replace bi:=Hd bi;replace IE:=Hd IE;replace vZ:=Hd vZ;clear iW huA gy ug FY FZ fC xS uh hdr pg hbx
  go_upto_if 41 with fail
  go_cut [14,15] from 19 (λs14 s15 wx=>s14=.pointer (some ⟨A,0,none⟩)/\s15=.pointer (some ⟨B,0,none⟩)/\∃ pa pc,SL<=pc/\wx.heap[B9]? = some (.cells #[.slice pa SL pc] 93 (0,0))/\(∀ W,Below w.heap.size w W->aU cB 32 W pa PD)/\wx.heap[A]? = some (.cells Z 47 (0,0))/\wx.heap[B]? = some (.cells Z 47 (0,0))/\
   wx.heap[w.heap.size]? = some (.cells VO 47 (0,0))/\wx.heap[B8]? = some (.cells VN 47 (0,0))/\wx.heap[gP]? = some (.cells #[.slice aS SL cS] 159 (0,0))/\dw gP wx aS st/\Below w.heap.size w wx)
  case first=>
   cases wh with
   | true=>
    have xn:Ys L m=PD:=by rw[uZ.out,IG.out];simp
    have yz:NP=SL:=by rw[hNP.out,xn,uk.out]
    have hzo:Z=VO:=by rw[hZ.out,qf.out,hzz.out];rfl
    have pu:=hA.out;rw[xn] at pu;have xq:=Hd (λW (hW:Below w.heap.size w W)=>pu.below hW nZ);have hcp:SL<=c:=by rw[<-yz,hNP.out];exact hc
    rw[yz] at xm;rw[<-hzo] at IE vZ;replace hzo:=Hd hzo;replace yz:=Hd yz;clear xn pu;go_wp2_with fail;go_meet;exact⟨rfl,rfl,_,_,hcp,xm.out,xq.out,IE.out,vZ.out,hq6.out,hq8.out,hq12.out,II.out,bi.out⟩
   | false=>
    have xn:Ys L m=zz::PD:=by rw[uZ.out,IG.out,hzz.out];simp
    have yz:NP=SL+1:=by rw[hNP.out,xn,List.length_cons,uk.out]
    have pu:=hA.out;rw[xn] at pu;have xq:=pu.below bi.out nZ;obtain⟨b,o,rfl,hr0⟩:=xq 0 sX;have hrt:=Hd (λW (hW:Below w.heap.size w W)=>show aU cB 32 W (some ⟨b,o+32,none⟩) PD from by simpa using (pu.below hW nZ).dropP 1);have hr0':Hid (wA.drew.rangeAt b o (cB zz)):=Hd (by simpa using hr0);have hbw:b<w.heap.size:=by
     obtain⟨b',o',e,hr⟩:=hA.out 0 (by rw[xn];simp);cases e;have hz0:0<(cB ((Ys L m)[0]'(by rw[xn];simp))).length:=by rw[Zc,h32.out _ (List.getElem_mem _)];decide
     exact World.block_lt_of_cell? w _ (hr 0 _ (List.getElem?_eq_getElem hz0))
    have hSL1:=hsl1.out rfl;have hcp:SL+1<=c:=by rw[<-yz,hNP.out];exact hc
    have hS0:Only (λk=>k=A\/k=B) wA.drew wA.drew:=Only.refl _ _;have hwA:=bi.out.size;have hbD:¬(b=A\/b=B):=by have:=jU;omega
    have h9D:¬(B9=A\/B9=B):=aB;have yt:∀ W:World,Only (λk=>k=A\/k=B) wA.drew W->W.rangeAt b o (cB zz):=λW hS=>YM (n:=w.heap.size) hr0'.out (hS.below hwA (λk hk=>by omega)) hbw;have pW:=Tryz.underlying47;have nU:(Tryz.prog.info? 47).map (·.size)=some (cB zz).length:=by rw[Zc,hzl];kernel_rfl
    have nV:=hZ;have Aw:(Tryz.prog.info? 47).map (·.size)=some Z.size:=by rw[hZ.out,List.size_toArray,Zc,hzl];kernel_rfl
    have hZs:VO.size=Z.size:=by rw[IA,hZ.out,List.size_toArray,Zc,hzl]
    have lS:Z.all (·.oneCell')=true:=by rw[hZ.out];exact ZE (Zw _)
    have hq9d:Hid (wA.drew.heap[B9]? = some (.cells #[.slice (some ⟨b,o,none⟩) NP c] 93 (0,0))):=xm;have hxAd:Hid (wA.drew.heap[A]? = some (.cells VO 47 (0,0))):=IE;have hxBd:Hid (wA.drew.heap[B]? = some (.cells VO 47 (0,0))):=vZ;have hdA:Hid (Only (λk=>k=A\/k=B) wA wA.drew):=Hd (Only.drew (Only.refl _ wA));have k9d:=λW (hS:Only (λk=>k=A\/k=B) wA.drew W)=>show W.cell? ⟨B9,0,none⟩=some (.slice (some ⟨b,o,none⟩) NP c) from by rw[Za (hS.heap hq9d.out h9D)];rfl
    have n1:(0:Int)<(NP:Int):=aB;have n2:(1:Int)<=(NP:Int):=aB;have n3:¬c=1:=aB;have n4:NP-1=SL:=aB;have n5:0<NP:=aB;have n6:1<=NP:=aB;have n7:(NP:Int)<=(c:Int):=aB;replace hS0:=Hd hS0;replace yz:=Hd yz;clear xn pu xq hr0 IE vZ;go_wp2_with fail;refine wp_region_held_drew (S:=(Only (λk=>k=A\/k=B) wA.drew)) kX hS0.out (λaD=>?_);generalize World.drew wA=wd at*;refine tk 0 aD ?_;refine tk 1 aD ?_;refine tk 2 aD ?_ (v:=Value.agg _) (hy:=Or.inl ⟨by rfl,λW hSW=>QO _ _ rfl _ _ rfl _ _ (yt W hSW) pW rfl nU _ nV.out⟩);refine tk 3 aD ?_;refine tk 4 aD ?_;refine tk 5 aD ?_ (v:=Value.agg _) (hy:=Or.inl ⟨by rfl,λW hSW=>QO _ _ rfl _ _ rfl _ _ (yt W hSW) pW rfl nU _ nV.out⟩);refine rd 6 (λKz aF=>?_);rw[if_pos bT]
    (with_reducible refine Zl 47 (.tmp 14) (.tmp 44) rfl A _ Z rfl rfl hxAd Aw hZs lS ?_)
    intro w5 dG;have hS:=Only.trans aD (Only.ofUpd (D:=λk=>k=A\/k=B) dG.out (.inl rfl)) (λ_ _ h=>h);have hxB5:=Hd ((dG.out.block _ (Ne.symm wH)).trans hxBd.out);refine aF.out _ _ hS ?_;clear aF Kz aD hS;intro aD;try simp only[Act.put]
    refine rd 7 (λKz aF=>?_);rw[if_pos bT]
    (with_reducible refine Zl 47 (.tmp 15) (.tmp 47) rfl B _ Z rfl rfl hxB5 Aw hZs lS ?_)
    intro w6 dK;have hS:=Only.trans aD (Only.ofUpd (D:=λk=>k=A\/k=B) dK.out (.inr rfl)) (λ_ _ h=>h);have hxA6:=Hd ((dK.out.block _ wH).trans dG.out.here);refine aF.out _ _ hS ?_;clear aF Kz aD hS;intro aD;try simp only[Act.put]
    refine bz ?_;all_goals
     have eT:=Hd (hdA.out.trans aD (λ_ _ h=>h));have IJ:=Hd (eT.out.heap xm.out h9D);have c96:w6.cell? ⟨B9,0,none⟩=some (.slice (some ⟨b,o,none⟩) NP c):=by rw[Za IJ.out];rfl
     have f96:w6.frozen? ⟨B9,0,none⟩=false:=Zg IJ.out _;have aZ:=Hd ((ag.refl IJ.out).setCell (j:=0) (.slice (some ⟨b,o+32,none⟩) SL (c-1)));have hxB6:=Hd dK.out.here;have hb6:=Hd (eT.out.below hwA (λk hk=>by omega));clear aD k9d;go_wp2_with fail;go_meet;have hB7:Below w.heap.size wA _:=hb6.out.trans (aZ.out.below aB);refine⟨rfl,rfl,some ⟨b,o+32,none⟩,c-1,aB,aZ.out.here,hrt.out,(aZ.out.block _ aB).trans hxA6.out,(aZ.out.block _ aB).trans hxB6.out,(aZ.out.block _ aB).trans (eT.out.heap hq6.out aB),(aZ.out.block _ aB).trans (eT.out.heap hq8.out aB),(aZ.out.block _ aB).trans (eT.out.heap hq12.out aB),?_,bi.out.trans hB7⟩
     ·exact II.out.apart eT.out aZ.out IB.out (λg e hg=>by omega)
  case rest=>
   obtain⟨rfl,rfl,pa,pc,hpc,hy9,hyP,hyA,sJ,hy6,hy8,xu,hyS,hyb⟩:=hcut;generalize wc=wB at*;have wK:CkN w B8 B9 gP A B:=⟨jU,hlt8,FV,aB,aB,wH⟩;have c12:wB.cell? ⟨gP,0,none⟩=some (.slice aS SL cS):=by rw[Za xu];rfl
   have hbk:=Hd (λW=>callsIn_wide.1 (Dl Fence.wide 3 trivial rfl aS SL cS W));have hG0:Below wB.heap.size wB (wB.alloc (.cells #[.slice aS SL cS] 159)):=bR.alloc nZ _;have b3:=Boxed.new wB 159 (.slice aS SL cS);have ul:pY w VO VN B8 B9 gP A B wB.heap.size (.slice pa SL pc) (.slice aS SL cS) (zz,zz) (wB.alloc (.cells #[.slice aS SL cS] 159)):=
    ⟨(hG0.block _ (Zb hy6)).trans hy6,(hG0.block _ (Zb hy8)).trans hy8,(hG0.block _ (Zb hy9)).trans hy9,(hG0.block _ (Zb xu)).trans xu,(hG0.block _ (Zb hyA)).trans (by rw[hZ.out] at hyA;exact hyA),(hG0.block _ (Zb sJ)).trans (by rw[hZ.out] at sJ;exact sJ),b3,hyb.trans (hG0.mono hyb.size)⟩
   have hlA:=Zb hyA;have hlB:=Zb sJ;have IK:dw gP (wB.alloc (.cells #[.slice aS SL cS] 159)) aS st:=hyS.below (hG0.mono aB);have hs0:(wB.alloc (.cells #[.slice aS SL cS] 159)).heap.size=wB.heap.size+1:=sX;have hyP0:=Hd hyP;have hPD32:=Hd (λy (hy:y∈PD)=>h32.out y (by rw[uZ.out,List.mem_reverse,List.mem_append];left;rw[IG.out,List.mem_reverse] at hy;exact hy));have AQ:=Hd (λW (hW:Below w.heap.size w W)=>show bP W/\bZ W from⟨hK.below hW,hF.below hW⟩);have hneD:=Hd (λW=>show (binOp .neq 47 (.agg VO) (.agg VO)).run Tryz.prog W=.ok (.bool false) W/\(binOp .neq 47 (.agg VN) (.agg VN)).run Tryz.prog W=.ok (.bool false) W from⟨by rw[qf.out,Ce old old hol hol];simp,by rw[FW.out,Ce now now hnl hnl];simp⟩);have hSLm:SL<=1000:=by
    have:=hsn.out;omega
   obtain⟨BI,hBI⟩:=aA wB.heap.size;rw[<-hBI] at ul b3 hs0 hlA hlB;replace ul:=Hd ul;replace IK:=Hd IK;replace hs0:=Hd hs0;replace wK:=Hd wK;replace hBI:=Hd hBI;clear hyP hy6 hy8 hy9 xu hyA sJ hyS IE vZ hq6 hq8 xm hq12 II;go_wp2_with fail;with_reducible refine(hbk.out _).mono ?_
   clear hbk;rintro e w9 ⟨rfl,rfl⟩;rw[<-hBI.out];generalize wB.alloc (.cells #[.slice aS SL cS] 159)=W0 at*;clear hG0 c12;go_wp2_with fail;have hpS:∀ k,k<st.length->PD.getD (SL-1-k) []=fI (bg L (st.getD k ⟨false,0,0⟩).from_ (st.getD k ⟨false,0,0⟩).to)/\SL-1-k<PD.length:=λk hk=>by
    have hSLo:=FX.out;refine⟨?_,by rw[uk.out];omega⟩;rw[List.getD_eq_getElem?_getD,IG.out,List.getElem?_reverse (by rw[List.length_map];omega),List.length_map,List.getElem?_map,show st.length-1-(SL-1-k)=k by omega,List.getElem?_eq_getElem hk,List.getD_eq_getElem?_getD,List.getElem?_eq_getElem hk];rfl
   replace hpS:=Hd hpS;have h2SL:=FX.out;subst h2SL;refine(wpIn_wide (n:=3)).1 ?_;refine wpIn_rangeFunc_ownH (n:=3) rfl dX (gf:=116) (lb:=#[.pointer (some ⟨BI,0,none⟩)]) rfl trivial (enters_of Tryz.func116 kX rfl)
    (MV Fence.wide (3-1) trivial rfl dX BI gP aS cS st aB W0 (by have:=hs0.out;omega) ul.out.it IK.out) Td (C4 (by have:=hs0.out;omega) (by have:=hs0.out;omega)) bR (λ_=>rfl)
    (λpre W=>pY w VO VN B8 B9 gP A B BI (.slice pa st.length pc) (.slice aS st.length cS) (Jw (λx y=>fI (bg L x y)) st zz (pre.map Fin.val)) W)
    (λ_ _ _=>False)
    ?hI (λ_ _ _ _ _ hs _ _=>hs)
    ul.out
    (λx a' W=>∃ Bx,BI<Bx/\W.heap[Bx]? = some (.cells (JS (st.getD x.val ⟨false,0,0⟩)) 166 (0,0))/\a'={ tmps:=#[.int .i64 (m:Int),.agg VO,.int .i64 (N:Int),.agg VN,.slice a NP c,undef,.pointer (some ⟨w.heap.size,0,none⟩),undef,.pointer (some ⟨B8,0,none⟩),.pointer (some ⟨B9,0,none⟩),.nilIface,.int .i64 (NP:Int),.pointer (some ⟨gP,0,none⟩),.bool wh,.pointer (some ⟨A,0,none⟩),.pointer (some ⟨B,0,none⟩),.int .i64 (x.val:Int),.pointer (some ⟨Bx,0,none⟩),undef,
     u19,u20,u21,u22,u23,u24,u25,u26,u27,u28,u29,u30,u31,u32,u33,u34,u35,u36,u37,u38,u39,u40,u41,u42,u43,u44,u45,u46,u47,u48,u49,.slice aS st.length cS,.func (.func 116) #[] #[.pointer (some ⟨BI,0,none⟩)],.int .i64 (x.val:Int),.agg (JS (st.getD x.val ⟨false,0,0⟩)),u54,u55,u56,u57,u58,u59,u60,u61,u62,u63,u64,u65,u66,u67,u68,u69,u70,u71,u72,u73,u74,u75,u76,u77,u78,u79,u80,u81],defers:=[] })
    ?hAx ?assign ?body ?done ?stop
   case hI=>
    rintro s X Y row hs hg hr;exact hs.kept (n:=W0.heap.size) (by have:=hs0.out;omega) hg hr
   case hAx=>
    rintro x a' s X Y row ⟨Bx,e1,e2,e3⟩ hg hr;exact⟨Bx,e1,Qq e2 rfl hg (λr h=>(hr r h).2),e3⟩
   case assign=>
    rintro l pre x W K hI hK;have hszW:(Tryz.prog.info? 166).map (·.size)=some (JS (st.getD x.val ⟨false,0,0⟩)).size:=by rw[G9];kernel_rfl
    have hX1:(JS (st.getD x.val ⟨false,0,0⟩)).all (·.oneCell')=true:=ZE (Stp.one _);have hX2:=G9 (st.getD x.val ⟨false,0,0⟩);simp only[MO];generalize O8:JS (st.getD x.val ⟨false,0,0⟩)=X at*;replace hX2:=Hd hX2;have hl2:=hI.it.lt;have hB12l:gP<=W.heap.size:=aB;replace hI:=Hd hI;gi_wp2_with (refine Qh rfl 166 (.tmp 17) (.tmp 53) rfl W.heap.size _ X rfl rfl (Hd (heap_alloc_new _ _)) hszW (by rw[hX2.out];first|rfl|kernel_rfl) hX1 ?_;intro W2 hU);have hG:Below W.heap.size W W2:=Below.trans ((Below.refl _ W).alloc nZ _) (hU.out.below nZ);subst O8;exact hK _ _ ((ZN hG).from _) ⟨hG.mono hB12l,hG.block _ hl2⟩ (hI.out.below hG) ⟨W.heap.size,aB,hU.out.here,rfl⟩
   case body=>
    rintro l pre x a' W hl _ hC ⟨Bx,hBx,bX,rfl⟩ hlt;obtain⟨hY0,uR⟩:=hpS.out x.val x.isLt;have hsn:=Mk (λx y=>fI (bg L x y)) st zz (pre.map Fin.val) x.val;rw[<-show (pre++[x]).map Fin.val=pre.map Fin.val++[x.val] by simp] at hsn;have jL:=BZ (ov:=λx y=>fI (bg L x y)) (st:=st) hzl (pre.map Fin.val);generalize Jw (λx y=>fI (bg L x y)) st zz (pre.map Fin.val)=p at*;obtain⟨q,hq⟩:∃ q,q=Jw (λx y=>fI (bg L x y)) st zz ((pre++[x]).map Fin.val):=⟨_,rfl⟩;rw[<-hq] at hsn;obtain⟨S,hS⟩:∃ S,S=st.getD x.val ⟨false,0,0⟩:=⟨_,rfl⟩;rw[<-hS] at bX hY0 hsn ⊢;obtain⟨k,hk⟩:=aA x.val;have hkl:k<st.length:=by rw[hk];exact x.isLt
    rw[<-hk] at hY0 uR ⊢;obtain⟨I,hI⟩:=aA (st.length-1-k);rw[<-hI] at hY0 uR;obtain⟨b1,o1,rfl,r1⟩:=hyP0.out W hC.bel I uR;have hYi:PD[I]=fI (bg L S.from_ S.to):=by rw[<-hY0,List.getD_eq_getElem?_getD,List.getElem?_eq_getElem uR];rfl
    have hYl:=hPD32.out _ (List.getElem_mem uR);rw[hYi] at r1 hYl;have xw:q=if S.left=true then (Zo (fI (bg L S.from_ S.to)) p.1,Zo (fI (bg L S.from_ S.to)) p.2) else (p.1,Zo p.2 (fI (bg L S.from_ S.to))):=hsn;generalize fI (bg L S.from_ S.to)=Y at*;obtain⟨VD,um⟩:∃ V,V=(cB Y).toArray:=⟨_,rfl⟩;have IL:VD.size=32:=by rw[um,List.size_toArray,Zc,hYl]
    have IM:(Tryz.prog.info? 47).map (·.size)=some VD.size:=by rw[IL];kernel_rfl
    have hVDo:VD.all (·.oneCell')=true:=by rw[um];exact ZE (Zw _)
    have hYc:(Tryz.prog.info? 47).map (·.size)=some (cB Y).length:=by rw[Zc,hYl];kernel_rfl
    have e1:IntKind.i64.wrap ((st.length:Int)-1)=(st.length:Int)-1:=IntWalk.i64_in _ aB;have e2:IntKind.i64.wrap ((st.length:Int)-1-(k:Int))=(I:Int):=by rw[IntWalk.i64_in _ aB];omega
    have i1:(I:Int)<(st.length:Int):=aB;have i2:(0:Int)<=(I:Int):=aB;have c9:W.cell? ⟨B9,0,none⟩=some (.slice (some ⟨b1,o1,none⟩) st.length pc):=by rw[Za hC.pr];rfl
    have c12:W.cell? ⟨gP,0,none⟩=some (.slice aS st.length cS):=by rw[Za hC.dn];rfl
    have hBIl:=hC.it.lt;have hbXl:=Zb bX;replace hC:=Hd hC;replace bX:=Hd bX;replace um:=Hd um;replace hI:=Hd hI;replace hS:=Hd hS;replace hk:=Hd hk;replace xw:=Hd xw;replace hq:=Hd hq;replace r1:=Hd r1;clear hY0 hYi hsn hpS;obtain⟨BL,hBL⟩:=aA S.left;have hS0:=Hd (show JS S=#[.bool BL,.int .i64 (S.from_:Int),.int .i64 (S.to:Int)] by rw[hBL];rfl);have sF:Hid (q=if BL=true then (Zo Y p.1,Zo Y p.2) else (p.1,Zo p.2 Y)):=Hd (by rw[hBL];exact xw.out);have hWI:wB.heap.size<=W.heap.size:=by have:=hBI.out;omega
    clear hBL xw;cases BL with
    | true=>
     gi_wp2_with (first
      | (refine ZY rfl 47 (.tmp 60) rfl b1 (o1+I*32) rfl (cB Y) _ r1.out Tryz.underlying47 rfl hYc ?_;rw[<-um.out])
      | (refine Qh rfl 47 (.tmp 18) (.tmp 61) rfl W.heap.size _ VD rfl rfl (Hd (heap_alloc_new _ _)) IM (by rw[IL,Z3]) hVDo ?_;intro W3 dB;(have hG3:Below W.heap.size W W3:=Below.trans ((Below.refl _ W).alloc nZ _) (dB.out.below nZ));have s0:W3.cell? ⟨Bx,0,none⟩=some (.bool true):=(by rw[Za ((hG3.block _ hbXl).trans bX.out),hS0.out];rfl);have yT:=Hd (hC.out.below hG3);replace hG3:=Hd hG3))
     have xx:q=(Zo Y p.1,Zo Y p.2):=sF.out;have hdb:=Hd dB.out.here;have IP:=hG3.out;have hKO:=Hd (ZN IP);obtain⟨V1,hV1⟩:∃ V,V=(cB p.1).toArray:=⟨_,rfl⟩;obtain⟨V2,hV2⟩:∃ V,V=(cB p.2).toArray:=⟨_,rfl⟩;obtain⟨E1,hE1⟩:∃ V,V=(cB (Zo Y p.1)).toArray:=⟨_,rfl⟩;obtain⟨E2,hE2⟩:∃ V,V=(cB (Zo Y p.2)).toArray:=⟨_,rfl⟩;have hn1:=Hd (λW' (hb:Below w.heap.size w W')=>J2 Y p.1 hYl jL.1 W' (AQ.out W' hb).1 (AQ.out W' hb).2);have hn2:=Hd (λW' (hb:Below w.heap.size w W')=>J2 Y p.2 hYl jL.2 W' (AQ.out W' hb).1 (AQ.out W' hb).2);rw[<-um.out,<-hV1,<-hE1] at hn1;rw[<-um.out,<-hV2,<-hE2] at hn2;have iA:(Tryz.prog.info? 47).map (·.size)=some (cB p.1).length:=by rw[Zc,jL.1];kernel_rfl
     have iB:(Tryz.prog.info? 47).map (·.size)=some (cB p.2).length:=by rw[Zc,jL.2];kernel_rfl
     have iE1:(Tryz.prog.info? 47).map (·.size)=some E1.size:=by rw[hE1,List.size_toArray,Zc,ZU];kernel_rfl
     have iE2:(Tryz.prog.info? 47).map (·.size)=some E2.size:=by rw[hE2,List.size_toArray,Zc,ZU];kernel_rfl
     have sE1:(cB p.1).toArray.size=E1.size:=by rw[hE1,List.size_toArray,List.size_toArray,Zc,Zc,ZU,jL.1]
     have sE2:(cB p.2).toArray.size=E2.size:=by rw[hE2,List.size_toArray,List.size_toArray,Zc,Zc,ZU,jL.2]
     have oE1:E1.all (·.oneCell')=true:=by rw[hE1];exact ZE (Zw _)
     have oE2:E2.all (·.oneCell')=true:=by rw[hE2];exact ZE (Zw _)
     have fD:Hid (pY w VO VN B8 B9 gP A B BI (.slice (some ⟨b1,o1,none⟩) st.length pc) (.slice aS st.length cS) p W3.drew):=Hd (yT.out.below ((Below.refl _ W3).drew));have y8:Hid (W3.drew.rangeAt A 0 (cB p.1)):=Hd (Z7 fD.out.a);have xy:Hid (W3.drew.rangeAt B 0 (cB p.2)):=Hd (Z7 fD.out.b);have hdbd:Hid (W3.drew.heap[W.heap.size]? = some (.cells VD 47 (0,0))):=hdb;have hnA:¬(W.heap.size=A\/W.heap.size=B):=aB;have iW:∀ W':World,(Only (λk=>k=A\/k=B) W3.drew W'/\KeepsOthers W3.drew W')->W'.heap[W.heap.size]? = some (.cells VD 47 (0,0)):=λW' hS=>hS.1.heap hdbd.out hnA;have huA:=Tryz.underlying47;have gy:=IM;have Sl:Hid (Only (λk=>k=A\/k=B) W3.drew W3.drew/\KeepsOthers W3.drew W3.drew):=Hd ⟨Only.refl _ _,KeepsOthers.refl _⟩;have hKd:Hid (KeepsOthers W W3.drew):=Hd (hKO.out.trans ⟨Nat.le_refl _,λ_ _ h _=>h⟩);have hbd:Hid (Below W.heap.size W W3.drew):=Hd (IP.drew);replace hV1:=Hd hV1;replace hV2:=Hd hV2;replace hE1:=Hd hE1;replace hE2:=Hd hE2;replace xx:=Hd xx;clear IP s0 c9 c12;refine Jk (S:=(λW':World=>Only (λk=>k=A\/k=B) W3.drew W'/\KeepsOthers W3.drew W')) kX kX (λh=>Exists.elim h λ_ h=>Exists.elim h λ_ h=>h) Sl.out (λaD=>?_);generalize World.drew W3=wd at*;refine tk 0 aD ?_ (v:=Value.agg _) (hy:=Or.inl ⟨by rfl,λW hSW=>Z6 _ _ rfl _ _ _ rfl (iW W hSW) huA rfl gy⟩);refine tk 3 aD ?_ (v:=Value.agg _) (hy:=Or.inl ⟨by rfl,λW hSW=>Z6 _ _ rfl _ _ _ rfl (iW W hSW) huA rfl gy⟩);refine fZ [1,4] ?_;refine ac (λKz aF=>?_) ?_
     (refine wp_load_mid 47 (.tmp 14) rfl A 0 rfl (cB p.1) _ y8.out huA rfl iA ?_)
     rw[<-hV1.out];have hS:=aD;refine aF.out _ _ hS ?_;clear aF Kz aD hS;intro aD;try simp only[Act.put]
     refine fZ [2,4] ?_;refine ac (λKz aF=>?_) ?_;go_simp
     (with_reducible refine(hn1.out _ fD.out.bel).mono ?_)
     rintro e w7 ⟨rfl,hnew⟩;have hS:=And.intro (Only.trans aD.1 (Only.ofBelow (D:=λk=>k=A\/k=B) hnew) (λ_ _ h=>h)) (aD.2.trans (ZN hnew));replace fD:=Hd (fD.out.below hnew);replace y8:=Hd (show w7.rangeAt A 0 (cB p.1) from Z7 fD.out.a);replace xy:=Hd (show w7.rangeAt B 0 (cB p.2) from Z7 fD.out.b);focus (go_wp2_with fail)
     refine aF.out _ _ hS ?_;clear aF Kz aD hS;intro aD;try clear hnew
     try simp only[Act.put,sL,sZ,sS]
     refine rd 4 (λKz aF=>?_)
     (refine wp_load_mid 47 (.tmp 15) rfl B 0 rfl (cB p.2) _ xy.out huA rfl iB ?_)
     rw[<-hV2.out];have hS:=aD;refine aF.out _ _ hS ?_;clear aF Kz aD hS;intro aD;try simp only[Act.put]
     refine rd 5 (λKz aF=>?_);go_simp
     (with_reducible refine(hn2.out _ fD.out.bel).mono ?_)
     rintro e w8 ⟨rfl,hnew⟩;have hS:=And.intro (Only.trans aD.1 (Only.ofBelow (D:=λk=>k=A\/k=B) hnew) (λ_ _ h=>h)) (aD.2.trans (ZN hnew));replace fD:=Hd (fD.out.below hnew);replace y8:=Hd (show w8.rangeAt A 0 (cB p.1) from Z7 fD.out.a);replace xy:=Hd (show w8.rangeAt B 0 (cB p.2) from Z7 fD.out.b);focus (go_wp2_with fail)
     refine aF.out _ _ hS ?_;clear aF Kz aD hS;intro aD;try clear hnew
     try simp only[Act.put,sL,sZ,sS]
     refine rd 6 (λKz aF=>?_);rw[if_pos bT]
     (with_reducible refine Zl 47 (.tmp 14) (.tmp 66) rfl A _ E1 rfl rfl (Hd fD.out.a) iE1 sE1 oE1 ?_)
     intro w9 au;have ng:=Hd ((au.out.block _ (Ne.symm wH)).trans fD.out.b);have hS:=And.intro (Only.trans aD.1 (Only.ofUpd (D:=λk=>k=A\/k=B) au.out (.inl rfl)) (λ_ _ h=>h)) (aD.2.trans (Q6 au.out fD.out.a));refine aF.out _ _ hS ?_;clear aF Kz aD hS;intro aD;try simp only[Act.put]
     refine rd 7 (λKz aF=>?_);rw[if_pos bT]
     (with_reducible refine Zl 47 (.tmp 15) (.tmp 69) rfl B _ E2 rfl rfl ng iE2 sE2 oE2 ?_)
     intro w10 bK;have hS:=And.intro (Only.trans aD.1 (Only.ofUpd (D:=λk=>k=A\/k=B) bK.out (.inr rfl)) (λ_ _ h=>h)) (aD.2.trans (Q6 bK.out ng.out));refine aF.out _ _ hS ?_;clear aF Kz aD hS;intro aD;try simp only[Act.put]
     refine bz ?_;rotate_left;refine ac (λKz aF=>?_) AllReadyH.nil
     (refine wp_load_mid 47 (.tmp 15) rfl B 0 rfl (cB p.2) _ xy.out huA rfl iB ?_)
     rw[<-hV2.out];have hS:=aD;refine aF.out _ _ hS ?_;clear aF Kz aD hS;intro aD;try simp only[Act.put]
     refine rd 2 (λKz aF=>?_);go_simp
     (with_reducible refine(hn1.out _ fD.out.bel).mono ?_)
     rintro e w7 ⟨rfl,hnew⟩;have hS:=And.intro (Only.trans aD.1 (Only.ofBelow (D:=λk=>k=A\/k=B) hnew) (λ_ _ h=>h)) (aD.2.trans (ZN hnew));replace fD:=Hd (fD.out.below hnew);replace y8:=Hd (show w7.rangeAt A 0 (cB p.1) from Z7 fD.out.a);replace xy:=Hd (show w7.rangeAt B 0 (cB p.2) from Z7 fD.out.b);focus (go_wp2_with fail)
     refine aF.out _ _ hS ?_;clear aF Kz aD hS;intro aD;try clear hnew
     try simp only[Act.put,sL,sZ,sS]
     refine rd 5 (λKz aF=>?_);go_simp
     (with_reducible refine(hn2.out _ fD.out.bel).mono ?_)
     rintro e w8 ⟨rfl,hnew⟩;have hS:=And.intro (Only.trans aD.1 (Only.ofBelow (D:=λk=>k=A\/k=B) hnew) (λ_ _ h=>h)) (aD.2.trans (ZN hnew));replace fD:=Hd (fD.out.below hnew);replace y8:=Hd (show w8.rangeAt A 0 (cB p.1) from Z7 fD.out.a);replace xy:=Hd (show w8.rangeAt B 0 (cB p.2) from Z7 fD.out.b);focus (go_wp2_with fail)
     refine aF.out _ _ hS ?_;clear aF Kz aD hS;intro aD;try clear hnew
     try simp only[Act.put,sL,sZ,sS]
     refine rd 6 (λKz aF=>?_);rw[if_pos bT]
     (with_reducible refine Zl 47 (.tmp 14) (.tmp 66) rfl A _ E1 rfl rfl (Hd fD.out.a) iE1 sE1 oE1 ?_)
     intro w9 au;have ng:=Hd ((au.out.block _ (Ne.symm wH)).trans fD.out.b);have hS:=And.intro (Only.trans aD.1 (Only.ofUpd (D:=λk=>k=A\/k=B) au.out (.inl rfl)) (λ_ _ h=>h)) (aD.2.trans (Q6 au.out fD.out.a));refine aF.out _ _ hS ?_;clear aF Kz aD hS;intro aD;try simp only[Act.put]
     refine rd 7 (λKz aF=>?_);rw[if_pos bT]
     (with_reducible refine Zl 47 (.tmp 15) (.tmp 69) rfl B _ E2 rfl rfl ng iE2 sE2 oE2 ?_)
     intro w10 bK;have hS:=And.intro (Only.trans aD.1 (Only.ofUpd (D:=λk=>k=A\/k=B) bK.out (.inr rfl)) (λ_ _ h=>h)) (aD.2.trans (Q6 bK.out ng.out));refine aF.out _ _ hS ?_;clear aF Kz aD hS;intro aD;try simp only[Act.put]
     refine bz ?_;rotate_left;refine ac (λKz aF=>?_) AllReadyH.nil
     (refine wp_load_mid 47 (.tmp 15) rfl B 0 rfl (cB p.2) _ xy.out huA rfl iB ?_)
     rw[<-hV2.out];have hS:=aD;refine aF.out _ _ hS ?_;clear aF Kz aD hS;intro aD;try simp only[Act.put]
     refine rd 1 (λKz aF=>?_)
     (refine wp_load_mid 47 (.tmp 14) rfl A 0 rfl (cB p.1) _ y8.out huA rfl iA ?_)
     rw[<-hV1.out];have hS:=aD;refine aF.out _ _ hS ?_;clear aF Kz aD hS;intro aD;try simp only[Act.put]
     refine rd 2 (λKz aF=>?_);go_simp
     (with_reducible refine(hn1.out _ fD.out.bel).mono ?_)
     rintro e w7 ⟨rfl,hnew⟩;have hS:=And.intro (Only.trans aD.1 (Only.ofBelow (D:=λk=>k=A\/k=B) hnew) (λ_ _ h=>h)) (aD.2.trans (ZN hnew));replace fD:=Hd (fD.out.below hnew);replace y8:=Hd (show w7.rangeAt A 0 (cB p.1) from Z7 fD.out.a);replace xy:=Hd (show w7.rangeAt B 0 (cB p.2) from Z7 fD.out.b);focus (go_wp2_with fail)
     refine aF.out _ _ hS ?_;clear aF Kz aD hS;intro aD;try clear hnew
     try simp only[Act.put,sL,sZ,sS]
     refine rd 5 (λKz aF=>?_);go_simp
     (with_reducible refine(hn2.out _ fD.out.bel).mono ?_)
     rintro e w8 ⟨rfl,hnew⟩;have hS:=And.intro (Only.trans aD.1 (Only.ofBelow (D:=λk=>k=A\/k=B) hnew) (λ_ _ h=>h)) (aD.2.trans (ZN hnew));replace fD:=Hd (fD.out.below hnew);replace y8:=Hd (show w8.rangeAt A 0 (cB p.1) from Z7 fD.out.a);replace xy:=Hd (show w8.rangeAt B 0 (cB p.2) from Z7 fD.out.b);focus (go_wp2_with fail)
     refine aF.out _ _ hS ?_;clear aF Kz aD hS;intro aD;try clear hnew
     try simp only[Act.put,sL,sZ,sS]
     refine rd 6 (λKz aF=>?_);rw[if_pos bT]
     (with_reducible refine Zl 47 (.tmp 14) (.tmp 66) rfl A _ E1 rfl rfl (Hd fD.out.a) iE1 sE1 oE1 ?_)
     intro w9 au;have ng:=Hd ((au.out.block _ (Ne.symm wH)).trans fD.out.b);have hS:=And.intro (Only.trans aD.1 (Only.ofUpd (D:=λk=>k=A\/k=B) au.out (.inl rfl)) (λ_ _ h=>h)) (aD.2.trans (Q6 au.out fD.out.a));refine aF.out _ _ hS ?_;clear aF Kz aD hS;intro aD;try simp only[Act.put]
     refine rd 7 (λKz aF=>?_);rw[if_pos bT]
     (with_reducible refine Zl 47 (.tmp 15) (.tmp 69) rfl B _ E2 rfl rfl ng iE2 sE2 oE2 ?_)
     intro w10 bK;have hS:=And.intro (Only.trans aD.1 (Only.ofUpd (D:=λk=>k=A\/k=B) bK.out (.inr rfl)) (λ_ _ h=>h)) (aD.2.trans (Q6 bK.out ng.out));refine aF.out _ _ hS ?_;clear aF Kz aD hS;intro aD;try simp only[Act.put]
     refine bz ?_;all_goals
      have IQ:=au.out;have lT:=bK.out;rw[hE1.out,show Zo Y p.1=q.1 by rw[xx.out]] at IQ;rw[hE2.out,show Zo Y p.2=q.2 by rw[xx.out]] at lT;have IR:=Hd (fD.out.setAB (q:=q) wK.out aB aB IQ lT);have jf:Below gP W w10:=(hbd.out.mono aB).trans (aD.1.below (by have:=hbd.out.size;omega) (λk hk=>by have:=wK.out.hA;have:=wK.out.hB;omega));have hk9:=hKd.out.trans aD.2;rw[hq.out] at IR;replace jf:=Hd jf;clear IQ lT;gi_wp2_with fail;exact⟨hk9.from _,⟨jf.out,IR.out.it.trans hC.out.it.symm⟩,IR.out⟩
    | false=>
     have xx:q=(p.1,Zo p.2 Y):=sF.out;obtain⟨V2,hV2⟩:∃ V,V=(cB p.2).toArray:=⟨_,rfl⟩;obtain⟨E2,hE2⟩:∃ V,V=(cB (Zo p.2 Y)).toArray:=⟨_,rfl⟩;have hn2:=Hd (λW' (hb:Below w.heap.size w W')=>J2 p.2 Y jL.2 hYl W' (AQ.out W' hb).1 (AQ.out W' hb).2);rw[<-um.out,<-hV2,<-hE2] at hn2;have iB:(Tryz.prog.info? 47).map (·.size)=some (cB p.2).length:=by rw[Zc,jL.2];kernel_rfl
     have iE2:(Tryz.prog.info? 47).map (·.size)=some E2.size:=by rw[hE2,List.size_toArray,Zc,ZU];kernel_rfl
     have sE2:(cB p.2).toArray.size=E2.size:=by rw[hE2,List.size_toArray,List.size_toArray,Zc,Zc,ZU,jL.2]
     have oE2:E2.all (·.oneCell')=true:=by rw[hE2];exact ZE (Zw _)
     replace hV2:=Hd hV2;replace hE2:=Hd hE2;replace xx:=Hd xx;gi_wp2_with (first
      | (refine ZY rfl 47 (.tmp 60) rfl b1 (o1+I*32) rfl (cB Y) _ r1.out Tryz.underlying47 rfl hYc ?_;rw[<-um.out])
      | (refine Qh rfl 47 (.tmp 18) (.tmp 61) rfl W.heap.size _ VD rfl rfl (Hd (heap_alloc_new _ _)) IM (by rw[IL,Z3]) hVDo ?_;intro W3 dB;(have hG3:Below W.heap.size W W3:=Below.trans ((Below.refl _ W).alloc nZ _) (dB.out.below nZ));have s0:W3.cell? ⟨Bx,0,none⟩=some (.bool false):=(by rw[Za ((hG3.block _ hbXl).trans bX.out),hS0.out];rfl);have yT:=Hd (hC.out.below hG3);replace hG3:=Hd hG3)
      | (refine ZY rfl 47 (.tmp 15) rfl B 0 rfl (cB p.2) _ (Z7 yT.out.b) Tryz.underlying47 rfl iB ?_;rw[<-hV2.out])
      | (refine ZY rfl 47 (.tmp 18) rfl W.heap.size 0 rfl (cB Y) _ (by have h:=Z7 dB.out.here;rw[um.out] at h;exact h) Tryz.underlying47 rfl hYc ?_;rw[<-um.out]))
     refine⟨trivial,(CallsIn.inRound l (callsIn_wide.2 (hn2.out _ yT.out.bel))).mono ?_⟩;rintro e w7 ⟨rfl,bV⟩;have hC7:=Hd (yT.out.below bV);have hxB7:=Hd hC7.out.b;have hKO:=Hd ((ZN hG3.out).trans (ZN bV));have hbd:=Hd (hG3.out.trans (bV.mono hG3.out.size));clear s0 c9 c12 bV;gi_wp2_with (refine Qh rfl 47 (.tmp 15) (.tmp 72) rfl B _ E2 rfl rfl hxB7 iE2 sE2 oE2 ?_;intro w10 bK);have lT:=bK.out;rw[hE2.out,show Zo p.2 Y=q.2 by rw[xx.out]] at lT;have IR:=Hd (hC7.out.setB (q:=q) wK.out aB (by rw[xx.out]) lT);have jf:Below gP W w10:=(hbd.out.mono aB).trans (bK.out.below (by have:=wK.out.hB;omega));have hk9:=hKO.out.trans (Q6 bK.out hxB7.out);rw[hq.out] at IR;exact⟨hk9.from _,⟨jf,IR.out.it.trans hC.out.it.symm⟩,IR.out⟩
   case done=>
    rintro D ys W hD hys hC rP;rw[hys,Ck,qN.out] at hC;have hA1:=hC.a;have hB1:=hC.b;have h61:=hC.old;have h81:=hC.now;simp only[<-qf.out,<-FW.out] at hA1 hB1;have hVNi:(Tryz.prog.info? 47).map (·.size)=some VN.size:=by rw[FW.out,List.size_toArray,Zc,hnl];kernel_rfl
    have hw1:=hb1.out.size;have hn1:=λW=>(hneD.out W).1;have hn2:=λW=>(hneD.out W).2;have hVNl:(Tryz.prog.info? 47).map (·.size)=some VN.toList.length:=by rw[FW.out];simp only[List.length_map,Zc,hnl];kernel_rfl
    have hVNt:=Hd (show VN=VN.toList.toArray by simp);have rB:=Hd (Z7 hB1);have r8:=Hd (Z7 h81);have hBe:=Hd hC.bel;have hszo:=hs0.out;replace rP:=Hd rP;clear hC hys;go_wp2_with (first
     | ((with_reducible refine wL (.load 47 (.tmp 14)) ?_);refine Ze rfl 47 (.tmp 14) rfl A VO _ rfl hA1 Tryz.underlying47 rfl lF ?_;simp only[Act.put,sL,sZ,sS])
     | ((with_reducible refine wL (.load 47 (.tmp 6)) ?_);refine Ze rfl 47 (.tmp 6) rfl w.heap.size VO _ rfl h61 Tryz.underlying47 rfl lF ?_;simp only[Act.put,sL,sZ,sS])
     | ((with_reducible refine wL (.load 47 (.tmp 15)) ?_);refine YP kX 47 (.tmp 15) rfl B 0 rfl VN.toList _ rB.out Tryz.underlying47 rfl hVNl VN hVNt ?_;simp only[Act.put,sL,sZ,sS])
     | ((with_reducible refine wL (.load 47 (.tmp 8)) ?_);refine YP kX 47 (.tmp 8) rfl B8 0 rfl VN.toList _ r8.out Tryz.underlying47 rfl hVNl VN hVNt ?_;simp only[Act.put,sL,sZ,sS]))
    refine⟨sX,.inl ⟨_,_,rfl,run_takeDeferred rP.out,?_⟩⟩;exact⟨_,results_tmp rfl _ _ _,rfl,hBe.out.trans (belowK_b (w:=w) nZ W D _ _ aB rP.out rfl rfl)⟩
   case stop=>
    rintro D c pre W _ _ h _;exact h.elim
end Go.Proofs.YtpdhceiodgnbmaaGreatDoor
