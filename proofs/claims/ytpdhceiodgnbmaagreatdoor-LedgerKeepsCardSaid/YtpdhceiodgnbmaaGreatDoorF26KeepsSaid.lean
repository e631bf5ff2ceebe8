import Derived.Test.YtpdhceiodgnbmaaGreatDoorF24KeepsSaid
set_option linter.all false
set_option maxRecDepth 100000
set_option maxHeartbeats 8000000
namespace Go.Proofs.YtpdhceiodgnbmaaGreatDoor
open Go.RowKit
theorem Ty(x:Rc)(hx:x.Ok)(hk:x.kind=1)(hc:x.chk=0)(a:Option Addr)(c:Nat)(n:Nat)(w:World)(ha:aJ w a c x.out)(hn:x.out.length=n)(hm:n<=1000)(dR:∀ ad,a=some ad->∃ b o,ad=⟨b,o,none⟩/\b<w.heap.size)(ea:Nat->Addr)(H:aQ 298 aK w ea) :
  Calls Tryz.prog 29 #[.slice a n c] w (GB x w):=by
 have hbk:=F6 x hx hk hc;obtain⟨w1,hw1⟩:∃ w1,w1=(w.alloc (.cells Tryz.zeroCells49 49)).alloc (.cells #[.slice a n c,.bool false] 140):=⟨_,rfl⟩;have hb1:Below w.heap.size w w1:=by rw[hw1];exact(bR.alloc nZ _).alloc sX _
 have hs1:w1.heap.size=w.heap.size+2:=by rw[hw1];simp
 have hz1:w1.heap[w.heap.size]? = some (.cells Tryz.zeroCells49 49 (0,0)):=by rw[hw1,Z5,if_neg sX,Z5,if_pos rfl]
 have hq1:w1.heap[w.heap.size+1]? = some (.cells #[.slice a n c,.bool false] 140 (0,0)):=by rw[hw1,Z5,if_pos sX]
 have hr1:bD w1 (w.heap.size+1) w.heap.size (x.out,false).1 (x.out,false).2:=by
  refine⟨a,c,by rw[hn];exact hq1,ha.below hb1,λad e=>?_⟩;obtain⟨b,o,h1,h2⟩:=dR ad e;exact⟨b,o,h1,aB,h2⟩
 have hn0:∀ W,bD W (w.heap.size+1) w.heap.size (x.out,false).1 (x.out,false).2->Calls Tryz.prog 63 #[.pointer (some ⟨w.heap.size+1,0,none⟩),.int .i64 1] W λe w2=>e=.returned (.int .i64 1)/\bD w2 (w.heap.size+1) w.heap.size (nB (x.out,false) 1).1 (nB (x.out,false) 1).2/\Only (λk=>k=w.heap.size+1) W w2:=by
  intro W h;have h:=ZD (w.heap.size+1) w.heap.size (x.out,false) 1 W h dX (by show x.out.length<=1000000;omega);rw[hbk.1] at h;exact h
 have Ac:=R8 x;have oD:(nB (x.out,false) 1).1.length<=1000000:=Nat.le_trans (Ya _ _) (by show x.out.length<=1000000;omega);have hrest:∀ W pp,W.heap[pp]? = some (.cells (Rc.ofKind 1).list.toArray 49 (0,0))->bD W (w.heap.size+1) w.heap.size (nB (x.out,false) 1).1 (nB (x.out,false) 1).2->pp≠w.heap.size+1->w.heap.size<=pp->Calls Tryz.prog 65 #[.pointer (some ⟨w.heap.size+1,0,none⟩),.pointer (some ⟨pp,0,none⟩)] W λe w2=>∃ g cc,e=.returned (.slice (some ⟨g,0,none⟩) 9 cc)/\aJ w2 (some ⟨g,0,none⟩) cc (ZL x.p.s x.p.n x.p.k x.p.d x.p.t x.p.r)/\w2.heap[pp]? = some (.cells ({ x with p:=P6.zero }:Rc).list.toArray 49 (0,0))/\bD w2 (w.heap.size+1) w.heap.size [] false/\Only (λk=>k=pp\/k=w.heap.size+1) W w2:=λW pp h1 h2 h3 h4=>by
  have h:=RY pp (w.heap.size+1) w.heap.size (Rc.ofKind 1) (nB (x.out,false) 1) W Zu Zu rfl h1 h2 h3 h4 oD;refine h.mono ?_;rintro e w2 ⟨g,cc,h5,h6,_,h7,h8,h9⟩;rw[hbk.2.1] at h7;rw[hbk.2.2.1] at h8;rw[hbk.2.2.2] at h6;exact⟨g,cc,h5,h6,h7,h8,h9⟩
 have hck:=Hd (λW h=>U1 x hx hc ea W h);have hbd:=Hd (QT 1);have eG:(Rc.ofKind 1).list.toArray.size=78:=by rw[List.size_toArray,Rc.len (x:=Rc.ofKind 1) Zu Zu]
 have i8:(Tryz.prog.info? 49).map (·.size)=some (Rc.ofKind 1).list.toArray.size:=by rw[eG];kernel_rfl
 have z8:(Tryz.zeroCells49).size=(Rc.ofKind 1).list.toArray.size:=by rw[eG];kernel_rfl
 have ig:=Rc.all_one (Rc.ofKind 1);have iX:(Tryz.prog.info? 49).map (·.size)=some x.list.toArray.size:=by rw[Rc.size hx];kernel_rfl
 have zX:(Tryz.zeroCells49).size=x.list.toArray.size:=by rw[Rc.size hx];kernel_rfl
 have hXo:=Rc.all_one x;have hu:=Tryz.underlying49;have dA:∀ (W:World) b,W.heap[b]? = some (.cells (Rc.ofKind 1).list.toArray 49 (0,0))->W.cell? ⟨b,0,none⟩=some (.int .i64 1):=λW b h=>by rw[Za h];rfl
 generalize (Rc.ofKind 1).list.toArray=RK at*;have jA:∀ W g cc,aJ W (some ⟨g,0,none⟩) cc (ZL x.p.s x.p.n x.p.k x.p.d x.p.t x.p.r)->aQ 298 aK W ea->Calls Tryz.prog 66 #[.slice (some ⟨g,0,none⟩) 9 cc] W λe w2=>e=.returned (.tuple #[.agg x.p.list.toArray,.nilIface])/\Below W.heap.size W w2:=λW g cc h1 h2=>Lr x.p ((Rc.chk0 hc).2.2.2 hk).2 g cc W h1 ea h2;have lv:Q8 ({ x with p:=P6.zero }:Rc).list.toArray 4 x.p.list.toArray.toList=x.list.toArray:=by rw[List.toList_toArray,Rc.patch_p]
 have Av:4+x.p.list.toArray.size<=({ x with p:=P6.zero }:Rc).list.toArray.size:=by rw[List.size_toArray,List.size_toArray,Rc.len (x:=({ x with p:=P6.zero }:Rc)) hx.root hx.file,P6.len];decide
 have ip:(Tryz.prog.info? 45).map (·.size)=some x.p.list.toArray.size:=by rw[List.size_toArray,P6.len];kernel_rfl
 have zp:(#[.int .i64 0,.int .i64 0,.int .i64 0,.int .i64 0,.int .i64 0,.int .i64 0]:Array Value).size=x.p.list.toArray.size:=rfl;have op:=Vj (P6.one x.p);have hup:=Tryz.underlying45;generalize x.p.list.toArray=PP at*;generalize ({ x with p:=P6.zero }:Rc).list.toArray=Y at*;replace jA:=Hd jA;replace lv:=Hd lv;have hpost:∀ W,Below w.heap.size w W->GB x w (.returned (.tuple #[.agg x.list.toArray,.nilIface])) W:=λW h=>⟨rfl,h⟩;generalize hX:x.list.toArray=X at*;generalize nB (x.out,false) 1=s1 at*;obtain⟨q,hq⟩:=aA (w.heap.size+1);obtain⟨B,hBd⟩:=aA w.heap.size;replace hw1:=Hd hw1;replace hn0:=Hd hn0;replace hrest:=Hd hrest;replace hr1:=Hd hr1;replace hz1:=Hd hz1;replace hb1:=Hd hb1;replace H:=Hd H;replace hpost:=Hd hpost;replace dA:=Hd dA;clear hbk hn hm dR ha hq1 oD hX hc hk hx;go_enter Tryz.func29,Tryz.ntmps29;go_wp2_with fail;rw[<-hw1.out];with_reducible refine(hn0.out _ hr1.out).mono ?_
 rintro e wa ⟨rfl,hra,hoa⟩;have hza:=Hd (hoa.heap hz1.out aB);have hsa:=hoa.size;have lD:Only (λk=>k=w.heap.size+1) w1 wa:=hoa;have hna:w.heap.size+1<wa.heap.size:=aB;have mF:=Hd (heap_alloc_new wa (.cells Tryz.zeroCells49 49));have eH:Below w.heap.size w wa:=hb1.out.trans (hoa.below aB (λk e=>by omega));replace hra:=Hd hra;replace eH:=Hd eH;clear hoa lD;go_wp2_with (first
  | ((with_reducible refine wL (.build 49 _) ?_);refine Z4 rfl 49 [(0,.tmp 14)] rfl [(0,.int .i64 1)] rfl _ (hbd.out _) ?_)
  | ((with_reducible refine wL (.store 49 (.tmp 5) _) ?_);(refine Zd rfl 49 (.tmp 5) (.tmp 15) rfl wa.heap.size _ RK rfl rfl mF i8 z8 ig ?_);intro w3 dB;have hP3:=Hd dB.out.here;have hb3:=Hd ((Below.alloc (Below.refl wa.heap.size wa) nZ (.cells Tryz.zeroCells49 49)).trans (dB.out.below nZ));have hr3:=Hd (hra.out.only (D:=λ_=>False) (Only.ofBelow hb3.out) (λe=>e) (λk e=>e.elim));have hz3:=Hd ((hb3.out.block _ (Zb hza.out)).trans hza.out);have k0:=dA.out _ _ hP3.out;obtain⟨a3,c3,hq3,_⟩:=hr3.out;rw[Ac] at hq3;have j1:=Za hq3 1;have dM:=Hd (eH.out.trans (hb3.out.mono eH.out.size));clear hq3))
 with_reducible refine(Z8 1 1 4 _).mono ?_
 rintro e w4 ⟨rfl,rfl⟩;have hi4:dz 1 1 4=true:=dX;go_wp2_with fail;with_reducible refine(hrest.out _ _ hP3.out hr3.out aB aB).mono ?_
 rintro e w5 ⟨gp,cp,rfl,il,jJ,fM,dW⟩;have j3:=Hd (dW.heap hz3.out aB);have bQ:=Hd (dM.out.trans (dW.below dM.out.size (λk e=>by omega)));obtain⟨a5,c5,fA,_⟩:=fM;clear j1 k0;have j1:=Za fA 1;have j0:=Za fA 0;clear fA dW;replace jJ:=Hd jJ;have hH5:=Hd (H.out.below bQ.out);replace il:=Hd il;have hnl:=λW=>@Lib.run_eql_slice_nil Tryz.prog W 24 5 (some ⟨gp,0,none⟩) 9 cp 0 0 Tryz.underlying24;go_wp2_with fail;with_reducible refine(jA.out _ _ _ il.out hH5.out).mono ?_
 rintro e w7 ⟨rfl,bV⟩;have hP7:=Hd ((bV.block _ (Zb jJ.out)).trans jJ.out);have hz7:=Hd ((bV.block _ (Zb j3.out)).trans j3.out);have pR:=Hd (bQ.out.trans (bV.mono bQ.out.size));have hs7:w.heap.size<=w7.heap.size:=pR.out.size;clear bV j0 j1;have AJ:=Hd (heap_alloc_new w7 (.cells #[.int .i64 0,.int .i64 0,.int .i64 0,.int .i64 0,.int .i64 0,.int .i64 0] 45));go_wp2_with (first
  | ((with_reducible refine wL (.store 45 (.tmp 7) _) ?_);(refine Zd rfl 45 (.tmp 7) (.tmp 54) rfl w7.heap.size _ PP rfl rfl AJ ip zp op ?_);intro w8 hU8;have ib:=Hd ((Below.alloc (Below.refl w7.heap.size w7) nZ _).trans (hU8.out.below nZ));have hP8:=Hd ((ib.out.block _ (Zb hP7.out)).trans hP7.out);have OD:=Hd ((ib.out.block _ (Zb hz7.out)).trans hz7.out);have uX:=Hd (pR.out.trans (ib.out.mono pR.out.size));have hp8:=Hd hU8.out.here)
  | ((with_reducible refine wL (.load 45 (.tmp 7)) ?_);refine Ze rfl 45 (.tmp 7) rfl w7.heap.size PP _ rfl hp8 hup rfl ip ?_)
  | ((with_reducible refine wL (.store 45 (.tmp 61) _) ?_);(refine Qg rfl 45 49 (.tmp 61) (.tmp 60) rfl wa.heap.size 4 Y PP rfl rfl hP8 ip Av op ?_);intro w9 au;rw[lv.out] at au;have hP9:=Hd au.out.here;have hz9:=Hd ((au.out.block _ aB).trans OD.out);have jk:=Hd (uX.out.trans (au.out.below aB)))
  | (with_reducible refine Ze rfl 49 (.tmp 5) rfl wa.heap.size X _ rfl hP9 hu rfl iX ?_))
 have hH9:=Hd (H.out.below jk.out);with_reducible refine(hck.out _ hH9.out).mono ?_
 rintro e w6 ⟨rfl,hb6⟩;have hP6:=Hd ((hb6.block _ (Zb hP9.out)).trans hP9.out);have sQ:=Hd ((hb6.block _ (Zb hz9.out)).trans hz9.out);have iO:=Hd (jk.out.trans (hb6.mono jk.out.size));clear hb6;go_wp2_with (first
  | (with_reducible refine Ze rfl 49 (.tmp 5) rfl wa.heap.size X _ rfl hP6 hu rfl iX ?_)
  | ((with_reducible refine wL (.store 49 (.tmp 2) _) ?_);(refine Zd rfl 49 (.tmp 2) (.tmp 68) rfl w.heap.size _ X rfl rfl sQ iX zX hXo ?_);intro w10 bK))
 exact Zj rfl rfl hu rfl iX bK.out.here (hpost.out _ (iO.out.trans (bK.out.below nZ)))
theorem HY(x:Rc)(hx:x.Ok)(hk:x.kind=1)(hc:x.chk=0)(ea:Nat->Addr)(w:World)(H:aQ 298 aK w ea):Calls Tryz.prog 120 #[.agg x.list.toArray] w (Xm x w):=by
 have hs:=Rc.size hx;have hck:=Hd (λW h=>U1 x hx hc ea W h);have hsz:(Tryz.prog.info? 49).map (·.size)=some x.list.toArray.size:=by rw[hs];kernel_rfl
 have fH:=(Rc.chk0 hc).2.1;have hout:x.out=x.head++([b8 (x.name.size:Int)]++(x.name.data.toList++(ZL x.p.s x.p.n x.p.k x.p.d x.p.t x.p.r++(x.root++(x.file++Zh x.tick))))):=by unfold Rc.out;rw[if_pos hk]
 have hhd:x.head=[1]++Zh x.obj:=by unfold Rc.head;rw[hk];rfl
 have hcf:=Rc.kept x hx 49;rw[hk] at hcf;have hlo:=Hd (λW=>QR x.obj W hx.obj.1 hx.obj.2);have hlt:=Hd (λW=>QR x.tick W hx.tick.1 hx.tick.2);have wT:=Hd (λW=>QR x.id W hx.id.1 hx.id.2);have hno:=Hd (Zk x.obj);have hnt:=Hd (Zk x.tick);have hni:=Hd (Zk x.id);obtain⟨ym,hbad⟩:=(Rc.chk0 hc).2.2.2 hk;have hpo:=UI hbad;have hsz12:x.name.size<=12:=G5 ym;have hwv:IntKind.u8.wrap (x.name.size:Int)=((b8 (x.name.size:Int)).toNat:Int):=by rw[Q9 _ aB];rw[IntKind.wrap_u8];omega
 have hpb:=Hd (λW (h:aQ 298 aK W ea)=>BX x.p.s x.p.n x.p.k x.p.d x.p.t x.p.r W hpo _ (UV h));have hbl:=Hd (show (ZL x.p.s x.p.n x.p.k x.p.d x.p.t x.p.r).length=9 from rfl);have hrf:=Hd (λ(W:World) b h=>D6 x hx 49 (W:=W) (b:=b) h);have hff:=Hd (λ(W:World) b h=>Lt x hx 49 (W:=W) (b:=b) h);have hrl:=Hd hx.root;have hfl:=Hd hx.file;have hpf:=λ(W:World) (b:Nat) (h:W.heap[b]? = some (.cells x.list.toArray 49 (0,0)))=>Qm h (o:=4) (n:=6) (Rc.sub_p x);have i4:(Tryz.prog.info? 45).map (·.size)=some x.p.list.length:=by rw[P6.len];kernel_rfl
 have hup:=Tryz.underlying45;have hnm:=Hd (show x.name.data.toList.length=x.name.size by simp);have hsm:=Hd (show x.name.size<=1000000 by omega);obtain⟨PP,wI⟩:=aA x.p.list.toArray;have hpb2:Hid (∀ W,aQ 298 aK W ea->Calls Tryz.prog 143 #[.agg PP] W λe w2=>∃ b,e=.returned (.tuple #[.slice (some ⟨b,0,none⟩) 9 9,.nilIface])/\aJ w2 (some ⟨b,0,none⟩) 9 (ZL x.p.s x.p.n x.p.k x.p.d x.p.t x.p.r)/\Below W.heap.size W w2):=by rw[wI];exact hpb
 replace wI:=Hd wI;replace hpf:=Hd hpf;rw[hhd] at hout;generalize Zh x.obj=NO at*;generalize Zh x.tick=NT at*;generalize Zh x.id=NI at*;generalize b8 (x.name.size:Int)=BN at*;generalize ZL x.p.s x.p.n x.p.k x.p.d x.p.t x.p.r=PB at*;generalize x.root=RB at*;generalize x.file=FB at*;generalize x.p.list=lp at*;clear ym hbad hpo hpb;clear hhd fH hk hc;generalize hR:x.list.toArray=R at*;replace hR:=Hd hR;replace hcf:=Hd hcf;replace hout:=Hd hout;replace H:=Hd H;have hrow:=Hd (heap_alloc_new w (.cells R 49));have hb:=Hd (show Below w.heap.size w (w.alloc (.cells R 49)) from bR.alloc nZ _);have hzc:=Tryz.underlying49;obtain⟨X,hX⟩:=aA x;generalize x.obj=vo at*;generalize x.tick=vt at*;generalize x.id=vi at*;generalize x.way=vw at*;generalize x.index=vx at*;generalize x.verdict=vv at*;generalize x.name=vn at*;clear hx hs;go_enter Tryz.func120,Tryz.ntmps120;go_wp2_with (with_reducible refine Ze rfl 49 (.tmp 1) rfl w.heap.size R _ rfl hrow hzc rfl hsz ?_);with_reducible refine(hck.out _ (H.out.below hb.out)).mono ?_
 rintro e w2 ⟨rfl,hnew⟩;have hrow2:=Hd ((hnew.block _ (Zb hrow.out)).trans hrow.out);have hb2:=Hd (hb.out.trans (hnew.mono hb.out.size));clear hnew hrow hb hck;go_wp2_with fail;have k0:=λW h=>(hcf.out _ _ hrow2.out W h).1;have k1:=λW h=>(hcf.out _ _ hrow2.out W h).2.1;have hdr:Hid (Grown w2 w2.drew):=Hd (Grown.drew (Grown.refl w2));go_cut [5] from 14 to 22 (λs5 wx=>aN w2.heap.size wx s5 ([1]++NO)/\Grown w2 wx)
 case first=>
  refine wp_region_held_drew (S:=(Grown w2)) kX hdr.out (λaD=>?_);generalize World.drew w2=wd at*;refine tk 0 aD ?_;refine tk 1 aD ?_;refine tk 2 aD ?_;refine tk 4 aD ?_;refine tk 5 aD ?_;refine fZ [3,6] ?_;refine ac (λKz aF=>?_) ?_;go_simp;focus (try go_wp2_with fail)
  (with_reducible refine Zp (t:=5) ?_)
  intro w5 hx5 hnew;have dS:=Hd (YC (x:=1) (base:=w2.heap.size) hx5.out aD.size)
  (try replace h3:=Hd (h3.out.below hnew))
  clear hx5;refine aF.out _ _ (Below.trans aD (Below.mono hnew (Below.size aD))) ?_;clear aF Kz aD;intro aD;try clear hnew
  try simp only[Act.put,sL,sZ,sS]
  refine rd 6 (λKz aF=>?_);go_simp
  (with_reducible refine(hlo.out _).mono ?_)
  rintro e w3 ⟨v3,rfl,ho3,hnew⟩
  (try replace dS:=Hd (aN.below dS.out hnew nZ))
  obtain⟨g3,c3,e3,_⟩:=ho3.form (by rw[hno.out];omega);subst e3;obtain⟨a4,c4,e4,h3,_⟩:=ho3.arg;cases e4;rw[hno.out];replace h3:=Hd h3;clear ho3;focus (go_wp2_with fail)
  refine aF.out _ _ (Below.trans aD (Below.mono hnew (Below.size aD))) ?_;clear aF Kz aD;intro aD;try clear hnew
  try simp only[Act.put,sL,sZ,sS]
  refine rd 7 (λKz aF=>?_);rw[if_pos bT]
  (refine YD (.tmp 17) (.tmp 20) rfl w2.heap.size _ [1] rfl dS _ _ NO 8 rfl hno h3 dX dX aD.size ?_)
  intro v9 w9 fB lK oK;have hS:=Below.grown aD lK.out aD.size (λk hk=>(World.ownsRow.lt dS.out k hk).1);refine aF.out _ _ hS ?_;clear aF Kz aD hS;intro aD;try simp only[Act.put]
  refine tk 8 aD ?_;refine bz ?_;rotate_left;refine ac (λKz aF=>?_) AllReadyH.nil;go_simp
  (with_reducible refine(hlo.out _).mono ?_)
  rintro e w3 ⟨v3,rfl,ho3,hnew⟩
  (try replace dS:=Hd (aN.below dS.out hnew nZ))
  obtain⟨g3,c3,e3,_⟩:=ho3.form (by rw[hno.out];omega);subst e3;obtain⟨a4,c4,e4,h3,_⟩:=ho3.arg;cases e4;rw[hno.out];replace h3:=Hd h3;clear ho3;focus (go_wp2_with fail)
  refine aF.out _ _ (Below.trans aD (Below.mono hnew (Below.size aD))) ?_;clear aF Kz aD;intro aD;try clear hnew
  try simp only[Act.put,sL,sZ,sS]
  refine rd 3 (λKz aF=>?_);go_simp;focus (try go_wp2_with fail)
  (with_reducible refine Zp (t:=5) ?_)
  intro w5 hx5 hnew;have dS:=Hd (YC (x:=1) (base:=w2.heap.size) hx5.out aD.size)
  (try replace h3:=Hd (h3.out.below hnew))
  clear hx5;refine aF.out _ _ (Below.trans aD (Below.mono hnew (Below.size aD))) ?_;clear aF Kz aD;intro aD;try clear hnew
  try simp only[Act.put,sL,sZ,sS]
  refine rd 7 (λKz aF=>?_);rw[if_pos bT]
  (refine YD (.tmp 17) (.tmp 20) rfl w2.heap.size _ [1] rfl dS _ _ NO 8 rfl hno h3 dX dX aD.size ?_)
  intro v9 w9 fB lK oK;have hS:=Below.grown aD lK.out aD.size (λk hk=>(World.ownsRow.lt dS.out k hk).1);refine aF.out _ _ hS ?_;clear aF Kz aD hS;intro aD;try simp only[Act.put]
  refine tk 8 aD ?_;refine bz ?_;all_goals
   go_wp2_with fail;go_meet;exact⟨fB.out,aD⟩
 case rest=>
  obtain⟨fB,ji⟩:=hcut;obtain⟨q0,q1,q2,q3,q4,q5,q6,q7⟩:=hcf.out _ _ hrow2.out wc ji;have jD:([1]++NO).length=9:=by simp[hno.out]
  generalize [1]++NO=P0 at*;replace jD:=Hd jD;replace ji:=Hd ji;replace fB:=Hd fB;obtain⟨a9,c9,e9,h9,_⟩:=fB.out.arg;rw[jD.out] at e9;subst e9;replace h9:=Hd h9;clear k0 k1 hdr;go_wp2_with fail;with_reducible refine(hlt.out _).mono ?_
  rintro e w10 ⟨v10,rfl,gm,hnew⟩;obtain⟨wD,c10,rfl,h10,_⟩:=gm.arg;rw[hnt.out];replace h9:=Hd (h9.out.below hnew);replace fB:=Hd (aN.below fB.out hnew nZ);replace h10:=Hd h10;have aW:=Hd (Grown.trans ji.out hnew);clear hnew gm q0 q1 q2 q3 q4 q5 q6 q7;obtain⟨q0,q1,q2,q3,q4,q5,q6,q7⟩:=hcf.out _ _ hrow2.out w10 aW.out;have fU:=Hd (Hh hrow2.out aW.out);have hr4:=Hd (hpf.out _ _ fU.out);have hH10:=Hd (H.out.below (hb2.out.trans (aW.out.mono hb2.out.size)));go_wp2_with ((with_reducible refine wL (.load 45 (.tmp 30)) ?_);refine Zx rfl 45 (.tmp 30) rfl w.heap.size 4 rfl lp _ hr4.out hup rfl i4 PP wI ?_);with_reducible refine(hpb2.out _ hH10.out).mono ?_
  rintro e w20 ⟨gp,rfl,oQ,hnew⟩;replace h9:=Hd (h9.out.below hnew);replace h10:=Hd (h10.out.below hnew);replace oQ:=Hd oQ;replace aW:=Hd (Grown.trans aW.out hnew);clear hnew q0 q1 q2 q3 q4 q5 q6 q7 hr4 fU fB;obtain⟨q0,q1,q2,q3,q4,q5,q6,q7⟩:=hcf.out _ _ hrow2.out w20 aW.out;have pU:=Hd (Hh hrow2.out aW.out);have hrr:=Hd (hrf.out _ _ pU.out);have jE:=Hd (hff.out _ _ pU.out);go_wp2_with fail;have k3:=λW h=>(hcf.out _ _ pU.out W h).2.2.2.1;clear q0 q1 q2 q3 q4 q5 q6 q7;have iQ:Hid (1<=([P0,[BN],vn.data.toList,PB,RB,FB,NT]:List (List UInt8)).flatten.length):=Hd (by simp[jD.out];omega);have iT:Hid (([P0,[BN],vn.data.toList,PB,RB,FB,NT]:List (List UInt8)).flatten.length<=1000000):=Hd (by simp[jD.out,hnt.out,hbl.out,hrl.out,hfl.out];omega);clear hsz12;have hraw:=Hd True.intro;refine JQ kX (λwd aD=>?_);refine tk 0 aD ?_;refine tk 1 aD ?_;refine tk 2 aD ?_;refine tk 3 aD ?_;refine tk 4 aD ?_;refine tk 6 aD ?_;refine tk 7 aD ?_;refine tk 9 aD ?_;refine tk 10 aD ?_;refine tk 11 aD ?_;refine tk 12 aD ?_;refine tk 13 aD ?_;refine tk 14 aD ?_;refine tk 17 aD ?_;refine fZ [5,8] ?_;refine ac (λKz aF=>?_) ?_;go_simp;focus (try go_wp2_with fail)
  (with_reducible refine Zp (t:=5) ?_)
  intro w12 fC hnew;have h12:=Hd (VA (x:=BN) fC.out);have hz:=Hd (Grown.trans aD hnew);replace h9:=Hd (h9.out.below hz.out);replace h10:=Hd (h10.out.below hz.out);replace aW:=Hd (Grown.trans aW.out hz.out);replace oQ:=Hd (oQ.out.below hz.out);replace hrr:=Hd (hrr.out.below hz.out);replace jE:=Hd (jE.out.below hz.out)
  (try replace h16:=Hd (h16.out.below hz.out))
  (try replace k3:=ZX k3 hz.out)
  clear hz fC;refine aF.out _ _ (Grown.trans aD hnew) (λhNext=>?_);clear aF Kz aD;refine Zz hNext (λaD=>?_);clear hNext hnew;try simp only[Act.put,sL,sZ,sS]
  refine rd 8 (λKz aF=>?_);rw[if_pos bT]
  (with_reducible refine HO (.tmp 42) rfl vn rfl hsm.out ?_)
  intro v16 w16 uY nS;have hnew:Grown _ _:=nS.out;clear nS;obtain⟨a16,c16,rfl,h16⟩:=uY.out.arg;rw[hnm.out];replace h16:=Hd h16;have hz:=Hd (Grown.trans aD hnew);replace h9:=Hd (h9.out.below hz.out);replace h10:=Hd (h10.out.below hz.out);replace aW:=Hd (Grown.trans aW.out hz.out);replace oQ:=Hd (oQ.out.below hz.out);replace hrr:=Hd (hrr.out.below hz.out);replace jE:=Hd (jE.out.below hz.out)
  (try replace h12:=Hd (h12.out.below hz.out))
  (try replace k3:=ZX k3 hz.out)
  clear hz uY;refine aF.out _ _ (Grown.trans aD hnew) (λhNext=>?_);clear aF Kz aD;refine Zz hNext (λaD=>?_);clear hNext hnew;try simp only[Act.put,sL,sZ,sS]
  refine rd 15 (λKz aF=>?_);go_simp;focus (try go_wp2_with fail)
  (with_reducible refine Zp (t:=24) ?_)
  intro w13 jF hnew;have hz:=Hd (Grown.trans aD hnew);replace h9:=Hd (h9.out.below hz.out);replace h10:=Hd (h10.out.below hz.out);replace aW:=Hd (Grown.trans aW.out hz.out);replace oQ:=Hd (oQ.out.below hz.out);replace hrr:=Hd (hrr.out.below hz.out);replace jE:=Hd (jE.out.below hz.out);replace h12:=Hd (h12.out.below hz.out);replace h16:=Hd (h16.out.below hz.out);have hrows:=Hd (CG jF.out jD.out rfl hnm.out hbl.out hrl.out hfl.out hnt.out h9.out h12.out h16.out oQ.out hrr.out jE.out h10.out);clear hz jF;refine aF.out _ _ (Grown.trans aD hnew) (λhNext=>?_);clear aF Kz aD;refine Zz hNext (λaD=>?_);clear hNext hnew;try simp only[Act.put,sL,sZ,sS]
  refine rd 16 (λKz aF=>?_);go_simp
  (with_reducible refine(Uw _ [P0,[BN],vn.data.toList,PB,RB,FB,NT] 7 _ (hrows.out.below aD) rfl dX iQ.out iT.out).mono ?_)
  rintro e w14 ⟨v14,rfl,mG,hnew⟩;have hfo:=Hd (mG.mono (show w.heap.size<=_ from Nat.le_trans hb2.out.size (Nat.le_trans aW.out.size aD.size)));replace aW:=Hd (Grown.trans aW.out (Grown.trans aD hnew));clear hrows;focus (go_wp2_with fail)
  refine aF.out _ _ (Grown.trans aD hnew) (λhNext=>?_);clear aF Kz aD;refine Zz hNext (λaD=>?_);clear hNext hnew;try simp only[Act.put,sL,sZ,sS]
  refine tk 18 aD ?_;refine tk 19 aD ?_;refine bz ?_;rotate_left;refine ac (λKz aF=>?_) AllReadyH.nil;rw[if_pos bT]
  (with_reducible refine HO (.tmp 42) rfl vn rfl hsm.out ?_)
  intro v16 w16 uY nS;have hnew:Grown _ _:=nS.out;clear nS;obtain⟨a16,c16,rfl,h16⟩:=uY.out.arg;rw[hnm.out];replace h16:=Hd h16;have hz:=Hd (Grown.trans aD hnew);replace h9:=Hd (h9.out.below hz.out);replace h10:=Hd (h10.out.below hz.out);replace aW:=Hd (Grown.trans aW.out hz.out);replace oQ:=Hd (oQ.out.below hz.out);replace hrr:=Hd (hrr.out.below hz.out);replace jE:=Hd (jE.out.below hz.out)
  (try replace h12:=Hd (h12.out.below hz.out))
  (try replace k3:=ZX k3 hz.out)
  clear hz uY;refine aF.out _ _ (Grown.trans aD hnew) (λhNext=>?_);clear aF Kz aD;refine Zz hNext (λaD=>?_);clear hNext hnew;try simp only[Act.put,sL,sZ,sS]
  refine rd 5 (λKz aF=>?_);go_simp;focus (try go_wp2_with fail)
  (with_reducible refine Zp (t:=5) ?_)
  intro w12 fC hnew;have h12:=Hd (VA (x:=BN) fC.out);have hz:=Hd (Grown.trans aD hnew);replace h9:=Hd (h9.out.below hz.out);replace h10:=Hd (h10.out.below hz.out);replace aW:=Hd (Grown.trans aW.out hz.out);replace oQ:=Hd (oQ.out.below hz.out);replace hrr:=Hd (hrr.out.below hz.out);replace jE:=Hd (jE.out.below hz.out)
  (try replace h16:=Hd (h16.out.below hz.out))
  (try replace k3:=ZX k3 hz.out)
  clear hz fC;refine aF.out _ _ (Grown.trans aD hnew) (λhNext=>?_);clear aF Kz aD;refine Zz hNext (λaD=>?_);clear hNext hnew;try simp only[Act.put,sL,sZ,sS]
  refine rd 15 (λKz aF=>?_);go_simp;focus (try go_wp2_with fail)
  (with_reducible refine Zp (t:=24) ?_)
  intro w13 jF hnew;have hz:=Hd (Grown.trans aD hnew);replace h9:=Hd (h9.out.below hz.out);replace h10:=Hd (h10.out.below hz.out);replace aW:=Hd (Grown.trans aW.out hz.out);replace oQ:=Hd (oQ.out.below hz.out);replace hrr:=Hd (hrr.out.below hz.out);replace jE:=Hd (jE.out.below hz.out);replace h12:=Hd (h12.out.below hz.out);replace h16:=Hd (h16.out.below hz.out);have hrows:=Hd (CG jF.out jD.out rfl hnm.out hbl.out hrl.out hfl.out hnt.out h9.out h12.out h16.out oQ.out hrr.out jE.out h10.out);clear hz jF;refine aF.out _ _ (Grown.trans aD hnew) (λhNext=>?_);clear aF Kz aD;refine Zz hNext (λaD=>?_);clear hNext hnew;try simp only[Act.put,sL,sZ,sS]
  refine rd 16 (λKz aF=>?_);go_simp
  (with_reducible refine(Uw _ [P0,[BN],vn.data.toList,PB,RB,FB,NT] 7 _ (hrows.out.below aD) rfl dX iQ.out iT.out).mono ?_)
  rintro e w14 ⟨v14,rfl,mG,hnew⟩;have hfo:=Hd (mG.mono (show w.heap.size<=_ from Nat.le_trans hb2.out.size (Nat.le_trans aW.out.size aD.size)));replace aW:=Hd (Grown.trans aW.out (Grown.trans aD hnew));clear hrows;focus (go_wp2_with fail)
  refine aF.out _ _ (Grown.trans aD hnew) (λhNext=>?_);clear aF Kz aD;refine Zz hNext (λaD=>?_);clear hNext hnew;try simp only[Act.put,sL,sZ,sS]
  refine tk 18 aD ?_;refine tk 19 aD ?_;refine bz ?_;all_goals
   have hfin:=Hd (hb2.out.trans ((Grown.trans aW.out aD).mono hb2.out.size));clear aD;go_wp2_with fail;go_ret2;exact⟨_,rfl,by rw[hout.out];simpa using hfo.out,hfin.out⟩
theorem Br(x:Rc)(hx:x.Ok)(hk:x.kind=2)(hc:x.chk=0)(ea:Nat->Addr)(w:World)(H:aQ 298 aK w ea):Calls Tryz.prog 120 #[.agg x.list.toArray] w (Xm x w):=by
 have hs:=Rc.size hx;have hck:=Hd (λW h=>U1 x hx hc ea W h);have hsz:(Tryz.prog.info? 49).map (·.size)=some x.list.toArray.size:=by rw[hs];kernel_rfl
 have fH:=(Rc.chk0 hc).2.1;have hout:x.out=x.head++(Zh x.id++([b8 x.way]++((Zh x.index).drop 4++Zh x.tick))):=by unfold Rc.out;rw[if_neg aB,if_pos hk]
 have hhd:x.head=[2]++Zh x.obj:=by unfold Rc.head;rw[hk];rfl
 have hcf:=Rc.kept x hx 49;rw[hk] at hcf;have hlo:=Hd (λW=>QR x.obj W hx.obj.1 hx.obj.2);have hlt:=Hd (λW=>QR x.tick W hx.tick.1 hx.tick.2);have wT:=Hd (λW=>QR x.id W hx.id.1 hx.id.2);have hno:=Hd (Zk x.obj);have hnt:=Hd (Zk x.tick);have hni:=Hd (Zk x.id);have hv:1<=x.way/\x.way<=2:=by
  unfold Rc.nums Ja at fH;rw[hk] at fH;simp[dz] at fH;omega
 have hwv:IntKind.u8.wrap x.way=((b8 x.way).toNat:Int):=by rw[Q9 _ aB];rw[IntKind.wrap_u8];omega
 have hlx:=Hd (λW=>LT x.index W hx.index.1 hx.index.2);have hnx:((Zh x.index).drop 4).length=4:=by rw[List.length_drop,Zk]
 rw[hhd] at hout;generalize Zh x.obj=NO at*;generalize Zh x.tick=NT at*;generalize Zh x.id=NI at*;generalize b8 x.way=B1 at*;generalize (Zh x.index).drop 4=NX at*;replace hnx:=Hd hnx;clear hv;clear hhd fH hk hc;generalize hR:x.list.toArray=R at*;replace hR:=Hd hR;replace hcf:=Hd hcf;replace hout:=Hd hout;replace H:=Hd H;have hrow:=Hd (heap_alloc_new w (.cells R 49));have hb:=Hd (show Below w.heap.size w (w.alloc (.cells R 49)) from bR.alloc nZ _);have hzc:=Tryz.underlying49;obtain⟨X,hX⟩:=aA x;generalize x.obj=vo at*;generalize x.tick=vt at*;generalize x.id=vi at*;generalize x.way=vw at*;generalize x.index=vx at*;generalize x.verdict=vv at*;generalize x.name=vn at*;clear hx hs;go_enter Tryz.func120,Tryz.ntmps120;go_wp2_with (with_reducible refine Ze rfl 49 (.tmp 1) rfl w.heap.size R _ rfl hrow hzc rfl hsz ?_);with_reducible refine(hck.out _ (H.out.below hb.out)).mono ?_
 rintro e w2 ⟨rfl,hnew⟩;have hrow2:=Hd ((hnew.block _ (Zb hrow.out)).trans hrow.out);have hb2:=Hd (hb.out.trans (hnew.mono hb.out.size));clear hnew hrow hb hck;go_wp2_with fail;have k0:=λW h=>(hcf.out _ _ hrow2.out W h).1;have k1:=λW h=>(hcf.out _ _ hrow2.out W h).2.1;have hdr:Hid (Grown w2 w2.drew):=Hd (Grown.drew (Grown.refl w2));go_cut [5] from 14 to 22 (λs5 wx=>aN w2.heap.size wx s5 ([2]++NO)/\Grown w2 wx)
 case first=>
  refine wp_region_held_drew (S:=(Grown w2)) kX hdr.out (λaD=>?_);generalize World.drew w2=wd at*;refine tk 0 aD ?_;refine tk 1 aD ?_;refine tk 2 aD ?_;refine tk 4 aD ?_;refine tk 5 aD ?_;refine fZ [3,6] ?_;refine ac (λKz aF=>?_) ?_;go_simp;focus (try go_wp2_with fail)
  (with_reducible refine Zp (t:=5) ?_)
  intro w5 hx5 hnew;have dS:=Hd (YC (x:=2) (base:=w2.heap.size) hx5.out aD.size)
  (try replace h3:=Hd (h3.out.below hnew))
  clear hx5;refine aF.out _ _ (Below.trans aD (Below.mono hnew (Below.size aD))) ?_;clear aF Kz aD;intro aD;try clear hnew
  try simp only[Act.put,sL,sZ,sS]
  refine rd 6 (λKz aF=>?_);go_simp
  (with_reducible refine(hlo.out _).mono ?_)
  rintro e w3 ⟨v3,rfl,ho3,hnew⟩
  (try replace dS:=Hd (aN.below dS.out hnew nZ))
  obtain⟨g3,c3,e3,_⟩:=ho3.form (by rw[hno.out];omega);subst e3;obtain⟨a4,c4,e4,h3,_⟩:=ho3.arg;cases e4;rw[hno.out];replace h3:=Hd h3;clear ho3;focus (go_wp2_with fail)
  refine aF.out _ _ (Below.trans aD (Below.mono hnew (Below.size aD))) ?_;clear aF Kz aD;intro aD;try clear hnew
  try simp only[Act.put,sL,sZ,sS]
  refine rd 7 (λKz aF=>?_);rw[if_pos bT]
  (refine YD (.tmp 17) (.tmp 20) rfl w2.heap.size _ [2] rfl dS _ _ NO 8 rfl hno h3 dX dX aD.size ?_)
  intro v9 w9 fB lK oK;have hS:=Below.grown aD lK.out aD.size (λk hk=>(World.ownsRow.lt dS.out k hk).1);refine aF.out _ _ hS ?_;clear aF Kz aD hS;intro aD;try simp only[Act.put]
  refine tk 8 aD ?_;refine bz ?_;rotate_left;refine ac (λKz aF=>?_) AllReadyH.nil;go_simp
  (with_reducible refine(hlo.out _).mono ?_)
  rintro e w3 ⟨v3,rfl,ho3,hnew⟩
  (try replace dS:=Hd (aN.below dS.out hnew nZ))
  obtain⟨g3,c3,e3,_⟩:=ho3.form (by rw[hno.out];omega);subst e3;obtain⟨a4,c4,e4,h3,_⟩:=ho3.arg;cases e4;rw[hno.out];replace h3:=Hd h3;clear ho3;focus (go_wp2_with fail)
  refine aF.out _ _ (Below.trans aD (Below.mono hnew (Below.size aD))) ?_;clear aF Kz aD;intro aD;try clear hnew
  try simp only[Act.put,sL,sZ,sS]
  refine rd 3 (λKz aF=>?_);go_simp;focus (try go_wp2_with fail)
  (with_reducible refine Zp (t:=5) ?_)
  intro w5 hx5 hnew;have dS:=Hd (YC (x:=2) (base:=w2.heap.size) hx5.out aD.size)
  (try replace h3:=Hd (h3.out.below hnew))
  clear hx5;refine aF.out _ _ (Below.trans aD (Below.mono hnew (Below.size aD))) ?_;clear aF Kz aD;intro aD;try clear hnew
  try simp only[Act.put,sL,sZ,sS]
  refine rd 7 (λKz aF=>?_);rw[if_pos bT]
  (refine YD (.tmp 17) (.tmp 20) rfl w2.heap.size _ [2] rfl dS _ _ NO 8 rfl hno h3 dX dX aD.size ?_)
  intro v9 w9 fB lK oK;have hS:=Below.grown aD lK.out aD.size (λk hk=>(World.ownsRow.lt dS.out k hk).1);refine aF.out _ _ hS ?_;clear aF Kz aD hS;intro aD;try simp only[Act.put]
  refine tk 8 aD ?_;refine bz ?_;all_goals
   go_wp2_with fail;go_meet;exact⟨fB.out,aD⟩
 case rest=>
  obtain⟨fB,ji⟩:=hcut;obtain⟨q0,q1,q2,q3,q4,q5,q6,q7⟩:=hcf.out _ _ hrow2.out wc ji;have jD:([2]++NO).length=9:=by simp[hno.out]
  generalize [2]++NO=P0 at*;replace jD:=Hd jD;replace ji:=Hd ji;replace fB:=Hd fB;obtain⟨a9,c9,e9,h9,_⟩:=fB.out.arg;rw[jD.out] at e9;subst e9;replace h9:=Hd h9;clear k0 k1 hdr;go_wp2_with fail;with_reducible refine(hlt.out _).mono ?_
  rintro e w10 ⟨v10,rfl,gm,hnew⟩;obtain⟨wD,c10,rfl,h10,_⟩:=gm.arg;rw[hnt.out];replace h9:=Hd (h9.out.below hnew);replace fB:=Hd (aN.below fB.out hnew nZ);replace h10:=Hd h10;have aW:=Hd (Grown.trans ji.out hnew);clear hnew gm q0 q1 q2 q3 q4 q5 q6 q7;obtain⟨q0,q1,q2,q3,q4,q5,q6,q7⟩:=hcf.out _ _ hrow2.out w10 aW.out;have fU:=Hd (Hh hrow2.out aW.out);go_wp2_with fail;have k2:=λW h=>(hcf.out _ _ fU.out W h).2.2.1;have kv:=λW h=>(hcf.out _ _ fU.out W h).2.2.2.2.1;have kx:=λW h=>(hcf.out _ _ fU.out W h).2.2.2.2.2.1;clear q0 q1 q2 q3 q4 q5 q6 q7;have iQ:Hid (1<=([P0,NI,[B1],NX,NT]:List (List UInt8)).flatten.length):=Hd (by simp[jD.out,hni.out,hnt.out,hnx.out]);have iT:Hid (([P0,NI,[B1],NX,NT]:List (List UInt8)).flatten.length<=1000000):=Hd (by simp[jD.out,hni.out,hnt.out,hnx.out]);refine JQ kX (λwd aD=>?_);refine tk 0 aD ?_;refine tk 1 aD ?_;refine tk 2 aD ?_;refine tk 4 aD ?_;refine tk 5 aD ?_;refine tk 6 aD ?_;refine tk 8 aD ?_;refine tk 9 aD ?_;refine tk 11 aD ?_
  repeat' first
   | exact AllReadyH.nil
   |
    first|refine lV 3 (λKz aF=>?_) ?_|refine lW 3 (λKz aF=>?_)
    go_simp
    (with_reducible refine(wT.out _).mono ?_)
    rintro e w11 ⟨v11,rfl,jQ,hnew⟩;obtain⟨a11,c11,rfl,h11,_⟩:=jQ.arg;rw[hni.out];have hz:=Hd (Grown.trans aD hnew);replace h9:=Hd (h9.out.below hz.out);replace h10:=Hd (h10.out.below hz.out);replace aW:=Hd (Grown.trans aW.out hz.out)
    (try replace h12:=Hd (h12.out.below hz.out))
    (try replace kE:=Hd (kE.out.below hz.out))
    (try replace k2:=ZX k2 hz.out)
    (try replace kv:=ZX kv hz.out)
    (try replace kx:=ZX kx hz.out)
    replace h11:=Hd h11;clear hz jQ;focus (go_wp2_with fail)
    refine aF.out _ _ (Grown.trans aD hnew) (λhNext=>?_);clear aF Kz aD;refine Zz hNext (λaD=>?_);clear hNext hnew;try simp only[Act.put,sL,sZ,sS]
   |
    first|refine lV 7 (λKz aF=>?_) ?_|refine lW 7 (λKz aF=>?_)
    go_simp;focus (try go_wp2_with fail)
    (with_reducible refine Zp (t:=5) ?_)
    intro w12 fC hnew;have h12:=Hd (VA (x:=B1) fC.out);have hz:=Hd (Grown.trans aD hnew);replace h9:=Hd (h9.out.below hz.out);replace h10:=Hd (h10.out.below hz.out);replace aW:=Hd (Grown.trans aW.out hz.out)
    (try replace h11:=Hd (h11.out.below hz.out))
    (try replace kE:=Hd (kE.out.below hz.out))
    (try replace k2:=ZX k2 hz.out)
    (try replace kv:=ZX kv hz.out)
    (try replace kx:=ZX kx hz.out)
    clear hz fC;refine aF.out _ _ (Grown.trans aD hnew) (λhNext=>?_);clear aF Kz aD;refine Zz hNext (λaD=>?_);clear hNext hnew;try simp only[Act.put,sL,sZ,sS]
   |
    first|refine lV 10 (λKz aF=>?_) ?_|refine lW 10 (λKz aF=>?_)
    go_simp
    (with_reducible refine(hlx.out _).mono ?_)
    rintro e w15 ⟨a13,c13,rfl,kE,hnew⟩;have hz:=Hd (Grown.trans aD hnew);replace h9:=Hd (h9.out.below hz.out);replace h10:=Hd (h10.out.below hz.out);replace aW:=Hd (Grown.trans aW.out hz.out)
    (try replace h11:=Hd (h11.out.below hz.out))
    (try replace h12:=Hd (h12.out.below hz.out))
    (try replace k2:=ZX k2 hz.out)
    (try replace kv:=ZX kv hz.out)
    (try replace kx:=ZX kx hz.out)
    replace kE:=Hd kE;clear hz;focus (go_wp2_with fail)
    refine aF.out _ _ (Grown.trans aD hnew) (λhNext=>?_);clear aF Kz aD;refine Zz hNext (λaD=>?_);clear hNext hnew;try simp only[Act.put,sL,sZ,sS]
   | refine Xi [3,7] ?_
   | refine Xi [7,10] ?_
   | fail
  all_goals
   refine rd 12 (λKz aF=>?_);go_simp;focus (try go_wp2_with fail)
   (with_reducible refine Zp (t:=24) ?_)
   intro w13 jF hnew;have hz:=Hd (Grown.trans aD hnew);replace h9:=Hd (h9.out.below hz.out);replace h10:=Hd (h10.out.below hz.out);replace aW:=Hd (Grown.trans aW.out hz.out)
   (try replace h11:=Hd (h11.out.below hz.out))
   (try replace h12:=Hd (h12.out.below hz.out))
   (try replace kE:=Hd (kE.out.below hz.out))
   (try replace k2:=ZX k2 hz.out)
   (try replace kv:=ZX kv hz.out)
   (try replace kx:=ZX kx hz.out)
   have hrows:=Hd (FC jF.out jD.out hni.out rfl hnx.out hnt.out h9.out h11.out h12.out kE.out h10.out);clear hz jF;refine aF.out _ _ (Grown.trans aD hnew) (λhNext=>?_);clear aF Kz aD;refine Zz hNext (λaD=>?_);clear hNext hnew;try simp only[Act.put,sL,sZ,sS]
   refine rd 13 (λKz aF=>?_);go_simp
   (with_reducible refine(Uw _ [P0,NI,[B1],NX,NT] 5 _ (hrows.out.below aD) rfl dX iQ.out iT.out).mono ?_)
   rintro e w14 ⟨v14,rfl,mG,hnew⟩;have hfo:=Hd (mG.mono (show w.heap.size<=_ from Nat.le_trans hb2.out.size (Nat.le_trans aW.out.size aD.size)));replace aW:=Hd (Grown.trans aW.out (Grown.trans aD hnew));clear hrows;focus (go_wp2_with fail)
   refine aF.out _ _ (Grown.trans aD hnew) (λhNext=>?_);clear aF Kz aD;refine Zz hNext (λaD=>?_);clear hNext hnew;try simp only[Act.put,sL,sZ,sS]
   refine tk 14 aD ?_;refine tk 15 aD ?_;refine bz ?_
  all_goals
   have hfin:=Hd (hb2.out.trans ((Grown.trans aW.out aD).mono hb2.out.size));clear aD;go_wp2_with fail;go_ret2;exact⟨_,rfl,by rw[hout.out];simpa using hfo.out,hfin.out⟩
theorem BT(x:Rc)(hx:x.Ok)(hk:x.kind=3)(hc:x.chk=0)(ea:Nat->Addr)(w:World)(H:aQ 298 aK w ea):Calls Tryz.prog 120 #[.agg x.list.toArray] w (Xm x w):=by
 have hs:=Rc.size hx;have hck:=Hd (λW h=>U1 x hx hc ea W h);have hsz:(Tryz.prog.info? 49).map (·.size)=some x.list.toArray.size:=by rw[hs];kernel_rfl
 have fH:=(Rc.chk0 hc).2.1;have hout:x.out=x.head++(Zh x.id++([b8 x.verdict]++Zh x.tick)):=by unfold Rc.out;rw[if_neg aB,if_neg aB,if_pos hk]
 have hhd:x.head=[3]++Zh x.obj:=by unfold Rc.head;rw[hk];rfl
 have hcf:=Rc.kept x hx 49;rw[hk] at hcf;have hlo:=Hd (λW=>QR x.obj W hx.obj.1 hx.obj.2);have hlt:=Hd (λW=>QR x.tick W hx.tick.1 hx.tick.2);have wT:=Hd (λW=>QR x.id W hx.id.1 hx.id.2);have hno:=Hd (Zk x.obj);have hnt:=Hd (Zk x.tick);have hni:=Hd (Zk x.id);have hv:1<=x.verdict/\x.verdict<=3:=by
  unfold Rc.nums Ja at fH;rw[hk] at fH;simp[dz] at fH;omega
 have hwv:IntKind.u8.wrap x.verdict=((b8 x.verdict).toNat:Int):=by rw[Q9 _ aB];rw[IntKind.wrap_u8];omega
 rw[hhd] at hout;generalize Zh x.obj=NO at*;generalize Zh x.tick=NT at*;generalize Zh x.id=NI at*;generalize b8 x.verdict=B1 at*;clear hv;clear hhd fH hk hc;generalize hR:x.list.toArray=R at*;replace hR:=Hd hR;replace hcf:=Hd hcf;replace hout:=Hd hout;replace H:=Hd H;have hrow:=Hd (heap_alloc_new w (.cells R 49));have hb:=Hd (show Below w.heap.size w (w.alloc (.cells R 49)) from bR.alloc nZ _);have hzc:=Tryz.underlying49;obtain⟨X,hX⟩:=aA x;generalize x.obj=vo at*;generalize x.tick=vt at*;generalize x.id=vi at*;generalize x.way=vw at*;generalize x.index=vx at*;generalize x.verdict=vv at*;generalize x.name=vn at*;clear hx hs;go_enter Tryz.func120,Tryz.ntmps120;go_wp2_with (with_reducible refine Ze rfl 49 (.tmp 1) rfl w.heap.size R _ rfl hrow hzc rfl hsz ?_);with_reducible refine(hck.out _ (H.out.below hb.out)).mono ?_
 rintro e w2 ⟨rfl,hnew⟩;have hrow2:=Hd ((hnew.block _ (Zb hrow.out)).trans hrow.out);have hb2:=Hd (hb.out.trans (hnew.mono hb.out.size));clear hnew hrow hb hck;go_wp2_with fail;have k0:=λW h=>(hcf.out _ _ hrow2.out W h).1;have k1:=λW h=>(hcf.out _ _ hrow2.out W h).2.1;have hdr:Hid (Grown w2 w2.drew):=Hd (Grown.drew (Grown.refl w2));go_cut [5] from 14 to 22 (λs5 wx=>aN w2.heap.size wx s5 ([3]++NO)/\Grown w2 wx)
 case first=>
  refine wp_region_held_drew (S:=(Grown w2)) kX hdr.out (λaD=>?_);generalize World.drew w2=wd at*;refine tk 0 aD ?_;refine tk 1 aD ?_;refine tk 2 aD ?_;refine tk 4 aD ?_;refine tk 5 aD ?_;refine fZ [3,6] ?_;refine ac (λKz aF=>?_) ?_;go_simp;focus (try go_wp2_with fail)
  (with_reducible refine Zp (t:=5) ?_)
  intro w5 hx5 hnew;have dS:=Hd (YC (x:=3) (base:=w2.heap.size) hx5.out aD.size)
  (try replace h3:=Hd (h3.out.below hnew))
  clear hx5;refine aF.out _ _ (Below.trans aD (Below.mono hnew (Below.size aD))) ?_;clear aF Kz aD;intro aD;try clear hnew
  try simp only[Act.put,sL,sZ,sS]
  refine rd 6 (λKz aF=>?_);go_simp
  (with_reducible refine(hlo.out _).mono ?_)
  rintro e w3 ⟨v3,rfl,ho3,hnew⟩
  (try replace dS:=Hd (aN.below dS.out hnew nZ))
  obtain⟨g3,c3,e3,_⟩:=ho3.form (by rw[hno.out];omega);subst e3;obtain⟨a4,c4,e4,h3,_⟩:=ho3.arg;cases e4;rw[hno.out];replace h3:=Hd h3;clear ho3;focus (go_wp2_with fail)
  refine aF.out _ _ (Below.trans aD (Below.mono hnew (Below.size aD))) ?_;clear aF Kz aD;intro aD;try clear hnew
  try simp only[Act.put,sL,sZ,sS]
  refine rd 7 (λKz aF=>?_);rw[if_pos bT]
  (refine YD (.tmp 17) (.tmp 20) rfl w2.heap.size _ [3] rfl dS _ _ NO 8 rfl hno h3 dX dX aD.size ?_)
  intro v9 w9 fB lK oK;have hS:=Below.grown aD lK.out aD.size (λk hk=>(World.ownsRow.lt dS.out k hk).1);refine aF.out _ _ hS ?_;clear aF Kz aD hS;intro aD;try simp only[Act.put]
  refine tk 8 aD ?_;refine bz ?_;rotate_left;refine ac (λKz aF=>?_) AllReadyH.nil;go_simp
  (with_reducible refine(hlo.out _).mono ?_)
  rintro e w3 ⟨v3,rfl,ho3,hnew⟩
  (try replace dS:=Hd (aN.below dS.out hnew nZ))
  obtain⟨g3,c3,e3,_⟩:=ho3.form (by rw[hno.out];omega);subst e3;obtain⟨a4,c4,e4,h3,_⟩:=ho3.arg;cases e4;rw[hno.out];replace h3:=Hd h3;clear ho3;focus (go_wp2_with fail)
  refine aF.out _ _ (Below.trans aD (Below.mono hnew (Below.size aD))) ?_;clear aF Kz aD;intro aD;try clear hnew
  try simp only[Act.put,sL,sZ,sS]
  refine rd 3 (λKz aF=>?_);go_simp;focus (try go_wp2_with fail)
  (with_reducible refine Zp (t:=5) ?_)
  intro w5 hx5 hnew;have dS:=Hd (YC (x:=3) (base:=w2.heap.size) hx5.out aD.size)
  (try replace h3:=Hd (h3.out.below hnew))
  clear hx5;refine aF.out _ _ (Below.trans aD (Below.mono hnew (Below.size aD))) ?_;clear aF Kz aD;intro aD;try clear hnew
  try simp only[Act.put,sL,sZ,sS]
  refine rd 7 (λKz aF=>?_);rw[if_pos bT]
  (refine YD (.tmp 17) (.tmp 20) rfl w2.heap.size _ [3] rfl dS _ _ NO 8 rfl hno h3 dX dX aD.size ?_)
  intro v9 w9 fB lK oK;have hS:=Below.grown aD lK.out aD.size (λk hk=>(World.ownsRow.lt dS.out k hk).1);refine aF.out _ _ hS ?_;clear aF Kz aD hS;intro aD;try simp only[Act.put]
  refine tk 8 aD ?_;refine bz ?_;all_goals
   go_wp2_with fail;go_meet;exact⟨fB.out,aD⟩
 case rest=>
  obtain⟨fB,ji⟩:=hcut;obtain⟨q0,q1,q2,q3,q4,q5,q6,q7⟩:=hcf.out _ _ hrow2.out wc ji;have jD:([3]++NO).length=9:=by simp[hno.out]
  generalize [3]++NO=P0 at*;replace jD:=Hd jD;replace ji:=Hd ji;replace fB:=Hd fB;obtain⟨a9,c9,e9,h9,_⟩:=fB.out.arg;rw[jD.out] at e9;subst e9;replace h9:=Hd h9;clear k0 k1 hdr;go_wp2_with fail;with_reducible refine(hlt.out _).mono ?_
  rintro e w10 ⟨v10,rfl,gm,hnew⟩;obtain⟨wD,c10,rfl,h10,_⟩:=gm.arg;rw[hnt.out];replace h9:=Hd (h9.out.below hnew);replace fB:=Hd (aN.below fB.out hnew nZ);replace h10:=Hd h10;have aW:=Hd (Grown.trans ji.out hnew);clear hnew gm q0 q1 q2 q3 q4 q5 q6 q7;obtain⟨q0,q1,q2,q3,q4,q5,q6,q7⟩:=hcf.out _ _ hrow2.out w10 aW.out;have fU:=Hd (Hh hrow2.out aW.out);go_wp2_with fail;have k2:=λW h=>(hcf.out _ _ fU.out W h).2.2.1;have kv:=λW h=>(hcf.out _ _ fU.out W h).2.2.2.2.2.2.1;clear q0 q1 q2 q3 q4 q5 q6 q7;have iQ:Hid (1<=([P0,NI,[B1],NT]:List (List UInt8)).flatten.length):=Hd (by simp[jD.out,hni.out,hnt.out]);have iT:Hid (([P0,NI,[B1],NT]:List (List UInt8)).flatten.length<=1000000):=Hd (by simp[jD.out,hni.out,hnt.out]);refine JQ kX (λwd aD=>?_);refine tk 0 aD ?_;refine tk 1 aD ?_;refine tk 2 aD ?_;refine tk 4 aD ?_;refine tk 5 aD ?_;refine tk 6 aD ?_;refine tk 8 aD ?_;refine fZ [3,7] ?_;refine ac (λKz aF=>?_) ?_;go_simp
  (with_reducible refine(wT.out _).mono ?_)
  rintro e w11 ⟨v11,rfl,jQ,hnew⟩;obtain⟨a11,c11,rfl,h11,_⟩:=jQ.arg;rw[hni.out];have hz:=Hd (Grown.trans aD hnew);replace h9:=Hd (h9.out.below hz.out);replace h10:=Hd (h10.out.below hz.out);replace aW:=Hd (Grown.trans aW.out hz.out)
  (try replace h12:=Hd (h12.out.below hz.out))
  (try replace kE:=Hd (kE.out.below hz.out))
  (try replace k2:=ZX k2 hz.out)
  (try replace kv:=ZX kv hz.out)
  (try replace kx:=ZX kx hz.out)
  replace h11:=Hd h11;clear hz jQ;focus (go_wp2_with fail)
  refine aF.out _ _ (Grown.trans aD hnew) (λhNext=>?_);clear aF Kz aD;refine Zz hNext (λaD=>?_);clear hNext hnew;try simp only[Act.put,sL,sZ,sS]
  refine rd 7 (λKz aF=>?_);go_simp;focus (try go_wp2_with fail)
  (with_reducible refine Zp (t:=5) ?_)
  intro w12 fC hnew;have h12:=Hd (VA (x:=B1) fC.out);have hz:=Hd (Grown.trans aD hnew);replace h9:=Hd (h9.out.below hz.out);replace h10:=Hd (h10.out.below hz.out);replace aW:=Hd (Grown.trans aW.out hz.out)
  (try replace h11:=Hd (h11.out.below hz.out))
  (try replace kE:=Hd (kE.out.below hz.out))
  (try replace k2:=ZX k2 hz.out)
  (try replace kv:=ZX kv hz.out)
  (try replace kx:=ZX kx hz.out)
  clear hz fC;refine aF.out _ _ (Grown.trans aD hnew) (λhNext=>?_);clear aF Kz aD;refine Zz hNext (λaD=>?_);clear hNext hnew;try simp only[Act.put,sL,sZ,sS]
  refine rd 9 (λKz aF=>?_);go_simp;focus (try go_wp2_with fail)
  (with_reducible refine Zp (t:=24) ?_)
  intro w13 jF hnew;have hz:=Hd (Grown.trans aD hnew);replace h9:=Hd (h9.out.below hz.out);replace h10:=Hd (h10.out.below hz.out);replace aW:=Hd (Grown.trans aW.out hz.out)
  (try replace h11:=Hd (h11.out.below hz.out))
  (try replace h12:=Hd (h12.out.below hz.out))
  (try replace kE:=Hd (kE.out.below hz.out))
  (try replace k2:=ZX k2 hz.out)
  (try replace kv:=ZX kv hz.out)
  (try replace kx:=ZX kx hz.out)
  have hrows:=Hd (CF jF.out jD.out hni.out rfl hnt.out h9.out h11.out h12.out h10.out);clear hz jF;refine aF.out _ _ (Grown.trans aD hnew) (λhNext=>?_);clear aF Kz aD;refine Zz hNext (λaD=>?_);clear hNext hnew;try simp only[Act.put,sL,sZ,sS]
  refine rd 10 (λKz aF=>?_);go_simp
  (with_reducible refine(Uw _ [P0,NI,[B1],NT] 4 _ (hrows.out.below aD) rfl dX iQ.out iT.out).mono ?_)
  rintro e w14 ⟨v14,rfl,mG,hnew⟩;have hfo:=Hd (mG.mono (show w.heap.size<=_ from Nat.le_trans hb2.out.size (Nat.le_trans aW.out.size aD.size)));replace aW:=Hd (Grown.trans aW.out (Grown.trans aD hnew));clear hrows;focus (go_wp2_with fail)
  refine aF.out _ _ (Grown.trans aD hnew) (λhNext=>?_);clear aF Kz aD;refine Zz hNext (λaD=>?_);clear hNext hnew;try simp only[Act.put,sL,sZ,sS]
  refine tk 11 aD ?_;refine tk 12 aD ?_;refine bz ?_;rotate_left;refine ac (λKz aF=>?_) AllReadyH.nil;go_simp;focus (try go_wp2_with fail)
  (with_reducible refine Zp (t:=5) ?_)
  intro w12 fC hnew;have h12:=Hd (VA (x:=B1) fC.out);have hz:=Hd (Grown.trans aD hnew);replace h9:=Hd (h9.out.below hz.out);replace h10:=Hd (h10.out.below hz.out);replace aW:=Hd (Grown.trans aW.out hz.out)
  (try replace h11:=Hd (h11.out.below hz.out))
  (try replace kE:=Hd (kE.out.below hz.out))
  (try replace k2:=ZX k2 hz.out)
  (try replace kv:=ZX kv hz.out)
  (try replace kx:=ZX kx hz.out)
  clear hz fC;refine aF.out _ _ (Grown.trans aD hnew) (λhNext=>?_);clear aF Kz aD;refine Zz hNext (λaD=>?_);clear hNext hnew;try simp only[Act.put,sL,sZ,sS]
  refine rd 3 (λKz aF=>?_);go_simp
  (with_reducible refine(wT.out _).mono ?_)
  rintro e w11 ⟨v11,rfl,jQ,hnew⟩;obtain⟨a11,c11,rfl,h11,_⟩:=jQ.arg;rw[hni.out];have hz:=Hd (Grown.trans aD hnew);replace h9:=Hd (h9.out.below hz.out);replace h10:=Hd (h10.out.below hz.out);replace aW:=Hd (Grown.trans aW.out hz.out)
  (try replace h12:=Hd (h12.out.below hz.out))
  (try replace kE:=Hd (kE.out.below hz.out))
  (try replace k2:=ZX k2 hz.out)
  (try replace kv:=ZX kv hz.out)
  (try replace kx:=ZX kx hz.out)
  replace h11:=Hd h11;clear hz jQ;focus (go_wp2_with fail)
  refine aF.out _ _ (Grown.trans aD hnew) (λhNext=>?_);clear aF Kz aD;refine Zz hNext (λaD=>?_);clear hNext hnew;try simp only[Act.put,sL,sZ,sS]
  refine rd 9 (λKz aF=>?_);go_simp;focus (try go_wp2_with fail)
  (with_reducible refine Zp (t:=24) ?_)
  intro w13 jF hnew;have hz:=Hd (Grown.trans aD hnew);replace h9:=Hd (h9.out.below hz.out);replace h10:=Hd (h10.out.below hz.out);replace aW:=Hd (Grown.trans aW.out hz.out)
  (try replace h11:=Hd (h11.out.below hz.out))
  (try replace h12:=Hd (h12.out.below hz.out))
  (try replace kE:=Hd (kE.out.below hz.out))
  (try replace k2:=ZX k2 hz.out)
  (try replace kv:=ZX kv hz.out)
  (try replace kx:=ZX kx hz.out)
  have hrows:=Hd (CF jF.out jD.out hni.out rfl hnt.out h9.out h11.out h12.out h10.out);clear hz jF;refine aF.out _ _ (Grown.trans aD hnew) (λhNext=>?_);clear aF Kz aD;refine Zz hNext (λaD=>?_);clear hNext hnew;try simp only[Act.put,sL,sZ,sS]
  refine rd 10 (λKz aF=>?_);go_simp
  (with_reducible refine(Uw _ [P0,NI,[B1],NT] 4 _ (hrows.out.below aD) rfl dX iQ.out iT.out).mono ?_)
  rintro e w14 ⟨v14,rfl,mG,hnew⟩;have hfo:=Hd (mG.mono (show w.heap.size<=_ from Nat.le_trans hb2.out.size (Nat.le_trans aW.out.size aD.size)));replace aW:=Hd (Grown.trans aW.out (Grown.trans aD hnew));clear hrows;focus (go_wp2_with fail)
  refine aF.out _ _ (Grown.trans aD hnew) (λhNext=>?_);clear aF Kz aD;refine Zz hNext (λaD=>?_);clear hNext hnew;try simp only[Act.put,sL,sZ,sS]
  refine tk 11 aD ?_;refine tk 12 aD ?_;refine bz ?_;all_goals
   have hfin:=Hd (hb2.out.trans ((Grown.trans aW.out aD).mono hb2.out.size));clear aD;go_wp2_with fail;go_ret2;exact⟨_,rfl,by rw[hout.out];simpa using hfo.out,hfin.out⟩
theorem Cg(x:Rc)(hx:x.Ok)(hk:x.kind=4)(hc:x.chk=0)(ea:Nat->Addr)(w:World)(H:aQ 298 aK w ea):Calls Tryz.prog 120 #[.agg x.list.toArray] w (Xm x w):=by
 have hs:=Rc.size hx;have hck:=Hd (λW h=>U1 x hx hc ea W h);have hsz:(Tryz.prog.info? 49).map (·.size)=some x.list.toArray.size:=by rw[hs];kernel_rfl
 have fH:=(Rc.chk0 hc).2.1;have hout:x.out=x.head++Zh x.tick:=by unfold Rc.out;rw[if_neg aB,if_neg aB,if_neg aB]
 have hhd:x.head=[4]++Zh x.obj:=by unfold Rc.head;rw[hk];rfl
 have hcf:=Rc.kept x hx 49;rw[hk] at hcf;have hlo:=Hd (λW=>QR x.obj W hx.obj.1 hx.obj.2);have hlt:=Hd (λW=>QR x.tick W hx.tick.1 hx.tick.2);have wT:=Hd (λW=>QR x.id W hx.id.1 hx.id.2);have hno:=Hd (Zk x.obj);have hnt:=Hd (Zk x.tick);have hni:=Hd (Zk x.id);rw[hhd] at hout;generalize Zh x.obj=NO at*;generalize Zh x.tick=NT at*;generalize Zh x.id=NI at*;clear hhd fH hk hc;generalize hR:x.list.toArray=R at*;replace hR:=Hd hR;replace hcf:=Hd hcf;replace hout:=Hd hout;replace H:=Hd H;have hrow:=Hd (heap_alloc_new w (.cells R 49));have hb:=Hd (show Below w.heap.size w (w.alloc (.cells R 49)) from bR.alloc nZ _);have hzc:=Tryz.underlying49;obtain⟨X,hX⟩:=aA x;generalize x.obj=vo at*;generalize x.tick=vt at*;generalize x.id=vi at*;generalize x.way=vw at*;generalize x.index=vx at*;generalize x.verdict=vv at*;generalize x.name=vn at*;clear hx hs;go_enter Tryz.func120,Tryz.ntmps120;go_wp2_with (with_reducible refine Ze rfl 49 (.tmp 1) rfl w.heap.size R _ rfl hrow hzc rfl hsz ?_);with_reducible refine(hck.out _ (H.out.below hb.out)).mono ?_
 rintro e w2 ⟨rfl,hnew⟩;have hrow2:=Hd ((hnew.block _ (Zb hrow.out)).trans hrow.out);have hb2:=Hd (hb.out.trans (hnew.mono hb.out.size));clear hnew hrow hb hck;go_wp2_with fail;have k0:=λW h=>(hcf.out _ _ hrow2.out W h).1;have k1:=λW h=>(hcf.out _ _ hrow2.out W h).2.1;have hdr:Hid (Grown w2 w2.drew):=Hd (Grown.drew (Grown.refl w2));go_cut [5] from 14 to 22 (λs5 wx=>aN w2.heap.size wx s5 ([4]++NO)/\Grown w2 wx)
 case first=>
  refine wp_region_held_drew (S:=(Grown w2)) kX hdr.out (λaD=>?_);generalize World.drew w2=wd at*;refine tk 0 aD ?_;refine tk 1 aD ?_;refine tk 2 aD ?_;refine tk 4 aD ?_;refine tk 5 aD ?_;refine fZ [3,6] ?_;refine ac (λKz aF=>?_) ?_;go_simp;focus (try go_wp2_with fail)
  (with_reducible refine Zp (t:=5) ?_)
  intro w5 hx5 hnew;have dS:=Hd (YC (x:=4) (base:=w2.heap.size) hx5.out aD.size)
  (try replace h3:=Hd (h3.out.below hnew))
  clear hx5;refine aF.out _ _ (Below.trans aD (Below.mono hnew (Below.size aD))) ?_;clear aF Kz aD;intro aD;try clear hnew
  try simp only[Act.put,sL,sZ,sS]
  refine rd 6 (λKz aF=>?_);go_simp
  (with_reducible refine(hlo.out _).mono ?_)
  rintro e w3 ⟨v3,rfl,ho3,hnew⟩
  (try replace dS:=Hd (aN.below dS.out hnew nZ))
  obtain⟨g3,c3,e3,_⟩:=ho3.form (by rw[hno.out];omega);subst e3;obtain⟨a4,c4,e4,h3,_⟩:=ho3.arg;cases e4;rw[hno.out];replace h3:=Hd h3;clear ho3;focus (go_wp2_with fail)
  refine aF.out _ _ (Below.trans aD (Below.mono hnew (Below.size aD))) ?_;clear aF Kz aD;intro aD;try clear hnew
  try simp only[Act.put,sL,sZ,sS]
  refine rd 7 (λKz aF=>?_);rw[if_pos bT]
  (refine YD (.tmp 17) (.tmp 20) rfl w2.heap.size _ [4] rfl dS _ _ NO 8 rfl hno h3 dX dX aD.size ?_)
  intro v9 w9 fB lK oK;have hS:=Below.grown aD lK.out aD.size (λk hk=>(World.ownsRow.lt dS.out k hk).1);refine aF.out _ _ hS ?_;clear aF Kz aD hS;intro aD;try simp only[Act.put]
  refine tk 8 aD ?_;refine bz ?_;rotate_left;refine ac (λKz aF=>?_) AllReadyH.nil;go_simp
  (with_reducible refine(hlo.out _).mono ?_)
  rintro e w3 ⟨v3,rfl,ho3,hnew⟩
  (try replace dS:=Hd (aN.below dS.out hnew nZ))
  obtain⟨g3,c3,e3,_⟩:=ho3.form (by rw[hno.out];omega);subst e3;obtain⟨a4,c4,e4,h3,_⟩:=ho3.arg;cases e4;rw[hno.out];replace h3:=Hd h3;clear ho3;focus (go_wp2_with fail)
  refine aF.out _ _ (Below.trans aD (Below.mono hnew (Below.size aD))) ?_;clear aF Kz aD;intro aD;try clear hnew
  try simp only[Act.put,sL,sZ,sS]
  refine rd 3 (λKz aF=>?_);go_simp;focus (try go_wp2_with fail)
  (with_reducible refine Zp (t:=5) ?_)
  intro w5 hx5 hnew;have dS:=Hd (YC (x:=4) (base:=w2.heap.size) hx5.out aD.size)
  (try replace h3:=Hd (h3.out.below hnew))
  clear hx5;refine aF.out _ _ (Below.trans aD (Below.mono hnew (Below.size aD))) ?_;clear aF Kz aD;intro aD;try clear hnew
  try simp only[Act.put,sL,sZ,sS]
  refine rd 7 (λKz aF=>?_);rw[if_pos bT]
  (refine YD (.tmp 17) (.tmp 20) rfl w2.heap.size _ [4] rfl dS _ _ NO 8 rfl hno h3 dX dX aD.size ?_)
  intro v9 w9 fB lK oK;have hS:=Below.grown aD lK.out aD.size (λk hk=>(World.ownsRow.lt dS.out k hk).1);refine aF.out _ _ hS ?_;clear aF Kz aD hS;intro aD;try simp only[Act.put]
  refine tk 8 aD ?_;refine bz ?_;all_goals
   go_wp2_with fail;go_meet;exact⟨fB.out,aD⟩
 case rest=>
  obtain⟨fB,ji⟩:=hcut;obtain⟨q0,q1,q2,q3,q4,q5,q6,q7⟩:=hcf.out _ _ hrow2.out wc ji;have jD:([4]++NO).length=9:=by simp[hno.out]
  generalize [4]++NO=P0 at*;replace jD:=Hd jD;replace ji:=Hd ji;replace fB:=Hd fB;obtain⟨a9,c9,e9,h9,_⟩:=fB.out.arg;rw[jD.out] at e9;subst e9;replace h9:=Hd h9;clear k0 k1 hdr;go_wp2_with fail;with_reducible refine(hlt.out _).mono ?_
  rintro e w10 ⟨v10,rfl,gm,hnew⟩;obtain⟨wD,c10,rfl,h10,_⟩:=gm.arg;rw[hnt.out];replace h9:=Hd (h9.out.below hnew);replace fB:=Hd (aN.below fB.out hnew nZ);replace h10:=Hd h10;have aW:=Hd (Grown.trans ji.out hnew);clear hnew gm q0 q1 q2 q3 q4 q5 q6 q7;obtain⟨q0,q1,q2,q3,q4,q5,q6,q7⟩:=hcf.out _ _ hrow2.out w10 aW.out;have hbs:w2.heap.size<=w10.heap.size:=aW.out.size;go_wp2_with (at_builtin;refine Vh rfl (.tmp 82) (.tmp 83) rfl w2.heap.size _ P0 rfl fB wD c10 NT 8 rfl hnt h10 (by rw[jD.out];decide) dX hbs ?_;intro v11 w11 jQ mo;have hfin:=Hd (hb2.out.trans ((Below.trans aW.out mo.out).mono hb2.out.size)));go_ret2;exact⟨_,rfl,by rw[hout.out];exact jQ.out.mono hb2.out.size,hfin.out⟩
theorem Pf(x:Rc)(hx:x.Ok)(hc:x.chk=0)(ea:Nat->Addr)(w:World)(H:aQ 298 aK w ea):Calls Tryz.prog 120 #[.agg x.list.toArray] w (Xm x w):=by
 obtain⟨hk,_⟩:=Rc.chk0 hc;rcases(show x.kind=1\/x.kind=2\/x.kind=3\/x.kind=4 by omega) with h|h|h|h
 ·exact HY x hx h hc ea w H
 ·exact Br x hx h hc ea w H
 ·exact BT x hx h hc ea w H
 ·exact Cg x hx h hc ea w H
theorem UK(x:Rc)(hx:x.Ok)(hc:x.chk=0)(a:Option Addr)(c:Nat)(n:Nat)(w:World)(ha:aJ w a c x.out)(hn:x.out.length=n)(hm:n<=1000)(dR:∀ ad,a=some ad->∃ b o,ad=⟨b,o,none⟩/\b<w.heap.size)(ea:Nat->Addr)(H:aQ 298 aK w ea) :
  Calls Tryz.prog 29 #[.slice a n c] w (GB x w):=by
 obtain⟨hk,_⟩:=Rc.chk0 hc;rcases(show x.kind=1\/x.kind=2\/x.kind=3\/x.kind=4 by omega) with h|h|h|h
 ·exact Ty x hx h hc a c n w ha hn hm dR ea H
 ·exact Uj 2 (.inl rfl) x hx h hc a c n w ha hn hm dR ea H
 ·exact Uj 3 (.inr (.inl rfl)) x hx h hc a c n w ha hn hm dR ea H
 ·exact Uj 4 (.inr (.inr rfl)) x hx h hc a c n w ha hn hm dR ea H
end Go.Proofs.YtpdhceiodgnbmaaGreatDoor
