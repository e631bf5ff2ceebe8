import Derived.Test.YtpdhceiodgnbmaaGreatDoorF0Safe21Said
import Derived.Test.YtpdhceiodgnbmaaGreatDoorF1Safe21Said
import Derived.Test.YtpdhceiodgnbmaaGreatDoorF26Safe21Said
import Derived.Test.YtpdhceiodgnbmaaGreatDoorF22Safe21Said
set_option linter.unusedVariables false
set_option linter.unusedSimpArgs false
set_option linter.unnecessarySimpa false
set_option maxRecDepth 100000
set_option maxHeartbeats 8000000
namespace Go.Proofs.YtpdhceiodgnbmaaGreatDoor
open Go.RowKit
theorem Tc(x:Rc)(hx:x.Ok)(hk:x.kind=1)(hc:x.chk=0)(a:Option Addr)(c:Nat)(n:Nat)(w:World)(ha:ArgB w a c x.out)(hn:x.out.length=n)(hm:n<=1000)(haf:∀ ad,a=some ad->∃ b o,ad=⟨b,o,none⟩/\b<w.heap.size)(ea:Nat->Addr)(H:Errs 298 errGs w ea) :
  Calls Tryz.prog 29 #[.slice a n c] w (Ko x w):=by
 have hbk:=CB x hx hk hc
 obtain⟨w1,hw1⟩:∃ w1,w1=(w.alloc (.cells Tryz.zeroCells49 49)).alloc (.cells #[.slice a n c,.bool false] 140):=⟨_,rfl⟩
 have hb1:Below w.heap.size w w1:=by rw[hw1];exact(bR.alloc nR _).alloc sX _
 have hs1:w1.heap.size=w.heap.size+2:=by rw[hw1];simp
 have hz1:w1.heap[w.heap.size]? = some (.cells Tryz.zeroCells49 49 (0,0)):=by rw[hw1,Zz,if_neg sX,Zz,if_pos rfl]
 have hq1:w1.heap[w.heap.size+1]? = some (.cells #[.slice a n c,.bool false] 140 (0,0)):=by rw[hw1,Zz,if_pos sX]
 have hr1:RdM w1 (w.heap.size+1) w.heap.size (x.out,false).1 (x.out,false).2:=by
  refine⟨a,c,by rw[hn];exact hq1,ha.below hb1,λad e=>?_⟩
  obtain⟨b,o,h1,h2⟩:=haf ad e
  exact⟨b,o,h1,oX,h2⟩
 have hn0:∀ W,RdM W (w.heap.size+1) w.heap.size (x.out,false).1 (x.out,false).2->Calls Tryz.prog 63 #[.pointer (some ⟨w.heap.size+1,0,none⟩),.int .i64 1] W λe w2=>e=.returned (.int .i64 1)/\RdM w2 (w.heap.size+1) w.heap.size (nB (x.out,false) 1).1 (nB (x.out,false) 1).2/\Only (λk=>k=w.heap.size+1) W w2:=by
  intro W h
  have h:=Z9 (w.heap.size+1) w.heap.size (x.out,false) 1 W h dX (by show x.out.length<=1000000;omega)
  rw[hbk.1] at h
  exact h
 have hsf:=T7 x
 have hml:(nB (x.out,false) 1).1.length<=1000000:=Nat.le_trans (QO _ _) (by show x.out.length<=1000000;omega)
 have hrest:∀ W pp,W.heap[pp]? = some (.cells (Rc.ofKind 1).list.toArray 49 (0,0))->RdM W (w.heap.size+1) w.heap.size (nB (x.out,false) 1).1 (nB (x.out,false) 1).2->pp≠w.heap.size+1->w.heap.size<=pp->Calls Tryz.prog 65 #[.pointer (some ⟨w.heap.size+1,0,none⟩),.pointer (some ⟨pp,0,none⟩)] W λe w2=>∃ g cc,e=.returned (.slice (some ⟨g,0,none⟩) 9 cc)/\ArgB w2 (some ⟨g,0,none⟩) cc (ZF x.p.s x.p.n x.p.k x.p.d x.p.t x.p.r)/\w2.heap[pp]? = some (.cells ({ x with p:=P6.zero }:Rc).list.toArray 49 (0,0))/\RdM w2 (w.heap.size+1) w.heap.size [] false/\Only (λk=>k=pp\/k=w.heap.size+1) W w2:=λW pp h1 h2 h3 h4=>by
  have h:=TH pp (w.heap.size+1) w.heap.size (Rc.ofKind 1) (nB (x.out,false) 1) W Zr Zr rfl h1 h2 h3 h4 hml
  refine h.mono ?_
  rintro e w2 ⟨g,cc,h5,h6,_,h7,h8,h9⟩
  rw[hbk.2.1] at h7
  rw[hbk.2.2.1] at h8
  rw[hbk.2.2.2] at h6
  exact⟨g,cc,h5,h6,h7,h8,h9⟩
 have hck:=Hd (λW h=>VY x hx hc ea W h)
 have hbd:=Hd (QI 1)
 have s78:(Rc.ofKind 1).list.toArray.size=78:=by rw[List.size_toArray,Rc.len (x:=Rc.ofKind 1) Zr Zr]
 have i8:(Tryz.prog.info? 49).map (·.size)=some (Rc.ofKind 1).list.toArray.size:=by rw[s78];kernel_rfl
 have z8:(Tryz.zeroCells49).size=(Rc.ofKind 1).list.toArray.size:=by rw[s78];kernel_rfl
 have hVo:=Rc.all_one (Rc.ofKind 1)
 have iX:(Tryz.prog.info? 49).map (·.size)=some x.list.toArray.size:=by rw[Rc.size hx];kernel_rfl
 have zX:(Tryz.zeroCells49).size=x.list.toArray.size:=by rw[Rc.size hx];kernel_rfl
 have hXo:=Rc.all_one x
 have hu:=Tryz.underlying49
 have hrk0:∀ (W:World) b,W.heap[b]? = some (.cells (Rc.ofKind 1).list.toArray 49 (0,0))->W.cell? ⟨b,0,none⟩=some (.int .i64 1):=λW b h=>by rw[Za h];rfl
 generalize (Rc.ofKind 1).list.toArray=RK at*
 have hpar:∀ W g cc,ArgB W (some ⟨g,0,none⟩) cc (ZF x.p.s x.p.n x.p.k x.p.d x.p.t x.p.r)->Errs 298 errGs W ea->Calls Tryz.prog 66 #[.slice (some ⟨g,0,none⟩) 9 cc] W λe w2=>e=.returned (.tuple #[.agg x.p.list.toArray,.nilIface])/\Below W.heap.size W w2:=λW g cc h1 h2=>Wr x.p ((Rc.chk0 hc).2.2.2 hk).2 g cc W h1 ea h2
 have hpat:Qw ({ x with p:=P6.zero }:Rc).list.toArray 4 x.p.list.toArray.toList=x.list.toArray:=by rw[List.toList_toArray,Rc.patch_p]
 have hpsz:4+x.p.list.toArray.size<=({ x with p:=P6.zero }:Rc).list.toArray.size:=by rw[List.size_toArray,List.size_toArray,Rc.len (x:=({ x with p:=P6.zero }:Rc)) hx.root hx.file,P6.len];decide
 have ip:(Tryz.prog.info? 45).map (·.size)=some x.p.list.toArray.size:=by rw[List.size_toArray,P6.len];kernel_rfl
 have zp:(#[.int .i64 0,.int .i64 0,.int .i64 0,.int .i64 0,.int .i64 0,.int .i64 0]:Array Value).size=x.p.list.toArray.size:=rfl
 have op:=JN (P6.one x.p)
 have hup:=Tryz.underlying45
 generalize x.p.list.toArray=PP at*
 generalize ({ x with p:=P6.zero }:Rc).list.toArray=Y at*
 replace hpar:=Hd hpar
 replace hpat:=Hd hpat
 have hpost:∀ W,Below w.heap.size w W->Ko x w (.returned (.tuple #[.agg x.list.toArray,.nilIface])) W:=λW h=>⟨rfl,h⟩
 generalize hX:x.list.toArray=X at*
 generalize nB (x.out,false) 1=s1 at*
 obtain⟨q,hq⟩:∃ q,q=w.heap.size+1:=⟨_,rfl⟩
 obtain⟨B,hBd⟩:∃ B,B=w.heap.size:=⟨_,rfl⟩
 replace hw1:=Hd hw1
 replace hn0:=Hd hn0
 replace hrest:=Hd hrest
 replace hr1:=Hd hr1
 replace hz1:=Hd hz1
 replace hb1:=Hd hb1
 replace H:=Hd H
 replace hpost:=Hd hpost
 replace hrk0:=Hd hrk0
 clear hbk hn hm haf ha hq1 hml hX hc hk hx
 go_enter Tryz.func29,Tryz.ntmps29
 go_wp2_with fail
 rw[<-hw1.out]
 with_reducible refine(hn0.out _ hr1.out).mono ?_
 rintro e wa ⟨rfl,hra,hoa⟩
 have hza:=Hd (hoa.heap hz1.out oX)
 have hsa:=hoa.size
 have hOa:Only (λk=>k=w.heap.size+1) w1 wa:=hoa
 have hna:w.heap.size+1<wa.heap.size:=oX
 have hZp:=Hd (heap_alloc_new wa (.cells Tryz.zeroCells49 49))
 have hba:Below w.heap.size w wa:=hb1.out.trans (hoa.below oX (λk e=>by omega))
 replace hra:=Hd hra
 replace hba:=Hd hba
 clear hoa hOa
 go_wp2_with (first
  | ((with_reducible refine wL (.build 49 _) ?_);refine Z3 rfl 49 [(0,.tmp 14)] rfl [(0,.int .i64 1)] rfl _ (hbd.out _) ?_)
  | ((with_reducible refine wL (.store 49 (.tmp 5) _) ?_);(refine Zc rfl 49 (.tmp 5) (.tmp 15) rfl wa.heap.size _ RK rfl rfl hZp i8 z8 hVo ?_);intro w3 hU3;have hP3:=Hd hU3.out.here;have hb3:=Hd ((Below.alloc (Below.refl wa.heap.size wa) nR (.cells Tryz.zeroCells49 49)).trans (hU3.out.below nR));have hr3:=Hd (hra.out.only (D:=λ_=>False) (Only.ofBelow hb3.out) (λe=>e) (λk e=>e.elim));have hz3:=Hd ((hb3.out.block _ (Zb hza.out)).trans hza.out);have k0:=hrk0.out _ _ hP3.out;obtain⟨a3,c3,hq3,_⟩:=hr3.out;rw[hsf] at hq3;have j1:=Za hq3 1;have hbw3:=Hd (hba.out.trans (hb3.out.mono hba.out.size));clear hq3))
 with_reducible refine(Z2 1 1 4 _).mono ?_
 rintro e w4 ⟨rfl,rfl⟩
 have hi4:inB 1 1 4=true:=dX
 go_wp2_with fail
 with_reducible refine(hrest.out _ _ hP3.out hr3.out oX oX).mono ?_
 rintro e w5 ⟨gp,cp,rfl,hgp,hP5,hr5,ho5⟩
 have hz5:=Hd (ho5.heap hz3.out oX)
 have hbw5:=Hd (hbw3.out.trans (ho5.below hbw3.out.size (λk e=>by omega)))
 obtain⟨a5,c5,hq5,_⟩:=hr5
 clear j1 k0
 have j1:=Za hq5 1
 have j0:=Za hq5 0
 clear hq5 ho5
 replace hP5:=Hd hP5
 have hH5:=Hd (H.out.below hbw5.out)
 replace hgp:=Hd hgp
 have hnl:=λW=>@Lib.run_eql_slice_nil Tryz.prog W 24 5 (some ⟨gp,0,none⟩) 9 cp 0 0 Tryz.underlying24
 go_wp2_with fail
 with_reducible refine(hpar.out _ _ _ hgp.out hH5.out).mono ?_
 rintro e w7 ⟨rfl,hb7⟩
 have hP7:=Hd ((hb7.block _ (Zb hP5.out)).trans hP5.out)
 have hz7:=Hd ((hb7.block _ (Zb hz5.out)).trans hz5.out)
 have hbw7:=Hd (hbw5.out.trans (hb7.mono hbw5.out.size))
 have hs7:w.heap.size<=w7.heap.size:=hbw7.out.size
 clear hb7 j0 j1
 have hZ7:=Hd (heap_alloc_new w7 (.cells #[.int .i64 0,.int .i64 0,.int .i64 0,.int .i64 0,.int .i64 0,.int .i64 0] 45))
 go_wp2_with (first
  | ((with_reducible refine wL (.store 45 (.tmp 7) _) ?_);(refine Zc rfl 45 (.tmp 7) (.tmp 54) rfl w7.heap.size _ PP rfl rfl hZ7 ip zp op ?_);intro w8 hU8;have hb8:=Hd ((Below.alloc (Below.refl w7.heap.size w7) nR _).trans (hU8.out.below nR));have hP8:=Hd ((hb8.out.block _ (Zb hP7.out)).trans hP7.out);have hz8:=Hd ((hb8.out.block _ (Zb hz7.out)).trans hz7.out);have hbw8:=Hd (hbw7.out.trans (hb8.out.mono hbw7.out.size));have hp8:=Hd hU8.out.here)
  | ((with_reducible refine wL (.load 45 (.tmp 7)) ?_);refine Zd rfl 45 (.tmp 7) rfl w7.heap.size PP _ rfl hp8 hup rfl ip ?_)
  | ((with_reducible refine wL (.store 45 (.tmp 61) _) ?_);(refine ZZ rfl 45 49 (.tmp 61) (.tmp 60) rfl wa.heap.size 4 Y PP rfl rfl hP8 ip hpsz op ?_);intro w9 hU9;rw[hpat.out] at hU9;have hP9:=Hd hU9.out.here;have hz9:=Hd ((hU9.out.block _ oX).trans hz8.out);have hbw9:=Hd (hbw8.out.trans (hU9.out.below oX)))
  | (with_reducible refine Zd rfl 49 (.tmp 5) rfl wa.heap.size X _ rfl hP9 hu rfl iX ?_))
 have hH9:=Hd (H.out.below hbw9.out)
 with_reducible refine(hck.out _ hH9.out).mono ?_
 rintro e w6 ⟨rfl,hb6⟩
 have hP6:=Hd ((hb6.block _ (Zb hP9.out)).trans hP9.out)
 have hz6:=Hd ((hb6.block _ (Zb hz9.out)).trans hz9.out)
 have hbw6:=Hd (hbw9.out.trans (hb6.mono hbw9.out.size))
 clear hb6
 go_wp2_with (first
  | (with_reducible refine Zd rfl 49 (.tmp 5) rfl wa.heap.size X _ rfl hP6 hu rfl iX ?_)
  | ((with_reducible refine wL (.store 49 (.tmp 2) _) ?_);(refine Zc rfl 49 (.tmp 2) (.tmp 68) rfl w.heap.size _ X rfl rfl hz6 iX zX hXo ?_);intro w10 hU10))
 exact Zl rfl rfl hu rfl iX hU10.out.here (hpost.out _ (hbw6.out.trans (hU10.out.below nR)))
theorem MI(x:Rc)(hx:x.Ok)(hk:x.kind=1)(hc:x.chk=0)(ea:Nat->Addr)(w:World)(H:Errs 298 errGs w ea):Calls Tryz.prog 120 #[.agg x.list.toArray] w (Xg x w):=by
 have hs:=Rc.size hx
 have hck:=Hd (λW h=>VY x hx hc ea W h)
 have hsz:(Tryz.prog.info? 49).map (·.size)=some x.list.toArray.size:=by rw[hs];kernel_rfl
 have hnums:=(Rc.chk0 hc).2.1
 have hout:x.out=x.head++([b8 (x.name.size:Int)]++(x.name.data.toList++(ZF x.p.s x.p.n x.p.k x.p.d x.p.t x.p.r++(x.root++(x.file++Zk x.tick))))):=by unfold Rc.out;rw[if_pos hk]
 have hhd:x.head=[1]++Zk x.obj:=by unfold Rc.head;rw[hk];rfl
 have hcf:=Rc.kept x hx 49
 rw[hk] at hcf
 have hlo:=Hd (λW=>Q9 x.obj W hx.obj.1 hx.obj.2)
 have hlt:=Hd (λW=>Q9 x.tick W hx.tick.1 hx.tick.2)
 have hli:=Hd (λW=>Q9 x.id W hx.id.1 hx.id.2)
 have hno:=Hd (Zm x.obj)
 have hnt:=Hd (Zm x.tick)
 have hni:=Hd (Zm x.id)
 obtain⟨hlabt,hbad⟩:=(Rc.chk0 hc).2.2.2 hk
 have hpo:=Up hbad
 have hsz12:x.name.size<=12:=Gh hlabt
 have hwv:IntKind.u8.wrap (x.name.size:Int)=((b8 (x.name.size:Int)).toNat:Int):=by rw[Q0 _ oX];rw[IntKind.wrap_u8];omega
 have hpb:=Hd (λW (h:Errs 298 errGs W ea)=>LD x.p.s x.p.n x.p.k x.p.d x.p.t x.p.r W hpo _ (UJ h))
 have hbl:=Hd (show (ZF x.p.s x.p.n x.p.k x.p.d x.p.t x.p.r).length=9 from rfl)
 have hrf:=Hd (λ(W:World) b h=>WU x hx 49 (W:=W) (b:=b) h)
 have hff:=Hd (λ(W:World) b h=>Lj x hx 49 (W:=W) (b:=b) h)
 have hrl:=Hd hx.root
 have hfl:=Hd hx.file
 have hpf:=λ(W:World) (b:Nat) (h:W.heap[b]? = some (.cells x.list.toArray 49 (0,0)))=>ZM h (o:=4) (n:=6) (Rc.sub_p x)
 have i4:(Tryz.prog.info? 45).map (·.size)=some x.p.list.length:=by rw[P6.len];kernel_rfl
 have hup:=Tryz.underlying45
 have hnm:=Hd (show x.name.data.toList.length=x.name.size by simp)
 have hsm:=Hd (show x.name.size<=1000000 by omega)
 obtain⟨PP,hPP⟩:∃ PP,PP=x.p.list.toArray:=⟨_,rfl⟩
 have hpb2:Hid (∀ W,Errs 298 errGs W ea->Calls Tryz.prog 143 #[.agg PP] W λe w2=>∃ b,e=.returned (.tuple #[.slice (some ⟨b,0,none⟩) 9 9,.nilIface])/\ArgB w2 (some ⟨b,0,none⟩) 9 (ZF x.p.s x.p.n x.p.k x.p.d x.p.t x.p.r)/\Below W.heap.size W w2):=by rw[hPP];exact hpb
 replace hPP:=Hd hPP
 replace hpf:=Hd hpf
 rw[hhd] at hout
 generalize Zk x.obj=NO at*
 generalize Zk x.tick=NT at*
 generalize Zk x.id=NI at*
 generalize b8 (x.name.size:Int)=BN at*
 generalize ZF x.p.s x.p.n x.p.k x.p.d x.p.t x.p.r=PB at*
 generalize x.root=RB at*
 generalize x.file=FB at*
 generalize x.p.list=lp at*
 clear hlabt hbad hpo hpb
 clear hhd hnums hk hc
 generalize hR:x.list.toArray=R at*
 replace hR:=Hd hR
 replace hcf:=Hd hcf
 replace hout:=Hd hout
 replace H:=Hd H
 have hrow:=Hd (heap_alloc_new w (.cells R 49))
 have hb:=Hd (show Below w.heap.size w (w.alloc (.cells R 49)) from bR.alloc nR _)
 have hzc:=Tryz.underlying49
 obtain⟨X,hX⟩:∃ X,X=x:=⟨_,rfl⟩
 generalize x.obj=vo at*
 generalize x.tick=vt at*
 generalize x.id=vi at*
 generalize x.way=vw at*
 generalize x.index=vx at*
 generalize x.verdict=vv at*
 generalize x.name=vn at*
 clear hx hs
 go_enter Tryz.func120,Tryz.ntmps120
 go_wp2_with (with_reducible refine Zd rfl 49 (.tmp 1) rfl w.heap.size R _ rfl hrow hzc rfl hsz ?_)
 with_reducible refine(hck.out _ (H.out.below hb.out)).mono ?_
 rintro e w2 ⟨rfl,hnew⟩
 have hrow2:=Hd ((hnew.block _ (Zb hrow.out)).trans hrow.out)
 have hb2:=Hd (hb.out.trans (hnew.mono hb.out.size))
 clear hnew hrow hb hck
 go_wp2_with fail
 have k0:=λW h=>(hcf.out _ _ hrow2.out W h).1
 have k1:=λW h=>(hcf.out _ _ hrow2.out W h).2.1
 have hdr:Hid (Grown w2 w2.drew):=Hd (Grown.drew (Grown.refl w2))
 go_cut [5] from 14 to 22 (λs5 wx=>OwnB w2.heap.size wx s5 ([1]++NO)/\Grown w2 wx)
 case first=>
  refine wp_region_held_drew (S:=(Grown w2)) kX hdr.out (λhOn=>?_)
  generalize World.drew w2=wd at*
  refine tk 0 hOn ?_
  refine tk 1 hOn ?_
  refine tk 2 hOn ?_
  refine tk 4 hOn ?_
  refine tk 5 hOn ?_
  refine rds [3,6] ?_
  refine ac (λKz hKz=>?_) ?_
  go_simp
  focus (try go_wp2_with fail)
  (with_reducible refine Zq (t:=5) ?_)
  intro w5 hx5 hnew
  have hO5:=Hd (Y6 (x:=1) (base:=w2.heap.size) hx5.out hOn.size)
  (try replace h3:=Hd (h3.out.below hnew))
  clear hx5
  refine hKz.out _ _ (Below.trans hOn (Below.mono hnew (Below.size hOn))) ?_
  clear hKz Kz hOn
  intro hOn
  try clear hnew
  try simp only[Act.put,sL,sZ,sS]
  refine rd 6 (λKz hKz=>?_)
  go_simp
  (with_reducible refine(hlo.out _).mono ?_)
  rintro e w3 ⟨v3,rfl,ho3,hnew⟩
  (try replace hO5:=Hd (OwnB.below hO5.out hnew nR))
  obtain⟨g3,c3,e3,_⟩:=ho3.form (by rw[hno.out];omega)
  subst e3
  obtain⟨a4,c4,e4,h3,_⟩:=ho3.arg
  cases e4
  rw[hno.out]
  replace h3:=Hd h3
  clear ho3
  focus (go_wp2_with fail)
  refine hKz.out _ _ (Below.trans hOn (Below.mono hnew (Below.size hOn))) ?_
  clear hKz Kz hOn
  intro hOn
  try clear hnew
  try simp only[Act.put,sL,sZ,sS]
  refine rd 7 (λKz hKz=>?_)
  rw[if_pos (by rfl)]
  (refine Xa (.tmp 17) (.tmp 20) rfl w2.heap.size _ [1] rfl hO5 _ _ NO 8 rfl hno h3 dX dX hOn.size ?_)
  intro v9 w9 ho9 hd9 hm9
  have hS:=Below.grown hOn hd9.out hOn.size (λk hk=>(World.ownsRow.lt hO5.out k hk).1)
  refine hKz.out _ _ hS ?_
  clear hKz Kz hOn hS
  intro hOn
  try simp only[Act.put]
  refine tk 8 hOn ?_
  refine dnE ?_
  rotate_left
  refine ac (λKz hKz=>?_) AllReadyH.nil
  go_simp
  (with_reducible refine(hlo.out _).mono ?_)
  rintro e w3 ⟨v3,rfl,ho3,hnew⟩
  (try replace hO5:=Hd (OwnB.below hO5.out hnew nR))
  obtain⟨g3,c3,e3,_⟩:=ho3.form (by rw[hno.out];omega)
  subst e3
  obtain⟨a4,c4,e4,h3,_⟩:=ho3.arg
  cases e4
  rw[hno.out]
  replace h3:=Hd h3
  clear ho3
  focus (go_wp2_with fail)
  refine hKz.out _ _ (Below.trans hOn (Below.mono hnew (Below.size hOn))) ?_
  clear hKz Kz hOn
  intro hOn
  try clear hnew
  try simp only[Act.put,sL,sZ,sS]
  refine rd 3 (λKz hKz=>?_)
  go_simp
  focus (try go_wp2_with fail)
  (with_reducible refine Zq (t:=5) ?_)
  intro w5 hx5 hnew
  have hO5:=Hd (Y6 (x:=1) (base:=w2.heap.size) hx5.out hOn.size)
  (try replace h3:=Hd (h3.out.below hnew))
  clear hx5
  refine hKz.out _ _ (Below.trans hOn (Below.mono hnew (Below.size hOn))) ?_
  clear hKz Kz hOn
  intro hOn
  try clear hnew
  try simp only[Act.put,sL,sZ,sS]
  refine rd 7 (λKz hKz=>?_)
  rw[if_pos (by rfl)]
  (refine Xa (.tmp 17) (.tmp 20) rfl w2.heap.size _ [1] rfl hO5 _ _ NO 8 rfl hno h3 dX dX hOn.size ?_)
  intro v9 w9 ho9 hd9 hm9
  have hS:=Below.grown hOn hd9.out hOn.size (λk hk=>(World.ownsRow.lt hO5.out k hk).1)
  refine hKz.out _ _ hS ?_
  clear hKz Kz hOn hS
  intro hOn
  try simp only[Act.put]
  refine tk 8 hOn ?_
  refine dnE ?_
  all_goals
   go_wp2_with fail
   go_meet
   exact⟨ho9.out,hOn⟩
 case rest=>
  obtain⟨ho9,hg9⟩:=hcut
  obtain⟨q0,q1,q2,q3,q4,q5,q6,q7⟩:=hcf.out _ _ hrow2.out wc hg9
  have hP0:([1]++NO).length=9:=by simp[hno.out]
  generalize [1]++NO=P0 at*
  replace hP0:=Hd hP0
  replace hg9:=Hd hg9
  replace ho9:=Hd ho9
  obtain⟨a9,c9,e9,h9,_⟩:=ho9.out.arg
  rw[hP0.out] at e9
  subst e9
  replace h9:=Hd h9
  clear k0 k1 hdr
  go_wp2_with fail
  with_reducible refine(hlt.out _).mono ?_
  rintro e w10 ⟨v10,rfl,ho10,hnew⟩
  obtain⟨a10,c10,rfl,h10,_⟩:=ho10.arg
  rw[hnt.out]
  replace h9:=Hd (h9.out.below hnew)
  replace ho9:=Hd (OwnB.below ho9.out hnew nR)
  replace h10:=Hd h10
  have hg10:=Hd (Grown.trans hg9.out hnew)
  clear hnew ho10 q0 q1 q2 q3 q4 q5 q6 q7
  obtain⟨q0,q1,q2,q3,q4,q5,q6,q7⟩:=hcf.out _ _ hrow2.out w10 hg10.out
  have hrow10:=Hd (H2 hrow2.out hg10.out)
  have hr4:=Hd (hpf.out _ _ hrow10.out)
  have hH10:=Hd (H.out.below (hb2.out.trans (hg10.out.mono hb2.out.size)))
  go_wp2_with ((with_reducible refine wL (.load 45 (.tmp 30)) ?_);refine Z0 rfl 45 (.tmp 30) rfl w.heap.size 4 rfl lp _ hr4.out hup rfl i4 PP hPP ?_)
  with_reducible refine(hpb2.out _ hH10.out).mono ?_
  rintro e w20 ⟨gp,rfl,hp9,hnew⟩
  replace h9:=Hd (h9.out.below hnew)
  replace h10:=Hd (h10.out.below hnew)
  replace hp9:=Hd hp9
  replace hg10:=Hd (Grown.trans hg10.out hnew)
  clear hnew q0 q1 q2 q3 q4 q5 q6 q7 hr4 hrow10 ho9
  obtain⟨q0,q1,q2,q3,q4,q5,q6,q7⟩:=hcf.out _ _ hrow2.out w20 hg10.out
  have hrow20:=Hd (H2 hrow2.out hg10.out)
  have hrr:=Hd (hrf.out _ _ hrow20.out)
  have hff2:=Hd (hff.out _ _ hrow20.out)
  go_wp2_with fail
  have k3:=λW h=>(hcf.out _ _ hrow20.out W h).2.2.2.1
  clear q0 q1 q2 q3 q4 q5 q6 q7
  have hflat1:Hid (1<=([P0,[BN],vn.data.toList,PB,RB,FB,NT]:List (List UInt8)).flatten.length):=Hd (by simp[hP0.out];omega)
  have hflat2:Hid (([P0,[BN],vn.data.toList,PB,RB,FB,NT]:List (List UInt8)).flatten.length<=1000000):=Hd (by simp[hP0.out,hnt.out,hbl.out,hrl.out,hfl.out];omega)
  clear hsz12
  have hraw:=Hd True.intro
  refine J3 kX (λwd hOn=>?_)
  refine tk 0 hOn ?_
  refine tk 1 hOn ?_
  refine tk 2 hOn ?_
  refine tk 3 hOn ?_
  refine tk 4 hOn ?_
  refine tk 6 hOn ?_
  refine tk 7 hOn ?_
  refine tk 9 hOn ?_
  refine tk 10 hOn ?_
  refine tk 11 hOn ?_
  refine tk 12 hOn ?_
  refine tk 13 hOn ?_
  refine tk 14 hOn ?_
  refine tk 17 hOn ?_
  refine rds [5,8] ?_
  refine ac (λKz hKz=>?_) ?_
  go_simp
  focus (try go_wp2_with fail)
  (with_reducible refine Zq (t:=5) ?_)
  intro w12 hx12 hnew
  have h12:=Hd (Vi (x:=BN) hx12.out)
  have hz:=Hd (Grown.trans hOn hnew)
  replace h9:=Hd (h9.out.below hz.out)
  replace h10:=Hd (h10.out.below hz.out)
  replace hg10:=Hd (Grown.trans hg10.out hz.out)
  replace hp9:=Hd (hp9.out.below hz.out)
  replace hrr:=Hd (hrr.out.below hz.out)
  replace hff2:=Hd (hff2.out.below hz.out)
  (try replace h16:=Hd (h16.out.below hz.out))
  (try replace k3:=ZS k3 hz.out)
  clear hz hx12
  refine hKz.out _ _ (Grown.trans hOn hnew) (λhNext=>?_)
  clear hKz Kz hOn
  refine Zv hNext (λhOn=>?_)
  clear hNext hnew
  try simp only[Act.put,sL,sZ,sS]
  refine rd 8 (λKz hKz=>?_)
  rw[if_pos (by rfl)]
  (with_reducible refine MX (.tmp 42) rfl vn rfl hsm.out ?_)
  intro v16 w16 hm16 hnewh
  have hnew:Grown _ _:=hnewh.out
  clear hnewh
  obtain⟨a16,c16,rfl,h16⟩:=hm16.out.arg
  rw[hnm.out]
  replace h16:=Hd h16
  have hz:=Hd (Grown.trans hOn hnew)
  replace h9:=Hd (h9.out.below hz.out)
  replace h10:=Hd (h10.out.below hz.out)
  replace hg10:=Hd (Grown.trans hg10.out hz.out)
  replace hp9:=Hd (hp9.out.below hz.out)
  replace hrr:=Hd (hrr.out.below hz.out)
  replace hff2:=Hd (hff2.out.below hz.out)
  (try replace h12:=Hd (h12.out.below hz.out))
  (try replace k3:=ZS k3 hz.out)
  clear hz hm16
  refine hKz.out _ _ (Grown.trans hOn hnew) (λhNext=>?_)
  clear hKz Kz hOn
  refine Zv hNext (λhOn=>?_)
  clear hNext hnew
  try simp only[Act.put,sL,sZ,sS]
  refine rd 15 (λKz hKz=>?_)
  go_simp
  focus (try go_wp2_with fail)
  (with_reducible refine Zq (t:=24) ?_)
  intro w13 hx13 hnew
  have hz:=Hd (Grown.trans hOn hnew)
  replace h9:=Hd (h9.out.below hz.out)
  replace h10:=Hd (h10.out.below hz.out)
  replace hg10:=Hd (Grown.trans hg10.out hz.out)
  replace hp9:=Hd (hp9.out.below hz.out)
  replace hrr:=Hd (hrr.out.below hz.out)
  replace hff2:=Hd (hff2.out.below hz.out)
  replace h12:=Hd (h12.out.below hz.out)
  replace h16:=Hd (h16.out.below hz.out)
  have hrows:=Hd (DB hx13.out hP0.out rfl hnm.out hbl.out hrl.out hfl.out hnt.out h9.out h12.out h16.out hp9.out hrr.out hff2.out h10.out)
  clear hz hx13
  refine hKz.out _ _ (Grown.trans hOn hnew) (λhNext=>?_)
  clear hKz Kz hOn
  refine Zv hNext (λhOn=>?_)
  clear hNext hnew
  try simp only[Act.put,sL,sZ,sS]
  refine rd 16 (λKz hKz=>?_)
  go_simp
  (with_reducible refine(VW _ [P0,[BN],vn.data.toList,PB,RB,FB,NT] 7 _ (hrows.out.below hOn) rfl dX hflat1.out hflat2.out).mono ?_)
  rintro e w14 ⟨v14,rfl,ho14,hnew⟩
  have hfo:=Hd (ho14.mono (show w.heap.size<=_ from Nat.le_trans hb2.out.size (Nat.le_trans hg10.out.size hOn.size)))
  replace hg10:=Hd (Grown.trans hg10.out (Grown.trans hOn hnew))
  clear hrows
  focus (go_wp2_with fail)
  refine hKz.out _ _ (Grown.trans hOn hnew) (λhNext=>?_)
  clear hKz Kz hOn
  refine Zv hNext (λhOn=>?_)
  clear hNext hnew
  try simp only[Act.put,sL,sZ,sS]
  refine tk 18 hOn ?_
  refine tk 19 hOn ?_
  refine dnE ?_
  rotate_left
  refine ac (λKz hKz=>?_) AllReadyH.nil
  rw[if_pos (by rfl)]
  (with_reducible refine MX (.tmp 42) rfl vn rfl hsm.out ?_)
  intro v16 w16 hm16 hnewh
  have hnew:Grown _ _:=hnewh.out
  clear hnewh
  obtain⟨a16,c16,rfl,h16⟩:=hm16.out.arg
  rw[hnm.out]
  replace h16:=Hd h16
  have hz:=Hd (Grown.trans hOn hnew)
  replace h9:=Hd (h9.out.below hz.out)
  replace h10:=Hd (h10.out.below hz.out)
  replace hg10:=Hd (Grown.trans hg10.out hz.out)
  replace hp9:=Hd (hp9.out.below hz.out)
  replace hrr:=Hd (hrr.out.below hz.out)
  replace hff2:=Hd (hff2.out.below hz.out)
  (try replace h12:=Hd (h12.out.below hz.out))
  (try replace k3:=ZS k3 hz.out)
  clear hz hm16
  refine hKz.out _ _ (Grown.trans hOn hnew) (λhNext=>?_)
  clear hKz Kz hOn
  refine Zv hNext (λhOn=>?_)
  clear hNext hnew
  try simp only[Act.put,sL,sZ,sS]
  refine rd 5 (λKz hKz=>?_)
  go_simp
  focus (try go_wp2_with fail)
  (with_reducible refine Zq (t:=5) ?_)
  intro w12 hx12 hnew
  have h12:=Hd (Vi (x:=BN) hx12.out)
  have hz:=Hd (Grown.trans hOn hnew)
  replace h9:=Hd (h9.out.below hz.out)
  replace h10:=Hd (h10.out.below hz.out)
  replace hg10:=Hd (Grown.trans hg10.out hz.out)
  replace hp9:=Hd (hp9.out.below hz.out)
  replace hrr:=Hd (hrr.out.below hz.out)
  replace hff2:=Hd (hff2.out.below hz.out)
  (try replace h16:=Hd (h16.out.below hz.out))
  (try replace k3:=ZS k3 hz.out)
  clear hz hx12
  refine hKz.out _ _ (Grown.trans hOn hnew) (λhNext=>?_)
  clear hKz Kz hOn
  refine Zv hNext (λhOn=>?_)
  clear hNext hnew
  try simp only[Act.put,sL,sZ,sS]
  refine rd 15 (λKz hKz=>?_)
  go_simp
  focus (try go_wp2_with fail)
  (with_reducible refine Zq (t:=24) ?_)
  intro w13 hx13 hnew
  have hz:=Hd (Grown.trans hOn hnew)
  replace h9:=Hd (h9.out.below hz.out)
  replace h10:=Hd (h10.out.below hz.out)
  replace hg10:=Hd (Grown.trans hg10.out hz.out)
  replace hp9:=Hd (hp9.out.below hz.out)
  replace hrr:=Hd (hrr.out.below hz.out)
  replace hff2:=Hd (hff2.out.below hz.out)
  replace h12:=Hd (h12.out.below hz.out)
  replace h16:=Hd (h16.out.below hz.out)
  have hrows:=Hd (DB hx13.out hP0.out rfl hnm.out hbl.out hrl.out hfl.out hnt.out h9.out h12.out h16.out hp9.out hrr.out hff2.out h10.out)
  clear hz hx13
  refine hKz.out _ _ (Grown.trans hOn hnew) (λhNext=>?_)
  clear hKz Kz hOn
  refine Zv hNext (λhOn=>?_)
  clear hNext hnew
  try simp only[Act.put,sL,sZ,sS]
  refine rd 16 (λKz hKz=>?_)
  go_simp
  (with_reducible refine(VW _ [P0,[BN],vn.data.toList,PB,RB,FB,NT] 7 _ (hrows.out.below hOn) rfl dX hflat1.out hflat2.out).mono ?_)
  rintro e w14 ⟨v14,rfl,ho14,hnew⟩
  have hfo:=Hd (ho14.mono (show w.heap.size<=_ from Nat.le_trans hb2.out.size (Nat.le_trans hg10.out.size hOn.size)))
  replace hg10:=Hd (Grown.trans hg10.out (Grown.trans hOn hnew))
  clear hrows
  focus (go_wp2_with fail)
  refine hKz.out _ _ (Grown.trans hOn hnew) (λhNext=>?_)
  clear hKz Kz hOn
  refine Zv hNext (λhOn=>?_)
  clear hNext hnew
  try simp only[Act.put,sL,sZ,sS]
  refine tk 18 hOn ?_
  refine tk 19 hOn ?_
  refine dnE ?_
  all_goals
   have hfin:=Hd (hb2.out.trans ((Grown.trans hg10.out hOn).mono hb2.out.size))
   clear hOn
   go_wp2_with fail
   go_ret2
   exact⟨_,rfl,by rw[hout.out];simpa using hfo.out,hfin.out⟩
end Go.Proofs.YtpdhceiodgnbmaaGreatDoor
