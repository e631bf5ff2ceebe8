import Derived.Test.YtpdhceiodgnbmaaGreatDoorF0ReplaysSaid
import Derived.Test.YtpdhceiodgnbmaaGreatDoorF1ReplaysSaid
import Derived.Test.YtpdhceiodgnbmaaGreatDoorF36ReplaysSaid
import Derived.Test.YtpdhceiodgnbmaaGreatDoorF35ReplaysSaid
set_option linter.unusedVariables false
set_option linter.unusedSimpArgs false
set_option linter.unnecessarySimpa false
set_option maxRecDepth 100000
set_option maxHeartbeats 8000000
namespace Go.Proofs.YtpdhceiodgnbmaaGreatDoor
open Go.RowKit
theorem Tn(bs:List UInt8)(b o c:Nat)(m:Nat)(q:P6)(N:Int)(hN:(N != 0)=true)(y:Rc)(hyy:y=yR1 bs m q)(hy:y.Ok)(w:World)(ha:ArgB w (some ⟨b,o,none⟩) c bs)(hn:bs.length=(91+m))(hm:(91+m)<=1000)(hk:((bs.getD 0 0).toNat:Int)=1)(h9:(bs.getD 9 0).toNat=m)(hpar:∀ W,Below w.heap.size w W->Calls Tryz.prog 83 #[.slice (some ⟨b,o+(10+m),none⟩) 9 (c-(10+m))] W λe w2=>e=.returned (.tuple #[.agg q.list.toArray,.int .i64 N])/\Below W.heap.size W w2):Calls Tryz.prog 37 #[.slice (some ⟨b,o,none⟩) (91+m) c] w (QV Rc.zero N w):=by
 have hca:=λW hW=>Qm ha W hW
 have hnc:=Hd (λW hW=>Q1 ha oX W hW)
 rw[hn] at hca
 rw[hn] at hnc
 have hbl:b<w.heap.size:=Q3 ha oX
 have hbd:=Hd (ZF (1))
 have s78:(Rc.ofKind (1)).list.toArray.size=78:=by rw[List.size_toArray,Rc.len (x:=Rc.ofKind (1)) Zh Zh]
 have i8:(Tryz.prog.info? 54).map (·.size)=some (Rc.ofKind (1)).list.toArray.size:=by rw[s78];kernel_rfl
 have z8:(Tryz.zeroCells54).size=(Rc.ofKind (1)).list.toArray.size:=by rw[s78];kernel_rfl
 have hVo:=Rc.all_one (Rc.ofKind (1))
 have iZ:(Tryz.prog.info? 54).map (·.size)=some (Tryz.zeroCells54).size:=kX
 have hZo:(Tryz.zeroCells54).all (·.oneCell')=true:=by rw[Rc.zeroR];exact Rc.all_one Rc.zero
 have hu:=Tryz.underlying54
 have i1:(Tryz.prog.info? 3).map (·.size)=some 1:=kX
 have hrk0:∀ (W:World) g,W.heap[g]? = some (.cells (Rc.ofKind (1)).list.toArray 54 (0,0))->W.cell? ⟨g,0,none⟩=some (.int .i64 (1)):=λW g h=>by rw[Za h];rfl
 replace hrk0:=Hd hrk0
 unfold yR1 at hyy
 have hm9:m<=255:=by have:=(bs.getD 9 0).toNat_lt;omega
 have hno:=Hd (λW hW=>hnc.out W hW 1 8 oX)
 have hnt:=Hd (λW hW=>hnc.out W hW (83+m) 8 oX)
 generalize ZJ (cut bs 1 8) 0=vo at*
 generalize ZJ (cut bs (83+m) 8) 0=vt at*
 have h9c:=λW hW=>hca W hW 9 oX
 rw[h9] at h9c
 replace h9c:=Hd h9c
 have hst0:(Rc.ofKind 1).list.toArray.setIfInBounds 1 (.int .i64 vo)=({ Rc.ofKind 1 with obj:=vo }:Rc).list.toArray:=Rc.set1 (Rc.ofKind 1) vo
 have hj0:1<(Rc.ofKind 1).list.toArray.size:=by rw[List.size_toArray,Rc.len (x:=Rc.ofKind 1) Zh Zh];decide
 have hst1:({ Rc.ofKind 1 with obj:=vo }:Rc).list.toArray.setIfInBounds 77 (.int .i64 vt)=({ Rc.ofKind 1 with obj:=vo,tick:=vt }:Rc).list.toArray:=Rc.set77 (x:=({ Rc.ofKind 1 with obj:=vo }:Rc)) Zh Zh vt
 have hj1:77<({ Rc.ofKind 1 with obj:=vo }:Rc).list.toArray.size:=by rw[List.size_toArray,Rc.len (x:=({ Rc.ofKind 1 with obj:=vo }:Rc)) Zh Zh];decide
 obtain⟨nm,hnm⟩:∃ nm:ByteArray,nm=⟨(cut bs 10 m).toArray⟩:=⟨_,rfl⟩
 rw[<-hnm] at hyy
 have hst2:({ Rc.ofKind 1 with obj:=vo,tick:=vt }:Rc).list.toArray.setIfInBounds 3 (.string nm)=({ Rc.ofKind 1 with obj:=vo,tick:=vt,name:=nm }:Rc).list.toArray:=Rc.set3 (({ Rc.ofKind 1 with obj:=vo,tick:=vt }:Rc)) nm
 have hj2:3<({ Rc.ofKind 1 with obj:=vo,tick:=vt }:Rc).list.toArray.size:=by rw[List.size_toArray,Rc.len (x:=({ Rc.ofKind 1 with obj:=vo,tick:=vt }:Rc)) Zh Zh];decide
 have hpt0:ZU ({ Rc.ofKind 1 with obj:=vo,tick:=vt,name:=nm }:Rc).list.toArray 4 q.list.toArray.toList=({ Rc.ofKind 1 with obj:=vo,tick:=vt,name:=nm,p:=q }:Rc).list.toArray:=by rw[List.toList_toArray];exact Rc.patch_p _ _
 have hps0:4+q.list.toArray.size<=({ Rc.ofKind 1 with obj:=vo,tick:=vt,name:=nm }:Rc).list.toArray.size:=by rw[List.size_toArray,List.size_toArray,Rc.len (x:=({ Rc.ofKind 1 with obj:=vo,tick:=vt,name:=nm }:Rc)) Zh Zh,P6.len];decide
 obtain⟨rt,hrt⟩:∃ rt,rt=cut bs (19+m) 32:=⟨_,rfl⟩
 have hrl:rt.length=32:=by rw[hrt];exact(QU ha (19+m) 32 oX).2
 rw[<-hrt] at hyy
 have hpt1:ZU ({ Rc.ofKind 1 with obj:=vo,tick:=vt,name:=nm,p:=q }:Rc).list.toArray 10 (cB rt)=({ Rc.ofKind 1 with obj:=vo,tick:=vt,name:=nm,p:=q,root:=rt }:Rc).list.toArray:=Rc.patch_root (x:=({ Rc.ofKind 1 with obj:=vo,tick:=vt,name:=nm,p:=q }:Rc)) Zh hrl
 have hps1:10+32<=({ Rc.ofKind 1 with obj:=vo,tick:=vt,name:=nm,p:=q }:Rc).list.toArray.size:=by rw[List.size_toArray,Rc.len (x:=({ Rc.ofKind 1 with obj:=vo,tick:=vt,name:=nm,p:=q }:Rc)) Zh Zh];decide
 obtain⟨fl,hfl⟩:∃ fl,fl=cut bs (51+m) 32:=⟨_,rfl⟩
 have hfll:fl.length=32:=by rw[hfl];exact(QU ha (51+m) 32 oX).2
 rw[<-hfl] at hyy
 have hpt2:ZU ({ Rc.ofKind 1 with obj:=vo,tick:=vt,name:=nm,p:=q,root:=rt }:Rc).list.toArray 42 (cB fl)=({ Rc.ofKind 1 with obj:=vo,tick:=vt,name:=nm,p:=q,root:=rt,file:=fl }:Rc).list.toArray:=Rc.patch_file (x:=({ Rc.ofKind 1 with obj:=vo,tick:=vt,name:=nm,p:=q,root:=rt }:Rc)) hrl Zh hfll
 have hps2:42+32<=({ Rc.ofKind 1 with obj:=vo,tick:=vt,name:=nm,p:=q,root:=rt }:Rc).list.toArray.size:=by rw[List.size_toArray,Rc.len (x:=({ Rc.ofKind 1 with obj:=vo,tick:=vt,name:=nm,p:=q,root:=rt }:Rc)) hrl Zh];decide
 have iY:(Tryz.prog.info? 54).map (·.size)=some y.list.toArray.size:=by rw[Rc.size hy];kernel_rfl
 have zY:(Tryz.zeroCells54).size=y.list.toArray.size:=by rw[Rc.size hy];kernel_rfl
 have hYo:=Rc.all_one y
 have ip:(Tryz.prog.info? 52).map (·.size)=some q.list.toArray.size:=by rw[List.size_toArray,P6.len];kernel_rfl
 have zp:(#[.int .i64 0,.int .i64 0,.int .i64 0,.int .i64 0,.int .i64 0,.int .i64 0]:Array Value).size=q.list.toArray.size:=Eq.symm (by rw[List.size_toArray,P6.len];rfl)
 have op:=X5 (P6.one q)
 have hup:=Tryz.underlying52
 have hck:=Hd (λW=>Yv y hy W)
 have hkY:∀ (W:World) g,W.heap[g]? = some (.cells { Rc.ofKind 1 with obj:=vo,tick:=vt }.list.toArray 54 (0,0))->W.cell? ⟨g,0,none⟩=some (.int .i64 1):=λW g h=>by rw[Za h];rfl
 have hch:Hid (((y.chk:Int)=0->∀ W,Below w.heap.size w W->QB y w (.returned (.tuple #[.agg y.list.toArray,.int .i64 0])) W)/\(((y.chk:Int) != 0)=true->∀ W,Below w.heap.size w W->QB y w (.returned (.tuple #[.agg Rc.zero.list.toArray,.int .i64 (y.chk:Int)])) W)):=Hd ⟨λe W hW=>⟨by rw[if_pos oX,e],hW⟩,λe W hW=>⟨by rw[if_neg (by simpa using e)],hW⟩⟩
 have hM0:Hid ((y.chk:Int)=0\/((y.chk:Int) != 0)=true):=Hd (by by_cases h:(y.chk:Int)=0;exact .inl h;exact .inr (by simpa using h))
 rw[<-hyy] at hpt2
 have hl1:(cB rt).length=Nat.min 32 32:=by rw[Zg,hrl];rfl
 have hl2:(cB fl).length=Nat.min 32 32:=by rw[Zg,hfll];rfl
 have hac:=λW (hW:Below w.heap.size w W)=>ha.below hW
 have hbn:bs.length=91+m:=hn
 replace hbn:=Hd hbn
 have hf1:=hps1
 have hf2:=hps2
 rw[<-show (cB rt).length=32 from hl1] at hf1
 rw[<-show (cB fl).length=32 from hl2] at hf2
 generalize (y.chk:Int)=M at*
 generalize hYl:y.list.toArray=Y at*
 generalize ({ Rc.ofKind 1 with obj:=vo }:Rc).list.toArray=R1 at*
 generalize ({ Rc.ofKind 1 with obj:=vo,tick:=vt }:Rc).list.toArray=R2 at*
 generalize ({ Rc.ofKind 1 with obj:=vo,tick:=vt,name:=nm }:Rc).list.toArray=R3 at*
 generalize ({ Rc.ofKind 1 with obj:=vo,tick:=vt,name:=nm,p:=q }:Rc).list.toArray=R4 at*
 generalize ({ Rc.ofKind 1 with obj:=vo,tick:=vt,name:=nm,p:=q,root:=rt }:Rc).list.toArray=R5 at*
 generalize hPP:q.list.toArray=PP at*
 replace hkY:=Hd hkY
 replace hac:=Hd hac
 replace hpar:=Hd hpar
 clear hyy hYl hy
 replace hst0:=Hd hst0
 replace hpt0:=Hd hpt0
 replace hst1:=Hd hst1
 replace hpt1:=Hd hpt1
 replace hst2:=Hd hst2
 replace hpt2:=Hd hpt2
 have hcl:91+m<=c:=by have:=ha.len;omega
 replace hnm:=Hd hnm
 replace hrt:=Hd hrt
 replace hfl:=Hd hfl
 replace hrl:=Hd hrl
 replace hfll:=Hd hfll
 clear ha hn hm
 generalize hRK:(Rc.ofKind (1)).list.toArray=RK at*
 have hZe:Hid (∀ m:Int,Ending.returned (.tuple #[.agg Tryz.zeroCells54,.int .i64 m])=Ending.returned (.tuple #[.agg Rc.zero.list.toArray,.int .i64 m])):=Hd (λv=>by rw[Rc.zeroR])
 replace hRK:=Hd hRK
 have hz1:Hid (((w.alloc (.cells Tryz.zeroCells54 54)).alloc (.cells Tryz.zeroCells54 54)).heap[w.heap.size]? = some (.cells Tryz.zeroCells54 54 (0,0))):=Hd (by rw[Zk,if_neg sX,Zk,if_pos rfl])
 have hZp:Hid (((w.alloc (.cells Tryz.zeroCells54 54)).alloc (.cells Tryz.zeroCells54 54)).heap[w.heap.size+1]? = some (.cells Tryz.zeroCells54 54 (0,0))):=Hd (by rw[Zk,if_pos sX])
 have hb1:Below w.heap.size w (w.alloc (.cells Tryz.zeroCells54 54)):=bR.alloc nR _
 have hb2:=Hd (hb1.alloc sX (.cells Tryz.zeroCells54 54))
 have hs2:((w.alloc (.cells Tryz.zeroCells54 54)).alloc (.cells Tryz.zeroCells54 54)).heap.size=w.heap.size+2:=sX
 replace hca:=Hd hca
 have hc0:=hca.out _ hb1 0 oX
 rw[Nat.add_zero] at hc0
 replace hb1:=Hd hb1
 replace hs2:=Hd hs2
 rw[hk] at hc0
 clear hk
 go_enter Tryz.func37,Tryz.ntmps37
 go_wp2_with (first
  | ((with_reducible refine wL (.build 54 _) ?_);refine Zm rfl 54 [(0,.tmp 17)] rfl [(0,.int .i64 (1))] rfl _ (hbd.out _) ?_)
  | ((with_reducible refine wL (.store 54 (.tmp 4) _) ?_);(refine Zc rfl 54 (.tmp 4) (.tmp 18) rfl (w.heap.size+1) _ RK rfl rfl hZp i8 z8 hVo ?_);intro w3 hU3;have hP3:=Hd hU3.out.here;have hbw3:=Hd (hb2.out.trans (hU3.out.below oX));have hz3:=Hd ((hU3.out.block _ oX).trans hz1.out);have hs3:w.heap.size+2=w3.heap.size:=hs2.out.symm.trans hU3.out.size.symm;replace hs3:=Hd hs3;have k0:=hrk0.out _ _ hP3.out;have hb4:Below w3.heap.size w3 (w3.alloc (.cells #[.int .i64 0,.int .i64 0,.int .i64 30,.int .i64 26,.int .i64 17] 3)):=bR.alloc nR _;have hz4:=Hd ((hb4.block _ (Zb hz3.out)).trans hz3.out);have hP4:=Hd ((hb4.block _ (Zb hP3.out)).trans hP3.out);have hbw4:=Hd (hbw3.out.trans (hb4.mono hbw3.out.size));clear hb4;have k0f:=hrk0.out _ _ hP4.out;have k9:=h9c.out _ hbw3.out;have k9f:=h9c.out _ hbw4.out))
 obtain⟨w4,hw4⟩:∃ W,W=w3.alloc (.cells #[.int .i64 0,.int .i64 0,.int .i64 30,.int .i64 26,.int .i64 17] 3):=⟨_,rfl⟩
 rw[<-hw4] at hz4 hP4 hbw4 k0f k9f ⊢
 have hs4:w.heap.size+2<=w4.heap.size:=by rw[hw4];have:=hs3.out;simp;omega
 clear hw4 k0 k0f k9
 have k0:=hrk0.out _ _ hP4.out
 obtain⟨M8,hM8⟩:∃ M8:Nat,M8=83+m:=⟨_,rfl⟩
 rw[show (10+(m:Int)+9+64+8)=(M8:Int)+8 from by omega]
 have hcm:M8+8<=c:=oX
 have hcm2:(M8:Int)<=(c:Int):=oX
 have hcm3:¬(c=M8):=oX
 have e9:IntKind.i64.wrap (10+(m:Int)+9)=10+(m:Int)+9:=IntWalk.i64_in _ oX
 have e41:IntKind.i64.wrap (10+(m:Int)+41)=10+(m:Int)+41:=IntWalk.i64_in _ oX
 have e73:IntKind.i64.wrap (10+(m:Int)+73)=10+(m:Int)+73:=IntWalk.i64_in _ oX
 have is1:(Tryz.prog.info? 9).map (·.size)=some 1:=kX
 with_reducible refine(hno.out _ hbw4.out).mono ?_
 rintro e w5 ⟨rfl,hx5⟩
 obtain rfl:=hx5.symm
 go_wp2_with ((with_reducible refine wL (.store 3 (.tmp 61) _) ?_);(refine Zu rfl 3 54 (.tmp 61) (.tmp 60) rfl (w.heap.size+1) 1 RK (.int .i64 vo) rfl rfl hP4 hj0 i1 rfl ?_);intro w6 hU6;rw[hst0.out] at hU6;have hP6:=Hd hU6.out.here;have hz6:=Hd ((hU6.out.block _ oX).trans hz4.out);have hbw6:=Hd (hbw4.out.trans (hU6.out.below oX)))
 rw[show 91+m-(83+m)=8 from by omega]
 with_reducible refine(hnt.out _ hbw6.out).mono ?_
 rintro e w7 ⟨rfl,hx7⟩
 obtain rfl:=hx7.symm
 go_wp2_with (first
  | ((with_reducible refine wL (.store 3 (.tmp 67) _) ?_);(refine Zu rfl 3 54 (.tmp 67) (.tmp 66) rfl (w.heap.size+1) 77 R1 (.int .i64 vt) rfl rfl hP6 hj1 i1 rfl ?_);intro w8 hU8;rw[hst1.out] at hU8;have hP8:=Hd hU8.out.here;have hz8:=Hd ((hU8.out.block _ oX).trans hz6.out);have hbw8:=Hd (hbw6.out.trans (hU8.out.below oX));have k1:=hkY.out _ _ hP8.out;have k91:=h9c.out _ hbw8.out;have cvn:=T4 (QU (hac.out _ hbw8.out) 10 m (by rw[hbn.out];omega)).1 m (QU (hac.out _ hbw8.out) 10 m (by rw[hbn.out];omega)).2;rw[<-hnm.out] at cvn)
  | ((with_reducible refine wL (.store 9 (.tmp 81) _) ?_);(refine Zu rfl 9 54 (.tmp 81) (.tmp 80) rfl (w.heap.size+1) 3 R2 (.string nm) rfl rfl hP8 hj2 is1 rfl ?_);intro w9 hU9;rw[hst2.out] at hU9;have hP9:=Hd hU9.out.here;have hz9:=Hd ((hU9.out.block _ oX).trans hz8.out);have hbw9:=Hd (hbw8.out.trans (hU9.out.below oX))))
 with_reducible refine(hpar.out _ hbw9.out).mono ?_
 rintro e w10 ⟨rfl,hb10⟩
 have hP10:=Hd ((hb10.block _ (Zb hP9.out)).trans hP9.out)
 have hz10:=Hd ((hb10.block _ (Zb hz9.out)).trans hz9.out)
 have hbw10:=Hd (hbw9.out.trans (hb10.mono hbw9.out.size))
 have hs10:w.heap.size<=w10.heap.size:=hbw10.out.size
 clear hb10 k1 k91 cvn
 have hZ7:=Hd (heap_alloc_new w10 (.cells #[.int .i64 0,.int .i64 0,.int .i64 0,.int .i64 0,.int .i64 0,.int .i64 0] 52))
 go_wp2_with (first
  | ((with_reducible refine wL (.store 52 (.tmp 7) _) ?_);(refine Zc rfl 52 (.tmp 7) (.tmp 89) rfl w10.heap.size _ PP rfl rfl hZ7 ip zp op ?_);intro w11 hU11;have hb11:=Hd ((Below.alloc (Below.refl w10.heap.size w10) nR _).trans (hU11.out.below nR));have hz11:=Hd ((hb11.out.block _ (Zb hz10.out)).trans hz10.out);have hbw11:=Hd (hbw10.out.trans (hb11.out.mono hbw10.out.size)))
  | ((with_reducible refine wL (.store 54 (.tmp 2) _) ?_);(refine Zc rfl 54 (.tmp 2) (.tmp 93) rfl w.heap.size _ Tryz.zeroCells54 rfl rfl hz11 iZ rfl hZo ?_);intro w10 hU10))
 refine Zf rfl rfl hu rfl iZ hU10.out.here ?_
 exact⟨hZe.out N,hbw11.out.trans (hU10.out.below nR)⟩
def yR2(bs:List UInt8):Rc:=({ Rc.ofKind 2 with obj:=ZJ (cut bs 1 8) 0,tick:=ZJ (cut bs 22 8) 0,id:=ZJ (cut bs 9 8) 0,way:=((bs.getD 17 0).toNat:Int),index:=ZJ (cut bs 18 4) 0 }:Rc)
theorem Mo(bs:List UInt8)(b o c:Nat)(y:Rc)(hyy:y=yR2 bs)(hy:y.Ok)(w:World)(ha:ArgB w (some ⟨b,o,none⟩) c bs)(hn:bs.length=30)(hm:30<=1000)(hk:((bs.getD 0 0).toNat:Int)=2):Calls Tryz.prog 37 #[.slice (some ⟨b,o,none⟩) 30 c] w (QB y w):=by
 have hca:=λW hW=>Qm ha W hW
 have hnc:=Hd (λW hW=>Q1 ha oX W hW)
 rw[hn] at hca
 rw[hn] at hnc
 have hbl:b<w.heap.size:=Q3 ha oX
 have hbd:=Hd (ZF (2))
 have s78:(Rc.ofKind (2)).list.toArray.size=78:=by rw[List.size_toArray,Rc.len (x:=Rc.ofKind (2)) Zh Zh]
 have i8:(Tryz.prog.info? 54).map (·.size)=some (Rc.ofKind (2)).list.toArray.size:=by rw[s78];kernel_rfl
 have z8:(Tryz.zeroCells54).size=(Rc.ofKind (2)).list.toArray.size:=by rw[s78];kernel_rfl
 have hVo:=Rc.all_one (Rc.ofKind (2))
 have iZ:(Tryz.prog.info? 54).map (·.size)=some (Tryz.zeroCells54).size:=kX
 have hZo:(Tryz.zeroCells54).all (·.oneCell')=true:=by rw[Rc.zeroR];exact Rc.all_one Rc.zero
 have hu:=Tryz.underlying54
 have i1:(Tryz.prog.info? 3).map (·.size)=some 1:=kX
 have hrk0:∀ (W:World) g,W.heap[g]? = some (.cells (Rc.ofKind (2)).list.toArray 54 (0,0))->W.cell? ⟨g,0,none⟩=some (.int .i64 (2)):=λW g h=>by rw[Za h];rfl
 replace hrk0:=Hd hrk0
 unfold yR2 at hyy
 have hno:=Hd (λW hW=>hnc.out W hW 1 8 oX)
 have hnt:=Hd (λW hW=>hnc.out W hW 22 8 oX)
 generalize ZJ (cut bs 1 8) 0=vo at*
 generalize ZJ (cut bs 22 8) 0=vt at*
 have hni:=Hd (λW hW=>hnc.out W hW 9 8 oX)
 generalize ZJ (cut bs 9 8) 0=vi at*
 have h17:=λW hW=>hca W hW 17 oX
 have hnx:=Hd (λW hW=>hnc.out W hW 18 4 oX)
 generalize ZJ (cut bs 18 4) 0=vx at*
 have hvb:0<=((bs.getD 17 0).toNat:Int)/\((bs.getD 17 0).toNat:Int)<=255:=by have:=(bs.getD 17 0).toNat_lt;omega
 generalize ((bs.getD 17 0).toNat:Int)=vw at*
 have hev:IntKind.i64.wrap vw=vw:=IntWalk.i64_in _ oX
 clear hvb
 replace h17:=Hd h17
 have hst0:(Rc.ofKind 2).list.toArray.setIfInBounds 1 (.int .i64 vo)=({ Rc.ofKind 2 with obj:=vo }:Rc).list.toArray:=Rc.set1 (Rc.ofKind 2) vo
 have hj0:1<(Rc.ofKind 2).list.toArray.size:=by rw[List.size_toArray,Rc.len (x:=Rc.ofKind 2) Zh Zh];decide
 have hst1:({ Rc.ofKind 2 with obj:=vo }:Rc).list.toArray.setIfInBounds 77 (.int .i64 vt)=({ Rc.ofKind 2 with obj:=vo,tick:=vt }:Rc).list.toArray:=Rc.set77 (x:=({ Rc.ofKind 2 with obj:=vo }:Rc)) Zh Zh vt
 have hj1:77<({ Rc.ofKind 2 with obj:=vo }:Rc).list.toArray.size:=by rw[List.size_toArray,Rc.len (x:=({ Rc.ofKind 2 with obj:=vo }:Rc)) Zh Zh];decide
 have hst2:({ Rc.ofKind 2 with obj:=vo,tick:=vt }:Rc).list.toArray.setIfInBounds 2 (.int .i64 vi)=({ Rc.ofKind 2 with obj:=vo,tick:=vt,id:=vi }:Rc).list.toArray:=Rc.set2 (({ Rc.ofKind 2 with obj:=vo,tick:=vt }:Rc)) vi
 have hj2:2<({ Rc.ofKind 2 with obj:=vo,tick:=vt }:Rc).list.toArray.size:=by rw[List.size_toArray,Rc.len (x:=({ Rc.ofKind 2 with obj:=vo,tick:=vt }:Rc)) Zh Zh];decide
 have hst3:({ Rc.ofKind 2 with obj:=vo,tick:=vt,id:=vi }:Rc).list.toArray.setIfInBounds 74 (.int .i64 vw)=({ Rc.ofKind 2 with obj:=vo,tick:=vt,id:=vi,way:=vw }:Rc).list.toArray:=Rc.set74 (x:=({ Rc.ofKind 2 with obj:=vo,tick:=vt,id:=vi }:Rc)) Zh Zh vw
 have hj3:74<({ Rc.ofKind 2 with obj:=vo,tick:=vt,id:=vi }:Rc).list.toArray.size:=by rw[List.size_toArray,Rc.len (x:=({ Rc.ofKind 2 with obj:=vo,tick:=vt,id:=vi }:Rc)) Zh Zh];decide
 have hst4:({ Rc.ofKind 2 with obj:=vo,tick:=vt,id:=vi,way:=vw }:Rc).list.toArray.setIfInBounds 75 (.int .i64 vx)=({ Rc.ofKind 2 with obj:=vo,tick:=vt,id:=vi,way:=vw,index:=vx }:Rc).list.toArray:=Rc.set75 (x:=({ Rc.ofKind 2 with obj:=vo,tick:=vt,id:=vi,way:=vw }:Rc)) Zh Zh vx
 have hj4:75<({ Rc.ofKind 2 with obj:=vo,tick:=vt,id:=vi,way:=vw }:Rc).list.toArray.size:=by rw[List.size_toArray,Rc.len (x:=({ Rc.ofKind 2 with obj:=vo,tick:=vt,id:=vi,way:=vw }:Rc)) Zh Zh];decide
 have iY:(Tryz.prog.info? 54).map (·.size)=some y.list.toArray.size:=by rw[Rc.size hy];kernel_rfl
 have zY:(Tryz.zeroCells54).size=y.list.toArray.size:=by rw[Rc.size hy];kernel_rfl
 have hYo:=Rc.all_one y
 have hck:=Hd (λW=>Yv y hy W)
 have hkY:∀ (W:World) g,W.heap[g]? = some (.cells { Rc.ofKind 2 with obj:=vo,tick:=vt }.list.toArray 54 (0,0))->W.cell? ⟨g,0,none⟩=some (.int .i64 2):=λW g h=>by rw[Za h];rfl
 have hch:Hid (((y.chk:Int)=0->∀ W,Below w.heap.size w W->QB y w (.returned (.tuple #[.agg y.list.toArray,.int .i64 0])) W)/\(((y.chk:Int) != 0)=true->∀ W,Below w.heap.size w W->QB y w (.returned (.tuple #[.agg Rc.zero.list.toArray,.int .i64 (y.chk:Int)])) W)):=Hd ⟨λe W hW=>⟨by rw[if_pos oX,e],hW⟩,λe W hW=>⟨by rw[if_neg (by simpa using e)],hW⟩⟩
 have hM0:Hid ((y.chk:Int)=0\/((y.chk:Int) != 0)=true):=Hd (by by_cases h:(y.chk:Int)=0;exact .inl h;exact .inr (by simpa using h))
 rw[<-hyy] at hst4
 generalize (y.chk:Int)=M at*
 generalize hYl:y.list.toArray=Y at*
 generalize ({ Rc.ofKind 2 with obj:=vo }:Rc).list.toArray=R1 at*
 generalize ({ Rc.ofKind 2 with obj:=vo,tick:=vt }:Rc).list.toArray=R2 at*
 generalize ({ Rc.ofKind 2 with obj:=vo,tick:=vt,id:=vi }:Rc).list.toArray=R3 at*
 generalize ({ Rc.ofKind 2 with obj:=vo,tick:=vt,id:=vi,way:=vw }:Rc).list.toArray=R4 at*
 replace hkY:=Hd hkY
 clear hyy hYl hy
 replace hst0:=Hd hst0
 replace hst1:=Hd hst1
 replace hst2:=Hd hst2
 replace hst3:=Hd hst3
 replace hst4:=Hd hst4
 generalize hRK:(Rc.ofKind (2)).list.toArray=RK at*
 have hZe:Hid (∀ m:Int,Ending.returned (.tuple #[.agg Tryz.zeroCells54,.int .i64 m])=Ending.returned (.tuple #[.agg Rc.zero.list.toArray,.int .i64 m])):=Hd (λv=>by rw[Rc.zeroR])
 replace hRK:=Hd hRK
 have hz1:Hid (((w.alloc (.cells Tryz.zeroCells54 54)).alloc (.cells Tryz.zeroCells54 54)).heap[w.heap.size]? = some (.cells Tryz.zeroCells54 54 (0,0))):=Hd (by rw[Zk,if_neg sX,Zk,if_pos rfl])
 have hZp:Hid (((w.alloc (.cells Tryz.zeroCells54 54)).alloc (.cells Tryz.zeroCells54 54)).heap[w.heap.size+1]? = some (.cells Tryz.zeroCells54 54 (0,0))):=Hd (by rw[Zk,if_pos sX])
 have hb1:Below w.heap.size w (w.alloc (.cells Tryz.zeroCells54 54)):=bR.alloc nR _
 have hb2:=Hd (hb1.alloc sX (.cells Tryz.zeroCells54 54))
 have hs2:((w.alloc (.cells Tryz.zeroCells54 54)).alloc (.cells Tryz.zeroCells54 54)).heap.size=w.heap.size+2:=sX
 replace hca:=Hd hca
 have hc0:=hca.out _ hb1 0 oX
 rw[Nat.add_zero] at hc0
 replace hb1:=Hd hb1
 replace hs2:=Hd hs2
 rw[hk] at hc0
 have hcl:30<=c:=by have:=ha.len;omega
 have hcu1:(17:Int)<=(c:Int):=oX
 have hcu2:¬(c=9):=oX
 have hcu3:(22:Int)<=(c:Int):=oX
 have hcu4:¬(c=18):=oX
 have hct1:¬(c=22):=oX
 have hct2:¬(c-22=0):=oX
 have hct3:¬(22=c):=oX
 clear hn hm hk ha hcl
 go_enter Tryz.func37,Tryz.ntmps37
 go_wp2_with (first
  | ((with_reducible refine wL (.build 54 _) ?_);refine Zm rfl 54 [(0,.tmp 17)] rfl [(0,.int .i64 (2))] rfl _ (hbd.out _) ?_)
  | ((with_reducible refine wL (.store 54 (.tmp 4) _) ?_);(refine Zc rfl 54 (.tmp 4) (.tmp 18) rfl (w.heap.size+1) _ RK rfl rfl hZp i8 z8 hVo ?_);intro w3 hU3;have hP3:=Hd hU3.out.here;have hbw3:=Hd (hb2.out.trans (hU3.out.below oX));have hz3:=Hd ((hU3.out.block _ oX).trans hz1.out);have hs3:w.heap.size+2=w3.heap.size:=hs2.out.symm.trans hU3.out.size.symm;replace hs3:=Hd hs3;have k0:=hrk0.out _ _ hP3.out;have hb4:Below w3.heap.size w3 (w3.alloc (.cells #[.int .i64 0,.int .i64 0,.int .i64 30,.int .i64 26,.int .i64 17] 3)):=bR.alloc nR _;have hz4:=Hd ((hb4.block _ (Zb hz3.out)).trans hz3.out);have hP4:=Hd ((hb4.block _ (Zb hP3.out)).trans hP3.out);have hbw4:=Hd (hbw3.out.trans (hb4.mono hbw3.out.size));clear hb4;have k0f:=hrk0.out _ _ hP4.out))
 obtain⟨w4,hw4⟩:∃ W,W=w3.alloc (.cells #[.int .i64 0,.int .i64 0,.int .i64 30,.int .i64 26,.int .i64 17] 3):=⟨_,rfl⟩
 rw[<-hw4] at hz4 hP4 hbw4 k0f ⊢
 have hs4:w.heap.size+2<=w4.heap.size:=by rw[hw4];have:=hs3.out;simp;omega
 clear hw4 k0 k0f
 have k0:=hrk0.out _ _ hP4.out
 with_reducible refine(hno.out _ hbw4.out).mono ?_
 rintro e w5 ⟨rfl,hx5⟩
 obtain rfl:=hx5.symm
 go_wp2_with ((with_reducible refine wL (.store 3 (.tmp 61) _) ?_);(refine Zu rfl 3 54 (.tmp 61) (.tmp 60) rfl (w.heap.size+1) 1 RK (.int .i64 vo) rfl rfl hP4 hj0 i1 rfl ?_);intro w6 hU6;rw[hst0.out] at hU6;have hP6:=Hd hU6.out.here;have hz6:=Hd ((hU6.out.block _ oX).trans hz4.out);have hbw6:=Hd (hbw4.out.trans (hU6.out.below oX)))
 with_reducible refine(hnt.out _ hbw6.out).mono ?_
 rintro e w7 ⟨rfl,hx7⟩
 obtain rfl:=hx7.symm
 go_wp2_with (((with_reducible refine wL (.store 3 (.tmp 67) _) ?_);(refine Zu rfl 3 54 (.tmp 67) (.tmp 66) rfl (w.heap.size+1) 77 R1 (.int .i64 vt) rfl rfl hP6 hj1 i1 rfl ?_);intro w8 hU8;rw[hst1.out] at hU8;have hP8:=Hd hU8.out.here;have hz8:=Hd ((hU8.out.block _ oX).trans hz6.out);have hbw8:=Hd (hbw6.out.trans (hU8.out.below oX));have k1:=hkY.out _ _ hP8.out))
 have hdd:Hid (Only (λk=>k=w.heap.size+1) w8 w8.drew):=Hd (Only.refl _ _).drew
 have hSB:Hid (∀ W,Only (λk=>k=w.heap.size+1) w8 W->Below w.heap.size w W):=Hd (λW h=>hbw8.out.trans (h.below hbw8.out.size (λk e=>by omega)))
 have h17d:∀ W,Only (λk=>k=w.heap.size+1) w8 W->W.cell? ⟨b,o+17,none⟩=some (.int .u8 vw):=λW h=>h17.out W (hSB.out W h)
 have hPd:Hid (w8.drew.heap[w.heap.size+1]? = some (.cells R2 54 (0,0))):=Hd hP8.out
 clear k1
 refine wp_region_held_drew (S:=(Only (λk=>k=w.heap.size+1) w8)) kX hdd.out (λhOn=>?_)
 generalize World.drew w8=wd at*
 refine tk 0 hOn ?_
 refine tk 1 hOn ?_
 refine tk 3 hOn ?_
 refine tk 4 hOn ?_
 refine tk 5 hOn ?_
 refine tk 6 hOn ?_
 refine tk 7 hOn ?_
 refine tk 8 hOn ?_
 refine rd 2 (λKz hKz=>?_)
 go_simp
 (with_reducible refine(hni.out _ (hSB.out _ hOn)).mono ?_)
 rintro e w5 ⟨rfl,hx5⟩
 obtain rfl:=hx5.symm
 have hS:=hOn
 focus (go_wp2_with fail)
 refine hKz.out _ _ hS ?_
 clear hKz Kz hOn hS
 intro hOn
 try simp only[Act.put,sL,sZ,sS]
 refine rd 9 (λKz hKz=>?_)
 go_simp
 (with_reducible refine(hnx.out _ (hSB.out _ hOn)).mono ?_)
 rintro e w5 ⟨rfl,hx5⟩
 obtain rfl:=hx5.symm
 have hS:=hOn
 focus (go_wp2_with fail)
 refine hKz.out _ _ hS ?_
 clear hKz Kz hOn hS
 intro hOn
 try simp only[Act.put,sL,sZ,sS]
 refine tk 10 hOn ?_
 refine rd 11 (λKz hKz=>?_)
 rw[if_pos (by rfl)]
 (with_reducible refine Yd 3 54 (.tmp 127) (.tmp 119) rfl (w.heap.size+1) 2 R2 (.int .i64 vi) rfl rfl hPd hj2 i1 J3 ?_)
 intro w90 hU90
 rw[hst2.out] at hU90
 have hS:=hOn.trans (Only.ofUpd (D:=λk=>k=w.heap.size+1) hU90.out rfl) (λ_ _ e=>e)
 have hP90:=Hd hU90.out.here
 refine hKz.out _ _ hS ?_
 clear hKz Kz hOn hS
 intro hOn
 try simp only[Act.put]
 refine tk 12 hOn ?_
 refine rd 13 (λKz hKz=>?_)
 rw[if_pos (by rfl)]
 (with_reducible refine Yd 3 54 (.tmp 128) (.tmp 123) rfl (w.heap.size+1) 74 R3 (.int .i64 vw) rfl rfl hP90 hj3 i1 J3 ?_)
 intro w91 hU91
 rw[hst3.out] at hU91
 have hS:=hOn.trans (Only.ofUpd (D:=λk=>k=w.heap.size+1) hU91.out rfl) (λ_ _ e=>e)
 have hP91:=Hd hU91.out.here
 refine hKz.out _ _ hS ?_
 clear hKz Kz hOn hS
 intro hOn
 try simp only[Act.put]
 refine tk 14 hOn ?_
 refine rd 15 (λKz hKz=>?_)
 rw[if_pos (by rfl)]
 (with_reducible refine Yd 3 54 (.tmp 129) (.tmp 126) rfl (w.heap.size+1) 75 R4 (.int .i64 vx) rfl rfl hP91 hj4 i1 J3 ?_)
 intro w92 hU92
 rw[hst4.out] at hU92
 have hS:=hOn.trans (Only.ofUpd (D:=λk=>k=w.heap.size+1) hU92.out rfl) (λ_ _ e=>e)
 have hP92:=Hd hU92.out.here
 refine hKz.out _ _ hS ?_
 clear hKz Kz hOn hS
 intro hOn
 try simp only[Act.put]
 refine dnE ?_
 all_goals
  have hz9:Hid (w92.heap[w.heap.size]? = some (.cells Tryz.zeroCells54 54 (0,0))):=Hd (hOn.heap hz8.out oX)
  have hbw9:=Hd (hSB.out _ hOn)
  go_wp2_with (with_reducible refine Ze rfl 54 (.tmp 4) rfl (w.heap.size+1) Y _ rfl hP92 hu rfl iY ?_)
  with_reducible refine(hck.out _).mono ?_
  rintro e wc ⟨rfl,hbc⟩
  have hzc:=Hd ((hbc.block _ (Zb hz9.out)).trans hz9.out)
  have hPc:=Hd ((hbc.block _ (Zb hP92.out)).trans hP92.out)
  have hbwc:=Hd (hbw9.out.trans (hbc.mono hbw9.out.size))
  clear hbc
  rcases hM0.out with hm0|hm0
  ·have hn0:(M != 0)=false:=by rw[hm0];rfl
   replace hm0:=Hd hm0
   go_wp2_with (first
    | (with_reducible refine Ze rfl 54 (.tmp 4) rfl (w.heap.size+1) Y _ rfl hPc hu rfl iY ?_)
    | ((with_reducible refine wL (.store 54 (.tmp 2) _) ?_);(refine Zc rfl 54 (.tmp 2) (.tmp 147) rfl w.heap.size _ Y rfl rfl hzc iY zY hYo ?_);intro w10 hU10))
   refine Zf rfl rfl hu rfl iY hU10.out.here ?_
   exact hch.out.1 hm0.out _ (hbwc.out.trans (hU10.out.below nR))
  ·go_wp2_with (first
    | ((with_reducible refine wL (.store 54 (.tmp 2) _) ?_);(refine Zc rfl 54 (.tmp 2) (.tmp 145) rfl w.heap.size _ Tryz.zeroCells54 rfl rfl hzc iZ rfl hZo ?_);intro w10 hU10))
   refine Zf rfl rfl hu rfl iZ hU10.out.here ?_
   have hfin:=hch.out.2 hm0 _ (hbwc.out.trans (hU10.out.below nR))
   rw[<-hZe.out M] at hfin
   exact hfin
end Go.Proofs.YtpdhceiodgnbmaaGreatDoor
