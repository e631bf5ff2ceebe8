import Derived.Test.YtpdhceiodgnbmaaGreatDoorF0ReplaysSaid
import Derived.Test.YtpdhceiodgnbmaaGreatDoorF1ReplaysSaid
import Derived.Test.YtpdhceiodgnbmaaGreatDoorF35ReplaysSaid
set_option linter.unusedVariables false
set_option linter.unusedSimpArgs false
set_option linter.unnecessarySimpa false
set_option maxRecDepth 100000
set_option maxHeartbeats 8000000
namespace Go.Proofs.YtpdhceiodgnbmaaGreatDoor
open Go.RowKit
def yR3(bs:List UInt8):Rc:=({ Rc.ofKind 3 with obj:=ZJ (cut bs 1 8) 0,tick:=ZJ (cut bs 18 8) 0,id:=ZJ (cut bs 9 8) 0,verdict:=((bs.getD 17 0).toNat:Int) }:Rc)
theorem MU(bs:List UInt8)(b o c:Nat)(y:Rc)(hyy:y=yR3 bs)(hy:y.Ok)(w:World)(ha:ArgB w (some ⟨b,o,none⟩) c bs)(hn:bs.length=26)(hm:26<=1000)(hk:((bs.getD 0 0).toNat:Int)=3):Calls Tryz.prog 37 #[.slice (some ⟨b,o,none⟩) 26 c] w (QB y w):=by
 have hca:=λW hW=>Qm ha W hW
 have hnc:=Hd (λW hW=>Q1 ha oX W hW)
 rw[hn] at hca
 rw[hn] at hnc
 have hbl:b<w.heap.size:=Q3 ha oX
 have hbd:=Hd (ZF (3))
 have s78:(Rc.ofKind (3)).list.toArray.size=78:=by rw[List.size_toArray,Rc.len (x:=Rc.ofKind (3)) Zh Zh]
 have i8:(Tryz.prog.info? 54).map (·.size)=some (Rc.ofKind (3)).list.toArray.size:=by rw[s78];kernel_rfl
 have z8:(Tryz.zeroCells54).size=(Rc.ofKind (3)).list.toArray.size:=by rw[s78];kernel_rfl
 have hVo:=Rc.all_one (Rc.ofKind (3))
 have iZ:(Tryz.prog.info? 54).map (·.size)=some (Tryz.zeroCells54).size:=kX
 have hZo:(Tryz.zeroCells54).all (·.oneCell')=true:=by rw[Rc.zeroR];exact Rc.all_one Rc.zero
 have hu:=Tryz.underlying54
 have i1:(Tryz.prog.info? 3).map (·.size)=some 1:=kX
 have hrk0:∀ (W:World) g,W.heap[g]? = some (.cells (Rc.ofKind (3)).list.toArray 54 (0,0))->W.cell? ⟨g,0,none⟩=some (.int .i64 (3)):=λW g h=>by rw[Za h];rfl
 replace hrk0:=Hd hrk0
 unfold yR3 at hyy
 have hno:=Hd (λW hW=>hnc.out W hW 1 8 oX)
 have hnt:=Hd (λW hW=>hnc.out W hW 18 8 oX)
 generalize ZJ (cut bs 1 8) 0=vo at*
 generalize ZJ (cut bs 18 8) 0=vt at*
 have hni:=Hd (λW hW=>hnc.out W hW 9 8 oX)
 generalize ZJ (cut bs 9 8) 0=vi at*
 have h17:=λW hW=>hca W hW 17 oX
 have hvb:0<=((bs.getD 17 0).toNat:Int)/\((bs.getD 17 0).toNat:Int)<=255:=by have:=(bs.getD 17 0).toNat_lt;omega
 generalize ((bs.getD 17 0).toNat:Int)=vv at*
 have hev:IntKind.i64.wrap vv=vv:=IntWalk.i64_in _ oX
 clear hvb
 replace h17:=Hd h17
 have hst0:(Rc.ofKind 3).list.toArray.setIfInBounds 1 (.int .i64 vo)=({ Rc.ofKind 3 with obj:=vo }:Rc).list.toArray:=Rc.set1 (Rc.ofKind 3) vo
 have hj0:1<(Rc.ofKind 3).list.toArray.size:=by rw[List.size_toArray,Rc.len (x:=Rc.ofKind 3) Zh Zh];decide
 have hst1:({ Rc.ofKind 3 with obj:=vo }:Rc).list.toArray.setIfInBounds 77 (.int .i64 vt)=({ Rc.ofKind 3 with obj:=vo,tick:=vt }:Rc).list.toArray:=Rc.set77 (x:=({ Rc.ofKind 3 with obj:=vo }:Rc)) Zh Zh vt
 have hj1:77<({ Rc.ofKind 3 with obj:=vo }:Rc).list.toArray.size:=by rw[List.size_toArray,Rc.len (x:=({ Rc.ofKind 3 with obj:=vo }:Rc)) Zh Zh];decide
 have hst2:({ Rc.ofKind 3 with obj:=vo,tick:=vt }:Rc).list.toArray.setIfInBounds 2 (.int .i64 vi)=({ Rc.ofKind 3 with obj:=vo,tick:=vt,id:=vi }:Rc).list.toArray:=Rc.set2 (({ Rc.ofKind 3 with obj:=vo,tick:=vt }:Rc)) vi
 have hj2:2<({ Rc.ofKind 3 with obj:=vo,tick:=vt }:Rc).list.toArray.size:=by rw[List.size_toArray,Rc.len (x:=({ Rc.ofKind 3 with obj:=vo,tick:=vt }:Rc)) Zh Zh];decide
 have hst3:({ Rc.ofKind 3 with obj:=vo,tick:=vt,id:=vi }:Rc).list.toArray.setIfInBounds 76 (.int .i64 vv)=({ Rc.ofKind 3 with obj:=vo,tick:=vt,id:=vi,verdict:=vv }:Rc).list.toArray:=Rc.set76 (x:=({ Rc.ofKind 3 with obj:=vo,tick:=vt,id:=vi }:Rc)) Zh Zh vv
 have hj3:76<({ Rc.ofKind 3 with obj:=vo,tick:=vt,id:=vi }:Rc).list.toArray.size:=by rw[List.size_toArray,Rc.len (x:=({ Rc.ofKind 3 with obj:=vo,tick:=vt,id:=vi }:Rc)) Zh Zh];decide
 have iY:(Tryz.prog.info? 54).map (·.size)=some y.list.toArray.size:=by rw[Rc.size hy];kernel_rfl
 have zY:(Tryz.zeroCells54).size=y.list.toArray.size:=by rw[Rc.size hy];kernel_rfl
 have hYo:=Rc.all_one y
 have hck:=Hd (λW=>Yv y hy W)
 have hkY:∀ (W:World) g,W.heap[g]? = some (.cells { Rc.ofKind 3 with obj:=vo,tick:=vt }.list.toArray 54 (0,0))->W.cell? ⟨g,0,none⟩=some (.int .i64 3):=λW g h=>by rw[Za h];rfl
 have hch:Hid (((y.chk:Int)=0->∀ W,Below w.heap.size w W->QB y w (.returned (.tuple #[.agg y.list.toArray,.int .i64 0])) W)/\(((y.chk:Int) != 0)=true->∀ W,Below w.heap.size w W->QB y w (.returned (.tuple #[.agg Rc.zero.list.toArray,.int .i64 (y.chk:Int)])) W)):=Hd ⟨λe W hW=>⟨by rw[if_pos oX,e],hW⟩,λe W hW=>⟨by rw[if_neg (by simpa using e)],hW⟩⟩
 have hM0:Hid ((y.chk:Int)=0\/((y.chk:Int) != 0)=true):=Hd (by by_cases h:(y.chk:Int)=0;exact .inl h;exact .inr (by simpa using h))
 rw[<-hyy] at hst3
 generalize (y.chk:Int)=M at*
 generalize hYl:y.list.toArray=Y at*
 generalize ({ Rc.ofKind 3 with obj:=vo }:Rc).list.toArray=R1 at*
 generalize ({ Rc.ofKind 3 with obj:=vo,tick:=vt }:Rc).list.toArray=R2 at*
 generalize ({ Rc.ofKind 3 with obj:=vo,tick:=vt,id:=vi }:Rc).list.toArray=R3 at*
 replace hkY:=Hd hkY
 clear hyy hYl hy
 replace hst0:=Hd hst0
 replace hst1:=Hd hst1
 replace hst2:=Hd hst2
 replace hst3:=Hd hst3
 generalize hRK:(Rc.ofKind (3)).list.toArray=RK at*
 have hZe:Hid (∀ m:Int,Ending.returned (.tuple #[.agg Tryz.zeroCells54,.int .i64 m])=Ending.returned (.tuple #[.agg Rc.zero.list.toArray,.int .i64 m])):=Hd (λv=>by rw[Rc.zeroR])
 replace hRK:=Hd hRK
 have hz1:Hid (((w.alloc (.cells Tryz.zeroCells54 54)).alloc (.cells Tryz.zeroCells54 54)).heap[w.heap.size]? = some (.cells Tryz.zeroCells54 54 (0,0))):=Hd (by rw[Zk,if_neg sX,Zk,if_pos rfl])
 have hZp:Hid (((w.alloc (.cells Tryz.zeroCells54 54)).alloc (.cells Tryz.zeroCells54 54)).heap[w.heap.size+1]? = some (.cells Tryz.zeroCells54 54 (0,0))):=Hd (by rw[Zk,if_pos sX])
 have hb1:Below w.heap.size w (w.alloc (.cells Tryz.zeroCells54 54)):=bR.alloc nR _
 have hb2:=Hd (hb1.alloc sX (.cells Tryz.zeroCells54 54))
 have hs2:((w.alloc (.cells Tryz.zeroCells54 54)).alloc (.cells Tryz.zeroCells54 54)).heap.size=w.heap.size+2:=sX
 replace hca:=Hd hca
 have hc0:=hca.out _ hb1 0 oX
 rw[Nat.add_zero] at hc0
 replace hb1:=Hd hb1
 replace hs2:=Hd hs2
 rw[hk] at hc0
 have hcl:26<=c:=by have:=ha.len;omega
 have hcu1:(17:Int)<=(c:Int):=oX
 have hcu2:¬(c=9):=oX
 have hct1:¬(c=18):=oX
 have hct2:¬(c-18=0):=oX
 have hct3:¬(18=c):=oX
 clear hn hm hk ha hcl
 go_enter Tryz.func37,Tryz.ntmps37
 go_wp2_with (first
  | ((with_reducible refine wL (.build 54 _) ?_);refine Zm rfl 54 [(0,.tmp 17)] rfl [(0,.int .i64 (3))] rfl _ (hbd.out _) ?_)
  | ((with_reducible refine wL (.store 54 (.tmp 4) _) ?_);(refine Zc rfl 54 (.tmp 4) (.tmp 18) rfl (w.heap.size+1) _ RK rfl rfl hZp i8 z8 hVo ?_);intro w3 hU3;have hP3:=Hd hU3.out.here;have hbw3:=Hd (hb2.out.trans (hU3.out.below oX));have hz3:=Hd ((hU3.out.block _ oX).trans hz1.out);have hs3:w.heap.size+2=w3.heap.size:=hs2.out.symm.trans hU3.out.size.symm;replace hs3:=Hd hs3;have k0:=hrk0.out _ _ hP3.out;have hb4:Below w3.heap.size w3 (w3.alloc (.cells #[.int .i64 0,.int .i64 0,.int .i64 30,.int .i64 26,.int .i64 17] 3)):=bR.alloc nR _;have hz4:=Hd ((hb4.block _ (Zb hz3.out)).trans hz3.out);have hP4:=Hd ((hb4.block _ (Zb hP3.out)).trans hP3.out);have hbw4:=Hd (hbw3.out.trans (hb4.mono hbw3.out.size));clear hb4;have k0f:=hrk0.out _ _ hP4.out))
 obtain⟨w4,hw4⟩:∃ W,W=w3.alloc (.cells #[.int .i64 0,.int .i64 0,.int .i64 30,.int .i64 26,.int .i64 17] 3):=⟨_,rfl⟩
 rw[<-hw4] at hz4 hP4 hbw4 k0f ⊢
 have hs4:w.heap.size+2<=w4.heap.size:=by rw[hw4];have:=hs3.out;simp;omega
 clear hw4 k0 k0f
 have k0:=hrk0.out _ _ hP4.out
 with_reducible refine(hno.out _ hbw4.out).mono ?_
 rintro e w5 ⟨rfl,hx5⟩
 obtain rfl:=hx5.symm
 go_wp2_with ((with_reducible refine wL (.store 3 (.tmp 61) _) ?_);(refine Zu rfl 3 54 (.tmp 61) (.tmp 60) rfl (w.heap.size+1) 1 RK (.int .i64 vo) rfl rfl hP4 hj0 i1 rfl ?_);intro w6 hU6;rw[hst0.out] at hU6;have hP6:=Hd hU6.out.here;have hz6:=Hd ((hU6.out.block _ oX).trans hz4.out);have hbw6:=Hd (hbw4.out.trans (hU6.out.below oX)))
 with_reducible refine(hnt.out _ hbw6.out).mono ?_
 rintro e w7 ⟨rfl,hx7⟩
 obtain rfl:=hx7.symm
 go_wp2_with (((with_reducible refine wL (.store 3 (.tmp 67) _) ?_);(refine Zu rfl 3 54 (.tmp 67) (.tmp 66) rfl (w.heap.size+1) 77 R1 (.int .i64 vt) rfl rfl hP6 hj1 i1 rfl ?_);intro w8 hU8;rw[hst1.out] at hU8;have hP8:=Hd hU8.out.here;have hz8:=Hd ((hU8.out.block _ oX).trans hz6.out);have hbw8:=Hd (hbw6.out.trans (hU8.out.below oX));have k1:=hkY.out _ _ hP8.out))
 have hdd:Hid (Only (λk=>k=w.heap.size+1) w8 w8.drew):=Hd (Only.refl _ _).drew
 have hSB:Hid (∀ W,Only (λk=>k=w.heap.size+1) w8 W->Below w.heap.size w W):=Hd (λW h=>hbw8.out.trans (h.below hbw8.out.size (λk e=>by omega)))
 have h17d:∀ W,Only (λk=>k=w.heap.size+1) w8 W->W.cell? ⟨b,o+17,none⟩=some (.int .u8 vv):=λW h=>h17.out W (hSB.out W h)
 have hPd:Hid (w8.drew.heap[w.heap.size+1]? = some (.cells R2 54 (0,0))):=Hd hP8.out
 clear k1
 refine wp_region_held_drew (S:=(Only (λk=>k=w.heap.size+1) w8)) kX hdd.out (λhOn=>?_)
 generalize World.drew w8=wd at*
 refine tk 0 hOn ?_
 refine tk 1 hOn ?_
 refine tk 3 hOn ?_
 refine tk 4 hOn ?_
 refine tk 5 hOn ?_
 refine tk 6 hOn ?_
 refine rd 2 (λKz hKz=>?_)
 go_simp
 (with_reducible refine(hni.out _ (hSB.out _ hOn)).mono ?_)
 rintro e w5 ⟨rfl,hx5⟩
 obtain rfl:=hx5.symm
 have hS:=hOn
 focus (go_wp2_with fail)
 refine hKz.out _ _ hS ?_
 clear hKz Kz hOn hS
 intro hOn
 try simp only[Act.put,sL,sZ,sS]
 refine tk 7 hOn ?_
 refine rd 8 (λKz hKz=>?_)
 rw[if_pos (by rfl)]
 (with_reducible refine Yd 3 54 (.tmp 139) (.tmp 134) rfl (w.heap.size+1) 2 R2 (.int .i64 vi) rfl rfl hPd hj2 i1 J3 ?_)
 intro w90 hU90
 rw[hst2.out] at hU90
 have hS:=hOn.trans (Only.ofUpd (D:=λk=>k=w.heap.size+1) hU90.out rfl) (λ_ _ e=>e)
 have hP90:=Hd hU90.out.here
 refine hKz.out _ _ hS ?_
 clear hKz Kz hOn hS
 intro hOn
 try simp only[Act.put]
 refine tk 9 hOn ?_
 refine rd 10 (λKz hKz=>?_)
 rw[if_pos (by rfl)]
 (with_reducible refine Yd 3 54 (.tmp 140) (.tmp 138) rfl (w.heap.size+1) 76 R3 (.int .i64 vv) rfl rfl hP90 hj3 i1 J3 ?_)
 intro w91 hU91
 rw[hst3.out] at hU91
 have hS:=hOn.trans (Only.ofUpd (D:=λk=>k=w.heap.size+1) hU91.out rfl) (λ_ _ e=>e)
 have hP91:=Hd hU91.out.here
 refine hKz.out _ _ hS ?_
 clear hKz Kz hOn hS
 intro hOn
 try simp only[Act.put]
 refine dnE ?_
 all_goals
  have hz9:Hid (w91.heap[w.heap.size]? = some (.cells Tryz.zeroCells54 54 (0,0))):=Hd (hOn.heap hz8.out oX)
  have hbw9:=Hd (hSB.out _ hOn)
  go_wp2_with (with_reducible refine Ze rfl 54 (.tmp 4) rfl (w.heap.size+1) Y _ rfl hP91 hu rfl iY ?_)
  with_reducible refine(hck.out _).mono ?_
  rintro e wc ⟨rfl,hbc⟩
  have hzc:=Hd ((hbc.block _ (Zb hz9.out)).trans hz9.out)
  have hPc:=Hd ((hbc.block _ (Zb hP91.out)).trans hP91.out)
  have hbwc:=Hd (hbw9.out.trans (hbc.mono hbw9.out.size))
  clear hbc
  rcases hM0.out with hm0|hm0
  ·have hn0:(M != 0)=false:=by rw[hm0];rfl
   replace hm0:=Hd hm0
   go_wp2_with (first
    | (with_reducible refine Ze rfl 54 (.tmp 4) rfl (w.heap.size+1) Y _ rfl hPc hu rfl iY ?_)
    | ((with_reducible refine wL (.store 54 (.tmp 2) _) ?_);(refine Zc rfl 54 (.tmp 2) (.tmp 147) rfl w.heap.size _ Y rfl rfl hzc iY zY hYo ?_);intro w10 hU10))
   refine Zf rfl rfl hu rfl iY hU10.out.here ?_
   exact hch.out.1 hm0.out _ (hbwc.out.trans (hU10.out.below nR))
  ·go_wp2_with (first
    | ((with_reducible refine wL (.store 54 (.tmp 2) _) ?_);(refine Zc rfl 54 (.tmp 2) (.tmp 145) rfl w.heap.size _ Tryz.zeroCells54 rfl rfl hzc iZ rfl hZo ?_);intro w10 hU10))
   refine Zf rfl rfl hu rfl iZ hU10.out.here ?_
   have hfin:=hch.out.2 hm0 _ (hbwc.out.trans (hU10.out.below nR))
   rw[<-hZe.out M] at hfin
   exact hfin
def yR4(bs:List UInt8):Rc:=({ Rc.ofKind 4 with obj:=ZJ (cut bs 1 8) 0,tick:=ZJ (cut bs 9 8) 0 }:Rc)
theorem MC(bs:List UInt8)(b o c:Nat)(y:Rc)(hyy:y=yR4 bs)(hy:y.Ok)(w:World)(ha:ArgB w (some ⟨b,o,none⟩) c bs)(hn:bs.length=17)(hm:17<=1000)(hk:((bs.getD 0 0).toNat:Int)=4):Calls Tryz.prog 37 #[.slice (some ⟨b,o,none⟩) 17 c] w (QB y w):=by
 have hca:=λW hW=>Qm ha W hW
 have hnc:=Hd (λW hW=>Q1 ha oX W hW)
 rw[hn] at hca
 rw[hn] at hnc
 have hbl:b<w.heap.size:=Q3 ha oX
 have hbd:=Hd (ZF (4))
 have s78:(Rc.ofKind (4)).list.toArray.size=78:=by rw[List.size_toArray,Rc.len (x:=Rc.ofKind (4)) Zh Zh]
 have i8:(Tryz.prog.info? 54).map (·.size)=some (Rc.ofKind (4)).list.toArray.size:=by rw[s78];kernel_rfl
 have z8:(Tryz.zeroCells54).size=(Rc.ofKind (4)).list.toArray.size:=by rw[s78];kernel_rfl
 have hVo:=Rc.all_one (Rc.ofKind (4))
 have iZ:(Tryz.prog.info? 54).map (·.size)=some (Tryz.zeroCells54).size:=kX
 have hZo:(Tryz.zeroCells54).all (·.oneCell')=true:=by rw[Rc.zeroR];exact Rc.all_one Rc.zero
 have hu:=Tryz.underlying54
 have i1:(Tryz.prog.info? 3).map (·.size)=some 1:=kX
 have hrk0:∀ (W:World) g,W.heap[g]? = some (.cells (Rc.ofKind (4)).list.toArray 54 (0,0))->W.cell? ⟨g,0,none⟩=some (.int .i64 (4)):=λW g h=>by rw[Za h];rfl
 replace hrk0:=Hd hrk0
 unfold yR4 at hyy
 have hno:=Hd (λW hW=>hnc.out W hW 1 8 oX)
 have hnt:=Hd (λW hW=>hnc.out W hW 9 8 oX)
 generalize ZJ (cut bs 1 8) 0=vo at*
 generalize ZJ (cut bs 9 8) 0=vt at*
 have hs0:(Rc.ofKind 4).list.toArray.setIfInBounds 1 (.int .i64 vo)=({ Rc.ofKind 4 with obj:=vo }:Rc).list.toArray:=Rc.set1 (Rc.ofKind 4) vo
 have hj0:1<(Rc.ofKind 4).list.toArray.size:=by rw[List.size_toArray,Rc.len (x:=Rc.ofKind 4) Zh Zh];decide
 have hs1:({ Rc.ofKind 4 with obj:=vo }:Rc).list.toArray.setIfInBounds 77 (.int .i64 vt)=({ Rc.ofKind 4 with obj:=vo,tick:=vt }:Rc).list.toArray:=Rc.set77 (x:=({ Rc.ofKind 4 with obj:=vo }:Rc)) Zh Zh vt
 have hj1:77<({ Rc.ofKind 4 with obj:=vo }:Rc).list.toArray.size:=by rw[List.size_toArray,Rc.len (x:=({ Rc.ofKind 4 with obj:=vo }:Rc)) Zh Zh];decide
 have iY:(Tryz.prog.info? 54).map (·.size)=some y.list.toArray.size:=by rw[Rc.size hy];kernel_rfl
 have zY:(Tryz.zeroCells54).size=y.list.toArray.size:=by rw[Rc.size hy];kernel_rfl
 have hYo:=Rc.all_one y
 have hck:=Hd (λW=>Yv y hy W)
 have hkY:∀ (W:World) g,W.heap[g]? = some (.cells { Rc.ofKind 4 with obj:=vo,tick:=vt }.list.toArray 54 (0,0))->W.cell? ⟨g,0,none⟩=some (.int .i64 4):=λW g h=>by rw[Za h];rfl
 have hch:Hid (((y.chk:Int)=0->∀ W,Below w.heap.size w W->QB y w (.returned (.tuple #[.agg y.list.toArray,.int .i64 0])) W)/\(((y.chk:Int) != 0)=true->∀ W,Below w.heap.size w W->QB y w (.returned (.tuple #[.agg Rc.zero.list.toArray,.int .i64 (y.chk:Int)])) W)):=Hd ⟨λe W hW=>⟨by rw[if_pos oX,e],hW⟩,λe W hW=>⟨by rw[if_neg (by simpa using e)],hW⟩⟩
 have hM0:Hid ((y.chk:Int)=0\/((y.chk:Int) != 0)=true):=Hd (by by_cases h:(y.chk:Int)=0;exact .inl h;exact .inr (by simpa using h))
 rw[<-hyy] at hs1
 generalize (y.chk:Int)=M at*
 generalize hYl:y.list.toArray=Y at*
 generalize ({ Rc.ofKind 4 with obj:=vo }:Rc).list.toArray=R1 at*
 rw[<-hyy,hYl] at hkY
 replace hkY:=Hd hkY
 clear hyy hYl hy
 replace hs0:=Hd hs0
 replace hs1:=Hd hs1
 generalize hRK:(Rc.ofKind (4)).list.toArray=RK at*
 have hZe:Hid (∀ m:Int,Ending.returned (.tuple #[.agg Tryz.zeroCells54,.int .i64 m])=Ending.returned (.tuple #[.agg Rc.zero.list.toArray,.int .i64 m])):=Hd (λv=>by rw[Rc.zeroR])
 replace hRK:=Hd hRK
 have hz1:Hid (((w.alloc (.cells Tryz.zeroCells54 54)).alloc (.cells Tryz.zeroCells54 54)).heap[w.heap.size]? = some (.cells Tryz.zeroCells54 54 (0,0))):=Hd (by rw[Zk,if_neg sX,Zk,if_pos rfl])
 have hZp:Hid (((w.alloc (.cells Tryz.zeroCells54 54)).alloc (.cells Tryz.zeroCells54 54)).heap[w.heap.size+1]? = some (.cells Tryz.zeroCells54 54 (0,0))):=Hd (by rw[Zk,if_pos sX])
 have hb1:Below w.heap.size w (w.alloc (.cells Tryz.zeroCells54 54)):=bR.alloc nR _
 have hb2:=Hd (hb1.alloc sX (.cells Tryz.zeroCells54 54))
 have hs2:((w.alloc (.cells Tryz.zeroCells54 54)).alloc (.cells Tryz.zeroCells54 54)).heap.size=w.heap.size+2:=sX
 replace hca:=Hd hca
 have hc0:=hca.out _ hb1 0 oX
 rw[Nat.add_zero] at hc0
 replace hb1:=Hd hb1
 replace hs2:=Hd hs2
 rw[hk] at hc0
 have hcl:17<=c:=by have:=ha.len;omega
 have hct1:¬(c=9):=oX
 have hct2:¬(c-9=0):=oX
 have hct3:¬(9=c):=oX
 clear hn hm hk ha hcl
 go_enter Tryz.func37,Tryz.ntmps37
 go_wp2_with (first
  | ((with_reducible refine wL (.build 54 _) ?_);refine Zm rfl 54 [(0,.tmp 17)] rfl [(0,.int .i64 (4))] rfl _ (hbd.out _) ?_)
  | ((with_reducible refine wL (.store 54 (.tmp 4) _) ?_);(refine Zc rfl 54 (.tmp 4) (.tmp 18) rfl (w.heap.size+1) _ RK rfl rfl hZp i8 z8 hVo ?_);intro w3 hU3;have hP3:=Hd hU3.out.here;have hbw3:=Hd (hb2.out.trans (hU3.out.below oX));have hz3:=Hd ((hU3.out.block _ oX).trans hz1.out);have hs3:w.heap.size+2=w3.heap.size:=hs2.out.symm.trans hU3.out.size.symm;replace hs3:=Hd hs3;have k0:=hrk0.out _ _ hP3.out;have hb4:Below w3.heap.size w3 (w3.alloc (.cells #[.int .i64 0,.int .i64 0,.int .i64 30,.int .i64 26,.int .i64 17] 3)):=bR.alloc nR _;have hz4:=Hd ((hb4.block _ (Zb hz3.out)).trans hz3.out);have hP4:=Hd ((hb4.block _ (Zb hP3.out)).trans hP3.out);have hbw4:=Hd (hbw3.out.trans (hb4.mono hbw3.out.size));clear hb4;have k0f:=hrk0.out _ _ hP4.out))
 obtain⟨w4,hw4⟩:∃ W,W=w3.alloc (.cells #[.int .i64 0,.int .i64 0,.int .i64 30,.int .i64 26,.int .i64 17] 3):=⟨_,rfl⟩
 rw[<-hw4] at hz4 hP4 hbw4 k0f ⊢
 have hs4:w.heap.size+2<=w4.heap.size:=by rw[hw4];have:=hs3.out;simp;omega
 clear hw4 k0 k0f
 have k0:=hrk0.out _ _ hP4.out
 with_reducible refine(hno.out _ hbw4.out).mono ?_
 rintro e w5 ⟨rfl,hx5⟩
 obtain rfl:=hx5.symm
 go_wp2_with ((with_reducible refine wL (.store 3 (.tmp 61) _) ?_);(refine Zu rfl 3 54 (.tmp 61) (.tmp 60) rfl (w.heap.size+1) 1 RK (.int .i64 vo) rfl rfl hP4 hj0 i1 rfl ?_);intro w6 hU6;rw[hs0.out] at hU6;have hP6:=Hd hU6.out.here;have hz6:=Hd ((hU6.out.block _ oX).trans hz4.out);have hbw6:=Hd (hbw4.out.trans (hU6.out.below oX)))
 with_reducible refine(hnt.out _ hbw6.out).mono ?_
 rintro e w7 ⟨rfl,hx7⟩
 obtain rfl:=hx7.symm
 go_wp2_with (first
  | ((with_reducible refine wL (.store 3 (.tmp 67) _) ?_);(refine Zu rfl 3 54 (.tmp 67) (.tmp 66) rfl (w.heap.size+1) 77 R1 (.int .i64 vt) rfl rfl hP6 hj1 i1 rfl ?_);intro w8 hU8;rw[hs1.out] at hU8;have hP8:=Hd hU8.out.here;have hz8:=Hd ((hU8.out.block _ oX).trans hz6.out);have hbw8:=Hd (hbw6.out.trans (hU8.out.below oX));have k1:=hkY.out _ _ hP8.out)
  | (with_reducible refine Ze rfl 54 (.tmp 4) rfl (w.heap.size+1) Y _ rfl hP8 hu rfl iY ?_))
 with_reducible refine(hck.out _).mono ?_
 rintro e wc ⟨rfl,hbc⟩
 have hzc:=Hd ((hbc.block _ (Zb hz8.out)).trans hz8.out)
 have hPc:=Hd ((hbc.block _ (Zb hP8.out)).trans hP8.out)
 have hbwc:=Hd (hbw8.out.trans (hbc.mono hbw8.out.size))
 clear hbc
 rcases hM0.out with hm0|hm0
 ·have hn0:(M != 0)=false:=by rw[hm0];rfl
  replace hm0:=Hd hm0
  go_wp2_with (first
   | (with_reducible refine Ze rfl 54 (.tmp 4) rfl (w.heap.size+1) Y _ rfl hPc hu rfl iY ?_)
   | ((with_reducible refine wL (.store 54 (.tmp 2) _) ?_);(refine Zc rfl 54 (.tmp 2) (.tmp 147) rfl w.heap.size _ Y rfl rfl hzc iY zY hYo ?_);intro w10 hU10))
  refine Zf rfl rfl hu rfl iY hU10.out.here ?_
  exact hch.out.1 hm0.out _ (hbwc.out.trans (hU10.out.below nR))
 ·go_wp2_with (first
   | ((with_reducible refine wL (.store 54 (.tmp 2) _) ?_);(refine Zc rfl 54 (.tmp 2) (.tmp 145) rfl w.heap.size _ Tryz.zeroCells54 rfl rfl hzc iZ rfl hZo ?_);intro w10 hU10))
  refine Zf rfl rfl hu rfl iZ hU10.out.here ?_
  have hfin:=hch.out.2 hm0 _ (hbwc.out.trans (hU10.out.below nR))
  rw[<-hZe.out M] at hfin
  exact hfin
end Go.Proofs.YtpdhceiodgnbmaaGreatDoor
