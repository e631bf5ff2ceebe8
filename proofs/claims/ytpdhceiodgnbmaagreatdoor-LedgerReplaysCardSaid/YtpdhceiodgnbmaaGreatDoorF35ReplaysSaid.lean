import Derived.Test.YtpdhceiodgnbmaaGreatDoorF0ReplaysSaid
import Derived.Test.YtpdhceiodgnbmaaGreatDoorF1ReplaysSaid
import Derived.Test.YtpdhceiodgnbmaaGreatDoorF30ReplaysSaid
import Derived.Test.YtpdhceiodgnbmaaGreatDoorF3ReplaysSaid
import Derived.Test.YtpdhceiodgnbmaaGreatDoorF10ReplaysSaid
import Derived.Test.YtpdhceiodgnbmaaGreatDoorF29ReplaysSaid
import Derived.Lib.SlBuf
set_option linter.unusedVariables false
set_option linter.unusedSimpArgs false
set_option linter.unnecessarySimpa false
set_option maxRecDepth 100000
set_option maxHeartbeats 8000000
namespace Go.Proofs.YtpdhceiodgnbmaaGreatDoor
open Go.RowKit
theorem ZF(k:Int)(W:World):(Instr.build 54 #[(0,.int .i64 k)]).run Tryz.prog W=.ok (.agg (Rc.ofKind k).list.toArray) W:=by
 refine run_build W _ _ _ ?_
 kernel_rfl
theorem J3{x:Int}:(Value.int .i64 x).oneCell'=true:=rfl
def QV(y:Rc)(m:Int)(w:World)(e:Ending)(w':World):Prop:=e=.returned (.tuple #[.agg y.list.toArray,.int .i64 m])/\Below w.heap.size w w'
theorem Q3{w:World}{b o c:Nat}{bs:List UInt8}(h:ArgB w (some ⟨b,o,none⟩) c bs)(h0:0<bs.length):b<w.heap.size:=by
 obtain⟨b2,off,e,hc⟩:=h.row 0 h0
 cases e
 exact World.block_lt_of_cell? w _ hc
def QB(y:Rc)(w:World)(e:Ending)(w':World):Prop:=QV (if y.chk=0 then y else Rc.zero) y.chk w e w'
def cut(bs:List UInt8)(o m:Nat):List UInt8:=(bs.drop o).take m
theorem QU{w:World}{b o c:Nat}{bs:List UInt8}(h:ArgB w (some ⟨b,o,none⟩) c bs)(k m:Nat)(hk:k+m<=bs.length):ArgB w (some ⟨b,o+k,none⟩) (c-k) (cut bs k m)/\(cut bs k m).length=m:=by
 have h1:=(Kj (n:=k) h oX).2
 have h2:=(Kj (n:=m) h1 (by rw[List.length_drop];omega)).1
 exact⟨h2,by unfold cut;rw[List.length_take,List.length_drop];omega⟩
theorem Q1{w:World}{b o c:Nat}{bs:List UInt8}(h:ArgB w (some ⟨b,o,none⟩) c bs)(hm:bs.length<=1000)(W:World)(hW:Below w.heap.size w W)(k m:Nat)(hk:k+m<=bs.length) :
  Calls Tryz.prog 82 #[.slice (some ⟨b,o+k,none⟩) m (c-k)] W λe w'=>e=.returned (.int .i64 (ZJ (cut bs k m) 0))/\W=w':=by
 obtain⟨h1,h2⟩:=QU h k m hk
 have:=M7 _ _ _ W (h1.below hW) oX
 rw[h2] at this
 exact this
theorem Qm{w:World}{b o c:Nat}{bs:List UInt8}(h:ArgB w (some ⟨b,o,none⟩) c bs)(W:World)(hW:Below w.heap.size w W)(i:Nat)(hi:i<bs.length):W.cell? ⟨b,o+i,none⟩=some (.int .u8 ((bs.getD i 0).toNat:Int)):=by
 obtain⟨b2,off,e,hc⟩:=(h.below hW).row i hi
 cases e
 exact hc
theorem UQ(a:Option Addr)(c:Nat)(w:World):Calls Tryz.prog 37 #[.slice a 0 c] w (QV Rc.zero 2 w):=by
 have iZ:(Tryz.prog.info? 54).map (·.size)=some (Tryz.zeroCells54).size:=kX
 have hZo:(Tryz.zeroCells54).all (·.oneCell')=true:=by rw[Rc.zeroR];exact Rc.all_one Rc.zero
 have hu:=Tryz.underlying54
 have hZe:Hid (∀ m:Int,Ending.returned (.tuple #[.agg Tryz.zeroCells54,.int .i64 m])=Ending.returned (.tuple #[.agg Rc.zero.list.toArray,.int .i64 m])):=Hd (λv=>by rw[Rc.zeroR])
 have hz1:=Hd (heap_alloc_new w (.cells Tryz.zeroCells54 54))
 have hb1:=Hd (show Below w.heap.size w (w.alloc (.cells Tryz.zeroCells54 54)) from bR.alloc nR _)
 go_enter Tryz.func37,Tryz.ntmps37
 go_wp2_with (first
  | ((with_reducible refine wL (.store 54 (.tmp 2) _) ?_);(refine Zc rfl 54 (.tmp 2) (.tmp 13) rfl w.heap.size _ Tryz.zeroCells54 rfl rfl hz1 iZ rfl hZo ?_);intro w10 hU10))
 refine Zf rfl rfl hu rfl iZ hU10.out.here ?_
 exact⟨hZe.out 2,hb1.out.trans (hU10.out.below nR)⟩
theorem HB(bs:List UInt8)(b o c n:Nat)(k:Int)(w:World)(ha:ArgB w (some ⟨b,o,none⟩) c bs)(hn:bs.length=n)(hm:n<=1000)(h0:0<n)(hk:((bs.getD 0 0).toNat:Int)=k)(hk1:inB k 1 4=false):Calls Tryz.prog 37 #[.slice (some ⟨b,o,none⟩) n c] w (QV Rc.zero 7 w):=by
 have hca:=λW hW=>Qm ha W hW
 have hnc:=Hd (λW hW=>Q1 ha oX W hW)
 rw[hn] at hca
 rw[hn] at hnc
 have hbl:b<w.heap.size:=Q3 ha oX
 have hbd:=Hd (ZF (k))
 have s78:(Rc.ofKind (k)).list.toArray.size=78:=by rw[List.size_toArray,Rc.len (x:=Rc.ofKind (k)) Zh Zh]
 have i8:(Tryz.prog.info? 54).map (·.size)=some (Rc.ofKind (k)).list.toArray.size:=by rw[s78];kernel_rfl
 have z8:(Tryz.zeroCells54).size=(Rc.ofKind (k)).list.toArray.size:=by rw[s78];kernel_rfl
 have hVo:=Rc.all_one (Rc.ofKind (k))
 have iZ:(Tryz.prog.info? 54).map (·.size)=some (Tryz.zeroCells54).size:=kX
 have hZo:(Tryz.zeroCells54).all (·.oneCell')=true:=by rw[Rc.zeroR];exact Rc.all_one Rc.zero
 have hu:=Tryz.underlying54
 have i1:(Tryz.prog.info? 3).map (·.size)=some 1:=kX
 have hrk0:∀ (W:World) g,W.heap[g]? = some (.cells (Rc.ofKind (k)).list.toArray 54 (0,0))->W.cell? ⟨g,0,none⟩=some (.int .i64 (k)):=λW g h=>by rw[Za h];rfl
 replace hrk0:=Hd hrk0
 generalize hRK:(Rc.ofKind (k)).list.toArray=RK at*
 have hZe:Hid (∀ m:Int,Ending.returned (.tuple #[.agg Tryz.zeroCells54,.int .i64 m])=Ending.returned (.tuple #[.agg Rc.zero.list.toArray,.int .i64 m])):=Hd (λv=>by rw[Rc.zeroR])
 replace hRK:=Hd hRK
 have hz1:Hid (((w.alloc (.cells Tryz.zeroCells54 54)).alloc (.cells Tryz.zeroCells54 54)).heap[w.heap.size]? = some (.cells Tryz.zeroCells54 54 (0,0))):=Hd (by rw[Zk,if_neg sX,Zk,if_pos rfl])
 have hZp:Hid (((w.alloc (.cells Tryz.zeroCells54 54)).alloc (.cells Tryz.zeroCells54 54)).heap[w.heap.size+1]? = some (.cells Tryz.zeroCells54 54 (0,0))):=Hd (by rw[Zk,if_pos sX])
 have hb1:Below w.heap.size w (w.alloc (.cells Tryz.zeroCells54 54)):=bR.alloc nR _
 have hb2:=Hd (hb1.alloc sX (.cells Tryz.zeroCells54 54))
 have hs2:((w.alloc (.cells Tryz.zeroCells54 54)).alloc (.cells Tryz.zeroCells54 54)).heap.size=w.heap.size+2:=sX
 replace hca:=Hd hca
 have hc0:=hca.out _ hb1 0 oX
 rw[Nat.add_zero] at hc0
 replace hb1:=Hd hb1
 replace hs2:=Hd hs2
 rw[hk] at hc0
 have hkk:¬(1<=k/\k<=4):=by unfold inB at hk1;simpa using hk1
 have hkb:0<=k/\k<=255:=by have:=(bs.getD 0 0).toNat_lt;omega
 obtain⟨L,hL⟩:∃ L:Int,(n:Int)=L:=⟨_,rfl⟩
 clear hk1
 have hL0:0<L:=oX
 have hL1:L<=1000:=oX
 clear hn hm hk h0
 go_enter Tryz.func37,Tryz.ntmps37
 go_wp2_with (first
  | ((with_reducible refine wL (.build 54 _) ?_);refine Zm rfl 54 [(0,.tmp 17)] rfl [(0,.int .i64 (k))] rfl _ (hbd.out _) ?_)
  | ((with_reducible refine wL (.store 54 (.tmp 4) _) ?_);(refine Zc rfl 54 (.tmp 4) (.tmp 18) rfl (w.heap.size+1) _ RK rfl rfl hZp i8 z8 hVo ?_);intro w3 hU3;have hP3:=Hd hU3.out.here;have hbw3:=Hd (hb2.out.trans (hU3.out.below oX));have hz3:=Hd ((hU3.out.block _ oX).trans hz1.out);have hs3:w.heap.size+2=w3.heap.size:=hs2.out.symm.trans hU3.out.size.symm;replace hs3:=Hd hs3;have k0:=hrk0.out _ _ hP3.out)
  | ((with_reducible refine wL (.store 54 (.tmp 2) _) ?_);(refine Zc rfl 54 (.tmp 2) (.tmp 27) rfl w.heap.size _ Tryz.zeroCells54 rfl rfl hz3 iZ rfl hZo ?_);intro w10 hU10))
 all_goals
  refine Zf rfl rfl hu rfl iZ hU10.out.here ?_
  exact⟨hZe.out 7,hbw3.out.trans (hU10.out.below nR)⟩
theorem RG(bs:List UInt8)(b o c n:Nat)(w:World)(ha:ArgB w (some ⟨b,o,none⟩) c bs)(hn:bs.length=n)(hm:n<=1000)(h0:0<n)(hk:((bs.getD 0 0).toNat:Int)=1)(hlt:n<10):Calls Tryz.prog 37 #[.slice (some ⟨b,o,none⟩) n c] w (QV Rc.zero 2 w):=by
 have hca:=λW hW=>Qm ha W hW
 have hnc:=Hd (λW hW=>Q1 ha oX W hW)
 rw[hn] at hca
 rw[hn] at hnc
 have hbl:b<w.heap.size:=Q3 ha oX
 have hbd:=Hd (ZF (1))
 have s78:(Rc.ofKind (1)).list.toArray.size=78:=by rw[List.size_toArray,Rc.len (x:=Rc.ofKind (1)) Zh Zh]
 have i8:(Tryz.prog.info? 54).map (·.size)=some (Rc.ofKind (1)).list.toArray.size:=by rw[s78];kernel_rfl
 have z8:(Tryz.zeroCells54).size=(Rc.ofKind (1)).list.toArray.size:=by rw[s78];kernel_rfl
 have hVo:=Rc.all_one (Rc.ofKind (1))
 have iZ:(Tryz.prog.info? 54).map (·.size)=some (Tryz.zeroCells54).size:=kX
 have hZo:(Tryz.zeroCells54).all (·.oneCell')=true:=by rw[Rc.zeroR];exact Rc.all_one Rc.zero
 have hu:=Tryz.underlying54
 have i1:(Tryz.prog.info? 3).map (·.size)=some 1:=kX
 have hrk0:∀ (W:World) g,W.heap[g]? = some (.cells (Rc.ofKind (1)).list.toArray 54 (0,0))->W.cell? ⟨g,0,none⟩=some (.int .i64 (1)):=λW g h=>by rw[Za h];rfl
 replace hrk0:=Hd hrk0
 generalize hRK:(Rc.ofKind (1)).list.toArray=RK at*
 have hZe:Hid (∀ m:Int,Ending.returned (.tuple #[.agg Tryz.zeroCells54,.int .i64 m])=Ending.returned (.tuple #[.agg Rc.zero.list.toArray,.int .i64 m])):=Hd (λv=>by rw[Rc.zeroR])
 replace hRK:=Hd hRK
 have hz1:Hid (((w.alloc (.cells Tryz.zeroCells54 54)).alloc (.cells Tryz.zeroCells54 54)).heap[w.heap.size]? = some (.cells Tryz.zeroCells54 54 (0,0))):=Hd (by rw[Zk,if_neg sX,Zk,if_pos rfl])
 have hZp:Hid (((w.alloc (.cells Tryz.zeroCells54 54)).alloc (.cells Tryz.zeroCells54 54)).heap[w.heap.size+1]? = some (.cells Tryz.zeroCells54 54 (0,0))):=Hd (by rw[Zk,if_pos sX])
 have hb1:Below w.heap.size w (w.alloc (.cells Tryz.zeroCells54 54)):=bR.alloc nR _
 have hb2:=Hd (hb1.alloc sX (.cells Tryz.zeroCells54 54))
 have hs2:((w.alloc (.cells Tryz.zeroCells54 54)).alloc (.cells Tryz.zeroCells54 54)).heap.size=w.heap.size+2:=sX
 replace hca:=Hd hca
 have hc0:=hca.out _ hb1 0 oX
 rw[Nat.add_zero] at hc0
 replace hb1:=Hd hb1
 replace hs2:=Hd hs2
 rw[hk] at hc0
 obtain⟨L,hL⟩:∃ L:Int,(n:Int)=L:=⟨_,rfl⟩
 have hL0:0<L:=oX
 have hL1:L<=1000:=oX
 have hlt2:L<10:=oX
 clear hlt
 clear hn hm hk h0
 go_enter Tryz.func37,Tryz.ntmps37
 go_wp2_with (first
  | ((with_reducible refine wL (.build 54 _) ?_);refine Zm rfl 54 [(0,.tmp 17)] rfl [(0,.int .i64 (1))] rfl _ (hbd.out _) ?_)
  | ((with_reducible refine wL (.store 54 (.tmp 4) _) ?_);(refine Zc rfl 54 (.tmp 4) (.tmp 18) rfl (w.heap.size+1) _ RK rfl rfl hZp i8 z8 hVo ?_);intro w3 hU3;have hP3:=Hd hU3.out.here;have hbw3:=Hd (hb2.out.trans (hU3.out.below oX));have hz3:=Hd ((hU3.out.block _ oX).trans hz1.out);have hs3:w.heap.size+2=w3.heap.size:=hs2.out.symm.trans hU3.out.size.symm;replace hs3:=Hd hs3;have k0:=hrk0.out _ _ hP3.out;have hb4:Below w3.heap.size w3 (w3.alloc (.cells #[.int .i64 0,.int .i64 0,.int .i64 30,.int .i64 26,.int .i64 17] 3)):=bR.alloc nR _;have hz4:=Hd ((hb4.block _ (Zb hz3.out)).trans hz3.out);have hP4:=Hd ((hb4.block _ (Zb hP3.out)).trans hP3.out);have hbw4:=Hd (hbw3.out.trans (hb4.mono hbw3.out.size));clear hb4;have k0f:=hrk0.out _ _ hP4.out)
  | ((with_reducible refine wL (.store 54 (.tmp 2) _) ?_);(refine Zc rfl 54 (.tmp 2) (.tmp 39) rfl w.heap.size _ Tryz.zeroCells54 rfl rfl hz4 iZ rfl hZo ?_);intro w10 hU10))
 refine Zf rfl rfl hu rfl iZ hU10.out.here ?_
 exact⟨hZe.out 2,hbw4.out.trans (hU10.out.below nR)⟩
theorem Nc(bs:List UInt8)(b o c n:Nat)(w:World)(ha:ArgB w (some ⟨b,o,none⟩) c bs)(hn:bs.length=n)(hm:n<=1000)(h0:10<=n)(hk:((bs.getD 0 0).toNat:Int)=1)(hlt:n<91+(bs.getD 9 0).toNat):Calls Tryz.prog 37 #[.slice (some ⟨b,o,none⟩) n c] w (QV Rc.zero 2 w):=by
 have hca:=λW hW=>Qm ha W hW
 have hnc:=Hd (λW hW=>Q1 ha oX W hW)
 rw[hn] at hca
 rw[hn] at hnc
 have hbl:b<w.heap.size:=Q3 ha oX
 have hbd:=Hd (ZF (1))
 have s78:(Rc.ofKind (1)).list.toArray.size=78:=by rw[List.size_toArray,Rc.len (x:=Rc.ofKind (1)) Zh Zh]
 have i8:(Tryz.prog.info? 54).map (·.size)=some (Rc.ofKind (1)).list.toArray.size:=by rw[s78];kernel_rfl
 have z8:(Tryz.zeroCells54).size=(Rc.ofKind (1)).list.toArray.size:=by rw[s78];kernel_rfl
 have hVo:=Rc.all_one (Rc.ofKind (1))
 have iZ:(Tryz.prog.info? 54).map (·.size)=some (Tryz.zeroCells54).size:=kX
 have hZo:(Tryz.zeroCells54).all (·.oneCell')=true:=by rw[Rc.zeroR];exact Rc.all_one Rc.zero
 have hu:=Tryz.underlying54
 have i1:(Tryz.prog.info? 3).map (·.size)=some 1:=kX
 have hrk0:∀ (W:World) g,W.heap[g]? = some (.cells (Rc.ofKind (1)).list.toArray 54 (0,0))->W.cell? ⟨g,0,none⟩=some (.int .i64 (1)):=λW g h=>by rw[Za h];rfl
 replace hrk0:=Hd hrk0
 generalize hRK:(Rc.ofKind (1)).list.toArray=RK at*
 have hZe:Hid (∀ m:Int,Ending.returned (.tuple #[.agg Tryz.zeroCells54,.int .i64 m])=Ending.returned (.tuple #[.agg Rc.zero.list.toArray,.int .i64 m])):=Hd (λv=>by rw[Rc.zeroR])
 replace hRK:=Hd hRK
 have hz1:Hid (((w.alloc (.cells Tryz.zeroCells54 54)).alloc (.cells Tryz.zeroCells54 54)).heap[w.heap.size]? = some (.cells Tryz.zeroCells54 54 (0,0))):=Hd (by rw[Zk,if_neg sX,Zk,if_pos rfl])
 have hZp:Hid (((w.alloc (.cells Tryz.zeroCells54 54)).alloc (.cells Tryz.zeroCells54 54)).heap[w.heap.size+1]? = some (.cells Tryz.zeroCells54 54 (0,0))):=Hd (by rw[Zk,if_pos sX])
 have hb1:Below w.heap.size w (w.alloc (.cells Tryz.zeroCells54 54)):=bR.alloc nR _
 have hb2:=Hd (hb1.alloc sX (.cells Tryz.zeroCells54 54))
 have hs2:((w.alloc (.cells Tryz.zeroCells54 54)).alloc (.cells Tryz.zeroCells54 54)).heap.size=w.heap.size+2:=sX
 replace hca:=Hd hca
 have hc0:=hca.out _ hb1 0 oX
 rw[Nat.add_zero] at hc0
 replace hb1:=Hd hb1
 replace hs2:=Hd hs2
 rw[hk] at hc0
 obtain⟨L,hL⟩:∃ L:Int,(n:Int)=L:=⟨_,rfl⟩
 have hc9:=Hd (λW hW=>hca.out W hW 9 oX)
 obtain⟨N9,hN9⟩:∃ N9:Nat,(bs.getD 9 0).toNat=N9:=⟨_,rfl⟩
 have hN9b:N9<=255:=by have:=(bs.getD 9 0).toNat_lt;omega
 rw[hN9] at hc9 hlt
 have hL0:0<L:=oX
 have hL1:L<=1000:=oX
 have hlt2:L<91+(N9:Int):=oX
 have hL10:10<=L:=oX
 clear hlt
 clear hn hm hk h0
 go_enter Tryz.func37,Tryz.ntmps37
 go_wp2_with (first
  | ((with_reducible refine wL (.build 54 _) ?_);refine Zm rfl 54 [(0,.tmp 17)] rfl [(0,.int .i64 (1))] rfl _ (hbd.out _) ?_)
  | ((with_reducible refine wL (.store 54 (.tmp 4) _) ?_);(refine Zc rfl 54 (.tmp 4) (.tmp 18) rfl (w.heap.size+1) _ RK rfl rfl hZp i8 z8 hVo ?_);intro w3 hU3;have hP3:=Hd hU3.out.here;have hbw3:=Hd (hb2.out.trans (hU3.out.below oX));have hz3:=Hd ((hU3.out.block _ oX).trans hz1.out);have hs3:w.heap.size+2=w3.heap.size:=hs2.out.symm.trans hU3.out.size.symm;replace hs3:=Hd hs3;have k0:=hrk0.out _ _ hP3.out;have hb4:Below w3.heap.size w3 (w3.alloc (.cells #[.int .i64 0,.int .i64 0,.int .i64 30,.int .i64 26,.int .i64 17] 3)):=bR.alloc nR _;have hz4:=Hd ((hb4.block _ (Zb hz3.out)).trans hz3.out);have hP4:=Hd ((hb4.block _ (Zb hP3.out)).trans hP3.out);have hbw4:=Hd (hbw3.out.trans (hb4.mono hbw3.out.size));clear hb4;have k0f:=hrk0.out _ _ hP4.out;have k9:=hc9.out _ hbw3.out;have k9f:=hc9.out _ hbw4.out)
  | ((with_reducible refine wL (.store 54 (.tmp 2) _) ?_);(refine Zc rfl 54 (.tmp 2) (.tmp 52) rfl w.heap.size _ Tryz.zeroCells54 rfl rfl hz4 iZ rfl hZo ?_);intro w10 hU10))
 refine Zf rfl rfl hu rfl iZ hU10.out.here ?_
 exact⟨hZe.out 2,hbw4.out.trans (hU10.out.below nR)⟩
theorem NV(bs:List UInt8)(b o c n:Nat)(w:World)(ha:ArgB w (some ⟨b,o,none⟩) c bs)(hn:bs.length=n)(hm:n<=1000)(h0:10<=n)(hk:((bs.getD 0 0).toNat:Int)=1)(hlt:91+(bs.getD 9 0).toNat<n):Calls Tryz.prog 37 #[.slice (some ⟨b,o,none⟩) n c] w (QV Rc.zero 3 w):=by
 have hca:=λW hW=>Qm ha W hW
 have hnc:=Hd (λW hW=>Q1 ha oX W hW)
 rw[hn] at hca
 rw[hn] at hnc
 have hbl:b<w.heap.size:=Q3 ha oX
 have hbd:=Hd (ZF (1))
 have s78:(Rc.ofKind (1)).list.toArray.size=78:=by rw[List.size_toArray,Rc.len (x:=Rc.ofKind (1)) Zh Zh]
 have i8:(Tryz.prog.info? 54).map (·.size)=some (Rc.ofKind (1)).list.toArray.size:=by rw[s78];kernel_rfl
 have z8:(Tryz.zeroCells54).size=(Rc.ofKind (1)).list.toArray.size:=by rw[s78];kernel_rfl
 have hVo:=Rc.all_one (Rc.ofKind (1))
 have iZ:(Tryz.prog.info? 54).map (·.size)=some (Tryz.zeroCells54).size:=kX
 have hZo:(Tryz.zeroCells54).all (·.oneCell')=true:=by rw[Rc.zeroR];exact Rc.all_one Rc.zero
 have hu:=Tryz.underlying54
 have i1:(Tryz.prog.info? 3).map (·.size)=some 1:=kX
 have hrk0:∀ (W:World) g,W.heap[g]? = some (.cells (Rc.ofKind (1)).list.toArray 54 (0,0))->W.cell? ⟨g,0,none⟩=some (.int .i64 (1)):=λW g h=>by rw[Za h];rfl
 replace hrk0:=Hd hrk0
 generalize hRK:(Rc.ofKind (1)).list.toArray=RK at*
 have hZe:Hid (∀ m:Int,Ending.returned (.tuple #[.agg Tryz.zeroCells54,.int .i64 m])=Ending.returned (.tuple #[.agg Rc.zero.list.toArray,.int .i64 m])):=Hd (λv=>by rw[Rc.zeroR])
 replace hRK:=Hd hRK
 have hz1:Hid (((w.alloc (.cells Tryz.zeroCells54 54)).alloc (.cells Tryz.zeroCells54 54)).heap[w.heap.size]? = some (.cells Tryz.zeroCells54 54 (0,0))):=Hd (by rw[Zk,if_neg sX,Zk,if_pos rfl])
 have hZp:Hid (((w.alloc (.cells Tryz.zeroCells54 54)).alloc (.cells Tryz.zeroCells54 54)).heap[w.heap.size+1]? = some (.cells Tryz.zeroCells54 54 (0,0))):=Hd (by rw[Zk,if_pos sX])
 have hb1:Below w.heap.size w (w.alloc (.cells Tryz.zeroCells54 54)):=bR.alloc nR _
 have hb2:=Hd (hb1.alloc sX (.cells Tryz.zeroCells54 54))
 have hs2:((w.alloc (.cells Tryz.zeroCells54 54)).alloc (.cells Tryz.zeroCells54 54)).heap.size=w.heap.size+2:=sX
 replace hca:=Hd hca
 have hc0:=hca.out _ hb1 0 oX
 rw[Nat.add_zero] at hc0
 replace hb1:=Hd hb1
 replace hs2:=Hd hs2
 rw[hk] at hc0
 obtain⟨L,hL⟩:∃ L:Int,(n:Int)=L:=⟨_,rfl⟩
 have hc9:=Hd (λW hW=>hca.out W hW 9 oX)
 obtain⟨N9,hN9⟩:∃ N9:Nat,(bs.getD 9 0).toNat=N9:=⟨_,rfl⟩
 have hN9b:N9<=255:=by have:=(bs.getD 9 0).toNat_lt;omega
 rw[hN9] at hc9 hlt
 have hL0:0<L:=oX
 have hL1:L<=1000:=oX
 have hlt2:91+(N9:Int)<L:=oX
 have hL10:10<=L:=oX
 clear hlt
 clear hn hm hk h0
 go_enter Tryz.func37,Tryz.ntmps37
 go_wp2_with (first
  | ((with_reducible refine wL (.build 54 _) ?_);refine Zm rfl 54 [(0,.tmp 17)] rfl [(0,.int .i64 (1))] rfl _ (hbd.out _) ?_)
  | ((with_reducible refine wL (.store 54 (.tmp 4) _) ?_);(refine Zc rfl 54 (.tmp 4) (.tmp 18) rfl (w.heap.size+1) _ RK rfl rfl hZp i8 z8 hVo ?_);intro w3 hU3;have hP3:=Hd hU3.out.here;have hbw3:=Hd (hb2.out.trans (hU3.out.below oX));have hz3:=Hd ((hU3.out.block _ oX).trans hz1.out);have hs3:w.heap.size+2=w3.heap.size:=hs2.out.symm.trans hU3.out.size.symm;replace hs3:=Hd hs3;have k0:=hrk0.out _ _ hP3.out;have hb4:Below w3.heap.size w3 (w3.alloc (.cells #[.int .i64 0,.int .i64 0,.int .i64 30,.int .i64 26,.int .i64 17] 3)):=bR.alloc nR _;have hz4:=Hd ((hb4.block _ (Zb hz3.out)).trans hz3.out);have hP4:=Hd ((hb4.block _ (Zb hP3.out)).trans hP3.out);have hbw4:=Hd (hbw3.out.trans (hb4.mono hbw3.out.size));clear hb4;have k0f:=hrk0.out _ _ hP4.out;have k9:=hc9.out _ hbw3.out;have k9f:=hc9.out _ hbw4.out)
  | ((with_reducible refine wL (.store 54 (.tmp 2) _) ?_);(refine Zc rfl 54 (.tmp 2) (.tmp 57) rfl w.heap.size _ Tryz.zeroCells54 rfl rfl hz4 iZ rfl hZo ?_);intro w10 hU10))
 refine Zf rfl rfl hu rfl iZ hU10.out.here ?_
 exact⟨hZe.out 3,hbw4.out.trans (hU10.out.below nR)⟩
theorem N8(bs:List UInt8)(b o c n:Nat)(w:World)(ha:ArgB w (some ⟨b,o,none⟩) c bs)(hn:bs.length=n)(hm:n<=1000)(h0:0<n)(hk:((bs.getD 0 0).toNat:Int)=2)(hlt:n<30):Calls Tryz.prog 37 #[.slice (some ⟨b,o,none⟩) n c] w (QV Rc.zero 2 w):=by
 have hca:=λW hW=>Qm ha W hW
 have hnc:=Hd (λW hW=>Q1 ha oX W hW)
 rw[hn] at hca
 rw[hn] at hnc
 have hbl:b<w.heap.size:=Q3 ha oX
 have hbd:=Hd (ZF (2))
 have s78:(Rc.ofKind (2)).list.toArray.size=78:=by rw[List.size_toArray,Rc.len (x:=Rc.ofKind (2)) Zh Zh]
 have i8:(Tryz.prog.info? 54).map (·.size)=some (Rc.ofKind (2)).list.toArray.size:=by rw[s78];kernel_rfl
 have z8:(Tryz.zeroCells54).size=(Rc.ofKind (2)).list.toArray.size:=by rw[s78];kernel_rfl
 have hVo:=Rc.all_one (Rc.ofKind (2))
 have iZ:(Tryz.prog.info? 54).map (·.size)=some (Tryz.zeroCells54).size:=kX
 have hZo:(Tryz.zeroCells54).all (·.oneCell')=true:=by rw[Rc.zeroR];exact Rc.all_one Rc.zero
 have hu:=Tryz.underlying54
 have i1:(Tryz.prog.info? 3).map (·.size)=some 1:=kX
 have hrk0:∀ (W:World) g,W.heap[g]? = some (.cells (Rc.ofKind (2)).list.toArray 54 (0,0))->W.cell? ⟨g,0,none⟩=some (.int .i64 (2)):=λW g h=>by rw[Za h];rfl
 replace hrk0:=Hd hrk0
 generalize hRK:(Rc.ofKind (2)).list.toArray=RK at*
 have hZe:Hid (∀ m:Int,Ending.returned (.tuple #[.agg Tryz.zeroCells54,.int .i64 m])=Ending.returned (.tuple #[.agg Rc.zero.list.toArray,.int .i64 m])):=Hd (λv=>by rw[Rc.zeroR])
 replace hRK:=Hd hRK
 have hz1:Hid (((w.alloc (.cells Tryz.zeroCells54 54)).alloc (.cells Tryz.zeroCells54 54)).heap[w.heap.size]? = some (.cells Tryz.zeroCells54 54 (0,0))):=Hd (by rw[Zk,if_neg sX,Zk,if_pos rfl])
 have hZp:Hid (((w.alloc (.cells Tryz.zeroCells54 54)).alloc (.cells Tryz.zeroCells54 54)).heap[w.heap.size+1]? = some (.cells Tryz.zeroCells54 54 (0,0))):=Hd (by rw[Zk,if_pos sX])
 have hb1:Below w.heap.size w (w.alloc (.cells Tryz.zeroCells54 54)):=bR.alloc nR _
 have hb2:=Hd (hb1.alloc sX (.cells Tryz.zeroCells54 54))
 have hs2:((w.alloc (.cells Tryz.zeroCells54 54)).alloc (.cells Tryz.zeroCells54 54)).heap.size=w.heap.size+2:=sX
 replace hca:=Hd hca
 have hc0:=hca.out _ hb1 0 oX
 rw[Nat.add_zero] at hc0
 replace hb1:=Hd hb1
 replace hs2:=Hd hs2
 rw[hk] at hc0
 obtain⟨L,hL⟩:∃ L:Int,(n:Int)=L:=⟨_,rfl⟩
 have hL0:0<L:=oX
 have hL1:L<=1000:=oX
 have hlt2:L<30:=oX
 clear hlt
 clear hn hm hk h0
 go_enter Tryz.func37,Tryz.ntmps37
 go_wp2_with (first
  | ((with_reducible refine wL (.build 54 _) ?_);refine Zm rfl 54 [(0,.tmp 17)] rfl [(0,.int .i64 (2))] rfl _ (hbd.out _) ?_)
  | ((with_reducible refine wL (.store 54 (.tmp 4) _) ?_);(refine Zc rfl 54 (.tmp 4) (.tmp 18) rfl (w.heap.size+1) _ RK rfl rfl hZp i8 z8 hVo ?_);intro w3 hU3;have hP3:=Hd hU3.out.here;have hbw3:=Hd (hb2.out.trans (hU3.out.below oX));have hz3:=Hd ((hU3.out.block _ oX).trans hz1.out);have hs3:w.heap.size+2=w3.heap.size:=hs2.out.symm.trans hU3.out.size.symm;replace hs3:=Hd hs3;have k0:=hrk0.out _ _ hP3.out;have hb4:Below w3.heap.size w3 (w3.alloc (.cells #[.int .i64 0,.int .i64 0,.int .i64 30,.int .i64 26,.int .i64 17] 3)):=bR.alloc nR _;have hz4:=Hd ((hb4.block _ (Zb hz3.out)).trans hz3.out);have hP4:=Hd ((hb4.block _ (Zb hP3.out)).trans hP3.out);have hbw4:=Hd (hbw3.out.trans (hb4.mono hbw3.out.size));clear hb4;have k0f:=hrk0.out _ _ hP4.out)
  | ((with_reducible refine wL (.store 54 (.tmp 2) _) ?_);(refine Zc rfl 54 (.tmp 2) (.tmp 52) rfl w.heap.size _ Tryz.zeroCells54 rfl rfl hz4 iZ rfl hZo ?_);intro w10 hU10))
 refine Zf rfl rfl hu rfl iZ hU10.out.here ?_
 exact⟨hZe.out 2,hbw4.out.trans (hU10.out.below nR)⟩
theorem MF(bs:List UInt8)(b o c n:Nat)(w:World)(ha:ArgB w (some ⟨b,o,none⟩) c bs)(hn:bs.length=n)(hm:n<=1000)(h0:0<n)(hk:((bs.getD 0 0).toNat:Int)=2)(hlt:30<n):Calls Tryz.prog 37 #[.slice (some ⟨b,o,none⟩) n c] w (QV Rc.zero 3 w):=by
 have hca:=λW hW=>Qm ha W hW
 have hnc:=Hd (λW hW=>Q1 ha oX W hW)
 rw[hn] at hca
 rw[hn] at hnc
 have hbl:b<w.heap.size:=Q3 ha oX
 have hbd:=Hd (ZF (2))
 have s78:(Rc.ofKind (2)).list.toArray.size=78:=by rw[List.size_toArray,Rc.len (x:=Rc.ofKind (2)) Zh Zh]
 have i8:(Tryz.prog.info? 54).map (·.size)=some (Rc.ofKind (2)).list.toArray.size:=by rw[s78];kernel_rfl
 have z8:(Tryz.zeroCells54).size=(Rc.ofKind (2)).list.toArray.size:=by rw[s78];kernel_rfl
 have hVo:=Rc.all_one (Rc.ofKind (2))
 have iZ:(Tryz.prog.info? 54).map (·.size)=some (Tryz.zeroCells54).size:=kX
 have hZo:(Tryz.zeroCells54).all (·.oneCell')=true:=by rw[Rc.zeroR];exact Rc.all_one Rc.zero
 have hu:=Tryz.underlying54
 have i1:(Tryz.prog.info? 3).map (·.size)=some 1:=kX
 have hrk0:∀ (W:World) g,W.heap[g]? = some (.cells (Rc.ofKind (2)).list.toArray 54 (0,0))->W.cell? ⟨g,0,none⟩=some (.int .i64 (2)):=λW g h=>by rw[Za h];rfl
 replace hrk0:=Hd hrk0
 generalize hRK:(Rc.ofKind (2)).list.toArray=RK at*
 have hZe:Hid (∀ m:Int,Ending.returned (.tuple #[.agg Tryz.zeroCells54,.int .i64 m])=Ending.returned (.tuple #[.agg Rc.zero.list.toArray,.int .i64 m])):=Hd (λv=>by rw[Rc.zeroR])
 replace hRK:=Hd hRK
 have hz1:Hid (((w.alloc (.cells Tryz.zeroCells54 54)).alloc (.cells Tryz.zeroCells54 54)).heap[w.heap.size]? = some (.cells Tryz.zeroCells54 54 (0,0))):=Hd (by rw[Zk,if_neg sX,Zk,if_pos rfl])
 have hZp:Hid (((w.alloc (.cells Tryz.zeroCells54 54)).alloc (.cells Tryz.zeroCells54 54)).heap[w.heap.size+1]? = some (.cells Tryz.zeroCells54 54 (0,0))):=Hd (by rw[Zk,if_pos sX])
 have hb1:Below w.heap.size w (w.alloc (.cells Tryz.zeroCells54 54)):=bR.alloc nR _
 have hb2:=Hd (hb1.alloc sX (.cells Tryz.zeroCells54 54))
 have hs2:((w.alloc (.cells Tryz.zeroCells54 54)).alloc (.cells Tryz.zeroCells54 54)).heap.size=w.heap.size+2:=sX
 replace hca:=Hd hca
 have hc0:=hca.out _ hb1 0 oX
 rw[Nat.add_zero] at hc0
 replace hb1:=Hd hb1
 replace hs2:=Hd hs2
 rw[hk] at hc0
 obtain⟨L,hL⟩:∃ L:Int,(n:Int)=L:=⟨_,rfl⟩
 have hL0:0<L:=oX
 have hL1:L<=1000:=oX
 have hlt2:30<L:=oX
 clear hlt
 clear hn hm hk h0
 go_enter Tryz.func37,Tryz.ntmps37
 go_wp2_with (first
  | ((with_reducible refine wL (.build 54 _) ?_);refine Zm rfl 54 [(0,.tmp 17)] rfl [(0,.int .i64 (2))] rfl _ (hbd.out _) ?_)
  | ((with_reducible refine wL (.store 54 (.tmp 4) _) ?_);(refine Zc rfl 54 (.tmp 4) (.tmp 18) rfl (w.heap.size+1) _ RK rfl rfl hZp i8 z8 hVo ?_);intro w3 hU3;have hP3:=Hd hU3.out.here;have hbw3:=Hd (hb2.out.trans (hU3.out.below oX));have hz3:=Hd ((hU3.out.block _ oX).trans hz1.out);have hs3:w.heap.size+2=w3.heap.size:=hs2.out.symm.trans hU3.out.size.symm;replace hs3:=Hd hs3;have k0:=hrk0.out _ _ hP3.out;have hb4:Below w3.heap.size w3 (w3.alloc (.cells #[.int .i64 0,.int .i64 0,.int .i64 30,.int .i64 26,.int .i64 17] 3)):=bR.alloc nR _;have hz4:=Hd ((hb4.block _ (Zb hz3.out)).trans hz3.out);have hP4:=Hd ((hb4.block _ (Zb hP3.out)).trans hP3.out);have hbw4:=Hd (hbw3.out.trans (hb4.mono hbw3.out.size));clear hb4;have k0f:=hrk0.out _ _ hP4.out)
  | ((with_reducible refine wL (.store 54 (.tmp 2) _) ?_);(refine Zc rfl 54 (.tmp 2) (.tmp 57) rfl w.heap.size _ Tryz.zeroCells54 rfl rfl hz4 iZ rfl hZo ?_);intro w10 hU10))
 refine Zf rfl rfl hu rfl iZ hU10.out.here ?_
 exact⟨hZe.out 3,hbw4.out.trans (hU10.out.below nR)⟩
theorem Nq(bs:List UInt8)(b o c n:Nat)(w:World)(ha:ArgB w (some ⟨b,o,none⟩) c bs)(hn:bs.length=n)(hm:n<=1000)(h0:0<n)(hk:((bs.getD 0 0).toNat:Int)=3)(hlt:n<26):Calls Tryz.prog 37 #[.slice (some ⟨b,o,none⟩) n c] w (QV Rc.zero 2 w):=by
 have hca:=λW hW=>Qm ha W hW
 have hnc:=Hd (λW hW=>Q1 ha oX W hW)
 rw[hn] at hca
 rw[hn] at hnc
 have hbl:b<w.heap.size:=Q3 ha oX
 have hbd:=Hd (ZF (3))
 have s78:(Rc.ofKind (3)).list.toArray.size=78:=by rw[List.size_toArray,Rc.len (x:=Rc.ofKind (3)) Zh Zh]
 have i8:(Tryz.prog.info? 54).map (·.size)=some (Rc.ofKind (3)).list.toArray.size:=by rw[s78];kernel_rfl
 have z8:(Tryz.zeroCells54).size=(Rc.ofKind (3)).list.toArray.size:=by rw[s78];kernel_rfl
 have hVo:=Rc.all_one (Rc.ofKind (3))
 have iZ:(Tryz.prog.info? 54).map (·.size)=some (Tryz.zeroCells54).size:=kX
 have hZo:(Tryz.zeroCells54).all (·.oneCell')=true:=by rw[Rc.zeroR];exact Rc.all_one Rc.zero
 have hu:=Tryz.underlying54
 have i1:(Tryz.prog.info? 3).map (·.size)=some 1:=kX
 have hrk0:∀ (W:World) g,W.heap[g]? = some (.cells (Rc.ofKind (3)).list.toArray 54 (0,0))->W.cell? ⟨g,0,none⟩=some (.int .i64 (3)):=λW g h=>by rw[Za h];rfl
 replace hrk0:=Hd hrk0
 generalize hRK:(Rc.ofKind (3)).list.toArray=RK at*
 have hZe:Hid (∀ m:Int,Ending.returned (.tuple #[.agg Tryz.zeroCells54,.int .i64 m])=Ending.returned (.tuple #[.agg Rc.zero.list.toArray,.int .i64 m])):=Hd (λv=>by rw[Rc.zeroR])
 replace hRK:=Hd hRK
 have hz1:Hid (((w.alloc (.cells Tryz.zeroCells54 54)).alloc (.cells Tryz.zeroCells54 54)).heap[w.heap.size]? = some (.cells Tryz.zeroCells54 54 (0,0))):=Hd (by rw[Zk,if_neg sX,Zk,if_pos rfl])
 have hZp:Hid (((w.alloc (.cells Tryz.zeroCells54 54)).alloc (.cells Tryz.zeroCells54 54)).heap[w.heap.size+1]? = some (.cells Tryz.zeroCells54 54 (0,0))):=Hd (by rw[Zk,if_pos sX])
 have hb1:Below w.heap.size w (w.alloc (.cells Tryz.zeroCells54 54)):=bR.alloc nR _
 have hb2:=Hd (hb1.alloc sX (.cells Tryz.zeroCells54 54))
 have hs2:((w.alloc (.cells Tryz.zeroCells54 54)).alloc (.cells Tryz.zeroCells54 54)).heap.size=w.heap.size+2:=sX
 replace hca:=Hd hca
 have hc0:=hca.out _ hb1 0 oX
 rw[Nat.add_zero] at hc0
 replace hb1:=Hd hb1
 replace hs2:=Hd hs2
 rw[hk] at hc0
 obtain⟨L,hL⟩:∃ L:Int,(n:Int)=L:=⟨_,rfl⟩
 have hL0:0<L:=oX
 have hL1:L<=1000:=oX
 have hlt2:L<26:=oX
 clear hlt
 clear hn hm hk h0
 go_enter Tryz.func37,Tryz.ntmps37
 go_wp2_with (first
  | ((with_reducible refine wL (.build 54 _) ?_);refine Zm rfl 54 [(0,.tmp 17)] rfl [(0,.int .i64 (3))] rfl _ (hbd.out _) ?_)
  | ((with_reducible refine wL (.store 54 (.tmp 4) _) ?_);(refine Zc rfl 54 (.tmp 4) (.tmp 18) rfl (w.heap.size+1) _ RK rfl rfl hZp i8 z8 hVo ?_);intro w3 hU3;have hP3:=Hd hU3.out.here;have hbw3:=Hd (hb2.out.trans (hU3.out.below oX));have hz3:=Hd ((hU3.out.block _ oX).trans hz1.out);have hs3:w.heap.size+2=w3.heap.size:=hs2.out.symm.trans hU3.out.size.symm;replace hs3:=Hd hs3;have k0:=hrk0.out _ _ hP3.out;have hb4:Below w3.heap.size w3 (w3.alloc (.cells #[.int .i64 0,.int .i64 0,.int .i64 30,.int .i64 26,.int .i64 17] 3)):=bR.alloc nR _;have hz4:=Hd ((hb4.block _ (Zb hz3.out)).trans hz3.out);have hP4:=Hd ((hb4.block _ (Zb hP3.out)).trans hP3.out);have hbw4:=Hd (hbw3.out.trans (hb4.mono hbw3.out.size));clear hb4;have k0f:=hrk0.out _ _ hP4.out)
  | ((with_reducible refine wL (.store 54 (.tmp 2) _) ?_);(refine Zc rfl 54 (.tmp 2) (.tmp 52) rfl w.heap.size _ Tryz.zeroCells54 rfl rfl hz4 iZ rfl hZo ?_);intro w10 hU10))
 refine Zf rfl rfl hu rfl iZ hU10.out.here ?_
 exact⟨hZe.out 2,hbw4.out.trans (hU10.out.below nR)⟩
theorem Mr(bs:List UInt8)(b o c n:Nat)(w:World)(ha:ArgB w (some ⟨b,o,none⟩) c bs)(hn:bs.length=n)(hm:n<=1000)(h0:0<n)(hk:((bs.getD 0 0).toNat:Int)=3)(hlt:26<n):Calls Tryz.prog 37 #[.slice (some ⟨b,o,none⟩) n c] w (QV Rc.zero 3 w):=by
 have hca:=λW hW=>Qm ha W hW
 have hnc:=Hd (λW hW=>Q1 ha oX W hW)
 rw[hn] at hca
 rw[hn] at hnc
 have hbl:b<w.heap.size:=Q3 ha oX
 have hbd:=Hd (ZF (3))
 have s78:(Rc.ofKind (3)).list.toArray.size=78:=by rw[List.size_toArray,Rc.len (x:=Rc.ofKind (3)) Zh Zh]
 have i8:(Tryz.prog.info? 54).map (·.size)=some (Rc.ofKind (3)).list.toArray.size:=by rw[s78];kernel_rfl
 have z8:(Tryz.zeroCells54).size=(Rc.ofKind (3)).list.toArray.size:=by rw[s78];kernel_rfl
 have hVo:=Rc.all_one (Rc.ofKind (3))
 have iZ:(Tryz.prog.info? 54).map (·.size)=some (Tryz.zeroCells54).size:=kX
 have hZo:(Tryz.zeroCells54).all (·.oneCell')=true:=by rw[Rc.zeroR];exact Rc.all_one Rc.zero
 have hu:=Tryz.underlying54
 have i1:(Tryz.prog.info? 3).map (·.size)=some 1:=kX
 have hrk0:∀ (W:World) g,W.heap[g]? = some (.cells (Rc.ofKind (3)).list.toArray 54 (0,0))->W.cell? ⟨g,0,none⟩=some (.int .i64 (3)):=λW g h=>by rw[Za h];rfl
 replace hrk0:=Hd hrk0
 generalize hRK:(Rc.ofKind (3)).list.toArray=RK at*
 have hZe:Hid (∀ m:Int,Ending.returned (.tuple #[.agg Tryz.zeroCells54,.int .i64 m])=Ending.returned (.tuple #[.agg Rc.zero.list.toArray,.int .i64 m])):=Hd (λv=>by rw[Rc.zeroR])
 replace hRK:=Hd hRK
 have hz1:Hid (((w.alloc (.cells Tryz.zeroCells54 54)).alloc (.cells Tryz.zeroCells54 54)).heap[w.heap.size]? = some (.cells Tryz.zeroCells54 54 (0,0))):=Hd (by rw[Zk,if_neg sX,Zk,if_pos rfl])
 have hZp:Hid (((w.alloc (.cells Tryz.zeroCells54 54)).alloc (.cells Tryz.zeroCells54 54)).heap[w.heap.size+1]? = some (.cells Tryz.zeroCells54 54 (0,0))):=Hd (by rw[Zk,if_pos sX])
 have hb1:Below w.heap.size w (w.alloc (.cells Tryz.zeroCells54 54)):=bR.alloc nR _
 have hb2:=Hd (hb1.alloc sX (.cells Tryz.zeroCells54 54))
 have hs2:((w.alloc (.cells Tryz.zeroCells54 54)).alloc (.cells Tryz.zeroCells54 54)).heap.size=w.heap.size+2:=sX
 replace hca:=Hd hca
 have hc0:=hca.out _ hb1 0 oX
 rw[Nat.add_zero] at hc0
 replace hb1:=Hd hb1
 replace hs2:=Hd hs2
 rw[hk] at hc0
 obtain⟨L,hL⟩:∃ L:Int,(n:Int)=L:=⟨_,rfl⟩
 have hL0:0<L:=oX
 have hL1:L<=1000:=oX
 have hlt2:26<L:=oX
 clear hlt
 clear hn hm hk h0
 go_enter Tryz.func37,Tryz.ntmps37
 go_wp2_with (first
  | ((with_reducible refine wL (.build 54 _) ?_);refine Zm rfl 54 [(0,.tmp 17)] rfl [(0,.int .i64 (3))] rfl _ (hbd.out _) ?_)
  | ((with_reducible refine wL (.store 54 (.tmp 4) _) ?_);(refine Zc rfl 54 (.tmp 4) (.tmp 18) rfl (w.heap.size+1) _ RK rfl rfl hZp i8 z8 hVo ?_);intro w3 hU3;have hP3:=Hd hU3.out.here;have hbw3:=Hd (hb2.out.trans (hU3.out.below oX));have hz3:=Hd ((hU3.out.block _ oX).trans hz1.out);have hs3:w.heap.size+2=w3.heap.size:=hs2.out.symm.trans hU3.out.size.symm;replace hs3:=Hd hs3;have k0:=hrk0.out _ _ hP3.out;have hb4:Below w3.heap.size w3 (w3.alloc (.cells #[.int .i64 0,.int .i64 0,.int .i64 30,.int .i64 26,.int .i64 17] 3)):=bR.alloc nR _;have hz4:=Hd ((hb4.block _ (Zb hz3.out)).trans hz3.out);have hP4:=Hd ((hb4.block _ (Zb hP3.out)).trans hP3.out);have hbw4:=Hd (hbw3.out.trans (hb4.mono hbw3.out.size));clear hb4;have k0f:=hrk0.out _ _ hP4.out)
  | ((with_reducible refine wL (.store 54 (.tmp 2) _) ?_);(refine Zc rfl 54 (.tmp 2) (.tmp 57) rfl w.heap.size _ Tryz.zeroCells54 rfl rfl hz4 iZ rfl hZo ?_);intro w10 hU10))
 refine Zf rfl rfl hu rfl iZ hU10.out.here ?_
 exact⟨hZe.out 3,hbw4.out.trans (hU10.out.below nR)⟩
theorem NB(bs:List UInt8)(b o c n:Nat)(w:World)(ha:ArgB w (some ⟨b,o,none⟩) c bs)(hn:bs.length=n)(hm:n<=1000)(h0:0<n)(hk:((bs.getD 0 0).toNat:Int)=4)(hlt:n<17):Calls Tryz.prog 37 #[.slice (some ⟨b,o,none⟩) n c] w (QV Rc.zero 2 w):=by
 have hca:=λW hW=>Qm ha W hW
 have hnc:=Hd (λW hW=>Q1 ha oX W hW)
 rw[hn] at hca
 rw[hn] at hnc
 have hbl:b<w.heap.size:=Q3 ha oX
 have hbd:=Hd (ZF (4))
 have s78:(Rc.ofKind (4)).list.toArray.size=78:=by rw[List.size_toArray,Rc.len (x:=Rc.ofKind (4)) Zh Zh]
 have i8:(Tryz.prog.info? 54).map (·.size)=some (Rc.ofKind (4)).list.toArray.size:=by rw[s78];kernel_rfl
 have z8:(Tryz.zeroCells54).size=(Rc.ofKind (4)).list.toArray.size:=by rw[s78];kernel_rfl
 have hVo:=Rc.all_one (Rc.ofKind (4))
 have iZ:(Tryz.prog.info? 54).map (·.size)=some (Tryz.zeroCells54).size:=kX
 have hZo:(Tryz.zeroCells54).all (·.oneCell')=true:=by rw[Rc.zeroR];exact Rc.all_one Rc.zero
 have hu:=Tryz.underlying54
 have i1:(Tryz.prog.info? 3).map (·.size)=some 1:=kX
 have hrk0:∀ (W:World) g,W.heap[g]? = some (.cells (Rc.ofKind (4)).list.toArray 54 (0,0))->W.cell? ⟨g,0,none⟩=some (.int .i64 (4)):=λW g h=>by rw[Za h];rfl
 replace hrk0:=Hd hrk0
 generalize hRK:(Rc.ofKind (4)).list.toArray=RK at*
 have hZe:Hid (∀ m:Int,Ending.returned (.tuple #[.agg Tryz.zeroCells54,.int .i64 m])=Ending.returned (.tuple #[.agg Rc.zero.list.toArray,.int .i64 m])):=Hd (λv=>by rw[Rc.zeroR])
 replace hRK:=Hd hRK
 have hz1:Hid (((w.alloc (.cells Tryz.zeroCells54 54)).alloc (.cells Tryz.zeroCells54 54)).heap[w.heap.size]? = some (.cells Tryz.zeroCells54 54 (0,0))):=Hd (by rw[Zk,if_neg sX,Zk,if_pos rfl])
 have hZp:Hid (((w.alloc (.cells Tryz.zeroCells54 54)).alloc (.cells Tryz.zeroCells54 54)).heap[w.heap.size+1]? = some (.cells Tryz.zeroCells54 54 (0,0))):=Hd (by rw[Zk,if_pos sX])
 have hb1:Below w.heap.size w (w.alloc (.cells Tryz.zeroCells54 54)):=bR.alloc nR _
 have hb2:=Hd (hb1.alloc sX (.cells Tryz.zeroCells54 54))
 have hs2:((w.alloc (.cells Tryz.zeroCells54 54)).alloc (.cells Tryz.zeroCells54 54)).heap.size=w.heap.size+2:=sX
 replace hca:=Hd hca
 have hc0:=hca.out _ hb1 0 oX
 rw[Nat.add_zero] at hc0
 replace hb1:=Hd hb1
 replace hs2:=Hd hs2
 rw[hk] at hc0
 obtain⟨L,hL⟩:∃ L:Int,(n:Int)=L:=⟨_,rfl⟩
 have hL0:0<L:=oX
 have hL1:L<=1000:=oX
 have hlt2:L<17:=oX
 clear hlt
 clear hn hm hk h0
 go_enter Tryz.func37,Tryz.ntmps37
 go_wp2_with (first
  | ((with_reducible refine wL (.build 54 _) ?_);refine Zm rfl 54 [(0,.tmp 17)] rfl [(0,.int .i64 (4))] rfl _ (hbd.out _) ?_)
  | ((with_reducible refine wL (.store 54 (.tmp 4) _) ?_);(refine Zc rfl 54 (.tmp 4) (.tmp 18) rfl (w.heap.size+1) _ RK rfl rfl hZp i8 z8 hVo ?_);intro w3 hU3;have hP3:=Hd hU3.out.here;have hbw3:=Hd (hb2.out.trans (hU3.out.below oX));have hz3:=Hd ((hU3.out.block _ oX).trans hz1.out);have hs3:w.heap.size+2=w3.heap.size:=hs2.out.symm.trans hU3.out.size.symm;replace hs3:=Hd hs3;have k0:=hrk0.out _ _ hP3.out;have hb4:Below w3.heap.size w3 (w3.alloc (.cells #[.int .i64 0,.int .i64 0,.int .i64 30,.int .i64 26,.int .i64 17] 3)):=bR.alloc nR _;have hz4:=Hd ((hb4.block _ (Zb hz3.out)).trans hz3.out);have hP4:=Hd ((hb4.block _ (Zb hP3.out)).trans hP3.out);have hbw4:=Hd (hbw3.out.trans (hb4.mono hbw3.out.size));clear hb4;have k0f:=hrk0.out _ _ hP4.out)
  | ((with_reducible refine wL (.store 54 (.tmp 2) _) ?_);(refine Zc rfl 54 (.tmp 2) (.tmp 52) rfl w.heap.size _ Tryz.zeroCells54 rfl rfl hz4 iZ rfl hZo ?_);intro w10 hU10))
 refine Zf rfl rfl hu rfl iZ hU10.out.here ?_
 exact⟨hZe.out 2,hbw4.out.trans (hU10.out.below nR)⟩
theorem MI(bs:List UInt8)(b o c n:Nat)(w:World)(ha:ArgB w (some ⟨b,o,none⟩) c bs)(hn:bs.length=n)(hm:n<=1000)(h0:0<n)(hk:((bs.getD 0 0).toNat:Int)=4)(hlt:17<n):Calls Tryz.prog 37 #[.slice (some ⟨b,o,none⟩) n c] w (QV Rc.zero 3 w):=by
 have hca:=λW hW=>Qm ha W hW
 have hnc:=Hd (λW hW=>Q1 ha oX W hW)
 rw[hn] at hca
 rw[hn] at hnc
 have hbl:b<w.heap.size:=Q3 ha oX
 have hbd:=Hd (ZF (4))
 have s78:(Rc.ofKind (4)).list.toArray.size=78:=by rw[List.size_toArray,Rc.len (x:=Rc.ofKind (4)) Zh Zh]
 have i8:(Tryz.prog.info? 54).map (·.size)=some (Rc.ofKind (4)).list.toArray.size:=by rw[s78];kernel_rfl
 have z8:(Tryz.zeroCells54).size=(Rc.ofKind (4)).list.toArray.size:=by rw[s78];kernel_rfl
 have hVo:=Rc.all_one (Rc.ofKind (4))
 have iZ:(Tryz.prog.info? 54).map (·.size)=some (Tryz.zeroCells54).size:=kX
 have hZo:(Tryz.zeroCells54).all (·.oneCell')=true:=by rw[Rc.zeroR];exact Rc.all_one Rc.zero
 have hu:=Tryz.underlying54
 have i1:(Tryz.prog.info? 3).map (·.size)=some 1:=kX
 have hrk0:∀ (W:World) g,W.heap[g]? = some (.cells (Rc.ofKind (4)).list.toArray 54 (0,0))->W.cell? ⟨g,0,none⟩=some (.int .i64 (4)):=λW g h=>by rw[Za h];rfl
 replace hrk0:=Hd hrk0
 generalize hRK:(Rc.ofKind (4)).list.toArray=RK at*
 have hZe:Hid (∀ m:Int,Ending.returned (.tuple #[.agg Tryz.zeroCells54,.int .i64 m])=Ending.returned (.tuple #[.agg Rc.zero.list.toArray,.int .i64 m])):=Hd (λv=>by rw[Rc.zeroR])
 replace hRK:=Hd hRK
 have hz1:Hid (((w.alloc (.cells Tryz.zeroCells54 54)).alloc (.cells Tryz.zeroCells54 54)).heap[w.heap.size]? = some (.cells Tryz.zeroCells54 54 (0,0))):=Hd (by rw[Zk,if_neg sX,Zk,if_pos rfl])
 have hZp:Hid (((w.alloc (.cells Tryz.zeroCells54 54)).alloc (.cells Tryz.zeroCells54 54)).heap[w.heap.size+1]? = some (.cells Tryz.zeroCells54 54 (0,0))):=Hd (by rw[Zk,if_pos sX])
 have hb1:Below w.heap.size w (w.alloc (.cells Tryz.zeroCells54 54)):=bR.alloc nR _
 have hb2:=Hd (hb1.alloc sX (.cells Tryz.zeroCells54 54))
 have hs2:((w.alloc (.cells Tryz.zeroCells54 54)).alloc (.cells Tryz.zeroCells54 54)).heap.size=w.heap.size+2:=sX
 replace hca:=Hd hca
 have hc0:=hca.out _ hb1 0 oX
 rw[Nat.add_zero] at hc0
 replace hb1:=Hd hb1
 replace hs2:=Hd hs2
 rw[hk] at hc0
 obtain⟨L,hL⟩:∃ L:Int,(n:Int)=L:=⟨_,rfl⟩
 have hL0:0<L:=oX
 have hL1:L<=1000:=oX
 have hlt2:17<L:=oX
 clear hlt
 clear hn hm hk h0
 go_enter Tryz.func37,Tryz.ntmps37
 go_wp2_with (first
  | ((with_reducible refine wL (.build 54 _) ?_);refine Zm rfl 54 [(0,.tmp 17)] rfl [(0,.int .i64 (4))] rfl _ (hbd.out _) ?_)
  | ((with_reducible refine wL (.store 54 (.tmp 4) _) ?_);(refine Zc rfl 54 (.tmp 4) (.tmp 18) rfl (w.heap.size+1) _ RK rfl rfl hZp i8 z8 hVo ?_);intro w3 hU3;have hP3:=Hd hU3.out.here;have hbw3:=Hd (hb2.out.trans (hU3.out.below oX));have hz3:=Hd ((hU3.out.block _ oX).trans hz1.out);have hs3:w.heap.size+2=w3.heap.size:=hs2.out.symm.trans hU3.out.size.symm;replace hs3:=Hd hs3;have k0:=hrk0.out _ _ hP3.out;have hb4:Below w3.heap.size w3 (w3.alloc (.cells #[.int .i64 0,.int .i64 0,.int .i64 30,.int .i64 26,.int .i64 17] 3)):=bR.alloc nR _;have hz4:=Hd ((hb4.block _ (Zb hz3.out)).trans hz3.out);have hP4:=Hd ((hb4.block _ (Zb hP3.out)).trans hP3.out);have hbw4:=Hd (hbw3.out.trans (hb4.mono hbw3.out.size));clear hb4;have k0f:=hrk0.out _ _ hP4.out)
  | ((with_reducible refine wL (.store 54 (.tmp 2) _) ?_);(refine Zc rfl 54 (.tmp 2) (.tmp 57) rfl w.heap.size _ Tryz.zeroCells54 rfl rfl hz4 iZ rfl hZo ?_);intro w10 hU10))
 refine Zf rfl rfl hu rfl iZ hU10.out.here ?_
 exact⟨hZe.out 3,hbw4.out.trans (hU10.out.below nR)⟩
end Go.Proofs.YtpdhceiodgnbmaaGreatDoor
