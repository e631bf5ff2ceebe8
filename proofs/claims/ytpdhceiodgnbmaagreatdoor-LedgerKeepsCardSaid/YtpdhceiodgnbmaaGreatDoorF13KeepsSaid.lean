import Derived.Test.YtpdhceiodgnbmaaGreatDoorF12KeepsSaid
import Derived.Stop.Asserts
set_option linter.all false
set_option maxRecDepth 100000
set_option maxHeartbeats 8000000
namespace Go.Proofs.YtpdhceiodgnbmaaGreatDoor
section
open Go.RowKit
def K4(s n k d t r:Int):Prop:=(0<=s/\s<=2000)/\(0<=n/\n<=8)/\(1<=k/\k<=12)/\(1<=d/\d<=10000)/\(1<=t/\t<=d)/\(0<=r/\r<=5)
theorem J0(n:Int)(h:0<=n/\n<=2000):33<=Yq n/\Yq n<=600:=by
 have:=Kp n h;unfold Yq;split<;>omega
theorem Ka{w w':World}{a b c d e f:Value}{t:TypeId}(h:w'.heap[w.heap.size]? = some (.cells #[a,b,c,d,e,f] t (0,0))) :
  w'.cell? ⟨w.heap.size,0,none⟩=some a/\w'.cell? ⟨w.heap.size,1,none⟩=some b/\w'.cell? ⟨w.heap.size,2,none⟩=some c/\w'.cell? ⟨w.heap.size,3,none⟩=some d/\w'.cell? ⟨w.heap.size,4,none⟩=some e/\w'.cell? ⟨w.heap.size,5,none⟩=some f:=by
 simp[Za h]
theorem Gl(s n k d t r M:Int)(z:Nat->Addr)(w:World):(Instr.index 225 (Yx s n k d t r M z) (.int .i64 0)).run Tryz.prog w=.ok (.agg #[.string ⟨#[115,105,122,101]⟩,.int .i64 s,.int .i64 0,.int .i64 2000,.iface 298 (.pointer (some (z 1)))]) w:=kX
theorem NJ(s n k d t r M:Int)(z:Nat->Addr)(w:World):(Instr.index 225 (Yx s n k d t r M z) (.int .i64 1)).run Tryz.prog w=.ok (.agg #[.string ⟨#[115,101,110,116,105,110,101,108,115]⟩,.int .i64 n,.int .i64 0,.int .i64 8,.iface 298 (.pointer (some (z 2)))]) w:=kX
theorem Hi(s n k d t r M:Int)(z:Nat->Addr)(w:World):(Instr.index 225 (Yx s n k d t r M z) (.int .i64 2)).run Tryz.prog w=.ok (.agg #[.string ⟨#[115,112,111,116,115]⟩,.int .i64 k,.int .i64 1,.int .i64 M,.iface 298 (.pointer (some (z 0)))]) w:=kX
theorem WB(s n k d t r M:Int)(z:Nat->Addr)(w:World):(Instr.index 225 (Yx s n k d t r M z) (.int .i64 3)).run Tryz.prog w=.ok (.agg #[.string ⟨#[112,101,114,105,111,100]⟩,.int .i64 d,.int .i64 1,.int .i64 10000,.iface 298 (.pointer (some (z 0)))]) w:=kX
theorem Ci(s n k d t r M:Int)(z:Nat->Addr)(w:World):(Instr.index 225 (Yx s n k d t r M z) (.int .i64 4)).run Tryz.prog w=.ok (.agg #[.string ⟨#[112,97,116,105,101,110,99,101]⟩,.int .i64 t,.int .i64 1,.int .i64 d,.iface 298 (.pointer (some (z 0)))]) w:=kX
theorem EN(s n k d t r M:Int)(z:Nat->Addr)(w:World):(Instr.index 225 (Yx s n k d t r M z) (.int .i64 5)).run Tryz.prog w=.ok (.agg #[.string ⟨#[114,101,116,114,105,101,115]⟩,.int .i64 r,.int .i64 0,.int .i64 5,.iface 298 (.pointer (some (z 0)))]) w:=kX
theorem Yy(w:World)(o:Obj)(n:Nat)(h:n=w.heap.size):(w.alloc o).heap[n]? = some o:=h▸heap_alloc_new w o
theorem Xy(s n k d t r c:Int)(z:Nat->Addr)(w:World)(hE:bG w z) :
  Calls Tryz.prog 124 #[.agg #[.int .i64 s,.int .i64 n,.int .i64 k,.int .i64 d,.int .i64 t,.int .i64 r],.int .i64 c] w λe w'=>∃ M,(12<=c->M=12)/\e=.returned (Yx s n k d t r M z)/\Below w.heap.size w w':=Np s n k d t r c z w hE
def VE(base:Nat)(w:World)(v:Value)(F:ByteArray)(V:Int)(x:Addr):Prop:=
 ∃ g,v=.iface 227 (.pointer (some ⟨g,0,none⟩))/\base<=g/\w.heap[g]? = some (.cells #[.string F,.int .i64 V,.iface 298 (.pointer (some x))] 229 (0,0))
theorem Hf(s n k d t r:Int)(h:K4 s n k d t r)(z:Nat->Addr)(w:World)(hE:bG w z) :
  Calls Tryz.prog 88 #[Xh s n k d t r] w λe w'=>e=.returned .nilIface/\Below w.heap.size w w':=by
 obtain⟨hs,hn,hk,hd,ht,hr⟩:=h;have hT:=J0 s hs;have hb1:=Hd ((Below.refl w.heap.size w).alloc nZ (.cells #[.int .i64 s,.int .i64 n,.int .i64 k,.int .i64 d,.int .i64 t,.int .i64 r] 45));have dF:=Hd (heap_alloc_new w (.cells #[.int .i64 s,.int .i64 n,.int .i64 k,.int .i64 d,.int .i64 t,.int .i64 r] 45));have hcall:=Hd (Xz s hs (w.alloc (.cells #[.int .i64 s,.int .i64 n,.int .i64 k,.int .i64 d,.int .i64 t,.int .i64 r] 45)));replace hE:=Hd (hE.below hb1.out);generalize Yq s=T at*;unfold Xh;go_enter Tryz.func88,Tryz.ntmps88;go_wp2_with fail;with_reducible refine hcall.out.mono ?_
 rintro e w1 ⟨rfl,hb2⟩;replace hE:=Hd (hE.out.below hb2);replace dF:=Hd ((hb2.block _ qE).trans dF.out);replace hb1:=Hd (hb1.out.trans (hb2.mono qE));obtain⟨c0,c1,c2,c3,c4,c5⟩:=Ka dF.out;clear hb2 hcall;go_wp2_with fail;have hcall:=Np s n k d t r (T+n) z w1 hE.out;unfold Xh Yx Yf at hcall;replace hcall:=Hd hcall;with_reducible refine hcall.out.mono ?_
 rintro e w2 ⟨M,hM,rfl,hb2⟩;obtain rfl:=hM aB;replace hb1:=Hd (hb1.out.trans (hb2.mono hb1.out.size));have hsz:=hb1.out.size;clear hb2 hcall hM c0 c1 c2 c3 c4 c5 dF hE;go_wp2_with fail;have i0:=Gl s n k d t r 12 z;have i1:=NJ s n k d t r 12 z;have i2:=Hi s n k d t r 12 z;have i3:=WB s n k d t r 12 z;have i4:=Ci s n k d t r 12 z;have i5:=EN s n k d t r 12 z;unfold Yx Yf at i0 i1 i2 i3 i4 i5;refine wp_loop_rounds 7 ?_;rw[rounds_succ];go_wp2_with fail;rw[rounds_succ];go_wp2_with fail;rw[rounds_succ];go_wp2_with fail;rw[rounds_succ];go_wp2_with fail;rw[rounds_succ];go_wp2_with fail;rw[rounds_succ];go_wp2_with fail;rw[rounds_succ];go_wp2_with fail;go_ret;exact⟨rfl,(((((((hb1.out).alloc aB _).alloc bf _).alloc bf _).alloc bf _).alloc bf _).alloc bf _)⟩
theorem WA(s n k d t r:Int)(hb:s<0\/2000<s)(z:Nat->Addr)(w:World)(hE:bG w z)(hn : -9223372036854775808<=n/\n<=9223372036854775807) :
  Calls Tryz.prog 88 #[Xh s n k d t r] w λe w'=>∃ v,e=.returned v/\VE w.heap.size w' v ⟨#[115,105,122,101]⟩ s (z 1)/\Below w.heap.size w w':=by
 have hb1:=Hd ((Below.refl w.heap.size w).alloc nZ (.cells #[.int .i64 s,.int .i64 n,.int .i64 k,.int .i64 d,.int .i64 t,.int .i64 r] 45));have dF:=Hd (heap_alloc_new w (.cells #[.int .i64 s,.int .i64 n,.int .i64 k,.int .i64 d,.int .i64 t,.int .i64 r] 45));replace hE:=Hd (hE.below hb1.out);have hcall:=Hd (Cd s hb (z 1) (w.alloc (.cells #[.int .i64 s,.int .i64 n,.int .i64 k,.int .i64 d,.int .i64 t,.int .i64 r] 45)) (bG.size hE.out));unfold Xh;rcases hb with hb|hb;all_goals
  go_enter Tryz.func88,Tryz.ntmps88;go_wp2_with fail;with_reducible refine hcall.out.mono ?_
  rintro e w1 ⟨rfl,q,hq⟩;have hb2:Below (w.alloc (.cells #[.int .i64 s,.int .i64 n,.int .i64 k,.int .i64 d,.int .i64 t,.int .i64 r] 45)).heap.size (w.alloc (.cells #[.int .i64 s,.int .i64 n,.int .i64 k,.int .i64 d,.int .i64 t,.int .i64 r] 45)) w1:=by subst hq;exact below_drewN bR _
  clear hq;replace hE:=Hd (hE.out.below hb2);replace dF:=Hd ((hb2.block _ qE).trans dF.out);replace hb1:=Hd (hb1.out.trans (hb2.mono qE));obtain⟨c0,c1,c2,c3,c4,c5⟩:=Ka dF.out;clear hb2 hcall;go_wp2_with fail;with_reducible refine(Xy s n k d t r _ z w1 hE.out).mono ?_
  rintro e w2 ⟨M,hM,rfl,hb2⟩;replace hb1:=Hd (hb1.out.trans (hb2.mono hb1.out.size));have hsz:=hb1.out.size;clear hb2 hM c0 c1 c2 c3 c4 c5 dF hE;unfold Yx Yf;go_wp2_with fail;have i0:=Gl s n k d t r M z;unfold Yx Yf at i0;refine wp_loop_rounds 1 ?_;rw[rounds_succ];go_wp2_with fail;go_ret;exact⟨_,rfl,⟨_,rfl,aB,Yy _ _ _ sX⟩,((hb1.out.alloc aB _).alloc bf _)⟩
theorem Wj(s n k d t r:Int)(hs:0<=s/\s<=2000)(hb:n<0\/8<n)(z:Nat->Addr)(w:World)(hE:bG w z) :
  Calls Tryz.prog 88 #[Xh s n k d t r] w λe w'=>∃ v,e=.returned v/\VE w.heap.size w' v ⟨#[115,101,110,116,105,110,101,108,115]⟩ n (z 2)/\Below w.heap.size w w':=by
 have hT:=J0 s hs;have hb1:=Hd ((Below.refl w.heap.size w).alloc nZ (.cells #[.int .i64 s,.int .i64 n,.int .i64 k,.int .i64 d,.int .i64 t,.int .i64 r] 45));have dF:=Hd (heap_alloc_new w (.cells #[.int .i64 s,.int .i64 n,.int .i64 k,.int .i64 d,.int .i64 t,.int .i64 r] 45));replace hE:=Hd (hE.below hb1.out);have hcall:=Hd (Xz s hs (w.alloc (.cells #[.int .i64 s,.int .i64 n,.int .i64 k,.int .i64 d,.int .i64 t,.int .i64 r] 45)));generalize Yq s=T at*;unfold Xh;rcases hb with hb|hb;all_goals
  go_enter Tryz.func88,Tryz.ntmps88;go_wp2_with fail;with_reducible refine hcall.out.mono ?_
  rintro e w1 ⟨rfl,hb2⟩;replace hE:=Hd (hE.out.below hb2);replace dF:=Hd ((hb2.block _ qE).trans dF.out);replace hb1:=Hd (hb1.out.trans (hb2.mono qE));obtain⟨c0,c1,c2,c3,c4,c5⟩:=Ka dF.out;clear hb2 hcall;go_wp2_with fail;with_reducible refine(Xy s n k d t r _ z w1 hE.out).mono ?_
  rintro e w2 ⟨M,hM,rfl,hb2⟩;replace hb1:=Hd (hb1.out.trans (hb2.mono hb1.out.size));have hsz:=hb1.out.size;clear hb2 hM c0 c1 c2 c3 c4 c5 dF hE;unfold Yx Yf;go_wp2_with fail;have i0:=Gl s n k d t r M z;have i1:=NJ s n k d t r M z;unfold Yx Yf at i0 i1;refine wp_loop_rounds 2 ?_;rw[rounds_succ];go_wp2_with fail;rw[rounds_succ];go_wp2_with fail;go_ret;exact⟨_,rfl,⟨_,rfl,aB,Yy _ _ _ sX⟩,(((hb1.out.alloc aB _).alloc bf _).alloc bf _)⟩
theorem PM(s n k d t r:Int)(hs:0<=s/\s<=2000)(hn:0<=n/\n<=8)(hb:k<1\/12<k)(z:Nat->Addr)(w:World)(hE:bG w z) :
  Calls Tryz.prog 88 #[Xh s n k d t r] w λe w'=>∃ v,e=.returned v/\VE w.heap.size w' v ⟨#[115,112,111,116,115]⟩ k (z 0)/\Below w.heap.size w w':=by
 have hT:=J0 s hs;have hb1:=Hd ((Below.refl w.heap.size w).alloc nZ (.cells #[.int .i64 s,.int .i64 n,.int .i64 k,.int .i64 d,.int .i64 t,.int .i64 r] 45));have dF:=Hd (heap_alloc_new w (.cells #[.int .i64 s,.int .i64 n,.int .i64 k,.int .i64 d,.int .i64 t,.int .i64 r] 45));replace hE:=Hd (hE.below hb1.out);have hcall:=Hd (Xz s hs (w.alloc (.cells #[.int .i64 s,.int .i64 n,.int .i64 k,.int .i64 d,.int .i64 t,.int .i64 r] 45)));generalize Yq s=T at*;unfold Xh;rcases hb with hb|hb;all_goals
  go_enter Tryz.func88,Tryz.ntmps88;go_wp2_with fail;with_reducible refine hcall.out.mono ?_
  rintro e w1 ⟨rfl,hb2⟩;replace hE:=Hd (hE.out.below hb2);replace dF:=Hd ((hb2.block _ qE).trans dF.out);replace hb1:=Hd (hb1.out.trans (hb2.mono qE));obtain⟨c0,c1,c2,c3,c4,c5⟩:=Ka dF.out;clear hb2 hcall;go_wp2_with fail;with_reducible refine(Xy s n k d t r _ z w1 hE.out).mono ?_
  rintro e w2 ⟨M,hM,rfl,hb2⟩;obtain rfl:=hM aB;replace hb1:=Hd (hb1.out.trans (hb2.mono hb1.out.size));have hsz:=hb1.out.size;clear hb2 hM c0 c1 c2 c3 c4 c5 dF hE;unfold Yx Yf;go_wp2_with fail;have i0:=Gl s n k d t r 12 z;have i1:=NJ s n k d t r 12 z;have i2:=Hi s n k d t r 12 z;unfold Yx Yf at i0 i1 i2;refine wp_loop_rounds 3 ?_;rw[rounds_succ];go_wp2_with fail;rw[rounds_succ];go_wp2_with fail;rw[rounds_succ];go_wp2_with fail;go_ret;exact⟨_,rfl,⟨_,rfl,aB,Yy _ _ _ sX⟩,((((hb1.out.alloc aB _).alloc bf _).alloc bf _).alloc bf _)⟩
theorem WF(s n k d t r:Int)(hs:0<=s/\s<=2000)(hn:0<=n/\n<=8)(hk:1<=k/\k<=12)(hb:d<1\/10000<d)(z:Nat->Addr)(w:World)(hE:bG w z) :
  Calls Tryz.prog 88 #[Xh s n k d t r] w λe w'=>∃ v,e=.returned v/\VE w.heap.size w' v ⟨#[112,101,114,105,111,100]⟩ d (z 0)/\Below w.heap.size w w':=by
 have hT:=J0 s hs;have hb1:=Hd ((Below.refl w.heap.size w).alloc nZ (.cells #[.int .i64 s,.int .i64 n,.int .i64 k,.int .i64 d,.int .i64 t,.int .i64 r] 45));have dF:=Hd (heap_alloc_new w (.cells #[.int .i64 s,.int .i64 n,.int .i64 k,.int .i64 d,.int .i64 t,.int .i64 r] 45));replace hE:=Hd (hE.below hb1.out);have hcall:=Hd (Xz s hs (w.alloc (.cells #[.int .i64 s,.int .i64 n,.int .i64 k,.int .i64 d,.int .i64 t,.int .i64 r] 45)));generalize Yq s=T at*;unfold Xh;rcases hb with hb|hb;all_goals
  go_enter Tryz.func88,Tryz.ntmps88;go_wp2_with fail;with_reducible refine hcall.out.mono ?_
  rintro e w1 ⟨rfl,hb2⟩;replace hE:=Hd (hE.out.below hb2);replace dF:=Hd ((hb2.block _ qE).trans dF.out);replace hb1:=Hd (hb1.out.trans (hb2.mono qE));obtain⟨c0,c1,c2,c3,c4,c5⟩:=Ka dF.out;clear hb2 hcall;go_wp2_with fail;with_reducible refine(Xy s n k d t r _ z w1 hE.out).mono ?_
  rintro e w2 ⟨M,hM,rfl,hb2⟩;obtain rfl:=hM aB;replace hb1:=Hd (hb1.out.trans (hb2.mono hb1.out.size));have hsz:=hb1.out.size;clear hb2 hM c0 c1 c2 c3 c4 c5 dF hE;unfold Yx Yf;go_wp2_with fail;have i0:=Gl s n k d t r 12 z;have i1:=NJ s n k d t r 12 z;have i2:=Hi s n k d t r 12 z;have i3:=WB s n k d t r 12 z;unfold Yx Yf at i0 i1 i2 i3;refine wp_loop_rounds 4 ?_;rw[rounds_succ];go_wp2_with fail;rw[rounds_succ];go_wp2_with fail;rw[rounds_succ];go_wp2_with fail;rw[rounds_succ];go_wp2_with fail;go_ret;exact⟨_,rfl,⟨_,rfl,aB,Yy _ _ _ sX⟩,(((((hb1.out.alloc aB _).alloc bf _).alloc bf _).alloc bf _).alloc bf _)⟩
theorem W9(s n k d t r:Int)(hs:0<=s/\s<=2000)(hn:0<=n/\n<=8)(hk:1<=k/\k<=12)(hd:1<=d/\d<=10000)(hb:t<1\/d<t)(z:Nat->Addr)(w:World)(hE:bG w z) :
  Calls Tryz.prog 88 #[Xh s n k d t r] w λe w'=>∃ v,e=.returned v/\VE w.heap.size w' v ⟨#[112,97,116,105,101,110,99,101]⟩ t (z 0)/\Below w.heap.size w w':=by
 have hT:=J0 s hs;have hb1:=Hd ((Below.refl w.heap.size w).alloc nZ (.cells #[.int .i64 s,.int .i64 n,.int .i64 k,.int .i64 d,.int .i64 t,.int .i64 r] 45));have dF:=Hd (heap_alloc_new w (.cells #[.int .i64 s,.int .i64 n,.int .i64 k,.int .i64 d,.int .i64 t,.int .i64 r] 45));replace hE:=Hd (hE.below hb1.out);have hcall:=Hd (Xz s hs (w.alloc (.cells #[.int .i64 s,.int .i64 n,.int .i64 k,.int .i64 d,.int .i64 t,.int .i64 r] 45)));generalize Yq s=T at*;unfold Xh;rcases hb with hb|hb;all_goals
  go_enter Tryz.func88,Tryz.ntmps88;go_wp2_with fail;with_reducible refine hcall.out.mono ?_
  rintro e w1 ⟨rfl,hb2⟩;replace hE:=Hd (hE.out.below hb2);replace dF:=Hd ((hb2.block _ qE).trans dF.out);replace hb1:=Hd (hb1.out.trans (hb2.mono qE));obtain⟨c0,c1,c2,c3,c4,c5⟩:=Ka dF.out;clear hb2 hcall;go_wp2_with fail;with_reducible refine(Xy s n k d t r _ z w1 hE.out).mono ?_
  rintro e w2 ⟨M,hM,rfl,hb2⟩;obtain rfl:=hM aB;replace hb1:=Hd (hb1.out.trans (hb2.mono hb1.out.size));have hsz:=hb1.out.size;clear hb2 hM c0 c1 c2 c3 c4 c5 dF hE;unfold Yx Yf;go_wp2_with fail;have i0:=Gl s n k d t r 12 z;have i1:=NJ s n k d t r 12 z;have i2:=Hi s n k d t r 12 z;have i3:=WB s n k d t r 12 z;have i4:=Ci s n k d t r 12 z;unfold Yx Yf at i0 i1 i2 i3 i4;refine wp_loop_rounds 5 ?_;rw[rounds_succ];go_wp2_with fail;rw[rounds_succ];go_wp2_with fail;rw[rounds_succ];go_wp2_with fail;rw[rounds_succ];go_wp2_with fail;rw[rounds_succ];go_wp2_with fail;go_ret;exact⟨_,rfl,⟨_,rfl,aB,Yy _ _ _ sX⟩,((((((hb1.out.alloc aB _).alloc bf _).alloc bf _).alloc bf _).alloc bf _).alloc bf _)⟩
theorem WU(s n k d t r:Int)(hs:0<=s/\s<=2000)(hn:0<=n/\n<=8)(hk:1<=k/\k<=12)(hd:1<=d/\d<=10000)(ht:1<=t/\t<=d)(hb:r<0\/5<r)(z:Nat->Addr)(w:World)(hE:bG w z) :
  Calls Tryz.prog 88 #[Xh s n k d t r] w λe w'=>∃ v,e=.returned v/\VE w.heap.size w' v ⟨#[114,101,116,114,105,101,115]⟩ r (z 0)/\Below w.heap.size w w':=by
 have hT:=J0 s hs;have hb1:=Hd ((Below.refl w.heap.size w).alloc nZ (.cells #[.int .i64 s,.int .i64 n,.int .i64 k,.int .i64 d,.int .i64 t,.int .i64 r] 45));have dF:=Hd (heap_alloc_new w (.cells #[.int .i64 s,.int .i64 n,.int .i64 k,.int .i64 d,.int .i64 t,.int .i64 r] 45));replace hE:=Hd (hE.below hb1.out);have hcall:=Hd (Xz s hs (w.alloc (.cells #[.int .i64 s,.int .i64 n,.int .i64 k,.int .i64 d,.int .i64 t,.int .i64 r] 45)));generalize Yq s=T at*;unfold Xh;rcases hb with hb|hb;all_goals
  go_enter Tryz.func88,Tryz.ntmps88;go_wp2_with fail;with_reducible refine hcall.out.mono ?_
  rintro e w1 ⟨rfl,hb2⟩;replace hE:=Hd (hE.out.below hb2);replace dF:=Hd ((hb2.block _ qE).trans dF.out);replace hb1:=Hd (hb1.out.trans (hb2.mono qE));obtain⟨c0,c1,c2,c3,c4,c5⟩:=Ka dF.out;clear hb2 hcall;go_wp2_with fail;with_reducible refine(Xy s n k d t r _ z w1 hE.out).mono ?_
  rintro e w2 ⟨M,hM,rfl,hb2⟩;obtain rfl:=hM aB;replace hb1:=Hd (hb1.out.trans (hb2.mono hb1.out.size));have hsz:=hb1.out.size;clear hb2 hM c0 c1 c2 c3 c4 c5 dF hE;unfold Yx Yf;go_wp2_with fail;have i0:=Gl s n k d t r 12 z;have i1:=NJ s n k d t r 12 z;have i2:=Hi s n k d t r 12 z;have i3:=WB s n k d t r 12 z;have i4:=Ci s n k d t r 12 z;have i5:=EN s n k d t r 12 z;unfold Yx Yf at i0 i1 i2 i3 i4 i5;refine wp_loop_rounds 6 ?_;rw[rounds_succ];go_wp2_with fail;rw[rounds_succ];go_wp2_with fail;rw[rounds_succ];go_wp2_with fail;rw[rounds_succ];go_wp2_with fail;rw[rounds_succ];go_wp2_with fail;rw[rounds_succ];go_wp2_with fail;go_ret;exact⟨_,rfl,⟨_,rfl,aB,Yy _ _ _ sX⟩,(((((((hb1.out.alloc aB _).alloc bf _).alloc bf _).alloc bf _).alloc bf _).alloc bf _).alloc bf _)⟩
open Go.RowKit Go.Extern.Stop Go.Stop Go.Extern
theorem M1(s n k d t r:Int)(h:K4 s n k d t r)(z:Nat->Addr)(w:World)(hE:bG w z) :
  Calls Tryz.prog 88 #[.agg #[.int .i64 s,.int .i64 n,.int .i64 k,.int .i64 d,.int .i64 t,.int .i64 r]] w λe w'=>e=.returned .nilIface/\Below w.heap.size w w':=Hf s n k d t r h z w hE
def Qu(s n k d t r:Int):Option (ByteArray×Int×Nat):=
 if s<0\/2000<s then some (⟨#[115,105,122,101]⟩,s,7)
 else if n<0\/8<n then some (⟨#[115,101,110,116,105,110,101,108,115]⟩,n,17)
 else if k<1\/12<k then some (⟨#[115,112,111,116,115]⟩,k,0)
 else if d<1\/10000<d then some (⟨#[112,101,114,105,111,100]⟩,d,0)
 else if t<1\/d<t then some (⟨#[112,97,116,105,101,110,99,101]⟩,t,0)
 else if r<0\/5<r then some (⟨#[114,101,116,114,105,101,115]⟩,r,0)
 else none
theorem Ui(s n k d t r:Int) :
  ((s<0\/2000<s)/\Qu s n k d t r=some (⟨#[115,105,122,101]⟩,s,7))\/
  ((0<=s/\s<=2000)/\(n<0\/8<n)/\Qu s n k d t r=some (⟨#[115,101,110,116,105,110,101,108,115]⟩,n,17))\/
  ((0<=s/\s<=2000)/\(0<=n/\n<=8)/\(k<1\/12<k)/\Qu s n k d t r=some (⟨#[115,112,111,116,115]⟩,k,0))\/
  ((0<=s/\s<=2000)/\(0<=n/\n<=8)/\(1<=k/\k<=12)/\(d<1\/10000<d)/\Qu s n k d t r=some (⟨#[112,101,114,105,111,100]⟩,d,0))\/
  ((0<=s/\s<=2000)/\(0<=n/\n<=8)/\(1<=k/\k<=12)/\(1<=d/\d<=10000)/\(t<1\/d<t)/\Qu s n k d t r=some (⟨#[112,97,116,105,101,110,99,101]⟩,t,0))\/
  ((0<=s/\s<=2000)/\(0<=n/\n<=8)/\(1<=k/\k<=12)/\(1<=d/\d<=10000)/\(1<=t/\t<=d)/\(r<0\/5<r)/\Qu s n k d t r=some (⟨#[114,101,116,114,105,101,115]⟩,r,0))\/
  ((0<=s/\s<=2000)/\(0<=n/\n<=8)/\(1<=k/\k<=12)/\(1<=d/\d<=10000)/\(1<=t/\t<=d)/\(0<=r/\r<=5)/\Qu s n k d t r=none):=by
 unfold Qu;by_cases h1:s<0\/2000<s
 ·exact .inl ⟨h1,by rw[if_pos h1]⟩
 by_cases h2:n<0\/8<n
 ·exact .inr (.inl ⟨aB,h2,by rw[if_neg h1,if_pos h2]⟩)
 by_cases h3:k<1\/12<k
 ·exact .inr (.inr (.inl ⟨aB,aB,h3,by rw[if_neg h1,if_neg h2,if_pos h3]⟩))
 by_cases h4:d<1\/10000<d
 ·exact .inr (.inr (.inr (.inl ⟨aB,aB,aB,h4,by rw[if_neg h1,if_neg h2,if_neg h3,if_pos h4]⟩)))
 by_cases h5:t<1\/d<t
 ·exact .inr (.inr (.inr (.inr (.inl ⟨aB,aB,aB,aB,h5,by rw[if_neg h1,if_neg h2,if_neg h3,if_neg h4,if_pos h5]⟩))))
 by_cases h6:r<0\/5<r
 ·exact .inr (.inr (.inr (.inr (.inr (.inl ⟨aB,aB,aB,aB,aB,h6,by rw[if_neg h1,if_neg h2,if_neg h3,if_neg h4,if_neg h5,if_pos h6]⟩)))))
 ·exact .inr (.inr (.inr (.inr (.inr (.inr ⟨aB,aB,aB,aB,aB,aB,by rw[if_neg h1,if_neg h2,if_neg h3,if_neg h4,if_neg h5,if_neg h6]⟩)))))
theorem Tryz.isTypeOf(v:Value)(w:World):(Extern.ReflectliteType.typeOf #[.iface 298 v]).run Tryz.prog w=.ok (.iface 212 (.agg #[.pointer (some ⟨27,298,none⟩)])) w:=kX
noncomputable def Vr:Array Value->Sem Value:=Extern.ReflectliteType.method λt=>do Extern.Rtype.noPackHeld "Comparable" t;pure (.bool (<-typeInfo t).comparable)
theorem Tryz.isComparable(w:World):(Vr #[.agg #[.pointer (some ⟨27,298,none⟩)]]).run Tryz.prog w=.ok (.bool true) w:=kX
theorem Tryz.isMethodComparable(v:Value)(w:World):(Go.method 434 212 v "Comparable").run Tryz.prog w=.ok (210,v) w:=kX
theorem Tryz.isComp:(Tryz.prog.info? 298).map (·.comparable)=some true:=kX
theorem Tryz.isSize:(Tryz.prog.info? 322).map (·.size)=some 1:=kX
theorem Tryz.noIsE(v:Value)(xT:TypeId)(w:World):(Instr.typeAssert (.iface 298 v) xT 214 true).run Tryz.prog w=.ok (.tuple #[.nilIface,.bool false]) w:=run_typeAssert_lacksB Tryz.underlying214 kX kX v xT w
theorem Tryz.noUnwrapE(v:Value)(xT:TypeId)(w:World):(Instr.typeAssert (.iface 298 v) xT 217 true).run Tryz.prog w=.ok (.tuple #[.nilIface,.bool false]) w:=run_typeAssert_lacksB Tryz.underlying217 kX kX v xT w
theorem Tryz.noUnwrapsE(v:Value)(xT:TypeId)(w:World):(Instr.typeAssert (.iface 298 v) xT 219 true).run Tryz.prog w=.ok (.tuple #[.nilIface,.bool false]) w:=run_typeAssert_lacksB Tryz.underlying219 kX kX v xT w
theorem Eo(a:Addr)(w:World) :
  Calls Tryz.prog 38 #[.iface 298 (.pointer (some a)),.iface 298 (.pointer (some a))] w λe w'=>e=.returned (.bool true)/\w=w':=by
 obtain⟨i,hi,hcmp⟩:=Option.map_eq_some_iff.1 Tryz.isComp;obtain⟨j,hj,hjs⟩:=Option.map_eq_some_iff.1 Tryz.isSize;have h8:=@run_callFunc_extern Tryz.prog 84 _ Extern.ReflectliteType.typeOf Tryz.func84 kX kX kX kX;have h32:=@run_callFunc_extern Tryz.prog 210 _ Vr Tryz.func210 kX kX kX kX;have tT:=Tryz.isTypeOf;have cT:=Tryz.isComparable;have mR:=Tryz.isMethodComparable;have heq:=run_eql_iface_ptr_same (P:=Tryz.prog) w a Tryz.underlying30 Tryz.underlying298 hi hcmp hj;go_enter Tryz.func38,Tryz.ntmps38;go_wp2;refine wp_loop_rounds 1 ?_;rw[rounds_succ];go_wp2;go_ret;exact⟨rfl,rfl⟩
theorem Cu(a b:Addr)(ca cb:Array Value)(ta tb:TypeId)(w:World)(hne:a≠b)(ha:w.heap[a.block]? = some (.cells ca ta (0,0)))(hb:w.heap[b.block]? = some (.cells cb tb (0,0))) :
  Calls Tryz.prog 38 #[.iface 298 (.pointer (some a)),.iface 298 (.pointer (some b))] w λe w'=>e=.returned (.bool false)/\w=w':=by
 obtain⟨i,hi,hcmp⟩:=Option.map_eq_some_iff.1 Tryz.isComp;obtain⟨j,hj,hjs⟩:=Option.map_eq_some_iff.1 Tryz.isSize;have h8:=@run_callFunc_extern Tryz.prog 84 _ Extern.ReflectliteType.typeOf Tryz.func84 kX kX kX kX;have h32:=@run_callFunc_extern Tryz.prog 210 _ Vr Tryz.func210 kX kX kX kX;have tT:=Tryz.isTypeOf;have cT:=Tryz.isComparable;have mR:=Tryz.isMethodComparable;have nE:=Tryz.noIsE;have uE:=Tryz.noUnwrapE;have vE:=Tryz.noUnwrapsE;have heq:=run_eql_iface_ptr_other (P:=Tryz.prog) w Tryz.underlying30 Tryz.underlying298 hi hcmp hj (by rw[hjs];decide) hne ha hb;go_enter Tryz.func38,Tryz.ntmps38;go_wp2;refine wp_loop_rounds 1 ?_;rw[rounds_succ];go_wp2;go_ret;exact⟨rfl,rfl⟩
def aK:List Nat:=[0,1,2,3,4,5,6,7,8,9,10,11,12,13,14,15,16,17,18,19]
theorem Qt{w:World}{a:Nat->Addr}(H:aQ 298 aK w a) :
  w.cell? ⟨0,0,none⟩=some (.iface 298 (.pointer (some (a 0))))/\
  w.cell? ⟨1,0,none⟩=some (.iface 298 (.pointer (some (a 1))))/\
  w.cell? ⟨2,0,none⟩=some (.iface 298 (.pointer (some (a 2))))/\
  w.cell? ⟨3,0,none⟩=some (.iface 298 (.pointer (some (a 3))))/\
  w.cell? ⟨4,0,none⟩=some (.iface 298 (.pointer (some (a 4))))/\
  w.cell? ⟨5,0,none⟩=some (.iface 298 (.pointer (some (a 5))))/\
  w.cell? ⟨6,0,none⟩=some (.iface 298 (.pointer (some (a 6))))/\
  w.cell? ⟨7,0,none⟩=some (.iface 298 (.pointer (some (a 7))))/\
  w.cell? ⟨8,0,none⟩=some (.iface 298 (.pointer (some (a 8))))/\
  w.cell? ⟨9,0,none⟩=some (.iface 298 (.pointer (some (a 9))))/\
  w.cell? ⟨10,0,none⟩=some (.iface 298 (.pointer (some (a 10))))/\
  w.cell? ⟨11,0,none⟩=some (.iface 298 (.pointer (some (a 11))))/\
  w.cell? ⟨12,0,none⟩=some (.iface 298 (.pointer (some (a 12))))/\
  w.cell? ⟨13,0,none⟩=some (.iface 298 (.pointer (some (a 13))))/\
  w.cell? ⟨14,0,none⟩=some (.iface 298 (.pointer (some (a 14))))/\
  w.cell? ⟨15,0,none⟩=some (.iface 298 (.pointer (some (a 15))))/\
  w.cell? ⟨16,0,none⟩=some (.iface 298 (.pointer (some (a 16))))/\
  w.cell? ⟨17,0,none⟩=some (.iface 298 (.pointer (some (a 17))))/\
  w.cell? ⟨18,0,none⟩=some (.iface 298 (.pointer (some (a 18))))/\
  w.cell? ⟨19,0,none⟩=some (.iface 298 (.pointer (some (a 19)))):=
 ⟨H.var 0 dX,H.var 1 dX,H.var 2 dX,H.var 3 dX,H.var 4 dX,H.var 5 dX,H.var 6 dX,H.var 7 dX,H.var 8 dX,H.var 9 dX,H.var 10 dX,H.var 11 dX,H.var 12 dX,H.var 13 dX,H.var 14 dX,H.var 15 dX,H.var 16 dX,H.var 17 dX,H.var 18 dX,H.var 19 dX⟩
def Jy(a:Nat->Addr):Array Value:=#[.iface 298 (.pointer (some (a 0))),.iface 298 (.pointer (some (a 1))),.iface 298 (.pointer (some (a 2))),.iface 298 (.pointer (some (a 3))),.iface 298 (.pointer (some (a 4))),.iface 298 (.pointer (some (a 5))),.iface 298 (.pointer (some (a 6))),.iface 298 (.pointer (some (a 7))),.iface 298 (.pointer (some (a 8))),.iface 298 (.pointer (some (a 9))),.iface 298 (.pointer (some (a 10))),.iface 298 (.pointer (some (a 11))),.iface 298 (.pointer (some (a 12))),.iface 298 (.pointer (some (a 13))),.iface 298 (.pointer (some (a 14))),.iface 298 (.pointer (some (a 15))),.iface 298 (.pointer (some (a 16))),.iface 298 (.pointer (some (a 17))),.iface 298 (.pointer (some (a 18))),.iface 298 (.pointer (some (a 19)))]
theorem UE(a:Nat->Addr)(m:Nat)(h:m<20):(Jy a)[m]? = some (.iface 298 (.pointer (some (a m)))):=by
 match m,h with
 | 0,_=>rfl
 | 1,_=>rfl
 | 2,_=>rfl
 | 3,_=>rfl
 | 4,_=>rfl
 | 5,_=>rfl
 | 6,_=>rfl
 | 7,_=>rfl
 | 8,_=>rfl
 | 9,_=>rfl
 | 10,_=>rfl
 | 11,_=>rfl
 | 12,_=>rfl
 | 13,_=>rfl
 | 14,_=>rfl
 | 15,_=>rfl
 | 16,_=>rfl
 | 17,_=>rfl
 | 18,_=>rfl
 | 19,_=>rfl
 | n+20,h=>omega
theorem NW(w:World):Calls Tryz.prog 10 #[.nilIface] w λe w'=>e=.returned (.int .i64 0)/\w=w':=by
 go_enter Tryz.func10,Tryz.ntmps10;go_wp2_with fail;go_ret;exact⟨rfl,rfl⟩
theorem EC(i:Nat)(hi:i<20)(a:Nat->Addr)(w:World)(H:aQ 298 aK w a) :
  Calls Tryz.prog 10 #[.iface 298 (.pointer (some (a i)))] w λe w'=>e=.returned (.int .i64 ((i+1:Nat):Int))/\Below w.heap.size w w':=by
 obtain⟨g0,g1,g2,g3,g4,g5,g6,g7,g8,g9,g10,g11,g12,g13,g14,g15,g16,g17,g18,g19⟩:=Qt H;have H:=Hd H;go_enter Tryz.func10,Tryz.ntmps10;go_wp2_with fail;obtain⟨w1,hw1⟩:=aA (w.alloc (Obj.cells (Jy a) 30));have hcl:∀ m,m<20->w1.cell? ⟨w.heap.size,m,none⟩=some (.iface 298 (.pointer (some (a m)))):=by
  intro m hm;rw[hw1,Za (heap_alloc_new w _)];exact UE a m hm
 have hb1:Below w.heap.size w w1:=by rw[hw1];exact bR.alloc nZ _
 have H1:=Hd (H.out.below hb1);have hcl:=Hd hcl;unfold Jy at hw1;rw[<-hw1];clear hw1 H;clear g0 g1 g2 g3 g4 g5 g6 g7 g8 g9 g10 g11 g12 g13 g14 g15 g16 g17 g18 g19
 go_loop [31] (λj=>∃ m:Nat,m<=i/\j=.int .i64 m) (λj=>i-(intOf j).toNat)
 case atStart=>exact⟨0,Nat.zero_le _,rfl⟩
 case round=>
  obtain⟨m,hm,rfl⟩:=hrel;have hc:=hcl.out m aB;by_cases hlt:m<i
  ·obtain⟨c1,t1,o1⟩:=H1.out.obj i hi;obtain⟨c2,t2,o2⟩:=H1.out.obj m (by show m<20;omega);have hne:a i≠a m:=λe=>by have:=H1.out.inj' dX i m hi (by show m<20;omega) e;omega
   have o1:=Hd o1;have o2:=Hd o2;have hne:=Hd hne;go_wp2_with fail;refine(Cu (a i) (a m) c1 c2 t1 t2 _ hne.out o1.out o2.out).mono ?_;rintro e w2 ⟨rfl,rfl⟩;go_wp2_with fail;exact⟨⟨m+1,aB,by go_num⟩,by simp[intOf];omega⟩
  ·obtain rfl:m=i:=aB;go_wp2_with fail;refine(Eo (a m) _).mono ?_;rintro e w2 ⟨rfl,rfl⟩;go_wp2_with fail;go_ret;exact⟨rfl,hb1⟩
theorem Tryz.noIsW(v:Value)(xT:TypeId)(w:World):(Instr.typeAssert (.iface 227 v) xT 214 true).run Tryz.prog w=.ok (.tuple #[.nilIface,.bool false]) w:=run_typeAssert_lacksB Tryz.underlying214 kX kX v xT w
theorem Tryz.hasUnwrapW(v:Value)(xT:TypeId)(w:World):(Instr.typeAssert (.iface 227 v) xT 217 true).run Tryz.prog w=.ok (.tuple #[.iface 227 v,.bool true]) w:=run_typeAssert_hasB Tryz.underlying217 kX v xT w
theorem Tryz.methodUnwrap(v:Value)(w:World):(Go.method 434 227 v "Unwrap").run Tryz.prog w=.ok (220,v) w:=kX
theorem MU(pb po:Nat)(b:Addr)(w:World)(h1:w.cell? ⟨pb,po+2,none⟩=some (.iface 298 (.pointer (some b)))) :
  Calls Tryz.prog 38 #[.iface 227 (.pointer (some ⟨pb,po,none⟩)),.iface 298 (.pointer (some b))] w λe w'=>e=.returned (.bool true)/\w=w':=by
 obtain⟨i,hi,hcmp⟩:=Option.map_eq_some_iff.1 Tryz.isComp;obtain⟨j,hj,hjs⟩:=Option.map_eq_some_iff.1 Tryz.isSize;have h8:=@run_callFunc_extern Tryz.prog 84 _ Extern.ReflectliteType.typeOf Tryz.func84 kX kX kX kX;have h32:=@run_callFunc_extern Tryz.prog 210 _ Vr Tryz.func210 kX kX kX kX;have tT:=Tryz.isTypeOf;have cT:=Tryz.isComparable;have mR:=Tryz.isMethodComparable;have nE:=Tryz.noIsE;have uE:=Tryz.noUnwrapE;have vE:=Tryz.noUnwrapsE;have nW:=Tryz.noIsW;have uW:=Tryz.hasUnwrapW;have mU:=Tryz.methodUnwrap;have heq:=run_eql_iface_ptr_same (P:=Tryz.prog) w b Tryz.underlying30 Tryz.underlying298 hi hcmp hj;have hty:=run_eql_iface_types (P:=Tryz.prog) 227 298 (.pointer (some ⟨pb,po,none⟩)) (.pointer (some b)) Tryz.underlying30 dX w;go_enter Tryz.func38,Tryz.ntmps38;go_wp2;refine wp_loop_rounds 2 ?_;rw[rounds_succ];go_wp2;rw[rounds_succ];go_wp2;go_ret;exact⟨rfl,rfl⟩
theorem MJ(pb po:Nat)(b a:Addr)(ca cb:Array Value)(ta tb:TypeId)(w:World)(h1:w.cell? ⟨pb,po+2,none⟩=some (.iface 298 (.pointer (some a))))(hne:a≠b)(ha:w.heap[a.block]? = some (.cells ca ta (0,0)))(hb:w.heap[b.block]? = some (.cells cb tb (0,0))) :
  Calls Tryz.prog 38 #[.iface 227 (.pointer (some ⟨pb,po,none⟩)),.iface 298 (.pointer (some b))] w λe w'=>e=.returned (.bool false)/\w=w':=by
 obtain⟨i,hi,hcmp⟩:=Option.map_eq_some_iff.1 Tryz.isComp;obtain⟨j,hj,hjs⟩:=Option.map_eq_some_iff.1 Tryz.isSize;have h8:=@run_callFunc_extern Tryz.prog 84 _ Extern.ReflectliteType.typeOf Tryz.func84 kX kX kX kX;have h32:=@run_callFunc_extern Tryz.prog 210 _ Vr Tryz.func210 kX kX kX kX;have tT:=Tryz.isTypeOf;have cT:=Tryz.isComparable;have mR:=Tryz.isMethodComparable;have nE:=Tryz.noIsE;have uE:=Tryz.noUnwrapE;have vE:=Tryz.noUnwrapsE;have nW:=Tryz.noIsW;have uW:=Tryz.hasUnwrapW;have mU:=Tryz.methodUnwrap;have heq:=run_eql_iface_ptr_other (P:=Tryz.prog) w Tryz.underlying30 Tryz.underlying298 hi hcmp hj (by rw[hjs];decide) hne ha hb;have hty:=run_eql_iface_types (P:=Tryz.prog) 227 298 (.pointer (some ⟨pb,po,none⟩)) (.pointer (some b)) Tryz.underlying30 dX w;go_enter Tryz.func38,Tryz.ntmps38;go_wp2;refine wp_loop_rounds 2 ?_;rw[rounds_succ];go_wp2;rw[rounds_succ];go_wp2;go_ret;exact⟨rfl,rfl⟩
theorem BD(g:Nat)(F:ByteArray)(V:Int)(i:Nat)(hi:i<20)(a:Nat->Addr)(w:World)(H:aQ 298 aK w a)(hg:w.heap[g]? = some (.cells #[.string F,.int .i64 V,.iface 298 (.pointer (some (a i)))] 229 (0,0))) :
  Calls Tryz.prog 10 #[.iface 227 (.pointer (some ⟨g,0,none⟩))] w λe w'=>e=.returned (.int .i64 ((i+1:Nat):Int))/\Below w.heap.size w w':=by
 obtain⟨g0,g1,g2,g3,g4,g5,g6,g7,g8,g9,g10,g11,g12,g13,g14,g15,g16,g17,g18,g19⟩:=Qt H;have H:=Hd H;go_enter Tryz.func10,Tryz.ntmps10;go_wp2_with fail;obtain⟨w1,hw1⟩:=aA (w.alloc (Obj.cells (Jy a) 30));have hcl:∀ m,m<20->w1.cell? ⟨w.heap.size,m,none⟩=some (.iface 298 (.pointer (some (a m)))):=by
  intro m hm;rw[hw1,Za (heap_alloc_new w _)];exact UE a m hm
 have hb1:Below w.heap.size w w1:=by rw[hw1];exact bR.alloc nZ _
 have H1:=Hd (H.out.below hb1);have hw:=Hd (Za ((hb1.block g (Zb hg)).trans hg) 2);clear hg;have hcl:=Hd hcl;unfold Jy at hw1;rw[<-hw1];clear hw1 H;clear g0 g1 g2 g3 g4 g5 g6 g7 g8 g9 g10 g11 g12 g13 g14 g15 g16 g17 g18 g19
 go_loop [31] (λj=>∃ m:Nat,m<=i/\j=.int .i64 m) (λj=>i-(intOf j).toNat)
 case atStart=>exact⟨0,Nat.zero_le _,rfl⟩
 case round=>
  obtain⟨m,hm,rfl⟩:=hrel;have hc:=hcl.out m aB;by_cases hlt:m<i
  ·obtain⟨c1,t1,o1⟩:=H1.out.obj i hi;obtain⟨c2,t2,o2⟩:=H1.out.obj m (by show m<20;omega);have hne:a i≠a m:=λe=>by have:=H1.out.inj' dX i m hi (by show m<20;omega) e;omega
   have o1:=Hd o1;have o2:=Hd o2;have hne:=Hd hne;go_wp2_with fail;refine(MJ g 0 (a m) (a i) c1 c2 t1 t2 _ hw.out hne.out o1.out o2.out).mono ?_;rintro e w2 ⟨rfl,rfl⟩;go_wp2_with fail;exact⟨⟨m+1,aB,by go_num⟩,by simp[intOf];omega⟩
  ·obtain rfl:m=i:=aB;go_wp2_with fail;refine(MU g 0 (a m) _ hw.out).mono ?_;rintro e w2 ⟨rfl,rfl⟩;go_wp2_with fail;go_ret;exact⟨rfl,hb1⟩
end
end Go.Proofs.YtpdhceiodgnbmaaGreatDoor
