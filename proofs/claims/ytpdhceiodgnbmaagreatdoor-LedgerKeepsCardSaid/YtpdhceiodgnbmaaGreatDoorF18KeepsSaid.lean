import Derived.Test.YtpdhceiodgnbmaaGreatDoorF17KeepsSaid
set_option linter.all false
set_option maxRecDepth 100000
set_option maxHeartbeats 8000000
namespace Go.Proofs.YtpdhceiodgnbmaaGreatDoor
open Go.RowKit
theorem JE{w:World}{x:Addr}{v:Value}(h:w.cell? x=some v):∀ W,Grown w W->W.cell? x=some v:=λ_ hW=>(hW.cell (World.block_lt_of_cell? w _ h)).trans h
theorem HC(b off m c:Nat)(x y:UInt8)(w:World)(h0:w.cell? ⟨b,off,none⟩=some (.int .u8 (x.toNat:Int)))(h1:w.cell? ⟨b,off+1,none⟩=some (.int .u8 (y.toNat:Int)))(hm:2<=m) :
  ∀ W,Grown w W->Calls Tryz.prog 105 #[.slice (some ⟨b,off,none⟩) m c] W λe w'=>e=.returned (.int .i64 ((x.toNat:Int)*256+y.toNat))/\∃ n,w'=W.drewN n:=
 λW hW=>CQ b off m c x y W (JE h0 W hW) (JE h1 W hW) hm
theorem Zq(W:World)(o:Obj)(n:Nat):(W.alloc o).drewN n=(W.drewN n).alloc o:=rfl
theorem Zv(W:World)(a b:Nat):(W.drewN a).drewN b=W.drewN (a+b):=by simp[World.drewN,Nat.add_assoc]
theorem Zf{w W:World}(h:Grown w W)(n:Nat):Grown w (W.drewN n):=below_drewN h n
theorem Nr(b off c:Nat)(x0 x1 x2 x3 x4 x5 x6 x7 x8:UInt8)(_:9<=c)(w:World)(Q:Ending->World->Prop)(hq:(Qu ((x0.toNat:Int)*256+x1.toNat) (x2.toNat:Int) (x3.toNat:Int) ((x4.toNat:Int)*256+x5.toNat) ((x6.toNat:Int)*256+x7.toNat) (x8.toNat:Int)=none/\(∃ z,bG w z)/\∀ w',Below w.heap.size w w'->Q (.returned (.tuple #[.agg #[.int .i64 ((x0.toNat:Int)*256+x1.toNat),.int .i64 (x2.toNat:Int),.int .i64 (x3.toNat:Int),.int .i64 ((x4.toNat:Int)*256+x5.toNat),.int .i64 ((x6.toNat:Int)*256+x7.toNat),.int .i64 (x8.toNat:Int)],.nilIface])) w')\/
   (∃ (F:ByteArray) (V:Int) (i:Nat) (ea:Nat->Addr),Qu ((x0.toNat:Int)*256+x1.toNat) (x2.toNat:Int) (x3.toNat:Int) ((x4.toNat:Int)*256+x5.toNat) ((x6.toNat:Int)*256+x7.toNat) (x8.toNat:Int)=some (F,V,i)/\aQ 298 aK w ea/\∀ g w',Th w.heap.size w' F V (ea i) g->Below w.heap.size w w'->Q (.returned (.tuple #[.agg #[.int .i64 0,.int .i64 0,.int .i64 0,.int .i64 0,.int .i64 0,.int .i64 0],(.iface 227 (.pointer (some ⟨g,0,none⟩)))])) w'))
  (h0:w.cell? ⟨b,off,none⟩=some (.int .u8 (x0.toNat:Int))) (h1:w.cell? ⟨b,off+1,none⟩=some (.int .u8 (x1.toNat:Int))) (h2:w.cell? ⟨b,off+2,none⟩=some (.int .u8 (x2.toNat:Int))) (h3:w.cell? ⟨b,off+3,none⟩=some (.int .u8 (x3.toNat:Int)))
  (h4:w.cell? ⟨b,off+4,none⟩=some (.int .u8 (x4.toNat:Int))) (h5:w.cell? ⟨b,off+5,none⟩=some (.int .u8 (x5.toNat:Int))) (h6:w.cell? ⟨b,off+6,none⟩=some (.int .u8 (x6.toNat:Int))) (h7:w.cell? ⟨b,off+7,none⟩=some (.int .u8 (x7.toNat:Int))) (h8:w.cell? ⟨b,off+8,none⟩=some (.int .u8 (x8.toNat:Int))) :
  Calls Tryz.prog 66 #[.slice (some ⟨b,off,none⟩) 9 c] w Q:=by
 replace hq:=Hd hq;have q0:=QY h0;have q1:=QY h1;have q2:=QY h2;have q3:=QY h3;have q4:=QY h4;have q5:=QY h5;have q6:=QY h6;have q7:=QY h7;have q8:=QY h8;clear h0 h1 h2 h3 h4 h5 h6 h7 h8;have hb0:=Hd (Below.refl w.heap.size w);go_enter Tryz.func66,Tryz.ntmps66;go_wp2_with fail;generalize hW:w.alloc (.cells #[.int .i64 0,.int .i64 0,.int .i64 0,.int .i64 0,.int .i64 0,.int .i64 0] 45)=W1 at*;replace q0:=hW▸q0 (.cells #[.int .i64 0,.int .i64 0,.int .i64 0,.int .i64 0,.int .i64 0,.int .i64 0] 45);replace q1:=hW▸q1 (.cells #[.int .i64 0,.int .i64 0,.int .i64 0,.int .i64 0,.int .i64 0,.int .i64 0] 45);replace q2:=JE (hW▸q2 (.cells #[.int .i64 0,.int .i64 0,.int .i64 0,.int .i64 0,.int .i64 0,.int .i64 0] 45));replace q3:=JE (hW▸q3 (.cells #[.int .i64 0,.int .i64 0,.int .i64 0,.int .i64 0,.int .i64 0,.int .i64 0] 45));replace q4:=hW▸q4 (.cells #[.int .i64 0,.int .i64 0,.int .i64 0,.int .i64 0,.int .i64 0,.int .i64 0] 45);replace q5:=hW▸q5 (.cells #[.int .i64 0,.int .i64 0,.int .i64 0,.int .i64 0,.int .i64 0,.int .i64 0] 45);replace q6:=hW▸q6 (.cells #[.int .i64 0,.int .i64 0,.int .i64 0,.int .i64 0,.int .i64 0,.int .i64 0] 45);replace q7:=hW▸q7 (.cells #[.int .i64 0,.int .i64 0,.int .i64 0,.int .i64 0,.int .i64 0,.int .i64 0] 45);replace q8:=JE (hW▸q8 (.cells #[.int .i64 0,.int .i64 0,.int .i64 0,.int .i64 0,.int .i64 0,.int .i64 0] 45));have ct:=Hd (HC b off 9 c x0 x1 W1 q0 q1 aB);have cu:=Hd (HC b (off+4) 5 (c-4) x4 x5 W1 q4 q5 aB)
 have cv:=Hd (HC b (off+6) 3 (c-6) x6 x7 W1 q6 q7 aB);clear q0 q1 q4 q5 q6 q7;have e2:IntKind.i64.wrap (x2.toNat:Int)=x2.toNat:=IntWalk.i64_in _ (by have:=x2.toNat_lt;omega);have e3:IntKind.i64.wrap (x3.toNat:Int)=x3.toNat:=IntWalk.i64_in _ (by have:=x3.toNat_lt;omega);have e8:IntKind.i64.wrap (x8.toNat:Int)=x8.toNat:=IntWalk.i64_in _ (by have:=x8.toNat_lt;omega);go_cut [4] from 11 to 31 (λs4 wx=>∃ m:Nat,s4=.pointer (some ⟨W1.heap.size,0,none⟩)/\wx=(W1.drewN m).alloc (.cells #[.int .i64 ((x0.toNat:Int)*256+x1.toNat),.int .i64 (x2.toNat:Int),.int .i64 (x3.toNat:Int),.int .i64 ((x4.toNat:Int)*256+x5.toNat),.int .i64 ((x6.toNat:Int)*256+x7.toNat),.int .i64 (x8.toNat:Int)] 45))
 case first=>
  refine Hj kX (λaD=>?_);refine tk 0 aD ?_;refine tk 2 aD ?_;refine tk 3 aD ?_;refine tk 4 aD ?_;refine tk 5 aD ?_;refine tk 6 aD ?_;refine tk 7 aD ?_;refine tk 8 aD ?_;refine tk 9 aD ?_;refine tk 10 aD ?_;refine tk 11 aD ?_;refine tk 13 aD ?_;refine tk 14 aD ?_;refine tk 16 aD ?_;refine tk 17 aD ?_;refine tk 18 aD ?_;refine tk 19 aD ?_;refine fZ [1,21] ?_;refine AllReadyH.cons jr (λK hK=>?_) ?_
  ·go_simp;refine(ct.out _ aD).mono ?_;rintro e w2 ⟨rfl,nw2,rfl⟩;go_wp2_with fail;refine hK.out _ _ mV (λhNext=>?_);clear hK K aD;have aD:=hNext;clear hNext;try rw[Zq,Zv]
   try rw[Zq,Zv] at aD
   try simp only[Act.put,sL,sZ,sS]
   refine fZ [12,21] ?_;refine AllReadyH.cons jr (λK hK=>?_) ?_
   ·go_simp;refine(cu.out _ aD).mono ?_;rintro e w3 ⟨rfl,nw3,rfl⟩;go_wp2_with fail;refine hK.out _ _ mV (λhNext=>?_);clear hK K aD;have aD:=hNext;clear hNext;try rw[Zq,Zv]
    try rw[Zq,Zv] at aD
    try simp only[Act.put,sL,sZ,sS]
    refine fZ [15,21] ?_;refine AllReadyH.cons jr (λK hK=>?_) ?_
    ·go_simp;refine(cv.out _ aD).mono ?_;rintro e w4 ⟨rfl,nw4,rfl⟩;go_wp2_with fail;refine hK.out _ _ mV (λhNext=>?_);clear hK K aD;have aD:=hNext;clear hNext;try rw[Zq,Zv]
     try rw[Zq,Zv] at aD
     try simp only[Act.put,sL,sZ,sS]
     refine tk 20 aD ?_;refine fZ [21] ?_;refine AllReadyH.cons jr (λK hK=>?_) AllReadyH.nil;go_simp;try go_wp2_with fail
     refine hK.out _ _ mV (λhNext=>?_);clear hK K aD;have aD:=hNext;clear hNext;try rw[Zq,Zv]
     try rw[Zq,Zv] at aD
     try simp only[Act.put,sL,sZ,sS]
     refine fZ [22] ?_;refine AllReadyH.cons jr (λK hK=>?_) AllReadyH.nil;rw[if_pos bT];refine Xk (w:=W1.drewN _) 45 (.tmp 4) (.tmp 31) rfl _ #[.int .i64 ((x0.toNat:Int)*256+x1.toNat),.int .i64 (x2.toNat:Int),.int .i64 (x3.toNat:Int),.int .i64 ((x4.toNat:Int)*256+x5.toNat),.int .i64 ((x6.toNat:Int)*256+x7.toNat),.int .i64 (x8.toNat:Int)] rfl rfl kX rfl jK ?_;refine hK.out _ _ mV (λhNext=>?_);clear hK K aD;have aD:=hNext;clear hNext;try rw[Zq,Zv]
     try rw[Zq,Zv] at aD
     try simp only[Act.put]
     refine bz ?_;go_wp2_with fail;go_meet;exact⟨_,rfl,rfl⟩
    refine AllReadyH.cons jr (λK hK=>?_) AllReadyH.nil;go_simp;try go_wp2_with fail
    refine hK.out _ _ mV (λhNext=>?_);clear hK K aD;have aD:=hNext;clear hNext;try rw[Zq,Zv]
    try rw[Zq,Zv] at aD
    try simp only[Act.put,sL,sZ,sS]
    refine fZ [15] ?_;refine AllReadyH.cons jr (λK hK=>?_) AllReadyH.nil;go_simp;refine(cv.out _ aD).mono ?_;rintro e w4 ⟨rfl,nw4,rfl⟩;go_wp2_with fail;refine hK.out _ _ mV (λhNext=>?_);clear hK K aD;have aD:=hNext;clear hNext;try rw[Zq,Zv]
    try rw[Zq,Zv] at aD
    try simp only[Act.put,sL,sZ,sS]
    refine tk 20 aD ?_;refine fZ [22] ?_;refine AllReadyH.cons jr (λK hK=>?_) AllReadyH.nil;rw[if_pos bT];refine Xk (w:=W1.drewN _) 45 (.tmp 4) (.tmp 31) rfl _ #[.int .i64 ((x0.toNat:Int)*256+x1.toNat),.int .i64 (x2.toNat:Int),.int .i64 (x3.toNat:Int),.int .i64 ((x4.toNat:Int)*256+x5.toNat),.int .i64 ((x6.toNat:Int)*256+x7.toNat),.int .i64 (x8.toNat:Int)] rfl rfl kX rfl jK ?_;refine hK.out _ _ mV (λhNext=>?_);clear hK K aD;have aD:=hNext;clear hNext;try rw[Zq,Zv]
    try rw[Zq,Zv] at aD
    try simp only[Act.put]
    refine bz ?_;go_wp2_with fail;go_meet;exact⟨_,rfl,rfl⟩
   refine AllReadyH.cons jr (λK hK=>?_) AllReadyH.nil;go_simp;try go_wp2_with fail
   refine hK.out _ _ mV (λhNext=>?_);clear hK K aD;have aD:=hNext;clear hNext;try rw[Zq,Zv]
   try rw[Zq,Zv] at aD
   try simp only[Act.put,sL,sZ,sS]
   refine fZ [12] ?_;refine AllReadyH.cons jr (λK hK=>?_) AllReadyH.nil;go_simp;refine(cu.out _ aD).mono ?_;rintro e w3 ⟨rfl,nw3,rfl⟩;go_wp2_with fail;refine hK.out _ _ mV (λhNext=>?_);clear hK K aD;have aD:=hNext;clear hNext;try rw[Zq,Zv]
   try rw[Zq,Zv] at aD
   try simp only[Act.put,sL,sZ,sS]
   refine fZ [15] ?_;refine AllReadyH.cons jr (λK hK=>?_) AllReadyH.nil;go_simp;refine(cv.out _ aD).mono ?_;rintro e w4 ⟨rfl,nw4,rfl⟩;go_wp2_with fail;refine hK.out _ _ mV (λhNext=>?_);clear hK K aD;have aD:=hNext;clear hNext;try rw[Zq,Zv]
   try rw[Zq,Zv] at aD
   try simp only[Act.put,sL,sZ,sS]
   refine tk 20 aD ?_;refine fZ [22] ?_;refine AllReadyH.cons jr (λK hK=>?_) AllReadyH.nil;rw[if_pos bT];refine Xk (w:=W1.drewN _) 45 (.tmp 4) (.tmp 31) rfl _ #[.int .i64 ((x0.toNat:Int)*256+x1.toNat),.int .i64 (x2.toNat:Int),.int .i64 (x3.toNat:Int),.int .i64 ((x4.toNat:Int)*256+x5.toNat),.int .i64 ((x6.toNat:Int)*256+x7.toNat),.int .i64 (x8.toNat:Int)] rfl rfl kX rfl jK ?_;refine hK.out _ _ mV (λhNext=>?_);clear hK K aD;have aD:=hNext;clear hNext;try rw[Zq,Zv]
   try rw[Zq,Zv] at aD
   try simp only[Act.put]
   refine bz ?_;go_wp2_with fail;go_meet;exact⟨_,rfl,rfl⟩
  refine AllReadyH.cons jr (λK hK=>?_) AllReadyH.nil;go_simp;try go_wp2_with fail
  refine hK.out _ _ mV (λhNext=>?_);clear hK K aD;have aD:=hNext;clear hNext;try rw[Zq,Zv]
  try rw[Zq,Zv] at aD
  try simp only[Act.put,sL,sZ,sS]
  refine fZ [1] ?_;refine AllReadyH.cons jr (λK hK=>?_) AllReadyH.nil;go_simp;refine(ct.out _ aD).mono ?_;rintro e w2 ⟨rfl,nw2,rfl⟩;go_wp2_with fail;refine hK.out _ _ mV (λhNext=>?_);clear hK K aD;have aD:=hNext;clear hNext;try rw[Zq,Zv]
  try rw[Zq,Zv] at aD
  try simp only[Act.put,sL,sZ,sS]
  refine fZ [12] ?_;refine AllReadyH.cons jr (λK hK=>?_) AllReadyH.nil;go_simp;refine(cu.out _ aD).mono ?_;rintro e w3 ⟨rfl,nw3,rfl⟩;go_wp2_with fail;refine hK.out _ _ mV (λhNext=>?_);clear hK K aD;have aD:=hNext;clear hNext;try rw[Zq,Zv]
  try rw[Zq,Zv] at aD
  try simp only[Act.put,sL,sZ,sS]
  refine fZ [15] ?_;refine AllReadyH.cons jr (λK hK=>?_) AllReadyH.nil;go_simp;refine(cv.out _ aD).mono ?_;rintro e w4 ⟨rfl,nw4,rfl⟩;go_wp2_with fail;refine hK.out _ _ mV (λhNext=>?_);clear hK K aD;have aD:=hNext;clear hNext;try rw[Zq,Zv]
  try rw[Zq,Zv] at aD
  try simp only[Act.put,sL,sZ,sS]
  refine tk 20 aD ?_;refine fZ [22] ?_;refine AllReadyH.cons jr (λK hK=>?_) AllReadyH.nil;rw[if_pos bT];refine Xk (w:=W1.drewN _) 45 (.tmp 4) (.tmp 31) rfl _ #[.int .i64 ((x0.toNat:Int)*256+x1.toNat),.int .i64 (x2.toNat:Int),.int .i64 (x3.toNat:Int),.int .i64 ((x4.toNat:Int)*256+x5.toNat),.int .i64 ((x6.toNat:Int)*256+x7.toNat),.int .i64 (x8.toNat:Int)] rfl rfl kX rfl jK ?_;refine hK.out _ _ mV (λhNext=>?_);clear hK K aD;have aD:=hNext;clear hNext;try rw[Zq,Zv]
  try rw[Zq,Zv] at aD
  try simp only[Act.put]
  refine bz ?_;go_wp2_with fail;go_meet;exact⟨_,rfl,rfl⟩
 case rest=>
  obtain⟨m,rfl,hwc⟩:=hcut;have hp:=heap_alloc_new (W1.drewN m) (.cells #[.int .i64 ((x0.toNat:Int)*256+x1.toNat),.int .i64 (x2.toNat:Int),.int .i64 (x3.toNat:Int),.int .i64 ((x4.toNat:Int)*256+x5.toNat),.int .i64 ((x6.toNat:Int)*256+x7.toNat),.int .i64 (x8.toNat:Int)] 45);rw[<-hwc] at hp;have hg:w.heap.size<W1.heap.size:=by rw[<-hW];simp
  have hz0:W1.heap[w.heap.size]? = some (.cells #[.int .i64 0,.int .i64 0,.int .i64 0,.int .i64 0,.int .i64 0,.int .i64 0] 45):=by rw[<-hW];exact heap_alloc_new w _
  have hBW:Grown W1 wc:=by rw[hwc];exact Grown.alloc (Zf (Grown.refl _) _) _
  have hzz:=Hd ((hBW.block w.heap.size aB).trans hz0);have hbw:Below w.heap.size w W1:=by rw[<-hW];exact bR.alloc nZ _
  replace hb0:=Hd (hbw.trans (hBW.mono hbw.size));have hp:=Hd (show wc.heap[W1.heap.size]? = _ from hp);clear e2 e3 e8 q2 q3 q8 ct cu cv hwc hz0 hBW hbw;rcases hq.out with ⟨h,⟨z,hE⟩,hq⟩|⟨F,V,i,ea,h,H,hq⟩
  ·replace hq:=Hd hq;replace hE:=Hd (hE.below hb0.out);have hcall:=Hd (M1 ((x0.toNat:Int)*256+x1.toNat) (x2.toNat:Int) (x3.toNat:Int) ((x4.toNat:Int)*256+x5.toNat) ((x6.toNat:Int)*256+x7.toNat) (x8.toNat:Int) (UI h) z wc hE.out);clear h hE;go_wp2_with (refine Ze rfl 45 (.tmp 4) rfl W1.heap.size #[.int .i64 ((x0.toNat:Int)*256+x1.toNat),.int .i64 (x2.toNat:Int),.int .i64 (x3.toNat:Int),.int .i64 ((x4.toNat:Int)*256+x5.toNat),.int .i64 ((x6.toNat:Int)*256+x7.toNat),.int .i64 (x8.toNat:Int)] _ rfl hp Tryz.underlying45 rfl kX ?_);with_reducible refine hcall.out.mono ?_
   rintro e w5 ⟨rfl,hb⟩;replace hp:=Hd ((hb.block _ (Zb hp.out)).trans hp.out);replace hzz:=Hd ((hb.block _ (Zb hzz.out)).trans hzz.out);replace hb0:=Hd (hb0.out.trans (hb.mono hb0.out.size));clear hb hcall;go_wp2_with (first|(refine Ze rfl 45 (.tmp 4) rfl W1.heap.size #[.int .i64 ((x0.toNat:Int)*256+x1.toNat),.int .i64 (x2.toNat:Int),.int .i64 (x3.toNat:Int),.int .i64 ((x4.toNat:Int)*256+x5.toNat),.int .i64 ((x6.toNat:Int)*256+x7.toNat),.int .i64 (x8.toNat:Int)] _ rfl hp Tryz.underlying45 rfl kX ?_)|(refine Zd rfl 45 (.tmp 2) (.tmp 38) rfl w.heap.size _ #[.int .i64 ((x0.toNat:Int)*256+x1.toNat),.int .i64 (x2.toNat:Int),.int .i64 (x3.toNat:Int),.int .i64 ((x4.toNat:Int)*256+x5.toNat),.int .i64 ((x6.toNat:Int)*256+x7.toNat),.int .i64 (x8.toNat:Int)] rfl rfl hzz kX rfl jK ?_;intro wS hU));refine Vv rfl rfl rfl Tryz.underlying45 rfl kX hU.out.here ?_;exact hq.out _ (hb0.out.trans (hU.out.below nZ))
  ·replace hq:=Hd hq;replace H:=Hd (H.below hb0.out);have hcall:=Hd (Gg ((x0.toNat:Int)*256+x1.toNat) (x2.toNat:Int) (x3.toNat:Int) ((x4.toNat:Int)*256+x5.toNat) ((x6.toNat:Int)*256+x7.toNat) (x8.toNat:Int) F V i h (by have:=x2.toNat_lt;omega) ea wc H.out);clear h H;go_wp2_with (refine Ze rfl 45 (.tmp 4) rfl W1.heap.size #[.int .i64 ((x0.toNat:Int)*256+x1.toNat),.int .i64 (x2.toNat:Int),.int .i64 (x3.toNat:Int),.int .i64 ((x4.toNat:Int)*256+x5.toNat),.int .i64 ((x6.toNat:Int)*256+x7.toNat),.int .i64 (x8.toNat:Int)] _ rfl hp Tryz.underlying45 rfl kX ?_);with_reducible refine hcall.out.mono ?_
   rintro e w5 ⟨g,rfl,hg1,hg2,hb⟩;have hgw:w.heap.size<g:=Nat.lt_of_lt_of_le (Zb hzz.out) hg1;replace hg2:=Hd hg2;replace hzz:=Hd ((hb.block _ (Zb hzz.out)).trans hzz.out);replace hb0:=Hd (hb0.out.trans (hb.mono hb0.out.size));clear hb hcall hg1;go_wp2_with (refine Zd rfl 45 (.tmp 2) (.tmp 36) rfl w.heap.size _ #[.int .i64 0,.int .i64 0,.int .i64 0,.int .i64 0,.int .i64 0,.int .i64 0] rfl rfl hzz kX rfl jK ?_;intro wS hU);have hg3:=(hU.out.block g aB).trans hg2.out;refine Vv rfl rfl rfl Tryz.underlying45 rfl kX hU.out.here ?_;exact hq.out g _ ⟨aB,hg3⟩ (hb0.out.trans (hU.out.below nZ))
theorem KS(b off c:Nat)(x0 x1 x2 x3 x4 x5 x6 x7 x8:UInt8)(h9:9<=c)(w:World)(h:Qu ((x0.toNat:Int)*256+x1.toNat) (x2.toNat:Int) (x3.toNat:Int) ((x4.toNat:Int)*256+x5.toNat) ((x6.toNat:Int)*256+x7.toNat) (x8.toNat:Int)=none)(z:Nat->Addr)(hE:bG w z)
  (h0:w.cell? ⟨b,off,none⟩=some (.int .u8 (x0.toNat:Int))) (h1:w.cell? ⟨b,off+1,none⟩=some (.int .u8 (x1.toNat:Int))) (h2:w.cell? ⟨b,off+2,none⟩=some (.int .u8 (x2.toNat:Int))) (h3:w.cell? ⟨b,off+3,none⟩=some (.int .u8 (x3.toNat:Int)))
  (h4:w.cell? ⟨b,off+4,none⟩=some (.int .u8 (x4.toNat:Int))) (h5:w.cell? ⟨b,off+5,none⟩=some (.int .u8 (x5.toNat:Int))) (h6:w.cell? ⟨b,off+6,none⟩=some (.int .u8 (x6.toNat:Int))) (h7:w.cell? ⟨b,off+7,none⟩=some (.int .u8 (x7.toNat:Int))) (h8:w.cell? ⟨b,off+8,none⟩=some (.int .u8 (x8.toNat:Int))) :
  Calls Tryz.prog 66 #[.slice (some ⟨b,off,none⟩) 9 c] w λe w'=>e=.returned (.tuple #[.agg #[.int .i64 ((x0.toNat:Int)*256+x1.toNat),.int .i64 (x2.toNat:Int),.int .i64 (x3.toNat:Int),.int .i64 ((x4.toNat:Int)*256+x5.toNat),.int .i64 ((x6.toNat:Int)*256+x7.toNat),.int .i64 (x8.toNat:Int)],.nilIface])/\Below w.heap.size w w':=
 Nr b off c x0 x1 x2 x3 x4 x5 x6 x7 x8 h9 w _ (.inl ⟨h,⟨z,hE⟩,λw' hb=>⟨rfl,hb⟩⟩) h0 h1 h2 h3 h4 h5 h6 h7 h8
theorem Rn(b off c:Nat)(x0 x1 x2 x3 x4 x5 x6 x7 x8:UInt8)(h9:9<=c)(w:World)(F:ByteArray)(V:Int)(i:Nat)(h:Qu ((x0.toNat:Int)*256+x1.toNat) (x2.toNat:Int) (x3.toNat:Int) ((x4.toNat:Int)*256+x5.toNat) ((x6.toNat:Int)*256+x7.toNat) (x8.toNat:Int)=some (F,V,i))(ea:Nat->Addr)(H:aQ 298 aK w ea)
  (h0:w.cell? ⟨b,off,none⟩=some (.int .u8 (x0.toNat:Int))) (h1:w.cell? ⟨b,off+1,none⟩=some (.int .u8 (x1.toNat:Int))) (h2:w.cell? ⟨b,off+2,none⟩=some (.int .u8 (x2.toNat:Int))) (h3:w.cell? ⟨b,off+3,none⟩=some (.int .u8 (x3.toNat:Int)))
  (h4:w.cell? ⟨b,off+4,none⟩=some (.int .u8 (x4.toNat:Int))) (h5:w.cell? ⟨b,off+5,none⟩=some (.int .u8 (x5.toNat:Int))) (h6:w.cell? ⟨b,off+6,none⟩=some (.int .u8 (x6.toNat:Int))) (h7:w.cell? ⟨b,off+7,none⟩=some (.int .u8 (x7.toNat:Int))) (h8:w.cell? ⟨b,off+8,none⟩=some (.int .u8 (x8.toNat:Int))) :
  Calls Tryz.prog 66 #[.slice (some ⟨b,off,none⟩) 9 c] w λe w'=>∃ g,e=.returned (.tuple #[.agg #[.int .i64 0,.int .i64 0,.int .i64 0,.int .i64 0,.int .i64 0,.int .i64 0],(.iface 227 (.pointer (some ⟨g,0,none⟩)))])/\Th w.heap.size w' F V (ea i) g/\Below w.heap.size w w':=
 Nr b off c x0 x1 x2 x3 x4 x5 x6 x7 x8 h9 w _ (.inr ⟨F,V,i,ea,h,H,λg w' h1 h2=>⟨g,rfl,h1,h2⟩⟩) h0 h1 h2 h3 h4 h5 h6 h7 h8
def QI:Nat->Nat->List (List UInt8)->List UInt8->List (List UInt8)×List UInt8
 | 0,_,qs,d=>(qs,d)
 | k+1,n,qs,d=>if n % 2=1 then QI k (n / 2) qs.dropLast (Zo (qs.getD (qs.length-1) []) d) else (qs,d)
theorem Rb:∀ (k j n:Nat) (qs:List (List UInt8)) (d:List UInt8),n<=k->n<=j->QI k n qs d=QI j n qs d:=by
 intro k;induction k with
 | zero=>
  intro j n qs d h1 h2;obtain rfl:n=0:=aB;cases j<;>simp[QI]
 | succ k ih=>
  intro j n qs d h1 h2;cases j with
  | zero=>
   obtain rfl:n=0:=aB;simp[QI]
  | succ j=>
   unfold QI;by_cases h:n % 2=1
   ·rw[if_pos h,if_pos h];exact ih j _ _ _ aB aB
   ·rw[if_neg h,if_neg h]
theorem Nf{n:Nat}(h:n % 2=1)(qs:List (List UInt8))(d:List UInt8):QI n n qs d=QI (n / 2) (n / 2) qs.dropLast (Zo (qs.getD (qs.length-1) []) d):=by
 obtain⟨k,rfl⟩:∃ k,n=k+1:=⟨n-1,aB⟩;rw[QI,if_pos h];exact Rb _ _ _ _ _ aB nZ
theorem JA{n:Nat}(h:n % 2=0)(qs:List (List UInt8))(d:List UInt8):QI n n qs d=(qs,d):=by
 cases n with
 | zero=>rfl
 | succ k=>rw[QI,if_neg aB]
def QU(n:Nat)(ps:List (List UInt8))(bs:List UInt8):List (List UInt8):=(QI n n ps (Zr bs)).1++[(QI n n ps (Zr bs)).2]
def Qd:Nat->Nat->Nat
 | 0,_=>0
 | k+1,n=>n % 2+Qd k (n / 2)
theorem GP:∀ (j n:Nat),n<2 ^ j->Qd (j+1) n=Qd j n:=by
 intro j;induction j with
 | zero=>
  intro n h;obtain rfl:n=0:=by simpa using h
  rfl
 | succ j ih=>intro n h;rw[Qd,ih _ (by rw[Nat.pow_succ] at h;omega)];rfl
theorem Rq:∀ (j n:Nat) (qs:List (List UInt8)) (d:List UInt8),n<2 ^ j->qs.length=Qd j n->(QI n n qs d).1.length+1=Qd (j+1) (n+1):=by
 intro j;induction j with
 | zero=>
  intro n qs d h1 h2;obtain rfl:n=0:=by simpa using h1
  rw[JA rfl];simp only[h2];rfl
 | succ j ih=>
  intro n qs d h1 h2;rcases Nat.mod_two_eq_zero_or_one n with h|h
  ·rw[JA h];have e1:Qd (j+1+1) (n+1)=(n+1) % 2+Qd (j+1) ((n+1) / 2):=rfl;have e2:Qd (j+1) n=n % 2+Qd j (n / 2):=rfl;have e3:=GP j (n / 2) (by rw[Nat.pow_succ] at h1;omega);rw[h2,e1,e2,show (n+1) / 2=n / 2 by omega,e3];omega
  ·have e1:Qd (j+1+1) (n+1)=(n+1) % 2+Qd (j+1) ((n+1) / 2):=rfl;have e2:Qd (j+1) n=n % 2+Qd j (n / 2):=rfl;rw[Nf h,e1,show (n+1) % 2=0 by omega,show (n+1) / 2=n / 2+1 by omega,Nat.zero_add];refine ih _ _ _ (by rw[Nat.pow_succ] at h1;omega) ?_;rw[List.length_dropLast,h2,e2];omega
section
variable {P:Program} {w:World} {o:Oper} {a:Act} {Q:Exit->Act->World->Prop} {K:Act->World->Prop}
theorem KV(s x:Operand)(t:TypeId)(ho:o.op=.call { callee:=.builtin .append,args:=#[s,x],argTypes:=#[t,t] }){e:TypeId}{size:Nat}
  (ht:P.underlying t=some (.slice e)) (bytes:Nat) (hi:(P.info? e).map (λi=>(i.zero.map (·.cells.size),i.size,i.bytes))=some (some size,size,bytes)) (hsz:0<size) (ib:bytes<=10000)
  (b:Addr) (n:Nat) (olds:List Value) (hs:a.eval s=.slice (some b) n n) (hlo:Hid (olds.length=n*size)) (holds:Hid (∀ j u,olds[j]? = some u->w.cell? (b.add j)=some u)) (hn:n<=1000000)
  (ad:Addr) (news:List Value) (hx:a.eval x=.slice (some ad) 1 1) (hl:Hid (news.length=size)) (hnews:Hid (∀ j u,news[j]? = some u->w.cell? (ad.add j)=some u))
  (hK:∀ v' w',Hid (w'.ownsRow w.heap.size e size v' (n+1) (olds++news))->Hid (w.grownBy w' none)->K (a.put o.dst v') w'):o.wp P a w K Q:=by
 obtain⟨ie,hie,h2⟩:=Option.map_eq_some_iff.1 hi;simp only[Prod.mk.injEq] at h2;obtain⟨hz,hs1,hby⟩:=h2;obtain⟨z,hz1,hz2⟩:=Option.map_eq_some_iff.1 hz;obtain⟨v',w',hr,k1,k2⟩:=run_append_arg_grows (P:=P) w t o.type e ie z size bytes ht hie hz1 hs1 hby hz2 hsz b n n olds hlo.out holds.out ad 1 1 news (by rw[Nat.one_mul];exact hl.out) hnews.out aB kS
  (Nat.le_trans (Nat.mul_le_mul (show n+1<=1000001 by omega) ib) dX)
 unfold Oper.wp execOp;simp only[ho,resolve,invoke,builtin,Sem.run_bind,Sem.run_pure,Result.andThen_ok,List.map_toArray,List.map_cons,List.map_nil,hs,hx,hr];exact hK v' w' (Hd k1) (Hd k2)
end
theorem aU.only{α:Type}{enc:α->List Value}{size:Nat}{w w':World}{D:Nat->Prop}{g:Nat}{xs:List α}(h:aU enc size w (some ⟨g,0,none⟩) xs)(hO:Only D w w')(hg:¬D g):aU enc size w' (some ⟨g,0,none⟩) xs:=λi hi=>by
 obtain⟨b,o,e,hr⟩:=h i hi;cases e;refine⟨g,0,rfl,λj v hv=>?_⟩;have hc:=hr j v hv;have hlt:=World.block_lt_of_cell? w _ hc;have:=hO.block g hlt hg;unfold World.cell? at hc ⊢;rw[this];exact hc
theorem aU.dropLast{α:Type}{enc:α->List Value}{size:Nat}{w:World}{g:Nat}{xs:List α}(h:aU enc size w (some ⟨g,0,none⟩) xs):aU enc size w (some ⟨g,0,none⟩) xs.dropLast:=λi hi=>by
 obtain⟨b,o,e,hr⟩:=h i (by rw[List.length_dropLast] at hi;omega);exact⟨b,o,e,by rw[List.getElem_dropLast];exact hr⟩
theorem MA{w:World}{g:Nat}{d:List UInt8}{t:TypeId}{z:Nat×Nat}(h:w.heap[g]? = some (.cells (cB d).toArray t z)):∀ j u,(cB d)[j]? = some u->w.cell? ((⟨g,0,none⟩:Addr).add j)=some u:=λj u hu=>by
 rw[Addr.add_lit,Nat.zero_add,Za h,List.getElem?_toArray];exact hu
theorem M5{w:World}{g:Nat}{qs:List (List UInt8)}(h:aU cB 32 w (some ⟨g,0,none⟩) qs)(hq:∀ y∈qs,y.length=32):∀ j u,(qs.flatMap cB)[j]? = some u->w.cell? ((⟨g,0,none⟩:Addr).add j)=some u:=λj u hu=>by
 rw[Addr.add_lit];exact Vf (size:=32) dX (λy hy=>by rw[Zc];exact hq y hy) (λk hk=>by obtain⟨b',o',e',h'⟩:=h k hk;cases e';exact h') j u hu
theorem Bz{w:World}{b base N:Nat}{qs:List (List UInt8)}{d:List UInt8}{v:Value}(h:w.ownsRow b 47 32 v (N+1) (qs.flatMap cB++cB d))(hb:base<=b)(hN:N=qs.length)(hq:∀ y∈qs,y.length=32)(hd:d.length=32):aH RD 47 32 base w (λ_=>False) v (qs++[d]):=by
 refine aH.mono (base:=b) ⟨⟨(qs++[d]).map cB,sX,?_,λi x cs h1 h2=>?_⟩,λk hk e=>e,λk e=>e.elim⟩ hb
 ·rw[List.length_append,<-hN,show ((qs++[d]).map cB).flatten=qs.flatMap cB++cB d by simp[List.flatMap]];exact h
 ·rw[List.getElem?_map,h1] at h2;cases h2;refine⟨?_,rfl⟩;rcases List.mem_append.1 (List.mem_of_getElem? h1) with h|h
  ·exact hq _ h
  ·rw[List.mem_singleton.1 h];exact hd
theorem He{w:World}{b N:Nat}{e:TypeId}{size:Nat}{v:Value}{xs:List Value}(h:w.ownsRow b e size v (N+1) xs):∃ g c,v=.slice (some ⟨g,0,none⟩) (N+1) c/\b<=g:=by
 rcases h.2 with ⟨_,h⟩|⟨g,c,_,h,hg,_⟩
 ·omega
 ·exact⟨g,c,h,hg⟩
theorem TO{base:Nat}{w:World}{f n:Nat}{v:Value}{ps:List (List UInt8)}(h:jq base w f n v ps)(hb:base<=w.heap.size)(hn:n % 2=1)(hn2:n<=1000000)(hp:ps.length=Qd 64 n)(hp2:ps.length<=1000000)(a:Option Addr)(c:Nat)(bs:List UInt8)(hA:aJ w a c bs)(hl:bs.length<=1000)(hK:∀ W,Below base w W->bP W)(hF:∀ W,Below base w W->bZ W) :
  Calls Tryz.prog 62 #[.pointer (some ⟨f,0,none⟩),.slice a bs.length c] w (XO base w f (n+1) v (QU n ps bs)):=by
 have hle:=Hd (G4 a c bs w hA hl (hK w bR) (hF w bR));have iJ:(Zr bs).length=32:=Zy _;have hall:∀ y∈ps,y.length=32:=by
  intro y hy;obtain⟨i,hi,rfl⟩:=List.mem_iff_getElem.1 hy;obtain⟨_,_,_,_,hR,_⟩:=h.rows.elem ZC i _ (List.getElem?_eq_getElem hi);exact hR.1
 obtain⟨g,c0,hv,hgg,hrow⟩:∃ g c0,v=.slice (some ⟨g,0,none⟩) ps.length c0/\(base<=g/\g<w.heap.size/\g≠f)/\aU cB 32 w (some ⟨g,0,none⟩) ps:=by
  have h1:0<ps.length:=by rw[hp];simp only[Qd];omega
  obtain⟨g,c0,cs,e,hR,hr⟩:=h.rows.elem ZC 0 _ (List.getElem?_eq_getElem h1);have hne:=h.nv;have hlt:=h.rows.ownLt;subst e;refine⟨g,c0,rfl,⟨(hlt g rfl).1,(hlt g rfl).2,λe=>hne (by rw[e];rfl)⟩,λi hi=>⟨g,0,rfl,?_⟩⟩;obtain⟨g',c',cs',e',hR',hr'⟩:=h.rows.elem ZC i _ (List.getElem?_eq_getElem hi);cases e';rw[Nat.zero_add,<-hR'.2];exact hr'
 have hge:=h.ge;obtain⟨D,hD⟩:∃ D,D=(cB (Zr bs)).toArray:=⟨_,rfl⟩;have gU:(Tryz.prog.info? 47).map (·.size)=some D.size:=by rw[hD,List.size_toArray,Zc,iJ];kernel_rfl
 have hDz:aG.size=D.size:=by rw[Z3,hD,List.size_toArray,Zc,iJ]
 have zr:=Qe;have zn:=ZH;have kU:D.all (·.oneCell')=true:=by rw[hD];exact ZE (Zw _)
 rw[<-hD] at hle;obtain⟨nn,hnn⟩:∃ nn:Int,(n:Int)=nn:=⟨_,rfl⟩;have hc0:w.cell? ⟨f,0,none⟩=some (.int .i64 nn):=by rw[Za h.at_,<-hnn];rfl
 have hwr:IntKind.i64.wrap (nn+1)=nn+1:=IntWalk.i64_in _ aB;have xG:nn<1099511627776:=aB;have hfin:∀ (W:World) (v':Value),jq base W f (n+1) v' (QU n ps bs)->Only (lH f v) w W->(∀ k,v'.ownBlock=some k->lH f v k\/w.heap.size<=k)->XO base w f (n+1) v (QU n ps bs) (.returned .nilIface) W:=λW v' h1 h2 h3=>⟨rfl,v',h1,h2,h3⟩;replace hfin:=Hd hfin;obtain⟨L,hL⟩:=aA bs.length;rw[<-hL] at hle ⊢;replace h:=Hd h;replace hD:=Hd hD;replace hL:=Hd hL;replace hn:=Hd hn;replace hnn:=Hd hnn;replace hK:=Hd hK;replace hF:=Hd hF;replace hgg:=Hd hgg;replace hrow:=Hd hrow;replace hall:=Hd hall;replace hp:=Hd hp;replace hv:=Hd hv;replace hge:=Hd hge;replace iJ:=Hd iJ;have hbL:=Hd (λW (hO:Only (λk=>k=f) w W)=>show Below base w W from hO.below hb (λk e=>by rw[e];exact hge.out));clear hA hl;go_enter Tryz.func62,Tryz.ntmps62;go_wp2_with fail;with_reducible refine hle.out.mono ?_
 clear hle;rintro e w2 ⟨rfl,hb2⟩;have h2:=Hd (h.out.below hb2);have hw2:=Hd hb2.size;have hZ2:=Hd (heap_alloc_new w2 (.cells aG 47));replace hb2:=Hd hb2;clear hc0;go_wp2_with ((with_reducible refine wL (.store 47 (.tmp 5) _) ?_);(refine Zd rfl 47 (.tmp 5) (.tmp 15) rfl w2.heap.size _ D rfl rfl hZ2 gU hDz kU ?_);intro w3 dB;have hb3:Below w2.heap.size w2 w3:=(Below.alloc (Below.refl w2.heap.size w2) nZ _).trans (dB.out.below nZ);have Sy:=Hd dB.out.here;have h3:=Hd (h2.out.below hb3);have hw3:=Hd (show w2.heap.size<w3.heap.size from Zb dB.out.here);have hc0:w3.cell? ⟨f,0,none⟩=some (.int .i64 nn):=(by rw[Za h3.out.at_,<-hnn.out];rfl);have uJ:=Hd (show Below w.heap.size w w3 from hb2.out.trans (hb3.mono hw2.out)));have Iy:=Tryz.underlying47;obtain⟨b5,hb5⟩:=aA w2.heap.size;have h5g:b5≠g:=by have:=hgg.out.2.1;have:=hw2.out;omega
 have hfw:f<w.heap.size:=Zb h.out.at_;have S9:b5≠f:=by have:=hw2.out;omega
 have h5w:w.heap.size<=b5:=by have:=hw2.out;omega
 rw[<-hb5] at Sy ⊢;rw[hD.out] at Sy;replace hb5:=Hd hb5;refine ZG [(false,6),(true,2),(false,12),(true,30),(false,17)] _ [] (λU wr=>∃ (m j:Nat) (qs:List (List UInt8)) (d:List UInt8) (c':Nat),U 6=.int .i64 (m:Int)/\QI m m qs d=QI n n ps (Zr bs)/\m<=n/\m<2 ^ j/\qs.length=Qd j m/\((m=n/\wr=w3)\/c'=qs.length)/\qs.length<=c'/\qs.length<=ps.length/\d.length=32/\(∀ y∈qs,y.length=32)/\aU cB 32 wr (some ⟨g,0,none⟩) qs/\wr.heap[f]? = some (.cells #[.int .i64 (n:Int),.slice (some ⟨g,0,none⟩) qs.length c'] 194 (0,0))/\wr.heap[b5]? = some (.cells (cB d).toArray 47 (0,0))/\Only (λk=>k=f) w wr) (λU _=>(intOf (U 6)).toNat) ?_ ?_
 ·simp only[List.getD_cons_zero,List.getD_cons_succ];have hatv:=h3.out.at_;rw[hv.out] at hatv;refine⟨n,64,ps,Zr bs,c0,by rw[hnn.out],rfl,Nat.le_refl _,aB,hp.out,.inl sX,?_,Nat.le_refl _,iJ.out,hall.out,hrow.out.below uJ.out nZ,hatv,Sy.out,Only.ofBelow uJ.out⟩;obtain⟨a',c',e,_,hle',_⟩:=h.out.rows.form;rw[hv.out] at e;cases e;exact hle'
 ·intro U wr hrel KK hback l' hl';obtain⟨m,j,qs,d,c',h6,hcy,jO,hmj,hqs,hcl,hc',sF,hdl,yc,hqr,lh,hdr,hO⟩:=hrel;simp only[ZQ,ZM,cond_true,cond_false,Nat.reduceAdd,h6] at hl';subst hl';replace h6:=Hd h6;replace hcy:=Hd hcy;replace yc:=Hd yc;replace hqr:=Hd hqr;replace hdr:=Hd hdr;replace hO:=Hd hO;replace hcl:=Hd hcl;have SS:=hO.out.size;clear hc0;by_cases hod:m % 2=1
  ·have hand:bits .and .i64 (m:Int) 1=1:=by
    have:=Un m 1 aB aB;rw[Nat.and_one_is_mod,hod] at this;exact this
   obtain⟨j,rfl⟩:∃ i,j=i+1:=by
    cases j with
    | zero=>exfalso;rw[Nat.pow_zero] at hmj;omega
    | succ i=>exact⟨i,rfl⟩
   have hqs2:qs.length=1+Qd j (m / 2):=by rw[hqs,show Qd (j+1) m=m % 2+Qd j (m / 2) from rfl,hod]
   obtain⟨K1,hK1⟩:=aA (Qd j (m / 2));rw[<-hK1,Nat.add_comm] at hqs2;have hy1:K1<qs.length:=aB;obtain⟨y,hy⟩:=aA (qs[K1]);have hyl:y.length=32:=by rw[hy];exact yc.out _ (List.getElem_mem _)
   have ky:qs.getD (qs.length-1) []=y:=by rw[show qs.length-1=K1 by omega,hy];simp[hy1]
   have O5:wr.rangeAt g (K1*32) (cB y):=by
    obtain⟨b',o',e',hr'⟩:=hqr.out K1 hy1;cases e';rw[Nat.zero_add,<-hy] at hr';exact hr'
   obtain⟨N,hN⟩:=aA qs.length;rw[<-hN] at lh hc' hqs2;have hN1:(N:Int)-1=(K1:Int):=aB;have hNw:IntKind.i64.wrap ((N:Int)-1)=(K1:Int):=by rw[hN1];exact Nc _ aB
   have hKN:(K1:Int)<(N:Int):=aB;have hKN2:K1<N:=aB;have hKc:(K1:Int)<=(c':Int):=aB;have hKc2:K1<=c':=aB;have k1:wr.cell? ⟨f,1,none⟩=some (.slice (some ⟨g,0,none⟩) N c'):=by rw[Za lh];rfl
   have iD:(Tryz.prog.info? 47).map (·.size)=some (cB d).length:=by rw[Zc,hdl];kernel_rfl
   have iY:(Tryz.prog.info? 47).map (·.size)=some (cB y).length:=by rw[Zc,hyl];kernel_rfl
   have hno:=Hd (λW (hb:Below base w W)=>J2 y d hyl hdl W (hK.out W hb) (hF.out W hb));obtain⟨E,hE⟩:∃ E,E=(cB (Zo y d)).toArray:=⟨_,rfl⟩;have hEl:=ZU y d;have iE:(Tryz.prog.info? 47).map (·.size)=some E.size:=by rw[hE];exact Qi hEl
   have sE:(cB d).toArray.size=E.size:=by rw[hE,List.size_toArray,List.size_toArray,Zc,Zc,hdl,hEl]
   have oE:E.all (·.oneCell')=true:=by rw[hE];exact U3 _
   rw[<-hE] at hno;have hOb:Hid (Only (λk=>k=f) w wr.drew):=Hd hO.out.drew;obtain⟨Yv,hYv⟩:∃ Yv,Yv=(cB y).toArray:=⟨_,rfl⟩;obtain⟨Dv,rF⟩:∃ Dv,Dv=(cB d).toArray:=⟨_,rfl⟩;rw[<-hYv,<-rF] at hno;rw[<-rF] at sE;replace hYv:=Hd hYv;replace rF:=Hd rF;have hrd:Hid (wr.rangeAt b5 0 (cB d)):=Hd (λi u hu=>by rw[Nat.zero_add,Za hdr.out,List.getElem?_toArray];exact hu);have hryd:Hid (wr.drew.rangeAt g (K1*32) (cB y)):=Hd (λi u hu=>O5 i u hu);have hrdd:Hid (wr.drew.rangeAt b5 0 (cB d)):=Hd (λi u hu=>hrd.out i u hu);have hdrd:Hid (wr.drew.heap[b5]? = some (.cells Dv 47 (0,0))):=Hd (by rw[rF.out];exact hdr.out);have dP:Hid (wr.drew.heap[f]? = some (.cells #[.int .i64 (n:Int),.slice (some ⟨g,0,none⟩) N c'] 194 (0,0))):=Hd lh;have xH:Hid (aU cB 32 wr.drew (some ⟨g,0,none⟩) qs):=Hd (hqr.out.only (Only.drew (Only.refl (λ_=>False) wr)) (λh=>h));replace lh:=Hd lh;replace O5:=Hd O5;replace hE:=Hd hE;replace hN:=Hd hN;replace hy:=Hd hy;replace ky:=Hd ky;replace hK1:=Hd hK1;replace hqs:=Hd hqs;replace hEl:=Hd hEl;go_wp2_with fail;have k1d:=λW (hS:Only (λk=>k=b5) wr.drew W)=>show W.cell? ⟨f,1,none⟩=some (.slice (some ⟨g,0,none⟩) N c') from by rw[Za (hS.heap dP.out (λe=>S9 e.symm))];rfl
   have hd0:Hid (Only (λk=>k=b5) wr.drew wr.drew):=Hd (Only.refl _ _);clear k1;refine wp_region_held_drew (S:=(Only (λk=>k=b5) wr.drew)) kX hd0.out (λaD=>?_);generalize World.drew wr=wd at*;refine tk 0 aD ?_;refine tk 1 aD ?_;refine tk 2 aD ?_;refine tk 3 aD ?_;refine tk 4 aD ?_
   repeat' first
    | exact AllReadyH.nil
    |
     first|refine lV 5 (λKz aF=>?_) ?_|refine lW 5 (λKz aF=>?_)
     go_simp;focus (try go_wp2_with fail)
     refine aF.out _ _ qD ?_;clear aF Kz aD;intro aD;try simp only[Act.put,sL,sZ,sS]
    |
     first|refine lV 6 (λKz aF=>?_) ?_|refine lW 6 (λKz aF=>?_)
     (refine wp_load_mid 47 (.tmp 36) rfl g (K1*32) rfl (cB y) _ hryd.out Iy rfl iY ?_)
     rw[<-hYv.out];have hS:=aD;refine aF.out _ _ hS ?_;clear aF Kz aD hS;intro aD;try simp only[Act.put]
    |
     first|refine lV 7 (λKz aF=>?_) ?_|refine lW 7 (λKz aF=>?_)
     (refine wp_load_mid 47 (.tmp 5) rfl b5 0 rfl (cB d) _ hrdd.out Iy rfl iD ?_)
     rw[<-rF.out];have hS:=aD;refine aF.out _ _ hS ?_;clear aF Kz aD hS;intro aD;try simp only[Act.put]
    | refine Xi [5,7] ?_
    | refine Xi [6,7] ?_
    | fail
   all_goals
    refine rd 8 (λKz aF=>?_);go_simp
    (with_reducible refine(hno.out _ (hbL.out _ (hOb.out.trans aD (λk hk e=>by omega)))).mono ?_)
    rintro e w9 ⟨rfl,hnew⟩;have hS:=Only.trans aD (Only.ofBelow (D:=λk=>k=b5) hnew) (λ_ _ h=>h);have lK:=Hd ((hnew.block _ (Zb hdrd.out)).trans hdrd.out);have hat9:=Hd ((hnew.block _ (Zb dP.out)).trans dP.out);have hqr9:=Hd (xH.out.below hnew nZ);have gz:=Hd (hOb.out.trans (Only.ofBelow (D:=λk=>k=f) hnew) (λ_ _ h=>h));focus (go_wp2_with fail)
    refine aF.out _ _ hS ?_;clear aF Kz aD hS;intro aD;try clear hnew
    try simp only[Act.put,sL,sZ,sS]
    refine rd 9 (λKz aF=>?_);rw[if_pos bT]
    (with_reducible refine Zl 47 (.tmp 5) (.tmp 39) rfl b5 _ E rfl rfl lK iE sE oE ?_)
    intro w10 bK;have hS:=Only.trans aD (Only.ofUpd (D:=λk=>k=b5) bK.out rfl) (λ_ _ h=>h);refine aF.out _ _ hS ?_;clear aF Kz aD hS;intro aD;try simp only[Act.put]
    refine bz ?_
   all_goals
    have dC:=Hd ((bK.out.block _ (Ne.symm S9)).trans hat9.out);have hqr10:=Hd (hqr9.out.only (Only.ofUpd (D:=λk=>k=b5) bK.out rfl) (λe=>h5g e.symm));have hd10:=Hd bK.out.here;have k1:w10.cell? ⟨f,1,none⟩=some (.slice (some ⟨g,0,none⟩) N c'):=by rw[Za dC.out];rfl
    have f1:w10.frozen? ⟨f,1,none⟩=false:=Zg dC.out _;have dY:=Hd ((ag.refl dC.out).setCell (j:=1) (.slice (some ⟨g,0,none⟩) K1 K1));have jR:=Hd ((gz.out.trans (Only.ofUpd (D:=λk=>k=f\/k=b5) bK.out (.inr rfl)) (λk hk e=>by rcases e with e|e<;>omega)).trans (Only.ofUpd (D:=λk=>k=f) dY.out rfl) (λ_ _ h=>h));clear aD k1d;go_wp2_with fail;refine hback.out _ _ kX ?_ ?_
    ·simp only[List.getD_cons_zero,List.getD_cons_succ];have mr:=dY.out.here;refine⟨m / 2,j,qs.dropLast,Zo y d,K1,by go_num,by rw[<-hcy.out,Nf hod,ky.out],aB,by rw[Nat.pow_succ] at hmj;omega,by rw[List.length_dropLast,<-hN.out,<-hK1.out];omega,.inr (by rw[List.length_dropLast,<-hN.out];omega),by rw[List.length_dropLast,<-hN.out];omega,by rw[List.length_dropLast];omega,hEl.out,λy hy=>yc.out y (List.dropLast_subset _ hy),(hqr10.out.only (Only.ofUpd (D:=λk=>k=f) dY.out rfl) (λe=>hgg.out.2.2 e)).dropLast,?_,?_,jR.out⟩
     ·rw[mr,List.length_dropLast,<-hN.out,show N-1=K1 by omega];rfl
     ·rw[<-hE.out];exact(dY.out.block _ S9).trans hd10.out
    ·have h6:=h6.out;simp only[List.getD_cons_zero,List.getD_cons_succ,h6,intOf];omega
  ·have hm0:m % 2=0:=aB;have hc2:c'=qs.length:=by
    rcases hcl.out with ⟨e,_⟩|e
    ·exfalso;have:=hn.out;omega
    ·exact e
   rw[hc2] at lh;have hand:bits .and .i64 (m:Int) 1=0:=by
    have:=Un m 1 aB aB;rw[Nat.and_one_is_mod,hm0] at this;exact this
   obtain⟨N,hN⟩:=aA qs.length;rw[<-hN] at lh;have hN6:N<=1000000:=aB;obtain⟨Dv,rF⟩:∃ Dv,Dv=(cB d).toArray:=⟨_,rfl⟩;have hDvL:Dv.size=32:=by rw[rF,List.size_toArray,Zc,hdl]
   have hDvi:(Tryz.prog.info? 47).map (·.size)=some Dv.size:=by rw[hDvL];kernel_rfl
   have il:QU n ps bs=qs++[d]:=by unfold QU;rw[<-hcy.out,JA hm0]
   have dP:Hid (wr.drew.heap[f]? = some (.cells #[.int .i64 (n:Int),.slice (some ⟨g,0,none⟩) N N] 194 (0,0))):=Hd lh;have hS3:Hid (wr.drew.heap[b5]? = some (.cells Dv 47 (0,0))):=Hd (by rw[rF];exact hdr.out);have xH:Hid (aU cB 32 wr.drew (some ⟨g,0,none⟩) qs):=Hd (hqr.out.only (Only.drew (Only.refl (λ_=>False) wr)) (λh=>h));have hOd:Hid (Only (λk=>k=f) w wr.drew):=Hd hO.out.drew;have hlo:Hid ((qs.flatMap cB).length=N*32):=Hd (by rw[hN];exact QW qs (λy hy=>by rw[Zc];exact yc.out y hy));have hnl:Hid ((cB d).length=32):=Hd (by rw[Zc,hdl]);have qH:=Tryz.underlying93;have gH:=Hd (show (Tryz.prog.info? 47).map (λi=>(i.zero.map (·.cells.size),i.size,i.bytes))=some (some 32,32,32) by kernel_rfl);have hsl:=Hd (λW=>Vp Dv hDvL W);have iW:∀ W:World,W.heap[b5]? = some (.cells Dv 47 (0,0))->W.heap[b5]? = some (.cells Dv 47 (0,0)):=λ_ h=>h;have huA:=Iy;have gy:=hDvi;replace rF:=Hd rF;replace hN:=Hd hN;replace il:=Hd il;replace hqs:=Hd hqs;have hbase:base<=wr.drew.heap.size:=by show base<=wr.heap.size;omega
   clear lh hcl;go_wp2_with fail;have k1:wr.drew.cell? ⟨f,1,none⟩=some (.slice (some ⟨g,0,none⟩) N N):=by rw[Za dP.out];rfl
   have hraw:=True.intro;refine wp_region_held_drew (S:=(λW:World=>W.heap[b5]? = some (.cells Dv 47 (0,0)))) kX hS3.out (λaD=>?_);generalize World.drew wr=wd at*;refine tk 0 aD ?_;refine tk 1 aD ?_;refine tk 2 aD ?_;refine tk 3 aD ?_;refine tk 5 aD ?_ (v:=Value.agg _) (hy:=Or.inl ⟨by rfl,λW hSW=>Z6 _ _ rfl _ _ _ rfl (iW W hSW) huA rfl gy⟩);refine fZ [4,6] ?_;refine ac (λKz aF=>?_) ?_;go_simp;focus (try go_wp2_with fail)
   refine aF.out _ _ qD ?_;clear aF Kz aD;intro aD;try simp only[Act.put,sL,sZ,sS]
   refine rd 6 (λKz aF=>?_);rw[if_pos bT]
   (refine ZZ 93 1 (.tmp 55) rfl (.agg Dv) rfl _ _ (hsl.out _) ?_)
   (with_reducible refine Zp (t:=47) ?_)
   intro w5 hx5 hnew;have hS:=(hnew.block _ (Zb aD)).trans aD;have jM:=Hd ((hnew.block f (Zb dP.out)).trans dP.out);have Ad:=Hd (M5 (xH.out.below hnew nZ) yc.out);have hb6:=Hd hnew;have hx6:=hx5.out;rw[rF.out] at hx6;have hxc:=Hd (MA hx6);clear hx6;have mq:w5.cell? ⟨f,1,none⟩=some (.slice (some ⟨g,0,none⟩) N N):=(by rw[Za jM.out];rfl);refine aF.out _ _ hS ?_;clear aF Kz aD hS;intro aD;try clear hnew
   try simp only[Act.put]
   refine rd 7 (λKz aF=>?_);rw[if_pos bT]
   (refine KV (.tmp 54) (.tmp 56) 93 rfl qH 32 gH.out dX dX ⟨g,0,none⟩ N (qs.flatMap cB) rfl hlo Ad hN6 _ (cB d) rfl hnl hxc ?_)
   intro v6 w6 gL Ae;have eT:=Hd (Only.ofGrown (D:=λ_=>False) Ae.out (λk e=>by cases e));have hS:=eT.out.heap aD (λe=>e);have fK:=Hd (eT.out.heap jM.out (λe=>e));have xE:w6.frozen? ⟨f,1,none⟩=false:=Zg fK.out _;have mq:w6.cell? ⟨f,1,none⟩=some (.slice (some ⟨g,0,none⟩) N N):=(by rw[Za fK.out];rfl);obtain⟨g6,c6,hv6,vY⟩:=He gL.out;subst hv6;replace vY:=Hd vY;refine aF.out _ _ hS ?_;clear aF Kz aD hS;intro aD;try simp only[Act.put]
   refine tk 8 aD ?_;refine tk 9 aD ?_;refine rd 10 (λKz aF=>?_);have aZ:=((ag.refl fK.out).setCell (j:=1) (.slice (some ⟨g6,0,none⟩) (N+1) c6));go_simp
   (with_reducible refine Q0 ?_)
   intro w7 hw7;rw[<-hw7] at aZ;clear hw7;have hS:=(aZ.block _ S9).trans aD;replace aZ:=Hd aZ;refine aF.out _ _ hS ?_;clear aF Kz aD hS;intro aD;try simp only[Act.put]
   refine bz ?_;rotate_left;refine ac (λKz aF=>?_) AllReadyH.nil;rw[if_pos bT]
   (refine ZZ 93 1 (.tmp 55) rfl (.agg Dv) rfl _ _ (hsl.out _) ?_)
   (with_reducible refine Zp (t:=47) ?_)
   intro w5 hx5 hnew;have hS:=(hnew.block _ (Zb aD)).trans aD;have jM:=Hd ((hnew.block f (Zb dP.out)).trans dP.out);have Ad:=Hd (M5 (xH.out.below hnew nZ) yc.out);have hb6:=Hd hnew;have hx6:=hx5.out;rw[rF.out] at hx6;have hxc:=Hd (MA hx6);clear hx6;have mq:w5.cell? ⟨f,1,none⟩=some (.slice (some ⟨g,0,none⟩) N N):=(by rw[Za jM.out];rfl);refine aF.out _ _ hS ?_;clear aF Kz aD hS;intro aD;try clear hnew
   try simp only[Act.put]
   refine rd 4 (λKz aF=>?_);go_simp;focus (try go_wp2_with fail)
   refine aF.out _ _ qD ?_;clear aF Kz aD;intro aD;try simp only[Act.put,sL,sZ,sS]
   refine rd 7 (λKz aF=>?_);rw[if_pos bT]
   (refine KV (.tmp 54) (.tmp 56) 93 rfl qH 32 gH.out dX dX ⟨g,0,none⟩ N (qs.flatMap cB) rfl hlo Ad hN6 _ (cB d) rfl hnl hxc ?_)
   intro v6 w6 gL Ae;have eT:=Hd (Only.ofGrown (D:=λ_=>False) Ae.out (λk e=>by cases e));have hS:=eT.out.heap aD (λe=>e);have fK:=Hd (eT.out.heap jM.out (λe=>e));have xE:w6.frozen? ⟨f,1,none⟩=false:=Zg fK.out _;have mq:w6.cell? ⟨f,1,none⟩=some (.slice (some ⟨g,0,none⟩) N N):=(by rw[Za fK.out];rfl);obtain⟨g6,c6,hv6,vY⟩:=He gL.out;subst hv6;replace vY:=Hd vY;refine aF.out _ _ hS ?_;clear aF Kz aD hS;intro aD;try simp only[Act.put]
   refine tk 8 aD ?_;refine tk 9 aD ?_;refine rd 10 (λKz aF=>?_);have aZ:=((ag.refl fK.out).setCell (j:=1) (.slice (some ⟨g6,0,none⟩) (N+1) c6));go_simp
   (with_reducible refine Q0 ?_)
   intro w7 hw7;rw[<-hw7] at aZ;clear hw7;have hS:=(aZ.block _ S9).trans aD;replace aZ:=Hd aZ;refine aF.out _ _ hS ?_;clear aF Kz aD hS;intro aD;try simp only[Act.put]
   refine bz ?_;all_goals
    have g0:w7.cell? ⟨f,0,none⟩=some (.int .i64 nn):=by rw[Za aZ.out.here,<-hnn.out];rfl
    have gf:=Zg aZ.out.here 0;have hU8:=Hd (aZ.out.setCell (j:=0) (.int .i64 (nn+1)));go_wp2_with fail;go_ret;have h6s:=eT.out.size;have h5s:=hb6.out.size;have hfs:=Zb dP.out;have hws:=hOd.out.size;have sN:=Only.ofUpd (D:=λk=>k=f) hU8.out rfl;have uK:=hU8.out.here;have hcs:((#[.int .i64 (n:Int),.slice (some ⟨g,0,none⟩) N N]:Array Value).setIfInBounds 1 (.slice (some ⟨g6,0,none⟩) (N+1) c6)).setIfInBounds 0 (.int .i64 (nn+1))=#[.int .i64 ((n+1:Nat):Int),.slice (some ⟨g6,0,none⟩) (N+1) c6]:=by rw[<-hnn.out];rfl
    rw[hcs] at uK;have hgb:=vY.out;have hrw:=Bz gL.out (show base<=w5.heap.size by omega) hN.out yc.out hdl;rw[<-il.out] at hrw;refine hfin.out _ _ ⟨uK,hrw.only ZC sN (λk hk=>hk.elim) (λk hk e=>?_),λe=>?_,hge.out⟩ ?_ (λk hk=>?_)
    ·simp only[Value.ownBlock,Option.some.injEq] at hk;omega
    ·simp only[Value.ownBlock,Option.some.injEq] at e;omega
    ·exact(((hOd.out.trans (Only.ofBelow (D:=λk=>k=f) hb6.out) (λ_ _ h=>h)).trans eT.out (λk _ e=>e.elim)).trans sN (λ_ _ h=>h)).mono (λk _ e=>.inl e)
    ·simp only[Value.ownBlock,Option.some.injEq] at hk;right;omega
end Go.Proofs.YtpdhceiodgnbmaaGreatDoor
