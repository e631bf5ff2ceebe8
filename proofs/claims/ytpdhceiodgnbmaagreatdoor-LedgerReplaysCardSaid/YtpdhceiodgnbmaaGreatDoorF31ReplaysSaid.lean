import Derived.Test.YtpdhceiodgnbmaaGreatDoorF0ReplaysSaid
import Derived.Test.YtpdhceiodgnbmaaGreatDoorF1ReplaysSaid
import Derived.Test.YtpdhceiodgnbmaaGreatDoorF30ReplaysSaid
import Derived.Test.YtpdhceiodgnbmaaGreatDoorF25ReplaysSaid
import Derived.Deep.CutRange
set_option linter.unusedVariables false
set_option linter.unusedSimpArgs false
set_option linter.unnecessarySimpa false
set_option maxRecDepth 100000
set_option maxHeartbeats 8000000
namespace Go.Proofs.YtpdhceiodgnbmaaGreatDoor
open Go.RowKit
theorem Y4{w:World}{x:Addr}{v:Value}(h:w.cell? x=some v):∀ W,Grown w W->W.cell? x=some v:=λ_ hW=>(hW.cell (World.block_lt_of_cell? w _ h)).trans h
theorem Vs(b off m c:Nat)(x y:UInt8)(w:World)(h0:w.cell? ⟨b,off,none⟩=some (.int .u8 (x.toNat:Int)))(h1:w.cell? ⟨b,off+1,none⟩=some (.int .u8 (y.toNat:Int)))(hm:2<=m) :
  ∀ W,Grown w W->Calls Tryz.prog 105 #[.slice (some ⟨b,off,none⟩) m c] W λe w'=>e=.returned (.int .i64 ((x.toNat:Int)*256+y.toNat))/\∃ n,w'=W.drewN n:=
 λW hW=>LB b off m c x y W (Y4 h0 W hW) (Y4 h1 W hW) hm
theorem Zi(W:World)(o:Obj)(n:Nat):(W.alloc o).drewN n=(W.drewN n).alloc o:=rfl
theorem Zj(W:World)(a b:Nat):(W.drewN a).drewN b=W.drewN (a+b):=by simp[World.drewN,Nat.add_assoc]
theorem Zd{w W:World}(h:Grown w W)(n:Nat):Grown w (W.drewN n):=below_drewN h n
theorem UK(b off c:Nat)(x0 x1 x2 x3 x4 x5 x6 x7 x8:UInt8)(_:9<=c)(w:World)(h:Qb ((x0.toNat:Int)*256+x1.toNat) (x2.toNat:Int) (x3.toNat:Int) ((x4.toNat:Int)*256+x5.toNat) ((x6.toNat:Int)*256+x7.toNat) (x8.toNat:Int)=none)(z:Nat->Addr)(hE:ParErrs w z)
  (h0:w.cell? ⟨b,off,none⟩=some (.int .u8 (x0.toNat:Int))) (h1:w.cell? ⟨b,off+1,none⟩=some (.int .u8 (x1.toNat:Int))) (h2:w.cell? ⟨b,off+2,none⟩=some (.int .u8 (x2.toNat:Int))) (h3:w.cell? ⟨b,off+3,none⟩=some (.int .u8 (x3.toNat:Int)))
  (h4:w.cell? ⟨b,off+4,none⟩=some (.int .u8 (x4.toNat:Int))) (h5:w.cell? ⟨b,off+5,none⟩=some (.int .u8 (x5.toNat:Int))) (h6:w.cell? ⟨b,off+6,none⟩=some (.int .u8 (x6.toNat:Int))) (h7:w.cell? ⟨b,off+7,none⟩=some (.int .u8 (x7.toNat:Int))) (h8:w.cell? ⟨b,off+8,none⟩=some (.int .u8 (x8.toNat:Int))) :
  Calls Tryz.prog 66 #[.slice (some ⟨b,off,none⟩) 9 c] w λe w'=>e=.returned (.tuple #[.agg #[.int .i64 ((x0.toNat:Int)*256+x1.toNat),.int .i64 (x2.toNat:Int),.int .i64 (x3.toNat:Int),.int .i64 ((x4.toNat:Int)*256+x5.toNat),.int .i64 ((x6.toNat:Int)*256+x7.toNat),.int .i64 (x8.toNat:Int)],.nilIface])/\Below w.heap.size w w':=by
 have q0:=Z3 h0
 have q1:=Z3 h1
 have q2:=Z3 h2
 have q3:=Z3 h3
 have q4:=Z3 h4
 have q5:=Z3 h5
 have q6:=Z3 h6
 have q7:=Z3 h7
 have q8:=Z3 h8
 clear h0 h1 h2 h3 h4 h5 h6 h7 h8
 have hb0:=Hd (Below.refl w.heap.size w)
 go_enter Tryz.func66,Tryz.ntmps66
 go_wp2_with fail
 generalize hW:w.alloc (.cells #[.int .i64 0,.int .i64 0,.int .i64 0,.int .i64 0,.int .i64 0,.int .i64 0] 45)=W1 at*
 replace q0:=hW▸q0 (.cells #[.int .i64 0,.int .i64 0,.int .i64 0,.int .i64 0,.int .i64 0,.int .i64 0] 45)
 replace q1:=hW▸q1 (.cells #[.int .i64 0,.int .i64 0,.int .i64 0,.int .i64 0,.int .i64 0,.int .i64 0] 45)
 replace q2:=Y4 (hW▸q2 (.cells #[.int .i64 0,.int .i64 0,.int .i64 0,.int .i64 0,.int .i64 0,.int .i64 0] 45))
 replace q3:=Y4 (hW▸q3 (.cells #[.int .i64 0,.int .i64 0,.int .i64 0,.int .i64 0,.int .i64 0,.int .i64 0] 45))
 replace q4:=hW▸q4 (.cells #[.int .i64 0,.int .i64 0,.int .i64 0,.int .i64 0,.int .i64 0,.int .i64 0] 45)
 replace q5:=hW▸q5 (.cells #[.int .i64 0,.int .i64 0,.int .i64 0,.int .i64 0,.int .i64 0,.int .i64 0] 45)
 replace q6:=hW▸q6 (.cells #[.int .i64 0,.int .i64 0,.int .i64 0,.int .i64 0,.int .i64 0,.int .i64 0] 45)
 replace q7:=hW▸q7 (.cells #[.int .i64 0,.int .i64 0,.int .i64 0,.int .i64 0,.int .i64 0,.int .i64 0] 45)
 replace q8:=Y4 (hW▸q8 (.cells #[.int .i64 0,.int .i64 0,.int .i64 0,.int .i64 0,.int .i64 0,.int .i64 0] 45))
 have ct:=Hd (Vs b off 9 c x0 x1 W1 q0 q1 oX)
 have cu:=Hd (Vs b (off+4) 5 (c-4) x4 x5 W1 q4 q5 oX)
 have cv:=Hd (Vs b (off+6) 3 (c-6) x6 x7 W1 q6 q7 oX)
 clear q0 q1 q4 q5 q6 q7
 have e2:IntKind.i64.wrap (x2.toNat:Int)=x2.toNat:=IntWalk.i64_in _ (by have:=x2.toNat_lt;omega)
 have e3:IntKind.i64.wrap (x3.toNat:Int)=x3.toNat:=IntWalk.i64_in _ (by have:=x3.toNat_lt;omega)
 have e8:IntKind.i64.wrap (x8.toNat:Int)=x8.toNat:=IntWalk.i64_in _ (by have:=x8.toNat_lt;omega)
 go_cut [4] from 11 to 31 (λs4 wx=>∃ m:Nat,s4=.pointer (some ⟨W1.heap.size,0,none⟩)/\wx=(W1.drewN m).alloc (.cells #[.int .i64 ((x0.toNat:Int)*256+x1.toNat),.int .i64 (x2.toNat:Int),.int .i64 (x3.toNat:Int),.int .i64 ((x4.toNat:Int)*256+x5.toNat),.int .i64 ((x6.toNat:Int)*256+x7.toNat),.int .i64 (x8.toNat:Int)] 45))
 case first=>
  refine J6 kX (λhOn=>?_)
  refine tk 0 hOn ?_
  refine tk 2 hOn ?_
  refine tk 3 hOn ?_
  refine tk 4 hOn ?_
  refine tk 5 hOn ?_
  refine tk 6 hOn ?_
  refine tk 7 hOn ?_
  refine tk 8 hOn ?_
  refine tk 9 hOn ?_
  refine tk 10 hOn ?_
  refine tk 11 hOn ?_
  refine tk 13 hOn ?_
  refine tk 14 hOn ?_
  refine tk 16 hOn ?_
  refine tk 17 hOn ?_
  refine tk 18 hOn ?_
  refine tk 19 hOn ?_
  refine rds [1,21] ?_
  refine AllReadyH.cons (by simp only[List.getElem?_toArray,List.getElem?_cons_succ,List.getElem?_cons_zero];rfl) (λK hK=>?_) ?_
  ·go_simp
   refine(ct.out _ hOn).mono ?_
   rintro e w2 ⟨rfl,nw2,rfl⟩
   go_wp2_with fail
   refine hK.out _ _ (by first|exact Zd (Grown.refl _) _|exact Grown.alloc (Zd (Grown.refl _) _) _|exact Zd (Grown.alloc (Zd (Grown.refl _) _) _) _) (λhNext=>?_)
   clear hK K hOn
   have hOn:=hNext
   clear hNext
   try rw[Zi,Zj]
   try rw[Zi,Zj] at hOn
   try simp only[Act.put,sL,sZ,sS]
   refine rds [12,21] ?_
   refine AllReadyH.cons (by simp only[List.getElem?_toArray,List.getElem?_cons_succ,List.getElem?_cons_zero];rfl) (λK hK=>?_) ?_
   ·go_simp
    refine(cu.out _ hOn).mono ?_
    rintro e w3 ⟨rfl,nw3,rfl⟩
    go_wp2_with fail
    refine hK.out _ _ (by first|exact Zd (Grown.refl _) _|exact Grown.alloc (Zd (Grown.refl _) _) _|exact Zd (Grown.alloc (Zd (Grown.refl _) _) _) _) (λhNext=>?_)
    clear hK K hOn
    have hOn:=hNext
    clear hNext
    try rw[Zi,Zj]
    try rw[Zi,Zj] at hOn
    try simp only[Act.put,sL,sZ,sS]
    refine rds [15,21] ?_
    refine AllReadyH.cons (by simp only[List.getElem?_toArray,List.getElem?_cons_succ,List.getElem?_cons_zero];rfl) (λK hK=>?_) ?_
    ·go_simp
     refine(cv.out _ hOn).mono ?_
     rintro e w4 ⟨rfl,nw4,rfl⟩
     go_wp2_with fail
     refine hK.out _ _ (by first|exact Zd (Grown.refl _) _|exact Grown.alloc (Zd (Grown.refl _) _) _|exact Zd (Grown.alloc (Zd (Grown.refl _) _) _) _) (λhNext=>?_)
     clear hK K hOn
     have hOn:=hNext
     clear hNext
     try rw[Zi,Zj]
     try rw[Zi,Zj] at hOn
     try simp only[Act.put,sL,sZ,sS]
     refine tk 20 hOn ?_
     refine rds [21] ?_
     refine AllReadyH.cons (by simp only[List.getElem?_toArray,List.getElem?_cons_succ,List.getElem?_cons_zero];rfl) (λK hK=>?_) AllReadyH.nil
     go_simp
     try go_wp2_with fail
     refine hK.out _ _ (by first|exact Zd (Grown.refl _) _|exact Grown.alloc (Zd (Grown.refl _) _) _|exact Zd (Grown.alloc (Zd (Grown.refl _) _) _) _) (λhNext=>?_)
     clear hK K hOn
     have hOn:=hNext
     clear hNext
     try rw[Zi,Zj]
     try rw[Zi,Zj] at hOn
     try simp only[Act.put,sL,sZ,sS]
     refine rds [22] ?_
     refine AllReadyH.cons (by simp only[List.getElem?_toArray,List.getElem?_cons_succ,List.getElem?_cons_zero];rfl) (λK hK=>?_) AllReadyH.nil
     rw[if_pos (by rfl)]
     refine Qj (w:=W1.drewN _) 45 (.tmp 4) (.tmp 31) rfl _ #[.int .i64 ((x0.toNat:Int)*256+x1.toNat),.int .i64 (x2.toNat:Int),.int .i64 (x3.toNat:Int),.int .i64 ((x4.toNat:Int)*256+x5.toNat),.int .i64 ((x6.toNat:Int)*256+x7.toNat),.int .i64 (x8.toNat:Int)] rfl rfl kX rfl (by simp[Value.oneCell']) ?_
     refine hK.out _ _ (by first|exact Zd (Grown.refl _) _|exact Grown.alloc (Zd (Grown.refl _) _) _|exact Zd (Grown.alloc (Zd (Grown.refl _) _) _) _) (λhNext=>?_)
     clear hK K hOn
     have hOn:=hNext
     clear hNext
     try rw[Zi,Zj]
     try rw[Zi,Zj] at hOn
     try simp only[Act.put]
     refine dnE ?_
     go_wp2_with fail
     go_meet
     exact⟨_,rfl,rfl⟩
    refine AllReadyH.cons (by simp only[List.getElem?_toArray,List.getElem?_cons_succ,List.getElem?_cons_zero];rfl) (λK hK=>?_) AllReadyH.nil
    go_simp
    try go_wp2_with fail
    refine hK.out _ _ (by first|exact Zd (Grown.refl _) _|exact Grown.alloc (Zd (Grown.refl _) _) _|exact Zd (Grown.alloc (Zd (Grown.refl _) _) _) _) (λhNext=>?_)
    clear hK K hOn
    have hOn:=hNext
    clear hNext
    try rw[Zi,Zj]
    try rw[Zi,Zj] at hOn
    try simp only[Act.put,sL,sZ,sS]
    refine rds [15] ?_
    refine AllReadyH.cons (by simp only[List.getElem?_toArray,List.getElem?_cons_succ,List.getElem?_cons_zero];rfl) (λK hK=>?_) AllReadyH.nil
    go_simp
    refine(cv.out _ hOn).mono ?_
    rintro e w4 ⟨rfl,nw4,rfl⟩
    go_wp2_with fail
    refine hK.out _ _ (by first|exact Zd (Grown.refl _) _|exact Grown.alloc (Zd (Grown.refl _) _) _|exact Zd (Grown.alloc (Zd (Grown.refl _) _) _) _) (λhNext=>?_)
    clear hK K hOn
    have hOn:=hNext
    clear hNext
    try rw[Zi,Zj]
    try rw[Zi,Zj] at hOn
    try simp only[Act.put,sL,sZ,sS]
    refine tk 20 hOn ?_
    refine rds [22] ?_
    refine AllReadyH.cons (by simp only[List.getElem?_toArray,List.getElem?_cons_succ,List.getElem?_cons_zero];rfl) (λK hK=>?_) AllReadyH.nil
    rw[if_pos (by rfl)]
    refine Qj (w:=W1.drewN _) 45 (.tmp 4) (.tmp 31) rfl _ #[.int .i64 ((x0.toNat:Int)*256+x1.toNat),.int .i64 (x2.toNat:Int),.int .i64 (x3.toNat:Int),.int .i64 ((x4.toNat:Int)*256+x5.toNat),.int .i64 ((x6.toNat:Int)*256+x7.toNat),.int .i64 (x8.toNat:Int)] rfl rfl kX rfl (by simp[Value.oneCell']) ?_
    refine hK.out _ _ (by first|exact Zd (Grown.refl _) _|exact Grown.alloc (Zd (Grown.refl _) _) _|exact Zd (Grown.alloc (Zd (Grown.refl _) _) _) _) (λhNext=>?_)
    clear hK K hOn
    have hOn:=hNext
    clear hNext
    try rw[Zi,Zj]
    try rw[Zi,Zj] at hOn
    try simp only[Act.put]
    refine dnE ?_
    go_wp2_with fail
    go_meet
    exact⟨_,rfl,rfl⟩
   refine AllReadyH.cons (by simp only[List.getElem?_toArray,List.getElem?_cons_succ,List.getElem?_cons_zero];rfl) (λK hK=>?_) AllReadyH.nil
   go_simp
   try go_wp2_with fail
   refine hK.out _ _ (by first|exact Zd (Grown.refl _) _|exact Grown.alloc (Zd (Grown.refl _) _) _|exact Zd (Grown.alloc (Zd (Grown.refl _) _) _) _) (λhNext=>?_)
   clear hK K hOn
   have hOn:=hNext
   clear hNext
   try rw[Zi,Zj]
   try rw[Zi,Zj] at hOn
   try simp only[Act.put,sL,sZ,sS]
   refine rds [12] ?_
   refine AllReadyH.cons (by simp only[List.getElem?_toArray,List.getElem?_cons_succ,List.getElem?_cons_zero];rfl) (λK hK=>?_) AllReadyH.nil
   go_simp
   refine(cu.out _ hOn).mono ?_
   rintro e w3 ⟨rfl,nw3,rfl⟩
   go_wp2_with fail
   refine hK.out _ _ (by first|exact Zd (Grown.refl _) _|exact Grown.alloc (Zd (Grown.refl _) _) _|exact Zd (Grown.alloc (Zd (Grown.refl _) _) _) _) (λhNext=>?_)
   clear hK K hOn
   have hOn:=hNext
   clear hNext
   try rw[Zi,Zj]
   try rw[Zi,Zj] at hOn
   try simp only[Act.put,sL,sZ,sS]
   refine rds [15] ?_
   refine AllReadyH.cons (by simp only[List.getElem?_toArray,List.getElem?_cons_succ,List.getElem?_cons_zero];rfl) (λK hK=>?_) AllReadyH.nil
   go_simp
   refine(cv.out _ hOn).mono ?_
   rintro e w4 ⟨rfl,nw4,rfl⟩
   go_wp2_with fail
   refine hK.out _ _ (by first|exact Zd (Grown.refl _) _|exact Grown.alloc (Zd (Grown.refl _) _) _|exact Zd (Grown.alloc (Zd (Grown.refl _) _) _) _) (λhNext=>?_)
   clear hK K hOn
   have hOn:=hNext
   clear hNext
   try rw[Zi,Zj]
   try rw[Zi,Zj] at hOn
   try simp only[Act.put,sL,sZ,sS]
   refine tk 20 hOn ?_
   refine rds [22] ?_
   refine AllReadyH.cons (by simp only[List.getElem?_toArray,List.getElem?_cons_succ,List.getElem?_cons_zero];rfl) (λK hK=>?_) AllReadyH.nil
   rw[if_pos (by rfl)]
   refine Qj (w:=W1.drewN _) 45 (.tmp 4) (.tmp 31) rfl _ #[.int .i64 ((x0.toNat:Int)*256+x1.toNat),.int .i64 (x2.toNat:Int),.int .i64 (x3.toNat:Int),.int .i64 ((x4.toNat:Int)*256+x5.toNat),.int .i64 ((x6.toNat:Int)*256+x7.toNat),.int .i64 (x8.toNat:Int)] rfl rfl kX rfl (by simp[Value.oneCell']) ?_
   refine hK.out _ _ (by first|exact Zd (Grown.refl _) _|exact Grown.alloc (Zd (Grown.refl _) _) _|exact Zd (Grown.alloc (Zd (Grown.refl _) _) _) _) (λhNext=>?_)
   clear hK K hOn
   have hOn:=hNext
   clear hNext
   try rw[Zi,Zj]
   try rw[Zi,Zj] at hOn
   try simp only[Act.put]
   refine dnE ?_
   go_wp2_with fail
   go_meet
   exact⟨_,rfl,rfl⟩
  refine AllReadyH.cons (by simp only[List.getElem?_toArray,List.getElem?_cons_succ,List.getElem?_cons_zero];rfl) (λK hK=>?_) AllReadyH.nil
  go_simp
  try go_wp2_with fail
  refine hK.out _ _ (by first|exact Zd (Grown.refl _) _|exact Grown.alloc (Zd (Grown.refl _) _) _|exact Zd (Grown.alloc (Zd (Grown.refl _) _) _) _) (λhNext=>?_)
  clear hK K hOn
  have hOn:=hNext
  clear hNext
  try rw[Zi,Zj]
  try rw[Zi,Zj] at hOn
  try simp only[Act.put,sL,sZ,sS]
  refine rds [1] ?_
  refine AllReadyH.cons (by simp only[List.getElem?_toArray,List.getElem?_cons_succ,List.getElem?_cons_zero];rfl) (λK hK=>?_) AllReadyH.nil
  go_simp
  refine(ct.out _ hOn).mono ?_
  rintro e w2 ⟨rfl,nw2,rfl⟩
  go_wp2_with fail
  refine hK.out _ _ (by first|exact Zd (Grown.refl _) _|exact Grown.alloc (Zd (Grown.refl _) _) _|exact Zd (Grown.alloc (Zd (Grown.refl _) _) _) _) (λhNext=>?_)
  clear hK K hOn
  have hOn:=hNext
  clear hNext
  try rw[Zi,Zj]
  try rw[Zi,Zj] at hOn
  try simp only[Act.put,sL,sZ,sS]
  refine rds [12] ?_
  refine AllReadyH.cons (by simp only[List.getElem?_toArray,List.getElem?_cons_succ,List.getElem?_cons_zero];rfl) (λK hK=>?_) AllReadyH.nil
  go_simp
  refine(cu.out _ hOn).mono ?_
  rintro e w3 ⟨rfl,nw3,rfl⟩
  go_wp2_with fail
  refine hK.out _ _ (by first|exact Zd (Grown.refl _) _|exact Grown.alloc (Zd (Grown.refl _) _) _|exact Zd (Grown.alloc (Zd (Grown.refl _) _) _) _) (λhNext=>?_)
  clear hK K hOn
  have hOn:=hNext
  clear hNext
  try rw[Zi,Zj]
  try rw[Zi,Zj] at hOn
  try simp only[Act.put,sL,sZ,sS]
  refine rds [15] ?_
  refine AllReadyH.cons (by simp only[List.getElem?_toArray,List.getElem?_cons_succ,List.getElem?_cons_zero];rfl) (λK hK=>?_) AllReadyH.nil
  go_simp
  refine(cv.out _ hOn).mono ?_
  rintro e w4 ⟨rfl,nw4,rfl⟩
  go_wp2_with fail
  refine hK.out _ _ (by first|exact Zd (Grown.refl _) _|exact Grown.alloc (Zd (Grown.refl _) _) _|exact Zd (Grown.alloc (Zd (Grown.refl _) _) _) _) (λhNext=>?_)
  clear hK K hOn
  have hOn:=hNext
  clear hNext
  try rw[Zi,Zj]
  try rw[Zi,Zj] at hOn
  try simp only[Act.put,sL,sZ,sS]
  refine tk 20 hOn ?_
  refine rds [22] ?_
  refine AllReadyH.cons (by simp only[List.getElem?_toArray,List.getElem?_cons_succ,List.getElem?_cons_zero];rfl) (λK hK=>?_) AllReadyH.nil
  rw[if_pos (by rfl)]
  refine Qj (w:=W1.drewN _) 45 (.tmp 4) (.tmp 31) rfl _ #[.int .i64 ((x0.toNat:Int)*256+x1.toNat),.int .i64 (x2.toNat:Int),.int .i64 (x3.toNat:Int),.int .i64 ((x4.toNat:Int)*256+x5.toNat),.int .i64 ((x6.toNat:Int)*256+x7.toNat),.int .i64 (x8.toNat:Int)] rfl rfl kX rfl (by simp[Value.oneCell']) ?_
  refine hK.out _ _ (by first|exact Zd (Grown.refl _) _|exact Grown.alloc (Zd (Grown.refl _) _) _|exact Zd (Grown.alloc (Zd (Grown.refl _) _) _) _) (λhNext=>?_)
  clear hK K hOn
  have hOn:=hNext
  clear hNext
  try rw[Zi,Zj]
  try rw[Zi,Zj] at hOn
  try simp only[Act.put]
  refine dnE ?_
  go_wp2_with fail
  go_meet
  exact⟨_,rfl,rfl⟩
 case rest=>
  obtain⟨m,rfl,hwc⟩:=hcut
  have hp:=heap_alloc_new (W1.drewN m) (.cells #[.int .i64 ((x0.toNat:Int)*256+x1.toNat),.int .i64 (x2.toNat:Int),.int .i64 (x3.toNat:Int),.int .i64 ((x4.toNat:Int)*256+x5.toNat),.int .i64 ((x6.toNat:Int)*256+x7.toNat),.int .i64 (x8.toNat:Int)] 45)
  rw[<-hwc] at hp
  have hg:w.heap.size<W1.heap.size:=by rw[<-hW];simp
  have hz0:W1.heap[w.heap.size]? = some (.cells #[.int .i64 0,.int .i64 0,.int .i64 0,.int .i64 0,.int .i64 0,.int .i64 0] 45):=by rw[<-hW];exact heap_alloc_new w _
  have hBW:Grown W1 wc:=by rw[hwc];exact Grown.alloc (Zd (Grown.refl _) _) _
  have hzz:=Hd ((hBW.block w.heap.size oX).trans hz0)
  have hbw:Below w.heap.size w W1:=by rw[<-hW];exact bR.alloc nR _
  replace hb0:=Hd (hbw.trans (hBW.mono hbw.size))
  have hp:=Hd (show wc.heap[W1.heap.size]? = _ from hp)
  clear e2 e3 e8 q2 q3 q8 ct cu cv hwc hz0 hBW hbw
  replace hE:=Hd (hE.below hb0.out)
  have hcall:=Hd (Gt ((x0.toNat:Int)*256+x1.toNat) (x2.toNat:Int) (x3.toNat:Int) ((x4.toNat:Int)*256+x5.toNat) ((x6.toNat:Int)*256+x7.toNat) (x8.toNat:Int) (V9 h) z wc hE.out)
  clear h hE
  go_wp2_with (refine Ze rfl 45 (.tmp 4) rfl W1.heap.size #[.int .i64 ((x0.toNat:Int)*256+x1.toNat),.int .i64 (x2.toNat:Int),.int .i64 (x3.toNat:Int),.int .i64 ((x4.toNat:Int)*256+x5.toNat),.int .i64 ((x6.toNat:Int)*256+x7.toNat),.int .i64 (x8.toNat:Int)] _ rfl hp Tryz.underlying45 rfl kX ?_)
  with_reducible refine hcall.out.mono ?_
  rintro e w5 ⟨rfl,hb⟩
  replace hp:=Hd ((hb.block _ (Zb hp.out)).trans hp.out)
  replace hzz:=Hd ((hb.block _ (Zb hzz.out)).trans hzz.out)
  replace hb0:=Hd (hb0.out.trans (hb.mono hb0.out.size))
  clear hb hcall
  go_wp2_with (first|(refine Ze rfl 45 (.tmp 4) rfl W1.heap.size #[.int .i64 ((x0.toNat:Int)*256+x1.toNat),.int .i64 (x2.toNat:Int),.int .i64 (x3.toNat:Int),.int .i64 ((x4.toNat:Int)*256+x5.toNat),.int .i64 ((x6.toNat:Int)*256+x7.toNat),.int .i64 (x8.toNat:Int)] _ rfl hp Tryz.underlying45 rfl kX ?_)|(refine Zc rfl 45 (.tmp 2) (.tmp 38) rfl w.heap.size _ #[.int .i64 ((x0.toNat:Int)*256+x1.toNat),.int .i64 (x2.toNat:Int),.int .i64 (x3.toNat:Int),.int .i64 ((x4.toNat:Int)*256+x5.toNat),.int .i64 ((x6.toNat:Int)*256+x7.toNat),.int .i64 (x8.toNat:Int)] rfl rfl hzz kX rfl (by simp[Value.oneCell']) ?_;intro wS hU))
  refine YD rfl rfl rfl Tryz.underlying45 rfl kX hU.out.here ?_
  exact⟨rfl,hb0.out.trans (hU.out.below nR)⟩
theorem Mw(b off c:Nat)(x0 x1 x2 x3 x4 x5 x6 x7 x8:UInt8)(_:9<=c)(w:World)(F:ByteArray)(V:Int)(i:Nat)(h:Qb ((x0.toNat:Int)*256+x1.toNat) (x2.toNat:Int) (x3.toNat:Int) ((x4.toNat:Int)*256+x5.toNat) ((x6.toNat:Int)*256+x7.toNat) (x8.toNat:Int)=some (F,V,i))(ea:Nat->Addr)(H:Errs 298 Zq w ea)
  (h0:w.cell? ⟨b,off,none⟩=some (.int .u8 (x0.toNat:Int))) (h1:w.cell? ⟨b,off+1,none⟩=some (.int .u8 (x1.toNat:Int))) (h2:w.cell? ⟨b,off+2,none⟩=some (.int .u8 (x2.toNat:Int))) (h3:w.cell? ⟨b,off+3,none⟩=some (.int .u8 (x3.toNat:Int)))
  (h4:w.cell? ⟨b,off+4,none⟩=some (.int .u8 (x4.toNat:Int))) (h5:w.cell? ⟨b,off+5,none⟩=some (.int .u8 (x5.toNat:Int))) (h6:w.cell? ⟨b,off+6,none⟩=some (.int .u8 (x6.toNat:Int))) (h7:w.cell? ⟨b,off+7,none⟩=some (.int .u8 (x7.toNat:Int))) (h8:w.cell? ⟨b,off+8,none⟩=some (.int .u8 (x8.toNat:Int))) :
  Calls Tryz.prog 66 #[.slice (some ⟨b,off,none⟩) 9 c] w λe w'=>∃ g,e=.returned (.tuple #[.agg #[.int .i64 0,.int .i64 0,.int .i64 0,.int .i64 0,.int .i64 0,.int .i64 0],(.iface 227 (.pointer (some ⟨g,0,none⟩)))])/\PS w.heap.size w' F V (ea i) g/\Below w.heap.size w w':=by
 have q0:=Z3 h0
 have q1:=Z3 h1
 have q2:=Z3 h2
 have q3:=Z3 h3
 have q4:=Z3 h4
 have q5:=Z3 h5
 have q6:=Z3 h6
 have q7:=Z3 h7
 have q8:=Z3 h8
 clear h0 h1 h2 h3 h4 h5 h6 h7 h8
 have hb0:=Hd (Below.refl w.heap.size w)
 go_enter Tryz.func66,Tryz.ntmps66
 go_wp2_with fail
 generalize hW:w.alloc (.cells #[.int .i64 0,.int .i64 0,.int .i64 0,.int .i64 0,.int .i64 0,.int .i64 0] 45)=W1 at*
 replace q0:=hW▸q0 (.cells #[.int .i64 0,.int .i64 0,.int .i64 0,.int .i64 0,.int .i64 0,.int .i64 0] 45)
 replace q1:=hW▸q1 (.cells #[.int .i64 0,.int .i64 0,.int .i64 0,.int .i64 0,.int .i64 0,.int .i64 0] 45)
 replace q2:=Y4 (hW▸q2 (.cells #[.int .i64 0,.int .i64 0,.int .i64 0,.int .i64 0,.int .i64 0,.int .i64 0] 45))
 replace q3:=Y4 (hW▸q3 (.cells #[.int .i64 0,.int .i64 0,.int .i64 0,.int .i64 0,.int .i64 0,.int .i64 0] 45))
 replace q4:=hW▸q4 (.cells #[.int .i64 0,.int .i64 0,.int .i64 0,.int .i64 0,.int .i64 0,.int .i64 0] 45)
 replace q5:=hW▸q5 (.cells #[.int .i64 0,.int .i64 0,.int .i64 0,.int .i64 0,.int .i64 0,.int .i64 0] 45)
 replace q6:=hW▸q6 (.cells #[.int .i64 0,.int .i64 0,.int .i64 0,.int .i64 0,.int .i64 0,.int .i64 0] 45)
 replace q7:=hW▸q7 (.cells #[.int .i64 0,.int .i64 0,.int .i64 0,.int .i64 0,.int .i64 0,.int .i64 0] 45)
 replace q8:=Y4 (hW▸q8 (.cells #[.int .i64 0,.int .i64 0,.int .i64 0,.int .i64 0,.int .i64 0,.int .i64 0] 45))
 have ct:=Hd (Vs b off 9 c x0 x1 W1 q0 q1 oX)
 have cu:=Hd (Vs b (off+4) 5 (c-4) x4 x5 W1 q4 q5 oX)
 have cv:=Hd (Vs b (off+6) 3 (c-6) x6 x7 W1 q6 q7 oX)
 clear q0 q1 q4 q5 q6 q7
 have e2:IntKind.i64.wrap (x2.toNat:Int)=x2.toNat:=IntWalk.i64_in _ (by have:=x2.toNat_lt;omega)
 have e3:IntKind.i64.wrap (x3.toNat:Int)=x3.toNat:=IntWalk.i64_in _ (by have:=x3.toNat_lt;omega)
 have e8:IntKind.i64.wrap (x8.toNat:Int)=x8.toNat:=IntWalk.i64_in _ (by have:=x8.toNat_lt;omega)
 go_cut [4] from 11 to 31 (λs4 wx=>∃ m:Nat,s4=.pointer (some ⟨W1.heap.size,0,none⟩)/\wx=(W1.drewN m).alloc (.cells #[.int .i64 ((x0.toNat:Int)*256+x1.toNat),.int .i64 (x2.toNat:Int),.int .i64 (x3.toNat:Int),.int .i64 ((x4.toNat:Int)*256+x5.toNat),.int .i64 ((x6.toNat:Int)*256+x7.toNat),.int .i64 (x8.toNat:Int)] 45))
 case first=>
  refine J6 kX (λhOn=>?_)
  refine tk 0 hOn ?_
  refine tk 2 hOn ?_
  refine tk 3 hOn ?_
  refine tk 4 hOn ?_
  refine tk 5 hOn ?_
  refine tk 6 hOn ?_
  refine tk 7 hOn ?_
  refine tk 8 hOn ?_
  refine tk 9 hOn ?_
  refine tk 10 hOn ?_
  refine tk 11 hOn ?_
  refine tk 13 hOn ?_
  refine tk 14 hOn ?_
  refine tk 16 hOn ?_
  refine tk 17 hOn ?_
  refine tk 18 hOn ?_
  refine tk 19 hOn ?_
  refine rds [1,21] ?_
  refine AllReadyH.cons (by simp only[List.getElem?_toArray,List.getElem?_cons_succ,List.getElem?_cons_zero];rfl) (λK hK=>?_) ?_
  ·go_simp
   refine(ct.out _ hOn).mono ?_
   rintro e w2 ⟨rfl,nw2,rfl⟩
   go_wp2_with fail
   refine hK.out _ _ (by first|exact Zd (Grown.refl _) _|exact Grown.alloc (Zd (Grown.refl _) _) _|exact Zd (Grown.alloc (Zd (Grown.refl _) _) _) _) (λhNext=>?_)
   clear hK K hOn
   have hOn:=hNext
   clear hNext
   try rw[Zi,Zj]
   try rw[Zi,Zj] at hOn
   try simp only[Act.put,sL,sZ,sS]
   refine rds [12,21] ?_
   refine AllReadyH.cons (by simp only[List.getElem?_toArray,List.getElem?_cons_succ,List.getElem?_cons_zero];rfl) (λK hK=>?_) ?_
   ·go_simp
    refine(cu.out _ hOn).mono ?_
    rintro e w3 ⟨rfl,nw3,rfl⟩
    go_wp2_with fail
    refine hK.out _ _ (by first|exact Zd (Grown.refl _) _|exact Grown.alloc (Zd (Grown.refl _) _) _|exact Zd (Grown.alloc (Zd (Grown.refl _) _) _) _) (λhNext=>?_)
    clear hK K hOn
    have hOn:=hNext
    clear hNext
    try rw[Zi,Zj]
    try rw[Zi,Zj] at hOn
    try simp only[Act.put,sL,sZ,sS]
    refine rds [15,21] ?_
    refine AllReadyH.cons (by simp only[List.getElem?_toArray,List.getElem?_cons_succ,List.getElem?_cons_zero];rfl) (λK hK=>?_) ?_
    ·go_simp
     refine(cv.out _ hOn).mono ?_
     rintro e w4 ⟨rfl,nw4,rfl⟩
     go_wp2_with fail
     refine hK.out _ _ (by first|exact Zd (Grown.refl _) _|exact Grown.alloc (Zd (Grown.refl _) _) _|exact Zd (Grown.alloc (Zd (Grown.refl _) _) _) _) (λhNext=>?_)
     clear hK K hOn
     have hOn:=hNext
     clear hNext
     try rw[Zi,Zj]
     try rw[Zi,Zj] at hOn
     try simp only[Act.put,sL,sZ,sS]
     refine tk 20 hOn ?_
     refine rds [21] ?_
     refine AllReadyH.cons (by simp only[List.getElem?_toArray,List.getElem?_cons_succ,List.getElem?_cons_zero];rfl) (λK hK=>?_) AllReadyH.nil
     go_simp
     try go_wp2_with fail
     refine hK.out _ _ (by first|exact Zd (Grown.refl _) _|exact Grown.alloc (Zd (Grown.refl _) _) _|exact Zd (Grown.alloc (Zd (Grown.refl _) _) _) _) (λhNext=>?_)
     clear hK K hOn
     have hOn:=hNext
     clear hNext
     try rw[Zi,Zj]
     try rw[Zi,Zj] at hOn
     try simp only[Act.put,sL,sZ,sS]
     refine rds [22] ?_
     refine AllReadyH.cons (by simp only[List.getElem?_toArray,List.getElem?_cons_succ,List.getElem?_cons_zero];rfl) (λK hK=>?_) AllReadyH.nil
     rw[if_pos (by rfl)]
     refine Qj (w:=W1.drewN _) 45 (.tmp 4) (.tmp 31) rfl _ #[.int .i64 ((x0.toNat:Int)*256+x1.toNat),.int .i64 (x2.toNat:Int),.int .i64 (x3.toNat:Int),.int .i64 ((x4.toNat:Int)*256+x5.toNat),.int .i64 ((x6.toNat:Int)*256+x7.toNat),.int .i64 (x8.toNat:Int)] rfl rfl kX rfl (by simp[Value.oneCell']) ?_
     refine hK.out _ _ (by first|exact Zd (Grown.refl _) _|exact Grown.alloc (Zd (Grown.refl _) _) _|exact Zd (Grown.alloc (Zd (Grown.refl _) _) _) _) (λhNext=>?_)
     clear hK K hOn
     have hOn:=hNext
     clear hNext
     try rw[Zi,Zj]
     try rw[Zi,Zj] at hOn
     try simp only[Act.put]
     refine dnE ?_
     go_wp2_with fail
     go_meet
     exact⟨_,rfl,rfl⟩
    refine AllReadyH.cons (by simp only[List.getElem?_toArray,List.getElem?_cons_succ,List.getElem?_cons_zero];rfl) (λK hK=>?_) AllReadyH.nil
    go_simp
    try go_wp2_with fail
    refine hK.out _ _ (by first|exact Zd (Grown.refl _) _|exact Grown.alloc (Zd (Grown.refl _) _) _|exact Zd (Grown.alloc (Zd (Grown.refl _) _) _) _) (λhNext=>?_)
    clear hK K hOn
    have hOn:=hNext
    clear hNext
    try rw[Zi,Zj]
    try rw[Zi,Zj] at hOn
    try simp only[Act.put,sL,sZ,sS]
    refine rds [15] ?_
    refine AllReadyH.cons (by simp only[List.getElem?_toArray,List.getElem?_cons_succ,List.getElem?_cons_zero];rfl) (λK hK=>?_) AllReadyH.nil
    go_simp
    refine(cv.out _ hOn).mono ?_
    rintro e w4 ⟨rfl,nw4,rfl⟩
    go_wp2_with fail
    refine hK.out _ _ (by first|exact Zd (Grown.refl _) _|exact Grown.alloc (Zd (Grown.refl _) _) _|exact Zd (Grown.alloc (Zd (Grown.refl _) _) _) _) (λhNext=>?_)
    clear hK K hOn
    have hOn:=hNext
    clear hNext
    try rw[Zi,Zj]
    try rw[Zi,Zj] at hOn
    try simp only[Act.put,sL,sZ,sS]
    refine tk 20 hOn ?_
    refine rds [22] ?_
    refine AllReadyH.cons (by simp only[List.getElem?_toArray,List.getElem?_cons_succ,List.getElem?_cons_zero];rfl) (λK hK=>?_) AllReadyH.nil
    rw[if_pos (by rfl)]
    refine Qj (w:=W1.drewN _) 45 (.tmp 4) (.tmp 31) rfl _ #[.int .i64 ((x0.toNat:Int)*256+x1.toNat),.int .i64 (x2.toNat:Int),.int .i64 (x3.toNat:Int),.int .i64 ((x4.toNat:Int)*256+x5.toNat),.int .i64 ((x6.toNat:Int)*256+x7.toNat),.int .i64 (x8.toNat:Int)] rfl rfl kX rfl (by simp[Value.oneCell']) ?_
    refine hK.out _ _ (by first|exact Zd (Grown.refl _) _|exact Grown.alloc (Zd (Grown.refl _) _) _|exact Zd (Grown.alloc (Zd (Grown.refl _) _) _) _) (λhNext=>?_)
    clear hK K hOn
    have hOn:=hNext
    clear hNext
    try rw[Zi,Zj]
    try rw[Zi,Zj] at hOn
    try simp only[Act.put]
    refine dnE ?_
    go_wp2_with fail
    go_meet
    exact⟨_,rfl,rfl⟩
   refine AllReadyH.cons (by simp only[List.getElem?_toArray,List.getElem?_cons_succ,List.getElem?_cons_zero];rfl) (λK hK=>?_) AllReadyH.nil
   go_simp
   try go_wp2_with fail
   refine hK.out _ _ (by first|exact Zd (Grown.refl _) _|exact Grown.alloc (Zd (Grown.refl _) _) _|exact Zd (Grown.alloc (Zd (Grown.refl _) _) _) _) (λhNext=>?_)
   clear hK K hOn
   have hOn:=hNext
   clear hNext
   try rw[Zi,Zj]
   try rw[Zi,Zj] at hOn
   try simp only[Act.put,sL,sZ,sS]
   refine rds [12] ?_
   refine AllReadyH.cons (by simp only[List.getElem?_toArray,List.getElem?_cons_succ,List.getElem?_cons_zero];rfl) (λK hK=>?_) AllReadyH.nil
   go_simp
   refine(cu.out _ hOn).mono ?_
   rintro e w3 ⟨rfl,nw3,rfl⟩
   go_wp2_with fail
   refine hK.out _ _ (by first|exact Zd (Grown.refl _) _|exact Grown.alloc (Zd (Grown.refl _) _) _|exact Zd (Grown.alloc (Zd (Grown.refl _) _) _) _) (λhNext=>?_)
   clear hK K hOn
   have hOn:=hNext
   clear hNext
   try rw[Zi,Zj]
   try rw[Zi,Zj] at hOn
   try simp only[Act.put,sL,sZ,sS]
   refine rds [15] ?_
   refine AllReadyH.cons (by simp only[List.getElem?_toArray,List.getElem?_cons_succ,List.getElem?_cons_zero];rfl) (λK hK=>?_) AllReadyH.nil
   go_simp
   refine(cv.out _ hOn).mono ?_
   rintro e w4 ⟨rfl,nw4,rfl⟩
   go_wp2_with fail
   refine hK.out _ _ (by first|exact Zd (Grown.refl _) _|exact Grown.alloc (Zd (Grown.refl _) _) _|exact Zd (Grown.alloc (Zd (Grown.refl _) _) _) _) (λhNext=>?_)
   clear hK K hOn
   have hOn:=hNext
   clear hNext
   try rw[Zi,Zj]
   try rw[Zi,Zj] at hOn
   try simp only[Act.put,sL,sZ,sS]
   refine tk 20 hOn ?_
   refine rds [22] ?_
   refine AllReadyH.cons (by simp only[List.getElem?_toArray,List.getElem?_cons_succ,List.getElem?_cons_zero];rfl) (λK hK=>?_) AllReadyH.nil
   rw[if_pos (by rfl)]
   refine Qj (w:=W1.drewN _) 45 (.tmp 4) (.tmp 31) rfl _ #[.int .i64 ((x0.toNat:Int)*256+x1.toNat),.int .i64 (x2.toNat:Int),.int .i64 (x3.toNat:Int),.int .i64 ((x4.toNat:Int)*256+x5.toNat),.int .i64 ((x6.toNat:Int)*256+x7.toNat),.int .i64 (x8.toNat:Int)] rfl rfl kX rfl (by simp[Value.oneCell']) ?_
   refine hK.out _ _ (by first|exact Zd (Grown.refl _) _|exact Grown.alloc (Zd (Grown.refl _) _) _|exact Zd (Grown.alloc (Zd (Grown.refl _) _) _) _) (λhNext=>?_)
   clear hK K hOn
   have hOn:=hNext
   clear hNext
   try rw[Zi,Zj]
   try rw[Zi,Zj] at hOn
   try simp only[Act.put]
   refine dnE ?_
   go_wp2_with fail
   go_meet
   exact⟨_,rfl,rfl⟩
  refine AllReadyH.cons (by simp only[List.getElem?_toArray,List.getElem?_cons_succ,List.getElem?_cons_zero];rfl) (λK hK=>?_) AllReadyH.nil
  go_simp
  try go_wp2_with fail
  refine hK.out _ _ (by first|exact Zd (Grown.refl _) _|exact Grown.alloc (Zd (Grown.refl _) _) _|exact Zd (Grown.alloc (Zd (Grown.refl _) _) _) _) (λhNext=>?_)
  clear hK K hOn
  have hOn:=hNext
  clear hNext
  try rw[Zi,Zj]
  try rw[Zi,Zj] at hOn
  try simp only[Act.put,sL,sZ,sS]
  refine rds [1] ?_
  refine AllReadyH.cons (by simp only[List.getElem?_toArray,List.getElem?_cons_succ,List.getElem?_cons_zero];rfl) (λK hK=>?_) AllReadyH.nil
  go_simp
  refine(ct.out _ hOn).mono ?_
  rintro e w2 ⟨rfl,nw2,rfl⟩
  go_wp2_with fail
  refine hK.out _ _ (by first|exact Zd (Grown.refl _) _|exact Grown.alloc (Zd (Grown.refl _) _) _|exact Zd (Grown.alloc (Zd (Grown.refl _) _) _) _) (λhNext=>?_)
  clear hK K hOn
  have hOn:=hNext
  clear hNext
  try rw[Zi,Zj]
  try rw[Zi,Zj] at hOn
  try simp only[Act.put,sL,sZ,sS]
  refine rds [12] ?_
  refine AllReadyH.cons (by simp only[List.getElem?_toArray,List.getElem?_cons_succ,List.getElem?_cons_zero];rfl) (λK hK=>?_) AllReadyH.nil
  go_simp
  refine(cu.out _ hOn).mono ?_
  rintro e w3 ⟨rfl,nw3,rfl⟩
  go_wp2_with fail
  refine hK.out _ _ (by first|exact Zd (Grown.refl _) _|exact Grown.alloc (Zd (Grown.refl _) _) _|exact Zd (Grown.alloc (Zd (Grown.refl _) _) _) _) (λhNext=>?_)
  clear hK K hOn
  have hOn:=hNext
  clear hNext
  try rw[Zi,Zj]
  try rw[Zi,Zj] at hOn
  try simp only[Act.put,sL,sZ,sS]
  refine rds [15] ?_
  refine AllReadyH.cons (by simp only[List.getElem?_toArray,List.getElem?_cons_succ,List.getElem?_cons_zero];rfl) (λK hK=>?_) AllReadyH.nil
  go_simp
  refine(cv.out _ hOn).mono ?_
  rintro e w4 ⟨rfl,nw4,rfl⟩
  go_wp2_with fail
  refine hK.out _ _ (by first|exact Zd (Grown.refl _) _|exact Grown.alloc (Zd (Grown.refl _) _) _|exact Zd (Grown.alloc (Zd (Grown.refl _) _) _) _) (λhNext=>?_)
  clear hK K hOn
  have hOn:=hNext
  clear hNext
  try rw[Zi,Zj]
  try rw[Zi,Zj] at hOn
  try simp only[Act.put,sL,sZ,sS]
  refine tk 20 hOn ?_
  refine rds [22] ?_
  refine AllReadyH.cons (by simp only[List.getElem?_toArray,List.getElem?_cons_succ,List.getElem?_cons_zero];rfl) (λK hK=>?_) AllReadyH.nil
  rw[if_pos (by rfl)]
  refine Qj (w:=W1.drewN _) 45 (.tmp 4) (.tmp 31) rfl _ #[.int .i64 ((x0.toNat:Int)*256+x1.toNat),.int .i64 (x2.toNat:Int),.int .i64 (x3.toNat:Int),.int .i64 ((x4.toNat:Int)*256+x5.toNat),.int .i64 ((x6.toNat:Int)*256+x7.toNat),.int .i64 (x8.toNat:Int)] rfl rfl kX rfl (by simp[Value.oneCell']) ?_
  refine hK.out _ _ (by first|exact Zd (Grown.refl _) _|exact Grown.alloc (Zd (Grown.refl _) _) _|exact Zd (Grown.alloc (Zd (Grown.refl _) _) _) _) (λhNext=>?_)
  clear hK K hOn
  have hOn:=hNext
  clear hNext
  try rw[Zi,Zj]
  try rw[Zi,Zj] at hOn
  try simp only[Act.put]
  refine dnE ?_
  go_wp2_with fail
  go_meet
  exact⟨_,rfl,rfl⟩
 case rest=>
  obtain⟨m,rfl,hwc⟩:=hcut
  have hp:=heap_alloc_new (W1.drewN m) (.cells #[.int .i64 ((x0.toNat:Int)*256+x1.toNat),.int .i64 (x2.toNat:Int),.int .i64 (x3.toNat:Int),.int .i64 ((x4.toNat:Int)*256+x5.toNat),.int .i64 ((x6.toNat:Int)*256+x7.toNat),.int .i64 (x8.toNat:Int)] 45)
  rw[<-hwc] at hp
  have hg:w.heap.size<W1.heap.size:=by rw[<-hW];simp
  have hz0:W1.heap[w.heap.size]? = some (.cells #[.int .i64 0,.int .i64 0,.int .i64 0,.int .i64 0,.int .i64 0,.int .i64 0] 45):=by rw[<-hW];exact heap_alloc_new w _
  have hBW:Grown W1 wc:=by rw[hwc];exact Grown.alloc (Zd (Grown.refl _) _) _
  have hzz:=Hd ((hBW.block w.heap.size oX).trans hz0)
  have hbw:Below w.heap.size w W1:=by rw[<-hW];exact bR.alloc nR _
  replace hb0:=Hd (hbw.trans (hBW.mono hbw.size))
  have hp:=Hd (show wc.heap[W1.heap.size]? = _ from hp)
  clear e2 e3 e8 q2 q3 q8 ct cu cv hwc hz0 hBW hbw
  replace H:=Hd (H.below hb0.out)
  have hcall:=Hd (UJ ((x0.toNat:Int)*256+x1.toNat) (x2.toNat:Int) (x3.toNat:Int) ((x4.toNat:Int)*256+x5.toNat) ((x6.toNat:Int)*256+x7.toNat) (x8.toNat:Int) F V i h (by have:=x2.toNat_lt;omega) ea wc H.out)
  clear h H
  go_wp2_with (refine Ze rfl 45 (.tmp 4) rfl W1.heap.size #[.int .i64 ((x0.toNat:Int)*256+x1.toNat),.int .i64 (x2.toNat:Int),.int .i64 (x3.toNat:Int),.int .i64 ((x4.toNat:Int)*256+x5.toNat),.int .i64 ((x6.toNat:Int)*256+x7.toNat),.int .i64 (x8.toNat:Int)] _ rfl hp Tryz.underlying45 rfl kX ?_)
  with_reducible refine hcall.out.mono ?_
  rintro e w5 ⟨g,rfl,hg1,hg2,hb⟩
  have hgw:w.heap.size<g:=Nat.lt_of_lt_of_le (Zb hzz.out) hg1
  replace hg2:=Hd hg2
  replace hzz:=Hd ((hb.block _ (Zb hzz.out)).trans hzz.out)
  replace hb0:=Hd (hb0.out.trans (hb.mono hb0.out.size))
  clear hb hcall hg1
  go_wp2_with (refine Zc rfl 45 (.tmp 2) (.tmp 36) rfl w.heap.size _ #[.int .i64 0,.int .i64 0,.int .i64 0,.int .i64 0,.int .i64 0,.int .i64 0] rfl rfl hzz kX rfl (by simp[Value.oneCell']) ?_;intro wS hU)
  have hg3:=(hU.out.block g oX).trans hg2.out
  refine YD rfl rfl rfl Tryz.underlying45 rfl kX hU.out.here ?_
  exact⟨g,rfl,⟨oX,hg3⟩,hb0.out.trans (hU.out.below nR)⟩
end Go.Proofs.YtpdhceiodgnbmaaGreatDoor
