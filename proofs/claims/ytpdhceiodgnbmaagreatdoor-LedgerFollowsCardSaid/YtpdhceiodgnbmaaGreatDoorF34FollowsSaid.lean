import Derived.Test.YtpdhceiodgnbmaaGreatDoorF0FollowsSaid
import Derived.Test.YtpdhceiodgnbmaaGreatDoorF1FollowsSaid
import Derived.Test.YtpdhceiodgnbmaaGreatDoorF32FollowsSaid
import Derived.Test.YtpdhceiodgnbmaaGreatDoorF33FollowsSaid
import Derived.Test.YtpdhceiodgnbmaaGreatDoorF5FollowsSaid
import Derived.ArgAppend
import Derived.Laws.IdiomStrings
import Derived.Deep.MidRow
import Derived.Deep.Upon
import Derived.Test.YtpdhceiodgnbmaaGreatDoorF31FollowsSaid
set_option linter.unusedVariables false
set_option linter.unusedSimpArgs false
set_option linter.unnecessarySimpa false
set_option maxRecDepth 100000
set_option maxHeartbeats 8000000
namespace Go.Proofs.YtpdhceiodgnbmaaGreatDoor
open Go.RowKit
def Jj(n:Int)(s:ByteArray)(p:P6)(root file:List UInt8)(t:Int):Rc:=⟨1,n,0,s,p,root,file,0,0,0,t⟩
theorem UQ(n:Int)(s:ByteArray)(p:P6)(root file:List UInt8)(t:Int)(h1:root.length=32)(h2:file.length=32)(W:World) :
  (Instr.build 49 #[(0,.int .i64 1),(1,.int .i64 n),(3,.string s),(4,.agg p.list.toArray),(5,.agg (cB root).toArray),(6,.agg (cB file).toArray),(10,.int .i64 t)]).run Tryz.prog W=.ok (.agg (Jj n s p root file t).list.toArray) W:=by
 refine run_build W _ _ _ ?_
 have hz:z32.length=32:=Qa
 have s78:∀ y:Rc,y.root.length=32->y.file.length=32->y.list.toArray.size=78:=λy q1 q2=>by rw[List.size_toArray,Rc.len q1 q2]
 rw[Gh (P:=Tryz.prog) (t:=49) (Z:=Rc.zero.list) (places:=[(0,1),(1,1),(2,1),(3,1),(4,6),(10,32),(42,32),(74,1),(75,1),(76,1),(77,1)]) kX Tryz.underlying49 kX]
 rw[Yb _ _ 0 0 _ _ rfl (by rw[s78 _ hz hz];exact Nat.le_of_ble_eq_true rfl),show (Value.int .i64 1).cells.toList=[.int .i64 1] from rfl,XF _ _ _ (by rw[s78 _ hz hz];decide),Rc.set0]
 rw[Yb _ _ 1 1 _ _ rfl (by rw[s78 _ hz hz];exact Nat.le_of_ble_eq_true rfl),show (Value.int .i64 n).cells.toList=[.int .i64 n] from rfl,XF _ _ _ (by rw[s78 _ hz hz];decide),Rc.set1]
 rw[Yb _ _ 3 3 _ _ rfl (by rw[s78 _ hz hz];exact Nat.le_of_ble_eq_true rfl),show (Value.string s).cells.toList=[.string s] from rfl,XF _ _ _ (by rw[s78 _ hz hz];decide),Rc.set3]
 rw[Yb _ _ 4 4 _ _ rfl (by rw[s78 _ hz hz];exact Nat.le_of_ble_eq_true rfl),show (Value.agg p.list.toArray).cells.toList=p.list from rfl,Rc.patch_p]
 rw[Yb _ _ 5 10 (.agg (cB root).toArray) _ (by show _=some (10,(cB root).toArray.size);rw[List.size_toArray,Zd,h1];rfl) (by rw[s78 _ hz hz];show 10+(cB root).toArray.size<=78;rw[List.size_toArray,Zd,h1];decide),show (Value.agg (cB root).toArray).cells.toList=cB root from rfl,Rc.patch_root hz h1]
 rw[Yb _ _ 6 42 (.agg (cB file).toArray) _ (by show _=some (42,(cB file).toArray.size);rw[List.size_toArray,Zd,h2];rfl) (by rw[s78 _ h1 hz];show 42+(cB file).toArray.size<=78;rw[List.size_toArray,Zd,h2];decide),show (Value.agg (cB file).toArray).cells.toList=cB file from rfl,Rc.patch_file h1 hz h2]
 rw[Yb _ _ 10 77 _ _ rfl (by rw[s78 _ h1 h2];exact Nat.le_of_ble_eq_true rfl),show (Value.int .i64 t).cells.toList=[.int .i64 t] from rfl,XF _ _ _ (by rw[s78 _ h1 h2];decide),Rc.set77 h1 h2,TY]
 rfl
theorem P7{base:Nat}{w:World}{l:Nat}{V:LV}{P:LP}(h:LdM base w l V P)(s:ByteArray)(q:P6)(root file:List UInt8)(t:Int)(h1:root.length=32)(h2:file.length=32)(Q:World->Ending->World->Prop)(hQ:∀ W e w',Q W e w'->e=.returned .nilIface)(hput:∀ W,Below w.heap.size w W->Calls Tryz.prog 81 #[.pointer (some ⟨l,0,none⟩),.agg (Jj (P.m.its.length:Int) s q root file t).list.toArray] W (Q W)) :
  Calls Tryz.prog 36 #[.pointer (some ⟨l,0,none⟩),.string s,.agg q.list.toArray,.agg (cB root).toArray,.agg (cB file).toArray,.int .i64 t] w (λe w'=>e=.returned (.tuple #[.int .i64 (P.m.its.length:Int),.nilIface])/\∃ W,Below w.heap.size w W/\Q W (.returned .nilIface) w'):=by
 have hbd:=Hd (λ(n:Int) W=>UQ n s q root file t h1 h2 W)
 have iP:(Tryz.prog.info? 45).map (·.size)=some q.list.toArray.size:=kX
 have iR:(Tryz.prog.info? 47).map (·.size)=some (cB root).toArray.size:=by rw[List.size_toArray,Zd,h1];kernel_rfl
 have iF:(Tryz.prog.info? 47).map (·.size)=some (cB file).toArray.size:=by rw[List.size_toArray,Zd,h2];kernel_rfl
 generalize q.list.toArray=PA at*
 generalize (cB root).toArray=RA at*
 generalize (cB file).toArray=FA at*
 obtain⟨a4,c4,a5,c5,hsh⟩:=h.st.shape
 simp only[Value.agg.injEq,Array.mk.injEq,List.cons.injEq,and_true] at hsh
 obtain⟨hsI,hsE⟩:=hsh
 obtain⟨b8,b9,b10,hs3,hB⟩:=Zq w PA RA FA 45 47 47 _ rfl
 obtain⟨w1,hw1⟩:∃ w1,w1=((w.alloc (.cells PA 45)).alloc (.cells RA 47)).alloc (.cells FA 47):=⟨_,rfl⟩
 rw[<-hw1] at b8 b9 b10 hs3 hB
 have hl1:=h.below hB
 obtain⟨N,hN⟩:∃ N,N=P.m.its.length:=⟨_,rfl⟩
 have c1:w1.cell? ⟨l,1,none⟩=some (.slice a4 N c4):=by rw[Za hl1.at_,hN,<-hsI];rfl
 rw[<-hN] at hput ⊢
 obtain⟨X,hX⟩:∃ X,X=(Jj (N:Int) s q root file t).list.toArray:=⟨_,rfl⟩
 have hbN:=Hd (λW=>hbd.out (N:Int) W)
 rw[<-hX] at hput hbN
 replace hput:=Hd hput
 replace hX:=Hd hX
 replace hw1:=Hd hw1
 replace b8:=Hd b8
 replace b9:=Hd b9
 replace b10:=Hd b10
 replace hB:=Hd hB
 replace hN:=Hd hN
 clear h hl1 hs3 hsI hsE h1 h2
 go_enter Tryz.func36,Tryz.ntmps36
 go_upto_region 1 with fail
 rw[<-hw1.out]
 go_wp2_with (first
  | ((with_reducible refine wL (.load 45 (.tmp 8)) ?_);refine Ze rfl 45 (.tmp 8) rfl w.heap.size PA _ rfl b8 Tryz.underlying45 rfl iP ?_)
  | ((with_reducible refine wL (.load 47 (.tmp 9)) ?_);refine Ze rfl 47 (.tmp 9) rfl (w.heap.size+1) RA _ rfl b9 Tryz.underlying47 rfl iR ?_)
  | ((with_reducible refine wL (.load 47 (.tmp 10)) ?_);refine Ze rfl 47 (.tmp 10) rfl (w.heap.size+2) FA _ rfl b10 Tryz.underlying47 rfl iF ?_)
  | ((with_reducible refine wL (.build 49 _) ?_);refine ZM rfl 49 [(0,.const (.int .i64 1)),(1,.tmp 23),(3,.tmp 24),(4,.tmp 25),(5,.tmp 26),(6,.tmp 27),(10,.tmp 28)] rfl [(0,.int .i64 1),(1,.int .i64 (N:Int)),(3,.string s),(4,.agg PA),(5,.agg RA),(6,.agg FA),(10,.int .i64 t)] rfl _ (hbN.out _) ?_))
 with_reducible refine(hput.out _ hB.out).mono ?_
 clear hput
 rintro e w2 hq
 obtain rfl:=hQ _ _ _ hq
 replace hq:=Hd hq
 clear hQ c1
 go_wp2_with fail
 go_ret2
 exact⟨rfl,_,hB.out,hq.out⟩
theorem R4{base:Nat}{w:World}{l:Nat}{V:LV}{P:LP}(h:LdM base w l V P)(s:ByteArray)(q:P6)(root file:List UInt8)(t:Int)(h1:root.length=32)(h2:file.length=32)(ea:Nat->Addr)(k:Nat)(hk:k≠0)(hput:∀ W,Below w.heap.size w W->Calls Tryz.prog 81 #[.pointer (some ⟨l,0,none⟩),.agg (Jj (P.m.its.length:Int) s q root file t).list.toArray] W (λe w'=>∃ v,e=.returned v/\ErrIs ea w' v k/\Below W.heap.size W w')) :
  Calls Tryz.prog 36 #[.pointer (some ⟨l,0,none⟩),.string s,.agg q.list.toArray,.agg (cB root).toArray,.agg (cB file).toArray,.int .i64 t] w (λe w'=>∃ v,e=.returned (.tuple #[.int .i64 0,v])/\ErrIs ea w' v k/\Below w.heap.size w w'):=by
 have hbd:=Hd (λ(n:Int) W=>UQ n s q root file t h1 h2 W)
 have iP:(Tryz.prog.info? 45).map (·.size)=some q.list.toArray.size:=kX
 have iR:(Tryz.prog.info? 47).map (·.size)=some (cB root).toArray.size:=by rw[List.size_toArray,Zd,h1];kernel_rfl
 have iF:(Tryz.prog.info? 47).map (·.size)=some (cB file).toArray.size:=by rw[List.size_toArray,Zd,h2];kernel_rfl
 generalize q.list.toArray=PA at*
 generalize (cB root).toArray=RA at*
 generalize (cB file).toArray=FA at*
 obtain⟨a4,c4,a5,c5,hsh⟩:=h.st.shape
 simp only[Value.agg.injEq,Array.mk.injEq,List.cons.injEq,and_true] at hsh
 obtain⟨hsI,hsE⟩:=hsh
 obtain⟨b8,b9,b10,hs3,hB⟩:=Zq w PA RA FA 45 47 47 _ rfl
 obtain⟨w1,hw1⟩:∃ w1,w1=((w.alloc (.cells PA 45)).alloc (.cells RA 47)).alloc (.cells FA 47):=⟨_,rfl⟩
 rw[<-hw1] at b8 b9 b10 hs3 hB
 have hl1:=h.below hB
 obtain⟨N,hN⟩:∃ N,N=P.m.its.length:=⟨_,rfl⟩
 have c1:w1.cell? ⟨l,1,none⟩=some (.slice a4 N c4):=by rw[Za hl1.at_,hN,<-hsI];rfl
 rw[<-hN] at hput
 obtain⟨X,hX⟩:∃ X,X=(Jj (N:Int) s q root file t).list.toArray:=⟨_,rfl⟩
 have hbN:=Hd (λW=>hbd.out (N:Int) W)
 rw[<-hX] at hput hbN
 replace hput:=Hd hput
 replace hX:=Hd hX
 replace hw1:=Hd hw1
 replace b8:=Hd b8
 replace b9:=Hd b9
 replace b10:=Hd b10
 replace hB:=Hd hB
 replace hN:=Hd hN
 clear h hl1 hs3 hsI hsE h1 h2
 go_enter Tryz.func36,Tryz.ntmps36
 go_upto_region 1 with fail
 rw[<-hw1.out]
 go_wp2_with (first
  | ((with_reducible refine wL (.load 45 (.tmp 8)) ?_);refine Ze rfl 45 (.tmp 8) rfl w.heap.size PA _ rfl b8 Tryz.underlying45 rfl iP ?_)
  | ((with_reducible refine wL (.load 47 (.tmp 9)) ?_);refine Ze rfl 47 (.tmp 9) rfl (w.heap.size+1) RA _ rfl b9 Tryz.underlying47 rfl iR ?_)
  | ((with_reducible refine wL (.load 47 (.tmp 10)) ?_);refine Ze rfl 47 (.tmp 10) rfl (w.heap.size+2) FA _ rfl b10 Tryz.underlying47 rfl iF ?_)
  | ((with_reducible refine wL (.build 49 _) ?_);refine ZM rfl 49 [(0,.const (.int .i64 1)),(1,.tmp 23),(3,.tmp 24),(4,.tmp 25),(5,.tmp 26),(6,.tmp 27),(10,.tmp 28)] rfl [(0,.int .i64 1),(1,.int .i64 (N:Int)),(3,.string s),(4,.agg PA),(5,.agg RA),(6,.agg FA),(10,.int .i64 t)] rfl _ (hbN.out _) ?_))
 with_reducible refine(hput.out _ hB.out).mono ?_
 clear hput
 rintro e w2 ⟨v,rfl,hv,hb2⟩
 have hnq:=hv.neq
 have hgd:=hv.guard
 rw[show (k != 0)=true from by simpa using hk] at hnq
 have hB2:=Hd (hB.out.trans (hb2.mono hB.out.size))
 replace hv:=Hd hv
 clear hb2 hk c1
 go_wp2_with fail
 go_ret2
 exact⟨_,rfl,hv.out,hB2.out⟩
def MarkB(base:Nat)(w:World)(v:Value)(bs:List UInt8):Prop:=
 ∃ g cap,v=.slice (some ⟨g,0,none⟩) bs.length cap/\base<=g/\g<w.heap.size/\bs.length<=cap/\cap<=maxLen/\(∀ i,i<bs.length->w.cell? ⟨g,i,none⟩=some (.int .u8 ((cf bs i).toNat:Int)))/\
  ∀ j,bs.length<=j->j<cap->(w.cell? ⟨g,j,none⟩).isSome=true/\w.frozen? ⟨g,j,none⟩=false
theorem MarkB.arg{base:Nat}{w:World}{v:Value}{bs:List UInt8}(h:MarkB base w v bs):∃ a c,v=.slice a bs.length c/\ArgB w a c bs:=by
 obtain⟨g,cap,rfl,h1,h2,h3,h4,h5,h6⟩:=h
 refine⟨_,cap,rfl,h3,h4,(λe=>by cases e),λi hi=>⟨g,0,rfl,?_⟩⟩
 rw[Nat.zero_add]
 exact h5 i hi
section
variable {w:World} {ops:Array Oper} {rest:List Oper} {o:Oper} {a:Act} {Q:Exit->Act->World->Prop}
end
section
variable {P:Program} {ops:Array Oper} {rest:List Oper} {op:Oper} {a:Act} {w:World} {Q:Exit->Act->World->Prop}
theorem Zt(hw:Region.wanted op (yielded ops a.tmps)=true)(ty:TypeId)(x:Operand)(ho:op.op=.load ty x)
  (b o:Nat) (hx:a.eval x=.pointer (some ⟨b,o,none⟩)) (cs:List Value) (d:TypeDesc) (hc:w.rangeAt b o cs)
  (hu:P.underlying ty=some d) (hd:d.isRow=true) (hi:(P.info? ty).map (·.size)=some cs.length) (C:Array Value) (hC:Hid (C=cs.toArray))
  (h:wpList P ops Q rest (a.put op.dst (.agg C)) w):wpList P ops Q (op::rest) a w:=by
 refine wpList_step λK hK=>?_
 rw[if_pos hw]
 rw[hC.out] at h
 exact wp_load_mid ty x ho b o hx cs d hc hu hd hi (hK _ _ h)
theorem Q1(hgd:op.guard=none)(ty:TypeId)(x:Operand)(ho:op.op=.load ty x)
  (b o:Nat) (hx:a.eval x=.pointer (some ⟨b,o,none⟩)) (cs:List Value) (d:TypeDesc) (hc:w.rangeAt b o cs)
  (hu:P.underlying ty=some d) (hd:d.isRow=true) (hi:(P.info? ty).map (·.size)=some cs.length) (C:Array Value) (hC:Hid (C=cs.toArray))
  (h:wpList P ops Q rest (a.put op.dst (.agg C)) w):wpList P ops Q (op::rest) a w:=by
 rw[hC.out] at h
 exact wpList_load_mid hgd ty x ho b o hx cs d hc hu hd hi h
end
theorem KP{K:Act->World->Prop}{Q:Exit->Act->World->Prop}{o:Oper}{a:Act}{w:World}(x:Operand)(ho:o.op=.convert 9 24 x)(s:ByteArray)(hx:a.eval x=.string s)(hs:s.size<=1000000)
  (h:∀ v' w',Hid (MarkB w.heap.size w' v' s.data.toList)->Hid (Below w.heap.size w w')->K (a.put o.dst v') w'):o.wp Tryz.prog a w K Q:=by
 have hrun:=run_bytes_of_string (P:=Tryz.prog) w 9 24 5 s Tryz.underlying9 Tryz.underlying24 Tryz.underlying5
 have hge:=grownCap_ge w s.size 0 5
 have hcm:=grownCap_le_maxLen w s.size 0 5 (by unfold maxLen;omega)
 have hlen:s.data.toList.length=s.size:=sX
 generalize grownCap w s.size 0 5=cap at*
 have hsz:(bytesRow s cap).size=cap:=by simp[bytesRow];omega
 have hnew:(w.drew.alloc (.cells (bytesRow s cap) 5 ((bytesRow s cap).size,(bytesRow s cap).size+1))).heap[w.heap.size]? = some (.cells (bytesRow s cap) 5 ((bytesRow s cap).size,(bytesRow s cap).size+1)):=heap_alloc_new w.drew _
 unfold Oper.wp
 simp[execOp,ho,hx,hrun,Result.andThen,-World.alloc_eq,-World.drew_eq]
 refine h _ _ (Hd ⟨w.heap.size,cap,by rw[hlen],Nat.le_refl _,Zb hnew,oX,hcm,λi hi=>?_,λj hj1 hj2=>⟨?_,?_⟩⟩) (Hd ((Below.refl w.heap.size w).drew.alloc nR _))
 ·simp only[World.cell?,hnew]
  rw[hlen] at hi
  rw[bytesRow,Array.getElem?_append_left (by simpa using hi)]
  simp[cf,hi]
 ·simp only[World.cell?,hnew]
  simp[hsz];omega
 ·have hfz:∀ W:World,W.heap[w.heap.size]? = some (.cells (bytesRow s cap) 5 ((bytesRow s cap).size,(bytesRow s cap).size+1))->W.frozen? ⟨w.heap.size,j,none⟩=false:=λW hW=>by
   simp only[World.frozen?,hW,hsz,Bool.and_eq_false_iff,decide_eq_false_iff_not]
   left;omega
  exact hfz _ hnew
theorem Ro{s:ByteArray}(h:Yp s.data.toList=true):s.size<=12:=by
 have hl:s.data.toList.length=s.size:=sX
 unfold Yp at h
 simp at h
 omega
theorem UP{W:World}{b o:Nat}{bs:List UInt8}(h:W.rangeAt b o (cB bs))(hl:bs.length=32):ArgB W (some ⟨b,o,none⟩) 32 bs:=by
 refine⟨oX,(by unfold maxLen;omega),(λe=>by cases e),λi hi=>⟨_,_,rfl,?_⟩⟩
 refine h i _ ?_
 simp[cB,hi]
theorem HG(x:Rc)(hx:x.Ok)(T:TypeId){W:World}{b:Nat}(h:W.heap[b]? = some (.cells x.list.toArray T (0,0))):ArgB W (some ⟨b,10,none⟩) 32 x.root:=UP (ZN h (Rc.sub_root hx.root)) hx.root
theorem HV(x:Rc)(hx:x.Ok)(T:TypeId){W:World}{b:Nat}(h:W.heap[b]? = some (.cells x.list.toArray T (0,0))):ArgB W (some ⟨b,42,none⟩) 32 x.file:=UP (ZN h (Rc.sub_file hx.root hx.file)) hx.file
theorem Ry{w:World}{B:Nat}{p0 p1 p2 p3 p4 p5 p6:List UInt8}{a0 a1 a2 a3 a4 a5 a6:Option Addr}{c0 c1 c2 c3 c4 c5 c6 l0 l1 l2 l3 l4 l5 l6:Nat}(hB:w.heap[B]? = some (.cells #[.slice a0 l0 c0,.slice a1 l1 c1,.slice a2 l2 c2,.slice a3 l3 c3,.slice a4 l4 c4,.slice a5 l5 c5,.slice a6 l6 c6] 24 (0,0)))
  (e0:p0.length=l0) (e1:p1.length=l1) (e2:p2.length=l2) (e3:p3.length=l3) (e4:p4.length=l4) (e5:p5.length=l5) (e6:p6.length=l6) (h0:ArgB w a0 c0 p0) (h1:ArgB w a1 c1 p1) (h2:ArgB w a2 c2 p2) (h3:ArgB w a3 c3 p3) (h4:ArgB w a4 c4 p4) (h5:ArgB w a5 c5 p5) (h6:ArgB w a6 c6 p6):RowsAt w B [p0,p1,p2,p3,p4,p5,p6]:=by
 intro k hk
 match k,hk with
 | 0,_=>exact⟨a0,c0,by rw[Za hB];show some (Value.slice a0 l0 c0)=_;rw[<-e0];rfl,h0⟩
 | 1,_=>exact⟨a1,c1,by rw[Za hB];show some (Value.slice a1 l1 c1)=_;rw[<-e1];rfl,h1⟩
 | 2,_=>exact⟨a2,c2,by rw[Za hB];show some (Value.slice a2 l2 c2)=_;rw[<-e2];rfl,h2⟩
 | 3,_=>exact⟨a3,c3,by rw[Za hB];show some (Value.slice a3 l3 c3)=_;rw[<-e3];rfl,h3⟩
 | 4,_=>exact⟨a4,c4,by rw[Za hB];show some (Value.slice a4 l4 c4)=_;rw[<-e4];rfl,h4⟩
 | 5,_=>exact⟨a5,c5,by rw[Za hB];show some (Value.slice a5 l5 c5)=_;rw[<-e5];rfl,h5⟩
 | 6,_=>exact⟨a6,c6,by rw[Za hB];show some (Value.slice a6 l6 c6)=_;rw[<-e6];rfl,h6⟩
end Go.Proofs.YtpdhceiodgnbmaaGreatDoor
