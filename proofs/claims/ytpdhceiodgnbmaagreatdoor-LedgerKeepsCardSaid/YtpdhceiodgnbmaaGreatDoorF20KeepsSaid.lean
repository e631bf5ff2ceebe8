import Derived.Test.YtpdhceiodgnbmaaGreatDoorShelf
import Derived.Test.YtpdhceiodgnbmaaGreatDoorF14KeepsSaid
set_option linter.all false
set_option maxRecDepth 100000
set_option maxHeartbeats 8000000
namespace Go.Proofs.YtpdhceiodgnbmaaGreatDoor
open Go.RowKit
def low(c:UInt8):Bool:=decide (97<=c.toNat/\c.toNat<=122)
def Vq(bs:List UInt8):Bool:=decide (1<=bs.length/\bs.length<=12)&&bs.all low
def dO:List UInt8:=[97,98,99,100,101,102,103,104,105,106,107,108,109,110,111,112,113,114,115,116,117,118,119,120,121,122]
theorem EP(c:UInt8):dO.contains c=low c:=by
 have:∀ n,n<256->dO.contains (UInt8.ofNat n)=low (UInt8.ofNat n):=by decide +kernel
 have h:=this c.toNat c.toNat_lt;rwa [UInt8.ofNat_toNat] at h
theorem UO{α:Type}(p:α->Bool):∀ l:List α,l.dropWhile p=[]↔l.all p=true
 | []=>by simp
 | x::l=>by
  rw[List.dropWhile_cons,List.all_cons];cases hp:p x
  ·simp
  ·simpa using UO p l
theorem UQ{α:Type}(p:α->Bool):∀ l:List α,(l.dropWhile p).all p=l.all p
 | []=>rfl
 | x::l=>by
  rw[List.dropWhile_cons,List.all_cons];cases hp:p x
  ·simp[hp]
  ·simpa using UQ p l
theorem Ct(l:List UInt8):Lib.trimS l dO=[]↔l.all low=true:=by
 unfold Lib.trimS Lib.trimLeftS Lib.trimRightS;rw[UO];have hf:(λx=>dO.contains x)=low:=funext EP;rw[hf,List.all_reverse,UQ,List.all_reverse]
theorem BA(s:ByteArray)(w:World)(hs:s.size<=9223372036854775807) :
  Calls Tryz.prog 122 #[.string s,.string ⟨#[97,98,99,100,101,102,103,104,105,106,107,108,109,110,111,112,113,114,115,116,117,118,119,120,121,122]⟩] w λe w'=>e=.returned (.string ⟨(Lib.trimS s.data.toList dO).toArray⟩)/\Below w.heap.size w w':=
 Any.strings_Trim_laid Tryz.lays160 kX s ⟨#[97,98,99,100,101,102,103,104,105,106,107,108,109,110,111,112,113,114,115,116,117,118,119,120,121,122]⟩ w hs dX (ascii_of_all dX)
theorem L1(s:ByteArray)(w:World)(hs:s.size<=9223372036854775807) :
  Calls Tryz.prog 87 #[.string s] w λe w'=>e=.returned (.bool (Vq s.data.toList))/\Below w.heap.size w w':=by
 have hlen:s.data.toList.length=s.size:=sX;by_cases h1:1<=s.size/\s.size<=12
 ·have ht:=Hd (BA s w hs);have hv:Vq s.data.toList=s.data.toList.all low:=by unfold Vq;rw[hlen,decide_eq_true h1,Bool.true_and]
  have h1i:(1:Int)<=s.size:=aB;have h2i:(s.size:Int)<=12:=aB;have htn:=Ct s.data.toList;rw[hv];replace hlen:=Hd hlen;replace hv:=Hd hv;cases hal:s.data.toList.all low
  ·have hne:Lib.trimS s.data.toList dO≠[]:=λe=>by rw[htn.1 e] at hal;cases hal
   have hb2:(Lib.trimS s.data.toList dO).isEmpty=false:=by rw[List.isEmpty_eq_false_iff];exact hne
   clear htn;replace hal:=Hd hal;generalize Lib.trimS s.data.toList dO=T at*;go_enter Tryz.func87,Tryz.ntmps87;go_wp2_with fail;with_reducible refine ht.out.mono ?_
   rintro e w1 ⟨rfl,hb1⟩;replace hb1:=Hd hb1;go_wp2_with fail;go_ret;exact⟨rfl,hb1.out⟩
  ·have hne:Lib.trimS s.data.toList dO=[]:=htn.2 hal;rw[hne] at ht;clear htn hne;replace hal:=Hd hal;go_enter Tryz.func87,Tryz.ntmps87;go_wp2_with fail;with_reducible refine ht.out.mono ?_
   rintro e w1 ⟨rfl,hb1⟩;replace hb1:=Hd hb1;go_wp2_with fail;go_ret;exact⟨rfl,hb1.out⟩
 ·have hv:Vq s.data.toList=false:=by unfold Vq;rw[hlen,decide_eq_false h1,Bool.false_and]
  rw[hv];by_cases h0:s.size=0
  ·have hd:decide (1<=(s.size:Int))=false:=bf;clear h1 hlen;replace hv:=Hd hv;replace h0:=Hd h0;go_enter Tryz.func87,Tryz.ntmps87;go_wp2_with fail;go_ret;exact⟨rfl,Below.refl _ _⟩
  ·have h1i:(1:Int)<=s.size:=aB;have h2i:¬(s.size:Int)<=12:=aB;clear h1 hlen h0;replace hv:=Hd hv;go_enter Tryz.func87,Tryz.ntmps87;go_wp2_with fail;go_ret;exact⟨rfl,Below.refl _ _⟩
def aT(ea:Nat->Addr)(w:World)(v:Value)(n:Nat):Prop:=
 (n=0/\v=.nilIface)\/(∃ i,i<20/\n=i+1/\v=.iface 298 (.pointer (some (ea i))))\/
 ∃ i g F V,i<20/\n=i+1/\v=.iface 227 (.pointer (some ⟨g,0,none⟩))/\w.heap[g]? = some (.cells #[.string F,.int .i64 V,.iface 298 (.pointer (some (ea i)))] 229 (0,0))
theorem aT.below{ea:Nat->Addr}{w w':World}{v:Value}{n:Nat}(h:aT ea w v n)(hb:Below w.heap.size w w'):aT ea w' v n:=by
 rcases h with h|h|⟨i,g,F,V,h1,h2,h3,h4⟩
 ·exact .inl h
 ·exact .inr (.inl h)
 ·exact .inr (.inr ⟨i,g,F,V,h1,h2,h3,(hb.block _ (Zb h4)).trans h4⟩)
theorem HN{ea:Nat->Addr}{w:World}{v:Value}{n:Nat}(h:aT ea w v n)(H:aQ 298 aK w ea):Calls Tryz.prog 10 #[v] w λe w'=>e=.returned (.int .i64 (n:Int))/\Below w.heap.size w w':=by
 rcases h with ⟨rfl,rfl⟩|⟨i,h1,rfl,rfl⟩|⟨i,g,F,V,h1,rfl,rfl,h4⟩
 ·refine(NW w).mono ?_;rintro e w' ⟨rfl,rfl⟩;exact⟨rfl,Below.refl _ _⟩
 ·exact EC i h1 ea w H
 ·exact BD g F V i h1 ea w H h4
theorem aT.lt{ea:Nat->Addr}{w:World}{v:Value}{n:Nat}(h:aT ea w v n):n<=20:=by
 rcases h with ⟨rfl,rfl⟩|⟨i,h1,rfl,rfl⟩|⟨i,g,F,V,h1,rfl,rfl,h4⟩<;>omega
theorem aT.neq{ea:Nat->Addr}{w:World}{v:Value}{n:Nat}(h:aT ea w v n)(W:World):(binOp .neq 30 v .nilIface).run Tryz.prog W=.ok (.bool (n != 0)) W:=by
 rcases h with ⟨rfl,rfl⟩|⟨i,h1,rfl,rfl⟩|⟨i,g,F,V,h1,rfl,rfl,h4⟩
 ·show _=_;kernel_rfl
 ·show _=_;kernel_rfl
 ·show _=_;kernel_rfl
theorem aT.guard{ea:Nat->Addr}{w:World}{v:Value}{n:Nat}(h:aT ea w v n)(W:World)(i:Nat):Sem.run Tryz.prog (eqGuard .neq 30 (.tmp i) (.const .nilIface) v .nilIface) W=.ok () W:=by
 rcases h with ⟨rfl,rfl⟩|⟨i,h1,rfl,rfl⟩|⟨i,g,F,V,h1,rfl,rfl,h4⟩
 ·show _=_;kernel_rfl
 ·show _=_;kernel_rfl
 ·show _=_;kernel_rfl
def Rc.chk(x:Rc):Nat:=
 if x.kind<1\/4<x.kind then 7 else if x.nums=false then 1
 else if x.kind=1 then (if Vq x.name.data.toList=false then 6 else match Qu x.p.s x.p.n x.p.k x.p.d x.p.t x.p.r with
  | some (_,_,i)=>i+1
  | none=>if x.bare=Rc.zero then 0 else 4)
 else if x.bare=Rc.zero then 0 else 4
def Pb(ea:Nat->Addr)(x:Rc)(w:World)(e:Ending)(w':World):Prop:=∃ v,e=.returned v/\aT ea w' v x.chk/\Below w.heap.size w w'
theorem Tg(p:P6)(hp:p.Ok)(ea:Nat->Addr)(w:World)(H:aQ 298 aK w ea) :
  Calls Tryz.prog 88 #[.agg p.list.toArray] w λe w'=>∃ v,e=.returned v/\aT ea w' v (match Qu p.s p.n p.k p.d p.t p.r with|some (_,_,i)=>i+1|none=>0)/\Below w.heap.size w w':=by
 cases hb:Qu p.s p.n p.k p.d p.t p.r with
 | none=>
  refine(Hf p.s p.n p.k p.d p.t p.r (UI hb) (pz ea) w (UV H)).mono ?_;rintro e w' ⟨rfl,h⟩;exact⟨_,rfl,.inl ⟨rfl,rfl⟩,h⟩
 | some q=>
  obtain⟨F,V,i⟩:=q;refine(Gg p.s p.n p.k p.d p.t p.r F V i hb hp.2.1 ea w H).mono ?_;rintro e w' ⟨g,rfl,_,h2,h3⟩;exact⟨_,rfl,.inr (.inr ⟨i,g,F,V,U7 hb,rfl,rfl,h2⟩),h3⟩
theorem Eg{ea:Nat->Addr}{w:World}(H:aQ 298 aK w ea):∀ W,Below w.heap.size w W->
  W.cell? ⟨6,0,none⟩=some (.iface 298 (.pointer (some (ea 6))))/\W.cell? ⟨0,0,none⟩=some (.iface 298 (.pointer (some (ea 0))))/\
  W.cell? ⟨5,0,none⟩=some (.iface 298 (.pointer (some (ea 5))))/\W.cell? ⟨3,0,none⟩=some (.iface 298 (.pointer (some (ea 3)))):=λW hW=>by
 obtain⟨g0,g1,g2,g3,g4,g5,g6,_⟩:=Qt (H.below hW);exact⟨g6,g0,g5,g3⟩
theorem Ua(x:Rc)(hx:x.Ok)(ea:Nat->Addr)(w:World)(H:aQ 298 aK w ea):Calls Tryz.prog 39 #[.agg x.list.toArray] w (Pb ea x w):=by
 have hs:=Rc.size hx;have r0:=Rc.at0 x;have r3:=Rc.at3 x;have yg:(x.list.drop 4).take 6=x.p.list:=Rc.sub_p x;have j5:=Hd (λW=>TQ x hx W);have hbare:=Hd (λW=>BB x hx W);have hlab:=Hd (λW=>L1 x.name W (Nat.le_trans hx.name dX));have jA:=Hd (λW (h:aQ 298 aK W ea)=>Tg x.p hx.p ea W h);have hneq:=λW=>(NS x.bare Rc.zero (Rc.bare_ok hx) Rc.zero_ok W).1;rw[<-Rc.zeroG] at hneq;have hsz:(Tryz.prog.info? 49).map (·.size)=some x.list.toArray.size:=by rw[hs];kernel_rfl
 have hszp:(Tryz.prog.info? 45).map (·.size)=some x.p.list.length:=by rw[P6.len];kernel_rfl
 have hE:=Hd (Eg H);have hpost:∀ v n W,aT ea W v n->Below w.heap.size w W->x.chk=n->Pb ea x w (.returned v) W:=λv n W h1 h2 h3=>⟨v,rfl,by rw[h3];exact h1,h2⟩;have om:=Hd (rfl:x.chk=x.chk);have sK:x.chk=(if x.kind<1\/4<x.kind then 7 else if x.nums=false then 1
  else if x.kind=1 then (if Vq x.name.data.toList=false then 6 else match Qu x.p.s x.p.n x.p.k x.p.d x.p.t x.p.r with
  | some (_,_,i)=>i+1
  | none=>if x.bare=Rc.zero then 0 else 4)
 else if x.bare=Rc.zero then 0 else 4):=rfl
 have hr4:∀ W:World,W.heap[w.heap.size]? = some (.cells x.list.toArray 49 (0,0))->W.rangeAt w.heap.size 4 x.p.list:=λW hW j v hv=>by
  rw[Za hW];rw[<-yg,List.getElem?_take] at hv;split at hv
  ·rw[List.getElem?_drop] at hv;simpa using hv
  ·cases hv
 have hc0:∀ W:World,W.heap[w.heap.size]? = some (.cells x.list.toArray 49 (0,0))->W.cell? ⟨w.heap.size,0,none⟩=some (.int .i64 x.kind)/\W.cell? ⟨w.heap.size,3,none⟩=some (.string x.name):=λW hW=>⟨by rw[Za hW];simp[Rc.list],by rw[Za hW];simp[Rc.list]⟩;generalize hR:x.list.toArray=R at*;have hrow:=Hd (heap_alloc_new w (.cells R 49));have hb:=Hd (show Below w.heap.size w (w.alloc (.cells R 49)) from bR.alloc nZ _);have hzc:=Tryz.underlying49;have hup:=Tryz.underlying45;generalize x.bare=xb at*;generalize x.nums=nb at*;generalize hlb:Vq x.name.data.toList=lb at*;replace hR:=Hd hR;replace sK:=Hd sK;replace hpost:=Hd hpost;replace hr4:=Hd hr4;replace hc0:=Hd hc0;replace hlb:=Hd hlb;replace H:=Hd H;have jZ:=hrow;have hb0:=hb;obtain⟨z0,z3⟩:=hc0.out _ hrow.out;obtain⟨e1,e2,e3,e4⟩:=hE.out _ hb.out;clear hx yg om;by_cases hin:x.kind<1\/4<x.kind
 ·have hi:dz x.kind 1 4=false:=by unfold dz;simp;omega
  replace hin:=Hd hin;go_enter Tryz.func39,Tryz.ntmps39;go_wp2_with fail;with_reducible refine(Z8 x.kind 1 4 _).mono ?_
  rintro e w1 ⟨rfl,rfl⟩;go_wp2_with fail;go_ret;exact hpost.out _ 7 _ (.inr (.inl ⟨6,dX,rfl,rfl⟩)) hb.out (by rw[sK.out,if_pos hin.out])
 ·have hi:dz x.kind 1 4=true:=by unfold dz;simp;omega
  replace hin:=Hd hin;cases nb
  ·go_enter Tryz.func39,Tryz.ntmps39;go_wp2_with fail;with_reducible refine(Z8 x.kind 1 4 _).mono ?_
   rintro e w1 ⟨rfl,rfl⟩;go_wp2_with (with_reducible refine Ze rfl 49 (.tmp 1) rfl w.heap.size R _ rfl hrow hzc rfl hsz ?_);with_reducible refine(j5.out _).mono ?_
   rintro e w2 ⟨rfl,hnew⟩;clear z0 z3 e1 e2 e3 e4;have hrow2:=Hd ((hnew.block _ (Zb jZ.out)).trans jZ.out);have hb2:=Hd (hb0.out.trans (hnew.mono hb0.out.size));obtain⟨z0,z3⟩:=hc0.out _ hrow2.out;obtain⟨e1,e2,e3,e4⟩:=hE.out _ hb2.out;clear hnew;go_wp2_with fail;go_ret;exact hpost.out _ 1 _ (.inr (.inl ⟨0,dX,rfl,rfl⟩)) hb2.out (by rw[sK.out,if_neg hin.out];simp)
  ·by_cases hk1:x.kind=1
   ·have hkb:(x.kind==1)=true:=by simpa using hk1
    replace hk1:=Hd hk1;cases lb
    ·go_enter Tryz.func39,Tryz.ntmps39;go_wp2_with fail;with_reducible refine(Z8 x.kind 1 4 _).mono ?_
     rintro e w1 ⟨rfl,rfl⟩;go_wp2_with (with_reducible refine Ze rfl 49 (.tmp 1) rfl w.heap.size R _ rfl hrow hzc rfl hsz ?_);with_reducible refine(j5.out _).mono ?_
     rintro e w2 ⟨rfl,hnew⟩;clear z0 z3 e1 e2 e3 e4;have hrow2:=Hd ((hnew.block _ (Zb jZ.out)).trans jZ.out);have hb2:=Hd (hb0.out.trans (hnew.mono hb0.out.size));obtain⟨z0,z3⟩:=hc0.out _ hrow2.out;obtain⟨e1,e2,e3,e4⟩:=hE.out _ hb2.out;clear hnew;go_wp2_with fail;with_reducible refine(hlab.out _).mono ?_
     rintro e w3 ⟨rfl,hnew⟩;clear z0 z3 e1 e2 e3 e4;have hrow3:=Hd ((hnew.block _ (Zb hrow2.out)).trans hrow2.out);have hb3:=Hd (hb2.out.trans (hnew.mono hb2.out.size));obtain⟨z0,z3⟩:=hc0.out _ hrow3.out;obtain⟨e1,e2,e3,e4⟩:=hE.out _ hb3.out;clear hnew;go_wp2_with fail;go_ret;exact hpost.out _ 6 _ (.inr (.inl ⟨5,dX,rfl,rfl⟩)) hb3.out (by rw[sK.out,if_neg hin.out];simp[hk1.out])
    ·go_enter Tryz.func39,Tryz.ntmps39;go_wp2_with fail;with_reducible refine(Z8 x.kind 1 4 _).mono ?_
     rintro e w1 ⟨rfl,rfl⟩;go_wp2_with (with_reducible refine Ze rfl 49 (.tmp 1) rfl w.heap.size R _ rfl hrow hzc rfl hsz ?_);with_reducible refine(j5.out _).mono ?_
     rintro e w2 ⟨rfl,hnew⟩;clear z0 z3 e1 e2 e3 e4;have hrow2:=Hd ((hnew.block _ (Zb jZ.out)).trans jZ.out);have hb2:=Hd (hb0.out.trans (hnew.mono hb0.out.size));obtain⟨z0,z3⟩:=hc0.out _ hrow2.out;obtain⟨e1,e2,e3,e4⟩:=hE.out _ hb2.out;clear hnew;go_wp2_with fail;with_reducible refine(hlab.out _).mono ?_
     rintro e w3 ⟨rfl,hnew⟩;clear z0 z3 e1 e2 e3 e4;have hrow3:=Hd ((hnew.block _ (Zb hrow2.out)).trans hrow2.out);have hb3:=Hd (hb2.out.trans (hnew.mono hb2.out.size));obtain⟨z0,z3⟩:=hc0.out _ hrow3.out;obtain⟨e1,e2,e3,e4⟩:=hE.out _ hb3.out;clear hnew;have hr4':=hr4.out _ hrow3.out;go_wp2_with ((with_reducible refine wL (.load 45 (.tmp 29)) ?_);refine wpList_load_mid rfl 45 (.tmp 29) rfl w.heap.size 4 rfl x.p.list _ hr4' hup rfl hszp ?_);with_reducible refine(jA.out _ (H.out.below hb3.out)).mono ?_
     rintro e w4 ⟨v4,rfl,hv4,hnew⟩;clear z0 z3 e1 e2 e3 e4 hr4';have hrow4:=Hd ((hnew.block _ (Zb hrow3.out)).trans hrow3.out);have hb4:=Hd (hb3.out.trans (hnew.mono hb3.out.size));obtain⟨z0,z3⟩:=hc0.out _ hrow4.out;obtain⟨e1,e2,e3,e4⟩:=hE.out _ hb4.out;clear hnew;have hnq:=hv4.neq;have hng:=hv4.guard;cases hbd:Qu x.p.s x.p.n x.p.k x.p.d x.p.t x.p.r with
     | some q=>
      obtain⟨F,V,i⟩:=q;rw[hbd] at hv4 hnq;simp only at hv4 hnq;have hi0:((i+1:Nat) != 0)=true:=sX;rw[hi0] at hnq;replace hv4:=Hd hv4;replace hbd:=Hd hbd;go_wp2_with fail;go_ret;exact hpost.out _ (i+1) _ hv4.out hb4.out (by rw[sK.out,if_neg hin.out];simp[hk1.out,hbd.out])
     | none=>
      rw[hbd] at hv4 hnq;simp only[bne_self_eq_false] at hv4 hnq;replace hv4:=Hd hv4;replace hbd:=Hd hbd;go_wp2_with (with_reducible refine Ze rfl 49 (.tmp 1) rfl w.heap.size R _ rfl hrow4 hzc rfl hsz ?_);with_reducible refine(hbare.out _).mono ?_
      rintro e w9 ⟨rfl,hnew⟩;have ik:=Hd ((hnew.block _ (Zb hrow4.out)).trans hrow4.out);have jf:=Hd (hb4.out.trans (hnew.mono hb4.out.size));obtain⟨z0,z3⟩:=hc0.out _ ik.out;obtain⟨e1,e2,e3,e4⟩:=hE.out _ jf.out;clear hnew;have hq:=hneq w9;by_cases hz:xb=Rc.zero
      ·have hd:(decide (xb=Rc.zero))=true:=by simpa using hz
       rw[hd] at hq;replace hz:=Hd hz;go_wp2_with fail;go_ret;exact hpost.out _ 0 _ (.inl ⟨rfl,rfl⟩) jf.out (by rw[sK.out,if_neg hin.out];simp[hk1.out,hbd.out,hz.out])
      ·have hd:(decide (xb=Rc.zero))=false:=by simpa using hz
       rw[hd] at hq;replace hz:=Hd hz;go_wp2_with fail;go_ret;exact hpost.out _ 4 _ (.inr (.inl ⟨3,dX,rfl,rfl⟩)) jf.out (by rw[sK.out,if_neg hin.out];simp[hk1.out,hbd.out,hz.out])
   ·have hkb:(x.kind==1)=false:=by simpa using hk1
    replace hk1:=Hd hk1;go_enter Tryz.func39,Tryz.ntmps39;go_wp2_with fail;with_reducible refine(Z8 x.kind 1 4 _).mono ?_
    rintro e w1 ⟨rfl,rfl⟩;go_wp2_with (with_reducible refine Ze rfl 49 (.tmp 1) rfl w.heap.size R _ rfl hrow hzc rfl hsz ?_);with_reducible refine(j5.out _).mono ?_
    rintro e w2 ⟨rfl,hnew⟩;clear z0 z3 e1 e2 e3 e4;have hrow2:=Hd ((hnew.block _ (Zb jZ.out)).trans jZ.out);have hb2:=Hd (hb0.out.trans (hnew.mono hb0.out.size));obtain⟨z0,z3⟩:=hc0.out _ hrow2.out;obtain⟨e1,e2,e3,e4⟩:=hE.out _ hb2.out;clear hnew;go_wp2_with (with_reducible refine Ze rfl 49 (.tmp 1) rfl w.heap.size R _ rfl hrow2 hzc rfl hsz ?_);with_reducible refine(hbare.out _).mono ?_
    rintro e w9 ⟨rfl,hnew⟩;have ik:=Hd ((hnew.block _ (Zb hrow2.out)).trans hrow2.out);have jf:=Hd (hb2.out.trans (hnew.mono hb2.out.size));obtain⟨z0,z3⟩:=hc0.out _ ik.out;obtain⟨e1,e2,e3,e4⟩:=hE.out _ jf.out;clear hnew;have hq:=hneq w9;by_cases hz:xb=Rc.zero
    ·have hd:(decide (xb=Rc.zero))=true:=by simpa using hz
     rw[hd] at hq;replace hz:=Hd hz;go_wp2_with fail;go_ret;exact hpost.out _ 0 _ (.inl ⟨rfl,rfl⟩) jf.out (by rw[sK.out,if_neg hin.out];simp[hk1.out,hz.out])
    ·have hd:(decide (xb=Rc.zero))=false:=by simpa using hz
     rw[hd] at hq;replace hz:=Hd hz;go_wp2_with fail;go_ret;exact hpost.out _ 4 _ (.inr (.inl ⟨3,dX,rfl,rfl⟩)) jf.out (by rw[sK.out,if_neg hin.out];simp[hk1.out,hz.out])
theorem It.default_ok:(default:It).Ok:=⟨dX,dX,⟨dX,dX,dX,dX,dX,dX⟩,rfl,rfl,dX,dX,dX⟩
theorem My{ns:List It}(h:∀ x∈ns,x.Ok)(s:ByteArray):(Qz ns s).1.Ok:=by
 unfold Qz;cases hf:ns.findIdx? (λx=>decide (x.s=s)) with
 | none=>exact It.default_ok
 | some i=>
  have hi:i<ns.length:=(List.findIdx?_eq_some_iff_getElem.1 hf).1;simp only[List.getD_eq_getElem?_getD,List.getElem?_eq_getElem hi,Option.getD_some];exact h _ (List.getElem_mem hi)
theorem Rc.kept0(x:Rc)(hx:x.Ok)(T:TypeId)(W:World)(b:Nat)(h:W.heap[b]? = some (.cells x.list.toArray T (0,0))) :
  W.cell? ⟨b,0,none⟩=some (.int .i64 x.kind)/\W.cell? ⟨b,1,none⟩=some (.int .i64 x.obj)/\W.cell? ⟨b,2,none⟩=some (.int .i64 x.id)/\W.cell? ⟨b,3,none⟩=some (.string x.name)/\
  W.cell? ⟨b,74,none⟩=some (.int .i64 x.way)/\W.cell? ⟨b,75,none⟩=some (.int .i64 x.index)/\W.cell? ⟨b,76,none⟩=some (.int .i64 x.verdict)/\W.cell? ⟨b,77,none⟩=some (.int .i64 x.tick):=by
 refine⟨?_,?_,?_,?_,?_,?_,?_,?_⟩;all_goals rw[Za h,List.getElem?_toArray]
 ·exact x.c0
 ·exact x.c1
 ·exact x.c2
 ·exact x.c3
 ·exact Rc.c74 hx.root hx.file
 ·exact Rc.c75 hx.root hx.file
 ·exact Rc.c76 hx.root hx.file
 ·exact Rc.c77 hx.root hx.file
theorem YW(w:World):bJ w (.agg #[.slice none 0 0,.slice none 0 0]) ⟨[],[]⟩:=
 ⟨⟨none,0,none,0,rfl,λi h=>absurd h (Nat.not_lt_zero _),Nat.le_refl _,Nat.zero_le _,λi h=>absurd h (Nat.not_lt_zero _),Nat.le_refl _,Nat.zero_le _⟩,λx hx=>(List.not_mem_nil hx).elim,λx hx=>(List.not_mem_nil hx).elim⟩
def dV(B:Nat)(v:Value):Prop:=∀ a n c a' n' c',v=.agg #[.slice a n c,.slice a' n' c']->(∀ b o s,a=some ⟨b,o,s⟩->B<=b)/\(∀ b o s,a'=some ⟨b,o,s⟩->B<=b)
theorem dV.mono{B B':Nat}{v:Value}(h:dV B v)(hb:B'<=B):dV B' v:=λa n c a' n' c' e=>by
 obtain⟨h1,h2⟩:=h a n c a' n' c' e;exact⟨λb o s e=>Nat.le_trans hb (h1 b o s e),λb o s e=>Nat.le_trans hb (h2 b o s e)⟩
theorem Yj(B:Nat):dV B (.agg #[.slice none 0 0,.slice none 0 0]):=λa n c a' n' c' q=>by
 cases q;exact⟨λb o s q=>(by cases q),λb o s q=>(by cases q)⟩
theorem JH{α β:Type}{R:World->(Nat->Prop)->α->List Value->Prop}{R':World->(Nat->Prop)->β->List Value->Prop}{base base' B size size':Nat}{w:World}{v v':Value}{e e':TypeId}{F F':Nat->Prop}{ns:List α}{vs:List β}(h:aH R e size base w F v ns)(h':aH R' e' size' base' w F' v' vs)(hb:B<=base)(hb':B<=base'):dV B (.agg #[v,v']):=by
 obtain⟨a0,c0,rfl,_,_,_,f0⟩:=h.form;obtain⟨a1,c1,rfl,_,_,_,f1⟩:=h'.form;intro a n c a' n' c' q;cases q;exact⟨λb o s q=>Nat.le_trans hb (f0 b o s q).2.2.1,λb o s q=>Nat.le_trans hb' (f1 b o s q).2.2.1⟩
theorem Ga{w w':World}{b c o:Nat}{ob:Obj}{cs:List Value}(h:w.rangeAt b o cs)(hU:ag c ob w w')(hn:b≠c):w'.rangeAt b o cs:=λj v hv=>
 (World.cell?_of_block (a:=⟨b,o+j,none⟩) (hU.block b hn)).trans (h j v hv)
theorem bJ.upd{w w':World}{v:Value}{m:St}{B b:Nat}{ob:Obj}(h:bJ w v m)(hf:dV B v)(hU:ag b ob w w')(hb:b<B):bJ w' v m:=by
 obtain⟨⟨a,c,a',c',e,h1,h2,h3,h4,h5,h6⟩,h7,h8⟩:=h;obtain⟨f1,f2⟩:=hf _ _ _ _ _ _ e;refine⟨⟨a,c,a',c',e,λk hk=>?_,h2,h3,λk hk=>?_,h5,h6⟩,h7,h8⟩
 ·obtain⟨b1,o1,e1,hr⟩:=h1 k hk;exact⟨b1,o1,e1,Ga hr hU (by have:=f1 b1 o1 none e1;omega)⟩
 ·obtain⟨b1,o1,e1,hr⟩:=h4 k hk;exact⟨b1,o1,e1,Ga hr hU (by have:=f2 b1 o1 none e1;omega)⟩
theorem aT.updS{ea:Nat->Addr}{w w':World}{v:Value}{n b:Nat}{o:Obj}{C:Array Value}{t:TypeId}{z:Nat×Nat}(h:aT ea w v n)(hU:ag b o w w')(hb:w.heap[b]? = some (.cells C t z))(ht:t≠229):aT ea w' v n:=by
 rcases h with h|h|⟨i,g,F,V,h1,h2,h3,h4⟩
 ·exact .inl h
 ·exact .inr (.inl h)
 ·refine .inr (.inr ⟨i,g,F,V,h1,h2,h3,(hU.block g λe=>?_).trans h4⟩);rw[e,hb] at h4;injection h4 with h4;injection h4 with _ h5 _;exact ht h5
def ZJ(ea:Nat->Addr)(m:St)(n:Nat)(w:World)(e:Ending)(w':World):Prop:=∃ vm v,e=.returned (.tuple #[vm,v])/\bJ w' vm m/\aT ea w' v n/\Below w.heap.size w w'/\dV w.heap.size vm
def Qo(x:It)(way:Int):Int×Bool:=if way=2 then (x.u,decide (x.u<x.p.n)) else (x.r,true)
def Rc.it(x:Rc):It:=⟨x.obj,x.name,x.p,x.root,x.file,x.tick,false,0,0⟩
def Xx(m:St)(x:Rc):St×Nat:=
 if (Qz m.its x.name).2=true then (⟨[],[]⟩,10) else if 4<=m.its.length then (⟨[],[]⟩,12) else if x.obj≠(m.its.length:Int) then (⟨[],[]⟩,4) else (⟨m.its++[x.it],m.ens⟩,0)
def Va(m:St)(x:Rc):St×Nat:=
 if x.obj<0\/(m.its.length:Int)<=x.obj then (⟨[],[]⟩,11) else if (m.its.getD x.obj.toNat default).k=true then (⟨[],[]⟩,13)
 else (⟨m.its.set x.obj.toNat { m.its.getD x.obj.toNat default with k:=true },m.ens⟩,0)
def Jc(x:It)(way:Int):It:=if way=2 then { x with u:=x.u+1 } else { x with r:=x.r+1 }
def X6(m:St)(x:Rc):St×Nat:=
 if x.obj<0\/(m.its.length:Int)<=x.obj then (⟨[],[]⟩,11) else if (m.its.getD x.obj.toNat default).k=false then (⟨[],[]⟩,13)
 else if (Qo (m.its.getD x.obj.toNat default) x.way).2=false then (⟨[],[]⟩,18)
 else if x.id≠(m.ens.length:Int)\/x.index≠(Qo (m.its.getD x.obj.toNat default) x.way).1 then (⟨[],[]⟩,4)
 else (⟨m.its.set x.obj.toNat (Jc (m.its.getD x.obj.toNat default) x.way),m.ens++[⟨x.id,x.obj,x.way,x.index,x.tick,0,0⟩]⟩,0)
def Xv(m:St)(x:Rc):St×Nat:=
 if x.id<0\/(m.ens.length:Int)<=x.id then (⟨[],[]⟩,11) else if (m.ens.getD x.id.toNat default).o≠x.obj then (⟨[],[]⟩,11)
 else if (m.ens.getD x.id.toNat default).v≠0 then (⟨[],[]⟩,13)
 else (⟨m.its,m.ens.set x.id.toNat { m.ens.getD x.id.toNat default with v:=x.verdict,a:=x.tick }⟩,0)
def Zm(m:St)(x:Rc):St×Nat:=
 if x.chk≠0 then (⟨[],[]⟩,x.chk) else if x.kind=1 then Xx m x else if x.kind=2 then X6 m x else if x.kind=4 then Va m x else Xv m x
theorem G7(x:It)(hx:x.Ok)(way:Int)(w:World):Calls Tryz.prog 90 #[.agg x.list.toArray,.int .i64 way] w λe w'=>e=.returned (.tuple #[.int .i64 (Qo x way).1,.bool (Qo x way).2])/\Below w.heap.size w w':=by
 have hk:∀ W:World,W.heap[w.heap.size]? = some (.cells x.list.toArray 58 (0,0))->W.cell? ⟨w.heap.size,3,none⟩=some (.int .i64 x.p.n)/\W.cell? ⟨w.heap.size,74,none⟩=some (.int .i64 x.u)/\W.cell? ⟨w.heap.size,75,none⟩=some (.int .i64 x.r):=λW h=>by
  rw[Za h,Za h,Za h,List.getElem?_toArray,List.getElem?_toArray,List.getElem?_toArray];exact⟨It.c3 x,It.c74 hx,It.c75 hx⟩
 obtain⟨k3,k74,k75⟩:=hk _ (heap_alloc_new w (.cells x.list.toArray 58));have hb:=Hd (show Below w.heap.size w (w.alloc (.cells x.list.toArray 58)) from bR.alloc nZ _);clear hk;unfold Qo;generalize x.list.toArray=R at*;generalize x.u=u at*;generalize x.r=r at*;generalize x.p.n=n at*;by_cases hw:way=2
 ·rw[if_pos hw];subst hw;go_enter Tryz.func90,Tryz.ntmps90;go_wp2_with fail;go_quiet (fail);go_wp2_with fail;go_ret2;exact⟨rfl,hb.out.os,hb.out.tape,hb.out.output,hb.out.size,hb.out.block⟩
 ·rw[if_neg hw];have hw2:(way==2)=false:=by simpa using hw
  clear hw;go_enter Tryz.func90,Tryz.ntmps90;go_wp2_with fail;go_ret2;exact⟨rfl,hb.out⟩
theorem UJ(va:Value)(m:St)(x:Rc)(hx:x.Ok)(w:World)(ha:bJ w va m)(l1:m.its.length<=1000)(l2:m.ens.length<=1000)(n:Nat)(hn:(n=10/\(Qz m.its x.name).2=true)\/(n=12/\(Qz m.its x.name).2=false/\4<=m.its.length)\/(n=4/\(Qz m.its x.name).2=false/\m.its.length<4/\x.obj≠(m.its.length:Int)))(ea:Nat->Addr)(H:aQ 298 aK w ea) :
  Calls Tryz.prog 40 #[va,.agg x.list.toArray] w (ZJ ea ⟨[],[]⟩ n w):=by
 have hge:=λW (h:Below w.heap.size w W)=>Qt (H.below h);have hcf:=Hd (Rc.kept0 x hx 49);have hc0:=λW h=>M7 va m W (ha.below h nZ) l1 x.name;generalize (Qz m.its x.name).2=uN at hc0 hn;have hok:=My ha.okN x.name;obtain⟨XA,ak⟩:=aA ((Qz m.its x.name).1.list.toArray);have iA:(Tryz.prog.info? 58).map (·.size)=some XA.size:=by rw[ak,It.size hok];kernel_rfl
 have zA:Tryz.zeroCells58.size=XA.size:=by rw[ak,It.size hok];kernel_rfl
 have gB:XA.all (·.oneCell')=true:=by rw[ak];exact Go.Proofs.YtpdhceiodgnbmaaGreatDoor.all_one (It.list_one _)
 rw[<-ak] at hc0;obtain⟨⟨an,cn,av,cv,rfl,hN,hN1,iG,hV,hV1,hV2⟩,okN,okV⟩:=ha;obtain⟨N,bM⟩:=aA m.its.length;obtain⟨V,dD⟩:=aA m.ens.length;rw[<-bM,<-dD] at hc0;rw[<-bM,<-dD];generalize hRR:x.list.toArray=R at*;obtain⟨aS,aR,aO,hs3,hB⟩:=Qb w #[.slice an N cn,.slice av V cv] R #[.slice none 0 0,.slice none 0 0] 28 49 28 _ rfl;obtain⟨w3,hw3⟩:∃ w3,w3=((w.alloc (.cells #[.slice an N cn,.slice av V cv] 28)).alloc (.cells R 49)).alloc (.cells #[.slice none 0 0,.slice none 0 0] 28):=⟨_,rfl⟩;have s0:=Za aS 0;have s1:=Za aS 1;obtain⟨q0,q1,q2,q3,q4,q5,q6,q7⟩:=hcf.out _ _ aR;rw[<-hw3] at aS aR aO hB;rw[<-bM] at hn;have hpost:Hid (∀ W v,aT ea W v n->Below w.heap.size w W->ZJ ea ⟨[],[]⟩ n w (.returned (.tuple #[.agg #[.slice none 0 0,.slice none 0 0],v])) W):=Hd (λW v h1 h2=>⟨_,_,rfl,YW W,h1,h2,Yj _⟩);generalize x.obj=vo at*;generalize x.id=vi at*;generalize x.way=vw at*;generalize x.index=vx at*;generalize x.name=vn at*;replace hc0:=Hd hc0;replace hn:=Hd hn;replace hge:=Hd hge;replace aS:=Hd aS;replace aR:=Hd aR;replace aO:=Hd aO;replace hB:=Hd hB;replace hw3:=Hd hw3;clear hRR hN hV hN1 iG hV1 hV2 okN okV bM dD ak l1 l2 hs3;go_enter Tryz.func40,Tryz.ntmps40;go_wp2_with fail;rw[<-hw3.out];with_reducible refine(hc0.out _ hB.out).mono ?_
 rintro e w4 ⟨rfl,hb⟩;replace aS:=Hd ((hb.block _ (Zb aS.out)).trans aS.out);replace aR:=Hd ((hb.block _ (Zb aR.out)).trans aR.out);replace aO:=Hd ((hb.block _ (Zb aO.out)).trans aO.out);replace hB:=Hd (hB.out.trans (hb.mono hB.out.size));clear hb s0 s1 q0 q1 q2 q3 q4 q5 q6 q7;have s0:=Za aS.out 0;have s1:=Za aS.out 1;obtain⟨q0,q1,q2,q3,q4,q5,q6,q7⟩:=hcf.out _ _ aR.out;have jT:=Hd (heap_alloc_new w4 (.cells Tryz.zeroCells58 58));rcases hn.out with ⟨rfl,rfl⟩|⟨rfl,rfl,h2⟩|⟨rfl,rfl,h2,h3⟩
 case' inl=>
  have hcW:=λW h=>(hge.out W h).2.2.2.2.2.2.2.2.2.1
 case' inr.inl=>
  have hN4:(4:Int)<=(N:Int):=aB;have hcW:=λW h=>(hge.out W h).2.2.2.2.2.2.2.2.2.2.2.1
 case' inr.inr=>
  have hN4:(N:Int)<4:=aB;have hof:(vo != (N:Int))=true:=by simpa using h3
  have hcW:=λW h=>(hge.out W h).2.2.2.1
 all_goals
  go_wp2_with ((with_reducible refine wL (.store 58 (.tmp 6) _) ?_);(refine Zd rfl 58 (.tmp 6) (.tmp 14) rfl w4.heap.size _ XA rfl rfl jT iA zA gB ?_);intro w5 dG;have hb5:Below w4.heap.size w4 w5:=(Below.alloc (Below.refl w4.heap.size w4) nZ _).trans (dG.out.below nZ);have aX:=Hd dG.out.here;replace aS:=Hd ((hb5.block _ (Zb aS.out)).trans aS.out);replace aR:=Hd ((hb5.block _ (Zb aR.out)).trans aR.out);replace aO:=Hd ((hb5.block _ (Zb aO.out)).trans aO.out);replace hB:=Hd (hB.out.trans (hb5.mono hB.out.size));clear s0 s1 q0 q1 q2 q3 q4 q5 q6 q7 hb5;have s0:=Za aS.out 0;have s1:=Za aS.out 1;obtain⟨q0,q1,q2,q3,q4,q5,q6,q7⟩:=hcf.out _ _ aR.out);have hd0:Hid (Below w.heap.size w w5.drew):=Hd hB.out.drew;replace aO:Hid (w5.drew.heap[w.heap.size+2]? = some (.cells #[.slice none 0 0,.slice none 0 0] 28 (0,0))):=Hd aO.out;refine wp_region_held_drew (S:=(Below w.heap.size w)) kX hd0.out (λaD=>?_);generalize World.drew w5=wd at*;refine tk 0 aD ?_;refine tk 1 aD ?_;refine rd 2 (λKz aF=>?_);rw[if_pos bT]
  (with_reducible refine Zl 28 (.tmp 4) (.tmp _) rfl (w.heap.size+2) #[.slice none 0 0,.slice none 0 0] #[.slice none 0 0,.slice none 0 0] rfl rfl aO kX rfl jK ?_)
  intro w9 au;have hS:=aD.trans (au.out.below aB);have hres:=Hd au.out.here;refine aF.out _ _ hS ?_;clear aF Kz aD hS;intro aD;try simp only[Act.put]
  refine tk 3 aD ?_;refine bz ?_;all_goals
   go_wp2_with fail;refine Zj rfl rfl Tryz.underlying28 rfl kX hres.out ?_;exact hpost.out _ _ (.inr (.inl ⟨_,dX,dX,rfl⟩)) aD
theorem Tq(va:Value)(m:St)(x:Rc)(hx:x.Ok)(w:World)(ha:bJ w va m)(l1:m.its.length<=1000)(l2:m.ens.length<=1000)(n:Nat)(hn0:(n=11/\¬(0<=x.obj/\x.obj<m.its.length))\/∃ (i:Nat) (hi:i<m.its.length),x.obj=(i:Int)/\n=13/\m.its[i].k=true)(ea:Nat->Addr)(H:aQ 298 aK w ea) :
  Calls Tryz.prog 42 #[va,.agg x.list.toArray] w (ZJ ea ⟨[],[]⟩ n w):=by
 have hge:=λW (h:Below w.heap.size w W)=>Qt (H.below h);have hcf:=Hd (Rc.kept0 x hx 49);obtain⟨y,uN,hok,hc0,hn⟩:∃ (y:It) (uN:Bool),y.Ok/\(∀ W,Below w.heap.size w W->Calls Tryz.prog 17 #[va,.int .i64 x.obj] W λe w'=>e=.returned (.tuple #[.agg y.list.toArray,.bool uN])/\Below W.heap.size W w')/\((n=11/\uN=false)\/(n=13/\uN=true/\y.k=true)):=by
  rcases hn0 with ⟨h0,h1⟩|⟨i,hi,hx1,h1⟩
  ·exact⟨default,false,It.default_ok,λW h=>UA va m W (ha.below h nZ) x.obj h1 l1,.inl ⟨h0,rfl⟩⟩
  ·refine⟨_,true,ha.okN _ (List.getElem_mem hi),λW h=>?_,.inr ⟨h1.1,rfl,h1.2⟩⟩;rw[hx1];exact Vg va m W (ha.below h nZ) i hi l1
 clear hn0;obtain⟨XA,ak⟩:=aA y.list.toArray;have eF:∀ (W:World) b,W.heap[b]? = some (.cells XA 58 (0,0))->W.cell? ⟨b,73,none⟩=some (.bool y.k):=λW b h=>by rw[Za h,ak,List.getElem?_toArray];exact It.c73 hok
 have iA:(Tryz.prog.info? 58).map (·.size)=some XA.size:=by rw[ak,It.size hok];kernel_rfl
 have zA:Tryz.zeroCells58.size=XA.size:=by rw[ak,It.size hok];kernel_rfl
 have gB:XA.all (·.oneCell')=true:=by rw[ak];exact Go.Proofs.YtpdhceiodgnbmaaGreatDoor.all_one (It.list_one _)
 rw[<-ak] at hc0;obtain⟨⟨an,cn,av,cv,rfl,hN,hN1,iG,hV,hV1,hV2⟩,okN,okV⟩:=ha;obtain⟨N,bM⟩:=aA m.its.length;obtain⟨V,dD⟩:=aA m.ens.length;rw[<-bM,<-dD] at hc0;rw[<-bM,<-dD];generalize hRR:x.list.toArray=R at*;obtain⟨aS,aR,aO,hs3,hB⟩:=Qb w #[.slice an N cn,.slice av V cv] R #[.slice none 0 0,.slice none 0 0] 28 49 28 _ rfl;obtain⟨w3,hw3⟩:∃ w3,w3=((w.alloc (.cells #[.slice an N cn,.slice av V cv] 28)).alloc (.cells R 49)).alloc (.cells #[.slice none 0 0,.slice none 0 0] 28):=⟨_,rfl⟩;have s0:=Za aS 0;have s1:=Za aS 1;obtain⟨q0,q1,q2,q3,q4,q5,q6,q7⟩:=hcf.out _ _ aR;rw[<-hw3] at aS aR aO hB;have hpost:Hid (∀ W v,aT ea W v n->Below w.heap.size w W->ZJ ea ⟨[],[]⟩ n w (.returned (.tuple #[.agg #[.slice none 0 0,.slice none 0 0],v])) W):=Hd (λW v h1 h2=>⟨_,_,rfl,YW W,h1,h2,Yj _⟩);replace eF:=Hd eF;generalize x.obj=vo at*;generalize x.id=vi at*;generalize x.way=vw at*;generalize x.index=vx at*;generalize x.name=vn at*;replace hc0:=Hd hc0;replace hn:=Hd hn;replace hge:=Hd hge;replace aS:=Hd aS;replace aR:=Hd aR;replace aO:=Hd aO;replace hB:=Hd hB;replace hw3:=Hd hw3;clear hRR hN hV hN1 iG hV1 hV2 okN okV bM dD ak l1 l2 hs3;go_enter Tryz.func42,Tryz.ntmps42;go_wp2_with fail;rw[<-hw3.out];with_reducible refine(hc0.out _ hB.out).mono ?_
 rintro e w4 ⟨rfl,hb⟩;replace aS:=Hd ((hb.block _ (Zb aS.out)).trans aS.out);replace aR:=Hd ((hb.block _ (Zb aR.out)).trans aR.out);replace aO:=Hd ((hb.block _ (Zb aO.out)).trans aO.out);replace hB:=Hd (hB.out.trans (hb.mono hB.out.size));clear hb s0 s1 q0 q1 q2 q3 q4 q5 q6 q7;have s0:=Za aS.out 0;have s1:=Za aS.out 1;obtain⟨q0,q1,q2,q3,q4,q5,q6,q7⟩:=hcf.out _ _ aR.out;have jT:=Hd (heap_alloc_new w4 (.cells Tryz.zeroCells58 58));rcases hn.out with ⟨rfl,rfl⟩|⟨rfl,rfl,h1⟩
 case' inl=>
  have hcW:=λW h=>(hge.out W h).2.2.2.2.2.2.2.2.2.2.1
 case' inr=>
  rw[h1] at eF;have hcW:=λW h=>(hge.out W h).2.2.2.2.2.2.2.2.2.2.2.2.1
 all_goals
  go_wp2_with ((with_reducible refine wL (.store 58 (.tmp 6) _) ?_);(refine Zd rfl 58 (.tmp 6) (.tmp 14) rfl w4.heap.size _ XA rfl rfl jT iA zA gB ?_);intro w5 dG;have hb5:Below w4.heap.size w4 w5:=(Below.alloc (Below.refl w4.heap.size w4) nZ _).trans (dG.out.below nZ);have aX:=Hd dG.out.here;replace aS:=Hd ((hb5.block _ (Zb aS.out)).trans aS.out);replace aR:=Hd ((hb5.block _ (Zb aR.out)).trans aR.out);replace aO:=Hd ((hb5.block _ (Zb aO.out)).trans aO.out);replace hB:=Hd (hB.out.trans (hb5.mono hB.out.size));clear s0 s1 q0 q1 q2 q3 q4 q5 q6 q7 hb5;have s0:=Za aS.out 0;have s1:=Za aS.out 1;obtain⟨q0,q1,q2,q3,q4,q5,q6,q7⟩:=hcf.out _ _ aR.out;have wF:=eF.out _ _ aX.out);have hd0:Hid (Below w.heap.size w w5.drew):=Hd hB.out.drew;replace aO:Hid (w5.drew.heap[w.heap.size+2]? = some (.cells #[.slice none 0 0,.slice none 0 0] 28 (0,0))):=Hd aO.out;refine wp_region_held_drew (S:=(Below w.heap.size w)) kX hd0.out (λaD=>?_);generalize World.drew w5=wd at*;refine tk 0 aD ?_;refine tk 1 aD ?_;refine rd 2 (λKz aF=>?_);rw[if_pos bT]
  (with_reducible refine Zl 28 (.tmp 4) (.tmp _) rfl (w.heap.size+2) #[.slice none 0 0,.slice none 0 0] #[.slice none 0 0,.slice none 0 0] rfl rfl aO kX rfl jK ?_)
  intro w9 au;have hS:=aD.trans (au.out.below aB);have hres:=Hd au.out.here;refine aF.out _ _ hS ?_;clear aF Kz aD hS;intro aD;try simp only[Act.put]
  refine tk 3 aD ?_;refine bz ?_;all_goals
   go_wp2_with fail;refine Zj rfl rfl Tryz.underlying28 rfl kX hres.out ?_;exact hpost.out _ _ (.inr (.inl ⟨_,dX,dX,rfl⟩)) aD
theorem Pw(va:Value)(m:St)(x:Rc)(hx:x.Ok)(w:World)(ha:bJ w va m)(l1:m.its.length<=1000)(l2:m.ens.length<=1000)(h1:¬(0<=x.obj/\x.obj<m.its.length))(ea:Nat->Addr)(H:aQ 298 aK w ea) :
  Calls Tryz.prog 41 #[va,.agg x.list.toArray] w (ZJ ea ⟨[],[]⟩ 11 w):=by
 have hge:=λW (h:Below w.heap.size w W)=>(Qt (H.below h)).2.2.2.2.2.2.2.2.2.2.1;have hcf:=Hd (Rc.kept0 x hx 49);have hc0:=λW h=>UA va m W (ha.below h nZ) x.obj h1 l1;have hok:(default:It).Ok:=It.default_ok;obtain⟨XA,ak⟩:∃ XA,XA=(default:It).list.toArray:=⟨_,rfl⟩;have iA:(Tryz.prog.info? 58).map (·.size)=some XA.size:=by rw[ak,It.size hok];kernel_rfl
 have zA:Tryz.zeroCells58.size=XA.size:=by rw[ak,It.size hok];kernel_rfl
 have gB:XA.all (·.oneCell')=true:=by rw[ak];exact Go.Proofs.YtpdhceiodgnbmaaGreatDoor.all_one (It.list_one _)
 rw[<-ak] at hc0;obtain⟨⟨an,cn,av,cv,rfl,hN,hN1,iG,hV,hV1,hV2⟩,okN,okV⟩:=ha;obtain⟨N,bM⟩:=aA m.its.length;obtain⟨V,dD⟩:=aA m.ens.length;rw[<-bM,<-dD] at hc0;rw[<-bM,<-dD];generalize hRR:x.list.toArray=R at*;obtain⟨aS,aR,aO,hs3,hB⟩:=Qb w #[.slice an N cn,.slice av V cv] R #[.slice none 0 0,.slice none 0 0] 28 49 28 _ rfl;obtain⟨w3,hw3⟩:∃ w3,w3=((w.alloc (.cells #[.slice an N cn,.slice av V cv] 28)).alloc (.cells R 49)).alloc (.cells #[.slice none 0 0,.slice none 0 0] 28):=⟨_,rfl⟩;have s0:=Za aS 0;have s1:=Za aS 1;obtain⟨q0,q1,q2,q3,q4,q5,q6,q7⟩:=hcf.out _ _ aR;rw[<-hw3] at aS aR aO hB;have hpost:Hid (∀ W v,aT ea W v 11->Below w.heap.size w W->ZJ ea ⟨[],[]⟩ 11 w (.returned (.tuple #[.agg #[.slice none 0 0,.slice none 0 0],v])) W):=Hd (λW v h1 h2=>⟨_,_,rfl,YW W,h1,h2,Yj _⟩);generalize x.obj=vo at*;generalize x.id=vi at*;generalize x.way=vw at*;generalize x.index=vx at*;generalize x.name=vn at*;replace hc0:=Hd hc0;replace hge:=Hd hge;replace aS:=Hd aS;replace aR:=Hd aR;replace aO:=Hd aO;replace hB:=Hd hB;replace hw3:=Hd hw3;clear hRR hN hV hN1 iG hV1 hV2 okN okV bM dD ak l1 l2 hs3 h1;go_enter Tryz.func41,Tryz.ntmps41;go_wp2_with fail;rw[<-hw3.out];with_reducible refine(hc0.out _ hB.out).mono ?_
 rintro e w4 ⟨rfl,hb⟩;replace aS:=Hd ((hb.block _ (Zb aS.out)).trans aS.out);replace aR:=Hd ((hb.block _ (Zb aR.out)).trans aR.out);replace aO:=Hd ((hb.block _ (Zb aO.out)).trans aO.out);replace hB:=Hd (hB.out.trans (hb.mono hB.out.size));clear hb s0 s1 q0 q1 q2 q3 q4 q5 q6 q7;have s0:=Za aS.out 0;have s1:=Za aS.out 1;obtain⟨q0,q1,q2,q3,q4,q5,q6,q7⟩:=hcf.out _ _ aR.out;have jT:=Hd (heap_alloc_new w4 (.cells Tryz.zeroCells58 58));go_wp2_with ((with_reducible refine wL (.store 58 (.tmp 6) _) ?_);(refine Zd rfl 58 (.tmp 6) (.tmp 16) rfl w4.heap.size _ XA rfl rfl jT iA zA gB ?_);intro w5 dG;have hb5:Below w4.heap.size w4 w5:=(Below.alloc (Below.refl w4.heap.size w4) nZ _).trans (dG.out.below nZ);have aX:=Hd dG.out.here;replace aS:=Hd ((hb5.block _ (Zb aS.out)).trans aS.out);replace aR:=Hd ((hb5.block _ (Zb aR.out)).trans aR.out);replace aO:=Hd ((hb5.block _ (Zb aO.out)).trans aO.out);replace hB:=Hd (hB.out.trans (hb5.mono hB.out.size));clear s0 s1 q0 q1 q2 q3 q4 q5 q6 q7 hb5;have s0:=Za aS.out 0;have s1:=Za aS.out 1;obtain⟨q0,q1,q2,q3,q4,q5,q6,q7⟩:=hcf.out _ _ aR.out);have hd0:Hid (Below w.heap.size w w5.drew):=Hd hB.out.drew;replace aO:Hid (w5.drew.heap[w.heap.size+2]? = some (.cells #[.slice none 0 0,.slice none 0 0] 28 (0,0))):=Hd aO.out;have hcW:=λW h=>hge.out W h;refine wp_region_held_drew (S:=(Below w.heap.size w)) kX hd0.out (λaD=>?_);generalize World.drew w5=wd at*;refine tk 0 aD ?_;refine tk 1 aD ?_;refine rd 2 (λKz aF=>?_);rw[if_pos bT]
 (with_reducible refine Zl 28 (.tmp 4) (.tmp 20) rfl (w.heap.size+2) #[.slice none 0 0,.slice none 0 0] #[.slice none 0 0,.slice none 0 0] rfl rfl aO kX rfl jK ?_)
 intro w9 au;have hS:=aD.trans (au.out.below aB);have hres:=Hd au.out.here;refine aF.out _ _ hS ?_;clear aF Kz aD hS;intro aD;try simp only[Act.put]
 refine tk 3 aD ?_;refine bz ?_;all_goals
  go_wp2_with fail;refine Zj rfl rfl Tryz.underlying28 rfl kX hres.out ?_;exact hpost.out _ _ (.inr (.inl ⟨11-1,dX,dX,rfl⟩)) aD
theorem VZ(va:Value)(m:St)(x:Rc)(hx:x.Ok)(w:World)(ha:bJ w va m)(l1:m.its.length<=1000)(l2:m.ens.length<=1000)(n:Nat)(i:Nat)(hi:i<m.its.length)(hx1:x.obj=(i:Int))(hn:(n=13/\m.its[i].k=false)\/(n=18/\m.its[i].k=true/\(Qo m.its[i] x.way).2=false)\/(n=4/\m.its[i].k=true/\(Qo m.its[i] x.way).2=true/\x.id≠(m.ens.length:Int))\/(n=4/\m.its[i].k=true/\(Qo m.its[i] x.way).2=true/\x.id=(m.ens.length:Int)/\x.index≠(Qo m.its[i] x.way).1))(ea:Nat->Addr)(H:aQ 298 aK w ea) :
  Calls Tryz.prog 41 #[va,.agg x.list.toArray] w (ZJ ea ⟨[],[]⟩ n w):=by
 have hge:=λW (h:Below w.heap.size w W)=>Qt (H.below h);have hcf:=Hd (Rc.kept0 x hx 49);have hc0:=λW h=>Vg va m W (ha.below h nZ) i hi l1;rw[<-hx1] at hc0;have hok:=ha.okN _ (List.getElem_mem hi);generalize hy:m.its[i]=y at*;obtain⟨XA,ak⟩:=aA y.list.toArray;have eF:∀ (W:World) b,W.heap[b]? = some (.cells XA 58 (0,0))->W.cell? ⟨b,73,none⟩=some (.bool y.k):=λW b h=>by rw[Za h,ak,List.getElem?_toArray];exact It.c73 hok
 have hnx:=Hd (λW=>G7 y hok x.way W);have iA:(Tryz.prog.info? 58).map (·.size)=some XA.size:=by rw[ak,It.size hok];kernel_rfl
 have zA:Tryz.zeroCells58.size=XA.size:=by rw[ak,It.size hok];kernel_rfl
 have gB:XA.all (·.oneCell')=true:=by rw[ak];exact Go.Proofs.YtpdhceiodgnbmaaGreatDoor.all_one (It.list_one _)
 rw[<-ak] at hc0 hnx;obtain⟨⟨an,cn,av,cv,rfl,hN,hN1,iG,hV,hV1,hV2⟩,okN,okV⟩:=ha;obtain⟨N,bM⟩:=aA m.its.length;obtain⟨V,dD⟩:=aA m.ens.length;rw[<-bM,<-dD] at hc0;rw[<-dD] at hn;rw[<-bM,<-dD];generalize hRR:x.list.toArray=R at*;obtain⟨aS,aR,aO,hs3,hB⟩:=Qb w #[.slice an N cn,.slice av V cv] R #[.slice none 0 0,.slice none 0 0] 28 49 28 _ rfl;obtain⟨w3,hw3⟩:∃ w3,w3=((w.alloc (.cells #[.slice an N cn,.slice av V cv] 28)).alloc (.cells R 49)).alloc (.cells #[.slice none 0 0,.slice none 0 0] 28):=⟨_,rfl⟩;have s0:=Za aS 0;have s1:=Za aS 1;obtain⟨q0,q1,q2,q3,q4,q5,q6,q7⟩:=hcf.out _ _ aR;rw[<-hw3] at aS aR aO hB;have hpost:Hid (∀ W v,aT ea W v n->Below w.heap.size w W->ZJ ea ⟨[],[]⟩ n w (.returned (.tuple #[.agg #[.slice none 0 0,.slice none 0 0],v])) W):=Hd (λW v h1 h2=>⟨_,_,rfl,YW W,h1,h2,Yj _⟩);obtain⟨ix,lf,hnx2⟩:∃ ix lf,Qo y x.way=(ix,lf):=⟨_,_,rfl⟩;rw[hnx2] at hnx hn;replace hnx2:=Hd hnx2;replace eF:=Hd eF;generalize x.obj=vo at*;generalize x.id=vi at*;generalize x.way=vw at*;generalize x.index=vx at*;generalize x.name=vn at*;replace hc0:=Hd hc0;replace hn:=Hd hn;replace hge:=Hd hge;replace aS:=Hd aS;replace aR:=Hd aR;replace aO:=Hd aO;replace hB:=Hd hB;replace hw3:=Hd hw3;clear hRR hN hV hN1 iG hV1 hV2 okN okV bM dD ak l1 l2 hs3 hx1;go_enter Tryz.func41,Tryz.ntmps41;go_wp2_with fail;rw[<-hw3.out];with_reducible refine(hc0.out _ hB.out).mono ?_
 rintro e w4 ⟨rfl,hb⟩;replace aS:=Hd ((hb.block _ (Zb aS.out)).trans aS.out);replace aR:=Hd ((hb.block _ (Zb aR.out)).trans aR.out);replace aO:=Hd ((hb.block _ (Zb aO.out)).trans aO.out);replace hB:=Hd (hB.out.trans (hb.mono hB.out.size));clear hb s0 s1 q0 q1 q2 q3 q4 q5 q6 q7;have s0:=Za aS.out 0;have s1:=Za aS.out 1;obtain⟨q0,q1,q2,q3,q4,q5,q6,q7⟩:=hcf.out _ _ aR.out;have jT:=Hd (heap_alloc_new w4 (.cells Tryz.zeroCells58 58));rcases hn.out with ⟨rfl,h1⟩|⟨rfl,h1,h2⟩|⟨rfl,h1,h2,h3⟩|⟨rfl,h1,h2,h3,h4⟩
 case' inl=>
  rw[h1] at eF;have hcW:=λW h=>(hge.out W h).2.2.2.2.2.2.2.2.2.2.2.2.1
 case' inr.inl=>
  rw[h1] at eF;replace h2:lf=false:=h2;subst h2;have hcW:=λW h=>(hge.out W h).2.2.2.2.2.2.2.2.2.2.2.2.2.2.2.2.2.1
 case' inr.inr.inl=>
  rw[h1] at eF;replace h2:lf=true:=h2;subst h2;have hof:(vi != (V:Int))=true:=by simpa using h3
  have hcW:=λW h=>(hge.out W h).2.2.2.1
 case' inr.inr.inr=>
  rw[h1] at eF;replace h2:lf=true:=h2;subst h2;have hof:(vi != (V:Int))=false:=by rw[h3];simp
  have hoi:(vx != ix)=true:=by simpa using h4
  have hcW:=λW h=>(hge.out W h).2.2.2.1
 all_goals
  go_wp2_with (first
   | ((with_reducible refine wL (.store 58 (.tmp 6) _) ?_);(refine Zd rfl 58 (.tmp 6) (.tmp 16) rfl w4.heap.size _ XA rfl rfl jT iA zA gB ?_);intro w5 dG;have hb5:Below w4.heap.size w4 w5:=(Below.alloc (Below.refl w4.heap.size w4) nZ _).trans (dG.out.below nZ);have aX:=Hd dG.out.here;replace aS:=Hd ((hb5.block _ (Zb aS.out)).trans aS.out);replace aR:=Hd ((hb5.block _ (Zb aR.out)).trans aR.out);replace aO:=Hd ((hb5.block _ (Zb aO.out)).trans aO.out);replace hB:=Hd (hB.out.trans (hb5.mono hB.out.size));clear s0 s1 q0 q1 q2 q3 q4 q5 q6 q7 hb5;have s0:=Za aS.out 0;have s1:=Za aS.out 1;obtain⟨q0,q1,q2,q3,q4,q5,q6,q7⟩:=hcf.out _ _ aR.out;have wF:=eF.out _ _ aX.out)
   | ((with_reducible refine wL (.load 58 (.tmp 6)) ?_);refine Ze rfl 58 (.tmp 6) rfl w4.heap.size XA _ rfl aX Tryz.underlying58 rfl iA ?_))
  with_reducible refine(hnx.out _).mono ?_
  rintro e w6 ⟨rfl,hb⟩;replace aX:=Hd ((hb.block _ (Zb aX.out)).trans aX.out);replace aS:=Hd ((hb.block _ (Zb aS.out)).trans aS.out);replace aR:=Hd ((hb.block _ (Zb aR.out)).trans aR.out);replace aO:=Hd ((hb.block _ (Zb aO.out)).trans aO.out);replace hB:=Hd (hB.out.trans (hb.mono hB.out.size));clear hb s0 s1 q0 q1 q2 q3 q4 q5 q6 q7 wF;have s0:=Za aS.out 0;have s1:=Za aS.out 1;obtain⟨q0,q1,q2,q3,q4,q5,q6,q7⟩:=hcf.out _ _ aR.out;have wF:=eF.out _ _ aX.out;go_wp2_with fail;have hd0:Hid (Below w.heap.size w w6.drew):=Hd hB.out.drew;replace aO:Hid (w6.drew.heap[w.heap.size+2]? = some (.cells #[.slice none 0 0,.slice none 0 0] 28 (0,0))):=Hd aO.out;refine wp_region_held_drew (S:=(Below w.heap.size w)) kX hd0.out (λaD=>?_);generalize World.drew w6=wd at*;refine tk 0 aD ?_;refine tk 1 aD ?_;refine rd 2 (λKz aF=>?_);rw[if_pos bT]
  (with_reducible refine Zl 28 (.tmp 4) (.tmp _) rfl (w.heap.size+2) #[.slice none 0 0,.slice none 0 0] #[.slice none 0 0,.slice none 0 0] rfl rfl aO kX rfl jK ?_)
  intro w9 au;have hS:=aD.trans (au.out.below aB);have hres:=Hd au.out.here;refine aF.out _ _ hS ?_;clear aF Kz aD hS;intro aD;try simp only[Act.put]
  refine tk 3 aD ?_;refine bz ?_;all_goals
   go_wp2_with fail;refine Zj rfl rfl Tryz.underlying28 rfl kX hres.out ?_;exact hpost.out _ _ (.inr (.inl ⟨_,dX,dX,rfl⟩)) aD
theorem UH(va:Value)(m:St)(x:Rc)(hx:x.Ok)(w:World)(ha:bJ w va m)(l1:m.its.length<=1000)(l2:m.ens.length<=1000)(n:Nat)(hn0:(n=11/\¬(0<=x.id/\x.id<m.ens.length))\/∃ (i:Nat) (hi:i<m.ens.length),x.id=(i:Int)/\((n=11/\m.ens[i].o≠x.obj)\/(n=13/\m.ens[i].o=x.obj/\m.ens[i].v≠0)))(ea:Nat->Addr)(H:aQ 298 aK w ea) :
  Calls Tryz.prog 43 #[va,.agg x.list.toArray] w (ZJ ea ⟨[],[]⟩ n w):=by
 have hge:=λW (h:Below w.heap.size w W)=>Qt (H.below h);have hcf:=Hd (Rc.kept0 x hx 49);obtain⟨y,uN,hc0,hn⟩:∃ (y:En) (uN:Bool),(∀ W,Below w.heap.size w W->Calls Tryz.prog 91 #[va,.int .i64 x.id] W λe w'=>e=.returned (.tuple #[.agg y.list.toArray,.bool uN])/\Below W.heap.size W w')/\((n=11/\uN=false)\/(n=11/\uN=true/\y.o≠x.obj)\/(n=13/\uN=true/\y.o=x.obj/\y.v≠0)):=by
  rcases hn0 with ⟨h0,h1⟩|⟨i,hi,hx1,h1⟩
  ·exact⟨default,false,λW h=>Mh va m W (ha.below h nZ) x.id h1 l2,.inl ⟨h0,rfl⟩⟩
  ·refine⟨m.ens[i],true,λW h=>?_,.inr (h1.imp (λh=>⟨h.1,rfl,h.2⟩) (λh=>⟨h.1,rfl,h.2⟩))⟩;rw[hx1];exact Gv va m W (ha.below h nZ) i hi l2
 clear hn0;obtain⟨XA,ak⟩:=aA y.list.toArray;have hk1:∀ (W:World) b,W.heap[b]? = some (.cells XA 66 (0,0))->W.cell? ⟨b,1,none⟩=some (.int .i64 y.o)/\W.cell? ⟨b,5,none⟩=some (.int .i64 y.v):=λW b h=>by
  rw[Za h,Za h,ak,List.getElem?_toArray,List.getElem?_toArray];exact⟨rfl,rfl⟩
 have iA:(Tryz.prog.info? 66).map (·.size)=some XA.size:=by rw[ak];kernel_rfl
 have zA:(#[.int .i64 0,.int .i64 0,.int .i64 0,.int .i64 0,.int .i64 0,.int .i64 0,.int .i64 0]:Array Value).size=XA.size:=by rw[ak];rfl
 have gB:XA.all (·.oneCell')=true:=by rw[ak];exact Go.Proofs.YtpdhceiodgnbmaaGreatDoor.all_one (En.list_one _)
 rw[<-ak] at hc0;obtain⟨⟨an,cn,av,cv,rfl,hN,hN1,iG,hV,hV1,hV2⟩,okN,okV⟩:=ha;obtain⟨N,bM⟩:=aA m.its.length;obtain⟨V,dD⟩:=aA m.ens.length;rw[<-bM,<-dD] at hc0;rw[<-bM,<-dD];generalize hRR:x.list.toArray=R at*;obtain⟨aS,aR,aO,hs3,hB⟩:=Qb w #[.slice an N cn,.slice av V cv] R #[.slice none 0 0,.slice none 0 0] 28 49 28 _ rfl;obtain⟨w3,hw3⟩:∃ w3,w3=((w.alloc (.cells #[.slice an N cn,.slice av V cv] 28)).alloc (.cells R 49)).alloc (.cells #[.slice none 0 0,.slice none 0 0] 28):=⟨_,rfl⟩;have s0:=Za aS 0;have s1:=Za aS 1;obtain⟨q0,q1,q2,q3,q4,q5,q6,q7⟩:=hcf.out _ _ aR;rw[<-hw3] at aS aR aO hB;have hpost:Hid (∀ W v,aT ea W v n->Below w.heap.size w W->ZJ ea ⟨[],[]⟩ n w (.returned (.tuple #[.agg #[.slice none 0 0,.slice none 0 0],v])) W):=Hd (λW v h1 h2=>⟨_,_,rfl,YW W,h1,h2,Yj _⟩);replace hk1:=Hd hk1;generalize x.obj=vo at*;generalize x.id=vi at*;generalize x.way=vw at*;generalize x.index=vx at*;generalize x.name=vn at*;replace hc0:=Hd hc0;replace hn:=Hd hn;replace hge:=Hd hge;replace aS:=Hd aS;replace aR:=Hd aR;replace aO:=Hd aO;replace hB:=Hd hB;replace hw3:=Hd hw3;clear hRR hN hV hN1 iG hV1 hV2 okN okV bM dD ak l1 l2 hs3;go_enter Tryz.func43,Tryz.ntmps43;go_wp2_with fail;rw[<-hw3.out];with_reducible refine(hc0.out _ hB.out).mono ?_
 rintro e w4 ⟨rfl,hb⟩;replace aS:=Hd ((hb.block _ (Zb aS.out)).trans aS.out);replace aR:=Hd ((hb.block _ (Zb aR.out)).trans aR.out);replace aO:=Hd ((hb.block _ (Zb aO.out)).trans aO.out);replace hB:=Hd (hB.out.trans (hb.mono hB.out.size));clear hb s0 s1 q0 q1 q2 q3 q4 q5 q6 q7;have s0:=Za aS.out 0;have s1:=Za aS.out 1;obtain⟨q0,q1,q2,q3,q4,q5,q6,q7⟩:=hcf.out _ _ aR.out;have jT:=Hd (heap_alloc_new w4 (.cells #[.int .i64 0,.int .i64 0,.int .i64 0,.int .i64 0,.int .i64 0,.int .i64 0,.int .i64 0] 66));rcases hn.out with ⟨rfl,rfl⟩|⟨rfl,rfl,h1⟩|⟨rfl,rfl,h1,h2⟩
 case' inl=>
  have hcW:=λW h=>(hge.out W h).2.2.2.2.2.2.2.2.2.2.1
 case' inr.inl=>
  have hof:(y.o != vo)=true:=by simpa using h1
  have hcW:=λW h=>(hge.out W h).2.2.2.2.2.2.2.2.2.2.1
 case' inr.inr=>
  have hof:(y.o != vo)=false:=by rw[h1];simp
  have hov:(y.v != 0)=true:=by simpa using h2
  have hcW:=λW h=>(hge.out W h).2.2.2.2.2.2.2.2.2.2.2.2.1
 all_goals
  go_wp2_with ((with_reducible refine wL (.store 66 (.tmp 6) _) ?_);(refine Zd rfl 66 (.tmp 6) (.tmp 14) rfl w4.heap.size _ XA rfl rfl jT iA zA gB ?_);intro w5 dG;have hb5:Below w4.heap.size w4 w5:=(Below.alloc (Below.refl w4.heap.size w4) nZ _).trans (dG.out.below nZ);have aX:=Hd dG.out.here;replace aS:=Hd ((hb5.block _ (Zb aS.out)).trans aS.out);replace aR:=Hd ((hb5.block _ (Zb aR.out)).trans aR.out);replace aO:=Hd ((hb5.block _ (Zb aO.out)).trans aO.out);replace hB:=Hd (hB.out.trans (hb5.mono hB.out.size));clear s0 s1 q0 q1 q2 q3 q4 q5 q6 q7 hb5;have s0:=Za aS.out 0;have s1:=Za aS.out 1;obtain⟨q0,q1,q2,q3,q4,q5,q6,q7⟩:=hcf.out _ _ aR.out;obtain⟨y1,y5⟩:=hk1.out _ _ aX.out);have hd0:Hid (Below w.heap.size w w5.drew):=Hd hB.out.drew;replace aO:Hid (w5.drew.heap[w.heap.size+2]? = some (.cells #[.slice none 0 0,.slice none 0 0] 28 (0,0))):=Hd aO.out;refine wp_region_held_drew (S:=(Below w.heap.size w)) kX hd0.out (λaD=>?_);generalize World.drew w5=wd at*;refine tk 0 aD ?_;refine tk 1 aD ?_;refine rd 2 (λKz aF=>?_);rw[if_pos bT]
  (with_reducible refine Zl 28 (.tmp 4) (.tmp _) rfl (w.heap.size+2) #[.slice none 0 0,.slice none 0 0] #[.slice none 0 0,.slice none 0 0] rfl rfl aO kX rfl jK ?_)
  intro w9 au;have hS:=aD.trans (au.out.below aB);have hres:=Hd au.out.here;refine aF.out _ _ hS ?_;clear aF Kz aD hS;intro aD;try simp only[Act.put]
  refine tk 3 aD ?_;refine bz ?_;all_goals
   go_wp2_with fail;refine Zj rfl rfl Tryz.underlying28 rfl kX hres.out ?_;exact hpost.out _ _ (.inr (.inl ⟨_,dX,dX,rfl⟩)) aD
theorem Rz{x:Int}:(Value.int .i64 x).oneCell'=true:=rfl
theorem Rc.it_ok{x:Rc}(h:x.Ok):x.it.Ok:=⟨h.obj,h.name,h.p,h.root,h.file,h.tick,by show cO 0;decide,by show cO 0;decide⟩
theorem Bn(x:Rc)(hx:x.Ok)(W:World):(Instr.build 58 #[(0,.int .i64 x.obj),(1,.string x.name),(2,.agg x.p.list.toArray),(3,.agg (cB x.root).toArray),(4,.agg (cB x.file).toArray),(5,.int .i64 x.tick)]).run Tryz.prog W=.ok (.agg x.it.list.toArray) W:=by
 refine run_build W _ _ _ ?_;have h:=DK (P:=Tryz.prog) (t:=58) (Z:=(default:It).list) (places:=[(0,1),(1,1),(2,6),(8,32),(40,32),(72,1),(73,1),(74,1),(75,1)]) kX Tryz.underlying58 kX [.int .i64 x.obj,.string x.name,.agg x.p.list.toArray,.agg (cB x.root).toArray,.agg (cB x.file).toArray,.int .i64 x.tick] (by simp[GL,Value.cells,P6.list_length,Zc,hx.root,hx.file]) (by simp[Value.cells,P6.list_length,Zc,hx.root,hx.file];decide);have hd:(([.int .i64 x.obj,.string x.name,.agg x.p.list.toArray,.agg (cB x.root).toArray,.agg (cB x.file).toArray,.int .i64 x.tick]:List Value).map (·.cells.size)).sum=73:=by simp[Value.cells,P6.list_length,Zc,hx.root,hx.file]
 rw[hd] at h;have he:(default:It).list.drop 73=[.bool false,.int .i64 0,.int .i64 0]:=kX;rw[he] at h;have e:(([.int .i64 x.obj,.string x.name,.agg x.p.list.toArray,.agg (cB x.root).toArray,.agg (cB x.file).toArray,.int .i64 x.tick]:List Value).flatMap (·.cells.toList)++[.bool false,.int .i64 0,.int .i64 0])=x.it.list:=by simp[Value.cells,Rc.it,It.list]
 rw[e] at h;exact h
theorem Bi(a b c d e:Int)(W:World):(Instr.build 66 #[(0,.int .i64 a),(1,.int .i64 b),(2,.int .i64 c),(3,.int .i64 d),(4,.int .i64 e)]).run Tryz.prog W=.ok (.agg (⟨a,b,c,d,e,0,0⟩:En).list.toArray) W:=by
 refine run_build W _ _ _ ?_;kernel_rfl
theorem Vl{base base':Nat}{w:World}{v v':Value}{e e':TypeId}{F F':Nat->Prop}{ns:List It}{vs:List En}(h:aH RI e 76 base w F v ns)(h':aH RE e' 7 base' w F' v' vs):bJ w (.agg #[v,v']) ⟨ns,vs⟩:=by
 obtain⟨a,c,rfl,h1,h2,h3,h4⟩:=BH h;obtain⟨a',c',rfl,h5,h6,h7,h8⟩:=BE h';exact⟨⟨a,c,a',c',rfl,h1,h2,h3,h5,h6,h7⟩,h4,h8⟩
section
variable {P:Program} {ops:Array Oper} {rest:List Oper} {o:Oper} {a:Act} {w:World} {Q:Exit->Act->World->Prop}
theorem N4(w:World)(x:Addr)(ty:TypeId)(v u:Value)(hc:w.cell? x=some u)(hf:w.frozen? x=false)(hs:x.spot=none)(hi:(P.info? ty).map (·.size)=some 1)(h1:v.oneCell'=true):(storeVar ty x v).run P w=.ok () (w.setCell x v):=by
 obtain⟨b,o,s⟩:=x;obtain rfl:s=none:=hs;have:=run_storeCells_cells (P:=P) b o [v] 0 w (λj hj=>by
  obtain rfl:j=0:=by simp at hj;omega
  simp[hc]) (λj hj=>by
  obtain rfl:j=0:=by simp at hj;omega
  simpa using hf) (λx hx=>by simp at hx;subst hx;exact h1)
 have hcc:v.cells=#[v]:=by cases v<;>first|rfl|cases h1
 cases hq:P.info? ty with
 | none=>simp[hq] at hi
 | some i=>
  have hs:i.size=1:=by simpa[hq] using hi
  simp only[Nat.add_zero] at this;simp[storeVar,sizeOf,typeInfo,hq,hcc,hs,this,World.setCells]
theorem Uo{K:Act->World->Prop}(ty:TypeId)(x y:Operand)(ho:o.op=.store ty x y)(g j:Nat)(v:Value)(hx:a.eval x=.pointer (some ⟨g,j,none⟩))(hy:a.eval y=v)(hc:Hid (∃ u,w.cell? ⟨g,j,none⟩=some u))(hf:w.frozen? ⟨g,j,none⟩=false)
  (hi:(P.info? ty).map (·.size)=some 1) (h1:v.oneCell'=true) (h:∀ w',Hid (w'=w.setCell ⟨g,j,none⟩ v)->K (a.put o.dst undef) w'):o.wp P a w K Q:=by
 obtain⟨u,hu⟩:=hc.out;unfold Oper.wp execOp;simp only[ho,hx,hy,Instr.storeAt,Instr.sureAddr,Sem.run_bind,Sem.run_pure,Result.andThen_ok,N4 w ⟨g,j,none⟩ ty v u hu hf rfl hi h1];exact h _ (Hd rfl)
theorem VW(hgd:o.guard=none)(ty:TypeId)(x y:Operand)(ho:o.op=.store ty x y)(g j:Nat)(v:Value)(hx:a.eval x=.pointer (some ⟨g,j,none⟩))(hy:a.eval y=v)(hc:Hid (∃ u,w.cell? ⟨g,j,none⟩=some u))(hf:w.frozen? ⟨g,j,none⟩=false)
  (hi:(P.info? ty).map (·.size)=some 1) (h1:v.oneCell'=true) (h:∀ w',Hid (w'=w.setCell ⟨g,j,none⟩ v)->wpList P ops Q rest (a.put o.dst undef) w'):wpList P ops Q (o::rest) a w:=
 wpList_plain hgd λK hK=>Uo (K:=K) ty x y ho g j v hx hy hc hf hi h1 (λw' hw=>hK _ _ (h w' hw))
end
theorem VP{α:Type}{enc:α->List Value}{Ok:α->Prop}{R:World->(Nat->Prop)->α->List Value->Prop}(hRi:∀ w F x cs,R w F x cs↔cs=enc x/\Ok x){e:TypeId}{size base g n c:Nat}{w:World}{ns:List α}(hlen:∀ x,Ok x->(enc x).length=size)(hone:∀ x,∀ u∈enc x,u.oneCell'=true)(h0:0<size)
  (h:aH R e size base w (λ_=>False) (.slice (some ⟨g,0,none⟩) n c) ns) (hok:∀ x∈ns,Ok x) (i r:Nat) (hi:i<ns.length) (hr:r<size) (u:Value) (hu:u.oneCell'=true) (y:α) (hy:enc y=(enc ns[i]).set r u) (rH:Ok y) :
  aH R e size base (w.setCell ⟨g,i*size+r,none⟩ u) (λ_=>False) (.slice (some ⟨g,0,none⟩) n c) (ns.set i y):=by
 have h1:=Gf (enc:=enc) (λw F x cs h=>((hRi w F x cs).1 h).1) h;have hn:n=ns.length:=by
  obtain⟨a,c',e1,_⟩:=h.form;cases e1;rfl
 subst hn;have h2:=(World.ownsRow.stored h1 (i*size+r) u).1;rw[KU u y ns (λx hx=>hlen x (hok x hx)) i r hi hr hy] at h2;refine Jj (λx hx=>(hRi _ _ _ _).2 ⟨rfl,?_⟩) (by rw[List.length_set];exact h2);rcases List.mem_or_eq_of_mem_set hx with hx|hx
 ·exact hok x hx
 ·rw[hx];exact rH
theorem JV{α:Type}{enc:α->List Value}{Ok:α->Prop}{R:World->(Nat->Prop)->α->List Value->Prop}(hRi:∀ w F x cs,R w F x cs↔cs=enc x/\Ok x){e:TypeId}{size base g n c:Nat}{w:World}{ns:List α}(hR:dN R size)
  (h:aH R e size base w (λ_=>False) (.slice (some ⟨g,0,none⟩) n c) ns) (i r:Nat) (hi:i<ns.length) (u:Value) (hu:(enc ns[i])[r]? = some u):w.cell? ⟨g,i*size+r,none⟩=some u/\w.frozen? ⟨g,i*size+r,none⟩=false:=by
 have h1:=Gf (enc:=enc) (λw F x cs h=>((hRi w F x cs).1 h).1) h;have hn:n=ns.length:=by
  obtain⟨a,c',e1,_⟩:=h.form;cases e1;rfl
 subst hn;refine⟨?_,World.ownsRow.frozenAt h1 (i*size+r)⟩;obtain⟨g',c',cs,e6,h6,h7⟩:=h.elem hR i _ (List.getElem?_eq_getElem hi);cases e6;obtain⟨rfl,_⟩:=(hRi _ _ _ _).1 h6;exact h7 r u hu
theorem It.set73{x:It}(h:x.Ok)(b:Bool):({ x with k:=b }:It).list=x.list.set 73 (.bool b):=by
 rw[It.parts x,It.parts,List.set_append_right _ _ (by rw[It.head72 h.root h.file];decide),It.head72 h.root h.file];rfl
theorem It.set74{x:It}(h:x.Ok)(n:Int):({ x with u:=n }:It).list=x.list.set 74 (.int .i64 n):=by
 rw[It.parts x,It.parts,List.set_append_right _ _ (by rw[It.head72 h.root h.file];decide),It.head72 h.root h.file];rfl
theorem It.set75{x:It}(h:x.Ok)(n:Int):({ x with r:=n }:It).list=x.list.set 75 (.int .i64 n):=by
 rw[It.parts x,It.parts,List.set_append_right _ _ (by rw[It.head72 h.root h.file];decide),It.head72 h.root h.file];rfl
end Go.Proofs.YtpdhceiodgnbmaaGreatDoor
