import Derived.Test.YtpdhceiodgnbmaaGreatDoorF0FollowsSaid
import Derived.Test.YtpdhceiodgnbmaaGreatDoorF1FollowsSaid
import Derived.Test.YtpdhceiodgnbmaaGreatDoorF31FollowsSaid
import Derived.Test.YtpdhceiodgnbmaaGreatDoorF34FollowsSaid
import Derived.Test.YtpdhceiodgnbmaaGreatDoorF21FollowsSaid
set_option linter.unusedVariables false
set_option linter.unusedSimpArgs false
set_option linter.unnecessarySimpa false
set_option maxRecDepth 100000
set_option maxHeartbeats 8000000
namespace Go.Proofs.YtpdhceiodgnbmaaGreatDoor
open Go.RowKit
theorem T3(x:Rc)(hx:x.Ok)(hk:x.kind=1)(hc:x.chk=0)(ea:Nat->Addr)(w:World)(H:Errs 298 Zv w ea):Calls Tryz.prog 120 #[.agg x.list.toArray] w (UZ x w):=by
 have hs:=Rc.size hx
 have hck:=Hd (λW h=>PG x hx hc ea W h)
 have hsz:(Tryz.prog.info? 49).map (·.size)=some x.list.toArray.size:=by rw[hs];kernel_rfl
 have hnums:=(Rc.chk0 hc).2.1
 have hout:x.out=x.head++([b8 (x.name.size:Int)]++(x.name.data.toList++(Y2 x.p.s x.p.n x.p.k x.p.d x.p.t x.p.r++(x.root++(x.file++Yq x.tick))))):=by unfold Rc.out;rw[if_pos hk]
 have hhd:x.head=[1]++Yq x.obj:=by unfold Rc.head;rw[hk];rfl
 have hcf:=Rc.kept x hx 49
 rw[hk] at hcf
 have hlo:=Hd (λW=>VJ x.obj W hx.obj.1 hx.obj.2)
 have hlt:=Hd (λW=>VJ x.tick W hx.tick.1 hx.tick.2)
 have hli:=Hd (λW=>VJ x.id W hx.id.1 hx.id.2)
 have hno:=Hd (XS x.obj)
 have hnt:=Hd (XS x.tick)
 have hni:=Hd (XS x.id)
 obtain⟨hlabt,hbad⟩:=(Rc.chk0 hc).2.2.2 hk
 have hpo:=K9 hbad
 have hsz12:x.name.size<=12:=Ro hlabt
 have hwv:IntKind.u8.wrap (x.name.size:Int)=((b8 (x.name.size:Int)).toNat:Int):=by rw[X8 _ oX];rw[IntKind.wrap_u8];omega
 have hpb:=Hd (λW (h:Errs 298 Zv W ea)=>TO x.p.s x.p.n x.p.k x.p.d x.p.t x.p.r W hpo _ (KX h))
 have hbl:=Hd (show (Y2 x.p.s x.p.n x.p.k x.p.d x.p.t x.p.r).length=9 from rfl)
 have hrf:=Hd (λ(W:World) b h=>HG x hx 49 (W:=W) (b:=b) h)
 have hff:=Hd (λ(W:World) b h=>HV x hx 49 (W:=W) (b:=b) h)
 have hrl:=Hd hx.root
 have hfl:=Hd hx.file
 have hpf:=λ(W:World) (b:Nat) (h:W.heap[b]? = some (.cells x.list.toArray 49 (0,0)))=>ZN h (o:=4) (n:=6) (Rc.sub_p x)
 have i4:(Tryz.prog.info? 45).map (·.size)=some x.p.list.length:=by rw[P6.len];kernel_rfl
 have hup:=Tryz.underlying45
 have hnm:=Hd (show x.name.data.toList.length=x.name.size by simp)
 have hsm:=Hd (show x.name.size<=1000000 by omega)
 obtain⟨PP,hPP⟩:∃ PP,PP=x.p.list.toArray:=⟨_,rfl⟩
 have hpb2:Hid (∀ W,Errs 298 Zv W ea->Calls Tryz.prog 143 #[.agg PP] W λe w2=>∃ b,e=.returned (.tuple #[.slice (some ⟨b,0,none⟩) 9 9,.nilIface])/\ArgB w2 (some ⟨b,0,none⟩) 9 (Y2 x.p.s x.p.n x.p.k x.p.d x.p.t x.p.r)/\Below W.heap.size W w2):=by rw[hPP];exact hpb
 replace hPP:=Hd hPP
 replace hpf:=Hd hpf
 rw[hhd] at hout
 generalize Yq x.obj=NO at*
 generalize Yq x.tick=NT at*
 generalize Yq x.id=NI at*
 generalize b8 (x.name.size:Int)=BN at*
 generalize Y2 x.p.s x.p.n x.p.k x.p.d x.p.t x.p.r=PB at*
 generalize x.root=RB at*
 generalize x.file=FB at*
 generalize x.p.list=lp at*
 clear hlabt hbad hpo hpb
 clear hhd hnums hk hc
 generalize hR:x.list.toArray=R at*
 replace hR:=Hd hR
 replace hcf:=Hd hcf
 replace hout:=Hd hout
 replace H:=Hd H
 have hrow:=Hd (heap_alloc_new w (.cells R 49))
 have hb:=Hd (show Below w.heap.size w (w.alloc (.cells R 49)) from bR.alloc nR _)
 have hzc:=Tryz.underlying49
 obtain⟨X,hX⟩:∃ X,X=x:=⟨_,rfl⟩
 generalize x.obj=vo at*
 generalize x.tick=vt at*
 generalize x.id=vi at*
 generalize x.way=vw at*
 generalize x.index=vx at*
 generalize x.verdict=vv at*
 generalize x.name=vn at*
 clear hx hs
 go_enter Tryz.func120,Tryz.ntmps120
 go_wp2_with (with_reducible refine Ze rfl 49 (.tmp 1) rfl w.heap.size R _ rfl hrow hzc rfl hsz ?_)
 with_reducible refine(hck.out _ (H.out.below hb.out)).mono ?_
 rintro e w2 ⟨rfl,hnew⟩
 have hrow2:=Hd ((hnew.block _ (Zb hrow.out)).trans hrow.out)
 have hb2:=Hd (hb.out.trans (hnew.mono hb.out.size))
 clear hnew hrow hb hck
 go_wp2_with fail
 have k0:=λW h=>(hcf.out _ _ hrow2.out W h).1
 have k1:=λW h=>(hcf.out _ _ hrow2.out W h).2.1
 have hdr:Hid (Grown w2 w2.drew):=Hd (Grown.drew (Grown.refl w2))
 go_cut [5] from 14 to 22 (λs5 wx=>OwnB w2.heap.size wx s5 ([1]++NO)/\Grown w2 wx)
 case first=>
  refine wp_region_held_drew (S:=(Grown w2)) kX hdr.out (λhOn=>?_)
  generalize World.drew w2=wd at*
  refine tk 0 hOn ?_
  refine tk 1 hOn ?_
  refine tk 2 hOn ?_
  refine tk 4 hOn ?_
  refine tk 5 hOn ?_
  refine rds [3,6] ?_
  refine ac (λKz hKz=>?_) ?_
  go_simp
  focus (try go_wp2_with fail)
  (with_reducible refine Z0 (t:=5) ?_)
  intro w5 hx5 hnew
  have hO5:=Hd (VB (x:=1) (base:=w2.heap.size) hx5.out hOn.size)
  (try replace h3:=Hd (h3.out.below hnew))
  clear hx5
  refine hKz.out _ _ (Below.trans hOn (Below.mono hnew (Below.size hOn))) ?_
  clear hKz Kz hOn
  intro hOn
  try clear hnew
  try simp only[Act.put,sL,sZ,sS]
  refine rd 6 (λKz hKz=>?_)
  go_simp
  (with_reducible refine(hlo.out _).mono ?_)
  rintro e w3 ⟨v3,rfl,ho3,hnew⟩
  (try replace hO5:=Hd (OwnB.below hO5.out hnew nR))
  obtain⟨g3,c3,e3,_⟩:=ho3.form (by rw[hno.out];omega)
  subst e3
  obtain⟨a4,c4,e4,h3,_⟩:=ho3.arg
  cases e4
  rw[hno.out]
  replace h3:=Hd h3
  clear ho3
  focus (go_wp2_with fail)
  refine hKz.out _ _ (Below.trans hOn (Below.mono hnew (Below.size hOn))) ?_
  clear hKz Kz hOn
  intro hOn
  try clear hnew
  try simp only[Act.put,sL,sZ,sS]
  refine rd 7 (λKz hKz=>?_)
  rw[if_pos (by rfl)]
  (refine KG (.tmp 17) (.tmp 20) rfl w2.heap.size _ [1] rfl hO5 _ _ NO 8 rfl hno h3 dX dX hOn.size ?_)
  intro v9 w9 ho9 hd9 hm9
  have hS:=Below.grown hOn hd9.out hOn.size (λk hk=>(World.ownsRow.lt hO5.out k hk).1)
  refine hKz.out _ _ hS ?_
  clear hKz Kz hOn hS
  intro hOn
  try simp only[Act.put]
  refine tk 8 hOn ?_
  refine dnE ?_
  rotate_left
  refine ac (λKz hKz=>?_) AllReadyH.nil
  go_simp
  (with_reducible refine(hlo.out _).mono ?_)
  rintro e w3 ⟨v3,rfl,ho3,hnew⟩
  (try replace hO5:=Hd (OwnB.below hO5.out hnew nR))
  obtain⟨g3,c3,e3,_⟩:=ho3.form (by rw[hno.out];omega)
  subst e3
  obtain⟨a4,c4,e4,h3,_⟩:=ho3.arg
  cases e4
  rw[hno.out]
  replace h3:=Hd h3
  clear ho3
  focus (go_wp2_with fail)
  refine hKz.out _ _ (Below.trans hOn (Below.mono hnew (Below.size hOn))) ?_
  clear hKz Kz hOn
  intro hOn
  try clear hnew
  try simp only[Act.put,sL,sZ,sS]
  refine rd 3 (λKz hKz=>?_)
  go_simp
  focus (try go_wp2_with fail)
  (with_reducible refine Z0 (t:=5) ?_)
  intro w5 hx5 hnew
  have hO5:=Hd (VB (x:=1) (base:=w2.heap.size) hx5.out hOn.size)
  (try replace h3:=Hd (h3.out.below hnew))
  clear hx5
  refine hKz.out _ _ (Below.trans hOn (Below.mono hnew (Below.size hOn))) ?_
  clear hKz Kz hOn
  intro hOn
  try clear hnew
  try simp only[Act.put,sL,sZ,sS]
  refine rd 7 (λKz hKz=>?_)
  rw[if_pos (by rfl)]
  (refine KG (.tmp 17) (.tmp 20) rfl w2.heap.size _ [1] rfl hO5 _ _ NO 8 rfl hno h3 dX dX hOn.size ?_)
  intro v9 w9 ho9 hd9 hm9
  have hS:=Below.grown hOn hd9.out hOn.size (λk hk=>(World.ownsRow.lt hO5.out k hk).1)
  refine hKz.out _ _ hS ?_
  clear hKz Kz hOn hS
  intro hOn
  try simp only[Act.put]
  refine tk 8 hOn ?_
  refine dnE ?_
  all_goals
   go_wp2_with fail
   go_meet
   exact⟨ho9.out,hOn⟩
 case rest=>
  obtain⟨ho9,hg9⟩:=hcut
  obtain⟨q0,q1,q2,q3,q4,q5,q6,q7⟩:=hcf.out _ _ hrow2.out wc hg9
  have hP0:([1]++NO).length=9:=by simp[hno.out]
  generalize [1]++NO=P0 at*
  replace hP0:=Hd hP0
  replace hg9:=Hd hg9
  replace ho9:=Hd ho9
  obtain⟨a9,c9,e9,h9,_⟩:=ho9.out.arg
  rw[hP0.out] at e9
  subst e9
  replace h9:=Hd h9
  clear k0 k1 hdr
  go_wp2_with fail
  with_reducible refine(hlt.out _).mono ?_
  rintro e w10 ⟨v10,rfl,ho10,hnew⟩
  obtain⟨a10,c10,rfl,h10,_⟩:=ho10.arg
  rw[hnt.out]
  replace h9:=Hd (h9.out.below hnew)
  replace ho9:=Hd (OwnB.below ho9.out hnew nR)
  replace h10:=Hd h10
  have hg10:=Hd (Grown.trans hg9.out hnew)
  clear hnew ho10 q0 q1 q2 q3 q4 q5 q6 q7
  obtain⟨q0,q1,q2,q3,q4,q5,q6,q7⟩:=hcf.out _ _ hrow2.out w10 hg10.out
  have hrow10:=Hd (T0 hrow2.out hg10.out)
  have hr4:=Hd (hpf.out _ _ hrow10.out)
  have hH10:=Hd (H.out.below (hb2.out.trans (hg10.out.mono hb2.out.size)))
  go_wp2_with ((with_reducible refine wL (.load 45 (.tmp 30)) ?_);refine Q1 rfl 45 (.tmp 30) rfl w.heap.size 4 rfl lp _ hr4.out hup rfl i4 PP hPP ?_)
  with_reducible refine(hpb2.out _ hH10.out).mono ?_
  rintro e w20 ⟨gp,rfl,hp9,hnew⟩
  replace h9:=Hd (h9.out.below hnew)
  replace h10:=Hd (h10.out.below hnew)
  replace hp9:=Hd hp9
  replace hg10:=Hd (Grown.trans hg10.out hnew)
  clear hnew q0 q1 q2 q3 q4 q5 q6 q7 hr4 hrow10 ho9
  obtain⟨q0,q1,q2,q3,q4,q5,q6,q7⟩:=hcf.out _ _ hrow2.out w20 hg10.out
  have hrow20:=Hd (T0 hrow2.out hg10.out)
  have hrr:=Hd (hrf.out _ _ hrow20.out)
  have hff2:=Hd (hff.out _ _ hrow20.out)
  go_wp2_with fail
  have k3:=λW h=>(hcf.out _ _ hrow20.out W h).2.2.2.1
  clear q0 q1 q2 q3 q4 q5 q6 q7
  have hflat1:Hid (1<=([P0,[BN],vn.data.toList,PB,RB,FB,NT]:List (List UInt8)).flatten.length):=Hd (by simp[hP0.out];omega)
  have hflat2:Hid (([P0,[BN],vn.data.toList,PB,RB,FB,NT]:List (List UInt8)).flatten.length<=1000000):=Hd (by simp[hP0.out,hnt.out,hbl.out,hrl.out,hfl.out];omega)
  clear hsz12
  have hraw:=Hd True.intro
  refine Ka kX (λwd hOn=>?_)
  refine tk 0 hOn ?_
  refine tk 1 hOn ?_
  refine tk 2 hOn ?_
  refine tk 3 hOn ?_
  refine tk 4 hOn ?_
  refine tk 6 hOn ?_
  refine tk 7 hOn ?_
  refine tk 9 hOn ?_
  refine tk 10 hOn ?_
  refine tk 11 hOn ?_
  refine tk 12 hOn ?_
  refine tk 13 hOn ?_
  refine tk 14 hOn ?_
  refine tk 17 hOn ?_
  refine rds [5,8] ?_
  refine ac (λKz hKz=>?_) ?_
  go_simp
  focus (try go_wp2_with fail)
  (with_reducible refine Z0 (t:=5) ?_)
  intro w12 hx12 hnew
  have h12:=Hd (Ku (x:=BN) hx12.out)
  have hz:=Hd (Grown.trans hOn hnew)
  replace h9:=Hd (h9.out.below hz.out)
  replace h10:=Hd (h10.out.below hz.out)
  replace hg10:=Hd (Grown.trans hg10.out hz.out)
  replace hp9:=Hd (hp9.out.below hz.out)
  replace hrr:=Hd (hrr.out.below hz.out)
  replace hff2:=Hd (hff2.out.below hz.out)
  (try replace h16:=Hd (h16.out.below hz.out))
  (try replace k3:=Kn k3 hz.out)
  clear hz hx12
  refine hKz.out _ _ (Grown.trans hOn hnew) (λhNext=>?_)
  clear hKz Kz hOn
  refine Qi hNext (λhOn=>?_)
  clear hNext hnew
  try simp only[Act.put,sL,sZ,sS]
  refine rd 8 (λKz hKz=>?_)
  rw[if_pos (by rfl)]
  (with_reducible refine KP (.tmp 42) rfl vn rfl hsm.out ?_)
  intro v16 w16 hm16 hnewh
  have hnew:Grown _ _:=hnewh.out
  clear hnewh
  obtain⟨a16,c16,rfl,h16⟩:=hm16.out.arg
  rw[hnm.out]
  replace h16:=Hd h16
  have hz:=Hd (Grown.trans hOn hnew)
  replace h9:=Hd (h9.out.below hz.out)
  replace h10:=Hd (h10.out.below hz.out)
  replace hg10:=Hd (Grown.trans hg10.out hz.out)
  replace hp9:=Hd (hp9.out.below hz.out)
  replace hrr:=Hd (hrr.out.below hz.out)
  replace hff2:=Hd (hff2.out.below hz.out)
  (try replace h12:=Hd (h12.out.below hz.out))
  (try replace k3:=Kn k3 hz.out)
  clear hz hm16
  refine hKz.out _ _ (Grown.trans hOn hnew) (λhNext=>?_)
  clear hKz Kz hOn
  refine Qi hNext (λhOn=>?_)
  clear hNext hnew
  try simp only[Act.put,sL,sZ,sS]
  refine rd 15 (λKz hKz=>?_)
  go_simp
  focus (try go_wp2_with fail)
  (with_reducible refine Z0 (t:=24) ?_)
  intro w13 hx13 hnew
  have hz:=Hd (Grown.trans hOn hnew)
  replace h9:=Hd (h9.out.below hz.out)
  replace h10:=Hd (h10.out.below hz.out)
  replace hg10:=Hd (Grown.trans hg10.out hz.out)
  replace hp9:=Hd (hp9.out.below hz.out)
  replace hrr:=Hd (hrr.out.below hz.out)
  replace hff2:=Hd (hff2.out.below hz.out)
  replace h12:=Hd (h12.out.below hz.out)
  replace h16:=Hd (h16.out.below hz.out)
  have hrows:=Hd (Ry hx13.out hP0.out rfl hnm.out hbl.out hrl.out hfl.out hnt.out h9.out h12.out h16.out hp9.out hrr.out hff2.out h10.out)
  clear hz hx13
  refine hKz.out _ _ (Grown.trans hOn hnew) (λhNext=>?_)
  clear hKz Kz hOn
  refine Qi hNext (λhOn=>?_)
  clear hNext hnew
  try simp only[Act.put,sL,sZ,sS]
  refine rd 16 (λKz hKz=>?_)
  go_simp
  (with_reducible refine(Nl _ [P0,[BN],vn.data.toList,PB,RB,FB,NT] 7 _ (hrows.out.below hOn) rfl dX hflat1.out hflat2.out).mono ?_)
  rintro e w14 ⟨v14,rfl,ho14,hnew⟩
  have hfo:=Hd (ho14.mono (show w.heap.size<=_ from Nat.le_trans hb2.out.size (Nat.le_trans hg10.out.size hOn.size)))
  replace hg10:=Hd (Grown.trans hg10.out (Grown.trans hOn hnew))
  clear hrows
  focus (go_wp2_with fail)
  refine hKz.out _ _ (Grown.trans hOn hnew) (λhNext=>?_)
  clear hKz Kz hOn
  refine Qi hNext (λhOn=>?_)
  clear hNext hnew
  try simp only[Act.put,sL,sZ,sS]
  refine tk 18 hOn ?_
  refine tk 19 hOn ?_
  refine dnE ?_
  rotate_left
  refine ac (λKz hKz=>?_) AllReadyH.nil
  rw[if_pos (by rfl)]
  (with_reducible refine KP (.tmp 42) rfl vn rfl hsm.out ?_)
  intro v16 w16 hm16 hnewh
  have hnew:Grown _ _:=hnewh.out
  clear hnewh
  obtain⟨a16,c16,rfl,h16⟩:=hm16.out.arg
  rw[hnm.out]
  replace h16:=Hd h16
  have hz:=Hd (Grown.trans hOn hnew)
  replace h9:=Hd (h9.out.below hz.out)
  replace h10:=Hd (h10.out.below hz.out)
  replace hg10:=Hd (Grown.trans hg10.out hz.out)
  replace hp9:=Hd (hp9.out.below hz.out)
  replace hrr:=Hd (hrr.out.below hz.out)
  replace hff2:=Hd (hff2.out.below hz.out)
  (try replace h12:=Hd (h12.out.below hz.out))
  (try replace k3:=Kn k3 hz.out)
  clear hz hm16
  refine hKz.out _ _ (Grown.trans hOn hnew) (λhNext=>?_)
  clear hKz Kz hOn
  refine Qi hNext (λhOn=>?_)
  clear hNext hnew
  try simp only[Act.put,sL,sZ,sS]
  refine rd 5 (λKz hKz=>?_)
  go_simp
  focus (try go_wp2_with fail)
  (with_reducible refine Z0 (t:=5) ?_)
  intro w12 hx12 hnew
  have h12:=Hd (Ku (x:=BN) hx12.out)
  have hz:=Hd (Grown.trans hOn hnew)
  replace h9:=Hd (h9.out.below hz.out)
  replace h10:=Hd (h10.out.below hz.out)
  replace hg10:=Hd (Grown.trans hg10.out hz.out)
  replace hp9:=Hd (hp9.out.below hz.out)
  replace hrr:=Hd (hrr.out.below hz.out)
  replace hff2:=Hd (hff2.out.below hz.out)
  (try replace h16:=Hd (h16.out.below hz.out))
  (try replace k3:=Kn k3 hz.out)
  clear hz hx12
  refine hKz.out _ _ (Grown.trans hOn hnew) (λhNext=>?_)
  clear hKz Kz hOn
  refine Qi hNext (λhOn=>?_)
  clear hNext hnew
  try simp only[Act.put,sL,sZ,sS]
  refine rd 15 (λKz hKz=>?_)
  go_simp
  focus (try go_wp2_with fail)
  (with_reducible refine Z0 (t:=24) ?_)
  intro w13 hx13 hnew
  have hz:=Hd (Grown.trans hOn hnew)
  replace h9:=Hd (h9.out.below hz.out)
  replace h10:=Hd (h10.out.below hz.out)
  replace hg10:=Hd (Grown.trans hg10.out hz.out)
  replace hp9:=Hd (hp9.out.below hz.out)
  replace hrr:=Hd (hrr.out.below hz.out)
  replace hff2:=Hd (hff2.out.below hz.out)
  replace h12:=Hd (h12.out.below hz.out)
  replace h16:=Hd (h16.out.below hz.out)
  have hrows:=Hd (Ry hx13.out hP0.out rfl hnm.out hbl.out hrl.out hfl.out hnt.out h9.out h12.out h16.out hp9.out hrr.out hff2.out h10.out)
  clear hz hx13
  refine hKz.out _ _ (Grown.trans hOn hnew) (λhNext=>?_)
  clear hKz Kz hOn
  refine Qi hNext (λhOn=>?_)
  clear hNext hnew
  try simp only[Act.put,sL,sZ,sS]
  refine rd 16 (λKz hKz=>?_)
  go_simp
  (with_reducible refine(Nl _ [P0,[BN],vn.data.toList,PB,RB,FB,NT] 7 _ (hrows.out.below hOn) rfl dX hflat1.out hflat2.out).mono ?_)
  rintro e w14 ⟨v14,rfl,ho14,hnew⟩
  have hfo:=Hd (ho14.mono (show w.heap.size<=_ from Nat.le_trans hb2.out.size (Nat.le_trans hg10.out.size hOn.size)))
  replace hg10:=Hd (Grown.trans hg10.out (Grown.trans hOn hnew))
  clear hrows
  focus (go_wp2_with fail)
  refine hKz.out _ _ (Grown.trans hOn hnew) (λhNext=>?_)
  clear hKz Kz hOn
  refine Qi hNext (λhOn=>?_)
  clear hNext hnew
  try simp only[Act.put,sL,sZ,sS]
  refine tk 18 hOn ?_
  refine tk 19 hOn ?_
  refine dnE ?_
  all_goals
   have hfin:=Hd (hb2.out.trans ((Grown.trans hg10.out hOn).mono hb2.out.size))
   clear hOn
   go_wp2_with fail
   go_ret2
   exact⟨_,rfl,by rw[hout.out];simpa using hfo.out,hfin.out⟩
def Hi(w:World)(n:Nat)(e:Ending)(w':World):Prop:=
 ∃ l V,e=.returned (.tuple #[.pointer (some ⟨l,0,none⟩),.pointer (some ⟨V.B,0,none⟩)])/\LdM w.heap.size w' l V (LP.new n)/\V.mn<=20000/\Below w.heap.size w w'
theorem Tj(n:Nat)(w:World)(h1:1<=n)(hn:n<=1000)(e:Nat->Addr)(hE:DErr w e)(hK:ShaK w)(hF:ShaF w)(ea:Nat->Addr)(H:Errs 298 Zv w ea) :
  Calls Tryz.prog 21 #[.int .i64 (n:Int)] w (Hi w n):=by
 have hnw:=Hd (TB (n:Int) oX oX w)
 have hd:=Px (n:Int) w w.heap.size nR
 have hB2:13<w.heap.size:=World.block_lt_of_cell? w _ hE.power
 have hb1:Below w.heap.size w ((w.alloc (.map #[] 0)).alloc (.cells (ZW (n:Int) w.heap.size (.slice none 0 0) false 0 false) 120)):=(bR.alloc nR _).alloc sX _
 generalize hW1:(w.alloc (.map #[] 0)).alloc (.cells (ZW (n:Int) w.heap.size (.slice none 0 0) false 0 false) 120)=w1 at*
 have hBE:13≠w.heap.size+1:=oX
 have hlo:=Hd (NM n hd hb1.size h1 hn dX e hBE (λW hW=>hE.below (hb1.trans hW)) (hK.below hb1) (hF.below hb1) ea (H.below hb1) (λW hW=>H.below (hb1.trans hW)))
 replace hb1:=Hd hb1
 replace hW1:=Hd hW1
 clear hd hBE hB2 hE hK hF H h1 hn
 go_enter Tryz.func21,Tryz.ntmps21
 go_wp2_with fail
 with_reducible refine hnw.out.mono ?_
 rintro x w' ⟨rfl,hq⟩
 obtain rfl:w1=w':=hq.symm
 clear hq hnw hW1
 go_wp2_with fail
 with_reducible refine hlo.out.mono ?_
 clear hlo
 rintro x w2 ⟨l,V,rfl,hL,hVB,hVm,hmn,hb2⟩
 have hB2:=Hd (hb1.out.trans hb2)
 replace hL:=Hd hL
 go_wp2_with fail
 go_ret2
 exact⟨l,V,by rw[hVB];rfl,hL.out,oX,hB2.out⟩
def rcA:Rc:=Jj 0 ⟨#[97]⟩ ⟨3,0,1,1,1,0⟩ (List.replicate 32 0) (List.replicate 32 0) 0
theorem PC:rcA.Ok:=⟨dX,dX,dX,dX,⟨dX,dX,dX,dX,dX,dX⟩,dX,dX,dX,dX,dX,dX⟩
theorem Nh:Zr ⟨[],[]⟩ rcA=(⟨[rcA.it],[]⟩,0):=kX
def rcB:Rc:=Jj 1 ⟨#[97]⟩ ⟨3,0,1,1,1,0⟩ (List.replicate 32 0) (List.replicate 32 0) 0
theorem PF:rcB.Ok:=⟨dX,dX,dX,dX,⟨dX,dX,dX,dX,dX,dX⟩,dX,dX,dX,dX,dX,dX⟩
theorem R6:(Zr ⟨[rcA.it],[]⟩ rcB).2=10:=kX
theorem Uw:rcA.out.length=92:=kX
theorem LdM.powB{base:Nat}{w:World}{l:Nat}{V:LV}{P:LP}(h:LdM base w l V P)(hb:13<base):13≠V.B:=λe=>by
 have:=(h.lt V.B (.inr (.inr (.inr (.inr (.inl rfl)))))).1
 omega
theorem TH{base:Nat}{w:World}{l:Nat}{V:LV}{P:LP}(h:LdM base w l V P)(hb:base<=w.heap.size)(x:Rc)(hx:x.Ok)(l1:P.m.its.length<=1000)(l2:P.m.ens.length<=1000)(hub:∀ y∈P.m.its,y.u<=1000000/\y.r<=1000000)(ea:Nat->Addr)(H:Errs 298 Zv w ea)(hn:(Zr P.m x).2=0)(hk1:x.kind=1)
  (nn:Nat) (hG:Good P.p nn P.recs) (hnn:nn<=1000) (hmn:V.mn<=50000) (hpl : -200000<=P.p.l/\P.p.l<=200000) (hd:P.dead=false) (e:Nat->Addr) (hE:∀ W,Below base w W->DErr W e) (hK:ShaK w) (hF:ShaF w) (hKb:∀ W,Below base w W->ShaK W/\ShaF W) (hpw:13<base) (hfit:Zh P.recs+(34+x.out.length)<=64*nn) (h1o:1<=x.out.length) (h400:x.out.length<=400) (h2:P.n % 2=0) (hn2:P.n<=1000000) (hps:P.ps.length<=1000000) :
  Calls Tryz.prog 81 #[.pointer (some ⟨l,0,none⟩),.agg x.list.toArray] w (Kp base w l V P nn (Zr P.m x).1 x.out (P.ps++[QJ x.out])):=by
 refine Py h hb x hx l1 l2 hub ea H hn nn _ (λW hW=>T3 x hx hk1 (NK hn) ea W (H.below hW)) (λW a c hW hA hAo=>?_) (λW a c hW hf hA=>?_)
 ·have hWb:Below base w W:=hW.mono hb
  have hj:=(h.below hW).jd
  rw[hd] at hj
  have hlt:=λk hk=>(h.lt k hk).2
  exact PV hj (Nat.le_trans hb hW.size) nn hG hnn hmn hpl e (h.powB hpw) (λW' hW'=>hE W' (hWb.trans hW')) (hKb W hWb).1 (hKb W hWb).2 x.out h1o h400 hfit a c hA (λb o s eq=>by
   obtain⟨q1,q2⟩:=hAo b o s eq
   exact⟨λhh=>by have:=hlt b (.inr (.inr (.inr (.inl hh))));omega,λhh=>by have:=hlt b (.inr (.inr (.inr (.inr hh))));omega,q2⟩)
 ·exact KH hf (Nat.le_trans hb hW.size) h2 hn2 hps a c x.out hA oX (hKb W hW).1 (hKb W hW).2
theorem GZ(w:World)(e:Nat->Addr)(hE:DErr w e)(hK:ShaK w)(hF:ShaF w)(ea:Nat->Addr)(H:Errs 298 Zv w ea):Calls Tryz.prog 7 #[] w λx w'=>x=.returned (.bool true)/\Below w.heap.size w w':=by
 have hfr:Calls Tryz.prog 21 #[.int .i64 20] w (Hi w 20):=Tj 20 w dX dX e hE hK hF ea H
 replace hfr:=Hd hfr
 have hpw:13<w.heap.size:=World.block_lt_of_cell? w _ hE.power
 have hKb:∀ W,Below w.heap.size w W->ShaK W/\ShaF W:=λW hW=>⟨hK.below hW,hF.below hW⟩
 have hEb:∀ W,Below w.heap.size w W->DErr W e:=λW hW=>hE.below hW
 have hHb:∀ W,Below w.heap.size w W->Errs 298 Zv W ea:=λW hW=>H.below hW
 have hA1:=Hd (λ(w1:World) (l:Nat) (V:LV) (hb1:Below w.heap.size w w1) (h:LdM w.heap.size w1 l V (LP.new 20)) (hmn:V.mn<=20000)=>show Calls Tryz.prog 36 #[.pointer (some ⟨l,0,none⟩),.string ⟨#[97]⟩,.agg #[.int .i64 3,.int .i64 0,.int .i64 1,.int .i64 1,.int .i64 1,.int .i64 0],.agg #[.int .u8 0,.int .u8 0,.int .u8 0,.int .u8 0,.int .u8 0,.int .u8 0,.int .u8 0,.int .u8 0,.int .u8 0,.int .u8 0,.int .u8 0,.int .u8 0,.int .u8 0,.int .u8 0,.int .u8 0,.int .u8 0,.int .u8 0,.int .u8 0,.int .u8 0,.int .u8 0,.int .u8 0,.int .u8 0,.int .u8 0,.int .u8 0,.int .u8 0,.int .u8 0,.int .u8 0,.int .u8 0,.int .u8 0,.int .u8 0,.int .u8 0,.int .u8 0],.agg #[.int .u8 0,.int .u8 0,.int .u8 0,.int .u8 0,.int .u8 0,.int .u8 0,.int .u8 0,.int .u8 0,.int .u8 0,.int .u8 0,.int .u8 0,.int .u8 0,.int .u8 0,.int .u8 0,.int .u8 0,.int .u8 0,.int .u8 0,.int .u8 0,.int .u8 0,.int .u8 0,.int .u8 0,.int .u8 0,.int .u8 0,.int .u8 0,.int .u8 0,.int .u8 0,.int .u8 0,.int .u8 0,.int .u8 0,.int .u8 0,.int .u8 0,.int .u8 0],.int .i64 0] w1 (λe w'=>e=.returned (.tuple #[.int .i64 0,.nilIface])/\∃ W,Below w1.heap.size w1 W/\Kp w.heap.size W l V (LP.new 20) 20 ⟨[rcA.it],[]⟩ rcA.out ([]++[QJ rcA.out]) (.returned .nilIface) w') from
  P7 h ⟨#[97]⟩ ⟨3,0,1,1,1,0⟩ (List.replicate 32 0) (List.replicate 32 0) 0 dX dX (λW e w'=>Kp w.heap.size W l V (LP.new 20) 20 ⟨[rcA.it],[]⟩ rcA.out ([]++[QJ rcA.out]) e w') (λW e w' hq=>hq.1) (λW hW=>by
   have hbW:Below w.heap.size w W:=hb1.trans (hW.mono hb1.size)
   have:=TH (h.below hW) hbW.size rcA PC dX dX (λy hy=>absurd hy List.not_mem_nil) ea (hHb W hbW) (by show (Zr ⟨[],[]⟩ rcA).2=0;rw[Nh]) rfl 20 (Gk 20) dX oX ⟨by show (-200000:Int)<=0;decide,by show (0:Int)<=200000;decide⟩ rfl e (λW' hW'=>hEb W' (hbW.trans hW')) (hKb W hbW).1 (hKb W hbW).2 (λW' hW'=>hKb W' (hbW.trans hW')) hpw (by rw[Uw];decide) (by rw[Uw];decide) (by rw[Uw];decide) rfl dX dX
   rw[show (Zr (LP.new 20).m rcA).1=(⟨[rcA.it],[]⟩:St) from by show (Zr ⟨[],[]⟩ rcA).1=_;rw[Nh]] at this
   exact this))
 have hA2:=Hd (λ(w1:World) (l:Nat) (V:LV) (P:LP) (hb1:Below w.heap.size w w1) (h:LdM w.heap.size w1 l V P) (hm:P.m=⟨[rcA.it],[]⟩)=>show Calls Tryz.prog 36 #[.pointer (some ⟨l,0,none⟩),.string ⟨#[97]⟩,.agg #[.int .i64 3,.int .i64 0,.int .i64 1,.int .i64 1,.int .i64 1,.int .i64 0],.agg #[.int .u8 0,.int .u8 0,.int .u8 0,.int .u8 0,.int .u8 0,.int .u8 0,.int .u8 0,.int .u8 0,.int .u8 0,.int .u8 0,.int .u8 0,.int .u8 0,.int .u8 0,.int .u8 0,.int .u8 0,.int .u8 0,.int .u8 0,.int .u8 0,.int .u8 0,.int .u8 0,.int .u8 0,.int .u8 0,.int .u8 0,.int .u8 0,.int .u8 0,.int .u8 0,.int .u8 0,.int .u8 0,.int .u8 0,.int .u8 0,.int .u8 0,.int .u8 0],.agg #[.int .u8 0,.int .u8 0,.int .u8 0,.int .u8 0,.int .u8 0,.int .u8 0,.int .u8 0,.int .u8 0,.int .u8 0,.int .u8 0,.int .u8 0,.int .u8 0,.int .u8 0,.int .u8 0,.int .u8 0,.int .u8 0,.int .u8 0,.int .u8 0,.int .u8 0,.int .u8 0,.int .u8 0,.int .u8 0,.int .u8 0,.int .u8 0,.int .u8 0,.int .u8 0,.int .u8 0,.int .u8 0,.int .u8 0,.int .u8 0,.int .u8 0,.int .u8 0],.int .i64 0] w1 (λe w'=>∃ v,e=.returned (.tuple #[.int .i64 0,v])/\ErrIs ea w' v 10/\Below w1.heap.size w1 w') from
  R4 h ⟨#[97]⟩ ⟨3,0,1,1,1,0⟩ (List.replicate 32 0) (List.replicate 32 0) 0 dX dX ea 10 dX (λW hW=>by
   have hbW:Below w.heap.size w W:=hb1.trans (hW.mono hb1.size)
   have h2:(Zr P.m rcB).2=10:=by rw[hm];exact R6
   have:=RH (h.below hW) rcB PF (by rw[hm];decide) (by rw[hm];decide) (λy hy=>by rw[hm] at hy;rw[List.mem_singleton.1 hy];exact⟨dX,dX⟩) ea (hHb W hbW) (by rw[h2];decide)
   rw[h2] at this
   rw[hm]
   exact this))
 replace hHb:=Hd hHb
 clear hE hK hF H hpw hKb hEb
 go_enter Tryz.func7,Tryz.ntmps7
 go_wp2_with fail
 with_reducible refine hfr.out.mono ?_
 clear hfr
 rintro x w1 ⟨l,V,rfl,hL1,hmn1,hb1⟩
 obtain⟨w2,hw2⟩:∃ w2,w2=w1.alloc (.cells #[.int .i64 3,.int .i64 0,.int .i64 1,.int .i64 1,.int .i64 1,.int .i64 0] 45):=⟨_,rfl⟩
 have hG2:Below w1.heap.size w1 w2:=by rw[hw2];exact bR.alloc nR _
 have aP2:w2.heap[w1.heap.size]? = some (.cells #[.int .i64 3,.int .i64 0,.int .i64 1,.int .i64 1,.int .i64 1,.int .i64 0] 45 (0,0)):=by rw[hw2];exact heap_alloc_new w1 _
 have hB2:Below w.heap.size w w2:=hb1.trans (hG2.mono hb1.size)
 have hc1:=Hd (hA1.out w2 l V hB2 (hL1.below hG2) hmn1)
 have hlt:=Hd (λk (hk:LdD l V k)=>(hL1.lt k hk).2)
 have hL2:=Hd (hL1.below hG2)
 have iP:(Tryz.prog.info? 45).map (·.size)=some (#[.int .i64 3,.int .i64 0,.int .i64 1,.int .i64 1,.int .i64 1,.int .i64 0]:Array Value).size:=kX
 replace hw2:=Hd hw2
 replace aP2:=Hd aP2
 replace hB2:=Hd hB2
 clear hA1 hL1 hb1 hG2 hmn1
 go_wp2_with fail
 rw[<-hw2.out]
 with_reducible refine hc1.out.mono ?_
 clear hc1
 rintro x w3 ⟨rfl,W,hW,hput⟩
 obtain⟨-,V',p',hst,-,hVB,-,-,-,-,-,-⟩:=hput
 have hLW:=hL2.out.below hW
 have hBW:=hB2.out.trans (hW.mono hB2.out.size)
 have hB3:=hBW.trans (hst.below hLW hBW.size)
 have aP3:=Hd (hst.only.heap ((hW.block _ (Zb aP2.out)).trans aP2.out) (λhd=>by have:=hlt.out _ hd;omega))
 have hL3:=hst.ok
 have hc2:=Hd (hA2.out w3 l V' _ hB3 hL3 rfl)
 replace hL3:=Hd hL3
 replace hB3:=Hd hB3
 clear hst hLW hBW hW hA2
 go_wp2_with ((with_reducible refine wL (.load 45 (.tmp 3)) ?_);refine Ze rfl 45 (.tmp 3) rfl w1.heap.size #[.int .i64 3,.int .i64 0,.int .i64 1,.int .i64 1,.int .i64 1,.int .i64 0] _ rfl aP3 Tryz.underlying45 rfl iP ?_)
 with_reducible refine hc2.out.mono ?_
 clear hc2
 rintro x w4 ⟨v,rfl,hv,hb4⟩
 have hB4:=hB3.out.trans (hb4.mono hB3.out.size)
 have hL4:=Hd (hL3.out.below hb4)
 have hnum:=Hd (HS hv (hHb.out w4 hB4))
 replace hB4:=Hd hB4
 clear hv hb4
 go_wp2_with fail
 with_reducible refine hnum.out.mono ?_
 clear hnum
 rintro x w5 ⟨rfl,hb5⟩
 have hB5:=Hd (hB4.out.trans (hb5.mono hB4.out.size))
 have hsp:=Hd (Hr (hL4.out.below hb5) (by show 1<=1000;decide) (by show 0<=1000;decide))
 clear hb5
 go_wp2_with fail
 with_reducible refine hsp.out.mono ?_
 clear hsp
 rintro x w6 ⟨v6,v6',rfl,hrI,hrE,hb6⟩
 obtain⟨a6,c6,hv6,_⟩:=hrI.form
 replace hv6:v6=.slice a6 1 c6:=hv6
 subst hv6
 obtain⟨a7,c7,hv7,_⟩:=hrE.form
 replace hv7:v6'=.slice a7 0 c7:=hv7
 subst hv7
 have hfd:∀ W,(Instr.field 28 (.agg #[.slice a6 1 c6,.slice a7 0 c7]) 0).run Tryz.prog W=.ok (.slice a6 1 c6) W:=λW=>by kernel_rfl
 have hB6:=Hd (hB5.out.trans (hb6.mono hB5.out.size))
 clear hb6 hrI hrE
 go_wp2_with fail
 go_ret
 exact⟨rfl,hB6.out⟩
end Go.Proofs.YtpdhceiodgnbmaaGreatDoor
