import Derived.Test.YtpdhceiodgnbmaaGreatDoorF0Safe21Said
import Derived.Test.YtpdhceiodgnbmaaGreatDoorF1Safe21Said
import Derived.Test.YtpdhceiodgnbmaaGreatDoorF22Safe21Said
import Derived.Test.YtpdhceiodgnbmaaGreatDoorF28Safe21Said
import Derived.Test.YtpdhceiodgnbmaaGreatDoorF15Safe21Said
import Derived.Test.YtpdhceiodgnbmaaGreatDoorF27Safe21Said
set_option linter.unusedVariables false
set_option linter.unusedSimpArgs false
set_option linter.unnecessarySimpa false
set_option maxRecDepth 100000
set_option maxHeartbeats 8000000
namespace Go.Proofs.YtpdhceiodgnbmaaGreatDoor
open Go.RowKit
theorem LN(x:Rc)(hx:x.Ok)(hk:x.kind=2)(hc:x.chk=0)(ea:Nat->Addr)(w:World)(H:Errs 298 errGs w ea):Calls Tryz.prog 120 #[.agg x.list.toArray] w (Xg x w):=by
 have hs:=Rc.size hx
 have hck:=Hd (λW h=>VY x hx hc ea W h)
 have hsz:(Tryz.prog.info? 49).map (·.size)=some x.list.toArray.size:=by rw[hs];kernel_rfl
 have hnums:=(Rc.chk0 hc).2.1
 have hout:x.out=x.head++(Zk x.id++([b8 x.way]++((Zk x.index).drop 4++Zk x.tick))):=by unfold Rc.out;rw[if_neg oX,if_pos hk]
 have hhd:x.head=[2]++Zk x.obj:=by unfold Rc.head;rw[hk];rfl
 have hcf:=Rc.kept x hx 49
 rw[hk] at hcf
 have hlo:=Hd (λW=>Q9 x.obj W hx.obj.1 hx.obj.2)
 have hlt:=Hd (λW=>Q9 x.tick W hx.tick.1 hx.tick.2)
 have hli:=Hd (λW=>Q9 x.id W hx.id.1 hx.id.2)
 have hno:=Hd (Zm x.obj)
 have hnt:=Hd (Zm x.tick)
 have hni:=Hd (Zm x.id)
 have hv:1<=x.way/\x.way<=2:=by
  unfold Rc.nums XS at hnums
  rw[hk] at hnums
  simp[inB] at hnums
  omega
 have hwv:IntKind.u8.wrap x.way=((b8 x.way).toNat:Int):=by rw[Q0 _ oX];rw[IntKind.wrap_u8];omega
 have hlx:=Hd (λW=>Ws x.index W hx.index.1 hx.index.2)
 have hnx:((Zk x.index).drop 4).length=4:=by rw[List.length_drop,Zm]
 rw[hhd] at hout
 generalize Zk x.obj=NO at*
 generalize Zk x.tick=NT at*
 generalize Zk x.id=NI at*
 generalize b8 x.way=B1 at*
 generalize (Zk x.index).drop 4=NX at*
 replace hnx:=Hd hnx
 clear hv
 clear hhd hnums hk hc
 generalize hR:x.list.toArray=R at*
 replace hR:=Hd hR
 replace hcf:=Hd hcf
 replace hout:=Hd hout
 replace H:=Hd H
 have hrow:=Hd (heap_alloc_new w (.cells R 49))
 have hb:=Hd (show Below w.heap.size w (w.alloc (.cells R 49)) from bR.alloc nR _)
 have hzc:=Tryz.underlying49
 obtain⟨X,hX⟩:∃ X,X=x:=⟨_,rfl⟩
 generalize x.obj=vo at*
 generalize x.tick=vt at*
 generalize x.id=vi at*
 generalize x.way=vw at*
 generalize x.index=vx at*
 generalize x.verdict=vv at*
 generalize x.name=vn at*
 clear hx hs
 go_enter Tryz.func120,Tryz.ntmps120
 go_wp2_with (with_reducible refine Zd rfl 49 (.tmp 1) rfl w.heap.size R _ rfl hrow hzc rfl hsz ?_)
 with_reducible refine(hck.out _ (H.out.below hb.out)).mono ?_
 rintro e w2 ⟨rfl,hnew⟩
 have hrow2:=Hd ((hnew.block _ (Zb hrow.out)).trans hrow.out)
 have hb2:=Hd (hb.out.trans (hnew.mono hb.out.size))
 clear hnew hrow hb hck
 go_wp2_with fail
 have k0:=λW h=>(hcf.out _ _ hrow2.out W h).1
 have k1:=λW h=>(hcf.out _ _ hrow2.out W h).2.1
 have hdr:Hid (Grown w2 w2.drew):=Hd (Grown.drew (Grown.refl w2))
 go_cut [5] from 14 to 22 (λs5 wx=>OwnB w2.heap.size wx s5 ([2]++NO)/\Grown w2 wx)
 case first=>
  refine wp_region_held_drew (S:=(Grown w2)) kX hdr.out (λhOn=>?_)
  generalize World.drew w2=wd at*
  refine tk 0 hOn ?_
  refine tk 1 hOn ?_
  refine tk 2 hOn ?_
  refine tk 4 hOn ?_
  refine tk 5 hOn ?_
  refine rds [3,6] ?_
  refine ac (λKz hKz=>?_) ?_
  go_simp
  focus (try go_wp2_with fail)
  (with_reducible refine Zq (t:=5) ?_)
  intro w5 hx5 hnew
  have hO5:=Hd (Y6 (x:=2) (base:=w2.heap.size) hx5.out hOn.size)
  (try replace h3:=Hd (h3.out.below hnew))
  clear hx5
  refine hKz.out _ _ (Below.trans hOn (Below.mono hnew (Below.size hOn))) ?_
  clear hKz Kz hOn
  intro hOn
  try clear hnew
  try simp only[Act.put,sL,sZ,sS]
  refine rd 6 (λKz hKz=>?_)
  go_simp
  (with_reducible refine(hlo.out _).mono ?_)
  rintro e w3 ⟨v3,rfl,ho3,hnew⟩
  (try replace hO5:=Hd (OwnB.below hO5.out hnew nR))
  obtain⟨g3,c3,e3,_⟩:=ho3.form (by rw[hno.out];omega)
  subst e3
  obtain⟨a4,c4,e4,h3,_⟩:=ho3.arg
  cases e4
  rw[hno.out]
  replace h3:=Hd h3
  clear ho3
  focus (go_wp2_with fail)
  refine hKz.out _ _ (Below.trans hOn (Below.mono hnew (Below.size hOn))) ?_
  clear hKz Kz hOn
  intro hOn
  try clear hnew
  try simp only[Act.put,sL,sZ,sS]
  refine rd 7 (λKz hKz=>?_)
  rw[if_pos (by rfl)]
  (refine Xa (.tmp 17) (.tmp 20) rfl w2.heap.size _ [2] rfl hO5 _ _ NO 8 rfl hno h3 dX dX hOn.size ?_)
  intro v9 w9 ho9 hd9 hm9
  have hS:=Below.grown hOn hd9.out hOn.size (λk hk=>(World.ownsRow.lt hO5.out k hk).1)
  refine hKz.out _ _ hS ?_
  clear hKz Kz hOn hS
  intro hOn
  try simp only[Act.put]
  refine tk 8 hOn ?_
  refine dnE ?_
  rotate_left
  refine ac (λKz hKz=>?_) AllReadyH.nil
  go_simp
  (with_reducible refine(hlo.out _).mono ?_)
  rintro e w3 ⟨v3,rfl,ho3,hnew⟩
  (try replace hO5:=Hd (OwnB.below hO5.out hnew nR))
  obtain⟨g3,c3,e3,_⟩:=ho3.form (by rw[hno.out];omega)
  subst e3
  obtain⟨a4,c4,e4,h3,_⟩:=ho3.arg
  cases e4
  rw[hno.out]
  replace h3:=Hd h3
  clear ho3
  focus (go_wp2_with fail)
  refine hKz.out _ _ (Below.trans hOn (Below.mono hnew (Below.size hOn))) ?_
  clear hKz Kz hOn
  intro hOn
  try clear hnew
  try simp only[Act.put,sL,sZ,sS]
  refine rd 3 (λKz hKz=>?_)
  go_simp
  focus (try go_wp2_with fail)
  (with_reducible refine Zq (t:=5) ?_)
  intro w5 hx5 hnew
  have hO5:=Hd (Y6 (x:=2) (base:=w2.heap.size) hx5.out hOn.size)
  (try replace h3:=Hd (h3.out.below hnew))
  clear hx5
  refine hKz.out _ _ (Below.trans hOn (Below.mono hnew (Below.size hOn))) ?_
  clear hKz Kz hOn
  intro hOn
  try clear hnew
  try simp only[Act.put,sL,sZ,sS]
  refine rd 7 (λKz hKz=>?_)
  rw[if_pos (by rfl)]
  (refine Xa (.tmp 17) (.tmp 20) rfl w2.heap.size _ [2] rfl hO5 _ _ NO 8 rfl hno h3 dX dX hOn.size ?_)
  intro v9 w9 ho9 hd9 hm9
  have hS:=Below.grown hOn hd9.out hOn.size (λk hk=>(World.ownsRow.lt hO5.out k hk).1)
  refine hKz.out _ _ hS ?_
  clear hKz Kz hOn hS
  intro hOn
  try simp only[Act.put]
  refine tk 8 hOn ?_
  refine dnE ?_
  all_goals
   go_wp2_with fail
   go_meet
   exact⟨ho9.out,hOn⟩
 case rest=>
  obtain⟨ho9,hg9⟩:=hcut
  obtain⟨q0,q1,q2,q3,q4,q5,q6,q7⟩:=hcf.out _ _ hrow2.out wc hg9
  have hP0:([2]++NO).length=9:=by simp[hno.out]
  generalize [2]++NO=P0 at*
  replace hP0:=Hd hP0
  replace hg9:=Hd hg9
  replace ho9:=Hd ho9
  obtain⟨a9,c9,e9,h9,_⟩:=ho9.out.arg
  rw[hP0.out] at e9
  subst e9
  replace h9:=Hd h9
  clear k0 k1 hdr
  go_wp2_with fail
  with_reducible refine(hlt.out _).mono ?_
  rintro e w10 ⟨v10,rfl,ho10,hnew⟩
  obtain⟨a10,c10,rfl,h10,_⟩:=ho10.arg
  rw[hnt.out]
  replace h9:=Hd (h9.out.below hnew)
  replace ho9:=Hd (OwnB.below ho9.out hnew nR)
  replace h10:=Hd h10
  have hg10:=Hd (Grown.trans hg9.out hnew)
  clear hnew ho10 q0 q1 q2 q3 q4 q5 q6 q7
  obtain⟨q0,q1,q2,q3,q4,q5,q6,q7⟩:=hcf.out _ _ hrow2.out w10 hg10.out
  have hrow10:=Hd (H2 hrow2.out hg10.out)
  go_wp2_with fail
  have k2:=λW h=>(hcf.out _ _ hrow10.out W h).2.2.1
  have kv:=λW h=>(hcf.out _ _ hrow10.out W h).2.2.2.2.1
  have kx:=λW h=>(hcf.out _ _ hrow10.out W h).2.2.2.2.2.1
  clear q0 q1 q2 q3 q4 q5 q6 q7
  have hflat1:Hid (1<=([P0,NI,[B1],NX,NT]:List (List UInt8)).flatten.length):=Hd (by simp[hP0.out,hni.out,hnt.out,hnx.out])
  have hflat2:Hid (([P0,NI,[B1],NX,NT]:List (List UInt8)).flatten.length<=1000000):=Hd (by simp[hP0.out,hni.out,hnt.out,hnx.out])
  refine J3 kX (λwd hOn=>?_)
  refine tk 0 hOn ?_
  refine tk 1 hOn ?_
  refine tk 2 hOn ?_
  refine tk 4 hOn ?_
  refine tk 5 hOn ?_
  refine tk 6 hOn ?_
  refine tk 8 hOn ?_
  refine tk 9 hOn ?_
  refine tk 11 hOn ?_
  repeat' first
   | exact AllReadyH.nil
   |
    first|refine acI 3 (λKz hKz=>?_) ?_|refine rdK 3 (λKz hKz=>?_)
    go_simp
    (with_reducible refine(hli.out _).mono ?_)
    rintro e w11 ⟨v11,rfl,ho11,hnew⟩
    obtain⟨a11,c11,rfl,h11,_⟩:=ho11.arg
    rw[hni.out]
    have hz:=Hd (Grown.trans hOn hnew)
    replace h9:=Hd (h9.out.below hz.out)
    replace h10:=Hd (h10.out.below hz.out)
    replace hg10:=Hd (Grown.trans hg10.out hz.out)
    (try replace h12:=Hd (h12.out.below hz.out))
    (try replace h13:=Hd (h13.out.below hz.out))
    (try replace k2:=ZS k2 hz.out)
    (try replace kv:=ZS kv hz.out)
    (try replace kx:=ZS kx hz.out)
    replace h11:=Hd h11
    clear hz ho11
    focus (go_wp2_with fail)
    refine hKz.out _ _ (Grown.trans hOn hnew) (λhNext=>?_)
    clear hKz Kz hOn
    refine Zv hNext (λhOn=>?_)
    clear hNext hnew
    try simp only[Act.put,sL,sZ,sS]
   |
    first|refine acI 7 (λKz hKz=>?_) ?_|refine rdK 7 (λKz hKz=>?_)
    go_simp
    focus (try go_wp2_with fail)
    (with_reducible refine Zq (t:=5) ?_)
    intro w12 hx12 hnew
    have h12:=Hd (Vi (x:=B1) hx12.out)
    have hz:=Hd (Grown.trans hOn hnew)
    replace h9:=Hd (h9.out.below hz.out)
    replace h10:=Hd (h10.out.below hz.out)
    replace hg10:=Hd (Grown.trans hg10.out hz.out)
    (try replace h11:=Hd (h11.out.below hz.out))
    (try replace h13:=Hd (h13.out.below hz.out))
    (try replace k2:=ZS k2 hz.out)
    (try replace kv:=ZS kv hz.out)
    (try replace kx:=ZS kx hz.out)
    clear hz hx12
    refine hKz.out _ _ (Grown.trans hOn hnew) (λhNext=>?_)
    clear hKz Kz hOn
    refine Zv hNext (λhOn=>?_)
    clear hNext hnew
    try simp only[Act.put,sL,sZ,sS]
   |
    first|refine acI 10 (λKz hKz=>?_) ?_|refine rdK 10 (λKz hKz=>?_)
    go_simp
    (with_reducible refine(hlx.out _).mono ?_)
    rintro e w15 ⟨a13,c13,rfl,h13,hnew⟩
    have hz:=Hd (Grown.trans hOn hnew)
    replace h9:=Hd (h9.out.below hz.out)
    replace h10:=Hd (h10.out.below hz.out)
    replace hg10:=Hd (Grown.trans hg10.out hz.out)
    (try replace h11:=Hd (h11.out.below hz.out))
    (try replace h12:=Hd (h12.out.below hz.out))
    (try replace k2:=ZS k2 hz.out)
    (try replace kv:=ZS kv hz.out)
    (try replace kx:=ZS kx hz.out)
    replace h13:=Hd h13
    clear hz
    focus (go_wp2_with fail)
    refine hKz.out _ _ (Grown.trans hOn hnew) (λhNext=>?_)
    clear hKz Kz hOn
    refine Zv hNext (λhOn=>?_)
    clear hNext hnew
    try simp only[Act.put,sL,sZ,sS]
   | refine QP [3,7] ?_
   | refine QP [7,10] ?_
   | fail
  all_goals
   refine rd 12 (λKz hKz=>?_)
   go_simp
   focus (try go_wp2_with fail)
   (with_reducible refine Zq (t:=24) ?_)
   intro w13 hx13 hnew
   have hz:=Hd (Grown.trans hOn hnew)
   replace h9:=Hd (h9.out.below hz.out)
   replace h10:=Hd (h10.out.below hz.out)
   replace hg10:=Hd (Grown.trans hg10.out hz.out)
   (try replace h11:=Hd (h11.out.below hz.out))
   (try replace h12:=Hd (h12.out.below hz.out))
   (try replace h13:=Hd (h13.out.below hz.out))
   (try replace k2:=ZS k2 hz.out)
   (try replace kv:=ZS kv hz.out)
   (try replace kx:=ZS kx hz.out)
   have hrows:=Hd (Ct hx13.out hP0.out hni.out rfl hnx.out hnt.out h9.out h11.out h12.out h13.out h10.out)
   clear hz hx13
   refine hKz.out _ _ (Grown.trans hOn hnew) (λhNext=>?_)
   clear hKz Kz hOn
   refine Zv hNext (λhOn=>?_)
   clear hNext hnew
   try simp only[Act.put,sL,sZ,sS]
   refine rd 13 (λKz hKz=>?_)
   go_simp
   (with_reducible refine(VW _ [P0,NI,[B1],NX,NT] 5 _ (hrows.out.below hOn) rfl dX hflat1.out hflat2.out).mono ?_)
   rintro e w14 ⟨v14,rfl,ho14,hnew⟩
   have hfo:=Hd (ho14.mono (show w.heap.size<=_ from Nat.le_trans hb2.out.size (Nat.le_trans hg10.out.size hOn.size)))
   replace hg10:=Hd (Grown.trans hg10.out (Grown.trans hOn hnew))
   clear hrows
   focus (go_wp2_with fail)
   refine hKz.out _ _ (Grown.trans hOn hnew) (λhNext=>?_)
   clear hKz Kz hOn
   refine Zv hNext (λhOn=>?_)
   clear hNext hnew
   try simp only[Act.put,sL,sZ,sS]
   refine tk 14 hOn ?_
   refine tk 15 hOn ?_
   refine dnE ?_
  all_goals
   have hfin:=Hd (hb2.out.trans ((Grown.trans hg10.out hOn).mono hb2.out.size))
   clear hOn
   go_wp2_with fail
   go_ret2
   exact⟨_,rfl,by rw[hout.out];simpa using hfo.out,hfin.out⟩
theorem LE(x:Rc)(hx:x.Ok)(hk:x.kind=3)(hc:x.chk=0)(ea:Nat->Addr)(w:World)(H:Errs 298 errGs w ea):Calls Tryz.prog 120 #[.agg x.list.toArray] w (Xg x w):=by
 have hs:=Rc.size hx
 have hck:=Hd (λW h=>VY x hx hc ea W h)
 have hsz:(Tryz.prog.info? 49).map (·.size)=some x.list.toArray.size:=by rw[hs];kernel_rfl
 have hnums:=(Rc.chk0 hc).2.1
 have hout:x.out=x.head++(Zk x.id++([b8 x.verdict]++Zk x.tick)):=by unfold Rc.out;rw[if_neg oX,if_neg oX,if_pos hk]
 have hhd:x.head=[3]++Zk x.obj:=by unfold Rc.head;rw[hk];rfl
 have hcf:=Rc.kept x hx 49
 rw[hk] at hcf
 have hlo:=Hd (λW=>Q9 x.obj W hx.obj.1 hx.obj.2)
 have hlt:=Hd (λW=>Q9 x.tick W hx.tick.1 hx.tick.2)
 have hli:=Hd (λW=>Q9 x.id W hx.id.1 hx.id.2)
 have hno:=Hd (Zm x.obj)
 have hnt:=Hd (Zm x.tick)
 have hni:=Hd (Zm x.id)
 have hv:1<=x.verdict/\x.verdict<=3:=by
  unfold Rc.nums XS at hnums
  rw[hk] at hnums
  simp[inB] at hnums
  omega
 have hwv:IntKind.u8.wrap x.verdict=((b8 x.verdict).toNat:Int):=by rw[Q0 _ oX];rw[IntKind.wrap_u8];omega
 rw[hhd] at hout
 generalize Zk x.obj=NO at*
 generalize Zk x.tick=NT at*
 generalize Zk x.id=NI at*
 generalize b8 x.verdict=B1 at*
 clear hv
 clear hhd hnums hk hc
 generalize hR:x.list.toArray=R at*
 replace hR:=Hd hR
 replace hcf:=Hd hcf
 replace hout:=Hd hout
 replace H:=Hd H
 have hrow:=Hd (heap_alloc_new w (.cells R 49))
 have hb:=Hd (show Below w.heap.size w (w.alloc (.cells R 49)) from bR.alloc nR _)
 have hzc:=Tryz.underlying49
 obtain⟨X,hX⟩:∃ X,X=x:=⟨_,rfl⟩
 generalize x.obj=vo at*
 generalize x.tick=vt at*
 generalize x.id=vi at*
 generalize x.way=vw at*
 generalize x.index=vx at*
 generalize x.verdict=vv at*
 generalize x.name=vn at*
 clear hx hs
 go_enter Tryz.func120,Tryz.ntmps120
 go_wp2_with (with_reducible refine Zd rfl 49 (.tmp 1) rfl w.heap.size R _ rfl hrow hzc rfl hsz ?_)
 with_reducible refine(hck.out _ (H.out.below hb.out)).mono ?_
 rintro e w2 ⟨rfl,hnew⟩
 have hrow2:=Hd ((hnew.block _ (Zb hrow.out)).trans hrow.out)
 have hb2:=Hd (hb.out.trans (hnew.mono hb.out.size))
 clear hnew hrow hb hck
 go_wp2_with fail
 have k0:=λW h=>(hcf.out _ _ hrow2.out W h).1
 have k1:=λW h=>(hcf.out _ _ hrow2.out W h).2.1
 have hdr:Hid (Grown w2 w2.drew):=Hd (Grown.drew (Grown.refl w2))
 go_cut [5] from 14 to 22 (λs5 wx=>OwnB w2.heap.size wx s5 ([3]++NO)/\Grown w2 wx)
 case first=>
  refine wp_region_held_drew (S:=(Grown w2)) kX hdr.out (λhOn=>?_)
  generalize World.drew w2=wd at*
  refine tk 0 hOn ?_
  refine tk 1 hOn ?_
  refine tk 2 hOn ?_
  refine tk 4 hOn ?_
  refine tk 5 hOn ?_
  refine rds [3,6] ?_
  refine ac (λKz hKz=>?_) ?_
  go_simp
  focus (try go_wp2_with fail)
  (with_reducible refine Zq (t:=5) ?_)
  intro w5 hx5 hnew
  have hO5:=Hd (Y6 (x:=3) (base:=w2.heap.size) hx5.out hOn.size)
  (try replace h3:=Hd (h3.out.below hnew))
  clear hx5
  refine hKz.out _ _ (Below.trans hOn (Below.mono hnew (Below.size hOn))) ?_
  clear hKz Kz hOn
  intro hOn
  try clear hnew
  try simp only[Act.put,sL,sZ,sS]
  refine rd 6 (λKz hKz=>?_)
  go_simp
  (with_reducible refine(hlo.out _).mono ?_)
  rintro e w3 ⟨v3,rfl,ho3,hnew⟩
  (try replace hO5:=Hd (OwnB.below hO5.out hnew nR))
  obtain⟨g3,c3,e3,_⟩:=ho3.form (by rw[hno.out];omega)
  subst e3
  obtain⟨a4,c4,e4,h3,_⟩:=ho3.arg
  cases e4
  rw[hno.out]
  replace h3:=Hd h3
  clear ho3
  focus (go_wp2_with fail)
  refine hKz.out _ _ (Below.trans hOn (Below.mono hnew (Below.size hOn))) ?_
  clear hKz Kz hOn
  intro hOn
  try clear hnew
  try simp only[Act.put,sL,sZ,sS]
  refine rd 7 (λKz hKz=>?_)
  rw[if_pos (by rfl)]
  (refine Xa (.tmp 17) (.tmp 20) rfl w2.heap.size _ [3] rfl hO5 _ _ NO 8 rfl hno h3 dX dX hOn.size ?_)
  intro v9 w9 ho9 hd9 hm9
  have hS:=Below.grown hOn hd9.out hOn.size (λk hk=>(World.ownsRow.lt hO5.out k hk).1)
  refine hKz.out _ _ hS ?_
  clear hKz Kz hOn hS
  intro hOn
  try simp only[Act.put]
  refine tk 8 hOn ?_
  refine dnE ?_
  rotate_left
  refine ac (λKz hKz=>?_) AllReadyH.nil
  go_simp
  (with_reducible refine(hlo.out _).mono ?_)
  rintro e w3 ⟨v3,rfl,ho3,hnew⟩
  (try replace hO5:=Hd (OwnB.below hO5.out hnew nR))
  obtain⟨g3,c3,e3,_⟩:=ho3.form (by rw[hno.out];omega)
  subst e3
  obtain⟨a4,c4,e4,h3,_⟩:=ho3.arg
  cases e4
  rw[hno.out]
  replace h3:=Hd h3
  clear ho3
  focus (go_wp2_with fail)
  refine hKz.out _ _ (Below.trans hOn (Below.mono hnew (Below.size hOn))) ?_
  clear hKz Kz hOn
  intro hOn
  try clear hnew
  try simp only[Act.put,sL,sZ,sS]
  refine rd 3 (λKz hKz=>?_)
  go_simp
  focus (try go_wp2_with fail)
  (with_reducible refine Zq (t:=5) ?_)
  intro w5 hx5 hnew
  have hO5:=Hd (Y6 (x:=3) (base:=w2.heap.size) hx5.out hOn.size)
  (try replace h3:=Hd (h3.out.below hnew))
  clear hx5
  refine hKz.out _ _ (Below.trans hOn (Below.mono hnew (Below.size hOn))) ?_
  clear hKz Kz hOn
  intro hOn
  try clear hnew
  try simp only[Act.put,sL,sZ,sS]
  refine rd 7 (λKz hKz=>?_)
  rw[if_pos (by rfl)]
  (refine Xa (.tmp 17) (.tmp 20) rfl w2.heap.size _ [3] rfl hO5 _ _ NO 8 rfl hno h3 dX dX hOn.size ?_)
  intro v9 w9 ho9 hd9 hm9
  have hS:=Below.grown hOn hd9.out hOn.size (λk hk=>(World.ownsRow.lt hO5.out k hk).1)
  refine hKz.out _ _ hS ?_
  clear hKz Kz hOn hS
  intro hOn
  try simp only[Act.put]
  refine tk 8 hOn ?_
  refine dnE ?_
  all_goals
   go_wp2_with fail
   go_meet
   exact⟨ho9.out,hOn⟩
 case rest=>
  obtain⟨ho9,hg9⟩:=hcut
  obtain⟨q0,q1,q2,q3,q4,q5,q6,q7⟩:=hcf.out _ _ hrow2.out wc hg9
  have hP0:([3]++NO).length=9:=by simp[hno.out]
  generalize [3]++NO=P0 at*
  replace hP0:=Hd hP0
  replace hg9:=Hd hg9
  replace ho9:=Hd ho9
  obtain⟨a9,c9,e9,h9,_⟩:=ho9.out.arg
  rw[hP0.out] at e9
  subst e9
  replace h9:=Hd h9
  clear k0 k1 hdr
  go_wp2_with fail
  with_reducible refine(hlt.out _).mono ?_
  rintro e w10 ⟨v10,rfl,ho10,hnew⟩
  obtain⟨a10,c10,rfl,h10,_⟩:=ho10.arg
  rw[hnt.out]
  replace h9:=Hd (h9.out.below hnew)
  replace ho9:=Hd (OwnB.below ho9.out hnew nR)
  replace h10:=Hd h10
  have hg10:=Hd (Grown.trans hg9.out hnew)
  clear hnew ho10 q0 q1 q2 q3 q4 q5 q6 q7
  obtain⟨q0,q1,q2,q3,q4,q5,q6,q7⟩:=hcf.out _ _ hrow2.out w10 hg10.out
  have hrow10:=Hd (H2 hrow2.out hg10.out)
  go_wp2_with fail
  have k2:=λW h=>(hcf.out _ _ hrow10.out W h).2.2.1
  have kv:=λW h=>(hcf.out _ _ hrow10.out W h).2.2.2.2.2.2.1
  clear q0 q1 q2 q3 q4 q5 q6 q7
  have hflat1:Hid (1<=([P0,NI,[B1],NT]:List (List UInt8)).flatten.length):=Hd (by simp[hP0.out,hni.out,hnt.out])
  have hflat2:Hid (([P0,NI,[B1],NT]:List (List UInt8)).flatten.length<=1000000):=Hd (by simp[hP0.out,hni.out,hnt.out])
  refine J3 kX (λwd hOn=>?_)
  refine tk 0 hOn ?_
  refine tk 1 hOn ?_
  refine tk 2 hOn ?_
  refine tk 4 hOn ?_
  refine tk 5 hOn ?_
  refine tk 6 hOn ?_
  refine tk 8 hOn ?_
  refine rds [3,7] ?_
  refine ac (λKz hKz=>?_) ?_
  go_simp
  (with_reducible refine(hli.out _).mono ?_)
  rintro e w11 ⟨v11,rfl,ho11,hnew⟩
  obtain⟨a11,c11,rfl,h11,_⟩:=ho11.arg
  rw[hni.out]
  have hz:=Hd (Grown.trans hOn hnew)
  replace h9:=Hd (h9.out.below hz.out)
  replace h10:=Hd (h10.out.below hz.out)
  replace hg10:=Hd (Grown.trans hg10.out hz.out)
  (try replace h12:=Hd (h12.out.below hz.out))
  (try replace h13:=Hd (h13.out.below hz.out))
  (try replace k2:=ZS k2 hz.out)
  (try replace kv:=ZS kv hz.out)
  (try replace kx:=ZS kx hz.out)
  replace h11:=Hd h11
  clear hz ho11
  focus (go_wp2_with fail)
  refine hKz.out _ _ (Grown.trans hOn hnew) (λhNext=>?_)
  clear hKz Kz hOn
  refine Zv hNext (λhOn=>?_)
  clear hNext hnew
  try simp only[Act.put,sL,sZ,sS]
  refine rd 7 (λKz hKz=>?_)
  go_simp
  focus (try go_wp2_with fail)
  (with_reducible refine Zq (t:=5) ?_)
  intro w12 hx12 hnew
  have h12:=Hd (Vi (x:=B1) hx12.out)
  have hz:=Hd (Grown.trans hOn hnew)
  replace h9:=Hd (h9.out.below hz.out)
  replace h10:=Hd (h10.out.below hz.out)
  replace hg10:=Hd (Grown.trans hg10.out hz.out)
  (try replace h11:=Hd (h11.out.below hz.out))
  (try replace h13:=Hd (h13.out.below hz.out))
  (try replace k2:=ZS k2 hz.out)
  (try replace kv:=ZS kv hz.out)
  (try replace kx:=ZS kx hz.out)
  clear hz hx12
  refine hKz.out _ _ (Grown.trans hOn hnew) (λhNext=>?_)
  clear hKz Kz hOn
  refine Zv hNext (λhOn=>?_)
  clear hNext hnew
  try simp only[Act.put,sL,sZ,sS]
  refine rd 9 (λKz hKz=>?_)
  go_simp
  focus (try go_wp2_with fail)
  (with_reducible refine Zq (t:=24) ?_)
  intro w13 hx13 hnew
  have hz:=Hd (Grown.trans hOn hnew)
  replace h9:=Hd (h9.out.below hz.out)
  replace h10:=Hd (h10.out.below hz.out)
  replace hg10:=Hd (Grown.trans hg10.out hz.out)
  (try replace h11:=Hd (h11.out.below hz.out))
  (try replace h12:=Hd (h12.out.below hz.out))
  (try replace h13:=Hd (h13.out.below hz.out))
  (try replace k2:=ZS k2 hz.out)
  (try replace kv:=ZS kv hz.out)
  (try replace kx:=ZS kx hz.out)
  have hrows:=Hd (DC hx13.out hP0.out hni.out rfl hnt.out h9.out h11.out h12.out h10.out)
  clear hz hx13
  refine hKz.out _ _ (Grown.trans hOn hnew) (λhNext=>?_)
  clear hKz Kz hOn
  refine Zv hNext (λhOn=>?_)
  clear hNext hnew
  try simp only[Act.put,sL,sZ,sS]
  refine rd 10 (λKz hKz=>?_)
  go_simp
  (with_reducible refine(VW _ [P0,NI,[B1],NT] 4 _ (hrows.out.below hOn) rfl dX hflat1.out hflat2.out).mono ?_)
  rintro e w14 ⟨v14,rfl,ho14,hnew⟩
  have hfo:=Hd (ho14.mono (show w.heap.size<=_ from Nat.le_trans hb2.out.size (Nat.le_trans hg10.out.size hOn.size)))
  replace hg10:=Hd (Grown.trans hg10.out (Grown.trans hOn hnew))
  clear hrows
  focus (go_wp2_with fail)
  refine hKz.out _ _ (Grown.trans hOn hnew) (λhNext=>?_)
  clear hKz Kz hOn
  refine Zv hNext (λhOn=>?_)
  clear hNext hnew
  try simp only[Act.put,sL,sZ,sS]
  refine tk 11 hOn ?_
  refine tk 12 hOn ?_
  refine dnE ?_
  rotate_left
  refine ac (λKz hKz=>?_) AllReadyH.nil
  go_simp
  focus (try go_wp2_with fail)
  (with_reducible refine Zq (t:=5) ?_)
  intro w12 hx12 hnew
  have h12:=Hd (Vi (x:=B1) hx12.out)
  have hz:=Hd (Grown.trans hOn hnew)
  replace h9:=Hd (h9.out.below hz.out)
  replace h10:=Hd (h10.out.below hz.out)
  replace hg10:=Hd (Grown.trans hg10.out hz.out)
  (try replace h11:=Hd (h11.out.below hz.out))
  (try replace h13:=Hd (h13.out.below hz.out))
  (try replace k2:=ZS k2 hz.out)
  (try replace kv:=ZS kv hz.out)
  (try replace kx:=ZS kx hz.out)
  clear hz hx12
  refine hKz.out _ _ (Grown.trans hOn hnew) (λhNext=>?_)
  clear hKz Kz hOn
  refine Zv hNext (λhOn=>?_)
  clear hNext hnew
  try simp only[Act.put,sL,sZ,sS]
  refine rd 3 (λKz hKz=>?_)
  go_simp
  (with_reducible refine(hli.out _).mono ?_)
  rintro e w11 ⟨v11,rfl,ho11,hnew⟩
  obtain⟨a11,c11,rfl,h11,_⟩:=ho11.arg
  rw[hni.out]
  have hz:=Hd (Grown.trans hOn hnew)
  replace h9:=Hd (h9.out.below hz.out)
  replace h10:=Hd (h10.out.below hz.out)
  replace hg10:=Hd (Grown.trans hg10.out hz.out)
  (try replace h12:=Hd (h12.out.below hz.out))
  (try replace h13:=Hd (h13.out.below hz.out))
  (try replace k2:=ZS k2 hz.out)
  (try replace kv:=ZS kv hz.out)
  (try replace kx:=ZS kx hz.out)
  replace h11:=Hd h11
  clear hz ho11
  focus (go_wp2_with fail)
  refine hKz.out _ _ (Grown.trans hOn hnew) (λhNext=>?_)
  clear hKz Kz hOn
  refine Zv hNext (λhOn=>?_)
  clear hNext hnew
  try simp only[Act.put,sL,sZ,sS]
  refine rd 9 (λKz hKz=>?_)
  go_simp
  focus (try go_wp2_with fail)
  (with_reducible refine Zq (t:=24) ?_)
  intro w13 hx13 hnew
  have hz:=Hd (Grown.trans hOn hnew)
  replace h9:=Hd (h9.out.below hz.out)
  replace h10:=Hd (h10.out.below hz.out)
  replace hg10:=Hd (Grown.trans hg10.out hz.out)
  (try replace h11:=Hd (h11.out.below hz.out))
  (try replace h12:=Hd (h12.out.below hz.out))
  (try replace h13:=Hd (h13.out.below hz.out))
  (try replace k2:=ZS k2 hz.out)
  (try replace kv:=ZS kv hz.out)
  (try replace kx:=ZS kx hz.out)
  have hrows:=Hd (DC hx13.out hP0.out hni.out rfl hnt.out h9.out h11.out h12.out h10.out)
  clear hz hx13
  refine hKz.out _ _ (Grown.trans hOn hnew) (λhNext=>?_)
  clear hKz Kz hOn
  refine Zv hNext (λhOn=>?_)
  clear hNext hnew
  try simp only[Act.put,sL,sZ,sS]
  refine rd 10 (λKz hKz=>?_)
  go_simp
  (with_reducible refine(VW _ [P0,NI,[B1],NT] 4 _ (hrows.out.below hOn) rfl dX hflat1.out hflat2.out).mono ?_)
  rintro e w14 ⟨v14,rfl,ho14,hnew⟩
  have hfo:=Hd (ho14.mono (show w.heap.size<=_ from Nat.le_trans hb2.out.size (Nat.le_trans hg10.out.size hOn.size)))
  replace hg10:=Hd (Grown.trans hg10.out (Grown.trans hOn hnew))
  clear hrows
  focus (go_wp2_with fail)
  refine hKz.out _ _ (Grown.trans hOn hnew) (λhNext=>?_)
  clear hKz Kz hOn
  refine Zv hNext (λhOn=>?_)
  clear hNext hnew
  try simp only[Act.put,sL,sZ,sS]
  refine tk 11 hOn ?_
  refine tk 12 hOn ?_
  refine dnE ?_
  all_goals
   have hfin:=Hd (hb2.out.trans ((Grown.trans hg10.out hOn).mono hb2.out.size))
   clear hOn
   go_wp2_with fail
   go_ret2
   exact⟨_,rfl,by rw[hout.out];simpa using hfo.out,hfin.out⟩
theorem LH(x:Rc)(hx:x.Ok)(hk:x.kind=4)(hc:x.chk=0)(ea:Nat->Addr)(w:World)(H:Errs 298 errGs w ea):Calls Tryz.prog 120 #[.agg x.list.toArray] w (Xg x w):=by
 have hs:=Rc.size hx
 have hck:=Hd (λW h=>VY x hx hc ea W h)
 have hsz:(Tryz.prog.info? 49).map (·.size)=some x.list.toArray.size:=by rw[hs];kernel_rfl
 have hnums:=(Rc.chk0 hc).2.1
 have hout:x.out=x.head++Zk x.tick:=by unfold Rc.out;rw[if_neg oX,if_neg oX,if_neg oX]
 have hhd:x.head=[4]++Zk x.obj:=by unfold Rc.head;rw[hk];rfl
 have hcf:=Rc.kept x hx 49
 rw[hk] at hcf
 have hlo:=Hd (λW=>Q9 x.obj W hx.obj.1 hx.obj.2)
 have hlt:=Hd (λW=>Q9 x.tick W hx.tick.1 hx.tick.2)
 have hli:=Hd (λW=>Q9 x.id W hx.id.1 hx.id.2)
 have hno:=Hd (Zm x.obj)
 have hnt:=Hd (Zm x.tick)
 have hni:=Hd (Zm x.id)
 rw[hhd] at hout
 generalize Zk x.obj=NO at*
 generalize Zk x.tick=NT at*
 generalize Zk x.id=NI at*
 clear hhd hnums hk hc
 generalize hR:x.list.toArray=R at*
 replace hR:=Hd hR
 replace hcf:=Hd hcf
 replace hout:=Hd hout
 replace H:=Hd H
 have hrow:=Hd (heap_alloc_new w (.cells R 49))
 have hb:=Hd (show Below w.heap.size w (w.alloc (.cells R 49)) from bR.alloc nR _)
 have hzc:=Tryz.underlying49
 obtain⟨X,hX⟩:∃ X,X=x:=⟨_,rfl⟩
 generalize x.obj=vo at*
 generalize x.tick=vt at*
 generalize x.id=vi at*
 generalize x.way=vw at*
 generalize x.index=vx at*
 generalize x.verdict=vv at*
 generalize x.name=vn at*
 clear hx hs
 go_enter Tryz.func120,Tryz.ntmps120
 go_wp2_with (with_reducible refine Zd rfl 49 (.tmp 1) rfl w.heap.size R _ rfl hrow hzc rfl hsz ?_)
 with_reducible refine(hck.out _ (H.out.below hb.out)).mono ?_
 rintro e w2 ⟨rfl,hnew⟩
 have hrow2:=Hd ((hnew.block _ (Zb hrow.out)).trans hrow.out)
 have hb2:=Hd (hb.out.trans (hnew.mono hb.out.size))
 clear hnew hrow hb hck
 go_wp2_with fail
 have k0:=λW h=>(hcf.out _ _ hrow2.out W h).1
 have k1:=λW h=>(hcf.out _ _ hrow2.out W h).2.1
 have hdr:Hid (Grown w2 w2.drew):=Hd (Grown.drew (Grown.refl w2))
 go_cut [5] from 14 to 22 (λs5 wx=>OwnB w2.heap.size wx s5 ([4]++NO)/\Grown w2 wx)
 case first=>
  refine wp_region_held_drew (S:=(Grown w2)) kX hdr.out (λhOn=>?_)
  generalize World.drew w2=wd at*
  refine tk 0 hOn ?_
  refine tk 1 hOn ?_
  refine tk 2 hOn ?_
  refine tk 4 hOn ?_
  refine tk 5 hOn ?_
  refine rds [3,6] ?_
  refine ac (λKz hKz=>?_) ?_
  go_simp
  focus (try go_wp2_with fail)
  (with_reducible refine Zq (t:=5) ?_)
  intro w5 hx5 hnew
  have hO5:=Hd (Y6 (x:=4) (base:=w2.heap.size) hx5.out hOn.size)
  (try replace h3:=Hd (h3.out.below hnew))
  clear hx5
  refine hKz.out _ _ (Below.trans hOn (Below.mono hnew (Below.size hOn))) ?_
  clear hKz Kz hOn
  intro hOn
  try clear hnew
  try simp only[Act.put,sL,sZ,sS]
  refine rd 6 (λKz hKz=>?_)
  go_simp
  (with_reducible refine(hlo.out _).mono ?_)
  rintro e w3 ⟨v3,rfl,ho3,hnew⟩
  (try replace hO5:=Hd (OwnB.below hO5.out hnew nR))
  obtain⟨g3,c3,e3,_⟩:=ho3.form (by rw[hno.out];omega)
  subst e3
  obtain⟨a4,c4,e4,h3,_⟩:=ho3.arg
  cases e4
  rw[hno.out]
  replace h3:=Hd h3
  clear ho3
  focus (go_wp2_with fail)
  refine hKz.out _ _ (Below.trans hOn (Below.mono hnew (Below.size hOn))) ?_
  clear hKz Kz hOn
  intro hOn
  try clear hnew
  try simp only[Act.put,sL,sZ,sS]
  refine rd 7 (λKz hKz=>?_)
  rw[if_pos (by rfl)]
  (refine Xa (.tmp 17) (.tmp 20) rfl w2.heap.size _ [4] rfl hO5 _ _ NO 8 rfl hno h3 dX dX hOn.size ?_)
  intro v9 w9 ho9 hd9 hm9
  have hS:=Below.grown hOn hd9.out hOn.size (λk hk=>(World.ownsRow.lt hO5.out k hk).1)
  refine hKz.out _ _ hS ?_
  clear hKz Kz hOn hS
  intro hOn
  try simp only[Act.put]
  refine tk 8 hOn ?_
  refine dnE ?_
  rotate_left
  refine ac (λKz hKz=>?_) AllReadyH.nil
  go_simp
  (with_reducible refine(hlo.out _).mono ?_)
  rintro e w3 ⟨v3,rfl,ho3,hnew⟩
  (try replace hO5:=Hd (OwnB.below hO5.out hnew nR))
  obtain⟨g3,c3,e3,_⟩:=ho3.form (by rw[hno.out];omega)
  subst e3
  obtain⟨a4,c4,e4,h3,_⟩:=ho3.arg
  cases e4
  rw[hno.out]
  replace h3:=Hd h3
  clear ho3
  focus (go_wp2_with fail)
  refine hKz.out _ _ (Below.trans hOn (Below.mono hnew (Below.size hOn))) ?_
  clear hKz Kz hOn
  intro hOn
  try clear hnew
  try simp only[Act.put,sL,sZ,sS]
  refine rd 3 (λKz hKz=>?_)
  go_simp
  focus (try go_wp2_with fail)
  (with_reducible refine Zq (t:=5) ?_)
  intro w5 hx5 hnew
  have hO5:=Hd (Y6 (x:=4) (base:=w2.heap.size) hx5.out hOn.size)
  (try replace h3:=Hd (h3.out.below hnew))
  clear hx5
  refine hKz.out _ _ (Below.trans hOn (Below.mono hnew (Below.size hOn))) ?_
  clear hKz Kz hOn
  intro hOn
  try clear hnew
  try simp only[Act.put,sL,sZ,sS]
  refine rd 7 (λKz hKz=>?_)
  rw[if_pos (by rfl)]
  (refine Xa (.tmp 17) (.tmp 20) rfl w2.heap.size _ [4] rfl hO5 _ _ NO 8 rfl hno h3 dX dX hOn.size ?_)
  intro v9 w9 ho9 hd9 hm9
  have hS:=Below.grown hOn hd9.out hOn.size (λk hk=>(World.ownsRow.lt hO5.out k hk).1)
  refine hKz.out _ _ hS ?_
  clear hKz Kz hOn hS
  intro hOn
  try simp only[Act.put]
  refine tk 8 hOn ?_
  refine dnE ?_
  all_goals
   go_wp2_with fail
   go_meet
   exact⟨ho9.out,hOn⟩
 case rest=>
  obtain⟨ho9,hg9⟩:=hcut
  obtain⟨q0,q1,q2,q3,q4,q5,q6,q7⟩:=hcf.out _ _ hrow2.out wc hg9
  have hP0:([4]++NO).length=9:=by simp[hno.out]
  generalize [4]++NO=P0 at*
  replace hP0:=Hd hP0
  replace hg9:=Hd hg9
  replace ho9:=Hd ho9
  obtain⟨a9,c9,e9,h9,_⟩:=ho9.out.arg
  rw[hP0.out] at e9
  subst e9
  replace h9:=Hd h9
  clear k0 k1 hdr
  go_wp2_with fail
  with_reducible refine(hlt.out _).mono ?_
  rintro e w10 ⟨v10,rfl,ho10,hnew⟩
  obtain⟨a10,c10,rfl,h10,_⟩:=ho10.arg
  rw[hnt.out]
  replace h9:=Hd (h9.out.below hnew)
  replace ho9:=Hd (OwnB.below ho9.out hnew nR)
  replace h10:=Hd h10
  have hg10:=Hd (Grown.trans hg9.out hnew)
  clear hnew ho10 q0 q1 q2 q3 q4 q5 q6 q7
  obtain⟨q0,q1,q2,q3,q4,q5,q6,q7⟩:=hcf.out _ _ hrow2.out w10 hg10.out
  have hbs:w2.heap.size<=w10.heap.size:=hg10.out.size
  go_wp2_with (at_builtin;refine YU rfl (.tmp 82) (.tmp 83) rfl w2.heap.size _ P0 rfl ho9 a10 c10 NT 8 rfl hnt h10 (by rw[hP0.out];decide) dX hbs ?_;intro v11 w11 ho11 hb11;have hfin:=Hd (hb2.out.trans ((Below.trans hg10.out hb11.out).mono hb2.out.size)))
  go_ret2
  exact⟨_,rfl,by rw[hout.out];exact ho11.out.mono hb2.out.size,hfin.out⟩
theorem Gy(x:Rc)(hx:x.Ok)(hc:x.chk=0)(ea:Nat->Addr)(w:World)(H:Errs 298 errGs w ea):Calls Tryz.prog 120 #[.agg x.list.toArray] w (Xg x w):=by
 obtain⟨hk,_⟩:=Rc.chk0 hc
 rcases(show x.kind=1\/x.kind=2\/x.kind=3\/x.kind=4 by omega) with h|h|h|h
 ·exact MI x hx h hc ea w H
 ·exact LN x hx h hc ea w H
 ·exact LE x hx h hc ea w H
 ·exact LH x hx h hc ea w H
theorem J7(x:Rc)(hx:x.Ok)(hc:x.chk=0)(a:Option Addr)(c:Nat)(n:Nat)(w:World)(ha:ArgB w a c x.out)(hn:x.out.length=n)(hm:n<=1000)(haf:∀ ad,a=some ad->∃ b o,ad=⟨b,o,none⟩/\b<w.heap.size)(ea:Nat->Addr)(H:Errs 298 errGs w ea) :
  Calls Tryz.prog 29 #[.slice a n c] w (Ko x w):=by
 obtain⟨hk,_⟩:=Rc.chk0 hc
 rcases(show x.kind=1\/x.kind=2\/x.kind=3\/x.kind=4 by omega) with h|h|h|h
 ·exact Tc x hx h hc a c n w ha hn hm haf ea H
 ·exact VQ 2 (.inl rfl) x hx h hc a c n w ha hn hm haf ea H
 ·exact VQ 3 (.inr (.inl rfl)) x hx h hc a c n w ha hn hm haf ea H
 ·exact VQ 4 (.inr (.inr rfl)) x hx h hc a c n w ha hn hm haf ea H
def cut(bs:List UInt8)(o m:Nat):List UInt8:=(bs.drop o).take m
theorem Q1{l:List UInt8}{k n:Nat}(h:k+n<=l.length):(cut l k n).length=n:=by unfold cut;rw[List.length_take,List.length_drop];omega
theorem G6{l:List UInt8}{k n:Nat}(h:k+n<=l.length):nO (l.drop k,false) n=cut l k n:=by
 have hh:¬(false=true\/(l.drop k).length<n):=by
  rw[List.length_drop]
  rintro(h1|h1)
  ·cases h1
  ·omega
 unfold nO Qk
 rw[if_neg hh]
 rfl
theorem Yi{l:List UInt8}{k n:Nat}(h:k+n<=l.length):nB (l.drop k,false) n=(l.drop (k+n),false):=by
 rw[Mx c3X,List.drop_drop]
theorem Y9{l:List UInt8}{k n:Nat}(h:k+n<=l.length):nN (l.drop k,false) n=(ZH (cut l k n) 0:Nat):=by
 rw[<-G6 h];rfl
theorem Jk{l:List UInt8}{k:Nat}(h:k+1<=l.length):cut l k 1=[l.getD k 0]:=by
 obtain⟨b,hb⟩:=CO (Q1 h)
 rw[hb]
 have:(cut l k 1)[0]? = some b:=by rw[hb];rfl
 unfold cut at this
 rw[List.getElem?_take_of_lt dX,List.getElem?_drop,Nat.add_zero] at this
 rw[List.getD_eq_getElem?_getD,this]
 rfl
theorem Qz(l:List UInt8)(k n:Nat):l.drop k=cut l k n++l.drop (k+n):=by
 unfold cut
 rw[<-List.drop_drop,List.take_append_drop]
theorem Um{l:List UInt8}{k n:Nat}(h:l.length=k+n):l.drop k=cut l k n:=by
 unfold cut
 rw[List.take_of_length_le c3X]
theorem U0{l:List UInt8}(h:0<l.length):l=l.getD 0 0::l.drop 1:=by
 match l,h with
 | b::r,_=>rfl
theorem Uc{l:List UInt8}(h:0<l.length):nN (l,false) 1=((l.getD 0 0).toNat:Int):=by
 have:=Y9 (l:=l) (k:=0) (n:=1) oX
 rw[List.drop_zero,Jk oX,Yf] at this
 exact this
theorem Xv{l:List UInt8}(h:0<l.length):nB (l,false) 1=(l.drop 1,false):=Mx oX
theorem Km{n:Nat}(h:n<=562949953421567):inI (n:Int):=⟨oX,oX⟩
theorem Hv(b:UInt8):inI (b.toNat:Int):=by have:=b.toNat_lt;exact⟨oX,oX⟩
def VH(bs:List UInt8):Prop:=∃ (y:Rc) (N:Nat),y.Ok/\(N=0->y.chk=0/\y.out=bs)/\N<=20/\
 (∀ (a:Option Addr) (c:Nat) (w:World) (ea:Nat->Addr),ArgB w a c bs->(∀ ad,a=some ad->∃ b o,ad=⟨b,o,none⟩/\b<w.heap.size)->Errs 298 errGs w ea->
  Calls Tryz.prog 29 #[.slice a bs.length c] w λe w2=>∃ v,e=.returned (.tuple #[.agg y.list.toArray,v])/\ErrIs ea w2 v N/\Below w.heap.size w w2)
theorem Rp(bs:List UInt8)(h:bs.length=0):VH bs:=by
 have e:bs=[]:=List.length_eq_zero_iff.1 h
 subst e
 refine⟨Rc.zero,2,Rc.zero_ok,(λh=>by cases h),dX,λa c w ea ha haf H=>?_⟩
 exact HU [] a c 0 w ea (by rw[H9 dX]) ha rfl dX haf H
theorem W7(bs:List UInt8)(h:0<bs.length)(hl:bs.length<=500)(hk:inB ((bs.getD 0 0).toNat:Int) 1 4=false):VH bs:=by
 refine⟨Rc.zero,7,Rc.zero_ok,(λh=>by cases h),dX,λa c w ea ha haf H=>?_⟩
 ·exact RS bs a c _ w ea _ (Uc h) (by rw[Xv h]) hk ha rfl oX haf H
def RestIs(k:Int)(y:Rc)(s2:List UInt8×Bool)(s1:List UInt8×Bool):Prop:=∀ (w:World) W pp,W.heap[pp]? = some (.cells (Rc.ofKind k).list.toArray 49 (0,0))->RdM W (w.heap.size+1) w.heap.size s1.1 s1.2->pp≠w.heap.size+1->w.heap.size<=pp->
 Calls Tryz.prog 65 #[.pointer (some ⟨w.heap.size+1,0,none⟩),.pointer (some ⟨pp,0,none⟩)] W λe w2=>e=.returned (.slice none 0 0)/\w2.heap[pp]? = some (.cells y.list.toArray 49 (0,0))/\RdM w2 (w.heap.size+1) w.heap.size s2.1 s2.2/\Only (λk=>k=pp\/k=w.heap.size+1) W w2
def Mu(k:Int)(y:Rc)(s2:List UInt8×Bool)(s1:List UInt8×Bool):Prop:=∀ (w:World) W pp,W.heap[pp]? = some (.cells (Rc.ofKind k).list.toArray 49 (0,0))->RdM W (w.heap.size+1) w.heap.size s1.1 s1.2->pp≠w.heap.size+1->w.heap.size<=pp->
 Calls Tryz.prog 65 #[.pointer (some ⟨w.heap.size+1,0,none⟩),.pointer (some ⟨pp,0,none⟩)] W λe w2=>∃ v,e=.returned v/\w2.heap[pp]? = some (.cells y.list.toArray 49 (0,0))/\RdM w2 (w.heap.size+1) w.heap.size s2.1 s2.2/\Only (λk=>k=pp\/k=w.heap.size+1) W w2
theorem RestIs.v{k:Int}{y:Rc}{s2 s1:List UInt8×Bool}(h:RestIs k y s2 s1):Mu k y s2 s1:=λw W pp a1 a2 a3 a4=>(h w W pp a1 a2 a3 a4).mono λe w2 ⟨q1,q2⟩=>⟨_,q1,q2⟩
theorem Jb(bs:List UInt8)(h:0<bs.length)(hl:bs.length<=500)(k:Int)(hk:((bs.getD 0 0).toNat:Int)=k)(hi:inB k 1 4=true)(y:Rc)(s2:List UInt8×Bool)(hr:Mu k y s2 (nB (bs,false) 1))(h2:s2.2=true):VH bs:=by
 refine⟨Rc.zero,2,Rc.zero_ok,(λh=>by cases h),dX,λa c w ea ha haf H=>?_⟩
 ·exact HV bs a c _ w ea k (by rw[<-hk];exact Uc h) y s2 (by rw[Xv h]) hi (hr w) h2 ha rfl oX haf H
theorem VB(bs:List UInt8)(h:0<bs.length)(hl:bs.length<=500)(k:Int)(hk:((bs.getD 0 0).toNat:Int)=k)(hi:inB k 1 4=true)(y:Rc)(s2:List UInt8×Bool)(hr:Mu k y s2 (nB (bs,false) 1))(h2:s2.2=false)(h3:0<s2.1.length):VH bs:=by
 refine⟨Rc.zero,3,Rc.zero_ok,(λh=>by cases h),dX,λa c w ea ha haf H=>?_⟩
 ·exact Rq bs a c _ w ea k (by rw[<-hk];exact Uc h) y s2 (by rw[Xv h]) hi (hr w) h2 h3 ha rfl oX haf H
theorem WN(y:Rc):y.chk<=20:=by
 unfold Rc.chk
 split
 ·decide
 ·split
  ·decide
  ·split
   ·split
    ·decide
    ·split
     ·next hb=>have:=Uz hb;omega
     ·split<;>decide
   ·split<;>decide
theorem UY(bs:List UInt8)(h:0<bs.length)(hl:bs.length<=500)(k:Int)(hk:((bs.getD 0 0).toNat:Int)=k)(hi:inB k 1 4=true)(y:Rc)(hy:y.Ok)(s2:List UInt8×Bool)(hr:RestIs k y s2 (nB (bs,false) 1))(h2:s2.2=false)(h3:s2.1.length=0)
  (ho:y.chk=0->y.out=bs):VH bs:=by
 by_cases h0:y.chk=0
 ·have ho:=ho h0
  refine⟨y,0,hy,λ_=>⟨h0,ho⟩,dX,λa c w ea ha haf H=>?_⟩
  ·refine(J7 y hy h0 a c _ w (by rw[ho];exact ha) (by rw[ho]) oX haf ea H).mono ?_
   rintro e w2 ⟨rfl,hb⟩
   exact⟨_,rfl,.inl ⟨rfl,rfl⟩,hb⟩
 ·refine⟨Rc.zero,y.chk,Rc.zero_ok,λh=>absurd h h0,WN y,λa c w ea ha haf H=>?_⟩
  ·exact Lp bs a c _ w ea k (by rw[<-hk];exact Uc h) y hy s2 (by rw[Xv h]) hi (hr w) h2 h3 h0 ha rfl oX haf H
theorem Yw{l:List UInt8}(h:l.length=8){v:Int}(hv:v=(ZH l 0:Nat))(h2:v<=1099511627776):Zk v=l:=by
 rw[hv] at h2 ⊢
 exact WY l h oX
theorem Ku{bs:List UInt8}(hl:bs.length<=500):(nB (bs,false) 1).1.length<=1000000:=Nat.le_trans (QO _ _) (by show bs.length<=_;omega)
theorem C0(bs:List UInt8)(h:0<bs.length)(hl:bs.length<=500)(hk:((bs.getD 0 0).toNat:Int)=2):VH bs:=by
 have hr:RestIs 2 ((Rc.ofKind 2).rest2 (nB (bs,false) 1)) (Va (nB (bs,false) 1)) (nB (bs,false) 1):=λw W pp h1 h2 h3 h4=>TQ pp (w.heap.size+1) w.heap.size (Rc.ofKind 2) (nB (bs,false) 1) W Zr Zr rfl h1 h2 h3 h4 (Ku hl)
 have hs:Va (nB (bs,false) 1)=nBs (bs,false) [1,8,8,1,4,8]:=rfl
 rcases Nat.lt_trichotomy bs.length 30 with hlt|heq|hgt
 ·exact Jb bs h hl 2 hk dX _ _ hr.v (by rw[hs];exact XK _ _ (by simpa using hlt))
 ·have q1:nB (bs,false) 1=(bs.drop 1,false):=Xv h
  have hy:(Rc.ofKind 2).rest2 (nB (bs,false) 1)={ Rc.ofKind 2 with obj:=(ZH (cut bs 1 8) 0:Nat),id:=(ZH (cut bs 9 8) 0:Nat),way:=((bs.getD 17 0).toNat:Int),index:=(ZH (cut bs 18 4) 0:Nat),tick:=(ZH (cut bs 22 8) 0:Nat) }:=by
   unfold Rc.rest2
   rw[q1,Yi oX,Yi oX,Yi oX,Yi oX,Y9 oX,Y9 oX,Y9 oX,Y9 oX,Y9 oX,Jk (k:=17) oX,Yf]
  have hg:=λl=>Km (VZ l 0 dX)
  have hyk:((Rc.ofKind 2).rest2 (nB (bs,false) 1)).Ok:=by
   rw[hy]
   exact⟨by show inI 2;decide,hg _,hg _,Rc.zero_ok.name,Rc.zero_ok.p,Rc.zero_ok.root,Rc.zero_ok.file,Hv _,hg _,Rc.zero_ok.verdict,hg _⟩
  refine UY bs h hl 2 hk dX _ hyk _ hr ?_ ?_ ?_
  ·rw[hs,QS _ _ sYq]
  ·rw[hs,QS _ _ sYq]
   simp;omega
  ·intro hc
   obtain⟨_,hn,_,_⟩:=Rc.chk0 hc
   obtain⟨r1,r2,r3,_⟩:=Xq hn
   obtain⟨r3,r4,r5⟩:=r3 rfl
   unfold Rc.out Rc.head
   rw[if_neg (by show ¬(2:Int)=1;decide),if_pos (by rfl)]
   have e1:=Yw (Q1 (l:=bs) (k:=1) (n:=8) oX) (v:=((Rc.ofKind 2).rest2 (nB (bs,false) 1)).obj) (by rw[hy]) r1.2
   have e2:=Yw (Q1 (l:=bs) (k:=9) (n:=8) oX) (v:=((Rc.ofKind 2).rest2 (nB (bs,false) 1)).id) (by rw[hy]) r5.2
   have e3:=Yw (Q1 (l:=bs) (k:=22) (n:=8) oX) (v:=((Rc.ofKind 2).rest2 (nB (bs,false) 1)).tick) (by rw[hy]) r2.2
   have e4:(Zk ((Rc.ofKind 2).rest2 (nB (bs,false) 1)).index).drop 4=cut bs 18 4:=by rw[hy];exact W9 _ (Q1 oX)
   have e5 : [b8 ((Rc.ofKind 2).rest2 (nB (bs,false) 1)).way]=cut bs 17 1:=by rw[hy,Jk oX];show [b8 ((bs.getD 17 0).toNat:Int)]=_;rw[Jl]
   have e6:b8 ((Rc.ofKind 2).rest2 (nB (bs,false) 1)).kind=bs.getD 0 0:=by
    rw[<-Jl (bs.getD 0 0),hk];rfl
   rw[e1,e2,e3,e4,e5,e6,List.cons_append,<-Um (l:=bs) (k:=22) (n:=8) oX,<-Qz bs 18 4,<-Qz bs 17 1,<-Qz bs 9 8,<-Qz bs 1 8,<-U0 h]
 ·exact VB bs h hl 2 hk dX _ _ hr.v (by rw[hs,QS _ _ sYq]) (by rw[hs,QS _ _ sYq];simp;omega)
theorem C3(bs:List UInt8)(h:0<bs.length)(hl:bs.length<=500)(hk:((bs.getD 0 0).toNat:Int)=3):VH bs:=by
 have hr:RestIs 3 ((Rc.ofKind 3).rest3 (nB (bs,false) 1)) (JX (nB (bs,false) 1)) (nB (bs,false) 1):=λw W pp h1 h2 h3 h4=>TG pp (w.heap.size+1) w.heap.size (Rc.ofKind 3) (nB (bs,false) 1) W Zr Zr rfl h1 h2 h3 h4 (Ku hl)
 have hs:JX (nB (bs,false) 1)=nBs (bs,false) [1,8,8,1,8]:=rfl
 rcases Nat.lt_trichotomy bs.length 26 with hlt|heq|hgt
 ·exact Jb bs h hl 3 hk dX _ _ hr.v (by rw[hs];exact XK _ _ (by simpa using hlt))
 ·have q1:nB (bs,false) 1=(bs.drop 1,false):=Xv h
  have hy:(Rc.ofKind 3).rest3 (nB (bs,false) 1)={ Rc.ofKind 3 with obj:=(ZH (cut bs 1 8) 0:Nat),id:=(ZH (cut bs 9 8) 0:Nat),verdict:=((bs.getD 17 0).toNat:Int),tick:=(ZH (cut bs 18 8) 0:Nat) }:=by
   unfold Rc.rest3
   rw[q1,Yi oX,Yi oX,Yi oX,Y9 oX,Y9 oX,Y9 oX,Y9 oX,Jk (k:=17) oX,Yf]
  have hg:=λl=>Km (VZ l 0 dX)
  have hyk:((Rc.ofKind 3).rest3 (nB (bs,false) 1)).Ok:=by
   rw[hy]
   exact⟨by show inI 3;decide,hg _,hg _,Rc.zero_ok.name,Rc.zero_ok.p,Rc.zero_ok.root,Rc.zero_ok.file,Rc.zero_ok.way,Rc.zero_ok.index,Hv _,hg _⟩
  refine UY bs h hl 3 hk dX _ hyk _ hr ?_ ?_ ?_
  ·rw[hs,QS _ _ sYq]
  ·rw[hs,QS _ _ sYq]
   simp;omega
  ·intro hc
   obtain⟨_,hn,_,_⟩:=Rc.chk0 hc
   obtain⟨r1,r2,_,r3⟩:=Xq hn
   obtain⟨r3,r5⟩:=r3 rfl
   unfold Rc.out Rc.head
   rw[if_neg (by show ¬(3:Int)=1;decide),if_neg (by show ¬(3:Int)=2;decide),if_pos (by rfl)]
   have e1:=Yw (Q1 (l:=bs) (k:=1) (n:=8) oX) (v:=((Rc.ofKind 3).rest3 (nB (bs,false) 1)).obj) (by rw[hy]) r1.2
   have e2:=Yw (Q1 (l:=bs) (k:=9) (n:=8) oX) (v:=((Rc.ofKind 3).rest3 (nB (bs,false) 1)).id) (by rw[hy]) r5.2
   have e3:=Yw (Q1 (l:=bs) (k:=18) (n:=8) oX) (v:=((Rc.ofKind 3).rest3 (nB (bs,false) 1)).tick) (by rw[hy]) r2.2
   have e5 : [b8 ((Rc.ofKind 3).rest3 (nB (bs,false) 1)).verdict]=cut bs 17 1:=by rw[hy,Jk oX];show [b8 ((bs.getD 17 0).toNat:Int)]=_;rw[Jl]
   have e6:b8 ((Rc.ofKind 3).rest3 (nB (bs,false) 1)).kind=bs.getD 0 0:=by
    rw[<-Jl (bs.getD 0 0),hk];rfl
   rw[e1,e2,e3,e5,e6,List.cons_append,<-Um (l:=bs) (k:=18) (n:=8) oX,<-Qz bs 17 1,<-Qz bs 9 8,<-Qz bs 1 8,<-U0 h]
 ·exact VB bs h hl 3 hk dX _ _ hr.v (by rw[hs,QS _ _ sYq]) (by rw[hs,QS _ _ sYq];simp;omega)
theorem CC(bs:List UInt8)(h:0<bs.length)(hl:bs.length<=500)(hk:((bs.getD 0 0).toNat:Int)=4):VH bs:=by
 have hr:RestIs 4 ((Rc.ofKind 4).rest4 (nB (bs,false) 1)) (JW (nB (bs,false) 1)) (nB (bs,false) 1):=λw W pp h1 h2 h3 h4=>TN pp (w.heap.size+1) w.heap.size (Rc.ofKind 4) (nB (bs,false) 1) W Zr Zr rfl h1 h2 h3 h4 (Ku hl)
 have hs:JW (nB (bs,false) 1)=nBs (bs,false) [1,8,8]:=rfl
 rcases Nat.lt_trichotomy bs.length 17 with hlt|heq|hgt
 ·exact Jb bs h hl 4 hk dX _ _ hr.v (by rw[hs];exact XK _ _ (by simpa using hlt))
 ·have q1:nB (bs,false) 1=(bs.drop 1,false):=Xv h
  have hy:(Rc.ofKind 4).rest4 (nB (bs,false) 1)={ Rc.ofKind 4 with obj:=(ZH (cut bs 1 8) 0:Nat),tick:=(ZH (cut bs 9 8) 0:Nat) }:=by
   unfold Rc.rest4
   rw[q1,Yi oX,Y9 oX,Y9 oX]
  have hg:=λl=>Km (VZ l 0 dX)
  have hyk:((Rc.ofKind 4).rest4 (nB (bs,false) 1)).Ok:=by
   rw[hy]
   exact⟨by show inI 4;decide,hg _,Rc.zero_ok.id,Rc.zero_ok.name,Rc.zero_ok.p,Rc.zero_ok.root,Rc.zero_ok.file,Rc.zero_ok.way,Rc.zero_ok.index,Rc.zero_ok.verdict,hg _⟩
  refine UY bs h hl 4 hk dX _ hyk _ hr ?_ ?_ ?_
  ·rw[hs,QS _ _ sYq]
  ·rw[hs,QS _ _ sYq]
   simp;omega
  ·intro hc
   obtain⟨_,hn,_,_⟩:=Rc.chk0 hc
   obtain⟨r1,r2,_,r3⟩:=Xq hn
   unfold Rc.out Rc.head
   rw[if_neg (by show ¬(4:Int)=1;decide),if_neg (by show ¬(4:Int)=2;decide),if_neg (by show ¬(4:Int)=3;decide)]
   have e1:=Yw (Q1 (l:=bs) (k:=1) (n:=8) oX) (v:=((Rc.ofKind 4).rest4 (nB (bs,false) 1)).obj) (by rw[hy]) r1.2
   have e3:=Yw (Q1 (l:=bs) (k:=9) (n:=8) oX) (v:=((Rc.ofKind 4).rest4 (nB (bs,false) 1)).tick) (by rw[hy]) r2.2
   have e6:b8 ((Rc.ofKind 4).rest4 (nB (bs,false) 1)).kind=bs.getD 0 0:=by
    rw[<-Jl (bs.getD 0 0),hk];rfl
   rw[e1,e3,e6,List.cons_append,<-Um (l:=bs) (k:=9) (n:=8) oX,<-Qz bs 1 8,<-U0 h]
 ·exact VB bs h hl 4 hk dX _ _ hr.v (by rw[hs,QS _ _ sYq]) (by rw[hs,QS _ _ sYq];simp;omega)
theorem CP{l:List UInt8}(h:l.length=9):∃ b0 b1 b2 b3 b4 b5 b6 b7 b8,l=[b0,b1,b2,b3,b4,b5,b6,b7,b8]:=by
 match l,h with
 | [b0,b1,b2,b3,b4,b5,b6,b7,b8],_=>exact⟨b0,b1,b2,b3,b4,b5,b6,b7,b8,rfl⟩
def q9(l:List UInt8):P6:=⟨((l.getD 0 0).toNat:Int)*256+(l.getD 1 0).toNat,(l.getD 2 0).toNat,(l.getD 3 0).toNat,((l.getD 4 0).toNat:Int)*256+(l.getD 5 0).toNat,((l.getD 6 0).toNat:Int)*256+(l.getD 7 0).toNat,(l.getD 8 0).toNat⟩
def LT(l:List UInt8):Option (ByteArray×Int×Nat):=Qi (q9 l).s (q9 l).n (q9 l).k (q9 l).d (q9 l).t (q9 l).r
theorem CD(l:List UInt8):(q9 l).Ok:=by
 have h:=λi=>(l.getD i 0).toNat_lt
 have h0:=h 0
 have h1:=h 1
 have h2:=h 2
 have h3:=h 3
 have h4:=h 4
 have h5:=h 5
 have h6:=h 6
 have h7:=h 7
 have h8:=h 8
 refine⟨?_,?_,?_,?_,?_,?_⟩<;>simp only[q9,inI]<;>omega
theorem J9{z:Int}{b:UInt8}(h:z % 256=b.toNat):b8 z=b:=by
 refine UInt8.toNat_inj.1 ?_
 have:=Vf z
 omega
theorem Ci{l:List UInt8}(h:l.length=9):ZF (q9 l).s (q9 l).n (q9 l).k (q9 l).d (q9 l).t (q9 l).r=l:=by
 obtain⟨b0,b1,b2,b3,b4,b5,b6,b7,b8',rfl⟩:=CP h
 have k0:=b0.toNat_lt
 have k1:=b1.toNat_lt
 have k2:=b2.toNat_lt
 have k3:=b3.toNat_lt
 have k4:=b4.toNat_lt
 have k5:=b5.toNat_lt
 have k6:=b6.toNat_lt
 have k7:=b7.toNat_lt
 have k8:=b8'.toNat_lt
 unfold ZF q9
 simp only[List.getD_cons_zero,List.getD_cons_succ]
 rw[J9 (b:=b0) oX,J9 (b:=b1) oX,J9 (b:=b2) oX,J9 (b:=b3) oX,J9 (b:=b4) oX,J9 (b:=b5) oX,J9 (b:=b6) oX,J9 (b:=b7) oX,J9 (b:=b8') oX]
theorem Hy(xs:List UInt8)(h9:xs.length=9)(g cc:Nat)(w:World)(hA:ArgB w (some ⟨g,0,none⟩) cc xs)(ea:Nat->Addr)(H:Errs 298 errGs w ea) :
  (LT xs=none->Calls Tryz.prog 66 #[.slice (some ⟨g,0,none⟩) 9 cc] w λe w2=>e=.returned (.tuple #[.agg (q9 xs).list.toArray,.nilIface])/\Below w.heap.size w w2)/\
  (∀ F V i,LT xs=some (F,V,i)->Calls Tryz.prog 66 #[.slice (some ⟨g,0,none⟩) 9 cc] w λe w2=>∃ v,e=.returned (.tuple #[.agg #[.int .i64 0,.int .i64 0,.int .i64 0,.int .i64 0,.int .i64 0,.int .i64 0],v])/\ErrIs ea w2 v (i+1)/\Below w.heap.size w w2):=by
 have hc:=Gm hA
 have hcc:9<=cc:=by have:=hA.len;omega
 constructor
 ·intro h
  exact KJ g 0 cc (xs.getD 0 0) (xs.getD 1 0) (xs.getD 2 0) (xs.getD 3 0) (xs.getD 4 0) (xs.getD 5 0) (xs.getD 6 0) (xs.getD 7 0) (xs.getD 8 0) hcc w h (pz ea) (UJ H) (hc 0 oX) (hc 1 oX) (hc 2 oX) (hc 3 oX) (hc 4 oX) (hc 5 oX) (hc 6 oX) (hc 7 oX) (hc 8 oX)
 ·intro F V i h
  refine(Tn g 0 cc (xs.getD 0 0) (xs.getD 1 0) (xs.getD 2 0) (xs.getD 3 0) (xs.getD 4 0) (xs.getD 5 0) (xs.getD 6 0) (xs.getD 7 0) (xs.getD 8 0) hcc w F V i h ea H (hc 0 oX) (hc 1 oX) (hc 2 oX) (hc 3 oX) (hc 4 oX) (hc 5 oX) (hc 6 oX) (hc 7 oX) (hc 8 oX)).mono ?_
  rintro e w2 ⟨g2,rfl,⟨_,h2⟩,h3⟩
  exact⟨_,rfl,.inr (.inr ⟨i,g2,F,V,Uz h,rfl,rfl,h2⟩),h3⟩
theorem Cy(bs:List UInt8)(h:0<bs.length)(hl:bs.length<=500)(hk:((bs.getD 0 0).toNat:Int)=1):VH bs:=by
 have hr0:=λ(w:World) W pp h1 h2 h3 h4=>TH pp (w.heap.size+1) w.heap.size (Rc.ofKind 1) (nB (bs,false) 1) W Zr Zr rfl h1 h2 h3 h4 (Ku hl)
 have hr:Mu 1 ((Rc.ofKind 1).rest1 (nB (bs,false) 1)) (Yq (nB (bs,false) 1)) (nB (bs,false) 1):=λw W pp h1 h2 h3 h4=>(hr0 w W pp h1 h2 h3 h4).mono λe w2 ⟨g,c,q1,_,_,q2⟩=>⟨_,q1,q2⟩
 have hs:Yq (nB (bs,false) 1)=nBs (bs,false) [1,8,1,Yp (nB (bs,false) 1),9,32,32,8]:=rfl
 have q1:nB (bs,false) 1=(bs.drop 1,false):=Xv h
 by_cases h10:bs.length<10
 ·exact Jb bs h hl 1 hk dX _ _ hr (by rw[hs];exact XK _ _ sYq)
 ·obtain⟨m,hm⟩:∃ m,(bs.getD 9 0).toNat=m:=⟨_,rfl⟩
  have hm9:m<=255:=by have:=(bs.getD 9 0).toNat_lt;omega
  have hrl:Yp (nB (bs,false) 1)=m:=by
   have e:nN (nB (nB (bs,false) 1) 8) 1=(m:Int):=by rw[q1,Yi oX,Y9 oX,Jk oX,Yf,hm]
   have e2:nN (nB (nB (bs,false) 1) 8) 1=((Yp (nB (bs,false) 1):Nat):Int):=rfl
   omega
  rw[hrl] at hs
  rcases Nat.lt_trichotomy bs.length (91+m) with hlt|heq|hgt
  ·exact Jb bs h hl 1 hk dX _ _ hr (by rw[hs];exact XK _ _ sYq)
  ·have hxs:nO (Y2 (nB (bs,false) 1)) 9=cut bs (10+m) 9:=by
    unfold Y2 Xb
    rw[hrl,q1,Yi oX,Yi oX,Yi oX,G6 oX]
   have hy0:(Rc.ofKind 1).rest1 (nB (bs,false) 1)={ Rc.ofKind 1 with obj:=(ZH (cut bs 1 8) 0:Nat),name:=⟨(cut bs 10 m).toArray⟩,root:=cut bs (19+m) 32,file:=cut bs (51+m) 32,tick:=(ZH (cut bs (83+m) 8) 0:Nat) }:=by
    unfold Rc.rest1 Xd XF XB Y2 Xb
    rw[hrl,q1,Yi oX,Yi oX,Yi oX,Yi oX,Yi oX,Yi oX,Y9 oX,Y9 oX,G6 oX,G6 oX,G6 oX]
    rw[show 1+8+1+m+9=19+m from by omega,show 19+m+32=51+m from by omega,show 51+m+32=83+m from by omega]
   have hg:=λl=>Km (VZ l 0 dX)
   have hnm:(⟨(cut bs 10 m).toArray⟩:ByteArray).size=m:=by
    show (cut bs 10 m).toArray.size=m
    rw[List.size_toArray]
    exact Q1 oX
   have hnl:(⟨(cut bs 10 m).toArray⟩:ByteArray).size<=maxLen:=by rw[hnm];unfold maxLen;omega
   have hyk0:((Rc.ofKind 1).rest1 (nB (bs,false) 1)).Ok:=by
    rw[hy0]
    exact⟨by show inI 1;decide,hg _,Rc.zero_ok.id,hnl,Rc.zero_ok.p,Q1 oX,Q1 oX,Rc.zero_ok.way,Rc.zero_ok.index,Rc.zero_ok.verdict,hg _⟩
   have hs2:Yq (nB (bs,false) 1)=(bs.drop (91+m),false):=by rw[hs,QS _ _ sYq];congr 2;simp;omega
   have hs2l:(Yq (nB (bs,false) 1)).1.length=0:=by rw[hs2];simp;omega
   have hs2f:(Yq (nB (bs,false) 1)).2=false:=by rw[hs2]
   have hx9:(cut bs (10+m) 9).length=9:=Q1 oX
   have hrq:∀ (w:World) W pp,W.heap[pp]? = some (.cells (Rc.ofKind 1).list.toArray 49 (0,0))->RdM W (w.heap.size+1) w.heap.size (nB (bs,false) 1).1 (nB (bs,false) 1).2->pp≠w.heap.size+1->w.heap.size<=pp->
     Calls Tryz.prog 65 #[.pointer (some ⟨w.heap.size+1,0,none⟩),.pointer (some ⟨pp,0,none⟩)] W λe w2=>∃ g cc,e=.returned (.slice (some ⟨g,0,none⟩) 9 cc)/\ArgB w2 (some ⟨g,0,none⟩) cc (cut bs (10+m) 9)/\w2.heap[pp]? = some (.cells ((Rc.ofKind 1).rest1 (nB (bs,false) 1)).list.toArray 49 (0,0))/\RdM w2 (w.heap.size+1) w.heap.size (Yq (nB (bs,false) 1)).1 (Yq (nB (bs,false) 1)).2/\Only (λk=>k=pp\/k=w.heap.size+1) W w2:=by
    intro w W pp h1 h2 h3 h4
    refine(hr0 w W pp h1 h2 h3 h4).mono ?_
    rintro e w2 ⟨g,c,a1,a2,_,a3,a4,a5⟩
    rw[hxs] at a2
    exact⟨g,c,a1,a2,a3,a4,a5⟩
   cases hb:LT (cut bs (10+m) 9) with
   | some q=>
    obtain⟨F,V,i⟩:=q
    refine⟨Rc.zero,i+1,Rc.zero_ok,(λh=>by cases h),by have:=Uz hb;omega,λa c w ea ha haf H=>?_⟩
    ·exact WR bs a c _ w ea 1 (by rw[<-hk];exact Uc h) _ _ (cut bs (10+m) 9) i (by rw[Xv h]) dX (hrq w) hs2f hs2l (λW g cc hA hE=>(Hy _ hx9 g cc W hA ea hE).2 F V i hb) ha rfl oX haf H
   | none=>
    have hq:=CD (cut bs (10+m) 9)
    have hy:{ (Rc.ofKind 1).rest1 (nB (bs,false) 1) with p:=q9 (cut bs (10+m) 9) }=({ Rc.ofKind 1 with obj:=(ZH (cut bs 1 8) 0:Nat),name:=⟨(cut bs 10 m).toArray⟩,p:=q9 (cut bs (10+m) 9),root:=cut bs (19+m) 32,file:=cut bs (51+m) 32,tick:=(ZH (cut bs (83+m) 8) 0:Nat) }:Rc):=by rw[hy0]
    obtain⟨y,hyd⟩:∃ y:Rc,y={ (Rc.ofKind 1).rest1 (nB (bs,false) 1) with p:=q9 (cut bs (10+m) 9) }:=⟨_,rfl⟩
    have hyp:y.p=q9 (cut bs (10+m) 9):=by rw[hyd]
    have hyk:y.Ok:=by
     rw[hyd]
     exact⟨hyk0.kind,hyk0.obj,hyk0.id,hyk0.name,hq,hyk0.root,hyk0.file,hyk0.way,hyk0.index,hyk0.verdict,hyk0.tick⟩
    rw[<-hyd] at hy
    by_cases h0:y.chk=0
    ·have ho:y.out=bs:=by
      obtain⟨_,hn,_,_⟩:=Rc.chk0 h0
      obtain⟨r1,r2,_,_⟩:=Xq hn
      have hkk:y.kind=1:=by rw[hy];rfl
      unfold Rc.out Rc.head
      rw[if_pos hkk,hkk]
      have e1:=Yw (Q1 (l:=bs) (k:=1) (n:=8) oX) (v:=y.obj) (by rw[hy]) r1.2
      have e2:=Yw (Q1 (l:=bs) (k:=83+m) (n:=8) oX) (v:=y.tick) (by rw[hy]) r2.2
      have e3:ZF y.p.s y.p.n y.p.k y.p.d y.p.t y.p.r=cut bs (10+m) 9:=by rw[hyp];exact Ci hx9
      have e4 : [b8 (y.name.size:Int)]=cut bs 9 1:=by
       rw[hy,Jk oX]
       show [b8 (((⟨(cut bs 10 m).toArray⟩:ByteArray).size:Nat):Int)]=_
       rw[hnm,<-hm,Jl]
      have e5:y.name.data.toList=cut bs 10 m:=by rw[hy]
      have e6:y.root=cut bs (19+m) 32:=by rw[hy]
      have e7:y.file=cut bs (51+m) 32:=by rw[hy]
      have e8:b8 1=bs.getD 0 0:=by rw[<-Jl (bs.getD 0 0),hk]
      have d1:=Um (l:=bs) (k:=83+m) (n:=8) oX
      have d2:=Qz bs (51+m) 32
      have d3:=Qz bs (19+m) 32
      have d4:=Qz bs (10+m) 9
      have d5:=Qz bs 10 m
      have d6:=Qz bs 9 1
      have d7:=Qz bs 1 8
      rw[show 51+m+32=83+m from by omega] at d2
      rw[show 19+m+32=51+m from by omega] at d3
      rw[show 10+m+9=19+m from by omega] at d4
      rw[e1,e2,e3,e4,e5,e6,e7,e8,List.cons_append,<-d1,<-d2,<-d3,<-d4,<-d5,<-d6,<-d7,<-U0 h]
     refine⟨y,0,hyk,λ_=>⟨h0,ho⟩,dX,λa c w ea ha haf H=>?_⟩
     ·refine(J7 y hyk h0 a c _ w (by rw[ho];exact ha) (by rw[ho]) oX haf ea H).mono ?_
      rintro e w2 ⟨rfl,hb⟩
      exact⟨_,rfl,.inl ⟨rfl,rfl⟩,hb⟩
    ·refine⟨Rc.zero,y.chk,Rc.zero_ok,λh=>absurd h h0,WN y,λa c w ea ha haf H=>?_⟩
     ·exact RN bs a c _ w ea 1 (by rw[<-hk];exact Uc h) y hyk _ hyk0 (by rw[hyp];exact hyd) _ (cut bs (10+m) 9) (by rw[Xv h]) dX (hrq w) hs2f hs2l (λW g cc hA hE=>by rw[hyp];exact(Hy _ hx9 g cc W hA ea hE).1 hb) h0 ha rfl oX haf H
  ·exact VB bs h hl 1 hk dX _ _ hr (by rw[hs,QS _ _ sYq]) (by rw[hs,QS _ _ sYq];simp;omega)
theorem Vh(bs:List UInt8)(hl:bs.length<=500):VH bs:=by
 by_cases h:0<bs.length
 ·cases hi:inB ((bs.getD 0 0).toNat:Int) 1 4 with
  | false=>exact W7 bs h hl hi
  | true=>
   unfold inB at hi
   simp only[Bool.and_eq_true,decide_eq_true_eq] at hi
   rcases(show ((bs.getD 0 0).toNat:Int)=1\/((bs.getD 0 0).toNat:Int)=2\/((bs.getD 0 0).toNat:Int)=3\/((bs.getD 0 0).toNat:Int)=4 by omega) with h1|h1|h1|h1
   ·exact Cy bs h hl h1
   ·exact C0 bs h hl h1
   ·exact C3 bs h hl h1
   ·exact CC bs h hl h1
 ·exact Rp bs oX
end Go.Proofs.YtpdhceiodgnbmaaGreatDoor
