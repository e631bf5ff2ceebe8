import Derived.Test.YtpdhceiodgnbmaaGreatDoorF0FollowsSaid
import Derived.Test.YtpdhceiodgnbmaaGreatDoorF3FollowsSaid
import Derived.Test.YtpdhceiodgnbmaaGreatDoorF1FollowsSaid
import Derived.Test.YtpdhceiodgnbmaaGreatDoorF21FollowsSaid
import Derived.Test.YtpdhceiodgnbmaaGreatDoorF5FollowsSaid
import Derived.Test.YtpdhceiodgnbmaaGreatDoorF2FollowsSaid
set_option linter.unusedVariables false
set_option linter.unusedSimpArgs false
set_option linter.unnecessarySimpa false
set_option maxRecDepth 100000
set_option maxHeartbeats 8000000
namespace Go.Proofs.YtpdhceiodgnbmaaGreatDoor
open Go.RowKit
section
variable {P:Program} {o:Oper} {a:Act} {w:World}
theorem Zi(ty:TypeId)(x:Operand)(ho:o.op=.load ty x)(g:Nat)(c:Array Value)(d:TypeDesc)
  (hx:a.eval x=.pointer (some ⟨g,0,none⟩)) (hg:w.heap[g]? = some (.cells c ty (0,0))) (hu:P.underlying ty=some d) (hd:(match d with | .struct _ | .array _ _=>true|_=>false)=true) (hi:(P.info? ty).map (·.size)=some c.size) :
  (execOp a.eval o).run P w=.ok (.value (.agg c)) w:=by
 unfold execOp
 simp only[ho,hx,Instr.loadAt,Instr.sureAddr,Sem.run_bind,Sem.run_pure,Result.andThen_ok,run_loadVar_row w g ty ty c (0,0) d hg hu hd hi]
end
def Yw(k:Nat)(new old:List UInt8):List UInt8:=new.take k++old.drop k
theorem Hv{k:Nat}{new old:List UInt8}(hk:k<=64)(h1:new.length=64)(h2:old.length=64):(Yw k new old).length=64:=by
 simp[Yw,h1,h2];omega
theorem Tl(B mb mn:Nat)(f:Int->List UInt8)(i:Int)(hi1 : -9223372036854775808<=i)(hi2:i<=9223372036854775807)(bs:List UInt8)(hbs:bs.length=64)(k:Nat)(hk:k<=64)(K:Int)(hK:K=k)(w:World)(hc1:w.cell? ⟨B,1,none⟩=some (.map (some mb)))(hm:SureMap w mb mn f)(hn:mn<=1000000)(hmb:mb≠B) :
  Calls Tryz.prog 59 #[.pointer (some ⟨B,0,none⟩),.agg (#[.int .i64 i]++(cB bs).toArray),.int .i64 K] w λx w'=>x=.returned (.tuple #[])/\SureMap w' mb (mn+1) (λj=>if j=i then Yw k bs (f i) else f j)/\Only (λb=>b=mb) w w':=by
 subst hK
 have hfl:(f i).length=64:=by obtain⟨_,_,_,hl,_⟩:=hm;exact hl i
 have hmlt:=hm.lt
 have hBlt:=World.block_lt_of_cell? w _ hc1
 obtain⟨R,hRd⟩:∃ R,R=#[Value.int .i64 i]++(cB bs).toArray:=⟨_,rfl⟩
 have hRs:R.size=65:=by rw[hRd];simp[Zd,hbs]
 have hR0:R[0]? = some (Value.int .i64 i):=by rw[hRd,Array.getElem?_append_left sX];rfl
 have hRj:∀ j,R[j+1]? = (cB bs)[j]? := by
  intro j
  rw[hRd,Array.getElem?_append_right sX]
  simp
 rw[<-hRd]
 obtain⟨w1,hw1⟩:∃ w1,w1=w.alloc (.cells R 132):=⟨_,rfl⟩
 have hg1:Grown w w1:=by rw[hw1];exact Grown.alloc (Grown.refl w) _
 have hx1:w1.heap[w.heap.size]? = some (.cells R 132 (0,0)):=by rw[hw1];exact heap_alloc_new w _
 have hs1:w1.heap.size=w.heap.size+1:=by rw[hw1];exact World.size_alloc ..
 have hsd:w.heap.size<w1.drew.heap.size:=by show _<w1.heap.size;omega
 have hO1:Only (λb=>b=mb) w w1:=Only.ofBelow hg1
 have hm1:SureMap w1 mb mn f:=hm.only (Only.ofBelow (D:=λ_=>False) hg1) (λh=>h)
 have hc11:w1.cell? ⟨B,1,none⟩=some (.map (some mb)):=(hg1.cell (p:=⟨B,1,none⟩) hBlt).trans hc1
 have hxB:∀ W,Grown w1.drew W->W.cell? ⟨B,1,none⟩=some (.map (some mb)):=λW hW=>(hW.cell (p:=⟨B,1,none⟩) (Nat.lt_of_lt_of_le hBlt hg1.size)).trans hc11
 have hxX:∀ W,Grown w1.drew W->W.cell? ⟨w.heap.size,0,none⟩=some (.int .i64 i):=λW hW=>(hW.cell (p:=⟨w.heap.size,0,none⟩) hsd).trans (by rw[show w1.drew.cell? ⟨w.heap.size,0,none⟩=w1.cell? ⟨w.heap.size,0,none⟩ from rfl,Za hx1];exact hR0)
 have hmW:∀ W,Grown w1.drew W->SureMap W mb mn f:=λW hW=>SureMap.only (w:=w1.drew) hm1 (Only.ofBelow (D:=λ_=>False) hW) (λh=>h)
 have hd1:Grown w1.drew w1.drew:=Grown.refl _
 have hgd:Hid (Grown w w1.drew):=Hd (Grown.drew hg1)
 have hxd:Hid (w1.drew.heap[w.heap.size]? = some (.cells R 132 (0,0))):=Hd hx1
 obtain⟨F,hFd⟩:∃ F,F=(cB (f i)).toArray:=⟨_,rfl⟩
 have hSV:Ys (f i)=.agg F:=by rw[hFd];rfl
 have hFs:F.size=64:=by rw[hFd];simp[Zd,hfl]
 have hF1:F.all (·.oneCell')=true:=by
  rw[hFd,Array.all_eq_true']
  intro u hu
  exact ZU _ u (by simpa using hu)
 have hsz:(Tryz.prog.info? 130).map (·.size)=some F.size:=by rw[hFs];kernel_rfl
 have hzs:(cB zSec).toArray.size=F.size:=by rw[hFs];rfl
 have hraw:=True.intro
 have lkA:∀ W,Grown w1.drew W->∀ (o:Oper) (a:Act),o.op=Op.lookup 117 (.tmp 10) (.tmp 12) false->a.eval (.tmp 10)=.map (some mb)->a.eval (.tmp 12)=.int .i64 i->(execOp a.eval o).run Tryz.prog W=.ok (.value (.agg F)) W:=
  λW hW o a h1 h2 h3=>by
   rw[<-hSV]
   exact GA _ _ h1 mb mn f h2 (hmW W hW) i h3 hi1 hi2
 replace hSV:=Hd hSV
 replace hFd:=Hd hFd
 replace hRd:=Hd hRd
 replace hw1:=Hd hw1
 replace hd1:=Hd hd1
 replace hRj:=Hd hRj
 replace hfl:=Hd hfl
 replace hbs:=Hd hbs
 replace hc1:=Hd hc1
 clear hm hg1 hx1 hO1 hm1 hc11 hs1
 go_enter Tryz.func59,Tryz.ntmps59
 go_wp2_with fail
 rw[<-hw1.out]
 refine wp_region_held_drew (S:=(Grown w1.drew)) kX hd1.out (λhOn=>?_)
 generalize World.drew w1=wd at*
 refine tk 0 hOn ?_
 refine tk 1 hOn ?_
 refine tk 2 hOn ?_
 refine tk 3 hOn ?_
 refine tk 4 hOn ?_
 refine tk 5 hOn ?_
 refine tk 6 hOn ?_ (v:=_) (hy:=Or.inl ⟨by rfl,λW hSW=>lkA W hSW _ _ rfl rfl rfl⟩)
 refine rd 7 (λKz hKz=>?_)
 go_simp
 focus (try go_wp2_with fail)
 (with_reducible refine Z0 (t:=130) ?_)
 intro w5 hx5 hnew
 have hnew5:=Hd hnew
 have hS:=Grown.trans hOn hnew
 refine hKz.out _ _ hS ?_
 clear hKz Kz hOn hS
 intro hOn
 try clear hnew
 try simp only[Act.put,sL,sZ,sS]
 refine rd 8 (λKz hKz=>?_)
 rw[if_pos (by rfl)]
 (refine Zl 130 (.tmp 6) (.tmp 13) rfl _ (cB zSec).toArray F rfl rfl hx5 hsz hzs hF1 ?_)
 intro w6 hU6
 have hS:=Below.trans hOn (hU6.out.below nR)
 refine hKz.out _ _ hS ?_
 clear hKz Kz hOn hS
 intro hOn
 try simp only[Act.put]
 refine dnE ?_
 have hG6:=Hd (Grown.trans hgd.out hOn)
 have hR6:Hid (w6.heap[w.heap.size]? = some (.cells R 132 (0,0))):=Hd ((hOn.block _ hsd).trans hxd.out)
 have hF6:Hid (w6.heap[wd.heap.size]? = some (.cells F 130 (0,0))):=Hd hU6.out.here
 have hs6:=hU6.out.size
 have hs5:=hnew5.out.size
 have hx5l:=Zb hx5.out
 have hm6:=Hd (hmW _ hOn)
 clear hU6 hx5 hmW hxB hxX lkA hOn hnew5 hd1 hxd hgd
 generalize hGd:wd.heap.size=G at*
 have hfit:((cB bs).take k).length<=F.size:=by simp[Zd,hbs.out,hFs];omega
 have hck:((cB bs).take k).length=Nat.min 64 k:=by simp[Zd,hbs.out];rw[Nat.min_comm]
 have h1k:∀ v∈(cB bs).take k,v.oneCell'=true:=λv hv=>ZU _ v (List.mem_of_mem_take hv)
 have hsrc:Hid (∀ j v,((cB bs).take k)[j]? = some v->w6.drew.cell? ((⟨w.heap.size,1,none⟩:Addr).add j)=some v):=Hd (λj v hv=>by
  rw[Addr.add_mid,show w6.drew.cell? ⟨w.heap.size,1+j,none⟩=w6.cell? ⟨w.heap.size,1+j,none⟩ from rfl,Za hR6.out,Nat.add_comm 1 j,hRj.out j]
  rw[List.getElem?_take] at hv
  split at hv
  ·exact hv
  ·cases hv)
 have hk2:(k:Int)<=64:=oX
 have hFd6:Hid (w6.drew.heap[G]? = some (.cells F 130 (0,0))):=hF6
 have hmd6:Hid (SureMap w6.drew mb mn f):=Hd (SureMap.only hm6.out (Only.drew (Only.refl (λ_=>False) _)) (λh=>h))
 have hRd6:Hid (w6.drew.heap[w.heap.size]? = some (.cells R 132 (0,0))):=hR6
 have hGd6:Hid (Grown w w6.drew):=Hd (Grown.drew hG6.out)
 clear hF6 hm6 hR6 hG6
 go_wp2_with fail
 refine wp_region_held_drew (S:=(λ_:World=>True)) kX True.intro (λhOn=>?_)
 generalize World.drew w6=wd at*
 refine tk 0 hOn ?_
 refine tk 1 hOn ?_
 refine tk 2 hOn ?_
 refine tk 3 hOn ?_
 refine rd 4 (λKz hKz=>?_)
 rw[if_pos (by rfl)]
 (refine KD (.tmp 15) (.tmp 17) rfl G k 64 ⟨w.heap.size,1,none⟩ 64 64 F 130 ((cB bs).take k) rfl rfl hFd6 hck hsrc.out hfit h1k ?_)
 intro w7 hU7
 have hS:=True.intro
 refine hKz.out _ _ hS ?_
 clear hKz Kz hOn hS
 intro hOn
 try simp only[Act.put]
 refine dnE ?_
 obtain⟨F7,hF7d⟩:∃ F7,F7=((cB bs).take k++F.toList.drop ((cB bs).take k).length).toArray:=⟨_,rfl⟩
 rw[<-hF7d] at hU7
 have hF7V:Value.agg F7=Ys (Yw k bs (f i)):=by
  rw[hF7d,hFd.out]
  unfold Ys Yw
  rw[QR]
  simp[cB,hbs.out,Nat.min_eq_left hk,List.map_take,List.map_drop]
 have hF7s:F7.size=64:=by rw[hF7d];simp[Zd,hbs.out,hFs];omega
 have hol:(Yw k bs (f i)).length=64:=Hv hk hbs.out hfl.out
 have hU7':=Hd (hU7.out)
 have hG7:Hid (Grown w w7.drew):=Hd (Grown.drew (Below.trans hGd6.out (hU7.out.below oX)))
 have hO7:Hid (Only (λb=>b=mb) w w7.drew):=Hd (Only.ofBelow hG7.out)
 have hc7:w7.drew.cell? ⟨B,1,none⟩=some (.map (some mb)):=(hG7.out.cell (p:=⟨B,1,none⟩) hBlt).trans hc1.out
 have hR7:w7.drew.heap[w.heap.size]? = some (.cells R 132 (0,0)):=(hU7.out.block _ oX).trans hRd6.out
 have hF7:w7.drew.heap[G]? = some (.cells F7 130 (0,0)):=hU7.out.here
 have hm7:Hid (SureMap w7.drew mb mn f):=Hd (SureMap.only hmd6.out (Only.ofUpd (D:=λb=>b=G) (hU7.out.drew) rfl) (λh=>by omega))
 have hO0:Only (λb=>b=mb) w7.drew w7.drew:=Only.refl _ _
 have hxB:∀ W,Only (λb=>b=mb) w7.drew W->W.cell? ⟨B,1,none⟩=some (.map (some mb)):=λW hW=>(World.cell?_of_block (hW.block B (World.block_lt_of_cell? _ _ hc7) (λe=>hmb e.symm))).trans hc7
 have hxX:∀ W,Only (λb=>b=mb) w7.drew W->W.cell? ⟨w.heap.size,0,none⟩=some (.int .i64 i):=λW hW=>by
  rw[Za (hW.heap hR7 oX)]
  exact hR0
 have rlA:∀ W,Only (λb=>b=mb) w7.drew W->W.heap[G]? = some (.cells F7 130 (0,0)):=λW hW=>hW.heap hF7 oX
 have huA:Tryz.prog.underlying 130=some (.array 64 5):=Tryz.underlying130
 have hzA:(Tryz.prog.info? 130).map (·.size)=some F7.size:=by rw[hF7s];kernel_rfl
 replace hO0:=Hd hO0
 replace hF7V:=Hd hF7V
 clear hU7 hU7' hF7d hG7 hc7 hR7 hF7 hsrc hRd6 hFd6 hmd6 hGd6
 go_wp2_with fail
 refine wp_region_held_drew (S:=(Only (λb=>b=mb) w7.drew)) kX hO0.out (λhOn=>?_)
 generalize World.drew w7=wd at*
 refine tk 0 hOn ?_
 refine tk 1 hOn ?_
 refine tk 2 hOn ?_
 refine tk 3 hOn ?_
 refine tk 4 hOn ?_
 refine tk 5 hOn ?_
 refine tk 6 hOn ?_ (v:=Value.agg _) (hy:=Or.inl ⟨by rfl,λW hSW=>Zi _ _ rfl _ _ _ rfl (rlA W hSW) huA rfl hzA⟩)
 refine rd 7 (λKz hKz=>?_)
 rw[if_pos (by rfl)]
 (refine RS (.tmp 22) (.tmp 24) (.tmp 25) rfl mb mn f rfl hm7 (by unfold maxLen;omega) i rfl hi1 hi2 (Yw k bs (f i)) hF7V.out hol ?_)
 intro w8 hm8 hg8
 have hS:=Only.trans hOn (Only.ofGrown (D:=λb=>b=mb) hg8.out (λb h=>by injection h with h;exact h.symm)) (λ_ _ h=>h)
 refine hKz.out _ _ hS ?_
 clear hKz Kz hOn hS
 intro hOn
 try simp only[Act.put]
 refine dnE ?_
 go_wp2_with fail
 go_end0
 exact⟨rfl,hm8.out,hO7.out.trans hOn (λ_ _ h=>h)⟩
section
variable {P:Program} {w:World} {ops:Array Oper} {rest:List Oper} {o:Oper} {a:Act} {Q:Exit->Act->World->Prop}
theorem VL(w:World)(base:Nat)(t ty e:TypeId)(i:TypeInfo)(z:Value)(bytes:Nat)(ht:P.underlying t=some (.slice e))(hi:P.info? e=some i)(hz:i.zero=some z)
  (hsize:i.size=1) (hby:i.bytes=bytes) (hzs:z.cells.size=1)
  (v:Value) (n:Nat) (xs:List Value) (hown:w.ownsRow base e 1 v n xs)
  (ad:Addr) (m c:Nat) (news:List Value) (hl:news.length=m) (hnews:∀ j u,news[j]? = some u->w.cell? (ad.add j)=some u) (h1:∀ u∈news,u.oneCell'=true)
  (h63:n+m<=maxLen) (hbytes:(n+m)*bytes<=140737488355328) (hbase:base<=w.heap.size) :
  ∃ v' w',(Builtin.append_ #[t,t] ty #[v,.slice (some ad) m c]).run P w=.ok v' w'/\w'.ownsRow base e 1 v' (n+m) (xs++news)/\w.grownBy w' v.ownBlock/\YI w v v':=by
 subst hby
 obtain⟨v',w',hr,h2,h3,_⟩:=run_append_own (P:=P) w base t ty e i z 1 i.bytes ht hi hz hsize rfl hzs oX v n xs hown ad m c news (by rw[hl,Nat.mul_one]) hnews h1 h63 hbytes hbase
 refine⟨v',w',hr,h2,h3,?_⟩
 have hlm:news.length=m*i.size:=by rw[hl,hsize,Nat.mul_one]
 have hm63:n+m<=9223372036854775807:=by unfold maxLen at h63;omega
 rcases hown.2 with ⟨rfl,rfl⟩|⟨g,cap,cur,rfl,hbg,hg,hnc,hcm,hcs,htake⟩
 ·by_cases hm:m=0
  ·subst hm
   have hv:=h2.2
   rcases hv with ⟨rfl,_⟩|⟨g,cap,cur,rfl,hbg,hg,_⟩
   ·intro k hk;simp[Value.ownBlock] at hk
   ·have hn:news=[]:=List.eq_nil_of_length_eq_zero hl
    subst hn
    exfalso
    have:(Builtin.append_ #[t,t] ty #[.slice none 0 0,.slice (some ad) 0 c]).run P w=.ok (.slice none 0 0) w:=by
     simp[Builtin.append_,run_underlying ht,sizeOf,typeInfo,hi,Builtin.lenOf,Builtin.firstCells,loadCells,loadCellsFrom]
    rw[this] at hr
    cases hr
  ·have hr2:=run_append_nil (P:=P) w t ty e i z ht hi hz ad m c news hlm hnews oX oX (by have hb:=hbytes;simp only[Nat.zero_add] at hb;omega)
   rw[hr] at hr2
   injection hr2 with e1 e2
   subst e1
   intro k hk
   simp[Value.ownBlock] at hk
   exact .inr oX
 ·by_cases hroom:n+m<=cap
  ·have hcs1:cur.size=cap:=by simpa using hcs
   have hr2:=run_append_room (P:=P) w t ty e i ht hi g n cap cur hg ad m c news hlm hnews h1 hroom (by rw[hsize,hl,Nat.mul_one,hcs1];exact hroom)
   rw[hr] at hr2
   injection hr2 with e1 e2
   subst e1
   intro k hk
   exact .inl hk
  ·have holds:∀ j u,xs[j]? = some u->w.cell? ((⟨g,0,none⟩:Addr).add j)=some u:=hown.cells (g:=g) rfl
   have hxl:xs.length=n*i.size:=by rw[hown.1,hsize]
   have hr2:=run_append_grow (P:=P) w t ty e i z ht hi hz ⟨g,0,none⟩ n cap xs hxl holds ad m c news hlm hnews oX oX (growslice_fits oX hbytes)
   rw[hr] at hr2
   injection hr2 with e1 e2
   subst e1
   intro k hk
   simp[Value.ownBlock] at hk
   exact .inr oX
end
section
variable {w:World} {ops:Array Oper} {rest:List Oper} {o:Oper} {a:Act} {Q:Exit->Act->World->Prop}
end
theorem KG{K:Act->World->Prop}{Q:Exit->Act->World->Prop}{o:Oper}{a:Act}{w:World}(s x:Operand)(ho:o.op=.call { callee:=.builtin .append,args:=#[s,x],argTypes:=#[24,24] })
  (base:Nat) (v:Value) (bs:List UInt8) (hs:a.eval s=v) (hown:Hid (OwnB base w v bs))
  (ad:Addr) (c:Nat) (ys:List UInt8) (m:Nat) (hx:a.eval x=.slice (some ad) m c) (hm:Hid (ys.length=m)) (hy:Hid (ArgB w (some ad) c ys)) (hl:bs.length<=1000000) (hl2:m<=1000000) (hbase:base<=w.heap.size)
  (h:∀ v' w',Hid (OwnB base w' v' (bs++ys))->Hid (w.grownBy w' v.ownBlock)->Hid (YI w v v')->K (a.put o.dst v') w'):o.wp Tryz.prog a w K Q:=by
 obtain⟨i0,hi,hz0,hz1,hz2⟩:=info_parts Tryz.infoByteP
 have had:∀ j u,(cB ys)[j]? = some u->w.cell? (ad.add j)=some u:=by
  intro j u hu
  have hj:j<(cB ys).length:=(List.getElem?_eq_some_iff.1 hu).1
  have hat:=At.ofB hy.out.row
  obtain⟨b,off,e,_⟩:=hat j hj
  cases e
  refine Vs (λi hi=>?_) j u hu
  obtain⟨b',off',e',hc⟩:=hat i hi
  cases e'
  exact hc
 obtain⟨v',w',hr,h2,h3,h4⟩:=VL (P:=Tryz.prog) w base 24 o.type 5 i0 (.int .u8 0) 1 Tryz.underlying24 hi hz0 hz1 hz2 rfl v bs.length (cB bs) hown.out ad m c (cB ys) (by rw[Zd];exact hm.out) had (ZU ys) (by unfold maxLen;omega) oX hbase
 unfold Oper.wp execOp
 simp only[ho,resolve,invoke,builtin,Sem.run_bind,Sem.run_pure,Result.andThen_ok,List.map_toArray,List.map_cons,List.map_nil,hs,hx,hr]
 refine h v' w' (Hd ?_) (Hd h3) (Hd h4)
 unfold OwnB
 rw[QR,List.length_append,hm.out]
 exact h2
def RB(w:World)(F:Nat->Prop)(bs:List UInt8)(cs:List Value):Prop:=∃ a c,cs=[.slice a bs.length c]/\ArgB w a c bs/\∀ b o s,a=some ⟨b,o,s⟩->F b
theorem liesRB:LiesOk RB 1:=by
 refine⟨?_,?_,?_⟩
 ·rintro w w' D F x cs ⟨a,c,rfl,h1,h2⟩ hO hF
  exact⟨a,c,rfl,hO.argB h1 (λb o e=>hF b (h2 b o none e)),h2⟩
 ·rintro w F F' x cs ⟨a,c,rfl,h1,h2⟩ hF
  exact⟨a,c,rfl,h1,λb o s e=>hF b (h2 b o s e)⟩
 ·rintro w F x cs ⟨a,c,rfl,h1,h2⟩
  refine⟨rfl,λu hu=>?_⟩
  simp at hu
  subst hu
  rfl
theorem KL{base:Nat}{w:World}{v:Value}{bs:List UInt8}(h:OwnB base w v bs):RB w (λk=>v.ownBlock=some k) bs [v]:=by
 obtain⟨a,c,rfl,h1,_⟩:=h.arg
 exact⟨a,c,rfl,h1,λb o s e=>by subst e;rfl⟩
end Go.Proofs.YtpdhceiodgnbmaaGreatDoor
