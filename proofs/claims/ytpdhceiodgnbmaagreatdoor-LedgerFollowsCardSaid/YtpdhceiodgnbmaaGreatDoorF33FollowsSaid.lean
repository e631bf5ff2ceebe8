import Derived.Test.YtpdhceiodgnbmaaGreatDoorF0FollowsSaid
import Derived.Test.YtpdhceiodgnbmaaGreatDoorF1FollowsSaid
import Derived.Test.YtpdhceiodgnbmaaGreatDoorF32FollowsSaid
import Derived.Test.YtpdhceiodgnbmaaGreatDoorF22FollowsSaid
import Derived.Test.YtpdhceiodgnbmaaGreatDoorF6FollowsSaid
import Derived.Deep.MidRow
set_option linter.unusedVariables false
set_option linter.unusedSimpArgs false
set_option linter.unnecessarySimpa false
set_option maxRecDepth 100000
set_option maxHeartbeats 8000000
namespace Go.Proofs.YtpdhceiodgnbmaaGreatDoor
open Go.RowKit
theorem XM{W:World}{b:Nat}{o:Obj}{sI sE:Value}{W':World}{m:St}(hz:W.heap[b]? = some o)(hf:FreshS W.heap.size (.agg #[sI,sE]))(ha:ArgS W' (.agg #[sI,sE]) m):∀ k,SD sI sE k->k≠b:=λk hk e=>by
 have:=hf.sd ha k hk
 have:=Zb hz
 omega
theorem XQ{w:World}{sI sE:Value}{m:St}(ha:ArgS w (.agg #[sI,sE]) m):∀ k,SD sI sE k->k≠w.heap.size:=λk hk e=>by
 have:=ha.sd_lt k hk
 omega
theorem ErrIs.zero{ea:Nat->Addr}{w:World}{v:Value}(h:ErrIs ea w v 0):v=.nilIface:=by
 rcases h with ⟨_,rfl⟩|⟨i,_,e,_⟩|⟨i,g,F,V,_,e,_⟩
 ·rfl
 ·omega
 ·omega
theorem LStep.state{base:Nat}{w w1 w2:World}{l:Nat}{V V1:LV}{P1:LP}{sI sE:Value}{m:St}(h:LStep base w w1 l V V1 P1)(hU:Upd l (.cells #[.pointer (some ⟨V1.J,0,none⟩),sI,sE,.pointer (some ⟨V1.f,0,none⟩)] 124 (0,0)) w1 w2)(ha:ArgS w1 (.agg #[sI,sE]) m)(hb:base<=w.heap.size)(hn:∀ k,SD sI sE k->w.heap.size<=k/\¬LdD l V1 k) :
  LStep base w w2 l V { V1 with sI:=sI,sE:=sE } { P1 with m:=m }:=by
 obtain⟨hs,ho,hn2⟩:=h.ok.state hU ha (λk hk=>⟨by have:=(hn k hk).1;omega,(hn k hk).2⟩) w.heap.size (λk hk=>(hn k hk).1)
 exact⟨hs,h.only.trans ho (λk hk hd=>(h.new k hd).elim id (λh=>absurd h oX)),λk hk=>(hn2 k hk).elim (h.new k) .inr⟩
theorem NK{m:St}{x:Rc}(h:(Zr m x).2=0):x.chk=0:=by
 by_cases hc:x.chk=0
 ·exact hc
 ·unfold Zr at h
  rw[if_pos hc] at h
  exact absurd h hc
theorem RH{base:Nat}{w:World}{l:Nat}{V:LV}{P:LP}(h:LdM base w l V P)(x:Rc)(hx:x.Ok)(l1:P.m.its.length<=1000)(l2:P.m.ens.length<=1000)(hub:∀ y∈P.m.its,y.u<=1000000/\y.r<=1000000)(ea:Nat->Addr)(H:Errs 298 Zv w ea)(hn:(Zr P.m x).2≠0) :
  Calls Tryz.prog 81 #[.pointer (some ⟨l,0,none⟩),.agg x.list.toArray] w λe w'=>∃ v,e=.returned v/\ErrIs ea w' v (Zr P.m x).2/\Below w.heap.size w w':=by
 have hfo:=Hd (λW (hW:Below w.heap.size w W)=>Jo (.agg #[V.sI,V.sE]) P.m x hx W (h.st.below hW nR) l1 l2 hub ea (H.below hW))
 have hlat:=h.at_
 have iR:(Tryz.prog.info? 49).map (·.size)=some x.list.toArray.size:=by rw[Rc.size hx];kernel_rfl
 obtain⟨fm,hfm⟩:∃ fm,fm=Zr P.m x:=⟨_,rfl⟩
 rw[<-hfm] at hfo hn ⊢
 obtain⟨R,hR⟩:∃ R,R=x.list.toArray:=⟨_,rfl⟩
 rw[<-hR] at hfo iR ⊢
 obtain⟨sI,hsI⟩:∃ sI,sI=V.sI:=⟨_,rfl⟩
 obtain⟨sE,hsE⟩:∃ sE,sE=V.sE:=⟨_,rfl⟩
 rw[<-hsI,<-hsE] at hfo hlat
 obtain⟨jb,hjb⟩:∃ jb,jb=V.J:=⟨_,rfl⟩
 obtain⟨fb,hfb⟩:∃ fb,fb=V.f:=⟨_,rfl⟩
 rw[<-hjb,<-hfb] at hlat
 obtain⟨w1,hw1⟩:∃ w1,w1=w.alloc (.cells R 49):=⟨_,rfl⟩
 have hB1:Below w.heap.size w w1:=by rw[hw1];exact bR.alloc nR _
 have aR:w1.heap[w.heap.size]? = some (.cells R 49 (0,0)):=by rw[hw1];exact heap_alloc_new w _
 have aL:w1.heap[l]? = some (.cells #[.pointer (some ⟨jb,0,none⟩),sI,sE,.pointer (some ⟨fb,0,none⟩)] 124 (0,0)):=(hB1.block _ (Zb hlat)).trans hlat
 have hllt:=Zb hlat
 have hs1:w1.heap.size=w.heap.size+1:=by rw[hw1];simp
 have rlA:∀ W:World,Grown w1 W->W.heap[w.heap.size]? = some (.cells R 49 (0,0)):=λW hW=>(hW.block _ (Zb aR)).trans aR
 have huA:=Tryz.underlying49
 have hzA:=iR
 have hld1:∀ W:World,Grown w1 W->W.cell? ⟨l,1,none⟩=some sI:=λW hW=>by rw[Za ((hW.block _ (Zb aL)).trans aL)];rfl
 have hld2:∀ W:World,Grown w1 W->W.cell? ⟨l,2,none⟩=some sE:=λW hW=>by rw[Za ((hW.block _ (Zb aL)).trans aL)];rfl
 have iN:(Tryz.prog.info? 28).map (·.size)=some (#[.slice none 0 0,.slice none 0 0]:Array Value).size:=kX
 replace hw1:=Hd hw1
 replace hB1:=Hd hB1
 replace aR:=Hd aR
 replace aL:=Hd aL
 replace hs1:=Hd hs1
 replace hR:=Hd hR
 replace hfm:=Hd hfm
 replace hsI:=Hd hsI
 replace hsE:=Hd hsE
 replace hjb:=Hd hjb
 replace hfb:=Hd hfb
 replace h:=Hd h
 replace H:=Hd H
 clear hlat l1 l2 hub
 go_enter Tryz.func81,Tryz.ntmps81
 go_upto_region 1 with fail
 rw[<-hw1.out]
 have hd0:Hid (Grown w1 w1.drew):=Hd (Grown.drew (Grown.refl w1))
 go_cut [5,6] from 9 to 17 (λs5 s6 wx=>∃ g sI' sE' v,s5=.pointer (some ⟨g,0,none⟩)/\s6=v/\wx.heap[g]? = some (.cells #[sI',sE'] 28 (0,0))/\w1.heap.size<=g/\ArgS wx (.agg #[sI',sE']) fm.1/\FreshS w1.heap.size (.agg #[sI',sE'])/\ErrIs ea wx v fm.2/\Grown w1 wx)
 case first=>
  refine wp_region_held_drew (S:=(Grown w1)) kX hd0.out (λhOn=>?_)
  generalize World.drew w1=wd at*
  refine tk 0 hOn ?_
  refine tk 1 hOn ?_
  refine tk 2 hOn ?_
  refine tk 3 hOn ?_
  refine tk 4 hOn ?_ (v:=Value.agg _) (hy:=Or.inl ⟨by rfl,λW hSW=>Zi _ _ rfl _ _ _ rfl (rlA W hSW) huA rfl hzA⟩)
  refine rds [5,9] ?_
  refine ac (λKz hKz=>?_) ?_
  go_simp
  (with_reducible refine(hfo.out _ (hB1.out.trans (hOn.mono hB1.out.size))).mono ?_)
  rintro e w4 ⟨vm,v4,rfl,hm4,hv4,hnew,hf4⟩
  obtain⟨a4,c4,a5,c5,hvm⟩:=hm4.shape
  subst hvm
  (try have hgS:=Hd (XM hZ.out hf4 hm4))
  replace hf4:=Hd (hf4.mono hOn.size)
  replace hm4:=Hd hm4
  replace hv4:=Hd hv4
  (try replace hZ:=Hd ((hnew.block _ (Zb hZ.out)).trans hZ.out))
  focus (go_wp2_with fail)
  refine hKz.out _ _ (Below.trans hOn (Below.mono hnew (Below.size hOn))) ?_
  clear hKz Kz hOn
  intro hOn
  try clear hnew
  try simp only[Act.put,sL,sZ,sS]
  refine tk 6 hOn ?_
  refine tk 7 hOn ?_
  refine tk 8 hOn ?_
  refine rd 9 (λKz hKz=>?_)
  go_simp
  focus (try go_wp2_with fail)
  (with_reducible refine Z0 (t:=28) ?_)
  have hZg:=Hd hOn.size
  (try have hgS:=Hd (XQ hm4.out))
  intro wZ hZ hnew
  (try replace hm4:=Hd (hm4.out.below hnew nR))
  (try replace hv4:=Hd (hv4.out.below hnew))
  refine hKz.out _ _ (Below.trans hOn (Below.mono hnew (Below.size hOn))) ?_
  clear hKz Kz hOn
  intro hOn
  try clear hnew
  try simp only[Act.put,sL,sZ,sS]
  refine rd 10 (λKz hKz=>?_)
  rw[if_pos (by rfl)]
  (with_reducible refine Zl 28 (.tmp 5) (.tmp 16) rfl _ #[.slice none 0 0,.slice none 0 0] #[.slice a4 fm.1.its.length c4,.slice a5 fm.1.ens.length c5] rfl rfl hZ kX rfl (by simp[Value.oneCell']) ?_)
  intro w9 hU9
  have hS:=Below.trans hOn (hU9.out.below hZg.out)
  have hm9:=Hd (hm4.out.only (Only.ofUpd (D:=λk=>k=_) hU9.out rfl) (λk hk e=>hgS.out k hk e))
  have hv9:=Hd (hv4.out.updS hU9.out hZ.out dX)
  have hg9:=Hd hU9.out.here
  refine hKz.out _ _ hS ?_
  clear hKz Kz hOn hS
  intro hOn
  try simp only[Act.put]
  refine tk 11 hOn ?_
  refine dnE ?_
  rotate_left
  refine ac (λKz hKz=>?_) AllReadyH.nil
  go_simp
  focus (try go_wp2_with fail)
  (with_reducible refine Z0 (t:=28) ?_)
  have hZg:=Hd hOn.size
  (try have hgS:=Hd (XQ hm4.out))
  intro wZ hZ hnew
  (try replace hm4:=Hd (hm4.out.below hnew nR))
  (try replace hv4:=Hd (hv4.out.below hnew))
  refine hKz.out _ _ (Below.trans hOn (Below.mono hnew (Below.size hOn))) ?_
  clear hKz Kz hOn
  intro hOn
  try clear hnew
  try simp only[Act.put,sL,sZ,sS]
  refine rd 5 (λKz hKz=>?_)
  go_simp
  (with_reducible refine(hfo.out _ (hB1.out.trans (hOn.mono hB1.out.size))).mono ?_)
  rintro e w4 ⟨vm,v4,rfl,hm4,hv4,hnew,hf4⟩
  obtain⟨a4,c4,a5,c5,hvm⟩:=hm4.shape
  subst hvm
  (try have hgS:=Hd (XM hZ.out hf4 hm4))
  replace hf4:=Hd (hf4.mono hOn.size)
  replace hm4:=Hd hm4
  replace hv4:=Hd hv4
  (try replace hZ:=Hd ((hnew.block _ (Zb hZ.out)).trans hZ.out))
  focus (go_wp2_with fail)
  refine hKz.out _ _ (Below.trans hOn (Below.mono hnew (Below.size hOn))) ?_
  clear hKz Kz hOn
  intro hOn
  try clear hnew
  try simp only[Act.put,sL,sZ,sS]
  refine tk 6 hOn ?_
  refine tk 7 hOn ?_
  refine tk 8 hOn ?_
  refine rd 10 (λKz hKz=>?_)
  rw[if_pos (by rfl)]
  (with_reducible refine Zl 28 (.tmp 5) (.tmp 16) rfl _ #[.slice none 0 0,.slice none 0 0] #[.slice a4 fm.1.its.length c4,.slice a5 fm.1.ens.length c5] rfl rfl hZ kX rfl (by simp[Value.oneCell']) ?_)
  intro w9 hU9
  have hS:=Below.trans hOn (hU9.out.below hZg.out)
  have hm9:=Hd (hm4.out.only (Only.ofUpd (D:=λk=>k=_) hU9.out rfl) (λk hk e=>hgS.out k hk e))
  have hv9:=Hd (hv4.out.updS hU9.out hZ.out dX)
  have hg9:=Hd hU9.out.here
  refine hKz.out _ _ hS ?_
  clear hKz Kz hOn hS
  intro hOn
  try simp only[Act.put]
  refine tk 11 hOn ?_
  refine dnE ?_
  all_goals
   go_wp2_with fail
   go_meet
   exact⟨_,_,_,_,rfl,rfl,hg9.out,hZg.out,hm9.out,hf4.out,hv9.out,hOn⟩
 case rest=>
  obtain⟨g,sI',sE',v,rfl,rfl,hg,hg1,hm',hf',hv',hgr'⟩:=hcut
  have hnq:=hv'.neq
  have hgd:=hv'.guard
  rw[show (fm.2 != 0)=true from by simpa using hn] at hnq
  have hfin:=Hd (hB1.out.trans (hgr'.mono hB1.out.size))
  replace hv':=Hd hv'
  clear hn hm' hf' hg hgr' rlA hld1 hld2
  go_wp2_with fail
  go_ret
  exact⟨_,rfl,hv'.out,hfin.out⟩
def Wc(base:Nat)(w:World)(l:Nat)(V:LV)(P:LP)(nn:Nat)(m':St)(r:List UInt8)(ps':List (List UInt8))(w':World):Prop:=
 ∃ V' p',LStep base w w' l V V' ⟨p',P.recs++[r],P.recs.length+1,false,P.n+1,ps',m'⟩/\V'.J=V.J/\V'.B=V.B/\V'.mb=V.mb/\V'.f=V.f/\V'.mn<=V.mn+500/\Good p' nn (P.recs++[r])/\P.p.l-500<=p'.l/\p'.l<=P.p.l
def Kp(base:Nat)(w:World)(l:Nat)(V:LV)(P:LP)(nn:Nat)(m':St)(r:List UInt8)(ps':List (List UInt8))(e:Ending)(w':World):Prop:=e=.returned .nilIface/\Wc base w l V P nn m' r ps' w'
theorem Py{base:Nat}{w:World}{l:Nat}{V:LV}{P:LP}(h:LdM base w l V P)(hb:base<=w.heap.size)(x:Rc)(hx:x.Ok)(l1:P.m.its.length<=1000)(l2:P.m.ens.length<=1000)(hub:∀ y∈P.m.its,y.u<=1000000/\y.r<=1000000)(ea:Nat->Addr)(H:Errs 298 Zv w ea)(hn:(Zr P.m x).2=0)(nn:Nat)(ps':List (List UInt8))(hbyt:∀ W,Below w.heap.size w W->Calls Tryz.prog 120 #[.agg x.list.toArray] W (UZ x W))
  (hput:∀ W a c,Below w.heap.size w W->ArgB W a c x.out->(∀ b o s,a=some ⟨b,o,s⟩->w.heap.size<=b/\b<W.heap.size)->Calls Tryz.prog 121 #[.pointer (some ⟨V.J,0,none⟩),.slice a x.out.length c] W (Pn base W V.J V.B V.mb V.mn V.v V.rv V.F P.p nn P.recs x.out))
  (hgrw:∀ W a c,Below base w W->FrM base W V.f P.n V.fv P.ps->ArgB W a c x.out->Calls Tryz.prog 62 #[.pointer (some ⟨V.f,0,none⟩),.slice a x.out.length c] W (VA base W V.f (P.n+1) V.fv ps')) :
  Calls Tryz.prog 81 #[.pointer (some ⟨l,0,none⟩),.agg x.list.toArray] w (Kp base w l V P nn (Zr P.m x).1 x.out ps'):=by
 have hby:=Hd hbyt
 clear hbyt
 have hfo:=Hd (λW (hW:Below w.heap.size w W)=>Jo (.agg #[V.sI,V.sE]) P.m x hx W (h.st.below hW nR) l1 l2 hub ea (H.below hW))
 have hlat:=h.at_
 have iR:(Tryz.prog.info? 49).map (·.size)=some x.list.toArray.size:=by rw[Rc.size hx];kernel_rfl
 obtain⟨fm,hfm⟩:∃ fm,fm=Zr P.m x:=⟨_,rfl⟩
 rw[<-hfm] at hfo hn ⊢
 obtain⟨R,hR⟩:∃ R,R=x.list.toArray:=⟨_,rfl⟩
 rw[<-hR] at hfo iR hby ⊢
 replace hput:=Hd hput
 replace hgrw:=Hd hgrw
 obtain⟨sI,hsI⟩:∃ sI,sI=V.sI:=⟨_,rfl⟩
 obtain⟨sE,hsE⟩:∃ sE,sE=V.sE:=⟨_,rfl⟩
 rw[<-hsI,<-hsE] at hfo hlat
 obtain⟨jb,hjb⟩:∃ jb,jb=V.J:=⟨_,rfl⟩
 obtain⟨fb,hfb⟩:∃ fb,fb=V.f:=⟨_,rfl⟩
 rw[<-hjb,<-hfb] at hlat
 obtain⟨w1,hw1⟩:∃ w1,w1=w.alloc (.cells R 49):=⟨_,rfl⟩
 have hB1:Below w.heap.size w w1:=by rw[hw1];exact bR.alloc nR _
 have aR:w1.heap[w.heap.size]? = some (.cells R 49 (0,0)):=by rw[hw1];exact heap_alloc_new w _
 have aL:w1.heap[l]? = some (.cells #[.pointer (some ⟨jb,0,none⟩),sI,sE,.pointer (some ⟨fb,0,none⟩)] 124 (0,0)):=(hB1.block _ (Zb hlat)).trans hlat
 have hllt:=Zb hlat
 have hs1:w1.heap.size=w.heap.size+1:=by rw[hw1];simp
 have rlA:∀ W:World,Grown w1 W->W.heap[w.heap.size]? = some (.cells R 49 (0,0)):=λW hW=>(hW.block _ (Zb aR)).trans aR
 have huA:=Tryz.underlying49
 have hzA:=iR
 have hld1:∀ W:World,Grown w1 W->W.cell? ⟨l,1,none⟩=some sI:=λW hW=>by rw[Za ((hW.block _ (Zb aL)).trans aL)];rfl
 have hld2:∀ W:World,Grown w1 W->W.cell? ⟨l,2,none⟩=some sE:=λW hW=>by rw[Za ((hW.block _ (Zb aL)).trans aL)];rfl
 have iN:(Tryz.prog.info? 28).map (·.size)=some (#[.slice none 0 0,.slice none 0 0]:Array Value).size:=kX
 replace hw1:=Hd hw1
 replace hB1:=Hd hB1
 replace aR:=Hd aR
 replace aL:=Hd aL
 replace hs1:=Hd hs1
 replace hR:=Hd hR
 replace hfm:=Hd hfm
 replace hsI:=Hd hsI
 replace hsE:=Hd hsE
 replace hjb:=Hd hjb
 replace hfb:=Hd hfb
 replace h:=Hd h
 replace H:=Hd H
 clear hlat l1 l2 hub
 go_enter Tryz.func81,Tryz.ntmps81
 go_upto_region 1 with fail
 rw[<-hw1.out]
 have hd0:Hid (Grown w1 w1.drew):=Hd (Grown.drew (Grown.refl w1))
 go_cut [5,6] from 9 to 17 (λs5 s6 wx=>∃ g sI' sE' v,s5=.pointer (some ⟨g,0,none⟩)/\s6=v/\wx.heap[g]? = some (.cells #[sI',sE'] 28 (0,0))/\w1.heap.size<=g/\ArgS wx (.agg #[sI',sE']) fm.1/\FreshS w1.heap.size (.agg #[sI',sE'])/\ErrIs ea wx v fm.2/\Grown w1 wx)
 case first=>
  refine wp_region_held_drew (S:=(Grown w1)) kX hd0.out (λhOn=>?_)
  generalize World.drew w1=wd at*
  refine tk 0 hOn ?_
  refine tk 1 hOn ?_
  refine tk 2 hOn ?_
  refine tk 3 hOn ?_
  refine tk 4 hOn ?_ (v:=Value.agg _) (hy:=Or.inl ⟨by rfl,λW hSW=>Zi _ _ rfl _ _ _ rfl (rlA W hSW) huA rfl hzA⟩)
  refine rds [5,9] ?_
  refine ac (λKz hKz=>?_) ?_
  go_simp
  (with_reducible refine(hfo.out _ (hB1.out.trans (hOn.mono hB1.out.size))).mono ?_)
  rintro e w4 ⟨vm,v4,rfl,hm4,hv4,hnew,hf4⟩
  obtain⟨a4,c4,a5,c5,hvm⟩:=hm4.shape
  subst hvm
  (try have hgS:=Hd (XM hZ.out hf4 hm4))
  replace hf4:=Hd (hf4.mono hOn.size)
  replace hm4:=Hd hm4
  replace hv4:=Hd hv4
  (try replace hZ:=Hd ((hnew.block _ (Zb hZ.out)).trans hZ.out))
  focus (go_wp2_with fail)
  refine hKz.out _ _ (Below.trans hOn (Below.mono hnew (Below.size hOn))) ?_
  clear hKz Kz hOn
  intro hOn
  try clear hnew
  try simp only[Act.put,sL,sZ,sS]
  refine tk 6 hOn ?_
  refine tk 7 hOn ?_
  refine tk 8 hOn ?_
  refine rd 9 (λKz hKz=>?_)
  go_simp
  focus (try go_wp2_with fail)
  (with_reducible refine Z0 (t:=28) ?_)
  have hZg:=Hd hOn.size
  (try have hgS:=Hd (XQ hm4.out))
  intro wZ hZ hnew
  (try replace hm4:=Hd (hm4.out.below hnew nR))
  (try replace hv4:=Hd (hv4.out.below hnew))
  refine hKz.out _ _ (Below.trans hOn (Below.mono hnew (Below.size hOn))) ?_
  clear hKz Kz hOn
  intro hOn
  try clear hnew
  try simp only[Act.put,sL,sZ,sS]
  refine rd 10 (λKz hKz=>?_)
  rw[if_pos (by rfl)]
  (with_reducible refine Zl 28 (.tmp 5) (.tmp 16) rfl _ #[.slice none 0 0,.slice none 0 0] #[.slice a4 fm.1.its.length c4,.slice a5 fm.1.ens.length c5] rfl rfl hZ kX rfl (by simp[Value.oneCell']) ?_)
  intro w9 hU9
  have hS:=Below.trans hOn (hU9.out.below hZg.out)
  have hm9:=Hd (hm4.out.only (Only.ofUpd (D:=λk=>k=_) hU9.out rfl) (λk hk e=>hgS.out k hk e))
  have hv9:=Hd (hv4.out.updS hU9.out hZ.out dX)
  have hg9:=Hd hU9.out.here
  refine hKz.out _ _ hS ?_
  clear hKz Kz hOn hS
  intro hOn
  try simp only[Act.put]
  refine tk 11 hOn ?_
  refine dnE ?_
  rotate_left
  refine ac (λKz hKz=>?_) AllReadyH.nil
  go_simp
  focus (try go_wp2_with fail)
  (with_reducible refine Z0 (t:=28) ?_)
  have hZg:=Hd hOn.size
  (try have hgS:=Hd (XQ hm4.out))
  intro wZ hZ hnew
  (try replace hm4:=Hd (hm4.out.below hnew nR))
  (try replace hv4:=Hd (hv4.out.below hnew))
  refine hKz.out _ _ (Below.trans hOn (Below.mono hnew (Below.size hOn))) ?_
  clear hKz Kz hOn
  intro hOn
  try clear hnew
  try simp only[Act.put,sL,sZ,sS]
  refine rd 5 (λKz hKz=>?_)
  go_simp
  (with_reducible refine(hfo.out _ (hB1.out.trans (hOn.mono hB1.out.size))).mono ?_)
  rintro e w4 ⟨vm,v4,rfl,hm4,hv4,hnew,hf4⟩
  obtain⟨a4,c4,a5,c5,hvm⟩:=hm4.shape
  subst hvm
  (try have hgS:=Hd (XM hZ.out hf4 hm4))
  replace hf4:=Hd (hf4.mono hOn.size)
  replace hm4:=Hd hm4
  replace hv4:=Hd hv4
  (try replace hZ:=Hd ((hnew.block _ (Zb hZ.out)).trans hZ.out))
  focus (go_wp2_with fail)
  refine hKz.out _ _ (Below.trans hOn (Below.mono hnew (Below.size hOn))) ?_
  clear hKz Kz hOn
  intro hOn
  try clear hnew
  try simp only[Act.put,sL,sZ,sS]
  refine tk 6 hOn ?_
  refine tk 7 hOn ?_
  refine tk 8 hOn ?_
  refine rd 10 (λKz hKz=>?_)
  rw[if_pos (by rfl)]
  (with_reducible refine Zl 28 (.tmp 5) (.tmp 16) rfl _ #[.slice none 0 0,.slice none 0 0] #[.slice a4 fm.1.its.length c4,.slice a5 fm.1.ens.length c5] rfl rfl hZ kX rfl (by simp[Value.oneCell']) ?_)
  intro w9 hU9
  have hS:=Below.trans hOn (hU9.out.below hZg.out)
  have hm9:=Hd (hm4.out.only (Only.ofUpd (D:=λk=>k=_) hU9.out rfl) (λk hk e=>hgS.out k hk e))
  have hv9:=Hd (hv4.out.updS hU9.out hZ.out dX)
  have hg9:=Hd hU9.out.here
  refine hKz.out _ _ hS ?_
  clear hKz Kz hOn hS
  intro hOn
  try simp only[Act.put]
  refine tk 11 hOn ?_
  refine dnE ?_
  all_goals
   go_wp2_with fail
   go_meet
   exact⟨_,_,_,_,rfl,rfl,hg9.out,hZg.out,hm9.out,hf4.out,hv9.out,hOn⟩
 case rest=>
  obtain⟨g,sI',sE',v,rfl,rfl,hg,hg1,hm',hf',hv',hgr'⟩:=hcut
  rw[hn] at hv'
  obtain rfl:=hv'.zero
  have hBg:=hB1.out.trans (hgr'.mono hB1.out.size)
  have aRc:=Hd (rlA _ hgr')
  have aLc:=Hd ((hgr'.block _ (Zb aL.out)).trans aL.out)
  have hg2:=Hd hg
  have hbyc:=Hd (hby.out _ hBg)
  have hmc:=Hd hm'
  have hsdN:=Hd (λk hk=>hf'.sd hm' k hk)
  replace hBg:=Hd hBg
  clear hv' hg hgr' rlA hld1 hld2 hby hfo hm'
  have l0:=Za aLc.out 0
  have l3:=Za aLc.out 3
  go_wp2_with ((with_reducible refine wL (.load 49 (.tmp 3)) ?_);refine Ze rfl 49 (.tmp 3) rfl w.heap.size R _ rfl aRc huA rfl iR ?_)
  with_reducible refine hbyc.out.mono ?_
  rintro e w4 ⟨vb,rfl,hob,hb4⟩
  obtain⟨ab,cb,rfl,hAb,hAB⟩:=hob.arg
  have hB4:=hBg.out.trans (hb4.mono hBg.out.size)
  have h4:=h.out.below hB4
  have aL4:=Hd ((hb4.block _ (Zb aLc.out)).trans aLc.out)
  have hg4:=Hd ((hb4.block _ (Zb hg2.out)).trans hg2.out)
  have hm4:=Hd (hmc.out.below hb4 nR)
  have hAo:=Hd (λb o s (e:ab=some ⟨b,o,s⟩)=>show w.heap.size<=b/\b<w4.heap.size from⟨Nat.le_trans hBg.out.size (hAB b o s e).1,(hAB b o s e).2⟩)
  have hpc:=Hd (hput.out w4 ab cb hB4 hAb hAo.out)
  replace hAb:=Hd hAb
  replace hB4:=Hd hB4
  replace h4:=Hd h4
  clear hb4 hob hAB hbyc l0 l3 hput
  have l0:=Za aL4.out 0
  rw[hjb.out] at l0
  go_wp2_with fail
  with_reducible refine hpc.out.mono ?_
  rintro e w5 ⟨rfl,mn5,v5,rv5,F5,p5,hmn5,hj5,hG5,hl5,hl5'⟩
  have hls:=h4.out.journal hj5
  have hJD:∀ k,w.heap.size<=k->¬(JF V.J V.F V.rv k\/Z2 V.B V.mb V.v k):=λk hk hd=>by
   rcases hd with q|q
   ·have:=(h.out.jd.jm.lt k q).2;omega
   ·have:=(h.out.jd.dm.lt k q).2;omega
  have hg5:=Hd (hj5.only.heap hg4.out (hJD g (by have:=hs1.out;omega)))
  have hm5:=Hd (hm4.out.only hj5.only (λk hk=>hJD k (by have:=hsdN.out k hk;have:=hs1.out;omega)))
  have hA5:=Hd (hj5.only.argB hAb.out (λb o e=>hJD b (hAo.out b o none e).1))
  have aL5:=hls.ok.at_
  have h45:=hj5.only.size
  have i2':(Tryz.prog.info? 28).map (·.size)=some (#[sI',sE']:Array Value).size:=kX
  have h12:(#[sI',sE']:Array Value).all (·.oneCell')=true:=by
   obtain⟨a,c,a',c',e⟩:=hm5.out.shape
   cases e
   simp[Value.oneCell']
  have hpat:ZG #[.pointer (some ⟨V.J,0,none⟩),V.sI,V.sE,.pointer (some ⟨V.f,0,none⟩)] 1 (#[sI',sE']:Array Value).toList=#[.pointer (some ⟨V.J,0,none⟩),sI',sE',.pointer (some ⟨V.f,0,none⟩)]:=rfl
  replace aL5:Hid (w5.heap[l]? = some (.cells #[.pointer (some ⟨V.J,0,none⟩),V.sI,V.sE,.pointer (some ⟨V.f,0,none⟩)] 124 (0,0))):=Hd aL5
  replace hls:=Hd hls
  replace hj5:=Hd hj5
  replace hG5:=Hd hG5
  replace hJD:=Hd hJD
  replace h45:=Hd h45
  clear l0 hpc
  go_wp2_with (first
   | ((with_reducible refine wL (.load 28 (.tmp 5)) ?_);refine Ze rfl 28 (.tmp 5) rfl g #[sI',sE'] _ rfl hg5 Tryz.underlying28 rfl i2' ?_)
   | ((with_reducible refine wL (.store 28 (.tmp 41) _) ?_);(refine Qu rfl 28 124 (.tmp 41) (.tmp 39) rfl l 1 #[.pointer (some ⟨V.J,0,none⟩),V.sI,V.sE,.pointer (some ⟨V.f,0,none⟩)] #[sI',sE'] rfl rfl aL5 i2' (Nat.le_of_ble_eq_true rfl) h12 ?_);intro w6 hU6;rw[hpat] at hU6;have aL6:=hU6.out.here;have q3:w6.cell? ⟨l,3,none⟩=some (.pointer (some ⟨V.f,0,none⟩)):=(by rw[Za aL6];rfl);clear aL6))
  have h5:=LStep.trans (LStep.grow (LStep.same h.out) hB4.out) hls.out
  have hst6:=LStep.state h5 hU6.out hm5.out hb (λk hk=>by
   have h1:=hsdN.out k hk
   have h2:=hs1.out
   refine⟨oX,λhd=>?_⟩
   rcases hls.out.new k hd with q|q
   ·have:=(h.out.lt k q).2
    omega
   ·have:=hm4.out.sd_lt k hk
    omega)
  have hA6:=(Only.ofUpd (D:=λk=>k=l) hU6.out rfl).argB hA5.out (λb o e e2=>by
   have:=(hAo.out b o none e).1
   omega)
  have hgc:=Hd (hgrw.out w6 ab cb (hst6.below h.out hb) hst6.ok.fr hA6)
  have hb06:=hst6.only.size
  replace hst6:=Hd hst6
  clear h5 hA6 hgrw
  go_wp2_with fail
  with_reducible refine hgc.out.mono ?_
  rintro e w7 ⟨rfl,fv7,hf7,ho7,hn7⟩
  have hst7:=hst6.out.trans (hst6.out.ok.leaf hf7 ho7 hn7)
  replace hst7:=Hd hst7
  replace hmn5:=Hd hmn5
  replace hl5:=Hd hl5
  replace hl5':=Hd hl5'
  clear hf7 ho7 hn7
  go_wp2_with fail
  go_ret
  have hout:x.out.length=x.out.length:=rfl
  exact⟨rfl,_,p5,hst7.out,rfl,rfl,rfl,rfl,hmn5.out,hG5.out,hl5.out,hl5'.out⟩
end Go.Proofs.YtpdhceiodgnbmaaGreatDoor
