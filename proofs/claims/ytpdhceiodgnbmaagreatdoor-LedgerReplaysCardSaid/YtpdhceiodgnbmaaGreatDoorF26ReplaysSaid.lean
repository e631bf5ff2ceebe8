import Derived.Test.YtpdhceiodgnbmaaGreatDoorF0ReplaysSaid
import Derived.Test.YtpdhceiodgnbmaaGreatDoorF1ReplaysSaid
import Derived.Test.YtpdhceiodgnbmaaGreatDoorF25ReplaysSaid
import Derived.Test.YtpdhceiodgnbmaaGreatDoorF17ReplaysSaid
import Derived.Test.YtpdhceiodgnbmaaGreatDoorF4ReplaysSaid
import Derived.Deep.MidRow
import Derived.Test.YtpdhceiodgnbmaaGreatDoorF8ReplaysSaid
set_option linter.unusedVariables false
set_option linter.unusedSimpArgs false
set_option linter.unnecessarySimpa false
set_option maxRecDepth 100000
set_option maxHeartbeats 8000000
namespace Go.Proofs.YtpdhceiodgnbmaaGreatDoor
open Go.RowKit
def DG(base:Nat)(w:World)(l:Nat)(V:LV)(P:LP)(nn:Nat)(m':St)(r:List UInt8)(ps':List (List UInt8))(w':World):Prop:=
 ∃ V' p',LStep base w w' l V V' ⟨p',P.recs++[r],P.recs.length+1,false,P.n+1,ps',m'⟩/\V'.J=V.J/\V'.B=V.B/\V'.mb=V.mb/\V'.f=V.f/\V'.mn<=V.mn+500/\Good p' nn (P.recs++[r])/\P.p.l-500<=p'.l/\p'.l<=P.p.l
def GE(base:Nat)(w:World)(l:Nat)(V:LV)(P:LP)(nn:Nat)(m':St)(r:List UInt8)(ps':List (List UInt8))(e:Ending)(w':World):Prop:=e=.returned .nilIface/\DG base w l V P nn m' r ps' w'
theorem Da{base:Nat}{w:World}{l:Nat}{V:LV}{P:LP}(h:LdM base w l V P)(hb:base<=w.heap.size)(x:Rc)(hx:x.Ok)(l1:P.m.its.length<=1000)(l2:P.m.ens.length<=1000)(hub:∀ y∈P.m.its,y.u<=1000000/\y.r<=1000000)(ea:Nat->Addr)(H:Errs 298 Zq w ea)(hn:(Zw P.m x).2=0)(nn:Nat)(ps':List (List UInt8))(hbyt:∀ W,Below w.heap.size w W->Calls Tryz.prog 120 #[.agg x.list.toArray] W (G1 x W))
  (hput:∀ W a c,Below w.heap.size w W->ArgB W a c x.out->(∀ b o s,a=some ⟨b,o,s⟩->w.heap.size<=b/\b<W.heap.size)->Calls Tryz.prog 121 #[.pointer (some ⟨V.J,0,none⟩),.slice a x.out.length c] W (LQ base W V.J V.B V.mb V.mn V.v V.rv V.F P.p nn P.recs x.out))
  (hgrw:∀ W a c,Below base w W->FrM base W V.f P.n V.fv P.ps->ArgB W a c x.out->Calls Tryz.prog 62 #[.pointer (some ⟨V.f,0,none⟩),.slice a x.out.length c] W (Kb base W V.f (P.n+1) V.fv ps')) :
  Calls Tryz.prog 81 #[.pointer (some ⟨l,0,none⟩),.agg x.list.toArray] w (GE base w l V P nn (Zw P.m x).1 x.out ps'):=by
 have hby:=Hd hbyt
 clear hbyt
 have hfo:=Hd (λW (hW:Below w.heap.size w W)=>VC (.agg #[V.sI,V.sE]) P.m x hx W (h.st.below hW nR) l1 l2 hub ea (H.below hW))
 have hlat:=h.at_
 have iR:(Tryz.prog.info? 49).map (·.size)=some x.list.toArray.size:=by rw[Rc.size hx];kernel_rfl
 obtain⟨fm,hfm⟩:∃ fm,fm=Zw P.m x:=⟨_,rfl⟩
 rw[<-hfm] at hfo hn ⊢
 obtain⟨R,hR⟩:∃ R,R=x.list.toArray:=⟨_,rfl⟩
 rw[<-hR] at hfo iR hby ⊢
 replace hput:=Hd hput
 replace hgrw:=Hd hgrw
 obtain⟨sI,hsI⟩:∃ sI,sI=V.sI:=⟨_,rfl⟩
 obtain⟨sE,hsE⟩:∃ sE,sE=V.sE:=⟨_,rfl⟩
 rw[<-hsI,<-hsE] at hfo hlat
 obtain⟨jb,hjb⟩:∃ jb,jb=V.J:=⟨_,rfl⟩
 obtain⟨fb,hfb⟩:∃ fb,fb=V.f:=⟨_,rfl⟩
 rw[<-hjb,<-hfb] at hlat
 obtain⟨w1,hw1⟩:∃ w1,w1=w.alloc (.cells R 49):=⟨_,rfl⟩
 have hB1:Below w.heap.size w w1:=by rw[hw1];exact bR.alloc nR _
 have aR:w1.heap[w.heap.size]? = some (.cells R 49 (0,0)):=by rw[hw1];exact heap_alloc_new w _
 have aL:w1.heap[l]? = some (.cells #[.pointer (some ⟨jb,0,none⟩),sI,sE,.pointer (some ⟨fb,0,none⟩)] 124 (0,0)):=(hB1.block _ (Zb hlat)).trans hlat
 have hllt:=Zb hlat
 have hs1:w1.heap.size=w.heap.size+1:=by rw[hw1];simp
 have rlA:∀ W:World,Grown w1 W->W.heap[w.heap.size]? = some (.cells R 49 (0,0)):=λW hW=>(hW.block _ (Zb aR)).trans aR
 have huA:=Tryz.underlying49
 have hzA:=iR
 have hld1:∀ W:World,Grown w1 W->W.cell? ⟨l,1,none⟩=some sI:=λW hW=>by rw[Za ((hW.block _ (Zb aL)).trans aL)];rfl
 have hld2:∀ W:World,Grown w1 W->W.cell? ⟨l,2,none⟩=some sE:=λW hW=>by rw[Za ((hW.block _ (Zb aL)).trans aL)];rfl
 have iN:(Tryz.prog.info? 28).map (·.size)=some (#[.slice none 0 0,.slice none 0 0]:Array Value).size:=kX
 replace hw1:=Hd hw1
 replace hB1:=Hd hB1
 replace aR:=Hd aR
 replace aL:=Hd aL
 replace hs1:=Hd hs1
 replace hR:=Hd hR
 replace hfm:=Hd hfm
 replace hsI:=Hd hsI
 replace hsE:=Hd hsE
 replace hjb:=Hd hjb
 replace hfb:=Hd hfb
 replace h:=Hd h
 replace H:=Hd H
 clear hlat l1 l2 hub
 go_enter Tryz.func81,Tryz.ntmps81
 go_upto_region 1 with fail
 rw[<-hw1.out]
 have hd0:Hid (Grown w1 w1.drew):=Hd (Grown.drew (Grown.refl w1))
 go_cut [5,6] from 9 to 17 (λs5 s6 wx=>∃ g sI' sE' v,s5=.pointer (some ⟨g,0,none⟩)/\s6=v/\wx.heap[g]? = some (.cells #[sI',sE'] 28 (0,0))/\w1.heap.size<=g/\ArgS wx (.agg #[sI',sE']) fm.1/\FreshS w1.heap.size (.agg #[sI',sE'])/\ErrIs ea wx v fm.2/\Grown w1 wx)
 case first=>
  refine wp_region_held_drew (S:=(Grown w1)) kX hd0.out (λhOn=>?_)
  generalize World.drew w1=wd at*
  refine tk 0 hOn ?_
  refine tk 1 hOn ?_
  refine tk 2 hOn ?_
  refine tk 3 hOn ?_
  refine tk 4 hOn ?_ (v:=Value.agg _) (hy:=Or.inl ⟨by rfl,λW hSW=>ZO _ _ rfl _ _ _ rfl (rlA W hSW) huA rfl hzA⟩)
  refine rds [5,9] ?_
  refine ac (λKz hKz=>?_) ?_
  go_simp
  (with_reducible refine(hfo.out _ (hB1.out.trans (hOn.mono hB1.out.size))).mono ?_)
  rintro e w4 ⟨vm,v4,rfl,hm4,hv4,hnew,hf4⟩
  obtain⟨a4,c4,a5,c5,hvm⟩:=hm4.shape
  subst hvm
  (try have hgS:=Hd (JY hZ.out hf4 hm4))
  replace hf4:=Hd (hf4.mono hOn.size)
  replace hm4:=Hd hm4
  replace hv4:=Hd hv4
  (try replace hZ:=Hd ((hnew.block _ (Zb hZ.out)).trans hZ.out))
  focus (go_wp2_with fail)
  refine hKz.out _ _ (Below.trans hOn (Below.mono hnew (Below.size hOn))) ?_
  clear hKz Kz hOn
  intro hOn
  try clear hnew
  try simp only[Act.put,sL,sZ,sS]
  refine tk 6 hOn ?_
  refine tk 7 hOn ?_
  refine tk 8 hOn ?_
  refine rd 9 (λKz hKz=>?_)
  go_simp
  focus (try go_wp2_with fail)
  (with_reducible refine ZC (t:=28) ?_)
  have hZg:=Hd hOn.size
  (try have hgS:=Hd (Vb hm4.out))
  intro wZ hZ hnew
  (try replace hm4:=Hd (hm4.out.below hnew nR))
  (try replace hv4:=Hd (hv4.out.below hnew))
  refine hKz.out _ _ (Below.trans hOn (Below.mono hnew (Below.size hOn))) ?_
  clear hKz Kz hOn
  intro hOn
  try clear hnew
  try simp only[Act.put,sL,sZ,sS]
  refine rd 10 (λKz hKz=>?_)
  rw[if_pos (by rfl)]
  (with_reducible refine Zs 28 (.tmp 5) (.tmp 16) rfl _ #[.slice none 0 0,.slice none 0 0] #[.slice a4 fm.1.its.length c4,.slice a5 fm.1.ens.length c5] rfl rfl hZ kX rfl (by simp[Value.oneCell']) ?_)
  intro w9 hU9
  have hS:=Below.trans hOn (hU9.out.below hZg.out)
  have hm9:=Hd (hm4.out.only (Only.ofUpd (D:=λk=>k=_) hU9.out rfl) (λk hk e=>hgS.out k hk e))
  have hv9:=Hd (hv4.out.updS hU9.out hZ.out dX)
  have hg9:=Hd hU9.out.here
  refine hKz.out _ _ hS ?_
  clear hKz Kz hOn hS
  intro hOn
  try simp only[Act.put]
  refine tk 11 hOn ?_
  refine dnE ?_
  rotate_left
  refine ac (λKz hKz=>?_) AllReadyH.nil
  go_simp
  focus (try go_wp2_with fail)
  (with_reducible refine ZC (t:=28) ?_)
  have hZg:=Hd hOn.size
  (try have hgS:=Hd (Vb hm4.out))
  intro wZ hZ hnew
  (try replace hm4:=Hd (hm4.out.below hnew nR))
  (try replace hv4:=Hd (hv4.out.below hnew))
  refine hKz.out _ _ (Below.trans hOn (Below.mono hnew (Below.size hOn))) ?_
  clear hKz Kz hOn
  intro hOn
  try clear hnew
  try simp only[Act.put,sL,sZ,sS]
  refine rd 5 (λKz hKz=>?_)
  go_simp
  (with_reducible refine(hfo.out _ (hB1.out.trans (hOn.mono hB1.out.size))).mono ?_)
  rintro e w4 ⟨vm,v4,rfl,hm4,hv4,hnew,hf4⟩
  obtain⟨a4,c4,a5,c5,hvm⟩:=hm4.shape
  subst hvm
  (try have hgS:=Hd (JY hZ.out hf4 hm4))
  replace hf4:=Hd (hf4.mono hOn.size)
  replace hm4:=Hd hm4
  replace hv4:=Hd hv4
  (try replace hZ:=Hd ((hnew.block _ (Zb hZ.out)).trans hZ.out))
  focus (go_wp2_with fail)
  refine hKz.out _ _ (Below.trans hOn (Below.mono hnew (Below.size hOn))) ?_
  clear hKz Kz hOn
  intro hOn
  try clear hnew
  try simp only[Act.put,sL,sZ,sS]
  refine tk 6 hOn ?_
  refine tk 7 hOn ?_
  refine tk 8 hOn ?_
  refine rd 10 (λKz hKz=>?_)
  rw[if_pos (by rfl)]
  (with_reducible refine Zs 28 (.tmp 5) (.tmp 16) rfl _ #[.slice none 0 0,.slice none 0 0] #[.slice a4 fm.1.its.length c4,.slice a5 fm.1.ens.length c5] rfl rfl hZ kX rfl (by simp[Value.oneCell']) ?_)
  intro w9 hU9
  have hS:=Below.trans hOn (hU9.out.below hZg.out)
  have hm9:=Hd (hm4.out.only (Only.ofUpd (D:=λk=>k=_) hU9.out rfl) (λk hk e=>hgS.out k hk e))
  have hv9:=Hd (hv4.out.updS hU9.out hZ.out dX)
  have hg9:=Hd hU9.out.here
  refine hKz.out _ _ hS ?_
  clear hKz Kz hOn hS
  intro hOn
  try simp only[Act.put]
  refine tk 11 hOn ?_
  refine dnE ?_
  all_goals
   go_wp2_with fail
   go_meet
   exact⟨_,_,_,_,rfl,rfl,hg9.out,hZg.out,hm9.out,hf4.out,hv9.out,hOn⟩
 case rest=>
  obtain⟨g,sI',sE',v,rfl,rfl,hg,hg1,hm',hf',hv',hgr'⟩:=hcut
  rw[hn] at hv'
  obtain rfl:=hv'.zero
  have hBg:=hB1.out.trans (hgr'.mono hB1.out.size)
  have aRc:=Hd (rlA _ hgr')
  have aLc:=Hd ((hgr'.block _ (Zb aL.out)).trans aL.out)
  have hg2:=Hd hg
  have hbyc:=Hd (hby.out _ hBg)
  have hmc:=Hd hm'
  have hsdN:=Hd (λk hk=>hf'.sd hm' k hk)
  replace hBg:=Hd hBg
  clear hv' hg hgr' rlA hld1 hld2 hby hfo hm'
  have l0:=Za aLc.out 0
  have l3:=Za aLc.out 3
  go_wp2_with ((with_reducible refine wL (.load 49 (.tmp 3)) ?_);refine Ze rfl 49 (.tmp 3) rfl w.heap.size R _ rfl aRc huA rfl iR ?_)
  with_reducible refine hbyc.out.mono ?_
  rintro e w4 ⟨vb,rfl,hob,hb4⟩
  obtain⟨ab,cb,rfl,hAb,hAB⟩:=hob.arg
  have hB4:=hBg.out.trans (hb4.mono hBg.out.size)
  have h4:=h.out.below hB4
  have aL4:=Hd ((hb4.block _ (Zb aLc.out)).trans aLc.out)
  have hg4:=Hd ((hb4.block _ (Zb hg2.out)).trans hg2.out)
  have hm4:=Hd (hmc.out.below hb4 nR)
  have hAo:=Hd (λb o s (e:ab=some ⟨b,o,s⟩)=>show w.heap.size<=b/\b<w4.heap.size from⟨Nat.le_trans hBg.out.size (hAB b o s e).1,(hAB b o s e).2⟩)
  have hpc:=Hd (hput.out w4 ab cb hB4 hAb hAo.out)
  replace hAb:=Hd hAb
  replace hB4:=Hd hB4
  replace h4:=Hd h4
  clear hb4 hob hAB hbyc l0 l3 hput
  have l0:=Za aL4.out 0
  rw[hjb.out] at l0
  go_wp2_with fail
  with_reducible refine hpc.out.mono ?_
  rintro e w5 ⟨rfl,mn5,v5,rv5,F5,p5,hmn5,hj5,hG5,hl5,hl5'⟩
  have hls:=h4.out.journal hj5
  have hJD:∀ k,w.heap.size<=k->¬(JF V.J V.F V.rv k\/ZE V.B V.mb V.v k):=λk hk hd=>by
   rcases hd with q|q
   ·have:=(h.out.jd.jm.lt k q).2;omega
   ·have:=(h.out.jd.dm.lt k q).2;omega
  have hg5:=Hd (hj5.only.heap hg4.out (hJD g (by have:=hs1.out;omega)))
  have hm5:=Hd (hm4.out.only hj5.only (λk hk=>hJD k (by have:=hsdN.out k hk;have:=hs1.out;omega)))
  have hA5:=Hd (hj5.only.argB hAb.out (λb o e=>hJD b (hAo.out b o none e).1))
  have aL5:=hls.ok.at_
  have h45:=hj5.only.size
  have i2':(Tryz.prog.info? 28).map (·.size)=some (#[sI',sE']:Array Value).size:=kX
  have h12:(#[sI',sE']:Array Value).all (·.oneCell')=true:=by
   obtain⟨a,c,a',c',e⟩:=hm5.out.shape
   cases e
   simp[Value.oneCell']
  have hpat:ZU #[.pointer (some ⟨V.J,0,none⟩),V.sI,V.sE,.pointer (some ⟨V.f,0,none⟩)] 1 (#[sI',sE']:Array Value).toList=#[.pointer (some ⟨V.J,0,none⟩),sI',sE',.pointer (some ⟨V.f,0,none⟩)]:=rfl
  replace aL5:Hid (w5.heap[l]? = some (.cells #[.pointer (some ⟨V.J,0,none⟩),V.sI,V.sE,.pointer (some ⟨V.f,0,none⟩)] 124 (0,0))):=Hd aL5
  replace hls:=Hd hls
  replace hj5:=Hd hj5
  replace hG5:=Hd hG5
  replace hJD:=Hd hJD
  replace h45:=Hd h45
  clear l0 hpc
  go_wp2_with (first
   | ((with_reducible refine wL (.load 28 (.tmp 5)) ?_);refine Ze rfl 28 (.tmp 5) rfl g #[sI',sE'] _ rfl hg5 Tryz.underlying28 rfl i2' ?_)
   | ((with_reducible refine wL (.store 28 (.tmp 41) _) ?_);(refine ZK rfl 28 124 (.tmp 41) (.tmp 39) rfl l 1 #[.pointer (some ⟨V.J,0,none⟩),V.sI,V.sE,.pointer (some ⟨V.f,0,none⟩)] #[sI',sE'] rfl rfl aL5 i2' (Nat.le_of_ble_eq_true rfl) h12 ?_);intro w6 hU6;rw[hpat] at hU6;have aL6:=hU6.out.here;have q3:w6.cell? ⟨l,3,none⟩=some (.pointer (some ⟨V.f,0,none⟩)):=(by rw[Za aL6];rfl);clear aL6))
  have h5:=LStep.trans (LStep.grow (LStep.same h.out) hB4.out) hls.out
  have hst6:=LStep.state h5 hU6.out hm5.out hb (λk hk=>by
   have h1:=hsdN.out k hk
   have h2:=hs1.out
   refine⟨oX,λhd=>?_⟩
   rcases hls.out.new k hd with q|q
   ·have:=(h.out.lt k q).2
    omega
   ·have:=hm4.out.sd_lt k hk
    omega)
  have hA6:=(Only.ofUpd (D:=λk=>k=l) hU6.out rfl).argB hA5.out (λb o e e2=>by
   have:=(hAo.out b o none e).1
   omega)
  have hgc:=Hd (hgrw.out w6 ab cb (hst6.below h.out hb) hst6.ok.fr hA6)
  have hb06:=hst6.only.size
  replace hst6:=Hd hst6
  clear h5 hA6 hgrw
  go_wp2_with fail
  with_reducible refine hgc.out.mono ?_
  rintro e w7 ⟨rfl,fv7,hf7,ho7,hn7⟩
  have hst7:=hst6.out.trans (hst6.out.ok.leaf hf7 ho7 hn7)
  replace hst7:=Hd hst7
  replace hmn5:=Hd hmn5
  replace hl5:=Hd hl5
  replace hl5':=Hd hl5'
  clear hf7 ho7 hn7
  go_wp2_with fail
  go_ret
  have hout:x.out.length=x.out.length:=rfl
  exact⟨rfl,_,p5,hst7.out,rfl,rfl,rfl,rfl,hmn5.out,hG5.out,hl5.out,hl5'.out⟩
def Qg(bs:List UInt8)(sh:Bool)(n:Nat):List UInt8:=if sh=true\/bs.length<n then List.replicate n 0 else bs.take n
def YC(bs:List UInt8)(sh:Bool)(n:Nat):List UInt8:=if sh=true\/bs.length<n then bs else bs.drop n
def YJ(bs:List UInt8)(sh:Bool)(n:Nat):Bool:=if sh=true\/bs.length<n then true else false
theorem Yu(bs:List UInt8)(sh:Bool)(n:Nat):(Qg bs sh n).length=n:=by
 unfold Qg
 split
 ·simp
 ·next h=>rw[List.length_take];omega
theorem PZ(bs:List UInt8)(sh:Bool)(n:Nat):(YC bs sh n).length<=bs.length:=by
 unfold YC
 split
 ·exact Nat.le_refl _
 ·rw[List.length_drop];omega
def RdM(w:World)(q B:Nat)(bs:List UInt8)(sh:Bool):Prop:=
 ∃ a c,w.heap[q]? = some (.cells #[.slice a bs.length c,.bool sh] 140 (0,0))/\ArgB w a c bs/\∀ ad,a=some ad->∃ b o,ad=⟨b,o,none⟩/\b≠q/\b<B
theorem HP{a:Option Addr}{q B b o:Nat}(h:∀ ad,a=some ad->∃ b o,ad=⟨b,o,none⟩/\b≠q/\b<B)(e:a=some ⟨b,o,none⟩):b≠q:=by
 obtain⟨b',o',e',hn⟩:=h _ e
 cases e'
 exact hn.1
theorem RdM.only{w w':World}{q B:Nat}{bs:List UInt8}{sh:Bool}{D:Nat->Prop}(h:RdM w q B bs sh)(hO:Only D w w')(hq:¬D q)(hD:∀ k,D k->B<=k):RdM w' q B bs sh:=by
 obtain⟨a,c,h1,h2,h3⟩:=h
 refine⟨a,c,hO.heap h1 hq,hO.argB h2 (λb o e hk=>?_),h3⟩
 obtain⟨b',o',e',_,hn⟩:=h3 _ e
 cases e'
 have:=hD b hk
 omega
def XU(w:World)(q B:Nat)(bs:List UInt8)(sh:Bool)(n:Nat)(e:Ending)(w':World):Prop:=
 ∃ a c,e=.returned (.slice a n c)/\ArgB w' a c (Qg bs sh n)/\(∀ ad,a=some ad->∃ b o,ad=⟨b,o,none⟩/\b≠q)/\RdM w' q B (YC bs sh n) (YJ bs sh n)/\Only (λk=>k=q) w w'
theorem Kj{w:World}{b o c n:Nat}{bs:List UInt8}(h:ArgB w (some ⟨b,o,none⟩) c bs)(hn:n<=bs.length):ArgB w (some ⟨b,o,none⟩) c (bs.take n)/\ArgB w (some ⟨b,o+n,none⟩) (c-n) (bs.drop n):=by
 have hl:=h.len
 have hm:=h.most
 refine⟨⟨by rw[List.length_take];omega,hm,(λe=>by cases e),λi hi=>?_⟩,⟨by rw[List.length_drop];omega,oX,(λe=>by cases e),λi hi=>?_⟩⟩
 ·rw[List.length_take] at hi
  obtain⟨b',o',e,hc⟩:=h.row i oX
  cases e
  refine⟨_,_,rfl,?_⟩
  rw[hc]
  congr 2
  simp[List.getD_eq_getElem?_getD,show i<n by omega]
 ·rw[List.length_drop] at hi
  obtain⟨b',o',e,hc⟩:=h.row (n+i) oX
  cases e
  refine⟨_,_,rfl,?_⟩
  rw[show o+n+i=o+(n+i) from by omega,hc]
  congr 2
  simp[List.getD_eq_getElem?_getD,List.getElem?_drop]
theorem Vy{w:World}{a:Option Addr}{c:Nat}(hm:c<=maxLen)(hn:a=none->c=0):ArgB w a c []:=⟨Nat.zero_le _,hm,hn,λ_ hi=>absurd hi (Nat.not_lt_zero _)⟩
theorem HE(q B:Nat)(bs:List UInt8)(sh:Bool)(n:Nat)(w:World)(h:RdM w q B bs sh)(hn:n<=1000)(hs:sh=true\/bs.length<n):Calls Tryz.prog 103 #[.pointer (some ⟨q,0,none⟩),.int .i64 (n:Int)] w (XU w q B bs sh n):=by
 obtain⟨i0,hi,hz0,hz1,hz2⟩:=info_parts Tryz.infoByteP
 obtain⟨a,c,hq,ha,hne⟩:=h
 have eO:Qg bs sh n=List.replicate n 0:=by unfold Qg;rw[if_pos hs]
 have eB:YC bs sh n=bs:=by unfold YC;rw[if_pos hs]
 have eS:YJ bs sh n=true:=by unfold YJ;rw[if_pos hs]
 have c0:=Za hq 0
 have c1:=Za hq 1
 have f1:=Zo hq 1
 have hlt:=Zb hq
 obtain⟨w2,hw2⟩:∃ w2,w2=w.setCell ⟨q,1,none⟩ (.bool true):=⟨_,rfl⟩
 have hU:=(Upd.refl hq).setCell (j:=1) (.bool true)
 rw[<-hw2] at hU
 replace hw2:=Hd hw2
 obtain⟨L,hL⟩:∃ L,L=bs.length:=⟨_,rfl⟩
 rw[<-hL] at c0 hs
 replace hL:=Hd hL
 replace hU:=Hd hU
 replace ha:=Hd ha
 replace hne:=Hd hne
 replace hq:=Hd hq
 have hfin:∀ w4,Only (λk=>k=q) w w4->w4.heap[q]? = some (.cells #[.slice a bs.length c,.bool true] 140 (0,0))->RdM w4 q B bs true:=λw4 hO h4=>⟨a,c,h4,hO.argB ha.out (λb o e=>HP hne.out e),hne.out⟩
 replace hfin:=Hd hfin
 have hpost:∀ w4,OwnB w.heap.size w4 (.slice (some ⟨w2.heap.size,0,none⟩) n n) (List.replicate n 0)->Only (λk=>k=q) w w4->w4.heap[q]? = some (.cells #[.slice a bs.length c,.bool true] 140 (0,0))->XU w q B bs sh n (.returned (.slice (some ⟨w2.heap.size,0,none⟩) n n)) w4:=λw4 h1 h2 h3=>by
  obtain⟨a4,c4,e4,h4,_⟩:=h1.arg
  rw[List.length_replicate] at e4
  cases e4
  refine⟨_,_,rfl,by rw[eO];exact h4,λad e=>?_,by rw[eB,eS];exact hfin.out w4 h2 h3,h2⟩
  cases e
  refine⟨_,_,rfl,?_⟩
  have:=hU.out.size
  omega
 replace hpost:=Hd hpost
 clear eO eB eS
 by_cases hsh:sh=true
 ·subst hsh
  clear hs
  go_enter Tryz.func103,Tryz.ntmps103
  go_wp2_with (at_make;rw[<-hw2.out];go_must (refine wpList_make_full _ rfl _ _ 24 rfl w.heap.size 5 i0 (.int .u8 0) 1 Tryz.underlying24 hi hz0 hz1 _ _ _ _ n rfl rfl oX oX (by rw[hz2];omega) (by unfold maxLen;omega) (by have:=hU.out.size;omega) ?_))
  intro w4 hown4 hg4
  have hO4:=OwnB.made hown4
  rw[Vz] at hO4
  have h4:=(hg4.block q (by have:=hU.out.size;omega) sX).trans hU.out.here
  have hOn:Only (λk=>k=q) w w4:=(Only.ofUpd (D:=λk=>k=q) hU.out rfl).trans (Only.ofGrown (D:=λ_=>False) hg4 (λk e=>by cases e)) (λ_ _ e=>e.elim)
  replace hO4:=Hd hO4
  replace h4:=Hd h4
  replace hOn:=Hd hOn
  clear hown4 hg4
  go_wp2_with fail
  go_ret
  exact hpost.out w4 hO4.out hOn.out h4.out
 ·have hsf:sh=false:=by simpa using hsh
  subst hsf
  have hln:L<n:=hs.resolve_left sX
  have hlt2:(L:Int)<(n:Int):=oX
  clear hs hsh hln
  go_enter Tryz.func103,Tryz.ntmps103
  go_wp2_with (at_make;rw[<-hw2.out];go_must (refine wpList_make_full _ rfl _ _ 24 rfl w.heap.size 5 i0 (.int .u8 0) 1 Tryz.underlying24 hi hz0 hz1 _ _ _ _ n rfl rfl oX oX (by rw[hz2];omega) (by unfold maxLen;omega) (by have:=hU.out.size;omega) ?_))
  intro w4 hown4 hg4
  have hO4:=OwnB.made hown4
  rw[Vz] at hO4
  have h4:=(hg4.block q (by have:=hU.out.size;omega) sX).trans hU.out.here
  have hOn:Only (λk=>k=q) w w4:=(Only.ofUpd (D:=λk=>k=q) hU.out rfl).trans (Only.ofGrown (D:=λ_=>False) hg4 (λk e=>by cases e)) (λ_ _ e=>e.elim)
  replace hO4:=Hd hO4
  replace h4:=Hd h4
  replace hOn:=Hd hOn
  clear hown4 hg4
  go_wp2_with fail
  go_ret
  exact hpost.out w4 hO4.out hOn.out h4.out
theorem RW(q B:Nat)(bs:List UInt8)(n:Nat)(w:World)(h:RdM w q B bs false)(hn:n<=bs.length)(hm:bs.length<=1000000):Calls Tryz.prog 103 #[.pointer (some ⟨q,0,none⟩),.int .i64 (n:Int)] w (XU w q B bs false n):=by
 obtain⟨a,c,hq,ha,hne⟩:=h
 have hs:¬(false=true\/bs.length<n):=sY
 have eO:Qg bs false n=bs.take n:=by unfold Qg;rw[if_neg hs]
 have eB:YC bs false n=bs.drop n:=by unfold YC;rw[if_neg hs]
 have eS:YJ bs false n=false:=by unfold YJ;rw[if_neg hs]
 have c0:=Za hq 0
 have c1:=Za hq 1
 have f0:=Zo hq 0
 have hlt:=Zb hq
 have hlen:=ha.len
 have hmost:=ha.most
 have hU:∀ v,Upd q (.cells #[v,.bool false] 140 (0,0)) w (w.setCell ⟨q,0,none⟩ v):=λv=>(Upd.refl hq).setCell (j:=0) v
 have hfin:∀ a2 c2,ArgB w a2 c2 (bs.drop n)->(∀ ad,a2=some ad->∃ b o,ad=⟨b,o,none⟩/\b≠q/\b<B)->ArgB w a c (bs.take n)->XU w q B bs false n (.returned (.slice a n c)) (w.setCell ⟨q,0,none⟩ (.slice a2 (bs.length-n) c2)):=λa2 c2 h1 h2 h3=>by
  have hO:Only (λk=>k=q) w (w.setCell ⟨q,0,none⟩ (.slice a2 (bs.length-n) c2)):=Only.ofUpd (hU _) rfl
  refine⟨a,c,rfl,by rw[eO];exact hO.argB h3 (λb o e=>HP hne e),(λad e=>by obtain⟨b,o,h4,h5,_⟩:=hne ad e;exact⟨b,o,h4,h5⟩),?_,hO⟩
  rw[eB,eS]
  refine⟨a2,c2,?_,hO.argB h1 (λb o e=>HP h2 e),h2⟩
  rw[List.length_drop]
  exact(hU _).here
 obtain⟨L,hL⟩:∃ L,L=bs.length:=⟨_,rfl⟩
 rw[<-hL] at c0 hfin hlen hn hm
 have hnl:¬(L:Int)<(n:Int):=oX
 have hn0:(0:Int)<=(n:Int):=oX
 have hle:(n:Int)<=(L:Int):=oX
 have hlc:(L:Int)<=(c:Int):=oX
 have hnc:(n:Int)<=(c:Int):=oX
 have hsub:((L:Int)-(n:Int)).toNat=L-n:=oX
 have hsubc:((c:Int)-(n:Int)).toNat=c-n:=oX
 replace hL:=Hd hL
 replace hfin:=Hd hfin
 replace hU:=Hd hU
 clear eO eB eS hs hq
 cases a with
 | none=>
  have hc0:=ha.nil rfl
  subst hc0
  obtain rfl:L=0:=oX
  obtain rfl:n=0:=oX
  have he:bs=[]:=List.length_eq_zero_iff.1 hL.out.symm
  subst he
  have hgo:=Hd (hfin.out none 0 (by exact Vy dX (λ_=>rfl)) (λad e=>by cases e) (by exact Vy dX (λ_=>rfl)))
  clear ha hne hfin hU
  go_enter Tryz.func103,Tryz.ntmps103
  go_wp2_with fail
  go_ret
  exact hgo.out
 | some ad=>
  obtain⟨b,o,rfl,hbq,hbB⟩:=hne ad rfl
  obtain⟨h1,h2⟩:=Kj ha (n:=n) (by rw[<-hL.out];exact hn)
  by_cases hcc:n=c
  ·subst hcc
   obtain rfl:L=n:=oX
   have hgo:=Hd (λb2 o2 (h:b2≠q/\b2<B)=>hfin.out (some ⟨b2,o2,none⟩) 0 (by rw[show bs.drop L=[] from by rw[hL.out];exact List.drop_length];exact Vy dX (λe=>by cases e)) (λad e=>by cases e;exact⟨_,_,rfl,h.1,h.2⟩) h1)
   clear ha hne hfin hU h1 h2
   go_enter Tryz.func103,Tryz.ntmps103
   go_wp2_with fail
   go_ret
   have:=hgo.out b o ⟨hbq,hbB⟩
   simpa using this
  ·have hgo:=Hd (hfin.out (some ⟨b,o+n,none⟩) (c-n) h2 (λad e=>by cases e;exact⟨_,_,rfl,hbq,hbB⟩) h1)
   have hlt2:n<c:=oX
   have hcn:¬c=n:=oX
   have hcb:¬c<=n:=oX
   clear ha hne hfin hU h1 h2
   go_enter Tryz.func103,Tryz.ntmps103
   go_wp2_with fail
   go_ret
   exact hgo.out
theorem Kc(q B:Nat)(bs:List UInt8)(sh:Bool)(n:Nat)(w:World)(h:RdM w q B bs sh)(hn:n<=1000)(hm:bs.length<=1000000):Calls Tryz.prog 103 #[.pointer (some ⟨q,0,none⟩),.int .i64 (n:Int)] w (XU w q B bs sh n):=by
 by_cases hs:sh=true\/bs.length<n
 ·exact HE q B bs sh n w h hn hs
 ·have hsf:sh=false:=by
   cases sh
   ·rfl
   ·exact absurd (Or.inl rfl) hs
  subst hsf
  exact RW q B bs n w h oX hm
section
variable {P:Program} {ops:Array Oper} {rest:List Oper} {op:Oper} {a:Act} {w:World} {Q:Exit->Act->World->Prop}
theorem Z1(hw:Region.wanted op (yielded ops a.tmps)=true)(ty:TypeId)(x:Operand)(ho:op.op=.load ty x)
  (b o:Nat) (hx:a.eval x=.pointer (some ⟨b,o,none⟩)) (cs:List Value) (d:TypeDesc) (hc:w.rangeAt b o cs)
  (hu:P.underlying ty=some d) (hd:d.isRow=true) (hi:(P.info? ty).map (·.size)=some cs.length) (C:Array Value) (hC:Hid (C=cs.toArray))
  (h:wpList P ops Q rest (a.put op.dst (.agg C)) w):wpList P ops Q (op::rest) a w:=by
 refine wpList_step λK hK=>?_
 rw[if_pos hw]
 rw[hC.out] at h
 exact wp_load_mid ty x ho b o hx cs d hc hu hd hi (hK _ _ h)
theorem QT(hgd:op.guard=none)(ty:TypeId)(x:Operand)(ho:op.op=.load ty x)
  (b o:Nat) (hx:a.eval x=.pointer (some ⟨b,o,none⟩)) (cs:List Value) (d:TypeDesc) (hc:w.rangeAt b o cs)
  (hu:P.underlying ty=some d) (hd:d.isRow=true) (hi:(P.info? ty).map (·.size)=some cs.length) (C:Array Value) (hC:Hid (C=cs.toArray))
  (h:wpList P ops Q rest (a.put op.dst (.agg C)) w):wpList P ops Q (op::rest) a w:=by
 rw[hC.out] at h
 exact wpList_load_mid hgd ty x ho b o hx cs d hc hu hd hi h
end
def z32a:Array Value:=#[.int .u8 0,.int .u8 0,.int .u8 0,.int .u8 0,.int .u8 0,.int .u8 0,.int .u8 0,.int .u8 0,.int .u8 0,.int .u8 0,.int .u8 0,.int .u8 0,.int .u8 0,.int .u8 0,.int .u8 0,.int .u8 0,.int .u8 0,.int .u8 0,.int .u8 0,.int .u8 0,.int .u8 0,.int .u8 0,.int .u8 0,.int .u8 0,.int .u8 0,.int .u8 0,.int .u8 0,.int .u8 0,.int .u8 0,.int .u8 0,.int .u8 0,.int .u8 0]
def RcF(R:Array Value)(lp lr lf:List Value)(v0 v1 v2:Int)(v3:ByteArray)(v7 v8 v9 v10:Int):Prop:=
 ∀ {T:TypeId} {b:Nat} {W:World},W.heap[b]? = some (.cells R T (0,0))->W.cell? ⟨b,0,none⟩=some (.int .i64 v0)/\W.cell? ⟨b,1,none⟩=some (.int .i64 v1)/\W.cell? ⟨b,2,none⟩=some (.int .i64 v2)/\W.cell? ⟨b,3,none⟩=some (.string v3)/\
  W.cell? ⟨b,74,none⟩=some (.int .i64 v7)/\W.cell? ⟨b,75,none⟩=some (.int .i64 v8)/\W.cell? ⟨b,76,none⟩=some (.int .i64 v9)/\W.cell? ⟨b,77,none⟩=some (.int .i64 v10)/\Hid (W.rangeAt b 4 lp)/\Hid (W.rangeAt b 10 lr)/\Hid (W.rangeAt b 42 lf)
theorem Rc.facts(x:Rc)(hx:x.Ok):RcF x.list.toArray x.p.list (cB x.root) (cB x.file) x.kind x.obj x.id x.name x.way x.index x.verdict x.tick:=fun {T b W} h=>by
 refine⟨?_,?_,?_,?_,?_,?_,?_,?_,Hd (QD h (Rc.sub_p x)),Hd (QD h (Rc.sub_root hx.root)),Hd (QD h (Rc.sub_file hx.root hx.file))⟩
 all_goals rw[Za h,List.getElem?_toArray]
 ·exact x.c0
 ·exact x.c1
 ·exact x.c2
 ·exact x.c3
 ·exact Rc.c74 hx.root hx.file
 ·exact Rc.c75 hx.root hx.file
 ·exact Rc.c76 hx.root hx.file
 ·exact Rc.c77 hx.root hx.file
theorem JN{R:Array Value}{lp lr lf:List Value}{v0 v1 v2:Int}{v3:ByteArray}{v7 v8 v9 v10:Int}(hF:RcF R lp lr lf v0 v1 v2 v3 v7 v8 v9 v10){w w3:World}{T D:TypeId}(hrow:Hid ((w.alloc (.cells R T)).heap[w.heap.size]? = some (.cells R T (0,0))))(hb:Hid (Below w.heap.size w (w.alloc (.cells R T))))
  (hU:Hid (Upd (w.heap.size+1) (.cells z32a D (0,0)) ((w.alloc (.cells R T)).alloc (.cells z32a D)) w3)):Hid (w3.rangeAt (w.heap.size+1) 0 z32a.toList)/\Hid (Below w.heap.size w w3)/\Hid (w3.heap[w.heap.size]? = some (.cells R T (0,0)))/\
  w3.cell? ⟨w.heap.size,0,none⟩=some (.int .i64 v0)/\w3.cell? ⟨w.heap.size,1,none⟩=some (.int .i64 v1)/\w3.cell? ⟨w.heap.size,2,none⟩=some (.int .i64 v2)/\w3.cell? ⟨w.heap.size,3,none⟩=some (.string v3)/\
  w3.cell? ⟨w.heap.size,74,none⟩=some (.int .i64 v7)/\w3.cell? ⟨w.heap.size,75,none⟩=some (.int .i64 v8)/\w3.cell? ⟨w.heap.size,76,none⟩=some (.int .i64 v9)/\w3.cell? ⟨w.heap.size,77,none⟩=some (.int .i64 v10)/\Hid (w3.rangeAt w.heap.size 4 lp)/\Hid (w3.rangeAt w.heap.size 10 lr)/\Hid (w3.rangeAt w.heap.size 42 lf):=by
 have hrow3:w3.heap[w.heap.size]? = some (.cells R T (0,0)):=by
  rw[hU.out.block _ oX,Zk,if_neg sX]
  exact hrow.out
 exact⟨Hd (QD (o:=0) (n:=32) hU.out.here rfl),Hd ((hb.out.alloc sX _).trans (hU.out.below (Nat.le_succ _))),Hd hrow3,hF hrow3⟩
def ZA:List UInt8->Nat->Nat
 | [],s=>s
 | b::r,s=>ZA r (min s 2199023255552*256+b.toNat)
theorem LJ(m:Nat)(b:UInt8)(hm:m<=2199023255552):bits .or .i64 ((m:Int)*256) (b.toNat:Int)=((m*256+b.toNat:Nat):Int):=by
 have hb:=b.toNat_lt
 have h2:=Nat.shiftLeft_add_eq_or_of_lt (i:=8) (b:=b.toNat) hb m
 rw[Nat.shiftLeft_eq] at h2
 have:=K5 (m*256) b.toNat oX oX
 rw[show ((m:Int)*256)=((m*256:Nat):Int) from by omega,this]
 rw[show m*2 ^ 8=m*256 from rfl] at h2
 rw[h2]
def KY(w:World)(q B:Nat)(bs:List UInt8)(sh:Bool)(n:Nat)(e:Ending)(w':World):Prop:=
 e=.returned (.int .i64 (ZA (Qg bs sh n) 0:Nat))/\RdM w' q B (YC bs sh n) (YJ bs sh n)/\Only (λk=>k=q) w w'
theorem TR(q B:Nat)(bs:List UInt8)(sh:Bool)(n:Nat)(w:World)(h:RdM w q B bs sh)(hn:n<=8)(hm:bs.length<=1000000):Calls Tryz.prog 63 #[.pointer (some ⟨q,0,none⟩),.int .i64 (n:Int)] w (KY w q B bs sh n):=by
 have htk:=Hd (Kc q B bs sh n w h oX hm)
 have hlen:=Yu bs sh n
 have hpost:=Hd (λ(w':World) (S:Nat) (h1:ZA (Qg bs sh n) 0=S) (h2:RdM w' q B (YC bs sh n) (YJ bs sh n)) (h3:Only (λk=>k=q) w w')=>(⟨by rw[h1],h2,h3⟩:KY w q B bs sh n (.returned (.int .i64 (S:Int))) w'))
 clear h
 go_enter Tryz.func63,Tryz.ntmps63
 go_wp2_with fail
 with_reducible refine htk.out.mono ?_
 rintro e w2 ⟨a,c,rfl,ha,_,hrd,hO⟩
 have hfin:∀ S:Nat,ZA (Qg bs sh n) 0=S->KY w q B bs sh n (.returned (.int .i64 (S:Int))) w2:=λS h1=>hpost.out w2 S h1 hrd hO
 clear hrd hO hpost htk
 generalize Qg bs sh n=xs at*
 subst hlen
 obtain⟨L,hL⟩:∃ L,L=xs.length:=⟨_,rfl⟩
 rw[<-hL]
 rw[<-hL] at hn
 replace hfin:=Hd hfin
 replace hL:=Hd hL
 replace ha:=Hd ha
 go_wp2_with fail
 go_loop [5,7,12] (λs _ j=>∃ (k:Nat) (S:Nat),k<=L/\j=.int .i64 k/\s=.int .i64 (S:Int)/\S<=562949953421567/\ZA xs 0=ZA (xs.drop k) S) (λ_ _ j=>L-(intOf j).toNat)
 case atStart=>exact⟨0,0,Nat.zero_le _,rfl,rfl,oX,by rw[List.drop_zero]⟩
 case round=>
  obtain⟨k,S,hk,rfl,rfl,hS1,hrec⟩:=hrel
  by_cases hlt:k<L
  ·have hkb:k<xs.length:=by rw[<-hL.out];exact hlt
   obtain⟨g,off,e0,hc⟩:=ha.out.row k hkb
   have hli:(k:Int)<L:=oX
   rw[Ht xs k hkb] at hrec
   subst e0
   generalize xs.getD k 0=b at*
   have hb:=b.toNat_lt
   obtain⟨M,hM⟩:∃ M,M=min S 2199023255552:=⟨_,rfl⟩
   have hmn:(if (2199023255552:Int)<(S:Int) then (2199023255552:Int) else (S:Int))=(M:Int):=by split<;>omega
   have hmn2:min (S:Int) 2199023255552=(M:Int):=oX
   have hMl:M<=2199023255552:=oX
   have hr:ZA xs 0=ZA (xs.drop (k+1)) (M*256+b.toNat):=by rw[hrec,hM];rfl
   have hw1:IntKind.i64.wrap ((M:Int)*256)=(M:Int)*256:=IntWalk.i64_in _ oX
   have hw4:wrap64 ((M:Int)*256)=(M:Int)*256:=IntWalk.wrap64_in _ oX
   have hw2:IntKind.i64.wrap (b.toNat:Int)=(b.toNat:Int):=IntWalk.i64_in _ oX
   have hor:=LJ M b hMl
   have hbd:=Hd (show M*256+b.toNat<=562949953421567 from by omega)
   clear hrec
   replace hM:=Hd hM
   replace hr:=Hd hr
   go_wp2_with fail
   exact⟨⟨k+1,M*256+b.toNat,oX,by go_num,by first|rfl|go_num,hbd.out,hr.out⟩,by simp[intOf];omega⟩
  ·obtain rfl:k=L:=oX
   have hr:ZA xs 0=S:=by rw[hrec,hL.out,List.drop_length];rfl
   clear hrec
   replace hr:=Hd hr
   go_wp2_with fail
   go_ret
   exact hfin.out S hr.out
section
variable {P:Program} {ops:Array Oper} {rest:List Oper} {o:Oper} {a:Act} {w:World} {Q:Exit->Act->World->Prop}
theorem TF(hgd:o.guard=none)(arr:TypeId)(x:Operand)(ho:o.op=.sliceToArrayPointer arr x)(ad:Addr)(l c n:Nat)(e:TypeId)(hx:a.eval x=.slice (some ad) l c)(hu:P.underlying arr=some (.array n e))(hl:n<=l)
  (h:wpList P ops Q rest (a.put o.dst (.pointer (some ad))) w):wpList P ops Q (o::rest) a w:=by
 refine wpList_plain hgd λK hK=>?_
 have h2:=hK _ _ h
 have hn:¬l<n:=oX
 unfold Oper.wp execOp
 simp only[ho,hx,Instr.arrayAt,run_underlying hu,Sem.run_bind,Sem.run_pure,Result.andThen_ok,if_neg hn]
 exact h2
end
theorem Mt{w:World}{b o c:Nat}{xs:List UInt8}(h:ArgB w (some ⟨b,o,none⟩) c xs):w.rangeAt b o (cB xs):=λj v hv=>by
 have hj:j<xs.length:=by have:=(List.getElem?_eq_some_iff.1 hv).1;rwa [Zg] at this
 obtain⟨b',o',e,hc⟩:=h.row j hj
 cases e
 rw[hc,<-hv]
 simp[cB,hj]
def Hm(w:World)(q B:Nat)(bs:List UInt8)(sh:Bool)(e:Ending)(w':World):Prop:=
 e=.returned (.agg (cB (Qg bs sh 32)).toArray)/\RdM w' q B (YC bs sh 32) (YJ bs sh 32)/\Only (λk=>k=q) w w'
theorem TN(q B:Nat)(bs:List UInt8)(sh:Bool)(w:World)(h:RdM w q B bs sh)(hm:bs.length<=1000000)(hB:B<=w.heap.size):Calls Tryz.prog 104 #[.pointer (some ⟨q,0,none⟩)] w (Hm w q B bs sh):=by
 have htk:∀ W,RdM W q B bs sh->Calls Tryz.prog 103 #[.pointer (some ⟨q,0,none⟩),.int .i64 32] W (XU W q B bs sh 32):=λW h=>Kc q B bs sh 32 W h oX hm
 replace htk:=Hd htk
 have hlt:q<w.heap.size:=by obtain⟨a,c,h1,_⟩:=h;exact Zb h1
 have hlen:=Yu bs sh 32
 obtain⟨w1,hw1⟩:∃ w1,w1=w.alloc (.cells #[.int .u8 0,.int .u8 0,.int .u8 0,.int .u8 0,.int .u8 0,.int .u8 0,.int .u8 0,.int .u8 0,.int .u8 0,.int .u8 0,.int .u8 0,.int .u8 0,.int .u8 0,.int .u8 0,.int .u8 0,.int .u8 0,.int .u8 0,.int .u8 0,.int .u8 0,.int .u8 0,.int .u8 0,.int .u8 0,.int .u8 0,.int .u8 0,.int .u8 0,.int .u8 0,.int .u8 0,.int .u8 0,.int .u8 0,.int .u8 0,.int .u8 0,.int .u8 0] 47):=⟨_,rfl⟩
 have h1:RdM w1 q B bs sh:=by
  rw[hw1]
  exact h.only (D:=λ_=>False) (Only.ofBelow (bR.alloc nR _)) (λe=>e) (λk e=>e.elim)
 replace h1:=Hd h1
 have hz1:w1.heap[w.heap.size]? = some (.cells z32a 47 (0,0)):=by rw[hw1];exact heap_alloc_new w (.cells z32a 47)
 have hb1:Below w.heap.size w w1:=by rw[hw1];exact bR.alloc nR _
 have hi5:(Tryz.prog.info? 47).map (·.size)=some (cB (Qg bs sh 32)).toArray.size:=by rw[List.size_toArray,Zg,hlen];kernel_rfl
 have hi6:(Tryz.prog.info? 47).map (·.size)=some (cB (Qg bs sh 32)).length:=by rw[Zg,hlen];kernel_rfl
 have hz5:z32a.size=(cB (Qg bs sh 32)).toArray.size:=by show 32=_;rw[List.size_toArray,Zg,hlen]
 have ho5:=X5 (ZQ (Qg bs sh 32))
 have hud:=Tryz.underlying47
 replace hw1:=Hd hw1
 have hlw1:w.heap.size<w1.heap.size:=Zb hz1
 replace hz1:=Hd hz1
 replace hb1:=Hd hb1
 go_enter Tryz.func104,Tryz.ntmps104
 go_wp2_with fail
 rw[<-hw1.out]
 with_reducible refine(htk.out _ h1.out).mono ?_
 rintro e w2 ⟨a,c,rfl,ha,hne,hrd,hO⟩
 have hz2:=Hd (hO.heap hz1.out oX)
 have had:∃ b o,a=some ⟨b,o,none⟩:=by
  cases a with
  | none=>have h2:=ha.nil rfl;have h3:=ha.len;rw[hlen] at h3;omega
  | some ad=>obtain⟨b,o,rfl,_⟩:=hne ad rfl;exact⟨b,o,rfl⟩
 obtain⟨b,o,rfl⟩:=had
 have hr:=Hd (Mt ha)
 have hpost:∀ w3,Hid (Upd w.heap.size (.cells (cB (Qg bs sh 32)).toArray 47 (0,0)) w2 w3)->Hm w q B bs sh (.returned (.agg (cB (Qg bs sh 32)).toArray)) w3:=λw3 hU=>by
  have hO3:Only (λk=>k=w.heap.size) w2 w3:=Only.ofUpd hU.out rfl
  have hO12:Only (λk=>k=q) w w2:=(Only.ofBelow (D:=λk=>k=q) hb1.out).trans hO (λ_ _ e=>e)
  refine⟨rfl,?_,hO12.trans hO3 (λk hk e=>by omega)⟩
  exact hrd.only hO3 oX (λk hk=>by omega)
 generalize hX:(cB (Qg bs sh 32)).toArray=X at*
 generalize cB (Qg bs sh 32)=lx at*
 clear ha hne hrd hO htk h1
 replace hpost:=Hd hpost
 go_wp2_with (first
  | (refine TF rfl 47 (.tmp 4) rfl ⟨b,o,none⟩ 32 c 32 _ rfl hud nR ?_)
  | ((with_reducible refine wL (.load 47 (.tmp 5)) ?_);refine wpList_load_mid rfl 47 (.tmp 5) rfl b o rfl lx _ hr.out hud rfl hi6 ?_;rw[hX])
  | ((with_reducible refine wL (.store 47 (.tmp 2) _) ?_);(refine Zc rfl 47 (.tmp 2) (.tmp 6) rfl w.heap.size z32a X rfl rfl hz2 hi5 hz5 ho5 ?_);intro w3 hU3))
 exact ZM rfl rfl hud rfl hi5 hU3.out.here (hpost.out w3 hU3)
end Go.Proofs.YtpdhceiodgnbmaaGreatDoor
