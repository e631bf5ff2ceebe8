import Derived.Test.YtpdhceiodgnbmaaGreatDoorF0FollowsSaid
import Derived.Test.YtpdhceiodgnbmaaGreatDoorF1FollowsSaid
import Derived.Test.YtpdhceiodgnbmaaGreatDoorF5FollowsSaid
import Derived.Test.YtpdhceiodgnbmaaGreatDoorF4FollowsSaid
import Derived.Test.YtpdhceiodgnbmaaGreatDoorF6FollowsSaid
import Derived.Test.YtpdhceiodgnbmaaGreatDoorF11FollowsSaid
import Derived.Test.YtpdhceiodgnbmaaGreatDoorF38FollowsSaid
import Derived.Test.YtpdhceiodgnbmaaGreatDoorF31FollowsSaid
import Derived.Test.YtpdhceiodgnbmaaGreatDoorF8FollowsSaid
import Derived.Test.YtpdhceiodgnbmaaGreatDoorF3FollowsSaid
import Derived.Deep.QuietTactic
import Derived.Deep.CutRange
import Derived.Deep.RegionWith
import Derived.Test.YtpdhceiodgnbmaaGreatDoorF35FollowsSaid
import Derived.Test.YtpdhceiodgnbmaaGreatDoorF13FollowsSaid
import Derived.Test.YtpdhceiodgnbmaaGreatDoorF37FollowsSaid
import Derived.Lib.SlBuf
set_option linter.unusedVariables false
set_option linter.unusedSimpArgs false
set_option linter.unnecessarySimpa false
set_option maxRecDepth 100000
set_option maxHeartbeats 8000000
namespace Go.Proofs.YtpdhceiodgnbmaaGreatDoor
open Go.RowKit
theorem JW:(Tryz.prog.info? 66).map (·.size)=some 7:=kX
def ZB(xs:List En):List En:=xs.filter (λx=>decide (x.v=0))
def Xa(ns:List En):Int:=match ns.findIdx? (λx=>decide (x.v≠0)) with
 | some i=>(i:Int)
 | none => -1
theorem Hp{ns:List En}{k:Nat}(hk:k<ns.length)(h:∀ j (hj:j<ns.length),j<k->ns[j].v=0)(he:ns[k].v≠0):Xa ns=(k:Int):=by
 have:ns.findIdx? (λx=>decide (x.v≠0))=some k:=by
  rw[List.findIdx?_eq_some_iff_getElem]
  refine⟨hk,by simpa using he,λj hj=>?_⟩
  simpa using h j oX hj
 unfold Xa
 rw[this]
theorem NS{ns:List En}(h:∀ j (hj:j<ns.length),ns[j].v=0):Xa ns = -1:=by
 have:ns.findIdx? (λx=>decide (x.v≠0))=none:=by
  rw[List.findIdx?_eq_none_iff]
  intro x hx
  obtain⟨j,hj,rfl⟩:=List.getElem_of_mem hx
  simpa using h j hj
 unfold Xa
 rw[this]
theorem UN(x:En)(X:Array Value)(hX:X=x.list.toArray)(w:World) :
  Calls Tryz.prog 51 #[.agg X] w λr w'=>r=.returned (.bool (decide (x.v≠0)))/\Below w.heap.size w w':=by
 have hG:Below w.heap.size w (w.alloc (.cells X 66)):=bR.alloc nR _
 have k0:(w.alloc (.cells X 66)).cell? ⟨w.heap.size,5,none⟩=some (.int .i64 x.v):=by rw[Za (heap_alloc_new w _)];rw[hX];rfl
 replace hG:=Hd hG
 clear hX
 go_enter Tryz.func51,Tryz.ntmps51
 go_wp2_with fail
 go_ret
 exact⟨by by_cases h:x.v=0<;>simp[h],hG.out⟩
theorem N1(a:Option Addr)(c:Nat)(ns:List En)(hok:∀ x∈ns,x.Ok)(w:World)(h:RowAt En.list 7 w a ns)(hl:ns.length<=1000000)  :
  Calls Tryz.prog 95 #[.slice a ns.length c,.func (.func 51) #[] #[]] w λr w'=>r=.returned (.int .i64 (Xa ns))/\Below w.heap.size w w':=by
 have huN:Tryz.prog.underlying 66=_:=Tryz.underlying66
 obtain⟨q,hq⟩:∃ q,q=Xa ns:=⟨_,rfl⟩
 rw[<-hq]
 obtain⟨N,hN⟩:∃ N,N=ns.length:=⟨_,rfl⟩
 rw[<-hN] at hl ⊢
 replace hN:=Hd hN
 replace hq:=Hd hq
 replace h:=Hd h
 replace hok:=Hd hok
 go_enter Tryz.func95,Tryz.ntmps95
 go_wp2_with fail
 refine Z8 [(false,4),(true,2),(false,2),(true,11)] _ [] (λU wr=>∃ k:Nat,k<=N/\U 8=.int .i64 (k:Nat)/\Below w.heap.size w wr/\∀ j (hj:j<ns.length),j<k->ns[j].v=0) (λU _=>N-(intOf (U 8)).toNat) ?_ ?_
 ·simp only[List.getD_cons_zero,List.getD_cons_succ]
  exact⟨0,Nat.zero_le _,rfl,Below.refl _ _,λj _ hj=>absurd hj (Nat.not_lt_zero _)⟩
 ·intro U wr hrel KK hback l' hl'
  obtain⟨k,hk,h8,hbw,hle⟩:=hrel
  simp only[ZR,ZD,cond_true,cond_false,Nat.reduceAdd,h8] at hl'
  subst hl'
  replace h8:=Hd h8
  replace hle:=Hd hle
  by_cases hlt:k<N
  ·have hlt2:(k:Int)<(N:Int):=oX
   have hkN:k<ns.length:=by rw[<-hN.out];exact hlt
   obtain⟨b1,o1,rfl,hr1⟩:=h.out.below hbw nR k hkN
   have ox:=hok.out _ (List.getElem_mem hkN)
   have hhit:=λ(e:ns[k].v≠0)=>Hp hkN hle.out e
   have hstep:=λ(e:ns[k].v=0)=>show ∀ j (hj:j<ns.length),j<k+1->ns[j].v=0 from λj hj hjk=>by
    by_cases hjk2:j<k
    ·exact hle.out j hj hjk2
    ·obtain rfl:j=k:=oX
     exact e
   generalize ns[k]=x at*
   obtain⟨X,hX⟩:∃ X,X=x.list.toArray:=⟨_,rfl⟩
   have ix:(Tryz.prog.info? 66).map (·.size)=some x.list.length:=by exact JW
   have hcall:=UN x X hX wr
   have hsz:=hbw.size
   replace hX:=Hd hX
   replace hr1:=Hd hr1
   replace hbw:=Hd hbw
   replace hhit:=Hd hhit
   replace hstep:=Hd hstep
   replace ox:=Hd ox
   by_cases he:x.v≠0
   ·have hqk:q=(k:Int):=by rw[hq.out];exact hhit.out he
    rw[decide_eq_true he] at hcall
    replace hcall:=Hd hcall
    subst hqk
    replace he:=Hd he
    clear hq
    go_wp2_with (refine wpList_load_mid rfl 66 (.tmp 14) rfl b1 (o1+k*7) rfl x.list _ hr1.out huN rfl ix ?_;rw[<-hX.out])
    with_reducible refine hcall.out.mono ?_
    rintro e w2 ⟨rfl,hb2⟩
    have hbf:=Hd (hbw.out.trans (hb2.mono hsz))
    go_wp2_with fail
    go_ret
    exact⟨rfl,hbf.out⟩
   ·have he:x.v=0:=oX
    rw[decide_eq_false (λh=>h he)] at hcall
    replace hcall:=Hd hcall
    replace he:=Hd he
    go_wp2_with (refine wpList_load_mid rfl 66 (.tmp 14) rfl b1 (o1+k*7) rfl x.list _ hr1.out huN rfl ix ?_;rw[<-hX.out])
    with_reducible refine hcall.out.mono ?_
    rintro e w2 ⟨rfl,hb2⟩
    have hbf:=Hd (hbw.out.trans (hb2.mono hsz))
    go_wp2_with fail
    refine hback.out _ _ kX ?_ ?_
    ·simp only[List.getD_cons_zero,List.getD_cons_succ]
     exact⟨k+1,oX,by go_num,hbf.out,hstep.out he.out⟩
    ·have h8:=h8.out
     simp only[List.getD_cons_zero,List.getD_cons_succ,h8,intOf]
     omega
  ·obtain rfl:k=N:=oX
   have hqn:q = -1:=by rw[hq.out];exact NS (λj hj=>hle.out j hj (by rw[hN.out];exact hj))
   subst hqn
   replace hbw:=Hd hbw
   clear hq
   go_wp2_with fail
   go_ret
   exact⟨rfl,hbw.out⟩
theorem M1(C:Array Value)(o:Nat)(vs:List Value)(h:o+vs.length<=C.size):(ZG C o vs).toList.take o=C.toList.take o:=by
 unfold ZG
 rw[List.toList_toArray,List.take_append_of_le_length sY,List.take_take,Nat.min_self]
theorem G0(C:Array Value)(o:Nat)(vs:List Value)(h:o+vs.length<=C.size):(ZG C o vs).toList.take (o+vs.length)=C.toList.take o++vs:=by
 unfold ZG
 have h1:(C.toList.take o).length=o:=sY
 rw[List.toList_toArray,<-List.append_assoc,List.take_append_of_le_length sY,List.take_of_length_le sY]
theorem Mn(C:Array Value)(o m:Nat)(vs:List Value)(h:o+vs.length<=C.size)(hm:o+vs.length<=m):(ZG C o vs).toList.drop m=C.toList.drop m:=by
 unfold ZG
 have h1:(C.toList.take o).length=o:=sY
 rw[List.toList_toArray,<-List.append_assoc,List.drop_append,List.drop_of_length_le sY,List.nil_append,List.drop_drop]
 congr 1
 simp
 omega
section
variable {P:Program}
theorem Kg(w:World)(t e ty:TypeId)(z:Value)(Z:List Value)(ht:P.underlying t=some (.slice e))(hv:∀ w,(zeroValue e).run P w=.ok z w)(b o n c:Nat)(hn:0<n)(hz:(Builtin.zeroCells z.cells n).toList=Z)(h1:∀ u∈Z,u.oneCell'=true)
  (hth:w.there b o Z.length) :
  (Builtin.clear_ #[t] ty #[.slice (some ⟨b,o,none⟩) n c]).run P w=.ok (.tuple #[]) (w.setCells b o Z):=by
 have hst:=run_storeCells_cells (P:=P) b o Z 0 w (by simpa using λj hj=>(hth j hj).1) (by simpa using λj hj=>(hth j hj).2) h1
 simp only[Nat.add_zero] at hst
 obtain⟨m,rfl⟩:∃ m,n=m+1:=⟨n-1,oX⟩
 simp[Builtin.clear_,run_underlying ht,hv,hz,hst]
end
theorem Kt{w:World}{b:Nat}{C:Array Value}{t:TypeId}{fz:Nat×Nat}(hb:w.heap[b]? = some (.cells C t fz)){o:Nat}{B R:List Value}(h:C.toList.drop o=B++R):w.rangeAt b o B:=Qb hb (n:=B.length) (by rw[h,List.take_left])
theorem Xx{xs:List En}{j:Nat}(hj:j<xs.length):ZB (xs.take (j+1))=ZB (xs.take j)++(if xs[j].v=0 then [xs[j]] else []):=by
 unfold ZB
 rw[List.take_succ_eq_append_getElem hj,List.filter_append]
 congr 1
 by_cases h:xs[j].v=0<;>simp[h]
def YE(base:Nat)(w:World)(xs:List En)(e:Ending)(w':World):Prop:=∃ a c,e=.returned (.slice a (ZB xs).length c)/\RowAt En.list 7 w' a (ZB xs)/\Below base w w'
theorem N7{w:World}{b:Nat}{C:Array Value}{t:TypeId}{fz:Nat×Nat}(hb:w.heap[b]? = some (.cells C t fz)){ys:List En}(h:C.toList.take (7*ys.length)=ys.flatMap En.list):RowAt En.list 7 w (some ⟨b,0,none⟩) ys:=λk hk=>by
 refine⟨b,0,rfl,λj v hv=>?_⟩
 have hj:j<7:=(List.getElem?_eq_some_iff.1 hv).1
 have h1:(ys.flatMap En.list)[k*7+j]? = some v:=by
  rw[List.flatMap_def]
  exact Nm (size:=7) (by simp[En.list]) k (En.list ys[k]) j v (by simp[hk]) hv
 rw[<-h,List.getElem?_take] at h1
 have h2:k*7+j<7*ys.length:=oX
 rw[if_pos h2] at h1
 rw[Za hb]
 simpa using h1
theorem Kc(zs:Array Value)(m:Nat)(h:zs.size=m)(n:Nat):(Builtin.zeroCells zs n).toList.length=n*m:=by simp[Builtin.zeroCells,h]
theorem Kj(zs:Array Value)(h:zs.toList.all (·.oneCell')=true)(hs:0<zs.size)(n:Nat):∀ u∈(Builtin.zeroCells zs n).toList,u.oneCell'=true:=by
 intro u hu
 simp only[Builtin.zeroCells,Array.toList_map,List.mem_map] at hu
 obtain⟨k,_,rfl⟩:=hu
 have hk:=Nat.mod_lt k hs
 rw[getElem!_pos zs _ hk]
 exact List.all_eq_true.1 h _ sX
theorem NY{xs:List En}{i:Nat}(h:xs.findIdx? (λx=>decide (x.v≠0))=some i):Xa xs=(i:Int):=by unfold Xa;rw[h]
theorem T8{xs:List En}(h:xs.findIdx? (λx=>decide (x.v≠0))=none):Xa xs = -1:=by unfold Xa;rw[h]
theorem UK{xs:List En}(h:∀ x∈xs,x.v=0):ZB xs=xs:=List.filter_eq_self.2 (λx hx=>by simpa using h x hx)
theorem Nc(base:Nat)(v:Value)(xs:List En)(w:World)(hb0:base<=w.heap.size)(h:RowsOf RE 66 7 base w (λ_=>False) v xs)(hl:xs.length<=1000) :
  Calls Tryz.prog 49 #[v,.func (.func 51) #[] #[]] w (YE base w xs):=by
 obtain⟨a,c,rfl,hrow,hc1,hc2,okX⟩:=Ga h
 have hix:=λW (hW:Below w.heap.size w W)=>N1 a c xs okX W (hrow.below hW nR) oX
 obtain⟨N,hN⟩:∃ N,N=xs.length:=⟨_,rfl⟩
 cases hf:xs.findIdx? (λx=>decide (x.v≠0)) with
 | none=>
  have he:=UK (λx hx=>by simpa using List.findIdx?_eq_none_iff.1 hf x hx)
  rw[T8 hf] at hix
  have hP:∀ W,Below w.heap.size w W->YE base w xs (.returned (.slice a xs.length c)) W:=λW hW=>by
   unfold YE
   rw[he]
   exact⟨a,c,rfl,hrow.below hW nR,hW.mono hb0⟩
  rw[<-hN] at hix hP ⊢
  replace hix:=Hd hix
  replace hP:=Hd hP
  clear hf he h hrow okX hN hc1 hc2
  go_enter Tryz.func49,Tryz.ntmps49
  go_wp2_with fail
  with_reducible refine(hix.out _ bR).mono ?_
  rintro e w1 ⟨rfl,hb⟩
  replace hb:=Hd hb
  go_wp2_with fail
  go_ret
  exact hP.out _ hb.out
 | some i0=>
  obtain⟨hi0,hx0,hpre⟩:=List.findIdx?_eq_some_iff_getElem.1 hf
  rw[NY hf] at hix
  obtain⟨⟨css,h1,h2,h3⟩,_,_⟩:=h
  rcases h2.2 with ⟨e,h0⟩|⟨g,cap,cur,e,hbg,hh,hn,hcap,hsz,htk⟩
  ·omega
  cases e
  have hcss:css=xs.map En.list:=by
   refine List.ext_getElem (by simpa using h1) (λk hk1 hk2=>?_)
   have hk:k<xs.length:=oX
   have:=(h3 k xs[k] css[k] (List.getElem?_eq_getElem hk) (List.getElem?_eq_getElem hk1)).1
   simpa using this
  have hflat:css.flatten=xs.flatMap En.list:=by rw[hcss,List.flatMap_def]
  rw[hflat] at htk
  have hlen7:∀ ys:List En,(ys.flatMap En.list).length=7*ys.length:=λys=>by rw[Yh ys (size:=7) (λx _=>rfl)];omega
  obtain⟨R,hR⟩:∃ R,R=cur.toList.drop (N*7):=⟨_,rfl⟩
  have hcur:cur.toList=xs.flatMap En.list++R:=by rw[hR,<-htk,hN,List.take_append_drop]
  have hdrop:∀ j,j<=xs.length->cur.toList.drop (7*j)=(xs.drop j).flatMap En.list++R:=λj hj=>by
   rw[hcur,List.drop_append_of_le_length (by rw[hlen7];omega)]
   congr 1
   conv=>lhs;rw[<-List.take_append_drop j xs,List.flatMap_append]
   rw[List.drop_append,List.drop_of_length_le (by rw[hlen7,List.length_take];omega),List.nil_append,hlen7,List.length_take,Nat.min_eq_left hj,Nat.sub_self,List.drop_zero]
  have hpre0:ZB (xs.take i0)=xs.take i0:=UK (λx hx=>by
   obtain⟨k,hk,rfl⟩:=List.getElem_of_mem hx
   have hk2:k<i0:=by simp at hk;omega
   simpa using hpre k hk2)
  have hC0:cur.toList.take (7*i0)=(ZB (xs.take (i0+1))).flatMap En.list:=by
   rw[Xx hi0,if_neg (by simpa using hx0),List.append_nil,hpre0]
   have e:cur.toList=(xs.take i0).flatMap En.list++(xs.drop i0).flatMap En.list++R:=by
    rw[hcur]
    conv=>lhs;rw[<-List.take_append_drop i0 xs,List.flatMap_append]
   rw[e,List.append_assoc,List.take_append_of_le_length (by rw[hlen7,List.length_take];omega),List.take_of_length_le (by rw[hlen7,List.length_take];omega)]
  have hL0:(ZB (xs.take (i0+1))).length=i0:=by
   rw[Xx hi0,if_neg (by simpa using hx0),List.append_nil,hpre0,List.length_take];omega
  have hD0:=hdrop (i0+1) hi0
  rw[<-hN] at hi0 hl hn
  have hiN:=hi0
  have hu:=Tryz.underlying66
  have hop:=λ(x:En) W=>UN x _ rfl W
  replace hh:=Hd hh
  replace hC0:=Hd hC0
  replace hL0:=Hd hL0
  replace hD0:=Hd hD0
  replace hix:=Hd hix
  replace hN:=Hd hN
  replace hop:=Hd hop
  replace okX:=Hd okX
  replace hlen7:=Hd hlen7
  clear hf hx0 hpre hpre0 hdrop hcur hR hflat hcss h1 h2 h3 htk hrow
  rw[<-hN.out]
  replace hix:=hix.out
  rw[<-hN.out] at hix
  replace hix:=Hd hix
  go_enter Tryz.func49,Tryz.ntmps49
  go_wp2_with fail
  with_reducible refine(hix.out _ bR).mono ?_
  rintro e w1 ⟨rfl,hb⟩
  replace hh:=Hd ((hb.block _ (Zb hh.out)).trans hh.out)
  have hB:=Hd (hb.mono hb0)
  clear hb hix
  go_wp2_with fail
  refine Z8 [(false,5),(true,3),(false,8),(true,20),(false,6)] _ [] (λU wr=>∃ (j i:Nat) (C:Array Value),i<j/\j<=N/\U 5=.int .i64 (i:Nat)/\U 6=.int .i64 (j:Nat)/\wr.heap[g]? = some (.cells C 66 (0,0))/\C.size=c*7/\C.toList.take (7*i)=(ZB (xs.take j)).flatMap En.list/\(ZB (xs.take j)).length=i/\C.toList.drop (7*j)=(xs.drop j).flatMap En.list++R/\Below base w wr) (λU _=>N-(intOf (U 6)).toNat) ?_ ?_
  ·simp only[List.getD_cons_zero,List.getD_cons_succ]
   exact⟨i0+1,i0,cur,Nat.lt_succ_self _,hiN,rfl,by go_num,hh.out,hsz,hC0.out,hL0.out,hD0.out,hB.out⟩
  ·intro U wr hrel KK hback l' hl'
   obtain⟨j,i,C,hij,hjN,h5,h6,hC,hCs,hT,hTl,hDr,hBw⟩:=hrel
   simp only[ZR,ZD,cond_true,cond_false,Nat.reduceAdd,h5,h6] at hl'
   subst hl'
   clear hh hC0 hL0 hD0 hB
   replace h5:=Hd h5
   replace h6:=Hd h6
   replace hT:=Hd hT
   replace hTl:=Hd hTl
   have h100:c<=maxLen:=hc2
   by_cases hlt:j<N
   ·have hjx:j<xs.length:=by rw[<-hN.out];exact hlt
    have hlt2:(j:Int)<(N:Int):=oX
    have hst:=Xx hjx
    have hdd:xs.drop j=xs[j]::xs.drop (j+1):=List.drop_eq_getElem_cons hjx
    rw[hdd,List.flatMap_cons,List.append_assoc] at hDr
    have hr:wr.rangeAt g (7*j) xs[j].list:=Kt hC hDr
    have hDr2:C.toList.drop (7*(j+1))=(xs.drop (j+1)).flatMap En.list++R:=by
     have:=congrArg (List.drop 7) hDr
     rw[List.drop_drop,List.drop_left' (by rfl)] at this
     rw[show 7*(j+1)=7*j+7 by omega]
     exact this
    have hok:=okX.out _ (List.getElem_mem hjx)
    clear hdd hDr
    generalize xs[j]=x at*
    rw[Nat.mul_comm] at hr
    have ix:(Tryz.prog.info? 66).map (·.size)=some x.list.length:=JW
    obtain⟨X,hX⟩:∃ X,X=x.list.toArray:=⟨_,rfl⟩
    have iX:(Tryz.prog.info? 66).map (·.size)=some X.size:=by rw[hX];exact JW
    have zX:∀ Z:Array Value,Z.size=7->Z.size=X.size:=λZ h=>by rw[hX];exact h
    have h1X:X.all (·.oneCell')=true:=by rw[hX];exact all_one (En.list_one x)
    have hZ:=λZ=>Hd (heap_alloc_new wr (.cells Z 66 (0,0)))
    have hcall:=hop.out x
    rw[<-hX] at hcall
    have hszw:=Zb hC
    replace hX:=Hd hX
    replace hcall:=Hd hcall
    replace hr:=Hd hr
    replace hC:=Hd hC
    replace hst:=Hd hst
    replace hDr2:=Hd hDr2
    replace hBw:=Hd hBw
    replace hok:=Hd hok
    go_wp2_with (first
     | (refine wpList_load_mid rfl 66 (.tmp 24) rfl g (j*7) rfl x.list _ hr.out hu rfl ix ?_;rw[<-hX.out])
     | (refine Zc rfl 66 (.tmp 7) (.tmp 25) rfl wr.heap.size _ X rfl rfl (hZ _) iX (zX _ rfl) h1X ?_;intro w5 hU5)
     | (refine Ze rfl 66 (.tmp 7) rfl wr.heap.size X _ rfl (Hd hU5.out.here) hu rfl iX ?_))
    have hb5:Below wr.heap.size wr w5:=(bR.alloc nR _).trans (hU5.out.below nR)
    with_reducible refine(hcall.out w5).mono ?_
    rintro e w6 ⟨rfl,hb6⟩
    have hbx:=Hd ((hb6.block _ (Zb hU5.out.here)).trans hU5.out.here)
    have hb:=hb5.trans (hb6.mono hb5.size)
    have hC6:=Hd ((hb.block _ hszw).trans hC.out)
    have hBw6:=Hd (hBw.out.trans (hb.mono (Nat.le_trans hb0 hBw.out.size)))
    clear hb hb5 hb6 hcall
    by_cases hv:x.v=0
    ·have hd:decide (x.v≠0)=false:=decide_eq_false (λh=>h hv)
     have hstv:=hst.out
     rw[if_pos hv] at hstv
     replace hstv:=Hd hstv
     rw[hd]
     clear hv hd hst
     have hpz:i*7+X.size<=C.size:=by rw[hX.out,hCs];show i*7+7<=c*7;omega
     go_wp2_with (first
      | (refine Ze rfl 66 (.tmp 7) rfl wr.heap.size X _ rfl hbx hu rfl iX ?_)
      | (refine Qu rfl 66 66 (.tmp 33) (.tmp 32) rfl g (i*7) C X rfl rfl hC6 iX hpz h1X ?_;intro w7 hU7))
     have hXl:X.toList=x.list:=by rw[hX.out]
     have hpz2:i*7+X.toList.length<=C.size:=by simpa using hpz
     have hX7:X.toList.length=7:=by rw[hXl];rfl
     refine hback.out _ _ kX ?_ ?_
     ·simp only[List.getD_cons_zero,List.getD_cons_succ]
      refine⟨j+1,i+1,ZG C (i*7) X.toList,oX,oX,by go_num,by go_num,hU7.out.here,by rw[MG _ _ _ hpz2];exact hCs,?_,by rw[hstv.out,List.length_append,hTl.out];rfl,?_,hBw6.out.trans (hU7.out.below hbg)⟩
      ·rw[hstv.out,List.flatMap_append,<-hT.out,show 7*(i+1)=i*7+X.toList.length by omega,G0 _ _ _ hpz2,Nat.mul_comm i 7,hXl]
       simp
      ·rw[Mn _ _ _ _ hpz2 oX]
       exact hDr2.out
     ·have h6:=h6.out
      simp only[List.getD_cons_zero,List.getD_cons_succ,h6,intOf]
      omega
    ·have hd:decide (x.v≠0)=true:=decide_eq_true hv
     have hstv:=hst.out
     rw[if_neg hv,List.append_nil] at hstv
     replace hstv:=Hd hstv
     rw[hd]
     clear hv hd hst
     go_wp2_with fail
     refine hback.out _ _ kX ?_ ?_
     ·simp only[List.getD_cons_zero,List.getD_cons_succ]
      exact⟨j+1,i,C,oX,oX,rfl,by go_num,hC6.out,hCs,by rw[hstv.out];exact hT.out,by rw[hstv.out];exact hTl.out,hDr2.out,hBw6.out⟩
     ·have h6:=h6.out
      simp only[List.getD_cons_zero,List.getD_cons_succ,h6,intOf]
      omega
   ·obtain rfl:j=N:=oX
    have hall:xs.take j=xs:=by rw[hN.out];exact List.take_length
    rw[hall] at hT hTl
    replace hBw:=Hd hBw
    clear hback hDr hop hall
    have hi1:(i:Int)<=(j:Int):=oX
    have hi2:(j:Int)<=(c:Int):=oX
    have hz0:∀ W:World,(zeroValue 66).run Tryz.prog W=.ok (.agg #[.int .i64 0,.int .i64 0,.int .i64 0,.int .i64 0,.int .i64 0,.int .i64 0,.int .i64 0]) W:=λW=>by kernel_rfl
    obtain⟨Z,hZ⟩:∃ Z,(Builtin.zeroCells (Value.agg #[.int .i64 0,.int .i64 0,.int .i64 0,.int .i64 0,.int .i64 0,.int .i64 0,.int .i64 0]).cells (j-i)).toList=Z:=⟨_,rfl⟩
    have hZl:Z.length=(j-i)*7:=by rw[<-hZ];exact Kc _ 7 rfl _
    have hZ1:∀ u∈Z,u.oneCell'=true:=by rw[<-hZ];exact Kj _ dX dX _
    have hfit:i*7+Z.length<=C.size:=by rw[hZl,hCs];omega
    have hclr:=Kg (P:=Tryz.prog) wr 26 66 0 _ Z Tryz.underlying26 hz0 g (i*7) (j-i) (c-i) oX hZ hZ1 (YW hC _ _ hfit)
    have hU:=Upd.setCells Z (i*7) C wr (Upd.refl hC) hfit
    obtain⟨w9,hw9⟩:∃ w9,w9=wr.setCells g (i*7) Z:=⟨_,rfl⟩
    rw[<-hw9] at hclr hU
    have hP:YE base w xs (.returned (.slice (some ⟨g,0,none⟩) i c)) w9:=by
     refine⟨_,_,by rw[hTl.out],N7 hU.here ?_,hBw.out.trans (hU.below hbg)⟩
     rw[hTl.out,Nat.mul_comm 7 i,M1 _ _ _ hfit,<-hT.out,Nat.mul_comm 7 i]
    replace hP:=Hd hP
    clear hw9 hU hfit hZ1 hZl hZ hz0 hT hTl hBw hC hCs
    go_wp2_with fail
    go_ret
    exact hP.out
theorem Hb(va:Value)(m:St)(w:World)(ha:ArgS w va m)(l2:m.ens.length<=1000) :
  Calls Tryz.prog 19 #[va] w (YE w.heap.size w m.ens):=by
 obtain⟨⟨an,cn,av,cv,rfl,hN,hN1,hN2,hV,hV1,hV2⟩,okN,okV⟩:=ha
 have hB:Below w.heap.size w (w.alloc (.cells #[.slice an m.its.length cn,.slice av m.ens.length cv] 28)):=bR.alloc nR _
 have e11:(w.alloc (.cells #[.slice an m.its.length cn,.slice av m.ens.length cv] 28)).cell? ⟨w.heap.size,1,none⟩=some (.slice av m.ens.length cv):=Za (heap_alloc_new w _) 1
 have hcl:=λW (h:Below w.heap.size w W)=>VR av cv m.ens okV W (hV.below h nR) oX
 have hdl:=λv W W' (hW:Below w.heap.size w W) (h:RowsOf RE 66 7 W.heap.size W' (λ_=>False) v m.ens) (hb:Below W.heap.size W W')=>Nc w.heap.size v m.ens W' (Nat.le_trans hW.size hb.size) (h.mono hW.size) l2
 generalize m.its.length=n1 at*
 generalize m.ens.length=n2 at*
 obtain⟨w1,hw1⟩:∃ w1,w1=w.alloc (.cells #[.slice an n1 cn,.slice av n2 cv] 28):=⟨_,rfl⟩
 rw[<-hw1] at hB e11
 replace hw1:=Hd hw1
 replace hB:=Hd hB
 replace hcl:=Hd hcl
 replace hdl:=Hd hdl
 clear hN hN1 hN2 hV hV1 hV2 okN okV l2
 go_enter Tryz.func19,Tryz.ntmps19
 go_wp2_with fail
 rw[<-hw1.out]
 go_wp2_with fail
 with_reducible refine(hcl.out w1 hB.out).mono ?_
 rintro e w2 ⟨v2,rfl,hr,hb⟩
 have hd:=Hd (hdl.out v2 w1 w2 hB.out hr hb)
 have hB2:=Hd (hB.out.trans (hb.mono hB.out.size))
 clear hr hb e11
 go_wp2_with fail
 with_reducible refine hd.out.mono ?_
 rintro e w3 ⟨a,c,rfl,hr,hb⟩
 have hP:YE w.heap.size w m.ens (.returned (.slice a (ZB m.ens).length c)) w3:=⟨a,c,rfl,hr,hB2.out.trans hb⟩
 replace hP:=Hd hP
 clear hr hb hd
 go_wp2_with fail
 go_ret
 exact hP.out
def NDS(ns:List It):Prop:=(ns.map (λx=>x.s)).Nodup
theorem Qo:NDS []:=List.nodup_nil
theorem Ni{ns:List It}(h:NDS ns)(i:Nat)(y:It)(hy:y.s=(ns.getD i default).s):NDS (ns.set i y):=by
 unfold NDS at*
 have e:(ns.set i y).map (λx=>x.s)=ns.map (λx=>x.s):=by
  refine List.ext_getElem sX (λk h1 h2=>?_)
  rw[List.getElem_map,List.getElem_map,List.getElem_set]
  split
  ·next hk=>
   subst hk
   have hk2:i<ns.length:=by simpa using h2
   rw[hy,List.getD_eq_getElem?_getD,List.getElem?_eq_getElem hk2,Option.getD_some]
  ·rfl
 rw[e]
 exact h
theorem Mk{ns:List It}{s:ByteArray}:(Zx ns s).2=false->∀ x∈ns,x.s≠s:=by
 unfold Zx
 cases hf:ns.findIdx? (λx=>decide (x.s=s)) with
 | none=>exact λ_ x hx=>by simpa using List.findIdx?_eq_none_iff.1 hf x hx
 | some i=>intro h;cases h
theorem H0{ns:List It}{s:ByteArray}(h:NDS ns){i:Nat}(hi:i<ns.length)(he:ns[i].s=s):Zx ns s=(ns[i],true):=by
 have hf:ns.findIdx? (λx=>decide (x.s=s))=some i:=by
  rw[List.findIdx?_eq_some_iff_getElem]
  refine⟨hi,by simpa using he,λj hj=>?_⟩
  have:=List.pairwise_iff_getElem.1 h j i sY (by simpa using hi) hj
  simp only[List.getElem_map,he] at this
  simpa using this
 unfold Zx
 rw[hf]
 simp only[List.getD_eq_getElem?_getD,List.getElem?_eq_getElem hi,Option.getD_some]
theorem NQ{m:St}(h:NDS m.its)(x:Rc):NDS (Zr m x).1.its:=by
 unfold Zr
 split
 ·exact Qo
 split
 ·unfold Q5
  split
  ·exact Qo
  split
  ·exact Qo
  split
  ·exact Qo
  ·next h1 _ _=>
   have hf:=Mk (by simpa using h1:(Zx m.its x.name).2=false)
   show ((m.its++[x.it]).map (λx=>x.s)).Nodup
   rw[List.map_append,List.nodup_append]
   refine⟨h,sX,λa ha b hb=>?_⟩
   obtain⟨y,hy,rfl⟩:=List.mem_map.1 ha
   have hb2:b=x.name:=by simpa[Rc.it] using hb
   rw[hb2]
   exact hf y hy
 split
 ·unfold Yf
  split
  ·exact Qo
  split
  ·exact Qo
  split
  ·exact Qo
  split
  ·exact Qo
  ·exact Ni h _ _ (by unfold Xs;split<;>rfl)
 split
 ·unfold Y9
  split
  ·exact Qo
  split
  ·exact Qo
  ·exact Ni h _ _ rfl
 ·unfold Q7
  split
  ·exact Qo
  split
  ·exact Qo
  split
  ·exact Qo
  ·exact h
def PT(y:Rc)(m:Int)(w:World)(e:Ending)(w':World):Prop:=e=.returned (.tuple #[.agg y.list.toArray,.int .i64 m])/\Below w.heap.size w w'
def Pv(bs:List UInt8):Prop:=∃ y N,y.Ok/\(N=0->y.chk=0/\y.out=bs)/\N<=20/\
 (∀ (a:Option Addr) (c:Nat) (w:World) (ea:Nat->Addr),ArgB w a c bs->(∀ ad,a=some ad->∃ b o,ad=⟨b,o,none⟩/\b<w.heap.size)->Errs 298 Zv w ea->
  Calls Tryz.prog 29 #[.slice a bs.length c] w λe w2=>∃ v,e=.returned (.tuple #[.agg y.list.toArray,v])/\ErrIs ea w2 v N/\Below w.heap.size w w2)/\
 (∀ (a:Option Addr) (c:Nat) (w:World),ArgB w a c bs->Calls Tryz.prog 37 #[.slice a bs.length c] w (PT y N w))
structure SB (k:Nat) (m:St):Prop where
 its:m.its.length<=4
 ens:m.ens.length<=k
 us:∀ y∈m.its,y.u<=(k:Int)/\y.r<=(k:Int)
theorem SB.mono{k k':Nat}{m:St}(h:SB k m)(hk:k<=k'):SB k' m:=⟨h.its,Nat.le_trans h.ens hk,λy hy=>by have:=h.us y hy;omega⟩
theorem QA(k:Nat):SB k ⟨[],[]⟩:=⟨Nat.zero_le _,Nat.zero_le _,λy hy=>absurd hy List.not_mem_nil⟩
theorem SB.get{k:Nat}{m:St}(h:SB k m)(i:Nat)(hi:i<m.its.length):(m.its.getD i default).u<=(k:Int)/\(m.its.getD i default).r<=(k:Int):=by
 rw[List.getD_eq_getElem?_getD,List.getElem?_eq_getElem hi,Option.getD_some]
 exact h.us _ (List.getElem_mem hi)
theorem Ht{k:Nat}{m:St}(h:SB k m)(x:Rc):SB (k+1) (Zr m x).1:=by
 unfold Zr
 split
 ·exact QA _
 split
 ·unfold Q5
  split
  ·exact QA _
  split
  ·exact QA _
  split
  ·exact QA _
  refine⟨?_,Nat.le_succ_of_le h.ens,λy hy=>?_⟩
  ·simp only[List.length_append,List.length_singleton];omega
  ·rcases List.mem_append.1 hy with hy|hy
   ·have:=h.us y hy;omega
   ·rw[List.mem_singleton.1 hy]
    show (0:Int)<=_/\(0:Int)<=_
    omega
 split
 ·unfold Yf
  split
  ·exact QA _
  next hi=>
  split
  ·exact QA _
  split
  ·exact QA _
  split
  ·exact QA _
  have hg:=h.get x.obj.toNat oX
  refine⟨by rw[List.length_set];exact h.its,?_,λy hy=>?_⟩
  ·simp only[List.length_append,List.length_singleton];have:=h.ens;omega
  ·rcases List.mem_or_eq_of_mem_set hy with hy|hy
   ·have:=h.us y hy;omega
   ·rw[hy]
    unfold Xs
    split
    ·exact⟨by show _+1<=_;omega,by show (m.its.getD x.obj.toNat default).r<=_;omega⟩
    ·exact⟨by show (m.its.getD x.obj.toNat default).u<=_;omega,by show _+1<=_;omega⟩
 split
 ·unfold Y9
  split
  ·exact QA _
  next hi=>
  split
  ·exact QA _
  have hg:=h.get x.obj.toNat oX
  refine⟨by rw[List.length_set];exact h.its,Nat.le_succ_of_le h.ens,λy hy=>?_⟩
  rcases List.mem_or_eq_of_mem_set hy with hy|hy
  ·have:=h.us y hy;omega
  ·rw[hy]
   exact⟨by show (m.its.getD x.obj.toNat default).u<=_;omega,by show (m.its.getD x.obj.toNat default).r<=_;omega⟩
 ·unfold Q7
  split
  ·exact QA _
  split
  ·exact QA _
  split
  ·exact QA _
  exact⟨h.its,by rw[List.length_set];exact Nat.le_succ_of_le h.ens,λy hy=>by have:=h.us y hy;omega⟩
end Go.Proofs.YtpdhceiodgnbmaaGreatDoor
