import Derived.Test.YtpdhceiodgnbmaaGreatDoorF0Safe21Said
import Derived.Test.YtpdhceiodgnbmaaGreatDoorF1Safe21Said
import Derived.Test.YtpdhceiodgnbmaaGreatDoorF8Safe21Said
import Derived.Test.YtpdhceiodgnbmaaGreatDoorF7Safe21Said
import Derived.Test.YtpdhceiodgnbmaaGreatDoorF15Safe21Said
import Derived.Test.YtpdhceiodgnbmaaGreatDoorF17Safe21Said
import Derived.Test.YtpdhceiodgnbmaaGreatDoorF9Safe21Said
import Derived.Test.YtpdhceiodgnbmaaGreatDoorF13Safe21Said
import Derived.Test.YtpdhceiodgnbmaaGreatDoorF3Safe21Said
import Derived.Test.YtpdhceiodgnbmaaGreatDoorF14Safe21Said
import Derived.Deep.CutRange
set_option linter.unusedVariables false
set_option linter.unusedSimpArgs false
set_option linter.unnecessarySimpa false
set_option maxRecDepth 100000
set_option maxHeartbeats 8000000
namespace Go.Proofs.YtpdhceiodgnbmaaGreatDoor
open Go.RowKit
theorem Tryz.infoRowP:(Tryz.prog.info? 24).map (λi=>(i.zero,i.size,i.bytes))=some (some (.slice none 0 0),1,24):=kX
section
variable {w:World} {ops:Array Oper} {rest:List Oper} {o:Oper} {a:Act} {Q:Exit->Act->World->Prop}
end
end Go.Proofs.YtpdhceiodgnbmaaGreatDoor
namespace Go.Proofs.YtpdhceiodgnbmaaGreatDoor
open Go.RowKit
theorem Kc(h r:List UInt8)(hh:h.length=32)(a:Option Addr)(c:Nat)(w:World)(ha:ArgB w a c r)(hr:r.length<=1000)(hK:RefK w)(hF:RefF w) :
  Calls Tryz.prog 107 #[.agg (cB h).toArray,.slice a r.length c] w λx w'=>x=.returned (.agg (cB (Zn h r)).toArray)/\Below w.heap.size w w':=by
 have zr:=Vu
 have zn:=Qg
 have hN:=Qh h r
 have hu1:Tryz.prog.underlying 46=some (.array 32 5):=Tryz.underlying46
 have tD:(Tryz.prog.info? 46).map (·.size)=some (cB (Zn h r)).toArray.size:=by rw[List.size_toArray,Ze,hN];kernel_rfl
 have t32:=YQ hN
 have tO:=YM (Zn h r)
 have hof:=λ(v:Option Addr) (k:Nat) (W:World) hA hB hC=>Pv v k (h++lnB r.length++r) W hA (by simp[hh,lnB];omega) hB hC
 rw[show sha (h++lnB r.length++r)=Zn h r by simp[Zn]] at hof
 obtain⟨N,hNd⟩:∃ N,N=(cB (Zn h r)).toArray:=⟨_,rfl⟩
 rw[<-hNd] at tD t32 tO hof ⊢
 obtain⟨H,hHd⟩:∃ H,H=(cB h).toArray:=⟨_,rfl⟩
 rw[<-hHd]
 have hbx:=heap_alloc_new w (.cells H 46 (0,0))
 rw[hHd] at hbx
 have hq2:((w.alloc (.cells H 46)).alloc (.cells zero32 46)).heap.size=w.heap.size+1+1:=sX
 have hb2:Below w.heap.size w ((w.alloc (.cells H 46)).alloc (.cells zero32 46)):=((Below.refl _ w).alloc nR _).alloc sX _
 have hx2:((w.alloc (.cells H 46)).alloc (.cells zero32 46)).heap[w.heap.size]? = some (.cells (cB h).toArray 46 (0,0)):=by rw[hHd] at *;exact(Below.heap_alloc _ _ _ sX).trans hbx
 have hz2:((w.alloc (.cells H 46)).alloc (.cells zero32 46)).heap[w.heap.size+1]? = some (.cells zero32 46 (0,0)):=by
  have:=heap_alloc_new (w.alloc (.cells H 46)) (.cells zero32 46 (0,0))
  rwa [World.size_alloc] at this
 have hG3:=(Below.refl (w.heap.size+1+1) ((w.alloc (.cells H 46)).alloc (.cells zero32 46))).alloc sX (.cells #[] 5)
 have ho3:OwnB (w.heap.size+1+1) (((w.alloc (.cells H 46)).alloc (.cells zero32 46)).alloc (.cells #[] 5)) (.slice (some ⟨w.heap.size+1+1,0,none⟩) 0 0) []:=by
  have:=JK ((w.alloc (.cells H 46)).alloc (.cells zero32 46)) (w.heap.size+1+1) sX
  rwa [hq2] at this
 have hG3':Below ((w.alloc (.cells H 46)).alloc (.cells zero32 46)).heap.size ((w.alloc (.cells H 46)).alloc (.cells zero32 46)) (((w.alloc (.cells H 46)).alloc (.cells zero32 46)).alloc (.cells #[] 5)):=by rw[hq2];exact hG3
 have hah:=(QH hx2 (show h.length<=32 by omega) dX).below hG3'
 have hz3:∀ W,Below (w.heap.size+1+1) (((w.alloc (.cells H 46)).alloc (.cells zero32 46)).alloc (.cells #[] 5)) W->W.heap[w.heap.size+1]? = some (.cells zero32 46 (0,0)):=λW hW=>((hG3.trans hW).block _ oX).trans hz2
 have hb3:Below w.heap.size w (((w.alloc (.cells H 46)).alloc (.cells zero32 46)).alloc (.cells #[] 5)):=hb2.trans (hG3.mono oX)
 have hbs3:w.heap.size+1+1<=(((w.alloc (.cells H 46)).alloc (.cells zero32 46)).alloc (.cells #[] 5)).heap.size:=sX
 have har:=λW (hW:Below w.heap.size w W)=>ha.below hW
 have e0:(((UInt8.ofNat (r.length / 256)).toNat:Nat):Int)=(r.length:Int) / 256:=by rw[V0 oX];omega
 have e1:(((UInt8.ofNat r.length).toNat:Nat):Int)=(r.length:Int) % 256:=by rw[Vp];omega
 have hcells:(cB (lnB r.length)).toArray=#[.int .u8 ((r.length:Int) / 256),.int .u8 ((r.length:Int) % 256)]:=by rw[<-e0,<-e1];rfl
 have hal:∀ W:World,ArgB (W.alloc (.cells #[.int .u8 ((r.length:Int) / 256),.int .u8 ((r.length:Int) % 256)] 5)) (some ⟨W.heap.size,0,none⟩) 2 (lnB r.length):=λW=>QH (heap_alloc_new W _ |>.trans (by rw[hcells])) (by simp[lnB]) dX
 have hq1:(r.length:Int) / 256 % 256=(r.length:Int) / 256:=oX
 obtain⟨L,hL⟩:∃ L,L=r.length:=⟨_,rfl⟩
 rw[<-hL] at hal hq1 hof ⊢
 have hL2:L<=1000:=oX
 have hln:Hid ((lnB L).length=2):=Hd rfl
 replace hNd:=Hd hNd
 replace hHd:=Hd hHd
 replace hof:=Hd hof
 replace hz3:=Hd hz3
 replace hb3:=Hd hb3
 replace hK:=Hd hK
 replace hF:=Hd hF
 replace ho3:=Hd ho3
 replace hah:=Hd hah
 replace har:=Hd har
 replace hal:=Hd hal
 replace hh:=Hd hh
 replace hL:=Hd hL
 clear hx2 hbx hcells e0 e1 ha hN hG3 hG3' hb2 hz2 hq2
 go_enter Tryz.func107,Tryz.ntmps107
 go_wp2_with (first
  | (at_builtin;refine YU rfl (.tmp 5) (.tmp 6) rfl (w.heap.size+1+1) _ [] rfl ho3 _ _ h 32 rfl hh hah dX dX hbs3 ?_;intro v4 w4 ho4 hb4;have hbs4:w.heap.size+1+1<=(w4.alloc (.cells #[.int .u8 ((L:Int) / 256),.int .u8 ((L:Int) % 256)] 5)).heap.size:=(by have:=hb4.out.size;have:=hbs3;rw[World.size_alloc];omega);have hG5:=Hd ((hb4.out).trans ((Below.refl (w.heap.size+1+1) w4).alloc (by have:=hb4.out.size;omega) (.cells #[.int .u8 ((L:Int) / 256),.int .u8 ((L:Int) % 256)] 5)));have ho5:=Hd (OwnB.below ho4.out ((Below.refl w4.heap.size w4).alloc nR (.cells #[.int .u8 ((L:Int) / 256),.int .u8 ((L:Int) % 256)] 5)) nR);have hl5:=Hd (hal.out w4);have hlh:([]++h).length<=1000000:=(by rw[List.nil_append,hh.out];decide))
  | (at_builtin;refine YU rfl (.tmp 7) (.tmp 16) rfl (w.heap.size+1+1) _ ([]++h) rfl ho5 _ _ (lnB L) 2 rfl hln hl5 hlh dX hbs4 ?_;intro v6 w6 ho6 hb6;have hG6:=Hd (hG5.out.trans hb6.out);have hbs6:w.heap.size+1+1<=w6.heap.size:=Nat.le_trans hbs4 hb6.out.size;have hr6:=Hd (har.out w6 (hb3.out.trans (hG6.out.mono oX)));have hlh6:([]++h++lnB L).length<=1000000:=(by rw[List.nil_append,List.length_append,hh.out,hln.out];decide);have hLr:Hid (r.length=L):=Hd hL.out.symm)
  | (at_builtin;refine YU rfl (.tmp 17) (.tmp 18) rfl (w.heap.size+1+1) _ ([]++h++lnB L) rfl ho6 _ _ r L rfl hLr hr6 hlh6 oX hbs6 ?_;intro v8 w8 ho8 hb8;have hG8:=Hd (hG6.out.trans hb8.out);obtain⟨a8,c8,e8,hA8,_⟩:=OwnB.arg ho8.out;subst e8;have hA8:=Hd hA8))
 have hA8':=hA8.out
 rw[List.nil_append] at hA8'
 have hb8':Below w.heap.size w w8:=hb3.out.trans (hG8.out.mono oX)
 have hc8:=hof.out a8 c8 w8 hA8' (hK.out.below hb8') (hF.out.below hb8')
 rw[show (h++lnB L++r).length=h.length+((lnB L).length+r.length) by simp[Nat.add_assoc]] at hc8
 replace hc8:=Hd hc8
 have hz8:=Hd (hz3.out w8 hG8.out)
 replace hb8':=Hd hb8'
 with_reducible refine hc8.out.mono ?_
 rintro x w9 ⟨rfl,hb9⟩
 have hz9:=Hd ((hb9.block _ (Zb hz8.out)).trans hz8.out)
 have hb99:=Hd (hb8'.out.trans (hb9.mono hb8'.out.size))
 go_wp2_with (refine Zc rfl 46 (.tmp 4) (.tmp 20) rfl (w.heap.size+1) zero32 N rfl rfl hz9 tD t32 tO ?_;intro w10 hU10)
 refine ZE rfl rfl hu1 rfl tD hU10.out.here ⟨rfl,hb99.out.trans (hU10.out.below oX)⟩
end Go.Proofs.YtpdhceiodgnbmaaGreatDoor
namespace Go.Proofs.YtpdhceiodgnbmaaGreatDoor
open Go.RowKit
theorem L6(l:List (List UInt8)):l.length<=Zh l:=by
 unfold Zh
 induction l with
 | nil=>exact Nat.le_refl _
 | cons q l ih=>simp only[List.length_cons,List.map_cons,List.sum_cons];omega
structure RScanSt (base hb:Nat) (w0 wr:World) (bs:List UInt8) (dn:List (List UInt8)) (vo:Value):Prop where
 rows:∃ F,RowsOf RB 24 1 base wr F vo dn/\(∀ k,F k->k≠hb)/\(∀ k,F k->base<=k)
 own:∀ k,vo.ownBlock=some k->k≠hb
 head:wr.heap[hb]? = some (.cells (cB (Zg z32J dn)).toArray 46 (0,0))
 bel:Below base w0 wr
 rest:dn++ZC (bs.drop (Zh dn)) (Zg z32J dn)=ZC bs z32J
 le:Zh dn<=bs.length
theorem RScanSt.stop{base hb:Nat}{w0 wr:World}{bs:List UInt8}{dn:List (List UInt8)}{vo:Value}(h:RScanSt base hb w0 wr bs dn vo)(hf:Zy (bs.drop (Zh dn)) (Zg z32J dn)=none):dn=ZC bs z32J:=by
 have:=h.rest
 rwa [YI hf,List.append_nil] at this
theorem WT(bs:List UInt8)(hmax:bs.length<=100000)(a:Option Addr)(c:Nat)(w:World)(ha:ArgB w a c bs)(hK:RefK w)(hF:RefF w) :
  Calls Tryz.prog 69 #[.slice a bs.length c] w (KW w bs):=by
 have zr:=Vu
 have zn:=Qg
 have huA:Tryz.prog.underlying 46=some (.array 32 5):=Tryz.underlying46
 have hzz:(Instr.build 46 #[]).run Tryz.prog=λW=>.ok (.agg zero32) W:=by funext W;kernel_rfl
 have hb1:Below w.heap.size w (w.alloc (.cells #[] 24)):=bR.alloc nR _
 have hz1:Hid (((w.alloc (.cells #[] 24)).alloc (.cells zero32 46)).heap[w.heap.size+1]? = some (.cells zero32 46 (0,0))):=Hd (by
  have:=heap_alloc_new (w.alloc (.cells #[] 24)) (.cells zero32 46 (0,0))
  rwa [World.size_alloc] at this)
 have hzi:(Tryz.prog.info? 46).map (·.size)=some zero32.size:=by rw[QQ,List.size_toArray,Ze,ZQ];kernel_rfl
 have hzo:zero32.all (·.oneCell')=true:=by rw[QQ];exact YM _
 have hst0:∀ w2,Upd (w.heap.size+1) (.cells zero32 46 (0,0)) ((w.alloc (.cells #[] 24)).alloc (.cells zero32 46)) w2->RScanSt w.heap.size (w.heap.size+1) w w2 bs [] (.slice (some ⟨w.heap.size,0,none⟩) 0 0):=λw2 hU=>by
  have hr0:RowsOf RB 24 1 w.heap.size (w.alloc (.cells #[] 24)) (λ_=>False) (.slice (some ⟨w.heap.size,0,none⟩) 0 0) []:=RowsOf.made0 w w.heap.size nR
  have hr1:=hr0.below liesRB ((Below.refl _ (w.alloc (.cells #[] 24))).alloc nR (.cells zero32 46))
  refine⟨⟨_,hr1.only liesRB (Only.ofUpd (D:=λk=>k=w.heap.size+1) hU rfl) (λ_ h=>False.elim h) (λk hk e=>by cases hk;exact absurd (show w.heap.size=w.heap.size+1 from e) oX),λ_ h=>False.elim h,λ_ h=>False.elim h⟩,λk hk e=>by cases hk;exact absurd (show w.heap.size=w.heap.size+1 from e) oX,by have:=hU.here;rw[QQ] at this;exact this,(hb1.alloc hb1.size _).trans (hU.below oX),rfl,Nat.zero_le _⟩
 replace hst0:=Hd hst0
 replace ha:=Hd ha
 replace hK:=Hd hK
 replace hF:=Hd hF
 obtain⟨L,hL⟩:∃ L,L=bs.length:=⟨_,rfl⟩
 rw[<-hL] at hmax ⊢
 replace hL:=Hd hL
 go_enter Tryz.func69,Tryz.ntmps69
 go_wp2_with (refine Zc rfl 46 (.tmp 5) (.tmp 11) rfl (w.heap.size+1) zero32 zero32 rfl rfl hz1 hzi rfl hzo ?_;intro w2 hU2)
 have hst:=Hd (hst0.out w2 hU2.out)
 have hs2:w.heap.size+2<=w2.heap.size:=by have:=hU2.out.size;simp at this;omega
 clear hst0 hz1 hzo hU2 hb1
 obtain⟨hb,hhb⟩:∃ hb,hb=w.heap.size+1:=⟨_,rfl⟩
 rw[<-hhb] at hst ⊢
 replace hhb:=Hd hhb
 refine Z8 [(false,4),(true,1),(false,1),(true,73)] _ [] (λU wr=>∃ dn:List (List UInt8),U 6=.int .i64 (Zh dn:Nat)/\RScanSt w.heap.size hb w wr bs dn (U 4)/\w.heap.size+2<=wr.heap.size)
  (λU _=>L-(intOf (U 6)).toNat) ?_ ?_
 ·simp only[List.getD_cons_zero,List.getD_cons_succ]
  exact⟨[],rfl,hst.out,hs2⟩
 ·clear hst hs2
  intro U wr hrel KK hback l' hl'
  obtain⟨dn,h6,hst,hsz⟩:=hrel
  simp only[ZU,ZG,cond_true,cond_false,Nat.reduceAdd,h6] at hl'
  generalize hv4:U 4=vo at*
  subst hl'
  replace h6:=Hd h6
  replace hv4:=Hd hv4
  obtain⟨D,hD⟩:∃ D,D=Zh dn:=⟨_,rfl⟩
  have hDL:D<=L:=by have:=hst.le;rw[hD,hL.out];exact this
  have hstop:∀ W,Zy (bs.drop D) (Zg z32J dn)=none->Below wr.heap.size wr W->KW w bs (.returned (.tuple #[vo,.int .i64 (D:Nat)])) W:=λW hf hW=>by
   rw[hD] at hf
   have e:=hst.stop hf
   obtain⟨F,k1,k2,k3⟩:=hst.rows
   exact⟨vo,F,by rw[<-e,hD],by rw[<-e];exact k1.below liesRB hW,k3,hst.bel.trans (hW.mono oX)⟩
  rw[<-hD]
  have hdl:(bs.drop D).length=L-D:=by rw[List.length_drop,hL.out]
  replace hst:=Hd hst
  replace hstop:=Hd hstop
  replace hD:=Hd hD
  by_cases h34:L-D<34
  ·have hi34:¬((34:Int)<=(L:Int)-(D:Int)):=oX
   have hf:Zy (bs.drop D) (Zg z32J dn)=none:=by unfold Zy;rw[if_pos oX]
   have hfin:=Hd (hstop.out wr hf bR)
   clear hf
   go_wp2_with fail
   go_ret2
   exact hfin.out
  ·have hi34:(34:Int)<=(L:Int)-(D:Int):=oX
   obtain⟨ab,ao,hab,_⟩:=ha.out.row 0 (by have:=hL.out;omega)
   subst hab
   have har:ArgB wr (some ⟨ab,ao,none⟩) c bs:=ha.out.below ((hst.out.bel).mono nR)
   obtain⟨_,_,e1,hx⟩:=har.row D (by have:=hL.out;omega)
   cases e1
   obtain⟨_,_,e2,hy⟩:=har.row (D+1) (by have:=hL.out;omega)
   cases e2
   obtain⟨n,hn⟩:∃ n,n=ZT (bs.drop D):=⟨_,rfl⟩
   have hnv:n=(bs.getD D 0).toNat*256+(bs.getD (D+1) 0).toNat:=by
    rw[hn];unfold ZT
    simp[List.getD_eq_getElem?_getD,List.getElem?_drop]
   have hx8:=(bs.getD D 0).toNat_lt
   have hy8:=(bs.getD (D+1) 0).toNat_lt
   generalize (bs.getD D 0).toNat=x at*
   generalize (bs.getD (D+1) 0).toNat=y at*
   have hni:(x:Int)*256+(y:Int)=(n:Int):=oX
   have hlc:=har.len
   have hclim:=har.most
   unfold maxLen at hclim
   have hcL:L<=c:=by have:=hL.out;omega
   replace har:=Hd har
   replace hn:=Hd hn
   replace hnv:=Hd hnv
   by_cases hbad:n<1\/400<n\/L-D-34<n
   ·have hf:Zy (bs.drop D) (Zg z32J dn)=none:=by unfold Zy;rw[if_neg oX,if_pos (by rw[<-hn.out];omega)]
    have hfin:=λW hW=>hstop.out W hf hW
    replace hfin:=Hd hfin
    clear hf
    have hlx:(x:Int)<256:=oX
    have hly:(y:Int)<256:=oX
    rcases(show n<1\/(1<=n/\400<n)\/(1<=n/\n<=400/\L-D-34<n) by omega) with hc1|⟨hc1,hc2⟩|⟨hc1,hc2,hc3⟩
    ·have i1:(n:Int)<1:=oX
     go_wp2_with fail
     go_quiet (fail)
     all_goals (try go_wp2_with fail)
     go_ret2
     exact hfin.out _ (Drawn.below ⟨_,rfl⟩ _)
    ·have i1:¬((n:Int)<1):=oX
     have i2:(400:Int)<(n:Int):=oX
     go_wp2_with fail
     go_quiet (fail)
     all_goals (try go_wp2_with fail)
     go_ret2
     exact hfin.out _ (Drawn.below ⟨_,rfl⟩ _)
    ·have i1:¬((n:Int)<1):=oX
     have i2:¬((400:Int)<(n:Int)):=oX
     have i3:(L:Int)-(D:Int)-34<(n:Int):=oX
     go_wp2_with fail
     go_quiet (fail)
     all_goals (try go_wp2_with fail)
     go_ret2
     exact hfin.out _ (Drawn.below ⟨_,rfl⟩ _)
   ·have hn1:1<=n:=oX
    have hn4:n<=400:=oX
    have hfit:D+34+n<=L:=oX
    have i1:¬((n:Int)<1):=oX
    have i2:¬((400:Int)<(n:Int)):=oX
    have i3:¬((L:Int)-(D:Int)-34<(n:Int)):=oX
    have j1:(D:Int)+34+(n:Int)<=(c:Int):=oX
    have j2:¬(c=D+34):=oX
    have hlx:(x:Int)<256:=oX
    have hly:(y:Int)<256:=oX
    obtain⟨R,hR⟩:∃ R,R=(bs.drop (D+34)).take n:=⟨_,rfl⟩
    obtain⟨S,hS⟩:∃ S,S=(bs.drop (D+2)).take 32:=⟨_,rfl⟩
    have hRl:R.length=n:=by rw[hR,List.length_take,List.length_drop];have:=hL.out;omega
    have hSl:S.length=32:=by rw[hS,List.length_take,List.length_drop];have:=hL.out;omega
    have haR:∀ W,Below wr.heap.size wr W->ArgB W (some ⟨ab,ao+(D+34),none⟩) (c-(D+34)) R:=λW hW=>by
     rw[hR];exact((har.out.below hW).from (D+34) (by have:=hL.out;omega)).upto n
    have haS:∀ W,Below wr.heap.size wr W->ArgB W (some ⟨ab,ao+(D+2),none⟩) (c-(D+2)) S:=λW hW=>by
     rw[hS];exact((har.out.below hW).from (D+2) (by have:=hL.out;omega)).upto 32
    have hfv:Zy (bs.drop D) (Zg z32J dn)=if S=Zn (Zg z32J dn) R then some R else none:=by
     unfold Zy
     rw[if_neg oX,if_neg (by rw[<-hn.out];omega),<-hn.out,List.drop_drop,List.drop_drop,<-hS,<-hR]
    have hhl:(Zg z32J dn).length=32:=Qj ZQ dn
    have hNl:=Qh (Zg z32J dn) R
    have hnx:=λW (hW:Below wr.heap.size wr W) hk hf=>Kc (Zg z32J dn) R hhl _ _ W (haR W hW) oX hk hf
    rw[hRl] at hnx
    obtain⟨H,hHd⟩:∃ H,H=(cB (Zg z32J dn)).toArray:=⟨_,rfl⟩
    obtain⟨N,hNd⟩:∃ N,N=(cB (Zn (Zg z32J dn) R)).toArray:=⟨_,rfl⟩
    rw[<-hHd,<-hNd] at hnx
    have hzH:(Tryz.prog.info? 46).map (·.size)=some H.size:=by rw[hHd,List.size_toArray,Ze,hhl];kernel_rfl
    have hzN:(Tryz.prog.info? 46).map (·.size)=some N.size:=by rw[hNd,List.size_toArray,Ze,hNl];kernel_rfl
    have hHN:H.size=N.size:=by rw[hHd,hNd];simp[Ze,hhl,hNl]
    have hZN:zero32.size=N.size:=by rw[hNd];exact YQ hNl
    have hN1:N.all (·.oneCell')=true:=by rw[hNd];exact YM _
    have hhead:=hst.out.head
    rw[<-hHd] at hhead
    replace hHd:=Hd hHd
    replace hNd:=Hd hNd
    replace hnx:=Hd hnx
    replace haR:=Hd haR
    replace haS:=Hd haS
    replace hfv:=Hd hfv
    replace hR:=Hd hR
    replace hS:=Hd hS
    replace hRl:=Hd hRl
    replace hSl:=Hd hSl
    replace hHN:=Hd hHN
    replace hhead:=Hd hhead
    replace hNl:=Hd hNl
    replace hdl:=Hd hdl
    clear hbad
    go_wp2_with fail
    go_quiet (fail)
    have hheadq:Hid ((wr.drewN nq).heap[hb]? = some (.cells H 46 (0,0))):=hhead
    go_wp2_with (refine Zd rfl 46 (.tmp 5) rfl hb H _ rfl hheadq huA rfl hzH ?_)
    have hbq:Below wr.heap.size wr (wr.drewN nq):=Drawn.below ⟨nq,rfl⟩ _
    generalize wr.drewN nq=wq at*
    have hbw:Below w.heap.size w wq:=hst.out.bel.trans (hbq.mono oX)
    have hnq:=Hd (hnx.out wq hbq (hK.out.below hbw) (hF.out.below hbw))
    replace hbq:=Hd hbq
    replace hbw:=Hd hbw
    with_reducible refine hnq.out.mono ?_
    clear hnq hnx
    rintro x4 w4 ⟨rfl,hb4⟩
    have hz5:Hid ((w4.alloc (.cells zero32 46)).heap[w4.heap.size]? = some (.cells zero32 46 (0,0))):=heap_alloc_new w4 (.cells zero32 46 (0,0))
    go_wp2_with (refine Zc rfl 46 (.tmp 9) (.tmp 55) rfl w4.heap.size zero32 N rfl rfl hz5 hzN hZN hN1 ?_;intro w5 hU5)
    have hb45:Below w4.heap.size w4 w5:=(bR.alloc nR _).trans (hU5.out.below nR)
    have hbr4:Below wr.heap.size wr w4:=hbq.out.trans (hb4.mono hbq.out.size)
    have hbr5:Below wr.heap.size wr w5:=hbr4.trans (hb45.mono hbr4.size)
    obtain⟨g9,hg9⟩:∃ g9,g9=w4.heap.size:=⟨_,rfl⟩
    have hg9r:wr.heap.size<=g9:=by rw[hg9];exact hbr4.size
    have hN5:w5.heap[g9]? = some (.cells N 46 (0,0)):=by rw[hg9];exact hU5.out.here
    rw[<-hg9]
    have haN:ArgB w5 (some ⟨g9,0,none⟩) 32 (Zn (Zg z32J dn) R):=QH (by rw[<-hNd.out];exact hN5) (by rw[hNl.out];exact Nat.le_refl _) dX
    have kc1:=λm=>X8 (P:=Tryz.prog) (w:=w5.drewN m) (src:=24) (dst:=9) (c:=32) (Zn (Zg z32J dn) R) Tryz.underlying24 Tryz.underlying5 Tryz.underlying9 (haN.below (Drawn.below ⟨m,rfl⟩ _)).row
    have kc2:=λm=>X8 (P:=Tryz.prog) (w:=w5.drewN m) (src:=24) (dst:=9) (c:=c-(D+2)) S Tryz.underlying24 Tryz.underlying5 Tryz.underlying9 ((haS.out w5 hbr5).below (Drawn.below ⟨m,rfl⟩ _)).row
    rw[hNl.out] at kc1
    rw[hSl.out] at kc2
    have hse:=H4 (Zn (Zg z32J dn) R) S
    have j3:¬(c=D+2):=oX
    have j4:D+34-(D+2)=32:=oX
    have j5:(D:Int)+34<=(c:Int):=oX
    have j6:D+34<=c:=oX
    have j7:(D:Int)+2<=(D:Int)+34:=oX
    have j8:D+2<=c:=oX
    have j9:(D:Int)+2<=(c:Int):=oX
    have j10:¬((D:Int)+34<(D:Int)+2):=oX
    replace hg9:=Hd hg9
    replace hN5:=Hd hN5
    replace hbr5:=Hd hbr5
    replace hbr4:=Hd hbr4
    replace hb45:=Hd hb45
    clear haN hb4 hU5 hz5
    by_cases hqe:Zn (Zg z32J dn) R=S
    ·have hfs:Zy (bs.drop D) (Zg z32J dn)=some R:=by rw[hfv.out,if_pos hqe.symm]
     have hre:=hst.out.rest
     rw[<-hD.out,Xk hfs,List.drop_drop] at hre
     have hE2:Zh (dn++[R])=D+(34+n):=by rw[QK,<-hD.out,hRl.out]
     have hhs:Zg z32J (dn++[R])=Zn (Zg z32J dn) R:=Yn _ _ _
     have hre2:(dn++[R])++ZC (bs.drop (Zh (dn++[R]))) (Zg z32J (dn++[R]))=ZC bs z32J:=by
      rw[hE2,hhs,<-hre,hRl.out,List.append_assoc];rfl
     obtain⟨F,f1,f2,f3⟩:=hst.out.rows
     have hdn:dn.length<=1000000:=by have:=L6 dn;have:=hD.out;omega
     have hrr:=hqe
     go_wp2_with fail
     go_quiet (fail)
     have hb6:Below wr.heap.size wr (w5.drewN nq):=hbr5.out.trans (Drawn.below ⟨nq,rfl⟩ _)
     have hN6:(w5.drewN nq).heap[g9]? = some (.cells N 46 (0,0)):=hN5.out
     generalize w5.drewN nq=w6 at*
     have hH6:w6.heap[hb]? = some (.cells H 46 (0,0)):=(hb6.block _ (Zb hhead.out)).trans hhead.out
     have ho6:=JK w6 w6.heap.size nR
     have hG6:Below w6.heap.size w6 (w6.alloc (.cells #[] 5)):=bR.alloc nR _
     have haR6:=Hd ((haR.out w6 hb6).below hG6)
     have hbs6:w6.heap.size<=(w6.alloc (.cells #[] 5)).heap.size:=hG6.size
     have hg9l:=Zb hN6
     have hhbl:=Zb hhead.out
     have hb6s:=hb6.size
     have hinfo:=Hd VA
     replace ho6:=Hd ho6
     replace hb6:=Hd hb6
     replace hN6:=Hd hN6
     replace hH6:=Hd hH6
     replace hG6:=Hd hG6
     replace f1:=Hd f1
     replace f2:=Hd f2
     replace f3:=Hd f3
     replace hre2:=Hd hre2
     replace hE2:=Hd hE2
     replace hhs:=Hd hhs
     clear kc1 kc2 hse hrr hqe hfs hre
     go_wp2_with (first
      | (at_builtin;refine YU rfl (.tmp 67) (.tmp 68) rfl w6.heap.size _ [] rfl ho6 _ _ R n rfl hRl haR6 dX oX hbs6 ?_;intro v7 w7 ho7 hb7;obtain⟨g7,c7,e7,hg7⟩:=OwnB.form (show OwnB w6.heap.size w7 v7 R from ho7.out) (by rw[hRl.out];exact hn1);subst e7;have ho7':=Hd (show OwnB w6.heap.size w7 (.slice (some ⟨g7,0,none⟩) R.length c7) R from ho7.out);have hb67:=Hd (hG6.out.trans hb7.out);have hbr7:=Hd (hb6.out.trans (hb67.out.mono hb6s));have hr7:=Hd (f1.out.below liesRB hbr7.out);have hyB:=Hd (show RB w7 (λk=>F k\/k=g7) R (#[Value.slice (some ⟨g7,0,none⟩) R.length c7]:Array Value).toList from liesRB.more (G8 ho7'.out) (λk h=>by cases h;exact .inr rfl));have hFB:=Hd (show ∀ k,F k->F k\/k=g7 from λk h=>.inl h);have haB:=Hd (show ∀ k,vo.ownBlock=some k->¬(F k\/k=g7) from λk hk h=>h.elim (f1.out.apart k hk) (λh=>by have:=(f1.out.ownLt k hk).2;omega));have hlB:=Hd (show ∀ k,F k\/k=g7->k<w7.heap.size from λk h=>h.elim (λh=>hr7.out.lt k h) (λh=>h▸(World.ownsRow.lt ho7'.out g7 rfl).2));have hbs7:w.heap.size<=w7.heap.size:=(by have:=hbr7.out.size;omega))
      | (at_builtin;refine Yb (P:=Tryz.prog) (R:=RB) (e:=24) (size:=1) (base:=w.heap.size) (F:=F) (F':=λk=>F k\/k=g7) rfl liesRB (.tmp 66) (.tmp 70) 22 rfl Tryz.underlying22 24 hinfo.out dX rfl hr7 R #[.slice (some ⟨g7,0,none⟩) R.length c7] hyB hFB haB hlB rfl hdn dX hbs7 ?_;intro v8 w8 hr8 ho8 hm8;have hN8:=Hd (ho8.out.heap ((hb67.out.block g9 hg9l).trans hN6.out) (λe=>by have:=(f1.out.ownLt _ e).2;omega));have hH8:=Hd (ho8.out.heap ((hb67.out.block hb oX).trans hH6.out) (λe=>hst.out.own _ e rfl)))
      | (refine Zd rfl 46 (.tmp 9) rfl g9 N _ rfl hN8 huA rfl hzN ?_)
      | (refine Zc rfl 46 (.tmp 5) (.tmp 72) rfl hb H N rfl rfl hH8 hzN hHN.out hN1 ?_;intro w9 hU9))
     have hhbw:hb=w.heap.size+1:=hhb.out
     have hs7:=hbr7.out.size
     have hown8:∀ k,v8.ownBlock=some k->k≠hb:=λk hk e=>by
      rcases hm8.out k hk with h|h
      ·exact hst.out.own k h e
      ·omega
     refine hback.out _ _ kX ?_ ?_
     ·simp only[List.getD_cons_zero,List.getD_cons_succ]
      refine⟨dn++[R],by rw[hE2.out,Int.natCast_add,Int.natCast_add];rfl,⟨⟨λk=>F k\/k=g7,hr8.out.only liesRB (Only.ofUpd (D:=λk=>k=hb) hU9.out rfl) (λk hk e=>hk.elim (λh=>f2.out k h e) (λh=>by have:k=hb:=e;omega)) hown8,λk hk=>hk.elim (f2.out k) (λh=>by omega),λk hk=>hk.elim (f3.out k) (λh=>by omega)⟩,hown8,by rw[hhs.out,<-hNd.out];exact hU9.out.here,?_,hre2.out,by rw[hE2.out];have:=hL.out;omega⟩,?_⟩
      ·exact((hst.out.bel.trans (hbr7.out.mono oX)).trans (ho8.out.below hbs7 (λk hk=>(f1.out.ownLt k hk).1))).trans (hU9.out.below oX)
      ·have h8:=ho8.out.size
       have h9:=hU9.out.size
       omega
     ·have h6:=h6.out
      have hD:=hD.out
      simp only[List.getD_cons_zero,List.getD_cons_succ,h6,intOf]
      omega
    ·have hfn:Zy (bs.drop D) (Zg z32J dn)=none:=by rw[hfv.out,if_neg (λe=>hqe e.symm)]
     have hfin:=hstop.out w5 hfn hbr5.out
     have hfin2:=λm=>hstop.out (w5.drewN m) hfn (hbr5.out.trans (Drawn.below ⟨m,rfl⟩ _))
     replace hfin2:=Hd hfin2
     have hne:¬(({ data:=(Zn (Zg z32J dn) R).toArray }:ByteArray)={ data:=S.toArray }):=λe=>hqe (hse.1 e)
     have hnb:(Zn (Zg z32J dn) R==S)=false:=beq_eq_false_iff_ne.2 hqe
     have hna:¬((Zn (Zg z32J dn) R).toArray=S.toArray):=λe=>hne (by rw[e])
     clear hfin hfn hse
     go_wp2_with fail
     go_quiet (fail)
     go_wp2_with fail
     go_ret2
     exact hfin2.out _
end Go.Proofs.YtpdhceiodgnbmaaGreatDoor
namespace Go.Proofs.YtpdhceiodgnbmaaGreatDoor
open Go.RowKit
end Go.Proofs.YtpdhceiodgnbmaaGreatDoor
namespace Go.Proofs.YtpdhceiodgnbmaaGreatDoor
open Go.RowKit
end Go.Proofs.YtpdhceiodgnbmaaGreatDoor
namespace Go.Proofs.YtpdhceiodgnbmaaGreatDoor
open Go.RowKit
theorem L4:∀ ps qs:List (List UInt8),Yh ps qs=true↔ps.length<=qs.length/\∀ i,i<ps.length->ps.getD i []=qs.getD i []:=by
 intro ps
 induction ps with
 | nil=>intro qs;simp[Yh]
 | cons a ps ih=>
  intro qs
  cases qs with
  | nil=>simp[Yh]
  | cons b qs=>
   simp only[Yh,Bool.and_eq_true,beq_iff_eq,ih qs,List.length_cons]
   constructor
   ·rintro⟨rfl,h1,h2⟩
    refine⟨oX,λi hi=>?_⟩
    cases i with
    | zero=>rfl
    | succ i=>simpa using h2 i oX
   ·rintro⟨h1,h2⟩
    refine⟨by simpa using h2 0 oX,oX,λi hi=>?_⟩
    simpa using h2 (i+1) oX
theorem Kb{α:Type}{l:List α}{d:α}{k:Nat}(h:k<l.length):l.drop k=l.getD k d::l.drop (k+1):=by
 rw[List.drop_eq_getElem_cons h]
 simp[List.getD_eq_getElem?_getD,h]
theorem Wg{α:Type}{l:List α}{d:α}{k:Nat}(h:k<l.length):l.take (k+1)=l.take k++[l.getD k d]:=by
 rw[List.take_succ_eq_append_getElem h]
 simp[List.getD_eq_getElem?_getD,h]
theorem Rz(ps qs:List (List UInt8))(a1 a2:Option Addr)(c1 c2:Nat)(w:World)(hA:ArgBB w a1 c1 ps)(hB:ArgBB w a2 c2 qs) :
  Calls Tryz.prog 70 #[.slice a1 ps.length c1,.slice a2 qs.length c2] w λx w'=>x=.returned (.bool (Yh ps qs))/\Drawn w w':=by
 obtain⟨q,hq⟩:∃ q,q=Yh ps qs:=⟨_,rfl⟩
 have hiff:=L4 ps qs
 rw[<-hq] at hiff ⊢
 obtain⟨L,hL⟩:∃ L,L=ps.length:=⟨_,rfl⟩
 obtain⟨M,hM⟩:∃ M,M=qs.length:=⟨_,rfl⟩
 have hLm:L<=9223372036854775807:=by have:=hA.len;have:=hA.most;unfold maxLen at *;omega
 have hMm:M<=9223372036854775807:=by have:=hB.len;have:=hB.most;unfold maxLen at *;omega
 rw[<-hL,<-hM] at hiff
 rw[<-hL,<-hM]
 replace hL:=Hd hL
 replace hM:=Hd hM
 replace hA:=Hd hA
 replace hB:=Hd hB
 replace hiff:=Hd hiff
 clear hq
 by_cases hgt:M<L
 ·have hq:q=false:=Bool.eq_false_iff.2 (λh=>by have:=(hiff.out.1 h).1;omega)
  have i1:(M:Int)<(L:Int):=oX
  subst hq
  clear hiff
  go_enter Tryz.func70,Tryz.ntmps70
  go_wp2_with fail
  go_ret
  exact⟨rfl,Drawn.refl _⟩
 ·have i1:¬((M:Int)<(L:Int)):=oX
  go_enter Tryz.func70,Tryz.ntmps70
  go_wp2_with fail
  refine Z8 [(false,4),(true,3),(false,7),(true,14)] _ [] (λU wr=>∃ k:Nat,k<=L/\U 14=.int .i64 (k:Nat)/\Drawn w wr/\∀ i,i<k->ps.getD i []=qs.getD i []) (λU _=>L-(intOf (U 14)).toNat) ?_ ?_
  ·simp only[List.getD_cons_zero,List.getD_cons_succ]
   exact⟨0,Nat.zero_le _,rfl,Drawn.refl _,λi hi=>absurd hi (Nat.not_lt_zero _)⟩
  ·intro U wr hrel KK hback l' hl'
   obtain⟨k,hk,h14,hdw,hle⟩:=hrel
   simp only[ZU,ZG,cond_true,cond_false,Nat.reduceAdd,h14] at hl'
   subst hl'
   replace h14:=Hd h14
   by_cases hlt:k<L
   ·have hlt2:(k:Int)<(L:Int):=oX
    have hlm2:(k:Int)<(M:Int):=oX
    have hlm3:k<M:=oX
    obtain⟨b,o,hab,ai,ci,hc,hai⟩:=(hA.out.below (hdw.below _)).row k (by rw[<-hL.out];exact hlt)
    obtain⟨b',o',hab',ai',ci',hc',hai'⟩:=(hB.out.below (hdw.below _)).row k (by rw[<-hM.out];exact hlm3)
    subst hab hab'
    generalize hxs:ps.getD k []=xs at*
    generalize hys:qs.getD k []=ys at*
    have kc1:=λm=>X8 (P:=Tryz.prog) (w:=wr.drewN m) (src:=24) (dst:=9) (c:=ci) xs Tryz.underlying24 Tryz.underlying5 Tryz.underlying9 (hai.below (Drawn.below ⟨m,rfl⟩ _)).row
    have kc2:=λm=>X8 (P:=Tryz.prog) (w:=wr.drewN m) (src:=24) (dst:=9) (c:=ci') ys Tryz.underlying24 Tryz.underlying5 Tryz.underlying9 (hai'.below (Drawn.below ⟨m,rfl⟩ _)).row
    have hse:=H4 xs ys
    by_cases hqe:xs=ys
    ·replace hle:=Hd hle
     replace hxs:=Hd hxs
     replace hys:=Hd hys
     replace hdw:=Hd hdw
     subst hqe
     clear hai hai'
     go_wp2_with fail
     go_quiet (fail)
     go_wp2_with fail
     refine hback.out _ _ kX ?_ ?_
     ·simp only[List.getD_cons_zero,List.getD_cons_succ]
      refine⟨k+1,oX,by go_num,hdw.out.more _,λi hi=>?_⟩
      by_cases hik:i<k
      ·exact hle.out i hik
      ·obtain rfl:i=k:=oX
       rw[hxs.out,hys.out]
     ·have h14:=h14.out
      simp only[List.getD_cons_zero,List.getD_cons_succ,h14,intOf]
      omega
    ·have hq:q=false:=Bool.eq_false_iff.2 (λh=>by have:=(hiff.out.1 h).2 k hlt;rw[hxs,hys] at this;exact hqe this)
     have hne:¬(({ data:=xs.toArray }:ByteArray)={ data:=ys.toArray }):=λe=>hqe (hse.1 e)
     have hnb:(xs==ys)=false:=beq_eq_false_iff_ne.2 hqe
     have hna:¬(xs.toArray=ys.toArray):=λe=>hne (by rw[e])
     subst hq
     replace hle:=Hd hle
     replace hxs:=Hd hxs
     replace hys:=Hd hys
     replace hdw:=Hd hdw
     clear hai hai' hse hiff
     go_wp2_with fail
     go_quiet (fail)
     go_wp2_with fail
     go_ret
     exact⟨rfl,hdw.out.more _⟩
   ·obtain rfl:k=L:=oX
    have hq:q=true:=hiff.out.2 ⟨oX,hle⟩
    subst hq
    replace hle:=Hd hle
    replace hdw:=Hd hdw
    clear hiff
    go_wp2_with fail
    go_ret
    exact⟨rfl,hdw.out⟩
theorem Bq(ps qs:List (List UInt8))(hl1:∀ r∈ps,r.length<=1000)(hl2:∀ r∈qs,r.length<=1000)(a1 a2:Option Addr)(c1 c2:Nat)(w:World)(hA:ArgBB w a1 c1 ps)(hB:ArgBB w a2 c2 qs)(hRK:RefK w)(hRF:RefF w) :
  Calls Tryz.prog 71 #[.slice a1 ps.length c1,.slice a2 qs.length c2] w λx w'=>x=.returned (.bool (XU z32J ps qs))/\Below w.heap.size w w':=by
 have zr:=Vu
 have zn:=Qg
 have huA:Tryz.prog.underlying 46=some (.array 32 5):=Tryz.underlying46
 have hzz:(Instr.build 46 #[]).run Tryz.prog=λW=>.ok (.agg zero32) W:=by funext W;kernel_rfl
 have hzi:(Tryz.prog.info? 46).map (·.size)=some zero32.size:=by rw[QQ,List.size_toArray,Ze,ZQ];kernel_rfl
 have hzo:zero32.all (·.oneCell')=true:=by rw[QQ];exact YM _
 obtain⟨q,hq⟩:∃ q,q=XU z32J ps qs:=⟨_,rfl⟩
 rw[<-hq]
 obtain⟨L,hL⟩:∃ L,L=ps.length:=⟨_,rfl⟩
 obtain⟨M,hM⟩:∃ M,M=qs.length:=⟨_,rfl⟩
 have hLm:L<=9223372036854775807:=by have:=hA.len;have:=hA.most;unfold maxLen at *;omega
 have hMm:M<=9223372036854775807:=by have:=hB.len;have:=hB.most;unfold maxLen at *;omega
 rw[<-hL,<-hM]
 have hz1:Hid ((w.alloc (.cells zero32 46)).heap[w.heap.size]? = some (.cells zero32 46 (0,0))):=heap_alloc_new w (.cells zero32 46 (0,0))
 have hst0:∀ w2,Upd w.heap.size (.cells zero32 46 (0,0)) (w.alloc (.cells zero32 46)) w2->Below w.heap.size w w2:=λw2 hU=>(bR.alloc nR _).trans (hU.below nR)
 replace hst0:=Hd hst0
 replace hq:=Hd hq
 replace hL:=Hd hL
 replace hM:=Hd hM
 replace hA:=Hd hA
 replace hB:=Hd hB
 replace hRK:=Hd hRK
 replace hRF:=Hd hRF
 go_enter Tryz.func71,Tryz.ntmps71
 go_wp2_with (refine Zc rfl 46 (.tmp 5) (.tmp 11) rfl w.heap.size zero32 zero32 rfl rfl hz1 hzi rfl hzo ?_;intro w2 hU2)
 have hb2:=Hd (hst0.out w2 hU2.out)
 have hh2:=Hd hU2.out.here
 have hs2:w.heap.size+1<=w2.heap.size:=by have:=hU2.out.size;simp at this;omega
 obtain⟨hb,hhb⟩:∃ hb,hb=w.heap.size:=⟨_,rfl⟩
 rw[<-hhb] at hh2 ⊢
 replace hhb:=Hd hhb
 clear hst0 hz1 hU2
 refine Z8 [(false,4),(true,1),(false,1),(true,5),(false,3),(true,47)] _ [] (λU wr=>∃ k:Nat,k<=L/\U 14=.int .i64 (k:Nat)/\Below w.heap.size w wr/\wr.heap[hb]? = some (.cells (cB (Zg z32J (ps.take k))).toArray 46 (0,0))/\q=XU (Zg z32J (ps.take k)) (ps.drop k) (qs.drop k)) (λU _=>L-(intOf (U 14)).toNat) ?_ ?_
 ·simp only[List.getD_cons_zero,List.getD_cons_succ]
  exact⟨0,Nat.zero_le _,rfl,hb2.out,by rw[List.take_zero,hh2.out,QQ];rfl,hq.out⟩
 ·clear hb2 hh2 hs2
  intro U wr hrel KK hback l' hl'
  obtain⟨k,hk,h14,hbw,hhd,hqk⟩:=hrel
  simp only[ZU,ZG,cond_true,cond_false,Nat.reduceAdd,h14] at hl'
  subst hl'
  replace h14:=Hd h14
  by_cases hlt:k<L
  ·have hlt2:(k:Int)<(L:Int):=oX
   by_cases hlm:k<M
   ·have hlm2:¬((M:Int)<=(k:Int)):=oX
    have hlm3:(k:Int)<(M:Int):=oX
    obtain⟨b,o,hab,ai,ci,hc,hai⟩:=(hA.out.below hbw).row k (by rw[<-hL.out];exact hlt)
    obtain⟨b',o',hab',ai',ci',hc',hai'⟩:=(hB.out.below hbw).row k (by rw[<-hM.out];exact hlm)
    subst hab hab'
    rw[Kb (d:=[]) (by rw[<-hL.out];exact hlt),Kb (l:=qs) (d:=[]) (by rw[<-hM.out];exact hlm),XU] at hqk
    have hx1:(ps.getD k []).length<=1000:=by
     have hm:ps[k]'(by rw[<-hL.out];exact hlt)∈ps:=List.getElem_mem _
     have:=hl1 _ hm
     simpa[List.getD_eq_getElem?_getD,show k<ps.length by rw[<-hL.out];exact hlt] using this
    have hy1:(qs.getD k []).length<=1000:=by
     have hm:qs[k]'(by rw[<-hM.out];exact hlm)∈qs:=List.getElem_mem _
     have:=hl2 _ hm
     simpa[List.getD_eq_getElem?_getD,show k<qs.length by rw[<-hM.out];exact hlm] using this
    have htk:ps.take (k+1)=ps.take k++[ps.getD k []]:=Wg (by rw[<-hL.out];exact hlt)
    have hhs:Zg z32J (ps.take (k+1))=Zn (Zg z32J (ps.take k)) (ps.getD k []):=by rw[htk,Yn]
    have hhl:(Zg z32J (ps.take k)).length=32:=Qj ZQ _
    clear htk
    generalize hxs:ps.getD k []=xs at*
    generalize hys:qs.getD k []=ys at*
    have kc1:=λm=>X8 (P:=Tryz.prog) (w:=wr.drewN m) (src:=24) (dst:=9) (c:=ci) xs Tryz.underlying24 Tryz.underlying5 Tryz.underlying9 (hai.below (Drawn.below ⟨m,rfl⟩ _)).row
    have kc2:=λm=>X8 (P:=Tryz.prog) (w:=wr.drewN m) (src:=24) (dst:=9) (c:=ci') ys Tryz.underlying24 Tryz.underlying5 Tryz.underlying9 (hai'.below (Drawn.below ⟨m,rfl⟩ _)).row
    have hse:=H4 xs ys
    obtain⟨h,hhv⟩:∃ h,h=Zg z32J (ps.take k):=⟨_,rfl⟩
    rw[<-hhv] at hhd hqk hhs hhl
    obtain⟨H,hHd⟩:∃ H,H=(cB h).toArray:=⟨_,rfl⟩
    obtain⟨N,hNd⟩:∃ N,N=(cB (Zn h xs)).toArray:=⟨_,rfl⟩
    have hNl:=Qh h xs
    have hnx:=λW ha hk hf=>Kc h xs hhl ai ci W ha oX hk hf
    have hny:=λW ha hk hf=>Kc h ys hhl ai' ci' W ha oX hk hf
    rw[<-hHd] at hhd hnx hny
    rw[<-hNd] at hnx
    have hzH:(Tryz.prog.info? 46).map (·.size)=some H.size:=by rw[hHd,List.size_toArray,Ze,hhl];kernel_rfl
    have hzN:(Tryz.prog.info? 46).map (·.size)=some N.size:=by rw[hNd,List.size_toArray,Ze,hNl];kernel_rfl
    have hHN:H.size=N.size:=by rw[hHd,hNd];simp[Ze,hhl,hNl]
    have hN1:N.all (·.oneCell')=true:=by rw[hNd];exact YM _
    replace hhd:=Hd hhd
    replace hHd:=Hd hHd
    replace hNd:=Hd hNd
    replace hhv:=Hd hhv
    replace hqk:=Hd hqk
    replace hhs:=Hd hhs
    replace hhl:=Hd hhl
    replace hxs:=Hd hxs
    replace hys:=Hd hys
    replace hNl:=Hd hNl
    replace hnx:=Hd hnx
    replace hny:=Hd hny
    replace hHN:=Hd hHN
    replace hai:=Hd hai
    replace hai':=Hd hai'
    replace hbw:=Hd hbw
    by_cases hqe:xs=ys
    ·have hqe2:=hqe
     subst hqe
     clear hny
     go_wp2_with fail
     go_quiet (fail)
     have hheadq:Hid ((wr.drewN nq).heap[hb]? = some (.cells H 46 (0,0))):=hhd
     go_wp2_with (refine Zd rfl 46 (.tmp 5) rfl hb H _ rfl hheadq huA rfl hzH ?_)
     have hbq:Below wr.heap.size wr (wr.drewN nq):=Drawn.below ⟨nq,rfl⟩ _
     have haiq:=hai.out.below hbq
     generalize wr.drewN nq=wq at*
     have hwr:=hbw.out.size
     have hbwq:Below w.heap.size w wq:=hbw.out.trans (hbq.mono hwr)
     have hnq:=Hd (hnx.out wq haiq (hRK.out.below hbwq) (hRF.out.below hbwq))
     replace hbwq:=Hd hbwq
     clear hbq haiq hnx
     with_reducible refine hnq.out.mono ?_
     clear hnq
     rintro x4 w4 ⟨rfl,hb4⟩
     have hH4:Hid (w4.heap[hb]? = some (.cells H 46 (0,0))):=Hd ((hb4.block _ (Zb hheadq.out)).trans hheadq.out)
     have hbw4:=Hd (hbwq.out.trans (hb4.mono hbwq.out.size))
     clear hb4
     go_wp2_with (refine Zc rfl 46 (.tmp 5) (.tmp 33) rfl hb H N rfl rfl hH4 hzN hHN.out hN1 ?_;intro w5 hU5)
     refine hback.out _ _ kX ?_ ?_
     ·simp only[List.getD_cons_zero,List.getD_cons_succ]
      refine⟨k+1,oX,by go_num,hbw4.out.trans (hU5.out.below (by rw[hhb.out];exact Nat.le_refl _)),by rw[hhs.out,<-hNd.out];exact hU5.out.here,?_⟩
      rw[hhs.out,hqk.out];simp only[if_true]
     ·have h14:=h14.out
      simp only[List.getD_cons_zero,List.getD_cons_succ,h14,intOf]
      omega
    ·have hne:¬(({ data:=xs.toArray }:ByteArray)={ data:=ys.toArray }):=λe=>hqe (hse.1 e)
     have hnb:(xs==ys)=false:=beq_eq_false_iff_ne.2 hqe
     have hna:¬(xs.toArray=ys.toArray):=λe=>hne (by rw[e])
     have hqo:q=(List.range 32).all λk=>(Zn h xs).getD k 0==(Zn h ys).getD k 0 || (Zn h xs).getD k 0==0:=by rw[hqk.out,if_neg hqe]
     have hYl:=Qh h ys
     obtain⟨Y,hYd⟩:∃ Y,Y=(cB (Zn h ys)).toArray:=⟨_,rfl⟩
     have hny:=hny.out
     rw[<-hYd] at hny
     replace hny:=Hd hny
     have hzY:(Tryz.prog.info? 46).map (·.size)=some Y.size:=by rw[hYd,List.size_toArray,Ze,hYl];kernel_rfl
     have hY1:Y.all (·.oneCell')=true:=by rw[hYd];exact YM _
     replace hqo:=Hd hqo
     replace hYd:=Hd hYd
     replace hYl:=Hd hYl
     clear hse
     go_wp2_with fail
     go_quiet (fail)
     go_wp2_with fail
     have hheadq:Hid ((wr.drewN nq).heap[hb]? = some (.cells H 46 (0,0))):=hhd
     have hbq:Below wr.heap.size wr (wr.drewN nq):=Drawn.below ⟨nq,rfl⟩ _
     have haiq:=hai.out.below hbq
     have haiq':=hai'.out.below hbq
     have hcq:(wr.drewN nq).cell? ⟨b',o'+k,none⟩=some (.slice ai' ys.length ci'):=by rw[World.cell?_drewN];exact hc'
     generalize wr.drewN nq=wq at*
     have hwr:=hbw.out.size
     have hbwq:Below w.heap.size w wq:=hbw.out.trans (hbq.mono hwr)
     have hd0:Hid (Below wq.heap.size wq wq.drew):=Hd (bR.drew)
     have rlA:∀ W:World,Below wq.heap.size wq W->W.heap[hb]? = some (.cells H 46 (0,0)):=λW h=>(h.block _ (Zb hheadq.out)).trans hheadq.out
     have hzA:=hzH
     have hnq:=λW (hW:Below wq.heap.size wq W)=>hnx.out W (haiq.below hW) (hRK.out.below (hbwq.trans (hW.mono hbwq.size))) (hRF.out.below (hbwq.trans (hW.mono hbwq.size)))
     have hmq:=λW (hW:Below wq.heap.size wq W)=>hny.out W (haiq'.below hW) (hRK.out.below (hbwq.trans (hW.mono hbwq.size))) (hRF.out.below (hbwq.trans (hW.mono hbwq.size)))
     replace hnq:=Hd hnq
     replace hmq:=Hd hmq
     replace hbwq:=Hd hbwq
     replace haiq:=Hd haiq
     replace haiq':=Hd haiq'
     have hcW:∀ W:World,Below wq.heap.size wq W->W.cell? ⟨b',o'+k,none⟩=some (.slice ai' ys.length ci'):=λW hW=>(hW.cell (p:=⟨b',o'+k,none⟩) (World.block_lt_of_cell? wq _ hcq)).trans hcq
     have hzZ:(Tryz.prog.info? 46).map (·.size)=some N.size:=hzN
     have s0N:zero32.size=N.size:=by rw[hNd.out];exact YQ hNl.out
     have s0Y:zero32.size=Y.size:=by rw[hYd.out];exact YQ hYl.out
     go_cut [8,9] from 14 to 60 (λs8 s9 wx=>∃ g8 g9,s8=.pointer (some ⟨g8,0,none⟩)/\s9=.pointer (some ⟨g9,0,none⟩)/\wx.heap[g8]? = some (.cells N 46 (0,0))/\wx.heap[g9]? = some (.cells Y 46 (0,0))/\Below wq.heap.size wq wx)
     case first=>
      refine wp_region_held_drew (S:=(Below wq.heap.size wq)) kX hd0.out (λhOn=>?_)
      generalize World.drew wq=wd at*
      refine tk 0 hOn ?_ (v:=Value.agg _) (hy:=Or.inl ⟨by rfl,λW hSW=>Zt _ _ rfl _ _ _ rfl (rlA W hSW) huA rfl hzA⟩)
      refine tk 1 hOn ?_
      refine tk 3 hOn ?_ (v:=Value.agg _) (hy:=Or.inl ⟨by rfl,λW hSW=>Zt _ _ rfl _ _ _ rfl (rlA W hSW) huA rfl hzA⟩)
      refine tk 4 hOn ?_
      refine tk 5 hOn ?_
      refine tk 6 hOn ?_
      refine tk 7 hOn ?_
      repeat' first
       | exact AllReadyH.nil
       |
        first|refine acI 2 (λKz hKz=>?_) ?_|refine rdK 2 (λKz hKz=>?_)
        go_simp
        (with_reducible refine(hnq.out _ hOn).mono ?_)
        rintro e w3 ⟨rfl,hnew⟩
        (try replace hz1:=Hd ((hnew.block _ (Zb hz1.out)).trans hz1.out))
        (try replace hz2:=Hd ((hnew.block _ (Zb hz2.out)).trans hz2.out))
        focus (go_wp2_with fail)
        refine hKz.out _ _ (Below.trans hOn (Below.mono hnew (Below.size hOn))) ?_
        clear hKz Kz hOn
        intro hOn
        try clear hnew
        try simp only[Act.put,sL,sZ,sS]
       |
        first|refine acI 8 (λKz hKz=>?_) ?_|refine rdK 8 (λKz hKz=>?_)
        go_simp
        (with_reducible refine(hmq.out _ hOn).mono ?_)
        rintro e w4 ⟨rfl,hnew⟩
        (try replace hz1:=Hd ((hnew.block _ (Zb hz1.out)).trans hz1.out))
        (try replace hz2:=Hd ((hnew.block _ (Zb hz2.out)).trans hz2.out))
        focus (go_wp2_with fail)
        refine hKz.out _ _ (Below.trans hOn (Below.mono hnew (Below.size hOn))) ?_
        clear hKz Kz hOn
        intro hOn
        try clear hnew
        try simp only[Act.put,sL,sZ,sS]
       |
        first|refine acI 9 (λKz hKz=>?_) ?_|refine rdK 9 (λKz hKz=>?_)|refine acI 10 (λKz hKz=>?_) ?_|refine rdK 10 (λKz hKz=>?_)
        go_simp
        focus (try go_wp2_with fail)
        (fail_if_success (have:=hz1))
        (with_reducible refine Zq (t:=46) ?_)
        intro w5 hz1 hnew
        have hge1:=Hd hOn.size
        refine hKz.out _ _ (Below.trans hOn (Below.mono hnew (Below.size hOn))) ?_
        clear hKz Kz hOn
        intro hOn
        try clear hnew
        try simp only[Act.put,sL,sZ,sS]
       |
        first|refine acI 10 (λKz hKz=>?_) ?_|refine rdK 10 (λKz hKz=>?_)|refine acI 9 (λKz hKz=>?_) ?_|refine rdK 9 (λKz hKz=>?_)
        go_simp
        focus (try go_wp2_with fail)
        (fail_if_success (have:=hz2))
        (with_reducible refine Zq (t:=46) ?_)
        intro w6 hz2 hnew
        have hz12:=Hd (Zb hz1.out)
        have hge2:=Hd hOn.size
        replace hz1:=Hd ((hnew.block _ (Zb hz1.out)).trans hz1.out)
        refine hKz.out _ _ (Below.trans hOn (Below.mono hnew (Below.size hOn))) ?_
        clear hKz Kz hOn
        intro hOn
        try clear hnew
        try simp only[Act.put,sL,sZ,sS]
       |
        first|refine acI 11 (λKz hKz=>?_) ?_|refine rdK 11 (λKz hKz=>?_)
        rw[if_pos (by rfl)]
        (with_reducible refine Zu 46 (.tmp 8) (.tmp 36) rfl _ zero32 N rfl rfl hz1 hzN s0N hN1 ?_)
        intro w7 hU7
        have hS:=hOn.trans (hU7.out.below hge1.out)
        have hN7:=Hd hU7.out.here
        have hz3:=Hd ((hU7.out.block _ (by have:=hz12.out;omega)).trans hz2.out)
        have hne7:=Hd hz12.out
        have hge7:=Hd hge2.out
        refine hKz.out _ _ hS ?_
        clear hKz Kz hOn hS
        intro hOn
        try simp only[Act.put]
       |
        first|refine acI 11 (λKz hKz=>?_) ?_|refine rdK 11 (λKz hKz=>?_)
        rw[if_pos (by rfl)]
        (with_reducible refine Zu 46 (.tmp 8) (.tmp 36) rfl _ zero32 N rfl rfl hz2 hzN s0N hN1 ?_)
        intro w7 hU7
        have hS:=hOn.trans (hU7.out.below hge2.out)
        have hN7:=Hd hU7.out.here
        have hz3:=Hd ((hU7.out.block _ (by have:=hz12.out;omega)).trans hz1.out)
        have hge7:=Hd hge1.out
        refine hKz.out _ _ hS ?_
        clear hKz Kz hOn hS
        intro hOn
        try simp only[Act.put]
       | refine QP [2,9,10] ?_
       | refine QP [8,9,10] ?_
       | refine QP [9,10] ?_
       | refine QP [8,10] ?_
       | refine QP [8,9] ?_
       | refine QP [2,10] ?_
       | refine QP [2,9] ?_
       | fail
      all_goals
       refine rd 12 (λKz hKz=>?_)
       rw[if_pos (by rfl)]
       (with_reducible refine Zu 46 (.tmp 9) (.tmp 42) rfl _ zero32 Y rfl rfl hz3 hzY s0Y hY1 ?_)
       intro w8 hU8
       have hS:=hOn.trans (hU8.out.below hge7.out)
       have hY8:=Hd hU8.out.here
       have hN8:=Hd ((hU8.out.block _ (by have:=hz12.out;omega)).trans hN7.out)
       refine hKz.out _ _ hS ?_
       clear hKz Kz hOn hS
       intro hOn
       try simp only[Act.put]
       refine dnE ?_
      all_goals
       go_wp2_with fail
       go_meet
       exact⟨_,_,rfl,rfl,hN8.out,hY8.out,hOn⟩
     case rest=>
      obtain⟨g8,g9,rfl,rfl,hN8,hY8,hbx⟩:=hcut
      have hbwx:Below w.heap.size w wc:=hbwq.out.trans (hbx.mono hbwq.out.size)
      have hcN:∀ j,j<32->wc.cell? ⟨g8,j,none⟩=some (.int .u8 (((Zn h xs).getD j 0).toNat:Int)):=λj hj=>by rw[Za hN8,hNd.out,List.getElem?_toArray];exact Uy (by rw[hNl.out];exact hj)
      have hcY:∀ j,j<32->wc.cell? ⟨g9,j,none⟩=some (.int .u8 (((Zn h ys).getD j 0).toNat:Int)):=λj hj=>by rw[Za hY8,hYd.out,List.getElem?_toArray];exact Uy (by rw[hYl.out];exact hj)
      replace hcN:=Hd hcN
      replace hcY:=Hd hcY
      replace hbwx:=Hd hbwx
      clear hback hN8 hY8 hbx hnq hmq haiq haiq' rlA hcW hd0 hheadq hbq hcq
      go_wp2_with fail
      refine Z8 [(false,4),(true,1),(false,5),(true,1),(false,32),(true,17),(false,1)] _ [] (λU2 w5=>∃ j:Nat,j<=32/\U2 43=.int .i64 (j:Nat)/\Drawn wc w5/\∀ i,i<j->((Zn h xs).getD i 0==(Zn h ys).getD i 0 || (Zn h xs).getD i 0==0)=true) (λU2 _=>32-(intOf (U2 43)).toNat) ?_ ?_
      ·simp only[List.getD_cons_zero,List.getD_cons_succ]
       exact⟨0,Nat.zero_le _,rfl,Drawn.refl _,λi hi=>absurd hi (Nat.not_lt_zero _)⟩
      ·intro U2 w5 hrel KK2 hback2 l2 hl2
       obtain⟨j,hj,h43,hdw,hle⟩:=hrel
       simp only[ZU,ZG,cond_true,cond_false,Nat.reduceAdd,h43] at hl2
       subst hl2
       replace h43:=Hd h43
       replace hle:=Hd hle
       by_cases hlt2:j<32
       ·have hlt3:(j:Int)<32:=oX
        have c8:=(hdw.cell ⟨g8,j,none⟩).trans (hcN.out j hlt2)
        have c9:=(hdw.cell ⟨g9,j,none⟩).trans (hcY.out j hlt2)
        have hok:Hid (((Zn h xs).getD j 0==(Zn h ys).getD j 0 || (Zn h xs).getD j 0==0)=(((Zn h xs).getD j 0).toNat==((Zn h ys).getD j 0).toNat || ((Zn h xs).getD j 0).toNat==0)):=Hd (by
         congr 1
         ·rw[Bool.eq_iff_iff,beq_iff_eq,beq_iff_eq];exact⟨λe=>by rw[e],λe=>UInt8.toNat.inj e⟩
         ·rw[Bool.eq_iff_iff,beq_iff_eq,beq_iff_eq];exact⟨λe=>by rw[e];rfl,λe=>UInt8.toNat.inj e⟩)
        obtain⟨xn,hxn⟩:∃ xn,xn=((Zn h xs).getD j 0).toNat:=⟨_,rfl⟩
        obtain⟨yn,hyn⟩:∃ yn,yn=((Zn h ys).getD j 0).toNat:=⟨_,rfl⟩
        rw[<-hxn] at c8
        rw[<-hyn] at c9
        have hok2:Hid (((Zn h xs).getD j 0==(Zn h ys).getD j 0 || (Zn h xs).getD j 0==0)=(xn==yn || xn==0)):=Hd (by rw[hok.out,hxn,hyn])
        replace hxn:=Hd hxn
        replace hyn:=Hd hyn
        replace hdw:=Hd hdw
        clear hok
        have hgo:∀ W,(xn==yn || xn==0)=true->Drawn wc W->∃ j':Nat,j'<=32/\Value.int .i64 ((j:Int)+1)=.int .i64 (j':Nat)/\Drawn wc W/\∀ i,i<j'->((Zn h xs).getD i 0==(Zn h ys).getD i 0 || (Zn h xs).getD i 0==0)=true:=λW hok hW=>by
         refine⟨j+1,oX,rfl,hW,λi hi=>?_⟩
         by_cases hij:i<j
         ·exact hle.out i hij
         ·obtain rfl:i=j:=oX
          rw[hok2.out];exact hok
        replace hgo:=Hd hgo
        by_cases hxy:xn=yn
        ·have i1:((xn:Int) != (yn:Int))=false:=by rw[hxy];simp
         have hok4:=λn=>hgo.out _ (by rw[hxy];simp) (hdw.out.more n)
         replace hxy:=Hd hxy
         replace hok4:=Hd hok4
         go_wp2_with fail
         go_quiet (fail)
         go_wp2_with fail
         refine hback2.out _ _ kX ?_ ?_
         ·simp only[List.getD_cons_zero,List.getD_cons_succ]
          exact hok4.out _
         ·have h43:=h43.out
          simp only[List.getD_cons_zero,List.getD_cons_succ,h43,intOf]
          omega
        ·have i1:((xn:Int) != (yn:Int))=true:=sYq
         by_cases hx0:xn=0
         ·have i2:((xn:Int) != 0)=false:=by rw[hx0];simp
          have hok4:=λn=>hgo.out _ (by rw[hx0];simp) (hdw.out.more n)
          replace hxy:=Hd hxy
          replace hx0:=Hd hx0
          replace hok4:=Hd hok4
          go_wp2_with fail
          go_quiet (fail)
          go_wp2_with fail
          refine hback2.out _ _ kX ?_ ?_
          ·simp only[List.getD_cons_zero,List.getD_cons_succ]
           exact hok4.out _
          ·have h43:=h43.out
           simp only[List.getD_cons_zero,List.getD_cons_succ,h43,intOf]
           omega
         ·have i2:((xn:Int) != 0)=true:=sYq
          have hq0:q=false:=by
           rw[hqo.out,Bool.eq_false_iff]
           intro hc
           rw[List.all_eq_true] at hc
           have h1:=hc j (by simp[hlt2])
           rw[hok2.out] at h1
           simp[hxy,hx0] at h1
          subst hq0
          replace hxy:=Hd hxy
          replace hx0:=Hd hx0
          clear hqo hq hqk
          go_wp2_with fail
          go_quiet (fail)
          go_wp2_with fail
          go_ret
          exact⟨rfl,hbwx.out.trans ((hdw.out.more _).below _)⟩
       ·obtain rfl:j=32:=oX
        have hq0:q=true:=by
         rw[hqo.out,List.all_eq_true]
         exact λi hi=>hle.out i (by simpa using hi)
        subst hq0
        replace hdw:=Hd hdw
        clear hqo hq hqk
        go_wp2_with fail
        go_ret
        exact⟨rfl,hbwx.out.trans (hdw.out.below _)⟩
   ·have hlm2:(M:Int)<=(k:Int):=oX
    have hq2:q=false:=by
     rw[hqk,Kb (d:=[]) (by rw[<-hL.out];exact hlt),List.drop_of_length_le (l:=qs) (by rw[<-hM.out];omega)]
     rfl
    obtain⟨b,o,hab,ai,ci,hc,hai⟩:=(hA.out.below hbw).row k (by rw[<-hL.out];exact hlt)
    subst hab hq2
    replace hbw:=Hd hbw
    clear hqk hhd hai
    go_wp2_with fail
    go_ret
    exact⟨rfl,hbw.out⟩
  ·obtain rfl:k=L:=oX
   have hq2:q=false:=by
    rw[hqk,List.drop_of_length_le (by rw[<-hL.out];exact Nat.le_refl _)]
    rfl
   subst hq2
   replace hbw:=Hd hbw
   clear hqk hhd
   go_wp2_with fail
   go_ret
   exact⟨rfl,hbw.out⟩
end Go.Proofs.YtpdhceiodgnbmaaGreatDoor
