import Derived.Test.YtpdhceiodgnbmaaGreatDoorF0FollowsSaid
import Derived.Test.YtpdhceiodgnbmaaGreatDoorF1FollowsSaid
import Derived.Test.YtpdhceiodgnbmaaGreatDoorF23FollowsSaid
import Derived.Test.YtpdhceiodgnbmaaGreatDoorF25FollowsSaid
set_option linter.unusedVariables false
set_option linter.unusedSimpArgs false
set_option linter.unnecessarySimpa false
set_option maxRecDepth 100000
set_option maxHeartbeats 8000000
namespace Go.Proofs.YtpdhceiodgnbmaaGreatDoor
open Go.RowKit
def Ym(p:DP)(k:Nat):List UInt8:=(List.range k).flatMap λ(i:Nat)=>ZP p.ws p.f (i:Int)
def ZZ(p:DP):List UInt8:=Ym p p.n.toNat
theorem Xd(p:DP)(k:Nat):Ym p (k+1)=Ym p k++ZP p.ws p.f (k:Int):=by simp[Ym,List.range_succ]
theorem DM.flen{base:Nat}{w:World}{B mb mn:Nat}{v:Value}{p:DP}(h:DM base w B mb mn v p):∀ i,(p.f i).length=64:=by obtain⟨_,_,_,hl,_⟩:=h.map;exact hl
theorem DM.seenLen{base:Nat}{w:World}{B mb mn:Nat}{v:Value}{p:DP}(h:DM base w B mb mn v p)(i:Int):(ZP p.ws p.f i).length=64:=by
 unfold ZP
 cases hq:Y3 p.ws i with
 | none=>exact h.flen i
 | some q=>
  unfold Y3 at hq
  have:=List.mem_of_find?_eq_some hq
  exact(h.lens q (by simpa using this)).1
theorem DM.seenToLen{base:Nat}{w:World}{B mb mn:Nat}{v:Value}{p:DP}(h:DM base w B mb mn v p)(k:Nat):(Ym p k).length=64*k:=by
 induction k with
 | zero=>rfl
 | succ k ih=>rw[Xd,List.length_append,ih,h.seenLen];omega
theorem DM.sizeCell{base:Nat}{w:World}{B mb mn:Nat}{v:Value}{p:DP}(h:DM base w B mb mn v p):w.cell? ⟨B,0,none⟩=some (.int .i64 p.n):=by rw[h.cell];rfl
theorem Tq{base:Nat}{w:World}{B mb mn:Nat}{v:Value}{p:DP}(h:DM base w B mb mn v p)(h1:1<=p.n)(hn:p.n<=1000)(hws:p.ws.length<=100000)(hg:p.gone=false) :
  Calls Tryz.prog 98 #[.pointer (some ⟨B,0,none⟩)] w λx w'=>∃ v,x=.returned (.tuple #[v,.nilIface])/\OwnB w.heap.size w' v (ZZ p)/\Below w.heap.size w w':=by
 have hsz:=Hd (JG B p.n w h.sizeCell)
 obtain⟨L,hL⟩:∃ L:Nat,p.n=(L:Int):=⟨p.n.toNat,oX⟩
 have hLa:ZZ p=Ym p L:=by unfold ZZ;rw[hL];rfl
 have hrd:=λW (hW:DM base W B mb mn v p) (i:Int) h0 h1=>KE hW oX hws hg i h0 h1
 have hlen:=h.seenLen
 have hlto:=h.seenToLen
 rw[hL] at hsz
 rw[hLa]
 have hLn:L<=1000:=oX
 have hrd2:∀ W (_:DM base W B mb mn v p) (k:Nat),k<L->_:=λW hW k hk=>hrd W hW (k:Int) oX oX
 replace h:=Hd h
 replace hrd2:=Hd hrd2
 replace hlen:=Hd hlen
 replace hlto:=Hd hlto
 replace hL:=Hd hL
 clear hLa hrd h1 hn hws hg
 go_enter Tryz.func98,Tryz.ntmps98
 go_wp2_with fail
 with_reducible refine hsz.out.mono ?_
 rintro e w1 ⟨rfl,hq⟩
 obtain rfl:=hq
 clear hsz
 go_wp2_with fail
 refine Z8 [(false,4),(true,4),(false,2),(true,20)] _ [] (λU wr=>∃ k:Nat,k<=L/\U 10=.int .i64 k/\OwnB w.heap.size wr (U 4) (Ym p k)/\Below w.heap.size w wr)
  (λU _=>L-(intOf (U 10)).toNat) ?_ ?_
 ·simp only[List.getD_cons_zero,List.getD_cons_succ]
  exact⟨0,Nat.zero_le _,rfl,OwnB.nil _ _,Below.refl _ _⟩
 ·intro U wr hrel KK hback l' hl'
  obtain⟨k,hk,h10,hown,hbel⟩:=hrel
  simp only[ZR,ZD,cond_true,cond_false,Nat.reduceAdd,h10] at hl'
  generalize hv4:U 4=vo at*
  subst hl'
  replace h10:=Hd h10
  replace hv4:=Hd hv4
  have hszr:=hbel.size
  by_cases hlt:k<L
  ·have hlt2:(k:Int)<L:=oX
   have hr:=Hd (hrd2.out wr (h.out.below hbel) k hlt)
   have hsn:=Hd (Xd p k)
   have hl64:=hlen.out (k:Int)
   have hsl:(Ym p k).length<=1000000:=by rw[hlto.out];omega
   generalize ZP p.ws p.f (k:Int)=sb at*
   generalize Ym p k=so at*
   replace hown:=Hd hown
   replace hbel:=Hd hbel
   replace hl64:=Hd hl64
   go_wp2_with fail
   with_reducible refine hr.out.mono ?_
   rintro e w2 ⟨g,off,rfl,hrb,hgl,hb2⟩
   clear hr
   have ho2:=Hd (hown.out.below hb2 nR)
   have ha2:=Hd (hrb.argB hl64.out)
   have hb2w:=Hd (hbel.out.trans (hb2.mono hszr))
   have hs2:=hb2.size
   have hbs2:w.heap.size<=w2.heap.size:=oX
   clear hb2 hrb hown
   go_wp2_with (at_builtin;go_must (refine Uz rfl (.tmp 26) (.tmp 27) rfl w.heap.size _ so rfl ho2 _ _ sb 64 rfl hl64 ha2 hsl dX hbs2 ?_);intro v3 w3 ho3 hb3)
   refine hback.out _ _ kX ?_ ?_
   ·simp only[List.getD_cons_zero,List.getD_cons_succ]
    exact⟨k+1,oX,by go_num,by rw[hsn.out];exact ho3.out,hb2w.out.trans hb3.out⟩
   ·have h10:=h10.out
    simp only[List.getD_cons_zero,List.getD_cons_succ,h10,intOf]
    omega
  ·obtain rfl:k=L:=oX
   replace hown:=Hd hown
   replace hbel:=Hd hbel
   go_wp2_with fail
   go_ret2
   exact⟨_,rfl,hown.out,hbel.out⟩
end Go.Proofs.YtpdhceiodgnbmaaGreatDoor
namespace Go.Proofs.YtpdhceiodgnbmaaGreatDoor
open Go.RowKit
theorem Pq(x:UInt8)(w:World):Calls Tryz.prog 160 #[.int .u8 (x.toNat:Int)] w λe w'=>e=.returned (.bool ((x.toNat:Int) != 0))/\w=w':=by
 go_enter Tryz.func160,Tryz.ntmps160
 go_wp2_with fail
 go_ret
 exact⟨rfl,rfl⟩
def Xn(bs:List UInt8):Bool:=bs.all (· == 0)
theorem HC{bs:List UInt8}{k:Nat}(h:k<bs.length):Xn (bs.take (k+1))=(Xn (bs.take k)&&(bs.getD k 0==0)):=by
 unfold Xn
 rw[List.take_succ_eq_append_getElem h,List.all_append]
 simp[List.getD_eq_getElem?_getD,h]
theorem PR(x:UInt8):((x.toNat:Int) != 0) = !(x==0):=by
 by_cases h:x=0
 ·subst h;rfl
 ·have h1:((x.toNat:Int) != 0)=true:=by
   rw[bne_iff_ne]
   intro e
   exact h (UInt8.toNat_inj.1 (show x.toNat=0 by omega))
  rw[h1,beq_eq_false_iff_ne.2 h];rfl
theorem Ra(bs:List UInt8)(hl:bs.length<=1000000)(a:Option Addr)(c:Nat)(w:World)(ha:ArgB w a c bs) :
  Calls Tryz.prog 159 #[.slice a bs.length c,.func (.func 160) #[] #[]] w λx w'=>∃ k:Int,x=.returned (.int .i64 k)/\decide (k<0)=Xn bs/\w=w':=by
 replace ha:=Hd ha
 go_enter Tryz.func159,Tryz.ntmps159
 go_wp2_with fail
 refine Z8 [(false,4),(true,2),(false,2),(true,11)] _ [] (λU W'=>∃ k:Nat,k<=bs.length/\U 8=.int .i64 k/\Xn (bs.take k)=true/\W'=w) (λU _=>bs.length-(intOf (U 8)).toNat) ?_ ?_
 ·simp only[List.getD_cons_zero,List.getD_cons_succ]
  exact⟨0,Nat.zero_le _,rfl,rfl,trivial⟩
 ·intro U wr hrel KK hback l' hl'
  obtain⟨k,hk,h8,hz,rfl⟩:=hrel
  simp only[ZR,ZD,cond_true,cond_false,Nat.reduceAdd,h8] at hl'
  subst hl'
  replace h8:=Hd h8
  by_cases hlt:k<bs.length
  ·obtain⟨b,o,rfl,hc⟩:=ha.out.row k hlt
   have hlt2:(k:Int)<bs.length:=oX
   have hsn:=Hd (HC hlt)
   have hall:bs.getD k 0≠0->Xn bs=false:=λh=>by
    unfold Xn
    rw[Bool.eq_false_iff]
    intro e
    rw[List.all_eq_true] at e
    have:=e (bs[k]) (List.getElem_mem hlt)
    rw[show bs.getD k 0=bs[k] by simp[List.getD_eq_getElem?_getD,hlt]] at h
    exact h (eq_of_beq this)
   generalize bs.getD k 0=x at*
   have hq:=PR x
   have hcall:=Hd (Pq x wr)
   rw[hq] at hcall
   replace hz:=Hd hz
   replace hall:=Hd hall
   cases hx:(x==0)
   ·rw[hx] at hcall
    clear hq
    go_wp2_with fail
    with_reducible refine hcall.out.mono ?_
    rintro e w2 ⟨rfl,hq⟩
    obtain rfl:=hq
    go_wp2_with fail
    go_ret
    have h1:=hall.out (beq_eq_false_iff_ne.1 hx)
    exact⟨(k:Int),rfl,by rw[h1];simp,rfl⟩
   ·rw[hx] at hcall
    clear hq
    go_wp2_with fail
    with_reducible refine hcall.out.mono ?_
    rintro e w2 ⟨rfl,hq⟩
    obtain rfl:=hq
    go_wp2_with fail
    refine hback.out _ _ kX ?_ ?_
    ·simp only[List.getD_cons_zero,List.getD_cons_succ]
     exact⟨k+1,oX,by go_num,by rw[hsn.out,hz.out,hx];rfl,trivial⟩
    ·have h8:=h8.out
     simp only[List.getD_cons_zero,List.getD_cons_succ,h8,intOf]
     omega
  ·obtain rfl:k=bs.length:=oX
   rw[List.take_length] at hz
   replace hz:=Hd hz
   go_wp2_with fail
   go_ret
   exact⟨-1,rfl,by rw[hz.out];rfl,rfl⟩
def Zu(B:Nat)(rv:Value)(hd:List UInt8)(E sure:Int)(dead:Bool):Array Value:=#[.pointer (some ⟨B,0,none⟩),rv]++(cB hd).toArray++#[.int .i64 E,.int .i64 sure,.bool dead]
theorem XW{B:Nat}{rv:Value}{hd:List UInt8}{E sure:Int}{dead:Bool}(h:hd.length=32):(Zu B rv hd E sure dead).size=37:=by simp[Zu,Zd,h]
theorem jc0{B:Nat}{rv:Value}{hd:List UInt8}{E sure:Int}{dead:Bool}:(Zu B rv hd E sure dead)[0]? = some (.pointer (some ⟨B,0,none⟩)):=by simp[Zu]
theorem jc1{B:Nat}{rv:Value}{hd:List UInt8}{E sure:Int}{dead:Bool}:(Zu B rv hd E sure dead)[1]? = some rv:=by simp[Zu]
theorem J9{B:Nat}{rv:Value}{hd:List UInt8}{E sure:Int}{dead:Bool}(h:hd.length=32):(Zu B rv hd E sure dead)[34]? = some (.int .i64 E):=by
 unfold Zu
 rw[Array.getElem?_append_right (by simp[Zd,h])]
 simp[Zd,h]
theorem Pw{B:Nat}{rv:Value}{hd:List UInt8}{E sure:Int}{dead:Bool}(h:hd.length=32):(Zu B rv hd E sure dead)[35]? = some (.int .i64 sure):=by
 unfold Zu
 rw[Array.getElem?_append_right (by simp[Zd,h])]
 simp[Zd,h]
theorem PW{B:Nat}{rv:Value}{hd:List UInt8}{E sure:Int}{dead:Bool}(h:hd.length=32):(Zu B rv hd E sure dead)[36]? = some (.bool dead):=by
 unfold Zu
 rw[Array.getElem?_append_right (by simp[Zd,h])]
 simp[Zd,h]
def YR(all:List UInt8)(E i:Nat):Int:=if Xn ((all.drop (i*64+(E-i*64))).take (64-(E-i*64))) then -1 else ((E-i*64:Nat):Int)
theorem Mg(J E i:Nat)(all:List UInt8)(hE:E<=100000)(hi:i<=10000)(hEi:E / 64<=i)(hal:(i+1)*64<=all.length)(hmax:all.length<=100000)(a:Option Addr)(c:Nat)(w:World)(ha:ArgB w a c all)(hc:w.cell? ⟨J,34,none⟩=some (.int .i64 (E:Int))) :
  Calls Tryz.prog 129 #[.pointer (some ⟨J,0,none⟩),.slice a all.length c,.int .i64 (i:Int)] w λx w'=>x=.returned (.int .i64 (YR all E i))/\w=w':=by
 obtain⟨b,o,rfl,_⟩:=ha.row 0 oX
 obtain⟨I,hI⟩:∃ I,i*64=I:=⟨_,rfl⟩
 obtain⟨F,hF⟩:∃ F,E-I=F:=⟨_,rfl⟩
 have hF64:F<64:=oX
 have hl:=ha.len
 have hm:=ha.most
 have hI1:(i:Int)*64=(I:Int):=oX
 have hI2:((i:Int)+1)*64=(I:Int)+64:=oX
 have hwr:IntKind.i64.wrap ((E:Int)-(I:Int))=(E:Int)-I:=IntWalk.i64_in _ oX
 have hmx:(if (E:Int)-(I:Int)<0 then (0:Int) else (E:Int)-I)=(F:Int):=by split<;>omega
 have ha2:=(((ha.from I oX).from F (by rw[List.length_drop];omega)).upto (64-F))
 rw[List.drop_drop] at ha2
 have hlen2:((all.drop (I+F)).take (64-F)).length=64-F:=by rw[List.length_take,List.length_drop];omega
 have hR:YR all E i=if Xn ((all.drop (I+F)).take (64-F))=true then -1 else (F:Int):=by unfold YR;rw[hI,hF]
 generalize hbs:(all.drop (I+F)).take (64-F)=bs at*
 have hix:=Ra bs oX _ _ w ha2
 rw[hlen2] at hix
 replace hix:=Hd hix
 replace hR:=Hd hR
 replace hlen2:=Hd hlen2
 clear hbs
 go_enter Tryz.func129,Tryz.ntmps129
 go_wp2_with fail
 with_reducible refine hix.out.mono ?_
 rintro e w2 ⟨k,rfl,hk,hq⟩
 obtain rfl:=hq
 replace hR:=hR.out
 cases hz:Xn bs
 ·rw[hz] at hk hR
  have hk2:¬k<0:=by simpa using hk
  rw[if_neg sX] at hR
  clear hk
  replace hR:=Hd hR
  go_wp2_with fail
  go_ret
  exact⟨by rw[hR.out];rfl,rfl⟩
 ·rw[hz] at hk hR
  have hk2:k<0:=by simpa using hk
  rw[if_pos rfl] at hR
  clear hk
  replace hR:=Hd hR
  go_wp2_with fail
  go_ret
  exact⟨by rw[hR.out];rfl,rfl⟩
end Go.Proofs.YtpdhceiodgnbmaaGreatDoor
namespace Go.Proofs.YtpdhceiodgnbmaaGreatDoor
open Go.RowKit
def XJ(all:List UInt8)(E i:Nat):List UInt8:=(all.drop (i*64)).take (E-i*64)++zSec.drop (E-i*64)
def QV(all:List UInt8)(E i:Nat)(s:DP×Bool):DP×Bool:=if YR all E i<0 then s else ((s.1.write (i:Int) (XJ all E i)).1,true)
def ZO(all:List UInt8)(E i0:Nat):Nat->DP×Bool->DP×Bool
 | 0,s=>s
 | k+1,s=>QV all E (i0+k) (ZO all E i0 k s)
def Jm(all:List UInt8)(E n:Nat)(p:DP):DP:=
 if (ZO all E (E / 64) (n-E / 64) (p,false)).2=true then (ZO all E (E / 64) (n-E / 64) (p,false)).1.sync.1 else (ZO all E (E / 64) (n-E / 64) (p,false)).1
theorem UR{all:List UInt8}{E i:Nat}(hE:E-i*64<64)(hl:(i+1)*64<=all.length):(XJ all E i).length=64:=by
 unfold XJ
 rw[List.length_append,List.length_take,List.length_drop,List.length_drop]
 simp[zSec];omega
theorem Xy{p:DP}{i:Int}{bs:List UInt8}(hb:p.bad=false)(h0:0<=i)(h1:i<p.n)(hl:bs.length=64):p.write i bs=({ p with l:=p.l-1,ws:=p.ws++[(i,bs)] },0):=by
 unfold DP.write
 rw[if_neg oX,if_neg oX,hb]
 rfl
theorem YF{p:DP}(ha:p.armed=false)(hg:p.gone=false):p.bad=false:=by unfold DP.bad;rw[ha,hg];rfl
theorem GL{all:List UInt8}{E i0 n:Nat}{p:DP}(ha:p.armed=false)(hg:p.gone=false)(hn:p.n=(n:Int))(hE:E / 64<=i0)(hal:all.length=64*n)(b:Bool):∀ k,i0+k<=n->
  (ZO all E i0 k (p,b)).1.armed=false/\(ZO all E i0 k (p,b)).1.gone=false/\(ZO all E i0 k (p,b)).1.n=p.n/\(ZO all E i0 k (p,b)).1.f=p.f/\(ZO all E i0 k (p,b)).1.ws.length<=p.ws.length+k/\p.l-k<=(ZO all E i0 k (p,b)).1.l/\(ZO all E i0 k (p,b)).1.l<=p.l:=by
 intro k
 induction k with
 | zero=>intro _;exact⟨ha,hg,rfl,rfl,Nat.le_refl _,by show p.l-0<=p.l;omega,Int.le_refl _⟩
 | succ k ih=>
  intro hk
  obtain⟨h1,h2,h3,h4,h5,h6,h7⟩:=ih oX
  show (QV all E (i0+k) (ZO all E i0 k (p,b))).1.armed=false/\_
  have hu:ZO all E i0 (k+1) (p,b)=QV all E (i0+k) (ZO all E i0 k (p,b)):=rfl
  rw[hu]
  generalize ZO all E i0 k (p,b)=s at*
  unfold QV
  split
  ·exact⟨h1,h2,h3,h4,oX,oX,h7⟩
  ·rw[Xy (YF h1 h2) oX (by rw[h3,hn];omega) (UR oX oX)]
   exact⟨h1,h2,h3,h4,sY,by simp only;omega,by simp only;omega⟩
theorem G3{all:List UInt8}{E i0:Nat}(hc:∀ k,E<=k->all.getD k 0=0)(s:DP×Bool):∀ k,ZO all E i0 k s=s:=by
 intro k
 induction k with
 | zero=>rfl
 | succ k ih=>
  show QV all E (i0+k) (ZO all E i0 k s)=s
  rw[ih]
  unfold QV
  have hz:Xn ((all.drop ((i0+k)*64+(E-(i0+k)*64))).take (64-(E-(i0+k)*64)))=true:=by
   unfold Xn
   rw[List.all_eq_true]
   intro x hx
   obtain⟨j,hj⟩:=List.mem_iff_getElem?.1 hx
   rw[List.getElem?_take] at hj
   split at hj
   ·rw[List.getElem?_drop] at hj
    have:=hc ((i0+k)*64+(E-(i0+k)*64)+j) oX
    rw[List.getD_eq_getElem?_getD,hj] at this
    simp at this
    simp[this]
   ·cases hj
  unfold YR
  rw[hz]
  rfl
theorem GW{all:List UInt8}{E n:Nat}{p:DP}(hc:∀ k,E<=k->all.getD k 0=0):Jm all E n p=p:=by
 unfold Jm
 rw[G3 hc]
 rfl
theorem Gf(seg:List UInt8):(cB seg++(cB zSec).toArray.toList.drop (cB seg).length).toArray=(cB (seg++zSec.drop seg.length)).toArray:=by
 rw[QR,Zd]
 simp[cB,List.map_drop]
def TF(base:Nat)(w:World)(B mb mn:Nat)(v:Value)(q:DP)(m:Nat)(x:Ending)(w':World):Prop:=x=.returned .nilIface/\∃ v' mn',mn'<=mn+m/\DStep base w w' B mb v mn' v' q
theorem DStep.trans{base:Nat}{w w1 w2:World}{B mb m1 m2:Nat}{v v1 v2:Value}{p1 p2:DP}(h:DStep base w w1 B mb v m1 v1 p1)(h':DStep base w1 w2 B mb v1 m2 v2 p2):DStep base w w2 B mb v m2 v2 p2:=by
 refine⟨h'.ok,h.only.trans h'.only (λk hk hd=>?_),λk hk=>?_⟩
 ·rcases h.new k hd with h1|h1
  ·exact h1
  ·omega
 ·rcases h'.new k hk with h1|h1
  ·exact h.new k h1
  ·exact .inr (Nat.le_trans h.only.size h1)
theorem DStep.grow{base:Nat}{w w1 w2:World}{B mb m1:Nat}{v v1:Value}{p1:DP}(h:DStep base w w1 B mb v m1 v1 p1)(hb:Below w1.heap.size w1 w2):DStep base w w2 B mb v m1 v1 p1:=
 h.trans ⟨h.ok.below hb,Only.ofBelow hb,λ_ h=>.inl h⟩
theorem TK{base:Nat}{w:World}{B mb mn:Nat}{v:Value}{p:DP}(h:DM base w B mb mn v p)(hb:base<=w.heap.size)(n:Nat)(hpn:p.n=(n:Int))(h1:1<=n)(hn:n<=1000)(hws:p.ws.length<=10000)(hmn:mn<=60000)(hpl : -100000<=p.l/\p.l<=100000)(ha:p.armed=false)(hg:p.gone=false)(e:Nat->Addr)(hE:DErr w e)(hBE:13≠B)(hEb:∀ W,Below base w W->DErr W e)
  (J:Nat) (C:Array Value) (T:TypeId) (hJ:w.heap[J]? = some (.cells C T (0,0))) (hJD:¬Z2 B mb v J) (E:Nat) (hEn:E<=64*n) (hC0:C[0]? = some (.pointer (some ⟨B,0,none⟩))) (hC34:C[34]? = some (.int .i64 (E:Int)))
  (all:List UInt8) (hal:all.length=64*n) (ab ao c:Nat) (hA:ArgB w (some ⟨ab,ao,none⟩) c all) (hAD:¬Z2 B mb v ab) :
  Calls Tryz.prog 101 #[.pointer (some ⟨J,0,none⟩),.slice (some ⟨ab,ao,none⟩) all.length c] w (TF base w B mb mn v (Jm all E n p) 20000):=by
 have hkeeps:=λk=>GL (all:=all) (E:=E) (i0:=E / 64) ha hg hpn nR hal false k
 have hP:Jm all E n p=if (ZO all E (E / 64) (n-E / 64) (p,false)).2=true then (ZO all E (E / 64) (n-E / 64) (p,false)).1.sync.1 else (ZO all E (E / 64) (n-E / 64) (p,false)).1:=rfl
 obtain⟨i0,hi0⟩:∃ i0,i0=E / 64:=⟨_,rfl⟩
 have hi0n:i0<=n:=oX
 rw[<-hi0] at hkeeps hP
 have hJl:=Zb hJ
 have hal2:all.length<=100000:=oX
 have hablt:ab<w.heap.size:=by
  obtain⟨b',o',e',hc'⟩:=hA.row 0 oX
  cases e'
  exact World.block_lt_of_cell? w _ hc'
 have hdiv:(E:Int) / 64=(i0:Int):=oX
 have hdivt:(E:Int).tdiv 64=(i0:Int):=by rw[Int.tdiv_eq_ediv_of_nonneg oX];exact hdiv
 have hc34:w.cell? ⟨J,34,none⟩=some (.int .i64 (E:Int)):=by rw[Za hJ];exact hC34
 obtain⟨La,hLa⟩:∃ La,La=all.length:=⟨_,rfl⟩
 rw[<-hLa]
 replace hLa:=Hd hLa
 replace h:=Hd h
 replace hJ:=Hd hJ
 replace hA:=Hd hA
 replace hJD:=Hd hJD
 replace hAD:=Hd hAD
 replace hkeeps:=Hd hkeeps
 replace hP:=Hd hP
 replace hE:=Hd hE
 replace hEb:=Hd hEb
 replace hpn:=Hd hpn
 replace hC0:=Hd hC0
 replace hC34:=Hd hC34
 replace ha:=Hd ha
 replace hg:=Hd hg
 replace hal:=Hd hal
 replace hi0:=Hd hi0
 have hmk:∀ w:World,(Instr.makeSlice 24 (.int .i64 64) (.int .i64 64)).run Tryz.prog w=.ok (.slice (some ⟨w.heap.size,0,none⟩) 64 64) (w.alloc (.cells (cB zSec).toArray 5)):=λ_=>by kernel_rfl
 go_enter Tryz.func101,Tryz.ntmps101
 go_wp2_with fail
 refine Z8 [(false,5),(true,5),(false,6),(true,40)] _ [] (λU wr=>∃ (k:Nat) (v':Value),i0+k<=n/\U 6=.int .i64 (i0+k:Nat)/\U 5=.bool (ZO all E i0 k (p,false)).2/\DStep base w wr B mb v mn v' (ZO all E i0 k (p,false)).1)
  (λU _=>n-(intOf (U 6)).toNat) ?_ ?_
 ·simp only[List.getD_cons_zero,List.getD_cons_succ]
  exact⟨0,v,oX,rfl,rfl,DStep.same h.out⟩
 ·intro U wr hrel KK hback l' hl'
  obtain⟨k,v',hk,h6,h5,hst⟩:=hrel
  simp only[ZR,ZD,cond_true,cond_false,Nat.reduceAdd,h6,h5] at hl'
  subst hl'
  obtain⟨q1,q2,q3,q4,q5,q6,q7⟩:=hkeeps.out k hk
  have hstep:ZO all E i0 (k+1) (p,false)=QV all E (i0+k) (ZO all E i0 k (p,false)):=rfl
  generalize hs:ZO all E i0 k (p,false)=s at*
  obtain⟨q,wp⟩:=s
  simp only at q1 q2 q3 q4 q5 q6 q7 hst h5
  replace hs:=Hd hs
  have hnq:q.n=(n:Int):=by rw[q3];exact hpn.out
  have hJr:wr.heap[J]? = some (.cells C T (0,0)):=hst.only.heap hJ.out hJD.out
  have hc0:wr.cell? ⟨J,0,none⟩=some (.pointer (some ⟨B,0,none⟩)):=by rw[Za hJr];exact hC0.out
  have hc34r:wr.cell? ⟨J,34,none⟩=some (.int .i64 (E:Int)):=by rw[Za hJr];exact hC34.out
  have hsz:Hid (Calls Tryz.prog 67 #[.pointer (some ⟨B,0,none⟩)] wr λx w'=>x=.returned (.int .i64 (n:Int))/\wr=w'):=by
   have:=JG B q.n wr hst.ok.sizeCell
   rw[hnq] at this
   exact Hd this
  have hAr:ArgB wr (some ⟨ab,ao,none⟩) c all:=hst.only.argB hA.out (λb o e=>by cases e;exact hAD.out)
  obtain⟨i,hi⟩:∃ i,i=i0+k:=⟨_,rfl⟩
  rw[<-hi] at hk hstep h6 ⊢
  have hsizes:=hst.only.size
  replace h6:=Hd h6
  replace h5:=Hd h5
  have hkn1:k<=n:=oX
  by_cases hlt:i<n
  ·have hlt2:(i:Int)<(n:Int):=oX
   have hbe:=Mg J E i all oX oX (by have:=hi0.out;omega) (by have:=hal.out;omega) hal2 _ c wr hAr hc34r
   rw[<-hLa.out] at hbe
   obtain⟨r,hr⟩:∃ r,r=YR all E i:=⟨_,rfl⟩
   rw[<-hr] at hbe
   replace hbe:=Hd hbe
   replace hAr:=Hd hAr
   replace hst:=Hd hst
   replace hJr:=Hd hJr
   replace hnq:=Hd hnq
   replace hstep:=Hd hstep
   replace hi:=Hd hi
   replace hr:=Hd hr
   replace q3:=Hd q3
   replace q4:=Hd q4
   clear hc34r
   by_cases hneg:r<0
   ·go_wp2_with fail
    with_reducible refine hsz.out.mono ?_
    rintro x w2 ⟨rfl,hq⟩
    obtain rfl:=hq
    go_wp2_with fail
    with_reducible refine hbe.out.mono ?_
    rintro x w2 ⟨rfl,hq⟩
    obtain rfl:=hq
    go_wp2_with fail
    refine hback.out _ _ kX ?_ ?_
    ·have hs1:ZO all E i0 (k+1) (p,false)=(q,wp):=by rw[hstep.out];unfold QV;rw[<-hr.out,if_pos hneg]
     simp only[List.getD_cons_zero,List.getD_cons_succ]
     exact⟨k+1,v',by have:=hi.out;omega,by have:=hi.out;congr 1;omega,by rw[hs1],by rw[hs1];exact hst.out⟩
    ·have h6:=h6.out
     simp only[List.getD_cons_zero,List.getD_cons_succ,h6,intOf]
     omega
   ·go_wp2_with fail
    with_reducible refine hsz.out.mono ?_
    rintro x w2 ⟨rfl,hq⟩
    obtain rfl:=hq
    go_wp2_with fail
    with_reducible refine hbe.out.mono ?_
    rintro x w2 ⟨rfl,hq⟩
    obtain rfl:=hq
    obtain⟨I,hI⟩:∃ I,i*64=I:=⟨_,rfl⟩
    obtain⟨F,hF⟩:∃ F,E-I=F:=⟨_,rfl⟩
    have hi0':=hi0.out
    have hi':=hi.out
    have hal':=hal.out
    have hF64:F<64:=oX
    have hrF:r=(F:Int):=by
     have h1:=hr.out
     unfold YR at h1
     rw[hI,hF] at h1
     split at h1
     ·omega
     ·exact h1
    subst hrF
    have hlc:=hAr.out.len
    have hI1:(i:Int)*64=(I:Int):=oX
    have hcI:¬c=I:=oX
    have hIF:(I:Int)+(F:Int)<=(c:Int):=oX
    have hseg:=(hAr.out.from I oX).upto F
    have hsegl:((all.drop I).take F).length=F:=by rw[List.length_take,List.length_drop];omega
    have hwB:XJ all E i=(all.drop I).take F++zSec.drop F:=by unfold XJ;rw[hI,hF]
    have hwBl:(XJ all E i).length=64:=UR oX oX
    generalize hsg:(all.drop I).take F=seg at*
    have hwC:(cB seg++(cB zSec).toArray.toList.drop (cB seg).length).toArray=(cB (XJ all E i)).toArray:=by rw[Gf,hwB,hsegl]
    generalize hWB:XJ all E i=wb at*
    replace hWB:=Hd hWB
    have hG:Below wr.heap.size wr (wr.alloc (.cells (cB zSec).toArray 5)):=bR.alloc nR _
    have hsrc:∀ j u,(cB seg)[j]? = some u->(wr.alloc (.cells (cB zSec).toArray 5)).cell? ((⟨ab,ao+I,none⟩:Addr).add j)=some u:=λj u hj=>by
     rw[Addr.add_mid]
     exact(hseg.below hG).range j u hj
    have hcl:(cB seg).length=Nat.min (I+F-I) 64:=by rw[Zd,hsegl];show F=min (I+F-I) 64;omega
    have hcf:(cB seg).length<=(cB zSec).toArray.size:=by rw[Zd,hsegl];simp[Zd,zSec];omega
    have hone:=ZU seg
    have hgz:=Hd (heap_alloc_new wr (.cells (cB zSec).toArray 5 (0,0)))
    replace hsrc:=Hd hsrc
    replace hcl:=Hd hcl
    replace hcf:=Hd hcf
    replace hone:=Hd hone
    replace hwC:=Hd hwC
    replace hwB:=Hd hwB
    replace hwBl:=Hd hwBl
    replace hI:=Hd hI
    replace hF:=Hd hF
    replace hi':=Hd hi'
    replace hi0':=Hd hi0'
    replace hal':=Hd hal'
    replace hsegl:=Hd hsegl
    replace hG:=Hd hG
    have hJne:J≠wr.heap.size:=λe=>by have:=Zb hJr.out;omega
    have hJlr:=Zb hJr.out
    have hc7f:Hid (∀ w7:World,Hid (Upd wr.heap.size (.cells (cB seg++(cB zSec).toArray.toList.drop (cB seg).length).toArray 5 (0,0)) (wr.alloc (.cells (cB zSec).toArray 5)) w7)->w7.cell? ⟨J,0,none⟩=some (.pointer (some ⟨B,0,none⟩))):=Hd λw7 hU=>by
     rw[Za ((hU.out.block J hJne).trans ((hG.out.block J hJlr).trans hJr.out))]
     exact hC0.out
    clear hseg hsg
    go_wp2_with (refine wpList_plain rfl (λK hK=>?_);refine KD (.tmp 32) (.tmp 40) rfl wr.heap.size 64 64 ⟨ab,ao+I,none⟩ (I+F-I) _ (cB zSec).toArray 5 (cB seg) rfl rfl hgz hcl.out hsrc.out hcf.out hone.out ?_;intro w7 hU7;refine hK _ _ ?_;clear hK K;have hc07:=hc7f.out w7 hU7)
    have hG7:Below wr.heap.size wr w7:=hG.out.trans (hU7.out.below nR)
    have ho7:=hst.out.ok.below hG7
    have hst7:=hst.out.grow hG7
    have hb7:base<=w7.heap.size:=by have:=hG7.size;omega
    have hw7:w7.heap[wr.heap.size]? = some (.cells (cB wb).toArray 5 (0,0)):=by rw[<-hwC.out];exact hU7.out.here
    have hE7:DErr w7 e:=hEb.out w7 ((hst.out.below h.out hb).trans (hG7.mono oX))
    have hDw:¬Z2 B mb v' wr.heap.size:=λhd=>Nat.lt_irrefl _ (hst.out.ok.lt _ hd).2
    have hwr:=Ug ho7 hb7 oX oX e hE7 hBE (i:Int) _ 64 wb (Xu hw7 (by have:=hwBl.out;omega) dX) (λb' o' s' e'=>by cases e';exact hDw)
    rw[hwBl.out,Xy (YF q1 q2) oX (by rw[hnq.out];exact hlt2) hwBl.out] at hwr
    replace hwr:=Hd hwr
    replace ho7:=Hd ho7
    replace hst7:=Hd hst7
    clear hG7 hw7 hE7 hDw hU7
    go_wp2_with fail
    with_reducible refine hwr.out.mono ?_
    rintro x w8 ⟨rfl,v8,hst8⟩
    clear hwr
    simp only[YC]
    have hst9:=Hd (hst7.out.trans hst8)
    clear hst8
    go_wp2_with fail
    refine hback.out _ _ kX ?_ ?_
    ·have hs1:ZO all E i0 (k+1) (p,false)=({ q with l:=q.l-1,ws:=q.ws++[((i:Int),wb)] },true):=by
      rw[hstep.out,hi'.out]
      unfold QV
      rw[<-hi'.out,<-hr.out,if_neg oX,hWB.out]
      simp only
      rw[Xy (YF q1 q2) oX (by rw[hnq.out];exact hlt2) hwBl.out]
     simp only[List.getD_cons_zero,List.getD_cons_succ]
     exact⟨k+1,v8,by have:=hi.out;omega,by have:=hi.out;congr 1;omega,by rw[hs1],by rw[hs1];exact hst9.out⟩
    ·have h6:=h6.out
     simp only[List.getD_cons_zero,List.getD_cons_succ,h6,intOf]
     omega
  ·obtain rfl:i=n:=oX
   have hkn:k=i-i0:=oX
   have hP2:Jm all E i p=if wp=true then q.sync.1 else q:=by rw[hP.out,<-hkn,hs.out]
   have hsy:=UG hst.ok oX oX oX oX e (hEb.out wr (hst.below h.out hb)) hBE
   have hsq:q.sync=({ q with l:=q.l-1,f:=ZV (λ_=>some 64) q.ws q.f,ws:=[] },0):=by unfold DP.sync;rw[YF q1 q2];rfl
   have hs2:q.sync.2=0:=by rw[hsq]
   rw[hs2] at hsy
   replace hsy:=Hd hsy
   replace hst:=Hd hst
   replace hP2:=Hd hP2
   replace hsq:=Hd hsq
   replace hs2:=Hd hs2
   replace hnq:=Hd hnq
   replace hJr:=Hd hJr
   replace hAr:=Hd hAr
   replace hstep:=Hd hstep
   replace hi:=Hd hi
   replace hkn:=Hd hkn
   replace q3:=Hd q3
   replace q4:=Hd q4
   clear hc34r
   cases wp
   ·go_wp2_with fail
    with_reducible refine hsz.out.mono ?_
    rintro x w2 ⟨rfl,hq⟩
    obtain rfl:=hq
    go_wp2_with fail
    go_ret
    exact⟨rfl,v',mn,oX,by rw[hP2.out];exact hst.out⟩
   ·go_wp2_with fail
    with_reducible refine hsz.out.mono ?_
    rintro x w2 ⟨rfl,hq⟩
    obtain rfl:=hq
    go_wp2_with fail
    with_reducible refine hsy.out.mono ?_
    rintro x w2 ⟨rfl,v2,mn2,hm2,hst2⟩
    simp only[YC]
    replace hst2:=Hd (hst.out.trans hst2)
    clear hsy
    go_wp2_with fail
    go_ret
    exact⟨rfl,v2,mn2,oX,by rw[hP2.out];exact hst2.out⟩
end Go.Proofs.YtpdhceiodgnbmaaGreatDoor
