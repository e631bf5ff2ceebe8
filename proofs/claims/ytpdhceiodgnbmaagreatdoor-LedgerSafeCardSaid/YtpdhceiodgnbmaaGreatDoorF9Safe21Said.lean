import Derived.Test.YtpdhceiodgnbmaaGreatDoorF0Safe21Said
import Derived.Test.YtpdhceiodgnbmaaGreatDoorF1Safe21Said
import Derived.Test.YtpdhceiodgnbmaaGreatDoorF7Safe21Said
import Derived.Test.YtpdhceiodgnbmaaGreatDoorF8Safe21Said
import Derived.Deep.QuietTactic
import Derived.BigQuiet
import Derived.Stop.BytesEq
import Derived.Great.BuildSlice
import Derived.Great.FillDense
set_option linter.unusedVariables false
set_option linter.unusedSimpArgs false
set_option linter.unnecessarySimpa false
set_option maxRecDepth 100000
set_option maxHeartbeats 8000000
namespace Go.Proofs.YtpdhceiodgnbmaaGreatDoor
open Go.RowKit
theorem ArgB.from{w:World}{b o c:Nat}{bs:List UInt8}(h:ArgB w (some ⟨b,o,none⟩) c bs)(i:Nat)(hi:i<=bs.length):ArgB w (some ⟨b,o+i,none⟩) (c-i) (bs.drop i):=by
 have hl:=h.len
 have hm:=h.most
 refine⟨by rw[List.length_drop];omega,oX,(λe=>by cases e),λj hj=>⟨b,o+i,rfl,?_⟩⟩
 rw[List.length_drop] at hj
 obtain⟨b',o',e,hc⟩:=h.row (i+j) oX
 cases e
 rw[Nat.add_assoc,hc]
 simp[List.getD_eq_getElem?_getD,List.getElem?_drop]
theorem ArgB.upto{w:World}{a:Option Addr}{c:Nat}{bs:List UInt8}(h:ArgB w a c bs)(n:Nat):ArgB w a c (bs.take n):=by
 refine⟨by rw[List.length_take];have:=h.len;omega,h.most,h.nil,λj hj=>?_⟩
 rw[List.length_take] at hj
 obtain⟨b,o,e,hc⟩:=h.row j oX
 refine⟨b,o,e,?_⟩
 rw[hc]
 simp[List.getD_eq_getElem?_getD,List.getElem?_take,show j<n by omega]
theorem ArgB.range{w:World}{b o c:Nat}{bs:List UInt8}(h:ArgB w (some ⟨b,o,none⟩) c bs):w.rangeAt b o (cB bs):=by
 intro j v hv
 have hj:j<bs.length:=by
  have:=(List.getElem?_eq_some_iff.1 hv).1
  rwa [Ze] at this
 obtain⟨b',o',e,hc⟩:=h.row j hj
 cases e
 rw[hc,<-hv,Uy hj]
theorem CE(xs ys:List UInt8)(hx:xs.length=32)(hy:ys.length=32)(w:World):(binOp .neq 47 (.agg (cB xs).toArray) (.agg (cB ys).toArray)).run Tryz.prog w=.ok (.bool (!(xs==ys))) w:=by
 show (binOp .neq 47 (.agg (xs.map Extern.Stop.cell).toArray) (.agg (ys.map Extern.Stop.cell).toArray)).run Tryz.prog w=_
 rw[run_neq_struct,run_equalIn_bytes w 9998 47 5 32 Tryz.underlying47 Tryz.underlying5 (λw=>by kernel_rfl) xs ys hx hy]
 rfl
theorem DR(x y:Nat)(hx:x<256)(hy:y<256):bits .or .i64 ((x:Int)*256) (y:Int)=((x*256+y:Nat):Int):=by
 have h:=D3 x y 8 oX dX oX
 rw[show (x:Int)*(2:Int) ^ 8=(x:Int)*256 from rfl,IntWalk.wrap64_in ((x:Int)*256) oX] at h
 exact h
def JP(S N R:List UInt8):Option (List UInt8):=if S=N then some R else none
theorem RF{S N R:List UInt8}(h:false=(S==N)):JP S N R=none:=by
 unfold JP
 rw[if_neg (λe=>by rw[e,beq_self_eq_true] at h;cases h)]
theorem Ta{S N R:List UInt8}(h:true=(S==N)):JP S N R=some R:=by
 unfold JP
 rw[if_pos (eq_of_beq h.symm)]
def FirstRes(n₀:Nat)(w':World)(v:Value):Option (List UInt8)->Prop
 | none=>v=.slice none 0 0
 | some r=>OwnB n₀ w' v r
theorem Tf(H:Array Value)(bs:List UInt8)(h34:bs.length<34)(a:Option Addr)(c:Nat)(w:World) :
  Calls Tryz.prog 127 #[.slice a bs.length c,.agg H] w λx w'=>x=.returned (.slice none 0 0)/\Below w.heap.size w w':=by
 have h2:(bs.length:Int)<34:=oX
 have hb:Below w.heap.size w (w.alloc (.cells H 47)):=bR.alloc nR _
 replace hb:=Hd hb
 go_enter Tryz.func127,Tryz.ntmps127
 go_wp2_with fail
 go_ret
 exact⟨rfl,hb.out⟩
theorem Lg(H:Array Value)(bs:List UInt8)(h34:34<=bs.length)(hn:ZT bs<1\/400<ZT bs\/bs.length<34+ZT bs)(hmax:bs.length<=100000)(a:Option Addr)(c:Nat)(w:World)(ha:ArgB w a c bs) :
  Calls Tryz.prog 127 #[.slice a bs.length c,.agg H] w λx w'=>x=.returned (.slice none 0 0)/\Below w.heap.size w w':=by
 have hb:Below w.heap.size w (w.alloc (.cells H 47)):=bR.alloc nR _
 obtain⟨b,o,rfl,_⟩:=ha.row 0 oX
 have ha1:=ha.below hb
 obtain⟨_,_,e0,c0⟩:=ha1.row 0 oX
 cases e0
 obtain⟨_,_,e1,c1⟩:=ha1.row 1 oX
 cases e1
 rw[Nat.add_zero] at c0
 have hj:=DR (bs.getD 0 0).toNat (bs.getD 1 0).toNat (bs.getD 0 0).toNat_lt (bs.getD 1 0).toNat_lt
 have hnB:(bs.getD 0 0).toNat*256+(bs.getD 1 0).toNat=ZT bs:=rfl
 rw[hnB] at hj
 have h2:¬((bs.length:Int)<34):=oX
 have hl1:=(bs.getD 0 0).toNat_lt
 have hl2:=(bs.getD 1 0).toNat_lt
 have hnl:ZT bs<=65535:=by rw[<-hnB];omega
 generalize (bs.getD 0 0).toNat=x at*
 generalize (bs.getD 1 0).toNat=y at*
 generalize ZT bs=n at*
 replace hb:=Hd hb
 have hsz:=Hd (λW=>J1 (n:Int) W)
 clear ha ha1 hnB
 go_enter Tryz.func127,Tryz.ntmps127
 go_wp2_with fail
 go_quiet (fail)
 go_wp2_with fail
 with_reducible refine(hsz.out _).mono ?_
 rintro e w2 ⟨rfl,hq⟩
 obtain rfl:=hq
 by_cases hd:1<=(n:Int)/\(n:Int)<=400
 ·have hd2:decide (1<=(n:Int)/\(n:Int)<=400)=true:=decide_eq_true hd
  have hlt:(bs.length:Int)<34+(n:Int):=oX
  go_wp2_with fail
  go_ret
  exact⟨rfl,below_drewN hb.out nq⟩
 ·have hd2:decide (1<=(n:Int)/\(n:Int)<=400)=false:=decide_eq_false hd
  clear hd
  go_wp2_with fail
  go_ret
  exact⟨rfl,below_drewN hb.out nq⟩
theorem PC(h bs:List UInt8)(hh:h.length=32)(hn1:1<=ZT bs)(hn2:ZT bs<=400)(hn3:34+ZT bs<=bs.length)(hmax:bs.length<=100000)(a:Option Addr)(c:Nat)(w:World)(ha:ArgB w a c bs)(hK:ShaK w)(hF:ShaF w) :
  Calls Tryz.prog 127 #[.slice a bs.length c,.agg (cB h).toArray] w λx w'=>∃ v,x=.returned v/\FirstRes w.heap.size w' v (Zy bs h)/\Below w.heap.size w w':=by
 obtain⟨H,hHd⟩:∃ H,H=(cB h).toArray:=⟨_,rfl⟩
 have hb:Below w.heap.size w (w.alloc (.cells H 47)):=bR.alloc nR _
 obtain⟨b,o,rfl,_⟩:=ha.row 0 oX
 have ha1:=ha.below hb
 have hc:=ha.len
 have hcm:=ha.most
 obtain⟨_,_,e0,c0⟩:=ha1.row 0 oX
 cases e0
 obtain⟨_,_,e1,c1⟩:=ha1.row 1 oX
 cases e1
 rw[Nat.add_zero] at c0
 have hj:=DR (bs.getD 0 0).toNat (bs.getD 1 0).toNat (bs.getD 0 0).toNat_lt (bs.getD 1 0).toNat_lt
 have hnB:(bs.getD 0 0).toNat*256+(bs.getD 1 0).toNat=ZT bs:=rfl
 rw[hnB] at hj
 have hx:=heap_alloc_new w (.cells H 47 (0,0))
 obtain⟨R,hR⟩:∃ R,R=(bs.drop 34).take (ZT bs):=⟨_,rfl⟩
 have hRl:R.length=ZT bs:=by rw[hR,List.length_take,List.length_drop];omega
 have haR:∀ W,Below w.heap.size w W->ArgB W (some ⟨b,o+34,none⟩) (c-34) R:=λW hW=>by rw[hR];exact((ha.below hW).from 34 oX).upto (ZT bs)
 obtain⟨S,hSd⟩:∃ S,S=(bs.drop 2).take 32:=⟨_,rfl⟩
 have hSl:S.length=32:=by rw[hSd,List.length_take,List.length_drop];omega
 have haS:∀ W,Below w.heap.size w W->W.rangeAt b (o+2) (cB S):=λW hW=>by rw[hSd];exact(((ha.below hW).from 2 oX).upto 32).range
 have hfirst:Zy bs h=JP S (Zn h R) R:=by
  unfold Zy JP
  rw[if_neg oX,if_neg oX,<-hR,<-hSd]
 have hnx:=λW (hW:Below w.heap.size w W)=>Vo h R hh (some ⟨b,o+34,none⟩) (c-34) W (haR W hW) oX (hK.below hW) (hF.below hW)
 rw[hRl,<-hHd] at hnx
 have hcl:=λW (hW:Below w.heap.size w W)=>XM (some ⟨b,o+34,none⟩) (c-34) R W (haR W hW) oX
 rw[hRl] at hcl
 have hne:=λW=>CE S (Zn h R) hSl (Qh h R) W
 have hiS:(Tryz.prog.info? 47).map (·.size)=some (cB S).length:=by rw[Ze,hSl];kernel_rfl
 obtain⟨N,hN⟩:∃ N,N=(cB (Zn h R)).toArray:=⟨_,rfl⟩
 rw[<-hN] at hne
 obtain⟨q,hqd⟩:∃ q,q=(S==Zn h R):=⟨_,rfl⟩
 rw[<-hqd] at hne
 replace hqd:=Hd hqd
 rw[<-hN] at hnx
 have huA:Tryz.prog.underlying 47=some (.array 32 5):=Tryz.underlying47
 have hzA:(Tryz.prog.info? 47).map (·.size)=some H.size:=by rw[hHd];exact Qb hh
 have h34:34<=bs.length:=oX
 have hc34:34<=c:=oX
 have hc34i:(34:Int)<=(c:Int):=oX
 have hc2i:(2:Int)<=(c:Int):=oX
 have h2:¬((bs.length:Int)<34):=oX
 have h5:¬((bs.length:Int)<34+(ZT bs:Int)):=oX
 have hl1:=(bs.getD 0 0).toNat_lt
 have hl2:=(bs.getD 1 0).toNat_lt
 have hd2:decide (1<=(ZT bs:Int)/\(ZT bs:Int)<=400)=true:=decide_eq_true oX
 rw[hfirst,<-hHd]
 generalize (bs.getD 0 0).toNat=x at*
 generalize (bs.getD 1 0).toNat=y at*
 replace hR:=Hd hR
 generalize ZT bs=n at*
 have hsz:=Hd (λW=>J1 (n:Int) W)
 replace hb:=Hd hb
 replace hHd:=Hd hHd
 replace hRl:=Hd hRl
 replace haR:=Hd haR
 replace hSd:=Hd hSd
 replace hSl:=Hd hSl
 replace haS:=Hd haS
 replace hnx:=Hd hnx
 replace hcl:=Hd hcl
 replace hN:=Hd hN
 replace hx:=Hd hx
 clear ha ha1 hnB hK hF hfirst hh
 go_enter Tryz.func127,Tryz.ntmps127
 go_wp2_with fail
 go_quiet (fail)
 go_wp2_with fail
 with_reducible refine(hsz.out _).mono ?_
 rintro e w2 ⟨rfl,hq⟩
 obtain rfl:=hq
 clear hsz
 go_wp2_with fail
 generalize hWq:(w.alloc (.cells H 47)).drewN nq=wq
 have hbq:Below w.heap.size w wq:=hWq▸below_drewN hb.out nq
 have hxq:wq.heap[w.heap.size]? = some (.cells H 47 (0,0)):=hWq▸hx.out
 have hsq:w.heap.size<wq.heap.size:=Zb hxq
 have hd1:=hbq.drew
 have hxd:wq.drew.heap[w.heap.size]? = some (.cells H 47 (0,0)):=hxq
 have hsd:w.heap.size<wq.drew.heap.size:=hsq
 replace hd1:=Hd hd1
 have rlA:∀ W,(Below w.heap.size w W/\W.heap[w.heap.size]? = some (.cells H 47 (0,0)))->W.heap[w.heap.size]? = some (.cells H 47 (0,0)):=λW hW=>hW.2
 have hSS:Hid (Below w.heap.size w wq.drew/\wq.drew.heap[w.heap.size]? = some (.cells H 47 (0,0))):=Hd ⟨hd1.out,hxd⟩
 have harr:∀ W,(Instr.arrayAt 47 (.slice (some ⟨b,o+2,none⟩) 32 (c-2))).run Tryz.prog W=.ok (.pointer (some ⟨b,o+2,none⟩)) W:=λW=>by kernel_rfl
 clear hWq hbq hxq hb hx
 refine wp_region_held_drew (S:=(λW=>Below w.heap.size w W/\W.heap[w.heap.size]? = some (.cells H 47 (0,0)))) kX hSS.out (λhOn=>?_)
 generalize World.drew wq=wd at*
 refine tk 0 hOn ?_
 refine tk 1 hOn ?_
 refine tk 4 hOn ?_ (v:=Value.agg _) (hy:=Or.inl ⟨by rfl,λW hSW=>Zt _ _ rfl _ _ _ rfl (rlA W hSW) huA rfl hzA⟩)
 refine tk 5 hOn ?_
 repeat' first
  | exact AllReadyH.nil
  |
   first|refine acI 2 (λKz hKz=>?_) ?_|refine rdK 2 (λKz hKz=>?_)
   go_simp
   focus (try go_wp2_with fail)
   refine hKz.out _ _ c1X ?_
   clear hKz Kz hOn
   intro hOn
   try simp only[Act.put,sL,sZ,sS]
  |
   first|refine acI 3 (λKz hKz=>?_) ?_|refine rdK 3 (λKz hKz=>?_)
   rw[if_pos (by rfl)]
   (with_reducible refine wp_load_mid 47 (.tmp 36) rfl b (o+2) rfl (cB S) _ (haS.out _ hOn.1) huA rfl hiS ?_)
   have hS:=hOn
   refine hKz.out _ _ hS ?_
   clear hKz Kz hOn hS
   intro hOn
   try simp only[Act.put]
  |
   first|refine acI 6 (λKz hKz=>?_) ?_|refine rdK 6 (λKz hKz=>?_)
   go_simp
   (with_reducible refine(hnx.out _ hOn.1).mono ?_)
   rintro e w8 ⟨rfl,hnew⟩
   have hS:=And.intro (hOn.1.trans (hnew.mono hOn.1.size)) ((hnew.block _ (Zb hOn.2)).trans hOn.2)
   focus (go_wp2_with fail)
   refine hKz.out _ _ hS ?_
   clear hKz Kz hOn hS
   intro hOn
   try clear hnew
   try simp only[Act.put,sL,sZ,sS]
  | refine QP [2,6] ?_
  | refine QP [3,6] ?_
  | fail
 all_goals
  refine tk 7 hOn ?_
  refine dnE ?_
 all_goals
  have hOb:=Hd hOn.1
  clear hOn hSS
  cases q
  ·go_wp2_with fail
   go_ret
   exact⟨_,rfl,by rw[RF hqd.out];rfl,hOb.out⟩
  ·have hcc:=Hd (hcl.out _ hOb.out)
   go_wp2_with fail
   with_reducible refine hcc.out.mono ?_
   rintro e w9 ⟨v9,rfl,ho9,hb9⟩
   have hsz9:=hOb.out.size
   replace ho9:=Hd (ho9.mono hsz9)
   replace hb9:=Hd (hOb.out.trans (hb9.mono hsz9))
   go_wp2_with fail
   go_ret
   exact⟨_,rfl,by rw[Ta hqd.out];exact ho9.out,hb9.out⟩
theorem NL(h bs:List UInt8)(hh:h.length=32)(hmax:bs.length<=100000)(a:Option Addr)(c:Nat)(w:World)(ha:ArgB w a c bs)(hK:ShaK w)(hF:ShaF w) :
  Calls Tryz.prog 127 #[.slice a bs.length c,.agg (cB h).toArray] w λx w'=>∃ v,x=.returned v/\FirstRes w.heap.size w' v (Zy bs h)/\Below w.heap.size w w':=by
 by_cases h34:bs.length<34
 ·have hf:Zy bs h=none:=by unfold Zy;rw[if_pos h34]
  rw[hf]
  refine(Tf _ bs h34 a c w).mono ?_
  rintro e w' ⟨rfl,hb⟩
  exact⟨_,rfl,rfl,hb⟩
 ·by_cases hn:ZT bs<1\/400<ZT bs\/bs.length<34+ZT bs
  ·have hf:Zy bs h=none:=by unfold Zy;rw[if_neg h34,if_pos hn]
   rw[hf]
   refine(Lg _ bs oX hn hmax a c w ha).mono ?_
   rintro e w' ⟨rfl,hb⟩
   exact⟨_,rfl,rfl,hb⟩
  ·exact PC h bs hh oX oX oX hmax a c w ha hK hF
end Go.Proofs.YtpdhceiodgnbmaaGreatDoor
namespace Go.Proofs.YtpdhceiodgnbmaaGreatDoor
open Go.RowKit
theorem FirstRes.mono{n m:Nat}{w:World}{v:Value}{o:Option (List UInt8)}(h:FirstRes n w v o)(hm:m<=n):FirstRes m w v o:=by
 cases o with
 | none=>exact h
 | some r=>exact OwnB.mono (show OwnB _ _ _ _ from h) hm
def z32J:List UInt8:=tab 32 λ_=>0
theorem ZQ:z32J.length=32:=QE _ _
theorem QQ:zero32=(cB z32J).toArray:=Kl
theorem VA:(Tryz.prog.info? 24).map (λi=>(i.zero.map (·.cells.size),i.size,i.bytes))=some (some 1,1,24):=kX
structure ScanSt (base:Nat) (w0 wr:World) (hb:Nat) (bs:List UInt8) (dn:List (List UInt8)) (vo vr:Value):Prop where
 rows:∃ F,RowsOf RB 24 1 base wr F vo dn/\(∀ k,F k->k≠hb)/\(∀ k,vr.ownBlock=some k->¬F k)/\(∀ k,F k->base<=k)
 own:∀ k,vo.ownBlock=some k->k≠hb
 head:wr.heap[hb]? = some (.cells (cB (Zg z32J dn)).toArray 47 (0,0))
 found:FirstRes base wr vr (Zy (bs.drop (Zh dn)) (Zg z32J dn))
 apart:∀ k,vr.ownBlock=some k->vo.ownBlock≠some k/\k≠hb
 bel:Below base w0 wr
 rest:dn++ZC (bs.drop (Zh dn)) (Zg z32J dn)=ZC bs z32J
 le:Zh dn<=bs.length
theorem ScanSt.found_some{base:Nat}{w0 wr:World}{hb:Nat}{bs:List UInt8}{dn:List (List UInt8)}{vo vr:Value}{r:List UInt8}(h:ScanSt base w0 wr hb bs dn vo vr)(e:Zy (bs.drop (Zh dn)) (Zg z32J dn)=some r):OwnB base wr vr r/\dn++(r::ZC (bs.drop (Zh (dn++[r]))) (Zg z32J (dn++[r])))=ZC bs z32J/\Zh (dn++[r])<=bs.length/\1<=r.length/\r.length<=400:=by
 have hf:=YT e
 rw[List.length_drop] at hf
 have h1:=h.found
 rw[e] at h1
 have h2:=h.rest
 rw[Xk e,List.drop_drop] at h2
 have hle:=h.le
 exact⟨h1,by rw[QK,Yn];exact h2,by rw[QK];omega,hf.1,hf.2.1⟩
def KW(w:World)(bs:List UInt8)(x:Ending)(w':World):Prop:=∃ v F,x=.returned (.tuple #[v,.int .i64 (Zh (ZC bs z32J):Nat)])/\RowsOf RB 24 1 w.heap.size w' F v (ZC bs z32J)/\(∀ k,F k->w.heap.size<=k)/\Below w.heap.size w w'
theorem LB(bs:List UInt8)(hmax:bs.length<=100000)(a:Option Addr)(c:Nat)(w:World)(ha:ArgB w a c bs)(hK:ShaK w)(hF:ShaF w) :
  Calls Tryz.prog 99 #[.slice a bs.length c] w (KW w bs):=by
 have zr:=QF
 have zn:=Qg
 have hus:=Tryz.underlying24
 have huA:Tryz.prog.underlying 47=some (.array 32 5):=Tryz.underlying47
 have hb0:Below w.heap.size w (w.alloc (.cells zero32 47)):=bR.alloc nR _
 have hz0:=heap_alloc_new w (.cells zero32 47 (0,0))
 obtain⟨w1,hw1⟩:∃ w1,w1=w.alloc (.cells zero32 47):=⟨_,rfl⟩
 rw[<-hw1] at hb0 hz0
 have hs1:w1.heap.size=w.heap.size+1:=by rw[hw1];exact World.size_alloc ..
 have hfi:=Hd (NL z32J bs ZQ hmax a c w1 (ha.below hb0) (hK.below hb0) (hF.below hb0))
 rw[<-QQ] at hfi
 rw[QQ] at hz0
 have hzA:(Tryz.prog.info? 47).map (·.size)=some zero32.size:=by rw[QQ];exact Qb ZQ
 replace hw1:=Hd hw1
 replace hz0:=Hd hz0
 replace ha:=Hd ha
 replace hK:=Hd hK
 replace hF:=Hd hF
 replace hb0:=Hd hb0
 replace hs1:=Hd hs1
 go_enter Tryz.func99,Tryz.ntmps99
 go_wp2_with (refine Zd rfl 47 (.tmp 5) rfl w.heap.size zero32 _ rfl (Hd (heap_alloc_new _ _)) huA rfl hzA ?_)
 rw[<-hw1.out]
 with_reducible refine hfi.out.mono ?_
 rintro e w2 ⟨vr,rfl,hfr,hb2⟩
 have hst0:Hid (ScanSt w.heap.size w w2 w.heap.size bs [] (.slice none 0 0) vr):=Hd (by
  have hsz:=hs1.out
  refine⟨⟨λ_=>False,RowsOf.nil _ _,λ_ h=>False.elim h,λ_ _ h=>h,λ_ h=>False.elim h⟩,λk hk=>(by cases hk),(hb2.block _ oX).trans hz0.out,?_,λk hk=>?_,hb0.out.trans (hb2.mono oX),rfl,Nat.zero_le _⟩
  ·show FirstRes w.heap.size w2 vr (Zy bs z32J)
   cases hq:Zy bs z32J with
   | none=>rw[hq] at hfr;exact hfr
   | some r=>rw[hq] at hfr;exact OwnB.mono hfr oX
  ·refine⟨(by intro h;cases h),?_⟩
   cases hq:Zy bs z32J with
   | none=>rw[hq] at hfr;cases (show vr=_ from hfr);cases hk
   | some r=>
    rw[hq] at hfr
    have:=(World.ownsRow.lt (show OwnB _ _ _ _ from hfr) k hk).1
    omega)
 have hs2:w.heap.size<=w2.heap.size:=by have:=hb2.size;have:=hs1.out;omega
 clear hfi hfr hb2 hb0 hz0 hw1 hs1
 go_wp2_with fail
 refine Z8 [(false,4),(true,1),(false,1),(true,2),(false,3),(true,19)] _ [] (λU wr=>∃ dn:List (List UInt8),U 6=.int .i64 (Zh dn:Nat)/\ScanSt w.heap.size w wr w.heap.size bs dn (U 4) (U 7)/\w.heap.size<=wr.heap.size)
  (λU _=>bs.length-(intOf (U 6)).toNat) ?_ ?_
 ·simp only[List.getD_cons_zero,List.getD_cons_succ]
  exact⟨[],rfl,hst0.out,hs2⟩
 ·clear hst0 hs2
  intro U wr hrel KK hback l' hl'
  obtain⟨dn,h6,hst,hsz⟩:=hrel
  simp only[ZU,ZG,cond_true,cond_false,Nat.reduceAdd,h6] at hl'
  generalize hv4:U 4=vo at*
  generalize hv7:U 7=vr at*
  subst hl'
  replace h6:=Hd h6
  replace hv4:=Hd hv4
  replace hv7:=Hd hv7
  cases hfq:Zy (bs.drop (Zh dn)) (Zg z32J dn) with
  | none=>
   have hvr:=hst.found
   rw[hfq] at hvr
   obtain rfl:vr=.slice none 0 0:=hvr
   have hre:=hst.rest
   rw[YI hfq,List.append_nil] at hre
   replace hst:=Hd hst
   replace hre:=Hd hre
   clear hfq
   go_wp2_with fail
   go_ret2
   obtain⟨F,k1,k2,k3,k4⟩:=hst.out.rows
   exact⟨vo,F,by rw[<-hre.out];rfl,by rw[<-hre.out];exact k1,k4,hst.out.bel⟩
  | some r=>
   obtain⟨hown,hrest,hle2,hr1,hr4⟩:=hst.found_some hfq
   obtain⟨g,cr,rfl,hgb⟩:=hown.form hr1
   obtain⟨F,kr,kF,kv,kFb⟩:=hst.rows
   have hap:=hst.apart g rfl
   have hglt:=(World.ownsRow.lt hown g rfl).2
   have hrb:RB wr (λk=>F k\/k=g) r [.slice (some ⟨g,0,none⟩) r.length cr]:=liesRB.more (G8 hown) (λk h=>by cases h;exact .inr rfl)
   have hyB:Hid (RB wr (λk=>F k\/k=g) r (#[Value.slice (some ⟨g,0,none⟩) r.length cr]:Array Value).toList):=Hd hrb
   have hFB:Hid (∀ k,F k->F k\/k=g):=Hd λk h=>.inl h
   have haB:Hid (∀ k,vo.ownBlock=some k->¬(F k\/k=g)):=Hd λk hk h=>by
    rcases h with h|h
    ·exact kr.apart k hk h
    ·subst h;exact hap.1 hk
   have hlB:Hid (∀ k,F k\/k=g->k<wr.heap.size):=Hd λk h=>by
    rcases h with h|h
    ·exact kr.lt k h
    ·omega
   have hdl:dn.length<=1000000:=by
    have h1:dn.length<=Zh dn:=by
     unfold Zh
     have:∀ l:List (List UInt8),l.length<=(l.map λr=>34+r.length).sum:=by
      intro l
      induction l with
      | nil=>exact Nat.le_refl _
      | cons q l ih=>simp only[List.length_cons,List.map_cons,List.sum_cons];omega
     exact this dn
    have:=hst.le
    omega
   have hinfo:=Hd VA
   have hown2:=Hd hown
   have hhl:(Zg z32J dn).length=32:=Qj ZQ dn
   have hhr:(Zg z32J (dn++[r])).length=32:=Qj ZQ _
   have hnl:=Yn z32J dn r
   obtain⟨H,hH⟩:∃ H,H=(cB (Zg z32J dn)).toArray:=⟨_,rfl⟩
   obtain⟨N,hN⟩:∃ N,N=(cB (Zg z32J (dn++[r]))).toArray:=⟨_,rfl⟩
   have hzH:(Tryz.prog.info? 47).map (·.size)=some H.size:=by rw[hH];exact Qb hhl
   have hzN:(Tryz.prog.info? 47).map (·.size)=some N.size:=by rw[hN];exact Qb hhr
   have hHN:H.size=N.size:=by rw[hH,hN];simp[Ze,hhl,hhr]
   have hN1:N.all (·.oneCell')=true:=by rw[hN];exact YM _
   have hhead:=hst.head
   rw[<-hH] at hhead
   have hbel:=hst.bel
   have hblt:=Zb hhead
   have hnx:=λW (hW:ArgB W (some ⟨g,0,none⟩) cr r) (hB:Below w.heap.size w W)=>Vo (Zg z32J dn) r hhl (some ⟨g,0,none⟩) cr W hW oX (hK.out.below hB) (hF.out.below hB)
   rw[<-hH,<-hnl,<-hN] at hnx
   have hgr:=λW (hO:Only (λk=>vo.ownBlock=some k) wr W)=>hO.owns hown (λk hk e=>by cases hk;exact hap.1 e)
   have hE0:(Zh (dn++[r]):Int)=(Zh dn:Int)+(34+(r.length:Int)):=by rw[QK];omega
   obtain⟨E,hE⟩:∃ E,E=Zh (dn++[r]):=⟨_,rfl⟩
   obtain⟨D,hD⟩:∃ D,D=Zh dn:=⟨_,rfl⟩
   rw[<-hE] at hle2 hE0
   rw[<-hD] at hE0
   have hDl:D<=bs.length:=by rw[hD];exact hst.le
   rw[<-hD]
   replace hst:=Hd hst
   replace hrest:=Hd hrest
   replace hH:=Hd hH
   replace hN:=Hd hN
   replace hnl:=Hd hnl
   replace hhead:=Hd hhead
   replace hnx:=Hd hnx
   replace hgr:=Hd hgr
   replace kr:=Hd kr
   replace kF:=Hd kF
   replace kv:=Hd kv
   replace kFb:=Hd kFb
   replace hE:=Hd hE
   replace hD:=Hd hD
   replace hE0:=Hd hE0
   replace hbel:=Hd hbel
   replace hap:=Hd hap
   replace hHN:=Hd hHN
   clear hfq hown hrb
   go_wp2_with (first
    | (at_builtin;refine Yb (P:=Tryz.prog) (R:=RB) (e:=24) (size:=1) (base:=w.heap.size) (F:=F) (F':=λk=>F k\/k=g) rfl liesRB (.tmp 18) (.tmp 20) 22 rfl Tryz.underlying22 24 hinfo.out dX rfl kr r #[.slice (some ⟨g,0,none⟩) r.length cr] hyB hFB haB hlB rfl hdl dX hsz ?_;intro v3 w3 hr3 ho3 hm3;have hz3:=Hd ((Only.heap ho3.out hhead.out (λe=>hst.out.own _ e rfl))))
    | (refine Zd rfl 47 (.tmp 5) rfl w.heap.size H _ rfl hz3 huA rfl hzH ?_))
   have hb3:Below w.heap.size w w3:=hbel.out.trans (ho3.out.below hsz (λk hk=>(kr.out.ownLt k hk).1))
   have hn3:=Hd (hnx.out w3 (by
    obtain⟨a',c',e1,h1,_⟩:=(OwnB.arg (hgr.out w3 ho3.out))
    cases e1
    exact h1) hb3)
   have hz3s:=hb3.size
   replace hb3:=Hd hb3
   with_reducible refine hn3.out.mono ?_
   rintro e w4 ⟨rfl,hb4⟩
   clear hn3
   have hz4:=Hd ((hb4.block _ (Zb hz3.out)).trans hz3.out)
   have hs4:=hb4.size
   replace hb4:=Hd hb4
   go_wp2_with (refine Zc rfl 47 (.tmp 5) (.tmp 24) rfl w.heap.size H N rfl rfl hz4 hzN hHN.out hN1 ?_;intro w5 hU5)
   rw[<-hE0.out]
   obtain⟨b,o,hab,_⟩:=ha.out.row 0 (by have:=hE0.out;omega)
   have hb5:Below w.heap.size w w5:=(hb3.out.trans (hb4.out.mono hz3s)).trans (hU5.out.below nR)
   have hg4:Below w3.heap.size w3 w4:=hb4.out
   have hO5:Only (λk=>k=w.heap.size) w4 w5:=Only.ofUpd hU5.out rfl
   have hr5:RowsOf RB 24 1 w.heap.size w5 (λk=>F k\/k=g) v3 (dn++[r]):=(hr3.out.below liesRB hg4).only liesRB hO5 (λk hk e=>by
    rcases hk with hk|hk
    ·exact kF.out k hk e
    ·subst hk;exact hap.out.2 e) (λk hk e=>by
    have e2:k=w.heap.size:=e
    rcases hm3.out k hk with h|h
    ·exact hst.out.own k h e
    ·omega)
   have hs5:=hO5.size
   have hs3:=ho3.out.size
   have hm5:∀ k,v3.ownBlock=some k->k<w5.heap.size/\k≠w.heap.size:=λk hk=>⟨(hr5.ownLt k hk).2,λe=>by
    rcases hm3.out k hk with h|h
    ·exact hst.out.own k h e
    ·omega⟩
   have hrow5:w5.drew.heap[w.heap.size]? = some (.cells N 47 (0,0)):=hU5.out.here
   have rlB:∀ W,Grown w5.drew W->W.heap[w.heap.size]? = some (.cells N 47 (0,0)):=λW hW=>(hW.block _ (Zb hrow5)).trans hrow5
   have hbW:∀ W,Grown w5.drew W->Below w.heap.size w W:=λW hW=>(hb5.drew).trans (hW.mono (show w.heap.size<=w5.heap.size by omega))
   have hfs:∀ A' C W,Grown w5.drew W->ArgB W A' C (bs.drop E)->_:=λA' C W hW hA=>NL (Zg z32J (dn++[r])) (bs.drop E) hhr c3X A' C W hA (hK.out.below (hbW W hW)) (hF.out.below (hbW W hW))
   rw[<-hN.out,List.length_drop] at hfs
   have huB:=huA
   have hzB:=hzN
   have hd5:Hid (Grown w5.drew w5.drew):=Hd (Grown.refl _)
   have hE1:(0:Int)<=(E:Int):=oX
   have hE2:(E:Int)<=(bs.length:Int):=oX
   have hlc:=ha.out.len
   have hfin:∀ (w8:World) (v8:Value),Grown w5.drew w8->FirstRes w5.heap.size w8 v8 (Zy (bs.drop E) (Zg z32J (dn++[r])))->ScanSt w.heap.size w w8 w.heap.size bs (dn++[r]) v3 v8:=λw8 v8 hG8 hf8=>by
    have hG:Below w5.heap.size w5 w8:=(Below.drew (Below.refl _ w5)).trans hG8
    have hv8:∀ k,v8.ownBlock=some k->w5.heap.size<=k:=λk hk=>by
     cases hq:Zy (bs.drop E) (Zg z32J (dn++[r])) with
     | none=>rw[hq] at hf8;cases (show v8=_ from hf8);cases hk
     | some q=>rw[hq] at hf8;exact(World.ownsRow.lt (show OwnB _ _ _ _ from hf8) k hk).1
    refine⟨⟨_,hr5.below liesRB hG,λk hk=>?_,λk hk h=>?_,λk hk=>?_⟩,λk hk=>(hm5 k hk).2,?_,?_,λk hk=>⟨λe=>?_,?_⟩,hbW w8 hG8,?_,?_⟩
    ·rcases hk with hk|hk
     ·exact kF.out k hk
     ·subst hk;exact hap.out.2
    ·have h1:=hr5.lt k h
     have h2:=hv8 k hk
     omega
    ·rcases hk with hk|hk
     ·exact kFb.out k hk
     ·subst hk;exact hgb
    ·rw[<-hN.out];exact rlB w8 hG8
    ·rw[<-hE.out]
     cases hq:Zy (bs.drop E) (Zg z32J (dn++[r])) with
     | none=>rw[hq] at hf8;exact hf8
     | some q=>rw[hq] at hf8;exact OwnB.mono (show OwnB _ _ _ _ from hf8) oX
    ·have h1:=hv8 k hk
     have h2:=(hm5 k e).1
     omega
    ·have h1:=hv8 k hk
     omega
    ·have:=hrest.out
     rw[<-hE.out] at this ⊢
     rw[List.append_assoc];exact this
    ·rw[<-hE.out];exact hle2
   have hEd:bs.length-E<bs.length-D:=by have:=hE0.out;omega
   have hsz5:w.heap.size<=w5.heap.size:=oX
   have hsd:w5.heap.size<=w5.drew.heap.size:=Nat.le_refl _
   have hEn:E=Zh (dn++[r]):=hE.out
   replace hfin:=Hd hfin
   replace hfs:=Hd hfs
   replace hEn:=Hd hEn
   replace hbW:=Hd hbW
   clear hb5 hg4 hO5 hr5 hm5 hrow5 hU5 hz3 hz4 hb3 hb4 hr3 ho3 hm3 hyB hFB haB hlB kr kF kv kFb hnx hgr hhead hst hrest hap
   subst hab
   by_cases hcE:c=E
   ·have hA8:∀ W:World,ArgB W (some ⟨b,o,none⟩) 0 (bs.drop E):=λW=>by
     rw[List.drop_eq_nil_of_le oX]
     exact⟨Nat.zero_le _,Nat.zero_le _,(λe=>by cases e),λi hi=>absurd hi (Nat.not_lt_zero i)⟩
    have hf0:=λW hW=>hfs.out (some ⟨b,o,none⟩) 0 W hW (hA8 W)
    rw[show bs.length-E=0 by omega] at hf0
    replace hf0:=Hd hf0
    subst hcE
    clear hA8
    refine wp_region_held_drew (S:=(Grown w5.drew)) kX hd5.out (λhOn=>?_)
    generalize World.drew w5=wd at*
    refine tk 0 hOn ?_
    refine tk 1 hOn ?_
    refine tk 2 hOn ?_
    refine tk 3 hOn ?_ (v:=Value.agg _) (hy:=Or.inl ⟨by rfl,λW hSW=>Zt _ _ rfl _ _ _ rfl (rlB W hSW) huB rfl hzB⟩)
    refine rd 4 (λKz hKz=>?_)
    go_simp
    (with_reducible refine(hf0.out _ hOn).mono ?_)
    rintro e w8 ⟨v8,rfl,hf8,hnew⟩
    replace hf8:=Hd (FirstRes.mono hf8 (Nat.le_trans hsd hOn.size))
    focus (go_wp2_with fail)
    refine hKz.out _ _ (Below.trans hOn (Below.mono hnew (Below.size hOn))) ?_
    clear hKz Kz hOn
    intro hOn
    try clear hnew
    try simp only[Act.put,sL,sZ,sS]
    refine tk 5 hOn ?_
    refine dnE ?_
    all_goals
     have hS8:=Hd hOn
     go_wp2_with fail
     refine hback.out _ _ kX ?_ ?_
     ·simp only[List.getD_cons_zero,List.getD_cons_succ]
      have h8:=hfin.out _ _ hS8.out hf8.out
      exact⟨dn++[r],by rw[hEn.out],h8,by have:=hS8.out.size;omega⟩
     ·have h6:=h6.out
      have hDn:=hD.out
      simp only[List.getD_cons_zero,List.getD_cons_succ,h6,intOf]
      omega
   ·have hEc:(E:Int)<(c:Int):=oX
    have hA8:∀ W:World,Grown w5.drew W->ArgB W (some ⟨b,o+E,none⟩) (c-E) (bs.drop E):=λW hW=>(ha.out.below (hbW.out W hW)).from E oX
    replace hA8:=Hd hA8
    refine wp_region_held_drew (S:=(Grown w5.drew)) kX hd5.out (λhOn=>?_)
    generalize World.drew w5=wd at*
    refine tk 0 hOn ?_
    refine tk 1 hOn ?_
    refine tk 2 hOn ?_
    refine tk 3 hOn ?_ (v:=Value.agg _) (hy:=Or.inl ⟨by rfl,λW hSW=>Zt _ _ rfl _ _ _ rfl (rlB W hSW) huB rfl hzB⟩)
    refine rd 4 (λKz hKz=>?_)
    go_simp
    (with_reducible refine(hfs.out _ _ _ hOn (hA8.out _ hOn)).mono ?_)
    rintro e w8 ⟨v8,rfl,hf8,hnew⟩
    replace hf8:=Hd (FirstRes.mono hf8 (Nat.le_trans hsd hOn.size))
    focus (go_wp2_with fail)
    refine hKz.out _ _ (Below.trans hOn (Below.mono hnew (Below.size hOn))) ?_
    clear hKz Kz hOn
    intro hOn
    try clear hnew
    try simp only[Act.put,sL,sZ,sS]
    refine tk 5 hOn ?_
    refine dnE ?_
    all_goals
     have hS8:=Hd hOn
     go_wp2_with fail
     refine hback.out _ _ kX ?_ ?_
     ·simp only[List.getD_cons_zero,List.getD_cons_succ]
      have h8:=hfin.out _ _ hS8.out hf8.out
      exact⟨dn++[r],by rw[hEn.out],h8,by have:=hS8.out.size;omega⟩
     ·have h6:=h6.out
      have hDn:=hD.out
      simp only[List.getD_cons_zero,List.getD_cons_succ,h6,intOf]
      omega
end Go.Proofs.YtpdhceiodgnbmaaGreatDoor
namespace Go.Proofs.YtpdhceiodgnbmaaGreatDoor
open Go.RowKit
def RD(_w:World)(_F:Nat->Prop)(d:List UInt8)(cs:List Value):Prop:=d.length=32/\cs=cB d
theorem Yg:LiesOk RD 32:=by
 refine⟨λh _ _=>h,λh _=>h,?_⟩
 rintro w F x cs ⟨h1,rfl⟩
 exact⟨by rw[Ze];exact h1,ZI x⟩
theorem RowsOf.argBB{base:Nat}{w:World}{F:Nat->Prop}{v:Value}{ps:List (List UInt8)}(h:RowsOf RB 24 1 base w F v ps):∃ a c,v=.slice a ps.length c/\ArgBB w a c ps:=by
 obtain⟨a,c,rfl,h1,h2,h3,h4⟩:=h.form
 refine⟨a,c,rfl,h2,h3,λe=>(h1 e).1,λi hi=>?_⟩
 obtain⟨g,c',cs,e1,hR,hrg⟩:=h.elem liesRB i ps[i] (List.getElem?_eq_getElem hi)
 cases e1
 obtain⟨a',c'',rfl,harg,_⟩:=hR
 refine⟨g,0,rfl,a',c'',?_,?_⟩
 ·have:=hrg 0 _ rfl
  rw[Nat.mul_one,Nat.add_zero] at this
  rw[Nat.zero_add,this]
  simp[List.getD_eq_getElem?_getD,hi]
 ·rw[show ps.getD i []=ps[i] by simp[List.getD_eq_getElem?_getD,hi]];exact harg
theorem Vm(R:Array Value)(hR:R.size=32)(W:World):(Instr.buildSlice 93 1 #[(0,.agg R)]).run Tryz.prog W=.ok (.slice (some ⟨W.heap.size,0,none⟩) 1 1) (W.alloc (.cells R 47)):=by
 have hP:(Tryz.prog.info? 47).map (λi=>(i.zero.map (·.cells.size),i.size,i.bytes))=some (some 32,32,32):=kX
 obtain⟨ie,hie,h2⟩:=Option.map_eq_some_iff.1 hP
 simp only[Prod.mk.injEq] at h2
 obtain⟨hz,hs,hb⟩:=h2
 obtain⟨z,hz1,hz2⟩:=Option.map_eq_some_iff.1 hz
 refine run_buildSlice W _ _ 1 _ R ie z Tryz.underlying93 hie hz1 (by rw[hs];decide) (by rw[hs];decide) ?_
 have h:=Go.Great.fill_whole (s:=32) dX [.agg R] ((Array.range (1*ie.size)).map (z.cells[· % z.cells.size]!)) (by simp[Value.cells,hR]) (by simp[hs])
 simpa[hs,Value.cells] using h
theorem Bp:(Tryz.prog.info? 47).map (λi=>(i.zero.map (·.cells.size),i.size,i.bytes))=some (some 32,32,32):=kX
def WF(w:World)(ps:List (List UInt8))(x:Ending)(w':World):Prop:=∃ v,x=.returned v/\RowsOf RD 47 32 w.heap.size w' (λ_=>False) v (Yt z32J ps)/\Below w.heap.size w w'
theorem WX(ps:List (List UInt8))(hn:ps.length<=100000)(hl:∀ r∈ps,r.length<=1000)(a:Option Addr)(c:Nat)(w:World)(ha:ArgBB w a c ps)(hK:ShaK w)(hF:ShaF w) :
  Calls Tryz.prog 100 #[.slice a ps.length c] w (WF w ps):=by
 have zr:=QF
 have zn:=Qg
 have huA:Tryz.prog.underlying 47=some (.array 32 5):=Tryz.underlying47
 have hz0:=heap_alloc_new w (.cells zero32 47 (0,0))
 have hb0:Below w.heap.size w (w.alloc (.cells zero32 47)):=bR.alloc nR _
 rw[QQ] at hz0
 have hs0:w.heap.size<=(w.alloc (.cells zero32 47)).heap.size:=hb0.size
 rw[show w.alloc (.cells zero32 47)=w.alloc (.cells (cB z32J).toArray 47) by rw[QQ]] at hb0 hs0
 have hinv0:∃ v,v=Value.slice none 0 0/\RowsOf RD 47 32 w.heap.size (w.alloc (.cells (cB z32J).toArray 47)) (λ_=>False) v ([]:List (List UInt8)):=⟨_,rfl,RowsOf.nil _ _⟩
 obtain⟨v0,hv0,hr0⟩:=hinv0
 obtain⟨L,hL⟩:∃ L,L=ps.length:=⟨_,rfl⟩
 rw[<-hL]
 replace hL:=Hd hL
 replace hz0:=Hd hz0
 replace hb0:=Hd hb0
 replace hr0:=Hd hr0
 replace hv0:=Hd hv0
 replace ha:=Hd ha
 replace hK:=Hd hK
 replace hF:=Hd hF
 replace hl:=Hd hl
 have hinfo:=Hd Bp
 go_enter Tryz.func100,Tryz.ntmps100
 go_wp2_with fail
 rw[show w.alloc (.cells zero32 47)=w.alloc (.cells (cB z32J).toArray 47) by rw[QQ]]
 refine Z8 [(false,3),(true,1),(false,2),(true,1),(false,2),(true,12)] _ [] (λU wr=>∃ k:Nat,k<=L/\U 9=.int .i64 k/\RowsOf RD 47 32 w.heap.size wr (λ_=>False) (U 3) (Yt z32J (ps.take k))/\(∀ j,(U 3).ownBlock=some j->j≠w.heap.size)/\wr.heap[w.heap.size]? = some (.cells (cB (Zg z32J (ps.take k))).toArray 47 (0,0))/\Below w.heap.size w wr)
  (λU _=>L-(intOf (U 9)).toNat) ?_ ?_
 ·simp only[List.getD_cons_zero,List.getD_cons_succ]
  refine⟨0,Nat.zero_le _,rfl,?_,λj hj=>(by cases hj),hz0.out,hb0.out⟩
  rw[<-hv0.out];exact hr0.out
 ·clear hz0 hb0 hr0 hv0 hs0
  intro U wr hrel KK hback l' hl'
  obtain⟨k,hk,h9,hr,hvb,hhd,hbel⟩:=hrel
  simp only[ZU,ZG,cond_true,cond_false,Nat.reduceAdd,h9] at hl'
  generalize hv3:U 3=vo at*
  subst hl'
  replace h9:=Hd h9
  have hsz:=hbel.size
  by_cases hlt:k<L
  ·have hlt2:(k:Int)<L:=oX
   have hkl:k<ps.length:=by rw[<-hL.out];exact hlt
   have hab:=ha.out.below hbel
   obtain⟨b,o,rfl,ai,ci,hc,hai⟩:=hab.row k hkl
   have hgd:ps.getD k []=ps[k]:=by simp[List.getD_eq_getElem?_getD,hkl]
   rw[hgd] at hc hai
   have hr400:=hl.out ps[k] (List.getElem_mem hkl)
   have htk:ps.take (k+1)=ps.take k++[ps[k]]:=List.take_succ_eq_append_getElem hkl
   have hhl:(Zg z32J (ps.take k)).length=32:=Qj ZQ _
   have hhr:(Zg z32J (ps.take (k+1))).length=32:=Qj ZQ _
   have hnl:Zg z32J (ps.take (k+1))=Zn (Zg z32J (ps.take k)) ps[k]:=by rw[htk,Yn]
   have hhs:Yt z32J (ps.take (k+1))=Yt z32J (ps.take k)++[Zg z32J (ps.take (k+1))]:=by rw[hnl,htk,K9]
   have hlen:(Yt z32J (ps.take k)).length<=1000000:=by rw[YK,List.length_take];omega
   obtain⟨H,hH⟩:∃ H,H=(cB (Zg z32J (ps.take k))).toArray:=⟨_,rfl⟩
   obtain⟨N,hN⟩:∃ N,N=(cB (Zg z32J (ps.take (k+1)))).toArray:=⟨_,rfl⟩
   have hzH:(Tryz.prog.info? 47).map (·.size)=some H.size:=by rw[hH];exact Qb hhl
   have hzN:(Tryz.prog.info? 47).map (·.size)=some N.size:=by rw[hN];exact Qb hhr
   have hHN:H.size=N.size:=by rw[hH,hN];simp[Ze,hhl,hhr]
   have hN1:N.all (·.oneCell')=true:=by rw[hN];exact YM _
   have hsl:=Vm N (by rw[hN];simp[Ze,hhr])
   have hNL:N.toList=cB (Zg z32J (ps.take (k+1))):=by rw[hN]
   rw[<-hH] at hhd
   have hnx:=Vo (Zg z32J (ps.take k)) ps[k] hhl ai ci wr hai hr400 (hK.out.below hbel) (hF.out.below hbel)
   rw[<-hH,<-hnl,<-hN] at hnx
   generalize ps[k]=r at*
   replace hnx:=Hd hnx
   replace hhd:=Hd hhd
   replace hr:=Hd hr
   replace hbel:=Hd hbel
   replace hhs:=Hd hhs
   replace hnl:=Hd hnl
   replace htk:=Hd htk
   replace hH:=Hd hH
   replace hN:=Hd hN
   replace hHN:=Hd hHN
   replace hvb:=Hd hvb
   replace hNL:=Hd hNL
   clear hab hgd
   go_wp2_with (refine Zd rfl 47 (.tmp 4) rfl w.heap.size H _ rfl hhd huA rfl hzH ?_)
   with_reducible refine hnx.out.mono ?_
   rintro e w4 ⟨rfl,hb4⟩
   clear hnx
   have hs4:=hb4.size
   have hz4:=Hd ((hb4.block _ (Zb hhd.out)).trans hhd.out)
   have hlt4:=Zb hhd.out
   have hr4:=Hd (hr.out.below Yg hb4)
   have hb44:=Hd (hbel.out.trans (hb4.mono hsz))
   clear hb4
   have hRd:∀ W,RD W (λ_=>False) (Zg z32J (ps.take (k+1))) N.toList:=λW=>⟨hhr,hNL.out⟩
   have hr5f:∀ w5,Hid (Upd w.heap.size (.cells N 47 (0,0)) w4 w5)->Hid (RowsOf RD 47 32 w.heap.size w5 (λ_=>False) vo (Yt z32J (ps.take k))):=λw5 hU=>Hd (hr4.out.only Yg (Only.ofUpd (D:=λj=>j=w.heap.size) hU.out rfl) (λ_ h=>False.elim h) (λj hj e=>hvb.out j hj e))
   have hs5f:∀ w5,Hid (Upd w.heap.size (.cells N 47 (0,0)) w4 w5)->w5.heap.size=w4.heap.size:=λw5 hU=>hU.out.size
   replace hsl:=Hd hsl
   replace hRd:=Hd hRd
   replace hr5f:=Hd hr5f
   replace hs5f:=Hd hs5f
   have hno:Hid (∀ j:Nat,False->False):=Hd (λ_ h=>h)
   go_wp2_with (first
    | (refine Zc rfl 47 (.tmp 4) (.tmp 15) rfl w.heap.size H N rfl rfl hz4 hzN hHN.out hN1 ?_;intro w5 hU5;have hz5:Hid (w5.heap[w.heap.size]? = some (.cells N 47 (0,0))):=Hd hU5.out.here;have hr5:=hr5f.out w5 hU5;have hq5:=Hd (hs5f.out w5 hU5);have hry:Hid (RD w5 (λ_=>False) (Zg z32J (ps.take (k+1))) N.toList):=Hd (hRd.out w5);have haf:Hid (∀ j,vo.ownBlock=some j->¬False):=Hd (λ_ _ h=>h);have hlf:Hid (∀ j:Nat,False->j<w5.heap.size):=Hd (λ_ h=>False.elim h);have hbs5:w.heap.size<=w5.heap.size:=by(rw[hq5.out];omega))
    | (refine Zd rfl 47 (.tmp 4) rfl w.heap.size N _ rfl hz5 huA rfl hzN ?_)
    | (refine wpList_plain rfl (λK hK=>?_);refine QZ 93 1 (.tmp 17) rfl _ rfl _ _ (hsl.out _) (hK _ _ ?_);clear hK K)
    | (at_builtin;refine Yb (P:=Tryz.prog) (R:=RD) (e:=47) (size:=32) (base:=w.heap.size) (F:=λ_=>False) (F':=λ_=>False) rfl Yg (.tmp 16) (.tmp 18) 93 rfl Tryz.underlying93 32 hinfo.out dX rfl hr5 (Zg z32J (ps.take (k+1))) N hry hno haf hlf rfl hlen dX hbs5 ?_;intro v6 w6 hr6 ho6 hm6))
   refine hback.out _ _ kX ?_ ?_
   ·simp only[List.getD_cons_zero,List.getD_cons_succ]
    have hq:=hq5.out
    refine⟨k+1,oX,by go_num,by rw[hhs.out];exact hr6.out,λj hj=>?_,?_,(hb44.out.trans (hU5.out.below nR)).trans (ho6.out.below hbs5 (λj hj=>(hr5.out.ownLt j hj).1))⟩
    ·rcases hm6.out j hj with h|h
     ·exact hvb.out j h
     ·omega
    ·rw[<-hN.out]
     exact ho6.out.heap hz5.out (λe=>hvb.out _ e rfl)
   ·have h9:=h9.out
    simp only[List.getD_cons_zero,List.getD_cons_succ,h9,intOf]
    omega
  ·obtain rfl:k=L:=oX
   have htl:ps.take k=ps:=by rw[hL.out,List.take_length]
   rw[htl] at hr
   replace hr:=Hd hr
   replace hbel:=Hd hbel
   clear hhd
   go_wp2_with fail
   go_ret
   exact⟨vo,rfl,hr.out,hbel.out⟩
end Go.Proofs.YtpdhceiodgnbmaaGreatDoor
