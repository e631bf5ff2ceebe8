import Derived.Test.YtpdhceiodgnbmaaGreatDoorF0Safe21Said
import Derived.Test.YtpdhceiodgnbmaaGreatDoorF1Safe21Said
import Derived.Test.YtpdhceiodgnbmaaGreatDoorF5Safe21Said
import Derived.BigRegionIn
set_option linter.unusedVariables false
set_option linter.unusedSimpArgs false
set_option linter.unnecessarySimpa false
set_option maxRecDepth 100000
set_option maxHeartbeats 8000000
namespace Go.Proofs.YtpdhceiodgnbmaaGreatDoor
open Go.RowKit
def QX(s:S8)(a:Option Addr)(n c:Nat)(k:Int):Array Value:=
 #[.int .u32 (wn s.a),.int .u32 (wn s.b),.int .u32 (wn s.c),.int .u32 (wn s.d),.int .u32 (wn s.e),.int .u32 (wn s.f),.int .u32 (wn s.g),.int .u32 (wn s.h),.slice a n c,.int .i64 k]
structure HashAt (w0:World) (b:Nat) (s:S8) (a:Option Addr) (n c:Nat) (k:Int) (W:World):Prop where
 blk:W.heap[b]? = some (.cells (QX s a n c k) 275 (0,0))
 bel:Below w0.heap.size w0 W
def YJ(b:Nat)(a:Option Addr)(n c:Nat)(W:World):Prop:=W.cell? ⟨b,8,none⟩=some (.slice a n c)
section
variable {w0:World} {b:Nat} {s:S8} {a:Option Addr} {n c:Nat} {k:Int} {W W':World}
theorem HashAt.restAt(h:HashAt w0 b s a n c k W):YJ b a n c W:=by unfold YJ;rw[Za h.blk];rfl
theorem HashAt.countAt(h:HashAt w0 b s a n c k W):W.cell? ⟨b,9,none⟩=some (.int .i64 k):=by rw[Za h.blk];rfl
theorem HashAt.words(h:HashAt w0 b s a n c k W):W.cell? ⟨b,0,none⟩=some (.int .u32 (wn s.a))/\W.cell? ⟨b,1,none⟩=some (.int .u32 (wn s.b))/\W.cell? ⟨b,2,none⟩=some (.int .u32 (wn s.c))/\W.cell? ⟨b,3,none⟩=some (.int .u32 (wn s.d))/\
  W.cell? ⟨b,4,none⟩=some (.int .u32 (wn s.e))/\W.cell? ⟨b,5,none⟩=some (.int .u32 (wn s.f))/\W.cell? ⟨b,6,none⟩=some (.int .u32 (wn s.g))/\W.cell? ⟨b,7,none⟩=some (.int .u32 (wn s.h)):=by
 refine⟨?_,?_,?_,?_,?_,?_,?_,?_⟩<;>(rw[Za h.blk];rfl)
theorem HashAt.free(h:HashAt w0 b s a n c k W)(j:Nat):W.frozen? ⟨b,j,none⟩=false:=Zj h.blk _
theorem HashAt.grown(h:HashAt w0 b s a n c k W)(hd:Below W.heap.size W W'):HashAt w0 b s a n c k W':=⟨(hd.block _ (Zb h.blk)).trans h.blk,h.bel.trans (hd.mono h.bel.size)⟩
theorem HashAt.put8(h:HashAt w0 b s a n c k W)(hb:w0.heap.size<=b)(s':S8):HashAt w0 b s' a n c k
  ((((((((W.setCell ⟨b,0,none⟩ (.int .u32 (wn s'.a))).setCell ⟨b,1,none⟩ (.int .u32 (wn s'.b))).setCell ⟨b,2,none⟩ (.int .u32 (wn s'.c))).setCell ⟨b,3,none⟩ (.int .u32 (wn s'.d))).setCell ⟨b,4,none⟩ (.int .u32 (wn s'.e))).setCell ⟨b,5,none⟩ (.int .u32 (wn s'.f))).setCell ⟨b,6,none⟩ (.int .u32 (wn s'.g))).setCell ⟨b,7,none⟩ (.int .u32 (wn s'.h))):=by
 have hu:=((((((((Upd.refl h.blk).setCell (j:=0) (.int .u32 (wn s'.a))).setCell (j:=1) (.int .u32 (wn s'.b))).setCell (j:=2) (.int .u32 (wn s'.c))).setCell (j:=3) (.int .u32 (wn s'.d))).setCell (j:=4) (.int .u32 (wn s'.e))).setCell (j:=5) (.int .u32 (wn s'.f))).setCell (j:=6) (.int .u32 (wn s'.g))).setCell (j:=7) (.int .u32 (wn s'.h))
 have hu2:=hu.to (show _=Obj.cells (QX s' a n c k) 275 (0,0) from by simp[QX])
 exact⟨hu2.here,h.bel.trans (hu2.below hb)⟩
theorem HashAt.putRest(h:HashAt w0 b s a n c k W)(hb:w0.heap.size<=b)(a':Option Addr)(n' c':Nat):HashAt w0 b s a' n' c' k (W.setCell ⟨b,8,none⟩ (.slice a' n' c')):=by
 have hu:=(Upd.refl h.blk).setCell (j:=8) (.slice a' n' c')
 have hu2:=hu.to (show _=Obj.cells (QX s a' n' c' k) 275 (0,0) from by simp[QX])
 exact⟨hu2.here,h.bel.trans (hu2.below hb)⟩
theorem HashAt.putCount(h:HashAt w0 b s a n c k W)(hb:w0.heap.size<=b)(k':Int):HashAt w0 b s a n c k' (W.setCell ⟨b,9,none⟩ (.int .i64 k')):=by
 have hu:=(Upd.refl h.blk).setCell (j:=9) (.int .i64 k')
 have hu2:=hu.to (show _=Obj.cells (QX s a n c k') 275 (0,0) from by simp[QX])
 exact⟨hu2.here,h.bel.trans (hu2.below hb)⟩
end
def UD(w0:World)(b:Nat)(m:List UInt8)(W:World):Prop:=
 ∃ a n c,HashAt w0 b (ZK Z6 m (m.length / 64)) a n c (m.length:Int) W/\OwnB w0.heap.size W (.slice a n c) (m.drop (64*(m.length / 64)))/\w0.heap.size<=b
def ShaF(w:World):Prop:=∀ i,i<8->w.cell? ⟨22,i,none⟩=some (.int .u32 (wn (sAt Z6 i)))
theorem ShaF.below{w w':World}(h:ShaF w)(hb:Below w.heap.size w w'):ShaF w':=λt ht=>(hb.cell (World.block_lt_of_cell? w _ (h t ht))).trans (h t ht)
theorem Bf(w:World)(hF:ShaF w):Calls Tryz.prog 137 #[] w λe w'=>e=.returned (.pointer (some ⟨w.heap.size,0,none⟩))/\w'=w.alloc (.cells (QX Z6 none 0 0 0) 275):=by
 have e0:=hF 0 oX
 have e1:=hF 1 oX
 have e2:=hF 2 oX
 have e3:=hF 3 oX
 have e4:=hF 4 oX
 have e5:=hF 5 oX
 have e6:=hF 6 oX
 have e7:=hF 7 oX
 clear hF
 go_enter Tryz.func137,Tryz.ntmps137
 go_wp2_with fail
 go_ret
 exact⟨rfl,rfl⟩
theorem Dw(w:World)(hF:ShaF w):Calls Tryz.prog 137 #[] w λe w'=>e=.returned (.pointer (some ⟨w.heap.size,0,none⟩))/\UD w w.heap.size [] w':=by
 refine(Bf w hF).mono ?_
 rintro e w' ⟨rfl,rfl⟩
 refine⟨rfl,none,0,0,⟨heap_alloc_new w _,(Below.refl w.heap.size w).alloc nR _⟩,OwnB.nil _ _,Nat.le_refl _⟩
theorem OwnB.upd{base b:Nat}{o:Obj}{W W':World}{v:Value}{bs:List UInt8}(h:OwnB base W v bs)(hu:Upd b o W W')(hne:∀ cur fz,W.heap[b]? ≠ some (.cells cur 5 fz)):OwnB base W' v bs:=by
 refine⟨h.1,?_⟩
 rcases h.2 with h2|⟨g,cap,cur,e1,e2,e3,e4⟩
 ·exact .inl h2
 ·refine .inr ⟨g,cap,cur,e1,e2,?_,e4⟩
  rw[hu.block g (λe=>hne cur (0,0) (by rw[<-e];exact e3))]
  exact e3
theorem HashAt.other{w0:World}{b:Nat}{s:S8}{a:Option Addr}{n c:Nat}{k:Int}{W:World}(h:HashAt w0 b s a n c k W):∀ cur fz,W.heap[b]? ≠ some (.cells cur 5 fz):=by
 intro cur fz e
 rw[h.blk] at e
 have:275=5:=by injection e with e;injection e
 exact absurd this dX
theorem Ce{base b:Nat}{W:World}{v:Value}{bs:List UInt8}(h:OwnB base W v bs)(hne:∀ cur fz,W.heap[b]? ≠ some (.cells cur 5 fz)):some b≠v.ownBlock:=by
 intro e
 rcases h.2 with ⟨rfl,_⟩|⟨g,cap,cur,rfl,e2,e3,e4⟩
 ·simp[Value.ownBlock] at e
 ·simp[Value.ownBlock] at e
  subst e
  exact hne _ _ e3
section
variable {w:World} {ops:Array Oper} {rest:List Oper} {o:Oper} {a:Act} {Q:Exit->Act->World->Prop}
theorem LM(hgd:o.guard=none)(s x:Operand)(ho:o.op=.call { callee:=.builtin .append,args:=#[s,x],argTypes:=#[24,24] })
  (base:Nat) (v:Value) (bs:List UInt8) (hs:a.eval s=v) (hown:Hid (OwnB base w v bs))
  (ao:Option Addr) (c:Nat) (ys:List UInt8) (m:Nat) (hx:a.eval x=.slice ao m c) (hm:Hid (ys.length=m)) (hy:Hid (ArgB w ao c ys)) (hl:bs.length<=1000000) (hl2:m<=1000000) (hbase:base<=w.heap.size)
  (h:∀ v' w',Hid (OwnB base w' v' (bs++ys))->Hid (Below base w w')->Hid (w.grownBy w' v.ownBlock)->wpList Tryz.prog ops Q rest (a.put o.dst v') w') :
  wpList Tryz.prog ops Q (o::rest) a w:=by
 obtain⟨i0,hi,hz0,hz1,hz2⟩:=info_parts Tryz.infoByteP
 refine Uq hgd s x 24 ho base 5 i0 (.int .u8 0) 1 Tryz.underlying24 hi hz0 hz1 hz2 rfl v bs.length (cB bs) hs (Hd hown.out) ao m c (cB ys) hx (Hd (by rw[Ze];exact hm.out)) (Hd (At.ofB hy.out.row)) (Hd hy.out.nil) (ZI ys) c6X oX hbase ?_
 intro v' w' h1 h2
 refine h v' w' (Hd ?_) (Hd ((Below.refl base w).grown h2.out hbase (λk hk=>(World.ownsRow.lt hown.out k hk).1))) h2
 unfold OwnB
 rw[Y4,List.length_append,hm.out]
 exact h1.out
end
theorem GJ{W:World}{g off c:Nat}{l:List UInt8}(h:ArgB W (some ⟨g,off,none⟩) c l)(k:Nat)(hk:k<=l.length):ArgB W (some ⟨g,off+k,none⟩) (c-k) (l.drop k):=by
 have:=h.len
 have:=h.most
 refine⟨by rw[List.length_drop];omega,oX,(λe=>by cases e),λi hi=>?_⟩
 rw[List.length_drop] at hi
 obtain⟨b',o',e,hc⟩:=h.row (k+i) oX
 cases e
 refine⟨g,off+k,rfl,?_⟩
 rw[Nat.add_assoc,hc]
 simp[List.getD_eq_getElem?_getD,List.getElem?_drop]
theorem Ts{W:World}{g off c:Nat}{l:List UInt8}(h:ArgB W (some ⟨g,off,none⟩) c l)(k:Nat)(hk:c<=k):ArgB W (some ⟨g,off,none⟩) 0 (l.drop k):=by
 have:=h.len
 rw[List.drop_eq_nil_of_le oX]
 exact⟨Nat.le_refl _,Nat.zero_le _,(λe=>by cases e),λi hi=>by simp at hi⟩
theorem GQ{w:World}{a:Option Addr}{c:Nat}{bs:List UInt8}(h:ArgB w a c bs)(n:Nat)(hn:n<=bs.length):ArgB w a c (bs.take n):=by
 refine⟨by rw[List.length_take];have:=h.len;omega,h.most,h.nil,?_⟩
 have:=(At.ofB h.row).take n
 apply At.toB
 rw[show cB (bs.take n)=(cB bs).take n from by simp[cB]]
 exact this
theorem YC{W:World}{c b j:Nat}{v:Value}{l:List UInt8}{a:Option Addr}(hg:∀ g' off',a=some ⟨g',off',none⟩->g'≠b)(h:ArgB W a c l):ArgB (W.setCell ⟨b,j,none⟩ v) a c l:=by
 refine⟨h.len,h.most,h.nil,λi hi=>?_⟩
 obtain⟨g',o',e,hc⟩:=h.row i hi
 refine⟨g',o',e,?_⟩
 rw[World.cell?_setCell_other _ _ _ _ (λe2=>hg g' o' e (by have:=congrArg Addr.block e2;first|exact this|exact this.symm))]
 exact hc
theorem Ww{W:World}{g off c1:Nat}{l:List UInt8}(_:True)(h:ArgB W (some ⟨g,off,none⟩) c1 l)(hl:64<=l.length):ArgB W (if c1=64 then some ⟨g,off,none⟩ else some ⟨g,off+64,none⟩) (c1-64) (l.drop 64):=by
 by_cases hc:c1=64
 ·rw[if_pos hc,hc];exact Ts h 64 oX
 ·rw[if_neg hc];exact GJ h 64 hl
theorem DW{w0 W:World}{b:Nat}{s:S8}{a:Option Addr}{n c:Nat}{k:Int}(h:HashAt w0 b s a n c k W){g off c1:Nat}{l:List UInt8}(hr:ArgB W (some ⟨g,off,none⟩) c1 l)(hl:0<l.length):g≠b:=by
 rintro rfl
 obtain⟨b',o',e,hc⟩:=hr.row 0 hl
 cases e
 rw[Nat.add_zero,Za h.blk] at hc
 match off with
 | 0=>simp[QX] at hc
 | 1=>simp[QX] at hc
 | 2=>simp[QX] at hc
 | 3=>simp[QX] at hc
 | 4=>simp[QX] at hc
 | 5=>simp[QX] at hc
 | 6=>simp[QX] at hc
 | 7=>simp[QX] at hc
 | 8=>simp[QX] at hc
 | 9=>simp[QX] at hc
 | n+10=>simp[QX] at hc
def Nw(b:Nat)(w:World):Nat:=match w.cell? ⟨b,8,none⟩ with|some (.slice _ n _)=>n|_=>0
theorem GH{b:Nat}{a:Option Addr}{n c:Nat}{w:World}(h:YJ b a n c w):Nw b w=n:=by unfold Nw;unfold YJ at h;rw[h]
theorem Bn(w0:World)(b:Nat)(m:List UInt8)(a:Option Addr)(ca:Nat)(bs:List UInt8)(w:World)(hH:UD w0 b m w)(ha:ArgB w0 a ca bs)(hK:ShaK w0)(hm:m.length<=100000)(hl:bs.length<=100000) :
  Calls Tryz.prog 138 #[.pointer (some ⟨b,0,none⟩),.slice a bs.length ca] w λe w'=>e=.returned (.pointer (some ⟨b,0,none⟩))/\UD w0 b (m++bs) w':=by
 obtain⟨a1,n1,c1,hA,hO,hbb⟩:=hH
 have e8:w.cell? ⟨b,8,none⟩=some (.slice a1 n1 c1):=hA.restAt
 have e9:=hA.countAt
 have f8:=hA.free 8
 have f9:=hA.free 9
 have hA1:=Hd (hA.putCount hbb ((m.length:Int)+bs.length))
 have hO1:=Hd (hO.upd ((Upd.refl hA.blk).setCell (j:=9) (.int .i64 ((m.length:Int)+bs.length))) hA.other)
 have haW:=Hd (ha.below hA1.out.bel)
 have hml:(m.drop (64*(m.length / 64))).length<=1000000:=by rw[List.length_drop];omega
 replace ha:=Hd ha
 have hK0:=Hd hK
 have hbb:=Hd hbb
 have hsz:w0.heap.size<=(w.setCell ⟨b,9,none⟩ (.int .i64 ((m.length:Int)+bs.length))).heap.size:=hA1.out.bel.size
 have hst:=Hd (Vg Z6 m bs (m.length / 64) oX)
 have hdr:=Hd (show (m++bs).drop (64*(m.length / 64))=m.drop (64*(m.length / 64))++bs from List.drop_append_of_le_length oX)
 have hM:=Hd (show ((m++bs).length:Int)=(m.length:Int)+bs.length from by simp)
 have hMl:(m++bs).length<=200000:=by rw[List.length_append];omega
 have hq0:=Hd (show 64*(m.length / 64)<=(m++bs).length from by rw[List.length_append];omega)
 obtain⟨M,hMe⟩:∃ M,M=m++bs:=⟨_,rfl⟩
 rw[<-hMe] at hst hdr hM hMl hq0 ⊢
 replace hMe:=Hd hMe
 replace hMl:=Hd hMl
 replace hml:=Hd hml
 clear hA hO hK
 go_enter Tryz.func138,Tryz.ntmps138
 go_wp2_with (at_builtin;go_must (refine LM rfl (.tmp 18) (.tmp 19) rfl w0.heap.size _ _ rfl hO1 a ca bs _ rfl (Hd rfl) haW hml.out oX hsz ?_))
 intro v2 w2 hown2 hb2 hg2
 have hA2:HashAt w0 b (ZK Z6 M (m.length / 64)) a1 n1 c1 (M.length:Int) w2:=by
  rw[hst.out,hM.out]
  exact⟨(hg2.out.block b (Zb hA1.out.blk) (Ce hO1.out hA1.out.other)).trans hA1.out.blk,hA1.out.bel.trans hb2.out⟩
 rw[<-hdr.out] at hown2
 obtain⟨a2,c2,hv2,hR2,_⟩:=hown2.out.arg
 rw[List.length_drop] at hv2
 subst hv2
 have f82:=hA2.free 8
 have e82:w2.cell? ⟨b,8,none⟩=some (.slice a1 n1 c1):=hA2.restAt
 have hA3:=Hd (hA2.putRest hbb.out a2 (M.length-64*(m.length / 64)) c2)
 have hR3:=Hd (show ArgB (w2.setCell ⟨b,8,none⟩ (.slice a2 (M.length-64*(m.length / 64)) c2)) a2 c2 (M.drop (64*(m.length / 64))) from by
  have hO3:=hown2.out.upd ((Upd.refl hA2.blk).setCell (j:=8) (.slice a2 (M.length-64*(m.length / 64)) c2)) hA2.other
  obtain⟨a3,c3,hv,hR,_⟩:=hO3.arg
  rw[List.length_drop] at hv
  obtain⟨rfl,rfl⟩:a2=a3/\c2=c3:=by simpa using hv
  exact hR)
 clear hA1 hO1 hA2 hown2 hb2 hg2 hR2 hst hdr e8 e9 f8 f9 haW hM hsz
 obtain⟨q1,hq1⟩:∃ q,q=m.length / 64:=⟨_,rfl⟩
 rw[<-hq1] at hA3 hR3 hq0 ⊢
 clear hq1 hml
 go_wp2_with fail
 go_loopw [] (λwr=>∃ (q:Nat) (a1:Option Addr) (n1 c1:Nat),HashAt w0 b (ZK Z6 M q) a1 n1 c1 (M.length:Int) wr/\ArgB wr a1 c1 (M.drop (64*q))/\n1=M.length-64*q/\64*q<=M.length) (λwr=>Nw b wr)
 case atStart=>exact⟨q1,_,_,_,hA3.out,hR3.out,rfl,hq0.out⟩
 case round=>
  clear hA3 hR3 hq0 e82 f82
  obtain⟨q,a1,n1,c1,hA,hR,hn1,hq⟩:=hrel
  subst hn1
  have hml:=hMl.out
  have hr8:wr.cell? ⟨b,8,none⟩=some (.slice a1 (M.length-64*q) c1):=hA.restAt
  have hlen:=hR.len
  have hmost:=hR.most
  rw[List.length_drop] at hlen
  by_cases hlt:64<=M.length-64*q
  ·obtain⟨g,off,rfl,_⟩:=hR.row 0 c3X
   obtain⟨r0,r1,r2,r3,r4,r5,r6,r7⟩:=hA.words
   have hS0:YJ b (some ⟨g,off,none⟩) (M.length-64*q) c1 wr.drew:=hr8
   have hta:=λW (h:ArgB W (some ⟨g,off,none⟩) c1 ((M.drop (64*q)).take 64)) (h2:ShaK W)=>GN (ZK Z6 M q) (some ⟨g,off,none⟩) c1 ((M.drop (64*q)).take 64) W h (by rw[List.length_take,List.length_drop];omega) h2
   simp only[MM] at hta
   replace hta:=Hd hta
   have hag:ArgB wr (some ⟨g,off,none⟩) c1 ((M.drop (64*q)).take 64):=GQ hR 64 c3X
   have hcl:(64:Int)<=((M.length-64*q:Nat):Int):=oX
   have hcc:(64:Int)<=(c1:Int):=oX
   have hI:=Hd (show HashAt w0 b (ZK Z6 M q) (some ⟨g,off,none⟩) (M.length-64*q) c1 (M.length:Int) wr.drew from⟨hA.blk,hA.bel.trans (Drawn.below ⟨1,rfl⟩ _)⟩)
   have hK1:=Hd (show ShaK wr.drew from hK0.out.below hI.out.bel)
   replace hag:=Hd (show ArgB wr.drew (some ⟨g,off,none⟩) c1 ((M.drop (64*q)).take 64) from hag.below (Drawn.below ⟨1,rfl⟩ _))
   have hgb:=Hd trivial
   have hgb1:=DW hA hR c3X
   have hgb7:=Hd (show ∀ g' off',(if c1=64 then some (⟨g,off,none⟩:Addr) else some ⟨g,off+64,none⟩)=some ⟨g',off',none⟩->g'≠b from by
    intro g' off' e
    split at e<;>(cases e;exact hgb1))
   have hr9:=Hd (show YJ b (some ⟨g,off,none⟩) (M.length-64*q) c1 wr from hr8)
   replace hR:=Hd (hR.below (w':=wr.drew) (Drawn.below ⟨1,rfl⟩ _))
   clear hgb1
   obtain⟨n1,hn1⟩:∃ n,n=M.length-64*q:=⟨_,rfl⟩
   rw[<-hn1] at hr8 hS0 hI hcl hlt
   replace hn1:=Hd hn1
   have hrc:∀ W,YJ b (some ⟨g,off,none⟩) n1 c1 W->W.cell? ⟨b,8,none⟩=some (.slice (some ⟨g,off,none⟩) n1 c1):=λ_ h=>h
   go_wp2_with fail
   refine wp_region_held_drew (S:=YJ b (some ⟨g,off,none⟩) n1 c1) kX hS0 (λhOn=>?_)
   refine tk 0 hOn ?_
   refine tk 1 hOn ?_
   refine tk 2 hOn ?_
   refine tk 3 hOn ?_
   refine tk 5 hOn ?_
   refine tk 6 hOn ?_
   refine tk 7 hOn ?_
   refine tk 8 hOn ?_
   refine tk 9 hOn ?_
   refine rds [4] ?_
   refine AllReadyH.cons c2X (λK hK=>?_) AllReadyH.nil
   go_simp
   refine hK.out _ _ hS0 (λhNext=>?_)
   clear hK K hOn
   have hOn:=hNext
   clear hNext
   try simp only[Act.put,sL,sZ,sS]
   refine rds [10] ?_
   refine AllReadyH.cons c2X (λK hK=>?_) AllReadyH.nil
   go_simp
   with_reducible refine(hta.out _ hag.out hK1.out).mono ?_
   rintro e w4 ⟨rfl,hd⟩
   have hI4:=Hd (hI.out.grown hd)
   replace hR:=Hd (hR.out.below hd)
   have hS4:=hI4.out.restAt
   clear hd
   go_wp2_with fail
   refine hK.out _ _ hS4 (λhNext=>?_)
   clear hS4
   clear hK K hOn
   have hOn:=hNext
   clear hNext
   try simp only[Act.put,sL,sZ,sS]
   refine tk 11 hOn ?_
   refine tk 12 hOn ?_
   refine rds [13] ?_
   refine AllReadyH.cons c2X (λK hK=>?_) AllReadyH.nil
   obtain⟨g0,g1,g2,g3,g4,g5,g6,g7⟩:=hI4.out.words
   have f0:=hI4.out.free 0
   have f1:=hI4.out.free 1
   have f2:=hI4.out.free 2
   have f3:=hI4.out.free 3
   have f4:=hI4.out.free 4
   have f5:=hI4.out.free 5
   have f6:=hI4.out.free 6
   have f7:=hI4.out.free 7
   have hI6:=Hd (hI4.out.put8 hbb.out (Q5 (ZK Z6 M q) ((M.drop (64*q)).take 64)))
   have hS6:=hI6.out.restAt
   go_simp
   refine hK.out _ _ hS6 (λhNext=>?_)
   clear hS6
   clear hK K hOn
   have hOn:=hNext
   clear hNext
   try simp only[Act.put,sL,sZ,sS]
   refine dnE ?_
   clear g0 g1 g2 g3 g4 g5 g6 g7 f0 f1 f2 f3 f4 f5 f6 f7 hI4
   have r8:=hI6.out.restAt
   unfold YJ at r8
   have f8:=hI6.out.free 8
   clear hrc hr8 hS0 hta r0 r1 r2 r3 r4 r5 r6 r7
   go_wp2_with fail
   have hI7:=Hd (hI6.out.putRest hbb.out (if c1=64 then some ⟨g,off,none⟩ else some ⟨g,off+64,none⟩) (n1-64) (c1-64))
   have hR7:=Hd (Ww hgb.out hR.out (by rw[List.length_drop];have:=hn1.out;omega))
   have hnn:=hn1.out
   rw[List.drop_drop] at hR7
   refine⟨⟨q+1,_,_,_,hI7.out,YC hgb7.out (YC hgb7.out (YC hgb7.out (YC hgb7.out (YC hgb7.out (YC hgb7.out (YC hgb7.out (YC hgb7.out (YC hgb7.out ?_)))))))),oX,oX⟩,?_⟩
   ·exact hR7.out
   ·rw[GH hI7.out.restAt,GH hr9.out]
    omega
  ·have hq64:q=M.length / 64:=oX
   have hI:=Hd hA
   have hcl:=XM a1 c1 (M.drop (64*q)) wr hR c3X
   rw[List.length_drop] at hcl
   replace hcl:=Hd hcl
   replace hR:=Hd hR
   obtain⟨n1,hn1⟩:∃ n,n=M.length-64*q:=⟨_,rfl⟩
   rw[<-hn1] at hr8 hI hcl hlt
   replace hn1:=Hd hn1
   have hlt2:(n1:Int)<64:=oX
   go_wp2_with fail
   with_reducible refine hcl.out.mono ?_
   rintro e w5 ⟨v,rfl,ho,hd⟩
   have hI5:=hI.out.grown hd
   have hne5:=hI5.other
   obtain⟨a5,c5,hv,_,_⟩:=ho.arg
   rw[List.length_drop,<-hn1.out] at hv
   subst hv
   have r8:w5.cell? ⟨b,8,none⟩=some (.slice a1 n1 c1):=hI5.restAt
   have f8:=hI5.free 8
   have ho6:=Hd ((ho.mono (base':=w0.heap.size) hI.out.bel.size).upd ((Upd.refl hI5.blk).setCell (j:=8) (.slice a5 n1 c5)) hne5)
   have hI6:=Hd (hI5.putRest hbb.out a5 n1 c5)
   clear ho hd hcl hne5
   go_wp2_with fail
   go_ret
   refine⟨rfl,a5,n1,c5,?_,?_,hbb.out⟩
   ·rw[<-hq64];exact hI6.out
   ·rw[<-hq64];exact ho6.out
open Go.RowKit Go.Shelf
attribute [local go_sem] Oper.semAt_some
def KeepC(n₀ Bs Ns:Nat)(W W':World):Prop:=Below n₀ W W'/\W'.heap[Bs]? = W.heap[Bs]? /\ W'.heap[Ns]? = W.heap[Ns]?
theorem KeepC.refl(n₀ Bs Ns:Nat)(W:World):KeepC n₀ Bs Ns W W:=⟨Below.refl _ _,rfl,rfl⟩
theorem Ub{n₀ Bs Ns:Nat}{A B C:World}(h:KeepC n₀ Bs Ns A B)(k:KeepC n₀ Bs Ns B C):KeepC n₀ Bs Ns A C:=⟨h.1.trans k.1,k.2.1.trans h.2.1,k.2.2.trans h.2.2⟩
theorem GO(n₀ Bs Ns:Nat)(W:World):KeepC n₀ Bs Ns W W.drew:=⟨(Below.refl _ W).drew,rfl,rfl⟩
theorem BK{n₀ Bs Ns:Nat}{w:World}(hn:n₀<=w.heap.size)(hB:Bs<w.heap.size)(hN:Ns<w.heap.size)(W:World)(l:Nat)(o o':Obj)(hl:w.heap.size<=l)(h:W.heap[l]? = some o)(h1:o.isCells=false)(h2:o.isWalk=false):KeepC n₀ Bs Ns W (W.putObj l o'):=
 ⟨belowK_b hn W l o o' hl h h1 h2,World.putObj_heap_other oX,World.putObj_heap_other oX⟩
theorem WO(F:Fence)(n:Nat)(h7:F.fn 178)(hro:F.round=none)(hn:1<=n)(l Bs Ns n₀ g off cap q:Nat)(hq:64*q<=cap)(hcap:q<=10000)(J Jx:List Nat->World->Prop)(hJd:∀ pre W,J pre W->J pre W.drew)
  (hY:∀ pre x W,J pre W->pre.length<q->x<q->YieldAt F (n-1) Tryz.prog l #[.slice (some ⟨g,off+64*x,none⟩) 64 64] W λe W'=>
   (e=.returned (.bool true)/\J (pre++[x]) W'/\KeepC n₀ Bs Ns W W')\/(e=.returned (.bool false)/\Jx (pre++[x]) W'))
  (W:World) (hBs:Boxed W Bs 24 (.slice (some ⟨g,off,none⟩) (64*q) cap)) (hNs:Boxed W Ns 3 (.int .i64 64)) (h0:J [] W) :
  CallsIn F n Tryz.prog 178 #[.func (.yield l) #[] #[],.pointer (some ⟨Bs,0,none⟩),.pointer (some ⟨Ns,0,none⟩)] W λe W'=>(∃ v,e=.returned v)/\
   ((∃ ys,ys=upto (λk=>k) q/\J ys W')\/(∃ pre,(∃ k,k<=q/\pre=upto (λk=>k) k)/\Jx pre W')):=by
 refine callsIn_of_wp Tryz.func178 rfl h7 ?_ hro
 simp only[Tryz.ntmps178,List.size_toArray,List.length_cons,List.length_nil,Nat.reduceAdd,Nat.reduceSub,Array.replicate_succ,Array.replicate_zero,List.push_toArray,List.append_toArray,List.nil_append,List.cons_append]
 gi_wp2
 gi_loopw [4,5] (λi _ wr=>∃ k:Nat,k<=q/\i=.int .i64 ((64*k:Nat):Int)/\J (upto (λk=>k) k) wr/\KeepC n₀ Bs Ns W wr)
  (λi _ _=>64*q-(intOf i).toNat)
 case atStart=>exact⟨0,Nat.zero_le _,rfl,h0,KeepC.refl _ _ _ _⟩
 case round=>
  obtain⟨k,hk,rfl,hJs,hnx⟩:=hrel
  have hBx:=(show Boxed wr Bs 24 (.slice (some ⟨g,off,none⟩) (64*q) cap) from hnx.2.1.trans hBs).cell
  have hNx:=(show Boxed wr Ns 3 (.int .i64 64) from hnx.2.2.trans hNs).cell
  by_cases hlt:k<q
  ·obtain⟨fn,tmps,assign,body,hy,hR⟩:=hY _ k wr.drew (hJd _ _ hJs) (by rw[Tl];omega) hlt
   obtain⟨K,hK⟩:∃ K,K=64*k:=⟨_,rfl⟩
   obtain⟨Q,hQ⟩:∃ Q,Q=64*q:=⟨_,rfl⟩
   rw[<-hQ] at hBx
   rw[<-hK]
   rw[<-hK] at hy
   have k1:(K:Int)<(Q:Int):=oX
   have k2:K+64<=Q:=oX
   have k3:(64:Int)<=(Q:Int)-(K:Int):=oX
   have k4:(0:Int)<=(K:Int):=oX
   have k5:(K:Int)<=(Q:Int):=oX
   have k6:(K:Int)+64<=(cap:Int):=oX
   have k7:=IntWalk.i64_in ((K:Int)+64) oX
   have k8:(64:Int)<=((Q-K:Nat):Int):=oX
   have k10:¬(cap=K):=oX
   have k9:((K:Int)+64).toNat-K=64:=oX
   replace hK:=Hd hK
   replace hQ:=Hd hQ
   gi_wp2
   gi_region
   all_goals gi_wp2
   all_goals (refine hR.mono ?_)
   all_goals (rintro e W3 (⟨rfl,hJ3,hk3⟩|⟨rfl,hJx3⟩))
   all_goals (try (have hN3:=(show Boxed W3 Ns 3 (.int .i64 64) from hk3.2.2.trans (hnx.2.2.trans hNs)).cell))
   all_goals gi_wp2
   all_goals (try (refine bodyPost_ret (results_none rfl _ _ _) rfl ⟨⟨_,rfl⟩,.inr ⟨_,⟨k+1,oX,by rw[VC]⟩,hJx3⟩⟩))
   all_goals (try go_roundw)
   any_goals (case rel=>exact⟨k+1,oX,by rw[hK.out];go_num,by rw[VC];exact hJ3,Ub hnx (Ub (GO n₀ Bs Ns wr) hk3)⟩)
   any_goals (case measure=>(have:=hK.out;have:=hQ.out;simp[intOf];omega))
   all_goals exact⟨⟨k+1,oX,by rw[hK.out];go_num,by rw[VC];exact hJ3,Ub hnx (Ub (GO n₀ Bs Ns wr) hk3)⟩,by have:=hK.out;have:=hQ.out;simp[intOf];omega⟩
  ·obtain rfl:k=q:=oX
   gi_wp2
   go_end0
   exact⟨⟨_,rfl⟩,.inl ⟨_,rfl,hJs⟩⟩
attribute [local go_sem] Oper.semAt_some
theorem Dc(F:Fence)(n:Nat)(h5:F.fn 166)(hro:F.round=none)(a:Option Addr)(len cap:Nat)(w:World) :
  CallsIn F n Tryz.prog 166 #[.slice a len cap,.int .i64 64] w λe w'=>e=.returned (.func (.func 178) #[] #[.pointer (some ⟨w.heap.size,0,none⟩),.pointer (some ⟨w.heap.size+1,0,none⟩)])/\
   w'=(w.alloc (.cells #[.slice a len cap] 24)).alloc (.cells #[.int .i64 64] 3):=by
 refine callsIn_of_wp Tryz.func166 rfl h5 ?_ hro
 simp only[Tryz.ntmps166,List.size_toArray,List.length_cons,List.length_nil,Nat.reduceAdd,Nat.reduceSub,Array.replicate_succ,Array.replicate_zero,List.push_toArray,List.append_toArray,List.nil_append,List.cons_append]
 gi_wp2
 go_ret
 exact⟨rfl,rfl⟩
theorem Te(F:Fence)(n:Nat)(h8:F.fn 178)(hro:F.round=none)(hn:1<=n)(Bs Ns n₀ g off cap q:Nat)(hq:64*q<=cap)(hcap:q<=10000)(w:World)
  (hB:Boxed w Bs 24 (.slice (some ⟨g,off,none⟩) (64*q) cap)) (hN:Boxed w Ns 3 (.int .i64 64)) :
  SeqStopsK F n Tryz.prog 178 #[.pointer (some ⟨Bs,0,none⟩),.pointer (some ⟨Ns,0,none⟩)] (λx:Fin q=>#[Value.slice (some ⟨g,off+64*x.val,none⟩) 64 64]) (KeepC n₀ Bs Ns) (λys=>ys.map Fin.val=upto (λk=>k) q)
   (λ_=>True) q w:=by
 intro l J Jx W hW hJ _ hY h0
 refine(WO F n h8 hro hn l Bs Ns n₀ g off cap q hq hcap (λns W=>∃ fs:List (Fin q),fs.map Fin.val=ns/\J fs W) (λns W=>∃ fs:List (Fin q),fs.map Fin.val=ns/\Jx fs W)
  (λpre W h=>?_) ?_ W ((hW.block Bs hB.lt).trans hB) ((hW.block Ns hN.lt).trans hN) ⟨[],rfl,h0⟩).mono ?_
 ·obtain⟨fs,h1,h2⟩:=h
  exact⟨fs,h1,hJ fs W W.drew none h2 ⟨rfl,rfl,rfl,Nat.le_refl _,λ_ _ _=>rfl⟩ (λr e=>by cases e)⟩
 ·rintro pre x W1 ⟨fs,h1,h2⟩ hl hx
  obtain⟨fn,tmps,assign,body,hy,hR⟩:=hY fs ⟨x,hx⟩ W1 h2 (by rw[<-h1,List.length_map] at hl;exact hl)
  refine⟨fn,tmps,assign,body,hy,hR.mono ?_⟩
  rintro e W' (⟨e1,e2,e3⟩|⟨e1,e2⟩)
  ·exact .inl ⟨e1,⟨fs++[⟨x,hx⟩],by rw[List.map_append,h1];rfl,e2⟩,e3⟩
  ·exact .inr ⟨e1,⟨fs++[⟨x,hx⟩],by rw[List.map_append,h1];rfl,e2⟩⟩
 ·rintro e W' ⟨hv,(⟨ys,rfl,fs,h1,h2⟩|⟨pre,_,fs,_,h2⟩)⟩
  ·exact⟨hv,.inl ⟨fs,h1,h2⟩⟩
  ·exact⟨hv,.inr ⟨fs,trivial,h2⟩⟩
def Jp(s:S8)(m:List UInt8)(ns:List Nat):S8:=ns.foldl (λs x=>Q5 s ((m.drop (64*x)).take 64)) s
theorem Gq(s:S8)(m:List UInt8)(ns:List Nat)(x:Nat):Jp s m (ns++[x])=Q5 (Jp s m ns) ((m.drop (64*x)).take 64):=by simp[Jp]
theorem GR(s:S8)(m:List UInt8):∀ q,Jp s m (upto (λk=>k) q)=ZK s m q
 | 0=>rfl
 | q+1=>by rw[VC,Gq,GR s m q,ZK]
end Go.Proofs.YtpdhceiodgnbmaaGreatDoor
