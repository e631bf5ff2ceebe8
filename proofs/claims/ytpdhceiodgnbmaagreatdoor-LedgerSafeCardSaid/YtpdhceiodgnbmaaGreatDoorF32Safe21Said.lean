import Derived.Test.YtpdhceiodgnbmaaGreatDoorF0Safe21Said
import Derived.Test.YtpdhceiodgnbmaaGreatDoorF1Safe21Said
import Derived.Test.YtpdhceiodgnbmaaGreatDoorF31Safe21Said
import Derived.Test.YtpdhceiodgnbmaaGreatDoorF15Safe21Said
import Derived.Test.YtpdhceiodgnbmaaGreatDoorF19Safe21Said
import Derived.Test.YtpdhceiodgnbmaaGreatDoorF23Safe21Said
import Derived.Test.YtpdhceiodgnbmaaGreatDoorF28Safe21Said
import Derived.Test.YtpdhceiodgnbmaaGreatDoorF8Safe21Said
set_option linter.unusedVariables false
set_option linter.unusedSimpArgs false
set_option linter.unnecessarySimpa false
set_option maxRecDepth 100000
set_option maxHeartbeats 8000000
namespace Go.Proofs.YtpdhceiodgnbmaaGreatDoor
open Go.RowKit
theorem SafeD.end60{p:DP}{all:List (List UInt8)}{sure:Nat}(h:SafeD p all sure)(a b:Int)(s:Nat) :
  sure<=(Z1 (p.crash a b s)).length/\(Yh (Z1 (p.crash a b s)) all=true\/XU z32J (Z1 (p.crash a b s)) all=true):=by
 have hB:=h.inv.crash a b s
 have hn:(p.crash a b s).n=((60:Nat):Int):=h.n
 obtain⟨hl,hx⟩:=hB.all hn
 exact WD all z32J (Z7 (p.crash a b s)) sure h.le h.okR (by have:=h.fit;omega) (λx hx2=>by
  obtain⟨h1,h2⟩:=hx x oX
  exact⟨h1,h2⟩)
theorem Mb:∀ (ps qs:List (List UInt8)),Yh ps qs=true->ps=qs.take ps.length
 | [],_,_=>by simp
 | p::ps,[],h=>by simp[Yh] at h
 | p::ps,q::qs,h=>by
  rw[Yh,Bool.and_eq_true,beq_iff_eq] at h
  rw[List.length_cons,List.take_succ_cons,h.1,<-Mb ps qs h.2]
theorem M0:∀ (ps qs:List (List UInt8)),Yh ps qs=true->ps.length<=qs.length
 | [],_,_=>Nat.zero_le _
 | p::ps,[],h=>by simp[Yh] at h
 | p::ps,q::qs,h=>by
  rw[Yh,Bool.and_eq_true] at h
  have:=M0 ps qs h.2
  simp only[List.length_cons]
  omega
theorem Po{p:DP}{recs:List (List UInt8)}{sure:Nat}(h:SafeA p recs sure)(hw:p.ws=[])(a b:Int)(s:Nat):Z1 (p.crash a b s)=recs:=
 JJ (n:=60) (Wb h.inv.ok hw a b s) h.n (HQ h.sh hw a b s) h.fit h.okR
theorem TU{p:DP}{rcs:List Rc}{x:Rc}(hf:XW ⟨[],[]⟩ rcs)(hx:x.Ok)(hxf:(Zi (Qx ⟨[],[]⟩ rcs) x).2=0)(hD:SafeD p (rcs.map Rc.out++[x.out]) rcs.length)(a b:Int)(s:Nat)(w:World)(ea:Nat->Addr)(H:Errs 298 errGs w ea) :
  (Yh (Z1 (p.crash a b s)) (rcs.map Rc.out++[x.out])=true/\(Z5 ⟨[],[]⟩ (Z1 (p.crash a b s))).2=0/\((Z5 ⟨[],[]⟩ (Z1 (p.crash a b s))).1=Qx ⟨[],[]⟩ rcs\/(Z5 ⟨[],[]⟩ (Z1 (p.crash a b s))).1=(Zi (Qx ⟨[],[]⟩ rcs) x).1))\/
  (Yh (Z1 (p.crash a b s)) (rcs.map Rc.out++[x.out])=false/\XU z32J (Z1 (p.crash a b s)) (rcs.map Rc.out++[x.out])=true):=by
 obtain⟨h1,h2⟩:=hD.end60 a b s
 generalize Z1 (p.crash a b s)=rd at*
 cases hb:Yh rd (rcs.map Rc.out++[x.out]) with
 | false=>rw[hb] at h2;exact .inr ⟨rfl,h2.resolve_left sX⟩
 | true=>
  refine .inl ⟨rfl,?_⟩
  have ht:=Mb _ _ hb
  have hl:=M0 _ _ hb
  rw[List.length_append,List.length_map,List.length_singleton] at hl
  rcases(show rd.length=rcs.length\/rd.length=rcs.length+1 by omega) with hlen|hlen
  ·rw[hlen,List.take_append_of_le_length sX,List.take_of_length_le sX] at ht
   rw[ht,JG w ea H rcs _ hf]
   exact⟨rfl,.inl rfl⟩
  ·rw[hlen,List.take_of_length_le sX] at ht
   have he:rcs.map Rc.out++[x.out]=(rcs++[x]).map Rc.out:=by rw[List.map_append];rfl
   rw[ht,he,JG w ea H (rcs++[x]) _ (Jo _ _ _ hf hx hxf),Jt]
   exact⟨rfl,.inr rfl⟩
theorem JY(m:St):XO m m=true:=by unfold XO;rw[decide_eq_true rfl,decide_eq_true rfl];rfl
structure SBox (w:World) (l:Nat) (V:LV) (b n0:Nat) (m:St):Prop where
 ex:∃ sI sE,w.heap[b]? = some (.cells #[sI,sE] 28 (0,0))/\ArgS w (.agg #[sI,sE]) m/\∀ k,SD sI sE k->¬LdD l V k/\k≠b/\n0<=k
 ap:¬LdD l V b
theorem SBox.step{base:Nat}{w w':World}{l:Nat}{V V':LV}{P':LP}{b n0:Nat}{m:St}(h:SBox w l V b n0 m)(hs:LStep base w w' l V V' P'):SBox w' l V' b n0 m:=by
 obtain⟨sI,sE,h1,h2,h3⟩:=h.ex
 have hap:∀ k,k<w.heap.size->¬LdD l V k->¬LdD l V' k:=λk hk hn hd=>(hs.new k hd).elim hn (λq=>by omega)
 exact⟨⟨sI,sE,hs.only.heap h1 h.ap,h2.only hs.only (λk hk=>(h3 k hk).1),λk hk=>⟨hap k (h2.sd_lt k hk) (h3 k hk).1,(h3 k hk).2⟩⟩,hap b (Zb h1) h.ap⟩
theorem SBox.below{w w':World}{l:Nat}{V:LV}{b n0:Nat}{m:St}(h:SBox w l V b n0 m)(hb:Below w.heap.size w w'):SBox w' l V b n0 m:=by
 obtain⟨sI,sE,h1,h2,h3⟩:=h.ex
 exact⟨⟨sI,sE,(hb.block _ (Zb h1)).trans h1,h2.below hb nR,h3⟩,h.ap⟩
theorem SBox.lt{w:World}{l:Nat}{V:LV}{b n0:Nat}{m:St}(h:SBox w l V b n0 m):b<w.heap.size:=by
 obtain⟨sI,sE,h1,_⟩:=h.ex
 exact Zb h1
theorem SBox.new{base:Nat}{w w1 w2 w3:World}{l:Nat}{V:LV}{P:LP}{b n0:Nat}{m m':St}{v v':Value}(hL:LdM base w l V P)(h:SBox w l V b n0 m)(hn0:n0<=w.heap.size)(h12:Below w.heap.size w w1)(hI:RowsOf RI 58 76 w.heap.size w1 (λ_=>False) v m'.its)(hE:RowsOf RE 66 7 w.heap.size w1 (λ_=>False) v' m'.ens)(h2:Below w1.heap.size w1 w2)(hU:Upd b (.cells #[v,v'] 28 (0,0)) w2 w3):SBox w3 l V b n0 m':=by
 have hb:=h.lt
 obtain⟨a4,c4,rfl,r4,r4a,r4b,ok4⟩:=Ge hI
 obtain⟨a5,c5,rfl,r5,r5a,r5b,ok5⟩:=Gg hE
 have hA1:ArgS w1 (.agg #[.slice a4 m'.its.length c4,.slice a5 m'.ens.length c5]) m':=⟨⟨a4,c4,a5,c5,rfl,r4,r4a,r4b,r5,r5a,r5b⟩,ok4,ok5⟩
 have hfr:=XQ hI hE nR nR
 have hsd:∀ k,SD (.slice a4 m'.its.length c4) (.slice a5 m'.ens.length c5) k->w.heap.size<=k:=λk hk=>hfr.sd hA1 k hk
 exact⟨⟨_,_,hU.here,(hA1.below h2 nR).only (Only.ofUpd (D:=λk=>k=b) hU rfl) (λk hk e=>by have:=hsd k hk;omega),λk hk=>⟨λhd=>by have:=(hL.lt k hd).2;have:=hsd k hk;omega,by have:=hsd k hk;omega,by have:=hsd k hk;omega⟩⟩,h.ap⟩
structure SLp (base:Nat) (w3 wr:World) (l B bT bN k:Nat) (cnt:Value):Prop where
 ex:∃ V P rcs,LdM base wr l V P/\V.B=B/\LInv P rcs/\SafeA P.p P.recs P.sure/\P.sure=P.recs.length/\P.p.ws=[]/\SBox wr l V bT (bN+1) P.m/\(∃ C:Array Value,C.size=81/\wr.heap[bN]? = some (.cells C 80 (0,0)))/\¬LdD l V bN/\cnt=.int .i64 (rcs.length:Nat)/\V.mn<=20000+434*k /\ -(435*(k:Int))<=P.p.l/\P.p.l<=100/\rcs.length<=k
 bel:Below base w3 wr
structure SLe (base:Nat) (w3 wr:World) (l B bT bN:Nat) (cnt:Value):Prop where
 ex:∃ V P rcs,LdM base wr l V P/\V.B=B/\XW ⟨[],[]⟩ rcs/\SBox wr l V bT (bN+1) (Qx ⟨[],[]⟩ rcs)/\cnt=.int .i64 (rcs.length:Nat)/\V.mn<=40000 /\ -20000<=P.p.l/\P.p.l<=100/\rcs.length<=30/\P.p.ws.length<=434/\P.p.n=60/\
  ((P.dead=false/\P.recs=rcs.map Rc.out/\SafeA P.p P.recs P.sure/\P.p.ws=[])\/
  (P.dead=true/\∃ (x:Rc) (a:ActL),a.Ok/\Yx (Qx ⟨[],[]⟩ rcs) a=some x/\x.Ok/\(Zi (Qx ⟨[],[]⟩ rcs) x).2=0/\Zh (rcs.map Rc.out)+(34+x.out.length)<=3840/\(P.recs=rcs.map Rc.out\/P.recs=rcs.map Rc.out++[x.out])/\SafeD P.p (rcs.map Rc.out++[x.out]) rcs.length/\wr.heap[bN]? = some (.cells a.list.toArray 80 (0,0))/\¬LdD l V bN))
 bel:Below base w3 wr
theorem SLp.end_{base:Nat}{w3 wr:World}{l B bT bN k:Nat}{cnt:Value}(h:SLp base w3 wr l B bT bN k cnt)(hk:k<=30):SLe base w3 wr l B bT bN cnt:=by
 obtain⟨V,P,rcs,h1,h2,h3,h4,h5,h6,h7,h8,h9,h10,h11,h12,h13,h14⟩:=h.ex
 exact⟨⟨V,P,rcs,h1,h2,h3.fol,by rw[<-h3.m];exact h7,h10,oX,oX,h13,oX,by rw[h6];exact Nat.zero_le _,h4.n,.inl ⟨h3.dead,h3.recs,h4,h6⟩⟩,h.bel⟩
structure KLp (b2:Nat) (w2 wr:World) (l3:Nat) (rcs:List Rc):Prop where
 ex:∃ V P,LdM b2 wr l3 V P/\LInv P rcs/\Good P.p 60 P.recs/\Zh P.recs<=3840/\V.mn<=20000+500*rcs.length /\ -(500*(rcs.length:Int))<=P.p.l/\P.p.l<=100
 bel:Below b2 w2 wr
theorem KLp.new{b2:Nat}{w2 wr:World}{l3:Nat}{V:LV}(h:LdM b2 wr l3 V (LP.new 60))(hm:V.mn<=20000)(hb:Below b2 w2 wr):KLp b2 w2 wr l3 []:=by
 have he:Zh (LP.new 60).recs<=3840:=by
  show Zh []<=3840
  decide
 have hp1:(LP.new 60).p.l=0:=rfl
 refine⟨⟨V,LP.new 60,h,⟨rfl,rfl,trivial,rfl,rfl,rfl,Nat.zero_le _⟩,Gk 60,he,?_,?_,?_⟩,hb⟩
 ·rw[List.length_nil];omega
 ·rw[hp1,List.length_nil];omega
 ·rw[hp1];omega
theorem KLp.next{b2:Nat}{w2 wr w':World}{l3:Nat}{V V':LV}{P:LP}{rcs:List Rc}{x:Rc}{p':DP}{recs':List (List UInt8)}{sure':Nat}{dead':Bool}(hL:LdM b2 wr l3 V P)(hI:LInv P rcs)(h1:V.mn<=20000+500*rcs.length)(h2 : -(500*(rcs.length:Int))<=P.p.l)(h3:P.p.l<=100)(hb:Below b2 w2 wr)(hb2:b2<=wr.heap.size)(hlt:rcs.length<100)
  (hro:ROg V P 60 x V'.mn p' recs' sure' dead') (hs:LStep b2 wr w' l3 V V' ⟨p',recs',sure',dead',P.n+1,Qc P.n P.ps x.out,(Zi P.m x).1⟩):KLp b2 w2 w' l3 (rcs++[x]):=by
 obtain⟨r1,r2,r3,r4,r5,r6,r7,r8,r9,r10,r11⟩:=hro
 have hl:(rcs++[x]).length=rcs.length+1:=by rw[List.length_append];rfl
 refine⟨⟨V',_,hs.ok,hI.next r10 r11 hlt r4 r5 rfl rfl rfl,r7,?_,oX,?_,?_⟩,hb.trans (hs.below hL hb2)⟩
 ·show Zh recs'<=3840
  rw[r5,QK]
  omega
 ·show -(500*((rcs++[x]).length:Int))<=p'.l
  omega
 ·show p'.l<=100
  omega
theorem M4(l:List (List UInt8))(k:Nat)(hk:k<l.length):Zh (l.take k)+(34+(l.getD k []).length)<=Zh l:=by
 have h1:=Jz l (k+1)
 rw[List.take_add_one,List.getElem?_eq_getElem hk,Option.toList_some,QK] at h1
 rw[List.getD_eq_getElem?_getD,List.getElem?_eq_getElem hk]
 exact h1
theorem N2:∀ (xs:List Rc) (m:St) (k:Nat) (hk:k<xs.length),XW m xs->(xs[k]).Ok/\(Zi (Qx m (xs.take k)) xs[k]).2=0
 | x::xs,m,0,_,h=>⟨h.1,h.2.1⟩
 | x::xs,m,k+1,hk,h=>N2 xs _ k (by simpa using hk) h.2.2
theorem BU{base:Nat}{w:World}{l:Nat}{V:LV}{P:LP}(h:LdM base w l V P)(s:ByteArray)(q:P6)(root file:List UInt8)(t:Int)(h1:root.length=32)(h2:file.length=32)(Q:World->Ending->World->Prop)(hQ:∀ W e w',Q W e w'->e=.returned .nilIface)(hput:∀ W,Below w.heap.size w W->Calls Tryz.prog 81 #[.pointer (some ⟨l,0,none⟩),.agg (X6 (P.m.its.length:Int) s q root file t).list.toArray] W (Q W)) :
  Calls Tryz.prog 36 #[.pointer (some ⟨l,0,none⟩),.string s,.agg q.list.toArray,.agg (cB root).toArray,.agg (cB file).toArray,.int .i64 t] w (λe w'=>e=.returned (.tuple #[.int .i64 (P.m.its.length:Int),.nilIface])/\∃ W,Below w.heap.size w W/\Q W (.returned .nilIface) w'):=by
 have hbd:=Hd (λ(n:Int) W=>Kk n s q root file t h1 h2 W)
 have iP:(Tryz.prog.info? 45).map (·.size)=some q.list.toArray.size:=kX
 have iR:(Tryz.prog.info? 47).map (·.size)=some (cB root).toArray.size:=by rw[List.size_toArray,Ze,h1];kernel_rfl
 have iF:(Tryz.prog.info? 47).map (·.size)=some (cB file).toArray.size:=by rw[List.size_toArray,Ze,h2];kernel_rfl
 generalize q.list.toArray=PA at*
 generalize (cB root).toArray=RA at*
 generalize (cB file).toArray=FA at*
 obtain⟨a4,c4,a5,c5,hsh⟩:=h.st.shape
 simp only[Value.agg.injEq,Array.mk.injEq,List.cons.injEq,and_true] at hsh
 obtain⟨hsI,hsE⟩:=hsh
 obtain⟨b8,b9,b10,hs3,hB⟩:=ZV w PA RA FA 45 47 47 _ rfl
 obtain⟨w1,hw1⟩:∃ w1,w1=((w.alloc (.cells PA 45)).alloc (.cells RA 47)).alloc (.cells FA 47):=⟨_,rfl⟩
 rw[<-hw1] at b8 b9 b10 hs3 hB
 have hl1:=h.below hB
 obtain⟨N,hN⟩:∃ N,N=P.m.its.length:=⟨_,rfl⟩
 have c1:w1.cell? ⟨l,1,none⟩=some (.slice a4 N c4):=by rw[Za hl1.at_,hN,<-hsI];rfl
 rw[<-hN] at hput ⊢
 obtain⟨X,hX⟩:∃ X,X=(X6 (N:Int) s q root file t).list.toArray:=⟨_,rfl⟩
 have hbN:=Hd (λW=>hbd.out (N:Int) W)
 rw[<-hX] at hput hbN
 replace hput:=Hd hput
 replace hX:=Hd hX
 replace hw1:=Hd hw1
 replace b8:=Hd b8
 replace b9:=Hd b9
 replace b10:=Hd b10
 replace hB:=Hd hB
 replace hN:=Hd hN
 clear h hl1 hs3 hsI hsE h1 h2
 go_enter Tryz.func36,Tryz.ntmps36
 go_upto_region 1 with fail
 rw[<-hw1.out]
 go_wp2_with (first
  | ((with_reducible refine wL (.load 45 (.tmp 8)) ?_);refine Zd rfl 45 (.tmp 8) rfl w.heap.size PA _ rfl b8 Tryz.underlying45 rfl iP ?_)
  | ((with_reducible refine wL (.load 47 (.tmp 9)) ?_);refine Zd rfl 47 (.tmp 9) rfl (w.heap.size+1) RA _ rfl b9 Tryz.underlying47 rfl iR ?_)
  | ((with_reducible refine wL (.load 47 (.tmp 10)) ?_);refine Zd rfl 47 (.tmp 10) rfl (w.heap.size+2) FA _ rfl b10 Tryz.underlying47 rfl iF ?_)
  | ((with_reducible refine wL (.build 49 _) ?_);refine Z3 rfl 49 [(0,.const (.int .i64 1)),(1,.tmp 23),(3,.tmp 24),(4,.tmp 25),(5,.tmp 26),(6,.tmp 27),(10,.tmp 28)] rfl [(0,.int .i64 1),(1,.int .i64 (N:Int)),(3,.string s),(4,.agg PA),(5,.agg RA),(6,.agg FA),(10,.int .i64 t)] rfl _ (hbN.out _) ?_))
 with_reducible refine(hput.out _ hB.out).mono ?_
 clear hput
 rintro e w2 hq
 obtain rfl:=hQ _ _ _ hq
 replace hq:=Hd hq
 clear hQ c1
 go_wp2_with fail
 go_ret2
 exact⟨rfl,_,hB.out,hq.out⟩
theorem Bh{base:Nat}{w:World}{l:Nat}{V:LV}{P:LP}(h:LdM base w l V P)(s:ByteArray)(q:P6)(root file:List UInt8)(t:Int)(h1:root.length=32)(h2:file.length=32)(ea:Nat->Addr)(k:Nat)(hk:k≠0)(hput:∀ W,Below w.heap.size w W->Calls Tryz.prog 81 #[.pointer (some ⟨l,0,none⟩),.agg (X6 (P.m.its.length:Int) s q root file t).list.toArray] W (λe w'=>∃ v,e=.returned v/\ErrIs ea w' v k/\Below W.heap.size W w')) :
  Calls Tryz.prog 36 #[.pointer (some ⟨l,0,none⟩),.string s,.agg q.list.toArray,.agg (cB root).toArray,.agg (cB file).toArray,.int .i64 t] w (λe w'=>∃ v,e=.returned (.tuple #[.int .i64 0,v])/\ErrIs ea w' v k/\Below w.heap.size w w'):=by
 have hbd:=Hd (λ(n:Int) W=>Kk n s q root file t h1 h2 W)
 have iP:(Tryz.prog.info? 45).map (·.size)=some q.list.toArray.size:=kX
 have iR:(Tryz.prog.info? 47).map (·.size)=some (cB root).toArray.size:=by rw[List.size_toArray,Ze,h1];kernel_rfl
 have iF:(Tryz.prog.info? 47).map (·.size)=some (cB file).toArray.size:=by rw[List.size_toArray,Ze,h2];kernel_rfl
 generalize q.list.toArray=PA at*
 generalize (cB root).toArray=RA at*
 generalize (cB file).toArray=FA at*
 obtain⟨a4,c4,a5,c5,hsh⟩:=h.st.shape
 simp only[Value.agg.injEq,Array.mk.injEq,List.cons.injEq,and_true] at hsh
 obtain⟨hsI,hsE⟩:=hsh
 obtain⟨b8,b9,b10,hs3,hB⟩:=ZV w PA RA FA 45 47 47 _ rfl
 obtain⟨w1,hw1⟩:∃ w1,w1=((w.alloc (.cells PA 45)).alloc (.cells RA 47)).alloc (.cells FA 47):=⟨_,rfl⟩
 rw[<-hw1] at b8 b9 b10 hs3 hB
 have hl1:=h.below hB
 obtain⟨N,hN⟩:∃ N,N=P.m.its.length:=⟨_,rfl⟩
 have c1:w1.cell? ⟨l,1,none⟩=some (.slice a4 N c4):=by rw[Za hl1.at_,hN,<-hsI];rfl
 rw[<-hN] at hput
 obtain⟨X,hX⟩:∃ X,X=(X6 (N:Int) s q root file t).list.toArray:=⟨_,rfl⟩
 have hbN:=Hd (λW=>hbd.out (N:Int) W)
 rw[<-hX] at hput hbN
 replace hput:=Hd hput
 replace hX:=Hd hX
 replace hw1:=Hd hw1
 replace b8:=Hd b8
 replace b9:=Hd b9
 replace b10:=Hd b10
 replace hB:=Hd hB
 replace hN:=Hd hN
 clear h hl1 hs3 hsI hsE h1 h2
 go_enter Tryz.func36,Tryz.ntmps36
 go_upto_region 1 with fail
 rw[<-hw1.out]
 go_wp2_with (first
  | ((with_reducible refine wL (.load 45 (.tmp 8)) ?_);refine Zd rfl 45 (.tmp 8) rfl w.heap.size PA _ rfl b8 Tryz.underlying45 rfl iP ?_)
  | ((with_reducible refine wL (.load 47 (.tmp 9)) ?_);refine Zd rfl 47 (.tmp 9) rfl (w.heap.size+1) RA _ rfl b9 Tryz.underlying47 rfl iR ?_)
  | ((with_reducible refine wL (.load 47 (.tmp 10)) ?_);refine Zd rfl 47 (.tmp 10) rfl (w.heap.size+2) FA _ rfl b10 Tryz.underlying47 rfl iF ?_)
  | ((with_reducible refine wL (.build 49 _) ?_);refine Z3 rfl 49 [(0,.const (.int .i64 1)),(1,.tmp 23),(3,.tmp 24),(4,.tmp 25),(5,.tmp 26),(6,.tmp 27),(10,.tmp 28)] rfl [(0,.int .i64 1),(1,.int .i64 (N:Int)),(3,.string s),(4,.agg PA),(5,.agg RA),(6,.agg FA),(10,.int .i64 t)] rfl _ (hbN.out _) ?_))
 with_reducible refine(hput.out _ hB.out).mono ?_
 clear hput
 rintro e w2 ⟨v,rfl,hv,hb2⟩
 have hnq:=hv.neq
 have hgd:=hv.guard
 rw[show (k != 0)=true from by simpa using hk] at hnq
 have hB2:=Hd (hB.out.trans (hb2.mono hB.out.size))
 replace hv:=Hd hv
 clear hb2 hk c1
 go_wp2_with fail
 go_ret2
 exact⟨_,rfl,hv.out,hB2.out⟩
def GY(w:World)(n:Nat)(e:Ending)(w':World):Prop:=
 ∃ l V,e=.returned (.tuple #[.pointer (some ⟨l,0,none⟩),.pointer (some ⟨V.B,0,none⟩)])/\LdM w.heap.size w' l V (LP.new n)/\V.mn<=20000/\Below w.heap.size w w'
theorem UT(n:Nat)(w:World)(h1:1<=n)(hn:n<=1000)(e:Nat->Addr)(hE:DErr w e)(hK:ShaK w)(hF:ShaF w)(ea:Nat->Addr)(H:Errs 298 errGs w ea) :
  Calls Tryz.prog 21 #[.int .i64 (n:Int)] w (GY w n):=by
 have hnw:=Hd (Lx (n:Int) oX oX w)
 have hd:=Cp (n:Int) w w.heap.size nR
 have hB2:13<w.heap.size:=World.block_lt_of_cell? w _ hE.power
 have hb1:Below w.heap.size w ((w.alloc (.map #[] 0)).alloc (.cells (Qd (n:Int) w.heap.size (.slice none 0 0) false 0 false) 120)):=(bR.alloc nR _).alloc sX _
 generalize hW1:(w.alloc (.map #[] 0)).alloc (.cells (Qd (n:Int) w.heap.size (.slice none 0 0) false 0 false) 120)=w1 at*
 have hBE:13≠w.heap.size+1:=oX
 have hlo:=Hd (Pq n hd hb1.size h1 hn dX e hBE (λW hW=>hE.below (hb1.trans hW)) (hK.below hb1) (hF.below hb1) ea (H.below hb1) (λW hW=>H.below (hb1.trans hW)))
 replace hb1:=Hd hb1
 replace hW1:=Hd hW1
 clear hd hBE hB2 hE hK hF H h1 hn
 go_enter Tryz.func21,Tryz.ntmps21
 go_wp2_with fail
 with_reducible refine hnw.out.mono ?_
 rintro x w' ⟨rfl,hq⟩
 obtain rfl:w1=w':=hq.symm
 clear hq hnw hW1
 go_wp2_with fail
 with_reducible refine hlo.out.mono ?_
 clear hlo
 rintro x w2 ⟨l,V,rfl,hL,hVB,hVm,hmn,hb2⟩
 have hB2:=Hd (hb1.out.trans hb2)
 replace hL:=Hd hL
 go_wp2_with fail
 go_ret2
 exact⟨l,V,by rw[hVB];rfl,hL.out,oX,hB2.out⟩
def rcA:Rc:=X6 0 ⟨#[97]⟩ ⟨3,0,1,1,1,0⟩ (List.replicate 32 0) (List.replicate 32 0) 0
theorem Ch:rcA.Ok:=⟨dX,dX,dX,dX,⟨dX,dX,dX,dX,dX,dX⟩,dX,dX,dX,dX,dX,dX⟩
theorem TL:Zi ⟨[],[]⟩ rcA=(⟨[rcA.it],[]⟩,0):=kX
def rcB:Rc:=X6 1 ⟨#[97]⟩ ⟨3,0,1,1,1,0⟩ (List.replicate 32 0) (List.replicate 32 0) 0
theorem BQ:rcB.Ok:=⟨dX,dX,dX,dX,⟨dX,dX,dX,dX,dX,dX⟩,dX,dX,dX,dX,dX,dX⟩
theorem BD:(Zi ⟨[rcA.it],[]⟩ rcB).2=10:=kX
theorem N1:rcA.out.length=92:=kX
theorem LdM.powB{base:Nat}{w:World}{l:Nat}{V:LV}{P:LP}(h:LdM base w l V P)(hb:13<base):13≠V.B:=λe=>by
 have:=(h.lt V.B (.inr (.inr (.inr (.inr (.inl rfl)))))).1
 omega
theorem LL{base:Nat}{w:World}{l:Nat}{V:LV}{P:LP}(h:LdM base w l V P)(hb:base<=w.heap.size)(x:Rc)(hx:x.Ok)(l1:P.m.its.length<=1000)(l2:P.m.ens.length<=1000)(hub:∀ y∈P.m.its,y.u<=1000000/\y.r<=1000000)(ea:Nat->Addr)(H:Errs 298 errGs w ea)(hn:(Zi P.m x).2=0)(hk1:x.kind=1)
  (nn:Nat) (hG:Good P.p nn P.recs) (hnn:nn<=1000) (hmn:V.mn<=50000) (hpl : -200000<=P.p.l/\P.p.l<=200000) (hd:P.dead=false) (e:Nat->Addr) (hE:∀ W,Below base w W->DErr W e) (hK:ShaK w) (hF:ShaF w) (hKb:∀ W,Below base w W->ShaK W/\ShaF W) (hpw:13<base) (hfit:Zh P.recs+(34+x.out.length)<=64*nn) (h1o:1<=x.out.length) (h400:x.out.length<=400) (h2:P.n % 2=0) (hn2:P.n<=1000000) (hps:P.ps.length<=1000000) :
  Calls Tryz.prog 81 #[.pointer (some ⟨l,0,none⟩),.agg x.list.toArray] w (Mv base w l V P nn (Zi P.m x).1 x.out (P.ps++[Qv x.out])):=by
 refine BS h hb x hx l1 l2 hub ea H hn nn _ (λW hW=>MI x hx hk1 (RX hn) ea W (H.below hW)) (λW a c hW hA hAo=>?_) (λW a c hW hf hA=>?_)
 ·have hWb:Below base w W:=hW.mono hb
  have hj:=(h.below hW).jd
  rw[hd] at hj
  have hlt:=λk hk=>(h.lt k hk).2
  exact DI hj (Nat.le_trans hb hW.size) nn hG hnn hmn hpl e (h.powB hpw) (λW' hW'=>hE W' (hWb.trans hW')) (hKb W hWb).1 (hKb W hWb).2 x.out h1o h400 hfit a c hA (λb o s eq=>by
   obtain⟨q1,q2⟩:=hAo b o s eq
   exact⟨λhh=>by have:=hlt b (.inr (.inr (.inr (.inl hh))));omega,λhh=>by have:=hlt b (.inr (.inr (.inr (.inr hh))));omega,q2⟩)
 ·exact UV hf (Nat.le_trans hb hW.size) h2 hn2 hps a c x.out hA oX (hKb W hW).1 (hKb W hW).2
theorem Ty(w:World)(e:Nat->Addr)(hE:DErr w e)(hK:ShaK w)(hF:ShaF w)(ea:Nat->Addr)(H:Errs 298 errGs w ea):Calls Tryz.prog 7 #[] w λx w'=>x=.returned (.bool true)/\Below w.heap.size w w':=by
 have hfr:Calls Tryz.prog 21 #[.int .i64 20] w (GY w 20):=UT 20 w dX dX e hE hK hF ea H
 replace hfr:=Hd hfr
 have hpw:13<w.heap.size:=World.block_lt_of_cell? w _ hE.power
 have hKb:∀ W,Below w.heap.size w W->ShaK W/\ShaF W:=λW hW=>⟨hK.below hW,hF.below hW⟩
 have hEb:∀ W,Below w.heap.size w W->DErr W e:=λW hW=>hE.below hW
 have hHb:∀ W,Below w.heap.size w W->Errs 298 errGs W ea:=λW hW=>H.below hW
 have hA1:=Hd (λ(w1:World) (l:Nat) (V:LV) (hb1:Below w.heap.size w w1) (h:LdM w.heap.size w1 l V (LP.new 20)) (hmn:V.mn<=20000)=>show Calls Tryz.prog 36 #[.pointer (some ⟨l,0,none⟩),.string ⟨#[97]⟩,.agg #[.int .i64 3,.int .i64 0,.int .i64 1,.int .i64 1,.int .i64 1,.int .i64 0],.agg #[.int .u8 0,.int .u8 0,.int .u8 0,.int .u8 0,.int .u8 0,.int .u8 0,.int .u8 0,.int .u8 0,.int .u8 0,.int .u8 0,.int .u8 0,.int .u8 0,.int .u8 0,.int .u8 0,.int .u8 0,.int .u8 0,.int .u8 0,.int .u8 0,.int .u8 0,.int .u8 0,.int .u8 0,.int .u8 0,.int .u8 0,.int .u8 0,.int .u8 0,.int .u8 0,.int .u8 0,.int .u8 0,.int .u8 0,.int .u8 0,.int .u8 0,.int .u8 0],.agg #[.int .u8 0,.int .u8 0,.int .u8 0,.int .u8 0,.int .u8 0,.int .u8 0,.int .u8 0,.int .u8 0,.int .u8 0,.int .u8 0,.int .u8 0,.int .u8 0,.int .u8 0,.int .u8 0,.int .u8 0,.int .u8 0,.int .u8 0,.int .u8 0,.int .u8 0,.int .u8 0,.int .u8 0,.int .u8 0,.int .u8 0,.int .u8 0,.int .u8 0,.int .u8 0,.int .u8 0,.int .u8 0,.int .u8 0,.int .u8 0,.int .u8 0,.int .u8 0],.int .i64 0] w1 (λe w'=>e=.returned (.tuple #[.int .i64 0,.nilIface])/\∃ W,Below w1.heap.size w1 W/\Mv w.heap.size W l V (LP.new 20) 20 ⟨[rcA.it],[]⟩ rcA.out ([]++[Qv rcA.out]) (.returned .nilIface) w') from
  BU h ⟨#[97]⟩ ⟨3,0,1,1,1,0⟩ (List.replicate 32 0) (List.replicate 32 0) 0 dX dX (λW e w'=>Mv w.heap.size W l V (LP.new 20) 20 ⟨[rcA.it],[]⟩ rcA.out ([]++[Qv rcA.out]) e w') (λW e w' hq=>hq.1) (λW hW=>by
   have hbW:Below w.heap.size w W:=hb1.trans (hW.mono hb1.size)
   have:=LL (h.below hW) hbW.size rcA Ch dX dX (λy hy=>absurd hy List.not_mem_nil) ea (hHb W hbW) (by show (Zi ⟨[],[]⟩ rcA).2=0;rw[TL]) rfl 20 (Gk 20) dX oX ⟨by show (-200000:Int)<=0;decide,by show (0:Int)<=200000;decide⟩ rfl e (λW' hW'=>hEb W' (hbW.trans hW')) (hKb W hbW).1 (hKb W hbW).2 (λW' hW'=>hKb W' (hbW.trans hW')) hpw (by rw[N1];decide) (by rw[N1];decide) (by rw[N1];decide) rfl dX dX
   rw[show (Zi (LP.new 20).m rcA).1=(⟨[rcA.it],[]⟩:St) from by show (Zi ⟨[],[]⟩ rcA).1=_;rw[TL]] at this
   exact this))
 have hA2:=Hd (λ(w1:World) (l:Nat) (V:LV) (P:LP) (hb1:Below w.heap.size w w1) (h:LdM w.heap.size w1 l V P) (hm:P.m=⟨[rcA.it],[]⟩)=>show Calls Tryz.prog 36 #[.pointer (some ⟨l,0,none⟩),.string ⟨#[97]⟩,.agg #[.int .i64 3,.int .i64 0,.int .i64 1,.int .i64 1,.int .i64 1,.int .i64 0],.agg #[.int .u8 0,.int .u8 0,.int .u8 0,.int .u8 0,.int .u8 0,.int .u8 0,.int .u8 0,.int .u8 0,.int .u8 0,.int .u8 0,.int .u8 0,.int .u8 0,.int .u8 0,.int .u8 0,.int .u8 0,.int .u8 0,.int .u8 0,.int .u8 0,.int .u8 0,.int .u8 0,.int .u8 0,.int .u8 0,.int .u8 0,.int .u8 0,.int .u8 0,.int .u8 0,.int .u8 0,.int .u8 0,.int .u8 0,.int .u8 0,.int .u8 0,.int .u8 0],.agg #[.int .u8 0,.int .u8 0,.int .u8 0,.int .u8 0,.int .u8 0,.int .u8 0,.int .u8 0,.int .u8 0,.int .u8 0,.int .u8 0,.int .u8 0,.int .u8 0,.int .u8 0,.int .u8 0,.int .u8 0,.int .u8 0,.int .u8 0,.int .u8 0,.int .u8 0,.int .u8 0,.int .u8 0,.int .u8 0,.int .u8 0,.int .u8 0,.int .u8 0,.int .u8 0,.int .u8 0,.int .u8 0,.int .u8 0,.int .u8 0,.int .u8 0,.int .u8 0],.int .i64 0] w1 (λe w'=>∃ v,e=.returned (.tuple #[.int .i64 0,v])/\ErrIs ea w' v 10/\Below w1.heap.size w1 w') from
  Bh h ⟨#[97]⟩ ⟨3,0,1,1,1,0⟩ (List.replicate 32 0) (List.replicate 32 0) 0 dX dX ea 10 dX (λW hW=>by
   have hbW:Below w.heap.size w W:=hb1.trans (hW.mono hb1.size)
   have h2:(Zi P.m rcB).2=10:=by rw[hm];exact BD
   have:=TK (h.below hW) rcB BQ (by rw[hm];decide) (by rw[hm];decide) (λy hy=>by rw[hm] at hy;rw[List.mem_singleton.1 hy];exact⟨dX,dX⟩) ea (hHb W hbW) (by rw[h2];decide)
   rw[h2] at this
   rw[hm]
   exact this))
 replace hHb:=Hd hHb
 clear hE hK hF H hpw hKb hEb
 go_enter Tryz.func7,Tryz.ntmps7
 go_wp2_with fail
 with_reducible refine hfr.out.mono ?_
 clear hfr
 rintro x w1 ⟨l,V,rfl,hL1,hmn1,hb1⟩
 obtain⟨w2,hw2⟩:∃ w2,w2=w1.alloc (.cells #[.int .i64 3,.int .i64 0,.int .i64 1,.int .i64 1,.int .i64 1,.int .i64 0] 45):=⟨_,rfl⟩
 have hG2:Below w1.heap.size w1 w2:=by rw[hw2];exact bR.alloc nR _
 have aP2:w2.heap[w1.heap.size]? = some (.cells #[.int .i64 3,.int .i64 0,.int .i64 1,.int .i64 1,.int .i64 1,.int .i64 0] 45 (0,0)):=by rw[hw2];exact heap_alloc_new w1 _
 have hB2:Below w.heap.size w w2:=hb1.trans (hG2.mono hb1.size)
 have hc1:=Hd (hA1.out w2 l V hB2 (hL1.below hG2) hmn1)
 have hlt:=Hd (λk (hk:LdD l V k)=>(hL1.lt k hk).2)
 have hL2:=Hd (hL1.below hG2)
 have iP:(Tryz.prog.info? 45).map (·.size)=some (#[.int .i64 3,.int .i64 0,.int .i64 1,.int .i64 1,.int .i64 1,.int .i64 0]:Array Value).size:=kX
 replace hw2:=Hd hw2
 replace aP2:=Hd aP2
 replace hB2:=Hd hB2
 clear hA1 hL1 hb1 hG2 hmn1
 go_wp2_with fail
 rw[<-hw2.out]
 with_reducible refine hc1.out.mono ?_
 clear hc1
 rintro x w3 ⟨rfl,W,hW,hput⟩
 obtain⟨-,V',p',hst,-,hVB,-,-,-,-,-,-⟩:=hput
 have hLW:=hL2.out.below hW
 have hBW:=hB2.out.trans (hW.mono hB2.out.size)
 have hB3:=hBW.trans (hst.below hLW hBW.size)
 have aP3:=Hd (hst.only.heap ((hW.block _ (Zb aP2.out)).trans aP2.out) (λhd=>by have:=hlt.out _ hd;omega))
 have hL3:=hst.ok
 have hc2:=Hd (hA2.out w3 l V' _ hB3 hL3 rfl)
 replace hL3:=Hd hL3
 replace hB3:=Hd hB3
 clear hst hLW hBW hW hA2
 go_wp2_with ((with_reducible refine wL (.load 45 (.tmp 3)) ?_);refine Zd rfl 45 (.tmp 3) rfl w1.heap.size #[.int .i64 3,.int .i64 0,.int .i64 1,.int .i64 1,.int .i64 1,.int .i64 0] _ rfl aP3 Tryz.underlying45 rfl iP ?_)
 with_reducible refine hc2.out.mono ?_
 clear hc2
 rintro x w4 ⟨v,rfl,hv,hb4⟩
 have hB4:=hB3.out.trans (hb4.mono hB3.out.size)
 have hL4:=Hd (hL3.out.below hb4)
 have hnum:=Hd (PY hv (hHb.out w4 hB4))
 replace hB4:=Hd hB4
 clear hv hb4
 go_wp2_with fail
 with_reducible refine hnum.out.mono ?_
 clear hnum
 rintro x w5 ⟨rfl,hb5⟩
 have hB5:=Hd (hB4.out.trans (hb5.mono hB4.out.size))
 have hsp:=Hd (Xe (hL4.out.below hb5) (by show 1<=1000;decide) (by show 0<=1000;decide))
 clear hb5
 go_wp2_with fail
 with_reducible refine hsp.out.mono ?_
 clear hsp
 rintro x w6 ⟨v6,v6',rfl,hrI,hrE,hb6⟩
 obtain⟨a6,c6,hv6,_⟩:=hrI.form
 replace hv6:v6=.slice a6 1 c6:=hv6
 subst hv6
 obtain⟨a7,c7,hv7,_⟩:=hrE.form
 replace hv7:v6'=.slice a7 0 c7:=hv7
 subst hv7
 have hfd:∀ W,(Instr.field 28 (.agg #[.slice a6 1 c6,.slice a7 0 c7]) 0).run Tryz.prog W=.ok (.slice a6 1 c6) W:=λW=>by kernel_rfl
 have hB6:=Hd (hB5.out.trans (hb6.mono hB5.out.size))
 clear hb6 hrI hrE
 go_wp2_with fail
 go_ret
 exact⟨rfl,hB6.out⟩
end Go.Proofs.YtpdhceiodgnbmaaGreatDoor
