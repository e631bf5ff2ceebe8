import Derived.Test.YtpdhceiodgnbmaaGreatDoorF0ReplaysSaid
import Derived.Test.YtpdhceiodgnbmaaGreatDoorF1ReplaysSaid
import Derived.Test.YtpdhceiodgnbmaaGreatDoorF4ReplaysSaid
import Derived.Deep.LoopGhost
import Derived.Test.YtpdhceiodgnbmaaGreatDoorF17ReplaysSaid
import Derived.Test.YtpdhceiodgnbmaaGreatDoorF8ReplaysSaid
import Derived.Test.YtpdhceiodgnbmaaGreatDoorF5ReplaysSaid
import Derived.Test.YtpdhceiodgnbmaaGreatDoorF2ReplaysSaid
import Derived.Deep.CutRange
import Derived.Test.YtpdhceiodgnbmaaGreatDoorF12ReplaysSaid
import Derived.Test.YtpdhceiodgnbmaaGreatDoorF10ReplaysSaid
import Derived.Test.YtpdhceiodgnbmaaGreatDoorF24ReplaysSaid
import Derived.Deep.MidRow
set_option linter.unusedVariables false
set_option linter.unusedSimpArgs false
set_option linter.unnecessarySimpa false
set_option maxRecDepth 100000
set_option maxHeartbeats 8000000
namespace Go.Proofs.YtpdhceiodgnbmaaGreatDoor
open Go.RowKit
def Gb(n:Int):Nat:=(n % 18446744073709551616).toNat
def Z0(n:Int)(j:Nat):UInt8:=UInt8.ofNat (Gb n / 2 ^ (8*(7-j)))
def Zn(n:Int):List UInt8:=(List.range 8).map (Z0 n)
theorem Zx(n:Int):(Zn n).length=8:=by simp[Zn]
theorem Ml(n:Int)(k:Nat)(hk:k<8):n / ((2 ^ (8*(7-k)):Nat):Int) % 256=((Z0 n k).toNat:Int):=by
 unfold Z0
 rw[UInt8.toNat_ofNat']
 obtain⟨m,hm⟩:∃ m:Int,n=(Gb n:Int)+18446744073709551616*m:=⟨n / 18446744073709551616,by unfold Gb;omega⟩
 generalize Gb n=u at*
 rw[hm]
 have h:k=0\/k=1\/k=2\/k=3\/k=4\/k=5\/k=6\/k=7:=oX
 rcases h with rfl|rfl|rfl|rfl|rfl|rfl|rfl|rfl<;>simp<;>omega
def PI(n:Int)(r:Nat):Nat:=Gb n / 256 ^ r
theorem R8(n:Int)(r:Nat)(hr:r<8):((PI n r:Nat):Int) % 256=((Z0 n (7-r)).toNat:Int):=by
 unfold PI Z0
 rw[UInt8.toNat_ofNat',show 7-(7-r)=r from by omega,show (256:Nat)=2 ^ 8 from rfl,<-Nat.pow_mul]
 omega
theorem Tt(n:Int)(k:Nat):(List.range (k+1)).map (Z0 n)=(List.range k).map (Z0 n)++[Z0 n k]:=by simp[List.range_succ]
section
variable {w:World} {ops:Array Oper} {rest:List Oper} {o:Oper} {a:Act} {Q:Exit->Act->World->Prop}
theorem Ra(hgd:o.guard=none)(s x:Operand)(ho:o.op=.call { callee:=.builtin .append,args:=#[s,x],argTypes:=#[24,24] })
  (base:Nat) (v:Value) (bs:List UInt8) (hs:a.eval s=v) (hown:Hid (OwnB base w v bs))
  (u:UInt8) (z:Int) (hz:z=(u.toNat:Int)) (hx:a.eval x=.slice (some ⟨w.heap.size,0,none⟩) 1 1) (hl:bs.length<=1000000) (hbase:base<=w.heap.size)
  (h:∀ v' w',Hid (OwnB base w' v' (bs++[u]))->Hid (Below base w w')->wpList Tryz.prog ops Q rest (a.put o.dst v') w') :
  wpList Tryz.prog ops Q (o::rest) a (w.alloc (.cells #[.int .u8 z] 5)):=by
 subst hz
 exact Nk hgd s x ho base v bs hs hown u hx hl hbase h
end
theorem Kg(n:Int)(w:World)(h1 : -9223372036854775808<=n)(h2:n<=9223372036854775807) :
  Calls Tryz.prog 142 #[.int .i64 n] w λe w'=>∃ v,e=.returned v/\OwnB w.heap.size w' v (Zn n)/\Below w.heap.size w w':=by
 have h0:=Hd (OwnB.nil w.heap.size w)
 have hby:=Hd (Ml n)
 have hsc:=Hd (Tt n)
 have hend:=Hd (show (List.range 8).map (Z0 n)=Zn n from rfl)
 replace h1:=Hd h1
 replace h2:=Hd h2
 go_enter Tryz.func142,Tryz.ntmps142
 go_wp2_with fail
 go_loopw [3,4] (λv j wr=>∃ k:Nat,k<=8/\j=.int .i64 (7-(k:Int))/\OwnB w.heap.size wr v ((List.range k).map (Z0 n))/\Below w.heap.size w wr)
  (λ_ j _=>(intOf j+8).toNat)
 case atStart=>exact⟨0,Nat.zero_le _,rfl,h0.out,Below.refl _ _⟩
 case round=>
  clear h0
  obtain⟨k,hk,rfl,hown,hbel⟩:=hrel
  have hsz:=hbel.size
  replace hown:=Hd hown
  replace hbel:=Hd hbel
  by_cases hlt:k<8
  ·have hll:((List.range k).map (Z0 n)).length<=1000000:=by rw[List.length_map,List.length_range];omega
   have hge:(0:Int)<=7-(k:Int):=oX
   have hb:=Hd (hby.out k hlt)
   have hs:=Hd (hsc.out k)
   generalize (List.range k).map (Z0 n)=T at*
   go_wp2_with (at_builtin;go_must (refine Ra rfl (.tmp 9) (.tmp 15) rfl w.heap.size _ T rfl hown (Z0 n k) _ ?hz rfl hll hsz ?_))
   case hz=>exact hb.out
   intro v5 w5 ho5 hd5
   have hb5:=Hd (hbel.out.trans hd5.out)
   go_wp2_with fail
   go_roundw
   case rel=>exact⟨k+1,oX,by go_num,by rw[hs.out];exact ho5.out,hb5.out⟩
   case measure=>simp[intOf];omega
  ·obtain rfl:k=8:=oX
   have hlt7:¬(0:Int)<=7-((8:Nat):Int):=oX
   go_wp2_with fail
   go_ret
   exact⟨_,rfl,by rw[<-hend.out];exact hown.out,hbel.out⟩
theorem Ws{w w':World}{b:Nat}{o:Obj}(h:w.heap[b]? = some o)(hg:Grown w w'):w'.heap[b]? = some o:=(hg.block b (Zb h)).trans h
theorem GF{a b:World}{C:World->Prop}(k:∀ W,Grown a W->C W)(h:Grown a b):∀ W,Grown b W->C W:=λW hW=>k W (Grown.trans h hW)
theorem Ka{base g:Nat}{w:World}{x:UInt8}(h:w.heap[g]? = some (.cells #[.int .u8 (x.toNat:Int)] 5 (0,0)))(hg:base<=g):OwnB base w (.slice (some ⟨g,0,none⟩) 1 1) [x]:=
 ⟨rfl,.inr ⟨g,1,#[.int .u8 (x.toNat:Int)],rfl,hg,h,Nat.le_refl _,by unfold maxLen;omega,rfl,rfl⟩⟩
theorem Nl{g:Nat}{w:World}{x:UInt8}(h:w.heap[g]? = some (.cells #[.int .u8 (x.toNat:Int)] 5 (0,0))):ArgB w (some ⟨g,0,none⟩) 1 [x]:=by
 obtain⟨a,c,e,h2,_⟩:=(Ka (base:=0) h (Nat.zero_le _)).arg
 cases e
 exact h2
theorem Uw(x:Int)(w:World):Calls Tryz.prog 92 #[.int .i64 x] w λe w'=>e=.returned (.bool (!inB x 0 1099511627776))/\w=w':=by
 by_cases h1:x<0
 ·have hn:inB x 0 1099511627776=false:=by unfold inB;simp;omega
  rw[hn]
  go_enter Tryz.func92,Tryz.ntmps92
  go_wp2_with fail
  go_ret
  exact⟨rfl,rfl⟩
 ·by_cases h2:1099511627776<x
  ·have hn:inB x 0 1099511627776=false:=by unfold inB;simp;omega
   rw[hn]
   have h3:decide (1099511627776<x)=true:=by simpa using h2
   clear h2
   go_enter Tryz.func92,Tryz.ntmps92
   go_wp2_with fail
   go_ret
   exact⟨rfl,rfl⟩
  ·have hn:inB x 0 1099511627776=true:=by unfold inB;simp;omega
   rw[hn]
   go_enter Tryz.func92,Tryz.ntmps92
   go_wp2_with fail
   go_ret
   exact⟨rfl,rfl⟩
def ZJ:List UInt8->Int->Int
 | [],s=>s
 | b::r,s=>if 2199023255552<s then -1 else ZJ r (s*256+b.toNat)
theorem Ht(bs:List UInt8)(k:Nat)(h:k<bs.length):bs.drop k=bs.getD k 0::bs.drop (k+1):=by
 rw[List.drop_eq_getElem_cons h]
 congr 1
 simp[List.getD_eq_getElem?_getD,h]
theorem M7(a:Option Addr)(c:Nat)(bs:List UInt8)(w:World)(ha:ArgB w a c bs)(hl:bs.length<=1000000):Calls Tryz.prog 82 #[.slice a bs.length c] w λe w'=>e=.returned (.int .i64 (ZJ bs 0))/\w=w':=by
 obtain⟨L,hL⟩:∃ L,L=bs.length:=⟨_,rfl⟩
 rw[<-hL]
 have hLm:L<=1000000:=oX
 replace hL:=Hd hL
 replace ha:=Hd ha
 go_enter Tryz.func82,Tryz.ntmps82
 go_wp2_with fail
 go_loop [3,5,8] (λs _ j=>∃ (k:Nat) (S:Int),k<=L/\j=.int .i64 k/\s=.int .i64 S/\0<=S/\S<=562949953421567/\ZJ bs 0=ZJ (bs.drop k) S) (λ_ _ j=>L-(intOf j).toNat)
 case atStart=>exact⟨0,0,Nat.zero_le _,rfl,rfl,oX,oX,by rw[List.drop_zero]⟩
 case round=>
  obtain⟨k,S,hk,rfl,rfl,hS0,hS1,hrec⟩:=hrel
  by_cases hlt:k<L
  ·have hkb:k<bs.length:=by rw[<-hL.out];exact hlt
   obtain⟨g,off,e0,hc⟩:=ha.out.row k hkb
   have hli:(k:Int)<L:=oX
   rw[Ht bs k hkb] at hrec
   subst e0
   generalize bs.getD k 0=b at*
   by_cases hbig:2199023255552<S
   ·have hd:decide (2199023255552<S)=true:=by simpa using hbig
    have hr:ZJ bs 0 = -1:=by rw[hrec];unfold ZJ;rw[if_pos hbig]
    clear hrec hbig
    replace hr:=Hd hr
    go_wp2_with fail
    go_ret
    exact⟨by rw[hr.out];rfl,rfl⟩
   ·have hr:ZJ bs 0=ZJ (bs.drop (k+1)) (S*256+b.toNat):=by rw[hrec];conv=>lhs;unfold ZJ;rw[if_neg hbig]
    have hb:=b.toNat_lt
    have hw1:IntKind.i64.wrap (S*256)=S*256:=IntWalk.i64_in _ oX
    have hw2:IntKind.i64.wrap (b.toNat:Int)=(b.toNat:Int):=IntWalk.i64_in _ oX
    have hw3:IntKind.i64.wrap (S*256+(b.toNat:Int))=S*256+(b.toNat:Int):=IntWalk.i64_in _ oX
    have hd:decide (2199023255552<S)=false:=by simpa using hbig
    have hbd:=Hd (show 0<=S*256+(b.toNat:Int)/\S*256+(b.toNat:Int)<=562949953421567 from by omega)
    clear hrec
    replace hr:=Hd hr
    go_wp2_with fail
    exact⟨⟨k+1,S*256+(b.toNat:Int),oX,by go_num,by first|rfl|go_num,hbd.out.1,hbd.out.2,hr.out⟩,by simp[intOf];omega⟩
  ·obtain rfl:k=L:=oX
   have hr:ZJ bs 0=S:=by rw[hrec,hL.out,List.drop_length];rfl
   clear hrec
   replace hr:=Hd hr
   go_wp2_with fail
   go_ret
   exact⟨by rw[hr.out];rfl,rfl⟩
section
variable (s n k d t r:Int) (F:ByteArray) (V:Int) (i:Nat) (ea:Nat->Addr) (w:World)
def b8(z:Int):UInt8:=UInt8.ofNat (z % 256).toNat
theorem Q8(z:Int)(h:0<=z/\z<=255):((b8 z).toNat:Int)=z:=by unfold b8;simp;omega
theorem Jy(z:Int):((b8 z).toNat:Int)=z % 256:=by unfold b8;simp;omega
theorem T9(w:World)(t:TypeId)(bs:List UInt8)(cs:Array Value)(h:cs=(cB bs).toArray)(hl:bs.length<=1000000):ArgB (w.alloc (.cells cs t)) (some ⟨w.heap.size,0,none⟩) bs.length bs:=by
 subst h
 refine⟨Nat.le_refl _,(by unfold maxLen;omega),(λe=>by cases e),λi hi=>⟨_,_,rfl,?_⟩⟩
 rw[Za (heap_alloc_new w _)]
 simp[cB,hi]
def ZD:List UInt8:=[b8 (s / 256),b8 s,b8 n,b8 k,b8 (d / 256),b8 d,b8 (t / 256),b8 t,b8 r]
theorem MP(h:U1 s n k d t r):(#[.int .u8 (s / 256),.int .u8 (s % 256),.int .u8 n,.int .u8 k,.int .u8 (d / 256),.int .u8 (d % 256),.int .u8 (t / 256),.int .u8 (t % 256),.int .u8 r]:Array Value)=(cB (ZD s n k d t r)).toArray:=by
 obtain⟨hs,hn,hk,hd,ht,hr⟩:=h
 simp only[cB,ZD,List.map]
 rw[Q8 (s / 256) oX,Jy s,Q8 n oX,Q8 k oX,Q8 (d / 256) oX,Jy d,Q8 (t / 256) oX,Jy t,Q8 r oX]
theorem PD(h:U1 s n k d t r)(z:Nat->Addr)(hE:ParErrs w z) :
  Calls Tryz.prog 143 #[.agg #[.int .i64 s,.int .i64 n,.int .i64 k,.int .i64 d,.int .i64 t,.int .i64 r]] w λe w'=>∃ b,e=.returned (.tuple #[.slice (some ⟨b,0,none⟩) 9 9,.nilIface])/\ArgB w' (some ⟨b,0,none⟩) 9 (ZD s n k d t r)/\Below w.heap.size w w':=by
 obtain⟨hs,hn,hk,hd,ht,hr⟩:=id h
 have hb1:=Hd ((Below.refl w.heap.size w).alloc nR (.cells #[.int .i64 s,.int .i64 n,.int .i64 k,.int .i64 d,.int .i64 t,.int .i64 r] 45))
 have hp:=Hd (heap_alloc_new w (.cells #[.int .i64 s,.int .i64 n,.int .i64 k,.int .i64 d,.int .i64 t,.int .i64 r] 45))
 have hcall:=Hd (Gt s n k d t r h z _ (hE.below hb1.out))
 clear h
 go_enter Tryz.func143,Tryz.ntmps143
 go_wp2_with (refine Ze rfl 45 (.tmp 1) rfl w.heap.size #[.int .i64 s,.int .i64 n,.int .i64 k,.int .i64 d,.int .i64 t,.int .i64 r] _ rfl hp Tryz.underlying45 rfl kX ?_)
 with_reducible refine hcall.out.mono ?_
 rintro e w1 ⟨rfl,hb2⟩
 replace hp:=Hd ((hb2.block _ sX).trans hp.out)
 replace hb1:=Hd (hb1.out.trans (hb2.mono hb1.out.size))
 obtain⟨c0,c1,c2,c3,c4,c5⟩:=XP hp.out
 clear hb2 hcall
 go_wp2_with fail
 go_ret2
 exact⟨_,rfl,T9 w1 _ (ZD s n k d t r) _ (MP s n k d t r ⟨hs,hn,hk,hd,ht,hr⟩) (by simp[ZD]),hb1.out.alloc hb1.out.size _⟩
end
theorem QD{w:World}{b:Nat}{C:Array Value}{t:TypeId}{fz:Nat×Nat}(hb:w.heap[b]? = some (.cells C t fz)){o n:Nat}{B:List Value}(h:(C.toList.drop o).take n=B):w.rangeAt b o B:=λj v hv=>by
 rw[Za hb]
 rw[<-h,List.getElem?_take] at hv
 split at hv
 ·rw[List.getElem?_drop,Array.getElem?_toList] at hv
  exact hv
 ·cases hv
def Rc.head(x:Rc):List UInt8:=b8 x.kind::Zn x.obj
def Rc.out(x:Rc):List UInt8:=
 if x.kind=1 then x.head++([b8 (x.name.size:Int)]++(x.name.data.toList++(ZD x.p.s x.p.n x.p.k x.p.d x.p.t x.p.r++(x.root++(x.file++Zn x.tick)))))
 else if x.kind=2 then x.head++(Zn x.id++([b8 x.way]++((Zn x.index).drop 4++Zn x.tick)))
 else if x.kind=3 then x.head++(Zn x.id++([b8 x.verdict]++Zn x.tick))
 else x.head++Zn x.tick
theorem Rc.chk0{x:Rc}(h:x.chk=0):(1<=x.kind/\x.kind<=4)/\x.nums=true/\x.bare=Rc.zero/\(x.kind=1->Xe x.name.data.toList=true/\Qb x.p.s x.p.n x.p.k x.p.d x.p.t x.p.r=none):=by
 unfold Rc.chk at h
 split at h
 ·cases h
 ·next h1=>
  split at h
  ·cases h
  ·next h2=>
   refine⟨oX,by simpa using h2,?_⟩
   split at h
   ·split at h
    ·cases h
    ·next h3=>
     split at h
     ·omega
     ·next h4=>
      split at h
      ·next h5=>exact⟨h5,λ_=>⟨by simpa using h3,h4⟩⟩
      ·cases h
   ·next h3=>
    split at h
    ·next h5=>exact⟨h5,λe=>absurd e h3⟩
    ·cases h
theorem Rc.kept(x:Rc)(hx:x.Ok)(T:TypeId)(W:World)(b:Nat)(h:W.heap[b]? = some (.cells x.list.toArray T (0,0)))(W2:World)(hW:Grown W W2) :
  W2.cell? ⟨b,0,none⟩=some (.int .i64 x.kind)/\W2.cell? ⟨b,1,none⟩=some (.int .i64 x.obj)/\W2.cell? ⟨b,2,none⟩=some (.int .i64 x.id)/\W2.cell? ⟨b,3,none⟩=some (.string x.name)/\
  W2.cell? ⟨b,74,none⟩=some (.int .i64 x.way)/\W2.cell? ⟨b,75,none⟩=some (.int .i64 x.index)/\W2.cell? ⟨b,76,none⟩=some (.int .i64 x.verdict)/\W2.cell? ⟨b,77,none⟩=some (.int .i64 x.tick):=by
 have h2:=Ws h hW
 refine⟨?_,?_,?_,?_,?_,?_,?_,?_⟩
 all_goals rw[Za h2,List.getElem?_toArray]
 ·exact x.c0
 ·exact x.c1
 ·exact x.c2
 ·exact x.c3
 ·exact Rc.c74 hx.root hx.file
 ·exact Rc.c75 hx.root hx.file
 ·exact Rc.c76 hx.root hx.file
 ·exact Rc.c77 hx.root hx.file
theorem Ue(x:Rc)(hx:x.Ok)(hc:x.chk=0)(ea:Nat->Addr)(w:World)(H:Errs 298 Zq w ea):Calls Tryz.prog 39 #[.agg x.list.toArray] w λe w2=>e=.returned .nilIface/\Below w.heap.size w w2:=by
 refine(JQ x hx ea w H).mono ?_
 rintro e w2 ⟨v,rfl,hv,hb⟩
 rw[hc] at hv
 rcases hv with ⟨_,rfl⟩|⟨i,_,h,_⟩|⟨i,g,F,V,_,h,_⟩
 ·exact⟨rfl,hb⟩
 ·cases h
 ·cases h
theorem Hh(b:Nat)(ps:List (List UInt8))(n:Nat)(w:World)(hA:RowsAt w b ps)(hn:ps.length=n)(hm:n<=100)(h1:1<=ps.flatten.length)(h2:ps.flatten.length<=1000000) :
  Calls Tryz.prog 140 #[.slice (some ⟨b,0,none⟩) n n] w λe w2=>∃ v,e=.returned v/\OwnB w.heap.size w2 v ps.flatten/\Below w.heap.size w w2:=by
 subst hn
 exact UT b ps w hA oX h1 h2
def G1(x:Rc)(w:World)(e:Ending)(w2:World):Prop:=∃ v,e=.returned (.tuple #[v,.nilIface])/\OwnB w.heap.size w2 v x.out/\Below w.heap.size w w2
def SD(sI sE:Value)(k:Nat):Prop:=(∃ o s n c,sI=.slice (some ⟨k,o,s⟩) n c/\0<n)\/(∃ o s n c,sE=.slice (some ⟨k,o,s⟩) n c/\0<n)
theorem VM{D:Nat->Prop}{w w':World}{b o:Nat}{cs:List Value}(h:w.rangeAt b o cs)(hO:Only D w w')(hn:¬D b):w'.rangeAt b o cs:=λj v hv=>by
 have h1:=h j v hv
 exact(World.cell?_of_block (a:=⟨b,o+j,none⟩) (hO.block b (World.block_lt_of_cell? w _ h1) hn)).trans h1
theorem ArgS.only{D:Nat->Prop}{w w':World}{sI sE:Value}{m:St}(h:ArgS w (.agg #[sI,sE]) m)(hO:Only D w w')(hd:∀ k,SD sI sE k->¬D k):ArgS w' (.agg #[sI,sE]) m:=by
 obtain⟨⟨a,c,a',c',e,h1,h2,h3,h4,h5,h6⟩,h7,h8⟩:=h
 cases e
 refine⟨⟨a,c,a',c',rfl,λk hk=>?_,h2,h3,λk hk=>?_,h5,h6⟩,h7,h8⟩
 ·obtain⟨b1,o1,rfl,hr⟩:=h1 k hk
  exact⟨b1,o1,rfl,VM hr hO (hd b1 (.inl ⟨_,_,_,_,rfl,oX⟩))⟩
 ·obtain⟨b1,o1,rfl,hr⟩:=h4 k hk
  exact⟨b1,o1,rfl,VM hr hO (hd b1 (.inr ⟨_,_,_,_,rfl,oX⟩))⟩
theorem ArgS.sd_lt{w:World}{sI sE:Value}{m:St}(h:ArgS w (.agg #[sI,sE]) m):∀ k,SD sI sE k->k<w.heap.size:=by
 obtain⟨⟨a,c,a',c',e,h1,h2,h3,h4,h5,h6⟩,h7,h8⟩:=h
 cases e
 rintro k (⟨o,s,n,c2,e,hn⟩|⟨o,s,n,c2,e,hn⟩)
 ·cases e
  obtain⟨b1,o1,e,hr⟩:=h1 0 hn
  cases e
  exact World.block_lt_of_cell? w _ (hr 0 _ (It.c0 _))
 ·cases e
  obtain⟨b1,o1,e,hr⟩:=h4 0 hn
  cases e
  exact World.block_lt_of_cell? w _ (hr 0 _ (rfl:(En.list m.ens[0])[0]? = some _))
theorem FreshS.sd{B:Nat}{sI sE:Value}{w:World}{m:St}(h:FreshS B (.agg #[sI,sE]))(ha:ArgS w (.agg #[sI,sE]) m):∀ k,SD sI sE k->B<=k:=by
 obtain⟨⟨a,c,a',c',e,_⟩,_,_⟩:=ha
 cases e
 obtain⟨f1,f2⟩:=h _ _ _ _ _ _ rfl
 rintro k (⟨o,s,n,c2,e,hn⟩|⟨o,s,n,c2,e,hn⟩)
 ·cases e;exact f1 _ _ _ rfl
 ·cases e;exact f2 _ _ _ rfl
structure LV where
 J:Nat
 B:Nat
 mb:Nat
 mn:Nat
 f:Nat
 v:Value
 rv:Value
 fv:Value
 sI:Value
 sE:Value
 F:Nat->Prop
structure LP where
 p:DP
 recs:List (List UInt8)
 sure:Nat
 dead:Bool
 n:Nat
 ps:List (List UInt8)
 m:St
def LdD(l:Nat)(V:LV)(k:Nat):Prop:=k=l\/SD V.sI V.sE k\/FrD V.f V.fv k\/JF V.J V.F V.rv k\/ZE V.B V.mb V.v k
structure LdM (base:Nat) (w:World) (l:Nat) (V:LV) (P:LP):Prop where
 jd:JD base w V.J V.B V.mb V.mn V.v V.rv V.F P.p P.recs P.sure P.dead
 at_:w.heap[l]? = some (.cells #[.pointer (some ⟨V.J,0,none⟩),V.sI,V.sE,.pointer (some ⟨V.f,0,none⟩)] 124 (0,0))
 st:ArgS w (.agg #[V.sI,V.sE]) P.m
 fr:FrM base w V.f P.n V.fv P.ps
 ge:base<=l
 ges:∀ k,SD V.sI V.sE k->base<=k
 ls:¬SD V.sI V.sE l
 lf:¬FrD V.f V.fv l
 lj:¬(JF V.J V.F V.rv l\/ZE V.B V.mb V.v l)
 sf:∀ k,SD V.sI V.sE k->¬FrD V.f V.fv k
 sj:∀ k,SD V.sI V.sE k->¬(JF V.J V.F V.rv k\/ZE V.B V.mb V.v k)
 fj:∀ k,FrD V.f V.fv k->¬(JF V.J V.F V.rv k\/ZE V.B V.mb V.v k)
theorem LdM.lt{base:Nat}{w:World}{l:Nat}{V:LV}{P:LP}(h:LdM base w l V P):∀ k,LdD l V k->base<=k/\k<w.heap.size:=by
 rintro k (rfl|hk|hk|hk|hk)
 ·exact⟨h.ge,Zb h.at_⟩
 ·exact⟨h.ges k hk,h.st.sd_lt k hk⟩
 ·exact h.fr.lt k hk
 ·exact h.jd.jm.lt k hk
 ·exact h.jd.dm.lt k hk
theorem LdM.only{base:Nat}{w w':World}{l:Nat}{V:LV}{P:LP}{D:Nat->Prop}(h:LdM base w l V P)(hO:Only D w w')(hd:∀ k,LdD l V k->¬D k):LdM base w' l V P:=
 ⟨h.jd.only hO (λk hk=>hd k (.inr (.inr (.inr (.inl hk))))) (λk hk=>hd k (.inr (.inr (.inr (.inr hk))))),hO.heap h.at_ (hd l (.inl rfl)),h.st.only hO (λk hk=>hd k (.inr (.inl hk))),h.fr.only hO (λk hk=>hd k (.inr (.inr (.inl hk)))),h.ge,h.ges,h.ls,h.lf,h.lj,h.sf,h.sj,h.fj⟩
theorem LdM.below{base:Nat}{w w':World}{l:Nat}{V:LV}{P:LP}(h:LdM base w l V P)(hb:Below w.heap.size w w'):LdM base w' l V P:=h.only (Only.ofBelow (D:=λ_=>False) hb) (λ_ _ h=>h)
structure LStep (base:Nat) (w w':World) (l:Nat) (V V':LV) (P':LP):Prop where
 ok:LdM base w' l V' P'
 only:Only (LdD l V) w w'
 new:∀ k,LdD l V' k->LdD l V k\/w.heap.size<=k
theorem LStep.same{base:Nat}{w:World}{l:Nat}{V:LV}{P:LP}(h:LdM base w l V P):LStep base w w l V V P:=⟨h,Only.refl _ _,λ_ h=>.inl h⟩
theorem LStep.trans{base:Nat}{w w1 w2:World}{l:Nat}{V V1 V2:LV}{P1 P2:LP}(h:LStep base w w1 l V V1 P1)(h':LStep base w1 w2 l V1 V2 P2):LStep base w w2 l V V2 P2:=
 ⟨h'.ok,h.only.trans h'.only (λk hk hd=>(h.new k hd).elim id (λh=>absurd h oX)),λk hk=>by
  rcases h'.new k hk with h1|h1
  ·exact h.new k h1
  ·exact .inr (Nat.le_trans h.only.size h1)⟩
theorem LStep.grow{base:Nat}{w w1 w2:World}{l:Nat}{V V1:LV}{P1:LP}(h:LStep base w w1 l V V1 P1)(hb:Below w1.heap.size w1 w2):LStep base w w2 l V V1 P1:=
 h.trans ⟨h.ok.below hb,Only.ofBelow hb,λ_ h=>.inl h⟩
theorem LStep.below{base:Nat}{w w':World}{l:Nat}{V V':LV}{P P':LP}(h:LStep base w w' l V V' P')(h0:LdM base w l V P)(hb:base<=w.heap.size):Below base w w':=h.only.below hb (λk hk=>(h0.lt k hk).1)
theorem LdM.journal{base:Nat}{w w':World}{l:Nat}{V:LV}{P:LP}{mn':Nat}{v' rv':Value}{F':Nat->Prop}{p':DP}{recs':List (List UInt8)}{sure':Nat}{dead':Bool}(h:LdM base w l V P)(hj:JStep base w w' V.J V.B V.mb V.v V.rv V.F mn' v' rv' F' p' recs' sure' dead') :
  LStep base w w' l V { V with mn:=mn',v:=v',rv:=rv',F:=F' } { P with p:=p',recs:=recs',sure:=sure',dead:=dead' }:=by
 have hap:∀ k,k<w.heap.size->¬(JF V.J V.F V.rv k\/ZE V.B V.mb V.v k)->¬(JF V.J F' rv' k\/ZE V.B V.mb v' k):=λk hk hn hd=>by
  rcases hd with hd|hd
  ·rcases hj.newJ k hd with q|q
   ·exact hn (.inl q)
   ·omega
  ·rcases hj.newD k hd with q|q
   ·exact hn (.inr q)
   ·omega
 refine⟨⟨hj.ok,hj.only.heap h.at_ h.lj,h.st.only hj.only h.sj,h.fr.only hj.only h.fj,h.ge,h.ges,h.ls,h.lf,hap l (Zb h.at_) h.lj,h.sf,λk hk=>hap k (h.st.sd_lt k hk) (h.sj k hk),λk hk=>hap k (h.fr.lt k hk).2 (h.fj k hk)⟩,hj.only.mono (λk _ hk=>hk.elim (λh=>.inr (.inr (.inr (.inl h)))) (λh=>.inr (.inr (.inr (.inr h))))),?_⟩
 rintro k (hk|hk|hk|hk|hk)
 ·exact .inl (.inl hk)
 ·exact .inl (.inr (.inl hk))
 ·exact .inl (.inr (.inr (.inl hk)))
 ·exact(hj.newJ k hk).imp (λh=>.inr (.inr (.inr (.inl h)))) id
 ·exact(hj.newD k hk).imp (λh=>.inr (.inr (.inr (.inr h)))) id
theorem LdM.state{base:Nat}{w w':World}{l:Nat}{V:LV}{P:LP}{sI sE:Value}{m:St}(h:LdM base w l V P)(hU:Upd l (.cells #[.pointer (some ⟨V.J,0,none⟩),sI,sE,.pointer (some ⟨V.f,0,none⟩)] 124 (0,0)) w w')(ha:ArgS w (.agg #[sI,sE]) m)(hn:∀ k,SD sI sE k->base<=k/\¬LdD l V k)(B:Nat)(hB:∀ k,SD sI sE k->B<=k) :
  LdM base w' l { V with sI:=sI,sE:=sE } { P with m:=m }/\Only (LdD l V) w w'/\∀ k,LdD l { V with sI:=sI,sE:=sE } k->LdD l V k\/B<=k:=by
 have hO:Only (λk=>k=l) w w':=Only.ofUpd hU rfl
 refine⟨⟨h.jd.only hO (λk hk e=>h.lj (.inl (e▸hk))) (λk hk e=>h.lj (.inr (e▸hk))),hU.here,ha.only hO (λk hk e=>(hn k hk).2 (.inl e)),h.fr.only hO (λk hk e=>h.lf (e▸hk)),h.ge,λk hk=>(hn k hk).1,λhs=>(hn l hs).2 (.inl rfl),h.lf,h.lj,λk hk hf=>(hn k hk).2 (.inr (.inr (.inl hf))),λk hk hj=>(hn k hk).2 (.inr (.inr (.inr hj))),h.fj⟩,hO.mono (λk _ e=>.inl e),?_⟩
 rintro k (hk|hk|hk|hk|hk)
 ·exact .inl (.inl hk)
 ·exact .inr (hB k hk)
 ·exact .inl (.inr (.inr (.inl hk)))
 ·exact .inl (.inr (.inr (.inr (.inl hk))))
 ·exact .inl (.inr (.inr (.inr (.inr hk))))
theorem LdM.leaf{base:Nat}{w w':World}{l:Nat}{V:LV}{P:LP}{n':Nat}{fv':Value}{ps':List (List UInt8)}(h:LdM base w l V P)(hf:FrM base w' V.f n' fv' ps')(hO:Only (FrD V.f V.fv) w w')(hn:∀ k,fv'.ownBlock=some k->FrD V.f V.fv k\/w.heap.size<=k):LStep base w w' l V { V with fv:=fv' } { P with n:=n',ps:=ps' }:=by
 have hap:∀ k,k<w.heap.size->¬FrD V.f V.fv k->¬FrD V.f fv' k:=λk hk hn2 hd=>by
  rcases hd with rfl|hd
  ·exact hn2 (.inl rfl)
  ·rcases hn k hd with q|q
   ·exact hn2 q
   ·omega
 have hj:∀ k,FrD V.f fv' k->¬(JF V.J V.F V.rv k\/ZE V.B V.mb V.v k):=λk hk hjd=>by
  have hlt:k<w.heap.size:=by rcases hjd with q|q;exact(h.jd.jm.lt k q).2;exact(h.jd.dm.lt k q).2
  by_cases hfk:FrD V.f V.fv k
  ·exact h.fj k hfk hjd
  ·exact hap k hlt hfk hk
 refine⟨⟨h.jd.only hO (λk hk hf=>h.fj k hf (.inl hk)) (λk hk hf=>h.fj k hf (.inr hk)),hO.heap h.at_ h.lf,h.st.only hO (λk hk=>h.sf k hk),hf,h.ge,h.ges,h.ls,hap l (Zb h.at_) h.lf,h.lj,λk hk=>hap k (h.st.sd_lt k hk) (h.sf k hk),h.sj,hj⟩,hO.mono (λk _ hk=>.inr (.inr (.inl hk))),?_⟩
 rintro k (hk|hk|hk|hk|hk)
 ·exact .inl (.inl hk)
 ·exact .inl (.inr (.inl hk))
 ·rcases hk with rfl|hk
  ·exact .inl (.inr (.inr (.inl (.inl rfl))))
  ·exact(hn k hk).imp (λh=>.inr (.inr (.inl h))) id
 ·exact .inl (.inr (.inr (.inr (.inl hk))))
 ·exact .inl (.inr (.inr (.inr (.inr hk))))
theorem JY{W:World}{b:Nat}{o:Obj}{sI sE:Value}{W':World}{m:St}(hz:W.heap[b]? = some o)(hf:FreshS W.heap.size (.agg #[sI,sE]))(ha:ArgS W' (.agg #[sI,sE]) m):∀ k,SD sI sE k->k≠b:=λk hk e=>by
 have:=hf.sd ha k hk
 have:=Zb hz
 omega
theorem Vb{w:World}{sI sE:Value}{m:St}(ha:ArgS w (.agg #[sI,sE]) m):∀ k,SD sI sE k->k≠w.heap.size:=λk hk e=>by
 have:=ha.sd_lt k hk
 omega
theorem ErrIs.zero{ea:Nat->Addr}{w:World}{v:Value}(h:ErrIs ea w v 0):v=.nilIface:=by
 rcases h with ⟨_,rfl⟩|⟨i,_,e,_⟩|⟨i,g,F,V,_,e,_⟩
 ·rfl
 ·omega
 ·omega
theorem LStep.state{base:Nat}{w w1 w2:World}{l:Nat}{V V1:LV}{P1:LP}{sI sE:Value}{m:St}(h:LStep base w w1 l V V1 P1)(hU:Upd l (.cells #[.pointer (some ⟨V1.J,0,none⟩),sI,sE,.pointer (some ⟨V1.f,0,none⟩)] 124 (0,0)) w1 w2)(ha:ArgS w1 (.agg #[sI,sE]) m)(hb:base<=w.heap.size)(hn:∀ k,SD sI sE k->w.heap.size<=k/\¬LdD l V1 k) :
  LStep base w w2 l V { V1 with sI:=sI,sE:=sE } { P1 with m:=m }:=by
 obtain⟨hs,ho,hn2⟩:=h.ok.state hU ha (λk hk=>⟨by have:=(hn k hk).1;omega,(hn k hk).2⟩) w.heap.size (λk hk=>(hn k hk).1)
 exact⟨hs,h.only.trans ho (λk hk hd=>(h.new k hd).elim id (λh=>absurd h oX)),λk hk=>(hn2 k hk).elim (h.new k) .inr⟩
theorem H4{m:St}{x:Rc}(h:(Zw m x).2=0):x.chk=0:=by
 by_cases hc:x.chk=0
 ·exact hc
 ·unfold Zw at h
  rw[if_pos hc] at h
  exact absurd h hc
theorem Lr{base:Nat}{w:World}{l:Nat}{V:LV}{P:LP}(h:LdM base w l V P)(x:Rc)(hx:x.Ok)(l1:P.m.its.length<=1000)(l2:P.m.ens.length<=1000)(hub:∀ y∈P.m.its,y.u<=1000000/\y.r<=1000000)(ea:Nat->Addr)(H:Errs 298 Zq w ea)(hn:(Zw P.m x).2≠0) :
  Calls Tryz.prog 81 #[.pointer (some ⟨l,0,none⟩),.agg x.list.toArray] w λe w'=>∃ v,e=.returned v/\ErrIs ea w' v (Zw P.m x).2/\Below w.heap.size w w':=by
 have hfo:=Hd (λW (hW:Below w.heap.size w W)=>VC (.agg #[V.sI,V.sE]) P.m x hx W (h.st.below hW nR) l1 l2 hub ea (H.below hW))
 have hlat:=h.at_
 have iR:(Tryz.prog.info? 49).map (·.size)=some x.list.toArray.size:=by rw[Rc.size hx];kernel_rfl
 obtain⟨fm,hfm⟩:∃ fm,fm=Zw P.m x:=⟨_,rfl⟩
 rw[<-hfm] at hfo hn ⊢
 obtain⟨R,hR⟩:∃ R,R=x.list.toArray:=⟨_,rfl⟩
 rw[<-hR] at hfo iR ⊢
 obtain⟨sI,hsI⟩:∃ sI,sI=V.sI:=⟨_,rfl⟩
 obtain⟨sE,hsE⟩:∃ sE,sE=V.sE:=⟨_,rfl⟩
 rw[<-hsI,<-hsE] at hfo hlat
 obtain⟨jb,hjb⟩:∃ jb,jb=V.J:=⟨_,rfl⟩
 obtain⟨fb,hfb⟩:∃ fb,fb=V.f:=⟨_,rfl⟩
 rw[<-hjb,<-hfb] at hlat
 obtain⟨w1,hw1⟩:∃ w1,w1=w.alloc (.cells R 49):=⟨_,rfl⟩
 have hB1:Below w.heap.size w w1:=by rw[hw1];exact bR.alloc nR _
 have aR:w1.heap[w.heap.size]? = some (.cells R 49 (0,0)):=by rw[hw1];exact heap_alloc_new w _
 have aL:w1.heap[l]? = some (.cells #[.pointer (some ⟨jb,0,none⟩),sI,sE,.pointer (some ⟨fb,0,none⟩)] 124 (0,0)):=(hB1.block _ (Zb hlat)).trans hlat
 have hllt:=Zb hlat
 have hs1:w1.heap.size=w.heap.size+1:=by rw[hw1];simp
 have rlA:∀ W:World,Grown w1 W->W.heap[w.heap.size]? = some (.cells R 49 (0,0)):=λW hW=>(hW.block _ (Zb aR)).trans aR
 have huA:=Tryz.underlying49
 have hzA:=iR
 have hld1:∀ W:World,Grown w1 W->W.cell? ⟨l,1,none⟩=some sI:=λW hW=>by rw[Za ((hW.block _ (Zb aL)).trans aL)];rfl
 have hld2:∀ W:World,Grown w1 W->W.cell? ⟨l,2,none⟩=some sE:=λW hW=>by rw[Za ((hW.block _ (Zb aL)).trans aL)];rfl
 have iN:(Tryz.prog.info? 28).map (·.size)=some (#[.slice none 0 0,.slice none 0 0]:Array Value).size:=kX
 replace hw1:=Hd hw1
 replace hB1:=Hd hB1
 replace aR:=Hd aR
 replace aL:=Hd aL
 replace hs1:=Hd hs1
 replace hR:=Hd hR
 replace hfm:=Hd hfm
 replace hsI:=Hd hsI
 replace hsE:=Hd hsE
 replace hjb:=Hd hjb
 replace hfb:=Hd hfb
 replace h:=Hd h
 replace H:=Hd H
 clear hlat l1 l2 hub
 go_enter Tryz.func81,Tryz.ntmps81
 go_upto_region 1 with fail
 rw[<-hw1.out]
 have hd0:Hid (Grown w1 w1.drew):=Hd (Grown.drew (Grown.refl w1))
 go_cut [5,6] from 9 to 17 (λs5 s6 wx=>∃ g sI' sE' v,s5=.pointer (some ⟨g,0,none⟩)/\s6=v/\wx.heap[g]? = some (.cells #[sI',sE'] 28 (0,0))/\w1.heap.size<=g/\ArgS wx (.agg #[sI',sE']) fm.1/\FreshS w1.heap.size (.agg #[sI',sE'])/\ErrIs ea wx v fm.2/\Grown w1 wx)
 case first=>
  refine wp_region_held_drew (S:=(Grown w1)) kX hd0.out (λhOn=>?_)
  generalize World.drew w1=wd at*
  refine tk 0 hOn ?_
  refine tk 1 hOn ?_
  refine tk 2 hOn ?_
  refine tk 3 hOn ?_
  refine tk 4 hOn ?_ (v:=Value.agg _) (hy:=Or.inl ⟨by rfl,λW hSW=>ZO _ _ rfl _ _ _ rfl (rlA W hSW) huA rfl hzA⟩)
  refine rds [5,9] ?_
  refine ac (λKz hKz=>?_) ?_
  go_simp
  (with_reducible refine(hfo.out _ (hB1.out.trans (hOn.mono hB1.out.size))).mono ?_)
  rintro e w4 ⟨vm,v4,rfl,hm4,hv4,hnew,hf4⟩
  obtain⟨a4,c4,a5,c5,hvm⟩:=hm4.shape
  subst hvm
  (try have hgS:=Hd (JY hZ.out hf4 hm4))
  replace hf4:=Hd (hf4.mono hOn.size)
  replace hm4:=Hd hm4
  replace hv4:=Hd hv4
  (try replace hZ:=Hd ((hnew.block _ (Zb hZ.out)).trans hZ.out))
  focus (go_wp2_with fail)
  refine hKz.out _ _ (Below.trans hOn (Below.mono hnew (Below.size hOn))) ?_
  clear hKz Kz hOn
  intro hOn
  try clear hnew
  try simp only[Act.put,sL,sZ,sS]
  refine tk 6 hOn ?_
  refine tk 7 hOn ?_
  refine tk 8 hOn ?_
  refine rd 9 (λKz hKz=>?_)
  go_simp
  focus (try go_wp2_with fail)
  (with_reducible refine ZC (t:=28) ?_)
  have hZg:=Hd hOn.size
  (try have hgS:=Hd (Vb hm4.out))
  intro wZ hZ hnew
  (try replace hm4:=Hd (hm4.out.below hnew nR))
  (try replace hv4:=Hd (hv4.out.below hnew))
  refine hKz.out _ _ (Below.trans hOn (Below.mono hnew (Below.size hOn))) ?_
  clear hKz Kz hOn
  intro hOn
  try clear hnew
  try simp only[Act.put,sL,sZ,sS]
  refine rd 10 (λKz hKz=>?_)
  rw[if_pos (by rfl)]
  (with_reducible refine Zs 28 (.tmp 5) (.tmp 16) rfl _ #[.slice none 0 0,.slice none 0 0] #[.slice a4 fm.1.its.length c4,.slice a5 fm.1.ens.length c5] rfl rfl hZ kX rfl (by simp[Value.oneCell']) ?_)
  intro w9 hU9
  have hS:=Below.trans hOn (hU9.out.below hZg.out)
  have hm9:=Hd (hm4.out.only (Only.ofUpd (D:=λk=>k=_) hU9.out rfl) (λk hk e=>hgS.out k hk e))
  have hv9:=Hd (hv4.out.updS hU9.out hZ.out dX)
  have hg9:=Hd hU9.out.here
  refine hKz.out _ _ hS ?_
  clear hKz Kz hOn hS
  intro hOn
  try simp only[Act.put]
  refine tk 11 hOn ?_
  refine dnE ?_
  rotate_left
  refine ac (λKz hKz=>?_) AllReadyH.nil
  go_simp
  focus (try go_wp2_with fail)
  (with_reducible refine ZC (t:=28) ?_)
  have hZg:=Hd hOn.size
  (try have hgS:=Hd (Vb hm4.out))
  intro wZ hZ hnew
  (try replace hm4:=Hd (hm4.out.below hnew nR))
  (try replace hv4:=Hd (hv4.out.below hnew))
  refine hKz.out _ _ (Below.trans hOn (Below.mono hnew (Below.size hOn))) ?_
  clear hKz Kz hOn
  intro hOn
  try clear hnew
  try simp only[Act.put,sL,sZ,sS]
  refine rd 5 (λKz hKz=>?_)
  go_simp
  (with_reducible refine(hfo.out _ (hB1.out.trans (hOn.mono hB1.out.size))).mono ?_)
  rintro e w4 ⟨vm,v4,rfl,hm4,hv4,hnew,hf4⟩
  obtain⟨a4,c4,a5,c5,hvm⟩:=hm4.shape
  subst hvm
  (try have hgS:=Hd (JY hZ.out hf4 hm4))
  replace hf4:=Hd (hf4.mono hOn.size)
  replace hm4:=Hd hm4
  replace hv4:=Hd hv4
  (try replace hZ:=Hd ((hnew.block _ (Zb hZ.out)).trans hZ.out))
  focus (go_wp2_with fail)
  refine hKz.out _ _ (Below.trans hOn (Below.mono hnew (Below.size hOn))) ?_
  clear hKz Kz hOn
  intro hOn
  try clear hnew
  try simp only[Act.put,sL,sZ,sS]
  refine tk 6 hOn ?_
  refine tk 7 hOn ?_
  refine tk 8 hOn ?_
  refine rd 10 (λKz hKz=>?_)
  rw[if_pos (by rfl)]
  (with_reducible refine Zs 28 (.tmp 5) (.tmp 16) rfl _ #[.slice none 0 0,.slice none 0 0] #[.slice a4 fm.1.its.length c4,.slice a5 fm.1.ens.length c5] rfl rfl hZ kX rfl (by simp[Value.oneCell']) ?_)
  intro w9 hU9
  have hS:=Below.trans hOn (hU9.out.below hZg.out)
  have hm9:=Hd (hm4.out.only (Only.ofUpd (D:=λk=>k=_) hU9.out rfl) (λk hk e=>hgS.out k hk e))
  have hv9:=Hd (hv4.out.updS hU9.out hZ.out dX)
  have hg9:=Hd hU9.out.here
  refine hKz.out _ _ hS ?_
  clear hKz Kz hOn hS
  intro hOn
  try simp only[Act.put]
  refine tk 11 hOn ?_
  refine dnE ?_
  all_goals
   go_wp2_with fail
   go_meet
   exact⟨_,_,_,_,rfl,rfl,hg9.out,hZg.out,hm9.out,hf4.out,hv9.out,hOn⟩
 case rest=>
  obtain⟨g,sI',sE',v,rfl,rfl,hg,hg1,hm',hf',hv',hgr'⟩:=hcut
  have hnq:=hv'.neq
  have hgd:=hv'.guard
  rw[show (fm.2 != 0)=true from by simpa using hn] at hnq
  have hfin:=Hd (hB1.out.trans (hgr'.mono hB1.out.size))
  replace hv':=Hd hv'
  clear hn hm' hf' hg hgr' rlA hld1 hld2
  go_wp2_with fail
  go_ret
  exact⟨_,rfl,hv'.out,hfin.out⟩
end Go.Proofs.YtpdhceiodgnbmaaGreatDoor
