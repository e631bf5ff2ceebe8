import Derived.Test.YtpdhceiodgnbmaaGreatDoorF0FollowsSaid
import Derived.Test.YtpdhceiodgnbmaaGreatDoorF1FollowsSaid
import Derived.Test.YtpdhceiodgnbmaaGreatDoorF5FollowsSaid
import Derived.Deep.LoopGhost
import Derived.Test.YtpdhceiodgnbmaaGreatDoorF6FollowsSaid
import Derived.Test.YtpdhceiodgnbmaaGreatDoorF22FollowsSaid
import Derived.Test.YtpdhceiodgnbmaaGreatDoorF10FollowsSaid
import Derived.Test.YtpdhceiodgnbmaaGreatDoorF7FollowsSaid
import Derived.Test.YtpdhceiodgnbmaaGreatDoorF3FollowsSaid
import Derived.Test.YtpdhceiodgnbmaaGreatDoorF11FollowsSaid
import Derived.Deep.CutRange
set_option linter.unusedVariables false
set_option linter.unusedSimpArgs false
set_option linter.unnecessarySimpa false
set_option maxRecDepth 100000
set_option maxHeartbeats 8000000
namespace Go.Proofs.YtpdhceiodgnbmaaGreatDoor
open Go.RowKit
def Ny(n:Int):Nat:=(n % 18446744073709551616).toNat
def QL(n:Int)(j:Nat):UInt8:=UInt8.ofNat (Ny n / 2 ^ (8*(7-j)))
def Yq(n:Int):List UInt8:=(List.range 8).map (QL n)
theorem XS(n:Int):(Yq n).length=8:=by simp[Yq]
theorem GS(n:Int)(k:Nat)(hk:k<8):n / ((2 ^ (8*(7-k)):Nat):Int) % 256=((QL n k).toNat:Int):=by
 unfold QL
 rw[UInt8.toNat_ofNat']
 obtain⟨m,hm⟩:∃ m:Int,n=(Ny n:Int)+18446744073709551616*m:=⟨n / 18446744073709551616,by unfold Ny;omega⟩
 generalize Ny n=u at*
 rw[hm]
 have h:k=0\/k=1\/k=2\/k=3\/k=4\/k=5\/k=6\/k=7:=oX
 rcases h with rfl|rfl|rfl|rfl|rfl|rfl|rfl|rfl<;>simp<;>omega
theorem NP(n:Int)(k:Nat):(List.range (k+1)).map (QL n)=(List.range k).map (QL n)++[QL n k]:=by simp[List.range_succ]
section
variable {w:World} {ops:Array Oper} {rest:List Oper} {o:Oper} {a:Act} {Q:Exit->Act->World->Prop}
theorem Hg(hgd:o.guard=none)(s x:Operand)(ho:o.op=.call { callee:=.builtin .append,args:=#[s,x],argTypes:=#[24,24] })
  (base:Nat) (v:Value) (bs:List UInt8) (hs:a.eval s=v) (hown:Hid (OwnB base w v bs))
  (u:UInt8) (z:Int) (hz:z=(u.toNat:Int)) (hx:a.eval x=.slice (some ⟨w.heap.size,0,none⟩) 1 1) (hl:bs.length<=1000000) (hbase:base<=w.heap.size)
  (h:∀ v' w',Hid (OwnB base w' v' (bs++[u]))->Hid (Below base w w')->wpList Tryz.prog ops Q rest (a.put o.dst v') w') :
  wpList Tryz.prog ops Q (o::rest) a (w.alloc (.cells #[.int .u8 z] 5)):=by
 subst hz
 exact KO hgd s x ho base v bs hs hown u hx hl hbase h
end
theorem VJ(n:Int)(w:World)(h1 : -9223372036854775808<=n)(h2:n<=9223372036854775807) :
  Calls Tryz.prog 142 #[.int .i64 n] w λe w'=>∃ v,e=.returned v/\OwnB w.heap.size w' v (Yq n)/\Below w.heap.size w w':=by
 have h0:=Hd (OwnB.nil w.heap.size w)
 have hby:=Hd (GS n)
 have hsc:=Hd (NP n)
 have hend:=Hd (show (List.range 8).map (QL n)=Yq n from rfl)
 replace h1:=Hd h1
 replace h2:=Hd h2
 go_enter Tryz.func142,Tryz.ntmps142
 go_wp2_with fail
 go_loopw [3,4] (λv j wr=>∃ k:Nat,k<=8/\j=.int .i64 (7-(k:Int))/\OwnB w.heap.size wr v ((List.range k).map (QL n))/\Below w.heap.size w wr)
  (λ_ j _=>(intOf j+8).toNat)
 case atStart=>exact⟨0,Nat.zero_le _,rfl,h0.out,Below.refl _ _⟩
 case round=>
  clear h0
  obtain⟨k,hk,rfl,hown,hbel⟩:=hrel
  have hsz:=hbel.size
  replace hown:=Hd hown
  replace hbel:=Hd hbel
  by_cases hlt:k<8
  ·have hll:((List.range k).map (QL n)).length<=1000000:=by rw[List.length_map,List.length_range];omega
   have hge:(0:Int)<=7-(k:Int):=oX
   have hb:=Hd (hby.out k hlt)
   have hs:=Hd (hsc.out k)
   generalize (List.range k).map (QL n)=T at*
   go_wp2_with (at_builtin;go_must (refine Hg rfl (.tmp 9) (.tmp 15) rfl w.heap.size _ T rfl hown (QL n k) _ ?hz rfl hll hsz ?_))
   case hz=>exact hb.out
   intro v5 w5 ho5 hd5
   have hb5:=Hd (hbel.out.trans hd5.out)
   go_wp2_with fail
   go_roundw
   case rel=>exact⟨k+1,oX,by go_num,by rw[hs.out];exact ho5.out,hb5.out⟩
   case measure=>simp[intOf];omega
  ·obtain rfl:k=8:=oX
   have hlt7:¬(0:Int)<=7-((8:Nat):Int):=oX
   go_wp2_with fail
   go_ret
   exact⟨_,rfl,by rw[<-hend.out];exact hown.out,hbel.out⟩
theorem T0{w w':World}{b:Nat}{o:Obj}(h:w.heap[b]? = some o)(hg:Grown w w'):w'.heap[b]? = some o:=(hg.block b (Zb h)).trans h
theorem Kn{a b:World}{C:World->Prop}(k:∀ W,Grown a W->C W)(h:Grown a b):∀ W,Grown b W->C W:=λW hW=>k W (Grown.trans h hW)
theorem VB{base g:Nat}{w:World}{x:UInt8}(h:w.heap[g]? = some (.cells #[.int .u8 (x.toNat:Int)] 5 (0,0)))(hg:base<=g):OwnB base w (.slice (some ⟨g,0,none⟩) 1 1) [x]:=
 ⟨rfl,.inr ⟨g,1,#[.int .u8 (x.toNat:Int)],rfl,hg,h,Nat.le_refl _,by unfold maxLen;omega,rfl,rfl⟩⟩
theorem Ku{g:Nat}{w:World}{x:UInt8}(h:w.heap[g]? = some (.cells #[.int .u8 (x.toNat:Int)] 5 (0,0))):ArgB w (some ⟨g,0,none⟩) 1 [x]:=by
 obtain⟨a,c,e,h2,_⟩:=(VB (base:=0) h (Nat.zero_le _)).arg
 cases e
 exact h2
theorem JZ(x:Int)(w:World):Calls Tryz.prog 92 #[.int .i64 x] w λe w'=>e=.returned (.bool (!inB x 0 1099511627776))/\w=w':=by
 by_cases h1:x<0
 ·have hn:inB x 0 1099511627776=false:=by unfold inB;simp;omega
  rw[hn]
  go_enter Tryz.func92,Tryz.ntmps92
  go_wp2_with fail
  go_ret
  exact⟨rfl,rfl⟩
 ·by_cases h2:1099511627776<x
  ·have hn:inB x 0 1099511627776=false:=by unfold inB;simp;omega
   rw[hn]
   have h3:decide (1099511627776<x)=true:=by simpa using h2
   clear h2
   go_enter Tryz.func92,Tryz.ntmps92
   go_wp2_with fail
   go_ret
   exact⟨rfl,rfl⟩
  ·have hn:inB x 0 1099511627776=true:=by unfold inB;simp;omega
   rw[hn]
   go_enter Tryz.func92,Tryz.ntmps92
   go_wp2_with fail
   go_ret
   exact⟨rfl,rfl⟩
section
variable (s n k d t r:Int) (F:ByteArray) (V:Int) (i:Nat) (ea:Nat->Addr) (w:World)
def b8(z:Int):UInt8:=UInt8.ofNat (z % 256).toNat
theorem X8(z:Int)(h:0<=z/\z<=255):((b8 z).toNat:Int)=z:=by unfold b8;simp;omega
theorem Ks(z:Int):((b8 z).toNat:Int)=z % 256:=by unfold b8;simp;omega
theorem Mu(w:World)(t:TypeId)(bs:List UInt8)(cs:Array Value)(h:cs=(cB bs).toArray)(hl:bs.length<=1000000):ArgB (w.alloc (.cells cs t)) (some ⟨w.heap.size,0,none⟩) bs.length bs:=by
 subst h
 refine⟨Nat.le_refl _,(by unfold maxLen;omega),(λe=>by cases e),λi hi=>⟨_,_,rfl,?_⟩⟩
 rw[Za (heap_alloc_new w _)]
 simp[cB,hi]
def Y2:List UInt8:=[b8 (s / 256),b8 s,b8 n,b8 k,b8 (d / 256),b8 d,b8 (t / 256),b8 t,b8 r]
theorem G8(h:Ut s n k d t r):(#[.int .u8 (s / 256),.int .u8 (s % 256),.int .u8 n,.int .u8 k,.int .u8 (d / 256),.int .u8 (d % 256),.int .u8 (t / 256),.int .u8 (t % 256),.int .u8 r]:Array Value)=(cB (Y2 s n k d t r)).toArray:=by
 obtain⟨hs,hn,hk,hd,ht,hr⟩:=h
 simp only[cB,Y2,List.map]
 rw[X8 (s / 256) oX,Ks s,X8 n oX,X8 k oX,X8 (d / 256) oX,Ks d,X8 (t / 256) oX,Ks t,X8 r oX]
theorem TO(h:Ut s n k d t r)(z:Nat->Addr)(hE:ParErrs w z) :
  Calls Tryz.prog 143 #[.agg #[.int .i64 s,.int .i64 n,.int .i64 k,.int .i64 d,.int .i64 t,.int .i64 r]] w λe w'=>∃ b,e=.returned (.tuple #[.slice (some ⟨b,0,none⟩) 9 9,.nilIface])/\ArgB w' (some ⟨b,0,none⟩) 9 (Y2 s n k d t r)/\Below w.heap.size w w':=by
 obtain⟨hs,hn,hk,hd,ht,hr⟩:=id h
 have hb1:=Hd ((Below.refl w.heap.size w).alloc nR (.cells #[.int .i64 s,.int .i64 n,.int .i64 k,.int .i64 d,.int .i64 t,.int .i64 r] 45))
 have hp:=Hd (heap_alloc_new w (.cells #[.int .i64 s,.int .i64 n,.int .i64 k,.int .i64 d,.int .i64 t,.int .i64 r] 45))
 have hcall:=Hd (HB s n k d t r h z _ (hE.below hb1.out))
 clear h
 go_enter Tryz.func143,Tryz.ntmps143
 go_wp2_with (refine Ze rfl 45 (.tmp 1) rfl w.heap.size #[.int .i64 s,.int .i64 n,.int .i64 k,.int .i64 d,.int .i64 t,.int .i64 r] _ rfl hp Tryz.underlying45 rfl kX ?_)
 with_reducible refine hcall.out.mono ?_
 rintro e w1 ⟨rfl,hb2⟩
 replace hp:=Hd ((hb2.block _ sX).trans hp.out)
 replace hb1:=Hd (hb1.out.trans (hb2.mono hb1.out.size))
 obtain⟨c0,c1,c2,c3,c4,c5⟩:=YQ hp.out
 clear hb2 hcall
 go_wp2_with fail
 go_ret2
 exact⟨_,rfl,Mu w1 _ (Y2 s n k d t r) _ (G8 s n k d t r ⟨hs,hn,hk,hd,ht,hr⟩) (by simp[Y2]),hb1.out.alloc hb1.out.size _⟩
end
theorem ZN{w:World}{b:Nat}{C:Array Value}{t:TypeId}{fz:Nat×Nat}(hb:w.heap[b]? = some (.cells C t fz)){o n:Nat}{B:List Value}(h:(C.toList.drop o).take n=B):w.rangeAt b o B:=λj v hv=>by
 rw[Za hb]
 rw[<-h,List.getElem?_take] at hv
 split at hv
 ·rw[List.getElem?_drop,Array.getElem?_toList] at hv
  exact hv
 ·cases hv
def Rc.vals(x:Rc):List Value:=[.int .i64 x.kind,.int .i64 x.obj,.int .i64 x.id,.string x.name,.agg x.p.list.toArray,.agg (cB x.root).toArray,.agg (cB x.file).toArray,.int .i64 x.way,.int .i64 x.index,.int .i64 x.verdict,.int .i64 x.tick]
theorem Rc.vals_flat(x:Rc):x.vals.flatMap (·.cells.toList)=x.list:=by simp[Rc.vals,Value.cells,Rc.list]
theorem P6.list_len(p:P6):p.list.length=6:=rfl
theorem HO(x:Rc)(hx:x.Ok)(W:World):(Instr.build 54 #[(0,.int .i64 x.kind),(1,.int .i64 x.obj),(2,.int .i64 x.id),(3,.string x.name),(4,.agg x.p.list.toArray),(5,.agg (cB x.root).toArray),(6,.agg (cB x.file).toArray),(7,.int .i64 x.way),(8,.int .i64 x.index),(9,.int .i64 x.verdict),(10,.int .i64 x.tick)]).run Tryz.prog W=.ok (.agg x.list.toArray) W:=by
 refine run_build W _ _ _ ?_
 rw[<-Rc.vals_flat]
 exact JS (P:=Tryz.prog) (t:=54) (n:=78) (places:=[(0,1),(1,1),(2,1),(3,1),(4,6),(10,32),(42,32),(74,1),(75,1),(76,1),(77,1)]) kX Tryz.underlying54 kX x.vals (by simp[Xf,Rc.vals,Value.cells,P6.list_len,Zd,hx.root,hx.file]) (by simp[Rc.vals,Value.cells,P6.list_len,Zd,hx.root,hx.file])
theorem Ty(x:Rc)(hx:x.Ok)(w:World):Calls Tryz.prog 15 #[.agg x.list.toArray] w λe w'=>e=.returned (.agg x.list.toArray)/\Below w.heap.size w w':=by
 have hs:=Rc.size hx
 have r0:=Rc.at0 x
 have r1:=Rc.at1 x
 have r2:=Rc.at2 x
 have r3:=Rc.at3 x
 have r74:=Rc.at74 hx
 have r75:=Rc.at75 hx
 have r76:=Rc.at76 hx
 have r77:=Rc.at77 hx
 have hbd:=λW=>HO x hx W
 have s4:((x.list.toArray).toList.drop 4).take 6=x.p.list:=Rc.sub_p x
 have s5:((x.list.toArray).toList.drop 10).take 32=cB x.root:=Rc.sub_root hx.root
 have s6:((x.list.toArray).toList.drop 42).take 32=cB x.file:=Rc.sub_file hx.root hx.file
 have i4:(Tryz.prog.info? 45).map (·.size)=some x.p.list.length:=by rw[P6.len];kernel_rfl
 have i5:(Tryz.prog.info? 47).map (·.size)=some (cB x.root).length:=by rw[Zd,hx.root];kernel_rfl
 have i6:(Tryz.prog.info? 47).map (·.size)=some (cB x.file).length:=by rw[Zd,hx.file];kernel_rfl
 have i8:(Tryz.prog.info? 54).map (·.size)=some x.list.toArray.size:=by rw[hs];kernel_rfl
 have z8:(Tryz.zeroCells54).size=x.list.toArray.size:=by rw[hs];kernel_rfl
 have hVo:=Rc.all_one x
 have hup:=Tryz.underlying45
 have hud:=Tryz.underlying47
 have hu8:=Tryz.underlying54
 obtain⟨PP,hPP⟩:∃ PP,PP=x.p.list.toArray:=⟨_,rfl⟩
 obtain⟨DD,hDD⟩:∃ DD,DD=(cB x.root).toArray:=⟨_,rfl⟩
 obtain⟨EE,hEE⟩:∃ EE,EE=(cB x.file).toArray:=⟨_,rfl⟩
 rw[<-hPP,<-hDD,<-hEE] at hbd
 generalize hR:x.list.toArray=R at*
 have hX3:Hid (((w.alloc (.cells R 49)).alloc (.cells Tryz.zeroCells54 54)).heap[w.heap.size]? = some (.cells R 49 (0,0))):=Hd (by
  rw[ZX,if_neg sX,ZX,if_pos rfl])
 have hZ3:Hid (((w.alloc (.cells R 49)).alloc (.cells Tryz.zeroCells54 54)).heap[w.heap.size+1]? = some (.cells Tryz.zeroCells54 54 (0,0))):=Hd (by
  rw[ZX,if_pos sX])
 have hb:Hid (Below w.heap.size w ((w.alloc (.cells R 49)).alloc (.cells Tryz.zeroCells54 54))):=Hd ((bR.alloc nR _).alloc sX _)
 have hr4:=Hd (ZN hX3.out s4)
 have hr5:=Hd (ZN hX3.out s5)
 have hr6:=Hd (ZN hX3.out s6)
 replace hPP:=Hd hPP
 replace hDD:=Hd hDD
 replace hEE:=Hd hEE
 replace hbd:=Hd hbd
 clear s4 s5 s6 hR hX3
 generalize x.p.list=lp at*
 generalize cB x.root=lr at*
 generalize cB x.file=lf at*
 generalize x.kind=v0 at*
 generalize x.obj=v1 at*
 generalize x.id=v2 at*
 generalize x.name=v3 at*
 generalize x.way=v7 at*
 generalize x.index=v8 at*
 generalize x.verdict=v9 at*
 generalize x.tick=v10 at*
 clear hx
 go_enter Tryz.func15,Tryz.ntmps15
 go_wp2_with (first
  | ((with_reducible refine wL (.load 45 (.tmp 11)) ?_);refine wpList_load_mid rfl 45 (.tmp 11) rfl w.heap.size 4 rfl lp _ hr4.out hup rfl i4 ?_;rw[<-hPP.out])
  | ((with_reducible refine wL (.load 47 (.tmp 13)) ?_);refine wpList_load_mid rfl 47 (.tmp 13) rfl w.heap.size 10 rfl lr _ hr5.out hud rfl i5 ?_;rw[<-hDD.out])
  | ((with_reducible refine wL (.load 47 (.tmp 15)) ?_);refine wpList_load_mid rfl 47 (.tmp 15) rfl w.heap.size 42 rfl lf _ hr6.out hud rfl i6 ?_;rw[<-hEE.out])
  | ((with_reducible refine wL (.build 54 _) ?_);refine ZM rfl 54 [(0,.tmp 4),(1,.tmp 6),(2,.tmp 8),(3,.tmp 10),(4,.tmp 12),(5,.tmp 14),(6,.tmp 16),(7,.tmp 18),(8,.tmp 20),(9,.tmp 22),(10,.tmp 24)] rfl [(0,.int .i64 v0),(1,.int .i64 v1),(2,.int .i64 v2),(3,.string v3),(4,.agg PP),(5,.agg DD),(6,.agg EE),(7,.int .i64 v7),(8,.int .i64 v8),(9,.int .i64 v9),(10,.int .i64 v10)] rfl _ (hbd.out _) ?_)
  | ((with_reducible refine wL (.store 54 (.tmp 2) _) ?_);(refine Zc rfl 54 (.tmp 2) (.tmp 25) rfl (w.heap.size+1) _ R rfl rfl hZ3 i8 z8 hVo ?_);intro w8 hU8))
 exact Z7 rfl rfl hu8 rfl i8 hU8.out.here ⟨rfl,hb.out.trans (hU8.out.below (Nat.le_succ _))⟩
def Rc.head(x:Rc):List UInt8:=b8 x.kind::Yq x.obj
def Rc.out(x:Rc):List UInt8:=
 if x.kind=1 then x.head++([b8 (x.name.size:Int)]++(x.name.data.toList++(Y2 x.p.s x.p.n x.p.k x.p.d x.p.t x.p.r++(x.root++(x.file++Yq x.tick)))))
 else if x.kind=2 then x.head++(Yq x.id++([b8 x.way]++((Yq x.index).drop 4++Yq x.tick)))
 else if x.kind=3 then x.head++(Yq x.id++([b8 x.verdict]++Yq x.tick))
 else x.head++Yq x.tick
theorem Rc.chk0{x:Rc}(h:x.chk=0):(1<=x.kind/\x.kind<=4)/\x.nums=true/\x.bare=Rc.zero/\(x.kind=1->Yp x.name.data.toList=true/\Qp x.p.s x.p.n x.p.k x.p.d x.p.t x.p.r=none):=by
 unfold Rc.chk at h
 split at h
 ·cases h
 ·next h1=>
  split at h
  ·cases h
  ·next h2=>
   refine⟨oX,by simpa using h2,?_⟩
   split at h
   ·split at h
    ·cases h
    ·next h3=>
     split at h
     ·omega
     ·next h4=>
      split at h
      ·next h5=>exact⟨h5,λ_=>⟨by simpa using h3,h4⟩⟩
      ·cases h
   ·next h3=>
    split at h
    ·next h5=>exact⟨h5,λe=>absurd e h3⟩
    ·cases h
theorem Rc.kept(x:Rc)(hx:x.Ok)(T:TypeId)(W:World)(b:Nat)(h:W.heap[b]? = some (.cells x.list.toArray T (0,0)))(W2:World)(hW:Grown W W2) :
  W2.cell? ⟨b,0,none⟩=some (.int .i64 x.kind)/\W2.cell? ⟨b,1,none⟩=some (.int .i64 x.obj)/\W2.cell? ⟨b,2,none⟩=some (.int .i64 x.id)/\W2.cell? ⟨b,3,none⟩=some (.string x.name)/\
  W2.cell? ⟨b,74,none⟩=some (.int .i64 x.way)/\W2.cell? ⟨b,75,none⟩=some (.int .i64 x.index)/\W2.cell? ⟨b,76,none⟩=some (.int .i64 x.verdict)/\W2.cell? ⟨b,77,none⟩=some (.int .i64 x.tick):=by
 have h2:=T0 h hW
 refine⟨?_,?_,?_,?_,?_,?_,?_,?_⟩
 all_goals rw[Za h2,List.getElem?_toArray]
 ·exact x.c0
 ·exact x.c1
 ·exact x.c2
 ·exact x.c3
 ·exact Rc.c74 hx.root hx.file
 ·exact Rc.c75 hx.root hx.file
 ·exact Rc.c76 hx.root hx.file
 ·exact Rc.c77 hx.root hx.file
theorem PG(x:Rc)(hx:x.Ok)(hc:x.chk=0)(ea:Nat->Addr)(w:World)(H:Errs 298 Zv w ea):Calls Tryz.prog 39 #[.agg x.list.toArray] w λe w2=>e=.returned .nilIface/\Below w.heap.size w w2:=by
 refine(UD x hx ea w H).mono ?_
 rintro e w2 ⟨v,rfl,hv,hb⟩
 rw[hc] at hv
 rcases hv with ⟨_,rfl⟩|⟨i,_,h,_⟩|⟨i,g,F,V,_,h,_⟩
 ·exact⟨rfl,hb⟩
 ·cases h
 ·cases h
theorem Nl(b:Nat)(ps:List (List UInt8))(n:Nat)(w:World)(hA:RowsAt w b ps)(hn:ps.length=n)(hm:n<=100)(h1:1<=ps.flatten.length)(h2:ps.flatten.length<=1000000) :
  Calls Tryz.prog 140 #[.slice (some ⟨b,0,none⟩) n n] w λe w2=>∃ v,e=.returned v/\OwnB w.heap.size w2 v ps.flatten/\Below w.heap.size w w2:=by
 subst hn
 exact Vl b ps w hA oX h1 h2
def UZ(x:Rc)(w:World)(e:Ending)(w2:World):Prop:=∃ v,e=.returned (.tuple #[v,.nilIface])/\OwnB w.heap.size w2 v x.out/\Below w.heap.size w w2
end Go.Proofs.YtpdhceiodgnbmaaGreatDoor
