import Derived.Test.YtpdhceiodgnbmaaGreatDoorF0FollowsSaid
import Derived.Test.YtpdhceiodgnbmaaGreatDoorF1FollowsSaid
import Derived.Test.YtpdhceiodgnbmaaGreatDoorF30FollowsSaid
import Derived.Test.YtpdhceiodgnbmaaGreatDoorF3FollowsSaid
import Derived.Test.YtpdhceiodgnbmaaGreatDoorF2FollowsSaid
import Derived.Test.YtpdhceiodgnbmaaGreatDoorF11FollowsSaid
import Derived.Test.YtpdhceiodgnbmaaGreatDoorF37FollowsSaid
import Derived.Test.YtpdhceiodgnbmaaGreatDoorF31FollowsSaid
import Derived.Test.YtpdhceiodgnbmaaGreatDoorF5FollowsSaid
import Derived.Test.YtpdhceiodgnbmaaGreatDoorF21FollowsSaid
import Derived.Test.YtpdhceiodgnbmaaGreatDoorF36FollowsSaid
import Derived.Test.YtpdhceiodgnbmaaGreatDoorF34FollowsSaid
import Derived.Test.YtpdhceiodgnbmaaGreatDoorF13FollowsSaid
set_option linter.unusedVariables false
set_option linter.unusedSimpArgs false
set_option linter.unnecessarySimpa false
set_option maxRecDepth 100000
set_option maxHeartbeats 8000000
namespace Go.Proofs.YtpdhceiodgnbmaaGreatDoor
open Go.RowKit
section
variable {α:Type} {en:α->List Value} {e:TypeId} {size base:Nat} {w:World} {P:Program} {ops:Array Oper} {rest:List Oper} {o:Oper} {a:Act} {Q:Exit->Act->World->Prop} {K:Act->World->Prop}
theorem Gs{g:Nat}{xs:List α}{ad:Option Addr}{c:Nat}(t ty:TypeId)(ht:P.underlying t=some (.slice e))(bytes:Nat)(hi:(P.info? e).map (λi=>(i.zero.map (·.cells.size),i.size,i.bytes))=some (some size,size,bytes))(hsz:0<size)
  (h:RowAt en size w ad xs) (hlen:∀ y∈xs,(en y).length=size) (hone:∀ y∈xs,∀ u∈en y,u.oneCell'=true) (hg:w.heap[g]? = some (.cells #[] e (0,0))) (hbg:base<=g) (hl:xs.length<=1000000) (hb8:bytes<=10000) :
  ∃ v' w',(Builtin.append_ #[t,t] ty #[.slice (some ⟨g,0,none⟩) 0 0,.slice ad xs.length c]).run P w=.ok v' w'/\w'.ownsRow base e size v' xs.length (xs.flatMap en)/\Only (λk=>k=g) w w'/\∀ k,v'.ownBlock=some k->k=g\/k=w.heap.size:=by
 obtain⟨ie,hie,h2⟩:=Option.map_eq_some_iff.1 hi
 simp only[Prod.mk.injEq] at h2
 obtain⟨hz,hs1,hby⟩:=h2
 obtain⟨z,hz1,hz2⟩:=Option.map_eq_some_iff.1 hz
 have hgl:=Zb hg
 have hown:=N8 (size:=size) hg hbg
 cases ad with
 | none=>
  have hx0:xs=[]:=by
   cases xs with
   | nil=>rfl
   | cons x xs=>obtain⟨b,o,e,_⟩:=h 0 sX;cases e
  subst hx0
  refine⟨_,w,?_,by simpa using hown,Only.refl _ _,λk hk=>.inl (by simpa[Value.ownBlock] using hk.symm)⟩
  simp[Builtin.append_,run_underlying ht,sizeOf,typeInfo,hie,Builtin.lenOf,Builtin.firstCells,storeCells]
 | some ad=>
  have hcells:∀ j u,(xs.flatMap en)[j]? = some u->w.cell? (ad.add j)=some u:=λj u hu=>by
   cases xs with
   | nil=>simp at hu
   | cons x0 xt=>
    obtain⟨b,o,e,_⟩:=h 0 sX
    cases e
    rw[Addr.add_mid]
    exact Jp hsz hlen (λk hk=>by obtain⟨b',o',e',h'⟩:=h k hk;cases e';exact h') j u hu
  obtain⟨v',w',hr,m1,m2,_,m4⟩:=run_append_own_at (P:=P) w base t ty e ie z size bytes ht hie hz1 hs1 hby hz2 hsz _ 0 [] hown ad xs.length c (xs.flatMap en) (Yh xs hlen) hcells (λu hu=>by
   obtain⟨y,hy,hu2⟩:=List.mem_flatMap.1 hu
   exact hone y hy u hu2) (by unfold maxLen;omega)
   (by rw[Nat.zero_add];exact Nat.le_trans (Nat.mul_le_mul hl hb8) dX) oX
  rw[Nat.zero_add,List.nil_append] at m1
  refine⟨v',w',hr,m1,Only.ofGrown m2 (λk hk=>by simpa[Value.ownBlock] using hk.symm),λk hk=>?_⟩
  rcases m4 with m4|m4
  ·rw[m4] at hk;exact .inl (by simpa[Value.ownBlock] using hk.symm)
  ·rw[m4] at hk;exact .inr (by simpa using hk.symm)
theorem Vz{g:Nat}{xs:List α}{ad:Option Addr}{c N:Nat}(s x:Operand)(t:TypeId)(ho:o.op=.call { callee:=.builtin .append,args:=#[s,x],argTypes:=#[t,t] })
  (ht:P.underlying t=some (.slice e)) (bytes:Nat) (hi:(P.info? e).map (λi=>(i.zero.map (·.cells.size),i.size,i.bytes))=some (some size,size,bytes)) (hsz:0<size)
  (hx:a.eval x=.slice ad N c) (hN:xs.length=N) (h:Hid (RowAt en size w ad xs)) (hlen:Hid (∀ y∈xs,(en y).length=size)) (hone:Hid (∀ y∈xs,∀ u∈en y,u.oneCell'=true))
  (hs:a.eval s=.slice (some ⟨g,0,none⟩) 0 0) (hg:Hid (w.heap[g]? = some (.cells #[] e (0,0)))) (hbg:base<=g) (hl:xs.length<=1000000) (hb8:bytes<=10000)
  (hK:∀ v' w',Hid (w'.ownsRow base e size v' xs.length (xs.flatMap en))->Hid (Only (λk=>k=g) w w')->Hid (∀ k,v'.ownBlock=some k->k=g\/k=w.heap.size)->K (a.put o.dst v') w'):o.wp P a w K Q:=by
 subst hN
 obtain⟨v',w',hr,k1,k2,k3⟩:=Gs (c:=c) (base:=base) t o.type ht bytes hi hsz h.out hlen.out hone.out hg.out hbg hl hb8
 unfold Oper.wp execOp
 simp only[ho,resolve,invoke,builtin,Sem.run_bind,Sem.run_pure,Result.andThen_ok,List.map_toArray,List.map_cons,List.map_nil,hs,hx,hr]
 exact hK v' w' (Hd k1) (Hd k2) (Hd k3)
end
def Zw(m:St)(n:Nat)(w:World)(e:Ending)(w':World):Prop:=∃ vm,e=.returned (.tuple #[vm,.int .i64 (n:Int)])/\ArgS w' vm m/\Below w.heap.size w w'/\FreshS w.heap.size vm
theorem TC(va:Value)(m:St)(x:Rc)(hx:x.Ok)(w:World)(ha:ArgS w va m)(l1:m.its.length<=1000)(l2:m.ens.length<=1000)(hc:x.chk≠0) :
  Calls Tryz.prog 14 #[va,.agg x.list.toArray] w (Zw ⟨[],[]⟩ x.chk w):=by
 have hcf:=Hd (Rc.kept0 x hx 54)
 have hck:=λW=>JR x hx W
 obtain⟨⟨an,cn,av,cv,rfl,hN,hN1,hN2,hV,hV1,hV2⟩,okN,okV⟩:=ha
 obtain⟨N,hNl⟩:∃ N,N=m.its.length:=⟨_,rfl⟩
 obtain⟨V,hVl⟩:∃ V,V=m.ens.length:=⟨_,rfl⟩
 rw[<-hNl,<-hVl]
 have iR:(Tryz.prog.info? 54).map (·.size)=some x.list.toArray.size:=by rw[Rc.size hx];kernel_rfl
 have iO:(Tryz.prog.info? 36).map (·.size)=some (#[.slice none 0 0,.slice none 0 0]:Array Value).size:=kX
 generalize hRR:x.list.toArray=R at*
 obtain⟨aS,aR,aO,hs3,hB⟩:=Zq w #[.slice an N cn,.slice av V cv] R #[.slice none 0 0,.slice none 0 0] 36 54 36 _ rfl
 obtain⟨w3,hw3⟩:∃ w3,w3=((w.alloc (.cells #[.slice an N cn,.slice av V cv] 36)).alloc (.cells R 54)).alloc (.cells #[.slice none 0 0,.slice none 0 0] 36):=⟨_,rfl⟩
 have s0:=Za aS 0
 have s1:=Za aS 1
 obtain⟨q0,q1,q2,q3,q4,q5,q6,q7⟩:=hcf.out _ _ aR
 rw[<-hw3] at aS aR aO hB
 have hpost:Hid (∀ W,Below w.heap.size w W->Zw ⟨[],[]⟩ x.chk w (.returned (.tuple #[.agg #[.slice none 0 0,.slice none 0 0],.int .i64 ((x.chk:Nat):Int)])) W):=Hd (λW h2=>⟨_,rfl,ZC W,h2,Zz _⟩)
 have hc2:((x.chk:Int) != 0)=true:=by simpa using hc
 clear hc
 generalize x.chk=ck at*
 generalize x.obj=vo at*
 generalize x.id=vi at*
 generalize x.way=vw at*
 generalize x.index=vx at*
 generalize x.name=vn at*
 replace aS:=Hd aS
 replace aR:=Hd aR
 replace aO:=Hd aO
 replace hB:=Hd hB
 replace hw3:=Hd hw3
 replace hck:=Hd hck
 clear hRR hN hV hN1 hN2 hV1 hV2 okN okV hNl hVl l1 l2 hs3 s0 s1 q0 q1 q2 q3 q4 q5 q6 q7
 go_enter Tryz.func14,Tryz.ntmps14
 go_wp2_with ((with_reducible refine wL (.load 54 (.tmp 3)) ?_);rw[<-hw3.out];refine Ze rfl 54 (.tmp 3) rfl (w.heap.size+1) R _ rfl aR Tryz.underlying54 rfl iR ?_)
 with_reducible refine(hck.out _).mono ?_
 rintro e w4 ⟨rfl,hb⟩
 replace aS:=Hd ((hb.block _ (Zb aS.out)).trans aS.out)
 replace aR:=Hd ((hb.block _ (Zb aR.out)).trans aR.out)
 replace aO:=Hd ((hb.block _ (Zb aO.out)).trans aO.out)
 replace hB:=Hd (hB.out.trans (hb.mono hB.out.size))
 clear hb
 go_wp2_with ((with_reducible refine wL (.store 36 (.tmp 4) _) ?_);(refine Zc rfl 36 (.tmp 4) (.tmp 16) rfl (w.heap.size+2) #[.slice none 0 0,.slice none 0 0] #[.slice none 0 0,.slice none 0 0] rfl rfl aO iO rfl (by simp[Value.oneCell']) ?_);intro w9 hU9;have hS:=hB.out.trans (hU9.out.below oX);have hres:=Hd hU9.out.here)
 refine Zf rfl rfl Tryz.underlying36 rfl kX hres.out ?_
 exact hpost.out _ hS
section
variable {α β:Type} {R:World->(Nat->Prop)->α->List Value->Prop} {R':World->(Nat->Prop)->β->List Value->Prop} {e e' t:TypeId} {size size' base base' k b:Nat} {w:World} {F F':Nat->Prop} {v v':Value} {ps:List α} {qs:List β}
theorem Un(h:RowsOf R e size base w F v ps)(hk:v.ownBlock=some k):∃ c,w.heap[k]? = some (.cells c e (0,0)):=by
 obtain⟨⟨css,k1,k2,k3⟩,k4,k5⟩:=h
 rcases k2.2 with ⟨rfl,h0⟩|⟨g0,cap,cur,rfl,hb0,hh,_⟩
 ·simp[Value.ownBlock] at hk
 ·have:g0=k:=by simpa[Value.ownBlock] using hk
  subst this
  exact⟨_,hh⟩
theorem X3{a:Nat}{c c':Array Value}{f f':Nat×Nat}(h:w.heap[a]? = some (.cells c e f))(h':w.heap[b]? = some (.cells c' t f'))(ht:e≠t):a≠b:=λq=>by
 rw[q,h'] at h
 injection h with h
 injection h with _ h5 _
 exact ht h5.symm
theorem Yz{c':Array Value}{f':Nat×Nat}(h:RowsOf R e size base w F v ps)(hk:v.ownBlock=some k)(h':w.heap[b]? = some (.cells c' t f'))(ht:e≠t):k≠b:=by
 obtain⟨c,hc⟩:=Un h hk
 exact X3 hc h' ht
theorem MI(h:RowsOf R e size base w F v ps)(h':RowsOf R' e' size' base' w F' v' qs)(ht:e≠e'):∀ k,v.ownBlock=some k->v'.ownBlock≠some k:=λk hk hk'=>by
 obtain⟨c,hc⟩:=Un h' hk'
 exact Yz h hk hc ht rfl
end
structure Cp21 (m:St) (B:Nat) (wx:World) (g:Nat) (vI vE:Value):Prop where
 at_:wx.heap[g]? = some (.cells #[vI,vE] 36 (0,0))
 le:B<=g
 ri:RowsOf RI 63 76 B wx (λ_=>False) vI m.its
 re:RowsOf RE 105 7 B wx (λ_=>False) vE m.ens
section
variable {P:Program} {ops:Array Oper} {rest:List Oper} {o:Oper} {a:Act} {w:World} {Q:Exit->Act->World->Prop}
end
theorem Ph{x:Rc}(h:x.nums=true):(0<=x.obj/\x.obj<=1099511627776)/\(0<=x.tick/\x.tick<=1099511627776)/\(x.kind=2->(1<=x.way/\x.way<=2)/\(0<=x.index/\x.index<=1048576)/\(0<=x.id/\x.id<=1099511627776))/\(x.kind=3->(1<=x.verdict/\x.verdict<=3)/\(0<=x.id/\x.id<=1099511627776)):=by
 unfold Rc.nums Zp at h
 by_cases h2:x.kind=2
 ·simp[h2,inB] at h
  exact⟨oX,oX,λ_=>⟨oX,oX,oX⟩,λe=>by omega⟩
 ·by_cases h3:x.kind=3
  ·simp[h3,inB] at h
   exact⟨oX,oX,λe=>by omega,λ_=>⟨oX,oX⟩⟩
  ·simp[h2,h3,inB] at h
   exact⟨oX,oX,λe=>absurd e h2,λe=>absurd e h3⟩
theorem M0{ns:List It}{s:ByteArray}{i:Nat}(hi:i<ns.length)(h:ns[i].s=s):(Zx ns s).2=true:=by
 unfold Zx
 cases hf:ns.findIdx? (λx=>decide (x.s=s)) with
 | none=>
  have:=List.findIdx?_eq_none_iff.1 hf _ (List.getElem_mem hi)
  simp[h] at this
 | some i=>rfl
theorem XT{ns:List It}{s:ByteArray}(h:∀ i (hi:i<ns.length),ns[i].s≠s):(Zx ns s).2=false:=by
 unfold Zx
 have hf:ns.findIdx? (λx=>decide (x.s=s))=none:=by
  rw[List.findIdx?_eq_none_iff]
  intro x hx
  obtain⟨i,hi,rfl⟩:=List.getElem_of_mem hx
  exact decide_eq_false (h i hi)
 rw[hf]
theorem HT(a b c d e:Int)(W:World):(Instr.build 105 #[(0,.int .i64 a),(1,.int .i64 b),(2,.int .i64 c),(3,.int .i64 d),(4,.int .i64 e),(5,.int .i64 0),(6,.int .i64 0)]).run Tryz.prog W=.ok (.agg (⟨a,b,c,d,e,0,0⟩:En).list.toArray) W:=by
 refine run_build W _ _ _ ?_
 kernel_rfl
def Ru(m:St)(vo:Int)(fm:St×Nat):Prop:=
 ((m.its.length:Int)<=vo->fm=(⟨[],[]⟩,11))/\(∀ i (hi:i<m.its.length),vo=(i:Int)->m.its[i].k=true->fm=(⟨[],[]⟩,13))/\
 (∀ i (hi:i<m.its.length),vo=(i:Int)->m.its[i].k=false->fm=(⟨m.its.set i { m.its[i] with k:=true },m.ens⟩,0))
def Ng(m:St)(vo vi vv vt:Int)(fm:St×Nat):Prop:=
 ((m.ens.length:Int)<=vi->fm=(⟨[],[]⟩,11))/\(∀ i (hi:i<m.ens.length),vi=(i:Int)->m.ens[i].o≠vo->fm=(⟨[],[]⟩,11))/\
 (∀ i (hi:i<m.ens.length),vi=(i:Int)->m.ens[i].o=vo->m.ens[i].v≠0->fm=(⟨[],[]⟩,13))/\
 (∀ i (hi:i<m.ens.length),vi=(i:Int)->m.ens[i].o=vo->m.ens[i].v=0->fm=(⟨m.its,m.ens.set i { m.ens[i] with v:=vv,a:=vt }⟩,0))
def Nt(m:St)(vo:Int)(vn:ByteArray)(IT:It)(fm:St×Nat):Prop:=
 (∀ i (hi:i<m.its.length),m.its[i].s=vn->fm=(⟨[],[]⟩,10))/\((∀ i (hi:i<m.its.length),m.its[i].s≠vn)->4<=m.its.length->fm=(⟨[],[]⟩,12))/\
 ((∀ i (hi:i<m.its.length),m.its[i].s≠vn)->m.its.length<4->vo≠(m.its.length:Int)->fm=(⟨[],[]⟩,4))/\
 ((∀ i (hi:i<m.its.length),m.its[i].s≠vn)->m.its.length<4->vo=(m.its.length:Int)->fm=(⟨m.its++[IT],m.ens⟩,0))
def Td(m:St)(vo vi vw vx vt:Int)(fm:St×Nat):Prop:=
 ((m.its.length:Int)<=vo->fm=(⟨[],[]⟩,11))/\(∀ i (hi:i<m.its.length),vo=(i:Int)->m.its[i].k=false->fm=(⟨[],[]⟩,13))/\
 (vw=2->∀ i (hi:i<m.its.length),vo=(i:Int)->m.its[i].k=true->¬m.its[i].u<m.its[i].p.n->fm=(⟨[],[]⟩,18))/\
 (vw=2->∀ i (hi:i<m.its.length),vo=(i:Int)->m.its[i].k=true->m.its[i].u<m.its[i].p.n->(vi≠(m.ens.length:Int)\/vx≠m.its[i].u)->fm=(⟨[],[]⟩,4))/\
 (vw=2->∀ i (hi:i<m.its.length),vo=(i:Int)->m.its[i].k=true->m.its[i].u<m.its[i].p.n->vi=(m.ens.length:Int)->vx=m.its[i].u->fm=(⟨m.its.set i { m.its[i] with u:=m.its[i].u+1 },m.ens++[⟨vi,vo,vw,vx,vt,0,0⟩]⟩,0))/\
 (vw≠2->∀ i (hi:i<m.its.length),vo=(i:Int)->m.its[i].k=true->(vi≠(m.ens.length:Int)\/vx≠m.its[i].r)->fm=(⟨[],[]⟩,4))/\
 (vw≠2->∀ i (hi:i<m.its.length),vo=(i:Int)->m.its[i].k=true->vi=(m.ens.length:Int)->vx=m.its[i].r->fm=(⟨m.its.set i { m.its[i] with r:=m.its[i].r+1 },m.ens++[⟨vi,vo,vw,vx,vt,0,0⟩]⟩,0))
theorem Xc{m:St}{x:Rc}(hc:x.chk=0):Zr m x=if x.kind=1 then Q5 m x else if x.kind=2 then Yf m x else if x.kind=4 then Y9 m x else Q7 m x:=by
 unfold Zr
 rw[if_neg (by rw[hc];decide)]
theorem QP{α:Type}{l:List α}{i:Nat}(d:α)(hi:i<l.length):l.getD i d=l[i]:=by rw[List.getD_eq_getElem?_getD,List.getElem?_eq_getElem hi,Option.getD_some]
theorem PO(m:St)(x:Rc)(h0:0<=x.obj):Ru m x.obj (Y9 m x):=by
 unfold Y9
 refine⟨λh=>by rw[if_pos (.inr h)],λi hi h hk=>?_,λi hi h hk=>?_⟩
 ·rw[if_neg oX,h,Int.toNat_natCast,QP _ hi,if_pos hk]
 ·rw[if_neg oX,h,Int.toNat_natCast,QP _ hi,if_neg (by rw[hk];decide)]
theorem RY(m:St)(x:Rc)(h0:0<=x.id):Ng m x.obj x.id x.verdict x.tick (Q7 m x):=by
 unfold Q7
 refine⟨λh=>by rw[if_pos (.inr h)],λi hi h hk=>?_,λi hi h hk hv=>?_,λi hi h hk hv=>?_⟩
 ·rw[if_neg oX,h,Int.toNat_natCast,QP _ hi,if_pos hk]
 ·rw[if_neg oX,h,Int.toNat_natCast,QP _ hi,if_neg (λe=>e hk),if_pos hv]
 ·rw[if_neg oX,h,Int.toNat_natCast,QP _ hi,if_neg (λe=>e hk),if_neg (λe=>e hv)]
theorem RX(m:St)(x:Rc):Nt m x.obj x.name x.it (Q5 m x):=by
 unfold Q5
 refine⟨λi hi h=>by rw[if_pos (M0 hi h)],λh h2=>?_,λh h2 h3=>?_,λh h2 h3=>?_⟩
 ·rw[if_neg (by rw[XT h];decide),if_pos h2]
 ·rw[if_neg (by rw[XT h];decide),if_neg oX,if_pos h3]
 ·rw[if_neg (by rw[XT h];decide),if_neg oX,if_neg oX]
theorem Po(m:St)(x:Rc)(h0:0<=x.obj):Td m x.obj x.id x.way x.index x.tick (Yf m x):=by
 unfold Yf
 have n2:∀ y:It,x.way=2->ZJ y x.way=(y.u,decide (y.u<y.p.n)):=λy hw=>by unfold ZJ;rw[if_pos hw]
 have n1:∀ y:It,x.way≠2->ZJ y x.way=(y.r,true):=λy hw=>by unfold ZJ;rw[if_neg hw]
 have u2:∀ y:It,x.way=2->Xs y x.way={ y with u:=y.u+1 }:=λy hw=>by unfold Xs;rw[if_pos hw]
 have u1:∀ y:It,x.way≠2->Xs y x.way={ y with r:=y.r+1 }:=λy hw=>by unfold Xs;rw[if_neg hw]
 refine⟨λh=>by rw[if_pos (.inr h)],λi hi h hk=>?_,λhw i hi h hk hu=>?_,λhw i hi h hk hu hh=>?_,λhw i hi h hk hu h4 h5=>?_,λhw i hi h hk hh=>?_,λhw i hi h hk h4 h5=>?_⟩
 ·rw[if_neg oX,h,Int.toNat_natCast,QP _ hi,if_pos hk]
 ·rw[if_neg oX,h,Int.toNat_natCast,QP _ hi,if_neg (by rw[hk];decide),n2 _ hw,if_pos (by simpa using hu)]
 ·rw[if_neg oX,h,Int.toNat_natCast,QP _ hi,if_neg (by rw[hk];decide),n2 _ hw,if_neg (by simpa using hu),if_pos hh]
 ·rw[if_neg oX,h,Int.toNat_natCast,QP _ hi,if_neg (by rw[hk];decide),n2 _ hw,if_neg (by simpa using hu),if_neg (by rintro(q|q);exact q h4;exact q h5),u2 _ hw]
 ·rw[if_neg oX,h,Int.toNat_natCast,QP _ hi,if_neg (by rw[hk];decide),n1 _ hw,if_neg sX,if_pos hh]
 ·rw[if_neg oX,h,Int.toNat_natCast,QP _ hi,if_neg (by rw[hk];decide),n1 _ hw,if_neg sX,if_neg (by rintro(q|q);exact q h4;exact q h5),u1 _ hw]
end Go.Proofs.YtpdhceiodgnbmaaGreatDoor
