import Derived.Test.YtpdhceiodgnbmaaGreatDoorF10KeepsSaid
set_option linter.all false
set_option maxRecDepth 100000
set_option maxHeartbeats 8000000
namespace Go.Proofs.YtpdhceiodgnbmaaGreatDoor
open Go.RowKit
structure It where
 n:Int
 s:ByteArray
 p:P6
 root:List UInt8
 file:List UInt8
 t:Int
 k:Bool
 u:Int
 r:Int
deriving DecidableEq
instance:Inhabited It:=⟨⟨0,ByteArray.empty,⟨0,0,0,0,0,0⟩,List.replicate 32 0,List.replicate 32 0,0,false,0,0⟩⟩
def It.list(x:It):List Value:=[.int .i64 x.n,.string x.s]++(x.p.list++(cB x.root++(cB x.file++[.int .i64 x.t,.bool x.k,.int .i64 x.u,.int .i64 x.r])))
def It.lits(x:It):List Lit:=[.int .i64 x.n,.string x.s.data.toList]++(x.p.lits++(QV x.root++(QV x.file++[.int .i64 x.t,.bool x.k,.int .i64 x.u,.int .i64 x.r])))
structure It.Ok (x:It):Prop where
 n:cO x.n
 s:x.s.size<=maxLen
 p:x.p.Ok
 root:x.root.length=32
 file:x.file.length=32
 t:cO x.t
 u:cO x.u
 r:cO x.r
theorem It.len{x:It}(h1:x.root.length=32)(h2:x.file.length=32):x.list.length=76:=by
 simp[It.list,P6.list_length,Zc,h1,h2]
theorem It.list_length{x:It}(h:x.Ok):x.list.length=76:=It.len h.root h.file
theorem It.list_one(x:It):∀ u∈x.list,u.oneCell'=true:=by
 intro u hu;simp only[It.list,List.mem_append,List.mem_cons,List.not_mem_nil,or_false] at hu;rcases hu with (rfl|rfl)|hu|hu|hu|rfl|rfl|rfl|rfl
 ·rfl
 ·rfl
 ·exact P6.list_one _ u hu
 ·exact Zw _ u hu
 ·exact Zw _ u hu
 ·rfl
 ·rfl
 ·rfl
 ·rfl
theorem It.all_one(x:It):x.list.toArray.all (·.oneCell')=true:=Go.Proofs.YtpdhceiodgnbmaaGreatDoor.all_one x.list_one
theorem It.size{x:It}(h:x.Ok):x.list.toArray.size=76:=by rw[List.size_toArray,It.list_length h]
theorem It.parts(x:It):x.list=([.int .i64 x.n,.string x.s]++x.p.list++cB x.root++cB x.file)++[.int .i64 x.t,.bool x.k,.int .i64 x.u,.int .i64 x.r]:=by simp[It.list]
theorem It.head72{x:It}(h1:x.root.length=32)(h2:x.file.length=32):([.int .i64 x.n,.string x.s]++x.p.list++cB x.root++cB x.file:List Value).length=72:=by simp[P6.list_length,Zc,h1,h2]
theorem It.c0(x:It):x.list[0]? = some (.int .i64 x.n):=rfl
theorem It.c1(x:It):x.list[1]? = some (.string x.s):=rfl
theorem It.c3(x:It):x.list[3]? = some (.int .i64 x.p.n):=rfl
theorem It.c72{x:It}(h:x.Ok):x.list[72]? = some (.int .i64 x.t):=by
 rw[It.parts,List.getElem?_append_right (by rw[It.head72 h.root h.file];omega),It.head72 h.root h.file];rfl
theorem It.c73{x:It}(h:x.Ok):x.list[73]? = some (.bool x.k):=by
 rw[It.parts,List.getElem?_append_right (by rw[It.head72 h.root h.file];omega),It.head72 h.root h.file];rfl
theorem It.c74{x:It}(h:x.Ok):x.list[74]? = some (.int .i64 x.u):=by
 rw[It.parts,List.getElem?_append_right (by rw[It.head72 h.root h.file];omega),It.head72 h.root h.file];rfl
theorem It.c75{x:It}(h:x.Ok):x.list[75]? = some (.int .i64 x.r):=by
 rw[It.parts,List.getElem?_append_right (by rw[It.head72 h.root h.file];omega),It.head72 h.root h.file];rfl
theorem It.sub_p(x:It):(x.list.drop 2).take 6=x.p.list:=by
 have e:x.list=[.int .i64 x.n,.string x.s]++(x.p.list++(cB x.root++(cB x.file++[.int .i64 x.t,.bool x.k,.int .i64 x.u,.int .i64 x.r]))):=rfl;rw[e];exact Ji rfl rfl
theorem It.sub_root{x:It}(h:x.Ok):(x.list.drop 8).take 32=cB x.root:=by
 have e:x.list=([.int .i64 x.n,.string x.s]++x.p.list)++(cB x.root++(cB x.file++[.int .i64 x.t,.bool x.k,.int .i64 x.u,.int .i64 x.r])):=by simp[It.list]
 rw[e];exact Ji rfl (by rw[Zc,h.root])
theorem It.sub_file{x:It}(h:x.Ok):(x.list.drop 40).take 32=cB x.file:=by
 have e:x.list=([.int .i64 x.n,.string x.s]++x.p.list++cB x.root)++(cB x.file++[.int .i64 x.t,.bool x.k,.int .i64 x.u,.int .i64 x.r]):=by simp[It.list]
 rw[e];exact Ji (by simp[P6.list_length,Zc,h.root]) (by rw[Zc,h.file])
structure En where
 id:Int
 o:Int
 w:Int
 i:Int
 t:Int
 v:Int
 a:Int
deriving DecidableEq
instance:Inhabited En:=⟨⟨0,0,0,0,0,0,0⟩⟩
def En.list(x:En):List Value:=[.int .i64 x.id,.int .i64 x.o,.int .i64 x.w,.int .i64 x.i,.int .i64 x.t,.int .i64 x.v,.int .i64 x.a]
def En.lits(x:En):List Lit:=[.int .i64 x.id,.int .i64 x.o,.int .i64 x.w,.int .i64 x.i,.int .i64 x.t,.int .i64 x.v,.int .i64 x.a]
def En.Ok(x:En):Prop:=cO x.id/\cO x.o/\cO x.w/\cO x.i/\cO x.t/\cO x.v/\cO x.a
theorem En.list_one(x:En):∀ u∈x.list,u.oneCell'=true:=by
 intro u hu;simp only[En.list,List.mem_cons,List.not_mem_nil,or_false] at hu;rcases hu with rfl|rfl|rfl|rfl|rfl|rfl|rfl<;>rfl
def RI(_:World)(_:Nat->Prop)(x:It)(cs:List Value):Prop:=cs=x.list/\x.Ok
theorem Q5:dN RI 76:=⟨λh _ _=>h,λh _=>h,λh=>by rw[h.1];exact⟨It.list_length h.2,It.list_one _⟩⟩
def RE(_:World)(_:Nat->Prop)(x:En)(cs:List Value):Prop:=cs=x.list/\x.Ok
theorem Qr:dN RE 7:=⟨λh _ _=>h,λh _=>h,λh=>by rw[h.1];exact⟨rfl,En.list_one _⟩⟩
theorem BH{base:Nat}{w:World}{e:TypeId}{F:Nat->Prop}{v:Value}{xs:List It}(h:aH RI e 76 base w F v xs):∃ a c,v=.slice a xs.length c/\aU It.list 76 w a xs/\xs.length<=c/\c<=maxLen/\(∀ x∈xs,x.Ok):=by
 obtain⟨a,c,e1,e2,e3,e4,e5⟩:=h.form;refine⟨a,c,e1,λk hk=>?_,e3,e4,λx hx=>?_⟩
 ·obtain⟨g,c',cs,e6,⟨rfl,_⟩,h7⟩:=h.elem Q5 k _ (List.getElem?_eq_getElem hk);rw[e1] at e6;cases e6;exact⟨g,0,rfl,by rw[Nat.zero_add];exact h7⟩
 ·obtain⟨k,hk,rfl⟩:=List.getElem_of_mem hx;obtain⟨g,c',cs,e6,⟨_,h8⟩,h7⟩:=h.elem Q5 k _ (List.getElem?_eq_getElem hk);exact h8
theorem BE{base:Nat}{w:World}{e:TypeId}{F:Nat->Prop}{v:Value}{xs:List En}(h:aH RE e 7 base w F v xs):∃ a c,v=.slice a xs.length c/\aU En.list 7 w a xs/\xs.length<=c/\c<=maxLen/\(∀ x∈xs,x.Ok):=by
 obtain⟨a,c,e1,e2,e3,e4,e5⟩:=h.form;refine⟨a,c,e1,λk hk=>?_,e3,e4,λx hx=>?_⟩
 ·obtain⟨g,c',cs,e6,⟨rfl,_⟩,h7⟩:=h.elem Qr k _ (List.getElem?_eq_getElem hk);rw[e1] at e6;cases e6;exact⟨g,0,rfl,by rw[Nat.zero_add];exact h7⟩
 ·obtain⟨k,hk,rfl⟩:=List.getElem_of_mem hx;obtain⟨g,c',cs,e6,⟨_,h8⟩,h7⟩:=h.elem Qr k _ (List.getElem?_eq_getElem hk);exact h8
structure St where
 its:List It
 ens:List En
structure bJ (w:World) (v:Value) (m:St):Prop where
 form:∃ a c a' c',v=.agg #[.slice a m.its.length c,.slice a' m.ens.length c']/\aU It.list 76 w a m.its/\m.its.length<=c/\c<=maxLen/\aU En.list 7 w a' m.ens/\m.ens.length<=c'/\c'<=maxLen
 okN:∀ x∈m.its,x.Ok
 okV:∀ x∈m.ens,x.Ok
theorem bJ.below{B:Nat}{w w':World}{v:Value}{m:St}(h:bJ w v m)(hb:Below B w w')(hB:w.heap.size<=B):bJ w' v m:=by
 obtain⟨⟨a,c,a',c',e,h1,h2,h3,h4,h5,h6⟩,h7,h8⟩:=h;exact⟨⟨a,c,a',c',e,h1.below hb hB,h2,h3,h4.below hb hB,h5,h6⟩,h7,h8⟩
theorem NB:(Tryz.prog.info? 58).map (λi=>(i.zero.map (·.cells.size),i.size,i.bytes))=some (some 76,76,168):=kX
theorem NA:(Tryz.prog.info? 66).map (λi=>(i.zero.map (·.cells.size),i.size,i.bytes))=some (some 7,7,56):=kX
def N2(w:World)(xs:List It)(x:Ending)(w':World):Prop:=∃ v,x=.returned v/\aH RI 58 76 w.heap.size w' (λ_=>False) v xs/\Below w.heap.size w w'
theorem Wq(a:Option Addr)(c:Nat)(xs:List It)(hok:∀ x∈xs,x.Ok)(w:World)(h:aU It.list 76 w a xs)(hl:xs.length<=100000) :
  Calls Tryz.prog 96 #[.slice a xs.length c] w (N2 w xs):=by
 obtain⟨i0,hi0,h2⟩:=Option.map_eq_some_iff.1 NB;simp only[Prod.mk.injEq] at h2;obtain⟨hz,hs1,hby⟩:=h2;obtain⟨z,hz1,hz2⟩:=Option.map_eq_some_iff.1 hz;have hq:=@Lib.run_eql_slice_nil Tryz.prog w 25 58 a xs.length c 0 0 Tryz.underlying25;cases a with
 | none=>
  have hx:xs=[]:=by
   cases xs with
   | nil=>rfl
   | cons x xs=>obtain⟨b,o,e,_⟩:=h 0 sX;cases e
  subst hx;have hq':=@Lib.run_eql_slice_nil Tryz.prog w 25 58 none 0 c 0 0 Tryz.underlying25;clear h hok hi0 hz hs1 hby hz1 hz2 hl hq;go_enter Tryz.func96,Tryz.ntmps96;go_wp2_with fail;go_ret;exact⟨_,rfl,aH.nil _ _,Below.refl _ _⟩
 | some ad=>
  have hlen:∀ x∈xs,(It.list x).length=76:=λx hx=>It.list_length (hok x hx);have hcells:∀ j u,(xs.flatMap It.list)[j]? = some u->w.cell? (ad.add j)=some u:=λj u hu=>by
   cases xs with
   | nil=>simp at hu
   | cons x0 xt=>
    obtain⟨b,o,e,_⟩:=h 0 sX;cases e;rw[Addr.add_mid];exact Vf dX hlen (λk hk=>by obtain⟨b',o',e',h'⟩:=h k hk;cases e';exact h') j u hu
  have hfl:=QW xs hlen;have hone:∀ u∈xs.flatMap It.list,u.oneCell'=true:=λu hu=>by
   obtain⟨x,_,hx⟩:=List.mem_flatMap.1 hu;exact It.list_one x u hx
  have hrow:∀ (W:World) v,W.ownsRow w.heap.size 58 76 v xs.length (xs.flatMap It.list)->aH RI 58 76 w.heap.size W (λ_=>False) v xs:=λW v hW=>Jj (λx hx=>⟨rfl,hok x hx⟩) hW;obtain⟨N,hN⟩:=aA xs.length;rw[<-hN] at hq hfl hl hrow ⊢;generalize xs.flatMap It.list=news at*;replace hcells:=Hd hcells;replace hone:=Hd hone;replace hrow:=Hd hrow;replace hfl:=Hd hfl;replace hN:=Hd hN;clear h hok hlen;go_enter Tryz.func96,Tryz.ntmps96;go_wp2_with (at_builtin;refine wpList_append_own _ rfl (.tmp 5) (.tmp 6) 25 rfl w.heap.size 58 i0 z 76 168 Tryz.underlying25 hi0 hz1 hs1 hby hz2 dX _ _ _ rfl (World.ownsRow_made w #[] 0 nZ (Nat.zero_le _) sX) ad N c news rfl ?qc1 ?qc2 ?qc3 ?qc4 ?qc5 ?qc6 ?_)
  case qc1=>exact hfl.out
  case qc2=>
   intro j u hj;exact Lib.cell?_alloc_some _ (hcells.out j u hj)
  case qc3=>exact hone.out
  case qc4=>unfold maxLen;omega
  case qc5=>omega
  case qc6=>simp
  intro v' w1 hown hgrow hnil;have hown:=Hd (show w1.ownsRow w.heap.size 58 76 v' N news by simpa using hown);have hgrow:=Hd hgrow;clear hnil;go_wp2_with fail;go_ret;exact⟨_,rfl,hrow.out _ _ hown.out,((Below.refl _ w).alloc nZ _).grown hgrow.out sX (by intro k hk;simp[Value.ownBlock] at hk;omega)⟩
def GE(w:World)(xs:List En)(x:Ending)(w':World):Prop:=∃ v,x=.returned v/\aH RE 66 7 w.heap.size w' (λ_=>False) v xs/\Below w.heap.size w w'
theorem W5(a:Option Addr)(c:Nat)(xs:List En)(hok:∀ x∈xs,x.Ok)(w:World)(h:aU En.list 7 w a xs)(hl:xs.length<=100000) :
  Calls Tryz.prog 50 #[.slice a xs.length c] w (GE w xs):=by
 obtain⟨i0,hi0,h2⟩:=Option.map_eq_some_iff.1 NA;simp only[Prod.mk.injEq] at h2;obtain⟨hz,hs1,hby⟩:=h2;obtain⟨z,hz1,hz2⟩:=Option.map_eq_some_iff.1 hz;have hq:=@Lib.run_eql_slice_nil Tryz.prog w 26 66 a xs.length c 0 0 Tryz.underlying26;cases a with
 | none=>
  have hx:xs=[]:=by
   cases xs with
   | nil=>rfl
   | cons x xs=>obtain⟨b,o,e,_⟩:=h 0 sX;cases e
  subst hx;have hq':=@Lib.run_eql_slice_nil Tryz.prog w 26 66 none 0 c 0 0 Tryz.underlying26;clear h hok hi0 hz hs1 hby hz1 hz2 hl hq;go_enter Tryz.func50,Tryz.ntmps50;go_wp2_with fail;go_ret;exact⟨_,rfl,aH.nil _ _,Below.refl _ _⟩
 | some ad=>
  have hlen:∀ x∈xs,(En.list x).length=7:=λx hx=>rfl;have hcells:∀ j u,(xs.flatMap En.list)[j]? = some u->w.cell? (ad.add j)=some u:=λj u hu=>by
   cases xs with
   | nil=>simp at hu
   | cons x0 xt=>
    obtain⟨b,o,e,_⟩:=h 0 sX;cases e;rw[Addr.add_mid];exact Vf dX hlen (λk hk=>by obtain⟨b',o',e',h'⟩:=h k hk;cases e';exact h') j u hu
  have hfl:=QW xs hlen;have hone:∀ u∈xs.flatMap En.list,u.oneCell'=true:=λu hu=>by
   obtain⟨x,_,hx⟩:=List.mem_flatMap.1 hu;exact En.list_one x u hx
  have hrow:∀ (W:World) v,W.ownsRow w.heap.size 66 7 v xs.length (xs.flatMap En.list)->aH RE 66 7 w.heap.size W (λ_=>False) v xs:=λW v hW=>Jj (λx hx=>⟨rfl,hok x hx⟩) hW;obtain⟨N,hN⟩:=aA xs.length;rw[<-hN] at hq hfl hl hrow ⊢;generalize xs.flatMap En.list=news at*;replace hcells:=Hd hcells;replace hone:=Hd hone;replace hrow:=Hd hrow;replace hfl:=Hd hfl;replace hN:=Hd hN;clear h hok hlen;go_enter Tryz.func50,Tryz.ntmps50;go_wp2_with (at_builtin;refine wpList_append_own _ rfl (.tmp 5) (.tmp 6) 26 rfl w.heap.size 66 i0 z 7 56 Tryz.underlying26 hi0 hz1 hs1 hby hz2 dX _ _ _ rfl (World.ownsRow_made w #[] 0 nZ (Nat.zero_le _) sX) ad N c news rfl ?qc1 ?qc2 ?qc3 ?qc4 ?qc5 ?qc6 ?_)
  case qc1=>exact hfl.out
  case qc2=>
   intro j u hj;exact Lib.cell?_alloc_some _ (hcells.out j u hj)
  case qc3=>exact hone.out
  case qc4=>unfold maxLen;omega
  case qc5=>omega
  case qc6=>simp
  intro v' w1 hown hgrow hnil;have hown:=Hd (show w1.ownsRow w.heap.size 66 7 v' N news by simpa using hown);have hgrow:=Hd hgrow;clear hnil;go_wp2_with fail;go_ret;exact⟨_,rfl,hrow.out _ _ hown.out,((Below.refl _ w).alloc nZ _).grown hgrow.out sX (by intro k hk;simp[Value.ownBlock] at hk;omega)⟩
def B7(w:World)(m:St)(x:Ending)(w':World):Prop:=
 ∃ v v',x=.returned (.agg #[v,v'])/\aH RI 58 76 w.heap.size w' (λ_=>False) v m.its/\aH RE 66 7 w.heap.size w' (λ_=>False) v' m.ens/\(∀ k,v.ownBlock=some k->v'.ownBlock≠some k)/\Below w.heap.size w w'
theorem JI(va:Value)(m:St)(w:World)(ha:bJ w va m)(l1:m.its.length<=1000)(l2:m.ens.length<=1000) :
  Calls Tryz.prog 53 #[va] w (B7 w m):=by
 obtain⟨⟨an,cn,av,cv,rfl,hN,hN1,iG,hV,hV1,hV2⟩,okN,okV⟩:=ha;obtain⟨N,bM⟩:=aA m.its.length;obtain⟨V,dD⟩:=aA m.ens.length;rw[<-bM,<-dD];clear hN1 iG hV1 hV2;have hB:Below w.heap.size w ((w.alloc (.cells #[.slice an N cn,.slice av V cv] 28)).alloc (.cells #[.slice none 0 0,.slice none 0 0] 28)):=(bR.alloc nZ _).alloc sX _;obtain⟨w2,hw2⟩:∃ w2,w2=(w.alloc (.cells #[.slice an N cn,.slice av V cv] 28)).alloc (.cells #[.slice none 0 0,.slice none 0 0] 28):=⟨_,rfl⟩;have e10:w2.cell? ⟨w.heap.size,0,none⟩=some (.slice an N cn):=by rw[hw2];exact Kq (Za (heap_alloc_new w _) 0) _
 have e11:w2.cell? ⟨w.heap.size,1,none⟩=some (.slice av V cv):=by rw[hw2];exact Kq (Za (heap_alloc_new w _) 1) _
 have a2:w2.heap[w.heap.size+1]? = some (.cells #[.slice none 0 0,.slice none 0 0] 28 (0,0)):=by
  have h1:=heap_alloc_new (w.alloc (.cells #[.slice an N cn,.slice av V cv] 28)) (.cells #[.slice none 0 0,.slice none 0 0] 28 (0,0));rw[World.size_alloc] at h1;rw[hw2];exact h1
 have hs2:w2.heap.size=w.heap.size+2:=by rw[hw2];simp
 rw[<-hw2] at hB;have hd2:Hid (Below (w.heap.size+1) w2 w2.drew):=Hd (bR.drew);have hc0:∀ W:World,Below (w.heap.size+1) w2 W->W.cell? ⟨w.heap.size,0,none⟩=some (.slice an N cn):=λW hW=>(hW.cell (p:=⟨w.heap.size,0,none⟩) (Nat.lt_succ_self _)).trans e10;have hc1:∀ W:World,Below (w.heap.size+1) w2 W->W.cell? ⟨w.heap.size,1,none⟩=some (.slice av V cv):=λW hW=>(hW.cell (p:=⟨w.heap.size,1,none⟩) (Nat.lt_succ_self _)).trans e11;have hcn:∀ W:World,Below (w.heap.size+1) w2 W->Calls Tryz.prog 96 #[.slice an N cn] W (N2 W m.its):=λW hW=>by
  have:=Wq an cn m.its okN W (hN.below (hB.trans (hW.mono (Nat.le_succ _))) nZ) aB;rwa [<-bM] at this
 have hcv:∀ W:World,Below (w.heap.size+1) w2 W->Calls Tryz.prog 50 #[.slice av V cv] W (GE W m.ens):=λW hW=>by
  have:=W5 av cv m.ens okV W (hV.below (hB.trans (hW.mono (Nat.le_succ _))) nZ) aB;rwa [<-dD] at this
 have huM:Tryz.prog.underlying 28=_:=Tryz.underlying28;replace hs2:=Hd hs2;replace hcn:=Hd hcn;replace hcv:=Hd hcv;replace hw2:=Hd hw2;replace a2:=Hd a2;replace hB:=Hd hB;replace bM:=Hd bM;replace dD:=Hd dD;replace okN:=Hd okN;replace okV:=Hd okV;replace hN:=Hd hN;replace hV:=Hd hV;clear e10 e11;go_enter Tryz.func53,Tryz.ntmps53;go_wp2_with fail;rw[<-hw2.out];clear hw2;replace a2:Hid (w2.drew.heap[w.heap.size+1]? = some (.cells #[.slice none 0 0,.slice none 0 0] 28 (0,0))):=Hd a2.out;refine wp_region_held_drew (S:=(Below (w.heap.size+1) w2)) kX hd2.out (λaD=>?_);generalize World.drew w2=wd at*;refine tk 0 aD ?_;refine tk 1 aD ?_;refine tk 3 aD ?_;refine tk 4 aD ?_;refine rd 2 (λKz aF=>?_);go_simp
 (with_reducible refine(hcn.out _ aD).mono ?_)
 rintro e w3 ⟨v3,rfl,hr3,hnew⟩;obtain⟨a3,n3,c3,hv3⟩:∃ a n c,v3=.slice a n c:=(by obtain⟨a,c,e,_⟩:=hr3.form;exact⟨a,_,c,e⟩);subst hv3;have hS:=aD.trans (hnew.mono (by have:=aD.size;have:=hs2.out;omega));replace a2:=Hd ((hnew.block _ (Zb a2.out)).trans a2.out);have hlo3:=Hd aD.size;have hlt3:=Hd (show ∀ k,(Value.slice a3 n3 c3).ownBlock=some k->k<w3.heap.size from λk hk=>(hr3.ownLt k hk).2);replace hr3:=Hd hr3
 (try replace hr4:=Hd (hr4.out.below Qr hnew))
 focus (go_wp2_with fail)
 refine aF.out _ _ hS ?_;clear aF Kz aD hS;intro aD;try clear hnew
 try simp only[Act.put,sL,sZ,sS]
 refine rd 5 (λKz aF=>?_);go_simp
 (with_reducible refine(hcv.out _ aD).mono ?_)
 rintro e w4 ⟨v4,rfl,hr4,hnew⟩;obtain⟨a4,n4,c4,hv4⟩:∃ a n c,v4=.slice a n c:=(by obtain⟨a,c,e,_⟩:=hr4.form;exact⟨a,_,c,e⟩);subst hv4;have hS:=aD.trans (hnew.mono (by have:=aD.size;have:=hs2.out;omega));replace a2:=Hd ((hnew.block _ (Zb a2.out)).trans a2.out);have zy:=Hd aD.size;replace hr4:=Hd hr4
 (try replace hr3:=Hd (hr3.out.below Q5 hnew))
 focus (go_wp2_with fail)
 refine aF.out _ _ hS ?_;clear aF Kz aD hS;intro aD;try clear hnew
 try simp only[Act.put,sL,sZ,sS]
 refine tk 6 aD ?_;refine rd 7 (λKz aF=>?_);rw[if_pos bT]
 (with_reducible refine Zl 28 (.tmp 2) (.tmp 9) rfl (w.heap.size+1) #[.slice none 0 0,.slice none 0 0] #[.slice a3 n3 c3,.slice a4 n4 c4] rfl rfl a2 kX rfl jK ?_)
 intro w5 dG;have hS:=aD.trans (dG.out.below nZ);have fM:=Hd (hr3.out.only Q5 (Only.ofUpd (D:=λk=>k=w.heap.size+1) dG.out rfl) (λk hk=>hk.elim) (λk hk e=>by have:=(hr3.out.ownLt k hk).1;have:=hlo3.out;have:=hs2.out;omega));have gL:=Hd (hr4.out.only Qr (Only.ofUpd (D:=λk=>k=w.heap.size+1) dG.out rfl) (λk hk=>hk.elim) (λk hk e=>by have:=(hr4.out.ownLt k hk).1;have:=zy.out;have:=hs2.out;omega));refine aF.out _ _ hS ?_;clear aF Kz aD hS;intro aD;try simp only[Act.put]
 refine bz ?_;all_goals
  go_wp2_with fail;refine Z2 (c:=#[.slice a3 n3 c3,.slice a4 n4 c4]) rfl rfl huM rfl kX dG.out.here ?_;have hs2:=hs2.out;have hlo3:=hlo3.out;have zy:=zy.out;refine⟨_,_,rfl,fM.out.mono aB,gL.out.mono aB,λk h1 h2=>?_,hB.out.trans (aD.mono (Nat.le_succ _))⟩;have h3:=hlt3.out k h1;have h4:=(gL.out.ownLt k h2).1;omega
theorem Bh(a b:ByteArray):(a.toList==b.toList)=decide (a=b):=by
 rw[<-beq_toListBytes,Bool.eq_iff_iff,decide_eq_true_iff];have h:(a==b)=(a.data==b.data):=rfl;rw[h,beq_iff_eq];exact⟨λe=>by cases a;cases b;exact congrArg _ e,λe=>by rw[e]⟩
section
variable {P:Program} {fn:Func} {R:Ending->World->Prop} {p q:Tmp} {ty:TypeId}
theorem KH(h:fn.results=#[.cell p ty,.tmp q])(tmps:Array Value)(w:World) :
  (results fn tmps).run P w=((asAddr (tmps.getD p undef)).run P w).andThen λa w₁=>((loadVar ty a).run P w₁).andThen λv w₂=>.ok (.tuple #[v,tmps.getD q undef]) w₂:=by
 simp[results,h,Sem.run_bind,Result.andThen]
theorem Zj{tmps:Array Value}{W:World}{b:Nat}{c:Array Value}{d:TypeDesc}(h:fn.results=#[.cell p ty,.tmp q])
  (hp:tmps.getD p undef=.pointer (some ⟨b,0,none⟩)) (hu:P.underlying ty=some d) (hd:(match d with | .struct _ | .array _ _=>true|_=>false)=true) (hi:(P.info? ty).map (·.size)=some c.size) (hh:W.heap[b]? = some (.cells c ty (0,0))) (hR:R (.returned (.tuple #[.agg c,tmps.getD q undef])) W) :
  bodyPost P fn R .ret ⟨tmps,[]⟩ W:=by
 refine bodyPost_ret (v:=.tuple #[.agg c,tmps.getD q undef]) ?_ rfl hR;rw[KH h,hp];simp[asAddr,Result.andThen,run_loadVar_row W b ty ty c (0,0) d hh hu hd hi]
end
theorem KU{α:Type}{enc:α->List Value}{size:Nat}(u:Value)(x':α):∀ (xs:List α),(∀ x∈xs,(enc x).length=size)->∀ (i r:Nat) (hi:i<xs.length),r<size->enc x'=(enc xs[i]).set r u->(xs.flatMap enc).set (i*size+r) u=(xs.set i x').flatMap enc
 | [],_,i,r,hi,_,_=>absurd hi (Nat.not_lt_zero _)
 | x::xs,h,i,r,hi,hr,he=>by
  have hx:=h x (List.mem_cons_self ..);cases i with
  | zero=>
   rw[Nat.zero_mul,Nat.zero_add,List.flatMap_cons,List.set_append_left _ _ aB,List.set_cons_zero,List.flatMap_cons,he];rfl
  | succ i=>
   rw[List.flatMap_cons,List.set_append_right _ _ (by rw[hx,Nat.succ_mul];omega),List.set_cons_succ,List.flatMap_cons,hx,show (i+1)*size+r-size=i*size+r by rw[Nat.succ_mul];omega,
    KU u x' xs (λy hy=>h y (List.mem_cons_of_mem _ hy)) i r (by simpa using hi) hr he]
theorem Gf{α:Type}{enc:α->List Value}{R:World->(Nat->Prop)->α->List Value->Prop}{e:TypeId}{size base:Nat}{w:World}{F:Nat->Prop}{v:Value}{xs:List α}(hR:∀ w F x cs,R w F x cs->cs=enc x)(h:aH R e size base w F v xs):w.ownsRow base e size v xs.length (xs.flatMap enc):=by
 obtain⟨css,h1,h2,h3⟩:=h.row;have:css=xs.map enc:=by
  apply List.ext_getElem (by simp[h1]);intro i h4 h5;rw[List.getElem_map];exact hR _ _ _ _ (h3 i _ _ (List.getElem?_eq_getElem (by simpa using h5)) (List.getElem?_eq_getElem h4))
 rw[this,<-List.flatMap_def] at h2;exact h2
theorem It.zeroG:Tryz.zeroCells58=(default:It).list.toArray:=kX
theorem Um{w:World}{b:Nat}{o:Obj}(h:w.heap[b]? = some o)(o':Obj):(w.alloc o').heap[b]? = some o:=
 (((Below.refl w.heap.size w).alloc nZ o').block b (Zb h)).trans h
theorem YJ(w:World)(C D:Array Value)(t u:TypeId)(W:World)(hW:W=(w.alloc (.cells C t)).alloc (.cells D u)) :
  W.heap[w.heap.size]? = some (.cells C t (0,0))/\W.heap[w.heap.size+1]? = some (.cells D u (0,0))/\W.heap.size=w.heap.size+2/\Below w.heap.size w W:=by
 subst hW;refine⟨Um (heap_alloc_new w _) _,?_,sX,(bR.alloc nZ _).alloc sX _⟩;have h:=heap_alloc_new (w.alloc (.cells C t)) (.cells D u (0,0));rw[World.size_alloc] at h;exact h
theorem Vg(va:Value)(m:St)(w:World)(ha:bJ w va m)(i:Nat)(hi:i<m.its.length)(hl:m.its.length<=1000) :
  Calls Tryz.prog 17 #[va,.int .i64 (i:Int)] w λx w'=>x=.returned (.tuple #[.agg m.its[i].list.toArray,.bool true])/\Below w.heap.size w w':=by
 obtain⟨⟨an,cn,av,cv,rfl,hN,hN1,iG,hV,hV1,hV2⟩,okN,okV⟩:=ha;obtain⟨b,o,hab,hr⟩:=hN i hi;have hx:=okN _ (List.getElem_mem hi);obtain⟨N,bM⟩:=aA m.its.length;obtain⟨V,dD⟩:=aA m.ens.length;rw[<-bM,<-dD];rw[<-bM] at hi hl;have hii:(i:Int)<(N:Int):=aB;have hone:=It.list_one m.its[i];have hlen:m.its[i].list.length=76:=It.list_length hx;generalize m.its[i].list=X at*;subst hab;obtain⟨a1,a2,hs2,hB⟩:=YJ w #[.slice (some ⟨b,o,none⟩) N cn,.slice av V cv] Tryz.zeroCells58 28 58 _ rfl;have e10:=Za a1 0;have e11:=Za a1 1;have hr2:=Q1 hr hB nZ;have hu:=Tryz.underlying58;have iX:(Tryz.prog.info? 58).map (·.size)=some X.length:=by rw[hlen];kernel_rfl
 have iA:(Tryz.prog.info? 58).map (·.size)=some X.toArray.size:=by rw[List.size_toArray];exact iX
 have zA:Tryz.zeroCells58.size=X.toArray.size:=Eq.symm (by rw[List.size_toArray,hlen];kernel_rfl);have gB:=Go.Proofs.YtpdhceiodgnbmaaGreatDoor.all_one hone;obtain⟨XA,ak⟩:=aA X.toArray;rw[<-ak] at iA zA gB ⊢;replace ak:=Hd ak;replace a2:=Hd a2;replace hB:=Hd hB;replace hs2:=Hd hs2;replace hr2:=Hd hr2;clear hr hN hV hN1 iG hV1 hV2 okN okV hx hone hlen a1 bM dD;go_enter Tryz.func17,Tryz.ntmps17;go_wp2_with (first
  | ((with_reducible refine wL (.load 58 (.tmp 19)) ?_);(refine wpList_load_mid rfl 58 (.tmp 19) rfl b (o+i*76) rfl X _ hr2.out hu rfl iX ?_);rw[<-ak.out])
  | ((with_reducible refine wL (.store 58 (.tmp 4) _) ?_);(refine Zd rfl 58 (.tmp 4) (.tmp 20) rfl (w.heap.size+1) _ XA rfl rfl a2 iA zA gB ?_);intro w3 dB))
 refine Zj rfl rfl hu rfl iA dB.out.here ?_;exact⟨rfl,hB.out.trans (dB.out.below aB)⟩
theorem UA(va:Value)(m:St)(w:World)(ha:bJ w va m)(i:Int)(hi:¬(0<=i/\i<m.its.length))(hl:m.its.length<=1000) :
  Calls Tryz.prog 17 #[va,.int .i64 i] w λx w'=>x=.returned (.tuple #[.agg (default:It).list.toArray,.bool false])/\Below w.heap.size w w':=by
 obtain⟨⟨an,cn,av,cv,rfl,hN,hN1,iG,hV,hV1,hV2⟩,okN,okV⟩:=ha;obtain⟨N,bM⟩:=aA m.its.length;obtain⟨V,dD⟩:=aA m.ens.length;rw[<-bM,<-dD];rw[<-bM] at hi hl;have hneg:i<0\/(0<=i/\(N:Int)<=i):=aB;obtain⟨a1,a2,hs2,hB⟩:=YJ w #[.slice an N cn,.slice av V cv] Tryz.zeroCells58 28 58 _ rfl;have e10:=Za a1 0;have e11:=Za a1 1;have hu:=Tryz.underlying58;have iA:(Tryz.prog.info? 58).map (·.size)=some Tryz.zeroCells58.size:=kX;have gB:Tryz.zeroCells58.all (·.oneCell')=true:=by rw[It.zeroG];exact Go.Proofs.YtpdhceiodgnbmaaGreatDoor.all_one (It.list_one _)
 have hpost:Hid (∀ W,Below w.heap.size w W->(λ(x:Ending) w'=>x=.returned (.tuple #[.agg (default:It).list.toArray,.bool false])/\Below w.heap.size w w') (.returned (.tuple #[.agg Tryz.zeroCells58,.bool false])) W):=Hd (λW h=>⟨by rw[It.zeroG],h⟩);replace a2:=Hd a2;replace hB:=Hd hB;replace hs2:=Hd hs2;clear hN hV hN1 iG hV1 hV2 okN okV a1 bM dD hi;rcases hneg with hneg|⟨hneg,hge⟩;all_goals
  go_enter Tryz.func17,Tryz.ntmps17;go_wp2_with ((with_reducible refine wL (.store 58 (.tmp 4) _) ?_);(refine Zd rfl 58 (.tmp 4) (.tmp 15) rfl (w.heap.size+1) _ Tryz.zeroCells58 rfl rfl a2 iA rfl gB ?_);intro w3 dB);refine Zj rfl rfl hu rfl iA dB.out.here ?_;exact hpost.out _ (hB.out.trans (dB.out.below aB))
theorem Gv(va:Value)(m:St)(w:World)(ha:bJ w va m)(i:Nat)(hi:i<m.ens.length)(hl:m.ens.length<=1000) :
  Calls Tryz.prog 91 #[va,.int .i64 (i:Int)] w λx w'=>x=.returned (.tuple #[.agg m.ens[i].list.toArray,.bool true])/\Below w.heap.size w w':=by
 obtain⟨⟨an,cn,av,cv,rfl,hN,hN1,iG,hV,hV1,hV2⟩,okN,okV⟩:=ha;obtain⟨b,o,hab,hr⟩:=hV i hi;have hx:=okV _ (List.getElem_mem hi);obtain⟨N,bM⟩:=aA m.its.length;obtain⟨V,dD⟩:=aA m.ens.length;rw[<-bM,<-dD];rw[<-dD] at hi hl;have hii:(i:Int)<(V:Int):=aB;have hone:=En.list_one m.ens[i];have hlen:m.ens[i].list.length=7:=rfl;generalize m.ens[i].list=X at*;subst hab;obtain⟨a1,a2,hs2,hB⟩:=YJ w #[.slice an N cn,.slice (some ⟨b,o,none⟩) V cv] #[.int .i64 0,.int .i64 0,.int .i64 0,.int .i64 0,.int .i64 0,.int .i64 0,.int .i64 0] 28 66 _ rfl;have e10:=Za a1 0;have e11:=Za a1 1;have hr2:=Q1 hr hB nZ;have hu:=Tryz.underlying66;have iX:(Tryz.prog.info? 66).map (·.size)=some X.length:=by rw[hlen];kernel_rfl
 have iA:(Tryz.prog.info? 66).map (·.size)=some X.toArray.size:=by rw[List.size_toArray];exact iX
 have zA:(#[.int .i64 0,.int .i64 0,.int .i64 0,.int .i64 0,.int .i64 0,.int .i64 0,.int .i64 0]:Array Value).size=X.toArray.size:=Eq.symm (by rw[List.size_toArray,hlen];kernel_rfl);have gB:=Go.Proofs.YtpdhceiodgnbmaaGreatDoor.all_one hone;obtain⟨XA,ak⟩:=aA X.toArray;rw[<-ak] at iA zA gB ⊢;replace ak:=Hd ak;replace a2:=Hd a2;replace hB:=Hd hB;replace hs2:=Hd hs2;replace hr2:=Hd hr2;clear hr hN hV hN1 iG hV1 hV2 okN okV hx hone hlen a1 bM dD;go_enter Tryz.func91,Tryz.ntmps91;go_wp2_with (first
  | ((with_reducible refine wL (.load 66 (.tmp 19)) ?_);(refine wpList_load_mid rfl 66 (.tmp 19) rfl b (o+i*7) rfl X _ hr2.out hu rfl iX ?_);rw[<-ak.out])
  | ((with_reducible refine wL (.store 66 (.tmp 4) _) ?_);(refine Zd rfl 66 (.tmp 4) (.tmp 20) rfl (w.heap.size+1) _ XA rfl rfl a2 iA zA gB ?_);intro w3 dB))
 refine Zj rfl rfl hu rfl iA dB.out.here ?_;exact⟨rfl,hB.out.trans (dB.out.below aB)⟩
theorem Mh(va:Value)(m:St)(w:World)(ha:bJ w va m)(i:Int)(hi:¬(0<=i/\i<m.ens.length))(hl:m.ens.length<=1000) :
  Calls Tryz.prog 91 #[va,.int .i64 i] w λx w'=>x=.returned (.tuple #[.agg (default:En).list.toArray,.bool false])/\Below w.heap.size w w':=by
 obtain⟨⟨an,cn,av,cv,rfl,hN,hN1,iG,hV,hV1,hV2⟩,okN,okV⟩:=ha;obtain⟨N,bM⟩:=aA m.its.length;obtain⟨V,dD⟩:=aA m.ens.length;rw[<-bM,<-dD];rw[<-dD] at hi hl;have hneg:i<0\/(0<=i/\(V:Int)<=i):=aB;obtain⟨a1,a2,hs2,hB⟩:=YJ w #[.slice an N cn,.slice av V cv] #[.int .i64 0,.int .i64 0,.int .i64 0,.int .i64 0,.int .i64 0,.int .i64 0,.int .i64 0] 28 66 _ rfl;have e10:=Za a1 0;have e11:=Za a1 1;have hu:=Tryz.underlying66;have iA:(Tryz.prog.info? 66).map (·.size)=some (#[.int .i64 0,.int .i64 0,.int .i64 0,.int .i64 0,.int .i64 0,.int .i64 0,.int .i64 0]:Array Value).size:=kX;have gB:(#[.int .i64 0,.int .i64 0,.int .i64 0,.int .i64 0,.int .i64 0,.int .i64 0,.int .i64 0]:Array Value).all (·.oneCell')=true:=Go.Proofs.YtpdhceiodgnbmaaGreatDoor.all_one (En.list_one (default:En));have hpost:Hid (∀ W,Below w.heap.size w W->(λ(x:Ending) w'=>x=.returned (.tuple #[.agg (default:En).list.toArray,.bool false])/\Below w.heap.size w w') (.returned (.tuple #[.agg #[.int .i64 0,.int .i64 0,.int .i64 0,.int .i64 0,.int .i64 0,.int .i64 0,.int .i64 0],.bool false])) W):=Hd (λW h=>⟨rfl,h⟩);replace a2:=Hd a2;replace hB:=Hd hB;replace hs2:=Hd hs2;clear hN hV hN1 iG hV1 hV2 okN okV a1 bM dD hi;rcases hneg with hneg|⟨hneg,hge⟩;all_goals
  go_enter Tryz.func91,Tryz.ntmps91;go_wp2_with ((with_reducible refine wL (.store 66 (.tmp 4) _) ?_);(refine Zd rfl 66 (.tmp 4) (.tmp 15) rfl (w.heap.size+1) _ #[.int .i64 0,.int .i64 0,.int .i64 0,.int .i64 0,.int .i64 0,.int .i64 0,.int .i64 0] rfl rfl a2 iA rfl gB ?_);intro w3 dB);refine Zj rfl rfl hu rfl iA dB.out.here ?_;exact hpost.out _ (hB.out.trans (dB.out.below aB))
theorem Ek:(Tryz.prog.info? 58).map (·.size)=some 76:=kX
def J8(ns:List It)(s:ByteArray):Int:=match ns.findIdx? (λx=>decide (x.s=s)) with
 | some i=>(i:Int)
 | none => -1
theorem Dk{ns:List It}{s:ByteArray}{k:Nat}(hk:k<ns.length)(h:∀ j (hj:j<ns.length),j<k->ns[j].s≠s)(he:ns[k].s=s):J8 ns s=(k:Int):=by
 have:ns.findIdx? (λx=>decide (x.s=s))=some k:=by
  rw[List.findIdx?_eq_some_iff_getElem];refine⟨hk,by simpa using he,λj hj=>?_⟩;simpa using h j aB hj
 unfold J8;rw[this]
theorem P7{ns:List It}{s:ByteArray}(h:∀ j (hj:j<ns.length),ns[j].s≠s):J8 ns s = -1:=by
 have:ns.findIdx? (λx=>decide (x.s=s))=none:=by
  rw[List.findIdx?_eq_none_iff];intro x hx;obtain⟨j,hj,rfl⟩:=List.getElem_of_mem hx;simpa using h j hj
 unfold J8;rw[this]
theorem WE(x:It)(X:Array Value)(hX:X=x.list.toArray)(b:Nat)(s:ByteArray)(w:World)(hb:w.cell? ⟨b,0,none⟩=some (.string s)) :
  Calls Tryz.prog 48 #[.agg X,.pointer (some ⟨b,0,none⟩)] w λr w'=>r=.returned (.bool (decide (x.s=s)))/\Below w.heap.size w w':=by
 have hG:Below w.heap.size w (w.alloc (.cells X 58)):=bR.alloc nZ _;have k0:(w.alloc (.cells X 58)).cell? ⟨w.heap.size,1,none⟩=some (.string x.s):=by rw[Za (heap_alloc_new w _)];rw[hX];rfl
 have k1:=Kq hb (.cells X 58);replace hG:=Hd hG;obtain⟨S,hS⟩:=aA x.s;rw[<-hS] at k0 ⊢;replace hS:=Hd hS;clear hX hb;by_cases he:S=s
 ·subst he;go_enter Tryz.func48,Tryz.ntmps48;go_wp2_with fail;go_ret;exact⟨sX,hG.out⟩
 ·have hd:decide (S=s)=false:=decide_eq_false he;rw[hd];go_enter Tryz.func48,Tryz.ntmps48;go_wp2_with fail;go_ret;exact⟨by rw[show (S.toList==s.toList)=false by rw[Bh,hd]];rfl,hG.out⟩
theorem Wg(a:Option Addr)(c:Nat)(ns:List It)(hok:∀ x∈ns,x.Ok)(w:World)(h:aU It.list 76 w a ns)(hl:ns.length<=1000000)(b:Nat)(s:ByteArray)(hb:w.cell? ⟨b,0,none⟩=some (.string s)) :
  Calls Tryz.prog 47 #[.slice a ns.length c,.func (.func 48) #[] #[.pointer (some ⟨b,0,none⟩)]] w λr w'=>r=.returned (.int .i64 (J8 ns s))/\Below w.heap.size w w':=by
 have huN:Tryz.prog.underlying 58=_:=Tryz.underlying58;obtain⟨q,hq⟩:=aA (J8 ns s);rw[<-hq];obtain⟨N,hN⟩:=aA ns.length;rw[<-hN] at hl ⊢;replace hN:=Hd hN;replace hq:=Hd hq;replace h:=Hd h;replace hok:=Hd hok;replace hb:=Hd hb;go_enter Tryz.func47,Tryz.ntmps47;go_wp2_with fail;refine ZG [(false,4),(true,2),(false,2),(true,11)] _ [] (λU wr=>∃ k:Nat,k<=N/\U 8=.int .i64 (k:Nat)/\Below w.heap.size w wr/\∀ j (hj:j<ns.length),j<k->ns[j].s≠s) (λU _=>N-(intOf (U 8)).toNat) ?_ ?_
 ·simp only[List.getD_cons_zero,List.getD_cons_succ];exact⟨0,Nat.zero_le _,rfl,Below.refl _ _,λj _ hj=>absurd hj (Nat.not_lt_zero _)⟩
 ·intro U wr hrel KK hback l' hl';obtain⟨k,hk,h8,hbw,hle⟩:=hrel;simp only[ZQ,ZM,cond_true,cond_false,Nat.reduceAdd,h8] at hl';subst hl';replace h8:=Hd h8;replace hle:=Hd hle;by_cases hlt:k<N
  ·have hlt2:(k:Int)<(N:Int):=aB;have hkN:k<ns.length:=by rw[<-hN.out];exact hlt
   obtain⟨b1,o1,rfl,hr1⟩:=h.out.below hbw nZ k hkN;have ox:=hok.out _ (List.getElem_mem hkN);have hhit:=λ(e:ns[k].s=s)=>Dk hkN hle.out e;have hstep:=λ(e:ns[k].s≠s)=>show ∀ j (hj:j<ns.length),j<k+1->ns[j].s≠s from λj hj hjk=>by
    by_cases tX:j<k
    ·exact hle.out j hj tX
    ·obtain rfl:j=k:=aB;exact e
   generalize ns[k]=x at*;obtain⟨X,hX⟩:=aA x.list.toArray;have ix:(Tryz.prog.info? 58).map (·.size)=some x.list.length:=by rw[It.list_length ox];exact Ek
   have hcall:=WE x X hX b s wr ((hbw.cell (World.block_lt_of_cell? w _ hb.out)).trans hb.out);have hsz:=hbw.size;replace hX:=Hd hX;replace hr1:=Hd hr1;replace hbw:=Hd hbw;replace hhit:=Hd hhit;replace hstep:=Hd hstep;replace ox:=Hd ox;by_cases he:x.s=s
   ·have hqk:q=(k:Int):=by rw[hq.out];exact hhit.out he
    rw[decide_eq_true he] at hcall;replace hcall:=Hd hcall;subst hqk;replace he:=Hd he;clear hq;go_wp2_with (refine wpList_load_mid rfl 58 (.tmp 14) rfl b1 (o1+k*76) rfl x.list _ hr1.out huN rfl ix ?_;rw[<-hX.out]);with_reducible refine hcall.out.mono ?_
    rintro e w2 ⟨rfl,hb2⟩;have hbf:=Hd (hbw.out.trans (hb2.mono hsz));go_wp2_with fail;go_ret;exact⟨rfl,hbf.out⟩
   ·rw[decide_eq_false he] at hcall;replace hcall:=Hd hcall;replace he:=Hd he;go_wp2_with (refine wpList_load_mid rfl 58 (.tmp 14) rfl b1 (o1+k*76) rfl x.list _ hr1.out huN rfl ix ?_;rw[<-hX.out]);with_reducible refine hcall.out.mono ?_
    rintro e w2 ⟨rfl,hb2⟩;have hbf:=Hd (hbw.out.trans (hb2.mono hsz));go_wp2_with fail;refine hback.out _ _ kX ?_ ?_
    ·simp only[List.getD_cons_zero,List.getD_cons_succ];exact⟨k+1,aB,by go_num,hbf.out,hstep.out he.out⟩
    ·have h8:=h8.out;simp only[List.getD_cons_zero,List.getD_cons_succ,h8,intOf];omega
  ·obtain rfl:k=N:=aB;have hqn:q = -1:=by rw[hq.out];exact P7 (λj hj=>hle.out j hj (by rw[hN.out];exact hj))
   subst hqn;replace hbw:=Hd hbw;clear hq;go_wp2_with fail;go_ret;exact⟨rfl,hbw.out⟩
def Qz(ns:List It)(s:ByteArray):It×Bool:=match ns.findIdx? (λx=>decide (x.s=s)) with
 | some i=>(ns.getD i default,true)
 | none=>(default,false)
theorem Qb(w:World)(C D E:Array Value)(t u v:TypeId)(W:World)(hW:W=((w.alloc (.cells C t)).alloc (.cells D u)).alloc (.cells E v)) :
  W.heap[w.heap.size]? = some (.cells C t (0,0))/\W.heap[w.heap.size+1]? = some (.cells D u (0,0))/\W.heap[w.heap.size+2]? = some (.cells E v (0,0))/\W.heap.size=w.heap.size+3/\Below w.heap.size w W:=by
 obtain⟨h1,h2,h3,h4⟩:=YJ w C D t u _ rfl;subst hW;refine⟨Um h1 _,Um h2 _,?_,sX,h4.alloc aB _⟩;have h:=heap_alloc_new ((w.alloc (.cells C t)).alloc (.cells D u)) (.cells E v (0,0));rw[h3] at h;exact h
theorem M7(va:Value)(m:St)(w:World)(ha:bJ w va m)(hl:m.its.length<=1000)(s:ByteArray) :
  Calls Tryz.prog 18 #[va,.string s] w λx w'=>x=.returned (.tuple #[.agg (Qz m.its s).1.list.toArray,.bool (Qz m.its s).2])/\Below w.heap.size w w':=by
 have hit:∀ W,Below w.heap.size w W->Calls Tryz.prog 17 #[va,.int .i64 (J8 m.its s)] W λx w'=>x=.returned (.tuple #[.agg (Qz m.its s).1.list.toArray,.bool (Qz m.its s).2])/\Below W.heap.size W w':=by
  intro W hW;have ha2:=ha.below hW nZ;unfold J8 Qz;cases hf:m.its.findIdx? (λx=>decide (x.s=s)) with
  | none=>exact UA va m W ha2 (-1) aB hl
  | some i=>
   have hi:i<m.its.length:=(List.findIdx?_eq_some_iff_getElem.1 hf).1;have:=Vg va m W ha2 i hi hl;simp only[List.getD_eq_getElem?_getD,List.getElem?_eq_getElem hi,Option.getD_some];exact this
 have hok:(Qz m.its s).1.Ok:=by
  obtain⟨_,okN,_⟩:=ha;have hd:(default:It).Ok:=⟨dX,dX,⟨dX,dX,dX,dX,dX,dX⟩,rfl,rfl,dX,dX,dX⟩;unfold Qz;cases hf:m.its.findIdx? (λx=>decide (x.s=s)) with
  | none=>exact hd
  | some i=>
   have hi:i<m.its.length:=(List.findIdx?_eq_some_iff_getElem.1 hf).1;simp only[List.getD_eq_getElem?_getD,List.getElem?_eq_getElem hi,Option.getD_some];exact okN _ (List.getElem_mem hi)
 have hix:∀ W b,Below w.heap.size w W->W.cell? ⟨b,0,none⟩=some (.string s)->∀ an cn,(∃ av cv V,va=.agg #[.slice an m.its.length cn,.slice av V cv])->Calls Tryz.prog 47 #[.slice an m.its.length cn,.func (.func 48) #[] #[.pointer (some ⟨b,0,none⟩)]] W λr w'=>r=.returned (.int .i64 (J8 m.its s))/\Below W.heap.size W w':=by
  intro W b hW hb an cn ⟨av,cv,V,e⟩;obtain⟨⟨a,c,a',c',e2,h1,_⟩,okN,_⟩:=ha.below hW nZ;rw[e] at e2;cases e2;exact Wg an cn m.its okN W h1 aB b s hb
 obtain⟨⟨an,cn,av,cv,rfl,hN,hN1,iG,hV,hV1,hV2⟩,okN,okV⟩:=ha;have wo:=λW b h1 h2=>hix W b h1 h2 an cn ⟨av,cv,_,rfl⟩;generalize J8 m.its s=q at*;generalize (Qz m.its s).2=kn at*;obtain⟨XA,ak⟩:=aA ((Qz m.its s).1.list.toArray);have iA:(Tryz.prog.info? 58).map (·.size)=some XA.size:=by rw[ak,It.size hok];kernel_rfl
 have zA:(Tryz.zeroCells58).size=XA.size:=by rw[ak,It.size hok];kernel_rfl
 have gB:XA.all (·.oneCell')=true:=by rw[ak];exact It.all_one _
 rw[<-ak] at hit ⊢;have hu:=Tryz.underlying58;obtain⟨N,bM⟩:=aA m.its.length;obtain⟨V,dD⟩:=aA m.ens.length;rw[<-bM,<-dD] at hit;rw[<-bM] at wo;rw[<-bM,<-dD];obtain⟨a1,a2,a3,hs3,hB⟩:=Qb w #[.slice an N cn,.slice av V cv] #[.string s] Tryz.zeroCells58 28 9 58 _ rfl;obtain⟨w3,hw3⟩:∃ w3,w3=((w.alloc (.cells #[.slice an N cn,.slice av V cv] 28)).alloc (.cells #[.string s] 9)).alloc (.cells Tryz.zeroCells58 58):=⟨_,rfl⟩;have e10:=Za a1 0;rw[<-hw3] at a1 a2 a3 hs3 hB;replace hw3:=Hd hw3;replace hit:=Hd hit;replace wo:=Hd wo;replace a1:=Hd a1;replace a2:=Hd a2;replace a3:=Hd a3;replace hB:=Hd hB;replace hs3:=Hd hs3;clear hix hN hV hN1 iG hV1 hV2 okN okV ak hok bM dD hl;go_enter Tryz.func18,Tryz.ntmps18;go_wp2_with fail;rw[<-hw3.out];with_reducible refine(wo.out w3 (w.heap.size+1) hB.out (by rw[Za a2.out];simp)).mono ?_
 rintro e w4 ⟨rfl,hb⟩;have b1:=(hb.block _ (Zb a1.out)).trans a1.out;have b3:=Hd ((hb.block _ (Zb a3.out)).trans a3.out);have f0:=Za b1 0;have f1:=Za b1 1;have hB4:=Hd (hB.out.trans (hb.mono hB.out.size));clear b1 hb e10;go_wp2_with fail;with_reducible refine(hit.out w4 hB4.out).mono ?_
 rintro e w5 ⟨rfl,hb⟩;have c3:=Hd ((hb.block _ (Zb b3.out)).trans b3.out);have jX:=Hd (hB4.out.trans (hb.mono hB4.out.size));clear hb f0 f1;go_wp2_with ((with_reducible refine wL (.store 58 (.tmp 4) _) ?_);(refine Zd rfl 58 (.tmp 4) (.tmp 14) rfl (w.heap.size+2) _ XA rfl rfl c3 iA zA gB ?_);intro w6 dK);refine Zj rfl rfl hu rfl iA dK.out.here ?_;exact⟨rfl,jX.out.trans (dK.out.below aB)⟩
def dz(x lo hi:Int):Bool:=decide (lo<=x)&&decide (x<=hi)
theorem Z8(x lo hi:Int)(w:World):Calls Tryz.prog 64 #[.int .i64 x,.int .i64 lo,.int .i64 hi] w λe w'=>e=.returned (.bool (dz x lo hi))/\w=w':=by
 unfold dz;cases h1:decide (lo<=x)<;>cases h2:decide (x<=hi);all_goals
  go_enter Tryz.func64,Tryz.ntmps64;go_wp2_with fail;go_ret;exact⟨rfl,rfl⟩
def Ja(k o i y x v t:Int):Bool:=
 dz o 0 1099511627776&&dz t 0 1099511627776&&(if k=2 then dz y 1 2&&dz x 0 1048576&&dz i 0 1099511627776 else if k=3 then dz v 1 3&&dz i 0 1099511627776 else true)
theorem MK(R:Array Value)(k o i y x v t:Int)(hs:R.size=78)(r0:∀ h,R[0]'h=.int .i64 k)(r1:∀ h,R[1]'h=.int .i64 o)(r7:∀ h,R[77]'h=.int .i64 t)(h2:k≠2)(h3:k≠3)(w:World) :
  Calls Tryz.prog 86 #[.agg R] w λe w'=>e=.returned (.bool (Ja k o i y x v t))/\Below w.heap.size w w':=by
 have hb:=Hd (show Below w.heap.size w (w.alloc (.cells R 49)) from bR.alloc nZ _);have e2:(k==2)=false:=by simpa using h2
 have e3:(k==3)=false:=by simpa using h3
 have hn:Ja k o i y x v t=(dz o 0 1099511627776&&dz t 0 1099511627776):=by unfold Ja;rw[if_neg h2,if_neg h3,Bool.and_true]
 rw[hn];clear hn h2 h3;go_enter Tryz.func86,Tryz.ntmps86;go_wp2_with fail;with_reducible refine(Z8 o 0 1099511627776 _).mono ?_
 rintro e w1 ⟨rfl,rfl⟩;cases h0:dz o 0 1099511627776
 ·replace h0:=Hd h0;go_wp2_with fail;go_ret;exact⟨by rw[h0.out];rfl,hb.out⟩
 ·replace h0:=Hd h0;go_wp2_with fail;with_reducible refine(Z8 t 0 1099511627776 _).mono ?_
  rintro e w1 ⟨rfl,rfl⟩;go_wp2_with fail;go_ret;exact⟨by rw[h0.out,Bool.true_and];rfl,hb.out⟩
theorem ME(R:Array Value)(o i y x v t:Int)(hs:R.size=78)(r0:∀ h,R[0]'h=.int .i64 3)(r1:∀ h,R[1]'h=.int .i64 o)(r2:∀ h,R[2]'h=.int .i64 i)(r6:∀ h,R[76]'h=.int .i64 v)(r7:∀ h,R[77]'h=.int .i64 t)(w:World) :
  Calls Tryz.prog 86 #[.agg R] w λe w'=>e=.returned (.bool (Ja 3 o i y x v t))/\Below w.heap.size w w':=by
 have hb:=Hd (show Below w.heap.size w (w.alloc (.cells R 49)) from bR.alloc nZ _);have hn:Ja 3 o i y x v t=(dz o 0 1099511627776&&dz t 0 1099511627776&&(dz v 1 3&&dz i 0 1099511627776)):=rfl;rw[hn];clear hn;go_enter Tryz.func86,Tryz.ntmps86;go_wp2_with fail;with_reducible refine(Z8 o 0 1099511627776 _).mono ?_
 rintro e w1 ⟨rfl,rfl⟩;cases h0:dz o 0 1099511627776
 ·replace h0:=Hd h0;go_wp2_with fail;go_ret;exact⟨by rw[h0.out];rfl,hb.out⟩
 ·replace h0:=Hd h0;go_wp2_with fail;with_reducible refine(Z8 t 0 1099511627776 _).mono ?_
  rintro e w1 ⟨rfl,rfl⟩;cases h1:dz t 0 1099511627776
  ·replace h1:=Hd h1;go_wp2_with fail;go_ret;exact⟨by rw[h0.out,h1.out];rfl,hb.out⟩
  ·replace h1:=Hd h1;go_wp2_with fail;with_reducible refine(Z8 v 1 3 _).mono ?_
   rintro e w1 ⟨rfl,rfl⟩;cases h2:dz v 1 3
   ·replace h2:=Hd h2;go_wp2_with fail;go_ret;exact⟨by rw[h0.out,h1.out,h2.out];rfl,hb.out⟩
   ·replace h2:=Hd h2;go_wp2_with fail;with_reducible refine(Z8 i 0 1099511627776 _).mono ?_
    rintro e w1 ⟨rfl,rfl⟩;go_wp2_with fail;go_ret;exact⟨by rw[h0.out,h1.out,h2.out];rfl,hb.out⟩
theorem TB(R:Array Value)(o i y x v t:Int)(hs:R.size=78)(r0:∀ h,R[0]'h=.int .i64 2)(r1:∀ h,R[1]'h=.int .i64 o)(r2:∀ h,R[2]'h=.int .i64 i)(r4:∀ h,R[74]'h=.int .i64 y)(r5:∀ h,R[75]'h=.int .i64 x)(r7:∀ h,R[77]'h=.int .i64 t)(w:World) :
  Calls Tryz.prog 86 #[.agg R] w λe w'=>e=.returned (.bool (Ja 2 o i y x v t))/\Below w.heap.size w w':=by
 have hb:=Hd (show Below w.heap.size w (w.alloc (.cells R 49)) from bR.alloc nZ _);have hn:Ja 2 o i y x v t=(dz o 0 1099511627776&&dz t 0 1099511627776&&(dz y 1 2&&dz x 0 1048576&&dz i 0 1099511627776)):=rfl;rw[hn];clear hn;go_enter Tryz.func86,Tryz.ntmps86;go_wp2_with fail;with_reducible refine(Z8 o 0 1099511627776 _).mono ?_
 rintro e w1 ⟨rfl,rfl⟩;cases h0:dz o 0 1099511627776
 ·replace h0:=Hd h0;go_wp2_with fail;go_ret;exact⟨by rw[h0.out];rfl,hb.out⟩
 ·replace h0:=Hd h0;go_wp2_with fail;with_reducible refine(Z8 t 0 1099511627776 _).mono ?_
  rintro e w1 ⟨rfl,rfl⟩;cases h1:dz t 0 1099511627776
  ·replace h1:=Hd h1;go_wp2_with fail;go_ret;exact⟨by rw[h0.out,h1.out];rfl,hb.out⟩
  ·replace h1:=Hd h1;go_wp2_with fail;with_reducible refine(Z8 y 1 2 _).mono ?_
   rintro e w1 ⟨rfl,rfl⟩;cases h2:dz y 1 2
   ·replace h2:=Hd h2;go_wp2_with fail;go_ret;exact⟨by rw[h0.out,h1.out,h2.out];rfl,hb.out⟩
   ·replace h2:=Hd h2;go_wp2_with fail;with_reducible refine(Z8 x 0 1048576 _).mono ?_
    rintro e w1 ⟨rfl,rfl⟩;cases h3:dz x 0 1048576
    ·replace h3:=Hd h3;go_wp2_with fail;go_ret;exact⟨by rw[h0.out,h1.out,h2.out,h3.out];rfl,hb.out⟩
    ·replace h3:=Hd h3;go_wp2_with fail;with_reducible refine(Z8 i 0 1099511627776 _).mono ?_
     rintro e w1 ⟨rfl,rfl⟩;go_wp2_with fail;go_ret;exact⟨by rw[h0.out,h1.out,h2.out,h3.out];rfl,hb.out⟩
end Go.Proofs.YtpdhceiodgnbmaaGreatDoor
