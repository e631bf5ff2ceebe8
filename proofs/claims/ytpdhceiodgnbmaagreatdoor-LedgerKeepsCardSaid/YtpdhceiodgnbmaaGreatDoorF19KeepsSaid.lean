import Derived.Test.YtpdhceiodgnbmaaGreatDoorF18KeepsSaid
import Derived.Deep.Matrix
set_option linter.all false
set_option maxRecDepth 100000
set_option maxHeartbeats 8000000
namespace Go.Proofs.YtpdhceiodgnbmaaGreatDoor
open Go.RowKit
theorem DZ:∀ (k n:Nat),Qd k n<=k:=by
 intro k;induction k with
 | zero=>intro n;exact Nat.le_refl _
 | succ k ih=>
  intro n;have h:=ih (n / 2);have e:Qd (k+1) n=n % 2+Qd k (n / 2):=rfl;omega
theorem P9{n:Nat}{ps:List (List UInt8)}{bs:List UInt8}(hn:n<=1000000)(h:ps.length=Qd 64 n):(QU n ps bs).length=Qd 64 (n+1):=by
 have h1:=Rq 64 n ps (Zr bs) aB h;have h2:=GP 64 (n+1) aB;unfold QU;rw[List.length_append,List.length_singleton,h1,h2]
theorem Ra{base:Nat}{w:World}{f n:Nat}{v:Value}{ps:List (List UInt8)}(h:jq base w f n v ps)(hb:base<=w.heap.size)(hn2:n<=1000000)(hp:ps.length=Qd 64 n)(a:Option Addr)(c:Nat)(bs:List UInt8)(hA:aJ w a c bs)(hl:bs.length<=1000)(hK:∀ W,Below base w W->bP W)(hF:∀ W,Below base w W->bZ W) :
  Calls Tryz.prog 62 #[.pointer (some ⟨f,0,none⟩),.slice a bs.length c] w (XO base w f (n+1) v (QU n ps bs)):=by
 have h64:=DZ 64 n;rcases Nat.mod_two_eq_zero_or_one n with h2|h2
 ·have e:QU n ps bs=ps++[Zr bs]:=by unfold QU;rw[JA h2]
  rw[e];exact UU h hb h2 hn2 aB a c bs hA hl (hK w bR) (hF w bR)
 ·exact TO h hb h2 hn2 hp aB a c bs hA hl hK hF
section
open Go.ChangeShapes Go.WideShapes Go.Deep
section
variable {H:Type} {enc:TypeId×Value->H} {P:Program} {w:World}
theorem Lk{α:Type}[Inhabited α]{en:α->List Value}{Ok:α->Prop}{size:Nat}{t e:TypeId}{n o:Nat}{cs:List Value}{y:DataW H×List MemPlace}(ht:P.underlying t=some (.slice e))(hce:P.cellsOf t=1)(hC:P.cellsOf e=size)(h0:0<size)(hlen:∀ x,Ok x->(en x).length=size)
  (hel:∀ n cs' y,DataW.trod enc P w 0 (λ_=>true) true n e cs'=some y->∃ x,cs'=en x/\Ok x) (h:DataW.trod enc P w 0 (λ_=>true) true n t ((cs.drop o).take (P.cellsOf t))=some y) :
  ∃ a c xs,cs[o]? = some (.slice a (List.length xs) c)/\aU en size w a xs/\xs.length<=c/\c<=maxLen/\∀ x∈xs,Ok x:=by
 rw[hce] at h;rcases open_slice ht h with ⟨hcs,_⟩|⟨a,len,cap,m,n',D,Pl,hcs,_,hl,hx,hm,_,hrow⟩
 ·have hc0:cs[o]? = some (.slice none 0 0):=by
   have:=congrArg (·[0]?) hcs;simpa[List.getElem?_take,List.getElem?_drop] using this
  exact⟨none,0,[],hc0,λk hk=>absurd hk (Nat.not_lt_zero k),Nat.le_refl _,Nat.zero_le _,λx hx=>(List.not_mem_nil hx).elim⟩
 ·have hc0:cs[o]? = some (.slice (some a) len cap):=by
   have:=congrArg (·[0]?) hcs;simpa[List.getElem?_take,List.getElem?_drop] using this
  have hm':m=cap:=by simpa using hm
  have each:∀ k,k<len->∃ b o' x,some a=some (⟨b,o',none⟩:Addr)/\w.rangeAt b (o'+k*size) (en x)/\Ok x:=by
   intro k hk;obtain⟨cs',hcell,htr⟩:=hrow k aB;rw[hC] at hcell;obtain⟨_,hcl,hat⟩:=World.cells?_some hcell;obtain⟨x,rfl,hok⟩:=hel _ _ _ htr;have hln:=hlen x hok;have hcell:∀ j u,(en x)[j]? = some u->w.cell? ((a.add (k*size)).add j)=some u:=λj u hj=>by
    have hj7:j<size:=by have:=(List.getElem?_eq_some_iff.1 hj).1;omega
    rw[hat j hj7];exact hj
   obtain⟨b,o',spot⟩:=a;have hspot:spot=none:=by
    obtain⟨cs2,hcell2,htr2⟩:=hrow 0 aB;rw[hC] at hcell2;obtain⟨_,_,jN⟩:=World.cells?_some hcell2;obtain⟨x2,rfl,hok2⟩:=hel _ _ _ htr2;have h7:=jN 0 h0;have hln2:=hlen x2 hok2;rw[List.getElem?_eq_getElem aB] at h7;simpa[Addr.add] using World.cell?_spot h7
   subst hspot;have yf:∀ o j,(⟨b,o,none⟩:Addr).add j=⟨b,o+j,none⟩:=λo j=>by unfold Addr.add;split<;>simp_all
   have hadd:∀ j,((⟨b,o',none⟩:Addr).add (k*size)).add j=⟨b,o'+k*size+j,none⟩:=λj=>by rw[yf,yf]
   exact⟨b,o',x,rfl,λj u hj=>(hadd j)▸hcell j u hj,hok⟩
  have hch:∃ X:Nat->α,∀ k,k<len->∃ b o',some a=some (⟨b,o',none⟩:Addr)/\w.rangeAt b (o'+k*size) (en (X k))/\Ok (X k):=by
   refine⟨λk=>if hk:k<len then (each k hk).choose_spec.choose_spec.choose else default,λk hk=>?_⟩;simp only[hk,dif_pos];exact⟨_,_,(each k hk).choose_spec.choose_spec.choose_spec⟩
  obtain⟨X,hX⟩:=hch;refine⟨some a,cap,(List.range len).map X,by simp[hc0],λk hk=>?_,by simpa using hl,hx,λx hx=>?_⟩
  ·have hk':k<len:=by simpa using hk
   obtain⟨b,o',e1,e2,_⟩:=hX k hk';exact⟨b,o',e1,by simpa using e2⟩
  ·obtain⟨k,hk,rfl⟩:=List.mem_map.1 hx;obtain⟨_,_,_,_,e3⟩:=hX k (by simpa using hk);exact e3
end
theorem VT(C:Array Value)(o:Nat)(u:Value)(h:o<C.size):Q8 C o [u]=C.setIfInBounds o u:=by
 rw[<-Nm C o u [] h,Md]
theorem YL(fn:Nat->Option (Nat×Nat))(C:Array Value)(i o:Nat)(v:Value)(ps:List (Nat×Value))(h1:fn i=some (o,v.cells.size))(hs:o+v.cells.size<=C.size) :
  Instr.fill fn C ((i,v)::ps)=Instr.fill fn (Q8 C o v.cells.toList) ps:=by
 conv=>lhs;unfold Instr.fill
 simp only[h1];rw[if_neg bf];obtain⟨g1,g2⟩:=Go.Great.foldl_set o v.cells.toList 0 C;have hll:v.cells.toList.length=v.cells.size:=Array.length_toList ..;generalize hl:v.cells.toList=l at*;have tY:Array.foldl (λcs (x:Value×Nat)=>cs.setIfInBounds (o+x.2) x.1) C v.cells.zipIdx=Q8 C o l:=by
  rw[<-Array.foldl_toList,Array.toList_zipIdx,hl];apply Array.ext_getElem?
  intro k;rw[g2 k];unfold Q8;simp only[Nat.add_zero,List.getElem?_toArray];have hC:C.toList.length=C.size:=Array.length_toList ..;by_cases hk:o<=k/\k<o+l.length/\k<C.size
  ·rw[if_pos hk,List.getElem?_append_right (by rw[List.length_take];omega),List.getElem?_append_left (by rw[List.length_take];omega)];congr 1;rw[List.length_take];omega
  ·rw[if_neg hk];by_cases hk1:k<o
   ·rw[List.getElem?_append_left (by rw[List.length_take];omega),List.getElem?_take,if_pos hk1,Array.getElem?_toList]
   ·rw[List.getElem?_append_right (by rw[List.length_take];omega),List.getElem?_append_right (by rw[List.length_take];omega),List.getElem?_drop,List.length_take,<-Array.getElem?_toList];congr 1;omega
 rw[tY]
theorem BC(fn:Nat->Option (Nat×Nat))(C:Array Value):Instr.fill fn C []=some C:=by simp[Instr.fill]
theorem Hr{P:Program}{t:TypeId}{fs:Array Field}{places:List (Nat×Nat)}{Z:List Value}(hz:(P.info? t).map (λi=>i.zero.map (·.cells.toList))=some (some Z))(hu:P.underlying t=some (.struct fs))(hp:fs.toList.mapM (λf=>(P.info? f.type).map λi=>(f.offset,i.size))=some places)
  (ps:List (Nat×Value)):P.built t ps=Instr.fill (λi=>places.toArray[i]?) Z.toArray ps:=by
 obtain⟨it,hit,h2⟩:=Option.map_eq_some_iff.1 hz;obtain⟨z,hz1,hz2⟩:=Option.map_eq_some_iff.1 h2;unfold Program.built;simp only[hit,hu,hz1,hp];have hz3:z.cells=Z.toArray:=by rw[<-hz2]
 rw[hz3]
theorem It.lits_inj{x y:It}(hx:x.root.length=32)(hx2:x.file.length=32)(hy:y.root.length=32)(hy2:y.file.length=32)(h:x.lits=y.lits):x=y:=by
 unfold It.lits at h;obtain⟨h1,h2⟩:=List.append_inj h rfl;obtain⟨h3,h4⟩:=List.append_inj h2 rfl;obtain⟨h5,h6⟩:=List.append_inj h4 (by simp[QV,hx,hy]);obtain⟨h7,h8⟩:=List.append_inj h6 (by simp[QV,hx2,hy2]);simp only[List.cons.injEq,Lit.string.injEq,Lit.int.injEq,Lit.bool.injEq,true_and,and_true] at h1 h8;obtain⟨a1,a2⟩:=h1;obtain⟨b1,b2,b3,b4⟩:=h8;have e1:=VL a2;have e2:=P6.lits_inj h3;have e3:=JL h5;have e4:=JL h7;cases x;cases y;simp only at*;subst e1 e2 e3 e4 a1 b1 b2 b3 b4;rfl
theorem En.lits_inj{x y:En}(h:x.lits=y.lits):x=y:=by
 cases x;cases y;simpa[En.lits] using h
section
variable {P:Program}
theorem Lh{t ts tp td tb i64:TypeId}{fs:Array Field}(ht:P.underlying t=some (.struct fs))(hq:fs.toList.map (λf=>(f.type,f.offset))=[(i64,0),(ts,1),(tp,2),(td,8),(td,40),(i64,72),(tb,73),(i64,74),(i64,75)])(hn:fs.all (·.name != "_")=true)
  (hi:P.underlying i64=some (.int .i64)) (hs:P.underlying ts=some .string) (hb:P.underlying tb=some .bool) (hp:∀ p:P6,p.Ok->∀ d,P.keyLits (d+2) tp p.list=some p.lits) (hd:∀ f:List UInt8,f.length=32->∀ d,P.keyLits (d+2) td (cB f)=some (QV f))
  (ci:P.cellsOf i64=1) (cs:P.cellsOf ts=1) (cb:P.cellsOf tb=1) (cp:P.cellsOf tp=6) (cd:P.cellsOf td=32) (ct:P.cellsOf t=76) (x:It) (h:x.Ok) (d:Nat):P.keyLits (d+3) t x.list=some x.lits:=by
 have s1:∀ {o:Nat} {v:Value},x.list[o]? = some v->(x.list.drop o).take 1=[v]:=fun {o v} hv=>by
  have hlt:=(List.getElem?_eq_some_iff.1 hv).1;rw[List.drop_eq_getElem_cons hlt];rw[List.getElem?_eq_getElem hlt,Option.some.injEq] at hv;rw[hv];rfl
 have e1:∀ n:Int,cO n->P.keyLits (d+2) i64 [.int .i64 n]=some [.int .i64 n]:=λn h=>XB hi (GF h);have e:=Vd (d:=d+2) (cs:=x.list) (ls:=[[.int .i64 x.n],[.string x.s.data.toList],x.p.lits,QV x.root,QV x.file,[.int .i64 x.t],[.bool x.k],[.int .i64 x.u],[.int .i64 x.r]]) ht hq hn (by rw[ct,It.list_length h]) (by
  simp only[List.mapM_cons,List.mapM_nil,ci,cs,cb,cp,cd,s1 x.c0,s1 x.c1,s1 (It.c72 h),s1 (It.c73 h),s1 (It.c74 h),s1 (It.c75 h),It.sub_p,It.sub_root h,It.sub_file h,hp x.p h.p d,hd x.root h.root d,hd x.file h.file d,KN hs h.s,T8 hb,e1 _ h.n,e1 _ h.t,e1 _ h.u,e1 _ h.r,Option.bind_eq_bind,Option.bind_some,Option.pure_def])
 rw[e];simp[It.lits]
theorem PW{t i64:TypeId}{fs:Array Field}(ht:P.underlying t=some (.struct fs))(hq:fs.toList.map (λf=>(f.type,f.offset))=[(i64,0),(i64,1),(i64,2),(i64,3),(i64,4),(i64,5),(i64,6)])(hn:fs.all (·.name != "_")=true)(hi:P.underlying i64=some (.int .i64))(ci:P.cellsOf i64=1)(ct:P.cellsOf t=7)
  (x:En) (hp:x.Ok) (d:Nat):P.keyLits (d+2) t x.list=some x.lits:=by
 obtain⟨h1,h2,h3,h4,h5,h6,h7⟩:=hp;have e:=λ(n:Int) (h:cO n)=>XB (d:=d) hi (GF h);refine Vd (ls:=[[.int .i64 x.id],[.int .i64 x.o],[.int .i64 x.w],[.int .i64 x.i],[.int .i64 x.t],[.int .i64 x.v],[.int .i64 x.a]]) ht hq hn (by rw[ct];rfl) ?_;simp only[List.mapM_cons,List.mapM_nil,ci,En.list,List.drop_zero,List.drop_succ_cons,List.take_succ_cons,List.take_zero,e _ h1,e _ h2,e _ h3,e _ h4,e _ h5,e _ h6,e _ h7,Option.bind_eq_bind,Option.bind_some,Option.pure_def]
end
theorem Tf(x:It)(h:x.Ok)(d:Nat):Tryz.prog.keyLits (d+3) 58 x.list=some x.lits:=Lh Tryz.underlying58 rfl kX Tryz.underlying3 Tryz.underlying9 Tryz.underlying4 Hu R9 kX kX kX kX kX kX x h d
theorem HF(x:En)(h:x.Ok)(d:Nat):Tryz.prog.keyLits (d+2) 66 x.list=some x.lits:=PW Tryz.underlying66 rfl kX Tryz.underlying3 kX kX x h d
theorem CP(x y:It)(hx:x.Ok)(hy:y.Ok)(w:World):(binOp .neq 58 (.agg x.list.toArray) (.agg y.list.toArray)).run Tryz.prog w=.ok (.bool (!decide (x=y))) w/\(binOp .eql 58 (.agg x.list.toArray) (.agg y.list.toArray)).run Tryz.prog w=.ok (.bool (decide (x=y))) w:=by
 obtain⟨r,h1,h2,h3⟩:=K7 (P:=Tryz.prog) (w:=w) (xs:=x.list.toArray) (ys:=y.list.toArray) (t:=58) kX (Tf x hx 3) (Tf y hy 3) (Y6 (xs:=x.list.toArray) Tryz.underlying58 rfl (by rw[It.size hx];kernel_rfl)) (Y6 (xs:=y.list.toArray) Tryz.underlying58 rfl (by rw[It.size hy];kernel_rfl));have:r=decide (x=y):=by rw[Bool.eq_iff_iff,h1,decide_eq_true_iff];exact⟨It.lits_inj hx.root hx.file hy.root hy.file,λe=>by rw[e]⟩
 rw[h2,h3,this];exact⟨rfl,rfl⟩
theorem R7(x y:En)(hx:x.Ok)(hy:y.Ok)(w:World):(binOp .neq 66 (.agg x.list.toArray) (.agg y.list.toArray)).run Tryz.prog w=.ok (.bool (!decide (x=y))) w/\(binOp .eql 66 (.agg x.list.toArray) (.agg y.list.toArray)).run Tryz.prog w=.ok (.bool (decide (x=y))) w:=by
 obtain⟨r,h1,h2,h3⟩:=K7 (P:=Tryz.prog) (w:=w) (xs:=x.list.toArray) (ys:=y.list.toArray) (t:=66) kX (HF x hx 4) (HF y hy 4) (Y6 (xs:=x.list.toArray) Tryz.underlying66 rfl kX) (Y6 (xs:=y.list.toArray) Tryz.underlying66 rfl kX);have:r=decide (x=y):=by rw[Bool.eq_iff_iff,h1,decide_eq_true_iff];exact⟨En.lits_inj,λe=>by rw[e]⟩
 rw[h2,h3,this];exact⟨rfl,rfl⟩
def K9(m m':St):Bool:=decide (m.its=m'.its)&&decide (m.ens=m'.ens)
theorem WT(a b:Option Addr)(c d:Nat)(xs ys:List It)(qW:∀ x∈xs,x.Ok)(rG:∀ y∈ys,y.Ok)(w:World)(hX:aU It.list 76 w a xs)(hY:aU It.list 76 w b ys)(l1:xs.length<=100000) :
  Calls Tryz.prog 45 #[.slice a xs.length c,.slice b ys.length d] w λx w'=>x=.returned (.bool (decide (xs=ys)))/\Below w.heap.size w w':=by
 have f1:=λ(h:xs.length≠ys.length)=>decide_eq_false (p:=xs=ys) (λe=>h (by rw[e]));have f3:=λk (h1:k<xs.length) (h2:k<ys.length) (h:xs[k]≠ys[k])=>decide_eq_false (p:=xs=ys) (λe=>h (by simp only[e]));have f5:=λ(h:xs.length=ys.length) (he:∀ j (h1:j<xs.length) (h2:j<ys.length),xs[j]=ys[j])=>decide_eq_true (p:=xs=ys) (List.ext_getElem h he);generalize decide (xs=ys)=res at*;obtain⟨N,bM⟩:=aA xs.length;obtain⟨N',jS⟩:∃ N,N=ys.length:=⟨_,rfl⟩;rw[<-bM,<-jS];rw[<-bM] at l1;replace f1:=Hd f1;replace f3:=Hd f3;replace f5:=Hd f5;replace hX:=Hd hX;replace hY:=Hd hY;replace qW:=Hd qW;replace rG:=Hd rG;replace bM:=Hd bM;replace jS:=Hd jS;by_cases Af:N=N';rotate_left
 ·have hfe:=Hd (f1.out (by rw[<-bM.out,<-jS.out];exact Af));have hne:((N:Int) != (N':Int))=true:=by simpa using (show (N:Int)≠(N':Int) by omega)
  clear Af;go_enter Tryz.func45,Tryz.ntmps45;go_wp2_with fail;go_ret;exact⟨congrArg (λb=>Ending.returned (.bool b)) hfe.out.symm,Below.refl _ _⟩
 subst Af;go_enter Tryz.func45,Tryz.ntmps45;go_wp2_with fail;refine ZG [(false,5),(true,1),(false,7),(true,13)] _ [] (λU wr=>∃ k:Nat,k<=N/\U 13=.int .i64 (k:Nat)/\Below w.heap.size w wr/\∀ j (h1:j<xs.length) (h2:j<ys.length),j<k->xs[j]=ys[j]) (λU _=>N-(intOf (U 13)).toNat) ?_ ?_
 ·simp only[List.getD_cons_zero,List.getD_cons_succ];exact⟨0,Nat.zero_le _,rfl,Below.refl _ _,λj _ _ hj=>absurd hj (Nat.not_lt_zero _)⟩
 ·intro U wr hrel KK hback l' hl';obtain⟨k,hk,h12,hbw,hall⟩:=hrel;simp only[ZQ,ZM,cond_true,cond_false,Nat.reduceAdd,h12] at hl';subst hl';replace h12:=Hd h12;replace hall:=Hd hall;by_cases hlt:k<N
  ·have hlt2:(k:Int)<(N:Int):=aB;have hkN:k<xs.length:=by rw[<-bM.out];exact hlt
   have Ag:k<ys.length:=by rw[<-jS.out];exact hlt
   obtain⟨b1,o1,rfl,hr1⟩:=(hX.out.below hbw nZ) k hkN;obtain⟨b2,o2,rfl,hr2⟩:=(hY.out.below hbw nZ) k Ag;have ox:=qW.out _ (List.getElem_mem hkN);have oy:=rG.out _ (List.getElem_mem Ag);have hno:=λ(e:xs[k]≠ys[k])=>f3.out k hkN Ag e;have hstep:=λ(e:xs[k]=ys[k])=>show ∀ j (h1:j<xs.length) (h2:j<ys.length),j<k+1->xs[j]=ys[j] from λj h1 h2 hjk=>by
    by_cases tX:j<k
    ·exact hall.out j h1 h2 tX
    ·obtain rfl:j=k:=aB;exact e
   generalize xs[k]=x at*;generalize ys[k]=y at*;have ix:(Tryz.prog.info? 58).map (·.size)=some x.list.length:=by rw[It.list_length ox];kernel_rfl
   have iy:(Tryz.prog.info? 58).map (·.size)=some y.list.length:=by rw[It.list_length oy];kernel_rfl
   have hne:∀ W,_:=λW=>(CP x y ox oy W).1;obtain⟨X,hX2⟩:=aA x.list.toArray;obtain⟨Y,hY2⟩:=aA y.list.toArray;rw[<-hX2,<-hY2] at hne;obtain⟨bb,hbb⟩:=aA (decide (x=y));rw[<-hbb] at hne;replace hbb:=Hd hbb;replace hX2:=Hd hX2;replace hY2:=Hd hY2;replace hr1:=Hd hr1;replace hr2:=Hd hr2;replace hbw:=Hd hbw;replace ox:=Hd ox;replace oy:=Hd oy;replace hno:=Hd hno;replace hstep:=Hd hstep;go_wp2_with fail;have hd0:Hid (Grown wr wr.drew):=Hd (Grown.drew (Grown.refl wr));have r1:=Hd (λW (h:Grown wr W)=>Q1 hr1.out h nZ);have r2:=Hd (λW (h:Grown wr W)=>Q1 hr2.out h nZ);have hu:=Tryz.underlying58;have oz:=λW (h:Grown wr W)=>run_loadAt_mid (P:=Tryz.prog) W b1 (o1+k*76) 58 x.list _ (r1.out W h) hu rfl ix;have o6:=λW (h:Grown wr W)=>run_loadAt_mid (P:=Tryz.prog) W b2 (o2+k*76) 58 y.list _ (r2.out W h) hu rfl iy;rw[<-hX2.out] at oz;rw[<-hY2.out] at o6;refine wp_region_held_drew (S:=(Grown wr)) kX hd0.out (λaD=>?_);generalize World.drew wr=wd at*;refine tk 0 aD ?_;refine tk 1 aD ?_;refine tk 2 aD ?_;refine tk 4 aD ?_;refine tk 5 aD ?_;refine tk 6 aD ?_;refine fZ [3,7] ?_;refine ac (λKz aF=>?_) ?_;rw[if_pos bT]
   (refine wp_load_mid 58 (.tmp 18) rfl b1 (o1+k*76) rfl x.list _ (r1.out _ aD) hu rfl ix ?_)
   rw[<-hX2.out];have hS:=aD;refine aF.out _ _ hS ?_;clear aF Kz aD hS;intro aD;try simp only[Act.put]
   refine rd 7 (λKz aF=>?_);rw[if_pos bT]
   (refine wp_load_mid 58 (.tmp 22) rfl b2 (o2+k*76) rfl y.list _ (r2.out _ aD) hu rfl iy ?_)
   rw[<-hY2.out];have hS:=aD;refine aF.out _ _ hS ?_;clear aF Kz aD hS;intro aD;try simp only[Act.put]
   refine tk 8 aD ?_;refine bz ?_;rotate_left;refine ac (λKz aF=>?_) AllReadyH.nil;rw[if_pos bT]
   (refine wp_load_mid 58 (.tmp 22) rfl b2 (o2+k*76) rfl y.list _ (r2.out _ aD) hu rfl iy ?_)
   rw[<-hY2.out];have hS:=aD;refine aF.out _ _ hS ?_;clear aF Kz aD hS;intro aD;try simp only[Act.put]
   refine rd 3 (λKz aF=>?_);rw[if_pos bT]
   (refine wp_load_mid 58 (.tmp 18) rfl b1 (o1+k*76) rfl x.list _ (r1.out _ aD) hu rfl ix ?_)
   rw[<-hX2.out];have hS:=aD;refine aF.out _ _ hS ?_;clear aF Kz aD hS;intro aD;try simp only[Act.put]
   refine tk 8 aD ?_;refine bz ?_;all_goals
    have hS2:=Hd (hbw.out.trans (aD.mono hbw.out.size));cases bb with
    | true=>
     have hxy:x=y:=by simpa using hbb.out.symm
     replace hxy:=Hd hxy;go_wp2_with fail;refine hback.out _ _ kX ?_ ?_
     ·simp only[List.getD_cons_zero,List.getD_cons_succ];exact⟨k+1,aB,by go_num,hS2.out,hstep.out hxy.out⟩
     ·have h12:=h12.out;simp only[List.getD_cons_zero,List.getD_cons_succ,h12,intOf];omega
    | false=>
     have hxy:x≠y:=by simpa using hbb.out.symm
     have hfe:=Hd (hno.out hxy);clear hxy;go_wp2_with fail;go_ret;exact⟨congrArg (λb=>Ending.returned (.bool b)) hfe.out.symm,hS2.out⟩
  ·obtain rfl:k=N:=aB;have hfe:=Hd (f5.out (by rw[<-bM.out,<-jS.out]) (λj h1 h2=>hall.out j h1 h2 (by rw[bM.out];exact h1)));replace hbw:=Hd hbw;clear hback;go_wp2_with fail;go_ret;exact⟨congrArg (λb=>Ending.returned (.bool b)) hfe.out.symm,hbw.out⟩
theorem WZ(a b:Option Addr)(c d:Nat)(xs ys:List En)(qW:∀ x∈xs,x.Ok)(rG:∀ y∈ys,y.Ok)(w:World)(hX:aU En.list 7 w a xs)(hY:aU En.list 7 w b ys)(l1:xs.length<=100000) :
  Calls Tryz.prog 46 #[.slice a xs.length c,.slice b ys.length d] w λx w'=>x=.returned (.bool (decide (xs=ys)))/\Below w.heap.size w w':=by
 have f1:=λ(h:xs.length≠ys.length)=>decide_eq_false (p:=xs=ys) (λe=>h (by rw[e]));have f3:=λk (h1:k<xs.length) (h2:k<ys.length) (h:xs[k]≠ys[k])=>decide_eq_false (p:=xs=ys) (λe=>h (by simp only[e]));have f5:=λ(h:xs.length=ys.length) (he:∀ j (h1:j<xs.length) (h2:j<ys.length),xs[j]=ys[j])=>decide_eq_true (p:=xs=ys) (List.ext_getElem h he);generalize decide (xs=ys)=res at*;obtain⟨N,bM⟩:=aA xs.length;obtain⟨N',jS⟩:∃ N,N=ys.length:=⟨_,rfl⟩;rw[<-bM,<-jS];rw[<-bM] at l1;replace f1:=Hd f1;replace f3:=Hd f3;replace f5:=Hd f5;replace hX:=Hd hX;replace hY:=Hd hY;replace qW:=Hd qW;replace rG:=Hd rG;replace bM:=Hd bM;replace jS:=Hd jS;by_cases Af:N=N';rotate_left
 ·have hfe:=Hd (f1.out (by rw[<-bM.out,<-jS.out];exact Af));have hne:((N:Int) != (N':Int))=true:=by simpa using (show (N:Int)≠(N':Int) by omega)
  clear Af;go_enter Tryz.func46,Tryz.ntmps46;go_wp2_with fail;go_ret;exact⟨congrArg (λb=>Ending.returned (.bool b)) hfe.out.symm,Below.refl _ _⟩
 subst Af;go_enter Tryz.func46,Tryz.ntmps46;go_wp2_with fail;refine ZG [(false,5),(true,1),(false,7),(true,13)] _ [] (λU wr=>∃ k:Nat,k<=N/\U 13=.int .i64 (k:Nat)/\Below w.heap.size w wr/\∀ j (h1:j<xs.length) (h2:j<ys.length),j<k->xs[j]=ys[j]) (λU _=>N-(intOf (U 13)).toNat) ?_ ?_
 ·simp only[List.getD_cons_zero,List.getD_cons_succ];exact⟨0,Nat.zero_le _,rfl,Below.refl _ _,λj _ _ hj=>absurd hj (Nat.not_lt_zero _)⟩
 ·intro U wr hrel KK hback l' hl';obtain⟨k,hk,h12,hbw,hall⟩:=hrel;simp only[ZQ,ZM,cond_true,cond_false,Nat.reduceAdd,h12] at hl';subst hl';replace h12:=Hd h12;replace hall:=Hd hall;by_cases hlt:k<N
  ·have hlt2:(k:Int)<(N:Int):=aB;have hkN:k<xs.length:=by rw[<-bM.out];exact hlt
   have Ag:k<ys.length:=by rw[<-jS.out];exact hlt
   obtain⟨b1,o1,rfl,hr1⟩:=(hX.out.below hbw nZ) k hkN;obtain⟨b2,o2,rfl,hr2⟩:=(hY.out.below hbw nZ) k Ag;have ox:=qW.out _ (List.getElem_mem hkN);have oy:=rG.out _ (List.getElem_mem Ag);have hno:=λ(e:xs[k]≠ys[k])=>f3.out k hkN Ag e;have hstep:=λ(e:xs[k]=ys[k])=>show ∀ j (h1:j<xs.length) (h2:j<ys.length),j<k+1->xs[j]=ys[j] from λj h1 h2 hjk=>by
    by_cases tX:j<k
    ·exact hall.out j h1 h2 tX
    ·obtain rfl:j=k:=aB;exact e
   generalize xs[k]=x at*;generalize ys[k]=y at*;have ix:(Tryz.prog.info? 66).map (·.size)=some x.list.length:=by rw[(rfl:x.list.length=7)];kernel_rfl
   have iy:(Tryz.prog.info? 66).map (·.size)=some y.list.length:=by rw[(rfl:y.list.length=7)];kernel_rfl
   have hne:∀ W,_:=λW=>(R7 x y ox oy W).1;obtain⟨X,hX2⟩:=aA x.list.toArray;obtain⟨Y,hY2⟩:=aA y.list.toArray;rw[<-hX2,<-hY2] at hne;obtain⟨bb,hbb⟩:=aA (decide (x=y));rw[<-hbb] at hne;replace hbb:=Hd hbb;replace hX2:=Hd hX2;replace hY2:=Hd hY2;replace hr1:=Hd hr1;replace hr2:=Hd hr2;replace hbw:=Hd hbw;replace ox:=Hd ox;replace oy:=Hd oy;replace hno:=Hd hno;replace hstep:=Hd hstep;go_wp2_with fail;have hd0:Hid (Grown wr wr.drew):=Hd (Grown.drew (Grown.refl wr));have r1:=Hd (λW (h:Grown wr W)=>Q1 hr1.out h nZ);have r2:=Hd (λW (h:Grown wr W)=>Q1 hr2.out h nZ);have hu:=Tryz.underlying66;have oz:=λW (h:Grown wr W)=>run_loadAt_mid (P:=Tryz.prog) W b1 (o1+k*7) 66 x.list _ (r1.out W h) hu rfl ix;have o6:=λW (h:Grown wr W)=>run_loadAt_mid (P:=Tryz.prog) W b2 (o2+k*7) 66 y.list _ (r2.out W h) hu rfl iy;rw[<-hX2.out] at oz;rw[<-hY2.out] at o6;refine wp_region_held_drew (S:=(Grown wr)) kX hd0.out (λaD=>?_);generalize World.drew wr=wd at*;refine tk 0 aD ?_;refine tk 1 aD ?_;refine tk 2 aD ?_;refine tk 4 aD ?_;refine tk 5 aD ?_;refine tk 6 aD ?_;refine fZ [3,7] ?_;refine ac (λKz aF=>?_) ?_;rw[if_pos bT]
   (refine wp_load_mid 66 (.tmp 18) rfl b1 (o1+k*7) rfl x.list _ (r1.out _ aD) hu rfl ix ?_)
   rw[<-hX2.out];have hS:=aD;refine aF.out _ _ hS ?_;clear aF Kz aD hS;intro aD;try simp only[Act.put]
   refine rd 7 (λKz aF=>?_);rw[if_pos bT]
   (refine wp_load_mid 66 (.tmp 22) rfl b2 (o2+k*7) rfl y.list _ (r2.out _ aD) hu rfl iy ?_)
   rw[<-hY2.out];have hS:=aD;refine aF.out _ _ hS ?_;clear aF Kz aD hS;intro aD;try simp only[Act.put]
   refine tk 8 aD ?_;refine bz ?_;rotate_left;refine ac (λKz aF=>?_) AllReadyH.nil;rw[if_pos bT]
   (refine wp_load_mid 66 (.tmp 22) rfl b2 (o2+k*7) rfl y.list _ (r2.out _ aD) hu rfl iy ?_)
   rw[<-hY2.out];have hS:=aD;refine aF.out _ _ hS ?_;clear aF Kz aD hS;intro aD;try simp only[Act.put]
   refine rd 3 (λKz aF=>?_);rw[if_pos bT]
   (refine wp_load_mid 66 (.tmp 18) rfl b1 (o1+k*7) rfl x.list _ (r1.out _ aD) hu rfl ix ?_)
   rw[<-hX2.out];have hS:=aD;refine aF.out _ _ hS ?_;clear aF Kz aD hS;intro aD;try simp only[Act.put]
   refine tk 8 aD ?_;refine bz ?_;all_goals
    have hS2:=Hd (hbw.out.trans (aD.mono hbw.out.size));cases bb with
    | true=>
     have hxy:x=y:=by simpa using hbb.out.symm
     replace hxy:=Hd hxy;go_wp2_with fail;refine hback.out _ _ kX ?_ ?_
     ·simp only[List.getD_cons_zero,List.getD_cons_succ];exact⟨k+1,aB,by go_num,hS2.out,hstep.out hxy.out⟩
     ·have h12:=h12.out;simp only[List.getD_cons_zero,List.getD_cons_succ,h12,intOf];omega
    | false=>
     have hxy:x≠y:=by simpa using hbb.out.symm
     have hfe:=Hd (hno.out hxy);clear hxy;go_wp2_with fail;go_ret;exact⟨congrArg (λb=>Ending.returned (.bool b)) hfe.out.symm,hS2.out⟩
  ·obtain rfl:k=N:=aB;have hfe:=Hd (f5.out (by rw[<-bM.out,<-jS.out]) (λj h1 h2=>hall.out j h1 h2 (by rw[bM.out];exact h1)));replace hbw:=Hd hbw;clear hback;go_wp2_with fail;go_ret;exact⟨congrArg (λb=>Ending.returned (.bool b)) hfe.out.symm,hbw.out⟩
theorem Dj(va vb:Value)(m m':St)(w:World)(ha:bJ w va m)(hb:bJ w vb m')(l1:m.its.length<=1000)(l2:m.ens.length<=1000) :
  Calls Tryz.prog 16 #[va,vb] w λx w'=>x=.returned (.bool (K9 m m'))/\Below w.heap.size w w':=by
 obtain⟨⟨an,cn,av,cv,rfl,hN,hN1,iG,hV,hV1,hV2⟩,okN,okV⟩:=ha;obtain⟨⟨bn,dn,bv,dv,rfl,hM,hM1,hM2,hW,hW1,hW2⟩,okM,okW⟩:=hb;have h1:=λW (h:Below w.heap.size w W)=>WT an bn cn dn m.its m'.its okN okM W (hN.below h nZ) (hM.below h nZ) aB;have h2:=λW (h:Below w.heap.size w W)=>WZ av bv cv dv m.ens m'.ens okV okW W (hV.below h nZ) (hW.below h nZ) aB;have he:K9 m m'=(decide (m.its=m'.its)&&decide (m.ens=m'.ens)):=rfl;rw[he];generalize decide (m.its=m'.its)=r1 at*;generalize decide (m.ens=m'.ens)=r2 at*;generalize m.its.length=n1 at*;generalize m.ens.length=n2 at*;generalize m'.its.length=n3 at*;generalize m'.ens.length=n4 at*;obtain⟨a1,a2,hs2,hB⟩:=YJ w #[.slice an n1 cn,.slice av n2 cv] #[.slice bn n3 dn,.slice bv n4 dv] 28 28 _ rfl;obtain⟨w2,hw2⟩:∃ w2,w2=((w.alloc (.cells #[.slice an n1 cn,.slice av n2 cv] 28)).alloc (.cells #[.slice bn n3 dn,.slice bv n4 dv] 28)):=⟨_,rfl⟩;rw[<-hw2] at a1 a2 hs2 hB;have c10:=Za a1 0;have c20:=Za a2 0;simp only[List.getElem?_toArray,List.getElem?_cons_zero] at c10 c20;replace hw2:=Hd hw2;replace h1:=Hd h1;replace h2:=Hd h2;replace a1:=Hd a1;replace a2:=Hd a2;replace hB:=Hd hB;replace hs2:=Hd hs2;clear he hN hV hM hW hN1 iG hV1 hV2 hM1 hM2 hW1 hW2 okN okV okM okW l1 l2;go_enter Tryz.func16,Tryz.ntmps16;go_wp2_with fail;rw[<-hw2.out];go_wp2_with fail;with_reducible refine(h1.out w2 hB.out).mono ?_
 rintro e w3 ⟨rfl,hb⟩;have b1:=(hb.block _ (Zb a1.out)).trans a1.out;have b2:=(hb.block _ (Zb a2.out)).trans a2.out;have f0:=Za b1 1;have f1:=Za b2 1;simp only[List.getElem?_toArray,List.getElem?_cons_succ,List.getElem?_cons_zero] at f0 f1;have hB3:=Hd (hB.out.trans (hb.mono hB.out.size));clear b1 b2 hb c10 c20;cases r1 with
 | false=>
  go_wp2_with fail;go_ret;exact⟨rfl,hB3.out⟩
 | true=>
  go_wp2_with fail;with_reducible refine(h2.out w3 hB3.out).mono ?_
  rintro e w4 ⟨rfl,hb⟩;have hB4:=Hd (hB3.out.trans (hb.mono hB3.out.size));go_wp2_with fail;go_ret;exact⟨sX,hB4.out⟩
open Go.RowKit Go.ChangeShapes
section
variable {P:Program} {W:World}
theorem XF(R:List (String×DataW Unit)):∀ (L:List (String×DataW Unit)) (ps:List MemPlace),DataW.LaidVars P W (L++R) ps->∃ q,DataW.LaidVars P W R q:=by
 intro L;induction L with
 | nil=>intro ps h;exact⟨ps,h⟩
 | cons x L ih=>
  intro ps h;obtain⟨g0,t0,cs0,f0,p0,q0,hg0,ht0,hv0,hd0,hr0,e0⟩:=h;exact ih q0 hr0
theorem NR(R:List (String×DataW Unit)):∀ (L:List (String×DataW Unit)) (ps:List MemPlace),DataW.LaidVars P W (L++R) ps->∃ q r,ps=q++r/\DataW.LaidVars P W R r:=by
 intro L;induction L with
 | nil=>intro ps h;exact⟨[],ps,rfl,h⟩
 | cons x L ih=>
  intro ps h;obtain⟨g0,t0,cs0,f0,p0,q0,hg0,ht0,hv0,hd0,hr0,e0⟩:=h;obtain⟨q,r,e1,hr⟩:=ih q0 hr0;exact⟨MemPlace.row ⟨g0,0,none⟩ cs0.size++p0++q,r,by rw[e0,e1];simp only[List.append_assoc],hr⟩
theorem K0{name:String}{k:IntKind}{zs:List Int}{R:List (String×DataW Unit)}{ps:List MemPlace}{g:Nat}{t e:TypeId}{n:Nat}
  (hg:P.globalNamed name=some g) (hty:(P.globals[g]?).map (·.type)=some t) (ht:P.underlying t=some (.array n e)) (he:P.underlying e=some (.int k)) (hce:P.cellsOf e=1) (hct:P.cellsOf t=n)
  (h:DataW.LaidVars P W ((name,Go.Lib.tabData k zs)::R) ps):∃ t' fr,W.heap[g]? = some (.cells (zs.map λz=>Value.int k z).toArray t' fr):=by
 obtain⟨g',t',cs,fuel,p,q,hg',ht',hvar,hd,_,_⟩:=h;obtain rfl:=Option.some.inj (hg.symm.trans hg');obtain rfl:=Option.some.inj (hty.symm.trans ht');have e1:cs=(zs.map λz=>Value.int k z).toArray:=by rw[<-Go.Lib.cells_of_tab ht he hce hct hd]
 subst e1;simp only[World.var?,hg,Option.bind_some] at hvar;split at hvar
 ·rename_i cs2 t2 fr2 hh
  injection hvar with hvar;subst hvar;exact⟨t2,fr2,hh⟩
 ·cases hvar
end
def iq:List Int:=(ZW 8 (sAt ZB)).map wn
def iw:List Int:=sV.map wn
theorem MX:(iq.map λz=>Value.int .u32 z).toArray=c8 ZB:=kX
theorem TF{W:World}{g:Nat}{t:TypeId}{fr:Nat×Nat}(h:W.heap[g]? = some (.cells (iq.map λz=>Value.int .u32 z).toArray t fr))(i:Nat)(hi:i<8):W.cell? ⟨g,i,none⟩=some (.int .u32 (wn (sAt ZB i))):=by
 rw[cell_of_row W g i _ t fr h,MX,GK ZB hi]
theorem KM{W:World}{g:Nat}{t:TypeId}{fr:Nat×Nat}(h:W.heap[g]? = some (.cells (iw.map λz=>Value.int .u32 z).toArray t fr))(i:Nat)(hi:i<64):W.cell? ⟨g,i,none⟩=some (.int .u32 (wn (oZ i))):=by
 rw[cell_of_row W g i _ t fr h];have hk:sV.length=64:=rfl;unfold iw oZ;simp only[List.getElem?_toArray,List.getElem?_map,List.map_map,List.getD_eq_getElem?_getD];rw[List.getElem?_eq_getElem aB];rfl
end
end Go.Proofs.YtpdhceiodgnbmaaGreatDoor
