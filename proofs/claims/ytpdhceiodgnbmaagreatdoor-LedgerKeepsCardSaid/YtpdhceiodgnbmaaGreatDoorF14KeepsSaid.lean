import Derived.Test.YtpdhceiodgnbmaaGreatDoorF13KeepsSaid
set_option linter.all false
set_option maxRecDepth 100000
set_option maxHeartbeats 8000000
namespace Go.Proofs.YtpdhceiodgnbmaaGreatDoor
section
open Go.RowKit
def pz(ea:Nat->Addr)(j:Nat):Addr:=ea (if j=0 then 0 else if j=1 then 7 else 17)
theorem UV{w:World}{ea:Nat->Addr}(H:aQ 298 aK w ea):bG w (pz ea):=by
 refine⟨λi hi=>?_,λi hi=>?_,λi j hi hj e=>?_⟩
 ·rcases(show i=0\/i=1\/i=2 from by simp[GW] at hi;omega) with rfl|rfl|rfl
  ·exact H.var 0 dX
  ·exact H.var 7 dX
  ·exact H.var 17 dX
 ·rcases(show i=0\/i=1\/i=2 from by simp[GW] at hi;omega) with rfl|rfl|rfl
  ·exact H.obj 0 dX
  ·exact H.obj 7 dX
  ·exact H.obj 17 dX
 ·have hi':i=0\/i=1\/i=2:=by simp[GW] at hi;omega
  have hj':j=0\/j=1\/j=2:=by simp[GW] at hj;omega
  have h3:=H.inj (if i=0 then 0 else if i=1 then 7 else 17) (if j=0 then 0 else if j=1 then 7 else 17) (by show _<20;split<;>(try split)<;>omega) (by show _<20;split<;>(try split)<;>omega) e;rcases hi' with rfl|rfl|rfl<;>rcases hj' with rfl|rfl|rfl<;>first|rfl|exact absurd h3 dX
theorem UI{s n k d t r:Int}(h:Qu s n k d t r=none):K4 s n k d t r:=by
 rcases Ui s n k d t r with ⟨_,h'⟩|⟨_,_,h'⟩|⟨_,_,_,h'⟩|⟨_,_,_,_,h'⟩|⟨_,_,_,_,_,h'⟩|⟨_,_,_,_,_,_,h'⟩|⟨h1,h2,h3,h4,h5,h6,_⟩;all_goals first|(rw[h] at h';cases h')|exact⟨h1,h2,h3,h4,h5,h6⟩
theorem U7{s n k d t r V:Int}{F:ByteArray}{i:Nat}(h:Qu s n k d t r=some (F,V,i)):i<20:=by
 rcases Ui s n k d t r with ⟨_,h'⟩|⟨_,_,h'⟩|⟨_,_,_,h'⟩|⟨_,_,_,_,h'⟩|⟨_,_,_,_,_,h'⟩|⟨_,_,_,_,_,_,h'⟩|⟨h1,h2,h3,h4,h5,h6,h'⟩;all_goals (rw[h] at h';first|(cases h';omega)|cases h')
theorem Gg(s n k d t r:Int)(F:ByteArray)(V:Int)(i:Nat)(h:Qu s n k d t r=some (F,V,i))(hn : -9223372036854775808<=n/\n<=9223372036854775807)(ea:Nat->Addr)(w:World)(H:aQ 298 aK w ea) :
  Calls Tryz.prog 88 #[.agg #[.int .i64 s,.int .i64 n,.int .i64 k,.int .i64 d,.int .i64 t,.int .i64 r]] w λe w'=>∃ g,e=.returned (.iface 227 (.pointer (some ⟨g,0,none⟩)))/\w.heap.size<=g/\w'.heap[g]? = some (.cells #[.string F,.int .i64 V,.iface 298 (.pointer (some (ea i)))] 229 (0,0))/\Below w.heap.size w w':=by
 have hE:=UV H;have fin:∀ F' V' i',(Calls Tryz.prog 88 #[Xh s n k d t r] w λe w'=>∃ v,e=.returned v/\VE w.heap.size w' v F' V' (ea i')/\Below w.heap.size w w')->Qu s n k d t r=some (F',V',i')->Calls Tryz.prog 88 #[.agg #[.int .i64 s,.int .i64 n,.int .i64 k,.int .i64 d,.int .i64 t,.int .i64 r]] w λe w'=>∃ g,e=.returned (.iface 227 (.pointer (some ⟨g,0,none⟩)))/\w.heap.size<=g/\w'.heap[g]? = some (.cells #[.string F,.int .i64 V,.iface 298 (.pointer (some (ea i)))] 229 (0,0))/\Below w.heap.size w w':=by
  intro F' V' i' hc h';rw[h] at h';cases h';refine Calls.mono hc ?_;rintro e w' ⟨v,rfl,⟨g,rfl,h1,h2⟩,hb⟩;exact⟨g,rfl,h1,h2,hb⟩
 rcases Ui s n k d t r with ⟨h1,h'⟩|⟨h1,h2,h'⟩|⟨h1,h2,h3,h'⟩|⟨h1,h2,h3,h4,h'⟩|⟨h1,h2,h3,h4,h5,h'⟩|⟨h1,h2,h3,h4,h5,h6,h'⟩|⟨h1,h2,h3,h4,h5,h6,h'⟩
 ·exact fin _ _ _ (WA s n k d t r h1 (pz ea) w hE hn) h'
 ·exact fin _ _ _ (Wj s n k d t r h1 h2 (pz ea) w hE) h'
 ·exact fin _ _ _ (PM s n k d t r h1 h2 h3 (pz ea) w hE) h'
 ·exact fin _ _ _ (WF s n k d t r h1 h2 h3 h4 (pz ea) w hE) h'
 ·exact fin _ _ _ (W9 s n k d t r h1 h2 h3 h4 h5 (pz ea) w hE) h'
 ·exact fin _ _ _ (WU s n k d t r h1 h2 h3 h4 h5 h6 (pz ea) w hE) h'
 ·rw[h] at h';cases h'
def Th(base:Nat)(w:World)(F:ByteArray)(V:Int)(x:Addr)(g:Nat):Prop:=base<=g/\w.heap[g]? = some (.cells #[.string F,.int .i64 V,.iface 298 (.pointer (some x))] 229 (0,0))
theorem HU(fn:Nat->Option (Nat×Nat)):∀ (vs:List Value) (i:Nat) (pre rest:List Value),GL fn i pre.length vs->(vs.map (·.cells.size)).sum<=rest.length->
  Instr.fill fn (pre++rest).toArray ((vs.zipIdx i).map λx=>(x.2,x.1))=some (pre++(vs.flatMap (·.cells.toList)++rest.drop (vs.map (·.cells.size)).sum)).toArray
 | [],i,pre,rest,_,hr=>by simp[Instr.fill]
 | v::vs,i,pre,rest,hp,hr=>by
  obtain⟨h1,h2⟩:=hp;simp only[List.map_cons,List.sum_cons] at hr;simp only[List.zipIdx_cons,List.map_cons];unfold Instr.fill;simp only[h1];rw[if_neg bf];obtain⟨g1,g2⟩:=Go.Great.foldl_set pre.length v.cells.toList 0 (pre++rest).toArray;have hll:v.cells.toList.length=v.cells.size:=Array.length_toList ..;generalize hl:v.cells.toList=l at*;have e:(l.zipIdx 0).foldl (λcs (x:Value×Nat)=>cs.setIfInBounds (pre.length+x.2) x.1) (pre++rest).toArray=((pre++l)++rest.drop v.cells.size).toArray:=by
   apply Array.ext_getElem?
   intro k;rw[g2 k];simp only[Nat.add_zero,List.size_toArray,List.length_append,List.getElem?_toArray];by_cases hk:pre.length<=k/\k<pre.length+l.length/\k<pre.length+rest.length
   ·rw[if_pos hk,List.append_assoc,List.getElem?_append_right hk.1,List.getElem?_append_left aB]
   ·rw[if_neg hk];by_cases hk1:k<pre.length
    ·rw[List.getElem?_append_left hk1,List.append_assoc,List.getElem?_append_left hk1]
    ·rw[List.getElem?_append_right aB,List.getElem?_append_right (by rw[List.length_append];omega),List.length_append,List.getElem?_drop];congr 1;omega
  have tY:Array.foldl (λcs (x:Value×Nat)=>cs.setIfInBounds (pre.length+x.2) x.1) (pre++rest).toArray v.cells.zipIdx=((pre++l)++rest.drop v.cells.size).toArray:=by
   rw[<-e,<-Array.foldl_toList,Array.toList_zipIdx,hl]
  rw[tY];have ih:=HU fn vs (i+1) (pre++l) (rest.drop v.cells.size) (by rw[List.length_append,hll];exact h2) jH;rw[ih];simp[hl,List.drop_drop]
theorem DK{P:Program}{t:TypeId}{fs:Array Field}{places:List (Nat×Nat)}{Z:List Value}(hz:(P.info? t).map (λi=>i.zero.map (·.cells.toList))=some (some Z))(hu:P.underlying t=some (.struct fs))(hp:fs.toList.mapM (λf=>(P.info? f.type).map λi=>(f.offset,i.size))=some places)
  (vs:List Value) (hpl:GL (places.toArray[·]?) 0 0 vs) (hn:(vs.map (·.cells.size)).sum<=Z.length):P.built t ((vs.zipIdx 0).map λx=>(x.2,x.1))=some (vs.flatMap (·.cells.toList)++Z.drop (vs.map (·.cells.size)).sum).toArray:=by
 obtain⟨it,hit,h2⟩:=Option.map_eq_some_iff.1 hz;obtain⟨z,hz1,hz2⟩:=Option.map_eq_some_iff.1 h2;unfold Program.built;simp only[hit,hu,hz1,hp];have h:=HU (λi=>places.toArray[i]?) vs 0 [] z.cells.toList hpl (by rw[hz2];exact hn);have hz3:z.cells=Z.toArray:=by rw[<-hz2]
 rw[hz2] at h;rw[hz3];simpa using h
section
variable {P:Program} {ops:Array Oper} {rest:List Oper} {o:Oper} {a:Act} {w:World} {Q:Exit->Act->World->Prop}
theorem KG(w:World)(b j:Nat)(ty T:TypeId)(C:Array Value)(v:Value)(hg:w.heap[b]? = some (.cells C T (0,0)))(hj:j<C.size)(hi:(P.info? ty).map (·.size)=some 1)(h1:v.oneCell'=true) :
  (storeVar ty ⟨b,j,none⟩ v).run P w=.ok () (w.setCell ⟨b,j,none⟩ v):=by
 have ht:=Uu hg j 1 aB;have:=run_storeCells_cells (P:=P) b j [v] 0 w (λi hi=>by simpa using (ht i (by simpa using hi)).1) (λi hi=>by simpa using (ht i (by simpa using hi)).2) (λx hx=>by simp at hx;subst hx;exact h1);have hc:v.cells=#[v]:=by cases v<;>first|rfl|cases h1
 cases hq:P.info? ty with
 | none=>simp[hq] at hi
 | some i=>
  have hs:i.size=1:=by simpa[hq] using hi
  simp only[Nat.add_zero] at this;simp[storeVar,sizeOf,typeInfo,hq,hc,hs,this,World.setCells]
theorem MF{K:Act->World->Prop}(ty T:TypeId)(x y:Operand)(ho:o.op=.store ty x y)(g j:Nat)(C:Array Value)(v:Value)
  (hx:a.eval x=.pointer (some ⟨g,j,none⟩)) (hy:a.eval y=v) (hg:Hid (w.heap[g]? = some (.cells C T (0,0)))) (hj:j<C.size) (hi:(P.info? ty).map (·.size)=some 1) (h1:v.oneCell'=true)
  (h:∀ w',Hid (ag g (.cells (C.setIfInBounds j v) T (0,0)) w w')->K (a.put o.dst undef) w'):o.wp P a w K Q:=by
 unfold Oper.wp execOp;simp only[ho,hx,hy,Instr.storeAt,Instr.sureAddr,Sem.run_bind,Sem.run_pure,Result.andThen_ok,KG w g j ty T C v hg.out hj hi h1];exact h _ (Hd ((ag.refl hg.out).setCell v))
theorem JT(hgd:o.guard=none)(ty T:TypeId)(x y:Operand)(ho:o.op=.store ty x y)(g j:Nat)(C:Array Value)(v:Value)
  (hx:a.eval x=.pointer (some ⟨g,j,none⟩)) (hy:a.eval y=v) (hg:Hid (w.heap[g]? = some (.cells C T (0,0)))) (hj:j<C.size) (hi:(P.info? ty).map (·.size)=some 1) (h1:v.oneCell'=true)
  (h:∀ w',Hid (ag g (.cells (C.setIfInBounds j v) T (0,0)) w w')->wpList P ops Q rest (a.put o.dst undef) w'):wpList P ops Q (o::rest) a w:=
 wpList_plain hgd λK hK=>MF (K:=K) ty T x y ho g j C v hx hy hg hj hi h1 (λw' hw=>hK _ _ (h w' hw))
end
section
variable {P:Program} {ops:Array Oper} {Q:Exit->Act->World->Prop} {md:Region.Mode} {l n:Nat}
theorem BS{o:Oper}{a:Act}{w:World}{K:Act->World->Prop}(hd:∀ c,o.op≠.defer c)(hLO:¬LetsOut Q)(h:o.wp P a w K Q):o.wpIn (Fence.wide.inRound l) n P a w K Q:=by
 unfold Oper.wpIn;refine⟨λ_ _=>trivial,?_⟩;rw[Oper.semAt_plain _ _ _ hd];unfold Oper.wp at h;generalize (execOp a.eval o).run P w=r at h ⊢;cases r with
 | ok x w'=>
  cases x with
  | value v=>exact h
  | skip=>exact h
  | defer d=>exact h
  | enter f args=>exact⟨λh=>(by cases h),CallsIn.inRound l (callsIn_wide.2 h)⟩
  | row row args=>exact⟨λh=>(by cases h),λc cs _=>let ⟨v,w',r,s⟩:=h c cs;⟨v,w',r,stepsIn_wide.2 s⟩⟩
  | _=>exact h.elim
 | halt s w'=>
  cases s<;>first|exact h|exact h.elim
theorem C0(hd:∀ o∈ops,∀ c,o.op≠.defer c)(hLO:¬LetsOut Q){i:Nat}{K K':Act->World->Prop}(hK:∀ a w,K a w->K' a w){a:Act}{w:World}(h:wpOp P ops Q i K a w):wpOpIn (Fence.wide.inRound l) n P ops Q i K' a w:=by
 have h:=wpOp_mono hK h;unfold wpOp at h;unfold wpOpIn;cases ho:ops[i]? with
 | none=>rw[ho] at h;exact h
 | some o=>
  rw[ho] at h;simp only at h ⊢;split
  ·next hw=>
   rw[if_pos hw] at h;rcases h with h|⟨_,h⟩
   ·exact BS (hd o (Array.mem_of_getElem? ho)) hLO h
   ·exact absurd h hLO
  ·next hw=>
   rw[if_neg hw] at h;exact⟨λ_ _=>trivial,h⟩
theorem Mn(hd:∀ o∈ops,∀ c,o.op≠.defer c)(hLO:¬LetsOut Q):∀ (fuel:Nat) (listed:Array Bool) (a:Act) (w:World),wpAny P md ops Q fuel listed a w->wpAnyIn (Fence.wide.inRound l) n P md ops Q fuel listed a w
 | 0,_,_,_,h=>h
 | fuel+1,_,_,_,h=>⟨h.1,λi hi=>C0 hd hLO (λa w h=>Mn hd hLO fuel _ a w h) (h.2 i hi)⟩
def Rt(ops:Array Oper):Bool:=ops.all (λo=>match o.op with | .defer _=>false|_=>true)
theorem TU(h:Rt ops=true):∀ o∈ops,∀ c,o.op≠.defer c:=λo ho c e=>by
 have:=Array.all_eq_true'.1 h o ho;rw[e] at this;cases this
theorem Jk{S:World->Prop}{id:Nat}{a:Act}{w:World}(hm:P.follows .mixedOrders=true)(hnd:Rt ops=true)(hLO:¬LetsOut Q)(hS:S w.drew)
  (h:S w.drew->wpAnyH P .any ops Q S ops.size (Array.replicate ops.size false) a w.drew):(Code.region id ops true).wpIn (Fence.wide.inRound l) n P Q a w:=
 wpIn_region_any hm (Mn (TU hnd) hLO _ _ _ _ (wpAny_of_held _ _ _ _ (h hS)))
def E9(Q:Exit->Act->World->Prop):Exit->Act->World->Prop
 | .panic _,_,_=>False
 | e,a,w=>Q e a w
theorem Wr{c:Code}{a:Act}{w:World}(h:c.wp P (E9 Q) a w):c.wp P Q a w:=
 wp_mono h (λe a w h=>by cases e<;>first|exact h|exact h.elim)
theorem QO{o:Oper}{a:Act}{w:World}(ty:TypeId)(x:Operand)(ho:o.op=.load ty x)(b off:Nat)(hx:a.eval x=.pointer (some ⟨b,off,none⟩))(cs:List Value)(d:TypeDesc)(hc:w.rangeAt b off cs)
  (hu:P.underlying ty=some d) (hd:d.isRow=true) (hi:(P.info? ty).map (·.size)=some cs.length) (C:Array Value) (hC:C=cs.toArray):(execOp a.eval o).run P w=.ok (.value (.agg C)) w:=by
 subst hC;unfold execOp;simp only[ho,hx,Instr.loadAt,Instr.sureAddr,Sem.run_bind,Sem.run_pure,Result.andThen_ok,run_loadVar_mid w b off ty cs d hc hu hd hi]
end
open Go Go.RowKit Lean Elab Tactic Meta
theorem LQ(base B mb mn:Nat)(f:Int->List UInt8)(n:Int)(hn:n<=2048)(T:TypeId)(v:Value)(ws:List (Int×List UInt8))(armed:Bool)(l:Int)(har:armed=true->l≠0)(hl : -1000000<=l/\l<=9223372036854775807)(w:World)
  (h:fO base w B T n mb mn f v ws armed l false) (hws:ws.length<=100000) (jO:mn<=100000) :
  Calls Tryz.prog 131 #[.pointer (some ⟨B,0,none⟩)] w λx w'=>x=.returned .nilIface/\
   fO base w' B T n mb (mn+ws.length) (Q2 (λ_=>some 64) ws f) (.slice none 0 0) [] armed (l-1) false/\Only (λk=>k=B\/k=mb) w w':=by
 have hat:=h.at_;have hBl:=Zb hat
 have c3:w.cell? ⟨B,3,none⟩=some (.bool armed):=by rw[Za hat];rfl
 have c4:w.cell? ⟨B,4,none⟩=some (.int .i64 l):=by rw[Za hat];rfl
 have c5:w.cell? ⟨B,5,none⟩=some (.bool false):=by rw[Za hat];rfl
 have hde:=Hd (Tn B armed l har hl w c3 c4 c5 (Zg hat _));obtain⟨w1,hw1⟩:∃ w1,w1=w.setCell ⟨B,4,none⟩ (.int .i64 (l-1)):=⟨_,rfl⟩;have rz:=(ag.refl hat).setCell (j:=4) (.int .i64 (l-1));rw[<-hw1] at rz;have kT:Only (λk=>k=B) w w1:=Only.ofUpd rz rfl;obtain⟨va,vc,hv⟩:∃ a c,v=.slice a ws.length c:=by
  rcases h.row.2 with ⟨e1,h2⟩|⟨g,c,cur,e1,_⟩
  ·exact⟨none,0,by rw[e1,h2]⟩
  ·exact⟨_,c,e1⟩
 have fE:w1.heap[B]? = some (.cells (Q7 n mb v armed (l-1) false) T (0,0)):=rz.here;have hc2:w1.cell? ⟨B,2,none⟩=some (.slice va ws.length vc):=by rw[Za fE,<-hv];rfl
 have hm1:aV w1 mb mn f:=h.map.only kT h.hmB;have qO:w1.ownsRow base 132 65 v ws.length (Yb ws):=kT.owns h.row (λk hk=>(h.vB k hk).1);have lJ:∀ p∈ws,p.2.length=64:=λp hp=>(h.lens p hp).1;have Oi:=hm1.lt;have hs1:=kT.size;have hB1:=Zb fE;replace h:=Hd h;replace fE:=Hd fE;replace hm1:=Hd hm1;replace qO:=Hd qO;replace kT:=Hd kT;replace hv:=Hd hv;replace hw1:=Hd hw1;replace lJ:=Hd lJ;clear rz hat c3 c4 c5;go_enter Tryz.func131,Tryz.ntmps131;go_wp2_with fail;with_reducible refine hde.out.mono ?_
 rintro x w2 ⟨rfl,hq⟩;obtain rfl:w1=w2:=hw1.out.trans hq.symm;clear hq hde hw1;go_wp2_with fail;go_loopw [17,18,19,5,20,21,22,23,16] (λ_ _ _ _ _ _ _ _ j wr=>∃ k:Nat,k<=ws.length/\j=.int .i64 k/\aV wr mb (mn+k) (Q2 (λ_=>some 64) (ws.take k) f)/\Only (λb=>b=mb) w1 wr) (λ_ _ _ _ _ _ _ _ j _=>ws.length-(intOf j).toNat)
 case atStart=>exact⟨0,Nat.zero_le _,rfl,hm1.out,Only.refl _ _⟩
 case round=>
  obtain⟨k,hk,rfl,hmk,wu⟩:=hrel;have hsk:=wu.size;have SN:=(World.cell?_of_block (wu.block B hB1 (λe=>h.out.hmB e.symm)):wr.cell? ⟨B,1,none⟩=w1.cell? ⟨B,1,none⟩);have hcB:wr.cell? ⟨B,1,none⟩=some (.map (some mb)):=SN.trans (by rw[Za fE.out];rfl);have hc2r:wr.cell? ⟨B,2,none⟩=some (.slice va ws.length vc):=(World.cell?_of_block (wu.block B hB1 (λe=>h.out.hmB e.symm)):wr.cell? ⟨B,2,none⟩=w1.cell? ⟨B,2,none⟩).trans hc2;have xA:wr.heap[B]? = some (.cells (Q7 n mb v armed (l-1) false) T (0,0)):=(wu.block B hB1 (λe=>h.out.hmB e.symm)).trans fE.out;have hf2r:wr.frozen? ⟨B,2,none⟩=false:=Zg xA _;replace xA:=Hd xA;have hBr:=World.block_lt_of_cell? wr _ hcB;have hmr:=hmk.lt;clear SN;replace hcB:=Hd hcB;replace hmk:=Hd hmk;replace wu:=Hd wu;by_cases hlt:k<ws.length
  ·have hlt2:(k:Int)<ws.length:=aB;obtain⟨g,rfl⟩:∃ g,va=some ⟨g,0,none⟩:=by
    rcases qO.out.2 with ⟨e1,h2⟩|⟨g,c,cur,e1,_⟩
    ·omega
    ·rw[hv.out] at e1;injection e1 with e1;exact⟨g,e1⟩
   have hgm:g≠mb:=(h.out.vB g (by rw[hv.out];rfl)).2;have hrw:wr.ownsRow base 132 65 (.slice (some ⟨g,0,none⟩) ws.length vc) ws.length (Yb ws):=by
    have:=qO.out;rw[hv.out] at this;exact wu.out.owns this (λb hb=>by cases hb;exact hgm)
   obtain⟨i,hi⟩:=aA (ws[k].1);obtain⟨bs,tZ⟩:∃ b,b=ws[k].2:=⟨_,rfl⟩;have hir:=(h.out.lens ws[k] (List.getElem_mem hlt)).2;rw[<-hi] at hir;have hbs:bs.length=64:=by rw[tZ];exact lJ.out _ (List.getElem_mem hlt)
   obtain⟨R,jw⟩:∃ R,R=#[Value.int .i64 i]++(cB bs).toArray:=⟨_,rfl⟩;have hRs:R.size=65:=by rw[jw];simp[Zc,hbs]
   have hRl:R.toList=.int .i64 i::cB bs:=by rw[jw];simp
   have hrg:wr.rangeAt g (k*65) R.toList:=by
    rw[hRl,hi,tZ];exact Mp hrw lJ.out k hlt
   have qm:R.all (·.oneCell')=true:=by
    rw[Array.all_eq_true'];intro u hu;have hu:=Array.mem_toList_iff.2 hu;rw[hRl] at hu;rcases List.mem_cons.1 hu with rfl|hu
    ·rfl
    ·exact Zw _ u hu
   have yR:Tryz.prog.underlying 132=some _:=Tryz.underlying132;have hszW:(Tryz.prog.info? 132).map (·.size)=some R.size:=by rw[hRs];kernel_rfl
   have gX:(Tryz.prog.info? 132).map (·.size)=some R.toList.length:=by rw[Array.length_toList,hRs];kernel_rfl
   have hdn:∀ w3,aV w3 mb (mn+k) (Q2 (λ_=>some 64) (ws.take k) f)->w3.cell? ⟨B,1,none⟩=some (.map (some mb))->_:=λw3 h1 h2=>Dd B mb (mn+k) (Q2 (λ_=>some 64) (ws.take k) f) i aB aB bs hbs 64 nZ 64 rfl w3 h2 h1 aB h.out.hmB;rw[<-jw] at hdn;replace hrg:=Hd hrg;replace hrw:=Hd hrw;replace tZ:=Hd tZ;replace hi:=Hd hi;replace jw:=Hd jw;replace hRl:=Hd hRl;replace hdn:=Hd hdn;go_wp2_with (first
    | (refine wpList_load_mid rfl 132 (.tmp 18) rfl g _ rfl R.toList _ hrg.out yR rfl gX ?_;rw[Array.toArray_toList])
    | (refine Zd rfl 132 (.tmp 5) (.tmp 19) rfl wr.heap.size _ R rfl rfl (Hd (heap_alloc_new _ _)) hszW (by rw[hRs];rfl) qm ?_;intro w3 dB)
    | (refine Ze rfl 132 (.tmp 5) rfl wr.heap.size R _ rfl (Hd dB.out.here) yR rfl hszW ?_))
   have hG3:Grown wr w3:=Below.trans (Grown.alloc (Grown.refl wr) _) (dB.out.below nZ);have qI:=hmk.out.only (Only.ofBelow (D:=λ_=>False) hG3) (λh=>h);have hc3:=(hG3.cell (p:=⟨B,1,none⟩) hBr).trans hcB.out;have hcall:=Hd (hdn.out w3 qI hc3);have hO3:=Hd ((wu.out.trans (Only.ofBelow (D:=λb=>b=mb) hG3) (λ_ _ h=>h)));clear dB hdn qI hc3 hG3;with_reducible refine hcall.out.mono ?_
   rintro x w4 ⟨rfl,dU,hO4⟩;clear hcall;replace dU:=Hd dU;replace hO4:=Hd hO4;go_wp2_with fail;go_roundw
   case rel=>
    refine⟨k+1,aB,by go_num,?_,hO3.out.trans hO4.out (λ_ _ h=>h)⟩;rw[GM hlt,<-hi.out,<-tZ.out,<-Nat.add_assoc];exact dU.out
   case measure=>simp[intOf];omega
  ·obtain rfl:k=ws.length:=aB;go_wp2_with fail;go_ret;have SQ:=hmk.out;rw[List.take_length] at SQ;have hU:=(ag.refl xA.out).setCell (j:=2) (.slice none 0 0);have hOU:Only (λb=>b=B) wr _:=Only.ofUpd hU rfl;refine⟨rfl,⟨hU.here,SQ.only hOU h.out.hmB,⟨rfl,.inl ⟨rfl,rfl⟩⟩,h.out.hmB,λk hk=>by(cases hk),h.out.geB,h.out.gem,λp hp=>by(cases hp)⟩,?_⟩;exact((kT.out.mono (E:=λk=>k=B\/k=mb) (λ_ _ h=>.inl h)).trans wu.out (λ_ _ h=>.inr h)).trans hOU (λ_ _ h=>.inl h)
structure DP where
 n:Int
 f:Int->List UInt8
 ws:List (Int×List UInt8)
 armed:Bool
 l:Int
 gone:Bool
def DP.bad(p:DP):Bool:=p.gone || (p.armed&&p.l==0)
def DP.write(p:DP)(i:Int)(bs:List UInt8):DP×Nat:=
 if i<0\/p.n<=i then (p,1) else if bs.length≠64 then (p,2) else if p.bad then ({ p with gone:=true },3) else ({ p with l:=p.l-1,ws:=p.ws++[(i,bs)] },0)
def DP.sync(p:DP):DP×Nat:=if p.bad then ({ p with gone:=true },3) else ({ p with l:=p.l-1,f:=Q2 (λ_=>some 64) p.ws p.f,ws:=[] },0)
def DP.new(n:Int):DP:=⟨n,λ_=>cK,[],false,0,false⟩
def XL(e:Nat->Addr):Nat->Value
 | 0=>.nilIface
 | k+1=>.iface 298 (.pointer (some (e k)))
def DM(base:Nat)(w:World)(B mb mn:Nat)(v:Value)(p:DP):Prop:=fO base w B 120 p.n mb mn p.f v p.ws p.armed p.l p.gone
theorem DM.only{base:Nat}{w w':World}{B mb mn:Nat}{v:Value}{p:DP}{D:Nat->Prop}(h:DM base w B mb mn v p)(hO:Only D w w')(hd:∀ k,ZR B mb v k->¬D k):DM base w' B mb mn v p:=fO.only h hO hd
theorem DM.below{base:Nat}{w w':World}{B mb mn:Nat}{v:Value}{p:DP}(h:DM base w B mb mn v p)(hb:Below w.heap.size w w'):DM base w' B mb mn v p:=h.only (Only.ofBelow (D:=λ_=>False) hb) (λ_ _ h=>h)
theorem DM.cell{base:Nat}{w:World}{B mb mn:Nat}{v:Value}{p:DP}(h:DM base w B mb mn v p)(j:Nat):w.cell? ⟨B,j,none⟩=(Q7 p.n mb v p.armed p.l p.gone)[j]? := Za h.at_ j
theorem DM.form{base:Nat}{w:World}{B mb mn:Nat}{v:Value}{p:DP}(h:DM base w B mb mn v p):∃ a c,v=.slice a p.ws.length c:=by
 rcases h.row.2 with ⟨e1,h2⟩|⟨g,c,cur,e1,_⟩
 ·exact⟨none,0,by rw[e1,h2]⟩
 ·exact⟨_,c,e1⟩
theorem DM.rowN{base:Nat}{w:World}{B mb mn:Nat}{a:Option Addr}{m c:Nat}{p:DP}(h:DM base w B mb mn (.slice a m c) p):ic w.heap.size w a p.ws:=by
 intro i hi;have hl:∀ q∈p.ws,q.2.length=64:=λq hq=>(h.lens q hq).1;have hg:p.ws.getD i (0,[])=p.ws[i]:=by simp[List.getD_eq_getElem?_getD,hi]
 rcases h.row.2 with ⟨e1,h2⟩|⟨g,cap,cur,e1,_,hh,_⟩
 ·omega
 ·cases e1;refine⟨g,rfl,Zb hh,by rw[hg];exact hl _ (List.getElem_mem hi),?_⟩;rw[hg,NZ,Hw (hl _ (List.getElem_mem hi))];exact Mp h.row hl i hi
structure DStep (base:Nat) (w w':World) (B mb:Nat) (v:Value) (mn:Nat) (v':Value) (p':DP):Prop where
 ok:DM base w' B mb mn v' p'
 only:Only (ZR B mb v) w w'
 new:∀ k,ZR B mb v' k->ZR B mb v k\/w.heap.size<=k
theorem DStep.same{base:Nat}{w:World}{B mb mn:Nat}{v:Value}{p:DP}(h:DM base w B mb mn v p):DStep base w w B mb v mn v p:=⟨h,Only.refl _ _,λ_ h=>.inl h⟩
theorem DStep.apart{base:Nat}{w w':World}{B mb mn:Nat}{v v':Value}{p':DP}(h:DStep base w w' B mb v mn v' p'){k:Nat}(hk:¬ZR B mb v k)(hl:k<w.heap.size):¬ZR B mb v' k:=λhd=>by
 rcases h.new k hd with h1|h1
 ·exact hk h1
 ·omega
theorem DStep.below{base:Nat}{w w':World}{B mb mn gD:Nat}{v v':Value}{p p':DP}(h:DStep base w w' B mb v gD v' p')(h0:DM base w B mb mn v p)(hb:base<=w.heap.size):Below base w w':=h.only.below hb (λk hk=>(h0.lt k hk).1)
theorem Mc(B:Nat)(n:Int)(mb:Nat)(v:Value)(T:TypeId)(armed:Bool)(l:Int)(gone:Bool)(h:(gone || (armed&&l==0))=true)(w:World)(e:Nat->Addr)(hE:dJ w e)(hB:13≠B)(hat:w.heap[B]? = some (.cells (Q7 n mb v armed l gone) T (0,0))) :
  Calls Tryz.prog 161 #[.pointer (some ⟨B,0,none⟩)] w λx w'=>x=.returned (XL e 3)/\ag B (.cells (Q7 n mb v armed l true) T (0,0)) w w':=by
 have c3:w.cell? ⟨B,3,none⟩=some (.bool armed):=by rw[Za hat];rfl
 have c4:w.cell? ⟨B,4,none⟩=some (.int .i64 l):=by rw[Za hat];rfl
 have c5:w.cell? ⟨B,5,none⟩=some (.bool gone):=by rw[Za hat];rfl
 have f5:w.frozen? ⟨B,5,none⟩=false:=Zg hat _;by_cases h1:armed=true->l≠0
 ·have hg:gone=true:=by
   cases armed
   ·simpa using h
   ·have:=h1 rfl;simpa[this] using h
  subst hg;refine(P5 B armed l h1 w e hE c3 c4 c5).mono ?_;rintro x w' ⟨rfl,rfl⟩;exact⟨rfl,ag.refl hat⟩
 ·obtain⟨ha,hl⟩:armed=true/\l=0:=by
   cases armed
   ·exact absurd (λe=>by cases e) h1
   ·exact⟨rfl,Classical.not_not.1 λhn=>h1 λ_=>hn⟩
  subst ha hl;have hk:∀ W:World,(∀ b,b≠B->W.heap[b]? = w.heap[b]?)->W.cell? ⟨13,0,none⟩=some (.iface 298 (.pointer (some (e 2)))):=λW hW=>(World.cell?_of_block (a:=⟨13,0,none⟩) (hW _ hB)).trans hE.power;have hU:=(ag.refl hat).setCell (j:=5) (.bool true);have hk2:=hk _ (λb hb=>hU.block b hb);have hUh:=Hd hU;clear hk h h1 hat hU;go_enter Tryz.func161,Tryz.ntmps161;go_wp2_with fail;go_ret;exact⟨rfl,hUh.out⟩
theorem Lw(B:Nat)(n i:Int)(h:i<0\/n<=i)(w:World)(hc:w.cell? ⟨B,0,none⟩=some (.int .i64 n))(e:Nat->Addr)(hE:dJ w e)(a:Option Addr)(m c:Nat) :
  Calls Tryz.prog 130 #[.pointer (some ⟨B,0,none⟩),.int .i64 i,.slice a m c] w λx w'=>x=.returned (XL e 1)/\w=w':=by
 have hth:=Hd (Dq B n i h w hc e hE);clear h;go_enter Tryz.func130,Tryz.ntmps130;go_wp2_with fail;with_reducible refine hth.out.mono ?_
 rintro x w2 ⟨rfl,hq⟩;obtain rfl:=hq;clear hth;go_wp2_with fail;go_ret;exact⟨rfl,rfl⟩
theorem T6(B:Nat)(n i:Int)(h0:0<=i)(h1:i<n)(w:World)(hc:w.cell? ⟨B,0,none⟩=some (.int .i64 n))(e:Nat->Addr)(hE:dJ w e)(a:Option Addr)(m c:Nat)(hm:m≠64) :
  Calls Tryz.prog 130 #[.pointer (some ⟨B,0,none⟩),.int .i64 i,.slice a m c] w λx w'=>x=.returned (XL e 2)/\w=w':=by
 have hth:=Hd (Jn B n i h0 h1 w hc);have hk:=hE.size;have hm2:((m:Int) != 64)=true:=bf;clear hm;go_enter Tryz.func130,Tryz.ntmps130;go_wp2_with fail;with_reducible refine hth.out.mono ?_
 rintro x w2 ⟨rfl,hq⟩;obtain rfl:=hq;clear hth;go_wp2_with fail;go_ret;exact⟨rfl,rfl⟩
theorem Wh(B:Nat)(n i:Int)(mb:Nat)(v:Value)(T:TypeId)(armed:Bool)(l:Int)(gone:Bool)(h:(gone || (armed&&l==0))=true)(h0:0<=i)(h1:i<n)(w:World)(e:Nat->Addr)(hE:dJ w e)(hB:13≠B)(hat:w.heap[B]? = some (.cells (Q7 n mb v armed l gone) T (0,0)))(a:Option Addr)(c:Nat) :
  Calls Tryz.prog 130 #[.pointer (some ⟨B,0,none⟩),.int .i64 i,.slice a 64 c] w λx w'=>x=.returned (XL e 3)/\ag B (.cells (Q7 n mb v armed l true) T (0,0)) w w':=by
 have hc:w.cell? ⟨B,0,none⟩=some (.int .i64 n):=by rw[Za hat];rfl
 have hth:=Hd (Jn B n i h0 h1 w hc);have hde:=Hd (Mc B n mb v T armed l gone h w e hE hB hat);clear hat hc h;go_enter Tryz.func130,Tryz.ntmps130;go_wp2_with fail;with_reducible refine hth.out.mono ?_
 rintro x w2 ⟨rfl,hq⟩;obtain rfl:=hq;clear hth;go_wp2_with fail;with_reducible refine hde.out.mono ?_
 rintro x w2 ⟨rfl,hU⟩;replace hU:=Hd hU;clear hde;simp only[XL];go_wp2_with fail;go_ret;exact⟨rfl,hU.out⟩
theorem Ll(B:Nat)(n:Int)(mb:Nat)(v:Value)(T:TypeId)(armed:Bool)(l:Int)(gone:Bool)(h:(gone || (armed&&l==0))=true)(w:World)(e:Nat->Addr)(hE:dJ w e)(hB:13≠B)(hat:w.heap[B]? = some (.cells (Q7 n mb v armed l gone) T (0,0))) :
  Calls Tryz.prog 131 #[.pointer (some ⟨B,0,none⟩)] w λx w'=>x=.returned (XL e 3)/\ag B (.cells (Q7 n mb v armed l true) T (0,0)) w w':=by
 have hde:=Hd (Mc B n mb v T armed l gone h w e hE hB hat);clear hat h;go_enter Tryz.func131,Tryz.ntmps131;go_wp2_with fail;with_reducible refine hde.out.mono ?_
 rintro x w2 ⟨rfl,hU⟩;replace hU:=Hd hU;clear hde;simp only[XL];go_wp2_with fail;go_ret;exact⟨rfl,hU.out⟩
theorem DM.gone{base:Nat}{w w':World}{B mb mn:Nat}{v:Value}{p:DP}(h:DM base w B mb mn v p)(hU:ag B (.cells (Q7 p.n mb v p.armed p.l true) 120 (0,0)) w w'):DStep base w w' B mb v mn v { p with gone:=true }:=by
 have hO:Only (λk=>k=B) w w':=Only.ofUpd hU rfl;exact⟨⟨hU.here,h.map.only hO h.hmB,hO.owns h.row (λk hk=>(h.vB k hk).1),h.hmB,h.vB,h.geB,h.gem,h.lens⟩,hO.mono (λ_ _ e=>.inl e),λ_ h=>.inl h⟩
theorem DP.bad_not{p:DP}(h:p.bad=false):p.gone=false/\(p.armed=true->p.l≠0):=by
 unfold DP.bad at h;simp only[Bool.or_eq_false_iff,Bool.and_eq_false_iff,beq_eq_false_iff_ne] at h;refine⟨h.1,λha=>?_⟩;rcases h.2 with h2|h2
 ·rw[ha] at h2;cases h2
 ·exact h2
theorem Nl{base:Nat}{w:World}{B mb mn:Nat}{v:Value}{p:DP}(h:DM base w B mb mn v p)(hb:base<=w.heap.size)(hws:p.ws.length<=100000)(hl : -1000000<=p.l/\p.l<=9223372036854775807)(e:Nat->Addr)(hE:dJ w e)(hB:13≠B)
  (i:Int) (a:Option Addr) (c:Nat) (bs:List UInt8) (ha:aJ w a c bs) (hD:∀ b o s,a=some ⟨b,o,s⟩->¬ZR B mb v b) :
  Calls Tryz.prog 130 #[.pointer (some ⟨B,0,none⟩),.int .i64 i,.slice a bs.length c] w λx w'=>x=.returned (XL e (p.write i bs).2)/\∃ v',DStep base w w' B mb v mn v' (p.write i bs).1:=by
 have hc:w.cell? ⟨B,0,none⟩=some (.int .i64 p.n):=by rw[h.cell];rfl
 by_cases h1:i<0\/p.n<=i
 ·refine(Lw B p.n i h1 w hc e hE a bs.length c).mono ?_;rintro x w' ⟨rfl,rfl⟩;have:p.write i bs=(p,1):=by unfold DP.write;rw[if_pos h1]
  rw[this];exact⟨rfl,v,DStep.same h⟩
 ·by_cases h2:bs.length=64
  ·cases hbad:p.bad
   ·have hw:p.write i bs=({ p with l:=p.l-1,ws:=p.ws++[(i,bs)] },0):=by unfold DP.write;rw[if_neg h1,if_neg aB,hbad];rfl
    obtain⟨mZ,har⟩:=DP.bad_not hbad;obtain⟨bb,off,rfl,_⟩:=ha.row 0 aB;have hdb:=hD bb off none rfl;have hat:=h.at_;rw[mZ] at hat
    rw[h2];refine(Ws base B mb p.n i aB aB _ v p.ws p.armed p.l har hl w hat hb h.row (λk hk=>(h.vB k hk).1) aB bb off c bs h2 ha (λe=>hdb (.inl e)) (λk hk e=>hdb (.inr (.inr (e▸hk))))).mono ?_;rintro x w' ⟨rfl,v',k1,k2,k3,k4⟩;rw[hw];refine⟨rfl,v',⟨by rw[<-mZ] at k1;exact k1,h.map.only k3 (λk=>?_),by rw[List.length_append];exact k2,h.hmB,λk hk=>?_,h.geB,h.gem,λq hq=>?_⟩,k3.mono (λk _ hk=>hk.imp id .inr),λk hk=>?_⟩
    ·rcases k with k|k
     ·exact h.hmB k
     ·exact(h.vB _ k).2 rfl
    ·have h1:=Zb h.at_;have h2:=h.map.lt;rcases k4 k hk with k5|k5
     ·exact h.vB k k5
     ·exact⟨aB,aB⟩
    ·rcases List.mem_append.1 hq with hq|hq
     ·exact h.lens q hq
     ·simp at hq;subst hq;exact⟨h2,aB,by show i<p.n;omega⟩
    ·rcases hk with hk|hk|hk
     ·exact .inl (.inl hk)
     ·exact .inl (.inr (.inl hk))
     ·exact(k4 k hk).imp (λh=>.inr (.inr h)) id
   ·have hw:p.write i bs=({ p with gone:=true },3):=by unfold DP.write;rw[if_neg h1,if_neg aB,hbad];rfl
    rw[h2];refine(Wh B p.n i mb v _ p.armed p.l p.gone hbad aB aB w e hE hB h.at_ a c).mono ?_;rintro x w' ⟨rfl,hU⟩;rw[hw];exact⟨rfl,v,h.gone hU⟩
  ·have hw:p.write i bs=(p,2):=by unfold DP.write;rw[if_neg h1,if_pos h2]
   refine(T6 B p.n i aB aB w hc e hE a bs.length c h2).mono ?_;rintro x w' ⟨rfl,rfl⟩;rw[hw];exact⟨rfl,v,DStep.same h⟩
theorem Mm{base:Nat}{w:World}{B mb mn:Nat}{v:Value}{p:DP}(h:DM base w B mb mn v p)(hn:p.n<=2048)(hws:p.ws.length<=100000)(jO:mn<=100000)(hl : -1000000<=p.l/\p.l<=9223372036854775807)(e:Nat->Addr)(hE:dJ w e)(hB:13≠B) :
  Calls Tryz.prog 131 #[.pointer (some ⟨B,0,none⟩)] w λx w'=>x=.returned (XL e p.sync.2)/\∃ v' gD,gD<=mn+p.ws.length/\DStep base w w' B mb v gD v' p.sync.1:=by
 cases hbad:p.bad
 ·have hw:p.sync=({ p with l:=p.l-1,f:=Q2 (λ_=>some 64) p.ws p.f,ws:=[] },0):=by unfold DP.sync;rw[hbad];rfl
  obtain⟨mZ,har⟩:=DP.bad_not hbad;have h':=h;unfold DM at h';rw[mZ] at h';refine(LQ base B mb mn p.f p.n hn _ v p.ws p.armed p.l har hl w h' hws jO).mono ?_;rintro x w' ⟨rfl,k1,k2⟩;rw[hw];refine⟨rfl,_,_,Nat.le_refl _,by unfold DM;rw[mZ];exact k1,k2.mono (λk _ hk=>hk.imp id .inl),λk hk=>?_⟩;rcases hk with hk|hk|hk
  ·exact .inl (.inl hk)
  ·exact .inl (.inr (.inl hk))
  ·cases hk
 ·have hw:p.sync=({ p with gone:=true },3):=by unfold DP.sync;rw[hbad];rfl
  refine(Ll B p.n mb v _ p.armed p.l p.gone hbad w e hE hB h.at_).mono ?_;rintro x w' ⟨rfl,hU⟩;rw[hw];exact⟨rfl,v,mn,aB,h.gone hU⟩
theorem EI(n:Int)(w:World)(base:Nat)(hb:base<=w.heap.size):DM base ((w.alloc (.map #[] 0)).alloc (.cells (Q7 n w.heap.size (.slice none 0 0) false 0 false) 120)) (w.heap.size+1) w.heap.size 0 (.slice none 0 0) (DP.new n):=by
 have hG:Below (w.alloc (.map #[] 0)).heap.size (w.alloc (.map #[] 0)) ((w.alloc (.map #[] 0)).alloc (.cells (Q7 n w.heap.size (.slice none 0 0) false 0 false) 120)):=bR.alloc nZ _;have hh:=heap_alloc_new (w.alloc (.map #[] 0)) (.cells (Q7 n w.heap.size (.slice none 0 0) false 0 false) 120 (0,0));rw[World.size_alloc] at hh;exact⟨hh,(aV.made w).only (Only.ofBelow (D:=λ_=>False) hG) (λh=>h),⟨rfl,.inl ⟨rfl,rfl⟩⟩,aB,λk hk=>(by cases hk),aB,hb,λp hp=>(by cases hp)⟩
theorem dJ.below{w w':World}{e:Nat->Addr}(h:dJ w e)(hb:Below w.heap.size w w'):dJ w' e:=
 ⟨(hb.cell (p:=⟨0,0,none⟩) (World.block_lt_of_cell? w _ h.range)).trans h.range,(hb.cell (p:=⟨7,0,none⟩) (World.block_lt_of_cell? w _ h.size)).trans h.size,(hb.cell (p:=⟨13,0,none⟩) (World.block_lt_of_cell? w _ h.power)).trans h.power⟩
theorem Hz{base:Nat}{w:World}{B mb mn:Nat}{v:Value}{p:DP}(h:DM base w B mb mn v p)(hn:p.n<=2048)(hws:p.ws.length<=100000)(hg:p.gone=false)(i:Int)(h0:0<=i)(h1:i<p.n) :
  Calls Tryz.prog 126 #[.pointer (some ⟨B,0,none⟩),.int .i64 i] w λx w'=>∃ g off,x=.returned (.tuple #[.slice (some ⟨g,off,none⟩) 64 64,.nilIface])/\mX w' g off (Qn p.ws p.f i)/\w.heap.size<=g/\Below w.heap.size w w':=by
 obtain⟨a,c,rfl⟩:=h.form;exact DI B mb mn p.f p.n i h0 h1 hn w a c p.ws aB (by rw[h.cell];rfl) (by rw[h.cell];rfl) (by rw[h.cell];rfl) (by rw[h.cell,hg];rfl) h.map (λq hq=>(h.lens q hq).1) h.rowN
end
open Go.RowKit
def Xo(p:DP)(k:Nat):List UInt8:=(List.range k).flatMap λ(i:Nat)=>Qn p.ws p.f (i:Int)
def Q4(p:DP):List UInt8:=Xo p p.n.toNat
theorem J7(p:DP)(k:Nat):Xo p (k+1)=Xo p k++Qn p.ws p.f (k:Int):=by simp[Xo,List.range_succ]
theorem DM.flen{base:Nat}{w:World}{B mb mn:Nat}{v:Value}{p:DP}(h:DM base w B mb mn v p):∀ i,(p.f i).length=64:=by obtain⟨_,_,_,hl,_⟩:=h.map;exact hl
theorem DM.seenLen{base:Nat}{w:World}{B mb mn:Nat}{v:Value}{p:DP}(h:DM base w B mb mn v p)(i:Int):(Qn p.ws p.f i).length=64:=by
 unfold Qn;cases hq:X2 p.ws i with
 | none=>exact h.flen i
 | some q=>
  unfold X2 at hq;have:=List.mem_of_find?_eq_some hq;exact(h.lens q (by simpa using this)).1
theorem DM.seenToLen{base:Nat}{w:World}{B mb mn:Nat}{v:Value}{p:DP}(h:DM base w B mb mn v p)(k:Nat):(Xo p k).length=64*k:=by
 induction k with
 | zero=>rfl
 | succ k ih=>rw[J7,List.length_append,ih,h.seenLen];omega
theorem DM.sizeCell{base:Nat}{w:World}{B mb mn:Nat}{v:Value}{p:DP}(h:DM base w B mb mn v p):w.cell? ⟨B,0,none⟩=some (.int .i64 p.n):=by rw[h.cell];rfl
theorem B6{base:Nat}{w:World}{B mb mn:Nat}{v:Value}{p:DP}(h:DM base w B mb mn v p)(h1:1<=p.n)(hn:p.n<=1000)(hws:p.ws.length<=100000)(hg:p.gone=false) :
  Calls Tryz.prog 98 #[.pointer (some ⟨B,0,none⟩)] w λx w'=>∃ v,x=.returned (.tuple #[v,.nilIface])/\aN w.heap.size w' v (Q4 p)/\Below w.heap.size w w':=by
 have hsz:=Hd (Kt B p.n w h.sizeCell);obtain⟨L,hL⟩:∃ L:Nat,p.n=(L:Int):=⟨p.n.toNat,aB⟩;have qx:Q4 p=Xo p L:=by unfold Q4;rw[hL];rfl
 have hrd:=λW (hW:DM base W B mb mn v p) (i:Int) h0 h1=>Hz hW aB hws hg i h0 h1;have hlen:=h.seenLen;have AL:=h.seenToLen;rw[hL] at hsz;rw[qx];have hLn:L<=1000:=aB;have AO:∀ W (_:DM base W B mb mn v p) (k:Nat),k<L->_:=λW hW k hk=>hrd W hW (k:Int) aB aB;replace h:=Hd h;replace AO:=Hd AO;replace hlen:=Hd hlen;replace AL:=Hd AL;replace hL:=Hd hL;clear qx hrd h1 hn hws hg;go_enter Tryz.func98,Tryz.ntmps98;go_wp2_with fail;with_reducible refine hsz.out.mono ?_
 rintro e w1 ⟨rfl,hq⟩;obtain rfl:=hq;clear hsz;go_wp2_with fail;refine ZG [(false,4),(true,4),(false,2),(true,20)] _ [] (λU wr=>∃ k:Nat,k<=L/\U 10=.int .i64 k/\aN w.heap.size wr (U 4) (Xo p k)/\Below w.heap.size w wr)
  (λU _=>L-(intOf (U 10)).toNat) ?_ ?_
 ·simp only[List.getD_cons_zero,List.getD_cons_succ];exact⟨0,Nat.zero_le _,rfl,aN.nil _ _,Below.refl _ _⟩
 ·intro U wr hrel KK hback l' hl';obtain⟨k,hk,h10,hown,hbel⟩:=hrel;simp only[ZQ,ZM,cond_true,cond_false,Nat.reduceAdd,h10] at hl';generalize hv4:U 4=vo at*;subst hl';replace h10:=Hd h10;replace hv4:=Hd hv4;have SS:=hbel.size;by_cases hlt:k<L
  ·have hlt2:(k:Int)<L:=aB;have hr:=Hd (AO.out wr (h.out.below hbel) k hlt);have hsn:=Hd (J7 p k);have ol:=hlen.out (k:Int);have hsl:(Xo p k).length<=1000000:=by rw[AL.out];omega
   generalize Qn p.ws p.f (k:Int)=sb at*;generalize Xo p k=so at*;replace hown:=Hd hown;replace hbel:=Hd hbel;replace ol:=Hd ol;go_wp2_with fail;with_reducible refine hr.out.mono ?_
   rintro e w2 ⟨g,off,rfl,hrb,hgl,hb2⟩;clear hr;have ho2:=Hd (hown.out.below hb2 nZ);have ha2:=Hd (hrb.argB ol.out);have hb2w:=Hd (hbel.out.trans (hb2.mono SS));have hs2:=hb2.size;have hbs2:w.heap.size<=w2.heap.size:=aB;clear hb2 hrb hown;go_wp2_with (at_builtin;go_must (refine Vh rfl (.tmp 26) (.tmp 27) rfl w.heap.size _ so rfl ho2 _ _ sb 64 rfl ol ha2 hsl dX hbs2 ?_);intro v3 w3 ho3 hb3);refine hback.out _ _ kX ?_ ?_
   ·simp only[List.getD_cons_zero,List.getD_cons_succ];exact⟨k+1,aB,by go_num,by rw[hsn.out];exact ho3.out,hb2w.out.trans hb3.out⟩
   ·have h10:=h10.out;simp only[List.getD_cons_zero,List.getD_cons_succ,h10,intOf];omega
  ·obtain rfl:k=L:=aB;replace hown:=Hd hown;replace hbel:=Hd hbel;go_wp2_with fail;go_ret2;exact⟨_,rfl,hown.out,hbel.out⟩
theorem EO(x:UInt8)(w:World):Calls Tryz.prog 160 #[.int .u8 (x.toNat:Int)] w λe w'=>e=.returned (.bool ((x.toNat:Int) != 0))/\w=w':=by
 go_enter Tryz.func160,Tryz.ntmps160;go_wp2_with fail;go_ret;exact⟨rfl,rfl⟩
def JR(bs:List UInt8):Bool:=bs.all (· == 0)
theorem D3{bs:List UInt8}{k:Nat}(h:k<bs.length):JR (bs.take (k+1))=(JR (bs.take k)&&(bs.getD k 0==0)):=by
 unfold JR;rw[List.take_succ_eq_append_getElem h,List.all_append];simp[List.getD_eq_getElem?_getD,h]
theorem Fz(x:UInt8):((x.toNat:Int) != 0) = !(x==0):=by
 by_cases h:x=0
 ·subst h;rfl
 ·have h1:((x.toNat:Int) != 0)=true:=by
   rw[bne_iff_ne];intro e;exact h (UInt8.toNat_inj.1 (show x.toNat=0 by omega))
  rw[h1,beq_eq_false_iff_ne.2 h];rfl
theorem DV(bs:List UInt8)(hl:bs.length<=1000000)(a:Option Addr)(c:Nat)(w:World)(ha:aJ w a c bs) :
  Calls Tryz.prog 159 #[.slice a bs.length c,.func (.func 160) #[] #[]] w λx w'=>∃ k:Int,x=.returned (.int .i64 k)/\decide (k<0)=JR bs/\w=w':=by
 replace ha:=Hd ha;go_enter Tryz.func159,Tryz.ntmps159;go_wp2_with fail;refine ZG [(false,4),(true,2),(false,2),(true,11)] _ [] (λU W'=>∃ k:Nat,k<=bs.length/\U 8=.int .i64 k/\JR (bs.take k)=true/\W'=w) (λU _=>bs.length-(intOf (U 8)).toNat) ?_ ?_
 ·simp only[List.getD_cons_zero,List.getD_cons_succ];exact⟨0,Nat.zero_le _,rfl,rfl,trivial⟩
 ·intro U wr hrel KK hback l' hl';obtain⟨k,hk,h8,hz,rfl⟩:=hrel;simp only[ZQ,ZM,cond_true,cond_false,Nat.reduceAdd,h8] at hl';subst hl';replace h8:=Hd h8;by_cases hlt:k<bs.length
  ·obtain⟨b,o,rfl,hc⟩:=ha.out.row k hlt;have hlt2:(k:Int)<bs.length:=aB;have hsn:=Hd (D3 hlt);have hall:bs.getD k 0≠0->JR bs=false:=λh=>by
    unfold JR;rw[Bool.eq_false_iff];intro e;rw[List.all_eq_true] at e;have:=e (bs[k]) (List.getElem_mem hlt);rw[show bs.getD k 0=bs[k] by simp[List.getD_eq_getElem?_getD,hlt]] at h;exact h (eq_of_beq this)
   generalize bs.getD k 0=x at*;have hq:=Fz x;have hcall:=Hd (EO x wr);rw[hq] at hcall;replace hz:=Hd hz;replace hall:=Hd hall;cases hx:(x==0)
   ·rw[hx] at hcall;clear hq;go_wp2_with fail;with_reducible refine hcall.out.mono ?_
    rintro e w2 ⟨rfl,hq⟩;obtain rfl:=hq;go_wp2_with fail;go_ret;have h1:=hall.out (beq_eq_false_iff_ne.1 hx);exact⟨(k:Int),rfl,by rw[h1];simp,rfl⟩
   ·rw[hx] at hcall;clear hq;go_wp2_with fail;with_reducible refine hcall.out.mono ?_
    rintro e w2 ⟨rfl,hq⟩;obtain rfl:=hq;go_wp2_with fail;refine hback.out _ _ kX ?_ ?_
    ·simp only[List.getD_cons_zero,List.getD_cons_succ];exact⟨k+1,aB,by go_num,by rw[hsn.out,hz.out,hx];rfl,trivial⟩
    ·have h8:=h8.out;simp only[List.getD_cons_zero,List.getD_cons_succ,h8,intOf];omega
  ·obtain rfl:k=bs.length:=aB;rw[List.take_length] at hz;replace hz:=Hd hz;go_wp2_with fail;go_ret;exact⟨-1,rfl,by rw[hz.out];rfl,rfl⟩
def Z9(B:Nat)(rv:Value)(hd:List UInt8)(E sure:Int)(dead:Bool):Array Value:=#[.pointer (some ⟨B,0,none⟩),rv]++(cB hd).toArray++#[.int .i64 E,.int .i64 sure,.bool dead]
theorem Ud{B:Nat}{rv:Value}{hd:List UInt8}{E sure:Int}{dead:Bool}(h:hd.length=32):(Z9 B rv hd E sure dead).size=37:=by simp[Z9,Zc,h]
theorem SV{B:Nat}{rv:Value}{hd:List UInt8}{E sure:Int}{dead:Bool}:(Z9 B rv hd E sure dead)[0]? = some (.pointer (some ⟨B,0,none⟩)):=by simp[Z9]
theorem I1{B:Nat}{rv:Value}{hd:List UInt8}{E sure:Int}{dead:Bool}:(Z9 B rv hd E sure dead)[1]? = some rv:=by simp[Z9]
theorem Kx{B:Nat}{rv:Value}{hd:List UInt8}{E sure:Int}{dead:Bool}(h:hd.length=32):(Z9 B rv hd E sure dead)[34]? = some (.int .i64 E):=by
 unfold Z9;rw[Array.getElem?_append_right (by simp[Zc,h])];simp[Zc,h]
theorem ES{B:Nat}{rv:Value}{hd:List UInt8}{E sure:Int}{dead:Bool}(h:hd.length=32):(Z9 B rv hd E sure dead)[35]? = some (.int .i64 sure):=by
 unfold Z9;rw[Array.getElem?_append_right (by simp[Zc,h])];simp[Zc,h]
theorem FH{B:Nat}{rv:Value}{hd:List UInt8}{E sure:Int}{dead:Bool}(h:hd.length=32):(Z9 B rv hd E sure dead)[36]? = some (.bool dead):=by
 unfold Z9;rw[Array.getElem?_append_right (by simp[Zc,h])];simp[Zc,h]
def Jz(all:List UInt8)(E i:Nat):Int:=if JR ((all.drop (i*64+(E-i*64))).take (64-(E-i*64))) then -1 else ((E-i*64:Nat):Int)
theorem PU(J E i:Nat)(all:List UInt8)(hE:E<=100000)(hi:i<=10000)(hEi:E / 64<=i)(hal:(i+1)*64<=all.length)(hmax:all.length<=100000)(a:Option Addr)(c:Nat)(w:World)(ha:aJ w a c all)(hc:w.cell? ⟨J,34,none⟩=some (.int .i64 (E:Int))) :
  Calls Tryz.prog 129 #[.pointer (some ⟨J,0,none⟩),.slice a all.length c,.int .i64 (i:Int)] w λx w'=>x=.returned (.int .i64 (Jz all E i))/\w=w':=by
 obtain⟨b,o,rfl,_⟩:=ha.row 0 aB;obtain⟨I,hI⟩:∃ I,i*64=I:=⟨_,rfl⟩;obtain⟨F,hF⟩:∃ F,E-I=F:=⟨_,rfl⟩;have hF64:F<64:=aB;have hl:=ha.len;have hm:=ha.most;have hI1:(i:Int)*64=(I:Int):=aB;have hI2:((i:Int)+1)*64=(I:Int)+64:=aB;have hwr:IntKind.i64.wrap ((E:Int)-(I:Int))=(E:Int)-I:=IntWalk.i64_in _ aB;have hmx:(if (E:Int)-(I:Int)<0 then (0:Int) else (E:Int)-I)=(F:Int):=by split<;>omega
 have ha2:=(((ha.from I aB).from F jH).upto (64-F));rw[List.drop_drop] at ha2;have tq:((all.drop (I+F)).take (64-F)).length=64-F:=by rw[List.length_take,List.length_drop];omega
 have hR:Jz all E i=if JR ((all.drop (I+F)).take (64-F))=true then -1 else (F:Int):=by unfold Jz;rw[hI,hF]
 generalize hbs:(all.drop (I+F)).take (64-F)=bs at*;have hix:=DV bs aB _ _ w ha2;rw[tq] at hix;replace hix:=Hd hix;replace hR:=Hd hR;replace tq:=Hd tq;clear hbs;go_enter Tryz.func129,Tryz.ntmps129;go_wp2_with fail;with_reducible refine hix.out.mono ?_
 rintro e w2 ⟨k,rfl,hk,hq⟩;obtain rfl:=hq;replace hR:=hR.out;cases hz:JR bs
 ·rw[hz] at hk hR;have hk2:¬k<0:=by simpa using hk
  rw[if_neg sX] at hR;clear hk;replace hR:=Hd hR;go_wp2_with fail;go_ret;exact⟨by rw[hR.out];rfl,rfl⟩
 ·rw[hz] at hk hR;have hk2:k<0:=by simpa using hk
  rw[if_pos rfl] at hR;clear hk;replace hR:=Hd hR;go_wp2_with fail;go_ret;exact⟨by rw[hR.out];rfl,rfl⟩
def VJ(all:List UInt8)(E i:Nat):List UInt8:=(all.drop (i*64)).take (E-i*64)++cK.drop (E-i*64)
def YO(all:List UInt8)(E i:Nat)(s:DP×Bool):DP×Bool:=if Jz all E i<0 then s else ((s.1.write (i:Int) (VJ all E i)).1,true)
def Qp(all:List UInt8)(E i0:Nat):Nat->DP×Bool->DP×Bool
 | 0,s=>s
 | k+1,s=>YO all E (i0+k) (Qp all E i0 k s)
def UD(all:List UInt8)(E n:Nat)(p:DP):DP:=
 if (Qp all E (E / 64) (n-E / 64) (p,false)).2=true then (Qp all E (E / 64) (n-E / 64) (p,false)).1.sync.1 else (Qp all E (E / 64) (n-E / 64) (p,false)).1
theorem Mt{all:List UInt8}{E i:Nat}(hE:E-i*64<64)(hl:(i+1)*64<=all.length):(VJ all E i).length=64:=by
 unfold VJ;rw[List.length_append,List.length_take,List.length_drop,List.length_drop];simp[cK];omega
theorem JY{p:DP}{i:Int}{bs:List UInt8}(hb:p.bad=false)(h0:0<=i)(h1:i<p.n)(hl:bs.length=64):p.write i bs=({ p with l:=p.l-1,ws:=p.ws++[(i,bs)] },0):=by
 unfold DP.write;rw[if_neg aB,if_neg aB,hb];rfl
theorem XT{p:DP}(ha:p.armed=false)(hg:p.gone=false):p.bad=false:=by unfold DP.bad;rw[ha,hg];rfl
theorem T4{all:List UInt8}{E i0 n:Nat}{p:DP}(ha:p.armed=false)(hg:p.gone=false)(hn:p.n=(n:Int))(hE:E / 64<=i0)(hal:all.length=64*n)(b:Bool):∀ k,i0+k<=n->
  (Qp all E i0 k (p,b)).1.armed=false/\(Qp all E i0 k (p,b)).1.gone=false/\(Qp all E i0 k (p,b)).1.n=p.n/\(Qp all E i0 k (p,b)).1.f=p.f/\(Qp all E i0 k (p,b)).1.ws.length<=p.ws.length+k/\p.l-k<=(Qp all E i0 k (p,b)).1.l/\(Qp all E i0 k (p,b)).1.l<=p.l:=by
 intro k;induction k with
 | zero=>intro _;exact⟨ha,hg,rfl,rfl,Nat.le_refl _,by show p.l-0<=p.l;omega,Int.le_refl _⟩
 | succ k ih=>
  intro hk;obtain⟨h1,h2,h3,h4,h5,h6,h7⟩:=ih aB;show (YO all E (i0+k) (Qp all E i0 k (p,b))).1.armed=false/\_;have hu:Qp all E i0 (k+1) (p,b)=YO all E (i0+k) (Qp all E i0 k (p,b)):=rfl;rw[hu];generalize Qp all E i0 k (p,b)=s at*;unfold YO;split
  ·exact⟨h1,h2,h3,h4,aB,aB,h7⟩
  ·rw[JY (XT h1 h2) aB (by rw[h3,hn];omega) (Mt aB aB)];exact⟨h1,h2,h3,h4,bf,by simp only;omega,by simp only;omega⟩
theorem Tz{all:List UInt8}{E i0:Nat}(hc:∀ k,E<=k->all.getD k 0=0)(s:DP×Bool):∀ k,Qp all E i0 k s=s:=by
 intro k;induction k with
 | zero=>rfl
 | succ k ih=>
  show YO all E (i0+k) (Qp all E i0 k s)=s;rw[ih];unfold YO;have hz:JR ((all.drop ((i0+k)*64+(E-(i0+k)*64))).take (64-(E-(i0+k)*64)))=true:=by
   unfold JR;rw[List.all_eq_true];intro x hx;obtain⟨j,hj⟩:=List.mem_iff_getElem?.1 hx;rw[List.getElem?_take] at hj;split at hj
   ·rw[List.getElem?_drop] at hj;have:=hc ((i0+k)*64+(E-(i0+k)*64)+j) aB;rw[List.getD_eq_getElem?_getD,hj] at this;simp at this;simp[this]
   ·cases hj
  unfold Jz;rw[hz];rfl
theorem Rk{all:List UInt8}{E n:Nat}{p:DP}(hc:∀ k,E<=k->all.getD k 0=0):UD all E n p=p:=by
 unfold UD;rw[Tz hc];rfl
theorem Tt(bg:List UInt8):(cB bg++(cB cK).toArray.toList.drop (cB bg).length).toArray=(cB (bg++cK.drop bg.length)).toArray:=by
 rw[YI,Zc];simp[cB,List.map_drop]
def Cm(base:Nat)(w:World)(B mb mn:Nat)(v:Value)(q:DP)(m:Nat)(x:Ending)(w':World):Prop:=x=.returned .nilIface/\∃ v' gD,gD<=mn+m/\DStep base w w' B mb v gD v' q
theorem DStep.trans{base:Nat}{w w1 w2:World}{B mb m1 m2:Nat}{v v1 v2:Value}{p1 p2:DP}(h:DStep base w w1 B mb v m1 v1 p1)(h':DStep base w1 w2 B mb v1 m2 v2 p2):DStep base w w2 B mb v m2 v2 p2:=by
 refine⟨h'.ok,h.only.trans h'.only (λk hk hd=>?_),λk hk=>?_⟩
 ·rcases h.new k hd with h1|h1
  ·exact h1
  ·omega
 ·rcases h'.new k hk with h1|h1
  ·exact h.new k h1
  ·exact .inr (Nat.le_trans h.only.size h1)
theorem DStep.grow{base:Nat}{w w1 w2:World}{B mb m1:Nat}{v v1:Value}{p1:DP}(h:DStep base w w1 B mb v m1 v1 p1)(hb:Below w1.heap.size w1 w2):DStep base w w2 B mb v m1 v1 p1:=
 h.trans ⟨h.ok.below hb,Only.ofBelow hb,λ_ h=>.inl h⟩
theorem Bg{base:Nat}{w:World}{B mb mn:Nat}{v:Value}{p:DP}(h:DM base w B mb mn v p)(hb:base<=w.heap.size)(n:Nat)(hpn:p.n=(n:Int))(h1:1<=n)(hn:n<=1000)(hws:p.ws.length<=10000)(jO:mn<=60000)(hpl : -100000<=p.l/\p.l<=100000)(ha:p.armed=false)(hg:p.gone=false)(e:Nat->Addr)(hE:dJ w e)(j6:13≠B)(fe:∀ W,Below base w W->dJ W e)
  (J:Nat) (C:Array Value) (T:TypeId) (hJ:w.heap[J]? = some (.cells C T (0,0))) (tu:¬ZR B mb v J) (E:Nat) (zg:E<=64*n) (hC0:C[0]? = some (.pointer (some ⟨B,0,none⟩))) (xB:C[34]? = some (.int .i64 (E:Int)))
  (all:List UInt8) (hal:all.length=64*n) (ab ao c:Nat) (hA:aJ w (some ⟨ab,ao,none⟩) c all) (ma:¬ZR B mb v ab) :
  Calls Tryz.prog 101 #[.pointer (some ⟨J,0,none⟩),.slice (some ⟨ab,ao,none⟩) all.length c] w (Cm base w B mb mn v (UD all E n p) 20000):=by
 have lc:=λk=>T4 (all:=all) (E:=E) (i0:=E / 64) ha hg hpn nZ hal false k;have hP:UD all E n p=if (Qp all E (E / 64) (n-E / 64) (p,false)).2=true then (Qp all E (E / 64) (n-E / 64) (p,false)).1.sync.1 else (Qp all E (E / 64) (n-E / 64) (p,false)).1:=rfl;obtain⟨i0,hi0⟩:=aA (E / 64);have hi0n:i0<=n:=aB;rw[<-hi0] at lc hP;have hJl:=Zb hJ;have hal2:all.length<=100000:=aB;have hablt:ab<w.heap.size:=by
  obtain⟨b',o',e',hc'⟩:=hA.row 0 aB;cases e';exact World.block_lt_of_cell? w _ hc'
 have hdiv:(E:Int) / 64=(i0:Int):=aB;have hdivt:(E:Int).tdiv 64=(i0:Int):=by rw[Int.tdiv_eq_ediv_of_nonneg aB];exact hdiv
 have hc34:w.cell? ⟨J,34,none⟩=some (.int .i64 (E:Int)):=by rw[Za hJ];exact xB
 obtain⟨La,qx⟩:=aA all.length;rw[<-qx];replace qx:=Hd qx;replace h:=Hd h;replace hJ:=Hd hJ;replace hA:=Hd hA;replace tu:=Hd tu;replace ma:=Hd ma;replace lc:=Hd lc;replace hP:=Hd hP;replace hE:=Hd hE;replace fe:=Hd fe;replace hpn:=Hd hpn;replace hC0:=Hd hC0;replace xB:=Hd xB;replace ha:=Hd ha;replace hg:=Hd hg;replace hal:=Hd hal;replace hi0:=Hd hi0;have hmk:∀ w:World,(Instr.makeSlice 24 (.int .i64 64) (.int .i64 64)).run Tryz.prog w=.ok (.slice (some ⟨w.heap.size,0,none⟩) 64 64) (w.alloc (.cells (cB cK).toArray 5)):=λ_=>by kernel_rfl
 go_enter Tryz.func101,Tryz.ntmps101;go_wp2_with fail;refine ZG [(false,5),(true,5),(false,6),(true,40)] _ [] (λU wr=>∃ (k:Nat) (v':Value),i0+k<=n/\U 6=.int .i64 (i0+k:Nat)/\U 5=.bool (Qp all E i0 k (p,false)).2/\DStep base w wr B mb v mn v' (Qp all E i0 k (p,false)).1)
  (λU _=>n-(intOf (U 6)).toNat) ?_ ?_
 ·simp only[List.getD_cons_zero,List.getD_cons_succ];exact⟨0,v,aB,rfl,rfl,DStep.same h.out⟩
 ·intro U wr hrel KK hback l' hl';obtain⟨k,v',hk,h6,h5,hst⟩:=hrel;simp only[ZQ,ZM,cond_true,cond_false,Nat.reduceAdd,h6,h5] at hl';subst hl';obtain⟨q1,q2,q3,q4,q5,q6,q7⟩:=lc.out k hk;have hstep:Qp all E i0 (k+1) (p,false)=YO all E (i0+k) (Qp all E i0 k (p,false)):=rfl;generalize hs:Qp all E i0 k (p,false)=s at*;obtain⟨q,wp⟩:=s;simp only at q1 q2 q3 q4 q5 q6 q7 hst h5;replace hs:=Hd hs;have hnq:q.n=(n:Int):=by rw[q3];exact hpn.out
  have mf:wr.heap[J]? = some (.cells C T (0,0)):=hst.only.heap hJ.out tu.out;have hc0:wr.cell? ⟨J,0,none⟩=some (.pointer (some ⟨B,0,none⟩)):=by rw[Za mf];exact hC0.out
  have uA:wr.cell? ⟨J,34,none⟩=some (.int .i64 (E:Int)):=by rw[Za mf];exact xB.out
  have hsz:Hid (Calls Tryz.prog 67 #[.pointer (some ⟨B,0,none⟩)] wr λx w'=>x=.returned (.int .i64 (n:Int))/\wr=w'):=by
   have:=Kt B q.n wr hst.ok.sizeCell;rw[hnq] at this;exact Hd this
  have hAr:aJ wr (some ⟨ab,ao,none⟩) c all:=hst.only.argB hA.out (λb o e=>by cases e;exact ma.out);obtain⟨i,hi⟩:=aA (i0+k);rw[<-hi] at hk hstep h6 ⊢;have hsizes:=hst.only.size;replace h6:=Hd h6;replace h5:=Hd h5;have hkn1:k<=n:=aB;by_cases hlt:i<n
  ·have hlt2:(i:Int)<(n:Int):=aB;have hbe:=PU J E i all aB aB (by have:=hi0.out;omega) (by have:=hal.out;omega) hal2 _ c wr hAr uA;rw[<-qx.out] at hbe;obtain⟨r,hr⟩:=aA (Jz all E i);rw[<-hr] at hbe;replace hbe:=Hd hbe;replace hAr:=Hd hAr;replace hst:=Hd hst;replace mf:=Hd mf;replace hnq:=Hd hnq;replace hstep:=Hd hstep;replace hi:=Hd hi;replace hr:=Hd hr;replace q3:=Hd q3;replace q4:=Hd q4;clear uA;by_cases hneg:r<0
   ·go_wp2_with fail;with_reducible refine hsz.out.mono ?_
    rintro x w2 ⟨rfl,hq⟩;obtain rfl:=hq;go_wp2_with fail;with_reducible refine hbe.out.mono ?_
    rintro x w2 ⟨rfl,hq⟩;obtain rfl:=hq;go_wp2_with fail;refine hback.out _ _ kX ?_ ?_
    ·have hs1:Qp all E i0 (k+1) (p,false)=(q,wp):=by rw[hstep.out];unfold YO;rw[<-hr.out,if_pos hneg]
     simp only[List.getD_cons_zero,List.getD_cons_succ];exact⟨k+1,v',by have:=hi.out;omega,by have:=hi.out;congr 1;omega,by rw[hs1],by rw[hs1];exact hst.out⟩
    ·have h6:=h6.out;simp only[List.getD_cons_zero,List.getD_cons_succ,h6,intOf];omega
   ·go_wp2_with fail;with_reducible refine hsz.out.mono ?_
    rintro x w2 ⟨rfl,hq⟩;obtain rfl:=hq;go_wp2_with fail;with_reducible refine hbe.out.mono ?_
    rintro x w2 ⟨rfl,hq⟩;obtain rfl:=hq;obtain⟨I,hI⟩:∃ I,i*64=I:=⟨_,rfl⟩;obtain⟨F,hF⟩:∃ F,E-I=F:=⟨_,rfl⟩;have SX:=hi0.out;have hi':=hi.out;have SY:=hal.out;have hF64:F<64:=aB;have hrF:r=(F:Int):=by
     have h1:=hr.out;unfold Jz at h1;rw[hI,hF] at h1;split at h1
     ·omega
     ·exact h1
    subst hrF;have hlc:=hAr.out.len;have hI1:(i:Int)*64=(I:Int):=aB;have hcI:¬c=I:=aB;have hIF:(I:Int)+(F:Int)<=(c:Int):=aB;have hseg:=(hAr.out.from I aB).upto F;have mg:((all.drop I).take F).length=F:=by rw[List.length_take,List.length_drop];omega
    have hwB:VJ all E i=(all.drop I).take F++cK.drop F:=by unfold VJ;rw[hI,hF]
    have qy:(VJ all E i).length=64:=Mt aB aB;generalize hsg:(all.drop I).take F=bg at*;have hwC:(cB bg++(cB cK).toArray.toList.drop (cB bg).length).toArray=(cB (VJ all E i)).toArray:=by rw[Tt,hwB,mg]
    generalize hWB:VJ all E i=wb at*;replace hWB:=Hd hWB;have hG:Below wr.heap.size wr (wr.alloc (.cells (cB cK).toArray 5)):=bR.alloc nZ _;have hsrc:∀ j u,(cB bg)[j]? = some u->(wr.alloc (.cells (cB cK).toArray 5)).cell? ((⟨ab,ao+I,none⟩:Addr).add j)=some u:=λj u hj=>by
     rw[Addr.add_mid];exact(hseg.below hG).range j u hj
    have hcl:(cB bg).length=Nat.min (I+F-I) 64:=by rw[Zc,mg];show F=min (I+F-I) 64;omega
    have hcf:(cB bg).length<=(cB cK).toArray.size:=by rw[Zc,mg];simp[Zc,cK];omega
    have hone:=Zw bg;have hgz:=Hd (heap_alloc_new wr (.cells (cB cK).toArray 5 (0,0)));replace hsrc:=Hd hsrc;replace hcl:=Hd hcl;replace hcf:=Hd hcf;replace hone:=Hd hone;replace hwC:=Hd hwC;replace hwB:=Hd hwB;replace qy:=Hd qy;replace hI:=Hd hI;replace hF:=Hd hF;replace hi':=Hd hi';replace SX:=Hd SX;replace SY:=Hd SY;replace mg:=Hd mg;replace hG:=Hd hG;have hJne:J≠wr.heap.size:=λe=>by have:=Zb mf.out;omega
    have hJlr:=Zb mf.out;have uB:Hid (∀ w7:World,Hid (ag wr.heap.size (.cells (cB bg++(cB cK).toArray.toList.drop (cB bg).length).toArray 5 (0,0)) (wr.alloc (.cells (cB cK).toArray 5)) w7)->w7.cell? ⟨J,0,none⟩=some (.pointer (some ⟨B,0,none⟩))):=Hd λw7 hU=>by
     rw[Za ((hU.out.block J hJne).trans ((hG.out.block J hJlr).trans mf.out))];exact hC0.out
    clear hseg hsg;go_wp2_with (refine wpList_plain rfl (λK hK=>?_);refine HR (.tmp 32) (.tmp 40) rfl wr.heap.size 64 64 ⟨ab,ao+I,none⟩ (I+F-I) _ (cB cK).toArray 5 (cB bg) rfl rfl hgz hcl.out hsrc.out hcf.out hone.out ?_;intro w7 aZ;refine hK _ _ ?_;clear hK K;have hc07:=uB.out w7 aZ);have wP:Below wr.heap.size wr w7:=hG.out.trans (aZ.out.below nZ);have I4:=hst.out.ok.below wP;have ou:=hst.out.grow wP;have bV:base<=w7.heap.size:=by have:=wP.size;omega
    have hw7:w7.heap[wr.heap.size]? = some (.cells (cB wb).toArray 5 (0,0)):=by rw[<-hwC.out];exact aZ.out.here
    have hE7:dJ w7 e:=fe.out w7 ((hst.out.below h.out hb).trans (wP.mono aB));have Sa:¬ZR B mb v' wr.heap.size:=λhd=>Nat.lt_irrefl _ (hst.out.ok.lt _ hd).2;have hwr:=Nl I4 bV aB aB e hE7 j6 (i:Int) _ 64 wb (Yk hw7 (by have:=qy.out;omega) dX) (λb' o' s' e'=>by cases e';exact Sa);rw[qy.out,JY (XT q1 q2) aB (by rw[hnq.out];exact hlt2) qy.out] at hwr;replace hwr:=Hd hwr;replace I4:=Hd I4;replace ou:=Hd ou;clear wP hw7 hE7 Sa aZ;go_wp2_with fail;with_reducible refine hwr.out.mono ?_
    rintro x w8 ⟨rfl,v8,Sb⟩;clear hwr;simp only[XL];have jP:=Hd (ou.out.trans Sb);clear Sb;go_wp2_with fail;refine hback.out _ _ kX ?_ ?_
    ·have hs1:Qp all E i0 (k+1) (p,false)=({ q with l:=q.l-1,ws:=q.ws++[((i:Int),wb)] },true):=by
      rw[hstep.out,hi'.out];unfold YO;rw[<-hi'.out,<-hr.out,if_neg aB,hWB.out];simp only;rw[JY (XT q1 q2) aB (by rw[hnq.out];exact hlt2) qy.out]
     simp only[List.getD_cons_zero,List.getD_cons_succ];exact⟨k+1,v8,by have:=hi.out;omega,by have:=hi.out;congr 1;omega,by rw[hs1],by rw[hs1];exact jP.out⟩
    ·have h6:=h6.out;simp only[List.getD_cons_zero,List.getD_cons_succ,h6,intOf];omega
  ·obtain rfl:i=n:=aB;have hkn:k=i-i0:=aB;have hP2:UD all E i p=if wp=true then q.sync.1 else q:=by rw[hP.out,<-hkn,hs.out]
   have hsy:=Mm hst.ok aB aB aB aB e (fe.out wr (hst.below h.out hb)) j6;have Ou:q.sync=({ q with l:=q.l-1,f:=Q2 (λ_=>some 64) q.ws q.f,ws:=[] },0):=by unfold DP.sync;rw[XT q1 q2];rfl
   have hs2:q.sync.2=0:=by rw[Ou]
   rw[hs2] at hsy;replace hsy:=Hd hsy;replace hst:=Hd hst;replace hP2:=Hd hP2;replace Ou:=Hd Ou;replace hs2:=Hd hs2;replace hnq:=Hd hnq;replace mf:=Hd mf;replace hAr:=Hd hAr;replace hstep:=Hd hstep;replace hi:=Hd hi;replace hkn:=Hd hkn;replace q3:=Hd q3;replace q4:=Hd q4;clear uA;cases wp
   ·go_wp2_with fail;with_reducible refine hsz.out.mono ?_
    rintro x w2 ⟨rfl,hq⟩;obtain rfl:=hq;go_wp2_with fail;go_ret;exact⟨rfl,v',mn,aB,by rw[hP2.out];exact hst.out⟩
   ·go_wp2_with fail;with_reducible refine hsz.out.mono ?_
    rintro x w2 ⟨rfl,hq⟩;obtain rfl:=hq;go_wp2_with fail;with_reducible refine hsy.out.mono ?_
    rintro x w2 ⟨rfl,v2,qP,hm2,kD⟩;simp only[XL];replace kD:=Hd (hst.out.trans kD);clear hsy;go_wp2_with fail;go_ret;exact⟨rfl,v2,qP,aB,by rw[hP2.out];exact kD.out⟩
end Go.Proofs.YtpdhceiodgnbmaaGreatDoor
