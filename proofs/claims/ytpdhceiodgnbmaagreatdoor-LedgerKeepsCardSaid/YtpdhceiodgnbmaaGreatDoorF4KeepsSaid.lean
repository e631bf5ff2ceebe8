import Derived.Stop.LaidErr
import Derived.LaidMore
import Derived.Test.YtpdhceiodgnbmaaGreatDoorF2KeepsSaid
import Derived.Great.BuildSlice
set_option linter.all false
set_option maxRecDepth 100000
set_option maxHeartbeats 8000000
namespace Go.Proofs.YtpdhceiodgnbmaaGreatDoor
section
open Go.RowKit
theorem Nc(n:Nat)(h:n<9223372036854775808):IntKind.i64.wrap (n:Int)=(n:Int):=IntWalk.i64_in (n:Int) aB
theorem Fk(a b:Nat)(ha:a<9223372036854775808)(hb:b<9223372036854775808):bits .xor .i64 (a:Int) (b:Int)=((a ^^^ b:Nat):Int):=by
 have hx:a ^^^ b<2 ^ 63:=Nat.xor_lt_two_pow aB aB;show IntKind.i64.wrap ((BitVec.ofInt 64 (a:Int) ^^^ BitVec.ofInt 64 (b:Int)).toNat:Int)=_;rw[BitVec.toNat_xor,ofInt_u64 a aB,ofInt_u64 b aB];exact Nc _ aB
theorem GV(a b:Nat)(ha:a<9223372036854775808)(hb:b<9223372036854775808):bits .or .i64 (a:Int) (b:Int)=((a ||| b:Nat):Int):=by
 have hx:a ||| b<2 ^ 63:=Nat.or_lt_two_pow aB aB;show IntKind.i64.wrap ((BitVec.ofInt 64 (a:Int) ||| BitVec.ofInt 64 (b:Int)).toNat:Int)=_;rw[BitVec.toNat_or,ofInt_u64 a aB,ofInt_u64 b aB];exact Nc _ aB
theorem Un(a b:Nat)(ha:a<9223372036854775808)(hb:b<9223372036854775808):bits .and .i64 (a:Int) (b:Int)=((a &&& b:Nat):Int):=by
 have hx:a &&& b<2 ^ 63:=Nat.and_lt_two_pow _ aB;show IntKind.i64.wrap ((BitVec.ofInt 64 (a:Int) &&& BitVec.ofInt 64 (b:Int)).toNat:Int)=_;rw[BitVec.toNat_and,ofInt_u64 a aB,ofInt_u64 b aB];exact Nc _ aB
theorem Bv(a b k:Nat)(ha:a<1048576)(hk:k<=20)(hb:b<2 ^ k):bits .or .i64 (wrap64 ((a:Int)*(2:Int) ^ k)) (b:Int)=((a*2 ^ k+b:Nat):Int):=by
 have hp2:2 ^ k<=2 ^ 20:=Nat.pow_le_pow_right aB hk;have hm:a*2 ^ k<1048576*2 ^ 20:=Nat.lt_of_le_of_lt (Nat.mul_le_mul_left _ hp2) (Nat.mul_lt_mul_of_pos_right ha dX);have e:(a:Int)*(2:Int) ^ k=((a*2 ^ k:Nat):Int):=sX;have h2:=Nat.shiftLeft_add_eq_or_of_lt hb a;rw[Nat.shiftLeft_eq] at h2;rw[e,h2];obtain⟨y,hy⟩:=aA (a*2 ^ k);rw[<-hy] at hm ⊢;rw[IntWalk.wrap64_in (y:Int) aB];exact GV y b aB aB
structure Only (D:Nat->Prop) (w w':World):Prop where
 os:w'.os=w.os
 tape:w'.tape=w.tape
 output:w'.output=w.output
 size:w.heap.size<=w'.heap.size
 block:∀ k,k<w.heap.size->¬D k->w'.heap[k]? = w.heap[k]?
theorem Only.refl(D:Nat->Prop)(w:World):Only D w w:=⟨rfl,rfl,rfl,Nat.le_refl _,λ_ _ _=>rfl⟩
theorem Only.mono{D E:Nat->Prop}{w w':World}(h:Only D w w')(hd:∀ k,k<w.heap.size->D k->E k):Only E w w':=
 ⟨h.os,h.tape,h.output,h.size,λk hk hn=>h.block k hk λhD=>hn (hd k hk hD)⟩
theorem Only.trans{D E:Nat->Prop}{a b c:World}(h:Only D a b)(h':Only E b c)(hd:∀ k,k<a.heap.size->E k->D k):Only D a c:=
 ⟨h'.os.trans h.os,h'.tape.trans h.tape,h'.output.trans h.output,Nat.le_trans h.size h'.size,λk hk hn=>(h'.block k (Nat.lt_of_lt_of_le hk h.size) λhE=>hn (hd k hk hE)).trans (h.block k hk hn)⟩
theorem Only.ofBelow{D:Nat->Prop}{w w':World}(h:Below w.heap.size w w'):Only D w w':=
 ⟨h.os,h.tape,h.output,h.size,λk hk _=>h.block k hk⟩
theorem Only.ofGrown{D:Nat->Prop}{w w':World}{row:Option Nat}(h:w.grownBy w' row)(hd:∀ k,row=some k->D k):Only D w w':=
 ⟨h.os,h.tape,h.output,h.size,λk hk hn=>h.block k hk λe=>hn (hd k e.symm)⟩
theorem Only.ofUpd{D:Nat->Prop}{b:Nat}{o:Obj}{w w':World}(h:ag b o w w')(hd:D b):Only D w w':=
 ⟨h.os,h.tape,h.output,Nat.le_of_eq h.size.symm,λk _ hn=>h.block k λe=>hn (e▸hd)⟩
theorem Only.drew{D:Nat->Prop}{w w':World}(h:Only D w w'):Only D w w'.drew:=⟨h.os,h.tape,h.output,h.size,h.block⟩
theorem Only.setCell{D:Nat->Prop}{w w':World}(h:Only D w w')(a:Addr)(u:Value)(hd:a.block<w.heap.size->D a.block):Only D w (w'.setCell a u):=
 ⟨h.os,h.tape,h.output,by simpa[World.setCell] using h.size,λk hk hn=>(Below.heap_setCell _ _ _ _ (by rintro rfl;exact hn (hd hk))).trans (h.block k hk hn)⟩
theorem Only.below{D:Nat->Prop}{w w':World}{B:Nat}(h:Only D w w')(hB:B<=w.heap.size)(hd:∀ k,D k->B<=k):Below B w w':=
 ⟨h.os,h.tape,h.output,h.size,λk hk=>h.block k aB λhD=>by have:=hd k hD;omega⟩
theorem Only.owns{D:Nat->Prop}{w w':World}{base:Nat}{e:TypeId}{s n:Nat}{v:Value}{xs:List Value}(h:Only D w w')(ho:w.ownsRow base e s v n xs)(hd:∀ k,v.ownBlock=some k->¬D k):w'.ownsRow base e s v n xs:=by
 refine⟨ho.1,?_⟩;rcases ho.2 with h2|⟨g,cap,cur,e1,e2,e3,e4⟩
 ·exact .inl h2
 ·subst e1;exact .inr ⟨g,cap,cur,rfl,e2,(h.block g (Zb e3) (hd g rfl)).trans e3,e4⟩
theorem Only.heap{D:Nat->Prop}{w w':World}{b:Nat}{o:Obj}(h:Only D w w')(hb:w.heap[b]? = some o)(hd:¬D b):w'.heap[b]? = some o:=(h.block b (Zb hb) hd).trans hb
theorem Only.argB{D:Nat->Prop}{w w':World}{a:Option Addr}{cap:Nat}{bs:List UInt8}(h:Only D w w')(ha:aJ w a cap bs)(hd:∀ b o,a=some ⟨b,o,none⟩->¬D b):aJ w' a cap bs:=by
 refine⟨ha.len,ha.most,ha.nil,λi hi=>?_⟩;obtain⟨b,o,rfl,hc⟩:=ha.row i hi;have hlt:b<w.heap.size:=World.block_lt_of_cell? w _ hc;exact⟨b,o,rfl,(World.cell?_of_block (w:=w) (w':=w') (a:=⟨b,o+i,none⟩) (h.block b hlt (hd b o rfl))).trans hc⟩
theorem Lm{w:World}{base base':Nat}{e:TypeId}{s n:Nat}{v:Value}{xs:List Value}(ho:w.ownsRow base e s v n xs)(hb:base'<=base):w.ownsRow base' e s v n xs:=by
 refine⟨ho.1,?_⟩;rcases ho.2 with h2|⟨g,cap,cur,e1,e2,e3⟩
 ·exact .inl h2
 ·exact .inr ⟨g,cap,cur,e1,aB,e3⟩
open Go.RowKit Go.Maps
def Xt(bs:List UInt8):Value:=.agg (cB bs).toArray
theorem Fe{a b:List UInt8}(h:cB a=cB b):a=b:=by
 have:∀ (a b:List UInt8),cB a=cB b->a=b:=by
  intro a;induction a with
  | nil=>intro b h;cases b with
   | nil=>rfl
   | cons y b=>simp[cB] at h
  | cons x a ih=>
   intro b h;cases b with
   | nil=>simp[cB] at h
   | cons y b=>
    simp only[cB,List.map_cons,List.cons.injEq,Value.int.injEq,true_and] at h;have h1:x=y:=UInt8.toNat_inj.1 aB;rw[h1,ih b h.2]
 exact this a b h
theorem DS{a b:List UInt8}(h:Xt a=Xt b):a=b:=by
 unfold Xt at h;injection h with h;exact Fe (by simpa using congrArg Array.toList h)
open Classical in
noncomputable def HQ(v:Value):Option (DataW Unit×List MemPlace):=if h:∃ bs:List UInt8,bs.length=64/\v=Xt bs then some (.lit (.string h.choose),[]) else none
theorem Mb{bs:List UInt8}(hl:bs.length=64):HQ (Xt bs)=some (.lit (.string bs),[]):=by
 have h:∃ b:List UInt8,b.length=64/\Xt bs=Xt b:=⟨bs,hl,rfl⟩;unfold HQ;rw[dif_pos h,<-DS h.choose_spec.2]
theorem Tb{v:Value}{bs:List UInt8}{ps:List MemPlace}(h:HQ v=some (.lit (.string bs),ps)):v=Xt bs/\bs.length=64:=by
 unfold HQ at h;split at h
 ·next hh=>
  have e:hh.choose=bs:=by
   injection h with h;injection h with h1 _;injection h1 with h1;injection h1
  rw[<-e];exact⟨hh.choose_spec.2,hh.choose_spec.1⟩
 ·cases h
def cK:List UInt8:=List.replicate 64 0
def aV(w:World)(b n:Nat)(f:Int->List UInt8):Prop:=
 ∃ D:DataW Unit,w.ownsMap Tryz.prog 3 HQ b n D/\IsMap D/\(∀ i,(f i).length=64)/\∀ i,-9223372036854775808<=i->i<=9223372036854775807->D.atKey (.int .i64 i) (.lit (.string cK))=.lit (.string (f i))
theorem aV.made(w:World):aV (w.alloc (.map #[] 0)) w.heap.size 0 (λ_=>cK):=
 ⟨_,World.ownsMap_made w _ _ _,isMap_empty,λ_=>by simp[cK],λ_ _ _=>rfl⟩
theorem aV.lt{w:World}{b n:Nat}{f:Int->List UInt8}(h:aV w b n f):b<w.heap.size:=by obtain⟨D,h,_⟩:=h;exact h.lt
theorem aV.only{w w':World}{b n:Nat}{f:Int->List UInt8}{D:Nat->Prop}(h:aV w b n f)(hO:Only D w w')(hd:¬D b):aV w' b n f:=by
 obtain⟨E,⟨es,clock,hb,F,hs,he⟩,h2,h3,h4⟩:=h;exact⟨E,⟨es,clock,(hO.block b (Zb hb) hd).trans hb,F,hs,he⟩,h2,h3,h4⟩
theorem NY{i:Int}(h1 : -9223372036854775808<=i)(h2:i<=9223372036854775807):keyOf Tryz.prog 3 (.int .i64 i)=some (.int .i64 i):=
 keyOf_int_mk Tryz.underlying3 (WalkArith.wf_i64 ⟨h1,h2⟩)
theorem Gh(w:World):(zeroValue 130).run Tryz.prog w=.ok (Xt cK) w:=by
 rw[show Xt cK=.agg (cB cK).toArray from rfl];kernel_rfl
section
variable {w:World} {ops:Array Oper} {rest:List Oper} {o:Oper} {a:Act} {Q:Exit->Act->World->Prop}
theorem TC(hg:o.guard=none)(m x:Operand)(hop:o.op=Op.lookup 117 m x false)(b n:Nat)(f:Int->List UInt8)(hm:a.eval m=.map (some b))(h:Hid (aV w b n f))
  (i:Int) (hx:a.eval x=.int .i64 i) (h1 : -9223372036854775808<=i) (h2:i<=9223372036854775807) (hK:wpList Tryz.prog ops Q rest (a.put o.dst (Xt (f i))) w):wpList Tryz.prog ops Q (o::rest) a w:=by
 refine wpList_plain hg λK' hK'=>?_;obtain⟨D,ho,hD,hl,hat⟩:=h.out;obtain⟨v,ps,hrun,hv⟩:=ho.lookup (int_keyed Tryz.underlying3) Tryz.underlying117 (Gh w) (Mb (by simp[cK])) (NY h1 h2);rw[hat i h1 h2] at hv;obtain⟨rfl,_⟩:=Tb hv;unfold Oper.wp;simp[execOp,hop,hm,hx,hrun,Result.andThen];exact hK' _ _ hK
end
open Go.RowKit Go.ChangeShapes
def CH(nm:String)(text:List UInt8):DataW Unit:=.iface nm (.ptr (.agg [.lit (.string text)]))
section
variable {P:Program} {nm:String} {W:World} {ti tp te ts:TypeId} {ms:Array (String×TypeId)} {f:Field}
theorem Wx(hi:P.underlying ti=some (.interface ms))(hrow:∀ u,P.typeName? 3 u=some nm->u=tp)
  (hp:P.underlying tp=some (.pointer te)) (he:P.underlying te=some (.struct #[f])) (hft:f.type=ts) (hfo:f.offset=0) (hs:P.underlying ts=some .string) (hc:P.cellsOf te=1) (hcs:P.cellsOf ts=1)
  (R:List (String×DataW Unit)):∀ (L:List (String×List UInt8)) (gs:List Nat) (ps:List MemPlace),L.length=gs.length->
  (L.zip gs).all (λx=>decide (P.globalNamed x.1.1=some x.2)&&decide ((P.globals[x.2]?).map (·.type)=some ti))=true->
  DataW.LaidVars P W (L.map (λx=>(x.1,CH nm x.2))++R) ps->ps.Nodup->
  (∀ b off,MemPlace.cell b off∈ps->(∃ c t,W.heap[b]? = some (.cells c t (0,0)))/\∀ u v,W.cell? ⟨b,off,none⟩=some (.iface u v)->Value.okWide P W .any 0 u v)->
  ∃ qG:List Addr,qG.length=gs.length/\qG.Nodup/\(∀ a∈qG,MemPlace.cell a.block a.off∈ps/\a.spot=none/\∃ c t,W.heap[a.block]? = some (.cells c t (0,0)))/\
   ∀ i,i<gs.length->∃ a,qG[i]? = some a/\W.cell? ⟨gs.getD i 0,0,none⟩=some (.iface tp (.pointer (some a))):=by
 intro L;induction L with
 | nil=>
  intro gs ps hl _ _ _ _;have:gs=[]:=by cases gs<;>simp_all
  subst this;exact⟨[],rfl,List.nodup_nil,λa h=>(by cases h),λi h=>(by simp at h)⟩
 | cons x L ih=>
  intro gs ps hl hg hv hnd hrows;cases gs with
  | nil=>simp at hl
  | cons g gs=>
   simp only[List.zip_cons_cons,List.all_cons,Bool.and_eq_true,decide_eq_true_eq] at hg;obtain⟨⟨hg0,ht0⟩,hg'⟩:=hg;simp only[List.map_cons,List.cons_append] at hv;obtain⟨g0,t0,cs0,f0,p0,q0,hg0',ht0',hv0,hd0,hr0,e0⟩:=hv;obtain rfl:=Option.some.inj (hg0.symm.trans hg0');obtain rfl:=Option.some.inj (ht0.symm.trans ht0');subst e0;obtain⟨l0⟩:=cs0;have ok0:∀ u v,l0=[.iface u v]->Value.okWide P W .any 0 u v:=λu v e=>by
    subst e;exact(hrows g 0 (by simp[MemPlace.row])).2 u v (by simpa using World.var?_cell hg0' hv0 0)
   obtain⟨a0,s0,rfl,hc0,hs0,hz0,rfl⟩:=errorString_of_trod hi hrow hp he hft hfo hs hc hcs hd0 ok0;have hm0:MemPlace.cell a0.block a0.off∈MemPlace.row ⟨g,0,none⟩ [Value.iface tp (.pointer (some a0))].toArray.size++MemPlace.row a0 1++q0:=by simp[MemPlace.row]
   have hsp0:a0.spot=none:=World.cell?_spot hc0;obtain⟨qG,h1,h2,h3,h4⟩:=ih gs q0 (by simpa using hl) hg' hr0 (List.Nodup.sublist (List.sublist_append_right _ _) hnd) (λb off hm=>hrows b off (List.mem_append_right _ hm));refine⟨a0::qG,by simp[h1],?_,?_,?_⟩
   ·rw[List.nodup_cons];refine⟨λhm=>?_,h2⟩;have hq:=(h3 a0 hm).1;rw[List.append_assoc,List.nodup_append] at hnd;have hnd2:=(List.nodup_append.1 hnd.2.1).2.2;exact hnd2 (MemPlace.cell a0.block a0.off) (by simp[MemPlace.row]) (MemPlace.cell a0.block a0.off) hq rfl
   ·intro a ha;rcases List.mem_cons.1 ha with rfl|ha
    ·exact⟨hm0,hsp0,(hrows _ _ hm0).1⟩
    ·obtain⟨k1,k2,k3⟩:=h3 a ha;exact⟨List.mem_append_right _ k1,k2,k3⟩
   ·intro i hi';cases i with
    | zero=>exact⟨a0,rfl,by simpa using World.var?_cell hg0' hv0 0⟩
    | succ i=>
     obtain⟨a,k1,k2⟩:=h4 i (by simpa using hi');exact⟨a,by simpa using k1,by simpa using k2⟩
end
structure aQ (tp:TypeId) (gs:List Nat) (w:World) (a:Nat->Addr):Prop where
 var:∀ i,i<gs.length->w.cell? ⟨gs.getD i 0,0,none⟩=some (.iface tp (.pointer (some (a i))))
 obj:∀ i,i<gs.length->∃ c t,w.heap[(a i).block]? = some (.cells c t (0,0))
 inj:∀ i j,i<gs.length->j<gs.length->a i=a j->gs.getD i 0=gs.getD j 0
theorem aQ.inj'{tp:TypeId}{gs:List Nat}{w:World}{a:Nat->Addr}(h:aQ tp gs w a)(hn:gs.Nodup)(i j:Nat)(hi:i<gs.length)(hj:j<gs.length)(e:a i=a j):i=j:=by
 have h1:=h.inj i j hi hj e;rw[List.getD_eq_getElem?_getD,List.getD_eq_getElem?_getD,List.getElem?_eq_getElem hi,List.getElem?_eq_getElem hj] at h1;exact(List.getElem_inj hn).1 h1
theorem aQ.below{tp:TypeId}{gs:List Nat}{w w':World}{a:Nat->Addr}(h:aQ tp gs w a)(hb:Below w.heap.size w w'):aQ tp gs w' a:=by
 refine⟨λi hi=>?_,λi hi=>?_,h.inj⟩
 ·have h1:=h.var i hi;exact(hb.cell (World.block_lt_of_cell? w _ h1)).trans h1
 ·obtain⟨c,t,h1⟩:=h.obj i hi;exact⟨c,t,(hb.block _ (Zb h1)).trans h1⟩
theorem aQ.of_list{tp:TypeId}{gs:List Nat}{w:World}{qG:List Addr}(h1:qG.length=gs.length)(h2:qG.Nodup)(h3:∀ a∈qG,∃ c t,w.heap[a.block]? = some (.cells c t (0,0)))
  (h4:∀ i,i<gs.length->∃ a,qG[i]? = some a/\w.cell? ⟨gs.getD i 0,0,none⟩=some (.iface tp (.pointer (some a)))):aQ tp gs w (λi=>qG.getD i ⟨0,0,none⟩):=by
 refine⟨λi hi=>?_,λi hi=>?_,λi j hi hj e=>?_⟩
 ·obtain⟨a,k1,k2⟩:=h4 i hi;simpa[List.getD_eq_getElem?_getD,k1] using k2
 ·obtain⟨a,k1,k2⟩:=h4 i hi;have:=h3 a (List.mem_of_getElem? k1);simpa[List.getD_eq_getElem?_getD,k1] using this
 ·have hi':i<qG.length:=aB;have hj':j<qG.length:=aB;simp[hi',hj'] at e;have e2:=(List.getElem_inj h2).1 e;rw[e2]
structure dJ (w:World) (e:Nat->Addr):Prop where
 range:w.cell? ⟨0,0,none⟩=some (.iface 298 (.pointer (some (e 0))))
 size:w.cell? ⟨7,0,none⟩=some (.iface 298 (.pointer (some (e 1))))
 power:w.cell? ⟨13,0,none⟩=some (.iface 298 (.pointer (some (e 2))))
def Q7(n:Int)(b:Nat)(v:Value)(armed:Bool)(left:Int)(gone:Bool):Array Value:=#[.int .i64 n,.map (some b),v,.bool armed,.int .i64 left,.bool gone]
theorem B0(n:Int)(h1:1<=n)(h2:n<=2048)(w:World):Calls Tryz.prog 52 #[.int .i64 n] w λx w'=>x=.returned (.tuple #[.pointer (some ⟨w.heap.size+1,0,none⟩),.nilIface])/\w'=(w.alloc (.map #[] 0)).alloc (.cells (Q7 n w.heap.size (.slice none 0 0) false 0 false) 120):=by
 have hmm:=@run_makeMap Tryz.prog;go_enter Tryz.func52,Tryz.ntmps52;go_wp2_with fail;go_ret2;exact⟨rfl,rfl⟩
theorem Jn(B:Nat)(n i:Int)(h0:0<=i)(h1:i<n)(w:World)(hc:w.cell? ⟨B,0,none⟩=some (.int .i64 n)):Calls Tryz.prog 106 #[.pointer (some ⟨B,0,none⟩),.int .i64 i] w λx w'=>x=.returned .nilIface/\w=w':=by
 have h2:¬i<0:=aB;have h3:¬n<=i:=aB;go_enter Tryz.func106,Tryz.ntmps106;go_wp2_with fail;go_ret;exact⟨rfl,rfl⟩
theorem Dq(B:Nat)(n i:Int)(h:i<0\/n<=i)(w:World)(hc:w.cell? ⟨B,0,none⟩=some (.int .i64 n))(e:Nat->Addr)(hE:dJ w e):Calls Tryz.prog 106 #[.pointer (some ⟨B,0,none⟩),.int .i64 i] w λx w'=>x=.returned (.iface 298 (.pointer (some (e 0))))/\w=w':=by
 have hk:=hE.range;by_cases hn:i<0
 ·go_enter Tryz.func106,Tryz.ntmps106;go_wp2_with fail;go_ret;exact⟨rfl,rfl⟩
 ·have hm:n<=i:=aB;clear h;go_enter Tryz.func106,Tryz.ntmps106;go_wp2_with fail;go_ret;exact⟨rfl,rfl⟩
theorem Tn(B:Nat)(armed:Bool)(l:Int)(h:armed=true->l≠0)(hl : -1000000<=l/\l<=9223372036854775807)(w:World)(c3:w.cell? ⟨B,3,none⟩=some (.bool armed))(c4:w.cell? ⟨B,4,none⟩=some (.int .i64 l))(c5:w.cell? ⟨B,5,none⟩=some (.bool false))(f4:w.frozen? ⟨B,4,none⟩=false) :
  Calls Tryz.prog 161 #[.pointer (some ⟨B,0,none⟩)] w λx w'=>x=.returned .nilIface/\w'=w.setCell ⟨B,4,none⟩ (.int .i64 (l-1)):=by
 have hw:IntKind.i64.wrap (l-1)=l-1:=IntWalk.i64_in _ aB;cases armed
 ·clear h;go_enter Tryz.func161,Tryz.ntmps161;go_wp2_with fail;go_ret;exact⟨rfl,rfl⟩
 ·have h0:(l==0)=false:=by simpa using h rfl
  clear h;go_enter Tryz.func161,Tryz.ntmps161;go_wp2_with fail;go_ret;exact⟨rfl,rfl⟩
theorem P5(B:Nat)(armed:Bool)(l:Int)(h:armed=true->l≠0)(w:World)(e:Nat->Addr)(hE:dJ w e)(c3:w.cell? ⟨B,3,none⟩=some (.bool armed))(c4:w.cell? ⟨B,4,none⟩=some (.int .i64 l))(c5:w.cell? ⟨B,5,none⟩=some (.bool true)) :
  Calls Tryz.prog 161 #[.pointer (some ⟨B,0,none⟩)] w λx w'=>x=.returned (.iface 298 (.pointer (some (e 2))))/\w=w':=by
 have hk:=hE.power;cases armed
 ·clear h;go_enter Tryz.func161,Tryz.ntmps161;go_wp2_with fail;go_ret;exact⟨rfl,rfl⟩
 ·have h0:(l==0)=false:=by simpa using h rfl
  clear h;go_enter Tryz.func161,Tryz.ntmps161;go_wp2_with fail;go_ret;exact⟨rfl,rfl⟩
def Dw(w:World)(g:Nat)(bs:List UInt8):Prop:=w.heap[g]? = some (.cells (cB bs).toArray 130 (0,0))
theorem LI(B mb mn:Nat)(f:Int->List UInt8)(n i:Int)(h0:0<=i)(h1:i<n)(hn:n<=2048)(w:World)(hc:w.cell? ⟨B,0,none⟩=some (.int .i64 n))(hc1:w.cell? ⟨B,1,none⟩=some (.map (some mb)))(hm:aV w mb mn f) :
  Calls Tryz.prog 68 #[.pointer (some ⟨B,0,none⟩),.int .i64 i] w λx w'=>∃ g,x=.returned (.tuple #[.slice (some ⟨g,0,none⟩) 64 64,.nilIface])/\Dw w' g (f i)/\w.heap.size<=g/\Below w.heap.size w w':=by
 have hth:=Hd (Jn B n i h0 h1 w hc);have hl:(f i).length=64:=by obtain⟨_,_,_,hl,_⟩:=hm;exact hl i
 replace hm:=Hd hm;have hi1 : -9223372036854775808<=i:=aB;have hi2:i<=9223372036854775807:=aB;obtain⟨S,hSd⟩:∃ S,S=(cB (f i)).toArray:=⟨_,rfl⟩;have zY:Xt (f i)=.agg S:=by rw[hSd];rfl
 have Og:S.size=64:=by rw[hSd];simp[Zc,hl]
 have hS1:S.all (·.oneCell')=true:=by
  rw[hSd,Array.all_eq_true'];intro u hu;exact Zw _ u (by simpa using hu)
 have hz:(w.alloc (.cells (cB cK).toArray 130)).heap[w.heap.size]? = some (.cells (cB cK).toArray 130 (0,0)):=heap_alloc_new w _;have hsz:(Tryz.prog.info? 130).map (·.size)=some S.size:=by rw[Og];kernel_rfl
 have hzs:(cB cK).toArray.size=S.size:=by rw[Og];rfl
 have hgrow:Below w.heap.size w (w.alloc (.cells (cB cK).toArray 130)):=bR.alloc nZ _;replace zY:=Hd zY;replace hSd:=Hd hSd;replace hz:=Hd hz;replace hgrow:=Hd hgrow;replace hl:=Hd hl;go_enter Tryz.func68,Tryz.ntmps68;go_wp2_with fail;with_reducible refine hth.out.mono ?_
 rintro x w2 ⟨rfl,hq⟩;obtain rfl:=hq;clear hth;go_wp2_with (first
  | (at_lookup;go_must (refine TC rfl _ _ rfl mb mn f rfl hm i rfl hi1 hi2 ?_);rw[zY.out])
  | (refine Zd rfl 130 (.tmp 7) (.tmp 19) rfl w.heap.size _ S rfl rfl hz hsz hzs hS1 ?_;intro w3 dB))
 go_ret2;exact⟨_,rfl,by rw[Dw,<-hSd.out];exact dB.out.here,Nat.le_refl _,hgrow.out.trans (dB.out.below nZ)⟩
end
open Go.RowKit
theorem Dr(cs:List Value)(off:Nat):∀ (n:Nat) (b:Array Value) (k:Nat),((cs.zipIdx n).foldl (λacc x=>acc.setIfInBounds (off+x.2) x.1) b)[k]? = if off+n<=k/\k<off+n+cs.length/\k<b.size then cs[k-(off+n)]? else b[k]? := by
 induction cs with
 | nil=>intro n b k;rw[if_neg bf];rfl
 | cons c cs ih=>
  intro n b k;rw[List.zipIdx_cons,List.foldl_cons,ih (n+1) _ k,Array.size_setIfInBounds,Array.getElem?_setIfInBounds];simp only[List.length_cons];by_cases h2:off+(n+1)<=k/\k<off+(n+1)+cs.length/\k<b.size
  ·rw[if_pos h2,if_pos aB,show k-(off+n)=(k-(off+(n+1)))+1 by omega,List.getElem?_cons_succ]
  ·rw[if_neg h2];by_cases h1:off+n=k
   ·subst h1;rw[if_pos rfl];by_cases h3:off+n<b.size
    ·rw[if_pos h3,if_pos ⟨Nat.le_refl _,aB,h3⟩,Nat.sub_self];rfl
    ·rw[if_neg h3,if_neg aB,Array.getElem?_eq_none aB]
   ·rw[if_neg h1,if_neg aB]
theorem T9(i:Int)(S:Array Value)(hS:S.size=64)(W:World):(Instr.build 132 #[(0,.int .i64 i),(1,.agg S)]).run Tryz.prog W=.ok (.agg (#[.int .i64 i]++S)) W:=by
 refine run_build W _ _ _ ?_;obtain⟨Z,hZ⟩:∃ Z:Array Value,Z=(cB (0::cK)).toArray.setIfInBounds 0 (.int .i64 0):=⟨_,rfl⟩;have hb:∀ parts,Tryz.prog.built 132 parts=Instr.fill (λi=>(#[(0,1),(1,64)]:Array (Nat×Nat))[i]?) ((cB (0::cK)).toArray.setIfInBounds 0 (.int .i64 0)) parts:=λparts=>by kernel_rfl
 rw[hb,<-hZ];have hZs:Z.size=65:=by rw[hZ];rfl
 clear hZ hb;simp only[Instr.fill,Value.cells,List.size_toArray,List.length_cons,List.length_nil];have e0:Array.foldl (λcs x=>cs.setIfInBounds (0+x.snd) x.fst) Z #[Value.int IntKind.i64 i].zipIdx=Z.setIfInBounds 0 (.int .i64 i):=by simp[Array.zipIdx]
 show (if (decide (0+1≠1) || decide (0+(0+1)>Z.size))=true then none else if (decide (S.size≠64) || decide (1+S.size>(Array.foldl (λcs x=>cs.setIfInBounds (0+x.snd) x.fst) Z #[Value.int IntKind.i64 i].zipIdx).size))=true then none else some (Array.foldl (λcs x=>cs.setIfInBounds (1+x.snd) x.fst) (Array.foldl (λcs x=>cs.setIfInBounds (0+x.snd) x.fst) Z #[Value.int IntKind.i64 i].zipIdx) S.zipIdx))=_;rw[e0,if_neg (by simp[hZs]),if_neg (by simp[hZs,hS])];congr 1;apply Array.ext_getElem?
 intro k;rw[<-Array.foldl_toList,Array.toList_zipIdx,Dr,Array.size_setIfInBounds,Array.getElem?_setIfInBounds,hZs,Array.length_toList,hS];rw[Array.getElem?_append];simp only[List.size_toArray,List.length_cons,List.length_nil];by_cases hk0:k=0
 ·subst hk0;rw[if_neg aB,if_pos rfl,if_pos aB,if_pos aB];try rfl
 ·by_cases hk:k<65
  ·rw[if_pos aB,if_neg aB,Array.getElem?_toList];try rfl
  ·rw[if_neg aB,if_neg aB,if_neg aB,Array.getElem?_eq_none aB,Array.getElem?_eq_none aB]
theorem Tryz.infoWriteP:(Tryz.prog.info? 132).map (λi=>(i.zero.map (·.cells.size),i.size,i.bytes))=some (some 65,65,72):=kX
theorem TH(R:Array Value)(hR:R.size=65)(W:World):(Instr.buildSlice 118 1 #[(0,.agg R)]).run Tryz.prog W=.ok (.slice (some ⟨W.heap.size,0,none⟩) 1 1) (W.alloc (.cells R 132)):=by
 obtain⟨ie,hie,h2⟩:=Option.map_eq_some_iff.1 Tryz.infoWriteP;simp only[Prod.mk.injEq] at h2;obtain⟨hz,hs,hb⟩:=h2;obtain⟨z,hz1,hz2⟩:=Option.map_eq_some_iff.1 hz;refine run_buildSlice W _ _ 1 _ R ie z Tryz.underlying118 hie hz1 (by rw[hs];decide) (by rw[hs];decide) ?_;have h:=Go.Great.fill_whole (s:=65) dX [.agg R] ((Array.range (1*ie.size)).map (z.cells[· % z.cells.size]!)) (by simp[Value.cells,hR]) (by simp[hs]);simpa[hs,Value.cells] using h
section
variable {ops:Array Oper} {K:Act->World->Prop} {Q:Exit->Act->World->Prop} {o:Oper} {a:Act} {w:World}
theorem L8(t:TypeId)(x y:Operand)(ho:o.op=.build t #[(0,x),(1,y)])(vx vy:Value)(hx:a.eval x=vx)(hy:a.eval y=vy)(R:Value)(h:∀ W,(Instr.build t #[(0,vx),(1,vy)]).run Tryz.prog W=.ok R W)(hK:K (a.put o.dst R) w):o.wp Tryz.prog a w K Q:=by
 unfold Oper.wp execOp;simp only[ho,Sem.run_bind,Sem.run_pure,Result.andThen_ok,List.map_toArray,List.map_cons,List.map_nil,hx,hy,h];exact hK
theorem ZZ(t:TypeId)(len:Nat)(x:Operand)(ho:o.op=.buildSlice t len #[(0,x)])(vx:Value)(hx:a.eval x=vx)(R:Value)(w':World)(h:(Instr.buildSlice t len #[(0,vx)]).run Tryz.prog w=.ok R w')(hK:K (a.put o.dst R) w'):o.wp Tryz.prog a w K Q:=by
 unfold Oper.wp execOp;simp only[ho,Sem.run_bind,Sem.run_pure,Result.andThen_ok,List.map_toArray,List.map_cons,List.map_nil,hx,h];exact hK
theorem DU(s x:Operand)(ho:o.op=.call { callee:=.builtin .append,args:=#[s,x],argTypes:=#[118,118] })
  (base:Nat) (v:Value) (n:Nat) (xs:List Value) (hs:a.eval s=v) (hown:Hid (w.ownsRow base 132 65 v n xs))
  (g:Nat) (R:Array Value) (hR:R.size=65) (h1:∀ u∈R.toList,u.oneCell'=true) (hx:a.eval x=.slice (some ⟨g,0,none⟩) 1 1) (hg:Hid (w.heap[g]? = some (.cells R 132 (0,0)))) (hl:n<=1000000) (hbase:base<=w.heap.size)
  (h:∀ v' w',Hid (w'.ownsRow base 132 65 v' (n+1) (xs++R.toList))->Hid (w.grownBy w' v.ownBlock)->(v'.ownBlock=v.ownBlock\/v'.ownBlock=some w.heap.size)->K (a.put o.dst v') w'):o.wp Tryz.prog a w K Q:=by
 obtain⟨ie,hie,h2⟩:=Option.map_eq_some_iff.1 Tryz.infoWriteP;simp only[Prod.mk.injEq] at h2;obtain⟨hz,hsz,hby⟩:=h2;obtain⟨z,hz1,hz2⟩:=Option.map_eq_some_iff.1 hz;obtain⟨v',w',hr,k1,k2,_,k4⟩:=run_append_own_at (P:=Tryz.prog) w base 118 o.type 132 ie z 65 ie.bytes Tryz.underlying118 hie hz1 hsz rfl hz2 dX v n xs hown.out ⟨g,0,none⟩ 1 1 R.toList (by simp[hR])
  (λj u hu=>by
   rw[Addr.add_mid,Za hg.out,Nat.zero_add,<-Array.getElem?_toList];exact hu) h1 kS (by rw[hby];omega) hbase
 unfold Oper.wp execOp;simp only[ho,resolve,invoke,builtin,Sem.run_bind,Sem.run_pure,Result.andThen_ok,List.map_toArray,List.map_cons,List.map_nil,hs,hx,hr];exact h v' w' (Hd k1) (Hd k2) k4
end
open Go.Maps
section
variable {ops:Array Oper} {K:Act->World->Prop} {Q:Exit->Act->World->Prop} {o:Oper} {a:Act} {w:World}
theorem TL(m x:Operand)(hop:o.op=Op.lookup 117 m x false)(b n:Nat)(f:Int->List UInt8)(hm:a.eval m=.map (some b))(h:aV w b n f)
  (i:Int) (hx:a.eval x=.int .i64 i) (h1 : -9223372036854775808<=i) (h2:i<=9223372036854775807):(execOp a.eval o).run Tryz.prog w=.ok (.value (Xt (f i))) w:=by
 obtain⟨D,ho,hD,hl,hat⟩:=h;obtain⟨v,ps,hrun,hv⟩:=ho.lookup (int_keyed Tryz.underlying3) Tryz.underlying117 (Gh w) (Mb (by simp[cK])) (NY h1 h2);rw[hat i h1 h2] at hv;obtain⟨rfl,_⟩:=Tb hv;simp[execOp,hop,hm,hx,hrun,Result.andThen]
theorem Eb(m x v:Operand)(hop:o.op=Op.mapUpdate 117 m x v)(b n:Nat)(f:Int->List UInt8)(hm:a.eval m=.map (some b))(h:Hid (aV w b n f))(hn:n<maxLen)
  (i:Int) (hx:a.eval x=.int .i64 i) (h1 : -9223372036854775808<=i) (h2:i<=9223372036854775807) (bs:List UInt8) (hv:a.eval v=Xt bs) (hl:bs.length=64)
  (hK:∀ w',Hid (aV w' b (n+1) (λj=>if j=i then bs else f j))->Hid (w.grownBy w' (some b))->K (a.put o.dst undef) w'):o.wp Tryz.prog a w K Q:=by
 obtain⟨D,ho,hD,hfl,hat⟩:=h.out;obtain⟨w',hrun,k1,k2⟩:=ho.update (int_keyed Tryz.underlying3) Tryz.underlying117 hn (NY h1 h2) (Mb hl);unfold Oper.wp;simp[execOp,hop,hm,hx,hv,hrun,Result.andThen];refine hK w' (Hd ⟨_,k1,hD.put _ _,λj=>?_,λj j1 j2=>?_⟩) (Hd k2)
 ·show (if j=i then bs else f j).length=64;split
  ·exact hl
  ·exact hfl j
 ·show (D.put (.int .i64 i) (.lit (.string bs))).atKey (.int .i64 j) (.lit (.string cK))=.lit (.string (if j=i then bs else f j));by_cases hji:j=i
  ·subst hji;rw[if_pos rfl];exact atKey_put_same hD (by simp[WideAt.IsKeyLit]) _ _
  ·rw[if_neg hji,atKey_put_other (by simpa using hji)];exact hat j j1 j2
theorem HR(d s:Operand)(ho:o.op=.call { callee:=.builtin .copy,args:=#[d,s],argTypes:=#[24,24] })
  (g dLen dCap:Nat) (p:Addr) (sLen sCap:Nat) (cur:Array Value) (t:TypeId) (cs:List Value) (hd:a.eval d=.slice (some ⟨g,0,none⟩) dLen dCap) (hs:a.eval s=.slice (some p) sLen sCap)
  (hg:Hid (w.heap[g]? = some (.cells cur t (0,0)))) (hn:cs.length=Nat.min sLen dLen) (hsrc:∀ j v,cs[j]? = some v->w.cell? (p.add j)=some v) (hfit:cs.length<=cur.size) (h1:∀ v∈cs,v.oneCell'=true)
  (hK:∀ w',Hid (ag g (.cells (cs++cur.toList.drop cs.length).toArray t (0,0)) w w')->K (a.put o.dst (goInt cs.length)) w'):o.wp Tryz.prog a w K Q:=by
 have hu:Tryz.prog.underlying 24=some (.slice 5):=Tryz.underlying24;have hsz:(Tryz.prog.info? 5).map (·.size)=some 1:=kX;have hr:=λty=>run_copy_row (P:=Tryz.prog) w 24 24 ty 5 g 0 dLen dCap p sLen sCap cur t cs hu hsz hg.out hn hsrc aB h1;have hU:=ag.setRow (cs:=(cur.toList.take 0++cs++cur.toList.drop (0+cs.length)).toArray) hg.out;unfold Oper.wp execOp;simp only[ho,resolve,invoke,builtin,Sem.run_bind,Sem.run_pure,Result.andThen_ok,List.map_toArray,List.map_cons,List.map_nil,hd,hs,hr];refine hK _ (Hd ?_);simpa using hU
end
def Yb(ws:List (Int×List UInt8)):List Value:=ws.flatMap λp=>.int .i64 p.1::cB p.2
theorem HG{w:World}{b off cap:Nat}{bs:List UInt8}(h:aJ w (some ⟨b,off,none⟩) cap bs):w.rangeAt b off (cB bs):=by
 intro j v hv;have hj:j<bs.length:=by
  have:=(List.getElem?_eq_some_iff.1 hv).1;rwa [Zc] at this
 obtain⟨b',o',e,hc⟩:=h.row j hj;cases e;rw[hc,<-hv];simp[cB,hj]
theorem Jl{w w':World}{D:Nat->Prop}{b off:Nat}{cs:List Value}(h:w.rangeAt b off cs)(hO:Only D w w')(hd:¬D b):w'.rangeAt b off cs:=λj v hv=>by
 have hc:=h j v hv;exact(World.cell?_of_block (w:=w) (w':=w') (a:=⟨b,off+j,none⟩) (hO.block b (World.block_lt_of_cell? w _ hc) hd)).trans hc
theorem Ws(base B mb:Nat)(n i:Int)(h0:0<=i)(h1:i<n)(T:TypeId)(v:Value)(ws:List (Int×List UInt8))(armed:Bool)(l:Int)(har:armed=true->l≠0)(hl : -1000000<=l/\l<=9223372036854775807)(w:World)(hat:w.heap[B]? = some (.cells (Q7 n mb v armed l false) T (0,0)))
  (hb:base<=w.heap.size) (hown:w.ownsRow base 132 65 v ws.length (Yb ws)) (hvB:∀ k,v.ownBlock=some k->k≠B) (hws:ws.length<=1000000)
  (bb off cap:Nat) (bs:List UInt8) (hbs:bs.length=64) (ha:aJ w (some ⟨bb,off,none⟩) cap bs) (sG:bb≠B) (hvb:∀ k,v.ownBlock=some k->k≠bb) :
  Calls Tryz.prog 130 #[.pointer (some ⟨B,0,none⟩),.int .i64 i,.slice (some ⟨bb,off,none⟩) 64 cap] w λx w'=>x=.returned .nilIface/\
   ∃ v',w'.heap[B]? = some (.cells (Q7 n mb v' armed (l-1) false) T (0,0))/\w'.ownsRow base 132 65 v' (ws.length+1) (Yb (ws++[(i,bs)]))/\Only (λk=>k=B\/v.ownBlock=some k) w w'/\(∀ k,v'.ownBlock=some k->v.ownBlock=some k\/w.heap.size<=k):=by
 have hBl:=Zb hat
 have hc:w.cell? ⟨B,0,none⟩=some (.int .i64 n):=by rw[Za hat];rfl
 have c3:w.cell? ⟨B,3,none⟩=some (.bool armed):=by rw[Za hat];rfl
 have c4:w.cell? ⟨B,4,none⟩=some (.int .i64 l):=by rw[Za hat];rfl
 have c5:w.cell? ⟨B,5,none⟩=some (.bool false):=by rw[Za hat];rfl
 have hth:=Hd (Jn B n i h0 h1 w hc);have hde:=Hd (Tn B armed l har hl w c3 c4 c5 (Zg hat _));have harr:∀ W,(Instr.arrayAt 130 (.slice (some ⟨bb,off,none⟩) 64 cap)).run Tryz.prog W=.ok (.pointer (some ⟨bb,off,none⟩)) W:=λW=>by kernel_rfl
 obtain⟨S,hSd⟩:∃ S,S=(cB bs).toArray:=⟨_,rfl⟩;have Og:S.size=64:=by rw[hSd];simp[Zc,hbs]
 have hbuild:=T9 i S Og;obtain⟨R,jw⟩:∃ R,R=#[Value.int .i64 i]++S:=⟨_,rfl⟩;have hRs:R.size=65:=by rw[jw];simp[Og]
 rw[<-jw] at hbuild;have zZ:=TH R hRs;have hraw:=True.intro;have qm:∀ u∈R.toList,u.oneCell'=true:=by
  rw[jw,hSd];intro u hu;simp only[Array.toList_append,List.mem_append,List.mem_singleton] at hu;rcases hu with rfl|hu
  ·rfl
  ·exact Zw _ u hu
 obtain⟨w1,hw1⟩:∃ w1,w1=w.setCell ⟨B,4,none⟩ (.int .i64 (l-1)):=⟨_,rfl⟩;have rz:=(ag.refl hat).setCell (j:=4) (.int .i64 (l-1));rw[<-hw1] at rz;have kT:Only (λk=>k=B) w w1:=Only.ofUpd rz rfl;have hrg:w1.rangeAt bb off (cB bs):=Jl (HG ha) kT sG;have hown1:=kT.owns hown hvB;have hs1:=kT.size;have fE:=rz.here;obtain⟨va,vc,hv⟩:∃ a c,v=.slice a ws.length c:=by
  rcases hown.2 with ⟨e1,h2⟩|⟨g,c,cur,e1,_⟩
  ·exact⟨none,0,by rw[e1,h2]⟩
  ·exact⟨_,c,e1⟩
 have hu:Tryz.prog.underlying 130=some (.array 64 5):=Tryz.underlying130;have hsi:(Tryz.prog.info? 130).map (·.size)=some (cB bs).length:=by rw[Zc,hbs];kernel_rfl
 have hc2:w1.cell? ⟨B,2,none⟩=some (.slice va ws.length vc):=by rw[Za fE,<-hv];rfl
 have hxs:Yb (ws++[(i,bs)])=Yb ws++R.toList:=by rw[jw,hSd];simp[Yb]
 rw[hv] at hown1 hvb hvB;replace hown1:=Hd hown1;replace fE:=Hd fE;replace kT:=Hd kT;replace rz:=Hd rz;replace hw1:=Hd hw1;replace hSd:=Hd hSd;replace jw:=Hd jw;replace hxs:=Hd hxs;replace hvb:=Hd hvb;replace hvB:=Hd hvB;replace hv:=Hd hv;replace hsi:=Hd hsi;replace qm:=Hd qm;have hSd0:Hid (w1.drew.rangeAt bb off (cB bs)):=hrg;have Oh:Hid (w1.drew.ownsRow base 132 65 (.slice va ws.length vc) ws.length (Yb ws)):=hown1;have dP:Hid (w1.drew.heap[B]? = some (.cells ((Q7 n mb v armed l false).setIfInBounds 4 (.int .i64 (l-1))) T (0,0))):=fE;have hsd:w1.heap.size<=w1.drew.heap.size:=Nat.le_refl _;have hcd:w1.drew.cell? ⟨B,2,none⟩=some (.slice va ws.length vc):=hc2;have hgw:Hid (Only (λk=>k=B) w w1.drew):=Hd (kT.out.drew);replace hrg:=Hd hrg;clear hown ha c3 c4 c5 hat
 go_enter Tryz.func130,Tryz.ntmps130;go_wp2_with fail;with_reducible refine hth.out.mono ?_
 rintro x w2 ⟨rfl,hq⟩;obtain rfl:=hq;clear hth;go_wp2_with fail;with_reducible refine hde.out.mono ?_
 rintro x w2 ⟨rfl,hq⟩;obtain rfl:w1=w2:=hw1.out.trans hq.symm;clear hq hde hc hw1;go_wp2_with fail;refine wp_region_held_drew (S:=(λW':World=>W'.rangeAt bb off (cB bs))) kX hSd0.out (λaD=>?_);generalize World.drew w1=wd at*;refine tk 0 aD ?_;refine tk 1 aD ?_;refine tk 2 aD ?_;refine tk 3 aD ?_;refine tk 5 aD ?_;refine tk 6 aD ?_
 repeat' first
  | exact AllReadyH.nil
  |
   first|refine lV 4 (λKz aF=>?_) ?_|refine lW 4 (λKz aF=>?_)|refine lV 7 (λKz aF=>?_) ?_|refine lW 7 (λKz aF=>?_)
   go_simp;focus (try go_wp2_with fail)
   refine aF.out _ _ qD ?_;clear aF Kz aD;intro aD;try simp only[Act.put,sL,sZ,sS]
  |
   first|refine lV 8 (λKz aF=>?_) ?_|refine lW 8 (λKz aF=>?_)
   rw[if_pos bT]
   (refine wp_load_mid 130 (.tmp 31) rfl bb off rfl (cB bs) _ aD hu rfl hsi.out ?_)
   have hS:=aD;rw[<-hSd.out];refine aF.out _ _ hS ?_;clear aF Kz aD hS;intro aD;try simp only[Act.put]
  |
   first|refine lV 9 (λKz aF=>?_) ?_|refine lW 9 (λKz aF=>?_)
   rw[if_pos bT]
   (refine L8 _ (.tmp 29) (.tmp 32) rfl (.int .i64 i) (.agg S) rfl rfl _ hbuild ?_)
   have hS:=aD;refine aF.out _ _ hS ?_;clear aF Kz aD hS;intro aD;try simp only[Act.put]
  |
   first|refine lV 10 (λKz aF=>?_) ?_|refine lW 10 (λKz aF=>?_)
   rw[if_pos bT]
   (refine ZZ _ _ (.tmp 33) rfl (.agg R) rfl _ _ (zZ _) ?_)
   (with_reducible refine Zp (t:=132) ?_)
   intro w5 hx5 hnew;have hS:=Jl aD (Only.ofBelow (D:=λ_=>False) hnew) (λh=>h);have hown5:=Hd ((Only.ofBelow (D:=λ_=>False) hnew).owns Oh.out (λ_ _ h=>h));have jM:=Hd ((hnew.block B aB).trans dP.out);have hs5:=hnew.size;have dS:=Hd (hgw.out.trans (Only.ofBelow (D:=λk=>k=B) hnew) (λ_ _ h=>h));have hcd5:w5.cell? ⟨B,2,none⟩=some (.slice va ws.length vc):=(hnew.cell (p:=⟨B,2,none⟩) (by show B<_;omega)).trans hcd;refine aF.out _ _ hS ?_;clear aF Kz aD hS;intro aD;try clear hnew
   try simp only[Act.put]
  | refine Xi [4,7] ?_
  | refine Xi [4,8] ?_
  | refine Xi [4,9] ?_
  | refine Xi [4,10] ?_
  | fail
 all_goals
  refine rd 11 (λKz aF=>?_);rw[if_pos bT]
  (refine DU (.tmp 28) (.tmp 34) rfl base _ ws.length (Yb ws) rfl hown5 _ R hRs qm.out rfl hx5 hws aB ?_)
  intro v6 w6 zV vY hk6;have hk6:=Hd hk6;have hS:=Jl aD (Only.ofGrown (D:=λk=>(Value.slice va ws.length vc).ownBlock=some k) vY.out (λk hk=>hk)) (λh=>hvb.out bb h rfl);have fK:=Hd ((vY.out.block B aB (λe=>hvB.out B e.symm rfl)).trans jM.out);have eT:=Hd ((dS.out.mono (E:=λk=>k=B\/(Value.slice va ws.length vc).ownBlock=some k) (λ_ _ h=>.inl h)).trans (Only.ofGrown (D:=λk=>(Value.slice va ws.length vc).ownBlock=some k) vY.out (λk hk=>hk)) (λ_ _ h=>.inr h));have hcd6:w6.cell? ⟨B,2,none⟩=some (.slice va ws.length vc):=(by rw[Za fK.out,<-hv.out];rfl);have hf6:w6.frozen? ⟨B,2,none⟩=false:=Zg fK.out _;obtain⟨g6,c6,hv6⟩:∃ g c,v6=.slice (some ⟨g,0,none⟩) (ws.length+1) c:=(by rcases zV.out.2 with ⟨_,h2⟩|⟨g,c,cur,e1,_⟩<;>first|omega|exact⟨g,c,e1⟩);subst hv6;refine aF.out _ _ hS ?_;clear aF Kz aD hS;intro aD;try simp only[Act.put]
  refine tk 12 aD ?_;refine tk 13 aD ?_;refine rd 14 (λKz aF=>?_);go_simp;have aZ:=(ag.refl fK.out).setCell (j:=2) (.slice (some ⟨g6,0,none⟩) (ws.length+1) c6);have hS:=Jl aD (Only.ofUpd aZ rfl:Only (λk=>k=B) _ _) sG;replace aZ:=Hd aZ;refine aF.out _ _ hS ?_;clear aF Kz aD hS;intro aD;try simp only[Act.put]
  refine bz ?_
 all_goals
  go_wp2_with fail;go_ret;refine⟨rfl,_,aZ.out.here,?_,?_,?_⟩
  ·rw[hxs.out];exact(Only.ofUpd aZ.out rfl:Only (λk=>k=B) _ _).owns zV.out (λk hk e=>by
    subst e;rcases hk6.out with h|h
    ·exact hvB.out k (h.symm.trans hk) rfl
    ·rw[hk] at h;injection h with h;omega)
  ·rw[hv.out];exact eT.out.trans (Only.ofUpd aZ.out rfl:Only (λk=>k=B) _ _) (λ_ _ h=>.inl h)
  ·intro k hk;rw[hv.out];rcases hk6.out with h|h
   ·exact .inl (h.symm.trans hk)
   ·rw[hk] at h;injection h with h;exact .inr aB
end Go.Proofs.YtpdhceiodgnbmaaGreatDoor
