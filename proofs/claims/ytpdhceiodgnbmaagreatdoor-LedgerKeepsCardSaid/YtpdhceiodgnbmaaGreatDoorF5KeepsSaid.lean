import Derived.Test.YtpdhceiodgnbmaaGreatDoorF4KeepsSaid
import Derived.Deep.LoopGhost
import Derived.Test.YtpdhceiodgnbmaaGreatDoorF3KeepsSaid
import Derived.Stop.BytesEq
set_option linter.all false
set_option maxRecDepth 100000
set_option maxHeartbeats 8000000
namespace Go.Proofs.YtpdhceiodgnbmaaGreatDoor
open Go.RowKit
section
variable {P:Program} {o:Oper} {a:Act} {w:World}
theorem Z6(ty:TypeId)(x:Operand)(ho:o.op=.load ty x)(g:Nat)(c:Array Value)(d:TypeDesc)
  (hx:a.eval x=.pointer (some ⟨g,0,none⟩)) (hg:w.heap[g]? = some (.cells c ty (0,0))) (hu:P.underlying ty=some d) (hd:(match d with | .struct _ | .array _ _=>true|_=>false)=true) (hi:(P.info? ty).map (·.size)=some c.size) :
  (execOp a.eval o).run P w=.ok (.value (.agg c)) w:=by
 unfold execOp;simp only[ho,hx,Instr.loadAt,Instr.sureAddr,Sem.run_bind,Sem.run_pure,Result.andThen_ok,run_loadVar_row w g ty ty c (0,0) d hg hu hd hi]
end
def Xu(k:Nat)(new old:List UInt8):List UInt8:=new.take k++old.drop k
theorem Lo{k:Nat}{new old:List UInt8}(hk:k<=64)(h1:new.length=64)(h2:old.length=64):(Xu k new old).length=64:=by
 simp[Xu,h1,h2];omega
theorem Dd(B mb mn:Nat)(f:Int->List UInt8)(i:Int)(hi1 : -9223372036854775808<=i)(hi2:i<=9223372036854775807)(bs:List UInt8)(hbs:bs.length=64)(k:Nat)(hk:k<=64)(K:Int)(hK:K=k)(w:World)(hc1:w.cell? ⟨B,1,none⟩=some (.map (some mb)))(hm:aV w mb mn f)(hn:mn<=1000000)(hmb:mb≠B) :
  Calls Tryz.prog 59 #[.pointer (some ⟨B,0,none⟩),.agg (#[.int .i64 i]++(cB bs).toArray),.int .i64 K] w λx w'=>x=.returned (.tuple #[])/\aV w' mb (mn+1) (λj=>if j=i then Xu k bs (f i) else f j)/\Only (λb=>b=mb) w w':=by
 subst hK;have hfl:(f i).length=64:=by obtain⟨_,_,_,hl,_⟩:=hm;exact hl i
 have Oi:=hm.lt;have hBlt:=World.block_lt_of_cell? w _ hc1;obtain⟨R,jw⟩:∃ R,R=#[Value.int .i64 i]++(cB bs).toArray:=⟨_,rfl⟩;have hRs:R.size=65:=by rw[jw];simp[Zc,hbs]
 have hR0:R[0]? = some (Value.int .i64 i):=by rw[jw,Array.getElem?_append_left sX];rfl
 have hRj:∀ j,R[j+1]? = (cB bs)[j]? := by
  intro j;rw[jw,Array.getElem?_append_right sX];simp
 rw[<-jw];obtain⟨w1,hw1⟩:∃ w1,w1=w.alloc (.cells R 132):=⟨_,rfl⟩;have hg1:Grown w w1:=by rw[hw1];exact Grown.alloc (Grown.refl w) _
 have hx1:w1.heap[w.heap.size]? = some (.cells R 132 (0,0)):=by rw[hw1];exact heap_alloc_new w _
 have hs1:w1.heap.size=w.heap.size+1:=by rw[hw1];exact World.size_alloc ..
 have hsd:w.heap.size<w1.drew.heap.size:=by show _<w1.heap.size;omega
 have kT:Only (λb=>b=mb) w w1:=Only.ofBelow hg1;have hm1:aV w1 mb mn f:=hm.only (Only.ofBelow (D:=λ_=>False) hg1) (λh=>h);have Oj:w1.cell? ⟨B,1,none⟩=some (.map (some mb)):=(hg1.cell (p:=⟨B,1,none⟩) hBlt).trans hc1;have vZ:∀ W,Grown w1.drew W->W.cell? ⟨B,1,none⟩=some (.map (some mb)):=λW hW=>(hW.cell (p:=⟨B,1,none⟩) (Nat.lt_of_lt_of_le hBlt hg1.size)).trans Oj;have hxX:∀ W,Grown w1.drew W->W.cell? ⟨w.heap.size,0,none⟩=some (.int .i64 i):=λW hW=>(hW.cell (p:=⟨w.heap.size,0,none⟩) hsd).trans (by rw[show w1.drew.cell? ⟨w.heap.size,0,none⟩=w1.cell? ⟨w.heap.size,0,none⟩ from rfl,Za hx1];exact hR0);have hmW:∀ W,Grown w1.drew W->aV W mb mn f:=λW hW=>aV.only (w:=w1.drew) hm1 (Only.ofBelow (D:=λ_=>False) hW) (λh=>h);have hd1:Grown w1.drew w1.drew:=Grown.refl _;have hgd:Hid (Grown w w1.drew):=Hd (Grown.drew hg1);have hxd:Hid (w1.drew.heap[w.heap.size]? = some (.cells R 132 (0,0))):=Hd hx1;obtain⟨F,Iq⟩:∃ F,F=(cB (f i)).toArray:=⟨_,rfl⟩;have zY:Xt (f i)=.agg F:=by rw[Iq];rfl
 have hFs:F.size=64:=by rw[Iq];simp[Zc,hfl]
 have hF1:F.all (·.oneCell')=true:=by
  rw[Iq,Array.all_eq_true'];intro u hu;exact Zw _ u (by simpa using hu)
 have hsz:(Tryz.prog.info? 130).map (·.size)=some F.size:=by rw[hFs];kernel_rfl
 have hzs:(cB cK).toArray.size=F.size:=by rw[hFs];rfl
 have hraw:=True.intro;have lkA:∀ W,Grown w1.drew W->∀ (o:Oper) (a:Act),o.op=Op.lookup 117 (.tmp 10) (.tmp 12) false->a.eval (.tmp 10)=.map (some mb)->a.eval (.tmp 12)=.int .i64 i->(execOp a.eval o).run Tryz.prog W=.ok (.value (.agg F)) W:=
  λW hW o a h1 h2 h3=>by
   rw[<-zY];exact TL _ _ h1 mb mn f h2 (hmW W hW) i h3 hi1 hi2
 replace zY:=Hd zY;replace Iq:=Hd Iq;replace jw:=Hd jw;replace hw1:=Hd hw1;replace hd1:=Hd hd1;replace hRj:=Hd hRj;replace hfl:=Hd hfl;replace hbs:=Hd hbs;replace hc1:=Hd hc1;clear hm hg1 hx1 kT hm1 Oj hs1;go_enter Tryz.func59,Tryz.ntmps59;go_wp2_with fail;rw[<-hw1.out];refine wp_region_held_drew (S:=(Grown w1.drew)) kX hd1.out (λaD=>?_);generalize World.drew w1=wd at*;refine tk 0 aD ?_;refine tk 1 aD ?_;refine tk 2 aD ?_;refine tk 3 aD ?_;refine tk 4 aD ?_;refine tk 5 aD ?_;refine tk 6 aD ?_ (v:=_) (hy:=Or.inl ⟨by rfl,λW hSW=>lkA W hSW _ _ rfl rfl rfl⟩);refine rd 7 (λKz aF=>?_);go_simp;focus (try go_wp2_with fail)
 (with_reducible refine Zp (t:=130) ?_)
 intro w5 hx5 hnew;have yN:=Hd hnew;have hS:=Grown.trans aD hnew;refine aF.out _ _ hS ?_;clear aF Kz aD hS;intro aD;try clear hnew
 try simp only[Act.put,sL,sZ,sS]
 refine rd 8 (λKz aF=>?_);rw[if_pos bT]
 (refine Zl 130 (.tmp 6) (.tmp 13) rfl _ (cB cK).toArray F rfl rfl hx5 hsz hzs hF1 ?_)
 intro w6 dK;have hS:=Below.trans aD (dK.out.below nZ);refine aF.out _ _ hS ?_;clear aF Kz aD hS;intro aD;try simp only[Act.put]
 refine bz ?_;have hG6:=Hd (Grown.trans hgd.out aD);have hR6:Hid (w6.heap[w.heap.size]? = some (.cells R 132 (0,0))):=Hd ((aD.block _ hsd).trans hxd.out);have hF6:Hid (w6.heap[wd.heap.size]? = some (.cells F 130 (0,0))):=Hd dK.out.here;have hs6:=dK.out.size;have hs5:=yN.out.size;have hx5l:=Zb hx5.out;have sH:=Hd (hmW _ aD);clear dK hx5 hmW vZ hxX lkA aD yN hd1 hxd hgd;generalize hGd:wd.heap.size=G at*;have hfit:((cB bs).take k).length<=F.size:=by simp[Zc,hbs.out,hFs];omega
 have hck:((cB bs).take k).length=Nat.min 64 k:=by simp[Zc,hbs.out];rw[Nat.min_comm]
 have h1k:∀ v∈(cB bs).take k,v.oneCell'=true:=λv hv=>Zw _ v (List.mem_of_mem_take hv);have hsrc:Hid (∀ j v,((cB bs).take k)[j]? = some v->w6.drew.cell? ((⟨w.heap.size,1,none⟩:Addr).add j)=some v):=Hd (λj v hv=>by
  rw[Addr.add_mid,show w6.drew.cell? ⟨w.heap.size,1+j,none⟩=w6.cell? ⟨w.heap.size,1+j,none⟩ from rfl,Za hR6.out,Nat.add_comm 1 j,hRj.out j];rw[List.getElem?_take] at hv;split at hv
  ·exact hv
  ·cases hv)
 have hk2:(k:Int)<=64:=aB;have Ol:Hid (w6.drew.heap[G]? = some (.cells F 130 (0,0))):=hF6;have Om:Hid (aV w6.drew mb mn f):=Hd (aV.only sH.out (Only.drew (Only.refl (λ_=>False) _)) (λh=>h));have Oo:Hid (w6.drew.heap[w.heap.size]? = some (.cells R 132 (0,0))):=hR6;have Oq:Hid (Grown w w6.drew):=Hd (Grown.drew hG6.out);clear hF6 sH hR6 hG6;go_wp2_with fail;refine wp_region_held_drew (S:=(λ_:World=>True)) kX True.intro (λaD=>?_);generalize World.drew w6=wd at*;refine tk 0 aD ?_;refine tk 1 aD ?_;refine tk 2 aD ?_;refine tk 3 aD ?_;refine rd 4 (λKz aF=>?_);rw[if_pos bT]
 (refine HR (.tmp 15) (.tmp 17) rfl G k 64 ⟨w.heap.size,1,none⟩ 64 64 F 130 ((cB bs).take k) rfl rfl Ol hck hsrc.out hfit h1k ?_)
 intro w7 aZ;have hS:=True.intro;refine aF.out _ _ hS ?_;clear aF Kz aD hS;intro aD;try simp only[Act.put]
 refine bz ?_;obtain⟨F7,wO⟩:∃ F7,F7=((cB bs).take k++F.toList.drop ((cB bs).take k).length).toArray:=⟨_,rfl⟩;rw[<-wO] at aZ;have za:Value.agg F7=Xt (Xu k bs (f i)):=by
  rw[wO,Iq.out];unfold Xt Xu;rw[YI];simp[cB,hbs.out,Nat.min_eq_left hk,List.map_take,List.map_drop]
 have hF7s:F7.size=64:=by rw[wO];simp[Zc,hbs.out,hFs];omega
 have hol:(Xu k bs (f i)).length=64:=Lo hk hbs.out hfl.out;have hU7':=Hd (aZ.out);have wP:Hid (Grown w w7.drew):=Hd (Grown.drew (Below.trans Oq.out (aZ.out.below aB)));have tN:Hid (Only (λb=>b=mb) w w7.drew):=Hd (Only.ofBelow wP.out);have hc7:w7.drew.cell? ⟨B,1,none⟩=some (.map (some mb)):=(wP.out.cell (p:=⟨B,1,none⟩) hBlt).trans hc1.out;have OZ:w7.drew.heap[w.heap.size]? = some (.cells R 132 (0,0)):=(aZ.out.block _ aB).trans Oo.out;have hF7:w7.drew.heap[G]? = some (.cells F7 130 (0,0)):=aZ.out.here;have Ot:Hid (aV w7.drew mb mn f):=Hd (aV.only Om.out (Only.ofUpd (D:=λb=>b=G) (aZ.out.drew) rfl) (λh=>by omega));have jo:Only (λb=>b=mb) w7.drew w7.drew:=Only.refl _ _;have vZ:∀ W,Only (λb=>b=mb) w7.drew W->W.cell? ⟨B,1,none⟩=some (.map (some mb)):=λW hW=>(World.cell?_of_block (hW.block B (World.block_lt_of_cell? _ _ hc7) (λe=>hmb e.symm))).trans hc7;have hxX:∀ W,Only (λb=>b=mb) w7.drew W->W.cell? ⟨w.heap.size,0,none⟩=some (.int .i64 i):=λW hW=>by
  rw[Za (hW.heap OZ aB)];exact hR0
 have iW:∀ W,Only (λb=>b=mb) w7.drew W->W.heap[G]? = some (.cells F7 130 (0,0)):=λW hW=>hW.heap hF7 aB;have huA:Tryz.prog.underlying 130=some (.array 64 5):=Tryz.underlying130;have gy:(Tryz.prog.info? 130).map (·.size)=some F7.size:=by rw[hF7s];kernel_rfl
 replace jo:=Hd jo;replace za:=Hd za;clear aZ hU7' wO wP hc7 OZ hF7 hsrc Oo Ol Om Oq;go_wp2_with fail;refine wp_region_held_drew (S:=(Only (λb=>b=mb) w7.drew)) kX jo.out (λaD=>?_);generalize World.drew w7=wd at*;refine tk 0 aD ?_;refine tk 1 aD ?_;refine tk 2 aD ?_;refine tk 3 aD ?_;refine tk 4 aD ?_;refine tk 5 aD ?_;refine tk 6 aD ?_ (v:=Value.agg _) (hy:=Or.inl ⟨by rfl,λW hSW=>Z6 _ _ rfl _ _ _ rfl (iW W hSW) huA rfl gy⟩);refine rd 7 (λKz aF=>?_);rw[if_pos bT]
 (refine Eb (.tmp 22) (.tmp 24) (.tmp 25) rfl mb mn f rfl Ot kS i rfl hi1 hi2 (Xu k bs (f i)) za.out hol ?_)
 intro w8 hm8 hg8;have hS:=Only.trans aD (Only.ofGrown (D:=λb=>b=mb) hg8.out (λb h=>by injection h with h;exact h.symm)) (λ_ _ h=>h);refine aF.out _ _ hS ?_;clear aF Kz aD hS;intro aD;try simp only[Act.put]
 refine bz ?_;go_wp2_with fail
 go_end0
 exact⟨rfl,hm8.out,tN.out.trans aD (λ_ _ h=>h)⟩
def JX(w:World)(v v':Value):Prop:=∀ k,v'.ownBlock=some k->v.ownBlock=some k\/w.heap.size<=k
section
variable {P:Program} {w:World} {ops:Array Oper} {rest:List Oper} {o:Oper} {a:Act} {Q:Exit->Act->World->Prop}
theorem Gs(w:World)(base:Nat)(t ty e:TypeId)(i:TypeInfo)(z:Value)(bytes:Nat)(ht:P.underlying t=some (.slice e))(hi:P.info? e=some i)(hz:i.zero=some z)
  (hsize:i.size=1) (hby:i.bytes=bytes) (hzs:z.cells.size=1)
  (v:Value) (n:Nat) (xs:List Value) (hown:w.ownsRow base e 1 v n xs)
  (ad:Addr) (m c:Nat) (news:List Value) (hl:news.length=m) (hnews:∀ j u,news[j]? = some u->w.cell? (ad.add j)=some u) (h1:∀ u∈news,u.oneCell'=true)
  (h63:n+m<=maxLen) (hbytes:(n+m)*bytes<=140737488355328) (hbase:base<=w.heap.size) :
  ∃ v' w',(Builtin.append_ #[t,t] ty #[v,.slice (some ad) m c]).run P w=.ok v' w'/\w'.ownsRow base e 1 v' (n+m) (xs++news)/\w.grownBy w' v.ownBlock/\JX w v v':=by
 subst hby;obtain⟨v',w',hr,h2,h3,_⟩:=run_append_own (P:=P) w base t ty e i z 1 i.bytes ht hi hz hsize rfl hzs aB v n xs hown ad m c news (by rw[hl,Nat.mul_one]) hnews h1 h63 hbytes hbase;refine⟨v',w',hr,h2,h3,?_⟩;have hlm:news.length=m*i.size:=by rw[hl,hsize,Nat.mul_one]
 have hm63:n+m<=9223372036854775807:=by unfold maxLen at h63;omega
 rcases hown.2 with ⟨rfl,rfl⟩|⟨g,cap,cur,rfl,hbg,hg,hnc,hcm,hcs,htake⟩
 ·by_cases hm:m=0
  ·subst hm;have hv:=h2.2;rcases hv with ⟨rfl,_⟩|⟨g,cap,cur,rfl,hbg,hg,_⟩
   ·intro k hk;simp[Value.ownBlock] at hk
   ·have hn:news=[]:=List.eq_nil_of_length_eq_zero hl;subst hn;exfalso;have:(Builtin.append_ #[t,t] ty #[.slice none 0 0,.slice (some ad) 0 c]).run P w=.ok (.slice none 0 0) w:=by
     simp[Builtin.append_,run_underlying ht,sizeOf,typeInfo,hi,Builtin.lenOf,Builtin.firstCells,loadCells,loadCellsFrom]
    rw[this] at hr;cases hr
  ·have hr2:=run_append_nil (P:=P) w t ty e i z ht hi hz ad m c news hlm hnews aB aB (by have hb:=hbytes;simp only[Nat.zero_add] at hb;omega);rw[hr] at hr2;injection hr2 with e1 e2;subst e1;intro k hk;simp[Value.ownBlock] at hk;exact .inr aB
 ·by_cases hroom:n+m<=cap
  ·have hcs1:cur.size=cap:=by simpa using hcs
   have hr2:=run_append_room (P:=P) w t ty e i ht hi g n cap cur hg ad m c news hlm hnews h1 hroom (by rw[hsize,hl,Nat.mul_one,hcs1];exact hroom);rw[hr] at hr2;injection hr2 with e1 e2;subst e1;intro k hk;exact .inl hk
  ·have holds:∀ j u,xs[j]? = some u->w.cell? ((⟨g,0,none⟩:Addr).add j)=some u:=hown.cells (g:=g) rfl;have hxl:xs.length=n*i.size:=by rw[hown.1,hsize]
   have hr2:=run_append_grow (P:=P) w t ty e i z ht hi hz ⟨g,0,none⟩ n cap xs hxl holds ad m c news hlm hnews aB aB (growslice_fits aB hbytes);rw[hr] at hr2;injection hr2 with e1 e2;subst e1;intro k hk;simp[Value.ownBlock] at hk;exact .inr aB
end
theorem YD{K:Act->World->Prop}{Q:Exit->Act->World->Prop}{o:Oper}{a:Act}{w:World}(s x:Operand)(ho:o.op=.call { callee:=.builtin .append,args:=#[s,x],argTypes:=#[24,24] })
  (base:Nat) (v:Value) (bs:List UInt8) (hs:a.eval s=v) (hown:Hid (aN base w v bs))
  (ad:Addr) (c:Nat) (ys:List UInt8) (m:Nat) (hx:a.eval x=.slice (some ad) m c) (hm:Hid (ys.length=m)) (hy:Hid (aJ w (some ad) c ys)) (hl:bs.length<=1000000) (hl2:m<=1000000) (hbase:base<=w.heap.size)
  (h:∀ v' w',Hid (aN base w' v' (bs++ys))->Hid (w.grownBy w' v.ownBlock)->Hid (JX w v v')->K (a.put o.dst v') w'):o.wp Tryz.prog a w K Q:=by
 obtain⟨i0,hi,hz0,hz1,hz2⟩:=info_parts Tryz.infoByteP;have had:∀ j u,(cB ys)[j]? = some u->w.cell? (ad.add j)=some u:=by
  intro j u hu;have hj:j<(cB ys).length:=(List.getElem?_eq_some_iff.1 hu).1;have hat:=At.ofB hy.out.row;obtain⟨b,off,e,_⟩:=hat j hj;cases e;refine Uc (λi hi=>?_) j u hu;obtain⟨b',off',e',hc⟩:=hat i hi;cases e';exact hc
 obtain⟨v',w',hr,h2,h3,h4⟩:=Gs (P:=Tryz.prog) w base 24 o.type 5 i0 (.int .u8 0) 1 Tryz.underlying24 hi hz0 hz1 hz2 rfl v bs.length (cB bs) hown.out ad m c (cB ys) (by rw[Zc];exact hm.out) had (Zw ys) kS aB hbase;unfold Oper.wp execOp;simp only[ho,resolve,invoke,builtin,Sem.run_bind,Sem.run_pure,Result.andThen_ok,List.map_toArray,List.map_cons,List.map_nil,hs,hx,hr];refine h v' w' (Hd ?_) (Hd h3) (Hd h4);unfold aN;rw[YI,List.length_append,hm.out];exact h2
structure dN {α:Type} (R:World->(Nat->Prop)->α->List Value->Prop) (size:Nat):Prop where
 only:∀ {w w':World} {D F:Nat->Prop} {x:α} {cs:List Value},R w F x cs->Only D w w'->(∀ k,F k->¬D k)->R w' F x cs
 more:∀ {w:World} {F F':Nat->Prop} {x:α} {cs:List Value},R w F x cs->(∀ k,F k->F' k)->R w F' x cs
 len:∀ {w:World} {F:Nat->Prop} {x:α} {cs:List Value},R w F x cs->cs.length=size/\∀ u∈cs,u.oneCell'=true
structure aH {α:Type} (R:World->(Nat->Prop)->α->List Value->Prop) (e:TypeId) (size base:Nat) (w:World) (F:Nat->Prop) (v:Value) (ps:List α):Prop where
 row:∃ css:List (List Value),css.length=ps.length/\w.ownsRow base e size v ps.length css.flatten/\∀ (i:Nat) (x:α) (cs:List Value),ps[i]? = some x->css[i]? = some cs->R w F x cs
 apart:∀ k,v.ownBlock=some k->¬F k
 lt:∀ k,F k->k<w.heap.size
theorem RQ{css:List (List Value)}{size:Nat}(h:∀ cs∈css,cs.length=size):∀ (i:Nat) (cs:List Value) (j:Nat) (u:Value),css[i]? = some cs->cs[j]? = some u->css.flatten[i*size+j]? = some u:=by
 induction css with
 | nil=>intro i cs j u h1;simp at h1
 | cons c css ih=>
  intro i cs j u h1 h2;have hc:=h c (List.mem_cons_self ..);cases i with
  | zero=>
   simp only[List.getElem?_cons_zero,Option.some.injEq] at h1;subst h1;have hj:=(List.getElem?_eq_some_iff.1 h2).1;rw[Nat.zero_mul,Nat.zero_add,List.flatten_cons,List.getElem?_append_left hj];exact h2
  | succ i=>
   simp only[List.getElem?_cons_succ] at h1;rw[List.flatten_cons,List.getElem?_append_right (by rw[hc,Nat.succ_mul];omega),hc,show (i+1)*size+j-size=i*size+j by rw[Nat.succ_mul];omega];exact ih (λcs hcs=>h cs (List.mem_cons_of_mem _ hcs)) i cs j u h1 h2
section
variable {α:Type} {R:World->(Nat->Prop)->α->List Value->Prop} {e:TypeId} {size base:Nat} {w w':World} {F F' D:Nat->Prop} {v:Value} {ps:List α}
theorem aH.only(hR:dN R size)(h:aH R e size base w F v ps)(hO:Only D w w')(hF:∀ k,F k->¬D k)(hv:∀ k,v.ownBlock=some k->¬D k):aH R e size base w' F v ps:=by
 obtain⟨⟨css,h1,h2,h3⟩,h4,h5⟩:=h;exact⟨⟨css,h1,hO.owns h2 hv,λi x cs a b=>hR.only (h3 i x cs a b) hO hF⟩,h4,λk hk=>Nat.lt_of_lt_of_le (h5 k hk) hO.size⟩
theorem aH.below(hR:dN R size)(h:aH R e size base w F v ps)(hb:Below w.heap.size w w'):aH R e size base w' F v ps:=h.only hR (Only.ofBelow (D:=λ_=>False) hb) (λ_ _ h=>h) (λ_ _ h=>h)
theorem aH.mono{base':Nat}(h:aH R e size base w F v ps)(hb:base'<=base):aH R e size base' w F v ps:=by
 obtain⟨⟨css,h1,h2,h3⟩,h4,h5⟩:=h;exact⟨⟨css,h1,Lm h2 hb,h3⟩,h4,h5⟩
theorem aH.ownLt(h:aH R e size base w F v ps):∀ k,v.ownBlock=some k->base<=k/\k<w.heap.size:=by
 obtain⟨⟨css,h1,h2,h3⟩,h4,h5⟩:=h;exact λk hk=>World.ownsRow.lt h2 k hk
theorem aH.nil(base:Nat)(w:World):aH R e size base w (λ_=>False) (.slice none 0 0) ([]:List α):=
 ⟨⟨[],rfl,⟨sX,.inl ⟨rfl,rfl⟩⟩,λi x cs a=>by simp at a⟩,(λk hk=>by cases hk),λk h=>False.elim h⟩
theorem aH.made0(w:World)(base:Nat)(hb:base<=w.heap.size):aH R e size base (w.alloc (.cells #[] e)) (λ_=>False) (.slice (some ⟨w.heap.size,0,none⟩) 0 0) ([]:List α):=
 ⟨⟨[],rfl,by simpa using World.ownsRow_made (base:=base) (e:=e) (size:=size) w #[] 0 hb dX sX,λi x cs a=>by simp at a⟩,λk _ h=>h,λk h=>False.elim h⟩
theorem aH.form(h:aH R e size base w F v ps):∃ a c,v=.slice a ps.length c/\(a=none->c=0/\ps.length=0)/\ps.length<=c/\c<=maxLen/\∀ b o s,a=some ⟨b,o,s⟩->o=0/\s=none/\base<=b/\b<w.heap.size:=by
 obtain⟨⟨css,h1,h2,h3⟩,h4,h5⟩:=h;rcases h2.2 with ⟨rfl,h0⟩|⟨g,cap,cur,rfl,hb,hh,hn,hc,_⟩
 ·exact⟨none,0,by rw[h0],λ_=>⟨rfl,h0⟩,aB,Nat.zero_le _,λ_ _ _ e=>by cases e⟩
 ·exact⟨_,cap,rfl,(λe=>by cases e),hn,hc,λb o s e=>by cases e;exact⟨rfl,rfl,hb,Zb hh⟩⟩
theorem aH.elem(hR:dN R size)(h:aH R e size base w F v ps)(i:Nat)(x:α)(hx:ps[i]? = some x):∃ g c cs,v=.slice (some ⟨g,0,none⟩) ps.length c/\R w F x cs/\w.rangeAt g (i*size) cs:=by
 obtain⟨⟨css,h1,h2,h3⟩,h4,h5⟩:=h;have hi:=(List.getElem?_eq_some_iff.1 hx).1;obtain⟨cs,hcs⟩:∃ cs,css[i]? = some cs:=⟨_,List.getElem?_eq_getElem aB⟩;have hall:∀ cs∈css,cs.length=size:=by
  intro cs hm;obtain⟨j,hj⟩:=List.mem_iff_getElem?.1 hm;have hj2:=(List.getElem?_eq_some_iff.1 hj).1;exact(hR.len (h3 j _ cs (List.getElem?_eq_getElem aB) hj)).1
 rcases h2.2 with ⟨_,h0⟩|⟨g,cap,cur,rfl,hb,hh,hn,hc,hsz,htk⟩
 ·omega
 ·refine⟨g,cap,cs,rfl,h3 i x cs hx hcs,λj u hu=>?_⟩;have:=RQ hall i cs j u hcs hu;rw[<-htk,List.getElem?_take] at this;split at this
  ·rw[Za hh,<-Array.getElem?_toList];exact this
  ·cases this
end
section
variable {α:Type} {R:World->(Nat->Prop)->α->List Value->Prop} {e:TypeId} {size base:Nat} {w:World} {F F':Nat->Prop} {v:Value} {ps:List α} {P:Program}
theorem aH.app1(hR:dN R size)(h:aH R e size base w F v ps)(t ty:TypeId)(i:TypeInfo)(z:Value)(bytes:Nat)(ht:P.underlying t=some (.slice e))(hi:P.info? e=some i)(hz:i.zero=some z)(hsize:i.size=size)(hby:i.bytes=bytes)(hzs:z.cells.size=size)(hsz:0<size)
  (x:α) (cs:List Value) (hx:R w F' x cs) (hF:∀ k,F k->F' k) (ha:∀ k,v.ownBlock=some k->¬F' k) (hl:∀ k,F' k->k<w.heap.size) (g:Nat) (C:Array Value) (hC:C.toList=cs) (hg:w.heap[g]? = some (.cells C e (0,0))) (h63:ps.length+1<=maxLen) (hbytes:(ps.length+1)*bytes<=140737488355328) (hbase:base<=w.heap.size) :
  ∃ v' w',(Builtin.append_ #[t,t] ty #[v,.slice (some ⟨g,0,none⟩) 1 1]).run P w=.ok v' w'/\aH R e size base w' F' v' (ps++[x])/\Only (λk=>v.ownBlock=some k) w w'/\JX w v v':=by
 obtain⟨⟨css,h1,h2,h3⟩,h4,h5⟩:=h;obtain⟨hlen,hone⟩:=hR.len hx;obtain⟨v',w',hr,k1,k2,_,k4⟩:=run_append_own_at (P:=P) w base t ty e i z size bytes ht hi hz hsize hby hzs hsz v ps.length css.flatten h2 ⟨g,0,none⟩ 1 1 cs (by rw[hlen,Nat.one_mul])
  (λj u hu=>by
   have e1:(⟨g,0,none⟩:Addr).add j=⟨g,0+j,none⟩:=by unfold Addr.add;split<;>simp_all
   rw[e1,Za hg,Nat.zero_add,<-Array.getElem?_toList,hC];exact hu) hone h63 hbytes hbase
 have hO:Only (λk=>v.ownBlock=some k) w w':=Only.ofGrown k2 (λk hk=>hk);have hM:JX w v v':=λk hk=>by
  rcases k4 with k4|k4
  ·exact .inl (k4▸hk)
  ·rw[k4] at hk;cases hk;exact .inr nZ
 refine⟨v',w',hr,⟨⟨css++[cs],by simp[h1],by simpa using k1,λj y ds hy hd=>?_⟩,λk hk hk2=>?_,λk hk=>Nat.lt_of_lt_of_le (hl k hk) hO.size⟩,hO,hM⟩
 ·rcases Nat.lt_or_ge j ps.length with hj|hj
  ·rw[List.getElem?_append_left hj] at hy;rw[List.getElem?_append_left aB] at hd;exact hR.only (hR.more (h3 j y ds hy hd) hF) hO (λk hk e=>ha k e hk)
  ·have hj2:=(List.getElem?_eq_some_iff.1 hy).1;simp only[List.length_append,List.length_singleton] at hj2;obtain rfl:j=ps.length:=aB;have e1:y=x:=by simpa using hy.symm
   have e2:ds=cs:=by rw[<-h1] at hd;simpa using hd.symm
   subst e1 e2;exact hR.only hx hO (λk hk e=>ha k e hk)
 ·rcases hM k hk with hk3|hk3
  ·exact ha k hk3 hk2
  ·have:=hl k hk2;omega
end
section
variable {α:Type} {R:World->(Nat->Prop)->α->List Value->Prop} {e:TypeId} {size base:Nat} {w:World} {F F':Nat->Prop} {v:Value} {ps:List α} {P:Program} {ops:Array Oper} {rest:List Oper} {o:Oper} {a:Act} {Q:Exit->Act->World->Prop} {K:Act->World->Prop}
theorem TP(hR:dN R size)(s x:Operand)(t:TypeId)(ho:o.op=.call { callee:=.builtin .append,args:=#[s,x],argTypes:=#[t,t] })
  (ht:P.underlying t=some (.slice e)) (bytes:Nat) (hi:(P.info? e).map (λi=>(i.zero.map (·.cells.size),i.size,i.bytes))=some (some size,size,bytes)) (hsz:0<size)
  (hs:a.eval s=v) (h:Hid (aH R e size base w F v ps)) (y:α) (C:Array Value) (hy:Hid (R w F' y C.toList)) (hF:Hid (∀ k,F k->F' k)) (ha:Hid (∀ k,v.ownBlock=some k->¬F' k)) (hl:Hid (∀ k,F' k->k<w.heap.size))
  (hx:a.eval x=.slice (some ⟨w.heap.size,0,none⟩) 1 1) (h63:ps.length<=1000000) (ib:bytes<=10000) (hbase:base<=w.heap.size)
  (hK:∀ v' w',Hid (aH R e size base w' F' v' (ps++[y]))->Hid (Only (λk=>v.ownBlock=some k) w w')->Hid (JX w v v')->K (a.put o.dst v') w'):o.wp P a (w.alloc (.cells C e)) K Q:=by
 obtain⟨ie,hie,h2⟩:=Option.map_eq_some_iff.1 hi;simp only[Prod.mk.injEq] at h2;obtain⟨hz,hs1,hby⟩:=h2;obtain⟨z,hz1,hz2⟩:=Option.map_eq_some_iff.1 hz;have hG:Below w.heap.size w (w.alloc (.cells C e)):=bR.alloc nZ _;have kT:Only (λ_=>False) w (w.alloc (.cells C e)):=Only.ofBelow hG;obtain⟨v',w',hr,k1,k2,k3⟩:=(h.out.below hR hG).app1 (P:=P) hR t o.type ie z bytes ht hie hz1 hs1 hby hz2 hsz y C.toList (hR.only hy.out kT (λ_ _ h=>h)) hF.out ha.out (λk hk=>Nat.lt_of_lt_of_le (hl.out k hk) hG.size) w.heap.size C rfl (heap_alloc_new w _) kS
  (Nat.le_trans (Nat.mul_le_mul (Nat.succ_le_succ h63) ib) dX) (Nat.le_trans hbase hG.size)
 unfold Oper.wp execOp;simp only[ho,resolve,invoke,builtin,Sem.run_bind,Sem.run_pure,Result.andThen_ok,List.map_toArray,List.map_cons,List.map_nil,hs,hx,hr];exact hK v' w' (Hd k1) (Hd ((kT.mono (λ_ _ h=>False.elim h)).trans k2 (λ_ _ h=>h))) (Hd λk hk=>(k3 k hk).imp id (λh=>Nat.le_trans hG.size h))
theorem Qa(hgd:o.guard=none)(hR:dN R size)(s x:Operand)(t:TypeId)(ho:o.op=.call { callee:=.builtin .append,args:=#[s,x],argTypes:=#[t,t] })
  (ht:P.underlying t=some (.slice e)) (bytes:Nat) (hi:(P.info? e).map (λi=>(i.zero.map (·.cells.size),i.size,i.bytes))=some (some size,size,bytes)) (hsz:0<size)
  (hs:a.eval s=v) (h:Hid (aH R e size base w F v ps)) (y:α) (C:Array Value) (hy:Hid (R w F' y C.toList)) (hF:Hid (∀ k,F k->F' k)) (ha:Hid (∀ k,v.ownBlock=some k->¬F' k)) (hl:Hid (∀ k,F' k->k<w.heap.size))
  (hx:a.eval x=.slice (some ⟨w.heap.size,0,none⟩) 1 1) (h63:ps.length<=1000000) (ib:bytes<=10000) (hbase:base<=w.heap.size)
  (hK:∀ v' w',Hid (aH R e size base w' F' v' (ps++[y]))->Hid (Only (λk=>v.ownBlock=some k) w w')->Hid (JX w v v')->wpList P ops Q rest (a.put o.dst v') w'):wpList P ops Q (o::rest) a (w.alloc (.cells C e)):=by
 refine wpList_plain hgd λK' hK'=>?_;exact TP hR s x t ho ht bytes hi hsz hs h y C hy hF ha hl hx h63 ib hbase (λv' w' a b c=>hK' _ _ (hK v' w' a b c))
end
def RB(w:World)(F:Nat->Prop)(bs:List UInt8)(cs:List Value):Prop:=∃ a c,cs=[.slice a bs.length c]/\aJ w a c bs/\∀ b o s,a=some ⟨b,o,s⟩->F b
theorem cZ:dN RB 1:=by
 refine⟨?_,?_,?_⟩
 ·rintro w w' D F x cs ⟨a,c,rfl,h1,h2⟩ hO hF;exact⟨a,c,rfl,hO.argB h1 (λb o e=>hF b (h2 b o none e)),h2⟩
 ·rintro w F F' x cs ⟨a,c,rfl,h1,h2⟩ hF;exact⟨a,c,rfl,h1,λb o s e=>hF b (h2 b o s e)⟩
 ·rintro w F x cs ⟨a,c,rfl,h1,h2⟩;refine⟨rfl,λu hu=>?_⟩;simp at hu;subst hu;rfl
theorem Hm{base:Nat}{w:World}{v:Value}{bs:List UInt8}(h:aN base w v bs):RB w (λk=>v.ownBlock=some k) bs [v]:=by
 obtain⟨a,c,rfl,h1,_⟩:=h.arg;exact⟨a,c,rfl,h1,λb o s e=>by subst e;rfl⟩
def ZM:List (Bool×Nat)->Bool×List (Bool×Nat)
 | []=>(false,[])
 | (_,0)::s=>ZM s
 | (b,n+1)::s=>(b,(b,n)::s)
def ZQ(U:Nat->Value):Nat->List (Bool×Nat)->List Value->List Value
 | _,_,[]=>[]
 | i,s,v::l=>(bif (ZM s).1 then U i else v)::ZQ U (i+1) (ZM s).2 l
theorem Nu(U:Nat->Value):∀ (l:List Value) (s:List (Bool×Nat)) (i:Nat),(∀ k v,l[k]? = some v->U (i+k)=v)->ZQ U i s l=l
 | [],_,_,_=>rfl
 | v::l,s,i,h=>by
  rw[ZQ,Nu U l (ZM s).2 (i+1) (λk v hk=>by rw[Nat.add_assoc,Nat.add_comm 1 k];exact h (k+1) v (by simpa using hk))];have h0:U i=v:=h 0 v sX;cases (ZM s).1
  ·rfl
  ·simp[h0]
theorem GS(bg:List (Bool×Nat))(l:List Value):ZQ (λi=>l.getD i undef) 0 bg l=l:=
 Nu _ l bg 0 λk v hk=>by
  rw[Nat.zero_add,List.getD_eq_getElem?_getD,hk];rfl
section
variable {P:Program} {Q:Exit->Act->World->Prop} {w:World} {c:Code}
theorem ZG(bg:List (Bool×Nat))(l:List Value)(ds:_)(R:(Nat->Value)->World->Prop)(M:(Nat->Value)->World->Nat)(h0:R (λi=>l.getD i undef) w)
  (hr:∀ U wr,R U wr->∀ K:Act->World->Prop,Hid (∀ qo w'',ZQ (λi=>qo.getD i undef) 0 bg l=qo->R (λi=>qo.getD i undef) w''->M (λi=>qo.getD i undef) w''<M U wr->K ⟨qo.toArray,ds⟩ w'')->
   ∀ l',ZQ U 0 bg l=l'->c.wp P (Exit.then K Q) ⟨l'.toArray,ds⟩ wr):(Code.loop c).wp P Q ⟨l.toArray,ds⟩ w:=by
 refine wp_loop_ghost (λn a w'=>∃ U,R U w'/\M U w'=n/\a=⟨(ZQ U 0 bg l).toArray,ds⟩) (M (λi=>l.getD i undef) w) ⟨_,h0,rfl,by rw[GS]⟩ ?_;rintro n a w' ⟨U,hR,rfl,rfl⟩;refine hr U w' hR _ (Hd ?_) _ rfl;intro qo w'' he h1 h2;exact⟨_,h2,_,h1,rfl,by rw[he]⟩
end
theorem aJ.from{w:World}{b o c:Nat}{bs:List UInt8}(h:aJ w (some ⟨b,o,none⟩) c bs)(i:Nat)(hi:i<=bs.length):aJ w (some ⟨b,o+i,none⟩) (c-i) (bs.drop i):=by
 have hl:=h.len;have hm:=h.most;refine⟨by rw[List.length_drop];omega,aB,(λe=>by cases e),λj hj=>⟨b,o+i,rfl,?_⟩⟩;rw[List.length_drop] at hj;obtain⟨b',o',e,hc⟩:=h.row (i+j) aB;cases e;rw[Nat.add_assoc,hc];simp[List.getD_eq_getElem?_getD,List.getElem?_drop]
theorem aJ.upto{w:World}{a:Option Addr}{c:Nat}{bs:List UInt8}(h:aJ w a c bs)(n:Nat):aJ w a c (bs.take n):=by
 refine⟨by rw[List.length_take];have:=h.len;omega,h.most,h.nil,λj hj=>?_⟩
 rw[List.length_take] at hj;obtain⟨b,o,e,hc⟩:=h.row j aB;refine⟨b,o,e,?_⟩;rw[hc];simp[List.getD_eq_getElem?_getD,List.getElem?_take,show j<n by omega]
theorem aJ.range{w:World}{b o c:Nat}{bs:List UInt8}(h:aJ w (some ⟨b,o,none⟩) c bs):w.rangeAt b o (cB bs):=by
 intro j v hv;have hj:j<bs.length:=by
  have:=(List.getElem?_eq_some_iff.1 hv).1;rwa [Zc] at this
 obtain⟨b',o',e,hc⟩:=h.row j hj;cases e;rw[hc,<-hv,Ti hj]
theorem Ce(xs ys:List UInt8)(hx:xs.length=32)(hy:ys.length=32)(w:World):(binOp .neq 47 (.agg (cB xs).toArray) (.agg (cB ys).toArray)).run Tryz.prog w=.ok (.bool (!(xs==ys))) w:=by
 show (binOp .neq 47 (.agg (xs.map Extern.Stop.cell).toArray) (.agg (ys.map Extern.Stop.cell).toArray)).run Tryz.prog w=_;rw[run_neq_struct,run_equalIn_bytes w 9998 47 5 32 Tryz.underlying47 Tryz.underlying5 (λw=>by kernel_rfl) xs ys hx hy];rfl
theorem CA(x y:Nat)(hx:x<256)(hy:y<256):bits .or .i64 ((x:Int)*256) (y:Int)=((x*256+y:Nat):Int):=by
 have h:=Bv x y 8 aB dX aB;rw[show (x:Int)*(2:Int) ^ 8=(x:Int)*256 from rfl,IntWalk.wrap64_in ((x:Int)*256) aB] at h;exact h
def Vk(S N R:List UInt8):Option (List UInt8):=if S=N then some R else none
theorem Wn{S N R:List UInt8}(h:false=(S==N)):Vk S N R=none:=by
 unfold Vk;rw[if_neg (λe=>by rw[e,beq_self_eq_true] at h;cases h)]
theorem T1{S N R:List UInt8}(h:true=(S==N)):Vk S N R=some R:=by
 unfold Vk;rw[if_pos (eq_of_beq h.symm)]
def dH(n₀:Nat)(w':World)(v:Value):Option (List UInt8)->Prop
 | none=>v=.slice none 0 0
 | some r=>aN n₀ w' v r
theorem TK(H:Array Value)(bs:List UInt8)(yM:bs.length<34)(a:Option Addr)(c:Nat)(w:World) :
  Calls Tryz.prog 127 #[.slice a bs.length c,.agg H] w λx w'=>x=.returned (.slice none 0 0)/\Below w.heap.size w w':=by
 have h2:(bs.length:Int)<34:=aB;have hb:Below w.heap.size w (w.alloc (.cells H 47)):=bR.alloc nZ _;replace hb:=Hd hb;go_enter Tryz.func127,Tryz.ntmps127;go_wp2_with fail;go_ret;exact⟨rfl,hb.out⟩
theorem LF(H:Array Value)(bs:List UInt8)(yM:34<=bs.length)(hn:Qc bs<1\/400<Qc bs\/bs.length<34+Qc bs)(hmax:bs.length<=100000)(a:Option Addr)(c:Nat)(w:World)(ha:aJ w a c bs) :
  Calls Tryz.prog 127 #[.slice a bs.length c,.agg H] w λx w'=>x=.returned (.slice none 0 0)/\Below w.heap.size w w':=by
 have hb:Below w.heap.size w (w.alloc (.cells H 47)):=bR.alloc nZ _;obtain⟨b,o,rfl,_⟩:=ha.row 0 aB;have ha1:=ha.below hb;obtain⟨_,_,e0,c0⟩:=ha1.row 0 aB;cases e0;obtain⟨_,_,e1,c1⟩:=ha1.row 1 aB;cases e1;rw[Nat.add_zero] at c0;have hj:=CA (bs.getD 0 0).toNat (bs.getD 1 0).toNat (bs.getD 0 0).toNat_lt (bs.getD 1 0).toNat_lt;have Ir:(bs.getD 0 0).toNat*256+(bs.getD 1 0).toNat=Qc bs:=rfl;rw[Ir] at hj;have h2:¬((bs.length:Int)<34):=aB;have hl1:=(bs.getD 0 0).toNat_lt;have hl2:=(bs.getD 1 0).toNat_lt;have hnl:Qc bs<=65535:=by rw[<-Ir];omega
 generalize (bs.getD 0 0).toNat=x at*;generalize (bs.getD 1 0).toNat=y at*;generalize Qc bs=n at*;replace hb:=Hd hb;have hsz:=Hd (λW=>VK (n:Int) W);clear ha ha1 Ir;go_enter Tryz.func127,Tryz.ntmps127;go_wp2_with fail;go_quiet (fail);go_wp2_with fail;with_reducible refine(hsz.out _).mono ?_
 rintro e w2 ⟨rfl,hq⟩;obtain rfl:=hq;by_cases hd:1<=(n:Int)/\(n:Int)<=400
 ·have hd2:decide (1<=(n:Int)/\(n:Int)<=400)=true:=decide_eq_true hd;have hlt:(bs.length:Int)<34+(n:Int):=aB;go_wp2_with fail;go_ret;exact⟨rfl,below_drewN hb.out nq⟩
 ·have hd2:decide (1<=(n:Int)/\(n:Int)<=400)=false:=decide_eq_false hd;clear hd;go_wp2_with fail;go_ret;exact⟨rfl,below_drewN hb.out nq⟩
theorem Wb(h bs:List UInt8)(hh:h.length=32)(hn1:1<=Qc bs)(hn2:Qc bs<=400)(oo:34+Qc bs<=bs.length)(hmax:bs.length<=100000)(a:Option Addr)(c:Nat)(w:World)(ha:aJ w a c bs)(hK:bP w)(hF:bZ w) :
  Calls Tryz.prog 127 #[.slice a bs.length c,.agg (cB h).toArray] w λx w'=>∃ v,x=.returned v/\dH w.heap.size w' v (ZK bs h)/\Below w.heap.size w w':=by
 obtain⟨H,hHd⟩:∃ H,H=(cB h).toArray:=⟨_,rfl⟩;have hb:Below w.heap.size w (w.alloc (.cells H 47)):=bR.alloc nZ _;obtain⟨b,o,rfl,_⟩:=ha.row 0 aB;have ha1:=ha.below hb;have hc:=ha.len;have hcm:=ha.most;obtain⟨_,_,e0,c0⟩:=ha1.row 0 aB;cases e0;obtain⟨_,_,e1,c1⟩:=ha1.row 1 aB;cases e1;rw[Nat.add_zero] at c0;have hj:=CA (bs.getD 0 0).toNat (bs.getD 1 0).toNat (bs.getD 0 0).toNat_lt (bs.getD 1 0).toNat_lt;have Ir:(bs.getD 0 0).toNat*256+(bs.getD 1 0).toNat=Qc bs:=rfl;rw[Ir] at hj;have hx:=heap_alloc_new w (.cells H 47 (0,0));obtain⟨R,hR⟩:∃ R,R=(bs.drop 34).take (Qc bs):=⟨_,rfl⟩;have hRl:R.length=Qc bs:=by rw[hR,List.length_take,List.length_drop];omega
 have haR:∀ W,Below w.heap.size w W->aJ W (some ⟨b,o+34,none⟩) (c-34) R:=λW hW=>by rw[hR];exact((ha.below hW).from 34 aB).upto (Qc bs)
 obtain⟨S,hSd⟩:∃ S,S=(bs.drop 2).take 32:=⟨_,rfl⟩;have tQ:S.length=32:=by rw[hSd,List.length_take,List.length_drop];omega
 have haS:∀ W,Below w.heap.size w W->W.rangeAt b (o+2) (cB S):=λW hW=>by rw[hSd];exact(((ha.below hW).from 2 aB).upto 32).range
 have tV:ZK bs h=Vk S (ZF h R) R:=by
  unfold ZK Vk;rw[if_neg aB,if_neg aB,<-hR,<-hSd]
 have hnx:=λW (hW:Below w.heap.size w W)=>VU h R hh (some ⟨b,o+34,none⟩) (c-34) W (haR W hW) aB (hK.below hW) (hF.below hW);rw[hRl,<-hHd] at hnx;have hcl:=λW (hW:Below w.heap.size w W)=>XY (some ⟨b,o+34,none⟩) (c-34) R W (haR W hW) aB;rw[hRl] at hcl;have hne:=λW=>Ce S (ZF h R) tQ (Y5 h R) W;have hiS:(Tryz.prog.info? 47).map (·.size)=some (cB S).length:=by rw[Zc,tQ];kernel_rfl
 obtain⟨N,hN⟩:∃ N,N=(cB (ZF h R)).toArray:=⟨_,rfl⟩;rw[<-hN] at hne;obtain⟨q,wN⟩:=aA (S==ZF h R);rw[<-wN] at hne;replace wN:=Hd wN;rw[<-hN] at hnx;have huA:Tryz.prog.underlying 47=some (.array 32 5):=Tryz.underlying47;have gy:(Tryz.prog.info? 47).map (·.size)=some H.size:=by rw[hHd];exact Qi hh
 have yM:34<=bs.length:=aB;have hc34:34<=c:=aB;have hc34i:(34:Int)<=(c:Int):=aB;have hc2i:(2:Int)<=(c:Int):=aB;have h2:¬((bs.length:Int)<34):=aB;have h5:¬((bs.length:Int)<34+(Qc bs:Int)):=aB;have hl1:=(bs.getD 0 0).toNat_lt;have hl2:=(bs.getD 1 0).toNat_lt;have hd2:decide (1<=(Qc bs:Int)/\(Qc bs:Int)<=400)=true:=decide_eq_true aB;rw[tV,<-hHd];generalize (bs.getD 0 0).toNat=x at*;generalize (bs.getD 1 0).toNat=y at*;replace hR:=Hd hR;generalize Qc bs=n at*;have hsz:=Hd (λW=>VK (n:Int) W);replace hb:=Hd hb;replace hHd:=Hd hHd;replace hRl:=Hd hRl;replace haR:=Hd haR;replace hSd:=Hd hSd;replace tQ:=Hd tQ;replace haS:=Hd haS;replace hnx:=Hd hnx;replace hcl:=Hd hcl;replace hN:=Hd hN;replace hx:=Hd hx;clear ha ha1 Ir hK hF tV hh;go_enter Tryz.func127,Tryz.ntmps127;go_wp2_with fail;go_quiet (fail);go_wp2_with fail;with_reducible refine(hsz.out _).mono ?_
 rintro e w2 ⟨rfl,hq⟩;obtain rfl:=hq;clear hsz;go_wp2_with fail;generalize hWq:(w.alloc (.cells H 47)).drewN nq=wq;have hbq:Below w.heap.size w wq:=hWq▸below_drewN hb.out nq;have hxq:wq.heap[w.heap.size]? = some (.cells H 47 (0,0)):=hWq▸hx.out;have Ou:w.heap.size<wq.heap.size:=Zb hxq;have hd1:=hbq.drew;have hxd:wq.drew.heap[w.heap.size]? = some (.cells H 47 (0,0)):=hxq;have hsd:w.heap.size<wq.drew.heap.size:=Ou;replace hd1:=Hd hd1;have iW:∀ W,(Below w.heap.size w W/\W.heap[w.heap.size]? = some (.cells H 47 (0,0)))->W.heap[w.heap.size]? = some (.cells H 47 (0,0)):=λW hW=>hW.2;have hSS:Hid (Below w.heap.size w wq.drew/\wq.drew.heap[w.heap.size]? = some (.cells H 47 (0,0))):=Hd ⟨hd1.out,hxd⟩;have harr:∀ W,(Instr.arrayAt 47 (.slice (some ⟨b,o+2,none⟩) 32 (c-2))).run Tryz.prog W=.ok (.pointer (some ⟨b,o+2,none⟩)) W:=λW=>by kernel_rfl
 clear hWq hbq hxq hb hx;refine wp_region_held_drew (S:=(λW=>Below w.heap.size w W/\W.heap[w.heap.size]? = some (.cells H 47 (0,0)))) kX hSS.out (λaD=>?_);generalize World.drew wq=wd at*;refine tk 0 aD ?_;refine tk 1 aD ?_;refine tk 4 aD ?_ (v:=Value.agg _) (hy:=Or.inl ⟨by rfl,λW hSW=>Z6 _ _ rfl _ _ _ rfl (iW W hSW) huA rfl gy⟩);refine tk 5 aD ?_
 repeat' first
  | exact AllReadyH.nil
  |
   first|refine lV 2 (λKz aF=>?_) ?_|refine lW 2 (λKz aF=>?_)
   go_simp;focus (try go_wp2_with fail)
   refine aF.out _ _ qD ?_;clear aF Kz aD;intro aD;try simp only[Act.put,sL,sZ,sS]
  |
   first|refine lV 3 (λKz aF=>?_) ?_|refine lW 3 (λKz aF=>?_)
   rw[if_pos bT]
   (with_reducible refine wp_load_mid 47 (.tmp 36) rfl b (o+2) rfl (cB S) _ (haS.out _ aD.1) huA rfl hiS ?_)
   have hS:=aD;refine aF.out _ _ hS ?_;clear aF Kz aD hS;intro aD;try simp only[Act.put]
  |
   first|refine lV 6 (λKz aF=>?_) ?_|refine lW 6 (λKz aF=>?_)
   go_simp
   (with_reducible refine(hnx.out _ aD.1).mono ?_)
   rintro e w8 ⟨rfl,hnew⟩;have hS:=And.intro (aD.1.trans (hnew.mono aD.1.size)) ((hnew.block _ (Zb aD.2)).trans aD.2);focus (go_wp2_with fail)
   refine aF.out _ _ hS ?_;clear aF Kz aD hS;intro aD;try clear hnew
   try simp only[Act.put,sL,sZ,sS]
  | refine Xi [2,6] ?_
  | refine Xi [3,6] ?_
  | fail
 all_goals
  refine tk 7 aD ?_;refine bz ?_
 all_goals
  have hOb:=Hd aD.1;clear aD hSS;cases q
  ·go_wp2_with fail;go_ret;exact⟨_,rfl,by rw[Wn wN.out];rfl,hOb.out⟩
  ·have hcc:=Hd (hcl.out _ hOb.out);go_wp2_with fail;with_reducible refine hcc.out.mono ?_
   rintro e w9 ⟨v9,rfl,fB,jf⟩;have Ow:=hOb.out.size;replace fB:=Hd (fB.mono Ow);replace jf:=Hd (hOb.out.trans (jf.mono Ow));go_wp2_with fail;go_ret;exact⟨_,rfl,by rw[T1 wN.out];exact fB.out,jf.out⟩
theorem Mv(h bs:List UInt8)(hh:h.length=32)(hmax:bs.length<=100000)(a:Option Addr)(c:Nat)(w:World)(ha:aJ w a c bs)(hK:bP w)(hF:bZ w) :
  Calls Tryz.prog 127 #[.slice a bs.length c,.agg (cB h).toArray] w λx w'=>∃ v,x=.returned v/\dH w.heap.size w' v (ZK bs h)/\Below w.heap.size w w':=by
 by_cases yM:bs.length<34
 ·have hf:ZK bs h=none:=by unfold ZK;rw[if_pos yM]
  rw[hf];refine(TK _ bs yM a c w).mono ?_;rintro e w' ⟨rfl,hb⟩;exact⟨_,rfl,rfl,hb⟩
 ·by_cases hn:Qc bs<1\/400<Qc bs\/bs.length<34+Qc bs
  ·have hf:ZK bs h=none:=by unfold ZK;rw[if_neg yM,if_pos hn]
   rw[hf];refine(LF _ bs aB hn hmax a c w ha).mono ?_;rintro e w' ⟨rfl,hb⟩;exact⟨_,rfl,rfl,hb⟩
  ·exact Wb h bs hh aB aB aB hmax a c w ha hK hF
theorem dH.mono{n m:Nat}{w:World}{v:Value}{o:Option (List UInt8)}(h:dH n w v o)(hm:m<=n):dH m w v o:=by
 cases o with
 | none=>exact h
 | some r=>exact aN.mono (show aN _ _ _ _ from h) hm
def aM:List UInt8:=tab 32 λ_=>0
theorem Ql:aM.length=32:=QX _ _
theorem Jv:aG=(cB aM).toArray:=Km
theorem UW:(Tryz.prog.info? 24).map (λi=>(i.zero.map (·.cells.size),i.size,i.bytes))=some (some 1,1,24):=kX
structure jy (base:Nat) (w0 wr:World) (hb:Nat) (bs:List UInt8) (dn:List (List UInt8)) (vo vr:Value):Prop where
 rows:∃ F,aH RB 24 1 base wr F vo dn/\(∀ k,F k->k≠hb)/\(∀ k,vr.ownBlock=some k->¬F k)/\(∀ k,F k->base<=k)
 own:∀ k,vo.ownBlock=some k->k≠hb
 head:wr.heap[hb]? = some (.cells (cB (Zi aM dn)).toArray 47 (0,0))
 found:dH base wr vr (ZK (bs.drop (Zn dn)) (Zi aM dn))
 apart:∀ k,vr.ownBlock=some k->vo.ownBlock≠some k/\k≠hb
 bel:Below base w0 wr
 rest:dn++QA (bs.drop (Zn dn)) (Zi aM dn)=QA bs aM
 le:Zn dn<=bs.length
theorem jy.found_some{base:Nat}{w0 wr:World}{hb:Nat}{bs:List UInt8}{dn:List (List UInt8)}{vo vr:Value}{r:List UInt8}(h:jy base w0 wr hb bs dn vo vr)(e:ZK (bs.drop (Zn dn)) (Zi aM dn)=some r):aN base wr vr r/\dn++(r::QA (bs.drop (Zn (dn++[r]))) (Zi aM (dn++[r])))=QA bs aM/\Zn (dn++[r])<=bs.length/\1<=r.length/\r.length<=400:=by
 have hf:=X7 e;rw[List.length_drop] at hf;have h1:=h.found;rw[e] at h1;have h2:=h.rest;rw[Vc e,List.drop_drop] at h2;have hle:=h.le;exact⟨h1,by rw[XV,Xw];exact h2,by rw[XV];omega,hf.1,hf.2.1⟩
def Bl(w:World)(bs:List UInt8)(x:Ending)(w':World):Prop:=∃ v F,x=.returned (.tuple #[v,.int .i64 (Zn (QA bs aM):Nat)])/\aH RB 24 1 w.heap.size w' F v (QA bs aM)/\(∀ k,F k->w.heap.size<=k)/\Below w.heap.size w w'
theorem Cb(bs:List UInt8)(hmax:bs.length<=100000)(a:Option Addr)(c:Nat)(w:World)(ha:aJ w a c bs)(hK:bP w)(hF:bZ w) :
  Calls Tryz.prog 99 #[.slice a bs.length c] w (Bl w bs):=by
 have zr:=Qe;have zn:=ZH;have qH:=Tryz.underlying24;have huA:Tryz.prog.underlying 47=some (.array 32 5):=Tryz.underlying47;have hb0:Below w.heap.size w (w.alloc (.cells aG 47)):=bR.alloc nZ _;have hz0:=heap_alloc_new w (.cells aG 47 (0,0));obtain⟨w1,hw1⟩:∃ w1,w1=w.alloc (.cells aG 47):=⟨_,rfl⟩;rw[<-hw1] at hb0 hz0;have hs1:w1.heap.size=w.heap.size+1:=by rw[hw1];exact World.size_alloc ..
 have hfi:=Hd (Mv aM bs Ql hmax a c w1 (ha.below hb0) (hK.below hb0) (hF.below hb0));rw[<-Jv] at hfi;rw[Jv] at hz0;have gy:(Tryz.prog.info? 47).map (·.size)=some aG.size:=by rw[Jv];exact Qi Ql
 replace hw1:=Hd hw1;replace hz0:=Hd hz0;replace ha:=Hd ha;replace hK:=Hd hK;replace hF:=Hd hF;replace hb0:=Hd hb0;replace hs1:=Hd hs1;go_enter Tryz.func99,Tryz.ntmps99;go_wp2_with (refine Ze rfl 47 (.tmp 5) rfl w.heap.size aG _ rfl (Hd (heap_alloc_new _ _)) huA rfl gy ?_);rw[<-hw1.out];with_reducible refine hfi.out.mono ?_
 rintro e w2 ⟨vr,rfl,hfr,hb2⟩;have qp:Hid (jy w.heap.size w w2 w.heap.size bs [] (.slice none 0 0) vr):=Hd (by
  have hsz:=hs1.out;refine⟨⟨λ_=>False,aH.nil _ _,λ_ h=>False.elim h,λ_ _ h=>h,λ_ h=>False.elim h⟩,λk hk=>(by cases hk),(hb2.block _ aB).trans hz0.out,?_,λk hk=>?_,hb0.out.trans (hb2.mono aB),rfl,Nat.zero_le _⟩
  ·show dH w.heap.size w2 vr (ZK bs aM);cases hq:ZK bs aM with
   | none=>rw[hq] at hfr;exact hfr
   | some r=>rw[hq] at hfr;exact aN.mono hfr aB
  ·refine⟨(by intro h;cases h),?_⟩;cases hq:ZK bs aM with
   | none=>rw[hq] at hfr;cases (show vr=_ from hfr);cases hk
   | some r=>
    rw[hq] at hfr;have:=(World.ownsRow.lt (show aN _ _ _ _ from hfr) k hk).1;omega)
 have hs2:w.heap.size<=w2.heap.size:=by have:=hb2.size;have:=hs1.out;omega
 clear hfi hfr hb2 hb0 hz0 hw1 hs1;go_wp2_with fail;refine ZG [(false,4),(true,1),(false,1),(true,2),(false,3),(true,19)] _ [] (λU wr=>∃ dn:List (List UInt8),U 6=.int .i64 (Zn dn:Nat)/\jy w.heap.size w wr w.heap.size bs dn (U 4) (U 7)/\w.heap.size<=wr.heap.size)
  (λU _=>bs.length-(intOf (U 6)).toNat) ?_ ?_
 ·simp only[List.getD_cons_zero,List.getD_cons_succ];exact⟨[],rfl,qp.out,hs2⟩
 ·clear qp hs2;intro U wr hrel KK hback l' hl';obtain⟨dn,h6,hst,hsz⟩:=hrel;simp only[ZQ,ZM,cond_true,cond_false,Nat.reduceAdd,h6] at hl';generalize hv4:U 4=vo at*;generalize hv7:U 7=vr at*;subst hl';replace h6:=Hd h6;replace hv4:=Hd hv4;replace hv7:=Hd hv7;cases Ox:ZK (bs.drop (Zn dn)) (Zi aM dn) with
  | none=>
   have hvr:=hst.found;rw[Ox] at hvr;obtain rfl:vr=.slice none 0 0:=hvr;have hre:=hst.rest;rw[JZ Ox,List.append_nil] at hre;replace hst:=Hd hst;replace hre:=Hd hre;clear Ox;go_wp2_with fail;go_ret2;obtain⟨F,k1,k2,k3,k4⟩:=hst.out.rows;exact⟨vo,F,by rw[<-hre.out];rfl,by rw[<-hre.out];exact k1,k4,hst.out.bel⟩
  | some r=>
   obtain⟨hown,hrest,hle2,hr1,hr4⟩:=hst.found_some Ox;obtain⟨g,cr,rfl,hgb⟩:=hown.form hr1;obtain⟨F,kr,kF,kv,kFb⟩:=hst.rows;have hap:=hst.apart g rfl;have hglt:=(World.ownsRow.lt hown g rfl).2;have hrb:RB wr (λk=>F k\/k=g) r [.slice (some ⟨g,0,none⟩) r.length cr]:=cZ.more (Hm hown) (λk h=>by cases h;exact .inr rfl);have sJ:Hid (RB wr (λk=>F k\/k=g) r (#[Value.slice (some ⟨g,0,none⟩) r.length cr]:Array Value).toList):=Hd hrb;have Iu:Hid (∀ k,F k->F k\/k=g):=Hd λk h=>.inl h;have haB:Hid (∀ k,vo.ownBlock=some k->¬(F k\/k=g)):=Hd λk hk h=>by
    rcases h with h|h
    ·exact kr.apart k hk h
    ·subst h;exact hap.1 hk
   have hlB:Hid (∀ k,F k\/k=g->k<wr.heap.size):=Hd λk h=>by
    rcases h with h|h
    ·exact kr.lt k h
    ·omega
   have hdl:dn.length<=1000000:=by
    have h1:dn.length<=Zn dn:=by
     unfold Zn;have:∀ l:List (List UInt8),l.length<=(l.map λr=>34+r.length).sum:=by
      intro l;induction l with
      | nil=>exact Nat.le_refl _
      | cons q l ih=>simp only[List.length_cons,List.map_cons,List.sum_cons];omega
     exact this dn
    have:=hst.le;omega
   have hinfo:=Hd UW;have hown2:=Hd hown;have ze:(Zi aM dn).length=32:=QE Ql dn;have yO:(Zi aM (dn++[r])).length=32:=QE Ql _;have hnl:=Xw aM dn r;obtain⟨H,hH⟩:∃ H,H=(cB (Zi aM dn)).toArray:=⟨_,rfl⟩;obtain⟨N,hN⟩:∃ N,N=(cB (Zi aM (dn++[r]))).toArray:=⟨_,rfl⟩;have hzH:(Tryz.prog.info? 47).map (·.size)=some H.size:=by rw[hH];exact Qi ze
   have Oy:(Tryz.prog.info? 47).map (·.size)=some N.size:=by rw[hN];exact Qi yO
   have zf:H.size=N.size:=by rw[hH,hN];simp[Zc,ze,yO]
   have hN1:N.all (·.oneCell')=true:=by rw[hN];exact U3 _
   have hhead:=hst.head;rw[<-hH] at hhead;have hbel:=hst.bel;have hblt:=Zb hhead;have hnx:=λW (hW:aJ W (some ⟨g,0,none⟩) cr r) (hB:Below w.heap.size w W)=>VU (Zi aM dn) r ze (some ⟨g,0,none⟩) cr W hW aB (hK.out.below hB) (hF.out.below hB);rw[<-hH,<-hnl,<-hN] at hnx;have hgr:=λW (hO:Only (λk=>vo.ownBlock=some k) wr W)=>hO.owns hown (λk hk e=>by cases hk;exact hap.1 e);have hE0:(Zn (dn++[r]):Int)=(Zn dn:Int)+(34+(r.length:Int)):=by rw[XV];omega
   obtain⟨E,hE⟩:=aA (Zn (dn++[r]));obtain⟨D,hD⟩:=aA (Zn dn);rw[<-hE] at hle2 hE0;rw[<-hD] at hE0;have hDl:D<=bs.length:=by rw[hD];exact hst.le
   rw[<-hD];replace hst:=Hd hst;replace hrest:=Hd hrest;replace hH:=Hd hH;replace hN:=Hd hN;replace hnl:=Hd hnl;replace hhead:=Hd hhead;replace hnx:=Hd hnx;replace hgr:=Hd hgr;replace kr:=Hd kr;replace kF:=Hd kF;replace kv:=Hd kv;replace kFb:=Hd kFb;replace hE:=Hd hE;replace hD:=Hd hD;replace hE0:=Hd hE0;replace hbel:=Hd hbel;replace hap:=Hd hap;replace zf:=Hd zf;clear Ox hown hrb;go_wp2_with (first
    | (at_builtin;refine Qa (P:=Tryz.prog) (R:=RB) (e:=24) (size:=1) (base:=w.heap.size) (F:=F) (F':=λk=>F k\/k=g) rfl cZ (.tmp 18) (.tmp 20) 22 rfl Tryz.underlying22 24 hinfo.out dX rfl kr r #[.slice (some ⟨g,0,none⟩) r.length cr] sJ Iu haB hlB rfl hdl dX hsz ?_;intro v3 w3 hr3 ho3 qI;have hz3:=Hd ((Only.heap ho3.out hhead.out (λe=>hst.out.own _ e rfl))))
    | (refine Ze rfl 47 (.tmp 5) rfl w.heap.size H _ rfl hz3 huA rfl hzH ?_))
   have hb3:Below w.heap.size w w3:=hbel.out.trans (ho3.out.below hsz (λk hk=>(kr.out.ownLt k hk).1));have oo:=Hd (hnx.out w3 (by
    obtain⟨a',c',e1,h1,_⟩:=(aN.arg (hgr.out w3 ho3.out));cases e1;exact h1) hb3)
   have hz3s:=hb3.size;replace hb3:=Hd hb3;with_reducible refine oo.out.mono ?_
   rintro e w4 ⟨rfl,hb4⟩;clear oo;have hz4:=Hd ((hb4.block _ (Zb hz3.out)).trans hz3.out);have hs4:=hb4.size;replace hb4:=Hd hb4;go_wp2_with (refine Zd rfl 47 (.tmp 5) (.tmp 24) rfl w.heap.size H N rfl rfl hz4 Oy zf.out hN1 ?_;intro w5 dG);rw[<-hE0.out];obtain⟨b,o,hab,_⟩:=ha.out.row 0 (by have:=hE0.out;omega);have hb5:Below w.heap.size w w5:=(hb3.out.trans (hb4.out.mono hz3s)).trans (dG.out.below nZ);have hg4:Below w3.heap.size w3 w4:=hb4.out;have dS:Only (λk=>k=w.heap.size) w4 w5:=Only.ofUpd dG.out rfl;have fM:aH RB 24 1 w.heap.size w5 (λk=>F k\/k=g) v3 (dn++[r]):=(hr3.out.below cZ hg4).only cZ dS (λk hk e=>by
    rcases hk with hk|hk
    ·exact kF.out k hk e
    ·subst hk;exact hap.out.2 e) (λk hk e=>by
    have e2:k=w.heap.size:=e;rcases qI.out k hk with h|h
    ·exact hst.out.own k h e
    ·omega)
   have hs5:=dS.size;have hs3:=ho3.out.size;have ku:∀ k,v3.ownBlock=some k->k<w5.heap.size/\k≠w.heap.size:=λk hk=>⟨(fM.ownLt k hk).2,λe=>by
    rcases qI.out k hk with h|h
    ·exact hst.out.own k h e
    ·omega⟩
   have bY:w5.drew.heap[w.heap.size]? = some (.cells N 47 (0,0)):=dG.out.here;have rlB:∀ W,Grown w5.drew W->W.heap[w.heap.size]? = some (.cells N 47 (0,0)):=λW hW=>(hW.block _ (Zb bY)).trans bY;have hbW:∀ W,Grown w5.drew W->Below w.heap.size w W:=λW hW=>(hb5.drew).trans (hW.mono (show w.heap.size<=w5.heap.size by omega));have hfs:∀ A' C W,Grown w5.drew W->aJ W A' C (bs.drop E)->_:=λA' C W hW hA=>Mv (Zi aM (dn++[r])) (bs.drop E) yO jH A' C W hA (hK.out.below (hbW W hW)) (hF.out.below (hbW W hW));rw[<-hN.out,List.length_drop] at hfs;have huB:=huA;have Oz:=Oy;have hd5:Hid (Grown w5.drew w5.drew):=Hd (Grown.refl _);have hE1:(0:Int)<=(E:Int):=aB;have hE2:(E:Int)<=(bs.length:Int):=aB;have hlc:=ha.out.len;have hfin:∀ (w8:World) (v8:Value),Grown w5.drew w8->dH w5.heap.size w8 v8 (ZK (bs.drop E) (Zi aM (dn++[r])))->jy w.heap.size w w8 w.heap.size bs (dn++[r]) v3 v8:=λw8 v8 hG8 oG=>by
    have hG:Below w5.heap.size w5 w8:=(Below.drew (Below.refl _ w5)).trans hG8;have O0:∀ k,v8.ownBlock=some k->w5.heap.size<=k:=λk hk=>by
     cases hq:ZK (bs.drop E) (Zi aM (dn++[r])) with
     | none=>rw[hq] at oG;cases (show v8=_ from oG);cases hk
     | some q=>rw[hq] at oG;exact(World.ownsRow.lt (show aN _ _ _ _ from oG) k hk).1
    refine⟨⟨_,fM.below cZ hG,λk hk=>?_,λk hk h=>?_,λk hk=>?_⟩,λk hk=>(ku k hk).2,?_,?_,λk hk=>⟨λe=>?_,?_⟩,hbW w8 hG8,?_,?_⟩
    ·rcases hk with hk|hk
     ·exact kF.out k hk
     ·subst hk;exact hap.out.2
    ·have h1:=fM.lt k h;have h2:=O0 k hk;omega
    ·rcases hk with hk|hk
     ·exact kFb.out k hk
     ·subst hk;exact hgb
    ·rw[<-hN.out];exact rlB w8 hG8
    ·rw[<-hE.out];cases hq:ZK (bs.drop E) (Zi aM (dn++[r])) with
     | none=>rw[hq] at oG;exact oG
     | some q=>rw[hq] at oG;exact aN.mono (show aN _ _ _ _ from oG) aB
    ·have h1:=O0 k hk;have h2:=(ku k e).1;omega
    ·have h1:=O0 k hk;omega
    ·have:=hrest.out;rw[<-hE.out] at this ⊢;rw[List.append_assoc];exact this
    ·rw[<-hE.out];exact hle2
   have hEd:bs.length-E<bs.length-D:=by have:=hE0.out;omega
   have hsz5:w.heap.size<=w5.heap.size:=aB;have hsd:w5.heap.size<=w5.drew.heap.size:=Nat.le_refl _;have zg:E=Zn (dn++[r]):=hE.out;replace hfin:=Hd hfin;replace hfs:=Hd hfs;replace zg:=Hd zg;replace hbW:=Hd hbW;clear hb5 hg4 dS fM ku bY dG hz3 hz4 hb3 hb4 hr3 ho3 qI sJ Iu haB hlB kr kF kv kFb hnx hgr hhead hst hrest hap;subst hab;by_cases sK:c=E
   ·have wQ:∀ W:World,aJ W (some ⟨b,o,none⟩) 0 (bs.drop E):=λW=>by
     rw[List.drop_eq_nil_of_le aB];exact⟨Nat.zero_le _,Nat.zero_le _,(λe=>by cases e),λi hi=>absurd hi (Nat.not_lt_zero i)⟩
    have hf0:=λW hW=>hfs.out (some ⟨b,o,none⟩) 0 W hW (wQ W);rw[show bs.length-E=0 by omega] at hf0;replace hf0:=Hd hf0;subst sK;clear wQ;refine wp_region_held_drew (S:=(Grown w5.drew)) kX hd5.out (λaD=>?_);generalize World.drew w5=wd at*;refine tk 0 aD ?_;refine tk 1 aD ?_;refine tk 2 aD ?_;refine tk 3 aD ?_ (v:=Value.agg _) (hy:=Or.inl ⟨by rfl,λW hSW=>Z6 _ _ rfl _ _ _ rfl (rlB W hSW) huB rfl Oz⟩);refine rd 4 (λKz aF=>?_);go_simp
    (with_reducible refine(hf0.out _ aD).mono ?_)
    rintro e w8 ⟨v8,rfl,oG,hnew⟩;replace oG:=Hd (dH.mono oG (Nat.le_trans hsd aD.size));focus (go_wp2_with fail)
    refine aF.out _ _ (Below.trans aD (Below.mono hnew (Below.size aD))) ?_;clear aF Kz aD;intro aD;try clear hnew
    try simp only[Act.put,sL,sZ,sS]
    refine tk 5 aD ?_;refine bz ?_;all_goals
     have O1:=Hd aD;go_wp2_with fail;refine hback.out _ _ kX ?_ ?_
     ·simp only[List.getD_cons_zero,List.getD_cons_succ];have h8:=hfin.out _ _ O1.out oG.out;exact⟨dn++[r],by rw[zg.out],h8,by have:=O1.out.size;omega⟩
     ·have h6:=h6.out;have hDn:=hD.out;simp only[List.getD_cons_zero,List.getD_cons_succ,h6,intOf];omega
   ·have hEc:(E:Int)<(c:Int):=aB;have wQ:∀ W:World,Grown w5.drew W->aJ W (some ⟨b,o+E,none⟩) (c-E) (bs.drop E):=λW hW=>(ha.out.below (hbW.out W hW)).from E aB;replace wQ:=Hd wQ;refine wp_region_held_drew (S:=(Grown w5.drew)) kX hd5.out (λaD=>?_);generalize World.drew w5=wd at*;refine tk 0 aD ?_;refine tk 1 aD ?_;refine tk 2 aD ?_;refine tk 3 aD ?_ (v:=Value.agg _) (hy:=Or.inl ⟨by rfl,λW hSW=>Z6 _ _ rfl _ _ _ rfl (rlB W hSW) huB rfl Oz⟩);refine rd 4 (λKz aF=>?_);go_simp
    (with_reducible refine(hfs.out _ _ _ aD (wQ.out _ aD)).mono ?_)
    rintro e w8 ⟨v8,rfl,oG,hnew⟩;replace oG:=Hd (dH.mono oG (Nat.le_trans hsd aD.size));focus (go_wp2_with fail)
    refine aF.out _ _ (Below.trans aD (Below.mono hnew (Below.size aD))) ?_;clear aF Kz aD;intro aD;try clear hnew
    try simp only[Act.put,sL,sZ,sS]
    refine tk 5 aD ?_;refine bz ?_;all_goals
     have O1:=Hd aD;go_wp2_with fail;refine hback.out _ _ kX ?_ ?_
     ·simp only[List.getD_cons_zero,List.getD_cons_succ];have h8:=hfin.out _ _ O1.out oG.out;exact⟨dn++[r],by rw[zg.out],h8,by have:=O1.out.size;omega⟩
     ·have h6:=h6.out;have hDn:=hD.out;simp only[List.getD_cons_zero,List.getD_cons_succ,h6,intOf];omega
def RD(_w:World)(_F:Nat->Prop)(d:List UInt8)(cs:List Value):Prop:=d.length=32/\cs=cB d
theorem ZC:dN RD 32:=by
 refine⟨λh _ _=>h,λh _=>h,?_⟩;rintro w F x cs ⟨h1,rfl⟩;exact⟨by rw[Zc];exact h1,Zw x⟩
theorem aH.argBB{base:Nat}{w:World}{F:Nat->Prop}{v:Value}{ps:List (List UInt8)}(h:aH RB 24 1 base w F v ps):∃ a c,v=.slice a ps.length c/\eQ w a c ps:=by
 obtain⟨a,c,rfl,h1,h2,h3,h4⟩:=h.form;refine⟨a,c,rfl,h2,h3,λe=>(h1 e).1,λi hi=>?_⟩;obtain⟨g,c',cs,e1,hR,hrg⟩:=h.elem cZ i ps[i] (List.getElem?_eq_getElem hi);cases e1;obtain⟨a',c'',rfl,harg,_⟩:=hR;refine⟨g,0,rfl,a',c'',?_,?_⟩
 ·have:=hrg 0 _ rfl;rw[Nat.mul_one,Nat.add_zero] at this;rw[Nat.zero_add,this];simp[List.getD_eq_getElem?_getD,hi]
 ·rw[show ps.getD i []=ps[i] by simp[List.getD_eq_getElem?_getD,hi]];exact harg
theorem Vp(R:Array Value)(hR:R.size=32)(W:World):(Instr.buildSlice 93 1 #[(0,.agg R)]).run Tryz.prog W=.ok (.slice (some ⟨W.heap.size,0,none⟩) 1 1) (W.alloc (.cells R 47)):=by
 have hP:(Tryz.prog.info? 47).map (λi=>(i.zero.map (·.cells.size),i.size,i.bytes))=some (some 32,32,32):=kX;obtain⟨ie,hie,h2⟩:=Option.map_eq_some_iff.1 hP;simp only[Prod.mk.injEq] at h2;obtain⟨hz,hs,hb⟩:=h2;obtain⟨z,hz1,hz2⟩:=Option.map_eq_some_iff.1 hz;refine run_buildSlice W _ _ 1 _ R ie z Tryz.underlying93 hie hz1 (by rw[hs];decide) (by rw[hs];decide) ?_;have h:=Go.Great.fill_whole (s:=32) dX [.agg R] ((Array.range (1*ie.size)).map (z.cells[· % z.cells.size]!)) (by simp[Value.cells,hR]) (by simp[hs]);simpa[hs,Value.cells] using h
theorem EB:(Tryz.prog.info? 47).map (λi=>(i.zero.map (·.cells.size),i.size,i.bytes))=some (some 32,32,32):=kX
def LK(w:World)(ps:List (List UInt8))(x:Ending)(w':World):Prop:=∃ v,x=.returned v/\aH RD 47 32 w.heap.size w' (λ_=>False) v (Y4 aM ps)/\Below w.heap.size w w'
theorem Df(ps:List (List UInt8))(hn:ps.length<=100000)(hl:∀ r∈ps,r.length<=1000)(a:Option Addr)(c:Nat)(w:World)(ha:eQ w a c ps)(hK:bP w)(hF:bZ w) :
  Calls Tryz.prog 100 #[.slice a ps.length c] w (LK w ps):=by
 have zr:=Qe;have zn:=ZH;have huA:Tryz.prog.underlying 47=some (.array 32 5):=Tryz.underlying47;have hz0:=heap_alloc_new w (.cells aG 47 (0,0));have hb0:Below w.heap.size w (w.alloc (.cells aG 47)):=bR.alloc nZ _;rw[Jv] at hz0;have hs0:w.heap.size<=(w.alloc (.cells aG 47)).heap.size:=hb0.size;rw[show w.alloc (.cells aG 47)=w.alloc (.cells (cB aM).toArray 47) by rw[Jv]] at hb0 hs0;have O3:∃ v,v=Value.slice none 0 0/\aH RD 47 32 w.heap.size (w.alloc (.cells (cB aM).toArray 47)) (λ_=>False) v ([]:List (List UInt8)):=⟨_,rfl,aH.nil _ _⟩;obtain⟨v0,hv0,hr0⟩:=O3;obtain⟨L,hL⟩:=aA ps.length;rw[<-hL];replace hL:=Hd hL;replace hz0:=Hd hz0;replace hb0:=Hd hb0;replace hr0:=Hd hr0;replace hv0:=Hd hv0;replace ha:=Hd ha;replace hK:=Hd hK;replace hF:=Hd hF;replace hl:=Hd hl;have hinfo:=Hd EB;go_enter Tryz.func100,Tryz.ntmps100;go_wp2_with fail;rw[show w.alloc (.cells aG 47)=w.alloc (.cells (cB aM).toArray 47) by rw[Jv]];refine ZG [(false,3),(true,1),(false,2),(true,1),(false,2),(true,12)] _ [] (λU wr=>∃ k:Nat,k<=L/\U 9=.int .i64 k/\aH RD 47 32 w.heap.size wr (λ_=>False) (U 3) (Y4 aM (ps.take k))/\(∀ j,(U 3).ownBlock=some j->j≠w.heap.size)/\wr.heap[w.heap.size]? = some (.cells (cB (Zi aM (ps.take k))).toArray 47 (0,0))/\Below w.heap.size w wr)
  (λU _=>L-(intOf (U 9)).toNat) ?_ ?_
 ·simp only[List.getD_cons_zero,List.getD_cons_succ];refine⟨0,Nat.zero_le _,rfl,?_,λj hj=>(by cases hj),hz0.out,hb0.out⟩;rw[<-hv0.out];exact hr0.out
 ·clear hz0 hb0 hr0 hv0 hs0;intro U wr hrel KK hback l' hl';obtain⟨k,hk,h9,hr,hvb,hhd,hbel⟩:=hrel;simp only[ZQ,ZM,cond_true,cond_false,Nat.reduceAdd,h9] at hl';generalize hv3:U 3=vo at*;subst hl';replace h9:=Hd h9;have hsz:=hbel.size;by_cases hlt:k<L
  ·have hlt2:(k:Int)<L:=aB;have hkl:k<ps.length:=by rw[<-hL.out];exact hlt
   have hab:=ha.out.below hbel;obtain⟨b,o,rfl,ai,ci,hc,hai⟩:=hab.row k hkl;have hgd:ps.getD k []=ps[k]:=by simp[List.getD_eq_getElem?_getD,hkl]
   rw[hgd] at hc hai;have O4:=hl.out ps[k] (List.getElem_mem hkl);have htk:ps.take (k+1)=ps.take k++[ps[k]]:=List.take_succ_eq_append_getElem hkl;have ze:(Zi aM (ps.take k)).length=32:=QE Ql _;have yO:(Zi aM (ps.take (k+1))).length=32:=QE Ql _;have hnl:Zi aM (ps.take (k+1))=ZF (Zi aM (ps.take k)) ps[k]:=by rw[htk,Xw]
   have Iw:Y4 aM (ps.take (k+1))=Y4 aM (ps.take k)++[Zi aM (ps.take (k+1))]:=by rw[hnl,htk,Ge]
   have hlen:(Y4 aM (ps.take k)).length<=1000000:=by rw[Xc,List.length_take];omega
   obtain⟨H,hH⟩:∃ H,H=(cB (Zi aM (ps.take k))).toArray:=⟨_,rfl⟩;obtain⟨N,hN⟩:∃ N,N=(cB (Zi aM (ps.take (k+1)))).toArray:=⟨_,rfl⟩;have hzH:(Tryz.prog.info? 47).map (·.size)=some H.size:=by rw[hH];exact Qi ze
   have Oy:(Tryz.prog.info? 47).map (·.size)=some N.size:=by rw[hN];exact Qi yO
   have zf:H.size=N.size:=by rw[hH,hN];simp[Zc,ze,yO]
   have hN1:N.all (·.oneCell')=true:=by rw[hN];exact U3 _
   have hsl:=Vp N (by rw[hN];simp[Zc,yO]);have zh:N.toList=cB (Zi aM (ps.take (k+1))):=by rw[hN]
   rw[<-hH] at hhd;have hnx:=VU (Zi aM (ps.take k)) ps[k] ze ai ci wr hai O4 (hK.out.below hbel) (hF.out.below hbel);rw[<-hH,<-hnl,<-hN] at hnx;generalize ps[k]=r at*;replace hnx:=Hd hnx;replace hhd:=Hd hhd;replace hr:=Hd hr;replace hbel:=Hd hbel;replace Iw:=Hd Iw;replace hnl:=Hd hnl;replace htk:=Hd htk;replace hH:=Hd hH;replace hN:=Hd hN;replace zf:=Hd zf;replace hvb:=Hd hvb;replace zh:=Hd zh;clear hab hgd;go_wp2_with (refine Ze rfl 47 (.tmp 4) rfl w.heap.size H _ rfl hhd huA rfl hzH ?_);with_reducible refine hnx.out.mono ?_
   rintro e w4 ⟨rfl,hb4⟩;clear hnx;have hs4:=hb4.size;have hz4:=Hd ((hb4.block _ (Zb hhd.out)).trans hhd.out);have mW:=Zb hhd.out;have hr4:=Hd (hr.out.below ZC hb4);have zi:=Hd (hbel.out.trans (hb4.mono hsz));clear hb4;have jw:∀ W,RD W (λ_=>False) (Zi aM (ps.take (k+1))) N.toList:=λW=>⟨yO,zh.out⟩;have zk:∀ w5,Hid (ag w.heap.size (.cells N 47 (0,0)) w4 w5)->Hid (aH RD 47 32 w.heap.size w5 (λ_=>False) vo (Y4 aM (ps.take k))):=λw5 hU=>Hd (hr4.out.only ZC (Only.ofUpd (D:=λj=>j=w.heap.size) hU.out rfl) (λ_ h=>False.elim h) (λj hj e=>hvb.out j hj e));have zl:∀ w5,Hid (ag w.heap.size (.cells N 47 (0,0)) w4 w5)->w5.heap.size=w4.heap.size:=λw5 hU=>hU.out.size;replace hsl:=Hd hsl;replace jw:=Hd jw;replace zk:=Hd zk;replace zl:=Hd zl;have hno:Hid (∀ j:Nat,False->False):=Hd (λ_ h=>h);go_wp2_with (first
    | (refine Zd rfl 47 (.tmp 4) (.tmp 15) rfl w.heap.size H N rfl rfl hz4 Oy zf.out hN1 ?_;intro w5 dG;have j3:Hid (w5.heap[w.heap.size]? = some (.cells N 47 (0,0))):=Hd dG.out.here;have fM:=zk.out w5 dG;have fA:=Hd (zl.out w5 dG);have O5:Hid (RD w5 (λ_=>False) (Zi aM (ps.take (k+1))) N.toList):=Hd (jw.out w5);have dR:Hid (∀ j,vo.ownBlock=some j->¬False):=Hd (λ_ _ h=>h);have hlf:Hid (∀ j:Nat,False->j<w5.heap.size):=Hd (λ_ h=>False.elim h);have gT:w.heap.size<=w5.heap.size:=by(rw[fA.out];omega))
    | (refine Ze rfl 47 (.tmp 4) rfl w.heap.size N _ rfl j3 huA rfl Oy ?_)
    | (refine wpList_plain rfl (λK hK=>?_);refine ZZ 93 1 (.tmp 17) rfl _ rfl _ _ (hsl.out _) (hK _ _ ?_);clear hK K)
    | (at_builtin;refine Qa (P:=Tryz.prog) (R:=RD) (e:=47) (size:=32) (base:=w.heap.size) (F:=λ_=>False) (F':=λ_=>False) rfl ZC (.tmp 16) (.tmp 18) 93 rfl Tryz.underlying93 32 hinfo.out dX rfl fM (Zi aM (ps.take (k+1))) N O5 hno dR hlf rfl hlen dX gT ?_;intro v6 w6 gL zV sH))
   refine hback.out _ _ kX ?_ ?_
   ·simp only[List.getD_cons_zero,List.getD_cons_succ];have hq:=fA.out;refine⟨k+1,aB,by go_num,by rw[Iw.out];exact gL.out,λj hj=>?_,?_,(zi.out.trans (dG.out.below nZ)).trans (zV.out.below gT (λj hj=>(fM.out.ownLt j hj).1))⟩
    ·rcases sH.out j hj with h|h
     ·exact hvb.out j h
     ·omega
    ·rw[<-hN.out];exact zV.out.heap j3.out (λe=>hvb.out _ e rfl)
   ·have h9:=h9.out;simp only[List.getD_cons_zero,List.getD_cons_succ,h9,intOf];omega
  ·obtain rfl:k=L:=aB;have htl:ps.take k=ps:=by rw[hL.out,List.take_length]
   rw[htl] at hr;replace hr:=Hd hr;replace hbel:=Hd hbel;clear hhd;go_wp2_with fail;go_ret;exact⟨vo,rfl,hr.out,hbel.out⟩
end Go.Proofs.YtpdhceiodgnbmaaGreatDoor
