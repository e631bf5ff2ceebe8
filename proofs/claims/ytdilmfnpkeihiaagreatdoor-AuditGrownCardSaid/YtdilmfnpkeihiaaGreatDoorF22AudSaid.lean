import Derived.Test.YtdilmfnpkeihiaaGreatDoorF0AudSaid
import Derived.Test.YtdilmfnpkeihiaaGreatDoorF2AudSaid
import Derived.Test.YtdilmfnpkeihiaaGreatDoorF21AudSaid
set_option linter.unusedVariables false
set_option linter.unusedSimpArgs false
set_option linter.unnecessarySimpa false
set_option maxRecDepth 100000
set_option maxHeartbeats 8000000
namespace Go.Proofs.YtdilmfnpkeihiaaGreatDoor
open Go.RowKit
structure ArgBB (w:World) (a:Option Addr) (cap:Nat) (ps:List (List UInt8)):Prop where
 len:ps.length<=cap
 most:cap<=maxLen
 nil:a=none->cap=0
 row:∀ i,i<ps.length->∃ b off,a=some ⟨b,off,none⟩/\∃ ai ci,w.cell? ⟨b,off+i,none⟩=some (.slice ai (ps.getD i []).length ci)/\ArgB w ai ci (ps.getD i [])
theorem ArgBB.below{w w':World}{a:Option Addr}{cap:Nat}{ps:List (List UInt8)}(h:ArgBB w a cap ps)(hb:Below w.heap.size w w'):ArgBB w' a cap ps:=
 ⟨h.len,h.most,h.nil,λi hi=>by
  obtain⟨b,off,e,ai,ci,hc,hr⟩:=h.row i hi
  exact⟨b,off,e,ai,ci,(hb.cell (World.block_lt_of_cell? w _ hc)).trans hc,hr.below hb⟩⟩
theorem QF(ps:List (List UInt8))(i:Nat)(h:i<ps.length):(ps.take (i+1)).flatten=(ps.take i).flatten++ps.getD i []:=by
 rw[List.take_add_one,List.flatten_append]
 simp[List.getD_eq_getElem?_getD,h]
theorem Qo(ps:List (List UInt8))(i:Nat):(ps.take i).flatten.length<=ps.flatten.length:=by
 conv=>rhs;rw[<-List.take_append_drop i ps]
 rw[List.flatten_append,List.length_append]
 omega
theorem GH(ps:List (List UInt8))(i:Nat):(ps.getD i []).length<=ps.flatten.length:=by
 by_cases h:i<ps.length
 ·have h1:=QF ps i h
  have h2:=Qo ps (i+1)
  rw[h1,List.length_append] at h2
  omega
 ·rw[List.getD_eq_getElem?_getD,List.getElem?_eq_none oX]
  exact Nat.zero_le _
theorem Jf(a:Option Addr)(ca:Nat)(ps:List (List UInt8))(w:World)(h:ArgBB w a ca ps)(hl:ps.flatten.length<=100000)(hn:ps.length<=100000)(hK:ShaK w)(hF:ShaF w) :
  Calls Tryz.prog 59 #[.slice a ps.length ca] w λe w'=>e=.returned (.agg (cB (sha ps.flatten)).toArray)/\Below w.heap.size w w':=by
 have zr:=Zw
 have zn:=Z0
 obtain⟨A,hA⟩:∃ A,A=w.alloc (.cells zero32 39):=⟨_,rfl⟩
 have hbA:Below w.heap.size w A:=by rw[hA];exact(Below.refl _ w).alloc nR _
 have hsA:A.heap.size=w.heap.size+1:=by rw[hA];simp
 have hzA:A.heap[w.heap.size]? = some (.cells zero32 39 (0,0)):=by rw[hA];exact heap_alloc_new w _
 have hnew:=Hd (Gm A (hF.below hbA))
 have hKA:=Hd (hK.below hbA)
 have hPA:=Hd (h.below hbA)
 replace hbA:=Hd hbA
 replace hsA:=Hd hsA
 replace hzA:=Hd hzA
 replace hA:=Hd hA
 clear hF hK h
 go_enter Tryz.func59,Tryz.ntmps59
 go_wp2_with fail
 rw[<-hA.out]
 with_reducible refine hnew.out.mono ?_
 rintro e w1 ⟨rfl,hH⟩
 replace hH:=Hd hH
 obtain⟨b,hb⟩:∃ b,b=A.heap.size:=⟨_,rfl⟩
 rw[<-hb] at hH ⊢
 replace hb:=Hd hb
 go_wp2_with fail
 go_loopw [5,9] (λ_ j wr=>∃ i:Nat,i<=ps.length/\j=.int .i64 i/\YI A b (ps.take i).flatten wr)
  (λ_ j _=>ps.length-(intOf j).toNat)
 case atStart=>exact⟨0,Nat.zero_le _,rfl,hH.out⟩
 case round=>
  clear hH
  obtain⟨i,hi,rfl,hH⟩:=hrel
  have hH0:=hH
  obtain⟨_,_,_,hHat,_,_⟩:=hH0
  have hBel:=hHat.bel
  clear hHat
  replace hH:=Hd hH
  by_cases hlt:i<ps.length
  ·obtain⟨pb,po,rfl,ai,ci,hc,hr⟩:=hPA.out.row i hlt
   replace hc:=(hBel.cell (World.block_lt_of_cell? A _ hc)).trans hc
   have hput:=Hd (GK A b (ps.take i).flatten ai ci (ps.getD i []) wr hH.out hr hKA.out (by have:=Qo ps i;omega) (by have:=GH ps i;omega))
   have hnx:=Hd (QF ps i hlt)
   have hil:(i:Int)<ps.length:=oX
   replace hr:=Hd hr
   generalize ps.getD i []=pi at*
   go_wp2_with fail
   with_reducible refine hput.out.mono ?_
   rintro e w2 ⟨rfl,hH2⟩
   replace hH2:=Hd hH2
   go_wp2_with fail
   go_roundw
   case rel=>exact⟨i+1,oX,by go_num,by rw[hnx.out];exact hH2.out⟩
   case measure=>simp[intOf];omega
  ·obtain rfl:i=ps.length:=oX
   have hsum:=Hd (GE A b (ps.take ps.length).flatten wr hH.out hKA.out (by have:=Qo ps ps.length;omega))
   rw[List.take_length] at hsum
   have hszS:(Tryz.prog.info? 39).map (·.size)=some (cB (sha ps.flatten)).toArray.size:=by rw[List.size_toArray,Zc,Z5];kernel_rfl
   have hsZ:zero32.size=(cB (sha ps.flatten)).toArray.size:=by rw[Zk,List.size_toArray,Zc,Z5]
   have hone:(cB (sha ps.flatten)).toArray.all (·.oneCell')=true:=by
    rw[List.all_toArray,List.all_eq_true]
    exact Zs _
   have hu1:Tryz.prog.underlying 39=some (.array 32 5):=Tryz.underlying39
   generalize hDD:(cB (sha ps.flatten)).toArray=DD at*
   replace hDD:=Hd hDD
   replace hBel:=Hd hBel
   go_wp2_with fail
   with_reducible refine hsum.out.mono ?_
   rintro e w3 ⟨rfl,hd⟩
   have hb3:=Hd (hBel.out.trans (hd.mono hBel.out.size))
   have hres:=Hd ((hb3.out.block _ (by rw[hsA.out];omega)).trans hzA.out)
   replace hd:=Hd hd
   go_wp2_with (with_reducible refine Zd rfl 39 (.tmp 2) (.tmp 18) rfl w.heap.size zero32 DD rfl rfl hres hszS hsZ hone ?_)
   intro w9 hU9
   go_wp2_with fail
   refine Zm rfl rfl hu1 rfl hszS hU9.out.here ⟨by rw[hDD.out],?_⟩
   exact hbA.out.trans ((hb3.out.mono hbA.out.size).trans (hU9.out.below nR))
end Go.Proofs.YtdilmfnpkeihiaaGreatDoor
