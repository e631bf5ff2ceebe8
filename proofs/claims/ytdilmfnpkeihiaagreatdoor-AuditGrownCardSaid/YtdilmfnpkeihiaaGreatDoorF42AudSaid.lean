import Derived.Test.YtdilmfnpkeihiaaGreatDoorF0AudSaid
import Derived.Test.YtdilmfnpkeihiaaGreatDoorF2AudSaid
import Derived.Test.YtdilmfnpkeihiaaGreatDoorF41AudSaid
import Derived.Test.YtdilmfnpkeihiaaGreatDoorF36AudSaid
set_option linter.unusedVariables false
set_option linter.unusedSimpArgs false
set_option linter.unnecessarySimpa false
set_option maxRecDepth 100000
set_option maxHeartbeats 8000000
namespace Go.Proofs.YtdilmfnpkeihiaaGreatDoor
open Go.RowKit
def DgP(D:Array Value)(w:World)(e:Ending)(w':World):Prop:=e=.returned (.agg D)/\Below w.heap.size w w'
theorem QL(f:List UInt8)(h:f.length=32):32=(cB f).toArray.size:=by rw[List.size_toArray,Zc,h]
theorem K8(w:World)(hK:ShaK w)(hF:ShaF w):Calls Tryz.prog 49 #[.slice none 0 0] w (DgP (cB (sha [])).toArray w):=by
 have zr:=Zw
 have zn:=Z0
 obtain⟨A,hA1⟩:∃ A,A=w.alloc (.cells zero32 39):=⟨_,rfl⟩
 have hbA:Below w.heap.size w A:=by rw[hA1];exact(Below.refl _ w).alloc nR _
 have hsA:A.heap.size=w.heap.size+1:=by rw[hA1];simp
 have hatA:A.heap[w.heap.size]? = some (.cells zero32 39 (0,0)):=by rw[hA1];exact heap_alloc_new w _
 have hcA:∀ p v,w.cell? p=some v->(w.alloc (.cells zero32 39)).cell? p=some v:=λp v h=>by rw[<-hA1];exact(hbA.cell (World.block_lt_of_cell? w _ h)).trans h
 have hDf:∃ DD,DD=(cB (sha [])).toArray:=⟨_,rfl⟩
 obtain⟨DD,hDD⟩:=hDf
 have hDs:zero32.size=DD.size:=by rw[hDD,Zk];exact QL _ (Z5 _)
 have hDi:(Tryz.prog.info? 39).map (·.size)=some DD.size:=by rw[<-hDs,Zk];kernel_rfl
 have hDo:DD.all (·.oneCell')=true:=by rw[hDD];exact Qy (Zs _)
 rw[<-hDD]
 have hc:=Hd (show Calls Tryz.prog 59 #[.slice none 0 0] A (DgP DD A) from by rw[hDD];exact Xx A (hK.below hbA) (hF.below hbA))
 replace hA1:=Hd hA1
 replace hbA:=Hd hbA
 replace hatA:=Hd hatA
 replace hsA:=Hd hsA
 replace hDD:=Hd hDD
 clear hcA hK hF
 go_enter Tryz.func49,Tryz.ntmps49
 go_wp2_with fail
 rw[<-hA1.out]
 with_reducible refine hc.out.mono ?_
 rintro e w2 ⟨rfl,hb2⟩
 have hat2:=Hd ((hb2.block w.heap.size (by have:=hsA.out;omega)).trans hatA.out)
 have hB2:=Hd (hbA.out.trans (hb2.mono (by have:=hsA.out;omega)))
 clear hb2
 go_wp2_with (refine Zd rfl 39 (.tmp 2) (.tmp 9) rfl w.heap.size zero32 DD rfl rfl hat2 hDi hDs hDo ?_;intro w4 hU4)
 refine Zm rfl rfl Tryz.underlying39 rfl hDi hU4.out.here ?_
 exact⟨rfl,hB2.out.trans (hU4.out.below nR)⟩
theorem Gi(a:Option Addr)(c:Nat)(w:World)(hK:ShaK w)(hF:ShaF w):Calls Tryz.prog 33 #[.slice a 0 c] w (DgP (cB (sha [])).toArray w):=by
 have zr:=Zw
 have zn:=Z0
 obtain⟨A,hA1⟩:∃ A,A=w.alloc (.cells zero32 39):=⟨_,rfl⟩
 have hbA:Below w.heap.size w A:=by rw[hA1];exact(Below.refl _ w).alloc nR _
 have hsA:A.heap.size=w.heap.size+1:=by rw[hA1];simp
 have hatA:A.heap[w.heap.size]? = some (.cells zero32 39 (0,0)):=by rw[hA1];exact heap_alloc_new w _
 have hcA:∀ p v,w.cell? p=some v->(w.alloc (.cells zero32 39)).cell? p=some v:=λp v h=>by rw[<-hA1];exact(hbA.cell (World.block_lt_of_cell? w _ h)).trans h
 have hDf:∃ DD,DD=(cB (sha [])).toArray:=⟨_,rfl⟩
 obtain⟨DD,hDD⟩:=hDf
 have hDs:zero32.size=DD.size:=by rw[hDD,Zk];exact QL _ (Z5 _)
 have hDi:(Tryz.prog.info? 39).map (·.size)=some DD.size:=by rw[<-hDs,Zk];kernel_rfl
 have hDo:DD.all (·.oneCell')=true:=by rw[hDD];exact Qy (Zs _)
 rw[<-hDD]
 have hc:=Hd (show Calls Tryz.prog 49 #[.slice none 0 0] A (DgP DD A) from by rw[hDD];exact K8 A (hK.below hbA) (hF.below hbA))
 replace hA1:=Hd hA1
 replace hbA:=Hd hbA
 replace hatA:=Hd hatA
 replace hsA:=Hd hsA
 replace hDD:=Hd hDD
 clear hcA hK hF
 go_enter Tryz.func33,Tryz.ntmps33
 go_wp2_with fail
 rw[<-hA1.out]
 with_reducible refine(Uf a c A).mono ?_
 rintro e w2 ⟨rfl,rfl⟩
 go_wp2_with fail
 with_reducible refine hc.out.mono ?_
 rintro e w2 ⟨rfl,hb2⟩
 have hat2:=Hd ((hb2.block w.heap.size (by have:=hsA.out;omega)).trans hatA.out)
 have hB2:=Hd (hbA.out.trans (hb2.mono (by have:=hsA.out;omega)))
 clear hb2
 go_wp2_with (refine Zd rfl 39 (.tmp 2) (.tmp 5) rfl w.heap.size zero32 DD rfl rfl hat2 hDi hDs hDo ?_;intro w4 hU4)
 refine Zm rfl rfl Tryz.underlying39 rfl hDi hU4.out.here ?_
 exact⟨rfl,hB2.out.trans (hU4.out.below nR)⟩
theorem UF(f:Nat)(w:World)(h0:w.cell? ⟨f,0,none⟩=some (.int .i64 0))(hK:ShaK w)(hF:ShaF w):Calls Tryz.prog 51 #[.pointer (some ⟨f,0,none⟩)] w (DgP (cB (sha [])).toArray w):=by
 have zr:=Zw
 have zn:=Z0
 obtain⟨A,hA1⟩:∃ A,A=w.alloc (.cells zero32 39):=⟨_,rfl⟩
 have hbA:Below w.heap.size w A:=by rw[hA1];exact(Below.refl _ w).alloc nR _
 have hsA:A.heap.size=w.heap.size+1:=by rw[hA1];simp
 have hatA:A.heap[w.heap.size]? = some (.cells zero32 39 (0,0)):=by rw[hA1];exact heap_alloc_new w _
 have hcA:∀ p v,w.cell? p=some v->(w.alloc (.cells zero32 39)).cell? p=some v:=λp v h=>by rw[<-hA1];exact(hbA.cell (World.block_lt_of_cell? w _ h)).trans h
 have hDf:∃ DD,DD=(cB (sha [])).toArray:=⟨_,rfl⟩
 obtain⟨DD,hDD⟩:=hDf
 have hDs:zero32.size=DD.size:=by rw[hDD,Zk];exact QL _ (Z5 _)
 have hDi:(Tryz.prog.info? 39).map (·.size)=some DD.size:=by rw[<-hDs,Zk];kernel_rfl
 have hDo:DD.all (·.oneCell')=true:=by rw[hDD];exact Qy (Zs _)
 rw[<-hDD]
 have k0:=hcA _ _ h0
 have hc:=Hd (show Calls Tryz.prog 59 #[.slice none 0 0] A (DgP DD A) from by rw[hDD];exact Xx A (hK.below hbA) (hF.below hbA))
 replace hA1:=Hd hA1
 replace hbA:=Hd hbA
 replace hatA:=Hd hatA
 replace hsA:=Hd hsA
 replace hDD:=Hd hDD
 clear hcA hK hF h0
 go_enter Tryz.func51,Tryz.ntmps51
 go_wp2_with fail
 rw[<-hA1.out]
 with_reducible refine hc.out.mono ?_
 rintro e w2 ⟨rfl,hb2⟩
 have hat2:=Hd ((hb2.block w.heap.size (by have:=hsA.out;omega)).trans hatA.out)
 have hB2:=Hd (hbA.out.trans (hb2.mono (by have:=hsA.out;omega)))
 clear hb2
 go_wp2_with (refine Zd rfl 39 (.tmp 2) (.tmp 12) rfl w.heap.size zero32 DD rfl rfl hat2 hDi hDs hDo ?_;intro w4 hU4)
 refine Zm rfl rfl Tryz.underlying39 rfl hDi hU4.out.here ?_
 exact⟨rfl,hB2.out.trans (hU4.out.below nR)⟩
theorem UM{base:Nat}{w:World}{l:Nat}{V:LV}(h:LdM base w l V (LP.new 10))(hK:ShaK w)(hF:ShaF w):Calls Tryz.prog 34 #[.pointer (some ⟨l,0,none⟩)] w (DgP (cB (sha [])).toArray w):=by
 have zr:=Zw
 have zn:=Z0
 obtain⟨A,hA1⟩:∃ A,A=w.alloc (.cells zero32 39):=⟨_,rfl⟩
 have hbA:Below w.heap.size w A:=by rw[hA1];exact(Below.refl _ w).alloc nR _
 have hsA:A.heap.size=w.heap.size+1:=by rw[hA1];simp
 have hatA:A.heap[w.heap.size]? = some (.cells zero32 39 (0,0)):=by rw[hA1];exact heap_alloc_new w _
 have hcA:∀ p v,w.cell? p=some v->(w.alloc (.cells zero32 39)).cell? p=some v:=λp v h=>by rw[<-hA1];exact(hbA.cell (World.block_lt_of_cell? w _ h)).trans h
 have hDf:∃ DD,DD=(cB (sha [])).toArray:=⟨_,rfl⟩
 obtain⟨DD,hDD⟩:=hDf
 have hDs:zero32.size=DD.size:=by rw[hDD,Zk];exact QL _ (Z5 _)
 have hDi:(Tryz.prog.info? 39).map (·.size)=some DD.size:=by rw[<-hDs,Zk];kernel_rfl
 have hDo:DD.all (·.oneCell')=true:=by rw[hDD];exact Qy (Zs _)
 rw[<-hDD]
 have h3:=Za h.at_ 3
 replace h3:w.cell? ⟨l,3,none⟩=some (.pointer (some ⟨V.f,0,none⟩)):=h3
 have k3:=hcA _ _ h3
 have f0:=Za (h.below hbA).fr.at_ 0
 replace f0:A.cell? ⟨V.f,0,none⟩=some (.int .i64 0):=f0
 have hc:=Hd (show Calls Tryz.prog 51 #[.pointer (some ⟨V.f,0,none⟩)] A (DgP DD A) from by rw[hDD];exact UF V.f A f0 (hK.below hbA) (hF.below hbA))
 replace hA1:=Hd hA1
 replace hbA:=Hd hbA
 replace hatA:=Hd hatA
 replace hsA:=Hd hsA
 replace hDD:=Hd hDD
 clear hcA hK hF h h3 f0
 go_enter Tryz.func34,Tryz.ntmps34
 go_wp2_with fail
 rw[<-hA1.out]
 with_reducible refine hc.out.mono ?_
 rintro e w2 ⟨rfl,hb2⟩
 have hat2:=Hd ((hb2.block w.heap.size (by have:=hsA.out;omega)).trans hatA.out)
 have hB2:=Hd (hbA.out.trans (hb2.mono (by have:=hsA.out;omega)))
 clear hb2
 go_wp2_with (refine Zd rfl 39 (.tmp 2) (.tmp 7) rfl w.heap.size zero32 DD rfl rfl hat2 hDi hDs hDo ?_;intro w4 hU4)
 refine Zm rfl rfl Tryz.underlying39 rfl hDi hU4.out.here ?_
 exact⟨rfl,hB2.out.trans (hU4.out.below nR)⟩
theorem UT{base:Nat}{w:World}{J B:Nat}{rv:Value}{F:Nat->Prop}{sure:Nat}{dead:Bool}(h:JM base w J B rv F [] sure dead):Calls Tryz.prog 48 #[.pointer (some ⟨J,0,none⟩)] w (DgP (cB z32J).toArray w):=by
 have zr:=Zw
 have zn:=Z0
 obtain⟨A,hA1⟩:∃ A,A=w.alloc (.cells zero32 39):=⟨_,rfl⟩
 have hbA:Below w.heap.size w A:=by rw[hA1];exact(Below.refl _ w).alloc nR _
 have hsA:A.heap.size=w.heap.size+1:=by rw[hA1];simp
 have hatA:A.heap[w.heap.size]? = some (.cells zero32 39 (0,0)):=by rw[hA1];exact heap_alloc_new w _
 have hcA:∀ p v,w.cell? p=some v->(w.alloc (.cells zero32 39)).cell? p=some v:=λp v h=>by rw[<-hA1];exact(hbA.cell (World.block_lt_of_cell? w _ h)).trans h
 have hDf:∃ DD,DD=(cB z32J).toArray:=⟨_,rfl⟩
 obtain⟨DD,hDD⟩:=hDf
 have hDs:zero32.size=DD.size:=by rw[hDD,Zk];exact QL _ Zv
 have hDi:(Tryz.prog.info? 39).map (·.size)=some DD.size:=by rw[<-hDs,Zk];kernel_rfl
 have hDo:DD.all (·.oneCell')=true:=by rw[hDD];exact Qy (Zs _)
 rw[<-hDD]
 have hr:=Hd (show A.rangeAt J 2 (cB z32J) from(Zl h.head hbA nR))
 have il:(Tryz.prog.info? 39).map (·.size)=some (cB z32J).length:=by rw[Zc,Zv];kernel_rfl
 replace hA1:=Hd hA1
 replace hbA:=Hd hbA
 replace hatA:=Hd hatA
 replace hsA:=Hd hsA
 replace hDD:=Hd hDD
 clear hcA h
 go_enter Tryz.func48,Tryz.ntmps48
 go_wp2_with (first
  | (rw[<-hA1.out];refine wpList_load_mid rfl 39 (.tmp 5) rfl J 2 rfl (cB z32J) _ hr.out Tryz.underlying39 rfl il ?_;rw[<-hDD.out])
  | (refine Zd rfl 39 (.tmp 2) (.tmp 6) rfl w.heap.size zero32 DD rfl rfl hatA hDi hDs hDo ?_;intro w4 hU4))
 refine Zm rfl rfl Tryz.underlying39 rfl hDi hU4.out.here ?_
 exact⟨rfl,hbA.out.trans (hU4.out.below nR)⟩
theorem UD{base:Nat}{w:World}{l:Nat}{V:LV}(h:LdM base w l V (LP.new 10)):Calls Tryz.prog 32 #[.pointer (some ⟨l,0,none⟩)] w (DgP (cB z32J).toArray w):=by
 have zr:=Zw
 have zn:=Z0
 obtain⟨A,hA1⟩:∃ A,A=w.alloc (.cells zero32 39):=⟨_,rfl⟩
 have hbA:Below w.heap.size w A:=by rw[hA1];exact(Below.refl _ w).alloc nR _
 have hsA:A.heap.size=w.heap.size+1:=by rw[hA1];simp
 have hatA:A.heap[w.heap.size]? = some (.cells zero32 39 (0,0)):=by rw[hA1];exact heap_alloc_new w _
 have hcA:∀ p v,w.cell? p=some v->(w.alloc (.cells zero32 39)).cell? p=some v:=λp v h=>by rw[<-hA1];exact(hbA.cell (World.block_lt_of_cell? w _ h)).trans h
 have hDf:∃ DD,DD=(cB z32J).toArray:=⟨_,rfl⟩
 obtain⟨DD,hDD⟩:=hDf
 have hDs:zero32.size=DD.size:=by rw[hDD,Zk];exact QL _ Zv
 have hDi:(Tryz.prog.info? 39).map (·.size)=some DD.size:=by rw[<-hDs,Zk];kernel_rfl
 have hDo:DD.all (·.oneCell')=true:=by rw[hDD];exact Qy (Zs _)
 rw[<-hDD]
 have h3:=Za h.at_ 0
 replace h3:w.cell? ⟨l,0,none⟩=some (.pointer (some ⟨V.J,0,none⟩)):=h3
 have k3:=hcA _ _ h3
 have hc:=Hd (show Calls Tryz.prog 48 #[.pointer (some ⟨V.J,0,none⟩)] A (DgP DD A) from by rw[hDD];exact UT (h.below hbA).jd.jm)
 replace hA1:=Hd hA1
 replace hbA:=Hd hbA
 replace hatA:=Hd hatA
 replace hsA:=Hd hsA
 replace hDD:=Hd hDD
 clear hcA h h3
 go_enter Tryz.func32,Tryz.ntmps32
 go_wp2_with fail
 rw[<-hA1.out]
 with_reducible refine hc.out.mono ?_
 rintro e w2 ⟨rfl,hb2⟩
 have hat2:=Hd ((hb2.block w.heap.size (by have:=hsA.out;omega)).trans hatA.out)
 have hB2:=Hd (hbA.out.trans (hb2.mono (by have:=hsA.out;omega)))
 clear hb2
 go_wp2_with (refine Zd rfl 39 (.tmp 2) (.tmp 7) rfl w.heap.size zero32 DD rfl rfl hat2 hDi hDs hDo ?_;intro w4 hU4)
 refine Zm rfl rfl Tryz.underlying39 rfl hDi hU4.out.here ?_
 exact⟨rfl,hB2.out.trans (hU4.out.below nR)⟩
end Go.Proofs.YtdilmfnpkeihiaaGreatDoor
