/- The walks over stream.of, Block, Number, Mask. -/
import Derived.Test.YtkenakcipdkdbaaDoorMakerB
import Derived.Test.YtkenakcipdkdbaaDoorRetTmp
namespace Go.Proofs.YtkenakcipdkdbaaDoor
open Go.RowKit

abbrev gRange : Nat := 1
abbrev gSize : Nat := 0

theorem ArgB.upd {W W' : World} {g c p : Nat} {o : Obj} {bs : List UInt8} (h : ArgB W (some ⟨g, 0, none⟩) c bs) (hu : Upd p o W W') (hne : g ≠ p) : ArgB W' (some ⟨g, 0, none⟩) c bs :=
  ⟨h.len, h.most, h.nil, fun i hi => by
    obtain ⟨b, off, e, hc⟩ := h.row i hi
    cases e
    refine ⟨g, 0, rfl, ?_⟩
    rw [← hc]
    exact World.cell?_of_block (a := ⟨g, 0 + i, none⟩) (hu.block g hne)⟩
theorem KeyAt.upd {W W' : World} {b p : Nat} {o : Obj} {key : List UInt8} {q : Option Addr} (h : KeyAt W b key) (hu : Upd p o W W') (hc : W.cell? ⟨p, 0, none⟩ = some (.pointer q)) : KeyAt W' b key := by
  obtain ⟨g1, g2, h1, h2, h3⟩ := h
  have hb : b ≠ p := by
    rintro rfl
    rw [cell_of_block h1] at hc
    cases hc
  have hg : ∀ g c l, ArgB W (some ⟨g, 0, none⟩) c l → 0 < l.length → g ≠ p := by
    rintro g c l ha hl rfl
    obtain ⟨b', off', e, hx⟩ := ha.row 0 hl
    cases e
    rw [Nat.zero_add, hc] at hx
    cases hx
  exact ⟨g1, g2, (hu.block b hb).trans h1, h2.upd hu (hg _ _ _ h2 (by rw [ipad_length]; omega)), h3.upd hu (hg _ _ _ h3 (by rw [opad_length]; omega))⟩

set_option maxRecDepth 10000 in
set_option maxHeartbeats 1000000 in
theorem of_ok (ak : Option Addr) (ck : Nat) (key : List UInt8) (n : Int) (w : World) (hk : ArgB w ak ck key) (hkl : key.length ≤ 10000) (hn : cntd n = true) (hK : ShaK w) (hF : ShaF w) :
    Calls Tryd.prog 23 #[.slice ak key.length ck, .int .i64 n] w fun e w' => ∃ b, e = .returned (.tuple #[.agg #[.pointer (some ⟨b, 0, none⟩)], .nilIface]) ∧ KeyAt w' b key ∧ Below w.heap.size w w' := by
  have hw0 : Below w.heap.size w (w.alloc (.cells #[.pointer none] 51)) := (Below.refl _ w).alloc (Nat.le_refl _) _
  have hmk := Lib.hid (macMake_any ak ck key _ (hk.below hw0) hkl (hK.below hw0) (hF.below hw0))
  have hrow := Lib.hid (heap_alloc_new w (.cells #[.pointer none] 51))
  replace hw0 := Lib.hid hw0
  clear hk hK hF
  go_enter Tryd.func23, Tryd.ntmps23
  go_wp2_with fail
  with_reducible refine (counted_any n _).mono ?_
  rintro e w1 ⟨rfl, rfl⟩
  rw [hn]
  replace hn := Lib.hid hn
  go_wp2_with fail
  with_reducible refine hmk.out.mono ?_
  rintro e w2 ⟨b, rfl, hkey, hb2⟩
  have hr2 := rowG hrow.out _ hb2
  have c2 : w2.cell? ⟨w.heap.size, 0, none⟩ = some (.pointer none) := by rw [cell_of_block hr2]; rfl
  have f2 : w2.frozen? ⟨w.heap.size, 0, none⟩ = false := free_of_block hr2 0
  have hu := ((Upd.refl hr2).setCell (j := 0) (.pointer (some ⟨b, 0, none⟩)))
  have hkey3 := Lib.hid (KeyAt.upd hkey hu c2)
  have hb3 := Lib.hid (hw0.out.trans (hb2.mono hw0.out.size))
  have hb4 := Lib.hid (hb3.out.setCell (p := ⟨w.heap.size, 0, none⟩) (Nat.le_refl _) (.pointer (some ⟨b, 0, none⟩)))
  have hrow3 := Lib.hid (hu.to (show _ = Obj.cells #[.pointer (some ⟨b, 0, none⟩)] 51 (0, 0) from rfl)).here
  clear hb2 hkey hu hr2
  go_wp2_with fail
  exact ret_cell_tmpB rfl rfl Tryd.underlying51 rfl (by kernel_rfl) hrow3.out ⟨b, rfl, hkey3.out, hb4.out⟩

set_option maxRecDepth 10000 in
set_option maxHeartbeats 1000000 in
theorem of_bad (a : Value) (n : Int) (w : World) (z : Addr) (hz : SentAt gRange w z) (hn : cntd n = false) :
    Calls Tryd.prog 23 #[a, .int .i64 n] w fun e w' => e = .returned (.tuple #[.agg #[.pointer none], .iface 108 (.pointer (some z))]) ∧ Below w.heap.size w w' := by
  have hw0 : Below w.heap.size w (w.alloc (.cells #[.pointer none] 51)) := (Below.refl _ w).alloc (Nat.le_refl _) _
  have hrow := heap_alloc_new w (.cells #[.pointer none] 51)
  have g0 := hz.below hw0
  unfold SentAt gRange at g0
  replace hw0 := Lib.hid hw0
  replace hz := Lib.hid hz
  go_enter Tryd.func23, Tryd.ntmps23
  go_wp2_with fail
  with_reducible refine (counted_any n _).mono ?_
  rintro e w1 ⟨rfl, rfl⟩
  rw [hn]
  replace hn := Lib.hid hn
  replace hrow := Lib.hid hrow
  go_wp2_with fail
  go_region
  all_goals
    go_wp2_with fail
    exact ret_cell_tmpB (W := (w.alloc (.cells #[.pointer none] 51)).drew) rfl rfl Tryd.underlying51 rfl (by kernel_rfl) hrow.out ⟨rfl, hw0.out.drew⟩

set_option maxRecDepth 10000 in
set_option maxHeartbeats 1000000 in
theorem sBlock_ok (ak : Option Addr) (ck : Nat) (key : List UInt8) (n : Int) (w : World) (hk : ArgB w ak ck key) (hkl : key.length ≤ 10000) (hn : cntd n = true) (hK : ShaK w) (hF : ShaF w) :
    Calls Tryd.prog 12 #[.slice ak key.length ck, .int .i64 n] w fun e w' => ∃ v, e = .returned (.tuple #[v, .nilIface]) ∧ OwnB w.heap.size w' v (blockB key n) ∧ Below w.heap.size w w' := by
  have hof := Lib.hid (of_ok ak ck key n w hk hkl hn hK hF)
  have hnr : 0 ≤ n ∧ n ≤ 1099511627776 := by simpa [cntd] using hn
  have hbl := Lib.hid (fun b W A B C => mkBlock_any b key n W A (by omega) (by omega) B C)
  replace hK := Lib.hid hK
  replace hF := Lib.hid hF
  replace hn := Lib.hid hn
  replace hnr := Lib.hid hnr
  generalize blockB key n = T at *
  go_enter Tryd.func12, Tryd.ntmps12
  go_wp2_with fail
  with_reducible refine hof.out.mono ?_
  rintro e w1 ⟨b, rfl, hkey, hb1⟩
  have hg := hb1.alloc hb1.size (.cells #[.pointer (some ⟨b, 0, none⟩)] 51)
  have hkey2 := Lib.hid (hkey.below ((Below.refl _ w1).alloc (Nat.le_refl _) (.cells #[.pointer (some ⟨b, 0, none⟩)] 51)))
  replace hg := Lib.hid hg
  clear hb1 hkey hof
  go_wp2_with fail
  with_reducible refine (hbl.out b _ hkey2.out (hK.out.below hg.out) (hF.out.below hg.out)).mono ?_
  rintro e w2 ⟨v, rfl, ho, hb2⟩
  have ho2 := Lib.hid (OwnB.mono (base' := w.heap.size) ho hg.out.size)
  have hb3 := Lib.hid (hg.out.trans (hb2.mono hg.out.size))
  clear ho hb2
  go_wp2_with fail
  go_ret2
  exact ⟨_, rfl, ho2.out, hb3.out⟩

set_option maxRecDepth 10000 in
set_option maxHeartbeats 1000000 in
theorem sBlock_bad (a : Value) (n : Int) (w : World) (z : Addr) (hz : SentAt gRange w z) (hn : cntd n = false) :
    Calls Tryd.prog 12 #[a, .int .i64 n] w fun e w' => e = .returned (.tuple #[.slice none 0 0, .iface 108 (.pointer (some z))]) ∧ Below w.heap.size w w' := by
  have hof := Lib.hid (of_bad a n w z hz hn)
  replace hn := Lib.hid hn
  replace hz := Lib.hid hz
  go_enter Tryd.func12, Tryd.ntmps12
  go_wp2_with fail
  with_reducible refine hof.out.mono ?_
  rintro e w1 ⟨rfl, hb1⟩
  have hg := Lib.hid (hb1.alloc hb1.size (.cells #[.pointer none] 51))
  clear hb1
  go_wp2_with fail
  go_ret2
  exact ⟨rfl, hg.out⟩

set_option maxRecDepth 10000 in
set_option maxHeartbeats 1000000 in
theorem sNumber_ok (ak : Option Addr) (ck : Nat) (key : List UInt8) (n : Int) (w : World) (hk : ArgB w ak ck key) (hkl : key.length ≤ 10000) (hn : cntd n = true) (hK : ShaK w) (hF : ShaF w) :
    Calls Tryd.prog 13 #[.slice ak key.length ck, .int .i64 n] w fun e w' => e = .returned (.tuple #[.int .u64 ((beNat (blockB key n) 8 : Nat) : Int), .nilIface]) ∧ Below w.heap.size w w' := by
  have hof := Lib.hid (of_ok ak ck key n w hk hkl hn hK hF)
  have hnr : 0 ≤ n ∧ n ≤ 1099511627776 := by simpa [cntd] using hn
  have hbl := Lib.hid (fun b W A B C => mkNumber_any b key n W A (by omega) (by omega) B C)
  replace hK := Lib.hid hK
  replace hF := Lib.hid hF
  replace hn := Lib.hid hn
  replace hnr := Lib.hid hnr
  generalize beNat (blockB key n) 8 = T at *
  go_enter Tryd.func13, Tryd.ntmps13
  go_wp2_with fail
  with_reducible refine hof.out.mono ?_
  rintro e w1 ⟨b, rfl, hkey, hb1⟩
  have hg := hb1.alloc hb1.size (.cells #[.pointer (some ⟨b, 0, none⟩)] 51)
  have hkey2 := Lib.hid (hkey.below ((Below.refl _ w1).alloc (Nat.le_refl _) (.cells #[.pointer (some ⟨b, 0, none⟩)] 51)))
  replace hg := Lib.hid hg
  clear hb1 hkey hof
  go_wp2_with fail
  with_reducible refine (hbl.out b _ hkey2.out (hK.out.below hg.out) (hF.out.below hg.out)).mono ?_
  rintro e w2 ⟨rfl, hb2⟩
  have hb3 := Lib.hid (hg.out.trans (hb2.mono hg.out.size))
  clear hb2
  go_wp2_with fail
  go_ret2
  exact ⟨rfl, hb3.out⟩

set_option maxRecDepth 10000 in
set_option maxHeartbeats 1000000 in
theorem sNumber_bad (a : Value) (n : Int) (w : World) (z : Addr) (hz : SentAt gRange w z) (hn : cntd n = false) :
    Calls Tryd.prog 13 #[a, .int .i64 n] w fun e w' => e = .returned (.tuple #[.int .u64 0, .iface 108 (.pointer (some z))]) ∧ Below w.heap.size w w' := by
  have hof := Lib.hid (of_bad a n w z hz hn)
  replace hn := Lib.hid hn
  replace hz := Lib.hid hz
  go_enter Tryd.func13, Tryd.ntmps13
  go_wp2_with fail
  with_reducible refine hof.out.mono ?_
  rintro e w1 ⟨rfl, hb1⟩
  have hg := Lib.hid (hb1.alloc hb1.size (.cells #[.pointer none] 51))
  clear hb1
  go_wp2_with fail
  go_ret2
  exact ⟨rfl, hg.out⟩

set_option maxRecDepth 10000 in
set_option maxHeartbeats 1000000 in
theorem sMask_ok (ak : Option Addr) (ck : Nat) (key : List UInt8) (n : Int) (a : Option Addr) (ca : Nat) (bs : List UInt8) (w : World) (hk : ArgB w ak ck key) (hkl : key.length ≤ 10000) (hn : cntd n = true) (hb : ArgB w a ca bs) (hl : bs.length = 8) (hK : ShaK w) (hF : ShaF w) :
    Calls Tryd.prog 14 #[.slice ak key.length ck, .int .i64 n, .slice a bs.length ca] w fun e w' => ∃ v, e = .returned (.tuple #[v, .nilIface]) ∧ OwnB w.heap.size w' v (maskB (blockB key n) bs) ∧ Below w.heap.size w w' := by
  have hof := Lib.hid (of_ok ak ck key n w hk hkl hn hK hF)
  have hnr : 0 ≤ n ∧ n ≤ 1099511627776 := by simpa [cntd] using hn
  have hbl := Lib.hid (fun b W A B C D => mkMask_any b key n a ca bs W A (by omega) (by omega) B hl C D)
  rw [hl]
  replace hl := Lib.hid hl
  replace hb := Lib.hid hb
  replace hK := Lib.hid hK
  replace hF := Lib.hid hF
  replace hn := Lib.hid hn
  replace hnr := Lib.hid hnr
  generalize maskB (blockB key n) bs = T at *
  go_enter Tryd.func14, Tryd.ntmps14
  go_wp2_with fail
  with_reducible refine hof.out.mono ?_
  rintro e w1 ⟨b, rfl, hkey, hb1⟩
  have hg := hb1.alloc hb1.size (.cells #[.pointer (some ⟨b, 0, none⟩)] 51)
  have hkey2 := Lib.hid (hkey.below ((Below.refl _ w1).alloc (Nat.le_refl _) (.cells #[.pointer (some ⟨b, 0, none⟩)] 51)))
  replace hg := Lib.hid hg
  clear hb1 hkey hof
  go_wp2_with fail
  with_reducible refine (hbl.out b _ hkey2.out (hb.out.below hg.out) (hK.out.below hg.out) (hF.out.below hg.out)).mono ?_
  rintro e w2 ⟨v, rfl, ho, hb2⟩
  have ho2 := Lib.hid (OwnB.mono (base' := w.heap.size) ho hg.out.size)
  have hb3 := Lib.hid (hg.out.trans (hb2.mono hg.out.size))
  clear ho hb2
  go_wp2_with fail
  go_ret2
  exact ⟨_, rfl, ho2.out, hb3.out⟩

set_option maxRecDepth 10000 in
set_option maxHeartbeats 1000000 in
theorem sMask_range (a : Value) (n : Int) (b : Option Addr) (cb : Nat) (w : World) (z : Addr) (hz : SentAt gRange w z) (hn : cntd n = false) :
    Calls Tryd.prog 14 #[a, .int .i64 n, .slice b 8 cb] w fun e w' => e = .returned (.tuple #[.slice none 0 0, .iface 108 (.pointer (some z))]) ∧ Below w.heap.size w w' := by
  have hof := Lib.hid (of_bad a n w z hz hn)
  replace hn := Lib.hid hn
  replace hz := Lib.hid hz
  go_enter Tryd.func14, Tryd.ntmps14
  go_wp2_with fail
  with_reducible refine hof.out.mono ?_
  rintro e w1 ⟨rfl, hb1⟩
  have hg := Lib.hid (hb1.alloc hb1.size (.cells #[.pointer none] 51))
  clear hb1
  go_wp2_with fail
  go_ret2
  exact ⟨rfl, hg.out⟩

set_option maxRecDepth 10000 in
set_option maxHeartbeats 1000000 in
theorem sMask_size (a : Value) (n : Int) (b : Option Addr) (L cb : Nat) (w : World) (z : Addr) (hz : SentAt gSize w z) (hL : L ≠ 8) :
    Calls Tryd.prog 14 #[a, .int .i64 n, .slice b L cb] w fun e w' => e = .returned (.tuple #[.slice none 0 0, .iface 108 (.pointer (some z))]) ∧ Below w.heap.size w w' := by
  have ht : ((L : Int) != 8) = true := by simp; omega
  have ht2 : ((L : Int) == 8) = false := by simp; omega
  have hg : ∀ n, (w.drewN n).cell? ⟨gSize, 0, none⟩ = some (.iface 108 (.pointer (some z))) := fun _ => hz
  have hg0 : w.cell? ⟨gSize, 0, none⟩ = some (.iface 108 (.pointer (some z))) := hz
  unfold gSize at hg hg0
  replace hL := Lib.hid hL
  replace hz := Lib.hid hz
  go_enter Tryd.func14, Tryd.ntmps14
  go_wp2_with fail
  go_quiet (fail)
  go_wp2_with fail
  go_ret2
  exact ⟨rfl, below_drewN (Below.refl _ _) _⟩

end Go.Proofs.YtkenakcipdkdbaaDoor
