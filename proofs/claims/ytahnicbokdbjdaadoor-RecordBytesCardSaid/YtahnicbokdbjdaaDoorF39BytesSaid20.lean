/- RNum20, RBytes0. -/
import Derived.Test.YtahnicbokdbjdaaDoorF9BytesSaid20
import Derived.Deep.LoopGhost
import Derived.Test.YtahnicbokdbjdaaDoorF30BytesSaid20
import Derived.Test.YtahnicbokdbjdaaDoorF25BytesSaid20
import Derived.Test.YtahnicbokdbjdaaDoorF22BytesSaid20
import Derived.Deep.AppendLies
/- The walk over baileeref09.Number (n10/XNumber's, without sha). -/
namespace Go.Proofs.YtahnicbokdbjdaaDoor
open Go.RowKit

set_option maxRecDepth 100000 in
set_option maxHeartbeats 1000000 in
theorem rnum_any (n : Int) (w : World) (h1 : -9223372036854775808 ≤ n) (h2 : n ≤ 9223372036854775807) :
    Calls Tryd.prog 23 #[.int .i64 n] w fun e w' => ∃ v, e = .returned v ∧ OwnB w.heap.size w' v (numB n) ∧ Below w.heap.size w w' := by
  obtain ⟨i0, hi, hz0, hz1, hz2⟩ := info_parts Tryd.infoByteP
  have hby := Lib.hid (numX_byte n)
  have hxs := Lib.hid (numX_succ n)
  have hset := Lib.hid (backTo_set n)
  have hb0 := Lib.hid (backTo_zero n)
  have hend := Lib.hid (backTo_end n)
  have hu : Hid (IntKind.u64.wrap n = ((numX n 0 : Nat) : Int)) := Lib.hid (by rw [numX_zero]; unfold numU; rw [IntKind.wrap_u64]; omega)
  have hxl := Lib.hid (numX_lt n)
  replace h1 := Lib.hid h1
  replace h2 := Lib.hid h2
  have hu2 := hu.out
  obtain ⟨x0, hx0⟩ : ∃ x, x = numX n 0 := ⟨_, rfl⟩
  rw [← hx0] at hu2
  replace hx0 := Lib.hid hx0
  clear hu
  go_enter Tryd.func23, Tryd.ntmps23
  go_wp2_with (at_make; go_must (refine wpList_make_full _ rfl _ _ 36 rfl w.heap.size 5 i0 (.int .u8 0) 1 Tryd.underlying36 hi hz0 hz1 _ _ _ _ 8 rfl rfl (by omega) (by omega) (by rw [hz2]; omega) (by unfold maxLen; omega) (Nat.le_refl _) ?_))
  intro w4 hown2 hg4
  have hO := Lib.hid (OwnB.made hown2)
  have hB := Lib.hid ((Below.refl w.heap.size w).grown hg4 (Nat.le_refl _) (fun k hk => by cases hk))
  clear hown2 hg4
  go_wp2_with fail
  clear hu2
  go_loopw [4, 5] (fun x j wr => ∃ r : Nat, r ≤ 8 ∧ j = .int .i64 (7 - (r : Int)) ∧ x = .int .u64 ((numX n r : Nat) : Int) ∧ OwnB w.heap.size wr (.slice (some ⟨w.heap.size, 0, none⟩) 8 8) (tab 8 (backTo n r)) ∧ Below w.heap.size w wr)
    (fun _ j _ => (intOf j + 8).toNat)
  case atStart => exact ⟨0, Nat.zero_le _, rfl, by rw [hx0.out], by rw [hb0.out]; exact hO.out, hB.out⟩
  case round =>
    clear hO hB
    obtain ⟨r, hr, rfl, rfl, hO, hB⟩ := hrel
    by_cases hlt : r < 8
    · have hc := hO.cell (by rw [tab_length]) (j := 7 - r) (by omega)
      have hf := hO.free (by rw [tab_length]) (7 - r)
      have hS := hO.set (by rw [tab_length]) (7 - r) (numByte n (7 - r))
      rw [hset.out r hlt] at hS
      replace hS := Lib.hid hS
      have e1 := hby.out r hlt
      have e2 : ((numX n r : Nat) : Int) / 256 = ((numX n (r + 1) : Nat) : Int) := by rw [hxs.out r]; omega
      have e3 : (7 - (r : Int)).toNat = 7 - r := by omega
      have e4 : (0 : Int) ≤ 7 - (r : Int) := by omega
      have e5 : (7 - (r : Int)) < 8 := by omega
      have hwy : Hid (IntKind.u64.wrap ((numX n (r + 1) : Nat) : Int) = ((numX n (r + 1) : Nat) : Int)) := Lib.hid (by have := numX_lt n (r + 1); rw [IntKind.wrap_u64]; omega)
      have hyd := Lib.hid (show numX n (r + 1) = numX n (r + 1) from rfl)
      have hb2 := Lib.hid (hB.setCell (p := ⟨w.heap.size, 7 - r, none⟩) (Nat.le_refl _) (.int .u8 ((numByte n (7 - r)).toNat : Int)))
      replace hO := Lib.hid hO
      replace hB := Lib.hid hB
      obtain ⟨y, hy⟩ : ∃ y, y = numX n (r + 1) := ⟨_, rfl⟩
      rw [← hy] at e2 hwy
      replace hy := Lib.hid hy
      generalize numX n r = x at *
      generalize numByte n (7 - r) = b at *
      clear hxl hby hxs hset hend hb0 h1 h2 hyd
      go_wp2_with fail
      exact ⟨⟨r + 1, by omega, by go_num, by rw [hwy.out, hy.out], hS.out, hb2.out⟩, by simp [intOf]; omega⟩
    · obtain rfl : r = 8 := by omega
      have hlt7 : ¬ (0 : Int) ≤ 7 - ((8 : Nat) : Int) := by omega
      rw [hend.out] at hO
      replace hO := Lib.hid hO
      replace hB := Lib.hid hB
      go_wp2_with fail
      go_ret
      exact ⟨_, rfl, hO.out, hB.out⟩

end Go.Proofs.YtahnicbokdbjdaaDoor
/- What the walks of baileeref20.Bytes stand on; its answer for a record that is not right. -/
namespace Go.Proofs.YtahnicbokdbjdaaDoor
open Go.RowKit

theorem argB_far {w w' : World} {g o c : Nat} {ys : List UInt8} {row : Option Nat} (h : ArgB w (some ⟨g, o, none⟩) c ys) (hg : w.grownBy w' row) (hlt : g < w.heap.size) (hne : some g ≠ row) : ArgB w' (some ⟨g, o, none⟩) c ys :=
  ⟨h.len, h.most, h.nil, fun i hi => by
    obtain ⟨b', o', e, hc⟩ := h.row i hi
    cases e
    exact ⟨_, _, rfl, (hg.cell_far _ hlt hne).trans hc⟩⟩
theorem ne_own {base g : Nat} {w : World} {v : Value} {bs : List UInt8} (h : OwnB base w v bs) (hg : w.heap.size ≤ g) : v.ownBlock ≠ some g := fun e => by
  have := h.lt _ e
  omega
def RBytesPost (x : Rc) (w : World) (e : Ending) (w2 : World) : Prop := ∃ v, e = .returned (.tuple #[v, .int .i64 0]) ∧ OwnB w.heap.size w2 v x.out ∧ Below w.heap.size w w2
theorem rcheck0 (x : Rc) (hx : x.Ok) (hc : x.chk = 0) (w : World) : Calls Tryd.prog 22 #[.agg x.list.toArray] w fun e w2 => e = .returned (.int .i64 0) ∧ Below w.heap.size w w2 := by
  have h := rcheck20_any x hx w
  rw [hc] at h
  exact h

set_option maxRecDepth 100000 in
set_option maxHeartbeats 1000000 in
theorem rbytes_bad (x : Rc) (hx : x.Ok) (hc : x.chk ≠ 0) (w : World) : Calls Tryd.prog 11 #[.agg x.list.toArray] w fun e w2 => e = .returned (.tuple #[.slice none 0 0, .int .i64 (x.chk : Int)]) ∧ Below w.heap.size w w2 := by
  have hs := Rc.size hx
  obtain ⟨N, hN⟩ : ∃ N : Int, N = (x.chk : Int) := ⟨_, rfl⟩
  have hNb : (N != 0) = true := by rw [hN]; simpa using hc
  have hck : ∀ W, Calls Tryd.prog 22 #[.agg x.list.toArray] W fun e w2 => e = .returned (.int .i64 N) ∧ Below W.heap.size W w2 := by
    rw [hN]
    exact fun W => rcheck20_any x hx W
  replace hck := Lib.hid hck
  rw [← hN]
  have hsz : (Tryd.prog.info? 34).map (·.size) = some x.list.toArray.size := by rw [hs]; kernel_rfl
  generalize hR : x.list.toArray = R at *
  have hrow := Lib.hid (heap_alloc_new w (.cells R 34))
  have hb := Lib.hid (show Below w.heap.size w (w.alloc (.cells R 34)) from (Below.refl _ _).alloc (Nat.le_refl _) _)
  have hzc := Tryd.underlying34
  clear hx hs hR hc hN
  go_enter Tryd.func11, Tryd.ntmps11
  go_wp2_with (with_reducible refine wpList_load_row rfl 34 (.tmp 1) rfl w.heap.size R _ rfl hrow hzc rfl hsz ?_)
  with_reducible refine (hck.out _).mono ?_
  rintro e w2 ⟨rfl, hnew⟩
  have hb2 := Lib.hid (hb.out.trans (hnew.mono hb.out.size))
  clear hnew
  go_wp2_with fail
  go_ret2
  exact ⟨rfl, hb2.out⟩
end Go.Proofs.YtahnicbokdbjdaaDoor
