/- Walks over wire: Bend, for both ways; the errors of Take, Drop, Double, Bend. (Printed by n24/on/genwire3.py.) -/
import Derived.Test.YtejkajlbffkdnaaDoorWire2
import Derived.Test.YtejkajlbffkdnaaDoorBitsN
namespace Go.Proofs.YtejkajlbffkdnaaDoor
open Go.RowKit

theorem xor_b8 (x y : UInt8) : bits BinOp.xor IntKind.u8 (x.toNat : Int) (y.toNat : Int) = ((x ^^^ y).toNat : Int) := by
  rw [u8_xor_nat _ _ x.toNat_lt y.toNat_lt, UInt8.toNat_xor]
/-- Which byte is bent. -/
def bendAt (at_ : Int) (n : Nat) : Nat := (if at_.tmod n < 0 then at_.tmod n + n else at_.tmod n).toNat

set_option maxHeartbeats 400000 in
theorem wtake_bad (W : Nat) (n i : Int) (h0 : n ≠ 0) (h1 : n ≠ 1) (w : World) (e : Nat → Addr) (hE : WErr w e) : Calls Tryd.prog 9 #[.pointer (some ⟨W, 0, none⟩), .int .i64 n, .int .i64 i] w fun x w' => x = .returned (.tuple #[.slice none 0 0, .iface 85 (.pointer (some (e 0)))]) ∧ Drawn w w' := by
  have hm := Lib.hid (wmsg_bad W n i h0 h1 w e hE)
  go_enter Tryd.func9, Tryd.ntmps9
  go_wp2_with fail
  with_reducible refine hm.out.mono ?_
  rintro x w2 ⟨rfl, hd⟩
  replace hd := Lib.hid hd
  go_wp2_with fail
  all_goals (try go_quiet (fail))
  all_goals (try go_wp2_with fail)
  go_ret2
  exact ⟨rfl, hd.out⟩

set_option maxHeartbeats 400000 in
theorem wtake_no0 (W : Nat) (i : Int) (a : Option Addr) (m c : Nat) (w : World) (h : w.cell? ⟨W, 3, none⟩ = some (.slice a m c)) (hi : i < 0 ∨ (m : Int) ≤ i) (e : Nat → Addr) (hE : WErr w e) : Calls Tryd.prog 9 #[.pointer (some ⟨W, 0, none⟩), .int .i64 0, .int .i64 i] w fun x w' => x = .returned (.tuple #[.slice none 0 0, .iface 85 (.pointer (some (e 1)))]) ∧ Drawn w w' := by
  have hm := Lib.hid (wmsg_no0 W i a m c w h hi e hE)
  clear hi
  go_enter Tryd.func9, Tryd.ntmps9
  go_wp2_with fail
  with_reducible refine hm.out.mono ?_
  rintro x w2 ⟨rfl, hd⟩
  replace hd := Lib.hid hd
  go_wp2_with fail
  all_goals (try go_quiet (fail))
  all_goals (try go_wp2_with fail)
  go_ret2
  exact ⟨rfl, hd.out⟩

set_option maxHeartbeats 400000 in
theorem wtake_no1 (W : Nat) (i : Int) (a : Option Addr) (m c : Nat) (w : World) (h : w.cell? ⟨W, 7, none⟩ = some (.slice a m c)) (hi : i < 0 ∨ (m : Int) ≤ i) (e : Nat → Addr) (hE : WErr w e) : Calls Tryd.prog 9 #[.pointer (some ⟨W, 0, none⟩), .int .i64 1, .int .i64 i] w fun x w' => x = .returned (.tuple #[.slice none 0 0, .iface 85 (.pointer (some (e 1)))]) ∧ Drawn w w' := by
  have hm := Lib.hid (wmsg_no1 W i a m c w h hi e hE)
  clear hi
  go_enter Tryd.func9, Tryd.ntmps9
  go_wp2_with fail
  with_reducible refine hm.out.mono ?_
  rintro x w2 ⟨rfl, hd⟩
  replace hd := Lib.hid hd
  go_wp2_with fail
  all_goals (try go_quiet (fail))
  all_goals (try go_wp2_with fail)
  go_ret2
  exact ⟨rfl, hd.out⟩

set_option maxHeartbeats 400000 in
theorem wdrop_bad (W : Nat) (n i : Int) (h0 : n ≠ 0) (h1 : n ≠ 1) (w : World) (e : Nat → Addr) (hE : WErr w e) : Calls Tryd.prog 10 #[.pointer (some ⟨W, 0, none⟩), .int .i64 n, .int .i64 i] w fun x w' => x = .returned (.iface 85 (.pointer (some (e 0)))) ∧ Drawn w w' := by
  have hm := Lib.hid (wmsg_bad W n i h0 h1 w e hE)
  go_enter Tryd.func10, Tryd.ntmps10
  go_wp2_with fail
  with_reducible refine hm.out.mono ?_
  rintro x w2 ⟨rfl, hd⟩
  replace hd := Lib.hid hd
  go_wp2_with fail
  all_goals (try go_quiet (fail))
  all_goals (try go_wp2_with fail)
  go_ret
  exact ⟨rfl, hd.out⟩

set_option maxHeartbeats 400000 in
theorem wdrop_no0 (W : Nat) (i : Int) (a : Option Addr) (m c : Nat) (w : World) (h : w.cell? ⟨W, 3, none⟩ = some (.slice a m c)) (hi : i < 0 ∨ (m : Int) ≤ i) (e : Nat → Addr) (hE : WErr w e) : Calls Tryd.prog 10 #[.pointer (some ⟨W, 0, none⟩), .int .i64 0, .int .i64 i] w fun x w' => x = .returned (.iface 85 (.pointer (some (e 1)))) ∧ Drawn w w' := by
  have hm := Lib.hid (wmsg_no0 W i a m c w h hi e hE)
  clear hi
  go_enter Tryd.func10, Tryd.ntmps10
  go_wp2_with fail
  with_reducible refine hm.out.mono ?_
  rintro x w2 ⟨rfl, hd⟩
  replace hd := Lib.hid hd
  go_wp2_with fail
  all_goals (try go_quiet (fail))
  all_goals (try go_wp2_with fail)
  go_ret
  exact ⟨rfl, hd.out⟩

set_option maxHeartbeats 400000 in
theorem wdrop_no1 (W : Nat) (i : Int) (a : Option Addr) (m c : Nat) (w : World) (h : w.cell? ⟨W, 7, none⟩ = some (.slice a m c)) (hi : i < 0 ∨ (m : Int) ≤ i) (e : Nat → Addr) (hE : WErr w e) : Calls Tryd.prog 10 #[.pointer (some ⟨W, 0, none⟩), .int .i64 1, .int .i64 i] w fun x w' => x = .returned (.iface 85 (.pointer (some (e 1)))) ∧ Drawn w w' := by
  have hm := Lib.hid (wmsg_no1 W i a m c w h hi e hE)
  clear hi
  go_enter Tryd.func10, Tryd.ntmps10
  go_wp2_with fail
  with_reducible refine hm.out.mono ?_
  rintro x w2 ⟨rfl, hd⟩
  replace hd := Lib.hid hd
  go_wp2_with fail
  all_goals (try go_quiet (fail))
  all_goals (try go_wp2_with fail)
  go_ret
  exact ⟨rfl, hd.out⟩

set_option maxHeartbeats 400000 in
theorem wdouble_bad (W : Nat) (n i : Int) (h0 : n ≠ 0) (h1 : n ≠ 1) (w : World) (e : Nat → Addr) (hE : WErr w e) : Calls Tryd.prog 11 #[.pointer (some ⟨W, 0, none⟩), .int .i64 n, .int .i64 i] w fun x w' => x = .returned (.iface 85 (.pointer (some (e 0)))) ∧ Drawn w w' := by
  have hm := Lib.hid (wmsg_bad W n i h0 h1 w e hE)
  go_enter Tryd.func11, Tryd.ntmps11
  go_wp2_with fail
  with_reducible refine hm.out.mono ?_
  rintro x w2 ⟨rfl, hd⟩
  replace hd := Lib.hid hd
  go_wp2_with fail
  all_goals (try go_quiet (fail))
  all_goals (try go_wp2_with fail)
  go_ret
  exact ⟨rfl, hd.out⟩

set_option maxHeartbeats 400000 in
theorem wdouble_no0 (W : Nat) (i : Int) (a : Option Addr) (m c : Nat) (w : World) (h : w.cell? ⟨W, 3, none⟩ = some (.slice a m c)) (hi : i < 0 ∨ (m : Int) ≤ i) (e : Nat → Addr) (hE : WErr w e) : Calls Tryd.prog 11 #[.pointer (some ⟨W, 0, none⟩), .int .i64 0, .int .i64 i] w fun x w' => x = .returned (.iface 85 (.pointer (some (e 1)))) ∧ Drawn w w' := by
  have hm := Lib.hid (wmsg_no0 W i a m c w h hi e hE)
  clear hi
  go_enter Tryd.func11, Tryd.ntmps11
  go_wp2_with fail
  with_reducible refine hm.out.mono ?_
  rintro x w2 ⟨rfl, hd⟩
  replace hd := Lib.hid hd
  go_wp2_with fail
  all_goals (try go_quiet (fail))
  all_goals (try go_wp2_with fail)
  go_ret
  exact ⟨rfl, hd.out⟩

set_option maxHeartbeats 400000 in
theorem wdouble_no1 (W : Nat) (i : Int) (a : Option Addr) (m c : Nat) (w : World) (h : w.cell? ⟨W, 7, none⟩ = some (.slice a m c)) (hi : i < 0 ∨ (m : Int) ≤ i) (e : Nat → Addr) (hE : WErr w e) : Calls Tryd.prog 11 #[.pointer (some ⟨W, 0, none⟩), .int .i64 1, .int .i64 i] w fun x w' => x = .returned (.iface 85 (.pointer (some (e 1)))) ∧ Drawn w w' := by
  have hm := Lib.hid (wmsg_no1 W i a m c w h hi e hE)
  clear hi
  go_enter Tryd.func11, Tryd.ntmps11
  go_wp2_with fail
  with_reducible refine hm.out.mono ?_
  rintro x w2 ⟨rfl, hd⟩
  replace hd := Lib.hid hd
  go_wp2_with fail
  all_goals (try go_quiet (fail))
  all_goals (try go_wp2_with fail)
  go_ret
  exact ⟨rfl, hd.out⟩

set_option maxHeartbeats 400000 in
theorem wbend_bad (W : Nat) (n i : Int) (at_ : Int) (by_ : UInt8) (h0 : n ≠ 0) (h1 : n ≠ 1) (w : World) (e : Nat → Addr) (hE : WErr w e) : Calls Tryd.prog 12 #[.pointer (some ⟨W, 0, none⟩), .int .i64 n, .int .i64 i, .int .i64 at_, .int .u8 (by_.toNat : Int)] w fun x w' => x = .returned (.iface 85 (.pointer (some (e 0)))) ∧ Drawn w w' := by
  have hm := Lib.hid (wmsg_bad W n i h0 h1 w e hE)
  go_enter Tryd.func12, Tryd.ntmps12
  go_wp2_with fail
  with_reducible refine hm.out.mono ?_
  rintro x w2 ⟨rfl, hd⟩
  replace hd := Lib.hid hd
  go_wp2_with fail
  all_goals (try go_quiet (fail))
  all_goals (try go_wp2_with fail)
  go_ret
  exact ⟨rfl, hd.out⟩

set_option maxHeartbeats 400000 in
theorem wbend_no0 (W : Nat) (i : Int) (at_ : Int) (by_ : UInt8) (a : Option Addr) (m c : Nat) (w : World) (h : w.cell? ⟨W, 3, none⟩ = some (.slice a m c)) (hi : i < 0 ∨ (m : Int) ≤ i) (e : Nat → Addr) (hE : WErr w e) : Calls Tryd.prog 12 #[.pointer (some ⟨W, 0, none⟩), .int .i64 0, .int .i64 i, .int .i64 at_, .int .u8 (by_.toNat : Int)] w fun x w' => x = .returned (.iface 85 (.pointer (some (e 1)))) ∧ Drawn w w' := by
  have hm := Lib.hid (wmsg_no0 W i a m c w h hi e hE)
  clear hi
  go_enter Tryd.func12, Tryd.ntmps12
  go_wp2_with fail
  with_reducible refine hm.out.mono ?_
  rintro x w2 ⟨rfl, hd⟩
  replace hd := Lib.hid hd
  go_wp2_with fail
  all_goals (try go_quiet (fail))
  all_goals (try go_wp2_with fail)
  go_ret
  exact ⟨rfl, hd.out⟩

set_option maxHeartbeats 400000 in
theorem wbend_no1 (W : Nat) (i : Int) (at_ : Int) (by_ : UInt8) (a : Option Addr) (m c : Nat) (w : World) (h : w.cell? ⟨W, 7, none⟩ = some (.slice a m c)) (hi : i < 0 ∨ (m : Int) ≤ i) (e : Nat → Addr) (hE : WErr w e) : Calls Tryd.prog 12 #[.pointer (some ⟨W, 0, none⟩), .int .i64 1, .int .i64 i, .int .i64 at_, .int .u8 (by_.toNat : Int)] w fun x w' => x = .returned (.iface 85 (.pointer (some (e 1)))) ∧ Drawn w w' := by
  have hm := Lib.hid (wmsg_no1 W i a m c w h hi e hE)
  clear hi
  go_enter Tryd.func12, Tryd.ntmps12
  go_wp2_with fail
  with_reducible refine hm.out.mono ?_
  rintro x w2 ⟨rfl, hd⟩
  replace hd := Lib.hid hd
  go_wp2_with fail
  all_goals (try go_quiet (fail))
  all_goals (try go_wp2_with fail)
  go_ret
  exact ⟨rfl, hd.out⟩

set_option maxHeartbeats 1000000 in
theorem wbend0 (base W i : Nat) (at_ : Int) (by_ : UInt8) (T : TypeId) (y z : Way) (w : World) (h : Wire base w W T y z) (hb : base ≤ w.heap.size) (hi : i < y.ms.length) (hl : y.ms.length ≤ 1000000) :
    Calls Tryd.prog 12 #[.pointer (some ⟨W, 0, none⟩), .int .i64 0, .int .i64 i, .int .i64 at_, .int .u8 (by_.toNat : Int)] w fun x w' => x = .returned .nilIface ∧ ∃ x', WStep base w w' W T y z x' z ∧ x'.i = y.i ∧ x'.o = y.o ∧ x'.l = y.l ∧ x'.ms = y.ms.set i ⟨(y.ms[i]).b, (y.ms[i]).cap, (y.ms[i]).bs.set (bendAt at_ (y.ms[i]).bs.length) (cf (y.ms[i]).bs (bendAt at_ (y.ms[i]).bs.length) ^^^ by_)⟩ := by
  have hok := h.ok0
  have hnW := h.n0
  obtain ⟨g, cap, hv⟩ := hok.form1 (by omega)
  have hat := h.at_
  have hc3 : w.cell? ⟨W, 3, none⟩ = some (.slice (some ⟨g, 0, none⟩) y.ms.length cap) := by rw [h.c]; simp [wcells, hv]
  have hcm : w.cell? ⟨g, i, none⟩ = some (.slice (some ⟨(y.ms[i]).b, 0, none⟩) (y.ms[i]).bs.length (y.ms[i]).cap) := hok.cell hv i hi
  have hmsg := Lib.hid (wmsg_yes0 W i (some ⟨g, 0, none⟩) y.ms.length cap w hc3 hi)
  have hin : (i : Int) < y.ms.length := by omega
  have hmem := List.getElem_mem hi
  obtain ⟨k1, k2, k3⟩ := hok.msg _ hmem
  have hbo := Lib.hid (bend_ok hok hi (k := bendAt at_ (y.ms[i]).bs.length) (cf (y.ms[i]).bs (bendAt at_ (y.ms[i]).bs.length) ^^^ by_) (W := W) y.i y.o y.l)
  have hbW : (y.ms[i]).b ≠ W := fun e => hnW (e ▸ mem_blks_m hmem)
  replace hbW := Lib.hid hbW
  replace h := Lib.hid h
  replace hat := Lib.hid hat
  replace hv := Lib.hid hv
  clear hok hnW hmem
  generalize y.ms[i] = m at *
  obtain ⟨mb, mcap, bs⟩ := m
  simp only at k1 k2 k3 hcm hbo hbW
  have hx := xor_b8 (cf bs (bendAt at_ bs.length)) by_
  have hkf : w.frozen? ⟨mb, bendAt at_ bs.length, none⟩ = false := OwnB.free k3 rfl _
  have hkc := fun (j : Nat) (hj : j < bs.length) => OwnB.cell k3 rfl hj
  generalize hL : bs.length = L at *
  have hne : ¬ ((L : Int) = 0) := by omega
  have htl : -(L : Int) < at_.tmod L ∧ at_.tmod L < L := ⟨by have := Int.lt_tmod_of_pos at_ (show (0 : Int) < L by omega); omega, Int.tmod_lt_of_pos at_ (by omega)⟩
  have hwt : IntKind.i64.wrap (at_.tmod L) = at_.tmod L := IntWalk.i64_in _ (by omega)
  by_cases hn : at_.tmod L < 0
  · have hk : bendAt at_ L < L ∧ at_.tmod L + L = (bendAt at_ L : Int) := by unfold bendAt; rw [if_pos hn]; omega
    obtain ⟨hk1, hk2⟩ := hk
    have hkc := hkc _ hk1
    have hwa : IntKind.i64.wrap (at_.tmod L + L) = (bendAt at_ L : Int) := by rw [hk2]; exact IntWalk.i64_in _ (by omega)
    have hk3 : (bendAt at_ L : Int) < L := by omega
    replace hL := Lib.hid hL
    clear hk2 k1 k2 k3
    generalize bendAt at_ L = k at *
    generalize cf bs k ^^^ by_ = c1 at *
    replace hx := Lib.hid hx
    clear htl
    go_enter Tryd.func12, Tryd.ntmps12
    go_wp2_with fail
    with_reducible refine hmsg.out.mono ?_
    rintro e w2 ⟨rfl, hq⟩
    obtain rfl := hq.symm
    clear hmsg hq
    go_wp2_with fail
    go_ret
    rw [hx.out]
    obtain ⟨hb1, hb2, hb3⟩ := hbo.out
    refine ⟨rfl, _, WStep.ofUpd0 h.out hb ⟨hb1, hb2, hb3⟩ ?_, rfl, rfl, rfl, rfl⟩
    exact (Only.heap (D := fun j => j = mb) ((Only.refl _ w).setCell _ _ fun _ => rfl) hat.out (fun e => hbW.out e.symm))
  · have hk : bendAt at_ L < L ∧ at_.tmod L = (bendAt at_ L : Int) := by unfold bendAt; rw [if_neg hn]; omega
    obtain ⟨hk1, hk2⟩ := hk
    have hkc := hkc _ hk1
    have hk3 : (bendAt at_ L : Int) < L := by omega
    have hk0 : ¬ ((bendAt at_ L : Int) < 0) := by omega
    replace hL := Lib.hid hL
    clear k1 k2 k3 hwt hn
    generalize bendAt at_ L = k at *
    generalize cf bs k ^^^ by_ = c1 at *
    replace hx := Lib.hid hx
    clear htl
    go_enter Tryd.func12, Tryd.ntmps12
    go_wp2_with fail
    with_reducible refine hmsg.out.mono ?_
    rintro e w2 ⟨rfl, hq⟩
    obtain rfl := hq.symm
    clear hmsg hq
    go_wp2_with fail
    go_ret
    rw [hx.out]
    obtain ⟨hb1, hb2, hb3⟩ := hbo.out
    refine ⟨rfl, _, WStep.ofUpd0 h.out hb ⟨hb1, hb2, hb3⟩ ?_, rfl, rfl, rfl, rfl⟩
    exact (Only.heap (D := fun j => j = mb) ((Only.refl _ w).setCell _ _ fun _ => rfl) hat.out (fun e => hbW.out e.symm))

set_option maxHeartbeats 1000000 in
theorem wbend1 (base W i : Nat) (at_ : Int) (by_ : UInt8) (T : TypeId) (y z : Way) (w : World) (h : Wire base w W T y z) (hb : base ≤ w.heap.size) (hi : i < z.ms.length) (hl : z.ms.length ≤ 1000000) :
    Calls Tryd.prog 12 #[.pointer (some ⟨W, 0, none⟩), .int .i64 1, .int .i64 i, .int .i64 at_, .int .u8 (by_.toNat : Int)] w fun x w' => x = .returned .nilIface ∧ ∃ x', WStep base w w' W T y z y x' ∧ x'.i = z.i ∧ x'.o = z.o ∧ x'.l = z.l ∧ x'.ms = z.ms.set i ⟨(z.ms[i]).b, (z.ms[i]).cap, (z.ms[i]).bs.set (bendAt at_ (z.ms[i]).bs.length) (cf (z.ms[i]).bs (bendAt at_ (z.ms[i]).bs.length) ^^^ by_)⟩ := by
  have hok := h.ok1
  have hnW := h.n1
  obtain ⟨g, cap, hv⟩ := hok.form1 (by omega)
  have hat := h.at_
  have hc3 : w.cell? ⟨W, 7, none⟩ = some (.slice (some ⟨g, 0, none⟩) z.ms.length cap) := by rw [h.c]; simp [wcells, hv]
  have hcm : w.cell? ⟨g, i, none⟩ = some (.slice (some ⟨(z.ms[i]).b, 0, none⟩) (z.ms[i]).bs.length (z.ms[i]).cap) := hok.cell hv i hi
  have hmsg := Lib.hid (wmsg_yes1 W i (some ⟨g, 0, none⟩) z.ms.length cap w hc3 hi)
  have hin : (i : Int) < z.ms.length := by omega
  have hmem := List.getElem_mem hi
  obtain ⟨k1, k2, k3⟩ := hok.msg _ hmem
  have hbo := Lib.hid (bend_ok hok hi (k := bendAt at_ (z.ms[i]).bs.length) (cf (z.ms[i]).bs (bendAt at_ (z.ms[i]).bs.length) ^^^ by_) (W := W) z.i z.o z.l)
  have hbW : (z.ms[i]).b ≠ W := fun e => hnW (e ▸ mem_blks_m hmem)
  replace hbW := Lib.hid hbW
  replace h := Lib.hid h
  replace hat := Lib.hid hat
  replace hv := Lib.hid hv
  clear hok hnW hmem
  generalize z.ms[i] = m at *
  obtain ⟨mb, mcap, bs⟩ := m
  simp only at k1 k2 k3 hcm hbo hbW
  have hx := xor_b8 (cf bs (bendAt at_ bs.length)) by_
  have hkf : w.frozen? ⟨mb, bendAt at_ bs.length, none⟩ = false := OwnB.free k3 rfl _
  have hkc := fun (j : Nat) (hj : j < bs.length) => OwnB.cell k3 rfl hj
  generalize hL : bs.length = L at *
  have hne : ¬ ((L : Int) = 0) := by omega
  have htl : -(L : Int) < at_.tmod L ∧ at_.tmod L < L := ⟨by have := Int.lt_tmod_of_pos at_ (show (0 : Int) < L by omega); omega, Int.tmod_lt_of_pos at_ (by omega)⟩
  have hwt : IntKind.i64.wrap (at_.tmod L) = at_.tmod L := IntWalk.i64_in _ (by omega)
  by_cases hn : at_.tmod L < 0
  · have hk : bendAt at_ L < L ∧ at_.tmod L + L = (bendAt at_ L : Int) := by unfold bendAt; rw [if_pos hn]; omega
    obtain ⟨hk1, hk2⟩ := hk
    have hkc := hkc _ hk1
    have hwa : IntKind.i64.wrap (at_.tmod L + L) = (bendAt at_ L : Int) := by rw [hk2]; exact IntWalk.i64_in _ (by omega)
    have hk3 : (bendAt at_ L : Int) < L := by omega
    replace hL := Lib.hid hL
    clear hk2 k1 k2 k3
    generalize bendAt at_ L = k at *
    generalize cf bs k ^^^ by_ = c1 at *
    replace hx := Lib.hid hx
    clear htl
    go_enter Tryd.func12, Tryd.ntmps12
    go_wp2_with fail
    with_reducible refine hmsg.out.mono ?_
    rintro e w2 ⟨rfl, hq⟩
    obtain rfl := hq.symm
    clear hmsg hq
    go_wp2_with fail
    go_ret
    rw [hx.out]
    obtain ⟨hb1, hb2, hb3⟩ := hbo.out
    refine ⟨rfl, _, WStep.ofUpd1 h.out hb ⟨hb1, hb2, hb3⟩ ?_, rfl, rfl, rfl, rfl⟩
    exact (Only.heap (D := fun j => j = mb) ((Only.refl _ w).setCell _ _ fun _ => rfl) hat.out (fun e => hbW.out e.symm))
  · have hk : bendAt at_ L < L ∧ at_.tmod L = (bendAt at_ L : Int) := by unfold bendAt; rw [if_neg hn]; omega
    obtain ⟨hk1, hk2⟩ := hk
    have hkc := hkc _ hk1
    have hk3 : (bendAt at_ L : Int) < L := by omega
    have hk0 : ¬ ((bendAt at_ L : Int) < 0) := by omega
    replace hL := Lib.hid hL
    clear k1 k2 k3 hwt hn
    generalize bendAt at_ L = k at *
    generalize cf bs k ^^^ by_ = c1 at *
    replace hx := Lib.hid hx
    clear htl
    go_enter Tryd.func12, Tryd.ntmps12
    go_wp2_with fail
    with_reducible refine hmsg.out.mono ?_
    rintro e w2 ⟨rfl, hq⟩
    obtain rfl := hq.symm
    clear hmsg hq
    go_wp2_with fail
    go_ret
    rw [hx.out]
    obtain ⟨hb1, hb2, hb3⟩ := hbo.out
    refine ⟨rfl, _, WStep.ofUpd1 h.out hb ⟨hb1, hb2, hb3⟩ ?_, rfl, rfl, rfl, rfl⟩
    exact (Only.heap (D := fun j => j = mb) ((Only.refl _ w).setCell _ _ fun _ => rfl) hat.out (fun e => hbW.out e.symm))

end Go.Proofs.YtejkajlbffkdnaaDoor
