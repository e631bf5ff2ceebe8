/- Walks over wire: Peek; Len, Count of no way; Long once more. (Printed by n24/on/genpeek.py.) -/
import Derived.Test.YtejkajlbffkdnaaDoorActs
namespace Go.Proofs.YtejkajlbffkdnaaDoor
open Go.RowKit

set_option maxHeartbeats 400000 in
theorem wlen_bad (W : Nat) (n : Int) (h0 : n ≠ 0) (h1 : n ≠ 1) (w : World) : Calls Tryd.prog 15 #[.pointer (some ⟨W, 0, none⟩), .int .i64 n] w fun e w' => e = .returned (.int .i64 0) ∧ w' = w := by
  have hr := Lib.hid (wrow_bad W n h0 h1 w)
  go_enter Tryd.func15, Tryd.ntmps15
  go_wp2_with fail
  with_reducible refine hr.out.mono ?_
  rintro x w2 ⟨rfl, hq⟩
  obtain rfl := hq.symm
  clear hq hr
  go_wp2_with fail
  go_ret
  exact ⟨rfl, rfl⟩
set_option maxHeartbeats 400000 in
theorem wcount_bad (W : Nat) (n : Int) (h0 : n ≠ 0) (h1 : n ≠ 1) (w : World) : Calls Tryd.prog 14 #[.pointer (some ⟨W, 0, none⟩), .int .i64 n] w fun e w' => e = .returned (.agg #[.int .i64 0, .int .i64 0, .int .i64 0]) ∧ Below w.heap.size w w' := by
  have hr := Lib.hid (fun w1 => wrow_bad W n h0 h1 w1)
  go_enter Tryd.func14, Tryd.ntmps14
  go_wp2_with fail
  with_reducible refine (hr.out _).mono ?_
  rintro x w2 ⟨rfl, hq⟩
  obtain rfl := hq.symm
  clear hq hr
  go_wp2_with fail
  refine ret_cell_row rfl rfl Tryd.underlying38 rfl (by kernel_rfl) (heap_alloc_new w _) ?_
  exact ⟨rfl, (Below.refl _ _).alloc (Nat.le_refl _) _⟩
set_option maxHeartbeats 400000 in
theorem wpeek_bad (W : Nat) (n i : Int) (h0 : n ≠ 0) (h1 : n ≠ 1) (w : World) (e : Nat → Addr) (hE : WErr w e) : Calls Tryd.prog 17 #[.pointer (some ⟨W, 0, none⟩), .int .i64 n, .int .i64 i] w fun x w' => x = .returned (.tuple #[.slice none 0 0, .iface 85 (.pointer (some (e 0)))]) ∧ Drawn w w' := by
  have hm := Lib.hid (wmsg_bad W n i h0 h1 w e hE)
  go_enter Tryd.func17, Tryd.ntmps17
  go_wp2_with fail
  with_reducible refine hm.out.mono ?_
  rintro x w2 ⟨rfl, hd⟩
  replace hd := Lib.hid hd
  go_wp2_with fail
  all_goals (try go_quiet (fail))
  all_goals (try go_wp2_with fail)
  go_ret2
  exact ⟨rfl, hd.out⟩
set_option maxRecDepth 100000 in
set_option maxHeartbeats 1000000 in
/-- What Long says: in the end false where there are few acts, and none is long. -/
theorem long2_any (a : Option Addr) (c : Nat) (xs : List ActV) (w : World) (h : ArgA w a xs) :
    Calls Tryd.prog 6 #[.slice a xs.length c] w fun e w' => ∃ r, e = .returned (.bool r) ∧ (r = false → xs.length ≤ 200 ∧ ∀ x ∈ xs, x.bs.length ≤ 8100) ∧ Below w.heap.size w w' := by
  by_cases hl : 200 < xs.length
  · have hl2 : (200 : Int) < xs.length := by omega
    go_enter Tryd.func6, Tryd.ntmps6
    go_wp2_with fail
    go_ret
    exact ⟨true, rfl, (fun h => by cases h), Below.refl _ _⟩
  · have hl2 : ¬ ((200 : Int) < xs.length) := by omega
    replace h := Lib.hid h
    obtain ⟨L, hL⟩ : ∃ L, L = xs.length := ⟨_, rfl⟩
    rw [← hL] at hl hl2 ⊢
    replace hL := Lib.hid hL
    go_enter Tryd.func6, Tryd.ntmps6
    go_wp2_with fail
    go_loopw [4, 11, 12, 13, 14, 15, 16, 17, 18, 10] (fun _ _ _ _ _ _ _ _ _ j wr => ∃ k : Nat, k ≤ L ∧ j = .int .i64 k ∧ Below w.heap.size w wr ∧ ∀ x ∈ xs.take k, x.bs.length ≤ 8100) (fun _ _ _ _ _ _ _ _ _ j _ => L - (intOf j).toNat)
    case atStart => exact ⟨0, Nat.zero_le _, rfl, Below.refl _ _, fun x hx => by simp at hx⟩
    case round =>
      obtain ⟨k, hk, rfl, hbel, hall⟩ := hrel
      have hsz := hbel.size
      by_cases hlt : k < L
      · obtain ⟨b, o, rfl, hat⟩ := (h.out.below hbel).row k (by rw [← hL.out]; exact hlt)
        have hlt2 : (k : Int) < L := by omega
        have htk : xs.take (k + 1) = xs.take k ++ [xs[k]'(by rw [← hL.out]; exact hlt)] := List.take_succ_eq_append_getElem (by rw [← hL.out]; exact hlt)
        obtain ⟨c0, c1, c2, c3, c4, c5, _⟩ := hat
        generalize xs[k]'(by rw [← hL.out]; exact hlt) = x at *
        replace hbel := Lib.hid hbel
        replace hall := Lib.hid hall
        replace htk := Lib.hid htk
        go_wp2_with fail
        · go_ret
          exact ⟨true, rfl, (fun h => by cases h), hbel.out.alloc hsz _⟩
        · rename_i hnot
          have hx8 : x.bs.length ≤ 8100 := by omega
          exact ⟨⟨k + 1, by omega, by go_num, hbel.out.alloc hsz _, fun x' hx' => by
            rw [htk.out] at hx'
            rcases List.mem_append.1 hx' with h1 | h1
            · exact hall.out x' h1
            · obtain rfl : x' = x := by simpa using h1
              exact hx8⟩, by simp [intOf]; omega⟩
      · obtain rfl : k = L := by omega
        replace hall := Lib.hid hall
        go_wp2_with fail
        go_ret
        refine ⟨false, rfl, (fun _ => ⟨by omega, ?_⟩), hbel⟩
        have := hall.out
        rw [List.take_of_length_le (by rw [← hL.out]; exact Nat.le_refl _)] at this
        exact this

set_option maxHeartbeats 400000 in
theorem wpeek_no0 (W : Nat) (i : Int) (a : Option Addr) (m c : Nat) (w : World) (h : w.cell? ⟨W, 3, none⟩ = some (.slice a m c)) (hi : i < 0 ∨ (m : Int) ≤ i) (e : Nat → Addr) (hE : WErr w e) : Calls Tryd.prog 17 #[.pointer (some ⟨W, 0, none⟩), .int .i64 0, .int .i64 i] w fun x w' => x = .returned (.tuple #[.slice none 0 0, .iface 85 (.pointer (some (e 1)))]) ∧ Drawn w w' := by
  have hm := Lib.hid (wmsg_no0 W i a m c w h hi e hE)
  clear hi
  go_enter Tryd.func17, Tryd.ntmps17
  go_wp2_with fail
  with_reducible refine hm.out.mono ?_
  rintro x w2 ⟨rfl, hd⟩
  replace hd := Lib.hid hd
  go_wp2_with fail
  all_goals (try go_quiet (fail))
  all_goals (try go_wp2_with fail)
  go_ret2
  exact ⟨rfl, hd.out⟩
set_option maxHeartbeats 1000000 in
theorem wpeek0 (base W i : Nat) (T : TypeId) (y z : Way) (w : World) (h : Wire base w W T y z) (hi : i < y.ms.length) :
    Calls Tryd.prog 17 #[.pointer (some ⟨W, 0, none⟩), .int .i64 0, .int .i64 i] w fun x w' => ∃ g c, x = .returned (.tuple #[.slice (some ⟨g, 0, none⟩) (y.ms[i]).bs.length c, .nilIface]) ∧ ArgB w' (some ⟨g, 0, none⟩) c (y.ms[i]).bs ∧ Below w.heap.size w w' := by
  have hok := h.ok0
  obtain ⟨g, cap, hv⟩ := hok.form1 (by omega)
  have hc3 : w.cell? ⟨W, 3, none⟩ = some (.slice (some ⟨g, 0, none⟩) y.ms.length cap) := by rw [h.c]; simp [wcells, hv]
  have hcm : w.cell? ⟨g, i, none⟩ = some (.slice (some ⟨(y.ms[i]).b, 0, none⟩) (y.ms[i]).bs.length (y.ms[i]).cap) := hok.cell hv i hi
  have hmsg := Lib.hid (wmsg_yes0 W i (some ⟨g, 0, none⟩) y.ms.length cap w hc3 hi)
  have hin : (i : Int) < y.ms.length := by omega
  obtain ⟨k1, k2, k3⟩ := hok.msg _ (List.getElem_mem hi)
  generalize (y.ms[i]) = m at *
  obtain ⟨mb, mc, bs⟩ := m
  simp only [encM] at k1 k2 k3 hcm ⊢
  have ham : ArgB w (some ⟨mb, 0, none⟩) mc bs := by
    obtain ⟨a3, c3, e3, ha3, _⟩ := OwnB.arg k3
    cases e3
    exact ha3
  have hcl := Lib.hid (clone_pos (some ⟨mb, 0, none⟩) mc bs w ham k1 (by omega))
  clear hok hv k1 k2 k3 ham h
  go_enter Tryd.func17, Tryd.ntmps17
  go_wp2_with fail
  with_reducible refine hmsg.out.mono ?_
  rintro e w2 ⟨rfl, hq⟩
  obtain rfl := hq.symm
  clear hmsg hq
  go_wp2_with fail
  with_reducible refine hcl.out.mono ?_
  rintro e w2 ⟨g2, c2, rfl, ho, hb⟩
  replace ho := Lib.hid ho
  replace hb := Lib.hid hb
  clear hcl hc3 hcm
  go_wp2_with fail
  go_ret2
  refine ⟨g2, c2, rfl, ?_, hb.out⟩
  obtain ⟨a3, c3, e3, ha3, _⟩ := OwnB.arg ho.out
  cases e3
  exact ha3

set_option maxHeartbeats 400000 in
theorem wpeek_no1 (W : Nat) (i : Int) (a : Option Addr) (m c : Nat) (w : World) (h : w.cell? ⟨W, 7, none⟩ = some (.slice a m c)) (hi : i < 0 ∨ (m : Int) ≤ i) (e : Nat → Addr) (hE : WErr w e) : Calls Tryd.prog 17 #[.pointer (some ⟨W, 0, none⟩), .int .i64 1, .int .i64 i] w fun x w' => x = .returned (.tuple #[.slice none 0 0, .iface 85 (.pointer (some (e 1)))]) ∧ Drawn w w' := by
  have hm := Lib.hid (wmsg_no1 W i a m c w h hi e hE)
  clear hi
  go_enter Tryd.func17, Tryd.ntmps17
  go_wp2_with fail
  with_reducible refine hm.out.mono ?_
  rintro x w2 ⟨rfl, hd⟩
  replace hd := Lib.hid hd
  go_wp2_with fail
  all_goals (try go_quiet (fail))
  all_goals (try go_wp2_with fail)
  go_ret2
  exact ⟨rfl, hd.out⟩
set_option maxHeartbeats 1000000 in
theorem wpeek1 (base W i : Nat) (T : TypeId) (y z : Way) (w : World) (h : Wire base w W T y z) (hi : i < z.ms.length) :
    Calls Tryd.prog 17 #[.pointer (some ⟨W, 0, none⟩), .int .i64 1, .int .i64 i] w fun x w' => ∃ g c, x = .returned (.tuple #[.slice (some ⟨g, 0, none⟩) (z.ms[i]).bs.length c, .nilIface]) ∧ ArgB w' (some ⟨g, 0, none⟩) c (z.ms[i]).bs ∧ Below w.heap.size w w' := by
  have hok := h.ok1
  obtain ⟨g, cap, hv⟩ := hok.form1 (by omega)
  have hc3 : w.cell? ⟨W, 7, none⟩ = some (.slice (some ⟨g, 0, none⟩) z.ms.length cap) := by rw [h.c]; simp [wcells, hv]
  have hcm : w.cell? ⟨g, i, none⟩ = some (.slice (some ⟨(z.ms[i]).b, 0, none⟩) (z.ms[i]).bs.length (z.ms[i]).cap) := hok.cell hv i hi
  have hmsg := Lib.hid (wmsg_yes1 W i (some ⟨g, 0, none⟩) z.ms.length cap w hc3 hi)
  have hin : (i : Int) < z.ms.length := by omega
  obtain ⟨k1, k2, k3⟩ := hok.msg _ (List.getElem_mem hi)
  generalize (z.ms[i]) = m at *
  obtain ⟨mb, mc, bs⟩ := m
  simp only [encM] at k1 k2 k3 hcm ⊢
  have ham : ArgB w (some ⟨mb, 0, none⟩) mc bs := by
    obtain ⟨a3, c3, e3, ha3, _⟩ := OwnB.arg k3
    cases e3
    exact ha3
  have hcl := Lib.hid (clone_pos (some ⟨mb, 0, none⟩) mc bs w ham k1 (by omega))
  clear hok hv k1 k2 k3 ham h
  go_enter Tryd.func17, Tryd.ntmps17
  go_wp2_with fail
  with_reducible refine hmsg.out.mono ?_
  rintro e w2 ⟨rfl, hq⟩
  obtain rfl := hq.symm
  clear hmsg hq
  go_wp2_with fail
  with_reducible refine hcl.out.mono ?_
  rintro e w2 ⟨g2, c2, rfl, ho, hb⟩
  replace ho := Lib.hid ho
  replace hb := Lib.hid hb
  clear hcl hc3 hcm
  go_wp2_with fail
  go_ret2
  refine ⟨g2, c2, rfl, ?_, hb.out⟩
  obtain ⟨a3, c3, e3, ha3, _⟩ := OwnB.arg ho.out
  cases e3
  exact ha3

end Go.Proofs.YtejkajlbffkdnaaDoor
