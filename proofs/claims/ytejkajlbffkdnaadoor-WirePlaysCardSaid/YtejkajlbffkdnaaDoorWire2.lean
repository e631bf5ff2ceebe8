/- Walks over wire: cut, Take, Drop, Bend, for both ways. (Printed by n24/on/genwire2.py.) -/
import Derived.Test.YtejkajlbffkdnaaDoorWire1
import Derived.Test.YtejkajlbffkdnaaDoorWire2L
namespace Go.Proofs.YtejkajlbffkdnaaDoor
open Go.RowKit

/-- The numbers of a way are small. -/
structure Small (y : Way) : Prop where
  i : 0 ≤ y.i ∧ y.i ≤ 1000000
  o : 0 ≤ y.o ∧ y.o ≤ 1000000
  l : 0 ≤ y.l ∧ y.l ≤ 1000000
theorem erase_apart {ms : List Msg} {i : Nat} {m : Msg} (hnd : (ms.map (·.b)).Nodup) (hi : i < ms.length) (hm : m ∈ ms.eraseIdx i) (e : m.b = (ms[i]).b) : False := by
  obtain ⟨j, hj, hji, rfl⟩ := (List.mem_eraseIdx_iff_getElem).1 hm
  have h1 : (ms.map (·.b))[j]? = (ms.map (·.b))[i]? := by simp [hi, hj, e]
  exact hji ((List.getElem?_inj (by simpa using hj) hnd).1 h1)

/-! ### Way 0 -/
set_option maxHeartbeats 400000 in
theorem wcut0 (W g cap i : Nat) (ms : List Msg) (cs : Array Value) (T : TypeId) (base : Nat) (w : World) (hat : w.heap[W]? = some (.cells cs T (0, 0))) (hc : cs[3]? = some (.slice (some ⟨g, 0, none⟩) ms.length cap))
    (hown : w.ownsRow base 27 1 (.slice (some ⟨g, 0, none⟩) ms.length cap) ms.length (ms.map encM)) (hgW : g ≠ W) (hi : i < ms.length) (hl : ms.length ≤ 1000000) :
    Calls Tryd.prog 22 #[.pointer (some ⟨W, 0, none⟩), .int .i64 i] w fun e w' => e = .returned (.tuple #[]) ∧ ∃ w1, w1.ownsRow base 27 1 (.slice (some ⟨g, 0, none⟩) (ms.length - 1) cap) (ms.eraseIdx i).length ((ms.eraseIdx i).map encM) ∧ w.grownBy w1 (some g) ∧ w' = w1.setCell ⟨W, 3, none⟩ (.slice (some ⟨g, 0, none⟩) (ms.length - 1) cap) := by
  have hc0 : w.cell? ⟨W, 3, none⟩ = some (.slice (some ⟨g, 0, none⟩) ms.length cap) := by rw [cell_of_block hat]; exact hc
  have hw : IntKind.i64.wrap ((i : Int) + 1) = ((i + 1 : Nat) : Int) := by rw [IntWalk.i64_in _ (by omega)]; rfl
  have hd := Lib.hid (wdel_any g cap ms i base w hown hi)
  have hWl := block_lt hat
  replace hat := Lib.hid hat
  replace hc := Lib.hid hc
  clear hown hi
  generalize ms.length = n at *
  generalize ((i + 1 : Nat) : Int) = j at *
  go_enter Tryd.func22, Tryd.ntmps22
  go_wp2_with fail
  with_reducible refine hd.out.mono ?_
  rintro e w1 ⟨rfl, ho1, hg1⟩
  have hat1 := (hg1.block W hWl (fun e => hgW (by cases e; rfl))).trans hat.out
  have hc1 : w1.cell? ⟨W, 3, none⟩ = some (.slice (some ⟨g, 0, none⟩) n cap) := by rw [cell_of_block hat1]; exact hc.out
  have hf1 : w1.frozen? ⟨W, 3, none⟩ = false := free_of_block hat1 _
  replace hat1 := Lib.hid hat1
  replace ho1 := Lib.hid ho1
  replace hg1 := Lib.hid hg1
  clear hd
  go_wp2_with fail
  go_end0
  exact ⟨rfl, w1, ho1.out, hg1.out, rfl⟩

/-! ### Way 1 -/
set_option maxHeartbeats 400000 in
theorem wcut1 (W g cap i : Nat) (ms : List Msg) (cs : Array Value) (T : TypeId) (base : Nat) (w : World) (hat : w.heap[W]? = some (.cells cs T (0, 0))) (hc : cs[7]? = some (.slice (some ⟨g, 0, none⟩) ms.length cap))
    (hown : w.ownsRow base 27 1 (.slice (some ⟨g, 0, none⟩) ms.length cap) ms.length (ms.map encM)) (hgW : g ≠ W) (hi : i < ms.length) (hl : ms.length ≤ 1000000) :
    Calls Tryd.prog 22 #[.pointer (some ⟨W, 4, none⟩), .int .i64 i] w fun e w' => e = .returned (.tuple #[]) ∧ ∃ w1, w1.ownsRow base 27 1 (.slice (some ⟨g, 0, none⟩) (ms.length - 1) cap) (ms.eraseIdx i).length ((ms.eraseIdx i).map encM) ∧ w.grownBy w1 (some g) ∧ w' = w1.setCell ⟨W, 7, none⟩ (.slice (some ⟨g, 0, none⟩) (ms.length - 1) cap) := by
  have hc0 : w.cell? ⟨W, 7, none⟩ = some (.slice (some ⟨g, 0, none⟩) ms.length cap) := by rw [cell_of_block hat]; exact hc
  have hw : IntKind.i64.wrap ((i : Int) + 1) = ((i + 1 : Nat) : Int) := by rw [IntWalk.i64_in _ (by omega)]; rfl
  have hd := Lib.hid (wdel_any g cap ms i base w hown hi)
  have hWl := block_lt hat
  replace hat := Lib.hid hat
  replace hc := Lib.hid hc
  clear hown hi
  generalize ms.length = n at *
  generalize ((i + 1 : Nat) : Int) = j at *
  go_enter Tryd.func22, Tryd.ntmps22
  go_wp2_with fail
  with_reducible refine hd.out.mono ?_
  rintro e w1 ⟨rfl, ho1, hg1⟩
  have hat1 := (hg1.block W hWl (fun e => hgW (by cases e; rfl))).trans hat.out
  have hc1 : w1.cell? ⟨W, 7, none⟩ = some (.slice (some ⟨g, 0, none⟩) n cap) := by rw [cell_of_block hat1]; exact hc.out
  have hf1 : w1.frozen? ⟨W, 7, none⟩ = false := free_of_block hat1 _
  replace hat1 := Lib.hid hat1
  replace ho1 := Lib.hid ho1
  replace hg1 := Lib.hid hg1
  clear hd
  go_wp2_with fail
  go_end0
  exact ⟨rfl, w1, ho1.out, hg1.out, rfl⟩

set_option maxHeartbeats 1000000 in
theorem wtake0 (base W i : Nat) (T : TypeId) (y z : Way) (w : World) (h : Wire base w W T y z) (hb : base ≤ w.heap.size) (hs : Small y) (hi : i < y.ms.length) (hl : y.ms.length ≤ 1000000) :
    Calls Tryd.prog 9 #[.pointer (some ⟨W, 0, none⟩), .int .i64 0, .int .i64 i] w fun x w' => x = .returned (.tuple #[encM y.ms[i], .nilIface]) ∧ ∃ x', WStep base w w' W T y z x' z ∧ x'.i = y.i ∧ x'.o = y.o + 1 ∧ x'.l = y.l  ∧ x'.ms = y.ms.eraseIdx i ∧ OwnB base w' (encM y.ms[i]) (y.ms[i]).bs ∧ ¬ Wire.D W x' z (y.ms[i]).b := by
  have hok := h.ok0
  have hnW := h.n0
  obtain ⟨g, cap, hv⟩ := hok.form1 (by omega)
  have hgb := mem_blks_v hv
  have hgW : g ≠ W := fun e => hnW (e ▸ hgb)
  have hown := hok.own
  rw [hv] at hown
  have hat := h.at_
  have hWl := block_lt hat
  have hc3 : w.cell? ⟨W, 3, none⟩ = some (.slice (some ⟨g, 0, none⟩) y.ms.length cap) := by rw [h.c]; simp [wcells, hv]
  have hcm : w.cell? ⟨g, i, none⟩ = some (.slice (some ⟨(y.ms[i]).b, 0, none⟩) (y.ms[i]).bs.length (y.ms[i]).cap) := hok.cell hv i hi
  have hmsg := Lib.hid (wmsg_yes0 W i (some ⟨g, 0, none⟩) y.ms.length cap w hc3 hi)
  have hcut := Lib.hid (wcut0 W g cap i y.ms (wcells y z) T base w hat (by simp [wcells, hv]) hown hgW hi hl)
  have hin : (i : Int) < y.ms.length := by omega
  have hwr : IntKind.i64.wrap (y.o + 1) = y.o + 1 := IntWalk.i64_in _ (by have := hs.o; omega)
  have hmem := List.getElem_mem hi
  obtain ⟨k1, k2, k3⟩ := hok.msg _ hmem
  have hap := hok.apart hmem (k := g) (by rw [hv]; rfl)
  have hbW : (y.ms[i]).b ≠ W := fun e => hnW (e ▸ mem_blks_m hmem)
  replace hap := Lib.hid hap
  replace hbW := Lib.hid hbW
  replace k3 := Lib.hid k3
  replace hok := Lib.hid hok
  replace h := Lib.hid h
  replace hnW := Lib.hid hnW
  replace hgb := Lib.hid hgb
  replace hat := Lib.hid hat
  replace hv := Lib.hid hv
  replace hs := Lib.hid hs
  replace hmem := Lib.hid hmem
  clear hown k1 k2
  go_enter Tryd.func9, Tryd.ntmps9
  go_wp2_with fail
  with_reducible refine hmsg.out.mono ?_
  rintro e w2 ⟨rfl, hq⟩
  obtain rfl := hq.symm
  clear hmsg hq
  go_wp2_with fail
  with_reducible refine hcut.out.mono ?_
  rintro e w' ⟨rfl, w1, ho1, hg1, rfl⟩
  have hat1 := (hg1.block W hWl (fun e => hgW (by cases e; rfl))).trans hat.out
  have hc1 : w1.cell? ⟨W, 1, none⟩ = some (.int .i64 y.o) := by rw [cell_of_block hat1]; rfl
  have hf1 : w1.frozen? ⟨W, 1, none⟩ = false := free_of_block hat1 _
  replace hat1 := Lib.hid hat1
  replace ho1 := Lib.hid ho1
  replace hg1 := Lib.hid hg1
  clear hcut hc3 hcm
  go_wp2_with fail
  go_ret2
  have hU := ((Upd.refl hat1.out).setCell (j := 3) (.slice (some ⟨g, 0, none⟩) (y.ms.length - 1) cap)).setCell (j := 1) (.int .i64 (y.o + 1))
  have hO : Only (fun k => k = W) w1 _ := Only.ofUpd hU rfl
  have hco := cut_ok hok.out hv.out ho1.out hg1.out hO hnW.out y.i (y.o + 1) y.l
  have hOn : Only (fun k => k = W ∨ k = g) w _ := (Only.ofGrown (D := fun k => k = W ∨ k = g) hg1.out (fun k hk => .inr (by cases hk; rfl))).trans hO fun k _ hk => .inl hk
  have hst := WStep.ofUpd0 h.out hb hco (hU.to rfl).here
  refine ⟨rfl, _, hst, rfl, rfl, rfl, rfl, hOn.owns k3.out fun k hk => ?_, ?_⟩
  · obtain rfl : (y.ms[i]).b = k := by simpa [encM, Value.ownBlock] using hk
    rintro (e | e)
    · exact hbW.out e
    · exact hap.out e
  · have hnd := hok.out.nd
    unfold Way.blks at hnd
    rw [hv.out] at hnd
    have hnd2 := (List.nodup_append.1 hnd).2.1
    rintro (e | hm | hm)
    · exact hbW.out e
    · simp only [Way.blks, Value.ownBlock, Option.toList_some, List.mem_append, List.mem_singleton, List.mem_map] at hm
      rcases hm with e | ⟨m', hm', e⟩
      · exact hap.out e
      · exact erase_apart hnd2 hi hm' e
    · exact h.out.dj _ (mem_blks_m hmem.out) hm

set_option maxHeartbeats 1000000 in
theorem wdrop0 (base W i : Nat) (T : TypeId) (y z : Way) (w : World) (h : Wire base w W T y z) (hb : base ≤ w.heap.size) (hs : Small y) (hi : i < y.ms.length) (hl : y.ms.length ≤ 1000000) :
    Calls Tryd.prog 10 #[.pointer (some ⟨W, 0, none⟩), .int .i64 0, .int .i64 i] w fun x w' => x = .returned .nilIface ∧ ∃ x', WStep base w w' W T y z x' z ∧ x'.i = y.i ∧ x'.o = y.o  ∧ x'.l = y.l + 1 ∧ x'.ms = y.ms.eraseIdx i ∧ OwnB base w' (encM y.ms[i]) (y.ms[i]).bs ∧ ¬ Wire.D W x' z (y.ms[i]).b := by
  have hok := h.ok0
  have hnW := h.n0
  obtain ⟨g, cap, hv⟩ := hok.form1 (by omega)
  have hgb := mem_blks_v hv
  have hgW : g ≠ W := fun e => hnW (e ▸ hgb)
  have hown := hok.own
  rw [hv] at hown
  have hat := h.at_
  have hWl := block_lt hat
  have hc3 : w.cell? ⟨W, 3, none⟩ = some (.slice (some ⟨g, 0, none⟩) y.ms.length cap) := by rw [h.c]; simp [wcells, hv]
  have hcm : w.cell? ⟨g, i, none⟩ = some (.slice (some ⟨(y.ms[i]).b, 0, none⟩) (y.ms[i]).bs.length (y.ms[i]).cap) := hok.cell hv i hi
  have hmsg := Lib.hid (wmsg_yes0 W i (some ⟨g, 0, none⟩) y.ms.length cap w hc3 hi)
  have hcut := Lib.hid (wcut0 W g cap i y.ms (wcells y z) T base w hat (by simp [wcells, hv]) hown hgW hi hl)
  have hin : (i : Int) < y.ms.length := by omega
  have hwr : IntKind.i64.wrap (y.l + 1) = y.l + 1 := IntWalk.i64_in _ (by have := hs.l; omega)
  have hmem := List.getElem_mem hi
  obtain ⟨k1, k2, k3⟩ := hok.msg _ hmem
  have hap := hok.apart hmem (k := g) (by rw [hv]; rfl)
  have hbW : (y.ms[i]).b ≠ W := fun e => hnW (e ▸ mem_blks_m hmem)
  replace hap := Lib.hid hap
  replace hbW := Lib.hid hbW
  replace k3 := Lib.hid k3
  replace hok := Lib.hid hok
  replace h := Lib.hid h
  replace hnW := Lib.hid hnW
  replace hgb := Lib.hid hgb
  replace hat := Lib.hid hat
  replace hv := Lib.hid hv
  replace hs := Lib.hid hs
  replace hmem := Lib.hid hmem
  clear hown k1 k2
  go_enter Tryd.func10, Tryd.ntmps10
  go_wp2_with fail
  with_reducible refine hmsg.out.mono ?_
  rintro e w2 ⟨rfl, hq⟩
  obtain rfl := hq.symm
  clear hmsg hq
  go_wp2_with fail
  with_reducible refine hcut.out.mono ?_
  rintro e w' ⟨rfl, w1, ho1, hg1, rfl⟩
  have hat1 := (hg1.block W hWl (fun e => hgW (by cases e; rfl))).trans hat.out
  have hc1 : w1.cell? ⟨W, 2, none⟩ = some (.int .i64 y.l) := by rw [cell_of_block hat1]; rfl
  have hf1 : w1.frozen? ⟨W, 2, none⟩ = false := free_of_block hat1 _
  replace hat1 := Lib.hid hat1
  replace ho1 := Lib.hid ho1
  replace hg1 := Lib.hid hg1
  clear hcut hc3 hcm
  go_wp2_with fail
  go_ret
  have hU := ((Upd.refl hat1.out).setCell (j := 3) (.slice (some ⟨g, 0, none⟩) (y.ms.length - 1) cap)).setCell (j := 2) (.int .i64 (y.l + 1))
  have hO : Only (fun k => k = W) w1 _ := Only.ofUpd hU rfl
  have hco := cut_ok hok.out hv.out ho1.out hg1.out hO hnW.out y.i y.o (y.l + 1)
  have hOn : Only (fun k => k = W ∨ k = g) w _ := (Only.ofGrown (D := fun k => k = W ∨ k = g) hg1.out (fun k hk => .inr (by cases hk; rfl))).trans hO fun k _ hk => .inl hk
  have hst := WStep.ofUpd0 h.out hb hco (hU.to rfl).here
  refine ⟨rfl, _, hst, rfl, rfl, rfl, rfl, hOn.owns k3.out fun k hk => ?_, ?_⟩
  · obtain rfl : (y.ms[i]).b = k := by simpa [encM, Value.ownBlock] using hk
    rintro (e | e)
    · exact hbW.out e
    · exact hap.out e
  · have hnd := hok.out.nd
    unfold Way.blks at hnd
    rw [hv.out] at hnd
    have hnd2 := (List.nodup_append.1 hnd).2.1
    rintro (e | hm | hm)
    · exact hbW.out e
    · simp only [Way.blks, Value.ownBlock, Option.toList_some, List.mem_append, List.mem_singleton, List.mem_map] at hm
      rcases hm with e | ⟨m', hm', e⟩
      · exact hap.out e
      · exact erase_apart hnd2 hi hm' e
    · exact h.out.dj _ (mem_blks_m hmem.out) hm

set_option maxHeartbeats 1000000 in
theorem wtake1 (base W i : Nat) (T : TypeId) (y z : Way) (w : World) (h : Wire base w W T y z) (hb : base ≤ w.heap.size) (hs : Small z) (hi : i < z.ms.length) (hl : z.ms.length ≤ 1000000) :
    Calls Tryd.prog 9 #[.pointer (some ⟨W, 0, none⟩), .int .i64 1, .int .i64 i] w fun x w' => x = .returned (.tuple #[encM z.ms[i], .nilIface]) ∧ ∃ x', WStep base w w' W T y z y x' ∧ x'.i = z.i ∧ x'.o = z.o + 1 ∧ x'.l = z.l  ∧ x'.ms = z.ms.eraseIdx i ∧ OwnB base w' (encM z.ms[i]) (z.ms[i]).bs ∧ ¬ Wire.D W y x' (z.ms[i]).b := by
  have hok := h.ok1
  have hnW := h.n1
  obtain ⟨g, cap, hv⟩ := hok.form1 (by omega)
  have hgb := mem_blks_v hv
  have hgW : g ≠ W := fun e => hnW (e ▸ hgb)
  have hown := hok.own
  rw [hv] at hown
  have hat := h.at_
  have hWl := block_lt hat
  have hc3 : w.cell? ⟨W, 7, none⟩ = some (.slice (some ⟨g, 0, none⟩) z.ms.length cap) := by rw [h.c]; simp [wcells, hv]
  have hcm : w.cell? ⟨g, i, none⟩ = some (.slice (some ⟨(z.ms[i]).b, 0, none⟩) (z.ms[i]).bs.length (z.ms[i]).cap) := hok.cell hv i hi
  have hmsg := Lib.hid (wmsg_yes1 W i (some ⟨g, 0, none⟩) z.ms.length cap w hc3 hi)
  have hcut := Lib.hid (wcut1 W g cap i z.ms (wcells y z) T base w hat (by simp [wcells, hv]) hown hgW hi hl)
  have hin : (i : Int) < z.ms.length := by omega
  have hwr : IntKind.i64.wrap (z.o + 1) = z.o + 1 := IntWalk.i64_in _ (by have := hs.o; omega)
  have hmem := List.getElem_mem hi
  obtain ⟨k1, k2, k3⟩ := hok.msg _ hmem
  have hap := hok.apart hmem (k := g) (by rw [hv]; rfl)
  have hbW : (z.ms[i]).b ≠ W := fun e => hnW (e ▸ mem_blks_m hmem)
  replace hap := Lib.hid hap
  replace hbW := Lib.hid hbW
  replace k3 := Lib.hid k3
  replace hok := Lib.hid hok
  replace h := Lib.hid h
  replace hnW := Lib.hid hnW
  replace hgb := Lib.hid hgb
  replace hat := Lib.hid hat
  replace hv := Lib.hid hv
  replace hs := Lib.hid hs
  replace hmem := Lib.hid hmem
  clear hown k1 k2
  go_enter Tryd.func9, Tryd.ntmps9
  go_wp2_with fail
  with_reducible refine hmsg.out.mono ?_
  rintro e w2 ⟨rfl, hq⟩
  obtain rfl := hq.symm
  clear hmsg hq
  go_wp2_with fail
  with_reducible refine hcut.out.mono ?_
  rintro e w' ⟨rfl, w1, ho1, hg1, rfl⟩
  have hat1 := (hg1.block W hWl (fun e => hgW (by cases e; rfl))).trans hat.out
  have hc1 : w1.cell? ⟨W, 5, none⟩ = some (.int .i64 z.o) := by rw [cell_of_block hat1]; rfl
  have hf1 : w1.frozen? ⟨W, 5, none⟩ = false := free_of_block hat1 _
  replace hat1 := Lib.hid hat1
  replace ho1 := Lib.hid ho1
  replace hg1 := Lib.hid hg1
  clear hcut hc3 hcm
  go_wp2_with fail
  go_ret2
  have hU := ((Upd.refl hat1.out).setCell (j := 7) (.slice (some ⟨g, 0, none⟩) (z.ms.length - 1) cap)).setCell (j := 5) (.int .i64 (z.o + 1))
  have hO : Only (fun k => k = W) w1 _ := Only.ofUpd hU rfl
  have hco := cut_ok hok.out hv.out ho1.out hg1.out hO hnW.out z.i (z.o + 1) z.l
  have hOn : Only (fun k => k = W ∨ k = g) w _ := (Only.ofGrown (D := fun k => k = W ∨ k = g) hg1.out (fun k hk => .inr (by cases hk; rfl))).trans hO fun k _ hk => .inl hk
  have hst := WStep.ofUpd1 h.out hb hco (hU.to rfl).here
  refine ⟨rfl, _, hst, rfl, rfl, rfl, rfl, hOn.owns k3.out fun k hk => ?_, ?_⟩
  · obtain rfl : (z.ms[i]).b = k := by simpa [encM, Value.ownBlock] using hk
    rintro (e | e)
    · exact hbW.out e
    · exact hap.out e
  · have hnd := hok.out.nd
    unfold Way.blks at hnd
    rw [hv.out] at hnd
    have hnd2 := (List.nodup_append.1 hnd).2.1
    rintro (e | hm | hm)
    · exact hbW.out e
    · exact h.out.dj _ hm (mem_blks_m hmem.out)
    · simp only [Way.blks, Value.ownBlock, Option.toList_some, List.mem_append, List.mem_singleton, List.mem_map] at hm
      rcases hm with e | ⟨m', hm', e⟩
      · exact hap.out e
      · exact erase_apart hnd2 hi hm' e

set_option maxHeartbeats 1000000 in
theorem wdrop1 (base W i : Nat) (T : TypeId) (y z : Way) (w : World) (h : Wire base w W T y z) (hb : base ≤ w.heap.size) (hs : Small z) (hi : i < z.ms.length) (hl : z.ms.length ≤ 1000000) :
    Calls Tryd.prog 10 #[.pointer (some ⟨W, 0, none⟩), .int .i64 1, .int .i64 i] w fun x w' => x = .returned .nilIface ∧ ∃ x', WStep base w w' W T y z y x' ∧ x'.i = z.i ∧ x'.o = z.o  ∧ x'.l = z.l + 1 ∧ x'.ms = z.ms.eraseIdx i ∧ OwnB base w' (encM z.ms[i]) (z.ms[i]).bs ∧ ¬ Wire.D W y x' (z.ms[i]).b := by
  have hok := h.ok1
  have hnW := h.n1
  obtain ⟨g, cap, hv⟩ := hok.form1 (by omega)
  have hgb := mem_blks_v hv
  have hgW : g ≠ W := fun e => hnW (e ▸ hgb)
  have hown := hok.own
  rw [hv] at hown
  have hat := h.at_
  have hWl := block_lt hat
  have hc3 : w.cell? ⟨W, 7, none⟩ = some (.slice (some ⟨g, 0, none⟩) z.ms.length cap) := by rw [h.c]; simp [wcells, hv]
  have hcm : w.cell? ⟨g, i, none⟩ = some (.slice (some ⟨(z.ms[i]).b, 0, none⟩) (z.ms[i]).bs.length (z.ms[i]).cap) := hok.cell hv i hi
  have hmsg := Lib.hid (wmsg_yes1 W i (some ⟨g, 0, none⟩) z.ms.length cap w hc3 hi)
  have hcut := Lib.hid (wcut1 W g cap i z.ms (wcells y z) T base w hat (by simp [wcells, hv]) hown hgW hi hl)
  have hin : (i : Int) < z.ms.length := by omega
  have hwr : IntKind.i64.wrap (z.l + 1) = z.l + 1 := IntWalk.i64_in _ (by have := hs.l; omega)
  have hmem := List.getElem_mem hi
  obtain ⟨k1, k2, k3⟩ := hok.msg _ hmem
  have hap := hok.apart hmem (k := g) (by rw [hv]; rfl)
  have hbW : (z.ms[i]).b ≠ W := fun e => hnW (e ▸ mem_blks_m hmem)
  replace hap := Lib.hid hap
  replace hbW := Lib.hid hbW
  replace k3 := Lib.hid k3
  replace hok := Lib.hid hok
  replace h := Lib.hid h
  replace hnW := Lib.hid hnW
  replace hgb := Lib.hid hgb
  replace hat := Lib.hid hat
  replace hv := Lib.hid hv
  replace hs := Lib.hid hs
  replace hmem := Lib.hid hmem
  clear hown k1 k2
  go_enter Tryd.func10, Tryd.ntmps10
  go_wp2_with fail
  with_reducible refine hmsg.out.mono ?_
  rintro e w2 ⟨rfl, hq⟩
  obtain rfl := hq.symm
  clear hmsg hq
  go_wp2_with fail
  with_reducible refine hcut.out.mono ?_
  rintro e w' ⟨rfl, w1, ho1, hg1, rfl⟩
  have hat1 := (hg1.block W hWl (fun e => hgW (by cases e; rfl))).trans hat.out
  have hc1 : w1.cell? ⟨W, 6, none⟩ = some (.int .i64 z.l) := by rw [cell_of_block hat1]; rfl
  have hf1 : w1.frozen? ⟨W, 6, none⟩ = false := free_of_block hat1 _
  replace hat1 := Lib.hid hat1
  replace ho1 := Lib.hid ho1
  replace hg1 := Lib.hid hg1
  clear hcut hc3 hcm
  go_wp2_with fail
  go_ret
  have hU := ((Upd.refl hat1.out).setCell (j := 7) (.slice (some ⟨g, 0, none⟩) (z.ms.length - 1) cap)).setCell (j := 6) (.int .i64 (z.l + 1))
  have hO : Only (fun k => k = W) w1 _ := Only.ofUpd hU rfl
  have hco := cut_ok hok.out hv.out ho1.out hg1.out hO hnW.out z.i z.o (z.l + 1)
  have hOn : Only (fun k => k = W ∨ k = g) w _ := (Only.ofGrown (D := fun k => k = W ∨ k = g) hg1.out (fun k hk => .inr (by cases hk; rfl))).trans hO fun k _ hk => .inl hk
  have hst := WStep.ofUpd1 h.out hb hco (hU.to rfl).here
  refine ⟨rfl, _, hst, rfl, rfl, rfl, rfl, hOn.owns k3.out fun k hk => ?_, ?_⟩
  · obtain rfl : (z.ms[i]).b = k := by simpa [encM, Value.ownBlock] using hk
    rintro (e | e)
    · exact hbW.out e
    · exact hap.out e
  · have hnd := hok.out.nd
    unfold Way.blks at hnd
    rw [hv.out] at hnd
    have hnd2 := (List.nodup_append.1 hnd).2.1
    rintro (e | hm | hm)
    · exact hbW.out e
    · exact h.out.dj _ hm (mem_blks_m hmem.out)
    · simp only [Way.blks, Value.ownBlock, Option.toList_some, List.mem_append, List.mem_singleton, List.mem_map] at hm
      rcases hm with e | ⟨m', hm', e⟩
      · exact hap.out e
      · exact erase_apart hnd2 hi hm' e

end Go.Proofs.YtejkajlbffkdnaaDoor
