/- The walk over sha.Of. -/
import Derived.Test.YtgkddegaiaeckaaDoorF7SafeSaid
namespace Go.Proofs.YtgkddegaiaeckaaDoor
open Go.RowKit

/-- A list of lists of bytes in memory. -/
structure ArgBB (w : World) (a : Option Addr) (cap : Nat) (ps : List (List UInt8)) : Prop where
  len : ps.length ≤ cap
  most : cap ≤ maxLen
  nil : a = none → cap = 0
  row : ∀ i, i < ps.length → ∃ b off, a = some ⟨b, off, none⟩ ∧ ∃ ai ci, w.cell? ⟨b, off + i, none⟩ = some (.slice ai (ps.getD i []).length ci) ∧ ArgB w ai ci (ps.getD i [])
theorem ArgBB.below {w w' : World} {a : Option Addr} {cap : Nat} {ps : List (List UInt8)} (h : ArgBB w a cap ps) (hb : Below w.heap.size w w') : ArgBB w' a cap ps :=
  ⟨h.len, h.most, h.nil, fun i hi => by
    obtain ⟨b, off, e, ai, ci, hc, hr⟩ := h.row i hi
    exact ⟨b, off, e, ai, ci, (hb.cell (World.block_lt_of_cell? w _ hc)).trans hc, hr.below hb⟩⟩
theorem flatten_take_succ (ps : List (List UInt8)) (i : Nat) (h : i < ps.length) : (ps.take (i + 1)).flatten = (ps.take i).flatten ++ ps.getD i [] := by
  rw [List.take_add_one, List.flatten_append]
  simp [List.getD_eq_getElem?_getD, h]
theorem flatten_take_le (ps : List (List UInt8)) (i : Nat) : (ps.take i).flatten.length ≤ ps.flatten.length := by
  conv => rhs; rw [← List.take_append_drop i ps]
  rw [List.flatten_append, List.length_append]
  omega
theorem getD_le (ps : List (List UInt8)) (i : Nat) : (ps.getD i []).length ≤ ps.flatten.length := by
  by_cases h : i < ps.length
  · have h1 := flatten_take_succ ps i h
    have h2 := flatten_take_le ps (i + 1)
    rw [h1, List.length_append] at h2
    omega
  · rw [List.getD_eq_getElem?_getD, List.getElem?_eq_none (by omega)]
    exact Nat.zero_le _

set_option maxRecDepth 10000 in
set_option maxHeartbeats 1000000 in
theorem shaOf_any (a : Option Addr) (ca : Nat) (ps : List (List UInt8)) (w : World) (h : ArgBB w a ca ps) (hl : ps.flatten.length ≤ 100000) (hn : ps.length ≤ 100000) (hK : ShaK w) (hF : ShaF w) :
    Calls Tryd.prog 48 #[.slice a ps.length ca] w fun e w' => e = .returned (.agg (cB (sha ps.flatten)).toArray) ∧ Below w.heap.size w w' := by
  have zr := zero32_run
  have zn := zero32_ne
  obtain ⟨A, hA⟩ : ∃ A, A = w.alloc (.cells zero32 32) := ⟨_, rfl⟩
  have hbA : Below w.heap.size w A := by rw [hA]; exact (Below.refl _ w).alloc (Nat.le_refl _) _
  have hsA : A.heap.size = w.heap.size + 1 := by rw [hA]; simp
  have hzA : A.heap[w.heap.size]? = some (.cells zero32 32 (0, 0)) := by rw [hA]; exact heap_alloc_new w _
  have hnew := Lib.hid (new_hash A (hF.below hbA))
  have hKA := Lib.hid (hK.below hbA)
  have hPA := Lib.hid (h.below hbA)
  replace hbA := Lib.hid hbA
  replace hsA := Lib.hid hsA
  replace hzA := Lib.hid hzA
  replace hA := Lib.hid hA
  clear hF hK h
  go_enter Tryd.func48, Tryd.ntmps48
  go_wp2_with fail
  rw [← hA.out]
  with_reducible refine hnew.out.mono ?_
  rintro e w1 ⟨rfl, hH⟩
  replace hH := Lib.hid hH
  obtain ⟨b, hb⟩ : ∃ b, b = A.heap.size := ⟨_, rfl⟩
  rw [← hb] at hH ⊢
  replace hb := Lib.hid hb
  go_wp2_with fail
  go_loopw [5, 9] (fun _ j wr => ∃ i : Nat, i ≤ ps.length ∧ j = .int .i64 i ∧ HashOf A b (ps.take i).flatten wr)
    (fun _ j _ => ps.length - (intOf j).toNat)
  case atStart => exact ⟨0, Nat.zero_le _, rfl, hH.out⟩
  case round =>
    clear hH
    obtain ⟨i, hi, rfl, hH⟩ := hrel
    have hH0 := hH
    obtain ⟨_, _, _, hHat, _, _⟩ := hH0
    have hBel := hHat.bel
    clear hHat
    replace hH := Lib.hid hH
    by_cases hlt : i < ps.length
    · obtain ⟨pb, po, rfl, ai, ci, hc, hr⟩ := hPA.out.row i hlt
      replace hc := (hBel.cell (World.block_lt_of_cell? A _ hc)).trans hc
      have hput := Lib.hid (put_any A b (ps.take i).flatten ai ci (ps.getD i []) wr hH.out hr hKA.out (by have := flatten_take_le ps i; omega) (by have := getD_le ps i; omega))
      have hnx := Lib.hid (flatten_take_succ ps i hlt)
      have hil : (i : Int) < ps.length := by omega
      replace hr := Lib.hid hr
      generalize ps.getD i [] = pi at *
      go_wp2_with fail
      with_reducible refine hput.out.mono ?_
      rintro e w2 ⟨rfl, hH2⟩
      replace hH2 := Lib.hid hH2
      go_wp2_with fail
      go_roundw
      case rel => exact ⟨i + 1, by omega, by go_num, by rw [hnx.out]; exact hH2.out⟩
      case measure => simp [intOf]; omega
    · obtain rfl : i = ps.length := by omega
      have hsum := Lib.hid (sum_any A b (ps.take ps.length).flatten wr hH.out hKA.out (by have := flatten_take_le ps ps.length; omega))
      rw [List.take_length] at hsum
      have hszS : (Tryd.prog.info? 32).map (·.size) = some (cB (sha ps.flatten)).toArray.size := by rw [List.size_toArray, cB_length, sha_length]; kernel_rfl
      have hsZ : zero32.size = (cB (sha ps.flatten)).toArray.size := by rw [zero32_size, List.size_toArray, cB_length, sha_length]
      have hone : (cB (sha ps.flatten)).toArray.all (·.oneCell') = true := by
        rw [List.all_toArray, List.all_eq_true]
        exact cB_one _
      have hu1 : Tryd.prog.underlying 32 = some (.array 32 5) := Tryd.underlying32
      generalize hDD : (cB (sha ps.flatten)).toArray = DD at *
      replace hDD := Lib.hid hDD
      replace hBel := Lib.hid hBel
      go_wp2_with fail
      with_reducible refine hsum.out.mono ?_
      rintro e w3 ⟨rfl, hd⟩
      have hb3 := Lib.hid (hBel.out.trans (hd.mono hBel.out.size))
      have hres := Lib.hid ((hb3.out.block _ (by rw [hsA.out]; omega)).trans hzA.out)
      replace hd := Lib.hid hd
      go_wp2_with (with_reducible refine wpList_store_row rfl 32 (.tmp 2) (.tmp 18) rfl w.heap.size zero32 DD rfl rfl hres hszS hsZ hone ?_)
      intro w9 hU9
      go_wp2_with fail
      refine ret_cell_row rfl rfl hu1 rfl hszS hU9.out.here ⟨by rw [hDD.out], ?_⟩
      exact hbA.out.trans ((hb3.out.mono hbA.out.size).trans (hU9.out.below (Nat.le_refl _)))

end Go.Proofs.YtgkddegaiaeckaaDoor
