/- The walk over baileelaw23.NumberOnce. -/
import Derived.Test.YtfagjlfnmkfjoaaAlive
import Derived.Test.YtfagjlfnmkfjoaaLaw
namespace Go.Proofs.Ytfagjlfnmkfjoaa
open Go.RowKit

theorem Try.infoInt : (Try.prog.info? 3).map (fun i => (i.zero, i.size, i.bytes)) = some (some (.int .i64 0), 1, 8) := by kernel_rfl

theorem owns_form {w : World} {base : Nat} {e : TypeId} {v : Value} {n : Nat} {xs : List Value} (h : w.ownsRow base e 1 v n xs) (hv : v ≠ .slice none 0 0) :
    ∃ g cap, v = .slice (some ⟨g, 0, none⟩) n cap ∧ base ≤ g ∧ g < w.heap.size ∧ n ≤ cap ∧ cap ≤ maxLen ∧ xs.length = n ∧ ∀ j, j < n → w.cell? ⟨g, j, none⟩ = xs[j]? := by
  obtain ⟨hx, h2⟩ := h
  rcases h2 with ⟨h2, _⟩ | ⟨g, cap, cur, hv', hb, hg, hn, hcap, hcur, htake⟩
  · exact absurd h2 hv
  · refine ⟨g, cap, hv', hb, block_lt hg, hn, hcap, by simpa using hx, fun j hj => ?_⟩
    rw [cell_of_block hg, ← htake]
    simp [hj]

theorem Upd.owns {w w' : World} {b base : Nat} {o : Obj} {e : TypeId} {size : Nat} {v : Value} {n : Nat} {xs : List Value} (h : w.ownsRow base e size v n xs) (hu : Upd b o w w') (hne : v.ownBlock ≠ some b) : w'.ownsRow base e size v n xs :=
  h.kept (row := some b) ⟨hu.os, hu.tape, hu.output, by rw [hu.size]; exact Nat.le_refl _, fun k _ hk => hu.block k (by simpa using hk)⟩ (.inr hne)

set_option maxHeartbeats 1000000 in
theorem once_walk (a : Option Addr) (cap : Nat) (zs : List Int) (w : World) (_hl : zs.length ≤ cap) (_hm : cap ≤ maxLen) (hrow : RowI .i64 w a zs) (_hwf : ∀ n ∈ zs, (Lit.int .i64 n).wf = true) :
    Calls Try.prog 3 #[.slice a zs.length cap] w fun e w' => e = .returned (.bool true) ∧ Below w.heap.size w w' := by
  have hrow := Lib.hid hrow
  rcases Nat.lt_or_ge 100 zs.length with h100 | h100
  · have hcl : zs.length ≤ maxLen := by omega
    go_enter Try.func3, Try.ntmps3
    go_wp2_with fail
    refine (alive_any _).mono ?_
    rintro e w1 ⟨rfl, hb1⟩
    go_wp2_with fail
    go_ret
    exact ⟨rfl, hb1⟩
  go_enter Try.func3, Try.ntmps3
  go_wp2_with fail
  refine (alive_any _).mono ?_
  rintro e w1 ⟨rfl, hb1⟩
  go_wp2_with fail
  refine (new_any _).mono ?_
  rintro e w2 ⟨rfl, rfl⟩
  go_wp2_with fail
  obtain ⟨i0, hi, hz0, hz1, hz2⟩ := info_parts Try.infoInt
  have hs1 := hb1.size
  go_loopw [4, 18] (fun v i wr => ∃ (k : Nat) (fr : List Int) (any : Bool) (g : Int) (c : Nat), k ≤ zs.length ∧ i = .int .i64 k ∧ NInv any g c fr ∧ fr.length ≤ k ∧
      wr.heap[w1.heap.size]? = some (seen any g c) ∧ wr.ownsRow (w1.heap.size + 1) 3 1 v fr.length (fr.map (Value.int .i64)) ∧ v ≠ .slice none 0 0 ∧ Below w.heap.size w wr)
    (fun _ i _ => zs.length - (intOf i).toNat)
  case atStart =>
    refine ⟨0, [], false, 0, 0, Nat.zero_le _, rfl, NInv.start, Nat.le_refl _, ?_, ?_, by simp, ?_⟩
    · rw [Below.heap_alloc _ _ _ (by simp)]
      exact heap_alloc_new _ _
    · have h := World.ownsRow_made (base := w1.heap.size + 1) (e := 3) (size := 1) (w1.alloc (seen false 0 0)) #[] 0 (by simp) (by decide) (by simp)
      simpa using h
    · exact ((hb1.alloc hs1 _).alloc (by simp; omega) _)
  case round =>
    obtain ⟨k, fr, any, g, c, hk, rfl, hinv, hfk, hseen, hown, hnn, hbel⟩ := hrel
    by_cases hlt : k < zs.length
    · obtain ⟨b, off, rfl, hx0⟩ := hrow.out k hlt
      have hx := (hbel.cell (p := ⟨b, off + k, none⟩) (World.block_lt_of_cell? w _ hx0)).trans hx0
      clear hx0
      have hBs := block_lt hseen
      obtain ⟨id, hid⟩ : ∃ id, id = zs.getD k 0 := ⟨_, rfl⟩
      rw [← hid] at hx
      clear hid
      obtain ⟨gb, gcap, hv, hgb, hgs, hgc, hgm, -, hcells⟩ := owns_form hown hnn
      subst hv
      go_wp2_with fail
      replace hbel := Lib.hid hbel
      replace hcells := Lib.hid hcells
      replace hown := Lib.hid hown
      refine (fresh_any any g c id w1.heap.size _ hseen hinv.hg hinv.hc hinv.hz).mono ?_
      rintro e w2 ⟨rfl, hu⟩
      cases hf : freshB any g c id
      · replace hf := Lib.hid hf
        go_wp2_with fail
        go_roundw
        case rel =>
          refine ⟨k + 1, fr, any, g, c, by omega, by go_num, hinv, by omega, ?_, ?_, by simp, ?_⟩
          · have h := hu.here
            rw [(next_not hf.out).1, (next_not hf.out).2.1, (next_not hf.out).2.2] at h
            exact h
          · exact Upd.owns hown.out hu (by simp [Value.ownBlock]; omega)
          · exact hbel.out.trans (hu.below (by omega))
        case measure => simp [intOf]; omega
      · have hnm := Lib.hid (hinv.not_mem hf)
        replace hf := Lib.hid hf
        have hcl : ∀ j, j < fr.length → w2.cell? ⟨gb, j, none⟩ = some (.int .i64 (fr.getD j 0)) := by
          intro j hj
          rw [show w2.cell? ⟨gb, j, none⟩ = wr.cell? ⟨gb, j, none⟩ from World.cell?_of_block (hu.block gb (by omega)), hcells.out j hj]
          simp [hj]
        replace hcl := Lib.hid hcl
        have hinv' := hinv.next hf.out
        have hown2 := Lib.hid (Upd.owns hown.out hu (by simp [Value.ownBlock]; omega))
        have hbel2 := Lib.hid (hbel.out.trans (hu.below (by omega)))
        have hseen2 := Lib.hid hu.here
        have hsz := Lib.hid hu.size
        clear hu hcells hown hx hseen hbel
        go_wp2_with fail
        go_loop [28] (fun j => ∃ m : Nat, m ≤ fr.length ∧ j = .int .i64 m) (fun j => fr.length - (intOf j).toNat)
        case atStart => exact ⟨0, Nat.zero_le _, rfl⟩
        case round =>
          obtain ⟨m, hm', rfl⟩ := hrel
          by_cases hmlt : m < fr.length
          · have hcm := hcl.out m hmlt
            have hne : (fr.getD m 0 == id) = false := by
              have : fr.getD m 0 ∈ fr := by simp [hmlt]
              have h2 := hnm.out
              rw [beq_eq_false_iff_ne]
              intro e
              exact h2 (e ▸ this)
            obtain ⟨y, hy⟩ : ∃ y, y = fr.getD m 0 := ⟨_, rfl⟩
            rw [← hy] at hcm hne
            clear hy
            go_wp2_with fail
            exact ⟨⟨m + 1, by omega, by go_num⟩, by simp [intOf]; omega⟩
          · have hsz' := Nat.le_of_eq hsz.out.symm
            go_wp2_with (at_builtin; go_must (refine wpList_append1 rfl _ _ 22 rfl (w1.heap.size + 1) 3 i0 (.int .i64 0) 8 Try.underlying22 hi hz0 hz1 hz2 rfl _ _ _ rfl hown2 (.int .i64 id) rfl rfl (by unfold maxLen; omega) (by omega) (by omega) ?_))
            · intro v' w3 hown3 hg3 hnil
              go_wp2_with fail
              go_roundw
              case rel =>
                refine ⟨k + 1, fr ++ [id], _, _, _, by omega, by go_num, hinv', by simp; omega, ?_, ?_, ?_, ?_⟩
                · rw [hg3.out.block w1.heap.size (by omega) (by simp [Value.ownBlock]; omega)]
                  exact hseen2.out
                · simpa using hown3.out
                · exact hnil.out
                · exact hbel2.out.grown hg3.out (by omega) (by simp [Value.ownBlock]; omega)
              case measure => simp [intOf]; omega
    · go_wp2_with fail
      go_ret
      exact ⟨rfl, hbel⟩

end Go.Proofs.Ytfagjlfnmkfjoaa
