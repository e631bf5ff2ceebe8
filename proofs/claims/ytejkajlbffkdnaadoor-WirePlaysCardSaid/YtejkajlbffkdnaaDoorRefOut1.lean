/- Walks over the reference's wire: without, Take, Drop, Clear. (Printed by n24/on/genref2.py.) -/
import Derived.Test.YtejkajlbffkdnaaDoorRef24
import Derived.Test.YtejkajlbffkdnaaDoorWire3
namespace Go.Proofs.YtejkajlbffkdnaaDoor
open Go.RowKit


set_option maxRecDepth 100000 in
set_option maxHeartbeats 8000000 in
theorem rwithout1 (base M i : Nat) (T : TypeId) (y z : Way) (w : World) (h : RefW base w M T y z) (hb : base ≤ w.heap.size) (hl : z.ms.length ≤ 1000) (hi : i < z.ms.length) :
    Calls Tryd.prog 35 #[.pointer (some ⟨M, 0, none⟩), .int .i64 1, .int .i64 i] w fun x w' => x = .returned (.tuple #[]) ∧ ∃ x', RStep base w w' M T y z y x' ∧ x'.i = z.i ∧ x'.o = z.o ∧ x'.l = z.l ∧ x'.ms = z.ms.eraseIdx i := by
  have hok := h.ok1
  have hn := h.n1
  obtain ⟨g, cap, hv⟩ := hok.form1 (by omega)
  obtain ⟨_, cap', hv', hcap, hcap2, _, _⟩ := hok.form
  rw [hv] at hv'
  obtain rfl : cap = cap' := by injection hv'
  clear hv'
  have hat := h.at_
  have hMl := block_lt hat
  have hgM : g ≠ M := fun e => hn (e ▸ mem_blks_v hv)
  obtain ⟨iR, hR0, hR1, hR2, hR3⟩ := info_parts Tryd.infoRowW
  have hcv : w.cell? ⟨M, 1, none⟩ = some (.slice (some ⟨g, 0, none⟩) z.ms.length cap) := by rw [h.c]; simp [rcells, hv]
  have hown := hok.own
  rw [hv] at hown
  have hsrc : At w (some ⟨g, 0, none⟩) (z.ms.map encM) := owns_at hown
  have hsrc1 : At w (some ⟨g, 0, none⟩) ((z.ms.map encM).take i) := hsrc.take i
  have hsrc2 : At w (some ⟨g, i + 1, none⟩) ((z.ms.map encM).drop (i + 1)) := by
    intro j hj
    rw [List.length_drop] at hj
    obtain ⟨b, o, e, hc⟩ := hsrc (i + 1 + j) (by omega)
    cases e
    refine ⟨_, _, rfl, ?_⟩
    rw [List.getElem?_drop, ← hc, Nat.zero_add]
  obtain ⟨A, hA, hsrcA⟩ : ∃ A : Addr, (if cap = i + 1 then (some ⟨g, 0, none⟩ : Option Addr) else some ⟨g, i + 1, none⟩) = some A ∧ At w (some A) ((z.ms.map encM).drop (i + 1)) := by
    by_cases hc : cap = i + 1
    · refine ⟨⟨g, 0, none⟩, by rw [if_pos hc], fun j hj => ?_⟩
      rw [List.length_drop, List.length_map] at hj
      omega
    · exact ⟨⟨g, i + 1, none⟩, by rw [if_neg hc], hsrc2⟩
  have hlo : (0 : Int) ≤ (i : Int) + 1 := by omega
  have hhi : (i : Int) + 1 ≤ (z.ms.length : Int) := by omega
  have hcvA : ∀ o, (w.alloc o).cell? ⟨M, 1, none⟩ = some (.slice (some ⟨g, 0, none⟩) z.ms.length cap) := fun o => ((Below.alloc (Below.refl w.heap.size w) (Nat.le_refl _) o).cell (p := ⟨M, 1, none⟩) hMl).trans hcv
  have gA : Below w.heap.size w (w.alloc (.cells #[] 27)).drew := (Below.alloc (Below.refl w.heap.size w) (Nat.le_refl _) _).drew
  have oA := Lib.hid (show ((w.alloc (.cells #[] 27)).drew).ownsRow w.heap.size 27 1 (.slice (some ⟨w.heap.size, 0, none⟩) 0 0) 0 [] from lit_own w 27)
  have t1 := Lib.hid (At.below hsrc1 gA)
  have hm1 := Lib.hid (show ((z.ms.map encM).take i).length = i from by simp; omega)
  have hm2 := Lib.hid (show ((z.ms.map encM).drop (i + 1)).length = z.ms.length - (i + 1) from by simp)
  have hone1 : ∀ u ∈ (z.ms.map encM).take i, u.oneCell' = true := fun u hu => encM_one _ u (List.mem_of_mem_take hu)
  have hone2 : ∀ u ∈ (z.ms.map encM).drop (i + 1), u.oneCell' = true := fun u hu => encM_one _ u (List.mem_of_mem_drop hu)
  have hmx : maxLen = 9223372036854775807 := rfl
  have hw : IntKind.i64.wrap ((i : Int) + 1) = ((i + 1 : Nat) : Int) := by rw [IntWalk.i64_in _ (by omega)]; rfl
  have hnil : Hid ((some ⟨g, 0, none⟩ : Option Addr) = none → cap = 0) := Lib.hid (fun e => by cases e)
  have hicap : i ≤ cap := by omega
  have hicap1 : i + 1 ≤ cap := by omega
  have hin1 : i + 1 ≤ z.ms.length := by omega
  replace h := Lib.hid h
  replace hat := Lib.hid hat
  replace hv := Lib.hid hv
  replace hok := Lib.hid hok
  replace hn := Lib.hid hn
  replace gA := Lib.hid gA
  replace hsrcA := Lib.hid hsrcA
  replace hgM := Lib.hid hgM
  replace hmx := Lib.hid hmx
  clear hown hsrc hsrc1 hsrc2
  go_enter Tryd.func35, Tryd.ntmps35
  go_wp2_with fail
  go_region_law (first
    | ((refine stepOwn_app rfl (.tmp 8) (.tmp 16) 42 rfl w.heap.size 27 iR (.slice none 0 0) 24 Tryd.underlying42 hR0 hR1 hR2 hR3 rfl (.slice (some ⟨w.heap.size, 0, none⟩) 0 0) 0 [] (by simp [Act.eval, Act.put]) oA (some ⟨g, 0, none⟩) i cap ((z.ms.map encM).take i) (by simp [Act.eval, Act.put]) hm1 t1 hnil hone1 (by have := hmx.out; omega) (by omega) (by simp) ?_); intro v2 w2 ho2 hg2 hmv2; have gw2 := Lib.hid (gA.out.grown hg2.out gA.out.size (fun k hk => (World.ownsRow.lt oA.out k hk).1)); have hcv2 : w2.cell? ⟨M, 1, none⟩ = some (.slice (some ⟨g, 0, none⟩) z.ms.length cap) := (gw2.out.cell (p := ⟨M, 1, none⟩) hMl).trans hcv; have ho2' : Hid (w2.ownsRow w.heap.size 27 1 v2 i ((z.ms.map encM).take i)) := Lib.hid (by simpa using ho2.out); clear oA t1 ho2)
    | ((refine stepOwn_app rfl (.tmp 17) (.tmp 26) 42 rfl w.heap.size 27 iR (.slice none 0 0) 24 Tryd.underlying42 hR0 hR1 hR2 hR3 rfl v2 i ((z.ms.map encM).take i) (by simp [Act.eval, Act.put]) ho2' (some A) (z.ms.length - (i + 1)) (cap - (i + 1)) ((z.ms.map encM).drop (i + 1)) (by simp [Act.eval, Act.put]) hm2 (Lib.hid (At.below hsrcA.out gw2.out)) (Lib.hid (fun e => (by cases e))) hone2 (by have := hmx.out; omega) (by omega) gw2.out.size ?_); intro v3 w3 ho3 hg3 hmv3; have gw3 := Lib.hid (gw2.out.grown hg3.out gw2.out.size (fun k hk => (World.ownsRow.lt ho2'.out k hk).1)); have hat3 := Lib.hid ((gw3.out.block M hMl).trans hat.out); have hcv3 : w3.cell? ⟨M, 1, none⟩ = some (.slice (some ⟨g, 0, none⟩) z.ms.length cap) := (by rw [cell_of_block hat3.out]; simp [rcells, hv.out]); have hfv3 : w3.frozen? ⟨M, 1, none⟩ = false := free_of_block hat3.out _; obtain ⟨a3, c3, hv3⟩ := owns_slice ho3.out; subst hv3))
  all_goals
    go_wp2_with fail
    go_end0
    have hU5 := (Upd.refl hat3.out).setCell (j := 1) (.slice a3 (i + (z.ms.length - (i + 1))) c3)
    have hO45 : Only (fun k => k = M) w3 _ := Only.ofUpd hU5 rfl
    have hO5 := (Only.ofBelow (D := fun k => k = M) gw3.out).trans hO45 fun _ _ h => h
    have h4 := hO45.owns ho3.out fun k hk e => by have := (World.ownsRow.lt ho3.out k hk).1; omega
    have hel : (z.ms.eraseIdx i).length = i + (z.ms.length - (i + 1)) := by rw [List.length_eraseIdx, if_pos hi]; omega
    have hem : (z.ms.eraseIdx i).map encM = (z.ms.map encM).take i ++ (z.ms.map encM).drop (i + 1) := by rw [List.eraseIdx_eq_take_drop_succ, List.map_append, List.map_take, List.map_drop]
    have hnew := rrow_ok h.out hok.out hn.out hb hO5 (v' := .slice a3 (i + (z.ms.length - (i + 1))) c3) (ms' := z.ms.eraseIdx i) (by rw [hel, hem]; exact h4) (fun m hm => .inl (List.mem_of_mem_eraseIdx hm)) z.i z.o z.l
    exact ⟨rfl, _, RStep.of1 h.out hO5 hnew (hU5.to rfl).here, rfl, rfl, rfl, rfl⟩

end Go.Proofs.YtejkajlbffkdnaaDoor
