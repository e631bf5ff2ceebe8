/- Walks over the reference's wire: Send. (Printed by n24/on/genref2.py.) -/
import Derived.Test.YtejkajlbffkdnaaDoorRef24
import Derived.Test.YtejkajlbffkdnaaDoorWire3
namespace Go.Proofs.YtejkajlbffkdnaaDoor
open Go.RowKit


set_option maxRecDepth 100000 in
set_option maxHeartbeats 8000000 in
theorem rsend0 (base M : Nat) (T : TypeId) (y z : Way) (w : World) (h : RefW base w M T y z) (hb : base ≤ w.heap.size) (hs : Small y) (hl : y.ms.length < 64) (a : Option Addr) (c : Nat) (bs : List UInt8) (ha : ArgB w a c bs) (hd : ∀ b o, a = some ⟨b, o, none⟩ → b ≠ M) (h1 : 0 < bs.length ∧ bs.length ≤ 8000) :
    Calls Tryd.prog 24 #[.pointer (some ⟨M, 0, none⟩), .int .i64 0, .slice a bs.length c] w fun x w' => x = .returned (.int .i64 0) ∧ ∃ x' m, RStep base w w' M T y z x' z ∧ x'.i = y.i + 1 ∧ x'.o = y.o ∧ x'.l = y.l ∧ x'.ms = y.ms ++ [m] ∧ m.bs = bs := by
  have hok := h.ok0
  have hn := h.n0
  obtain ⟨ga, cap, hv, hcap, hcap2, hnil, hsrc⟩ := hok.form
  have hat := h.at_
  have hMl := block_lt hat
  have hcv : w.cell? ⟨M, 0, none⟩ = some (.slice ga y.ms.length cap) := by rw [h.c]; simp [rcells, hv]
  obtain ⟨iR, hR0, hR1, hR2, hR3⟩ := info_parts Tryd.infoRowW
  obtain ⟨iB, hB0, hB1, hB2, hB3⟩ := info_parts Tryd.infoByteP
  have hci : w.cell? ⟨M, 2, none⟩ = some (.int .i64 y.i) := h.c 2
  have hfi := h.f 2
  have hwi : IntKind.i64.wrap (y.i + 1) = y.i + 1 := IntWalk.i64_in _ (by have := hs.i; omega)
  have hlen1 : ¬ ((bs.length : Int) = 0) := by omega
  have hlen2 : (bs.length : Int) ≤ 8000 := by omega
  have hln : ¬ (64 ≤ (y.ms.length : Int)) := by omega
  obtain ⟨w0, hw0⟩ : ∃ w0, w0 = (w.setCell ⟨M, 2, none⟩ (.int .i64 (y.i + 1))).drew := ⟨_, rfl⟩
  have hU0 := ((Upd.refl hat).setCell (j := 2) (.int .i64 (y.i + 1))).drew
  rw [← hw0] at hU0
  have hO0 : Only (fun k => k = M) w w0 := Only.ofUpd hU0 rfl
  have hsz0 := hU0.size
  have hM0 : M < w0.heap.size := by omega
  have hcv0 : w0.cell? ⟨M, 0, none⟩ = some (.slice ga y.ms.length cap) := by rw [cell_of_block hU0.here]; simp [rcells, hv]
  have hMo : ∀ k, y.v.ownBlock = some k → ¬ k = M := fun k hk e => hn (by subst e; simp [Way.blks, hk])
  have hsrc0 : At w0 ga (y.ms.map encM) := by
    intro i hi
    obtain ⟨b, o, e, hc⟩ := hsrc i hi
    refine ⟨b, o, e, ?_⟩
    have hlt : b < w.heap.size := by
      rw [List.getElem?_eq_getElem hi] at hc
      exact World.block_lt_of_cell? w _ hc
    have hne : ¬ b = M := hMo b (by rw [hv, e]; rfl)
    exact (World.cell?_of_block (w := w) (w' := w0) (a := ⟨b, o + i, none⟩) (hO0.block b hlt hne)).trans hc
  have ha0 : ArgB w0 a c bs := hO0.argB ha hd
  have hcvA : ∀ o, (w0.alloc o).cell? ⟨M, 0, none⟩ = some (.slice ga y.ms.length cap) := fun o => ((Below.alloc (Below.refl w0.heap.size w0) (Nat.le_refl _) o).cell (p := ⟨M, 0, none⟩) hM0).trans hcv0
  have hcvB : ∀ o o', ((w0.alloc o).alloc o').cell? ⟨M, 0, none⟩ = some (.slice ga y.ms.length cap) := fun o o' => ((Below.alloc (Below.alloc (Below.refl w0.heap.size w0) (Nat.le_refl _) o) (by simp) o').cell (p := ⟨M, 0, none⟩) hM0).trans hcv0
  have gA : Below w0.heap.size w0 (w0.alloc (.cells #[] 27)).drew := (Below.alloc (Below.refl w0.heap.size w0) (Nat.le_refl _) _).drew
  have gB : Below w0.heap.size w0 ((w0.alloc (.cells #[] 27)).alloc (.cells #[] 5)).drew := (Below.alloc (Below.alloc (Below.refl w0.heap.size w0) (Nat.le_refl _) _) (by simp) _).drew
  have gC : Below w0.heap.size w0 ((w0.alloc (.cells #[] 5)).alloc (.cells #[] 27)).drew := (Below.alloc (Below.alloc (Below.refl w0.heap.size w0) (Nat.le_refl _) _) (by simp) _).drew
  have oA := Lib.hid (show ((w0.alloc (.cells #[] 27)).drew).ownsRow w0.heap.size 27 1 (.slice (some ⟨w0.heap.size, 0, none⟩) 0 0) 0 [] from lit_own w0 27)
  have oB := Lib.hid (show (((w0.alloc (.cells #[] 27)).alloc (.cells #[] 5)).drew).ownsRow w0.heap.size 27 1 (.slice (some ⟨w0.heap.size, 0, none⟩) 0 0) 0 [] from (lit_own w0 27).alloc _)
  have oC := Lib.hid (show (((w0.alloc (.cells #[] 5)).alloc (.cells #[] 27)).drew).ownsRow w0.heap.size 27 1 (.slice (some ⟨w0.heap.size + 1, 0, none⟩) 0 0) 0 [] from by
    have := lit_own (w0.alloc (.cells #[] 5)) 27
    rw [World.size_alloc] at this
    exact owns_mono this (by omega))
  have bB := Lib.hid (show (((w0.alloc (.cells #[] 27)).alloc (.cells #[] 5)).drew).ownsRow w0.heap.size 5 1 (.slice (some ⟨w0.heap.size + 1, 0, none⟩) 0 0) 0 [] from by
    have := lit_own (w0.alloc (.cells #[] 27)) 5
    rw [World.size_alloc] at this
    exact owns_mono this (by omega))
  have bC := Lib.hid (show (((w0.alloc (.cells #[] 5)).alloc (.cells #[] 27)).drew).ownsRow w0.heap.size 5 1 (.slice (some ⟨w0.heap.size, 0, none⟩) 0 0) 0 [] from (lit_own w0 5).alloc _)
  have tA := Lib.hid (At.below hsrc0 gA)
  have tB := Lib.hid (At.below hsrc0 gB)
  have tC := Lib.hid (At.below hsrc0 gC)
  have hml := Lib.hid (show (y.ms.map encM).length = y.ms.length from List.length_map ..)
  have hone := encM_one y.ms
  have hk1 : 0 + y.ms.length ≤ maxLen := by unfold maxLen; omega
  have hk2 : (0 + y.ms.length) * 24 ≤ 140737488355328 := by omega
  have hk3 : 0 + bs.length ≤ maxLen := by unfold maxLen; omega
  have hk4 : (0 + bs.length) * 1 ≤ 140737488355328 := by omega
  have hk5 : y.ms.length ≤ 1000000 := by omega
  have hlb := Lib.hid (show (cB bs).length = bs.length from cB_length bs)
  have hbnil := Lib.hid ha0.nil
  have hone8 := cB_one bs
  have fin2 : ∀ (W' : World) (v2 : Value) (w2 : World), Below w0.heap.size w0 W' → (∀ k, v2.ownBlock = some k → True) → W'.grownBy w2 (some w0.heap.size) ∨ W'.grownBy w2 (some (w0.heap.size + 1)) → Below w0.heap.size w0 w2 := fun W' v2 w2 hW _ hg => by
    rcases hg with hg | hg
    · exact hW.grown hg hW.size (fun k hk => by cases hk; omega)
    · exact hW.grown hg hW.size (fun k hk => by cases hk; omega)
  replace h := Lib.hid h
  replace hat := Lib.hid hat
  replace hv := Lib.hid hv
  replace hok := Lib.hid hok
  replace hn := Lib.hid hn
  replace hs := Lib.hid hs
  replace hnil := Lib.hid hnil
  replace hw0' := Lib.hid hw0
  replace hU0 := Lib.hid hU0
  replace hO0 := Lib.hid hO0
  replace ha0 := Lib.hid ha0
  have hlen0 := Lib.hid h1
  replace gA := Lib.hid gA
  replace gB := Lib.hid gB
  replace gC := Lib.hid gC
  replace fin2 := Lib.hid fin2
  replace hsz0 := Lib.hid hsz0
  clear ha hd h1 hsrc hsrc0 hMo hcap hcap2
  go_enter Tryd.func24, Tryd.ntmps24
  go_wp2_with ((go_at_call 33; ((with_reducible refine (rway0 _).mono ?_); rintro e w' ⟨rfl, rfl⟩)))
  go_still_tail 12, (by kernel_rfl)
  change wpList _ _ _ _ _ w.drew
  clear hw0
  go_wp2_with fail
  rw [← hw0'.out]
  go_wp2_with fail
  go_region_law (first
    | ((refine stepOwn_app rfl (.tmp 53) (.tmp 59) 42 rfl w0.heap.size 27 iR (.slice none 0 0) 24 Tryd.underlying42 hR0 hR1 hR2 hR3 rfl (.slice (some ⟨w0.heap.size, 0, none⟩) 0 0) 0 [] (by simp [Act.eval, Act.put]) oA ga y.ms.length cap (y.ms.map encM) (by simp [Act.eval, Act.put]) hml tA hnil hone hk1 hk2 (by simp) ?_); intro v2 w2 ho2 hg2 hmv2; have gw2 := Lib.hid (gA.out.grown hg2.out gA.out.size (fun k hk => (by cases hk; exact Nat.le_refl _))); have hlt2 := Lib.hid (fun k hk => (World.ownsRow.lt ho2.out k hk)); have bl2 : Hid (∀ k, v2.ownBlock = some k → k < w2.heap.size) := Lib.hid (fun k hk => (World.ownsRow.lt ho2.out k hk).2); clear oA oB oC bB bC tA tB tC)
    | ((refine stepOwn_app rfl (.tmp 53) (.tmp 59) 42 rfl w0.heap.size 27 iR (.slice none 0 0) 24 Tryd.underlying42 hR0 hR1 hR2 hR3 rfl (.slice (some ⟨w0.heap.size, 0, none⟩) 0 0) 0 [] (by simp [Act.eval, Act.put]) oB ga y.ms.length cap (y.ms.map encM) (by simp [Act.eval, Act.put]) hml tB hnil hone hk1 hk2 (by first | (simp; done) | (simp; omega)) ?_); intro v2 w2 ho2 hg2 hmv2; have gw2 := Lib.hid (gB.out.grown hg2.out gB.out.size (fun k hk => (by cases hk; exact Nat.le_refl _))); have bl2 : Hid (w2.ownsRow w0.heap.size 5 1 (.slice (some ⟨w0.heap.size + 1, 0, none⟩) 0 0) 0 [] ∧ ∀ k, v2.ownBlock = some k → k ≠ w0.heap.size + 1) := Lib.hid ⟨ownsRow_other bB.out hg2.out (apart_of (by omega)), (moved_ne hmv2.out (by omega) (by first | (simp; done) | (simp; omega)))⟩; clear oA oB oC bB bC tA tB tC)
    | ((refine stepOwn_app rfl (.tmp 53) (.tmp 59) 42 rfl w0.heap.size 27 iR (.slice none 0 0) 24 Tryd.underlying42 hR0 hR1 hR2 hR3 rfl (.slice (some ⟨w0.heap.size + 1, 0, none⟩) 0 0) 0 [] (by simp [Act.eval, Act.put]) oC ga y.ms.length cap (y.ms.map encM) (by simp [Act.eval, Act.put]) hml tC hnil hone hk1 hk2 (by first | (simp; done) | (simp; omega)) ?_); intro v2 w2 ho2 hg2 hmv2; have gw2 := Lib.hid (gC.out.grown hg2.out gC.out.size (fun k hk => (World.ownsRow.lt oC.out k hk).1)); have bl2 : Hid (w2.ownsRow w0.heap.size 5 1 (.slice (some ⟨w0.heap.size, 0, none⟩) 0 0) 0 [] ∧ ∀ k, v2.ownBlock = some k → k ≠ w0.heap.size) := Lib.hid ⟨ownsRow_other bC.out hg2.out (apart_of (by omega)), (moved_ne hmv2.out (by omega) (by first | (simp; done) | (simp; omega)))⟩; clear oA oB oC bB bC tA tB tC)
    | ((refine stepOwn_app rfl (.tmp 61) (.tmp 62) 27 rfl w0.heap.size 5 iB (.int .u8 0) 1 Tryd.underlying27 hB0 hB1 hB2 hB3 rfl (.slice (some ⟨w2.heap.size, 0, none⟩) 0 0) 0 [] (by simp [Act.eval, Act.put]) (Lib.hid (owns_mono (lit_own w2 5) gw2.out.size)) a bs.length c (cB bs) (by simp [Act.eval, Act.put]) hlb (Lib.hid (At.ofB (ha0.out.below (gw2.out.alloc gw2.out.size _)).row)) hbnil hone8 hk3 hk4 (by have := gw2.out.size; simp; omega) ?_); intro v3 w3 ho3 hg3 hmv3; have gw3 := Lib.hid ((gw2.out.alloc gw2.out.size _).grown hg3.out (by have := gw2.out.size; simp; omega) (fun k hk => (by cases hk; exact gw2.out.size))); have ho23 := Lib.hid (ownsRow_other (World.ownsRow.alloc ho2.out (.cells #[] 5)) hg3.out (fun k h1 h2 => (by cases h1; exact Nat.lt_irrefl _ (bl2.out _ h2)))); obtain ⟨g3, c3, hv3, ho3'⟩ := bytes_form ho3.out hlen0.out.1; subst hv3; have ho23' : Hid (w3.ownsRow w0.heap.size 27 1 v2 y.ms.length (y.ms.map encM)) := Lib.hid (by simpa using ho23.out); replace ho3' := Lib.hid ho3'; have hap3 : Hid (∀ k, v2.ownBlock = some k → k ≠ g3) := Lib.hid (fun k hk e => (by have h1 := bl2.out k hk; rcases moved_cases hmv3.out with e' | e' <;> first | omega | (simp at e'; omega))); clear ho3 ho23 hmv3; clear hlt2 bl2 ho2 hg3 hmv2 hg2)
    | ((refine stepOwn_app rfl (.tmp 61) (.tmp 62) 27 rfl w0.heap.size 5 iB (.int .u8 0) 1 Tryd.underlying27 hB0 hB1 hB2 hB3 rfl _ 0 [] (by simp [Act.eval, Act.put]) (Lib.hid bl2.out.1) a bs.length c (cB bs) (by simp [Act.eval, Act.put]) hlb (Lib.hid (At.ofB (ha0.out.below gw2.out).row)) hbnil hone8 hk3 hk4 gw2.out.size ?_); intro v3 w3 ho3 hg3 hmv3; have gw3 := Lib.hid (gw2.out.grown hg3.out gw2.out.size (fun k hk => (World.ownsRow.lt bl2.out.1 k hk).1)); have ho23 := Lib.hid (ownsRow_other ho2.out hg3.out (fun k h1 h2 => bl2.out.2 k h2 (by simpa [Value.ownBlock] using h1.symm))); obtain ⟨g3, c3, hv3, ho3'⟩ := bytes_form ho3.out hlen0.out.1; subst hv3; have ho23' : Hid (w3.ownsRow w0.heap.size 27 1 v2 y.ms.length (y.ms.map encM)) := Lib.hid (by simpa using ho23.out); replace ho3' := Lib.hid ho3'; have hap3 : Hid (∀ k, v2.ownBlock = some k → k ≠ g3) := Lib.hid (fun k hk e => (by have h1 := bl2.out.2 k hk; have h2 := (World.ownsRow.lt ho2.out k hk).2; rcases moved_cases hmv3.out with e' | e' <;> omega)); clear ho3 ho23 hmv3; clear bl2 ho2 hg3 hmv2 hg2)
    | ((refine stepW_app1 rfl (.tmp 60) (.tmp 64) rfl w0.heap.size v2 y.ms.length (y.ms.map encM) (by simp [Act.eval, Act.put]) ho23' (.slice (some ⟨g3, 0, none⟩) bs.length c3) rfl (by simp [Act.eval, Act.put]) hk5 gw3.out.size ?_); intro v4 w4 ho4 hg4 hmv4; obtain ⟨g4, c4, hv4⟩ := owns_form ho4.out; subst hv4; have hb4 := Lib.hid (gw3.out.grown hg4.out gw3.out.size (fun k hk => (World.ownsRow.lt ho23'.out k hk).1)); have hat4 := Lib.hid ((hb4.out.block M hM0).trans hU0.out.here); have hcv4 : w4.cell? ⟨M, 0, none⟩ = some (.slice ga y.ms.length cap) := (by rw [cell_of_block hat4.out]; simp [rcells, hv.out]); have hfv4 : w4.frozen? ⟨M, 0, none⟩ = false := free_of_block hat4.out _))
  all_goals
    go_wp2_with fail
    go_ret
    have hU5 := (Upd.refl hat4.out).setCell (j := 0) (.slice (some ⟨g4, 0, none⟩) (y.ms.length + 1) c4)
    have hO4 : Only (fun k => k = M) w w4 := hO0.out.trans (Only.ofBelow (D := fun k => k = M) hb4.out) fun _ _ h => h
    have hO45 : Only (fun k => k = M) w4 _ := Only.ofUpd hU5 rfl
    have hO5 := hO4.trans hO45 fun _ _ h => h
    have hs40 := hsz0.out
    have hgM : ∀ k, w0.heap.size ≤ k → ¬ k = M := fun k hk e => by omega
    have h4 := hO45.owns ho4.out fun k hk => hgM k (World.ownsRow.lt ho4.out k hk).1
    have h3 : OwnB w0.heap.size w4 _ _ := ho3'.out.kept hg4.out (by
      cases hq : v2.ownBlock with
      | none => exact .inr (fun e => by simp [Value.ownBlock] at e)
      | some k => exact .inr (fun e => by simp [Value.ownBlock] at e; exact hap3.out k hq e.symm))
    have h5 := hO45.owns h3 fun k hk => hgM k (World.ownsRow.lt h3 k hk).1
    have hnew := rrow_ok h.out hok.out hn.out hb hO5 (v' := .slice (some ⟨g4, 0, none⟩) (y.ms.length + 1) c4) (ms' := y.ms ++ [⟨g3, c3, bs⟩]) (by simpa [encM] using owns_mono h4 (by omega)) (fun m hm => by
      rcases List.mem_append.1 hm with hm | hm
      · exact .inl hm
      · obtain rfl : m = ⟨g3, c3, bs⟩ := by simpa using hm
        exact .inr ⟨hlen0.out.1, hlen0.out.2, owns_mono h5 (by omega)⟩) (y.i + 1) y.o y.l
    exact ⟨rfl, _, _, RStep.of0 h.out hO5 hnew (hU5.to rfl).here, rfl, rfl, rfl, rfl, rfl⟩

end Go.Proofs.YtejkajlbffkdnaaDoor
