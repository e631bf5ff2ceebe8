/- Walks over wire: Send, Double, for both ways. (Printed by n24/on/gensend.py.) -/
import Derived.Test.YtejkajlbffkdnaaDoorWire4
import Derived.Test.YtejkajlbffkdnaaDoorWireApp
namespace Go.Proofs.YtejkajlbffkdnaaDoor
open Go.RowKit

set_option maxRecDepth 100000 in
set_option maxHeartbeats 4000000 in
theorem wsend1 (base W : Nat) (T : TypeId) (y z : Way) (w : World) (h : Wire base w W T y z) (hb : base ≤ w.heap.size) (hs : Small z) (hl : z.ms.length < 64) (a : Option Addr) (c : Nat) (bs : List UInt8) (ha : ArgB w a c bs) (hd : ∀ b o, a = some ⟨b, o, none⟩ → b ≠ W) (h1 : 0 < bs.length ∧ bs.length ≤ 8000) :
    Calls Tryd.prog 8 #[.pointer (some ⟨W, 0, none⟩), .int .i64 1, .slice a bs.length c] w fun x w' => x = .returned .nilIface ∧ ∃ x' m, WStep base w w' W T y z y x' ∧ x'.i = z.i + 1 ∧ x'.o = z.o ∧ x'.l = z.l ∧ x'.ms = z.ms ++ [m] ∧ m.bs = bs := by
  have hok := h.ok1
  have hnW := h.n1
  obtain ⟨ga, cap, hv, hcap, hcap2⟩ := hok.form
  have hat := h.at_
  have hWl := block_lt hat
  have hc0 : w.cell? ⟨W, 4, none⟩ = some (.int .i64 z.i) := h.c 4
  have hc3 : w.cell? ⟨W, 7, none⟩ = some (.slice ga z.ms.length cap) := by rw [h.c]; simp [wcells, hv]
  have hf0 := h.f 4
  have hf3 := h.f 7
  have hwi : IntKind.i64.wrap (z.i + 1) = z.i + 1 := IntWalk.i64_in _ (by have := hs.i; omega)
  have hlen1 : ¬ ((bs.length : Int) = 0) := by omega
  have hlen2 : (bs.length : Int) ≤ 8000 := by omega
  have hln : ¬ (64 ≤ (z.ms.length : Int)) := by omega
  obtain ⟨w0, hw0⟩ : ∃ w0, w0 = w.setCell ⟨W, 4, none⟩ (.int .i64 (z.i + 1)) := ⟨_, rfl⟩
  have hU0 := (Upd.refl hat).setCell (j := 4) (.int .i64 (z.i + 1))
  rw [← hw0] at hU0
  have hO0 : Only (fun k => k = W) w w0 := Only.ofUpd hU0 rfl
  have ha0 : ArgB w0 a c bs := hO0.argB ha hd
  have hWy : ∀ k, z.v.ownBlock = some k → ¬ k = W := fun k hk e => hnW (by subst e; simp [Way.blks, hk])
  have hown0 := hO0.owns hok.own hWy
  rw [hv] at hown0
  have hb0 : w.heap.size ≤ w0.heap.size := hO0.size
  have hcl := Lib.hid (clone_pos a c bs w0.drew (ha0.below (Drawn.below ⟨1, rfl⟩ _)) h1.1 (by omega))
  have hc3 : w0.cell? ⟨W, 7, none⟩ = some (.slice ga z.ms.length cap) := by rw [cell_of_block hU0.here]; simp [wcells, hv]
  have hnl : z.ms.length ≤ 1000000 := by omega
  have hga : ∀ k, (Value.slice ga z.ms.length cap).ownBlock = some k → ¬ k = W := by rw [← hv]; exact hWy
  replace h := Lib.hid h
  replace hat := Lib.hid hat
  replace hU0 := Lib.hid hU0
  replace hO0 := Lib.hid hO0
  replace hv := Lib.hid hv
  replace hok := Lib.hid hok
  replace hown0 := Lib.hid hown0
  replace hga := Lib.hid hga
  replace hnW := Lib.hid hnW
  replace hs := Lib.hid hs
  have hlen0 := Lib.hid h1
  clear ha hd hWy ha0 h1
  go_enter Tryd.func8, Tryd.ntmps8
  go_wp2_with ((go_at_call 19; ((with_reducible refine (wrow1 _ _).mono ?_); rintro e w' ⟨rfl, hq⟩; obtain rfl := hq.symm; clear hq)))
  rw [← hw0]
  replace hw0 := Lib.hid hw0
  go_region_law (first
    | (go_simp; go_at_call 20; (with_reducible refine hcl.out.mono ?_); rintro e w1 ⟨g1, c1, rfl, hm1, hnew⟩; have hc31 : w1.cell? ⟨W, 7, none⟩ = some (.slice ga z.ms.length cap) := (hnew.cell (p := ⟨W, 7, none⟩) (by show W < w0.heap.size; omega)).trans hc3; have hc31a : ∀ o, (w1.alloc o).cell? ⟨W, 7, none⟩ = some (.slice ga z.ms.length cap) := (fun o => ((Below.alloc (Below.refl w1.heap.size w1) (Nat.le_refl _) o).cell (p := ⟨W, 7, none⟩) (World.block_lt_of_cell? w1 _ hc31)).trans hc31); have hown1 := Lib.hid ((Only.ofBelow (D := fun _ => False) hnew).owns hown0.out (fun _ _ h => h)); have hat1 := Lib.hid ((hnew.block W (by show W < w0.heap.size; omega)).trans hU0.out.here); have hsz1 : w0.heap.size ≤ w1.heap.size := hnew.size; have hbs1 : base ≤ w1.heap.size := (by omega); replace hm1 := Lib.hid hm1; replace hnew := Lib.hid hnew; clear hcl)
    | ((refine stepW_app1 rfl (.tmp 54) (.tmp 57) rfl base _ z.ms.length _ (by simp [Act.eval, Act.put]) hown1 (.slice (some ⟨g1, 0, none⟩) bs.length c1) rfl (by simp [Act.eval, Act.put]) hnl hbs1 ?_); intro v2 w2 ho2 hg2 hmv2; obtain ⟨g2, c2, hv2⟩ := owns_form ho2.out; subst hv2; have hat2 := Lib.hid ((hg2.out.block W (by omega) (fun e => hga.out W e.symm rfl)).trans hat1.out); have hc32 : w2.cell? ⟨W, 7, none⟩ = some (.slice ga z.ms.length cap) := (by rw [cell_of_block hat2.out]; simp [wcells, hv.out]); have hf32 : w2.frozen? ⟨W, 7, none⟩ = false := free_of_block hat2.out _))
  all_goals
    go_wp2_with fail
    go_ret
    have hU3 := (Upd.refl hat2.out).setCell (j := 7) (.slice (some ⟨g2, 0, none⟩) (z.ms.length + 1) c2)
    have hO3 : Only (fun k => k = W) w2 _ := Only.ofUpd hU3 rfl
    have hOw1 : Only (fun k => k = W) w w1 := (hO0.out.trans (Only.ofDrawn (D := fun k => k = W) ⟨1, rfl⟩) fun _ _ h => h).trans (Only.ofBelow (D := fun k => k = W) hnew.out) fun _ _ h => h
    have hap := app_ok (m := ⟨g1, c1, bs⟩) hok.out hb hlen0.out hOw1 (owns_mono hm1.out hb0) ho2.out (by rw [hv.out]; exact hg2.out) (by rw [hv.out]; exact hmv2.out) hO3 hnW.out hWl (z.i + 1) z.o z.l
    exact ⟨rfl, _, _, WStep.ofUpd1 h.out hb hap (hU3.to rfl).here, rfl, rfl, rfl, rfl, rfl⟩

set_option maxHeartbeats 400000 in
theorem wsend_size1 (W : Nat) (a : Option Addr) (c : Nat) (w : World) (e : Nat → Addr) (hE : WErr w e) : Calls Tryd.prog 8 #[.pointer (some ⟨W, 0, none⟩), .int .i64 1, .slice a 0 c] w fun x w' => x = .returned (.iface 85 (.pointer (some (e 2)))) ∧ w = w' := by
  have hk := hE.size
  go_enter Tryd.func8, Tryd.ntmps8
  go_wp2_with ((go_at_call 19; ((with_reducible refine (wrow1 _ _).mono ?_); rintro e w' ⟨rfl, hq⟩; obtain rfl := hq.symm; clear hq)))
  go_ret
  exact ⟨rfl, rfl⟩
set_option maxHeartbeats 400000 in
theorem wsend_long1 (W : Nat) (a : Option Addr) (l c : Nat) (hl : 8000 < l) (w : World) (e : Nat → Addr) (hE : WErr w e) : Calls Tryd.prog 8 #[.pointer (some ⟨W, 0, none⟩), .int .i64 1, .slice a l c] w fun x w' => x = .returned (.iface 85 (.pointer (some (e 3)))) ∧ w = w' := by
  have hk := hE.long
  have h1 : ¬ ((l : Int) = 0) := by omega
  have h2 : (8000 : Int) < (l : Int) := by omega
  clear hl
  go_enter Tryd.func8, Tryd.ntmps8
  go_wp2_with ((go_at_call 19; ((with_reducible refine (wrow1 _ _).mono ?_); rintro e w' ⟨rfl, hq⟩; obtain rfl := hq.symm; clear hq)))
  go_ret
  exact ⟨rfl, rfl⟩
set_option maxHeartbeats 400000 in
theorem wsend_full1 (base W : Nat) (T : TypeId) (y z : Way) (w : World) (h : Wire base w W T y z) (hb : base ≤ w.heap.size) (hs : Small z) (hl : 64 ≤ z.ms.length) (a : Option Addr) (l c : Nat) (h1 : 0 < l ∧ l ≤ 8000) (e : Nat → Addr) (hE : WErr w e) (hge : 12 ≤ base) :
    Calls Tryd.prog 8 #[.pointer (some ⟨W, 0, none⟩), .int .i64 1, .slice a l c] w fun x w' => x = .returned (.iface 85 (.pointer (some (e 4)))) ∧ ∃ x', WStep base w w' W T y z y x' ∧ x'.i = z.i + 1 ∧ x'.o = z.o ∧ x'.l = z.l + 1 ∧ x'.ms = z.ms := by
  have hok := h.ok1
  have hnW := h.n1
  obtain ⟨ga, cap, hv, hcap, hcap2⟩ := hok.form
  have hat := h.at_
  have hWl := block_lt hat
  have hc0 : w.cell? ⟨W, 4, none⟩ = some (.int .i64 z.i) := h.c 4
  have hc2 : w.cell? ⟨W, 6, none⟩ = some (.int .i64 z.l) := h.c 6
  have hc3 : w.cell? ⟨W, 7, none⟩ = some (.slice ga z.ms.length cap) := by rw [h.c]; simp [wcells, hv]
  have hf0 := h.f 4
  have hf2 := h.f 6
  have hk := hE.full
  have hWge := h.ge
  have hgW : ¬ (3 = W) := by omega
  have hgW2 : ¬ (W = 3) := by omega
  have hwi : IntKind.i64.wrap (z.i + 1) = z.i + 1 := IntWalk.i64_in _ (by have := hs.i; omega)
  have hwl : IntKind.i64.wrap (z.l + 1) = z.l + 1 := IntWalk.i64_in _ (by have := hs.l; omega)
  have hlen1 : ¬ ((l : Int) = 0) := by omega
  have hlen2 : (l : Int) ≤ 8000 := by omega
  have hln : 64 ≤ (z.ms.length : Int) := by omega
  replace h := Lib.hid h
  replace hat := Lib.hid hat
  replace hv := Lib.hid hv
  replace hok := Lib.hid hok
  replace hnW := Lib.hid hnW
  clear hcap hcap2 h1 hl hs
  go_enter Tryd.func8, Tryd.ntmps8
  go_wp2_with ((go_at_call 19; ((with_reducible refine (wrow1 _ _).mono ?_); rintro e w' ⟨rfl, hq⟩; obtain rfl := hq.symm; clear hq)))
  go_ret
  have hU := ((Upd.refl hat.out).setCell (j := 4) (.int .i64 (z.i + 1))).setCell (j := 6) (.int .i64 (z.l + 1))
  have hno := nums_ok hok.out (Only.ofUpd (D := fun k => k = W) hU rfl) hnW.out (z.i + 1) z.o (z.l + 1)
  exact ⟨rfl, _, WStep.ofUpd1 h.out hb hno (hU.to rfl).here, rfl, rfl, rfl, rfl⟩
set_option maxHeartbeats 400000 in
theorem wdouble_full1 (W i : Nat) (a : Option Addr) (m c : Nat) (w : World) (h : w.cell? ⟨W, 7, none⟩ = some (.slice a m c)) (hi : i < m) (hl : 64 ≤ m) (e : Nat → Addr) (hE : WErr w e) :
    Calls Tryd.prog 11 #[.pointer (some ⟨W, 0, none⟩), .int .i64 1, .int .i64 i] w fun x w' => x = .returned (.iface 85 (.pointer (some (e 4)))) ∧ w = w' := by
  have hmsg := Lib.hid (wmsg_yes1 W i a m c w h hi)
  have hk := hE.full
  have hln : 64 ≤ (m : Int) := by omega
  go_enter Tryd.func11, Tryd.ntmps11
  go_wp2_with fail
  with_reducible refine hmsg.out.mono ?_
  rintro x w2 ⟨rfl, hq⟩
  obtain rfl := hq.symm
  clear hq hmsg
  go_wp2_with fail
  go_ret
  exact ⟨rfl, rfl⟩
set_option maxRecDepth 100000 in
set_option maxHeartbeats 4000000 in
theorem wdouble1 (base W i : Nat) (T : TypeId) (y z : Way) (w : World) (h : Wire base w W T y z) (hb : base ≤ w.heap.size) (hs : Small z) (hl : z.ms.length < 64) (hi : i < z.ms.length) :
    Calls Tryd.prog 11 #[.pointer (some ⟨W, 0, none⟩), .int .i64 1, .int .i64 i] w fun x w' => x = .returned .nilIface ∧ ∃ x' m, WStep base w w' W T y z y x' ∧ x'.i = z.i + 1 ∧ x'.o = z.o ∧ x'.l = z.l ∧ x'.ms = z.ms ++ [m] ∧ m.bs = (z.ms[i]).bs := by
  have hok := h.ok1
  have hnW := h.n1
  obtain ⟨g, cap, hv⟩ := hok.form1 (by omega)
  have hgb := mem_blks_v hv
  have hgW : ¬ g = W := fun e => hnW (e ▸ hgb)
  have hat := h.at_
  have hWl := block_lt hat
  have hc3 : w.cell? ⟨W, 7, none⟩ = some (.slice (some ⟨g, 0, none⟩) z.ms.length cap) := by rw [h.c]; simp [wcells, hv]
  have hcm : w.cell? ⟨g, i, none⟩ = some (.slice (some ⟨(z.ms[i]).b, 0, none⟩) (z.ms[i]).bs.length (z.ms[i]).cap) := hok.cell hv i hi
  have hmsg := Lib.hid (wmsg_yes1 W i (some ⟨g, 0, none⟩) z.ms.length cap w hc3 hi)
  have hwi : IntKind.i64.wrap (z.i + 1) = z.i + 1 := IntWalk.i64_in _ (by have := hs.i; omega)
  have hln : ¬ (64 ≤ (z.ms.length : Int)) := by omega
  have hin : (i : Int) < z.ms.length := by omega
  obtain ⟨k1, k2, k3⟩ := hok.msg _ (List.getElem_mem hi)
  generalize (z.ms[i]) = M at *
  obtain ⟨mb, mc, bs⟩ := M
  simp only [encM] at k1 k2 k3 hcm ⊢
  have ham : ArgB w.drew (some ⟨mb, 0, none⟩) mc bs := by
    obtain ⟨a3, c3, e3, ha3, _⟩ := OwnB.arg k3
    cases e3
    exact ha3.below (Drawn.below ⟨1, rfl⟩ _)
  have hown := hok.own
  rw [hv] at hown
  have hcl := Lib.hid (clone_pos (some ⟨mb, 0, none⟩) mc bs w.drew ham k1 (by omega))
  have hnl : z.ms.length ≤ 1000000 := by omega
  have hlen0 := Lib.hid (And.intro k1 k2)
  have hown0 := Lib.hid (hown)
  replace h := Lib.hid h
  replace hat := Lib.hid hat
  replace hv := Lib.hid hv
  replace hok := Lib.hid hok
  replace hnW := Lib.hid hnW
  replace hs := Lib.hid hs
  replace hgW := Lib.hid hgW
  clear k1 k2 k3 ham hown hgb
  go_enter Tryd.func11, Tryd.ntmps11
  go_wp2_with fail
  with_reducible refine hmsg.out.mono ?_
  rintro x w2 ⟨rfl, hq⟩
  obtain rfl := hq.symm
  clear hq hmsg
  go_wp2_with fail
  go_region_law (first
    | (go_simp; go_at_call 20; (with_reducible refine hcl.out.mono ?_); rintro e w1 ⟨g1, c1, rfl, hm1, hnew⟩; have hc31 : w1.cell? ⟨W, 7, none⟩ = some (.slice (some ⟨g, 0, none⟩) z.ms.length cap) := (hnew.cell (p := ⟨W, 7, none⟩) (by show W < w.heap.size; omega)).trans hc3; have hc31a : ∀ o, (w1.alloc o).cell? ⟨W, 7, none⟩ = some (.slice (some ⟨g, 0, none⟩) z.ms.length cap) := (fun o => ((Below.alloc (Below.refl w1.heap.size w1) (Nat.le_refl _) o).cell (p := ⟨W, 7, none⟩) (World.block_lt_of_cell? w1 _ hc31)).trans hc31); have hown1 := Lib.hid ((Only.ofBelow (D := fun _ => False) hnew).owns hown0.out (fun _ _ h => h)); have hat1 := Lib.hid ((hnew.block W (by show W < w.heap.size; omega)).trans hat.out); have hsz1 : w.heap.size ≤ w1.heap.size := hnew.size; have hbs1 : base ≤ w1.heap.size := (by omega); replace hm1 := Lib.hid hm1; replace hnew := Lib.hid hnew; clear hcl)
    | ((refine stepW_app1 rfl (.tmp 32) (.tmp 41) rfl base _ z.ms.length _ (by simp [Act.eval, Act.put]) hown1 (.slice (some ⟨g1, 0, none⟩) bs.length c1) rfl (by simp [Act.eval, Act.put]) hnl hbs1 ?_); intro v2 w2 ho2 hg2 hmv2; obtain ⟨g2, c2, hv2⟩ := owns_form ho2.out; subst hv2; have hat2 := Lib.hid ((hg2.out.block W (by omega) (fun e => hgW.out (by cases e; rfl))).trans hat1.out); have hc32 : w2.cell? ⟨W, 7, none⟩ = some (.slice (some ⟨g, 0, none⟩) z.ms.length cap) := (by rw [cell_of_block hat2.out]; simp [wcells, hv.out]); have hc30 : w2.cell? ⟨W, 4, none⟩ = some (.int .i64 z.i) := (by rw [cell_of_block hat2.out]; rfl); have hf30 : w2.frozen? ⟨W, 4, none⟩ = false := free_of_block hat2.out _; have hf32 : w2.frozen? ⟨W, 7, none⟩ = false := free_of_block hat2.out _))
  all_goals
    go_wp2_with fail
    go_ret
    have hU3 := ((Upd.refl hat2.out).setCell (j := 7) (.slice (some ⟨g2, 0, none⟩) (z.ms.length + 1) c2)).setCell (j := 4) (.int .i64 (z.i + 1))
    have hO3 : Only (fun k => k = W) w2 _ := Only.ofUpd hU3 rfl
    have hOw1 : Only (fun k => k = W) w w1 := (Only.ofDrawn (D := fun k => k = W) ⟨1, rfl⟩).trans (Only.ofBelow (D := fun k => k = W) hnew.out) fun _ _ h => h
    have hap := app_ok (m := ⟨g1, c1, bs⟩) hok.out hb hlen0.out hOw1 hm1.out ho2.out (by rw [hv.out]; exact hg2.out) (by rw [hv.out]; exact hmv2.out) hO3 hnW.out hWl (z.i + 1) z.o z.l
    exact ⟨rfl, _, _, WStep.ofUpd1 h.out hb hap (hU3.to rfl).here, rfl, rfl, rfl, rfl, rfl⟩

end Go.Proofs.YtejkajlbffkdnaaDoor
