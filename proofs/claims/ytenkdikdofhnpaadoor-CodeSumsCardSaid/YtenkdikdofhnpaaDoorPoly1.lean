/- Walks over poly: Degree, Trim; slices.Clone. -/
import Derived.Test.YtenkdikdofhnpaaDoorBack
import Derived.Test.YtenkdikdofhnpaaDoorPolyL
import Derived.Lib.LazyBuf
namespace Go.Proofs.YtenkdikdofhnpaaDoor
open Go.RowKit Go.Shelf

theorem Tryd.infoByteP : (Tryd.prog.info? 5).map (fun i => (i.zero, i.size, i.bytes)) = some (some (.int .u8 0), 1, 1) := by kernel_rfl

section
attribute [local go_sem] Oper.semAt_some
set_option maxRecDepth 100000 in
set_option maxHeartbeats 2000000 in
theorem degree_any (a : Option Addr) (cap : Nat) (bs : List UInt8) (w : World) (h : RowB w a bs) (hr : bs.length ≤ 1000000) :
    Calls Tryd.prog 42 #[.slice a bs.length cap] w fun e W' => e = .returned (.int .i64 ((tlen bs : Int) - 1)) ∧ Below w.heap.size w W' := by
  refine (callsIn_wide (n := 3)).1 ?_
  refine callsIn_of_wp_marks Tryd.func42 rfl trivial ?_ rfl
  simp only [Tryd.ntmps42, List.size_toArray, List.length_cons, List.length_nil, Nat.reduceAdd, Nat.reduceSub, Array.replicate_succ, Array.replicate_zero, List.push_toArray, List.append_toArray, List.nil_append, List.cons_append]
  gi_wp2_with (refine ⟨trivial, ?_⟩; gi_at_call 44; refine (back_in Fence.wide _ trivial rfl _ _ _ _).mono ?_; rintro e w' ⟨rfl, rfl⟩)
  have bR := Boxed.new w 3 (.int .i64 0)
  have bN := Boxed.new (w.alloc (.cells #[.int .i64 0] 3)) 22 (.slice a bs.length cap)
  rw [World.size_alloc] at bN
  have hB0 : Below w.heap.size w ((w.alloc (.cells #[.int .i64 0] 3)).alloc (.cells #[.slice a bs.length cap] 22)) := ((Below.refl _ w).alloc (Nat.le_refl _) _).alloc (by simp) _
  refine wpIn_rangeFunc_ownG (n := 3) rfl (by decide) (gf := 45) (lb := #[.pointer (some ⟨w.heap.size + 1, 0, none⟩)]) rfl trivial (enters_of Tryd.func45 (by kernel_rfl) rfl)
    (back_stops Fence.wide (3 - 1) trivial rfl (by decide) (w.heap.size + 1) w.heap.size a cap bs hr _ (by simp; omega) bN ((RowB.rowN h).below hB0)) keepB_t (keepB_b (by simp; omega) (by simp)) (Below.refl _ _) (fun _ => rfl)
    (fun pre W => ((∀ p ∈ pre, p.2 = 0) ∧ W.cell? ⟨w.heap.size, 0, none⟩ = some (.int .i64 0) ∧ W.frozen? ⟨w.heap.size, 0, none⟩ = false) ∧ Below w.heap.size w W)
    (fun c pre W => (c = .ret ∧ ∃ ini last, pre = ini ++ [last] ∧ (∀ p ∈ ini, p.2 = 0) ∧ last.2 ≠ 0 ∧ W.cell? ⟨w.heap.size, 0, none⟩ = some (.int .i64 (last.1 : Int))) ∧ Below w.heap.size w W)
    (OwnFrom.and (Own.from (fun s A B row hs hg hr => ⟨hs.1, cell_kept hs.2.1 hg hr, (frozen_kept hs.2.1 hg hr).trans hs.2.2⟩) _) (ownFrom_below (Nat.le_refl _) (by simp; omega)))
    (fun c => OwnFrom.and (Own.from (fun s A B row hs hg hr => by obtain ⟨hc, ini, last, e1, e2, e3, e4⟩ := hs; exact ⟨hc, ini, last, e1, e2, e3, cell_kept e4 hg hr⟩) _) (ownFrom_below (Nat.le_refl _) (by simp; omega)))
    ⟨⟨by simp, (bR.alloc _).cell, (bR.alloc _).frozen⟩, hB0⟩
    (fun x => { tmps := #[.slice a bs.length cap, undef, .pointer (some ⟨w.heap.size, 0, none⟩), .int .i64 (x.1 : Int), .int .u8 (x.2.toNat : Int), .slice a bs.length cap, .func (.func 45) #[] #[.pointer (some ⟨w.heap.size + 1, 0, none⟩)], .int .i64 (x.1 : Int), .int .u8 (x.2.toNat : Int), undef, undef, undef], defers := [] }) ?assign ?body ?done ?stop
  case assign =>
    intro l x W K hK
    gi_wp2
    exact hK
  case body =>
    rintro l pre x W ⟨⟨hp, hcr, hfr⟩, hB⟩ _
    by_cases hx : x.2 = 0
    · have hx' : ((x.2.toNat : Int) != 0) = false := by rw [hx]; rfl
      gi_wp2
      exact ⟨KeepsFrom.refl _ _, KeepB.refl _ _ _, ⟨fun p hp' => (List.mem_append.1 hp').elim (hp p) (fun e => by simp at e; subst e; exact hx), hcr, hfr⟩, hB⟩
    · have hx' : ((x.2.toNat : Int) != 0) = true := by
        rw [bne_iff_ne]
        intro h
        exact hx (UInt8.toNat_inj.1 (by rw [show (0 : UInt8).toNat = 0 from rfl]; omega))
      gi_wp2
      exact ⟨(KeepsOthers.setCell _ _ _).from _, ⟨rfl, pre, x, rfl, hp, hx, World.cell?_setCell_same' _ _ _ (by rw [hcr]; rfl)⟩, hB.setCell (p := ⟨w.heap.size, 0, none⟩) (Nat.le_refl _) _⟩
  case done =>
    rintro D ys W hD rfl ⟨⟨hne, hcr, hfr⟩, hB⟩ hK
    have ht : tlen bs = 0 := tlen_eq (fun i _ => by
      by_cases hi : i < bs.length
      · have := hne (backAt bs (bs.length - 1 - i)) (by simp only [upto, List.mem_map, List.mem_range]; exact ⟨_, by omega, rfl⟩)
        unfold backAt at this
        rw [show bs.length - 1 - (bs.length - 1 - i) = i from by omega] at this
        exact this
      · exact cf_ge (Nat.le_of_not_lt hi)) (.inl rfl)
    gi_wp2
    have hK' := (KeepsOthers.setCell W ⟨w.heap.size, 0, none⟩ (.int .i64 (-1))).same D _ hK rfl
    refine ⟨by simp, .inl ⟨_, _, rfl, run_takeDeferred hK', ?_⟩⟩
    have hc5 := cell_kept (World.cell?_setCell_same' W ⟨w.heap.size, 0, none⟩ (.int .i64 (-1)) (by rw [hcr]; rfl)) (grownBy_putObj' _ D (.deferred none)) (fun r e => by cases e; exact ⟨_, hK', rfl⟩)
    refine ⟨.int .i64 (-1), ?_, by rw [ht]; rfl, (hB.setCell (p := ⟨w.heap.size, 0, none⟩) (Nat.le_refl _) _).trans (belowK_b (w := w) (Nat.le_refl _) _ D _ _ (by simp at hD; omega) hK' rfl rfl)⟩
    simp [results, Tryd.f42, go_sem, hc5]
  case stop =>
    rintro D c pre W hD ⟨k, hk, rfl⟩ ⟨⟨rfl, ini, last, e1, e2, e3, hcr⟩, hB⟩ hK
    gi_wp2
    refine ⟨by simp, .inl ⟨_, _, rfl, run_takeDeferred hK, ?_⟩⟩
    have hc5 := cell_kept hcr (grownBy_putObj' _ D (.deferred none)) (fun r e => by cases e; exact ⟨_, hK, rfl⟩)
    obtain ⟨k', rfl⟩ : ∃ k', k = k' + 1 := by
      cases k with
      | zero => simp [upto] at e1
      | succ k' => exact ⟨k', rfl⟩
    rw [upto_succ] at e1
    obtain ⟨rfl, e5⟩ := List.append_inj' e1 rfl
    obtain rfl : backAt bs k' = last := by simpa using e5
    have ht : tlen bs = bs.length - k' := tlen_eq (fun i hi => by
      by_cases hi2 : i < bs.length
      · have := e2 (backAt bs (bs.length - 1 - i)) (by simp only [upto, List.mem_map, List.mem_range]; exact ⟨_, by omega, rfl⟩)
        unfold backAt at this
        rw [show bs.length - 1 - (bs.length - 1 - i) = i from by omega] at this
        exact this
      · exact cf_ge (Nat.le_of_not_lt hi2)) (.inr (by
        unfold backAt at e3
        rw [show bs.length - k' - 1 = bs.length - 1 - k' from by omega]
        exact e3))
    have hv : ((backAt bs k').1 : Int) = (tlen bs : Int) - 1 := by
      rw [ht]; unfold backAt; simp only; omega
    rw [hv] at hc5
    refine ⟨.int .i64 ((tlen bs : Int) - 1), ?_, rfl, hB.trans (belowK_b (w := w) (Nat.le_refl _) W D _ _ (by simp at hD; omega) hK rfl rfl)⟩
    simp [results, Tryd.f42, go_sem, hc5]
end

/-- Bytes of the call's own. -/
def OwnB (base : Nat) (w : World) (v : Value) (bs : List UInt8) : Prop := w.ownsRow base 5 1 v bs.length (cB bs)
theorem OwnB.arg {base : Nat} {w : World} {v : Value} {bs : List UInt8} (h : OwnB base w v bs) : ∃ a c, v = .slice a bs.length c ∧ ArgB w a c bs ∧ ∀ b o s, a = some ⟨b, o, s⟩ → base ≤ b ∧ b < w.heap.size := by
  obtain ⟨a, c, rfl, h1, h2, h3, h4, _, h5⟩ := owns_any h
  rw [cB_length] at h2
  refine ⟨a, c, by rw [cB_length], ⟨h2, h3, h1, h4.toB⟩, h5⟩
theorem OwnB.nil (base : Nat) (w : World) : OwnB base w (.slice none 0 0) [] := ⟨rfl, .inl ⟨rfl, rfl⟩⟩

theorem OwnB.mono {base base' : Nat} {w : World} {v : Value} {bs : List UInt8} (h : OwnB base w v bs) (hb : base' ≤ base) : OwnB base' w v bs := by
  obtain ⟨h1, h2⟩ := h
  refine ⟨h1, ?_⟩
  rcases h2 with h2 | ⟨g, cap, cur, e1, e2, e3⟩
  · exact .inl h2
  · exact .inr ⟨g, cap, cur, e1, by omega, e3⟩
theorem owns_made0 (w : World) (base : Nat) (hb : base ≤ w.heap.size) : OwnB base (w.alloc (.cells #[] 5)) (.slice (some ⟨w.heap.size, 0, none⟩) 0 0) [] := by
  have h := World.ownsRow_made (base := base) (e := 5) (size := 1) w #[] 0 hb (by decide) (by simp)
  simpa [OwnB, cB] using h

set_option maxHeartbeats 1000000 in
theorem clone_any (a : Option Addr) (cap : Nat) (bs : List UInt8) (w : World) (h : ArgB w a cap bs) (hr : bs.length ≤ 1000000) :
    Calls Tryd.prog 32 #[.slice a bs.length cap] w fun e w' => ∃ v, e = .returned v ∧ OwnB w.heap.size w' v bs ∧ Below w.heap.size w w' := by
  obtain ⟨i0, hi, hz0, hz1, hz2⟩ := info_parts Tryd.infoByteP
  have h := Lib.hid h
  have hq := @Lib.run_eql_slice_nil Tryd.prog w 22 5 a bs.length cap 0 0 Tryd.underlying22
  cases a with
  | none =>
    have hc := h.out.nil rfl
    subst hc
    have hl : bs = [] := List.eq_nil_of_length_eq_zero (by have := h.out.len; omega)
    subst hl
    have hq' := @Lib.run_eql_slice_nil Tryd.prog w 22 5 none 0 0 0 0 Tryd.underlying22
    clear hq
    go_enter Tryd.func32, Tryd.ntmps32
    go_wp2_with fail
    go_ret
    exact ⟨_, rfl, OwnB.nil _ _, Below.refl _ _⟩
  | some ad =>
    have hnil := Lib.hid (show (some ad = none → cap = 0) from fun e => by cases e)
    have hlen := Lib.hid (cB_length bs)
    have hown0 := Lib.hid (owns_made0 w w.heap.size (Nat.le_refl _))
    have hb0 := Lib.hid ((Below.refl w.heap.size w).alloc (Nat.le_refl _) (.cells #[] 5))
    have hsrc := Lib.hid ((At.ofB h.out.row).below hb0.out)
    unfold OwnB at hown0
    go_enter Tryd.func32, Tryd.ntmps32
    go_wp2_with (at_builtin; go_must (refine wpList_app rfl (.tmp 5) (.tmp 6) 22 rfl w.heap.size 5 i0 (.int .u8 0) 1 Tryd.underlying22 hi hz0 hz1 hz2 (by decide) _ 0 [] rfl hown0 _ bs.length cap (cB bs) rfl hlen hsrc hnil (cB_one bs) (by unfold maxLen; omega) (by omega) (by simp) ?_))
    intro v' w2 hown2 hg2
    have hb2 := Lib.hid (hb0.out.grown hg2.out (by simp) (fun k hk => by cases hk; exact Nat.le_refl _))
    go_wp2_with fail
    go_ret
    refine ⟨_, rfl, ?_, hb2.out⟩
    have := hown2.out
    simpa [OwnB] using this

set_option maxHeartbeats 1000000 in
theorem trim_any (a : Option Addr) (cap : Nat) (bs : List UInt8) (w : World) (h : ArgB w a cap bs) (hr : bs.length ≤ 1000000) :
    Calls Tryd.prog 35 #[.slice a bs.length cap] w fun e w' => ∃ v, e = .returned v ∧ OwnB w.heap.size w' v (trim bs) ∧ Below w.heap.size w w' := by
  have hb0 := h.len
  have hb1' := h.most
  have hl := tlen_le bs
  have ht := trim_length bs
  have h := Lib.hid h
  replace ht := Lib.hid ht
  go_enter Tryd.func35, Tryd.ntmps35
  go_wp2_with fail
  refine (degree_any a cap bs _ h.out.row hr).mono ?_
  rintro e w1 ⟨rfl, hb1⟩
  replace hb1 := Lib.hid hb1
  go_wp2_with fail
  have h1 : ArgB w1 a cap (trim bs) := by
    refine ⟨by rw [ht.out]; omega, hb1', h.out.nil, ?_⟩
    have := (At.ofB (h.out.below hb1.out).row).take (tlen bs)
    apply At.toB
    rw [show cB (trim bs) = (cB bs).take (tlen bs) from by simp [cB, trim]]
    exact this
  have hc := clone_any a cap (trim bs) w1 h1 (by rw [ht.out]; omega)
  rw [ht.out] at hc
  refine hc.mono ?_
  rintro e w2 ⟨v, rfl, ho, hb2⟩
  replace ho := Lib.hid (ho.mono hb1.out.size)
  replace hb2 := Lib.hid (hb1.out.trans (hb2.mono hb1.out.size))
  go_wp2_with fail
  go_ret
  exact ⟨_, rfl, ho.out, hb2.out⟩

end Go.Proofs.YtenkdikdofhnpaaDoor
