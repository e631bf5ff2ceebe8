/- Walks over the reference's disk: done. -/
import Derived.Test.YtdgilgnaoifpcaaDoorRefNew
import Derived.Test.YtdgilgnaoifpcaaDoorOnL
import Derived.Test.YtdgilgnaoifpcaaDoorOnL
namespace Go.Proofs.YtdgilgnaoifpcaaDoor
open Go.RowKit

theorem own_empty8 {base g : Nat} {w : World} (h : w.heap[g]? = some (.cells #[] 5 (0, 0))) (hg : base ≤ g) : OwnB base w (.slice (some ⟨g, 0, none⟩) 0 0) [] := owns_empty h hg
theorem argB_take {w : World} {b o c : Nat} {bs : List UInt8} (h : ArgB w (some ⟨b, o, none⟩) c bs) (m : Nat) : ArgB w (some ⟨b, o, none⟩) c (bs.take m) := by
  refine ⟨Nat.le_trans (by simp; omega) h.len, h.most, h.nil, fun i hi => ?_⟩
  rw [List.length_take] at hi
  obtain ⟨b', o', e, hc⟩ := h.row i (by omega)
  cases e
  refine ⟨_, _, rfl, ?_⟩
  rw [hc]
  congr 2
  simp [List.getD_eq_getElem?_getD, List.getElem?_take, show i < m by omega]
theorem argB_drop {w : World} {b o c : Nat} {bs : List UInt8} (h : ArgB w (some ⟨b, o, none⟩) c bs) (m : Nat) (hm : m ≤ bs.length) : ArgB w (some ⟨b, o + m, none⟩) (c - m) (bs.drop m) := by
  refine ⟨by rw [List.length_drop]; have := h.len; omega, by have := h.most; omega, (fun e => by cases e), fun i hi => ?_⟩
  rw [List.length_drop] at hi
  obtain ⟨b', o', e, hc⟩ := h.row (m + i) (by omega)
  cases e
  refine ⟨_, _, rfl, ?_⟩
  rw [show o + m + i = o + (m + i) from by omega, hc]
  congr 2
  simp [List.getD_eq_getElem?_getD, List.getElem?_drop]

/-- What 'done' leaves. -/
def RDone (base : Nat) (w w' : World) (R : Nat) (va vw : Value) (F : Nat → Prop) (n : Nat) (p : DP) (rl : Int) (i : Int) (m : Nat) (bs : List UInt8) : Prop :=
  ∃ F', RefD base w' R va vw F' n { p with f := fun j => if j = i then overB m bs (p.f i) else p.f j } rl ∧ (∀ k, F k → F' k) ∧ (∀ k, F' k → F k ∨ w.heap.size ≤ k) ∧ Only (fun k => va.ownBlock = some k) w w'
theorem RefD.sector {base : Nat} {w w6 w7 : World} {R ga n ca Z : Nat} {vw : Value} {F : Nat → Prop} {p : DP} {rl : Int} {v : Value} (h : RefD base w6 R (.slice (some ⟨ga, 0, none⟩) n ca) vw F n p rl) (i : Nat) (hi : i < n) (x : List UInt8) (hx : x.length = 64) (ho : OwnB Z w6 v x) (hZ : w.heap.size ≤ Z) (hF : ∀ k, F k → k < w.heap.size)
    (hl : ga < w.heap.size ∧ R < w.heap.size) (hw : ∀ k, vw.ownBlock = some k → k < w.heap.size) (h7 : w7 = w6.setCell ⟨ga, i, none⟩ v) :
    RefD base w7 R (.slice (some ⟨ga, 0, none⟩) n ca) vw (fun k => F k ∨ v.ownBlock = some k) n { p with f := fun j => if j = (i : Int) then x else p.f j } rl := by
  have hvl : ∀ k, v.ownBlock = some k → Z ≤ k ∧ k < w6.heap.size := fun k hk => World.ownsRow.lt ho k hk
  have hO : Only (fun k => k = ga) w6 w7 := h7 ▸ (Only.refl _ w6).setCell ⟨ga, i, none⟩ v (fun _ => rfl)
  have hgR : ga ≠ R := h.aR ga rfl
  have hF' : ∀ k, F k → F k ∨ v.ownBlock = some k := fun k hk => .inl hk
  have hg : ¬ (F ga ∨ v.ownBlock = some ga) := by
    rintro (e | e)
    · exact h.all.apart ga rfl e
    · have := hvl ga e; omega
  have hlt : ∀ k, (F k ∨ v.ownBlock = some k) → k < w6.heap.size := by
    rintro k (e | e)
    · exact h.all.lt k e
    · exact (hvl k e).2
  have hxr : RB w6 (fun k => F k ∨ v.ownBlock = some k) x [v] := liesRB.more (rb_own ho) (fun k hk => .inr hk)
  have hset := h.all.set1 liesRB i x v hxr hF' hg hlt
  rw [secs_set] at hset
  refine ⟨hO.heap h.at_ (fun e => hgR e.symm), by rw [h7]; exact hset, ?_, ?_, h.aR, h.wR, h.lens, fun j => ?_, h.left, h.range⟩
  · refine (h.waits.more liesRWt hF' ?_ hlt).only liesRWt hO (fun k hk e => hg (e ▸ hk)) (fun k hk e => (h.wR k hk).2 (by rw [e]; rfl))
    rintro k hk (e | e)
    · exact h.waits.apart k hk e
    · have := hvl k e; have := hw k hk; omega
  · rintro (e | e)
    · exact h.fR e
    · have := hvl R e; omega
  · show (if j = (i : Int) then x else p.f j).length = 64
    split
    · exact hx
    · exact h.flen j

set_option maxRecDepth 100000 in
set_option maxHeartbeats 4000000 in
theorem rdone_any {base : Nat} {w : World} {R : Nat} {va vw : Value} {F : Nat → Prop} {n : Nat} {p : DP} {rl : Int} (h : RefD base w R va vw F n p rl) (hbs : base ≤ w.heap.size) (i : Nat) (hi : i < n) (hn : n ≤ 2048) (a : Option Addr) (c : Nat) (bs : List UInt8) (hbl : bs.length = 64) (harg : ArgB w a c bs) (m : Nat) (hm : m ≤ 64)
    (hl : R < w.heap.size ∧ (∀ k, va.ownBlock = some k → k < w.heap.size) ∧ (∀ k, vw.ownBlock = some k → k < w.heap.size) ∧ ∀ k, F k → k < w.heap.size) :
    Calls Tryd.prog 39 #[.pointer (some ⟨R, 0, none⟩), .agg #[.int .i64 i, .slice a 64 c], .int .i64 m] w fun x w' => x = .returned (.tuple #[]) ∧ RDone base w w' R va vw F n p rl i m bs := by
  have hfl := h.flen
  obtain ⟨ga, ca, cs, e1, hRB, hrg⟩ := h.all.elem liesRB i _ (secs_at p.f hi)
  obtain ⟨ab, cb, rfl, hargo, hFo⟩ := hRB
  rw [secs_length] at e1
  subst e1
  have cg : w.cell? ⟨ga, i, none⟩ = some (.slice ab 64 cb) := by
    have := hrg 0 _ rfl
    rw [Nat.mul_one, Nat.add_zero, hfl] at this
    exact this
  obtain ⟨bb, ob, rfl, _⟩ := harg.row 0 (by omega)
  have hol : (p.f i).length = 64 := hfl i
  obtain ⟨b2, o2, rfl, _⟩ := hargo.row 0 (by omega)
  obtain ⟨w1, hw1⟩ : ∃ w1, w1 = w.alloc (.cells #[.int .i64 i, .slice (some ⟨bb, ob, none⟩) 64 c] 77) := ⟨_, rfl⟩
  have hg1 : Grown w w1 := by rw [hw1]; exact Grown.alloc (Grown.refl w) _
  have hx1 : w1.heap[w.heap.size]? = some (.cells #[.int .i64 i, .slice (some ⟨bb, ob, none⟩) 64 c] 77 (0, 0)) := by rw [hw1]; exact heap_alloc_new w _
  have hs1 : w1.heap.size = w.heap.size + 1 := by rw [hw1]; exact World.size_alloc ..
  have hd1 : Below w.heap.size w w1.drew := hg1.drew
  have h1 : RefD base w1.drew R _ vw F n p rl := h.below hd1
  have hxd : w1.drew.heap[w.heap.size]? = some (.cells #[.int .i64 i, .slice (some ⟨bb, ob, none⟩) 64 c] 77 (0, 0)) := hx1
  have hgl : ga < w.heap.size := hl.2.1 ga rfl
  have hgR : ga ≠ R := h.aR ga rfl
  have hsd : w1.drew.heap.size = w.heap.size + 1 := hs1
  have cgd : w1.drew.cell? ⟨ga, i, none⟩ = some (.slice (some ⟨b2, o2, none⟩) 64 cb) := (hd1.cell (p := ⟨ga, i, none⟩) hgl).trans cg
  have hA1 : ArgB w1.drew (some ⟨bb, ob, none⟩) c bs := harg.below hd1
  have hA2 : ArgB w1.drew (some ⟨b2, o2, none⟩) cb (p.f i) := hargo.below hd1
  have hc64 : 64 ≤ c := by have := harg.len; omega
  have hcb64 : 64 ≤ cb := by have := hargo.len; omega
  have hcm : c ≤ 9223372036854775807 := by have := harg.most; unfold maxLen at this; omega
  have hcbm : cb ≤ 9223372036854775807 := by have := hargo.most; unfold maxLen at this; omega
  have hm0 : (m : Int) ≤ 64 := by omega
  have hin : (i : Int) < n := by omega
  have hmc : m ≤ c := by omega
  have hmcb : m ≤ cb := by omega
  have hS0 : w1.drew.heap[R]? = some (.cells (rcells (.slice (some ⟨ga, 0, none⟩) n ca) vw p.armed rl p.gone) 51 (0, 0)) ∧ w1.drew.heap[w.heap.size]? = some (.cells #[.int .i64 i, .slice (some ⟨bb, ob, none⟩) 64 c] 77 (0, 0)) := ⟨h1.at_, hxd⟩
  have q0 : ∀ W : World, (W.heap[R]? = some (.cells (rcells (.slice (some ⟨ga, 0, none⟩) n ca) vw p.armed rl p.gone) 51 (0, 0)) ∧ W.heap[w.heap.size]? = some (.cells #[.int .i64 i, .slice (some ⟨bb, ob, none⟩) 64 c] 77 (0, 0))) → W.cell? ⟨R, 0, none⟩ = some (.slice (some ⟨ga, 0, none⟩) n ca) := fun W hW => by rw [cell_of_block hW.1]; rfl
  have q1 : ∀ W : World, (W.heap[R]? = some (.cells (rcells (.slice (some ⟨ga, 0, none⟩) n ca) vw p.armed rl p.gone) 51 (0, 0)) ∧ W.heap[w.heap.size]? = some (.cells #[.int .i64 i, .slice (some ⟨bb, ob, none⟩) 64 c] 77 (0, 0))) → W.cell? ⟨w.heap.size, 0, none⟩ = some (.int .i64 i) := fun W hW => by rw [cell_of_block hW.2]; rfl
  have q2 : ∀ W : World, (W.heap[R]? = some (.cells (rcells (.slice (some ⟨ga, 0, none⟩) n ca) vw p.armed rl p.gone) 51 (0, 0)) ∧ W.heap[w.heap.size]? = some (.cells #[.int .i64 i, .slice (some ⟨bb, ob, none⟩) 64 c] 77 (0, 0))) → W.cell? ⟨w.heap.size, 1, none⟩ = some (.slice (some ⟨bb, ob, none⟩) 64 c) := fun W hW => by rw [cell_of_block hW.2]; rfl
  have ht1 : Hid ((bs.take m).length = m) := Lib.hid (by rw [List.length_take, hbl]; omega)
  have ht2 : Hid (((p.f i).drop m).length = 64 - m) := Lib.hid (by rw [List.length_drop, hol])
  replace h := Lib.hid h
  replace h1 := Lib.hid h1
  replace hS0 := Lib.hid hS0
  replace hw1 := Lib.hid hw1
  replace hA1 := Lib.hid hA1
  replace hA2 := Lib.hid hA2
  replace hl := Lib.hid hl
  replace hs1 := Lib.hid hs1
  replace hd1 := Lib.hid hd1
  replace hfl := Lib.hid hfl
  replace hsd := Lib.hid hsd
  clear hrg harg hargo hFo hg1 hx1 hxd cg
  have hRd : R < w1.drew.heap.size := by rw [hsd.out]; have := hl.out.1; omega
  have hXd : w.heap.size < w1.drew.heap.size := by rw [hsd.out]; omega
  have hgd : ga < w1.drew.heap.size := by rw [hsd.out]; omega
  have hgX : w.heap.size ≠ ga := by omega
  have hmf : Hid (m ≤ (p.f i).length) := Lib.hid (by rw [hol]; exact hm)
  have hll : Hid (([] ++ bs.take m).length ≤ 1000000) := Lib.hid (by simp; omega)
  have hfz : Hid (∀ W : World, Below w1.drew.heap.size w1.drew W → W.frozen? ⟨ga, i, none⟩ = false) := Lib.hid (fun W hW => by
    have hh := (h1.out.below hW).all
    obtain ⟨⟨css, _, h2, _⟩, _, _⟩ := hh
    rw [secs_length] at h2
    exact World.ownsRow.frozenAt h2 i)
  have hform : Hid (∀ (W : World) v (l : List UInt8), OwnB w1.drew.heap.size W v l → ∃ a n c, v = .slice a n c) := Lib.hid (fun W v l hv => by obtain ⟨a, c, e, _⟩ := hv.arg; exact ⟨a, _, c, e⟩)
  have hd1' := hd1.out
  have hqE : cb = m → ∀ W : World, ArgB W (some ⟨b2, o2, none⟩) cb (p.f i) → ArgB W (some ⟨b2, o2, none⟩) 0 ((p.f i).drop m) := fun hcm2 W hW => by
    have hd0 : (p.f i).drop m = [] := List.drop_eq_nil_of_le (by rw [hol]; omega)
    rw [hd0]
    exact ⟨Nat.zero_le _, by unfold maxLen; omega, (fun e => by cases e), fun j hj => absurd hj (Nat.not_lt_zero j)⟩
  have hqN : ∀ W : World, ArgB W (some ⟨b2, o2, none⟩) cb (p.f i) → ArgB W (some ⟨b2, o2 + m, none⟩) (cb - m) ((p.f i).drop m) := fun W hW => argB_drop hW m hmf.out
  replace hfz := Lib.hid hfz.out
  generalize hX : w.heap.size = X at *
  go_enter Tryd.func39, Tryd.ntmps39
  go_wp2_with fail
  rw [← hw1.out]
  by_cases hcm2 : cb = m
  · have hqA := Lib.hid (hqE hcm2)
    clear hqE hqN
    obtain rfl : m = 64 := by omega
    obtain rfl : cb = 64 := hcm2
    refine wp_region_held_drew (S := (fun W : World => W.heap[R]? = some (.cells (rcells (.slice (some ⟨ga, 0, none⟩) n ca) vw p.armed rl p.gone) 51 (0, 0)) ∧ W.heap[X]? = some (.cells #[.int .i64 i, .slice (some ⟨bb, ob, none⟩) 64 c] 77 (0, 0)))) (by kernel_rfl) hS0.out (fun hOn => ?_)
    generalize World.drew w1 = wd at *
    refine wpAnyH_take (i := 0) (v := ?_) (by simp only [List.getElem?_toArray, List.getElem?_cons_zero]; rfl) (by kernel_rfl) (by kernel_rfl) (by kernel_rfl) (by exact fun _ _ _ h => h) (Or.inl ⟨by rfl, ?_⟩) hOn ?_
    rotate_left
    focus (intro W hSW; go_simp; try with_reducible rfl)
    try simp only [Act.put, List.setIfInBounds_toArray, List.set_cons_zero, List.set_cons_succ]
    refine wpAnyH_take (i := 1) (v := ?_) (by simp only [List.getElem?_toArray, List.getElem?_cons_succ, List.getElem?_cons_zero]; rfl) (by kernel_rfl) (by kernel_rfl) (by kernel_rfl) (by exact fun _ _ _ h => h) (Or.inl ⟨by rfl, ?_⟩) hOn ?_
    rotate_left
    focus (intro W hSW; go_simp; try with_reducible rfl)
    try simp only [Act.put, List.setIfInBounds_toArray, List.set_cons_zero, List.set_cons_succ]
    refine wpAnyH_take (i := 2) (v := ?_) (by simp only [List.getElem?_toArray, List.getElem?_cons_succ, List.getElem?_cons_zero]; rfl) (by kernel_rfl) (by kernel_rfl) (by kernel_rfl) (by exact fun _ _ _ h => h) (Or.inl ⟨by rfl, ?_⟩) hOn ?_
    rotate_left
    focus (intro W hSW; go_simp; try with_reducible rfl)
    try simp only [Act.put, List.setIfInBounds_toArray, List.set_cons_zero, List.set_cons_succ]
    refine wpAnyH_take (i := 3) (v := ?_) (by simp only [List.getElem?_toArray, List.getElem?_cons_succ, List.getElem?_cons_zero]; rfl) (by kernel_rfl) (by kernel_rfl) (by kernel_rfl) (by exact fun _ _ _ h => h) (Or.inl ⟨by rfl, ?_⟩) hOn ?_
    rotate_left
    focus (intro W hSW; go_simp; try with_reducible rfl)
    try simp only [Act.put, List.setIfInBounds_toArray, List.set_cons_zero, List.set_cons_succ]
    refine wpAnyH_take (i := 4) (v := ?_) (by simp only [List.getElem?_toArray, List.getElem?_cons_succ, List.getElem?_cons_zero]; rfl) (by kernel_rfl) (by kernel_rfl) (by kernel_rfl) (by exact fun _ _ _ h => h) (Or.inl ⟨by rfl, ?_⟩) hOn ?_
    rotate_left
    focus (intro W hSW; go_simp; try with_reducible rfl)
    try simp only [Act.put, List.setIfInBounds_toArray, List.set_cons_zero, List.set_cons_succ]
    refine wpAnyH_take (i := 5) (v := ?_) (by simp only [List.getElem?_toArray, List.getElem?_cons_succ, List.getElem?_cons_zero]; rfl) (by kernel_rfl) (by kernel_rfl) (by kernel_rfl) (by exact fun _ _ _ h => h) (Or.inl ⟨by rfl, ?_⟩) hOn ?_
    rotate_left
    focus (intro W hSW; go_simp; try with_reducible rfl)
    try simp only [Act.put, List.setIfInBounds_toArray, List.set_cons_zero, List.set_cons_succ]
    refine wpAnyH_take (i := 7) (v := ?_) (by simp only [List.getElem?_toArray, List.getElem?_cons_succ, List.getElem?_cons_zero]; rfl) (by kernel_rfl) (by kernel_rfl) (by kernel_rfl) (by exact fun _ _ _ h => h) (Or.inl ⟨by rfl, ?_⟩) hOn ?_
    rotate_left
    focus (intro W hSW; go_simp; try with_reducible rfl)
    try simp only [Act.put, List.setIfInBounds_toArray, List.set_cons_zero, List.set_cons_succ]
    refine wpAnyH_take (i := 8) (v := ?_) (by simp only [List.getElem?_toArray, List.getElem?_cons_succ, List.getElem?_cons_zero]; rfl) (by kernel_rfl) (by kernel_rfl) (by kernel_rfl) (by exact fun _ _ _ h => h) (Or.inl ⟨by rfl, ?_⟩) hOn ?_
    rotate_left
    focus (intro W hSW; go_simp; try with_reducible rfl)
    try simp only [Act.put, List.setIfInBounds_toArray, List.set_cons_zero, List.set_cons_succ]
    refine wpAnyH_take (i := 9) (v := ?_) (by simp only [List.getElem?_toArray, List.getElem?_cons_succ, List.getElem?_cons_zero]; rfl) (by kernel_rfl) (by kernel_rfl) (by kernel_rfl) (by exact fun _ _ _ h => h) (Or.inl ⟨by rfl, ?_⟩) hOn ?_
    rotate_left
    focus (intro W hSW; go_simp; try with_reducible rfl)
    try simp only [Act.put, List.setIfInBounds_toArray, List.set_cons_zero, List.set_cons_succ]
    refine wpAnyH_take (i := 12) (v := ?_) (by simp only [List.getElem?_toArray, List.getElem?_cons_succ, List.getElem?_cons_zero]; rfl) (by kernel_rfl) (by kernel_rfl) (by kernel_rfl) (by exact fun _ _ _ h => h) (Or.inl ⟨by rfl, ?_⟩) hOn ?_
    rotate_left
    focus (intro W hSW; go_simp; try with_reducible rfl)
    try simp only [Act.put, List.setIfInBounds_toArray, List.set_cons_zero, List.set_cons_succ]
    refine wpAnyH_take (i := 13) (v := ?_) (by simp only [List.getElem?_toArray, List.getElem?_cons_succ, List.getElem?_cons_zero]; rfl) (by kernel_rfl) (by kernel_rfl) (by kernel_rfl) (by exact fun _ _ _ h => h) (Or.inl ⟨by rfl, ?_⟩) hOn ?_
    rotate_left
    focus (intro W hSW; go_simp; try with_reducible rfl)
    try simp only [Act.put, List.setIfInBounds_toArray, List.set_cons_zero, List.set_cons_succ]
    refine wpAnyH_take (i := 14) (v := ?_) (by simp only [List.getElem?_toArray, List.getElem?_cons_succ, List.getElem?_cons_zero]; rfl) (by kernel_rfl) (by kernel_rfl) (by kernel_rfl) (by exact fun _ _ _ h => h) (Or.inl ⟨by rfl, ?_⟩) hOn ?_
    rotate_left
    focus (intro W hSW; go_simp; try with_reducible rfl)
    try simp only [Act.put, List.setIfInBounds_toArray, List.set_cons_zero, List.set_cons_succ]
    refine wpAnyH_take (i := 15) (v := ?_) (by simp only [List.getElem?_toArray, List.getElem?_cons_succ, List.getElem?_cons_zero]; rfl) (by kernel_rfl) (by kernel_rfl) (by kernel_rfl) (by exact fun _ _ _ h => h) (Or.inl ⟨by rfl, ?_⟩) hOn ?_
    rotate_left
    focus (intro W hSW; go_simp; try with_reducible rfl)
    try simp only [Act.put, List.setIfInBounds_toArray, List.set_cons_zero, List.set_cons_succ]
    refine wpAnyH_take (i := 16) (v := ?_) (by simp only [List.getElem?_toArray, List.getElem?_cons_succ, List.getElem?_cons_zero]; rfl) (by kernel_rfl) (by kernel_rfl) (by kernel_rfl) (by exact fun _ _ _ h => h) (Or.inl ⟨by rfl, ?_⟩) hOn ?_
    rotate_left
    focus (intro W hSW; go_simp; try with_reducible rfl)
    try simp only [Act.put, List.setIfInBounds_toArray, List.set_cons_zero, List.set_cons_succ]
    refine wpAnyH_take (i := 17) (v := ?_) (by simp only [List.getElem?_toArray, List.getElem?_cons_succ, List.getElem?_cons_zero]; rfl) (by kernel_rfl) (by kernel_rfl) (by kernel_rfl) (by exact fun _ _ _ h => h) (Or.inl ⟨by rfl, ?_⟩) hOn ?_
    rotate_left
    focus (intro W hSW; go_simp; try with_reducible rfl)
    try simp only [Act.put, List.setIfInBounds_toArray, List.set_cons_zero, List.set_cons_succ]
    refine wpAnyH_take (i := 18) (v := ?_) (by simp only [List.getElem?_toArray, List.getElem?_cons_succ, List.getElem?_cons_zero]; rfl) (by kernel_rfl) (by kernel_rfl) (by kernel_rfl) (by exact fun _ _ _ h => h) (Or.inl ⟨by rfl, ?_⟩) hOn ?_
    rotate_left
    focus (intro W hSW; go_simp; try with_reducible rfl)
    try simp only [Act.put, List.setIfInBounds_toArray, List.set_cons_zero, List.set_cons_succ]
    refine wpAnyH_take (i := 20) (v := ?_) (by simp only [List.getElem?_toArray, List.getElem?_cons_succ, List.getElem?_cons_zero]; rfl) (by kernel_rfl) (by kernel_rfl) (by kernel_rfl) (by exact fun _ _ _ h => h) (Or.inl ⟨by rfl, ?_⟩) hOn ?_
    rotate_left
    focus (intro W hSW; go_simp; try with_reducible rfl)
    try simp only [Act.put, List.setIfInBounds_toArray, List.set_cons_zero, List.set_cons_succ]
    refine wpAnyH_ready (rs := [6, 10, 19]) (by kernel_rfl) (by simp) ?_
    refine AllReadyH.cons (by simp only [List.getElem?_toArray, List.getElem?_cons_succ, List.getElem?_cons_zero]; rfl) (fun Kz hKz => ?_) ?_
    go_simp
    focus (try go_wp2_with fail)
    (with_reducible refine made_step (t := 5) ?_)
    intro w5 hx5 hnew
    have hS := And.intro ((hnew.block _ (block_lt hOn.1)).trans hOn.1) ((hnew.block _ (block_lt hOn.2)).trans hOn.2)
    have ho5 := Lib.hid (own_empty8 hx5.out (Nat.le_refl wd.heap.size))
    have hw5 := Lib.hid hnew
    have cg5 : w5.cell? ⟨ga, i, none⟩ = some (.slice (some ⟨b2, o2, none⟩) 64 64) := (hnew.cell (p := ⟨ga, i, none⟩) hgd).trans cgd
    have hA5 := Lib.hid (argB_take (hA1.out.below hnew) 64)
    have hs5 := hnew.size
    clear hx5
    refine hKz.out _ _ (by first | exact hS | exact Below.trans hOn (Below.mono hnew (Below.size hOn))) (fun hNext => ?_)
    clear hKz Kz hOn
    have hOn := hNext
    clear hNext
    try clear hnew
    try clear hS
    try simp only [Act.put, List.setIfInBounds_toArray, List.set_cons_zero, List.set_cons_succ]
    refine wpAnyH_ready (rs := [10, 19]) (by kernel_rfl) (by simp) ?_
    refine AllReadyH.cons (by simp only [List.getElem?_toArray, List.getElem?_cons_succ, List.getElem?_cons_zero]; rfl) (fun Kz hKz => ?_) ?_
    go_simp
    focus (try go_wp2_with fail)
    refine hKz.out _ _ (by first | exact hOn | exact Grown.alloc hOn _ | exact Below.alloc hOn (Below.size hOn) _ | exact Grown.alloc (Grown.refl _) _) (fun hNext => ?_)
    clear hKz Kz hOn
    have hOn := hNext
    clear hNext
    try simp only [Act.put, List.setIfInBounds_toArray, List.set_cons_zero, List.set_cons_succ]
    refine wpAnyH_ready (rs := [11, 19]) (by kernel_rfl) (by simp) ?_
    refine AllReadyH.cons (by simp only [List.getElem?_toArray, List.getElem?_cons_succ, List.getElem?_cons_zero]; rfl) (fun Kz hKz => ?_) ?_
    rw [if_pos (by rfl)]
    (refine wpK_appB (.tmp 12) (.tmp 16) rfl wd.heap.size _ [] rfl ho5 ⟨bb, ob, none⟩ c (bs.take 64) 64 rfl ht1 hA5 (by decide) (by omega) hs5 ?_)
    intro v7 w7 ho7 hg7 hm7
    have hw7 := Lib.hid (hw5.out.grown hg7.out hs5 (fun k hk => (World.ownsRow.lt ho5.out k hk).1))
    have hS := And.intro ((hw7.out.block _ hRd).trans hS0.out.1) ((hw7.out.block _ hXd).trans hS0.out.2)
    have cg7 : w7.cell? ⟨ga, i, none⟩ = some (.slice (some ⟨b2, o2, none⟩) 64 64) := (hw7.out.cell (p := ⟨ga, i, none⟩) hgd).trans cgd
    have hA7 := Lib.hid (hqA.out w7 (hA2.out.below hw7.out))
    have hs7 := hw7.out.size
    clear hg7 hm7
    refine hKz.out _ _ (by first | exact hS | exact Below.trans hOn (Below.mono hnew (Below.size hOn))) (fun hNext => ?_)
    clear hKz Kz hOn
    have hOn := hNext
    clear hNext
    try clear hnew
    try clear hS
    try simp only [Act.put]
    refine wpAnyH_ready (rs := [19]) (by kernel_rfl) (by simp) ?_
    refine AllReadyH.cons (by simp only [List.getElem?_toArray, List.getElem?_cons_succ, List.getElem?_cons_zero]; rfl) (fun Kz hKz => ?_) AllReadyH.nil
    go_simp
    focus (try go_wp2_with fail)
    refine hKz.out _ _ (by first | exact hOn | exact Grown.alloc hOn _ | exact Below.alloc hOn (Below.size hOn) _ | exact Grown.alloc (Grown.refl _) _) (fun hNext => ?_)
    clear hKz Kz hOn
    have hOn := hNext
    clear hNext
    try simp only [Act.put, List.setIfInBounds_toArray, List.set_cons_zero, List.set_cons_succ]
    refine wpAnyH_take (i := 21) (v := ?_) (by simp only [List.getElem?_toArray, List.getElem?_cons_succ, List.getElem?_cons_zero]; rfl) (by kernel_rfl) (by kernel_rfl) (by kernel_rfl) (by exact fun _ _ _ h => h) (Or.inl ⟨by rfl, ?_⟩) hOn ?_
    rotate_left
    focus (intro W hSW; go_simp; try with_reducible rfl)
    try simp only [Act.put, List.setIfInBounds_toArray, List.set_cons_zero, List.set_cons_succ]
    refine wpAnyH_ready (rs := [22]) (by kernel_rfl) (by simp) ?_
    refine AllReadyH.cons (by simp only [List.getElem?_toArray, List.getElem?_cons_succ, List.getElem?_cons_zero]; rfl) (fun Kz hKz => ?_) AllReadyH.nil
    rw [if_pos (by rfl)]
    (refine wpK_appB (.tmp 17) (.tmp 27) rfl wd.heap.size _ _ rfl ho7 ⟨b2, o2, none⟩ 0 ((p.f i).drop 64) 0 rfl ht2 hA7 hll.out (by omega) hs7 ?_)
    intro v8 w8 ho8 hg8 hm8
    have hw8 := Lib.hid (hw7.out.grown hg8.out hs7 (fun k hk => (World.ownsRow.lt ho7.out k hk).1))
    have hS := And.intro ((hw8.out.block _ hRd).trans hS0.out.1) ((hw8.out.block _ hXd).trans hS0.out.2)
    have cg8 : w8.cell? ⟨ga, i, none⟩ = some (.slice (some ⟨b2, o2, none⟩) 64 64) := (hw8.out.cell (p := ⟨ga, i, none⟩) hgd).trans cgd
    have fg8 : w8.frozen? ⟨ga, i, none⟩ = false := hfz.out w8 hw8.out
    obtain ⟨a8, n8, c8, hv8⟩ : ∃ a n c, v8 = .slice a n c := (hform.out _ _ _ ho8.out)
    subst hv8
    clear hg8 hm8
    refine hKz.out _ _ (by first | exact hS | exact Below.trans hOn (Below.mono hnew (Below.size hOn))) (fun hNext => ?_)
    clear hKz Kz hOn
    have hOn := hNext
    clear hNext
    try clear hnew
    try clear hS
    try simp only [Act.put]
    refine wpAnyH_take (i := 23) (v := ?_) (by simp only [List.getElem?_toArray, List.getElem?_cons_succ, List.getElem?_cons_zero]; rfl) (by kernel_rfl) (by kernel_rfl) (by kernel_rfl) (by exact fun _ _ _ h => h) (Or.inl ⟨by rfl, ?_⟩) hOn ?_
    rotate_left
    focus (intro W hSW; go_simp; try with_reducible rfl)
    try simp only [Act.put, List.setIfInBounds_toArray, List.set_cons_zero, List.set_cons_succ]
    refine wpAnyH_ready (rs := [24]) (by kernel_rfl) (by simp) ?_
    refine AllReadyH.cons (by simp only [List.getElem?_toArray, List.getElem?_cons_succ, List.getElem?_cons_zero]; rfl) (fun Kz hKz => ?_) AllReadyH.nil
    go_simp
    have hS : _ ∧ _ := And.intro ((Below.heap_setCell w8 ⟨ga, i, none⟩ (.slice a8 n8 c8) R hgR.symm).trans hOn.1) ((Below.heap_setCell w8 ⟨ga, i, none⟩ (.slice a8 n8 c8) X hgX).trans hOn.2)
    refine hKz.out _ _ (by first | exact hS | exact Below.trans hOn (Below.mono hnew (Below.size hOn))) (fun hNext => ?_)
    clear hKz Kz hOn
    have hOn := hNext
    clear hNext
    try clear hnew
    try clear hS
    try simp only [Act.put]
    refine wpAnyH_done (by kernel_rfl) ?_ _
    rotate_left
    refine AllReadyH.cons (by simp only [List.getElem?_toArray, List.getElem?_cons_succ, List.getElem?_cons_zero]; rfl) (fun Kz hKz => ?_) AllReadyH.nil
    go_simp
    focus (try go_wp2_with fail)
    refine hKz.out _ _ (by first | exact hOn | exact Grown.alloc hOn _ | exact Below.alloc hOn (Below.size hOn) _ | exact Grown.alloc (Grown.refl _) _) (fun hNext => ?_)
    clear hKz Kz hOn
    have hOn := hNext
    clear hNext
    try simp only [Act.put, List.setIfInBounds_toArray, List.set_cons_zero, List.set_cons_succ]
    refine wpAnyH_take (i := 21) (v := ?_) (by simp only [List.getElem?_toArray, List.getElem?_cons_succ, List.getElem?_cons_zero]; rfl) (by kernel_rfl) (by kernel_rfl) (by kernel_rfl) (by exact fun _ _ _ h => h) (Or.inl ⟨by rfl, ?_⟩) hOn ?_
    rotate_left
    focus (intro W hSW; go_simp; try with_reducible rfl)
    try simp only [Act.put, List.setIfInBounds_toArray, List.set_cons_zero, List.set_cons_succ]
    refine wpAnyH_ready (rs := [11]) (by kernel_rfl) (by simp) ?_
    refine AllReadyH.cons (by simp only [List.getElem?_toArray, List.getElem?_cons_succ, List.getElem?_cons_zero]; rfl) (fun Kz hKz => ?_) AllReadyH.nil
    rw [if_pos (by rfl)]
    (refine wpK_appB (.tmp 12) (.tmp 16) rfl wd.heap.size _ [] rfl ho5 ⟨bb, ob, none⟩ c (bs.take 64) 64 rfl ht1 hA5 (by decide) (by omega) hs5 ?_)
    intro v7 w7 ho7 hg7 hm7
    have hw7 := Lib.hid (hw5.out.grown hg7.out hs5 (fun k hk => (World.ownsRow.lt ho5.out k hk).1))
    have hS := And.intro ((hw7.out.block _ hRd).trans hS0.out.1) ((hw7.out.block _ hXd).trans hS0.out.2)
    have cg7 : w7.cell? ⟨ga, i, none⟩ = some (.slice (some ⟨b2, o2, none⟩) 64 64) := (hw7.out.cell (p := ⟨ga, i, none⟩) hgd).trans cgd
    have hA7 := Lib.hid (hqA.out w7 (hA2.out.below hw7.out))
    have hs7 := hw7.out.size
    clear hg7 hm7
    refine hKz.out _ _ (by first | exact hS | exact Below.trans hOn (Below.mono hnew (Below.size hOn))) (fun hNext => ?_)
    clear hKz Kz hOn
    have hOn := hNext
    clear hNext
    try clear hnew
    try clear hS
    try simp only [Act.put]
    refine wpAnyH_ready (rs := [22]) (by kernel_rfl) (by simp) ?_
    refine AllReadyH.cons (by simp only [List.getElem?_toArray, List.getElem?_cons_succ, List.getElem?_cons_zero]; rfl) (fun Kz hKz => ?_) AllReadyH.nil
    rw [if_pos (by rfl)]
    (refine wpK_appB (.tmp 17) (.tmp 27) rfl wd.heap.size _ _ rfl ho7 ⟨b2, o2, none⟩ 0 ((p.f i).drop 64) 0 rfl ht2 hA7 hll.out (by omega) hs7 ?_)
    intro v8 w8 ho8 hg8 hm8
    have hw8 := Lib.hid (hw7.out.grown hg8.out hs7 (fun k hk => (World.ownsRow.lt ho7.out k hk).1))
    have hS := And.intro ((hw8.out.block _ hRd).trans hS0.out.1) ((hw8.out.block _ hXd).trans hS0.out.2)
    have cg8 : w8.cell? ⟨ga, i, none⟩ = some (.slice (some ⟨b2, o2, none⟩) 64 64) := (hw8.out.cell (p := ⟨ga, i, none⟩) hgd).trans cgd
    have fg8 : w8.frozen? ⟨ga, i, none⟩ = false := hfz.out w8 hw8.out
    obtain ⟨a8, n8, c8, hv8⟩ : ∃ a n c, v8 = .slice a n c := (hform.out _ _ _ ho8.out)
    subst hv8
    clear hg8 hm8
    refine hKz.out _ _ (by first | exact hS | exact Below.trans hOn (Below.mono hnew (Below.size hOn))) (fun hNext => ?_)
    clear hKz Kz hOn
    have hOn := hNext
    clear hNext
    try clear hnew
    try clear hS
    try simp only [Act.put]
    refine wpAnyH_take (i := 23) (v := ?_) (by simp only [List.getElem?_toArray, List.getElem?_cons_succ, List.getElem?_cons_zero]; rfl) (by kernel_rfl) (by kernel_rfl) (by kernel_rfl) (by exact fun _ _ _ h => h) (Or.inl ⟨by rfl, ?_⟩) hOn ?_
    rotate_left
    focus (intro W hSW; go_simp; try with_reducible rfl)
    try simp only [Act.put, List.setIfInBounds_toArray, List.set_cons_zero, List.set_cons_succ]
    refine wpAnyH_ready (rs := [24]) (by kernel_rfl) (by simp) ?_
    refine AllReadyH.cons (by simp only [List.getElem?_toArray, List.getElem?_cons_succ, List.getElem?_cons_zero]; rfl) (fun Kz hKz => ?_) AllReadyH.nil
    go_simp
    have hS : _ ∧ _ := And.intro ((Below.heap_setCell w8 ⟨ga, i, none⟩ (.slice a8 n8 c8) R hgR.symm).trans hOn.1) ((Below.heap_setCell w8 ⟨ga, i, none⟩ (.slice a8 n8 c8) X hgX).trans hOn.2)
    refine hKz.out _ _ (by first | exact hS | exact Below.trans hOn (Below.mono hnew (Below.size hOn))) (fun hNext => ?_)
    clear hKz Kz hOn
    have hOn := hNext
    clear hNext
    try clear hnew
    try clear hS
    try simp only [Act.put]
    refine wpAnyH_done (by kernel_rfl) ?_ _
    rotate_left
    refine AllReadyH.cons (by simp only [List.getElem?_toArray, List.getElem?_cons_succ, List.getElem?_cons_zero]; rfl) (fun Kz hKz => ?_) AllReadyH.nil
    go_simp
    focus (try go_wp2_with fail)
    refine hKz.out _ _ (by first | exact hOn | exact Grown.alloc hOn _ | exact Below.alloc hOn (Below.size hOn) _ | exact Grown.alloc (Grown.refl _) _) (fun hNext => ?_)
    clear hKz Kz hOn
    have hOn := hNext
    clear hNext
    try simp only [Act.put, List.setIfInBounds_toArray, List.set_cons_zero, List.set_cons_succ]
    refine wpAnyH_take (i := 21) (v := ?_) (by simp only [List.getElem?_toArray, List.getElem?_cons_succ, List.getElem?_cons_zero]; rfl) (by kernel_rfl) (by kernel_rfl) (by kernel_rfl) (by exact fun _ _ _ h => h) (Or.inl ⟨by rfl, ?_⟩) hOn ?_
    rotate_left
    focus (intro W hSW; go_simp; try with_reducible rfl)
    try simp only [Act.put, List.setIfInBounds_toArray, List.set_cons_zero, List.set_cons_succ]
    refine wpAnyH_ready (rs := [10]) (by kernel_rfl) (by simp) ?_
    refine AllReadyH.cons (by simp only [List.getElem?_toArray, List.getElem?_cons_succ, List.getElem?_cons_zero]; rfl) (fun Kz hKz => ?_) AllReadyH.nil
    go_simp
    focus (try go_wp2_with fail)
    refine hKz.out _ _ (by first | exact hOn | exact Grown.alloc hOn _ | exact Below.alloc hOn (Below.size hOn) _ | exact Grown.alloc (Grown.refl _) _) (fun hNext => ?_)
    clear hKz Kz hOn
    have hOn := hNext
    clear hNext
    try simp only [Act.put, List.setIfInBounds_toArray, List.set_cons_zero, List.set_cons_succ]
    refine wpAnyH_ready (rs := [11]) (by kernel_rfl) (by simp) ?_
    refine AllReadyH.cons (by simp only [List.getElem?_toArray, List.getElem?_cons_succ, List.getElem?_cons_zero]; rfl) (fun Kz hKz => ?_) AllReadyH.nil
    rw [if_pos (by rfl)]
    (refine wpK_appB (.tmp 12) (.tmp 16) rfl wd.heap.size _ [] rfl ho5 ⟨bb, ob, none⟩ c (bs.take 64) 64 rfl ht1 hA5 (by decide) (by omega) hs5 ?_)
    intro v7 w7 ho7 hg7 hm7
    have hw7 := Lib.hid (hw5.out.grown hg7.out hs5 (fun k hk => (World.ownsRow.lt ho5.out k hk).1))
    have hS := And.intro ((hw7.out.block _ hRd).trans hS0.out.1) ((hw7.out.block _ hXd).trans hS0.out.2)
    have cg7 : w7.cell? ⟨ga, i, none⟩ = some (.slice (some ⟨b2, o2, none⟩) 64 64) := (hw7.out.cell (p := ⟨ga, i, none⟩) hgd).trans cgd
    have hA7 := Lib.hid (hqA.out w7 (hA2.out.below hw7.out))
    have hs7 := hw7.out.size
    clear hg7 hm7
    refine hKz.out _ _ (by first | exact hS | exact Below.trans hOn (Below.mono hnew (Below.size hOn))) (fun hNext => ?_)
    clear hKz Kz hOn
    have hOn := hNext
    clear hNext
    try clear hnew
    try clear hS
    try simp only [Act.put]
    refine wpAnyH_ready (rs := [22]) (by kernel_rfl) (by simp) ?_
    refine AllReadyH.cons (by simp only [List.getElem?_toArray, List.getElem?_cons_succ, List.getElem?_cons_zero]; rfl) (fun Kz hKz => ?_) AllReadyH.nil
    rw [if_pos (by rfl)]
    (refine wpK_appB (.tmp 17) (.tmp 27) rfl wd.heap.size _ _ rfl ho7 ⟨b2, o2, none⟩ 0 ((p.f i).drop 64) 0 rfl ht2 hA7 hll.out (by omega) hs7 ?_)
    intro v8 w8 ho8 hg8 hm8
    have hw8 := Lib.hid (hw7.out.grown hg8.out hs7 (fun k hk => (World.ownsRow.lt ho7.out k hk).1))
    have hS := And.intro ((hw8.out.block _ hRd).trans hS0.out.1) ((hw8.out.block _ hXd).trans hS0.out.2)
    have cg8 : w8.cell? ⟨ga, i, none⟩ = some (.slice (some ⟨b2, o2, none⟩) 64 64) := (hw8.out.cell (p := ⟨ga, i, none⟩) hgd).trans cgd
    have fg8 : w8.frozen? ⟨ga, i, none⟩ = false := hfz.out w8 hw8.out
    obtain ⟨a8, n8, c8, hv8⟩ : ∃ a n c, v8 = .slice a n c := (hform.out _ _ _ ho8.out)
    subst hv8
    clear hg8 hm8
    refine hKz.out _ _ (by first | exact hS | exact Below.trans hOn (Below.mono hnew (Below.size hOn))) (fun hNext => ?_)
    clear hKz Kz hOn
    have hOn := hNext
    clear hNext
    try clear hnew
    try clear hS
    try simp only [Act.put]
    refine wpAnyH_take (i := 23) (v := ?_) (by simp only [List.getElem?_toArray, List.getElem?_cons_succ, List.getElem?_cons_zero]; rfl) (by kernel_rfl) (by kernel_rfl) (by kernel_rfl) (by exact fun _ _ _ h => h) (Or.inl ⟨by rfl, ?_⟩) hOn ?_
    rotate_left
    focus (intro W hSW; go_simp; try with_reducible rfl)
    try simp only [Act.put, List.setIfInBounds_toArray, List.set_cons_zero, List.set_cons_succ]
    refine wpAnyH_ready (rs := [24]) (by kernel_rfl) (by simp) ?_
    refine AllReadyH.cons (by simp only [List.getElem?_toArray, List.getElem?_cons_succ, List.getElem?_cons_zero]; rfl) (fun Kz hKz => ?_) AllReadyH.nil
    go_simp
    have hS : _ ∧ _ := And.intro ((Below.heap_setCell w8 ⟨ga, i, none⟩ (.slice a8 n8 c8) R hgR.symm).trans hOn.1) ((Below.heap_setCell w8 ⟨ga, i, none⟩ (.slice a8 n8 c8) X hgX).trans hOn.2)
    refine hKz.out _ _ (by first | exact hS | exact Below.trans hOn (Below.mono hnew (Below.size hOn))) (fun hNext => ?_)
    clear hKz Kz hOn
    have hOn := hNext
    clear hNext
    try clear hnew
    try clear hS
    try simp only [Act.put]
    refine wpAnyH_done (by kernel_rfl) ?_ _
    rotate_left
    refine AllReadyH.cons (by simp only [List.getElem?_toArray, List.getElem?_cons_succ, List.getElem?_cons_zero]; rfl) (fun Kz hKz => ?_) ?_
    go_simp
    focus (try go_wp2_with fail)
    refine hKz.out _ _ (by first | exact hOn | exact Grown.alloc hOn _ | exact Below.alloc hOn (Below.size hOn) _ | exact Grown.alloc (Grown.refl _) _) (fun hNext => ?_)
    clear hKz Kz hOn
    have hOn := hNext
    clear hNext
    try simp only [Act.put, List.setIfInBounds_toArray, List.set_cons_zero, List.set_cons_succ]
    refine wpAnyH_ready (rs := [6, 19]) (by kernel_rfl) (by simp) ?_
    refine AllReadyH.cons (by simp only [List.getElem?_toArray, List.getElem?_cons_succ, List.getElem?_cons_zero]; rfl) (fun Kz hKz => ?_) ?_
    go_simp
    focus (try go_wp2_with fail)
    (with_reducible refine made_step (t := 5) ?_)
    intro w5 hx5 hnew
    have hS := And.intro ((hnew.block _ (block_lt hOn.1)).trans hOn.1) ((hnew.block _ (block_lt hOn.2)).trans hOn.2)
    have ho5 := Lib.hid (own_empty8 hx5.out (Nat.le_refl wd.heap.size))
    have hw5 := Lib.hid hnew
    have cg5 : w5.cell? ⟨ga, i, none⟩ = some (.slice (some ⟨b2, o2, none⟩) 64 64) := (hnew.cell (p := ⟨ga, i, none⟩) hgd).trans cgd
    have hA5 := Lib.hid (argB_take (hA1.out.below hnew) 64)
    have hs5 := hnew.size
    clear hx5
    refine hKz.out _ _ (by first | exact hS | exact Below.trans hOn (Below.mono hnew (Below.size hOn))) (fun hNext => ?_)
    clear hKz Kz hOn
    have hOn := hNext
    clear hNext
    try clear hnew
    try clear hS
    try simp only [Act.put, List.setIfInBounds_toArray, List.set_cons_zero, List.set_cons_succ]
    refine wpAnyH_ready (rs := [11, 19]) (by kernel_rfl) (by simp) ?_
    refine AllReadyH.cons (by simp only [List.getElem?_toArray, List.getElem?_cons_succ, List.getElem?_cons_zero]; rfl) (fun Kz hKz => ?_) ?_
    rw [if_pos (by rfl)]
    (refine wpK_appB (.tmp 12) (.tmp 16) rfl wd.heap.size _ [] rfl ho5 ⟨bb, ob, none⟩ c (bs.take 64) 64 rfl ht1 hA5 (by decide) (by omega) hs5 ?_)
    intro v7 w7 ho7 hg7 hm7
    have hw7 := Lib.hid (hw5.out.grown hg7.out hs5 (fun k hk => (World.ownsRow.lt ho5.out k hk).1))
    have hS := And.intro ((hw7.out.block _ hRd).trans hS0.out.1) ((hw7.out.block _ hXd).trans hS0.out.2)
    have cg7 : w7.cell? ⟨ga, i, none⟩ = some (.slice (some ⟨b2, o2, none⟩) 64 64) := (hw7.out.cell (p := ⟨ga, i, none⟩) hgd).trans cgd
    have hA7 := Lib.hid (hqA.out w7 (hA2.out.below hw7.out))
    have hs7 := hw7.out.size
    clear hg7 hm7
    refine hKz.out _ _ (by first | exact hS | exact Below.trans hOn (Below.mono hnew (Below.size hOn))) (fun hNext => ?_)
    clear hKz Kz hOn
    have hOn := hNext
    clear hNext
    try clear hnew
    try clear hS
    try simp only [Act.put]
    refine wpAnyH_ready (rs := [19]) (by kernel_rfl) (by simp) ?_
    refine AllReadyH.cons (by simp only [List.getElem?_toArray, List.getElem?_cons_succ, List.getElem?_cons_zero]; rfl) (fun Kz hKz => ?_) AllReadyH.nil
    go_simp
    focus (try go_wp2_with fail)
    refine hKz.out _ _ (by first | exact hOn | exact Grown.alloc hOn _ | exact Below.alloc hOn (Below.size hOn) _ | exact Grown.alloc (Grown.refl _) _) (fun hNext => ?_)
    clear hKz Kz hOn
    have hOn := hNext
    clear hNext
    try simp only [Act.put, List.setIfInBounds_toArray, List.set_cons_zero, List.set_cons_succ]
    refine wpAnyH_take (i := 21) (v := ?_) (by simp only [List.getElem?_toArray, List.getElem?_cons_succ, List.getElem?_cons_zero]; rfl) (by kernel_rfl) (by kernel_rfl) (by kernel_rfl) (by exact fun _ _ _ h => h) (Or.inl ⟨by rfl, ?_⟩) hOn ?_
    rotate_left
    focus (intro W hSW; go_simp; try with_reducible rfl)
    try simp only [Act.put, List.setIfInBounds_toArray, List.set_cons_zero, List.set_cons_succ]
    refine wpAnyH_ready (rs := [22]) (by kernel_rfl) (by simp) ?_
    refine AllReadyH.cons (by simp only [List.getElem?_toArray, List.getElem?_cons_succ, List.getElem?_cons_zero]; rfl) (fun Kz hKz => ?_) AllReadyH.nil
    rw [if_pos (by rfl)]
    (refine wpK_appB (.tmp 17) (.tmp 27) rfl wd.heap.size _ _ rfl ho7 ⟨b2, o2, none⟩ 0 ((p.f i).drop 64) 0 rfl ht2 hA7 hll.out (by omega) hs7 ?_)
    intro v8 w8 ho8 hg8 hm8
    have hw8 := Lib.hid (hw7.out.grown hg8.out hs7 (fun k hk => (World.ownsRow.lt ho7.out k hk).1))
    have hS := And.intro ((hw8.out.block _ hRd).trans hS0.out.1) ((hw8.out.block _ hXd).trans hS0.out.2)
    have cg8 : w8.cell? ⟨ga, i, none⟩ = some (.slice (some ⟨b2, o2, none⟩) 64 64) := (hw8.out.cell (p := ⟨ga, i, none⟩) hgd).trans cgd
    have fg8 : w8.frozen? ⟨ga, i, none⟩ = false := hfz.out w8 hw8.out
    obtain ⟨a8, n8, c8, hv8⟩ : ∃ a n c, v8 = .slice a n c := (hform.out _ _ _ ho8.out)
    subst hv8
    clear hg8 hm8
    refine hKz.out _ _ (by first | exact hS | exact Below.trans hOn (Below.mono hnew (Below.size hOn))) (fun hNext => ?_)
    clear hKz Kz hOn
    have hOn := hNext
    clear hNext
    try clear hnew
    try clear hS
    try simp only [Act.put]
    refine wpAnyH_take (i := 23) (v := ?_) (by simp only [List.getElem?_toArray, List.getElem?_cons_succ, List.getElem?_cons_zero]; rfl) (by kernel_rfl) (by kernel_rfl) (by kernel_rfl) (by exact fun _ _ _ h => h) (Or.inl ⟨by rfl, ?_⟩) hOn ?_
    rotate_left
    focus (intro W hSW; go_simp; try with_reducible rfl)
    try simp only [Act.put, List.setIfInBounds_toArray, List.set_cons_zero, List.set_cons_succ]
    refine wpAnyH_ready (rs := [24]) (by kernel_rfl) (by simp) ?_
    refine AllReadyH.cons (by simp only [List.getElem?_toArray, List.getElem?_cons_succ, List.getElem?_cons_zero]; rfl) (fun Kz hKz => ?_) AllReadyH.nil
    go_simp
    have hS : _ ∧ _ := And.intro ((Below.heap_setCell w8 ⟨ga, i, none⟩ (.slice a8 n8 c8) R hgR.symm).trans hOn.1) ((Below.heap_setCell w8 ⟨ga, i, none⟩ (.slice a8 n8 c8) X hgX).trans hOn.2)
    refine hKz.out _ _ (by first | exact hS | exact Below.trans hOn (Below.mono hnew (Below.size hOn))) (fun hNext => ?_)
    clear hKz Kz hOn
    have hOn := hNext
    clear hNext
    try clear hnew
    try clear hS
    try simp only [Act.put]
    refine wpAnyH_done (by kernel_rfl) ?_ _
    rotate_left
    refine AllReadyH.cons (by simp only [List.getElem?_toArray, List.getElem?_cons_succ, List.getElem?_cons_zero]; rfl) (fun Kz hKz => ?_) AllReadyH.nil
    go_simp
    focus (try go_wp2_with fail)
    refine hKz.out _ _ (by first | exact hOn | exact Grown.alloc hOn _ | exact Below.alloc hOn (Below.size hOn) _ | exact Grown.alloc (Grown.refl _) _) (fun hNext => ?_)
    clear hKz Kz hOn
    have hOn := hNext
    clear hNext
    try simp only [Act.put, List.setIfInBounds_toArray, List.set_cons_zero, List.set_cons_succ]
    refine wpAnyH_take (i := 21) (v := ?_) (by simp only [List.getElem?_toArray, List.getElem?_cons_succ, List.getElem?_cons_zero]; rfl) (by kernel_rfl) (by kernel_rfl) (by kernel_rfl) (by exact fun _ _ _ h => h) (Or.inl ⟨by rfl, ?_⟩) hOn ?_
    rotate_left
    focus (intro W hSW; go_simp; try with_reducible rfl)
    try simp only [Act.put, List.setIfInBounds_toArray, List.set_cons_zero, List.set_cons_succ]
    refine wpAnyH_ready (rs := [11]) (by kernel_rfl) (by simp) ?_
    refine AllReadyH.cons (by simp only [List.getElem?_toArray, List.getElem?_cons_succ, List.getElem?_cons_zero]; rfl) (fun Kz hKz => ?_) AllReadyH.nil
    rw [if_pos (by rfl)]
    (refine wpK_appB (.tmp 12) (.tmp 16) rfl wd.heap.size _ [] rfl ho5 ⟨bb, ob, none⟩ c (bs.take 64) 64 rfl ht1 hA5 (by decide) (by omega) hs5 ?_)
    intro v7 w7 ho7 hg7 hm7
    have hw7 := Lib.hid (hw5.out.grown hg7.out hs5 (fun k hk => (World.ownsRow.lt ho5.out k hk).1))
    have hS := And.intro ((hw7.out.block _ hRd).trans hS0.out.1) ((hw7.out.block _ hXd).trans hS0.out.2)
    have cg7 : w7.cell? ⟨ga, i, none⟩ = some (.slice (some ⟨b2, o2, none⟩) 64 64) := (hw7.out.cell (p := ⟨ga, i, none⟩) hgd).trans cgd
    have hA7 := Lib.hid (hqA.out w7 (hA2.out.below hw7.out))
    have hs7 := hw7.out.size
    clear hg7 hm7
    refine hKz.out _ _ (by first | exact hS | exact Below.trans hOn (Below.mono hnew (Below.size hOn))) (fun hNext => ?_)
    clear hKz Kz hOn
    have hOn := hNext
    clear hNext
    try clear hnew
    try clear hS
    try simp only [Act.put]
    refine wpAnyH_ready (rs := [22]) (by kernel_rfl) (by simp) ?_
    refine AllReadyH.cons (by simp only [List.getElem?_toArray, List.getElem?_cons_succ, List.getElem?_cons_zero]; rfl) (fun Kz hKz => ?_) AllReadyH.nil
    rw [if_pos (by rfl)]
    (refine wpK_appB (.tmp 17) (.tmp 27) rfl wd.heap.size _ _ rfl ho7 ⟨b2, o2, none⟩ 0 ((p.f i).drop 64) 0 rfl ht2 hA7 hll.out (by omega) hs7 ?_)
    intro v8 w8 ho8 hg8 hm8
    have hw8 := Lib.hid (hw7.out.grown hg8.out hs7 (fun k hk => (World.ownsRow.lt ho7.out k hk).1))
    have hS := And.intro ((hw8.out.block _ hRd).trans hS0.out.1) ((hw8.out.block _ hXd).trans hS0.out.2)
    have cg8 : w8.cell? ⟨ga, i, none⟩ = some (.slice (some ⟨b2, o2, none⟩) 64 64) := (hw8.out.cell (p := ⟨ga, i, none⟩) hgd).trans cgd
    have fg8 : w8.frozen? ⟨ga, i, none⟩ = false := hfz.out w8 hw8.out
    obtain ⟨a8, n8, c8, hv8⟩ : ∃ a n c, v8 = .slice a n c := (hform.out _ _ _ ho8.out)
    subst hv8
    clear hg8 hm8
    refine hKz.out _ _ (by first | exact hS | exact Below.trans hOn (Below.mono hnew (Below.size hOn))) (fun hNext => ?_)
    clear hKz Kz hOn
    have hOn := hNext
    clear hNext
    try clear hnew
    try clear hS
    try simp only [Act.put]
    refine wpAnyH_take (i := 23) (v := ?_) (by simp only [List.getElem?_toArray, List.getElem?_cons_succ, List.getElem?_cons_zero]; rfl) (by kernel_rfl) (by kernel_rfl) (by kernel_rfl) (by exact fun _ _ _ h => h) (Or.inl ⟨by rfl, ?_⟩) hOn ?_
    rotate_left
    focus (intro W hSW; go_simp; try with_reducible rfl)
    try simp only [Act.put, List.setIfInBounds_toArray, List.set_cons_zero, List.set_cons_succ]
    refine wpAnyH_ready (rs := [24]) (by kernel_rfl) (by simp) ?_
    refine AllReadyH.cons (by simp only [List.getElem?_toArray, List.getElem?_cons_succ, List.getElem?_cons_zero]; rfl) (fun Kz hKz => ?_) AllReadyH.nil
    go_simp
    have hS : _ ∧ _ := And.intro ((Below.heap_setCell w8 ⟨ga, i, none⟩ (.slice a8 n8 c8) R hgR.symm).trans hOn.1) ((Below.heap_setCell w8 ⟨ga, i, none⟩ (.slice a8 n8 c8) X hgX).trans hOn.2)
    refine hKz.out _ _ (by first | exact hS | exact Below.trans hOn (Below.mono hnew (Below.size hOn))) (fun hNext => ?_)
    clear hKz Kz hOn
    have hOn := hNext
    clear hNext
    try clear hnew
    try clear hS
    try simp only [Act.put]
    refine wpAnyH_done (by kernel_rfl) ?_ _
    rotate_left
    refine AllReadyH.cons (by simp only [List.getElem?_toArray, List.getElem?_cons_succ, List.getElem?_cons_zero]; rfl) (fun Kz hKz => ?_) AllReadyH.nil
    go_simp
    focus (try go_wp2_with fail)
    refine hKz.out _ _ (by first | exact hOn | exact Grown.alloc hOn _ | exact Below.alloc hOn (Below.size hOn) _ | exact Grown.alloc (Grown.refl _) _) (fun hNext => ?_)
    clear hKz Kz hOn
    have hOn := hNext
    clear hNext
    try simp only [Act.put, List.setIfInBounds_toArray, List.set_cons_zero, List.set_cons_succ]
    refine wpAnyH_take (i := 21) (v := ?_) (by simp only [List.getElem?_toArray, List.getElem?_cons_succ, List.getElem?_cons_zero]; rfl) (by kernel_rfl) (by kernel_rfl) (by kernel_rfl) (by exact fun _ _ _ h => h) (Or.inl ⟨by rfl, ?_⟩) hOn ?_
    rotate_left
    focus (intro W hSW; go_simp; try with_reducible rfl)
    try simp only [Act.put, List.setIfInBounds_toArray, List.set_cons_zero, List.set_cons_succ]
    refine wpAnyH_ready (rs := [6]) (by kernel_rfl) (by simp) ?_
    refine AllReadyH.cons (by simp only [List.getElem?_toArray, List.getElem?_cons_succ, List.getElem?_cons_zero]; rfl) (fun Kz hKz => ?_) AllReadyH.nil
    go_simp
    focus (try go_wp2_with fail)
    (with_reducible refine made_step (t := 5) ?_)
    intro w5 hx5 hnew
    have hS := And.intro ((hnew.block _ (block_lt hOn.1)).trans hOn.1) ((hnew.block _ (block_lt hOn.2)).trans hOn.2)
    have ho5 := Lib.hid (own_empty8 hx5.out (Nat.le_refl wd.heap.size))
    have hw5 := Lib.hid hnew
    have cg5 : w5.cell? ⟨ga, i, none⟩ = some (.slice (some ⟨b2, o2, none⟩) 64 64) := (hnew.cell (p := ⟨ga, i, none⟩) hgd).trans cgd
    have hA5 := Lib.hid (argB_take (hA1.out.below hnew) 64)
    have hs5 := hnew.size
    clear hx5
    refine hKz.out _ _ (by first | exact hS | exact Below.trans hOn (Below.mono hnew (Below.size hOn))) (fun hNext => ?_)
    clear hKz Kz hOn
    have hOn := hNext
    clear hNext
    try clear hnew
    try clear hS
    try simp only [Act.put, List.setIfInBounds_toArray, List.set_cons_zero, List.set_cons_succ]
    refine wpAnyH_ready (rs := [11]) (by kernel_rfl) (by simp) ?_
    refine AllReadyH.cons (by simp only [List.getElem?_toArray, List.getElem?_cons_succ, List.getElem?_cons_zero]; rfl) (fun Kz hKz => ?_) AllReadyH.nil
    rw [if_pos (by rfl)]
    (refine wpK_appB (.tmp 12) (.tmp 16) rfl wd.heap.size _ [] rfl ho5 ⟨bb, ob, none⟩ c (bs.take 64) 64 rfl ht1 hA5 (by decide) (by omega) hs5 ?_)
    intro v7 w7 ho7 hg7 hm7
    have hw7 := Lib.hid (hw5.out.grown hg7.out hs5 (fun k hk => (World.ownsRow.lt ho5.out k hk).1))
    have hS := And.intro ((hw7.out.block _ hRd).trans hS0.out.1) ((hw7.out.block _ hXd).trans hS0.out.2)
    have cg7 : w7.cell? ⟨ga, i, none⟩ = some (.slice (some ⟨b2, o2, none⟩) 64 64) := (hw7.out.cell (p := ⟨ga, i, none⟩) hgd).trans cgd
    have hA7 := Lib.hid (hqA.out w7 (hA2.out.below hw7.out))
    have hs7 := hw7.out.size
    clear hg7 hm7
    refine hKz.out _ _ (by first | exact hS | exact Below.trans hOn (Below.mono hnew (Below.size hOn))) (fun hNext => ?_)
    clear hKz Kz hOn
    have hOn := hNext
    clear hNext
    try clear hnew
    try clear hS
    try simp only [Act.put]
    refine wpAnyH_ready (rs := [22]) (by kernel_rfl) (by simp) ?_
    refine AllReadyH.cons (by simp only [List.getElem?_toArray, List.getElem?_cons_succ, List.getElem?_cons_zero]; rfl) (fun Kz hKz => ?_) AllReadyH.nil
    rw [if_pos (by rfl)]
    (refine wpK_appB (.tmp 17) (.tmp 27) rfl wd.heap.size _ _ rfl ho7 ⟨b2, o2, none⟩ 0 ((p.f i).drop 64) 0 rfl ht2 hA7 hll.out (by omega) hs7 ?_)
    intro v8 w8 ho8 hg8 hm8
    have hw8 := Lib.hid (hw7.out.grown hg8.out hs7 (fun k hk => (World.ownsRow.lt ho7.out k hk).1))
    have hS := And.intro ((hw8.out.block _ hRd).trans hS0.out.1) ((hw8.out.block _ hXd).trans hS0.out.2)
    have cg8 : w8.cell? ⟨ga, i, none⟩ = some (.slice (some ⟨b2, o2, none⟩) 64 64) := (hw8.out.cell (p := ⟨ga, i, none⟩) hgd).trans cgd
    have fg8 : w8.frozen? ⟨ga, i, none⟩ = false := hfz.out w8 hw8.out
    obtain ⟨a8, n8, c8, hv8⟩ : ∃ a n c, v8 = .slice a n c := (hform.out _ _ _ ho8.out)
    subst hv8
    clear hg8 hm8
    refine hKz.out _ _ (by first | exact hS | exact Below.trans hOn (Below.mono hnew (Below.size hOn))) (fun hNext => ?_)
    clear hKz Kz hOn
    have hOn := hNext
    clear hNext
    try clear hnew
    try clear hS
    try simp only [Act.put]
    refine wpAnyH_take (i := 23) (v := ?_) (by simp only [List.getElem?_toArray, List.getElem?_cons_succ, List.getElem?_cons_zero]; rfl) (by kernel_rfl) (by kernel_rfl) (by kernel_rfl) (by exact fun _ _ _ h => h) (Or.inl ⟨by rfl, ?_⟩) hOn ?_
    rotate_left
    focus (intro W hSW; go_simp; try with_reducible rfl)
    try simp only [Act.put, List.setIfInBounds_toArray, List.set_cons_zero, List.set_cons_succ]
    refine wpAnyH_ready (rs := [24]) (by kernel_rfl) (by simp) ?_
    refine AllReadyH.cons (by simp only [List.getElem?_toArray, List.getElem?_cons_succ, List.getElem?_cons_zero]; rfl) (fun Kz hKz => ?_) AllReadyH.nil
    go_simp
    have hS : _ ∧ _ := And.intro ((Below.heap_setCell w8 ⟨ga, i, none⟩ (.slice a8 n8 c8) R hgR.symm).trans hOn.1) ((Below.heap_setCell w8 ⟨ga, i, none⟩ (.slice a8 n8 c8) X hgX).trans hOn.2)
    refine hKz.out _ _ (by first | exact hS | exact Below.trans hOn (Below.mono hnew (Below.size hOn))) (fun hNext => ?_)
    clear hKz Kz hOn
    have hOn := hNext
    clear hNext
    try clear hnew
    try clear hS
    try simp only [Act.put]
    refine wpAnyH_done (by kernel_rfl) ?_ _
    rotate_left
    refine AllReadyH.cons (by simp only [List.getElem?_toArray, List.getElem?_cons_succ, List.getElem?_cons_zero]; rfl) (fun Kz hKz => ?_) AllReadyH.nil
    go_simp
    focus (try go_wp2_with fail)
    refine hKz.out _ _ (by first | exact hOn | exact Grown.alloc hOn _ | exact Below.alloc hOn (Below.size hOn) _ | exact Grown.alloc (Grown.refl _) _) (fun hNext => ?_)
    clear hKz Kz hOn
    have hOn := hNext
    clear hNext
    try simp only [Act.put, List.setIfInBounds_toArray, List.set_cons_zero, List.set_cons_succ]
    refine wpAnyH_take (i := 21) (v := ?_) (by simp only [List.getElem?_toArray, List.getElem?_cons_succ, List.getElem?_cons_zero]; rfl) (by kernel_rfl) (by kernel_rfl) (by kernel_rfl) (by exact fun _ _ _ h => h) (Or.inl ⟨by rfl, ?_⟩) hOn ?_
    rotate_left
    focus (intro W hSW; go_simp; try with_reducible rfl)
    try simp only [Act.put, List.setIfInBounds_toArray, List.set_cons_zero, List.set_cons_succ]
    refine wpAnyH_ready (rs := [6, 10]) (by kernel_rfl) (by simp) ?_
    refine AllReadyH.cons (by simp only [List.getElem?_toArray, List.getElem?_cons_succ, List.getElem?_cons_zero]; rfl) (fun Kz hKz => ?_) ?_
    go_simp
    focus (try go_wp2_with fail)
    (with_reducible refine made_step (t := 5) ?_)
    intro w5 hx5 hnew
    have hS := And.intro ((hnew.block _ (block_lt hOn.1)).trans hOn.1) ((hnew.block _ (block_lt hOn.2)).trans hOn.2)
    have ho5 := Lib.hid (own_empty8 hx5.out (Nat.le_refl wd.heap.size))
    have hw5 := Lib.hid hnew
    have cg5 : w5.cell? ⟨ga, i, none⟩ = some (.slice (some ⟨b2, o2, none⟩) 64 64) := (hnew.cell (p := ⟨ga, i, none⟩) hgd).trans cgd
    have hA5 := Lib.hid (argB_take (hA1.out.below hnew) 64)
    have hs5 := hnew.size
    clear hx5
    refine hKz.out _ _ (by first | exact hS | exact Below.trans hOn (Below.mono hnew (Below.size hOn))) (fun hNext => ?_)
    clear hKz Kz hOn
    have hOn := hNext
    clear hNext
    try clear hnew
    try clear hS
    try simp only [Act.put, List.setIfInBounds_toArray, List.set_cons_zero, List.set_cons_succ]
    refine wpAnyH_ready (rs := [10]) (by kernel_rfl) (by simp) ?_
    refine AllReadyH.cons (by simp only [List.getElem?_toArray, List.getElem?_cons_succ, List.getElem?_cons_zero]; rfl) (fun Kz hKz => ?_) AllReadyH.nil
    go_simp
    focus (try go_wp2_with fail)
    refine hKz.out _ _ (by first | exact hOn | exact Grown.alloc hOn _ | exact Below.alloc hOn (Below.size hOn) _ | exact Grown.alloc (Grown.refl _) _) (fun hNext => ?_)
    clear hKz Kz hOn
    have hOn := hNext
    clear hNext
    try simp only [Act.put, List.setIfInBounds_toArray, List.set_cons_zero, List.set_cons_succ]
    refine wpAnyH_ready (rs := [11]) (by kernel_rfl) (by simp) ?_
    refine AllReadyH.cons (by simp only [List.getElem?_toArray, List.getElem?_cons_succ, List.getElem?_cons_zero]; rfl) (fun Kz hKz => ?_) AllReadyH.nil
    rw [if_pos (by rfl)]
    (refine wpK_appB (.tmp 12) (.tmp 16) rfl wd.heap.size _ [] rfl ho5 ⟨bb, ob, none⟩ c (bs.take 64) 64 rfl ht1 hA5 (by decide) (by omega) hs5 ?_)
    intro v7 w7 ho7 hg7 hm7
    have hw7 := Lib.hid (hw5.out.grown hg7.out hs5 (fun k hk => (World.ownsRow.lt ho5.out k hk).1))
    have hS := And.intro ((hw7.out.block _ hRd).trans hS0.out.1) ((hw7.out.block _ hXd).trans hS0.out.2)
    have cg7 : w7.cell? ⟨ga, i, none⟩ = some (.slice (some ⟨b2, o2, none⟩) 64 64) := (hw7.out.cell (p := ⟨ga, i, none⟩) hgd).trans cgd
    have hA7 := Lib.hid (hqA.out w7 (hA2.out.below hw7.out))
    have hs7 := hw7.out.size
    clear hg7 hm7
    refine hKz.out _ _ (by first | exact hS | exact Below.trans hOn (Below.mono hnew (Below.size hOn))) (fun hNext => ?_)
    clear hKz Kz hOn
    have hOn := hNext
    clear hNext
    try clear hnew
    try clear hS
    try simp only [Act.put]
    refine wpAnyH_ready (rs := [22]) (by kernel_rfl) (by simp) ?_
    refine AllReadyH.cons (by simp only [List.getElem?_toArray, List.getElem?_cons_succ, List.getElem?_cons_zero]; rfl) (fun Kz hKz => ?_) AllReadyH.nil
    rw [if_pos (by rfl)]
    (refine wpK_appB (.tmp 17) (.tmp 27) rfl wd.heap.size _ _ rfl ho7 ⟨b2, o2, none⟩ 0 ((p.f i).drop 64) 0 rfl ht2 hA7 hll.out (by omega) hs7 ?_)
    intro v8 w8 ho8 hg8 hm8
    have hw8 := Lib.hid (hw7.out.grown hg8.out hs7 (fun k hk => (World.ownsRow.lt ho7.out k hk).1))
    have hS := And.intro ((hw8.out.block _ hRd).trans hS0.out.1) ((hw8.out.block _ hXd).trans hS0.out.2)
    have cg8 : w8.cell? ⟨ga, i, none⟩ = some (.slice (some ⟨b2, o2, none⟩) 64 64) := (hw8.out.cell (p := ⟨ga, i, none⟩) hgd).trans cgd
    have fg8 : w8.frozen? ⟨ga, i, none⟩ = false := hfz.out w8 hw8.out
    obtain ⟨a8, n8, c8, hv8⟩ : ∃ a n c, v8 = .slice a n c := (hform.out _ _ _ ho8.out)
    subst hv8
    clear hg8 hm8
    refine hKz.out _ _ (by first | exact hS | exact Below.trans hOn (Below.mono hnew (Below.size hOn))) (fun hNext => ?_)
    clear hKz Kz hOn
    have hOn := hNext
    clear hNext
    try clear hnew
    try clear hS
    try simp only [Act.put]
    refine wpAnyH_take (i := 23) (v := ?_) (by simp only [List.getElem?_toArray, List.getElem?_cons_succ, List.getElem?_cons_zero]; rfl) (by kernel_rfl) (by kernel_rfl) (by kernel_rfl) (by exact fun _ _ _ h => h) (Or.inl ⟨by rfl, ?_⟩) hOn ?_
    rotate_left
    focus (intro W hSW; go_simp; try with_reducible rfl)
    try simp only [Act.put, List.setIfInBounds_toArray, List.set_cons_zero, List.set_cons_succ]
    refine wpAnyH_ready (rs := [24]) (by kernel_rfl) (by simp) ?_
    refine AllReadyH.cons (by simp only [List.getElem?_toArray, List.getElem?_cons_succ, List.getElem?_cons_zero]; rfl) (fun Kz hKz => ?_) AllReadyH.nil
    go_simp
    have hS : _ ∧ _ := And.intro ((Below.heap_setCell w8 ⟨ga, i, none⟩ (.slice a8 n8 c8) R hgR.symm).trans hOn.1) ((Below.heap_setCell w8 ⟨ga, i, none⟩ (.slice a8 n8 c8) X hgX).trans hOn.2)
    refine hKz.out _ _ (by first | exact hS | exact Below.trans hOn (Below.mono hnew (Below.size hOn))) (fun hNext => ?_)
    clear hKz Kz hOn
    have hOn := hNext
    clear hNext
    try clear hnew
    try clear hS
    try simp only [Act.put]
    refine wpAnyH_done (by kernel_rfl) ?_ _
    rotate_left
    refine AllReadyH.cons (by simp only [List.getElem?_toArray, List.getElem?_cons_succ, List.getElem?_cons_zero]; rfl) (fun Kz hKz => ?_) AllReadyH.nil
    go_simp
    focus (try go_wp2_with fail)
    refine hKz.out _ _ (by first | exact hOn | exact Grown.alloc hOn _ | exact Below.alloc hOn (Below.size hOn) _ | exact Grown.alloc (Grown.refl _) _) (fun hNext => ?_)
    clear hKz Kz hOn
    have hOn := hNext
    clear hNext
    try simp only [Act.put, List.setIfInBounds_toArray, List.set_cons_zero, List.set_cons_succ]
    refine wpAnyH_ready (rs := [6]) (by kernel_rfl) (by simp) ?_
    refine AllReadyH.cons (by simp only [List.getElem?_toArray, List.getElem?_cons_succ, List.getElem?_cons_zero]; rfl) (fun Kz hKz => ?_) AllReadyH.nil
    go_simp
    focus (try go_wp2_with fail)
    (with_reducible refine made_step (t := 5) ?_)
    intro w5 hx5 hnew
    have hS := And.intro ((hnew.block _ (block_lt hOn.1)).trans hOn.1) ((hnew.block _ (block_lt hOn.2)).trans hOn.2)
    have ho5 := Lib.hid (own_empty8 hx5.out (Nat.le_refl wd.heap.size))
    have hw5 := Lib.hid hnew
    have cg5 : w5.cell? ⟨ga, i, none⟩ = some (.slice (some ⟨b2, o2, none⟩) 64 64) := (hnew.cell (p := ⟨ga, i, none⟩) hgd).trans cgd
    have hA5 := Lib.hid (argB_take (hA1.out.below hnew) 64)
    have hs5 := hnew.size
    clear hx5
    refine hKz.out _ _ (by first | exact hS | exact Below.trans hOn (Below.mono hnew (Below.size hOn))) (fun hNext => ?_)
    clear hKz Kz hOn
    have hOn := hNext
    clear hNext
    try clear hnew
    try clear hS
    try simp only [Act.put, List.setIfInBounds_toArray, List.set_cons_zero, List.set_cons_succ]
    refine wpAnyH_ready (rs := [11]) (by kernel_rfl) (by simp) ?_
    refine AllReadyH.cons (by simp only [List.getElem?_toArray, List.getElem?_cons_succ, List.getElem?_cons_zero]; rfl) (fun Kz hKz => ?_) AllReadyH.nil
    rw [if_pos (by rfl)]
    (refine wpK_appB (.tmp 12) (.tmp 16) rfl wd.heap.size _ [] rfl ho5 ⟨bb, ob, none⟩ c (bs.take 64) 64 rfl ht1 hA5 (by decide) (by omega) hs5 ?_)
    intro v7 w7 ho7 hg7 hm7
    have hw7 := Lib.hid (hw5.out.grown hg7.out hs5 (fun k hk => (World.ownsRow.lt ho5.out k hk).1))
    have hS := And.intro ((hw7.out.block _ hRd).trans hS0.out.1) ((hw7.out.block _ hXd).trans hS0.out.2)
    have cg7 : w7.cell? ⟨ga, i, none⟩ = some (.slice (some ⟨b2, o2, none⟩) 64 64) := (hw7.out.cell (p := ⟨ga, i, none⟩) hgd).trans cgd
    have hA7 := Lib.hid (hqA.out w7 (hA2.out.below hw7.out))
    have hs7 := hw7.out.size
    clear hg7 hm7
    refine hKz.out _ _ (by first | exact hS | exact Below.trans hOn (Below.mono hnew (Below.size hOn))) (fun hNext => ?_)
    clear hKz Kz hOn
    have hOn := hNext
    clear hNext
    try clear hnew
    try clear hS
    try simp only [Act.put]
    refine wpAnyH_ready (rs := [22]) (by kernel_rfl) (by simp) ?_
    refine AllReadyH.cons (by simp only [List.getElem?_toArray, List.getElem?_cons_succ, List.getElem?_cons_zero]; rfl) (fun Kz hKz => ?_) AllReadyH.nil
    rw [if_pos (by rfl)]
    (refine wpK_appB (.tmp 17) (.tmp 27) rfl wd.heap.size _ _ rfl ho7 ⟨b2, o2, none⟩ 0 ((p.f i).drop 64) 0 rfl ht2 hA7 hll.out (by omega) hs7 ?_)
    intro v8 w8 ho8 hg8 hm8
    have hw8 := Lib.hid (hw7.out.grown hg8.out hs7 (fun k hk => (World.ownsRow.lt ho7.out k hk).1))
    have hS := And.intro ((hw8.out.block _ hRd).trans hS0.out.1) ((hw8.out.block _ hXd).trans hS0.out.2)
    have cg8 : w8.cell? ⟨ga, i, none⟩ = some (.slice (some ⟨b2, o2, none⟩) 64 64) := (hw8.out.cell (p := ⟨ga, i, none⟩) hgd).trans cgd
    have fg8 : w8.frozen? ⟨ga, i, none⟩ = false := hfz.out w8 hw8.out
    obtain ⟨a8, n8, c8, hv8⟩ : ∃ a n c, v8 = .slice a n c := (hform.out _ _ _ ho8.out)
    subst hv8
    clear hg8 hm8
    refine hKz.out _ _ (by first | exact hS | exact Below.trans hOn (Below.mono hnew (Below.size hOn))) (fun hNext => ?_)
    clear hKz Kz hOn
    have hOn := hNext
    clear hNext
    try clear hnew
    try clear hS
    try simp only [Act.put]
    refine wpAnyH_take (i := 23) (v := ?_) (by simp only [List.getElem?_toArray, List.getElem?_cons_succ, List.getElem?_cons_zero]; rfl) (by kernel_rfl) (by kernel_rfl) (by kernel_rfl) (by exact fun _ _ _ h => h) (Or.inl ⟨by rfl, ?_⟩) hOn ?_
    rotate_left
    focus (intro W hSW; go_simp; try with_reducible rfl)
    try simp only [Act.put, List.setIfInBounds_toArray, List.set_cons_zero, List.set_cons_succ]
    refine wpAnyH_ready (rs := [24]) (by kernel_rfl) (by simp) ?_
    refine AllReadyH.cons (by simp only [List.getElem?_toArray, List.getElem?_cons_succ, List.getElem?_cons_zero]; rfl) (fun Kz hKz => ?_) AllReadyH.nil
    go_simp
    have hS : _ ∧ _ := And.intro ((Below.heap_setCell w8 ⟨ga, i, none⟩ (.slice a8 n8 c8) R hgR.symm).trans hOn.1) ((Below.heap_setCell w8 ⟨ga, i, none⟩ (.slice a8 n8 c8) X hgX).trans hOn.2)
    refine hKz.out _ _ (by first | exact hS | exact Below.trans hOn (Below.mono hnew (Below.size hOn))) (fun hNext => ?_)
    clear hKz Kz hOn
    have hOn := hNext
    clear hNext
    try clear hnew
    try clear hS
    try simp only [Act.put]
    refine wpAnyH_done (by kernel_rfl) ?_ _
    all_goals (go_wp2_with fail)
    all_goals
      go_end0
      have hE : overB 64 bs (p.f i) = [] ++ bs.take 64 ++ (p.f i).drop 64 := by simp [overB]
      have h8 := h1.out.below hw8.out
      have hst := RefD.sector (w := w) (Z := wd.heap.size) h8 i hi (overB 64 bs (p.f i)) (overB_len hm hbl hol) (by rw [hE]; exact ho8.out) (by rw [hsd.out, hX]; omega) (fun k hk => by rw [hX]; exact hl.out.2.2.2 k hk) ⟨by omega, by rw [hX]; exact hl.out.1⟩ (fun k hk => by rw [hX]; exact hl.out.2.2.1 k hk) rfl
      refine ⟨rfl, _, hst, fun k hk => .inl hk, fun k hk => hk.imp id (fun hk => ?_), ?_⟩
      · have h81 := (World.ownsRow.lt ho8.out k hk).1
        have h82 := hsd.out
        rw [hX]
        omega
      · refine ((Only.ofBelow (show Below w.heap.size w _ by rw [hX]; exact hd1') : Only (fun k => (Value.slice (some ⟨ga, 0, none⟩) n ca).ownBlock = some k) _ _).trans (Only.ofBelow hw8.out : Only (fun k => (Value.slice (some ⟨ga, 0, none⟩) n ca).ownBlock = some k) _ _) (fun _ _ h => h)).setCell ⟨ga, i, none⟩ _ (fun _ => rfl)
  · have hqA := Lib.hid hqN
    clear hqE hqN
    refine wp_region_held_drew (S := (fun W : World => W.heap[R]? = some (.cells (rcells (.slice (some ⟨ga, 0, none⟩) n ca) vw p.armed rl p.gone) 51 (0, 0)) ∧ W.heap[X]? = some (.cells #[.int .i64 i, .slice (some ⟨bb, ob, none⟩) 64 c] 77 (0, 0)))) (by kernel_rfl) hS0.out (fun hOn => ?_)
    generalize World.drew w1 = wd at *
    refine wpAnyH_take (i := 0) (v := ?_) (by simp only [List.getElem?_toArray, List.getElem?_cons_zero]; rfl) (by kernel_rfl) (by kernel_rfl) (by kernel_rfl) (by exact fun _ _ _ h => h) (Or.inl ⟨by rfl, ?_⟩) hOn ?_
    rotate_left
    focus (intro W hSW; go_simp; try with_reducible rfl)
    try simp only [Act.put, List.setIfInBounds_toArray, List.set_cons_zero, List.set_cons_succ]
    refine wpAnyH_take (i := 1) (v := ?_) (by simp only [List.getElem?_toArray, List.getElem?_cons_succ, List.getElem?_cons_zero]; rfl) (by kernel_rfl) (by kernel_rfl) (by kernel_rfl) (by exact fun _ _ _ h => h) (Or.inl ⟨by rfl, ?_⟩) hOn ?_
    rotate_left
    focus (intro W hSW; go_simp; try with_reducible rfl)
    try simp only [Act.put, List.setIfInBounds_toArray, List.set_cons_zero, List.set_cons_succ]
    refine wpAnyH_take (i := 2) (v := ?_) (by simp only [List.getElem?_toArray, List.getElem?_cons_succ, List.getElem?_cons_zero]; rfl) (by kernel_rfl) (by kernel_rfl) (by kernel_rfl) (by exact fun _ _ _ h => h) (Or.inl ⟨by rfl, ?_⟩) hOn ?_
    rotate_left
    focus (intro W hSW; go_simp; try with_reducible rfl)
    try simp only [Act.put, List.setIfInBounds_toArray, List.set_cons_zero, List.set_cons_succ]
    refine wpAnyH_take (i := 3) (v := ?_) (by simp only [List.getElem?_toArray, List.getElem?_cons_succ, List.getElem?_cons_zero]; rfl) (by kernel_rfl) (by kernel_rfl) (by kernel_rfl) (by exact fun _ _ _ h => h) (Or.inl ⟨by rfl, ?_⟩) hOn ?_
    rotate_left
    focus (intro W hSW; go_simp; try with_reducible rfl)
    try simp only [Act.put, List.setIfInBounds_toArray, List.set_cons_zero, List.set_cons_succ]
    refine wpAnyH_take (i := 4) (v := ?_) (by simp only [List.getElem?_toArray, List.getElem?_cons_succ, List.getElem?_cons_zero]; rfl) (by kernel_rfl) (by kernel_rfl) (by kernel_rfl) (by exact fun _ _ _ h => h) (Or.inl ⟨by rfl, ?_⟩) hOn ?_
    rotate_left
    focus (intro W hSW; go_simp; try with_reducible rfl)
    try simp only [Act.put, List.setIfInBounds_toArray, List.set_cons_zero, List.set_cons_succ]
    refine wpAnyH_take (i := 5) (v := ?_) (by simp only [List.getElem?_toArray, List.getElem?_cons_succ, List.getElem?_cons_zero]; rfl) (by kernel_rfl) (by kernel_rfl) (by kernel_rfl) (by exact fun _ _ _ h => h) (Or.inl ⟨by rfl, ?_⟩) hOn ?_
    rotate_left
    focus (intro W hSW; go_simp; try with_reducible rfl)
    try simp only [Act.put, List.setIfInBounds_toArray, List.set_cons_zero, List.set_cons_succ]
    refine wpAnyH_take (i := 7) (v := ?_) (by simp only [List.getElem?_toArray, List.getElem?_cons_succ, List.getElem?_cons_zero]; rfl) (by kernel_rfl) (by kernel_rfl) (by kernel_rfl) (by exact fun _ _ _ h => h) (Or.inl ⟨by rfl, ?_⟩) hOn ?_
    rotate_left
    focus (intro W hSW; go_simp; try with_reducible rfl)
    try simp only [Act.put, List.setIfInBounds_toArray, List.set_cons_zero, List.set_cons_succ]
    refine wpAnyH_take (i := 8) (v := ?_) (by simp only [List.getElem?_toArray, List.getElem?_cons_succ, List.getElem?_cons_zero]; rfl) (by kernel_rfl) (by kernel_rfl) (by kernel_rfl) (by exact fun _ _ _ h => h) (Or.inl ⟨by rfl, ?_⟩) hOn ?_
    rotate_left
    focus (intro W hSW; go_simp; try with_reducible rfl)
    try simp only [Act.put, List.setIfInBounds_toArray, List.set_cons_zero, List.set_cons_succ]
    refine wpAnyH_take (i := 9) (v := ?_) (by simp only [List.getElem?_toArray, List.getElem?_cons_succ, List.getElem?_cons_zero]; rfl) (by kernel_rfl) (by kernel_rfl) (by kernel_rfl) (by exact fun _ _ _ h => h) (Or.inl ⟨by rfl, ?_⟩) hOn ?_
    rotate_left
    focus (intro W hSW; go_simp; try with_reducible rfl)
    try simp only [Act.put, List.setIfInBounds_toArray, List.set_cons_zero, List.set_cons_succ]
    refine wpAnyH_take (i := 10) (v := ?_) (by simp only [List.getElem?_toArray, List.getElem?_cons_succ, List.getElem?_cons_zero]; rfl) (by kernel_rfl) (by kernel_rfl) (by kernel_rfl) (by exact fun _ _ _ h => h) (Or.inl ⟨by rfl, ?_⟩) hOn ?_
    rotate_left
    focus (intro W hSW; go_simp; try with_reducible rfl)
    try simp only [Act.put, List.setIfInBounds_toArray, List.set_cons_zero, List.set_cons_succ]
    refine wpAnyH_take (i := 12) (v := ?_) (by simp only [List.getElem?_toArray, List.getElem?_cons_succ, List.getElem?_cons_zero]; rfl) (by kernel_rfl) (by kernel_rfl) (by kernel_rfl) (by exact fun _ _ _ h => h) (Or.inl ⟨by rfl, ?_⟩) hOn ?_
    rotate_left
    focus (intro W hSW; go_simp; try with_reducible rfl)
    try simp only [Act.put, List.setIfInBounds_toArray, List.set_cons_zero, List.set_cons_succ]
    refine wpAnyH_take (i := 13) (v := ?_) (by simp only [List.getElem?_toArray, List.getElem?_cons_succ, List.getElem?_cons_zero]; rfl) (by kernel_rfl) (by kernel_rfl) (by kernel_rfl) (by exact fun _ _ _ h => h) (Or.inl ⟨by rfl, ?_⟩) hOn ?_
    rotate_left
    focus (intro W hSW; go_simp; try with_reducible rfl)
    try simp only [Act.put, List.setIfInBounds_toArray, List.set_cons_zero, List.set_cons_succ]
    refine wpAnyH_take (i := 14) (v := ?_) (by simp only [List.getElem?_toArray, List.getElem?_cons_succ, List.getElem?_cons_zero]; rfl) (by kernel_rfl) (by kernel_rfl) (by kernel_rfl) (by exact fun _ _ _ h => h) (Or.inl ⟨by rfl, ?_⟩) hOn ?_
    rotate_left
    focus (intro W hSW; go_simp; try with_reducible rfl)
    try simp only [Act.put, List.setIfInBounds_toArray, List.set_cons_zero, List.set_cons_succ]
    refine wpAnyH_take (i := 15) (v := ?_) (by simp only [List.getElem?_toArray, List.getElem?_cons_succ, List.getElem?_cons_zero]; rfl) (by kernel_rfl) (by kernel_rfl) (by kernel_rfl) (by exact fun _ _ _ h => h) (Or.inl ⟨by rfl, ?_⟩) hOn ?_
    rotate_left
    focus (intro W hSW; go_simp; try with_reducible rfl)
    try simp only [Act.put, List.setIfInBounds_toArray, List.set_cons_zero, List.set_cons_succ]
    refine wpAnyH_take (i := 16) (v := ?_) (by simp only [List.getElem?_toArray, List.getElem?_cons_succ, List.getElem?_cons_zero]; rfl) (by kernel_rfl) (by kernel_rfl) (by kernel_rfl) (by exact fun _ _ _ h => h) (Or.inl ⟨by rfl, ?_⟩) hOn ?_
    rotate_left
    focus (intro W hSW; go_simp; try with_reducible rfl)
    try simp only [Act.put, List.setIfInBounds_toArray, List.set_cons_zero, List.set_cons_succ]
    refine wpAnyH_take (i := 17) (v := ?_) (by simp only [List.getElem?_toArray, List.getElem?_cons_succ, List.getElem?_cons_zero]; rfl) (by kernel_rfl) (by kernel_rfl) (by kernel_rfl) (by exact fun _ _ _ h => h) (Or.inl ⟨by rfl, ?_⟩) hOn ?_
    rotate_left
    focus (intro W hSW; go_simp; try with_reducible rfl)
    try simp only [Act.put, List.setIfInBounds_toArray, List.set_cons_zero, List.set_cons_succ]
    refine wpAnyH_take (i := 18) (v := ?_) (by simp only [List.getElem?_toArray, List.getElem?_cons_succ, List.getElem?_cons_zero]; rfl) (by kernel_rfl) (by kernel_rfl) (by kernel_rfl) (by exact fun _ _ _ h => h) (Or.inl ⟨by rfl, ?_⟩) hOn ?_
    rotate_left
    focus (intro W hSW; go_simp; try with_reducible rfl)
    try simp only [Act.put, List.setIfInBounds_toArray, List.set_cons_zero, List.set_cons_succ]
    refine wpAnyH_take (i := 20) (v := ?_) (by simp only [List.getElem?_toArray, List.getElem?_cons_succ, List.getElem?_cons_zero]; rfl) (by kernel_rfl) (by kernel_rfl) (by kernel_rfl) (by exact fun _ _ _ h => h) (Or.inl ⟨by rfl, ?_⟩) hOn ?_
    rotate_left
    focus (intro W hSW; go_simp; try with_reducible rfl)
    try simp only [Act.put, List.setIfInBounds_toArray, List.set_cons_zero, List.set_cons_succ]
    refine wpAnyH_ready (rs := [6, 19]) (by kernel_rfl) (by simp) ?_
    refine AllReadyH.cons (by simp only [List.getElem?_toArray, List.getElem?_cons_succ, List.getElem?_cons_zero]; rfl) (fun Kz hKz => ?_) ?_
    go_simp
    focus (try go_wp2_with fail)
    (with_reducible refine made_step (t := 5) ?_)
    intro w5 hx5 hnew
    have hS := And.intro ((hnew.block _ (block_lt hOn.1)).trans hOn.1) ((hnew.block _ (block_lt hOn.2)).trans hOn.2)
    have ho5 := Lib.hid (own_empty8 hx5.out (Nat.le_refl wd.heap.size))
    have hw5 := Lib.hid hnew
    have cg5 : w5.cell? ⟨ga, i, none⟩ = some (.slice (some ⟨b2, o2, none⟩) 64 cb) := (hnew.cell (p := ⟨ga, i, none⟩) hgd).trans cgd
    have hA5 := Lib.hid (argB_take (hA1.out.below hnew) m)
    have hs5 := hnew.size
    clear hx5
    refine hKz.out _ _ (by first | exact hS | exact Below.trans hOn (Below.mono hnew (Below.size hOn))) (fun hNext => ?_)
    clear hKz Kz hOn
    have hOn := hNext
    clear hNext
    try clear hnew
    try clear hS
    try simp only [Act.put, List.setIfInBounds_toArray, List.set_cons_zero, List.set_cons_succ]
    refine wpAnyH_ready (rs := [11, 19]) (by kernel_rfl) (by simp) ?_
    refine AllReadyH.cons (by simp only [List.getElem?_toArray, List.getElem?_cons_succ, List.getElem?_cons_zero]; rfl) (fun Kz hKz => ?_) ?_
    rw [if_pos (by rfl)]
    (refine wpK_appB (.tmp 12) (.tmp 16) rfl wd.heap.size _ [] rfl ho5 ⟨bb, ob, none⟩ c (bs.take m) m rfl ht1 hA5 (by decide) (by omega) hs5 ?_)
    intro v7 w7 ho7 hg7 hm7
    have hw7 := Lib.hid (hw5.out.grown hg7.out hs5 (fun k hk => (World.ownsRow.lt ho5.out k hk).1))
    have hS := And.intro ((hw7.out.block _ hRd).trans hS0.out.1) ((hw7.out.block _ hXd).trans hS0.out.2)
    have cg7 : w7.cell? ⟨ga, i, none⟩ = some (.slice (some ⟨b2, o2, none⟩) 64 cb) := (hw7.out.cell (p := ⟨ga, i, none⟩) hgd).trans cgd
    have hA7 := Lib.hid (hqA.out w7 (hA2.out.below hw7.out))
    have hs7 := hw7.out.size
    clear hg7 hm7
    refine hKz.out _ _ (by first | exact hS | exact Below.trans hOn (Below.mono hnew (Below.size hOn))) (fun hNext => ?_)
    clear hKz Kz hOn
    have hOn := hNext
    clear hNext
    try clear hnew
    try clear hS
    try simp only [Act.put]
    refine wpAnyH_ready (rs := [19]) (by kernel_rfl) (by simp) ?_
    refine AllReadyH.cons (by simp only [List.getElem?_toArray, List.getElem?_cons_succ, List.getElem?_cons_zero]; rfl) (fun Kz hKz => ?_) AllReadyH.nil
    go_simp
    focus (try go_wp2_with fail)
    refine hKz.out _ _ (by first | exact hOn | exact Grown.alloc hOn _ | exact Below.alloc hOn (Below.size hOn) _ | exact Grown.alloc (Grown.refl _) _) (fun hNext => ?_)
    clear hKz Kz hOn
    have hOn := hNext
    clear hNext
    try simp only [Act.put, List.setIfInBounds_toArray, List.set_cons_zero, List.set_cons_succ]
    refine wpAnyH_take (i := 21) (v := ?_) (by simp only [List.getElem?_toArray, List.getElem?_cons_succ, List.getElem?_cons_zero]; rfl) (by kernel_rfl) (by kernel_rfl) (by kernel_rfl) (by exact fun _ _ _ h => h) (Or.inl ⟨by rfl, ?_⟩) hOn ?_
    rotate_left
    focus (intro W hSW; go_simp; try with_reducible rfl)
    try simp only [Act.put, List.setIfInBounds_toArray, List.set_cons_zero, List.set_cons_succ]
    refine wpAnyH_ready (rs := [22]) (by kernel_rfl) (by simp) ?_
    refine AllReadyH.cons (by simp only [List.getElem?_toArray, List.getElem?_cons_succ, List.getElem?_cons_zero]; rfl) (fun Kz hKz => ?_) AllReadyH.nil
    rw [if_pos (by rfl)]
    (refine wpK_appB (.tmp 17) (.tmp 27) rfl wd.heap.size _ _ rfl ho7 ⟨b2, o2 + m, none⟩ (cb - m) ((p.f i).drop m) (64 - m) rfl ht2 hA7 hll.out (by omega) hs7 ?_)
    intro v8 w8 ho8 hg8 hm8
    have hw8 := Lib.hid (hw7.out.grown hg8.out hs7 (fun k hk => (World.ownsRow.lt ho7.out k hk).1))
    have hS := And.intro ((hw8.out.block _ hRd).trans hS0.out.1) ((hw8.out.block _ hXd).trans hS0.out.2)
    have cg8 : w8.cell? ⟨ga, i, none⟩ = some (.slice (some ⟨b2, o2, none⟩) 64 cb) := (hw8.out.cell (p := ⟨ga, i, none⟩) hgd).trans cgd
    have fg8 : w8.frozen? ⟨ga, i, none⟩ = false := hfz.out w8 hw8.out
    obtain ⟨a8, n8, c8, hv8⟩ : ∃ a n c, v8 = .slice a n c := (hform.out _ _ _ ho8.out)
    subst hv8
    clear hg8 hm8
    refine hKz.out _ _ (by first | exact hS | exact Below.trans hOn (Below.mono hnew (Below.size hOn))) (fun hNext => ?_)
    clear hKz Kz hOn
    have hOn := hNext
    clear hNext
    try clear hnew
    try clear hS
    try simp only [Act.put]
    refine wpAnyH_take (i := 23) (v := ?_) (by simp only [List.getElem?_toArray, List.getElem?_cons_succ, List.getElem?_cons_zero]; rfl) (by kernel_rfl) (by kernel_rfl) (by kernel_rfl) (by exact fun _ _ _ h => h) (Or.inl ⟨by rfl, ?_⟩) hOn ?_
    rotate_left
    focus (intro W hSW; go_simp; try with_reducible rfl)
    try simp only [Act.put, List.setIfInBounds_toArray, List.set_cons_zero, List.set_cons_succ]
    refine wpAnyH_ready (rs := [24]) (by kernel_rfl) (by simp) ?_
    refine AllReadyH.cons (by simp only [List.getElem?_toArray, List.getElem?_cons_succ, List.getElem?_cons_zero]; rfl) (fun Kz hKz => ?_) AllReadyH.nil
    go_simp
    have hS : _ ∧ _ := And.intro ((Below.heap_setCell w8 ⟨ga, i, none⟩ (.slice a8 n8 c8) R hgR.symm).trans hOn.1) ((Below.heap_setCell w8 ⟨ga, i, none⟩ (.slice a8 n8 c8) X hgX).trans hOn.2)
    refine hKz.out _ _ (by first | exact hS | exact Below.trans hOn (Below.mono hnew (Below.size hOn))) (fun hNext => ?_)
    clear hKz Kz hOn
    have hOn := hNext
    clear hNext
    try clear hnew
    try clear hS
    try simp only [Act.put]
    refine wpAnyH_done (by kernel_rfl) ?_ _
    rotate_left
    refine AllReadyH.cons (by simp only [List.getElem?_toArray, List.getElem?_cons_succ, List.getElem?_cons_zero]; rfl) (fun Kz hKz => ?_) AllReadyH.nil
    go_simp
    focus (try go_wp2_with fail)
    refine hKz.out _ _ (by first | exact hOn | exact Grown.alloc hOn _ | exact Below.alloc hOn (Below.size hOn) _ | exact Grown.alloc (Grown.refl _) _) (fun hNext => ?_)
    clear hKz Kz hOn
    have hOn := hNext
    clear hNext
    try simp only [Act.put, List.setIfInBounds_toArray, List.set_cons_zero, List.set_cons_succ]
    refine wpAnyH_take (i := 21) (v := ?_) (by simp only [List.getElem?_toArray, List.getElem?_cons_succ, List.getElem?_cons_zero]; rfl) (by kernel_rfl) (by kernel_rfl) (by kernel_rfl) (by exact fun _ _ _ h => h) (Or.inl ⟨by rfl, ?_⟩) hOn ?_
    rotate_left
    focus (intro W hSW; go_simp; try with_reducible rfl)
    try simp only [Act.put, List.setIfInBounds_toArray, List.set_cons_zero, List.set_cons_succ]
    refine wpAnyH_ready (rs := [11]) (by kernel_rfl) (by simp) ?_
    refine AllReadyH.cons (by simp only [List.getElem?_toArray, List.getElem?_cons_succ, List.getElem?_cons_zero]; rfl) (fun Kz hKz => ?_) AllReadyH.nil
    rw [if_pos (by rfl)]
    (refine wpK_appB (.tmp 12) (.tmp 16) rfl wd.heap.size _ [] rfl ho5 ⟨bb, ob, none⟩ c (bs.take m) m rfl ht1 hA5 (by decide) (by omega) hs5 ?_)
    intro v7 w7 ho7 hg7 hm7
    have hw7 := Lib.hid (hw5.out.grown hg7.out hs5 (fun k hk => (World.ownsRow.lt ho5.out k hk).1))
    have hS := And.intro ((hw7.out.block _ hRd).trans hS0.out.1) ((hw7.out.block _ hXd).trans hS0.out.2)
    have cg7 : w7.cell? ⟨ga, i, none⟩ = some (.slice (some ⟨b2, o2, none⟩) 64 cb) := (hw7.out.cell (p := ⟨ga, i, none⟩) hgd).trans cgd
    have hA7 := Lib.hid (hqA.out w7 (hA2.out.below hw7.out))
    have hs7 := hw7.out.size
    clear hg7 hm7
    refine hKz.out _ _ (by first | exact hS | exact Below.trans hOn (Below.mono hnew (Below.size hOn))) (fun hNext => ?_)
    clear hKz Kz hOn
    have hOn := hNext
    clear hNext
    try clear hnew
    try clear hS
    try simp only [Act.put]
    refine wpAnyH_ready (rs := [22]) (by kernel_rfl) (by simp) ?_
    refine AllReadyH.cons (by simp only [List.getElem?_toArray, List.getElem?_cons_succ, List.getElem?_cons_zero]; rfl) (fun Kz hKz => ?_) AllReadyH.nil
    rw [if_pos (by rfl)]
    (refine wpK_appB (.tmp 17) (.tmp 27) rfl wd.heap.size _ _ rfl ho7 ⟨b2, o2 + m, none⟩ (cb - m) ((p.f i).drop m) (64 - m) rfl ht2 hA7 hll.out (by omega) hs7 ?_)
    intro v8 w8 ho8 hg8 hm8
    have hw8 := Lib.hid (hw7.out.grown hg8.out hs7 (fun k hk => (World.ownsRow.lt ho7.out k hk).1))
    have hS := And.intro ((hw8.out.block _ hRd).trans hS0.out.1) ((hw8.out.block _ hXd).trans hS0.out.2)
    have cg8 : w8.cell? ⟨ga, i, none⟩ = some (.slice (some ⟨b2, o2, none⟩) 64 cb) := (hw8.out.cell (p := ⟨ga, i, none⟩) hgd).trans cgd
    have fg8 : w8.frozen? ⟨ga, i, none⟩ = false := hfz.out w8 hw8.out
    obtain ⟨a8, n8, c8, hv8⟩ : ∃ a n c, v8 = .slice a n c := (hform.out _ _ _ ho8.out)
    subst hv8
    clear hg8 hm8
    refine hKz.out _ _ (by first | exact hS | exact Below.trans hOn (Below.mono hnew (Below.size hOn))) (fun hNext => ?_)
    clear hKz Kz hOn
    have hOn := hNext
    clear hNext
    try clear hnew
    try clear hS
    try simp only [Act.put]
    refine wpAnyH_take (i := 23) (v := ?_) (by simp only [List.getElem?_toArray, List.getElem?_cons_succ, List.getElem?_cons_zero]; rfl) (by kernel_rfl) (by kernel_rfl) (by kernel_rfl) (by exact fun _ _ _ h => h) (Or.inl ⟨by rfl, ?_⟩) hOn ?_
    rotate_left
    focus (intro W hSW; go_simp; try with_reducible rfl)
    try simp only [Act.put, List.setIfInBounds_toArray, List.set_cons_zero, List.set_cons_succ]
    refine wpAnyH_ready (rs := [24]) (by kernel_rfl) (by simp) ?_
    refine AllReadyH.cons (by simp only [List.getElem?_toArray, List.getElem?_cons_succ, List.getElem?_cons_zero]; rfl) (fun Kz hKz => ?_) AllReadyH.nil
    go_simp
    have hS : _ ∧ _ := And.intro ((Below.heap_setCell w8 ⟨ga, i, none⟩ (.slice a8 n8 c8) R hgR.symm).trans hOn.1) ((Below.heap_setCell w8 ⟨ga, i, none⟩ (.slice a8 n8 c8) X hgX).trans hOn.2)
    refine hKz.out _ _ (by first | exact hS | exact Below.trans hOn (Below.mono hnew (Below.size hOn))) (fun hNext => ?_)
    clear hKz Kz hOn
    have hOn := hNext
    clear hNext
    try clear hnew
    try clear hS
    try simp only [Act.put]
    refine wpAnyH_done (by kernel_rfl) ?_ _
    rotate_left
    refine AllReadyH.cons (by simp only [List.getElem?_toArray, List.getElem?_cons_succ, List.getElem?_cons_zero]; rfl) (fun Kz hKz => ?_) AllReadyH.nil
    go_simp
    focus (try go_wp2_with fail)
    refine hKz.out _ _ (by first | exact hOn | exact Grown.alloc hOn _ | exact Below.alloc hOn (Below.size hOn) _ | exact Grown.alloc (Grown.refl _) _) (fun hNext => ?_)
    clear hKz Kz hOn
    have hOn := hNext
    clear hNext
    try simp only [Act.put, List.setIfInBounds_toArray, List.set_cons_zero, List.set_cons_succ]
    refine wpAnyH_take (i := 21) (v := ?_) (by simp only [List.getElem?_toArray, List.getElem?_cons_succ, List.getElem?_cons_zero]; rfl) (by kernel_rfl) (by kernel_rfl) (by kernel_rfl) (by exact fun _ _ _ h => h) (Or.inl ⟨by rfl, ?_⟩) hOn ?_
    rotate_left
    focus (intro W hSW; go_simp; try with_reducible rfl)
    try simp only [Act.put, List.setIfInBounds_toArray, List.set_cons_zero, List.set_cons_succ]
    refine wpAnyH_ready (rs := [6]) (by kernel_rfl) (by simp) ?_
    refine AllReadyH.cons (by simp only [List.getElem?_toArray, List.getElem?_cons_succ, List.getElem?_cons_zero]; rfl) (fun Kz hKz => ?_) AllReadyH.nil
    go_simp
    focus (try go_wp2_with fail)
    (with_reducible refine made_step (t := 5) ?_)
    intro w5 hx5 hnew
    have hS := And.intro ((hnew.block _ (block_lt hOn.1)).trans hOn.1) ((hnew.block _ (block_lt hOn.2)).trans hOn.2)
    have ho5 := Lib.hid (own_empty8 hx5.out (Nat.le_refl wd.heap.size))
    have hw5 := Lib.hid hnew
    have cg5 : w5.cell? ⟨ga, i, none⟩ = some (.slice (some ⟨b2, o2, none⟩) 64 cb) := (hnew.cell (p := ⟨ga, i, none⟩) hgd).trans cgd
    have hA5 := Lib.hid (argB_take (hA1.out.below hnew) m)
    have hs5 := hnew.size
    clear hx5
    refine hKz.out _ _ (by first | exact hS | exact Below.trans hOn (Below.mono hnew (Below.size hOn))) (fun hNext => ?_)
    clear hKz Kz hOn
    have hOn := hNext
    clear hNext
    try clear hnew
    try clear hS
    try simp only [Act.put, List.setIfInBounds_toArray, List.set_cons_zero, List.set_cons_succ]
    refine wpAnyH_ready (rs := [11]) (by kernel_rfl) (by simp) ?_
    refine AllReadyH.cons (by simp only [List.getElem?_toArray, List.getElem?_cons_succ, List.getElem?_cons_zero]; rfl) (fun Kz hKz => ?_) AllReadyH.nil
    rw [if_pos (by rfl)]
    (refine wpK_appB (.tmp 12) (.tmp 16) rfl wd.heap.size _ [] rfl ho5 ⟨bb, ob, none⟩ c (bs.take m) m rfl ht1 hA5 (by decide) (by omega) hs5 ?_)
    intro v7 w7 ho7 hg7 hm7
    have hw7 := Lib.hid (hw5.out.grown hg7.out hs5 (fun k hk => (World.ownsRow.lt ho5.out k hk).1))
    have hS := And.intro ((hw7.out.block _ hRd).trans hS0.out.1) ((hw7.out.block _ hXd).trans hS0.out.2)
    have cg7 : w7.cell? ⟨ga, i, none⟩ = some (.slice (some ⟨b2, o2, none⟩) 64 cb) := (hw7.out.cell (p := ⟨ga, i, none⟩) hgd).trans cgd
    have hA7 := Lib.hid (hqA.out w7 (hA2.out.below hw7.out))
    have hs7 := hw7.out.size
    clear hg7 hm7
    refine hKz.out _ _ (by first | exact hS | exact Below.trans hOn (Below.mono hnew (Below.size hOn))) (fun hNext => ?_)
    clear hKz Kz hOn
    have hOn := hNext
    clear hNext
    try clear hnew
    try clear hS
    try simp only [Act.put]
    refine wpAnyH_ready (rs := [22]) (by kernel_rfl) (by simp) ?_
    refine AllReadyH.cons (by simp only [List.getElem?_toArray, List.getElem?_cons_succ, List.getElem?_cons_zero]; rfl) (fun Kz hKz => ?_) AllReadyH.nil
    rw [if_pos (by rfl)]
    (refine wpK_appB (.tmp 17) (.tmp 27) rfl wd.heap.size _ _ rfl ho7 ⟨b2, o2 + m, none⟩ (cb - m) ((p.f i).drop m) (64 - m) rfl ht2 hA7 hll.out (by omega) hs7 ?_)
    intro v8 w8 ho8 hg8 hm8
    have hw8 := Lib.hid (hw7.out.grown hg8.out hs7 (fun k hk => (World.ownsRow.lt ho7.out k hk).1))
    have hS := And.intro ((hw8.out.block _ hRd).trans hS0.out.1) ((hw8.out.block _ hXd).trans hS0.out.2)
    have cg8 : w8.cell? ⟨ga, i, none⟩ = some (.slice (some ⟨b2, o2, none⟩) 64 cb) := (hw8.out.cell (p := ⟨ga, i, none⟩) hgd).trans cgd
    have fg8 : w8.frozen? ⟨ga, i, none⟩ = false := hfz.out w8 hw8.out
    obtain ⟨a8, n8, c8, hv8⟩ : ∃ a n c, v8 = .slice a n c := (hform.out _ _ _ ho8.out)
    subst hv8
    clear hg8 hm8
    refine hKz.out _ _ (by first | exact hS | exact Below.trans hOn (Below.mono hnew (Below.size hOn))) (fun hNext => ?_)
    clear hKz Kz hOn
    have hOn := hNext
    clear hNext
    try clear hnew
    try clear hS
    try simp only [Act.put]
    refine wpAnyH_take (i := 23) (v := ?_) (by simp only [List.getElem?_toArray, List.getElem?_cons_succ, List.getElem?_cons_zero]; rfl) (by kernel_rfl) (by kernel_rfl) (by kernel_rfl) (by exact fun _ _ _ h => h) (Or.inl ⟨by rfl, ?_⟩) hOn ?_
    rotate_left
    focus (intro W hSW; go_simp; try with_reducible rfl)
    try simp only [Act.put, List.setIfInBounds_toArray, List.set_cons_zero, List.set_cons_succ]
    refine wpAnyH_ready (rs := [24]) (by kernel_rfl) (by simp) ?_
    refine AllReadyH.cons (by simp only [List.getElem?_toArray, List.getElem?_cons_succ, List.getElem?_cons_zero]; rfl) (fun Kz hKz => ?_) AllReadyH.nil
    go_simp
    have hS : _ ∧ _ := And.intro ((Below.heap_setCell w8 ⟨ga, i, none⟩ (.slice a8 n8 c8) R hgR.symm).trans hOn.1) ((Below.heap_setCell w8 ⟨ga, i, none⟩ (.slice a8 n8 c8) X hgX).trans hOn.2)
    refine hKz.out _ _ (by first | exact hS | exact Below.trans hOn (Below.mono hnew (Below.size hOn))) (fun hNext => ?_)
    clear hKz Kz hOn
    have hOn := hNext
    clear hNext
    try clear hnew
    try clear hS
    try simp only [Act.put]
    refine wpAnyH_done (by kernel_rfl) ?_ _
    all_goals (go_wp2_with fail)
    all_goals
      go_end0
      have hE : overB m bs (p.f i) = [] ++ bs.take m ++ (p.f i).drop m := by simp [overB]
      have h8 := h1.out.below hw8.out
      have hst := RefD.sector (w := w) (Z := wd.heap.size) h8 i hi (overB m bs (p.f i)) (overB_len hm hbl hol) (by rw [hE]; exact ho8.out) (by rw [hsd.out, hX]; omega) (fun k hk => by rw [hX]; exact hl.out.2.2.2 k hk) ⟨by omega, by rw [hX]; exact hl.out.1⟩ (fun k hk => by rw [hX]; exact hl.out.2.2.1 k hk) rfl
      refine ⟨rfl, _, hst, fun k hk => .inl hk, fun k hk => hk.imp id (fun hk => ?_), ?_⟩
      · have h81 := (World.ownsRow.lt ho8.out k hk).1
        have h82 := hsd.out
        rw [hX]
        omega
      · refine ((Only.ofBelow (show Below w.heap.size w _ by rw [hX]; exact hd1') : Only (fun k => (Value.slice (some ⟨ga, 0, none⟩) n ca).ownBlock = some k) _ _).trans (Only.ofBelow hw8.out : Only (fun k => (Value.slice (some ⟨ga, 0, none⟩) n ca).ownBlock = some k) _ _) (fun _ _ h => h)).setCell ⟨ga, i, none⟩ _ (fun _ => rfl)
end Go.Proofs.YtdgilgnaoifpcaaDoor
