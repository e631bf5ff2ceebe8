/- baileeref20.Check for every record. Printed by genrjoin.py. -/
import Derived.Test.YtahnicbokdbjdaaDoorF25ParsSaid20
import Derived.Test.YtahnicbokdbjdaaDoorF26ParsSaid20
import Derived.Test.YtahnicbokdbjdaaDoorF27ParsSaid20
import Derived.Test.YtahnicbokdbjdaaDoorF28ParsSaid20
namespace Go.Proofs.YtahnicbokdbjdaaDoor
open Go.RowKit
set_option linter.unusedVariables false

theorem name_zero (s : ByteArray) : s = ⟨#[]⟩ ↔ s.size = 0 := by
  constructor
  · intro h; rw [h]; rfl
  · intro h
    apply bytes_inj
    exact List.length_eq_zero_iff.1 (by simpa using h)
theorem bz1 (x : Rc) (hk : x.kind = 1) : x.bare = Rc.zero ↔ x.id = 0 ∧ x.way = 0 ∧ x.index = 0 ∧ x.verdict = 0 := by
  unfold Rc.bare
  rw [if_pos hk]
  unfold Rc.zero
  simp only [Rc.mk.injEq, true_and, and_true]
theorem bz2 (x : Rc) (hk : x.kind = 2) : x.bare = Rc.zero ↔ x.name.size = 0 ∧ x.p = P6.zero ∧ x.root = z32 ∧ x.file = z32 ∧ x.verdict = 0 := by
  unfold Rc.bare
  rw [if_neg (by omega), if_pos hk]
  unfold Rc.zero
  simp only [Rc.mk.injEq, name_zero, true_and, and_true]
theorem bz3 (x : Rc) (hk : x.kind = 3) : x.bare = Rc.zero ↔ x.name.size = 0 ∧ x.p = P6.zero ∧ x.root = z32 ∧ x.file = z32 ∧ x.way = 0 ∧ x.index = 0 := by
  unfold Rc.bare
  rw [if_neg (by omega), if_neg (by omega), if_pos hk]
  unfold Rc.zero
  simp only [Rc.mk.injEq, name_zero, true_and, and_true]
theorem bz4 (x : Rc) (hk : x.kind = 4) : x.bare = Rc.zero ↔ x.name.size = 0 ∧ x.p = P6.zero ∧ x.root = z32 ∧ x.file = z32 ∧ x.verdict = 0 ∧ x.way = 0 ∧ x.index = 0 ∧ x.id = 0 := by
  unfold Rc.bare
  rw [if_neg (by omega), if_neg (by omega), if_neg (by omega)]
  unfold Rc.zero
  simp only [Rc.mk.injEq, name_zero, true_and, and_true]
  constructor <;> (intro h; simp_all)
set_option maxRecDepth 100000 in
set_option maxHeartbeats 1000000 in
theorem rcheck_k1 (x : Rc) (hx : x.Ok) (hk : x.kind = 1) (w : World) : Calls Tryd.prog 22 #[.agg x.list.toArray] w fun e w2 => e = .returned (.int .i64 (x.chk : Int)) ∧ Below w.heap.size w w2 := by
  have hs := Rc.size hx
  have hF : RcF x.list.toArray x.p.list (cB x.root) (cB x.file) x.kind x.obj x.id x.name x.way x.index x.verdict x.tick := @Rc.facts x hx
  rw [hk] at hF
  have hP : Hid (x.p.list.toArray = x.p.list.toArray) := Lib.hid rfl
  have hD : Hid ((cB x.root).toArray = (cB x.root).toArray) := Lib.hid rfl
  have hE : Hid ((cB x.file).toArray = (cB x.file).toArray) := Lib.hid rfl
  have i4 : (Tryd.prog.info? 32).map (·.size) = some x.p.list.length := by rw [P6.len]; kernel_rfl
  have i5 : (Tryd.prog.info? 28).map (·.size) = some (cB x.root).length := by rw [cB_length, hx.root]; kernel_rfl
  have i6 : (Tryd.prog.info? 28).map (·.size) = some (cB x.file).length := by rw [cB_length, hx.file]; kernel_rfl
  have hbp := fun W => neq_p15R x.p P6.zero hx.p ⟨by decide, by decide, by decide, by decide, by decide, by decide⟩ W
  have hbr := fun W => neq_d32R x.root z32 hx.root z32_len W
  have hbf := fun W => neq_d32R x.file z32 hx.file z32_len W
  have hlab := Lib.hid (fun W => rLabel_any x.name W (Nat.le_trans hx.name (by decide)))
  by_cases h_o : (inB x.obj 0 1099511627776) = false
  · have hn : x.nums = false := by unfold Rc.nums numsB; rw [hk]; simp [inB] at h_o ⊢; omega
    have hc : x.chk = 1 := by unfold Rc.chk; rw [if_neg (by omega), if_pos hn]
    rw [hc]
    exact rchk1_o w _ _ _ _ _ _ _ x.obj x.id x.way x.index x.verdict x.tick x.name _ _ _ _ hs hF hP hD hE i4 i5 i6 hbp hbr hbf hlab  h_o
  replace h_o : (inB x.obj 0 1099511627776) = true := by simpa using h_o
  by_cases h_t : (inB x.tick 0 1099511627776) = false
  · have hn : x.nums = false := by unfold Rc.nums numsB; rw [hk]; simp [inB] at h_o h_t ⊢; omega
    have hc : x.chk = 1 := by unfold Rc.chk; rw [if_neg (by omega), if_pos hn]
    rw [hc]
    exact rchk1_t w _ _ _ _ _ _ _ x.obj x.id x.way x.index x.verdict x.tick x.name _ _ _ _ hs hF hP hD hE i4 i5 i6 hbp hbr hbf hlab h_o h_t
  replace h_t : (inB x.tick 0 1099511627776) = true := by simpa using h_t
  by_cases h_lab : (labB x.name.data.toList) = false
  · have hn : x.nums = true := by unfold Rc.nums numsB; rw [hk]; simp [inB] at h_o h_t ⊢; omega
    have hc : x.chk = 6 := by unfold Rc.chk; rw [if_neg (by omega), if_neg (by rw [hn]; decide), if_pos hk, if_pos h_lab]
    rw [hc]
    exact rchk1_lab w _ _ _ _ _ _ _ x.obj x.id x.way x.index x.verdict x.tick x.name _ _ _ _ hs hF hP hD hE i4 i5 i6 hbp hbr hbf hlab h_o h_t h_lab
  replace h_lab : (labB x.name.data.toList) = true := by simpa using h_lab
  have hr := fun W => rcheck_any x.p.s x.p.n x.p.k x.p.d x.p.t x.p.r W
  cases hbd : badAt x.p.s x.p.n x.p.k x.p.d x.p.t x.p.r with
  | some q =>
    obtain ⟨F, V, i⟩ := q
    rw [hbd] at hr
    have hn : x.nums = true := by unfold Rc.nums numsB; rw [hk]; simp [inB] at h_o h_t ⊢; omega
    have hc : x.chk = i + 1 := by unfold Rc.chk; rw [if_neg (by omega), if_neg (by rw [hn]; decide), if_pos hk, if_neg (by rw [h_lab]; decide), hbd]
    rw [hc]
    exact rchk1_par ((i + 1 : Nat) : Int) w _ _ _ _ _ _ _ x.obj x.id x.way x.index x.verdict x.tick x.name _ _ _ _ hs hF hP hD hE i4 i5 i6 hbp hbr hbf hlab h_o h_t h_lab (Lib.hid (fun W => (hr W).mono fun e w2 h => ⟨F, V, h⟩)) (by simp; omega)
  | none =>
    rw [hbd] at hr
    have hpar := Lib.hid (fun W => (hr W).mono fun e w2 h => (⟨_, _, h⟩ : ∃ F V, e = .returned (.tuple #[.string F, .int .i64 V, .int .i64 0]) ∧ Below W.heap.size W w2))
    by_cases h_zi : (x.id != 0) = true
    · have hn : x.nums = true := by unfold Rc.nums numsB; rw [hk]; simp [inB] at h_o h_t ⊢; omega
      have hz : ¬ x.bare = Rc.zero := fun h => by have h := (bz1 x hk).1 h; simp [h.1] at h_zi
      have hc : x.chk = 4 := by unfold Rc.chk; rw [if_neg (by omega), if_neg (by rw [hn]; decide), if_pos hk, if_neg (by rw [h_lab]; decide), hbd]; exact if_neg hz
      rw [hc]
      exact rchk1_zi w _ _ _ _ _ _ _ x.obj x.id x.way x.index x.verdict x.tick x.name _ _ _ _ hs hF hP hD hE i4 i5 i6 hbp hbr hbf hlab h_o h_t h_lab hpar h_zi (by simpa using h_zi)
    replace h_zi : (x.id != 0) = false := by simpa using h_zi
    by_cases h_zw : (x.way != 0) = true
    · have hn : x.nums = true := by unfold Rc.nums numsB; rw [hk]; simp [inB] at h_o h_t ⊢; omega
      have hz : ¬ x.bare = Rc.zero := fun h => by have h := (bz1 x hk).1 h; simp [h.2.1] at h_zw
      have hc : x.chk = 4 := by unfold Rc.chk; rw [if_neg (by omega), if_neg (by rw [hn]; decide), if_pos hk, if_neg (by rw [h_lab]; decide), hbd]; exact if_neg hz
      rw [hc]
      exact rchk1_zw w _ _ _ _ _ _ _ x.obj x.id x.way x.index x.verdict x.tick x.name _ _ _ _ hs hF hP hD hE i4 i5 i6 hbp hbr hbf hlab h_o h_t h_lab hpar h_zi (by simpa using h_zi) h_zw (by simpa using h_zw)
    replace h_zw : (x.way != 0) = false := by simpa using h_zw
    by_cases h_zx : (x.index != 0) = true
    · have hn : x.nums = true := by unfold Rc.nums numsB; rw [hk]; simp [inB] at h_o h_t ⊢; omega
      have hz : ¬ x.bare = Rc.zero := fun h => by have h := (bz1 x hk).1 h; simp [h.2.2.1] at h_zx
      have hc : x.chk = 4 := by unfold Rc.chk; rw [if_neg (by omega), if_neg (by rw [hn]; decide), if_pos hk, if_neg (by rw [h_lab]; decide), hbd]; exact if_neg hz
      rw [hc]
      exact rchk1_zx w _ _ _ _ _ _ _ x.obj x.id x.way x.index x.verdict x.tick x.name _ _ _ _ hs hF hP hD hE i4 i5 i6 hbp hbr hbf hlab h_o h_t h_lab hpar h_zi (by simpa using h_zi) h_zw (by simpa using h_zw) h_zx (by simpa using h_zx)
    replace h_zx : (x.index != 0) = false := by simpa using h_zx
    by_cases h_zv : (x.verdict != 0) = true
    · have hn : x.nums = true := by unfold Rc.nums numsB; rw [hk]; simp [inB] at h_o h_t ⊢; omega
      have hz : ¬ x.bare = Rc.zero := fun h => by have h := (bz1 x hk).1 h; simp [h.2.2.2] at h_zv
      have hc : x.chk = 4 := by unfold Rc.chk; rw [if_neg (by omega), if_neg (by rw [hn]; decide), if_pos hk, if_neg (by rw [h_lab]; decide), hbd]; exact if_neg hz
      rw [hc]
      exact rchk1_zv w _ _ _ _ _ _ _ x.obj x.id x.way x.index x.verdict x.tick x.name _ _ _ _ hs hF hP hD hE i4 i5 i6 hbp hbr hbf hlab h_o h_t h_lab hpar h_zi (by simpa using h_zi) h_zw (by simpa using h_zw) h_zx (by simpa using h_zx) h_zv (by simpa using h_zv)
    replace h_zv : (x.verdict != 0) = false := by simpa using h_zv
    have hn : x.nums = true := by unfold Rc.nums numsB; rw [hk]; simp [inB] at h_o h_t ⊢; omega
    have hz : x.bare = Rc.zero := (bz1 x hk).2 ⟨by simpa using h_zi, by simpa using h_zw, by simpa using h_zx, by simpa using h_zv⟩
    have hc : x.chk = 0 := by unfold Rc.chk; rw [if_neg (by omega), if_neg (by rw [hn]; decide), if_pos hk, if_neg (by rw [h_lab]; decide), hbd]; exact if_pos hz
    rw [hc]
    exact rchk1_ok w _ _ _ _ _ _ _ x.obj x.id x.way x.index x.verdict x.tick x.name _ _ _ _ hs hF hP hD hE i4 i5 i6 hbp hbr hbf hlab h_o h_t h_lab hpar h_zi (by simpa using h_zi) h_zw (by simpa using h_zw) h_zx (by simpa using h_zx) h_zv (by simpa using h_zv)
set_option maxRecDepth 100000 in
set_option maxHeartbeats 1000000 in
theorem rcheck_k2 (x : Rc) (hx : x.Ok) (hk : x.kind = 2) (w : World) : Calls Tryd.prog 22 #[.agg x.list.toArray] w fun e w2 => e = .returned (.int .i64 (x.chk : Int)) ∧ Below w.heap.size w w2 := by
  have hs := Rc.size hx
  have hF : RcF x.list.toArray x.p.list (cB x.root) (cB x.file) x.kind x.obj x.id x.name x.way x.index x.verdict x.tick := @Rc.facts x hx
  rw [hk] at hF
  have hP : Hid (x.p.list.toArray = x.p.list.toArray) := Lib.hid rfl
  have hD : Hid ((cB x.root).toArray = (cB x.root).toArray) := Lib.hid rfl
  have hE : Hid ((cB x.file).toArray = (cB x.file).toArray) := Lib.hid rfl
  have i4 : (Tryd.prog.info? 32).map (·.size) = some x.p.list.length := by rw [P6.len]; kernel_rfl
  have i5 : (Tryd.prog.info? 28).map (·.size) = some (cB x.root).length := by rw [cB_length, hx.root]; kernel_rfl
  have i6 : (Tryd.prog.info? 28).map (·.size) = some (cB x.file).length := by rw [cB_length, hx.file]; kernel_rfl
  have hbp := fun W => neq_p15R x.p P6.zero hx.p ⟨by decide, by decide, by decide, by decide, by decide, by decide⟩ W
  have hbr := fun W => neq_d32R x.root z32 hx.root z32_len W
  have hbf := fun W => neq_d32R x.file z32 hx.file z32_len W
  have hlab := Lib.hid (fun W => rLabel_any x.name W (Nat.le_trans hx.name (by decide)))
  by_cases h_o : (inB x.obj 0 1099511627776) = false
  · have hn : x.nums = false := by unfold Rc.nums numsB; rw [hk]; simp [inB] at h_o ⊢; omega
    have hc : x.chk = 1 := by unfold Rc.chk; rw [if_neg (by omega), if_pos hn]
    rw [hc]
    exact rchk2_o w _ _ _ _ _ _ _ x.obj x.id x.way x.index x.verdict x.tick x.name _ rfl _ _ _ _ hs hF hP hD hE i4 i5 i6 hbp hbr hbf hlab  h_o
  replace h_o : (inB x.obj 0 1099511627776) = true := by simpa using h_o
  by_cases h_t : (inB x.tick 0 1099511627776) = false
  · have hn : x.nums = false := by unfold Rc.nums numsB; rw [hk]; simp [inB] at h_o h_t ⊢; omega
    have hc : x.chk = 1 := by unfold Rc.chk; rw [if_neg (by omega), if_pos hn]
    rw [hc]
    exact rchk2_t w _ _ _ _ _ _ _ x.obj x.id x.way x.index x.verdict x.tick x.name _ rfl _ _ _ _ hs hF hP hD hE i4 i5 i6 hbp hbr hbf hlab h_o h_t
  replace h_t : (inB x.tick 0 1099511627776) = true := by simpa using h_t
  by_cases h_i : (inB x.id 0 1099511627776) = false
  · have hn : x.nums = false := by unfold Rc.nums numsB; rw [hk]; simp [inB] at h_o h_t h_i ⊢; omega
    have hc : x.chk = 1 := by unfold Rc.chk; rw [if_neg (by omega), if_pos hn]
    rw [hc]
    exact rchk2_i w _ _ _ _ _ _ _ x.obj x.id x.way x.index x.verdict x.tick x.name _ rfl _ _ _ _ hs hF hP hD hE i4 i5 i6 hbp hbr hbf hlab h_o h_t h_i
  replace h_i : (inB x.id 0 1099511627776) = true := by simpa using h_i
  by_cases h_w1 : (decide (x.way < 1)) = true
  · have hn : x.nums = false := by unfold Rc.nums numsB; rw [hk]; simp [inB] at h_o h_t h_i h_w1 ⊢; omega
    have hc : x.chk = 1 := by unfold Rc.chk; rw [if_neg (by omega), if_pos hn]
    rw [hc]
    exact rchk2_w1 w _ _ _ _ _ _ _ x.obj x.id x.way x.index x.verdict x.tick x.name _ rfl _ _ _ _ hs hF hP hD hE i4 i5 i6 hbp hbr hbf hlab h_o h_t h_i h_w1
  replace h_w1 : (decide (x.way < 1)) = false := by simpa using h_w1
  by_cases h_w2 : (decide (2 < x.way)) = true
  · have hn : x.nums = false := by unfold Rc.nums numsB; rw [hk]; simp [inB] at h_o h_t h_i h_w1 h_w2 ⊢; omega
    have hc : x.chk = 1 := by unfold Rc.chk; rw [if_neg (by omega), if_pos hn]
    rw [hc]
    exact rchk2_w2 w _ _ _ _ _ _ _ x.obj x.id x.way x.index x.verdict x.tick x.name _ rfl _ _ _ _ hs hF hP hD hE i4 i5 i6 hbp hbr hbf hlab h_o h_t h_i h_w1 h_w2
  replace h_w2 : (decide (2 < x.way)) = false := by simpa using h_w2
  by_cases h_x1 : (decide (x.index < 0)) = true
  · have hn : x.nums = false := by unfold Rc.nums numsB; rw [hk]; simp [inB] at h_o h_t h_i h_w1 h_w2 h_x1 ⊢; omega
    have hc : x.chk = 1 := by unfold Rc.chk; rw [if_neg (by omega), if_pos hn]
    rw [hc]
    exact rchk2_x1 w _ _ _ _ _ _ _ x.obj x.id x.way x.index x.verdict x.tick x.name _ rfl _ _ _ _ hs hF hP hD hE i4 i5 i6 hbp hbr hbf hlab h_o h_t h_i h_w1 h_w2 h_x1
  replace h_x1 : (decide (x.index < 0)) = false := by simpa using h_x1
  by_cases h_x2 : (decide (1048576 < x.index)) = true
  · have hn : x.nums = false := by unfold Rc.nums numsB; rw [hk]; simp [inB] at h_o h_t h_i h_w1 h_w2 h_x1 h_x2 ⊢; omega
    have hc : x.chk = 1 := by unfold Rc.chk; rw [if_neg (by omega), if_pos hn]
    rw [hc]
    exact rchk2_x2 w _ _ _ _ _ _ _ x.obj x.id x.way x.index x.verdict x.tick x.name _ rfl _ _ _ _ hs hF hP hD hE i4 i5 i6 hbp hbr hbf hlab h_o h_t h_i h_w1 h_w2 h_x1 h_x2
  replace h_x2 : (decide (1048576 < x.index)) = false := by simpa using h_x2
  by_cases h_nm : (decide (0 < (x.name.size : Int))) = true
  · have hn : x.nums = true := by unfold Rc.nums numsB; rw [hk]; simp [inB] at h_o h_t h_i h_w1 h_w2 h_x1 h_x2 ⊢; omega
    have hz : ¬ x.bare = Rc.zero := fun h => by have h := (bz2 x hk).1 h; simp [h.1] at h_nm
    have hc : x.chk = 4 := by unfold Rc.chk; rw [if_neg (by omega), if_neg (by rw [hn]; decide), if_neg (by omega), if_neg hz]
    rw [hc]
    exact rchk2_nm w _ _ _ _ _ _ _ x.obj x.id x.way x.index x.verdict x.tick x.name _ rfl _ _ _ _ hs hF hP hD hE i4 i5 i6 hbp hbr hbf hlab h_o h_t h_i h_w1 h_w2 h_x1 h_x2 h_nm
  replace h_nm : (decide (0 < (x.name.size : Int))) = false := by simpa using h_nm
  by_cases h_pz : (!decide (x.p = P6.zero)) = true
  · have hn : x.nums = true := by unfold Rc.nums numsB; rw [hk]; simp [inB] at h_o h_t h_i h_w1 h_w2 h_x1 h_x2 ⊢; omega
    have hz : ¬ x.bare = Rc.zero := fun h => by have h := (bz2 x hk).1 h; simp [h.2.1] at h_pz
    have hc : x.chk = 4 := by unfold Rc.chk; rw [if_neg (by omega), if_neg (by rw [hn]; decide), if_neg (by omega), if_neg hz]
    rw [hc]
    exact rchk2_pz w _ _ _ _ _ _ _ x.obj x.id x.way x.index x.verdict x.tick x.name _ rfl _ _ _ _ hs hF hP hD hE i4 i5 i6 hbp hbr hbf hlab h_o h_t h_i h_w1 h_w2 h_x1 h_x2 h_nm h_pz
  replace h_pz : (!decide (x.p = P6.zero)) = false := by simpa using h_pz
  by_cases h_rz : (!decide (x.root = z32)) = true
  · have hn : x.nums = true := by unfold Rc.nums numsB; rw [hk]; simp [inB] at h_o h_t h_i h_w1 h_w2 h_x1 h_x2 ⊢; omega
    have hz : ¬ x.bare = Rc.zero := fun h => by have h := (bz2 x hk).1 h; simp [h.2.2.1] at h_rz
    have hc : x.chk = 4 := by unfold Rc.chk; rw [if_neg (by omega), if_neg (by rw [hn]; decide), if_neg (by omega), if_neg hz]
    rw [hc]
    exact rchk2_rz w _ _ _ _ _ _ _ x.obj x.id x.way x.index x.verdict x.tick x.name _ rfl _ _ _ _ hs hF hP hD hE i4 i5 i6 hbp hbr hbf hlab h_o h_t h_i h_w1 h_w2 h_x1 h_x2 h_nm h_pz h_rz
  replace h_rz : (!decide (x.root = z32)) = false := by simpa using h_rz
  by_cases h_fz : (!decide (x.file = z32)) = true
  · have hn : x.nums = true := by unfold Rc.nums numsB; rw [hk]; simp [inB] at h_o h_t h_i h_w1 h_w2 h_x1 h_x2 ⊢; omega
    have hz : ¬ x.bare = Rc.zero := fun h => by have h := (bz2 x hk).1 h; simp [h.2.2.2.1] at h_fz
    have hc : x.chk = 4 := by unfold Rc.chk; rw [if_neg (by omega), if_neg (by rw [hn]; decide), if_neg (by omega), if_neg hz]
    rw [hc]
    exact rchk2_fz w _ _ _ _ _ _ _ x.obj x.id x.way x.index x.verdict x.tick x.name _ rfl _ _ _ _ hs hF hP hD hE i4 i5 i6 hbp hbr hbf hlab h_o h_t h_i h_w1 h_w2 h_x1 h_x2 h_nm h_pz h_rz h_fz
  replace h_fz : (!decide (x.file = z32)) = false := by simpa using h_fz
  by_cases h_zv : (x.verdict != 0) = true
  · have hn : x.nums = true := by unfold Rc.nums numsB; rw [hk]; simp [inB] at h_o h_t h_i h_w1 h_w2 h_x1 h_x2 ⊢; omega
    have hz : ¬ x.bare = Rc.zero := fun h => by have h := (bz2 x hk).1 h; simp [h.2.2.2.2] at h_zv
    have hc : x.chk = 4 := by unfold Rc.chk; rw [if_neg (by omega), if_neg (by rw [hn]; decide), if_neg (by omega), if_neg hz]
    rw [hc]
    exact rchk2_zv w _ _ _ _ _ _ _ x.obj x.id x.way x.index x.verdict x.tick x.name _ rfl _ _ _ _ hs hF hP hD hE i4 i5 i6 hbp hbr hbf hlab h_o h_t h_i h_w1 h_w2 h_x1 h_x2 h_nm h_pz h_rz h_fz h_zv (by simpa using h_zv)
  replace h_zv : (x.verdict != 0) = false := by simpa using h_zv
  have hn : x.nums = true := by unfold Rc.nums numsB; rw [hk]; simp [inB] at h_o h_t h_i h_w1 h_w2 h_x1 h_x2 ⊢; omega
  have hz : x.bare = Rc.zero := (bz2 x hk).2 ⟨by have h := h_nm; simp only [decide_eq_false_iff_not] at h; omega, by simpa using h_pz, by simpa using h_rz, by simpa using h_fz, by simpa using h_zv⟩
  have hc : x.chk = 0 := by unfold Rc.chk; rw [if_neg (by omega), if_neg (by rw [hn]; decide), if_neg (by omega), if_pos hz]
  rw [hc]
  exact rchk2_ok w _ _ _ _ _ _ _ x.obj x.id x.way x.index x.verdict x.tick x.name _ rfl _ _ _ _ hs hF hP hD hE i4 i5 i6 hbp hbr hbf hlab h_o h_t h_i h_w1 h_w2 h_x1 h_x2 h_nm h_pz h_rz h_fz h_zv (by simpa using h_zv)
set_option maxRecDepth 100000 in
set_option maxHeartbeats 1000000 in
theorem rcheck_k3 (x : Rc) (hx : x.Ok) (hk : x.kind = 3) (w : World) : Calls Tryd.prog 22 #[.agg x.list.toArray] w fun e w2 => e = .returned (.int .i64 (x.chk : Int)) ∧ Below w.heap.size w w2 := by
  have hs := Rc.size hx
  have hF : RcF x.list.toArray x.p.list (cB x.root) (cB x.file) x.kind x.obj x.id x.name x.way x.index x.verdict x.tick := @Rc.facts x hx
  rw [hk] at hF
  have hP : Hid (x.p.list.toArray = x.p.list.toArray) := Lib.hid rfl
  have hD : Hid ((cB x.root).toArray = (cB x.root).toArray) := Lib.hid rfl
  have hE : Hid ((cB x.file).toArray = (cB x.file).toArray) := Lib.hid rfl
  have i4 : (Tryd.prog.info? 32).map (·.size) = some x.p.list.length := by rw [P6.len]; kernel_rfl
  have i5 : (Tryd.prog.info? 28).map (·.size) = some (cB x.root).length := by rw [cB_length, hx.root]; kernel_rfl
  have i6 : (Tryd.prog.info? 28).map (·.size) = some (cB x.file).length := by rw [cB_length, hx.file]; kernel_rfl
  have hbp := fun W => neq_p15R x.p P6.zero hx.p ⟨by decide, by decide, by decide, by decide, by decide, by decide⟩ W
  have hbr := fun W => neq_d32R x.root z32 hx.root z32_len W
  have hbf := fun W => neq_d32R x.file z32 hx.file z32_len W
  have hlab := Lib.hid (fun W => rLabel_any x.name W (Nat.le_trans hx.name (by decide)))
  by_cases h_o : (inB x.obj 0 1099511627776) = false
  · have hn : x.nums = false := by unfold Rc.nums numsB; rw [hk]; simp [inB] at h_o ⊢; omega
    have hc : x.chk = 1 := by unfold Rc.chk; rw [if_neg (by omega), if_pos hn]
    rw [hc]
    exact rchk3_o w _ _ _ _ _ _ _ x.obj x.id x.way x.index x.verdict x.tick x.name _ rfl _ _ _ _ hs hF hP hD hE i4 i5 i6 hbp hbr hbf hlab  h_o
  replace h_o : (inB x.obj 0 1099511627776) = true := by simpa using h_o
  by_cases h_t : (inB x.tick 0 1099511627776) = false
  · have hn : x.nums = false := by unfold Rc.nums numsB; rw [hk]; simp [inB] at h_o h_t ⊢; omega
    have hc : x.chk = 1 := by unfold Rc.chk; rw [if_neg (by omega), if_pos hn]
    rw [hc]
    exact rchk3_t w _ _ _ _ _ _ _ x.obj x.id x.way x.index x.verdict x.tick x.name _ rfl _ _ _ _ hs hF hP hD hE i4 i5 i6 hbp hbr hbf hlab h_o h_t
  replace h_t : (inB x.tick 0 1099511627776) = true := by simpa using h_t
  by_cases h_i : (inB x.id 0 1099511627776) = false
  · have hn : x.nums = false := by unfold Rc.nums numsB; rw [hk]; simp [inB] at h_o h_t h_i ⊢; omega
    have hc : x.chk = 1 := by unfold Rc.chk; rw [if_neg (by omega), if_pos hn]
    rw [hc]
    exact rchk3_i w _ _ _ _ _ _ _ x.obj x.id x.way x.index x.verdict x.tick x.name _ rfl _ _ _ _ hs hF hP hD hE i4 i5 i6 hbp hbr hbf hlab h_o h_t h_i
  replace h_i : (inB x.id 0 1099511627776) = true := by simpa using h_i
  by_cases h_d1 : (decide (x.verdict < 1)) = true
  · have hn : x.nums = false := by unfold Rc.nums numsB; rw [hk]; simp [inB] at h_o h_t h_i h_d1 ⊢; omega
    have hc : x.chk = 1 := by unfold Rc.chk; rw [if_neg (by omega), if_pos hn]
    rw [hc]
    exact rchk3_d1 w _ _ _ _ _ _ _ x.obj x.id x.way x.index x.verdict x.tick x.name _ rfl _ _ _ _ hs hF hP hD hE i4 i5 i6 hbp hbr hbf hlab h_o h_t h_i h_d1
  replace h_d1 : (decide (x.verdict < 1)) = false := by simpa using h_d1
  by_cases h_d2 : (decide (3 < x.verdict)) = true
  · have hn : x.nums = false := by unfold Rc.nums numsB; rw [hk]; simp [inB] at h_o h_t h_i h_d1 h_d2 ⊢; omega
    have hc : x.chk = 1 := by unfold Rc.chk; rw [if_neg (by omega), if_pos hn]
    rw [hc]
    exact rchk3_d2 w _ _ _ _ _ _ _ x.obj x.id x.way x.index x.verdict x.tick x.name _ rfl _ _ _ _ hs hF hP hD hE i4 i5 i6 hbp hbr hbf hlab h_o h_t h_i h_d1 h_d2
  replace h_d2 : (decide (3 < x.verdict)) = false := by simpa using h_d2
  by_cases h_nm : (decide (0 < (x.name.size : Int))) = true
  · have hn : x.nums = true := by unfold Rc.nums numsB; rw [hk]; simp [inB] at h_o h_t h_i h_d1 h_d2 ⊢; omega
    have hz : ¬ x.bare = Rc.zero := fun h => by have h := (bz3 x hk).1 h; simp [h.1] at h_nm
    have hc : x.chk = 4 := by unfold Rc.chk; rw [if_neg (by omega), if_neg (by rw [hn]; decide), if_neg (by omega), if_neg hz]
    rw [hc]
    exact rchk3_nm w _ _ _ _ _ _ _ x.obj x.id x.way x.index x.verdict x.tick x.name _ rfl _ _ _ _ hs hF hP hD hE i4 i5 i6 hbp hbr hbf hlab h_o h_t h_i h_d1 h_d2 h_nm
  replace h_nm : (decide (0 < (x.name.size : Int))) = false := by simpa using h_nm
  by_cases h_pz : (!decide (x.p = P6.zero)) = true
  · have hn : x.nums = true := by unfold Rc.nums numsB; rw [hk]; simp [inB] at h_o h_t h_i h_d1 h_d2 ⊢; omega
    have hz : ¬ x.bare = Rc.zero := fun h => by have h := (bz3 x hk).1 h; simp [h.2.1] at h_pz
    have hc : x.chk = 4 := by unfold Rc.chk; rw [if_neg (by omega), if_neg (by rw [hn]; decide), if_neg (by omega), if_neg hz]
    rw [hc]
    exact rchk3_pz w _ _ _ _ _ _ _ x.obj x.id x.way x.index x.verdict x.tick x.name _ rfl _ _ _ _ hs hF hP hD hE i4 i5 i6 hbp hbr hbf hlab h_o h_t h_i h_d1 h_d2 h_nm h_pz
  replace h_pz : (!decide (x.p = P6.zero)) = false := by simpa using h_pz
  by_cases h_rz : (!decide (x.root = z32)) = true
  · have hn : x.nums = true := by unfold Rc.nums numsB; rw [hk]; simp [inB] at h_o h_t h_i h_d1 h_d2 ⊢; omega
    have hz : ¬ x.bare = Rc.zero := fun h => by have h := (bz3 x hk).1 h; simp [h.2.2.1] at h_rz
    have hc : x.chk = 4 := by unfold Rc.chk; rw [if_neg (by omega), if_neg (by rw [hn]; decide), if_neg (by omega), if_neg hz]
    rw [hc]
    exact rchk3_rz w _ _ _ _ _ _ _ x.obj x.id x.way x.index x.verdict x.tick x.name _ rfl _ _ _ _ hs hF hP hD hE i4 i5 i6 hbp hbr hbf hlab h_o h_t h_i h_d1 h_d2 h_nm h_pz h_rz
  replace h_rz : (!decide (x.root = z32)) = false := by simpa using h_rz
  by_cases h_fz : (!decide (x.file = z32)) = true
  · have hn : x.nums = true := by unfold Rc.nums numsB; rw [hk]; simp [inB] at h_o h_t h_i h_d1 h_d2 ⊢; omega
    have hz : ¬ x.bare = Rc.zero := fun h => by have h := (bz3 x hk).1 h; simp [h.2.2.2.1] at h_fz
    have hc : x.chk = 4 := by unfold Rc.chk; rw [if_neg (by omega), if_neg (by rw [hn]; decide), if_neg (by omega), if_neg hz]
    rw [hc]
    exact rchk3_fz w _ _ _ _ _ _ _ x.obj x.id x.way x.index x.verdict x.tick x.name _ rfl _ _ _ _ hs hF hP hD hE i4 i5 i6 hbp hbr hbf hlab h_o h_t h_i h_d1 h_d2 h_nm h_pz h_rz h_fz
  replace h_fz : (!decide (x.file = z32)) = false := by simpa using h_fz
  by_cases h_zw : (x.way != 0) = true
  · have hn : x.nums = true := by unfold Rc.nums numsB; rw [hk]; simp [inB] at h_o h_t h_i h_d1 h_d2 ⊢; omega
    have hz : ¬ x.bare = Rc.zero := fun h => by have h := (bz3 x hk).1 h; simp [h.2.2.2.2.1] at h_zw
    have hc : x.chk = 4 := by unfold Rc.chk; rw [if_neg (by omega), if_neg (by rw [hn]; decide), if_neg (by omega), if_neg hz]
    rw [hc]
    exact rchk3_zw w _ _ _ _ _ _ _ x.obj x.id x.way x.index x.verdict x.tick x.name _ rfl _ _ _ _ hs hF hP hD hE i4 i5 i6 hbp hbr hbf hlab h_o h_t h_i h_d1 h_d2 h_nm h_pz h_rz h_fz h_zw (by simpa using h_zw)
  replace h_zw : (x.way != 0) = false := by simpa using h_zw
  by_cases h_zx : (x.index != 0) = true
  · have hn : x.nums = true := by unfold Rc.nums numsB; rw [hk]; simp [inB] at h_o h_t h_i h_d1 h_d2 ⊢; omega
    have hz : ¬ x.bare = Rc.zero := fun h => by have h := (bz3 x hk).1 h; simp [h.2.2.2.2.2] at h_zx
    have hc : x.chk = 4 := by unfold Rc.chk; rw [if_neg (by omega), if_neg (by rw [hn]; decide), if_neg (by omega), if_neg hz]
    rw [hc]
    exact rchk3_zx w _ _ _ _ _ _ _ x.obj x.id x.way x.index x.verdict x.tick x.name _ rfl _ _ _ _ hs hF hP hD hE i4 i5 i6 hbp hbr hbf hlab h_o h_t h_i h_d1 h_d2 h_nm h_pz h_rz h_fz h_zw (by simpa using h_zw) h_zx (by simpa using h_zx)
  replace h_zx : (x.index != 0) = false := by simpa using h_zx
  have hn : x.nums = true := by unfold Rc.nums numsB; rw [hk]; simp [inB] at h_o h_t h_i h_d1 h_d2 ⊢; omega
  have hz : x.bare = Rc.zero := (bz3 x hk).2 ⟨by have h := h_nm; simp only [decide_eq_false_iff_not] at h; omega, by simpa using h_pz, by simpa using h_rz, by simpa using h_fz, by simpa using h_zw, by simpa using h_zx⟩
  have hc : x.chk = 0 := by unfold Rc.chk; rw [if_neg (by omega), if_neg (by rw [hn]; decide), if_neg (by omega), if_pos hz]
  rw [hc]
  exact rchk3_ok w _ _ _ _ _ _ _ x.obj x.id x.way x.index x.verdict x.tick x.name _ rfl _ _ _ _ hs hF hP hD hE i4 i5 i6 hbp hbr hbf hlab h_o h_t h_i h_d1 h_d2 h_nm h_pz h_rz h_fz h_zw (by simpa using h_zw) h_zx (by simpa using h_zx)
set_option maxRecDepth 100000 in
set_option maxHeartbeats 1000000 in
theorem rcheck_k4 (x : Rc) (hx : x.Ok) (hk : x.kind = 4) (w : World) : Calls Tryd.prog 22 #[.agg x.list.toArray] w fun e w2 => e = .returned (.int .i64 (x.chk : Int)) ∧ Below w.heap.size w w2 := by
  have hs := Rc.size hx
  have hF : RcF x.list.toArray x.p.list (cB x.root) (cB x.file) x.kind x.obj x.id x.name x.way x.index x.verdict x.tick := @Rc.facts x hx
  rw [hk] at hF
  have hP : Hid (x.p.list.toArray = x.p.list.toArray) := Lib.hid rfl
  have hD : Hid ((cB x.root).toArray = (cB x.root).toArray) := Lib.hid rfl
  have hE : Hid ((cB x.file).toArray = (cB x.file).toArray) := Lib.hid rfl
  have i4 : (Tryd.prog.info? 32).map (·.size) = some x.p.list.length := by rw [P6.len]; kernel_rfl
  have i5 : (Tryd.prog.info? 28).map (·.size) = some (cB x.root).length := by rw [cB_length, hx.root]; kernel_rfl
  have i6 : (Tryd.prog.info? 28).map (·.size) = some (cB x.file).length := by rw [cB_length, hx.file]; kernel_rfl
  have hbp := fun W => neq_p15R x.p P6.zero hx.p ⟨by decide, by decide, by decide, by decide, by decide, by decide⟩ W
  have hbr := fun W => neq_d32R x.root z32 hx.root z32_len W
  have hbf := fun W => neq_d32R x.file z32 hx.file z32_len W
  have hlab := Lib.hid (fun W => rLabel_any x.name W (Nat.le_trans hx.name (by decide)))
  by_cases h_o : (inB x.obj 0 1099511627776) = false
  · have hn : x.nums = false := by unfold Rc.nums numsB; rw [hk]; simp [inB] at h_o ⊢; omega
    have hc : x.chk = 1 := by unfold Rc.chk; rw [if_neg (by omega), if_pos hn]
    rw [hc]
    exact rchk4_o w _ _ _ _ _ _ _ x.obj x.id x.way x.index x.verdict x.tick x.name _ rfl _ _ _ _ hs hF hP hD hE i4 i5 i6 hbp hbr hbf hlab  h_o
  replace h_o : (inB x.obj 0 1099511627776) = true := by simpa using h_o
  by_cases h_t : (inB x.tick 0 1099511627776) = false
  · have hn : x.nums = false := by unfold Rc.nums numsB; rw [hk]; simp [inB] at h_o h_t ⊢; omega
    have hc : x.chk = 1 := by unfold Rc.chk; rw [if_neg (by omega), if_pos hn]
    rw [hc]
    exact rchk4_t w _ _ _ _ _ _ _ x.obj x.id x.way x.index x.verdict x.tick x.name _ rfl _ _ _ _ hs hF hP hD hE i4 i5 i6 hbp hbr hbf hlab h_o h_t
  replace h_t : (inB x.tick 0 1099511627776) = true := by simpa using h_t
  by_cases h_nm : (decide (0 < (x.name.size : Int))) = true
  · have hn : x.nums = true := by unfold Rc.nums numsB; rw [hk]; simp [inB] at h_o h_t ⊢; omega
    have hz : ¬ x.bare = Rc.zero := fun h => by have h := (bz4 x hk).1 h; simp [h.1] at h_nm
    have hc : x.chk = 4 := by unfold Rc.chk; rw [if_neg (by omega), if_neg (by rw [hn]; decide), if_neg (by omega), if_neg hz]
    rw [hc]
    exact rchk4_nm w _ _ _ _ _ _ _ x.obj x.id x.way x.index x.verdict x.tick x.name _ rfl _ _ _ _ hs hF hP hD hE i4 i5 i6 hbp hbr hbf hlab h_o h_t h_nm
  replace h_nm : (decide (0 < (x.name.size : Int))) = false := by simpa using h_nm
  by_cases h_pz : (!decide (x.p = P6.zero)) = true
  · have hn : x.nums = true := by unfold Rc.nums numsB; rw [hk]; simp [inB] at h_o h_t ⊢; omega
    have hz : ¬ x.bare = Rc.zero := fun h => by have h := (bz4 x hk).1 h; simp [h.2.1] at h_pz
    have hc : x.chk = 4 := by unfold Rc.chk; rw [if_neg (by omega), if_neg (by rw [hn]; decide), if_neg (by omega), if_neg hz]
    rw [hc]
    exact rchk4_pz w _ _ _ _ _ _ _ x.obj x.id x.way x.index x.verdict x.tick x.name _ rfl _ _ _ _ hs hF hP hD hE i4 i5 i6 hbp hbr hbf hlab h_o h_t h_nm h_pz
  replace h_pz : (!decide (x.p = P6.zero)) = false := by simpa using h_pz
  by_cases h_rz : (!decide (x.root = z32)) = true
  · have hn : x.nums = true := by unfold Rc.nums numsB; rw [hk]; simp [inB] at h_o h_t ⊢; omega
    have hz : ¬ x.bare = Rc.zero := fun h => by have h := (bz4 x hk).1 h; simp [h.2.2.1] at h_rz
    have hc : x.chk = 4 := by unfold Rc.chk; rw [if_neg (by omega), if_neg (by rw [hn]; decide), if_neg (by omega), if_neg hz]
    rw [hc]
    exact rchk4_rz w _ _ _ _ _ _ _ x.obj x.id x.way x.index x.verdict x.tick x.name _ rfl _ _ _ _ hs hF hP hD hE i4 i5 i6 hbp hbr hbf hlab h_o h_t h_nm h_pz h_rz
  replace h_rz : (!decide (x.root = z32)) = false := by simpa using h_rz
  by_cases h_fz : (!decide (x.file = z32)) = true
  · have hn : x.nums = true := by unfold Rc.nums numsB; rw [hk]; simp [inB] at h_o h_t ⊢; omega
    have hz : ¬ x.bare = Rc.zero := fun h => by have h := (bz4 x hk).1 h; simp [h.2.2.2.1] at h_fz
    have hc : x.chk = 4 := by unfold Rc.chk; rw [if_neg (by omega), if_neg (by rw [hn]; decide), if_neg (by omega), if_neg hz]
    rw [hc]
    exact rchk4_fz w _ _ _ _ _ _ _ x.obj x.id x.way x.index x.verdict x.tick x.name _ rfl _ _ _ _ hs hF hP hD hE i4 i5 i6 hbp hbr hbf hlab h_o h_t h_nm h_pz h_rz h_fz
  replace h_fz : (!decide (x.file = z32)) = false := by simpa using h_fz
  by_cases h_zv : (x.verdict != 0) = true
  · have hn : x.nums = true := by unfold Rc.nums numsB; rw [hk]; simp [inB] at h_o h_t ⊢; omega
    have hz : ¬ x.bare = Rc.zero := fun h => by have h := (bz4 x hk).1 h; simp [h.2.2.2.2.1] at h_zv
    have hc : x.chk = 4 := by unfold Rc.chk; rw [if_neg (by omega), if_neg (by rw [hn]; decide), if_neg (by omega), if_neg hz]
    rw [hc]
    exact rchk4_zv w _ _ _ _ _ _ _ x.obj x.id x.way x.index x.verdict x.tick x.name _ rfl _ _ _ _ hs hF hP hD hE i4 i5 i6 hbp hbr hbf hlab h_o h_t h_nm h_pz h_rz h_fz h_zv (by simpa using h_zv)
  replace h_zv : (x.verdict != 0) = false := by simpa using h_zv
  by_cases h_zw : (x.way != 0) = true
  · have hn : x.nums = true := by unfold Rc.nums numsB; rw [hk]; simp [inB] at h_o h_t ⊢; omega
    have hz : ¬ x.bare = Rc.zero := fun h => by have h := (bz4 x hk).1 h; simp [h.2.2.2.2.2.1] at h_zw
    have hc : x.chk = 4 := by unfold Rc.chk; rw [if_neg (by omega), if_neg (by rw [hn]; decide), if_neg (by omega), if_neg hz]
    rw [hc]
    exact rchk4_zw w _ _ _ _ _ _ _ x.obj x.id x.way x.index x.verdict x.tick x.name _ rfl _ _ _ _ hs hF hP hD hE i4 i5 i6 hbp hbr hbf hlab h_o h_t h_nm h_pz h_rz h_fz h_zv (by simpa using h_zv) h_zw (by simpa using h_zw)
  replace h_zw : (x.way != 0) = false := by simpa using h_zw
  by_cases h_zx : (x.index != 0) = true
  · have hn : x.nums = true := by unfold Rc.nums numsB; rw [hk]; simp [inB] at h_o h_t ⊢; omega
    have hz : ¬ x.bare = Rc.zero := fun h => by have h := (bz4 x hk).1 h; simp [h.2.2.2.2.2.2.1] at h_zx
    have hc : x.chk = 4 := by unfold Rc.chk; rw [if_neg (by omega), if_neg (by rw [hn]; decide), if_neg (by omega), if_neg hz]
    rw [hc]
    exact rchk4_zx w _ _ _ _ _ _ _ x.obj x.id x.way x.index x.verdict x.tick x.name _ rfl _ _ _ _ hs hF hP hD hE i4 i5 i6 hbp hbr hbf hlab h_o h_t h_nm h_pz h_rz h_fz h_zv (by simpa using h_zv) h_zw (by simpa using h_zw) h_zx (by simpa using h_zx)
  replace h_zx : (x.index != 0) = false := by simpa using h_zx
  by_cases h_zi : (x.id != 0) = true
  · have hn : x.nums = true := by unfold Rc.nums numsB; rw [hk]; simp [inB] at h_o h_t ⊢; omega
    have hz : ¬ x.bare = Rc.zero := fun h => by have h := (bz4 x hk).1 h; simp [h.2.2.2.2.2.2.2] at h_zi
    have hc : x.chk = 4 := by unfold Rc.chk; rw [if_neg (by omega), if_neg (by rw [hn]; decide), if_neg (by omega), if_neg hz]
    rw [hc]
    exact rchk4_zi w _ _ _ _ _ _ _ x.obj x.id x.way x.index x.verdict x.tick x.name _ rfl _ _ _ _ hs hF hP hD hE i4 i5 i6 hbp hbr hbf hlab h_o h_t h_nm h_pz h_rz h_fz h_zv (by simpa using h_zv) h_zw (by simpa using h_zw) h_zx (by simpa using h_zx) h_zi (by simpa using h_zi)
  replace h_zi : (x.id != 0) = false := by simpa using h_zi
  have hn : x.nums = true := by unfold Rc.nums numsB; rw [hk]; simp [inB] at h_o h_t ⊢; omega
  have hz : x.bare = Rc.zero := (bz4 x hk).2 ⟨by have h := h_nm; simp only [decide_eq_false_iff_not] at h; omega, by simpa using h_pz, by simpa using h_rz, by simpa using h_fz, by simpa using h_zv, by simpa using h_zw, by simpa using h_zx, by simpa using h_zi⟩
  have hc : x.chk = 0 := by unfold Rc.chk; rw [if_neg (by omega), if_neg (by rw [hn]; decide), if_neg (by omega), if_pos hz]
  rw [hc]
  exact rchk4_ok w _ _ _ _ _ _ _ x.obj x.id x.way x.index x.verdict x.tick x.name _ rfl _ _ _ _ hs hF hP hD hE i4 i5 i6 hbp hbr hbf hlab h_o h_t h_nm h_pz h_rz h_fz h_zv (by simpa using h_zv) h_zw (by simpa using h_zw) h_zx (by simpa using h_zx) h_zi (by simpa using h_zi)
set_option maxRecDepth 100000 in
set_option maxHeartbeats 1000000 in
theorem rcheck20_any (x : Rc) (hx : x.Ok) (w : World) : Calls Tryd.prog 22 #[.agg x.list.toArray] w fun e w2 => e = .returned (.int .i64 (x.chk : Int)) ∧ Below w.heap.size w w2 := by
  by_cases h1 : x.kind = 1
  · exact rcheck_k1 x hx h1 w
  by_cases h2 : x.kind = 2
  · exact rcheck_k2 x hx h2 w
  by_cases h3 : x.kind = 3
  · exact rcheck_k3 x hx h3 w
  by_cases h4 : x.kind = 4
  · exact rcheck_k4 x hx h4 w
  have hc : x.chk = 7 := by unfold Rc.chk; rw [if_pos (by omega)]
  rw [hc]
  have hF : RcF x.list.toArray x.p.list (cB x.root) (cB x.file) x.kind x.obj x.id x.name x.way x.index x.verdict x.tick := @Rc.facts x hx
  have hrow0 := Lib.hid (heap_alloc_new w (.cells x.list.toArray 34))
  have hb0 := Lib.hid (show Below w.heap.size w (w.alloc (.cells x.list.toArray 34)) from (Below.refl _ _).alloc (Nat.le_refl _) _)
  obtain ⟨c0, _⟩ := hF hrow0.out
  have hs := Rc.size hx
  have hko : x.kind < 1 ∨ 4 < x.kind := by omega
  generalize x.list.toArray = R at *
  generalize x.kind = k at *
  clear hF hc h1 h2 h3 h4 hx
  rcases hko with hd | hd
  · have hd1 : decide (k < 1) = true := by simpa using hd
    clear hd
    go_enter Tryd.func22, Tryd.ntmps22
    go_wp2_with fail
    go_ret
    exact ⟨rfl, hb0.out⟩
  · have hd2 : decide (4 < k) = true := by simpa using hd
    have hd1 : decide (k < 1) = false := by simp; omega
    clear hd
    go_enter Tryd.func22, Tryd.ntmps22
    go_wp2_with fail
    go_ret
    exact ⟨rfl, hb0.out⟩
end Go.Proofs.YtahnicbokdbjdaaDoor
