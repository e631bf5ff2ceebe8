/- The walk over CodeSyndromes. -/
import Derived.Test.YtenkdikdofhnpaaDoorRSynd
import Derived.Test.YtenkdikdofhnpaaDoorAlive3
import Derived.Test.YtenkdikdofhnpaaDoorOnL
namespace Go.Proofs.YtenkdikdofhnpaaDoor
open Go.RowKit

theorem rowE {w : World} {b : Nat} {o : Obj} (h : w.heap[b]? = some o) : ∀ W, Below w.heap.size w W → W.heap[b]? = some o := fun _ hW => (hW.block _ (block_lt h)).trans h
theorem argB_row {w : World} {b : Nat} {t : TypeId} {l : List UInt8} (h : w.heap[b]? = some (.cells (cB l).toArray t (0, 0))) (hl : l.length ≤ 1000000) : ArgB w (some ⟨b, 0, none⟩) l.length l := by
  refine ⟨Nat.le_refl _, by unfold maxLen; omega, (fun e => by cases e), fun i hi => ⟨b, 0, rfl, ?_⟩⟩
  rw [cell_of_block h, Nat.zero_add, cB_at l hi]; rfl

theorem argB_take {w : World} {a : Option Addr} {c : Nat} {bs : List UInt8} (h : ArgB w a c bs) (n : Nat) (hn : n ≤ bs.length) : ArgB w a c (bs.take n) := by
  refine ⟨by rw [List.length_take]; have := h.len; omega, h.most, h.nil, ?_⟩
  have := (At.ofB h.row).take n
  apply At.toB
  rw [show cB (bs.take n) = (cB bs).take n from by simp [cB]]
  exact this
theorem sizeAt_errs {w : World} {ea : Nat → Addr} (h : Errs 81 errGs w ea) : SizeAt w (ea 7) := h.var 7 (by decide)

set_option maxRecDepth 10000 in
set_option maxHeartbeats 8000000 in
theorem synd_walk (a : Option Addr) (ca : Nat) (xs : List UInt8) (w : World) (ha : ArgB w a ca xs) (ea : Nat → Addr) (hE : Errs 81 errGs w ea) :
    Calls Tryd.prog 4 #[.slice a xs.length ca] w fun e w' => e = .returned (.bool true) ∧ Below w.heap.size w w' := by
  have hla : xs.length ≤ maxLen := Nat.le_trans ha.len ha.most
  replace ha := Lib.hid ha
  replace hE := Lib.hid hE
  rcases Nat.lt_or_ge 400 xs.length with h1 | h1
  · go_enter Tryd.func4, Tryd.ntmps4
    go_wp2_with fail
    with_reducible refine (alive3_any _).mono ?_
    rintro e w1 ⟨rfl, hb1⟩
    go_wp2_with fail
    go_ret
    exact ⟨rfl, hb1⟩
  have zr := zero32_run
  have zr' := zero32_run'
  have zn := zero32_ne
  have huA : Tryd.prog.underlying 32 = some (.array 32 5) := Tryd.underlying32
  have huB : Tryd.prog.underlying 31 = some (.array 32 5) := Tryd.underlying31
  have hzz : (Tryd.prog.info? 32).map (·.size) = some zero32.size := by kernel_rfl
  have hone0 := zero32_one
  go_enter Tryd.func4, Tryd.ntmps4
  go_wp2_with fail
  with_reducible refine (alive3_any _).mono ?_
  rintro e w1 ⟨rfl, hb1⟩
  replace ha := Lib.hid (ha.out.below hb1)
  replace hE := Lib.hid (hE.out.below hb1)
  replace hb1 := Lib.hid hb1
  by_cases hs : 33 ≤ xs.length ∧ xs.length ≤ 255
  · have hl2 : (synd xs).length = 32 := tab_length _ _
    have hzA : (Tryd.prog.info? 32).map (·.size) = some (cB (synd xs)).toArray.size := by
      rw [List.size_toArray, cB_length, hl2]; kernel_rfl
    have hzB : (Tryd.prog.info? 31).map (·.size) = some (cB (synd xs)).toArray.size := by
      rw [List.size_toArray, cB_length, hl2]; kernel_rfl
    have hs2 : zero32.size = (cB (synd xs)).toArray.size := by rw [zero32_size, List.size_toArray, cB_length, hl2]
    have hone : (cB (synd xs)).toArray.all (·.oneCell') = true := by
      rw [List.all_toArray, List.all_eq_true]; exact cB_one (synd xs)
    have he1 := fun w => eql32' (synd xs) (synd xs) hl2 hl2 w
    rw [beq_self_eq_true] at he1
    have he2 := fun w => eql32' (synd xs) (tab 32 fun _ => 0) hl2 (tab_length _ _) w
    rw [← zero32_eq, show (synd xs == tab 32 fun _ => 0) = quiet (synd xs) from rfl] at he2
    have hof := fun w h => of_any a ca xs w h hs.1 hs.2
    have hrs := fun w h => rsynd_any a ca xs w h (by omega)
    have hda := fun w h => data_any a ca xs w h hs
    have hri := fun w z h1 h2 => right_any a ca xs w z h1 h2 (by omega)
    have hqu := quiet_any (synd xs) hl2
    have hpo := spoly_any (synd xs) hl2
    have htr : ∀ (w : World) (b : Nat), w.heap[b]? = some (.cells (cB (synd xs)).toArray 31 (0, 0)) → Calls Tryd.prog 18 #[.slice (some ⟨b, 0, none⟩) 32 32] w fun e w' => ∃ v, e = .returned v ∧ OwnB w.heap.size w' v (trim (synd xs)) ∧ Below w.heap.size w w' := by
      intro w b h
      have h2 := argB_row h (by omega)
      rw [hl2] at h2
      have := rtrim_any (some ⟨b, 0, none⟩) 32 (synd xs) w h2 (by omega)
      rw [hl2] at this
      exact this
    rw [show rightB xs = quiet (synd xs) from by unfold rightB; rw [decide_eq_true hs, Bool.true_and]] at hri
    have hsd : decide (33 ≤ (xs.length : Int) ∧ (xs.length : Int) ≤ 255) = true := decide_eq_true (by omega)
    obtain ⟨q, hq⟩ : ∃ q, q = quiet (synd xs) := ⟨_, rfl⟩
    rw [← hq] at he2 hri hqu
    obtain ⟨T, hT⟩ : ∃ T, T = trim (synd xs) := ⟨_, rfl⟩
    rw [← hT] at hpo htr
    obtain ⟨D, hD⟩ : ∃ D, D = xs.take (xs.length - 32) := ⟨_, rfl⟩
    rw [← hD] at hda
    have hDl : D.length = xs.length - 32 := by rw [hD, List.length_take]; omega
    have hqq : (q == q) = true := by cases q <;> rfl
    generalize hC : (cB (synd xs)).toArray = C at *
    replace hof := Lib.hid hof
    replace hrs := Lib.hid hrs
    replace hda := Lib.hid hda
    replace hri := Lib.hid hri
    replace hqu := Lib.hid hqu
    replace hpo := Lib.hid hpo
    replace htr := Lib.hid htr
    replace hDl := Lib.hid hDl
    replace hl2 := Lib.hid hl2
    replace hC := Lib.hid hC
    replace hD := Lib.hid hD
    clear hq hT
    go_wp2_with fail
    with_reducible refine (hof.out _ ha.out).mono ?_
    rintro e w2 ⟨rfl, hd⟩
    replace ha := Lib.hid (ha.out.below hd)
    replace hE := Lib.hid (hE.out.below hd)
    replace hb1 := Lib.hid (hb1.out.trans (hd.mono hb1.out.size))
    clear hd hof
    have hz1 := Lib.hid (heap_alloc_new w2 (.cells zero32 32))
    have hd := Lib.hid ((Below.refl w2.heap.size w2).alloc (Nat.le_refl _) (.cells zero32 32))
    go_wp2_with (with_reducible refine wpList_store_row rfl 32 (.tmp 3) (.tmp 17) rfl w2.heap.size zero32 C rfl rfl hz1 hzA hs2 hone ?_)
    intro w3 hU
    have rA := Lib.hid hU.out.here
    replace hd := hd.out.trans (hU.out.below (Nat.le_refl _))
    replace ha := Lib.hid (ha.out.below hd)
    replace hE := Lib.hid (hE.out.below hd)
    replace hb1 := Lib.hid (hb1.out.trans (hd.mono hb1.out.size))
    obtain ⟨b3, hb3⟩ : ∃ b, b = w2.heap.size := ⟨_, rfl⟩
    rw [← hb3] at rA ⊢
    clear hd hU hz1 hb3
    go_wp2_with fail
    with_reducible refine (hda.out _ ha.out).mono ?_
    rintro e w4 ⟨v, rfl, ho, hd⟩
    obtain ⟨ad, cd, rfl, hDD, _⟩ := ho.arg
    replace ha := Lib.hid (ha.out.below hd)
    replace hE := Lib.hid (hE.out.below hd)
    replace rA := Lib.hid (rowE rA.out _ hd)
    replace hDD := Lib.hid hDD
    replace hb1 := Lib.hid (hb1.out.trans (hd.mono hb1.out.size))
    clear hd ho hda
    go_wp2_with fail
    with_reducible refine (rsized_any _ _).mono ?_
    rintro e w5 ⟨rfl, rfl⟩
    rw [hsd]
    go_wp2_with fail
    with_reducible refine (hrs.out _ ha.out).mono ?_
    rintro e w5 ⟨rfl, hd⟩
    replace ha := Lib.hid (ha.out.below hd)
    replace hE := Lib.hid (hE.out.below hd)
    replace rA := Lib.hid (rowE rA.out _ hd)
    replace hDD := Lib.hid (hDD.out.below hd)
    replace hb1 := Lib.hid (hb1.out.trans (hd.mono hb1.out.size))
    clear hd hrs
    have hz1 := Lib.hid (heap_alloc_new w5 (.cells zero32 31))
    have hd := Lib.hid ((Below.refl w5.heap.size w5).alloc (Nat.le_refl _) (.cells zero32 31))
    go_wp2_with (with_reducible refine wpList_store_row rfl 31 (.tmp 7) (.tmp 52) rfl w5.heap.size zero32 C rfl rfl hz1 hzB hs2 hone ?_)
    intro w6 hU
    have rB := Lib.hid hU.out.here
    replace hd := hd.out.trans (hU.out.below (Nat.le_refl _))
    replace ha := Lib.hid (ha.out.below hd)
    replace hE := Lib.hid (hE.out.below hd)
    replace rA := Lib.hid (rowE rA.out _ hd)
    replace hDD := Lib.hid (hDD.out.below hd)
    replace hb1 := Lib.hid (hb1.out.trans (hd.mono hb1.out.size))
    obtain ⟨b7, hb7⟩ : ∃ b, b = w5.heap.size := ⟨_, rfl⟩
    rw [← hb7] at rB ⊢
    clear hd hU hz1 hb7
    go_wp2_with (with_reducible refine wpList_load_row rfl 31 (.tmp 7) rfl b7 C (.array 32 5) rfl rB huB rfl hzB ?_)
    have rlA := rowE rA.out
    have rlB := rowE rB.out
    have hn1 : (0 : Int) ≤ (xs.length : Int) - 32 := by omega
    have hn2 : (xs.length : Int) - 32 ≤ (ca : Int) := by have := ha.out.len; omega
    have hn3 : ((xs.length : Int) - 32).toNat = xs.length - 32 := by omega
    have hn4 := IntWalk.i64_in ((xs.length : Int) - 32) (by omega)
    have hn5 : (32 : Int) ≤ (xs.length : Int) := by omega
    have hargD := fun (W : World) (h : ArgB W a ca xs) => argB_take h (xs.length - 32) (Nat.sub_le _ _)
    rw [← hD.out] at hargD
    replace hargD := Lib.hid hargD
    refine wp_region_on (by kernel_rfl) (fun hOn => ?_)
    refine wpAnyH_take (i := 0) (v := ?_) (by simp only [List.getElem?_toArray, List.getElem?_cons_zero]; rfl) (by kernel_rfl) (by kernel_rfl) (by kernel_rfl) (by exact fun _ _ _ h => h) (Or.inl ⟨by rfl, ?_⟩) hOn ?_
    rotate_left
    focus (intro W hSW; go_simp; try with_reducible rfl)
    try simp only [Act.put, List.setIfInBounds_toArray, List.set_cons_zero, List.set_cons_succ]
    refine wpAnyH_take (i := 1) (v := ?_) (by simp only [List.getElem?_toArray, List.getElem?_cons_succ, List.getElem?_cons_zero]; rfl) (by kernel_rfl) (by kernel_rfl) (by kernel_rfl) (by exact fun _ _ _ h => h) (Or.inl ⟨by rfl, ?_⟩) hOn ?_
    rotate_left
    focus (intro W hSW; go_simp; try with_reducible rfl)
    try simp only [Act.put, List.setIfInBounds_toArray, List.set_cons_zero, List.set_cons_succ]
    refine wpAnyH_take (i := 2) (v := ?_) (by simp only [List.getElem?_toArray, List.getElem?_cons_succ, List.getElem?_cons_zero]; rfl) (by kernel_rfl) (by kernel_rfl) (by kernel_rfl) (by exact fun _ _ _ h => h) (Or.inl ⟨by rfl, ?_⟩) hOn ?_
    rotate_left
    focus (intro W hSW; go_simp; try with_reducible rfl)
    try simp only [Act.put, List.setIfInBounds_toArray, List.set_cons_zero, List.set_cons_succ]
    refine wpAnyH_take (i := 3) (v := ?_) (by simp only [List.getElem?_toArray, List.getElem?_cons_succ, List.getElem?_cons_zero]; rfl) (by kernel_rfl) (by kernel_rfl) (by kernel_rfl) (by exact fun _ _ _ h => h) (Or.inl ⟨by rfl, ?_⟩) hOn ?_
    rotate_left
    focus (intro W hSW; go_simp; try with_reducible rfl)
    try simp only [Act.put, List.setIfInBounds_toArray, List.set_cons_zero, List.set_cons_succ]
    refine wpAnyH_take (i := 4) (v := ?_) (by simp only [List.getElem?_toArray, List.getElem?_cons_succ, List.getElem?_cons_zero]; rfl) (by kernel_rfl) (by kernel_rfl) (by kernel_rfl) (by exact fun _ _ _ h => h) (Or.inl ⟨by rfl, ?_⟩) hOn ?_
    rotate_left
    focus (intro W hSW; go_simp; try with_reducible rfl)
    try simp only [Act.put, List.setIfInBounds_toArray, List.set_cons_zero, List.set_cons_succ]
    refine wpAnyH_take (i := 5) (v := ?_) (by simp only [List.getElem?_toArray, List.getElem?_cons_succ, List.getElem?_cons_zero]; rfl) (by kernel_rfl) (by kernel_rfl) (by kernel_rfl) (by exact fun _ _ _ h => h) (Or.inl ⟨by rfl, ?_⟩) hOn ?_
    rotate_left
    focus (intro W hSW; go_simp; try with_reducible rfl)
    try simp only [Act.put, List.setIfInBounds_toArray, List.set_cons_zero, List.set_cons_succ]
    refine wpAnyH_take (i := 6) (v := ?_) (by simp only [List.getElem?_toArray, List.getElem?_cons_succ, List.getElem?_cons_zero]; rfl) (by kernel_rfl) (by kernel_rfl) (by kernel_rfl) (by exact fun _ _ _ h => h) (Or.inl ⟨by rfl, ?_⟩) hOn ?_
    rotate_left
    focus (intro W hSW; go_simp; try with_reducible rfl)
    try simp only [Act.put, List.setIfInBounds_toArray, List.set_cons_zero, List.set_cons_succ]
    refine wpAnyH_take (i := 7) (v := Value.agg _) (by simp only [List.getElem?_toArray, List.getElem?_cons_succ, List.getElem?_cons_zero]; rfl) (by kernel_rfl) (by kernel_rfl) (by kernel_rfl) (by exact fun _ _ _ h => h) (Or.inl ⟨by rfl, fun W hSW => yields_load_row _ _ rfl _ _ _ rfl (rlA W hSW) huA rfl hzA⟩) hOn ?_
    try simp only [Act.put, List.setIfInBounds_toArray, List.set_cons_zero, List.set_cons_succ]
    refine wpAnyH_take (i := 8) (v := Value.agg _) (by simp only [List.getElem?_toArray, List.getElem?_cons_succ, List.getElem?_cons_zero]; rfl) (by kernel_rfl) (by kernel_rfl) (by kernel_rfl) (by exact fun _ _ _ h => h) (Or.inl ⟨by rfl, fun W hSW => yields_load_row _ _ rfl _ _ _ rfl (rlB W hSW) huB rfl hzB⟩) hOn ?_
    try simp only [Act.put, List.setIfInBounds_toArray, List.set_cons_zero, List.set_cons_succ]
    refine wpAnyH_take (i := 9) (v := ?_) (by simp only [List.getElem?_toArray, List.getElem?_cons_succ, List.getElem?_cons_zero]; rfl) (by kernel_rfl) (by kernel_rfl) (by kernel_rfl) (by exact fun _ _ _ h => h) (Or.inl ⟨by rfl, ?_⟩) hOn ?_
    rotate_left
    focus (intro W hSW; go_simp; try with_reducible rfl)
    try simp only [Act.put, List.setIfInBounds_toArray, List.set_cons_zero, List.set_cons_succ]
    refine wpAnyH_take (i := 10) (v := ?_) (by simp only [List.getElem?_toArray, List.getElem?_cons_succ, List.getElem?_cons_zero]; rfl) (by kernel_rfl) (by kernel_rfl) (by kernel_rfl) (by exact fun _ _ _ h => h) (Or.inl ⟨by rfl, ?_⟩) hOn ?_
    rotate_left
    focus (intro W hSW; go_simp; try with_reducible rfl)
    try simp only [Act.put, List.setIfInBounds_toArray, List.set_cons_zero, List.set_cons_succ]
    refine wpAnyH_take (i := 11) (v := ?_) (by simp only [List.getElem?_toArray, List.getElem?_cons_succ, List.getElem?_cons_zero]; rfl) (by kernel_rfl) (by kernel_rfl) (by kernel_rfl) (by exact fun _ _ _ h => h) (Or.inl ⟨by rfl, ?_⟩) hOn ?_
    rotate_left
    focus (intro W hSW; go_simp; try with_reducible rfl)
    try simp only [Act.put, List.setIfInBounds_toArray, List.set_cons_zero, List.set_cons_succ]
    refine wpAnyH_take (i := 12) (v := Value.agg _) (by simp only [List.getElem?_toArray, List.getElem?_cons_succ, List.getElem?_cons_zero]; rfl) (by kernel_rfl) (by kernel_rfl) (by kernel_rfl) (by exact fun _ _ _ h => h) (Or.inl ⟨by rfl, fun W hSW => yields_load_row _ _ rfl _ _ _ rfl (rlA W hSW) huA rfl hzA⟩) hOn ?_
    try simp only [Act.put, List.setIfInBounds_toArray, List.set_cons_zero, List.set_cons_succ]
    refine wpAnyH_take (i := 14) (v := ?_) (by simp only [List.getElem?_toArray, List.getElem?_cons_succ, List.getElem?_cons_zero]; rfl) (by kernel_rfl) (by kernel_rfl) (by kernel_rfl) (by exact fun _ _ _ h => h) (Or.inl ⟨by rfl, ?_⟩) hOn ?_
    rotate_left
    focus (intro W hSW; go_simp; try with_reducible rfl)
    try simp only [Act.put, List.setIfInBounds_toArray, List.set_cons_zero, List.set_cons_succ]
    refine wpAnyH_ready (rs := [13]) (by kernel_rfl) (by simp) ?_
    refine AllReadyH.cons (by simp only [List.getElem?_toArray, List.getElem?_cons_succ, List.getElem?_cons_zero]; rfl) (fun K hK => ?_) AllReadyH.nil
    go_simp
    refine (hqu.out _).mono ?_
    rintro e w7 ⟨rfl, hnew⟩
    have hw := Lib.hid (Below.trans hOn (hnew.mono hOn.size))
    replace rA := Lib.hid (rowE rA.out _ hw.out)
    replace rB := Lib.hid (rowE rB.out _ hw.out)
    have rlA := rowE rA.out
    have rlB := rowE rB.out
    replace ha := Lib.hid (ha.out.below hw.out)
    replace hE := Lib.hid (hE.out.below hw.out)
    replace hDD := Lib.hid (hDD.out.below hw.out)
    replace hb1 := Lib.hid (hb1.out.trans (hw.out.mono hb1.out.size))
    go_wp2_with fail
    refine hK.out _ _ (Grown.trans hOn hnew) (fun hNext => ?_)
    clear hK K hOn
    refine wpAnyH_onward hNext (fun hOn => ?_)
    clear hNext hnew
    try simp only [Act.put, List.setIfInBounds_toArray, List.set_cons_zero, List.set_cons_succ]
    refine wpAnyH_take (i := 15) (v := ?_) (by simp only [List.getElem?_toArray, List.getElem?_cons_succ, List.getElem?_cons_zero]; rfl) (by kernel_rfl) (by kernel_rfl) (by kernel_rfl) (by exact fun _ _ _ h => h) (Or.inl ⟨by rfl, ?_⟩) hOn ?_
    rotate_left
    focus (intro W hSW; go_simp; try with_reducible rfl)
    try simp only [Act.put, List.setIfInBounds_toArray, List.set_cons_zero, List.set_cons_succ]
    refine wpAnyH_take (i := 16) (v := ?_) (by simp only [List.getElem?_toArray, List.getElem?_cons_succ, List.getElem?_cons_zero]; rfl) (by kernel_rfl) (by kernel_rfl) (by kernel_rfl) (by exact fun _ _ _ h => h) (Or.inl ⟨by rfl, ?_⟩) hOn ?_
    rotate_left
    focus (intro W hSW; go_simp; try with_reducible rfl)
    try simp only [Act.put, List.setIfInBounds_toArray, List.set_cons_zero, List.set_cons_succ]
    refine wpAnyH_take (i := 17) (v := ?_) (by simp only [List.getElem?_toArray, List.getElem?_cons_succ, List.getElem?_cons_zero]; rfl) (by kernel_rfl) (by kernel_rfl) (by kernel_rfl) (by exact fun _ _ _ h => h) (Or.inl ⟨by rfl, ?_⟩) hOn ?_
    rotate_left
    focus (intro W hSW; go_simp; try with_reducible rfl)
    try simp only [Act.put, List.setIfInBounds_toArray, List.set_cons_zero, List.set_cons_succ]
    refine wpAnyH_take (i := 18) (v := ?_) (by simp only [List.getElem?_toArray, List.getElem?_cons_succ, List.getElem?_cons_zero]; rfl) (by kernel_rfl) (by kernel_rfl) (by kernel_rfl) (by exact fun _ _ _ h => h) (Or.inl ⟨by rfl, ?_⟩) hOn ?_
    rotate_left
    focus (intro W hSW; go_simp; try with_reducible rfl)
    try simp only [Act.put, List.setIfInBounds_toArray, List.set_cons_zero, List.set_cons_succ]
    refine wpAnyH_take (i := 20) (v := ?_) (by simp only [List.getElem?_toArray, List.getElem?_cons_succ, List.getElem?_cons_zero]; rfl) (by kernel_rfl) (by kernel_rfl) (by kernel_rfl) (by exact fun _ _ _ h => h) (Or.inl ⟨by rfl, ?_⟩) hOn ?_
    rotate_left
    focus (intro W hSW; go_simp; try with_reducible rfl)
    try simp only [Act.put, List.setIfInBounds_toArray, List.set_cons_zero, List.set_cons_succ]
    refine wpAnyH_ready (rs := [19]) (by kernel_rfl) (by simp) ?_
    refine AllReadyH.cons (by simp only [List.getElem?_toArray, List.getElem?_cons_succ, List.getElem?_cons_zero]; rfl) (fun K hK => ?_) AllReadyH.nil
    go_simp
    refine (hri.out _ _ (sizeAt_errs (hE.out.below hOn)) (ha.out.below hOn)).mono ?_
    rintro e w8 ⟨rfl, hnew⟩
    have hw := Lib.hid (Below.trans hOn (hnew.mono hOn.size))
    replace rA := Lib.hid (rowE rA.out _ hw.out)
    replace rB := Lib.hid (rowE rB.out _ hw.out)
    have rlA := rowE rA.out
    have rlB := rowE rB.out
    replace ha := Lib.hid (ha.out.below hw.out)
    replace hE := Lib.hid (hE.out.below hw.out)
    replace hDD := Lib.hid (hDD.out.below hw.out)
    replace hb1 := Lib.hid (hb1.out.trans (hw.out.mono hb1.out.size))
    go_wp2_with fail
    refine hK.out _ _ (Grown.trans hOn hnew) (fun hNext => ?_)
    clear hK K hOn
    refine wpAnyH_onward hNext (fun hOn => ?_)
    clear hNext hnew
    try simp only [Act.put, List.setIfInBounds_toArray, List.set_cons_zero, List.set_cons_succ]
    refine wpAnyH_take (i := 21) (v := ?_) (by simp only [List.getElem?_toArray, List.getElem?_cons_succ, List.getElem?_cons_zero]; rfl) (by kernel_rfl) (by kernel_rfl) (by kernel_rfl) (by exact fun _ _ _ h => h) (Or.inl ⟨by rfl, ?_⟩) hOn ?_
    rotate_left
    focus (intro W hSW; go_simp; try with_reducible rfl)
    try simp only [Act.put, List.setIfInBounds_toArray, List.set_cons_zero, List.set_cons_succ]
    refine wpAnyH_take (i := 22) (v := ?_) (by simp only [List.getElem?_toArray, List.getElem?_cons_succ, List.getElem?_cons_zero]; rfl) (by kernel_rfl) (by kernel_rfl) (by kernel_rfl) (by exact fun _ _ _ h => h) (Or.inl ⟨by rfl, ?_⟩) hOn ?_
    rotate_left
    focus (intro W hSW; go_simp; try with_reducible rfl)
    try simp only [Act.put, List.setIfInBounds_toArray, List.set_cons_zero, List.set_cons_succ]
    refine wpAnyH_take (i := 23) (v := ?_) (by simp only [List.getElem?_toArray, List.getElem?_cons_succ, List.getElem?_cons_zero]; rfl) (by kernel_rfl) (by kernel_rfl) (by kernel_rfl) (by exact fun _ _ _ h => h) (Or.inl ⟨by rfl, ?_⟩) hOn ?_
    rotate_left
    focus (intro W hSW; go_simp; try with_reducible rfl)
    try simp only [Act.put, List.setIfInBounds_toArray, List.set_cons_zero, List.set_cons_succ]
    refine wpAnyH_take (i := 24) (v := Value.agg _) (by simp only [List.getElem?_toArray, List.getElem?_cons_succ, List.getElem?_cons_zero]; rfl) (by kernel_rfl) (by kernel_rfl) (by kernel_rfl) (by exact fun _ _ _ h => h) (Or.inl ⟨by rfl, fun W hSW => yields_load_row _ _ rfl _ _ _ rfl (rlA W hSW) huA rfl hzA⟩) hOn ?_
    try simp only [Act.put, List.setIfInBounds_toArray, List.set_cons_zero, List.set_cons_succ]
    refine wpAnyH_take (i := 27) (v := ?_) (by simp only [List.getElem?_toArray, List.getElem?_cons_succ, List.getElem?_cons_zero]; rfl) (by kernel_rfl) (by kernel_rfl) (by kernel_rfl) (by exact fun _ _ _ h => h) (Or.inl ⟨by rfl, ?_⟩) hOn ?_
    rotate_left
    focus (intro W hSW; go_simp; try with_reducible rfl)
    try simp only [Act.put, List.setIfInBounds_toArray, List.set_cons_zero, List.set_cons_succ]
    refine wpAnyH_ready (rs := [25]) (by kernel_rfl) (by simp) ?_
    refine AllReadyH.cons (by simp only [List.getElem?_toArray, List.getElem?_cons_succ, List.getElem?_cons_zero]; rfl) (fun K hK => ?_) AllReadyH.nil
    go_simp
    refine (hpo.out _).mono ?_
    rintro e w9 ⟨v9, rfl, ho9, hnew⟩
    obtain ⟨a9, c9, rfl, h9, _⟩ := ho9.arg
    have k9 := convE h9 _ rfl
    have hw := Lib.hid (Below.trans hOn (hnew.mono hOn.size))
    replace rA := Lib.hid (rowE rA.out _ hw.out)
    replace rB := Lib.hid (rowE rB.out _ hw.out)
    have rlA := rowE rA.out
    have rlB := rowE rB.out
    replace ha := Lib.hid (ha.out.below hw.out)
    replace hE := Lib.hid (hE.out.below hw.out)
    replace hDD := Lib.hid (hDD.out.below hw.out)
    replace hb1 := Lib.hid (hb1.out.trans (hw.out.mono hb1.out.size))
    go_wp2_with fail
    refine hK.out _ _ (Grown.trans hOn hnew) (fun hNext => ?_)
    clear hK K hOn
    refine wpAnyH_onward hNext (fun hOn => ?_)
    clear hNext hnew
    try simp only [Act.put, List.setIfInBounds_toArray, List.set_cons_zero, List.set_cons_succ]
    refine wpAnyH_take (i := 26) (v := ?_) (by simp only [List.getElem?_toArray, List.getElem?_cons_succ, List.getElem?_cons_zero]; rfl) (by kernel_rfl) (by kernel_rfl) (by kernel_rfl) (by exact fun _ _ _ h => h) (Or.inl ⟨by rfl, ?_⟩) hOn ?_
    rotate_left
    focus (intro W hSW; go_simp; try with_reducible rfl)
    try simp only [Act.put, List.setIfInBounds_toArray, List.set_cons_zero, List.set_cons_succ]
    refine wpAnyH_ready (rs := [28]) (by kernel_rfl) (by simp) ?_
    refine AllReadyH.cons (by simp only [List.getElem?_toArray, List.getElem?_cons_succ, List.getElem?_cons_zero]; rfl) (fun K hK => ?_) AllReadyH.nil
    go_simp
    refine (htr.out _ b7 (rowE rB.out _ hOn)).mono ?_
    rintro e w10 ⟨v10, rfl, ho10, hnew⟩
    obtain ⟨a10, c10, rfl, h10, _⟩ := ho10.arg
    have k10 := convE h10 _ rfl
    have hw := Lib.hid (Below.trans hOn (hnew.mono hOn.size))
    replace rA := Lib.hid (rowE rA.out _ hw.out)
    replace rB := Lib.hid (rowE rB.out _ hw.out)
    have rlA := rowE rA.out
    have rlB := rowE rB.out
    replace ha := Lib.hid (ha.out.below hw.out)
    replace hE := Lib.hid (hE.out.below hw.out)
    replace hDD := Lib.hid (hDD.out.below hw.out)
    replace hb1 := Lib.hid (hb1.out.trans (hw.out.mono hb1.out.size))
    have kD := convE hDD.out _ rfl
    have kW := convE (hargD.out _ ha.out) _ hDl.out
    go_wp2_with fail
    refine hK.out _ _ (Grown.trans hOn hnew) (fun hNext => ?_)
    clear hK K hOn
    refine wpAnyH_onward hNext (fun hOn => ?_)
    clear hNext hnew
    try simp only [Act.put, List.setIfInBounds_toArray, List.set_cons_zero, List.set_cons_succ]
    refine wpAnyH_take (i := 29) (v := ?_) (by simp only [List.getElem?_toArray, List.getElem?_cons_succ, List.getElem?_cons_zero]; rfl) (by kernel_rfl) (by kernel_rfl) (by kernel_rfl) (by exact fun _ _ _ h => h) (Or.inl ⟨by rfl, ?_⟩) hOn ?_
    rotate_left
    focus (intro W hSW; go_simp; try with_reducible rfl)
    try simp only [Act.put, List.setIfInBounds_toArray, List.set_cons_zero, List.set_cons_succ]
    refine wpAnyH_take (i := 30) (v := ?_) (by simp only [List.getElem?_toArray, List.getElem?_cons_succ, List.getElem?_cons_zero]; rfl) (by kernel_rfl) (by kernel_rfl) (by kernel_rfl) (by exact fun _ _ _ h => h) (Or.inl ⟨by rfl, ?_⟩) hOn ?_
    rotate_left
    focus (intro W hSW; go_simp; try with_reducible rfl)
    try simp only [Act.put, List.setIfInBounds_toArray, List.set_cons_zero, List.set_cons_succ]
    refine wpAnyH_take (i := 31) (v := ?_) (by simp only [List.getElem?_toArray, List.getElem?_cons_succ, List.getElem?_cons_zero]; rfl) (by kernel_rfl) (by kernel_rfl) (by kernel_rfl) (by exact fun _ _ _ h => h) (Or.inl ⟨by rfl, ?_⟩) hOn ?_
    rotate_left
    focus (intro W hSW; go_simp; try with_reducible rfl)
    try simp only [Act.put, List.setIfInBounds_toArray, List.set_cons_zero, List.set_cons_succ]
    refine wpAnyH_take (i := 32) (v := ?_) (by simp only [List.getElem?_toArray, List.getElem?_cons_succ, List.getElem?_cons_zero]; rfl) (by kernel_rfl) (by kernel_rfl) (by kernel_rfl) (by exact fun _ _ _ h => h) (Or.inl ⟨by rfl, ?_⟩) hOn ?_
    rotate_left
    focus (intro W hSW; go_simp; try with_reducible rfl)
    try simp only [Act.put, List.setIfInBounds_toArray, List.set_cons_zero, List.set_cons_succ]
    refine wpAnyH_take (i := 33) (v := ?_) (by simp only [List.getElem?_toArray, List.getElem?_cons_succ, List.getElem?_cons_zero]; rfl) (by kernel_rfl) (by kernel_rfl) (by kernel_rfl) (by exact fun _ _ _ h => h) (Or.inl ⟨by rfl, ?_⟩) hOn ?_
    rotate_left
    focus (intro W hSW; go_simp; try with_reducible rfl)
    try simp only [Act.put, List.setIfInBounds_toArray, List.set_cons_zero, List.set_cons_succ]
    refine wpAnyH_take (i := 34) (v := ?_) (by simp only [List.getElem?_toArray, List.getElem?_cons_succ, List.getElem?_cons_zero]; rfl) (by kernel_rfl) (by kernel_rfl) (by kernel_rfl) (by exact fun _ _ _ h => h) (Or.inl ⟨by rfl, ?_⟩) hOn ?_
    rotate_left
    focus (intro W hSW; go_simp; try with_reducible rfl)
    try simp only [Act.put, List.setIfInBounds_toArray, List.set_cons_zero, List.set_cons_succ]
    refine wpAnyH_take (i := 35) (v := ?_) (by simp only [List.getElem?_toArray, List.getElem?_cons_succ, List.getElem?_cons_zero]; rfl) (by kernel_rfl) (by kernel_rfl) (by kernel_rfl) (by exact fun _ _ _ h => h) (Or.inl ⟨by rfl, ?_⟩) hOn ?_
    rotate_left
    focus (intro W hSW; go_simp; try with_reducible rfl)
    try simp only [Act.put, List.setIfInBounds_toArray, List.set_cons_zero, List.set_cons_succ]
    refine wpAnyH_take (i := 36) (v := ?_) (by simp only [List.getElem?_toArray, List.getElem?_cons_succ, List.getElem?_cons_zero]; rfl) (by kernel_rfl) (by kernel_rfl) (by kernel_rfl) (by exact fun _ _ _ h => h) (Or.inl ⟨by rfl, ?_⟩) hOn ?_
    rotate_left
    focus (intro W hSW; go_simp; try with_reducible rfl)
    try simp only [Act.put, List.setIfInBounds_toArray, List.set_cons_zero, List.set_cons_succ]
    refine wpAnyH_take (i := 37) (v := ?_) (by simp only [List.getElem?_toArray, List.getElem?_cons_succ, List.getElem?_cons_zero]; rfl) (by kernel_rfl) (by kernel_rfl) (by kernel_rfl) (by exact fun _ _ _ h => h) (Or.inl ⟨by rfl, ?_⟩) hOn ?_
    rotate_left
    focus (intro W hSW; go_simp; try with_reducible rfl)
    try simp only [Act.put, List.setIfInBounds_toArray, List.set_cons_zero, List.set_cons_succ]
    refine wpAnyH_take (i := 38) (v := ?_) (by simp only [List.getElem?_toArray, List.getElem?_cons_succ, List.getElem?_cons_zero]; rfl) (by kernel_rfl) (by kernel_rfl) (by kernel_rfl) (by exact fun _ _ _ h => h) (Or.inl ⟨by rfl, ?_⟩) hOn ?_
    rotate_left
    focus (intro W hSW; go_simp; try with_reducible rfl)
    try simp only [Act.put, List.setIfInBounds_toArray, List.set_cons_zero, List.set_cons_succ]
    refine wpAnyH_take (i := 39) (v := ?_) (by simp only [List.getElem?_toArray, List.getElem?_cons_succ, List.getElem?_cons_zero]; rfl) (by kernel_rfl) (by kernel_rfl) (by kernel_rfl) (by exact fun _ _ _ h => h) (Or.inl ⟨by rfl, ?_⟩) hOn ?_
    rotate_left
    focus (intro W hSW; go_simp; try with_reducible rfl)
    try simp only [Act.put, List.setIfInBounds_toArray, List.set_cons_zero, List.set_cons_succ]
    refine wpAnyH_take (i := 40) (v := ?_) (by simp only [List.getElem?_toArray, List.getElem?_cons_succ, List.getElem?_cons_zero]; rfl) (by kernel_rfl) (by kernel_rfl) (by kernel_rfl) (by exact fun _ _ _ h => h) (Or.inl ⟨by rfl, ?_⟩) hOn ?_
    rotate_left
    focus (intro W hSW; go_simp; try with_reducible rfl)
    try simp only [Act.put, List.setIfInBounds_toArray, List.set_cons_zero, List.set_cons_succ]
    refine wpAnyH_take (i := 41) (v := ?_) (by simp only [List.getElem?_toArray, List.getElem?_cons_succ, List.getElem?_cons_zero]; rfl) (by kernel_rfl) (by kernel_rfl) (by kernel_rfl) (by exact fun _ _ _ h => h) (Or.inl ⟨by rfl, ?_⟩) hOn ?_
    rotate_left
    focus (intro W hSW; go_simp; try with_reducible rfl)
    try simp only [Act.put, List.setIfInBounds_toArray, List.set_cons_zero, List.set_cons_succ]
    refine wpAnyH_take (i := 42) (v := ?_) (by simp only [List.getElem?_toArray, List.getElem?_cons_succ, List.getElem?_cons_zero]; rfl) (by kernel_rfl) (by kernel_rfl) (by kernel_rfl) (by exact fun _ _ _ h => h) (Or.inl ⟨by rfl, ?_⟩) hOn ?_
    rotate_left
    focus (intro W hSW; go_simp; try with_reducible rfl)
    try simp only [Act.put, List.setIfInBounds_toArray, List.set_cons_zero, List.set_cons_succ]
    refine wpAnyH_take (i := 43) (v := ?_) (by simp only [List.getElem?_toArray, List.getElem?_cons_succ, List.getElem?_cons_zero]; rfl) (by kernel_rfl) (by kernel_rfl) (by kernel_rfl) (by exact fun _ _ _ h => h) (Or.inl ⟨by rfl, ?_⟩) hOn ?_
    rotate_left
    focus (intro W hSW; go_simp; try with_reducible rfl)
    try simp only [Act.put, List.setIfInBounds_toArray, List.set_cons_zero, List.set_cons_succ]
    refine wpAnyH_done (by kernel_rfl) ?_ _
    go_wp2_with fail
    go_ret
    exact ⟨rfl, hb1.out⟩
  · have he0 := fun w => eql32 (tab 32 fun _ => 0) (tab 32 fun _ => 0) (tab_length _ _) (tab_length _ _) w
    rw [beq_self_eq_true, ← zero32_eq] at he0
    have hof := fun w z h1 => of_size a ca xs w z h1 (by omega) hs
    have hda := fun w z h1 => data_size a ca xs w z h1 (by omega) hs
    have hri := fun w z h1 h2 => right_any a ca xs w z h1 h2 (by omega)
    rw [show rightB xs = false from by unfold rightB; rw [decide_eq_false hs, Bool.false_and]] at hri
    have hsd : decide (33 ≤ (xs.length : Int) ∧ (xs.length : Int) ≤ 255) = false := decide_eq_false (by omega)
    replace hof := Lib.hid hof
    replace hda := Lib.hid hda
    replace hri := Lib.hid hri
    clear hs
    go_wp2_with fail
    with_reducible refine (hof.out _ _ (sizeAt_errs hE.out)).mono ?_
    rintro e w2 ⟨rfl, hd⟩
    replace ha := Lib.hid (ha.out.below hd)
    replace hE := Lib.hid (hE.out.below hd)
    replace hb1 := Lib.hid (hb1.out.trans (hd.mono hb1.out.size))
    clear hd hof
    have hz1 := Lib.hid (heap_alloc_new w2 (.cells zero32 32))
    have hd := Lib.hid ((Below.refl w2.heap.size w2).alloc (Nat.le_refl _) (.cells zero32 32))
    go_wp2_with (with_reducible refine wpList_store_row rfl 32 (.tmp 3) (.tmp 17) rfl w2.heap.size zero32 zero32 rfl rfl hz1 hzz rfl hone0 ?_)
    intro w3 hU
    have rA := Lib.hid hU.out.here
    replace hd := hd.out.trans (hU.out.below (Nat.le_refl _))
    replace ha := Lib.hid (ha.out.below hd)
    replace hE := Lib.hid (hE.out.below hd)
    replace hb1 := Lib.hid (hb1.out.trans (hd.mono hb1.out.size))
    obtain ⟨b3, hb3⟩ : ∃ b, b = w2.heap.size := ⟨_, rfl⟩
    rw [← hb3] at rA ⊢
    clear hd hU hz1 hb3
    go_wp2_with fail
    with_reducible refine (hda.out _ _ (sizeAt_errs hE.out)).mono ?_
    rintro e w4 ⟨rfl, hd⟩
    replace hd := hd.below w3.heap.size
    replace ha := Lib.hid (ha.out.below hd)
    replace hE := Lib.hid (hE.out.below hd)
    replace rA := Lib.hid (rowE rA.out _ hd)
    replace hb1 := Lib.hid (hb1.out.trans (hd.mono hb1.out.size))
    clear hd hda
    go_wp2_with fail
    with_reducible refine (rsized_any _ _).mono ?_
    rintro e w5 ⟨rfl, rfl⟩
    rw [hsd]
    go_wp2_with (with_reducible refine wpList_load_row rfl 32 (.tmp 3) rfl b3 zero32 (.array 32 5) rfl rA huA rfl hzz ?_)
    with_reducible refine (num_err 7 (by decide) ea _ hE.out).mono ?_
    rintro e w6 ⟨rfl, hd⟩
    replace ha := Lib.hid (ha.out.below hd)
    replace hE := Lib.hid (hE.out.below hd)
    replace hb1 := Lib.hid (hb1.out.trans (hd.mono hb1.out.size))
    clear hd rA
    go_wp2_with fail
    with_reducible refine (num_err 7 (by decide) ea _ hE.out).mono ?_
    rintro e w7 ⟨rfl, hd⟩
    replace ha := Lib.hid (ha.out.below hd)
    replace hE := Lib.hid (hE.out.below hd)
    replace hb1 := Lib.hid (hb1.out.trans (hd.mono hb1.out.size))
    clear hd
    go_wp2_with fail
    with_reducible refine (hri.out _ _ (sizeAt_errs hE.out) ha.out).mono ?_
    rintro e w8 ⟨rfl, hd⟩
    replace hb1 := Lib.hid (hb1.out.trans (hd.mono hb1.out.size))
    go_wp2_with fail
    go_ret
    exact ⟨rfl, hb1.out⟩

end Go.Proofs.YtenkdikdofhnpaaDoor
