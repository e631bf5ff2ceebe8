/- The walk over baileelaw11.ShuffleOnce: for whatever arguments it returns true and leaves what was there as it was. -/
import Derived.Test.YtmngcnhnpfnloaaDoorAlive11
import Derived.Test.YtmngcnhnpfnloaaDoorAll
import Derived.Test.YtmngcnhnpfnloaaDoorSent
namespace Go.Proofs.YtmngcnhnpfnloaaDoor
open Go.RowKit

theorem Tryd.infoBool : (Tryd.prog.info? 4).map (fun i => (i.zero, i.size, i.bytes)) = some (some (.bool false), 1, 1) := by kernel_rfl

/-- Which places came among the first i. -/
def flag (p : Nat → Nat) (i j : Nat) : Bool := (List.range i).any fun k => p k == j
def flags (p : Nat → Nat) (N i : Nat) : List Value := (List.range N).map fun j => .bool (flag p i j)
theorem flags_at (p : Nat → Nat) (N i j : Nat) (h : j < N) : (flags p N i)[j]? = some (.bool (flag p i j)) := by simp [flags, h]
theorem flag_succ (p : Nat → Nat) (i j : Nat) : flag p (i + 1) j = (flag p i j || p i == j) := by simp [flag, List.range_succ]
theorem flags_set (p : Nat → Nat) (N i : Nat) : (flags p N i).set (p i) (.bool true) = flags p N (i + 1) := by
  refine List.ext_getElem? fun j => ?_
  rw [List.getElem?_set]
  by_cases hj : j < N
  · rw [flags_at p N (i + 1) j hj, flag_succ]
    by_cases he : p i = j
    · subst he
      rw [if_pos rfl, if_pos (by simpa [flags] using hj)]; simp
    · rw [if_neg he, flags_at p N i j hj]
      simp [he]
  · have h1 : (flags p N (i + 1))[j]? = none := by simp [flags]; omega
    have h2 : (flags p N i)[j]? = none := by simp [flags]; omega
    rw [h1, h2]
    by_cases he : p i = j
    · rw [if_pos he, if_neg (by simp [flags]; omega)]
    · rw [if_neg he]
theorem flag_new {p q : Nat → Nat} {N i : Nat} (h : ∀ k, k < N → q (p k) = k) (hi : i < N) : flag p i (p i) = false := by
  unfold flag
  rw [List.any_eq_false]
  intro k hk
  have hk' : k < i := by simpa using hk
  simp only [beq_iff_eq]
  intro e
  have h1 := h k (by omega)
  rw [e, h i hi] at h1
  omega
theorem flags_zero (p : Nat → Nat) (N : Nat) : flags p N 0 = List.replicate N (.bool false) := by
  refine List.ext_getElem? fun j => ?_
  by_cases hj : j < N
  · rw [flags_at p N 0 j hj, List.getElem?_replicate, if_pos hj]; rfl
  · rw [List.getElem?_replicate, if_neg hj]; simp [flags]; omega

theorem ownsRow_below {w w' : World} {base : Nat} {e : TypeId} {n : Nat} {v : Value} {xs : List Value} (h : w.ownsRow base e 1 v n xs) (hb : Below w.heap.size w w') : w'.ownsRow base e 1 v n xs := by
  refine ⟨h.1, ?_⟩
  rcases h.2 with h2 | ⟨g, cap, cur, e1, e2, e3, e4⟩
  · exact .inl h2
  · exact .inr ⟨g, cap, cur, e1, e2, (hb.block g (block_lt e3)).trans e3, e4⟩

set_option maxRecDepth 10000 in
set_option maxHeartbeats 8000000 in
theorem once_walk (a1 : Option Addr) (c1 : Nat) (key : List UInt8) (n : Int) (zr : Addr) (w : World) (h1 : ArgB w a1 c1 key) (hn63 : n ≤ 9223372036854775807) (hn64 : -9223372036854775808 ≤ n) (hW : ShM zr w) :
    Calls Tryd.prog 4 #[.slice a1 key.length c1, .int .i64 n] w fun e w' => e = .returned (.bool true) ∧ Below w.heap.size w w' := by
  have hal := Lib.hid (alive11_any w hW.K hW.F)
  have hx1 : key.length ≤ 9223372036854775807 := by have := h1.len; have := h1.most; unfold maxLen at *; omega
  by_cases hbig : 200 < key.length ∨ (100 < n ∧ n ≤ 1024)
  · by_cases hk : 200 < key.length
    · have hki : (200 : Int) < key.length := by omega
      clear hbig
      go_enter Tryd.func4, Tryd.ntmps4
      go_wp2_with fail
      with_reducible refine hal.out.mono ?_
      rintro e w1 ⟨rfl, hb1⟩
      replace hb1 := Lib.hid hb1
      go_wp2_with fail
      go_ret
      exact ⟨rfl, hb1.out⟩
    · have hki : ¬ (200 : Int) < key.length := by omega
      have hn1 : 100 < n := by omega
      have hn2 : n ≤ 1024 := by omega
      clear hbig
      go_enter Tryd.func4, Tryd.ntmps4
      go_wp2_with fail
      with_reducible refine hal.out.mono ?_
      rintro e w1 ⟨rfl, hb1⟩
      replace hb1 := Lib.hid hb1
      go_wp2_with fail
      go_ret
      exact ⟨rfl, hb1.out⟩
  · have hk : ¬ 200 < (key.length : Int) := by omega
    have hk2 : key.length ≤ 200 := by omega
    by_cases hbad : n < 1 ∨ 1048576 < n
    · have hn := Lib.hid (fun a W A => new_bad a n W zr A hbad)
      by_cases hlo : n < 1
      · have hlo2 : ¬ 100 < n := by omega
        clear hbig hbad
        go_enter Tryd.func4, Tryd.ntmps4
        go_wp2_with fail
        with_reducible refine hal.out.mono ?_
        rintro e w1 ⟨rfl, hb1⟩
        replace hW := Lib.hid (hW.below hb1)
        replace hb1 := Lib.hid hb1
        go_wp2_with fail
        with_reducible refine (hn.out _ _ hW.out.range).mono ?_
        rintro e w2 ⟨rfl, hnew⟩
        replace hb1 := Lib.hid (hb1.out.trans (hnew.mono hb1.out.size))
        clear hnew
        go_wp2_with fail
        go_ret
        exact ⟨rfl, hb1.out⟩
      · have hlo2 : 1048576 < n := by omega
        have hlo3 : ¬ n ≤ 1024 := by omega
        clear hbig hbad
        go_enter Tryd.func4, Tryd.ntmps4
        go_wp2_with fail
        with_reducible refine hal.out.mono ?_
        rintro e w1 ⟨rfl, hb1⟩
        replace hW := Lib.hid (hW.below hb1)
        replace hb1 := Lib.hid hb1
        go_wp2_with fail
        with_reducible refine (hn.out _ _ hW.out.range).mono ?_
        rintro e w2 ⟨rfl, hnew⟩
        replace hb1 := Lib.hid (hb1.out.trans (hnew.mono hb1.out.size))
        clear hnew
        go_wp2_with fail
        go_ret
        exact ⟨rfl, hb1.out⟩
    · obtain ⟨N, rfl⟩ : ∃ N : Nat, n = (N : Int) := ⟨n.toNat, by omega⟩
      have hN1 : 1 ≤ N := by omega
      have hN2 : N ≤ 1048576 := by omega
      have hN1i : (1 : Int) ≤ N := by omega
      have hN2i : (N : Int) ≤ 1048576 := by omega
      obtain ⟨hB1, hB2, hB3⟩ := bitsN_all hN2
      by_cases hgr : 1024 < N
      · have hgi : (1024 : Int) < N := by omega
        clear hbig hbad
        go_enter Tryd.func4, Tryd.ntmps4
        go_wp2_with fail
        with_reducible refine hal.out.mono ?_
        rintro e w1 ⟨rfl, hb1⟩
        replace h1 := Lib.hid (h1.below hb1); replace hW := Lib.hid (hW.below hb1)
        replace hb1 := Lib.hid hb1
        clear hal
        go_wp2_with fail
        with_reducible refine (new_ok a1 c1 key N _ h1.out (by omega) hN1 hN2 hW.out.K hW.out.F).mono ?_
        rintro e w2 ⟨b, rfl, hO, hnew⟩
        replace hb1 := Lib.hid (hb1.out.trans (hnew.mono hb1.out.size))
        replace hO := Lib.hid hO
        clear hnew
        go_wp2_with fail
        with_reducible refine (all_big b key N _ _ hO.out hgr).mono ?_
        rintro e w3 ⟨rfl, rfl⟩
        go_wp2_with fail
        go_ret
        exact ⟨rfl, hb1.out⟩
      · have h100 : N ≤ 100 := by omega
        have h100i : (N : Int) ≤ 100 := by omega
        obtain ⟨i0, hi, hz0, hz1, hz2⟩ := info_parts Tryd.infoBool
        clear hbig hbad
        go_enter Tryd.func4, Tryd.ntmps4
        go_wp2_with fail
        with_reducible refine hal.out.mono ?_
        rintro e w1 ⟨rfl, hb1⟩
        replace h1 := Lib.hid (h1.below hb1); replace hW := Lib.hid (hW.below hb1)
        replace hb1 := Lib.hid hb1
        clear hal
        go_wp2_with fail
        with_reducible refine (new_ok a1 c1 key N _ h1.out (by omega) hN1 hN2 hW.out.K hW.out.F).mono ?_
        rintro e w2 ⟨b, rfl, hO, hnew⟩
        replace hW := Lib.hid (hW.out.below hnew)
        replace hb1 := Lib.hid (hb1.out.trans (hnew.mono hb1.out.size))
        replace hO := Lib.hid hO
        clear hnew
        generalize bitsN N = B at *
        go_wp2_with fail
        with_reducible refine (all_any b key N B _ hO.out h100 hB3 hB1 hB2 hW.out.K hW.out.F).mono ?_
        rintro e w3 ⟨v3, rfl, ho3, hnew⟩
        obtain ⟨a3, c3, rfl, hs3, _⟩ := ho3.src
        replace hW := Lib.hid (hW.out.below hnew); replace hO := Lib.hid (hO.out.below hnew)
        replace hb1 := Lib.hid (hb1.out.trans (hnew.mono hb1.out.size))
        rw [placesTo_length]
        clear hnew ho3
        have f1 := stepN_lt (rnd_lt key B)
        have f2 := backN_lt (rnd_lt key B)
        have g1 := back_step (rnd_lt key B)
        have hplt := Lib.hid (fun x (h : x < N) => place_lt f1 g1 hB3 h)
        have hpq := Lib.hid (fun x (h : x < N) => place_back f1 g1 hB3 h)
        have hfr := Lib.hid (fun x W A (h : x < N) C D => oFrom_any b key N B x W A h hB3 hB1 hB2 C D)
        have hpl := Lib.hid (fun i (h : i < N) => show (placesTo (stepN (rnd key B) B) N (2 ^ (2 * B)) N).getD i 0 = ((place (stepN (rnd key B) B) N (2 ^ (2 * B)) i : Nat) : Int) from by simp [placesTo, h])
        have hpln := Lib.hid (placesTo_length (stepN (rnd key B) B) N (2 ^ (2 * B)) N)
        replace hs3 := Lib.hid hs3
        clear f1 f2 g1
        replace hB3 := Lib.hid hB3
        generalize placesTo (stepN (rnd key B) B) N (2 ^ (2 * B)) N = L at *
        generalize place (stepN (rnd key B) B) N (2 ^ (2 * B)) = p at *
        generalize place (backN (rnd key B) B) N (2 ^ (2 * B)) = q at *
        have hfz := Lib.hid (flags_zero p N)
        go_wp2_with (at_make; go_must (refine wpList_make_full _ rfl _ _ 35 rfl w3.heap.size 4 i0 (.bool false) 1 Tryd.underlying35 hi hz0 hz1 _ _ _ _ N rfl rfl (by omega) (by omega) (by rw [hz2]; omega) (by unfold maxLen; omega) (Nat.le_refl _) ?_))
        intro w4 hown4 hg4
        have hb4 : Below w3.heap.size w3 w4 := (Below.refl _ _).grown hg4 (Nat.le_refl _) (fun k hk => by cases hk)
        have hO4 := Lib.hid (hO.out.below hb4)
        have hW4 := Lib.hid (hW.out.below hb4)
        have hs4 := Lib.hid (hs3.out.below hb4)
        have hb14 := Lib.hid (hb1.out.trans (hb4.mono hb1.out.size))
        have hown : Hid (w4.ownsRow w3.heap.size 4 1 (.slice (some ⟨w3.heap.size, 0, none⟩) N N) N (flags p N 0)) := by
          rw [flags_zero]
          have h := hown4
          rw [toList_madeCells_one] at h
          exact h
        have hb40 := hb4.size
        replace hb4 := Lib.hid hb4
        clear hown4 hg4
        obtain ⟨g, hg⟩ : ∃ g, g = w3.heap.size := ⟨_, rfl⟩
        rw [← hg] at hown hb40 ⊢
        replace hg := Lib.hid hg
        go_wp2_with fail
        go_loopw [47] (fun j wr => ∃ i : Nat, i ≤ N ∧ j = .int .i64 i ∧ wr.ownsRow g 4 1 (.slice (some ⟨g, 0, none⟩) N N) N (flags p N i) ∧ Below g w3 wr)
          (fun j _ => N - (intOf j).toNat)
        case atStart => exact ⟨0, Nat.zero_le _, rfl, hown.out, by rw [hg.out]; exact hb4.out⟩
        case round =>
          clear hown
          obtain ⟨i, hi2, rfl, hOw, hB⟩ := hrel
          rw [hg.out] at hB
          by_cases hlt : i < N
          · have hli : (i : Int) < N := by omega
            have hsr := hs3.out.below hB
            obtain ⟨b1, o1, rfl, hc⟩ := hsr.row i (by rw [hpln.out]; exact hlt)
            rw [hpl.out i hlt] at hc
            have hp := hplt.out i hlt
            have hq := hpq.out i hlt
            have hfn := flag_new (p := p) (q := q) (N := N) (fun k hk => hpq.out k hk) hlt
            have hcell : wr.cell? ⟨g, p i, none⟩ = some (.bool false) := by
              have := World.ownsRow.cellAt hOw (p i) (by omega)
              rw [this, flags_at p N i (p i) hp, hfn]
            have hfz2 := World.ownsRow.frozenAt hOw (p i)
            have hst := (World.ownsRow.stored hOw (p i) (.bool true)).1
            rw [flags_set] at hst
            have hgle : w3.heap.size ≤ g := by rw [hg.out]; exact Nat.le_refl _
            have hB5 := hB.setCell (p := ⟨g, p i, none⟩) hgle (.bool true)
            have hfrc := hfr.out (p i) (wr.setCell ⟨g, p i, none⟩ (.bool true)) (hO.out.below hB5) hp (hW.out.K.below hB5) (hW.out.F.below hB5)
            rw [hq] at hfrc
            have hpd : decide (N ≤ p i) = false := by simp; omega
            have hpd2 : decide (p i < N) = true := by simp; omega
            have hpi : ((p i : Nat) : Int) < N := by omega
            replace hOw := Lib.hid hOw; replace hB := Lib.hid hB; replace hsr := Lib.hid hsr; replace hfn := Lib.hid hfn; replace hst := Lib.hid hst; replace hB5 := Lib.hid hB5; replace hfrc := Lib.hid hfrc; replace hp := Lib.hid hp; replace hq := Lib.hid hq
            generalize p i = y at *
            go_wp2_with fail
            with_reducible refine hfrc.out.mono ?_
            rintro e w5 ⟨rfl, hnew⟩
            have hOw5 := Lib.hid (ownsRow_below hst.out hnew)
            have hB6 := hB5.out.trans (hnew.mono hB5.out.size)
            rw [← hg.out] at hB6
            replace hB6 := Lib.hid hB6
            clear hnew hfrc
            go_wp2_with fail
            exact ⟨⟨i + 1, by omega, by go_num, hOw5.out, hB6.out⟩, by simp [intOf]; omega⟩
          · obtain rfl : i = N := by omega
            have hb5 := Lib.hid (hb1.out.trans (hB.mono hb1.out.size))
            replace hOw := Lib.hid hOw
            replace hB := Lib.hid hB
            go_wp2_with fail
            go_ret
            exact ⟨rfl, hb5.out⟩

theorem once_law (a1 : Option Addr) (c1 : Nat) (key : List UInt8) (n : Int) (w : World) (h1 : ArgB w a1 c1 key) (hn : (Lit.int IntKind.i64 n).wf = true)
    (z : Nat → Addr) (er : Errs 104 [0] w z) (hK : ShaK w) (hF : ShaF w) :
    Calls Tryd.prog 4 #[.slice a1 key.length c1, .int .i64 n] w fun e w' => e = .returned (.bool true) ∧ Below w.heap.size w w' := by
  have hx : -9223372036854775808 ≤ n ∧ n ≤ 9223372036854775807 := by simpa [Lit.wf, IntKind.min, IntKind.max, IntKind.signed, IntKind.bits] using hn
  exact once_walk a1 c1 key n (z 0) w h1 hx.2 hx.1 ⟨hK, hF, er.var 0 (by decide)⟩

end Go.Proofs.YtmngcnhnpfnloaaDoor
