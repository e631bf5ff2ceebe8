/- Whatever is done to a wire, its counts stay right. (Printed by n24/on/gencur.py.) -/
import Derived.Test.YtejkajlbffkdnaaDoorWire5
import Derived.Test.YtejkajlbffkdnaaDoorWire6
namespace Go.Proofs.YtejkajlbffkdnaaDoor
open Go.RowKit

/-- What went in came out, was lost, or is there. -/
structure WInv (t : Nat) (y : Way) : Prop where
  sum : y.i = y.o + y.l + y.ms.length
  o : 0 ≤ y.o ∧ y.o ≤ 100 * t
  l : 0 ≤ y.l ∧ y.l ≤ 100 * t
  m : y.ms.length ≤ 64
theorem WInv.small {t : Nat} {y : Way} (h : WInv t y) (ht : t ≤ 300) : Small y := by
  obtain ⟨h1, h2, h3, h4⟩ := h
  exact ⟨by omega, by omega, by omega⟩
theorem WInv.up {t : Nat} {y : Way} (h : WInv t y) : WInv (t + 1) y := by
  obtain ⟨h1, h2, h3, h4⟩ := h
  exact ⟨h1, by omega, by omega, h4⟩
/-- A wire whose counts are right, behind t acts. -/
def Cur (base W : Nat) (T : TypeId) (t : Nat) (w : World) : Prop := ∃ y z, Wire base w W T y z ∧ WInv t y ∧ WInv t z
theorem Cur.step {base W : Nat} {T : TypeId} {t : Nat} {w w' : World} {y z y' z' : Way} (hw : Wire base w W T y z) (hb : base ≤ w.heap.size) (hst : WStep base w w' W T y z y' z') (h0 : WInv t y') (h1 : WInv t z') : Cur base W T t w' ∧ Below base w w' :=
  ⟨⟨y', z', hst.wire, h0, h1⟩, hst.only.below hb fun k hk => (hw.lt k hk).1⟩
theorem Cur.below {base W : Nat} {T : TypeId} {t : Nat} {w w' : World} (h : Cur base W T t w) (hb : Below w.heap.size w w') : Cur base W T t w' := by
  obtain ⟨y, z, h1, h2, h3⟩ := h
  exact ⟨y, z, h1.only (Only.ofBelow (D := fun _ => False) hb) (fun _ _ h => h), h2, h3⟩
theorem wnew_cur (w : World) : Calls Tryd.prog 7 #[] w fun e w' => e = .returned (.pointer (some ⟨w.heap.size, 0, none⟩)) ∧ Cur w.heap.size w.heap.size 54 0 w' ∧ Below w.heap.size w w' :=
  (wnew_any w).mono fun e w' ⟨h1, h2⟩ => ⟨h1, by
    subst h2
    exact ⟨⟨_, _, wnew_wire w _ (Nat.le_refl _), ⟨rfl, by decide, by decide, by decide⟩, ⟨rfl, by decide, by decide, by decide⟩⟩, (Below.refl _ _).alloc (Nat.le_refl _) _⟩⟩

section
variable {base W : Nat} {T : TypeId} {t : Nat} {w : World} {e : Nat → Addr}
theorem cur_same (h : Cur base W T t w) {w' : World} (hd : Drawn w w') : Cur base W T (t + 1) w' ∧ Below base w w' := by
  obtain ⟨y, z, h1, h2, h3⟩ := h
  exact ⟨⟨y, z, h1.only (Only.ofDrawn (D := fun _ => False) hd) (fun _ _ h => h), h2.up, h3.up⟩, hd.below _⟩

theorem send_cur (h : Cur base W T t w) (ht : t ≤ 200) (hb : base ≤ w.heap.size) (hE : WErr w e) (hge : 12 ≤ base) (n : Int) (a : Option Addr) (c : Nat) (bs : List UInt8) (ha : ArgB w a c bs) (hd : 0 < bs.length → ∀ b o, a = some ⟨b, o, none⟩ → b ≠ W) :
    Calls Tryd.prog 8 #[.pointer (some ⟨W, 0, none⟩), .int .i64 n, .slice a bs.length c] w fun x w' => ∃ v, x = .returned v ∧ Cur base W T (t + 1) w' ∧ Below base w w' := by
  obtain ⟨y, z, hw, iy, iz⟩ := h
  have hcur : Cur base W T t w := ⟨y, z, hw, iy, iz⟩
  by_cases hn0 : n = 0
  · subst hn0
    by_cases hs : bs.length = 0
    · rw [hs]
      exact (wsend_size0 W a c w e hE).mono fun x w' ⟨h1, h2⟩ => ⟨_, h1, h2 ▸ cur_same hcur (Drawn.refl w)⟩
    by_cases hs2 : 8000 < bs.length
    · exact (wsend_long0 W a _ c hs2 w e hE).mono fun x w' ⟨h1, h2⟩ => ⟨_, h1, h2 ▸ cur_same hcur (Drawn.refl w)⟩
    by_cases hf : 64 ≤ y.ms.length
    · refine (wsend_full0 base W T y z w hw hb (iy.small (by omega)) hf a bs.length c (by omega) e hE hge).mono fun x w' ⟨h1, x', hst, q1, q2, q3, q4⟩ => ?_
      have hY : WInv (t + 1) x' := by
        obtain ⟨p1, p2, p3, p4⟩ := iy
        refine ⟨?_, ?_, ?_, ?_⟩ <;> (try rw [q4]) <;> omega
      exact ⟨_, h1, Cur.step hw hb hst hY iz.up⟩
    · refine (wsend0 base W T y z w hw hb (iy.small (by omega)) (by omega) a c bs ha (hd (by omega)) (by omega)).mono fun x w' ⟨h1, x', m, hst, q1, q2, q3, q4, _⟩ => ?_
      have hY : WInv (t + 1) x' := by
        obtain ⟨p1, p2, p3, p4⟩ := iy
        have hlen : x'.ms.length = y.ms.length + 1 := by rw [q4]; simp
        refine ⟨?_, ?_, ?_, ?_⟩ <;> omega
      exact ⟨_, h1, Cur.step hw hb hst hY iz.up⟩
  by_cases hn1 : n = 1
  · subst hn1
    by_cases hs : bs.length = 0
    · rw [hs]
      exact (wsend_size1 W a c w e hE).mono fun x w' ⟨h1, h2⟩ => ⟨_, h1, h2 ▸ cur_same hcur (Drawn.refl w)⟩
    by_cases hs2 : 8000 < bs.length
    · exact (wsend_long1 W a _ c hs2 w e hE).mono fun x w' ⟨h1, h2⟩ => ⟨_, h1, h2 ▸ cur_same hcur (Drawn.refl w)⟩
    by_cases hf : 64 ≤ z.ms.length
    · refine (wsend_full1 base W T y z w hw hb (iz.small (by omega)) hf a bs.length c (by omega) e hE hge).mono fun x w' ⟨h1, x', hst, q1, q2, q3, q4⟩ => ?_
      have hY : WInv (t + 1) x' := by
        obtain ⟨p1, p2, p3, p4⟩ := iz
        refine ⟨?_, ?_, ?_, ?_⟩ <;> (try rw [q4]) <;> omega
      exact ⟨_, h1, Cur.step hw hb hst iy.up hY⟩
    · refine (wsend1 base W T y z w hw hb (iz.small (by omega)) (by omega) a c bs ha (hd (by omega)) (by omega)).mono fun x w' ⟨h1, x', m, hst, q1, q2, q3, q4, _⟩ => ?_
      have hY : WInv (t + 1) x' := by
        obtain ⟨p1, p2, p3, p4⟩ := iz
        have hlen : x'.ms.length = z.ms.length + 1 := by rw [q4]; simp
        refine ⟨?_, ?_, ?_, ?_⟩ <;> omega
      exact ⟨_, h1, Cur.step hw hb hst iy.up hY⟩
  exact (wsend_bad W n a bs.length c hn0 hn1 w e hE).mono fun x w' ⟨h1, h2⟩ => ⟨_, h1, h2 ▸ cur_same hcur (Drawn.refl w)⟩

theorem take_cur (h : Cur base W T t w) (ht : t ≤ 200) (hb : base ≤ w.heap.size) (hE : WErr w e) (hge : 12 ≤ base) (n i : Int) :
    Calls Tryd.prog 9 #[.pointer (some ⟨W, 0, none⟩), .int .i64 n, .int .i64 i] w fun x w' => ∃ v1 v2, x = .returned (.tuple #[v1, v2]) ∧ Cur base W T (t + 1) w' ∧ Below base w w' := by
  obtain ⟨y, z, hw, iy, iz⟩ := h
  have hcur : Cur base W T t w := ⟨y, z, hw, iy, iz⟩
  by_cases hn0 : n = 0
  · subst hn0
    obtain ⟨ga, cap, hv, _, _⟩ := hw.ok0.form
    have hc3 : w.cell? ⟨W, 3, none⟩ = some (.slice ga y.ms.length cap) := by rw [hw.c]; simp [wcells, hv]
    by_cases hi : i < 0 ∨ (y.ms.length : Int) ≤ i
    · exact (wtake_no0 W i ga _ cap w hc3 hi e hE).mono fun x w' ⟨h1, h2⟩ => ⟨_, _, h1, cur_same hcur h2⟩
    obtain ⟨k, rfl⟩ : ∃ k : Nat, i = k := ⟨i.toNat, by omega⟩
    have hk : k < y.ms.length := by omega
    have hm64 := iy.m
    refine (wtake0 base W k T y z w hw hb (iy.small (by omega)) hk (by omega)).mono fun x w' ⟨h1, x', hst, q1, q2, q3, q4, _⟩ => ?_
    have hY : WInv (t + 1) x' := by
      obtain ⟨p1, p2, p3, p4⟩ := iy
      have hlen : x'.ms.length = y.ms.length - 1 := by rw [q4, List.length_eraseIdx, if_pos hk]
      refine ⟨?_, ?_, ?_, ?_⟩ <;> omega
    exact ⟨_, _, h1, Cur.step hw hb hst hY iz.up⟩
  by_cases hn1 : n = 1
  · subst hn1
    obtain ⟨ga, cap, hv, _, _⟩ := hw.ok1.form
    have hc3 : w.cell? ⟨W, 7, none⟩ = some (.slice ga z.ms.length cap) := by rw [hw.c]; simp [wcells, hv]
    by_cases hi : i < 0 ∨ (z.ms.length : Int) ≤ i
    · exact (wtake_no1 W i ga _ cap w hc3 hi e hE).mono fun x w' ⟨h1, h2⟩ => ⟨_, _, h1, cur_same hcur h2⟩
    obtain ⟨k, rfl⟩ : ∃ k : Nat, i = k := ⟨i.toNat, by omega⟩
    have hk : k < z.ms.length := by omega
    have hm64 := iz.m
    refine (wtake1 base W k T y z w hw hb (iz.small (by omega)) hk (by omega)).mono fun x w' ⟨h1, x', hst, q1, q2, q3, q4, _⟩ => ?_
    have hY : WInv (t + 1) x' := by
      obtain ⟨p1, p2, p3, p4⟩ := iz
      have hlen : x'.ms.length = z.ms.length - 1 := by rw [q4, List.length_eraseIdx, if_pos hk]
      refine ⟨?_, ?_, ?_, ?_⟩ <;> omega
    exact ⟨_, _, h1, Cur.step hw hb hst iy.up hY⟩
  exact (wtake_bad W n i hn0 hn1 w e hE).mono fun x w' ⟨h1, h2⟩ => ⟨_, _, h1, cur_same hcur h2⟩

theorem drop_cur (h : Cur base W T t w) (ht : t ≤ 200) (hb : base ≤ w.heap.size) (hE : WErr w e) (hge : 12 ≤ base) (n i : Int) :
    Calls Tryd.prog 10 #[.pointer (some ⟨W, 0, none⟩), .int .i64 n, .int .i64 i] w fun x w' => ∃ v, x = .returned v ∧ Cur base W T (t + 1) w' ∧ Below base w w' := by
  obtain ⟨y, z, hw, iy, iz⟩ := h
  have hcur : Cur base W T t w := ⟨y, z, hw, iy, iz⟩
  by_cases hn0 : n = 0
  · subst hn0
    obtain ⟨ga, cap, hv, _, _⟩ := hw.ok0.form
    have hc3 : w.cell? ⟨W, 3, none⟩ = some (.slice ga y.ms.length cap) := by rw [hw.c]; simp [wcells, hv]
    by_cases hi : i < 0 ∨ (y.ms.length : Int) ≤ i
    · exact (wdrop_no0 W i ga _ cap w hc3 hi e hE).mono fun x w' ⟨h1, h2⟩ => ⟨_, h1, cur_same hcur h2⟩
    obtain ⟨k, rfl⟩ : ∃ k : Nat, i = k := ⟨i.toNat, by omega⟩
    have hk : k < y.ms.length := by omega
    have hm64 := iy.m
    refine (wdrop0 base W k T y z w hw hb (iy.small (by omega)) hk (by omega)).mono fun x w' ⟨h1, x', hst, q1, q2, q3, q4, _⟩ => ?_
    have hY : WInv (t + 1) x' := by
      obtain ⟨p1, p2, p3, p4⟩ := iy
      have hlen : x'.ms.length = y.ms.length - 1 := by rw [q4, List.length_eraseIdx, if_pos hk]
      refine ⟨?_, ?_, ?_, ?_⟩ <;> omega
    exact ⟨_, h1, Cur.step hw hb hst hY iz.up⟩
  by_cases hn1 : n = 1
  · subst hn1
    obtain ⟨ga, cap, hv, _, _⟩ := hw.ok1.form
    have hc3 : w.cell? ⟨W, 7, none⟩ = some (.slice ga z.ms.length cap) := by rw [hw.c]; simp [wcells, hv]
    by_cases hi : i < 0 ∨ (z.ms.length : Int) ≤ i
    · exact (wdrop_no1 W i ga _ cap w hc3 hi e hE).mono fun x w' ⟨h1, h2⟩ => ⟨_, h1, cur_same hcur h2⟩
    obtain ⟨k, rfl⟩ : ∃ k : Nat, i = k := ⟨i.toNat, by omega⟩
    have hk : k < z.ms.length := by omega
    have hm64 := iz.m
    refine (wdrop1 base W k T y z w hw hb (iz.small (by omega)) hk (by omega)).mono fun x w' ⟨h1, x', hst, q1, q2, q3, q4, _⟩ => ?_
    have hY : WInv (t + 1) x' := by
      obtain ⟨p1, p2, p3, p4⟩ := iz
      have hlen : x'.ms.length = z.ms.length - 1 := by rw [q4, List.length_eraseIdx, if_pos hk]
      refine ⟨?_, ?_, ?_, ?_⟩ <;> omega
    exact ⟨_, h1, Cur.step hw hb hst iy.up hY⟩
  exact (wdrop_bad W n i hn0 hn1 w e hE).mono fun x w' ⟨h1, h2⟩ => ⟨_, h1, cur_same hcur h2⟩

theorem double_cur (h : Cur base W T t w) (ht : t ≤ 200) (hb : base ≤ w.heap.size) (hE : WErr w e) (hge : 12 ≤ base) (n i : Int) :
    Calls Tryd.prog 11 #[.pointer (some ⟨W, 0, none⟩), .int .i64 n, .int .i64 i] w fun x w' => ∃ v, x = .returned v ∧ Cur base W T (t + 1) w' ∧ Below base w w' := by
  obtain ⟨y, z, hw, iy, iz⟩ := h
  have hcur : Cur base W T t w := ⟨y, z, hw, iy, iz⟩
  by_cases hn0 : n = 0
  · subst hn0
    obtain ⟨ga, cap, hv, _, _⟩ := hw.ok0.form
    have hc3 : w.cell? ⟨W, 3, none⟩ = some (.slice ga y.ms.length cap) := by rw [hw.c]; simp [wcells, hv]
    by_cases hi : i < 0 ∨ (y.ms.length : Int) ≤ i
    · exact (wdouble_no0 W i ga _ cap w hc3 hi e hE).mono fun x w' ⟨h1, h2⟩ => ⟨_, h1, cur_same hcur h2⟩
    obtain ⟨k, rfl⟩ : ∃ k : Nat, i = k := ⟨i.toNat, by omega⟩
    have hk : k < y.ms.length := by omega
    have hm64 := iy.m
    by_cases hf : 64 ≤ y.ms.length
    · exact (wdouble_full0 W k ga _ cap w hc3 hk hf e hE).mono fun x w' ⟨h1, h2⟩ => ⟨_, h1, h2 ▸ cur_same hcur (Drawn.refl w)⟩
    refine (wdouble0 base W k T y z w hw hb (iy.small (by omega)) (by omega) hk).mono fun x w' ⟨h1, x', m, hst, q1, q2, q3, q4, _⟩ => ?_
    have hY : WInv (t + 1) x' := by
      obtain ⟨p1, p2, p3, p4⟩ := iy
      have hlen : x'.ms.length = y.ms.length + 1 := by rw [q4]; simp
      refine ⟨?_, ?_, ?_, ?_⟩ <;> omega
    exact ⟨_, h1, Cur.step hw hb hst hY iz.up⟩
  by_cases hn1 : n = 1
  · subst hn1
    obtain ⟨ga, cap, hv, _, _⟩ := hw.ok1.form
    have hc3 : w.cell? ⟨W, 7, none⟩ = some (.slice ga z.ms.length cap) := by rw [hw.c]; simp [wcells, hv]
    by_cases hi : i < 0 ∨ (z.ms.length : Int) ≤ i
    · exact (wdouble_no1 W i ga _ cap w hc3 hi e hE).mono fun x w' ⟨h1, h2⟩ => ⟨_, h1, cur_same hcur h2⟩
    obtain ⟨k, rfl⟩ : ∃ k : Nat, i = k := ⟨i.toNat, by omega⟩
    have hk : k < z.ms.length := by omega
    have hm64 := iz.m
    by_cases hf : 64 ≤ z.ms.length
    · exact (wdouble_full1 W k ga _ cap w hc3 hk hf e hE).mono fun x w' ⟨h1, h2⟩ => ⟨_, h1, h2 ▸ cur_same hcur (Drawn.refl w)⟩
    refine (wdouble1 base W k T y z w hw hb (iz.small (by omega)) (by omega) hk).mono fun x w' ⟨h1, x', m, hst, q1, q2, q3, q4, _⟩ => ?_
    have hY : WInv (t + 1) x' := by
      obtain ⟨p1, p2, p3, p4⟩ := iz
      have hlen : x'.ms.length = z.ms.length + 1 := by rw [q4]; simp
      refine ⟨?_, ?_, ?_, ?_⟩ <;> omega
    exact ⟨_, h1, Cur.step hw hb hst iy.up hY⟩
  exact (wdouble_bad W n i hn0 hn1 w e hE).mono fun x w' ⟨h1, h2⟩ => ⟨_, h1, cur_same hcur h2⟩

theorem bend_cur (h : Cur base W T t w) (ht : t ≤ 200) (hb : base ≤ w.heap.size) (hE : WErr w e) (hge : 12 ≤ base) (n i : Int) (at_ : Int) (by_ : UInt8) :
    Calls Tryd.prog 12 #[.pointer (some ⟨W, 0, none⟩), .int .i64 n, .int .i64 i, .int .i64 at_, .int .u8 (by_.toNat : Int)] w fun x w' => ∃ v, x = .returned v ∧ Cur base W T (t + 1) w' ∧ Below base w w' := by
  obtain ⟨y, z, hw, iy, iz⟩ := h
  have hcur : Cur base W T t w := ⟨y, z, hw, iy, iz⟩
  by_cases hn0 : n = 0
  · subst hn0
    obtain ⟨ga, cap, hv, _, _⟩ := hw.ok0.form
    have hc3 : w.cell? ⟨W, 3, none⟩ = some (.slice ga y.ms.length cap) := by rw [hw.c]; simp [wcells, hv]
    by_cases hi : i < 0 ∨ (y.ms.length : Int) ≤ i
    · exact (wbend_no0 W i at_ by_ ga _ cap w hc3 hi e hE).mono fun x w' ⟨h1, h2⟩ => ⟨_, h1, cur_same hcur h2⟩
    obtain ⟨k, rfl⟩ : ∃ k : Nat, i = k := ⟨i.toNat, by omega⟩
    have hk : k < y.ms.length := by omega
    have hm64 := iy.m
    refine (wbend0 base W k at_ by_ T y z w hw hb hk (by omega)).mono fun x w' ⟨h1, x', hst, q1, q2, q3, q4⟩ => ?_
    have hY : WInv (t + 1) x' := by
      obtain ⟨p1, p2, p3, p4⟩ := iy
      have hlen : x'.ms.length = y.ms.length := by rw [q4]; simp
      refine ⟨?_, ?_, ?_, ?_⟩ <;> omega
    exact ⟨_, h1, Cur.step hw hb hst hY iz.up⟩
  by_cases hn1 : n = 1
  · subst hn1
    obtain ⟨ga, cap, hv, _, _⟩ := hw.ok1.form
    have hc3 : w.cell? ⟨W, 7, none⟩ = some (.slice ga z.ms.length cap) := by rw [hw.c]; simp [wcells, hv]
    by_cases hi : i < 0 ∨ (z.ms.length : Int) ≤ i
    · exact (wbend_no1 W i at_ by_ ga _ cap w hc3 hi e hE).mono fun x w' ⟨h1, h2⟩ => ⟨_, h1, cur_same hcur h2⟩
    obtain ⟨k, rfl⟩ : ∃ k : Nat, i = k := ⟨i.toNat, by omega⟩
    have hk : k < z.ms.length := by omega
    have hm64 := iz.m
    refine (wbend1 base W k at_ by_ T y z w hw hb hk (by omega)).mono fun x w' ⟨h1, x', hst, q1, q2, q3, q4⟩ => ?_
    have hY : WInv (t + 1) x' := by
      obtain ⟨p1, p2, p3, p4⟩ := iz
      have hlen : x'.ms.length = z.ms.length := by rw [q4]; simp
      refine ⟨?_, ?_, ?_, ?_⟩ <;> omega
    exact ⟨_, h1, Cur.step hw hb hst iy.up hY⟩
  exact (wbend_bad W n i at_ by_ hn0 hn1 w e hE).mono fun x w' ⟨h1, h2⟩ => ⟨_, h1, cur_same hcur h2⟩

theorem clear_cur (h : Cur base W T t w) (ht : t ≤ 200) (hb : base ≤ w.heap.size) :
    Calls Tryd.prog 13 #[.pointer (some ⟨W, 0, none⟩)] w fun x w' => x = .returned (.tuple #[]) ∧ Cur base W T (t + 1) w' ∧ Below base w w' := by
  obtain ⟨y, z, hw, iy, iz⟩ := h
  have hmy := iy.m
  have hmz := iz.m
  refine (wclear_any base W T y z w hw hb (iy.small (by omega)) (iz.small (by omega)) (by omega) (by omega)).mono fun x w' ⟨h1, y', z', hst, ⟨q1, q2, q3, q4⟩, r1, r2, r3, r4⟩ => ?_
  have hl1 : y'.ms.length = 0 := by rw [q4]; rfl
  have hl2 : z'.ms.length = 0 := by rw [r4]; rfl
  refine ⟨h1, Cur.step hw hb hst ?_ ?_⟩
  · obtain ⟨p1, p2, p3, p4⟩ := iy
    refine ⟨?_, ?_, ?_, ?_⟩ <;> omega
  · obtain ⟨p1, p2, p3, p4⟩ := iz
    refine ⟨?_, ?_, ?_, ?_⟩ <;> omega
end
end Go.Proofs.YtejkajlbffkdnaaDoor
