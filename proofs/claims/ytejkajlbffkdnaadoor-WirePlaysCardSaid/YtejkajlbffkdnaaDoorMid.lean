/- A wire and the reference's wire, side by side: what one says, the other one says. (Printed by n24/on/genmid.py.) -/
import Derived.Test.YtejkajlbffkdnaaDoorCur
import Derived.Test.YtejkajlbffkdnaaDoorRefSend0
import Derived.Test.YtejkajlbffkdnaaDoorRefSend1
import Derived.Test.YtejkajlbffkdnaaDoorRefTake0
import Derived.Test.YtejkajlbffkdnaaDoorRefTake1
import Derived.Test.YtejkajlbffkdnaaDoorRefDbl0
import Derived.Test.YtejkajlbffkdnaaDoorRefDbl1
import Derived.Test.YtejkajlbffkdnaaDoorRefBend0
import Derived.Test.YtejkajlbffkdnaaDoorRefBend1
import Derived.Test.YtejkajlbffkdnaaDoorNum
namespace Go.Proofs.YtejkajlbffkdnaaDoor
open Go.RowKit

structure Mid (base W : Nat) (T : TypeId) (M : Nat) (TM : TypeId) (w : World) (y z ry rz : Way) : Prop where
  wire : Wire base w W T y z
  ref : RefW base w M TM ry rz
  dj : ∀ k, Wire.D W y z k → ¬ RefW.D M ry rz k
section
variable {base W : Nat} {T : TypeId} {M : Nat} {TM : TypeId} {w w' : World} {y z ry rz y' z' ry' rz' : Way}
theorem Mid.ofWire (h : Mid base W T M TM w y z ry rz) (hs : WStep base w w' W T y z y' z') : Mid base W T M TM w' y' z' ry rz :=
  ⟨hs.wire, h.ref.only hs.only (fun k hk hd => h.dj k hd hk), fun k hk hr => by
    rcases hs.new k hk with h1 | h1
    · exact h.dj k h1 hr
    · have := (h.ref.lt k hr).2; omega⟩
theorem Mid.ofRef (h : Mid base W T M TM w y z ry rz) (hs : RStep base w w' M TM ry rz ry' rz') : Mid base W T M TM w' y z ry' rz' :=
  ⟨h.wire.only hs.only (fun k hk e => h.dj k hk (.inl e)), hs.ref, fun k hk hr => by
    rcases hs.new k hr with h1 | h1
    · exact h.dj k hk h1
    · have := (h.wire.lt k hk).2; omega⟩
theorem Mid.below (h : Mid base W T M TM w y z ry rz) (hb : Below w.heap.size w w') : Mid base W T M TM w' y z ry rz :=
  ⟨h.wire.only (Only.ofBelow (D := fun _ => False) hb) (fun _ _ h => h), h.ref.only (Only.ofBelow (D := fun _ => False) hb) (fun _ _ h => h), h.dj⟩
theorem WStep.below (hs : WStep base w w' W T y z y' z') (h : Wire base w W T y z) (hb : base ≤ w.heap.size) : Below base w w' := hs.only.below hb fun k hk => (h.lt k hk).1
theorem RStep.below (hs : RStep base w w' M TM ry rz ry' rz') (h : RefW base w M TM ry rz) (hb : base ≤ w.heap.size) : Below base w w' := hs.only.below hb fun k hk => by subst hk; exact h.ge
end
/-- The same counts, the same messages. -/
structure Sim (y r : Way) : Prop where
  i : y.i = r.i
  o : y.o = r.o
  l : y.l = r.l
  ms : y.ms.map (·.bs) = r.ms.map (·.bs)
theorem Sim.len {y r : Way} (h : Sim y r) : y.ms.length = r.ms.length := by
  have := congrArg List.length h.ms
  simpa using this
theorem Sim.at_ {y r : Way} (h : Sim y r) (k : Nat) (h1 : k < y.ms.length) (h2 : k < r.ms.length) : (y.ms[k]).bs = (r.ms[k]).bs := by
  have := congrArg (·[k]?) h.ms
  simpa [h1, h2] using this
theorem Sim.small {t : Nat} {y r : Way} (h : Sim y r) (hi : WInv t y) (ht : t ≤ 300) : Small r := by
  have := hi.small ht
  obtain ⟨h1, h2, h3, _⟩ := h
  exact ⟨h1 ▸ this.i, h2 ▸ this.o, h3 ▸ this.l⟩
theorem map_erase (l : List Msg) (k : Nat) : (l.eraseIdx k).map (·.bs) = (l.map (·.bs)).eraseIdx k := by
  rw [List.eraseIdx_eq_take_drop_succ, List.eraseIdx_eq_take_drop_succ, List.map_append, List.map_take, List.map_drop]

def errOf (ea : Nat → Addr) : Nat → Value
  | 0 => .nilIface
  | n + 1 => .iface 85 (.pointer (some (ea n)))
theorem num_errOf (ea : Nat → Addr) (r : Nat) (hr : r ≤ 20) (w : World) (H : Errs 85 errGs w ea) : Calls Tryd.prog 18 #[errOf ea r] w fun e w' => e = .returned (.int .i64 (r : Int)) ∧ Below w.heap.size w w' := by
  cases r with
  | zero => exact (num_nil w).mono fun e w' ⟨h1, h2⟩ => ⟨h1, h2 ▸ Below.refl _ _⟩
  | succ n => exact num_err n (by omega) ea w H
theorem werr20 {w : World} {ea : Nat → Addr} (H : Errs 85 errGs w ea) : WErr w (fun i => ea ([6, 10, 7, 2, 11].getD i 0)) :=
  ⟨H.var 6 (by decide), H.var 10 (by decide), H.var 7 (by decide), H.var 2 (by decide), H.var 11 (by decide)⟩

theorem argB_none24 (w : World) : ArgB w none 0 [] := ⟨Nat.le_refl _, Nat.zero_le _, fun _ => rfl, fun i hi => absurd hi (Nat.not_lt_zero i)⟩
theorem argB_own {base : Nat} {w : World} {b c : Nat} {bs : List UInt8} (h : OwnB base w (.slice (some ⟨b, 0, none⟩) bs.length c) bs) : ArgB w (some ⟨b, 0, none⟩) c bs := by
  obtain ⟨a3, c3, e3, ha3, _⟩ := OwnB.arg h
  cases e3
  exact ha3
section
variable {base W : Nat} {T : TypeId} {M : Nat} {TM : TypeId} {t : Nat} {w : World} {ea : Nat → Addr} {y z ry rz : Way}

theorem send_pair (hm : Mid base W T M TM w y z ry rz) (sy : Sim y ry) (sz : Sim z rz) (iy : WInv t y) (iz : WInv t z) (ht : t ≤ 200) (hb : base ≤ w.heap.size) (hE : Errs 85 errGs w ea) (hge : 12 ≤ base) (n : Int) (a : Option Addr) (c : Nat) (bs : List UInt8) (ha : ArgB w a c bs) (hd : 0 < bs.length → ∀ b o, a = some ⟨b, o, none⟩ → b ≠ W) :
    Calls Tryd.prog 8 #[.pointer (some ⟨W, 0, none⟩), .int .i64 n, .slice a bs.length c] w fun x w1 => ∃ r y' z', x = .returned (errOf ea r) ∧ r ≤ 20 ∧ WStep base w w1 W T y z y' z' ∧ WInv (t + 1) y' ∧ WInv (t + 1) z' ∧
      ∀ w2 a2 c2, RefW base w2 M TM ry rz → base ≤ w2.heap.size → ArgB w2 a2 c2 bs → (0 < bs.length → ∀ b o, a2 = some ⟨b, o, none⟩ → b ≠ M) →
        Calls Tryd.prog 24 #[.pointer (some ⟨M, 0, none⟩), .int .i64 n, .slice a2 bs.length c2] w2 fun x2 w3 => x2 = .returned (.int .i64 (r : Int)) ∧ ∃ ry' rz', RStep base w2 w3 M TM ry rz ry' rz' ∧ Sim y' ry' ∧ Sim z' rz' := by
  have hw := hm.wire
  have hEW := werr20 hE
  by_cases hn0 : n = 0
  · subst hn0
    by_cases hs : bs.length = 0
    · rw [hs]
      refine (wsend_size0 W a c w _ hEW).mono fun x w1 ⟨h1, hq⟩ => ?_
      subst hq
      refine ⟨8, y, z, h1, by decide, WStep.drawn hw (Drawn.refl w), iy.up, iz.up, fun w2 a2 c2 h2 _ _ _ => ?_⟩
      exact (rsend_size0 M a2 c2 w2).mono fun x2 w3 ⟨e1, e2⟩ => ⟨e1, e2 ▸ ⟨ry, rz, RStep.drawn h2 (Drawn.refl w2), sy, sz⟩⟩
    by_cases hs2 : 8000 < bs.length
    · refine (wsend_long0 W a _ c hs2 w _ hEW).mono fun x w1 ⟨h1, hq⟩ => ?_
      subst hq
      refine ⟨3, y, z, h1, by decide, WStep.drawn hw (Drawn.refl w), iy.up, iz.up, fun w2 a2 c2 h2 _ _ _ => ?_⟩
      exact (rsend_long0 M a2 _ c2 hs2 w2).mono fun x2 w3 ⟨e1, e2⟩ => ⟨e1, e2 ▸ ⟨ry, rz, RStep.drawn h2 (Drawn.refl w2), sy, sz⟩⟩
    have hlen := sy.len
    by_cases hf : 64 ≤ y.ms.length
    · refine (wsend_full0 base W T y z w hw hb (iy.small (by omega)) hf a bs.length c (by omega) _ hEW hge).mono fun x w1 ⟨h1, x', hst, q1, q2, q3, q4⟩ => ?_
      have hY : WInv (t + 1) x' := by
        obtain ⟨p1, p2, p3, p4⟩ := iy
        refine ⟨?_, ?_, ?_, ?_⟩ <;> (try rw [q4]) <;> omega
      refine ⟨12, x', z, h1, by decide, hst, hY, iz.up, fun w2 a2 c2 h2 hb2 _ _ => ?_⟩
      refine (rsend_full0 base M TM ry rz w2 h2 hb2 (sy.small iy (by omega)) (by omega) a2 bs.length c2 (by omega)).mono fun x2 w3 ⟨e1, rx', hst2, r1, r2, r3, r4⟩ => ?_
      have hS : Sim x' rx' := ⟨by rw [q1, r1, sy.i], by rw [q2, r2, sy.o], by rw [q3, r3, sy.l], by rw [q4, r4, sy.ms]⟩
      exact ⟨e1, rx', rz, hst2, hS, sz⟩
    · refine (wsend0 base W T y z w hw hb (iy.small (by omega)) (by omega) a c bs ha (hd (by omega)) (by omega)).mono fun x w1 ⟨h1, x', m, hst, q1, q2, q3, q4, q5⟩ => ?_
      have hY : WInv (t + 1) x' := by
        obtain ⟨p1, p2, p3, p4⟩ := iy
        have hl : x'.ms.length = y.ms.length + 1 := by rw [q4]; simp
        refine ⟨?_, ?_, ?_, ?_⟩ <;> omega
      refine ⟨0, x', z, h1, by decide, hst, hY, iz.up, fun w2 a2 c2 h2 hb2 ha2 hd2 => ?_⟩
      refine (rsend0 base M TM ry rz w2 h2 hb2 (sy.small iy (by omega)) (by omega) a2 c2 bs ha2 (hd2 (by omega)) (by omega)).mono fun x2 w3 ⟨e1, rx', m2, hst2, r1, r2, r3, r4, r5⟩ => ?_
      have hS : Sim x' rx' := ⟨by rw [q1, r1, sy.i], by rw [q2, r2, sy.o], by rw [q3, r3, sy.l], by rw [q4, r4, List.map_append, List.map_append, sy.ms, List.map_singleton, List.map_singleton, q5, r5]⟩
      exact ⟨e1, rx', rz, hst2, hS, sz⟩
  by_cases hn1 : n = 1
  · subst hn1
    by_cases hs : bs.length = 0
    · rw [hs]
      refine (wsend_size1 W a c w _ hEW).mono fun x w1 ⟨h1, hq⟩ => ?_
      subst hq
      refine ⟨8, y, z, h1, by decide, WStep.drawn hw (Drawn.refl w), iy.up, iz.up, fun w2 a2 c2 h2 _ _ _ => ?_⟩
      exact (rsend_size1 M a2 c2 w2).mono fun x2 w3 ⟨e1, e2⟩ => ⟨e1, e2 ▸ ⟨ry, rz, RStep.drawn h2 (Drawn.refl w2), sy, sz⟩⟩
    by_cases hs2 : 8000 < bs.length
    · refine (wsend_long1 W a _ c hs2 w _ hEW).mono fun x w1 ⟨h1, hq⟩ => ?_
      subst hq
      refine ⟨3, y, z, h1, by decide, WStep.drawn hw (Drawn.refl w), iy.up, iz.up, fun w2 a2 c2 h2 _ _ _ => ?_⟩
      exact (rsend_long1 M a2 _ c2 hs2 w2).mono fun x2 w3 ⟨e1, e2⟩ => ⟨e1, e2 ▸ ⟨ry, rz, RStep.drawn h2 (Drawn.refl w2), sy, sz⟩⟩
    have hlen := sz.len
    by_cases hf : 64 ≤ z.ms.length
    · refine (wsend_full1 base W T y z w hw hb (iz.small (by omega)) hf a bs.length c (by omega) _ hEW hge).mono fun x w1 ⟨h1, x', hst, q1, q2, q3, q4⟩ => ?_
      have hY : WInv (t + 1) x' := by
        obtain ⟨p1, p2, p3, p4⟩ := iz
        refine ⟨?_, ?_, ?_, ?_⟩ <;> (try rw [q4]) <;> omega
      refine ⟨12, y, x', h1, by decide, hst, iy.up, hY, fun w2 a2 c2 h2 hb2 _ _ => ?_⟩
      refine (rsend_full1 base M TM ry rz w2 h2 hb2 (sz.small iz (by omega)) (by omega) a2 bs.length c2 (by omega)).mono fun x2 w3 ⟨e1, rx', hst2, r1, r2, r3, r4⟩ => ?_
      have hS : Sim x' rx' := ⟨by rw [q1, r1, sz.i], by rw [q2, r2, sz.o], by rw [q3, r3, sz.l], by rw [q4, r4, sz.ms]⟩
      exact ⟨e1, ry, rx', hst2, sy, hS⟩
    · refine (wsend1 base W T y z w hw hb (iz.small (by omega)) (by omega) a c bs ha (hd (by omega)) (by omega)).mono fun x w1 ⟨h1, x', m, hst, q1, q2, q3, q4, q5⟩ => ?_
      have hY : WInv (t + 1) x' := by
        obtain ⟨p1, p2, p3, p4⟩ := iz
        have hl : x'.ms.length = z.ms.length + 1 := by rw [q4]; simp
        refine ⟨?_, ?_, ?_, ?_⟩ <;> omega
      refine ⟨0, y, x', h1, by decide, hst, iy.up, hY, fun w2 a2 c2 h2 hb2 ha2 hd2 => ?_⟩
      refine (rsend1 base M TM ry rz w2 h2 hb2 (sz.small iz (by omega)) (by omega) a2 c2 bs ha2 (hd2 (by omega)) (by omega)).mono fun x2 w3 ⟨e1, rx', m2, hst2, r1, r2, r3, r4, r5⟩ => ?_
      have hS : Sim x' rx' := ⟨by rw [q1, r1, sz.i], by rw [q2, r2, sz.o], by rw [q3, r3, sz.l], by rw [q4, r4, List.map_append, List.map_append, sz.ms, List.map_singleton, List.map_singleton, q5, r5]⟩
      exact ⟨e1, ry, rx', hst2, sy, hS⟩
  refine (wsend_bad W n a bs.length c hn0 hn1 w _ hEW).mono fun x w1 ⟨h1, hq⟩ => ?_
  subst hq
  refine ⟨7, y, z, h1, by decide, WStep.drawn hw (Drawn.refl w), iy.up, iz.up, fun w2 a2 c2 h2 _ _ _ => ?_⟩
  exact (rsend_bad M n a2 bs.length c2 hn0 hn1 w2).mono fun x2 w3 ⟨e1, e2⟩ => ⟨e1, e2 ▸ ⟨ry, rz, RStep.drawn h2 (Drawn.refl w2), sy, sz⟩⟩

theorem take_pair (hm : Mid base W T M TM w y z ry rz) (sy : Sim y ry) (sz : Sim z rz) (iy : WInv t y) (iz : WInv t z) (ht : t ≤ 200) (hb : base ≤ w.heap.size) (hE : Errs 85 errGs w ea) (hge : 12 ≤ base) (n i : Int) :
    Calls Tryd.prog 9 #[.pointer (some ⟨W, 0, none⟩), .int .i64 n, .int .i64 i] w fun x w1 => ∃ r y' z' a1 c1 bs1, x = .returned (.tuple #[.slice a1 (List.length bs1) c1, errOf ea r]) ∧ r ≤ 20 ∧ WStep base w w1 W T y z y' z' ∧ WInv (t + 1) y' ∧ WInv (t + 1) z' ∧ ArgB w1 a1 c1 bs1 ∧ (∀ b o, a1 = some ⟨b, o, none⟩ → b ≠ M) ∧
      ∀ w2, RefW base w2 M TM ry rz → base ≤ w2.heap.size →
        Calls Tryd.prog 26 #[.pointer (some ⟨M, 0, none⟩), .int .i64 n, .int .i64 i] w2 fun x2 w3 => ∃ a3 c3, x2 = .returned (.tuple #[.slice a3 (List.length bs1) c3, .int .i64 (r : Int)]) ∧ ArgB w3 a3 c3 bs1 ∧ ∃ ry' rz', RStep base w2 w3 M TM ry rz ry' rz' ∧ Sim y' ry' ∧ Sim z' rz' := by
  have hw := hm.wire
  have hEW := werr20 hE
  by_cases hn0 : n = 0
  · subst hn0
    have hlen := sy.len
    obtain ⟨ga, cap, hv, _, _⟩ := hw.ok0.form
    have hc3 : w.cell? ⟨W, 3, none⟩ = some (.slice ga y.ms.length cap) := by rw [hw.c]; simp [wcells, hv]
    by_cases hi : i < 0 ∨ (y.ms.length : Int) ≤ i
    · refine (wtake_no0 W i ga _ cap w hc3 hi _ hEW).mono fun x w1 ⟨h1, hd⟩ => ?_
      refine ⟨11, y, z, none, 0, [], h1, by decide, WStep.drawn hw hd, iy.up, iz.up, argB_none24 _, (fun _ _ e => by cases e), fun w2 h2 _ => ?_⟩
      obtain ⟨rga, rcap, rhv, _⟩ := h2.ok0.form
      have rc : w2.cell? ⟨M, 0, none⟩ = some (.slice rga ry.ms.length rcap) := by rw [h2.c]; simp [rcells, rhv]
      exact (rtake_no0 M i rga _ rcap w2 rc (by omega)).mono fun x2 w3 ⟨e1, e2⟩ => ⟨none, 0, e1, argB_none24 _, e2 ▸ ⟨ry, rz, RStep.drawn h2 (Drawn.refl w2), sy, sz⟩⟩
    obtain ⟨k, rfl⟩ : ∃ k : Nat, i = k := ⟨i.toNat, by omega⟩
    have hk : k < y.ms.length := by omega
    have hrk : k < ry.ms.length := by omega
    have hm64 := iy.m
    have hat := sy.at_ k hk hrk
    have hmem := List.getElem_mem hk
    have hbM : (y.ms[k]).b ≠ M := fun e => hm.dj _ (.inr (.inl (mem_blks_m hmem))) (.inl e)
    refine (wtake0 base W k T y z w hw hb (iy.small (by omega)) hk (by omega)).mono fun x w1 ⟨h1, x', hst, q1, q2, q3, q4, q5, _⟩ => ?_
    have hY : WInv (t + 1) x' := by
      obtain ⟨p1, p2, p3, p4⟩ := iy
      have hl : x'.ms.length = y.ms.length - 1 := by rw [q4, List.length_eraseIdx, if_pos hk]
      refine ⟨?_, ?_, ?_, ?_⟩ <;> omega
    refine ⟨0, x', z, _, _, (y.ms[k]).bs, h1, by decide, hst, hY, iz.up, argB_own q5, (fun b o e => by cases e; exact hbM), fun w2 h2 hb2 => ?_⟩
    refine (rtake0 base M k TM ry rz w2 h2 hb2 (sy.small iy (by omega)) (by omega) hrk).mono fun x2 w3 ⟨e1, rx', hst2, r1, r2, r3, r4, r5⟩ => ?_
    have hS : Sim x' rx' := ⟨by rw [q1, r1, sy.i], by rw [q2, r2, sy.o], by rw [q3, r3, sy.l], by rw [q4, r4, map_erase, map_erase, sy.ms]⟩
    have r6 := argB_own r5
    rw [← hat] at r6
    refine ⟨_, _, ?_, r6, rx', rz, hst2, hS, sz⟩
    rw [e1, hat]
    rfl
  by_cases hn1 : n = 1
  · subst hn1
    have hlen := sz.len
    obtain ⟨ga, cap, hv, _, _⟩ := hw.ok1.form
    have hc3 : w.cell? ⟨W, 7, none⟩ = some (.slice ga z.ms.length cap) := by rw [hw.c]; simp [wcells, hv]
    by_cases hi : i < 0 ∨ (z.ms.length : Int) ≤ i
    · refine (wtake_no1 W i ga _ cap w hc3 hi _ hEW).mono fun x w1 ⟨h1, hd⟩ => ?_
      refine ⟨11, y, z, none, 0, [], h1, by decide, WStep.drawn hw hd, iy.up, iz.up, argB_none24 _, (fun _ _ e => by cases e), fun w2 h2 _ => ?_⟩
      obtain ⟨rga, rcap, rhv, _⟩ := h2.ok1.form
      have rc : w2.cell? ⟨M, 1, none⟩ = some (.slice rga rz.ms.length rcap) := by rw [h2.c]; simp [rcells, rhv]
      exact (rtake_no1 M i rga _ rcap w2 rc (by omega)).mono fun x2 w3 ⟨e1, e2⟩ => ⟨none, 0, e1, argB_none24 _, e2 ▸ ⟨ry, rz, RStep.drawn h2 (Drawn.refl w2), sy, sz⟩⟩
    obtain ⟨k, rfl⟩ : ∃ k : Nat, i = k := ⟨i.toNat, by omega⟩
    have hk : k < z.ms.length := by omega
    have hrk : k < rz.ms.length := by omega
    have hm64 := iz.m
    have hat := sz.at_ k hk hrk
    have hmem := List.getElem_mem hk
    have hbM : (z.ms[k]).b ≠ M := fun e => hm.dj _ (.inr (.inr (mem_blks_m hmem))) (.inl e)
    refine (wtake1 base W k T y z w hw hb (iz.small (by omega)) hk (by omega)).mono fun x w1 ⟨h1, x', hst, q1, q2, q3, q4, q5, _⟩ => ?_
    have hY : WInv (t + 1) x' := by
      obtain ⟨p1, p2, p3, p4⟩ := iz
      have hl : x'.ms.length = z.ms.length - 1 := by rw [q4, List.length_eraseIdx, if_pos hk]
      refine ⟨?_, ?_, ?_, ?_⟩ <;> omega
    refine ⟨0, y, x', _, _, (z.ms[k]).bs, h1, by decide, hst, iy.up, hY, argB_own q5, (fun b o e => by cases e; exact hbM), fun w2 h2 hb2 => ?_⟩
    refine (rtake1 base M k TM ry rz w2 h2 hb2 (sz.small iz (by omega)) (by omega) hrk).mono fun x2 w3 ⟨e1, rx', hst2, r1, r2, r3, r4, r5⟩ => ?_
    have hS : Sim x' rx' := ⟨by rw [q1, r1, sz.i], by rw [q2, r2, sz.o], by rw [q3, r3, sz.l], by rw [q4, r4, map_erase, map_erase, sz.ms]⟩
    have r6 := argB_own r5
    rw [← hat] at r6
    refine ⟨_, _, ?_, r6, ry, rx', hst2, sy, hS⟩
    rw [e1, hat]
    rfl
  refine (wtake_bad W n i hn0 hn1 w _ hEW).mono fun x w1 ⟨h1, hd⟩ => ?_
  refine ⟨7, y, z, none, 0, [], h1, by decide, WStep.drawn hw hd, iy.up, iz.up, argB_none24 _, (fun _ _ e => by cases e), fun w2 h2 _ => ?_⟩
  exact (rtake_bad M n i hn0 hn1 w2).mono fun x2 w3 ⟨e1, e2⟩ => ⟨none, 0, e1, argB_none24 _, e2 ▸ ⟨ry, rz, RStep.drawn h2 (Drawn.refl w2), sy, sz⟩⟩

theorem drop_pair (hm : Mid base W T M TM w y z ry rz) (sy : Sim y ry) (sz : Sim z rz) (iy : WInv t y) (iz : WInv t z) (ht : t ≤ 200) (hb : base ≤ w.heap.size) (hE : Errs 85 errGs w ea) (hge : 12 ≤ base) (n i : Int) :
    Calls Tryd.prog 10 #[.pointer (some ⟨W, 0, none⟩), .int .i64 n, .int .i64 i] w fun x w1 => ∃ r y' z', x = .returned (errOf ea r) ∧ r ≤ 20 ∧ WStep base w w1 W T y z y' z' ∧ WInv (t + 1) y' ∧ WInv (t + 1) z' ∧
      ∀ w2, RefW base w2 M TM ry rz → base ≤ w2.heap.size →
        Calls Tryd.prog 27 #[.pointer (some ⟨M, 0, none⟩), .int .i64 n, .int .i64 i] w2 fun x2 w3 => x2 = .returned (.int .i64 (r : Int)) ∧ ∃ ry' rz', RStep base w2 w3 M TM ry rz ry' rz' ∧ Sim y' ry' ∧ Sim z' rz' := by
  have hw := hm.wire
  have hEW := werr20 hE
  by_cases hn0 : n = 0
  · subst hn0
    have hlen := sy.len
    obtain ⟨ga, cap, hv, _, _⟩ := hw.ok0.form
    have hc3 : w.cell? ⟨W, 3, none⟩ = some (.slice ga y.ms.length cap) := by rw [hw.c]; simp [wcells, hv]
    by_cases hi : i < 0 ∨ (y.ms.length : Int) ≤ i
    · refine (wdrop_no0 W i ga _ cap w hc3 hi _ hEW).mono fun x w1 ⟨h1, hd⟩ => ?_
      refine ⟨11, y, z, h1, by decide, WStep.drawn hw hd, iy.up, iz.up, fun w2 h2 _ => ?_⟩
      obtain ⟨rga, rcap, rhv, _⟩ := h2.ok0.form
      have rc : w2.cell? ⟨M, 0, none⟩ = some (.slice rga ry.ms.length rcap) := by rw [h2.c]; simp [rcells, rhv]
      exact (rdrop_no0 M i rga _ rcap w2 rc (by omega)).mono fun x2 w3 ⟨e1, e2⟩ => ⟨e1, e2 ▸ ⟨ry, rz, RStep.drawn h2 (Drawn.refl w2), sy, sz⟩⟩
    obtain ⟨k, rfl⟩ : ∃ k : Nat, i = k := ⟨i.toNat, by omega⟩
    have hk : k < y.ms.length := by omega
    have hrk : k < ry.ms.length := by omega
    have hm64 := iy.m
    have hat := sy.at_ k hk hrk
    refine (wdrop0 base W k T y z w hw hb (iy.small (by omega)) hk (by omega)).mono fun x w1 ⟨h1, x', hst, q1, q2, q3, q4, _⟩ => ?_
    have hY : WInv (t + 1) x' := by
      obtain ⟨p1, p2, p3, p4⟩ := iy
      have hl : x'.ms.length = y.ms.length - 1 := by rw [q4, List.length_eraseIdx, if_pos hk]
      refine ⟨?_, ?_, ?_, ?_⟩ <;> omega
    refine ⟨0, x', z, h1, by decide, hst, hY, iz.up, fun w2 h2 hb2 => ?_⟩
    refine (rdrop0 base M k TM ry rz w2 h2 hb2 (sy.small iy (by omega)) (by omega) hrk).mono fun x2 w3 ⟨e1, rx', hst2, r1, r2, r3, r4, _⟩ => ?_
    have hS : Sim x' rx' := ⟨by rw [q1, r1, sy.i], by rw [q2, r2, sy.o], by rw [q3, r3, sy.l], by rw [q4, r4, map_erase, map_erase, sy.ms]⟩
    exact ⟨e1, rx', rz, hst2, hS, sz⟩
  by_cases hn1 : n = 1
  · subst hn1
    have hlen := sz.len
    obtain ⟨ga, cap, hv, _, _⟩ := hw.ok1.form
    have hc3 : w.cell? ⟨W, 7, none⟩ = some (.slice ga z.ms.length cap) := by rw [hw.c]; simp [wcells, hv]
    by_cases hi : i < 0 ∨ (z.ms.length : Int) ≤ i
    · refine (wdrop_no1 W i ga _ cap w hc3 hi _ hEW).mono fun x w1 ⟨h1, hd⟩ => ?_
      refine ⟨11, y, z, h1, by decide, WStep.drawn hw hd, iy.up, iz.up, fun w2 h2 _ => ?_⟩
      obtain ⟨rga, rcap, rhv, _⟩ := h2.ok1.form
      have rc : w2.cell? ⟨M, 1, none⟩ = some (.slice rga rz.ms.length rcap) := by rw [h2.c]; simp [rcells, rhv]
      exact (rdrop_no1 M i rga _ rcap w2 rc (by omega)).mono fun x2 w3 ⟨e1, e2⟩ => ⟨e1, e2 ▸ ⟨ry, rz, RStep.drawn h2 (Drawn.refl w2), sy, sz⟩⟩
    obtain ⟨k, rfl⟩ : ∃ k : Nat, i = k := ⟨i.toNat, by omega⟩
    have hk : k < z.ms.length := by omega
    have hrk : k < rz.ms.length := by omega
    have hm64 := iz.m
    have hat := sz.at_ k hk hrk
    refine (wdrop1 base W k T y z w hw hb (iz.small (by omega)) hk (by omega)).mono fun x w1 ⟨h1, x', hst, q1, q2, q3, q4, _⟩ => ?_
    have hY : WInv (t + 1) x' := by
      obtain ⟨p1, p2, p3, p4⟩ := iz
      have hl : x'.ms.length = z.ms.length - 1 := by rw [q4, List.length_eraseIdx, if_pos hk]
      refine ⟨?_, ?_, ?_, ?_⟩ <;> omega
    refine ⟨0, y, x', h1, by decide, hst, iy.up, hY, fun w2 h2 hb2 => ?_⟩
    refine (rdrop1 base M k TM ry rz w2 h2 hb2 (sz.small iz (by omega)) (by omega) hrk).mono fun x2 w3 ⟨e1, rx', hst2, r1, r2, r3, r4, _⟩ => ?_
    have hS : Sim x' rx' := ⟨by rw [q1, r1, sz.i], by rw [q2, r2, sz.o], by rw [q3, r3, sz.l], by rw [q4, r4, map_erase, map_erase, sz.ms]⟩
    exact ⟨e1, ry, rx', hst2, sy, hS⟩
  refine (wdrop_bad W n i hn0 hn1 w _ hEW).mono fun x w1 ⟨h1, hd⟩ => ?_
  refine ⟨7, y, z, h1, by decide, WStep.drawn hw hd, iy.up, iz.up, fun w2 h2 _ => ?_⟩
  exact (rdrop_bad M n i hn0 hn1 w2).mono fun x2 w3 ⟨e1, e2⟩ => ⟨e1, e2 ▸ ⟨ry, rz, RStep.drawn h2 (Drawn.refl w2), sy, sz⟩⟩

theorem double_pair (hm : Mid base W T M TM w y z ry rz) (sy : Sim y ry) (sz : Sim z rz) (iy : WInv t y) (iz : WInv t z) (ht : t ≤ 200) (hb : base ≤ w.heap.size) (hE : Errs 85 errGs w ea) (hge : 12 ≤ base) (n i : Int) :
    Calls Tryd.prog 11 #[.pointer (some ⟨W, 0, none⟩), .int .i64 n, .int .i64 i] w fun x w1 => ∃ r y' z', x = .returned (errOf ea r) ∧ r ≤ 20 ∧ WStep base w w1 W T y z y' z' ∧ WInv (t + 1) y' ∧ WInv (t + 1) z' ∧
      ∀ w2, RefW base w2 M TM ry rz → base ≤ w2.heap.size →
        Calls Tryd.prog 28 #[.pointer (some ⟨M, 0, none⟩), .int .i64 n, .int .i64 i] w2 fun x2 w3 => x2 = .returned (.int .i64 (r : Int)) ∧ ∃ ry' rz', RStep base w2 w3 M TM ry rz ry' rz' ∧ Sim y' ry' ∧ Sim z' rz' := by
  have hw := hm.wire
  have hEW := werr20 hE
  by_cases hn0 : n = 0
  · subst hn0
    have hlen := sy.len
    obtain ⟨ga, cap, hv, _, _⟩ := hw.ok0.form
    have hc3 : w.cell? ⟨W, 3, none⟩ = some (.slice ga y.ms.length cap) := by rw [hw.c]; simp [wcells, hv]
    by_cases hi : i < 0 ∨ (y.ms.length : Int) ≤ i
    · refine (wdouble_no0 W i ga _ cap w hc3 hi _ hEW).mono fun x w1 ⟨h1, hd⟩ => ?_
      refine ⟨11, y, z, h1, by decide, WStep.drawn hw hd, iy.up, iz.up, fun w2 h2 _ => ?_⟩
      obtain ⟨rga, rcap, rhv, _⟩ := h2.ok0.form
      have rc : w2.cell? ⟨M, 0, none⟩ = some (.slice rga ry.ms.length rcap) := by rw [h2.c]; simp [rcells, rhv]
      exact (rdouble_no0 M i rga _ rcap w2 rc (by omega)).mono fun x2 w3 ⟨e1, e2⟩ => ⟨e1, e2 ▸ ⟨ry, rz, RStep.drawn h2 (Drawn.refl w2), sy, sz⟩⟩
    obtain ⟨k, rfl⟩ : ∃ k : Nat, i = k := ⟨i.toNat, by omega⟩
    have hk : k < y.ms.length := by omega
    have hrk : k < ry.ms.length := by omega
    have hm64 := iy.m
    have hat := sy.at_ k hk hrk
    by_cases hf : 64 ≤ y.ms.length
    · refine (wdouble_full0 W k ga _ cap w hc3 hk hf _ hEW).mono fun x w1 ⟨h1, hq⟩ => ?_
      subst hq
      refine ⟨12, y, z, h1, by decide, WStep.drawn hw (Drawn.refl w), iy.up, iz.up, fun w2 h2 _ => ?_⟩
      obtain ⟨rga, rcap, rhv, _⟩ := h2.ok0.form
      have rc : w2.cell? ⟨M, 0, none⟩ = some (.slice rga ry.ms.length rcap) := by rw [h2.c]; simp [rcells, rhv]
      exact (rdouble_full0 M k rga _ rcap w2 rc hrk (by omega)).mono fun x2 w3 ⟨e1, e2⟩ => ⟨e1, e2 ▸ ⟨ry, rz, RStep.drawn h2 (Drawn.refl w2), sy, sz⟩⟩
    refine (wdouble0 base W k T y z w hw hb (iy.small (by omega)) (by omega) hk).mono fun x w1 ⟨h1, x', m, hst, q1, q2, q3, q4, q5⟩ => ?_
    have hY : WInv (t + 1) x' := by
      obtain ⟨p1, p2, p3, p4⟩ := iy
      have hl : x'.ms.length = y.ms.length + 1 := by rw [q4]; simp
      refine ⟨?_, ?_, ?_, ?_⟩ <;> omega
    refine ⟨0, x', z, h1, by decide, hst, hY, iz.up, fun w2 h2 hb2 => ?_⟩
    refine (rdouble0 base M k TM ry rz w2 h2 hb2 (sy.small iy (by omega)) (by omega) hrk).mono fun x2 w3 ⟨e1, rx', hst2, r1, r2, r3, r4⟩ => ?_
    have hS : Sim x' rx' := ⟨by rw [q1, r1, sy.i], by rw [q2, r2, sy.o], by rw [q3, r3, sy.l], by rw [q4, r4, List.map_append, List.map_append, sy.ms, List.map_singleton, List.map_singleton, q5, hat]⟩
    exact ⟨e1, rx', rz, hst2, hS, sz⟩
  by_cases hn1 : n = 1
  · subst hn1
    have hlen := sz.len
    obtain ⟨ga, cap, hv, _, _⟩ := hw.ok1.form
    have hc3 : w.cell? ⟨W, 7, none⟩ = some (.slice ga z.ms.length cap) := by rw [hw.c]; simp [wcells, hv]
    by_cases hi : i < 0 ∨ (z.ms.length : Int) ≤ i
    · refine (wdouble_no1 W i ga _ cap w hc3 hi _ hEW).mono fun x w1 ⟨h1, hd⟩ => ?_
      refine ⟨11, y, z, h1, by decide, WStep.drawn hw hd, iy.up, iz.up, fun w2 h2 _ => ?_⟩
      obtain ⟨rga, rcap, rhv, _⟩ := h2.ok1.form
      have rc : w2.cell? ⟨M, 1, none⟩ = some (.slice rga rz.ms.length rcap) := by rw [h2.c]; simp [rcells, rhv]
      exact (rdouble_no1 M i rga _ rcap w2 rc (by omega)).mono fun x2 w3 ⟨e1, e2⟩ => ⟨e1, e2 ▸ ⟨ry, rz, RStep.drawn h2 (Drawn.refl w2), sy, sz⟩⟩
    obtain ⟨k, rfl⟩ : ∃ k : Nat, i = k := ⟨i.toNat, by omega⟩
    have hk : k < z.ms.length := by omega
    have hrk : k < rz.ms.length := by omega
    have hm64 := iz.m
    have hat := sz.at_ k hk hrk
    by_cases hf : 64 ≤ z.ms.length
    · refine (wdouble_full1 W k ga _ cap w hc3 hk hf _ hEW).mono fun x w1 ⟨h1, hq⟩ => ?_
      subst hq
      refine ⟨12, y, z, h1, by decide, WStep.drawn hw (Drawn.refl w), iy.up, iz.up, fun w2 h2 _ => ?_⟩
      obtain ⟨rga, rcap, rhv, _⟩ := h2.ok1.form
      have rc : w2.cell? ⟨M, 1, none⟩ = some (.slice rga rz.ms.length rcap) := by rw [h2.c]; simp [rcells, rhv]
      exact (rdouble_full1 M k rga _ rcap w2 rc hrk (by omega)).mono fun x2 w3 ⟨e1, e2⟩ => ⟨e1, e2 ▸ ⟨ry, rz, RStep.drawn h2 (Drawn.refl w2), sy, sz⟩⟩
    refine (wdouble1 base W k T y z w hw hb (iz.small (by omega)) (by omega) hk).mono fun x w1 ⟨h1, x', m, hst, q1, q2, q3, q4, q5⟩ => ?_
    have hY : WInv (t + 1) x' := by
      obtain ⟨p1, p2, p3, p4⟩ := iz
      have hl : x'.ms.length = z.ms.length + 1 := by rw [q4]; simp
      refine ⟨?_, ?_, ?_, ?_⟩ <;> omega
    refine ⟨0, y, x', h1, by decide, hst, iy.up, hY, fun w2 h2 hb2 => ?_⟩
    refine (rdouble1 base M k TM ry rz w2 h2 hb2 (sz.small iz (by omega)) (by omega) hrk).mono fun x2 w3 ⟨e1, rx', hst2, r1, r2, r3, r4⟩ => ?_
    have hS : Sim x' rx' := ⟨by rw [q1, r1, sz.i], by rw [q2, r2, sz.o], by rw [q3, r3, sz.l], by rw [q4, r4, List.map_append, List.map_append, sz.ms, List.map_singleton, List.map_singleton, q5, hat]⟩
    exact ⟨e1, ry, rx', hst2, sy, hS⟩
  refine (wdouble_bad W n i hn0 hn1 w _ hEW).mono fun x w1 ⟨h1, hd⟩ => ?_
  refine ⟨7, y, z, h1, by decide, WStep.drawn hw hd, iy.up, iz.up, fun w2 h2 _ => ?_⟩
  exact (rdouble_bad M n i hn0 hn1 w2).mono fun x2 w3 ⟨e1, e2⟩ => ⟨e1, e2 ▸ ⟨ry, rz, RStep.drawn h2 (Drawn.refl w2), sy, sz⟩⟩

theorem bend_pair (hm : Mid base W T M TM w y z ry rz) (sy : Sim y ry) (sz : Sim z rz) (iy : WInv t y) (iz : WInv t z) (ht : t ≤ 200) (hb : base ≤ w.heap.size) (hE : Errs 85 errGs w ea) (hge : 12 ≤ base) (n i : Int) (at_ : Int) (by_ : UInt8) :
    Calls Tryd.prog 12 #[.pointer (some ⟨W, 0, none⟩), .int .i64 n, .int .i64 i, .int .i64 at_, .int .u8 (by_.toNat : Int)] w fun x w1 => ∃ r y' z', x = .returned (errOf ea r) ∧ r ≤ 20 ∧ WStep base w w1 W T y z y' z' ∧ WInv (t + 1) y' ∧ WInv (t + 1) z' ∧
      ∀ w2, RefW base w2 M TM ry rz → base ≤ w2.heap.size →
        Calls Tryd.prog 29 #[.pointer (some ⟨M, 0, none⟩), .int .i64 n, .int .i64 i, .int .i64 at_, .int .u8 (by_.toNat : Int)] w2 fun x2 w3 => x2 = .returned (.int .i64 (r : Int)) ∧ ∃ ry' rz', RStep base w2 w3 M TM ry rz ry' rz' ∧ Sim y' ry' ∧ Sim z' rz' := by
  have hw := hm.wire
  have hEW := werr20 hE
  by_cases hn0 : n = 0
  · subst hn0
    have hlen := sy.len
    obtain ⟨ga, cap, hv, _, _⟩ := hw.ok0.form
    have hc3 : w.cell? ⟨W, 3, none⟩ = some (.slice ga y.ms.length cap) := by rw [hw.c]; simp [wcells, hv]
    by_cases hi : i < 0 ∨ (y.ms.length : Int) ≤ i
    · refine (wbend_no0 W i at_ by_ ga _ cap w hc3 hi _ hEW).mono fun x w1 ⟨h1, hd⟩ => ?_
      refine ⟨11, y, z, h1, by decide, WStep.drawn hw hd, iy.up, iz.up, fun w2 h2 _ => ?_⟩
      obtain ⟨rga, rcap, rhv, _⟩ := h2.ok0.form
      have rc : w2.cell? ⟨M, 0, none⟩ = some (.slice rga ry.ms.length rcap) := by rw [h2.c]; simp [rcells, rhv]
      exact (rbend_no0 M i at_ by_ rga _ rcap w2 rc (by omega)).mono fun x2 w3 ⟨e1, e2⟩ => ⟨e1, e2 ▸ ⟨ry, rz, RStep.drawn h2 (Drawn.refl w2), sy, sz⟩⟩
    obtain ⟨k, rfl⟩ : ∃ k : Nat, i = k := ⟨i.toNat, by omega⟩
    have hk : k < y.ms.length := by omega
    have hrk : k < ry.ms.length := by omega
    have hm64 := iy.m
    have hat := sy.at_ k hk hrk
    refine (wbend0 base W k at_ by_ T y z w hw hb hk (by omega)).mono fun x w1 ⟨h1, x', hst, q1, q2, q3, q4⟩ => ?_
    have hY : WInv (t + 1) x' := by
      obtain ⟨p1, p2, p3, p4⟩ := iy
      have hl : x'.ms.length = y.ms.length := by rw [q4]; simp
      refine ⟨?_, ?_, ?_, ?_⟩ <;> omega
    refine ⟨0, x', z, h1, by decide, hst, hY, iz.up, fun w2 h2 hb2 => ?_⟩
    refine (rbend0 base M k at_ by_ TM ry rz w2 h2 hb2 (by omega) hrk).mono fun x2 w3 ⟨e1, rx', m', hst2, r1, r2, r3, r4, r5⟩ => ?_
    have hS : Sim x' rx' := ⟨by rw [q1, r1, sy.i], by rw [q2, r2, sy.o], by rw [q3, r3, sy.l], by rw [q4, r4, List.map_set, List.map_set, sy.ms, r5, hat]⟩
    exact ⟨e1, rx', rz, hst2, hS, sz⟩
  by_cases hn1 : n = 1
  · subst hn1
    have hlen := sz.len
    obtain ⟨ga, cap, hv, _, _⟩ := hw.ok1.form
    have hc3 : w.cell? ⟨W, 7, none⟩ = some (.slice ga z.ms.length cap) := by rw [hw.c]; simp [wcells, hv]
    by_cases hi : i < 0 ∨ (z.ms.length : Int) ≤ i
    · refine (wbend_no1 W i at_ by_ ga _ cap w hc3 hi _ hEW).mono fun x w1 ⟨h1, hd⟩ => ?_
      refine ⟨11, y, z, h1, by decide, WStep.drawn hw hd, iy.up, iz.up, fun w2 h2 _ => ?_⟩
      obtain ⟨rga, rcap, rhv, _⟩ := h2.ok1.form
      have rc : w2.cell? ⟨M, 1, none⟩ = some (.slice rga rz.ms.length rcap) := by rw [h2.c]; simp [rcells, rhv]
      exact (rbend_no1 M i at_ by_ rga _ rcap w2 rc (by omega)).mono fun x2 w3 ⟨e1, e2⟩ => ⟨e1, e2 ▸ ⟨ry, rz, RStep.drawn h2 (Drawn.refl w2), sy, sz⟩⟩
    obtain ⟨k, rfl⟩ : ∃ k : Nat, i = k := ⟨i.toNat, by omega⟩
    have hk : k < z.ms.length := by omega
    have hrk : k < rz.ms.length := by omega
    have hm64 := iz.m
    have hat := sz.at_ k hk hrk
    refine (wbend1 base W k at_ by_ T y z w hw hb hk (by omega)).mono fun x w1 ⟨h1, x', hst, q1, q2, q3, q4⟩ => ?_
    have hY : WInv (t + 1) x' := by
      obtain ⟨p1, p2, p3, p4⟩ := iz
      have hl : x'.ms.length = z.ms.length := by rw [q4]; simp
      refine ⟨?_, ?_, ?_, ?_⟩ <;> omega
    refine ⟨0, y, x', h1, by decide, hst, iy.up, hY, fun w2 h2 hb2 => ?_⟩
    refine (rbend1 base M k at_ by_ TM ry rz w2 h2 hb2 (by omega) hrk).mono fun x2 w3 ⟨e1, rx', m', hst2, r1, r2, r3, r4, r5⟩ => ?_
    have hS : Sim x' rx' := ⟨by rw [q1, r1, sz.i], by rw [q2, r2, sz.o], by rw [q3, r3, sz.l], by rw [q4, r4, List.map_set, List.map_set, sz.ms, r5, hat]⟩
    exact ⟨e1, ry, rx', hst2, sy, hS⟩
  refine (wbend_bad W n i at_ by_ hn0 hn1 w _ hEW).mono fun x w1 ⟨h1, hd⟩ => ?_
  refine ⟨7, y, z, h1, by decide, WStep.drawn hw hd, iy.up, iz.up, fun w2 h2 _ => ?_⟩
  exact (rbend_bad M n i at_ by_ hn0 hn1 w2).mono fun x2 w3 ⟨e1, e2⟩ => ⟨e1, e2 ▸ ⟨ry, rz, RStep.drawn h2 (Drawn.refl w2), sy, sz⟩⟩

theorem clear_pair (hm : Mid base W T M TM w y z ry rz) (sy : Sim y ry) (sz : Sim z rz) (iy : WInv t y) (iz : WInv t z) (ht : t ≤ 200) (hb : base ≤ w.heap.size) :
    Calls Tryd.prog 13 #[.pointer (some ⟨W, 0, none⟩)] w fun x w1 => ∃ y' z', x = .returned (.tuple #[]) ∧ WStep base w w1 W T y z y' z' ∧ WInv (t + 1) y' ∧ WInv (t + 1) z' ∧
      ∀ w2, RefW base w2 M TM ry rz → base ≤ w2.heap.size →
        Calls Tryd.prog 30 #[.pointer (some ⟨M, 0, none⟩)] w2 fun x2 w3 => x2 = .returned (.tuple #[]) ∧ ∃ ry' rz', RStep base w2 w3 M TM ry rz ry' rz' ∧ Sim y' ry' ∧ Sim z' rz' := by
  have hmy := iy.m
  have hmz := iz.m
  have ly := sy.len
  have lz := sz.len
  refine (wclear_any base W T y z w hm.wire hb (iy.small (by omega)) (iz.small (by omega)) (by omega) (by omega)).mono fun x w1 ⟨h1, y', z', hst, ⟨q1, q2, q3, q4⟩, p1, p2, p3, p4⟩ => ?_
  have hl1 : y'.ms.length = 0 := by rw [q4]; rfl
  have hl2 : z'.ms.length = 0 := by rw [p4]; rfl
  have hY : WInv (t + 1) y' := by
    obtain ⟨a1, a2, a3, a4⟩ := iy
    refine ⟨?_, ?_, ?_, ?_⟩ <;> omega
  have hZ : WInv (t + 1) z' := by
    obtain ⟨a1, a2, a3, a4⟩ := iz
    refine ⟨?_, ?_, ?_, ?_⟩ <;> omega
  refine ⟨y', z', h1, hst, hY, hZ, fun w2 h2 hb2 => ?_⟩
  refine (rclear_any base M TM ry rz w2 h2 hb2 (sy.small iy (by omega)) (sz.small iz (by omega)) (by omega) (by omega)).mono fun x2 w3 ⟨e1, ry', rz', hst2, ⟨r1, r2, r3, r4⟩, u1, u2, u3, u4⟩ => ?_
  exact ⟨e1, ry', rz', hst2, ⟨by rw [q1, r1, sy.i], by rw [q2, r2, sy.o], by rw [q3, r3, sy.l, ly], by rw [q4, r4]⟩, ⟨by rw [p1, u1, sz.i], by rw [p2, u2, sz.o], by rw [p3, u3, sz.l, lz], by rw [p4, u4]⟩⟩
end
end Go.Proofs.YtejkajlbffkdnaaDoor
