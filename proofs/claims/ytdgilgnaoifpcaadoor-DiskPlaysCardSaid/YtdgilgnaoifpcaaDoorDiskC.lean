/- Disk: contracts on its whole state, in the words of a plain machine. -/
import Derived.Test.YtdgilgnaoifpcaaDoorReadD
import Derived.Test.YtdgilgnaoifpcaaDoorCrash
import Derived.Deep.QuietTactic
namespace Go.Proofs.YtdgilgnaoifpcaaDoor
open Go.RowKit

/-- A disk, in plain words. -/
structure DP where
  n : Int
  f : Int → List UInt8
  ws : List (Int × List UInt8)
  armed : Bool
  l : Int
  gone : Bool
def DP.bad (p : DP) : Bool := p.gone || (p.armed && p.l == 0)
/-- A deed: the state, and what is answered (0: good; 3: ErrPower). -/
def DP.deed (p : DP) : DP × Nat := if p.bad then ({ p with gone := true }, 3) else ({ p with l := p.l - 1 }, 0)
def DP.write (p : DP) (i : Int) (bs : List UInt8) : DP × Nat :=
  if i < 0 ∨ p.n ≤ i then (p, 1) else if bs.length ≠ 64 then (p, 2) else if p.bad then ({ p with gone := true }, 3) else ({ p with l := p.l - 1, ws := p.ws ++ [(i, bs)] }, 0)
def DP.sync (p : DP) : DP × Nat := if p.bad then ({ p with gone := true }, 3) else ({ p with l := p.l - 1, f := doneK (fun _ => some 64) p.ws p.f, ws := [] }, 0)
def DP.crash (p : DP) (kept torn : Int) (s : Nat) : DP := { p with f := doneK (crashK kept torn s) p.ws p.f, ws := [], armed := false, l := 0, gone := false }
def DP.new (n : Int) : DP := ⟨n, fun _ => zSec, [], false, 0, false⟩
/-- An answer as an error. -/
def errV (e : Nat → Addr) : Nat → Value
  | 0 => .nilIface
  | k + 1 => .iface 96 (.pointer (some (e k)))
/-- A disk in memory. -/
def DM (base : Nat) (w : World) (B mb mn : Nat) (v : Value) (p : DP) : Prop := DiskOk base w B 59 p.n mb mn p.f v p.ws p.armed p.l p.gone
theorem DM.only {base : Nat} {w w' : World} {B mb mn : Nat} {v : Value} {p : DP} {D : Nat → Prop} (h : DM base w B mb mn v p) (hO : Only D w w') (hd : ∀ k, DiskD B mb v k → ¬ D k) : DM base w' B mb mn v p := DiskOk.only h hO hd
theorem DM.below {base : Nat} {w w' : World} {B mb mn : Nat} {v : Value} {p : DP} (h : DM base w B mb mn v p) (hb : Below w.heap.size w w') : DM base w' B mb mn v p := h.only (Only.ofBelow (D := fun _ => False) hb) (fun _ _ h => h)
theorem DM.cell {base : Nat} {w : World} {B mb mn : Nat} {v : Value} {p : DP} (h : DM base w B mb mn v p) (j : Nat) : w.cell? ⟨B, j, none⟩ = (dcells p.n mb v p.armed p.l p.gone)[j]? := cell_of_block h.at_ j
theorem DM.form {base : Nat} {w : World} {B mb mn : Nat} {v : Value} {p : DP} (h : DM base w B mb mn v p) : ∃ a c, v = .slice a p.ws.length c := by
  rcases h.row.2 with ⟨e1, h2⟩ | ⟨g, c, cur, e1, _⟩
  · exact ⟨none, 0, by rw [e1, h2]⟩
  · exact ⟨_, c, e1⟩
theorem DM.rowN {base : Nat} {w : World} {B mb mn : Nat} {a : Option Addr} {m c : Nat} {p : DP} (h : DM base w B mb mn (.slice a m c) p) : RowNW w.heap.size w a p.ws := by
  intro i hi
  have hl : ∀ q ∈ p.ws, q.2.length = 64 := fun q hq => (h.lens q hq).1
  have hg : p.ws.getD i (0, []) = p.ws[i] := by simp [List.getD_eq_getElem?_getD, hi]
  rcases h.row.2 with ⟨e1, h2⟩ | ⟨g, cap, cur, e1, _, hh, _⟩
  · omega
  · cases e1
    refine ⟨g, rfl, block_lt hh, by rw [hg]; exact hl _ (List.getElem_mem hi), ?_⟩
    rw [hg, wR_list, fix64_eq (hl _ (List.getElem_mem hi))]
    exact row_range h.row hl i hi
/-- What a call did to a disk. -/
structure DStep (base : Nat) (w w' : World) (B mb : Nat) (v : Value) (mn : Nat) (v' : Value) (p' : DP) : Prop where
  ok : DM base w' B mb mn v' p'
  only : Only (DiskD B mb v) w w'
  new : ∀ k, DiskD B mb v' k → DiskD B mb v k ∨ w.heap.size ≤ k
theorem DStep.same {base : Nat} {w : World} {B mb mn : Nat} {v : Value} {p : DP} (h : DM base w B mb mn v p) : DStep base w w B mb v mn v p := ⟨h, Only.refl _ _, fun _ h => .inl h⟩
/-- Blocks that were there and no blocks of the disk are none of it behind a step. -/
theorem DStep.apart {base : Nat} {w w' : World} {B mb mn : Nat} {v v' : Value} {p' : DP} (h : DStep base w w' B mb v mn v' p') {k : Nat} (hk : ¬ DiskD B mb v k) (hl : k < w.heap.size) : ¬ DiskD B mb v' k := fun hd => by
  rcases h.new k hd with h1 | h1
  · exact hk h1
  · omega
theorem DStep.below {base : Nat} {w w' : World} {B mb mn mn' : Nat} {v v' : Value} {p p' : DP} (h : DStep base w w' B mb v mn' v' p') (h0 : DM base w B mb mn v p) (hb : base ≤ w.heap.size) : Below base w w' := h.only.below hb (fun k hk => (h0.lt k hk).1)

set_option maxHeartbeats 400000 in
theorem ddeed_bad (B : Nat) (n : Int) (mb : Nat) (v : Value) (T : TypeId) (armed : Bool) (l : Int) (gone : Bool) (h : (gone || (armed && l == 0)) = true) (w : World) (e : Nat → Addr) (hE : DErr w e) (hB : 2 ≠ B) (hat : w.heap[B]? = some (.cells (dcells n mb v armed l gone) T (0, 0))) :
    Calls Tryd.prog 22 #[.pointer (some ⟨B, 0, none⟩)] w fun x w' => x = .returned (errV e 3) ∧ Upd B (.cells (dcells n mb v armed l true) T (0, 0)) w w' := by
  have c3 : w.cell? ⟨B, 3, none⟩ = some (.bool armed) := by rw [cell_of_block hat]; rfl
  have c4 : w.cell? ⟨B, 4, none⟩ = some (.int .i64 l) := by rw [cell_of_block hat]; rfl
  have c5 : w.cell? ⟨B, 5, none⟩ = some (.bool gone) := by rw [cell_of_block hat]; rfl
  have f5 : w.frozen? ⟨B, 5, none⟩ = false := free_of_block hat _
  by_cases h1 : armed = true → l ≠ 0
  · have hg : gone = true := by
      cases armed
      · simpa using h
      · have := h1 rfl
        simpa [this] using h
    subst hg
    refine (ddeed_gone B armed l h1 w e hE c3 c4 c5).mono ?_
    rintro x w' ⟨rfl, rfl⟩
    exact ⟨rfl, Upd.refl hat⟩
  · obtain ⟨ha, hl⟩ : armed = true ∧ l = 0 := by
      cases armed
      · exact absurd (fun e => by cases e) h1
      · exact ⟨rfl, Classical.not_not.1 fun hn => h1 fun _ => hn⟩
    subst ha hl
    have hk : ∀ W : World, (∀ b, b ≠ B → W.heap[b]? = w.heap[b]?) → W.cell? ⟨2, 0, none⟩ = some (.iface 96 (.pointer (some (e 2)))) := fun W hW => (World.cell?_of_block (a := ⟨2, 0, none⟩) (hW _ hB)).trans hE.power
    have hU := (Upd.refl hat).setCell (j := 5) (.bool true)
    have hk2 := hk _ (fun b hb => hU.block b hb)
    have hUh := Lib.hid hU
    clear hk h h1 hat hU
    go_enter Tryd.func22, Tryd.ntmps22
    go_wp2_with fail
    go_ret
    exact ⟨rfl, hUh.out⟩
set_option maxHeartbeats 400000 in
theorem dwrite_no (B : Nat) (n i : Int) (h : i < 0 ∨ n ≤ i) (w : World) (hc : w.cell? ⟨B, 0, none⟩ = some (.int .i64 n)) (e : Nat → Addr) (hE : DErr w e) (a : Option Addr) (m c : Nat) :
    Calls Tryd.prog 8 #[.pointer (some ⟨B, 0, none⟩), .int .i64 i, .slice a m c] w fun x w' => x = .returned (errV e 1) ∧ w = w' := by
  have hth := Lib.hid (dthere_no B n i h w hc e hE)
  clear h
  go_enter Tryd.func8, Tryd.ntmps8
  go_wp2_with fail
  with_reducible refine hth.out.mono ?_
  rintro x w2 ⟨rfl, hq⟩
  obtain rfl := hq
  clear hth
  go_wp2_with fail
  go_ret
  exact ⟨rfl, rfl⟩
set_option maxHeartbeats 400000 in
theorem dwrite_size (B : Nat) (n i : Int) (h0 : 0 ≤ i) (h1 : i < n) (w : World) (hc : w.cell? ⟨B, 0, none⟩ = some (.int .i64 n)) (e : Nat → Addr) (hE : DErr w e) (a : Option Addr) (m c : Nat) (hm : m ≠ 64) :
    Calls Tryd.prog 8 #[.pointer (some ⟨B, 0, none⟩), .int .i64 i, .slice a m c] w fun x w' => x = .returned (errV e 2) ∧ w = w' := by
  have hth := Lib.hid (dthere_yes B n i h0 h1 w hc)
  have hk := hE.size
  have hm2 : ((m : Int) != 64) = true := by simp; omega
  clear hm
  go_enter Tryd.func8, Tryd.ntmps8
  go_wp2_with fail
  with_reducible refine hth.out.mono ?_
  rintro x w2 ⟨rfl, hq⟩
  obtain rfl := hq
  clear hth
  go_wp2_with fail
  go_ret
  exact ⟨rfl, rfl⟩
set_option maxHeartbeats 400000 in
theorem dwrite_bad (B : Nat) (n i : Int) (mb : Nat) (v : Value) (T : TypeId) (armed : Bool) (l : Int) (gone : Bool) (h : (gone || (armed && l == 0)) = true) (h0 : 0 ≤ i) (h1 : i < n) (w : World) (e : Nat → Addr) (hE : DErr w e) (hB : 2 ≠ B) (hat : w.heap[B]? = some (.cells (dcells n mb v armed l gone) T (0, 0))) (a : Option Addr) (c : Nat) :
    Calls Tryd.prog 8 #[.pointer (some ⟨B, 0, none⟩), .int .i64 i, .slice a 64 c] w fun x w' => x = .returned (errV e 3) ∧ Upd B (.cells (dcells n mb v armed l true) T (0, 0)) w w' := by
  have hc : w.cell? ⟨B, 0, none⟩ = some (.int .i64 n) := by rw [cell_of_block hat]; rfl
  have hth := Lib.hid (dthere_yes B n i h0 h1 w hc)
  have hde := Lib.hid (ddeed_bad B n mb v T armed l gone h w e hE hB hat)
  clear hat hc h
  go_enter Tryd.func8, Tryd.ntmps8
  go_wp2_with fail
  with_reducible refine hth.out.mono ?_
  rintro x w2 ⟨rfl, hq⟩
  obtain rfl := hq
  clear hth
  go_wp2_with fail
  with_reducible refine hde.out.mono ?_
  rintro x w2 ⟨rfl, hU⟩
  replace hU := Lib.hid hU
  clear hde
  simp only [errV]
  go_wp2_with fail
  go_ret
  exact ⟨rfl, hU.out⟩
set_option maxHeartbeats 400000 in
theorem dsync_bad (B : Nat) (n : Int) (mb : Nat) (v : Value) (T : TypeId) (armed : Bool) (l : Int) (gone : Bool) (h : (gone || (armed && l == 0)) = true) (w : World) (e : Nat → Addr) (hE : DErr w e) (hB : 2 ≠ B) (hat : w.heap[B]? = some (.cells (dcells n mb v armed l gone) T (0, 0))) :
    Calls Tryd.prog 9 #[.pointer (some ⟨B, 0, none⟩)] w fun x w' => x = .returned (errV e 3) ∧ Upd B (.cells (dcells n mb v armed l true) T (0, 0)) w w' := by
  have hde := Lib.hid (ddeed_bad B n mb v T armed l gone h w e hE hB hat)
  clear hat h
  go_enter Tryd.func9, Tryd.ntmps9
  go_wp2_with fail
  with_reducible refine hde.out.mono ?_
  rintro x w2 ⟨rfl, hU⟩
  replace hU := Lib.hid hU
  clear hde
  simp only [errV]
  go_wp2_with fail
  go_ret
  exact ⟨rfl, hU.out⟩

theorem DM.gone {base : Nat} {w w' : World} {B mb mn : Nat} {v : Value} {p : DP} (h : DM base w B mb mn v p) (hU : Upd B (.cells (dcells p.n mb v p.armed p.l true) 59 (0, 0)) w w') : DStep base w w' B mb v mn v { p with gone := true } := by
  have hO : Only (fun k => k = B) w w' := Only.ofUpd hU rfl
  exact ⟨⟨hU.here, h.map.only hO h.hmB, hO.owns h.row (fun k hk => (h.vB k hk).1), h.hmB, h.vB, h.geB, h.gem, h.lens⟩, hO.mono (fun _ _ e => .inl e), fun _ h => .inl h⟩
theorem DP.bad_not {p : DP} (h : p.bad = false) : p.gone = false ∧ (p.armed = true → p.l ≠ 0) := by
  unfold DP.bad at h
  simp only [Bool.or_eq_false_iff, Bool.and_eq_false_iff, beq_eq_false_iff_ne] at h
  refine ⟨h.1, fun ha => ?_⟩
  rcases h.2 with h2 | h2
  · rw [ha] at h2; cases h2
  · exact h2

/-- Write, whatever state and place. -/
theorem dwrite_any {base : Nat} {w : World} {B mb mn : Nat} {v : Value} {p : DP} (h : DM base w B mb mn v p) (hb : base ≤ w.heap.size) (hws : p.ws.length ≤ 100000) (hl : -1000000 ≤ p.l ∧ p.l ≤ 9223372036854775807) (e : Nat → Addr) (hE : DErr w e) (hB : 2 ≠ B)
    (i : Int) (a : Option Addr) (c : Nat) (bs : List UInt8) (ha : ArgB w a c bs) (hD : ∀ b o s, a = some ⟨b, o, s⟩ → ¬ DiskD B mb v b) :
    Calls Tryd.prog 8 #[.pointer (some ⟨B, 0, none⟩), .int .i64 i, .slice a bs.length c] w fun x w' => x = .returned (errV e (p.write i bs).2) ∧ ∃ v', DStep base w w' B mb v mn v' (p.write i bs).1 := by
  have hc : w.cell? ⟨B, 0, none⟩ = some (.int .i64 p.n) := by rw [h.cell]; rfl
  by_cases h1 : i < 0 ∨ p.n ≤ i
  · refine (dwrite_no B p.n i h1 w hc e hE a bs.length c).mono ?_
    rintro x w' ⟨rfl, rfl⟩
    have : p.write i bs = (p, 1) := by unfold DP.write; rw [if_pos h1]
    rw [this]
    exact ⟨rfl, v, DStep.same h⟩
  · by_cases h2 : bs.length = 64
    · cases hbad : p.bad
      · have hw : p.write i bs = ({ p with l := p.l - 1, ws := p.ws ++ [(i, bs)] }, 0) := by unfold DP.write; rw [if_neg h1, if_neg (by omega), hbad]; rfl
        obtain ⟨hgone, har⟩ := DP.bad_not hbad
        obtain ⟨bb, off, rfl, _⟩ := ha.row 0 (by omega)
        have hdb := hD bb off none rfl
        have hat := h.at_
        rw [hgone] at hat
        rw [h2]
        refine (dwrite_yes base B mb p.n i (by omega) (by omega) _ v p.ws p.armed p.l har hl w hat hb h.row (fun k hk => (h.vB k hk).1) (by omega) bb off c bs h2 ha (fun e => hdb (.inl e)) (fun k hk e => hdb (.inr (.inr (e ▸ hk))))).mono ?_
        rintro x w' ⟨rfl, v', k1, k2, k3, k4⟩
        rw [hw]
        refine ⟨rfl, v', ⟨by rw [← hgone] at k1; exact k1, h.map.only k3 (fun k => ?_), by rw [List.length_append]; exact k2, h.hmB, fun k hk => ?_, h.geB, h.gem, fun q hq => ?_⟩, k3.mono (fun k _ hk => hk.imp id .inr), fun k hk => ?_⟩
        · rcases k with k | k
          · exact h.hmB k
          · exact (h.vB _ k).2 rfl
        · have h1 := block_lt h.at_
          have h2 := h.map.lt
          rcases k4 k hk with k5 | k5
          · exact h.vB k k5
          · exact ⟨by omega, by omega⟩
        · rcases List.mem_append.1 hq with hq | hq
          · exact h.lens q hq
          · simp at hq; subst hq; exact ⟨h2, by omega, by show i < p.n; omega⟩
        · rcases hk with hk | hk | hk
          · exact .inl (.inl hk)
          · exact .inl (.inr (.inl hk))
          · exact (k4 k hk).imp (fun h => .inr (.inr h)) id
      · have hw : p.write i bs = ({ p with gone := true }, 3) := by unfold DP.write; rw [if_neg h1, if_neg (by omega), hbad]; rfl
        rw [h2]
        refine (dwrite_bad B p.n i mb v _ p.armed p.l p.gone hbad (by omega) (by omega) w e hE hB h.at_ a c).mono ?_
        rintro x w' ⟨rfl, hU⟩
        rw [hw]
        exact ⟨rfl, v, h.gone hU⟩
    · have hw : p.write i bs = (p, 2) := by unfold DP.write; rw [if_neg h1, if_pos h2]
      refine (dwrite_size B p.n i (by omega) (by omega) w hc e hE a bs.length c h2).mono ?_
      rintro x w' ⟨rfl, rfl⟩
      rw [hw]
      exact ⟨rfl, v, DStep.same h⟩

/-- Sync, whatever state. -/
theorem dsync_any {base : Nat} {w : World} {B mb mn : Nat} {v : Value} {p : DP} (h : DM base w B mb mn v p) (hn : p.n ≤ 2048) (hws : p.ws.length ≤ 100000) (hmn : mn ≤ 100000) (hl : -1000000 ≤ p.l ∧ p.l ≤ 9223372036854775807) (e : Nat → Addr) (hE : DErr w e) (hB : 2 ≠ B) :
    Calls Tryd.prog 9 #[.pointer (some ⟨B, 0, none⟩)] w fun x w' => x = .returned (errV e p.sync.2) ∧ ∃ v' mn', mn' ≤ mn + p.ws.length ∧ DStep base w w' B mb v mn' v' p.sync.1 := by
  cases hbad : p.bad
  · have hw : p.sync = ({ p with l := p.l - 1, f := doneK (fun _ => some 64) p.ws p.f, ws := [] }, 0) := by unfold DP.sync; rw [hbad]; rfl
    obtain ⟨hgone, har⟩ := DP.bad_not hbad
    have h' := h
    unfold DM at h'
    rw [hgone] at h'
    refine (dsync_yes base B mb mn p.f p.n hn _ v p.ws p.armed p.l har hl w h' hws hmn).mono ?_
    rintro x w' ⟨rfl, k1, k2⟩
    rw [hw]
    refine ⟨rfl, _, _, Nat.le_refl _, by unfold DM; rw [hgone]; exact k1, k2.mono (fun k _ hk => hk.imp id .inl), fun k hk => ?_⟩
    rcases hk with hk | hk | hk
    · exact .inl (.inl hk)
    · exact .inl (.inr (.inl hk))
    · cases hk
  · have hw : p.sync = ({ p with gone := true }, 3) := by unfold DP.sync; rw [hbad]; rfl
    refine (dsync_bad B p.n mb v _ p.armed p.l p.gone hbad w e hE hB h.at_).mono ?_
    rintro x w' ⟨rfl, hU⟩
    rw [hw]
    exact ⟨rfl, v, mn, by omega, h.gone hU⟩
/-- Crash, whatever state. -/
theorem dcrash_dm {base : Nat} {w : World} {B mb mn : Nat} {v : Value} {p : DP} (h : DM base w B mb mn v p) (hn : p.n ≤ 2048) (hws : p.ws.length ≤ 100000) (hmn : mn ≤ 100000) (kept torn : Int) (s : Nat) (S : Int) (hS : S = s) (hk : -9223372036854775808 ≤ kept ∧ kept ≤ 9223372036854775807) (ht : -9223372036854775808 ≤ torn ∧ torn ≤ 9223372036854775807) (hs : s < 18446744073709551616) :
    Calls Tryd.prog 11 #[.pointer (some ⟨B, 0, none⟩), .agg #[.int .i64 kept, .int .i64 torn, .int .u64 S]] w fun x w' => x = .returned (.tuple #[]) ∧ ∃ mn', mn' ≤ mn + p.ws.length ∧ DStep base w w' B mb v mn' (.slice none 0 0) (p.crash kept torn s) := by
  subst hS
  refine (dcrash_any base B mb mn p.f p.n hn _ v p.ws p.armed p.l p.gone w h hws hmn kept torn s hk ht hs).mono ?_
  rintro x w' ⟨rfl, k1, k2⟩
  refine ⟨rfl, _, Nat.le_refl _, k1, k2.mono (fun k _ hk => hk.imp id .inl), fun k hk => ?_⟩
  rcases hk with hk | hk | hk
  · exact .inl (.inl hk)
  · exact .inl (.inr (.inl hk))
  · cases hk
theorem dm_new (n : Int) (w : World) (base : Nat) (hb : base ≤ w.heap.size) : DM base ((w.alloc (.map #[] 0)).alloc (.cells (dcells n w.heap.size (.slice none 0 0) false 0 false) 59)) (w.heap.size + 1) w.heap.size 0 (.slice none 0 0) (DP.new n) := by
  have hG : Below (w.alloc (.map #[] 0)).heap.size (w.alloc (.map #[] 0)) ((w.alloc (.map #[] 0)).alloc (.cells (dcells n w.heap.size (.slice none 0 0) false 0 false) 59)) := (Below.refl _ _).alloc (Nat.le_refl _) _
  have hh := heap_alloc_new (w.alloc (.map #[] 0)) (.cells (dcells n w.heap.size (.slice none 0 0) false 0 false) 59 (0, 0))
  rw [World.size_alloc] at hh
  exact ⟨hh, (SureMap.made w).only (Only.ofBelow (D := fun _ => False) hG) (fun h => h), ⟨rfl, .inl ⟨rfl, rfl⟩⟩, by omega, fun k hk => (by cases hk), by omega, hb, fun p hp => (by cases hp)⟩
end Go.Proofs.YtdgilgnaoifpcaaDoor
