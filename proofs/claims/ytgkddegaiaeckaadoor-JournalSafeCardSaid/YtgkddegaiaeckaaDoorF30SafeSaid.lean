/- JPut, JRecs, JBytes, JShows, Alive19. -/
import Derived.Test.YtgkddegaiaeckaaDoorF29SafeSaid
import Derived.Test.YtgkddegaiaeckaaDoorF28SafeSaid
import Derived.Lib.SlBytesConst
/- The walk over journal.Put. -/
namespace Go.Proofs.YtgkddegaiaeckaaDoor
open Go.RowKit

theorem layF_keeps : ∀ (f : Nat) (p : DP) (k : Nat) (b : List UInt8), p.gone = false → ((layF f p k b).2 = true → (layF f p k b).1.gone = false) ∧ (layF f p k b).1.n = p.n ∧ (layF f p k b).1.ws.length ≤ p.ws.length + f ∧ p.l - f ≤ (layF f p k b).1.l ∧ (layF f p k b).1.l ≤ p.l ∧ (layF f p k b).1.armed = p.armed ∧ (layF f p k b).1.f = p.f := by
  intro f
  induction f with
  | zero => intro p k b hg; exact ⟨fun _ => hg, rfl, Nat.le_refl _, by show p.l - 0 ≤ p.l; omega, Int.le_refl _, rfl, rfl⟩
  | succ f ih =>
    intro p k b hg
    rw [layF]
    split
    · exact ⟨fun _ => hg, rfl, by simp only; omega, by simp only; omega, by simp only; omega, rfl, rfl⟩
    · generalize layS _ b k = s
      generalize ((k / 64 : Nat) : Int) = i
      have hw : (p.write i s).2 = 0 ∧ p.write i s = ({ p with l := p.l - 1, ws := p.ws ++ [(i, s)] }, 0) ∨ (p.write i s).2 ≠ 0 ∧ ((p.write i s).1 = p ∨ (p.write i s).1 = { p with gone := true }) := by
        unfold DP.write
        split
        · exact .inr ⟨by simp, .inl rfl⟩
        · split
          · exact .inr ⟨by simp, .inl rfl⟩
          · split
            · exact .inr ⟨by simp, .inr rfl⟩
            · exact .inl ⟨rfl, rfl⟩
      rcases hw with ⟨h0, hw⟩ | ⟨h0, hw⟩
      · rw [if_pos h0]
        obtain ⟨a1, a2, a3, a4, a5, a6, a7⟩ := ih (p.write i s).1 (k + layN b k) (b.drop (layN b k)) (by rw [hw]; exact hg)
        generalize layF f (p.write i s).1 (k + layN b k) (b.drop (layN b k)) = z at *
        rw [hw] at a2 a3 a4 a5 a6 a7
        simp only [List.length_append, List.length_singleton] at a2 a3 a4 a5 a6 a7
        exact ⟨a1, a2, by omega, by omega, by omega, a6, a7⟩
      · rw [if_neg h0]
        rcases hw with hw | hw <;> rw [hw]
        · exact ⟨fun h => absurd h (by simp), rfl, by omega, by omega, by omega, rfl, rfl⟩
        · exact ⟨fun h => absurd h (by simp), rfl, by simp only; omega, by simp only; omega, by simp only; omega, rfl, rfl⟩
/-- What 'Put' leaves, where it may. -/
def PutPost (base : Nat) (w : World) (J B mb mn : Nat) (v rv : Value) (F : Nat → Prop) (q : DP × Bool) (recs : List (List UInt8)) (r : List UInt8) (sure : Nat) (x : Ending) (w' : World) : Prop :=
  (if q.2 = true ∧ q.1.sync.2 = 0 then x = .returned .nilIface else ∃ a, x = .returned (.iface 57 (.pointer (some a)))) ∧ ∃ mn' v' rv' F', mn' ≤ mn + q.1.ws.length ∧ JStep base w w' J B mb v rv F mn' v' rv' F' (if q.2 = true then q.1.sync.1 else q.1) (if q.2 = true then recs ++ [r] else recs) (if q.2 = true ∧ q.1.sync.2 = 0 then recs.length + 1 else sure) (!(q.2 && q.1.sync.2 == 0))
set_option maxRecDepth 100000 in
set_option maxHeartbeats 1000000 in
theorem put_good {base : Nat} {w : World} {J B mb mn : Nat} {v rv : Value} {F : Nat → Prop} {p : DP} {recs : List (List UInt8)} {sure : Nat} (h : JD base w J B mb mn v rv F p recs sure false) (hb : base ≤ w.heap.size) (n : Nat) (hpn : p.n = (n : Int)) (hn : n ≤ 1000) (hE64 : endB recs ≤ 64 * n) (hws : p.ws.length ≤ 20000) (hmn : mn ≤ 50000) (hpl : -200000 ≤ p.l ∧ p.l ≤ 200000) (hg : p.gone = false) (e : Nat → Addr) (hBE : 2 ≠ B) (hEb : ∀ W, Below base w W → DErr W e)
    (hK : ShaK w) (hF : ShaF w) (r : List UInt8) (hgood : appGood n recs r) (a : Option Addr) (c : Nat) (hA : ArgB w a c r) (hAD : ∀ b o s, a = some ⟨b, o, s⟩ → ¬ JF J F rv b ∧ ¬ DiskD B mb v b ∧ b < w.heap.size) :
    Calls Tryd.prog 19 #[.pointer (some ⟨J, 0, none⟩), .slice a r.length c] w (PutPost base w J B mb mn v rv F (lay p (endB recs) (frameB (headB z32 recs) r)) recs r sure) := by
  have hap := append_good h hb n hpn hn hE64 hws hpl hg e hBE hEb hK hF r hgood a c hA hAD
  have hkp := layF_keeps (frameB (headB z32 recs) r).length p (endB recs) (frameB (headB z32 recs) r) hg
  rw [show layF (frameB (headB z32 recs) r).length p (endB recs) (frameB (headB z32 recs) r) = lay p (endB recs) (frameB (headB z32 recs) r) from rfl, frameB_len] at hkp
  generalize lay p (endB recs) (frameB (headB z32 recs) r) = q at *
  obtain ⟨q, ok⟩ := q
  obtain ⟨k1, k2, k3, k4, k5, k6, k7⟩ := hkp
  simp only at k1 k2 k3 k4 k5 k6 k7
  have hr4 := hgood.2.1
  have hrl : recs.length ≤ 64000 := by have := recs_le recs; omega
  replace hap := Lib.hid hap
  replace h := Lib.hid h
  replace hpn := Lib.hid hpn
  replace hEb := Lib.hid hEb
  replace k1 := Lib.hid k1
  replace k2 := Lib.hid k2
  go_enter Tryd.func19, Tryd.ntmps19
  go_wp2_with fail
  with_reducible refine hap.out.mono ?_
  rintro x w1 ⟨hx, v1, rv1, F1, hst⟩
  clear hap
  cases ok with
  | false =>
    obtain ⟨ad, rfl⟩ := hx
    replace hst := Lib.hid hst
    go_wp2_with fail
    go_ret
    exact ⟨⟨_, rfl⟩, _, _, _, _, Nat.le_add_right _ _, hst.out⟩
  | true =>
    cases (show x = _ from hx)
    have hO : Below base w w1 := hst.only.below hb (fun k hk => hk.elim (fun h1 => (h.out.jm.lt k h1).1) (fun h1 => (h.out.dm.lt k h1).1))
    have hst' : JStep base w w1 J B mb v rv F mn v1 rv1 F1 q (recs ++ [r]) sure false := hst
    have hsy := jsync_any hst'.ok (Nat.le_trans hb hst'.only.size) n (by rw [k2.out]; exact hpn.out) hn (by omega) (by omega) (by simp; omega) (by omega) (k1.out rfl) e hBE (hEb.out w1 hO)
    replace hst' := Lib.hid hst'
    replace hsy := Lib.hid hsy
    clear hst hO
    go_wp2_with fail
    with_reducible refine hsy.out.mono ?_
    rintro x w2 ⟨hx, v2, mn2, hm2, hst2⟩
    have hst3 := hst'.out.trans hst2
    clear hsy
    rw [List.length_append, List.length_singleton] at hst3
    by_cases hs : q.sync.2 = 0
    · rw [if_pos hs] at hx hst3
      subst hx
      replace hst3 := Lib.hid hst3
      replace hs := Lib.hid hs
      clear hst2
      go_wp2_with fail
      go_ret
      refine ⟨by rw [if_pos ⟨rfl, hs.out⟩]; rfl, mn2, v2, rv1, F1, hm2, ?_⟩
      have e3 := hst3.out
      rw [if_pos rfl, if_pos rfl, if_pos ⟨rfl, hs.out⟩, hs.out]
      rw [hs.out] at e3
      exact e3
    · rw [if_neg hs] at hx hst3
      obtain ⟨ad, rfl⟩ := hx
      have hne : (q.sync.2 != 0) = !(true && q.sync.2 == 0) := by simp [bne]
      rw [hne] at hst3
      replace hst3 := Lib.hid hst3
      replace hs := Lib.hid hs
      clear hst2 hne
      go_wp2_with fail
      go_ret
      refine ⟨by rw [if_neg (fun hh => hs.out hh.2)]; exact ⟨_, rfl⟩, mn2, v2, rv1, F1, hm2, ?_⟩
      rw [if_pos rfl, if_pos rfl, if_neg (fun hh => hs.out hh.2)]
      exact hst3.out
end Go.Proofs.YtgkddegaiaeckaaDoor
/- The walk over journal.Records. -/
namespace Go.Proofs.YtgkddegaiaeckaaDoor
open Go.RowKit

/-- What Records leaves: the records, in new memory. -/
def RecsPost (w : World) (recs : List (List UInt8)) (x : Ending) (w' : World) : Prop := ∃ v F, x = .returned v ∧ RowsOf RB 22 1 w.heap.size w' F v recs ∧ (∀ k, F k → w.heap.size ≤ k) ∧ Below w.heap.size w w'
set_option maxRecDepth 100000 in
set_option maxHeartbeats 1000000 in
theorem records_any {base : Nat} {w : World} {J B : Nat} {rv : Value} {F0 : Nat → Prop} {recs : List (List UInt8)} {sure : Nat} {dead : Bool} (h : JM base w J B rv F0 recs sure dead) (hn : recs.length ≤ 100000) :
    Calls Tryd.prog 16 #[.pointer (some ⟨J, 0, none⟩)] w (RecsPost w recs) := by
  have k1 := h.cell1
  obtain ⟨ra, rc, rfl, ha⟩ := h.rows.argBB
  have hok := h.okR
  obtain ⟨L, hL⟩ : ∃ L, L = recs.length := ⟨_, rfl⟩
  rw [← hL] at k1 hn
  replace hL := Lib.hid hL
  replace ha := Lib.hid ha
  replace hok := Lib.hid hok
  have hinfo := Lib.hid infoRow24
  clear h
  go_enter Tryd.func16, Tryd.ntmps16
  go_wp2_with fail
  refine wp_loopF [(false, 3), (true, 1), (false, 1), (true, 1), (false, 5), (true, 10), (false, 1)] _ [] (fun U wr => ∃ (k : Nat) (F : Nat → Prop), k ≤ L ∧ U 11 = .int .i64 k ∧ RowsOf RB 22 1 w.heap.size wr F (U 3) (recs.take k) ∧ (∀ x, F x → w.heap.size ≤ x) ∧ Below w.heap.size w wr)
    (fun U _ => L - (intOf (U 11)).toNat) ?_ ?_
  · simp only [List.getD_cons_zero, List.getD_cons_succ]
    exact ⟨0, fun _ => False, Nat.zero_le _, rfl, RowsOf.nil _ _, fun _ h => False.elim h, Below.refl _ _⟩
  · intro U wr hrel KK hback l' hl'
    obtain ⟨k, F, hk, h11, hr, hFb, hbel⟩ := hrel
    simp only [fillS, popSeg, cond_true, cond_false, Nat.reduceAdd, h11] at hl'
    generalize hv3 : U 3 = vo at *
    subst hl'
    replace h11 := Lib.hid h11
    have hsz := hbel.size
    by_cases hlt : k < L
    · have hlt2 : (k : Int) < L := by omega
      have hkl : k < recs.length := by rw [← hL.out]; exact hlt
      have hab := ha.out.below hbel
      obtain ⟨b, o, rfl, ai, ci, hc, hai⟩ := hab.row k hkl
      have hgd : recs.getD k [] = recs[k] := by simp [List.getD_eq_getElem?_getD, hkl]
      rw [hgd] at hc hai
      have hokr := hok.out recs[k] (List.getElem_mem hkl)
      have htk : recs.take (k + 1) = recs.take k ++ [recs[k]] := List.take_succ_eq_append_getElem hkl
      have hlen : (recs.take k).length ≤ 1000000 := by rw [List.length_take]; omega
      generalize recs[k] = r at *
      obtain ⟨hok1, hok4⟩ := hokr
      have hcl := Lib.hid (clone_any ai ci r wr hai (by omega))
      replace hr := Lib.hid hr
      replace hbel := Lib.hid hbel
      replace htk := Lib.hid htk
      replace hFb := Lib.hid hFb
      clear hab hgd hai
      go_wp2_with fail
      with_reducible refine hcl.out.mono ?_
      rintro e w4 ⟨v4, rfl, ho4, hb4⟩
      clear hcl
      obtain ⟨g, cg, rfl, hg⟩ := OwnB.form ho4 hok1
      have hs4 := hb4.size
      have hr4 := Lib.hid (hr.out.below liesRB hb4)
      have hbs4 : w.heap.size ≤ w4.heap.size := by omega
      have hyB := Lib.hid (show RB w4 (fun k => F k ∨ k = g) r (#[Value.slice (some ⟨g, 0, none⟩) r.length cg] : Array Value).toList from liesRB.more (rb_own ho4) (fun k h => by cases h; exact .inr rfl))
      have hFB := Lib.hid (show ∀ k, F k → F k ∨ k = g from fun k h => .inl h)
      have haB := Lib.hid (show ∀ k, vo.ownBlock = some k → ¬ (F k ∨ k = g) from fun k hk h => h.elim (hr.out.apart k hk) (fun h => by have := (hr.out.ownLt k hk).2; omega))
      have hlB := Lib.hid (show ∀ k, F k ∨ k = g → k < w4.heap.size from fun k h => h.elim (fun h => hr4.out.lt k h) (fun h => h ▸ (World.ownsRow.lt ho4 g rfl).2))
      have hb44 := Lib.hid (hbel.out.trans (hb4.mono hsz))
      have hFb2 := Lib.hid (show ∀ x, F x ∨ x = g → w.heap.size ≤ x from fun x h => h.elim (hFb.out x) (fun h => by omega))
      clear hb4 ho4
      go_wp2_with (at_builtin; refine wpList_appRows (P := Tryd.prog) (R := RB) (e := 22) (size := 1) (base := w.heap.size) (F := F) (F' := fun k => F k ∨ k = g) rfl liesRB (.tmp 15) (.tmp 18) 23 rfl Tryd.underlying23 24 hinfo.out (by decide) rfl hr4 r #[.slice (some ⟨g, 0, none⟩) r.length cg] hyB hFB haB hlB rfl hlen (by decide) hbs4 ?_; intro v5 w5 hr5 ho5 hm5)
      have hb5 : Below w.heap.size w w5 := hb44.out.trans (ho5.out.below hbs4 (fun k hk => (hr.out.ownLt k hk).1))
      refine hback.out _ _ (by kernel_rfl) ?_ ?_
      · simp only [List.getD_cons_zero, List.getD_cons_succ]
        exact ⟨k + 1, _, by omega, by go_num, by rw [htk.out]; exact hr5.out, hFb2.out, hb5⟩
      · have h11 := h11.out
        simp only [List.getD_cons_zero, List.getD_cons_succ, h11, intOf]
        omega
    · obtain rfl : k = L := by omega
      have hall : recs.take k = recs := List.take_of_length_le (by rw [← hL.out]; exact Nat.le_refl _)
      rw [hall] at hr
      replace hr := Lib.hid hr
      replace hFb := Lib.hid hFb
      replace hbel := Lib.hid hbel
      go_wp2_with fail
      go_ret
      exact ⟨_, F, rfl, hr.out, hFb.out, hbel.out⟩
end Go.Proofs.YtgkddegaiaeckaaDoor
/- Which bytes a disk shows; what 'lay' and 'Sync' make of them. Plain laws. -/
namespace Go.Proofs.YtgkddegaiaeckaaDoor
open Go.RowKit

theorem seenW_snoc (ws : List (Int × List UInt8)) (f : Int → List UInt8) (q : Int × List UInt8) (j : Int) : seenW (ws ++ [q]) f j = if j = q.1 then q.2 else seenW ws f j := by
  unfold seenW lastOf
  rw [List.reverse_append]
  simp only [List.reverse_singleton, List.cons_append, List.nil_append, List.find?_cons]
  by_cases h : j = q.1
  · rw [if_pos h]
    have : (q.1 == j) = true := by simp [h]
    rw [this]
  · rw [if_neg h]
    have : (q.1 == j) = false := by simp; exact fun e => h e.symm
    rw [this]
theorem seenW_nil (f : Int → List UInt8) (j : Int) : seenW [] f j = f j := rfl
/-- A Sync shows what was shown. -/
theorem seenW_sync (ws : List (Int × List UInt8)) (f : Int → List UInt8) (hl : ∀ q ∈ ws, q.2.length = 64) (hf : ∀ j, (f j).length = 64) (j : Int) : doneK (fun _ => some 64) ws f j = seenW ws f j := by
  have key : ∀ n, n ≤ ws.length → doneK (fun _ => some 64) (ws.take n) f j = seenW (ws.take n) f j ∧ ∀ i, (doneK (fun _ => some 64) (ws.take n) f i).length = 64 := by
    intro n
    induction n with
    | zero => intro _; exact ⟨rfl, hf⟩
    | succ n ih =>
      intro hn
      obtain ⟨h1, h2⟩ := ih (by omega)
      have hlen := hl ws[n] (List.getElem_mem (by omega))
      have ho : ∀ a : List UInt8, a.length = 64 → overB 64 ws[n].2 a = ws[n].2 := fun a ha => by
        unfold overB
        rw [List.take_of_length_le (by omega), List.drop_of_length_le (by omega), List.append_nil]
      have hd : doneK (fun _ => some 64) (ws.take (n + 1)) f = fun x => if x = ws[n].1 then overB 64 ws[n].2 (doneK (fun _ => some 64) (ws.take n) f ws[n].1) else doneK (fun _ => some 64) (ws.take n) f x := by
        rw [doneK_take (by omega) (fun _ => some 64) f]
      rw [hd]
      refine ⟨?_, fun i => ?_⟩
      · rw [List.take_succ_eq_append_getElem (by omega), seenW_snoc]
        simp only
        split
        · exact ho _ (h2 _)
        · exact h1
      · simp only
        split
        · rw [ho _ (h2 _)]; exact hlen
        · exact h2 i
  have := (key ws.length (Nat.le_refl _)).1
  rwa [List.take_length] at this
/-- One byte as it is shown. -/
def byteP (p : DP) (x : Nat) : UInt8 := (seenW p.ws p.f ((x / 64 : Nat) : Int)).getD (x % 64) 0
/-- Plain bounds that a disk in memory has. -/
structure DOk (p : DP) : Prop where
  f : ∀ j, (p.f j).length = 64
  ws : ∀ q ∈ p.ws, q.2.length = 64
theorem DOk.seen {p : DP} (h : DOk p) (j : Int) : (seenW p.ws p.f j).length = 64 := by
  unfold seenW
  cases hq : lastOf p.ws j with
  | none => exact h.f j
  | some q =>
    unfold lastOf at hq
    exact h.ws q (by simpa using List.mem_of_find?_eq_some hq)
theorem DOk.toLen {p : DP} (h : DOk p) (k : Nat) : (seenTo p k).length = 64 * k := by
  induction k with
  | zero => rfl
  | succ k ih => rw [seenTo_succ, List.length_append, ih, h.seen]; omega
theorem DOk.byteTo {p : DP} (h : DOk p) (n x : Nat) (hx : x < 64 * n) : (seenTo p n).getD x 0 = byteP p x := by
  induction n with
  | zero => omega
  | succ n ih =>
    rw [seenTo_succ]
    have hl := h.toLen n
    by_cases h1 : x < 64 * n
    · rw [List.getD_eq_getElem?_getD, List.getElem?_append_left (by omega), ← List.getD_eq_getElem?_getD]
      exact ih h1
    · rw [List.getD_eq_getElem?_getD, List.getElem?_append_right (by omega), ← List.getD_eq_getElem?_getD, hl]
      unfold byteP
      rw [show x / 64 = n by omega, show x - 64 * n = x % 64 by omega]
theorem layS_byte (s b : List UInt8) (k x : Nat) (hs : s.length = 64) (hx : x < 64) : (layS s b k).getD x 0 = if k % 64 ≤ x ∧ x < k % 64 + layN b k then b.getD (x - k % 64) 0 else s.getD x 0 := by
  have hN : layN b k ≤ b.length ∧ layN b k ≤ 64 - k % 64 := ⟨Nat.min_le_left _ _, Nat.min_le_right _ _⟩
  unfold layS
  simp only [List.getD_eq_getElem?_getD]
  have h1 : (s.take (k % 64)).length = k % 64 := by rw [List.length_take]; omega
  have h2 : (b.take (layN b k)).length = layN b k := by rw [List.length_take]; omega
  by_cases hlt : x < k % 64
  · rw [if_neg (by omega), List.append_assoc, List.getElem?_append_left (by omega), List.getElem?_take, if_pos hlt]
  · by_cases hlt2 : x < k % 64 + layN b k
    · rw [if_pos ⟨by omega, hlt2⟩, List.append_assoc, List.getElem?_append_right (by omega), List.getElem?_append_left (by omega), h1, List.getElem?_take, if_pos (by omega)]
    · rw [if_neg (by omega), List.getElem?_append_right (by rw [List.length_append]; omega), List.length_append, h1, h2, List.getElem?_drop, show k % 64 + layN b k + (x - (k % 64 + layN b k)) = x by omega]
/-- What 'lay' makes of the bytes, where it succeeds; and that it succeeds on a good disk. -/
theorem layF_bytes : ∀ (f : Nat) (p : DP) (k : Nat) (b : List UInt8), DOk p → b.length ≤ f → (layF f p k b).2 = true →
    DOk (layF f p k b).1 ∧ ∀ x, byteP (layF f p k b).1 x = if k ≤ x ∧ x < k + b.length then b.getD (x - k) 0 else byteP p x := by
  intro f
  induction f with
  | zero => intro p k b hp hb _; exact ⟨hp, fun x => by rw [if_neg (by omega)]; rfl⟩
  | succ f ih =>
    intro p k b hp hb
    rw [layF]
    by_cases hb0 : b.length = 0
    · rw [if_pos hb0]
      intro _
      exact ⟨hp, fun x => by rw [if_neg (by omega)]⟩
    · rw [if_neg hb0]
      obtain ⟨s, hs⟩ : ∃ s, s = layS (seenW p.ws p.f ((k / 64 : Nat) : Int)) b k := ⟨_, rfl⟩
      rw [← hs]
      have hsl : s.length = 64 := by rw [hs]; exact layS_len (hp.seen _)
      by_cases h0 : (p.write ((k / 64 : Nat) : Int) s).2 = 0
      · rw [if_pos h0]
        have hw : (p.write ((k / 64 : Nat) : Int) s).1 = { p with l := p.l - 1, ws := p.ws ++ [(((k / 64 : Nat) : Int), s)] } := by
          unfold DP.write at h0 ⊢
          split at h0
          · exact absurd h0 (by simp)
          · split at h0
            · exact absurd h0 (by simp)
            · split at h0
              · exact absurd h0 (by simp)
              · rw [if_neg (by assumption), if_neg (by assumption), if_neg (by assumption)]
        rw [hw]
        intro hok
        have hN1 : 1 ≤ layN b k := by
          have : k % 64 < 64 := Nat.mod_lt _ (by decide)
          exact Nat.le_min.2 ⟨by omega, by omega⟩
        have hNb : layN b k ≤ b.length := Nat.min_le_left _ _
        have hNf : layN b k ≤ 64 - k % 64 := Nat.min_le_right _ _
        have hp2 : DOk { p with l := p.l - 1, ws := p.ws ++ [(((k / 64 : Nat) : Int), s)] } := ⟨hp.f, fun q hq => by
          rcases List.mem_append.1 hq with hq | hq
          · exact hp.ws q hq
          · rw [List.mem_singleton.1 hq]; exact hsl⟩
        obtain ⟨i1, i2⟩ := ih _ (k + layN b k) (b.drop (layN b k)) hp2 (by rw [List.length_drop]; omega) hok
        refine ⟨i1, fun x => ?_⟩
        rw [i2 x, List.length_drop]
        have hby : byteP { p with l := p.l - 1, ws := p.ws ++ [(((k / 64 : Nat) : Int), s)] } x = if k ≤ x ∧ x < k + layN b k then b.getD (x - k) 0 else byteP p x := by
          unfold byteP
          simp only
          rw [seenW_snoc]
          simp only
          by_cases hxs : x / 64 = k / 64
          · rw [if_pos (by rw [hxs]), hs, layS_byte _ _ _ _ (hp.seen _) (Nat.mod_lt _ (by decide)), hxs]
            by_cases hin : k ≤ x ∧ x < k + layN b k
            · rw [if_pos hin, if_pos (by omega), show x % 64 - k % 64 = x - k by omega]
            · rw [if_neg hin, if_neg (by omega)]
          · rw [if_neg (by omega), if_neg (by omega)]
        rw [hby]
        by_cases ha : k + layN b k ≤ x ∧ x < k + layN b k + (b.length - layN b k)
        · rw [if_pos ha, if_pos (by omega), List.getD_eq_getElem?_getD, List.getElem?_drop, ← List.getD_eq_getElem?_getD, show layN b k + (x - (k + layN b k)) = x - k by omega]
        · rw [if_neg ha]
          by_cases hc : k ≤ x ∧ x < k + layN b k
          · rw [if_pos hc, if_pos (by omega)]
          · rw [if_neg hc, if_neg (by omega)]
      · rw [if_neg h0]
        intro hok
        exact absurd hok (by simp)
theorem layF_good : ∀ (f : Nat) (p : DP) (k : Nat) (b : List UInt8) (n : Nat), DOk p → p.armed = false → p.gone = false → p.n = (n : Int) → b.length ≤ f → k + b.length ≤ 64 * n → (layF f p k b).2 = true := by
  intro f
  induction f with
  | zero => intros; rfl
  | succ f ih =>
    intro p k b n hp ha hg hn hb hk
    rw [layF]
    by_cases hb0 : b.length = 0
    · rw [if_pos hb0]
    · rw [if_neg hb0]
      obtain ⟨s, hs⟩ : ∃ s, s = layS (seenW p.ws p.f ((k / 64 : Nat) : Int)) b k := ⟨_, rfl⟩
      rw [← hs]
      have hsl : s.length = 64 := by rw [hs]; exact layS_len (hp.seen _)
      rw [write_good (bad_false ha hg) (by omega) (by rw [hn]; omega) hsl, if_pos rfl]
      have hN1 : 1 ≤ layN b k := by
        have : k % 64 < 64 := Nat.mod_lt _ (by decide)
        exact Nat.le_min.2 ⟨by omega, by omega⟩
      have hNb : layN b k ≤ b.length := Nat.min_le_left _ _
      refine ih _ _ _ n ⟨hp.f, fun q hq => ?_⟩ ha hg hn (by rw [List.length_drop]; omega) (by rw [List.length_drop]; omega)
      rcases List.mem_append.1 hq with hq | hq
      · exact hp.ws q hq
      · rw [List.mem_singleton.1 hq]; exact hsl
theorem sync_bytes {p : DP} (hp : DOk p) (h0 : p.sync.2 = 0) : DOk p.sync.1 ∧ ∀ x, byteP p.sync.1 x = byteP p x := by
  have hs : p.sync.1 = { p with l := p.l - 1, f := doneK (fun _ => some 64) p.ws p.f, ws := [] } := by
    unfold DP.sync at h0 ⊢
    split at h0
    · exact absurd h0 (by simp)
    · rw [if_neg (by assumption)]
  have hd : ∀ j, doneK (fun _ => some 64) p.ws p.f j = seenW p.ws p.f j := seenW_sync p.ws p.f hp.ws hp.f
  rw [hs]
  refine ⟨⟨fun j => ?_, fun q hq => ?_⟩, fun x => ?_⟩
  · simp only
    rw [hd]
    exact hp.seen j
  · exact absurd hq (by simp)
  · unfold byteP
    simp only
    rw [seenW_nil, hd]
theorem seenAll_eq {p : DP} (hp : DOk p) (n : Nat) (hn : p.n = (n : Int)) (l : List UInt8) (hl : l.length = 64 * n) (hb : ∀ x, x < 64 * n → byteP p x = l.getD x 0) : seenAll p = l := by
  unfold seenAll
  rw [hn, show ((n : Int)).toNat = n from rfl]
  have h1 := hp.toLen n
  apply List.ext_getElem (by omega)
  intro i h2 h3
  have h4 := hp.byteTo n i (by omega)
  rw [hb i (by omega)] at h4
  simpa [List.getD_eq_getElem?_getD, h2, h3] using h4
end Go.Proofs.YtgkddegaiaeckaaDoor
/- A disk that shows records, and noughts behind them. Plain laws. -/
namespace Go.Proofs.YtgkddegaiaeckaaDoor
open Go.RowKit

/-- The disk's bytes are the records' frames, and noughts. -/
def Shows (p : DP) (n : Nat) (recs : List (List UInt8)) : Prop := ∀ x, x < 64 * n → byteP p x = (framesB z32 recs).getD x 0
theorem shows_all {p : DP} {n : Nat} {recs : List (List UInt8)} (hp : DOk p) (hn : p.n = (n : Int)) (h : Shows p n recs) (hE : endB recs ≤ 64 * n) : seenAll p = framesB z32 recs ++ List.replicate (64 * n - endB recs) 0 := by
  have hl := framesB_len recs z32
  refine seenAll_eq hp n hn _ (by simp [hl]; omega) (fun x hx => ?_)
  rw [h x hx]
  simp only [List.getD_eq_getElem?_getD]
  by_cases h1 : x < endB recs
  · rw [List.getElem?_append_left (by omega)]
  · rw [List.getElem?_append_right (by omega), List.getElem?_eq_none (by omega), List.getElem?_replicate]
    split <;> rfl
theorem shows_recs {p : DP} {n : Nat} {recs : List (List UInt8)} (hp : DOk p) (hn : p.n = (n : Int)) (h : Shows p n recs) (hE : endB recs ≤ 64 * n) (hr : ∀ r ∈ recs, okR r) : recsOf p = recs := by
  unfold recsOf
  rw [shows_all hp hn h hE]
  refine scanB_frames recs z32 _ hr (firstB_zeros fun i _ => ?_)
  simp only [List.getD_eq_getElem?_getD, List.getElem?_replicate]
  split <;> rfl
theorem shows_open {p : DP} {n : Nat} {recs : List (List UInt8)} (hp : DOk p) (hn : p.n = (n : Int)) (h : Shows p n recs) (hE : endB recs ≤ 64 * n) (hr : ∀ r ∈ recs, okR r) : openP n p = p := by
  unfold openP
  rw [shows_recs hp hn h hE hr, shows_all hp hn h hE]
  refine wipeP_clean fun k hk => ?_
  have hl := framesB_len recs z32
  rw [List.getD_eq_getElem?_getD, List.getElem?_append_right (by omega), List.getElem?_replicate]
  split <;> rfl
theorem shows_lay {p : DP} {n : Nat} {recs : List (List UInt8)} {r : List UInt8} (hp : DOk p) (h : Shows p n recs) (hok : (lay p (endB recs) (frameB (headB z32 recs) r)).2 = true) : DOk (lay p (endB recs) (frameB (headB z32 recs) r)).1 ∧ Shows (lay p (endB recs) (frameB (headB z32 recs) r)).1 n (recs ++ [r]) := by
  obtain ⟨h1, h2⟩ := layF_bytes _ p (endB recs) (frameB (headB z32 recs) r) hp (Nat.le_refl _) hok
  refine ⟨h1, fun x hx => ?_⟩
  rw [show lay p (endB recs) (frameB (headB z32 recs) r) = layF (frameB (headB z32 recs) r).length p (endB recs) (frameB (headB z32 recs) r) from rfl, h2 x, framesB_snoc]
  have hl := framesB_len recs z32
  simp only [List.getD_eq_getElem?_getD]
  by_cases h3 : x < endB recs
  · rw [if_neg (by omega), List.getElem?_append_left (by omega), h x hx, List.getD_eq_getElem?_getD]
  · rw [List.getElem?_append_right (by omega), hl]
    by_cases h4 : x < endB recs + (frameB (headB z32 recs) r).length
    · rw [if_pos ⟨by omega, h4⟩]
    · rw [if_neg (by omega), h x hx, List.getD_eq_getElem?_getD, List.getElem?_eq_none (by omega), List.getElem?_eq_none (by omega)]
theorem shows_sync {p : DP} {n : Nat} {recs : List (List UInt8)} (hp : DOk p) (h : Shows p n recs) (h0 : p.sync.2 = 0) : DOk p.sync.1 ∧ Shows p.sync.1 n recs := by
  obtain ⟨h1, h2⟩ := sync_bytes hp h0
  exact ⟨h1, fun x hx => by rw [h2 x]; exact h x hx⟩
theorem dok_new (n : Int) : DOk (DP.new n) := ⟨fun _ => by simp [DP.new, zSec], fun q hq => absurd hq (by simp [DP.new])⟩
theorem shows_new (n : Nat) : Shows (DP.new (n : Int)) n [] := fun x _ => by
  show ((fun _ => zSec : Int → List UInt8) ((x / 64 : Nat) : Int)).getD (x % 64) 0 = ([] : List UInt8).getD x 0
  simp only [List.getD_eq_getElem?_getD, List.getElem?_nil, Option.getD_none]
  have : ∀ y : Nat, zSec[y]?.getD 0 = 0 := fun y => by
    cases hq : zSec[y]? with
    | none => rfl
    | some u =>
      have hm := List.mem_of_getElem? hq
      have hz : ∀ u ∈ zSec, u = 0 := by decide
      exact hz u hm
  exact this _
theorem sync_good {p : DP} (ha : p.armed = false) (hg : p.gone = false) : p.sync.2 = 0 ∧ p.sync.1.armed = false ∧ p.sync.1.gone = false ∧ p.sync.1.n = p.n ∧ p.sync.1.ws = [] ∧ p.sync.1.l = p.l - 1 := by
  unfold DP.sync
  rw [bad_false ha hg]
  exact ⟨rfl, ha, hg, rfl, rfl, rfl⟩
/-- A crash with no writes waiting. -/
theorem crash_none {p : DP} (hw : p.ws = []) (a b : Int) (s : Nat) : (p.crash a b s).f = p.f := by
  unfold DP.crash
  rw [hw]
  rfl
theorem dok_crash {p : DP} (hp : DOk p) (hw : p.ws = []) (a b : Int) (s : Nat) : DOk (p.crash a b s) := ⟨by rw [crash_none hw]; exact hp.f, fun q hq => absurd hq (by simp [DP.crash])⟩
theorem shows_crash {p : DP} {n : Nat} {recs : List (List UInt8)} (h : Shows p n recs) (hw : p.ws = []) (a b : Int) (s : Nat) : Shows (p.crash a b s) n recs := fun x hx => by
  have := h x hx
  unfold byteP at this ⊢
  rw [crash_none hw]
  rw [hw] at this
  exact this

/-- A disk in good order that shows records. -/
structure Good (p : DP) (n : Nat) (recs : List (List UInt8)) : Prop where
  ok : DOk p
  sh : Shows p n recs
  n : p.n = (n : Int)
  a : p.armed = false
  g : p.gone = false
  ws : p.ws = []
theorem good_new (n : Nat) : Good (DP.new (n : Int)) n [] := ⟨dok_new _, shows_new n, rfl, rfl, rfl, rfl⟩
theorem good_put {p : DP} {n : Nat} {recs : List (List UInt8)} {r : List UInt8} (h : Good p n recs) (hfit : endB recs + (34 + r.length) ≤ 64 * n) :
    (lay p (endB recs) (frameB (headB z32 recs) r)).2 = true ∧ (lay p (endB recs) (frameB (headB z32 recs) r)).1.sync.2 = 0 ∧ Good (lay p (endB recs) (frameB (headB z32 recs) r)).1.sync.1 n (recs ++ [r]) ∧
      (lay p (endB recs) (frameB (headB z32 recs) r)).1.ws.length ≤ 34 + r.length ∧ p.l - (34 + r.length : Nat) - 1 ≤ (lay p (endB recs) (frameB (headB z32 recs) r)).1.sync.1.l ∧ (lay p (endB recs) (frameB (headB z32 recs) r)).1.sync.1.l ≤ p.l := by
  have hok : (lay p (endB recs) (frameB (headB z32 recs) r)).2 = true := layF_good _ p (endB recs) (frameB (headB z32 recs) r) n h.ok h.a h.g h.n (Nat.le_refl _) (by rw [frameB_len]; exact hfit)
  obtain ⟨h1, h2⟩ := shows_lay h.ok h.sh hok
  have hkp := layF_keeps (frameB (headB z32 recs) r).length p (endB recs) (frameB (headB z32 recs) r) h.g
  rw [show layF (frameB (headB z32 recs) r).length p (endB recs) (frameB (headB z32 recs) r) = lay p (endB recs) (frameB (headB z32 recs) r) from rfl, frameB_len] at hkp
  obtain ⟨k1, k2, k3, k4, k5, k6, k7⟩ := hkp
  generalize lay p (endB recs) (frameB (headB z32 recs) r) = q at *
  rw [h.a] at k6
  rw [h.ws] at k3
  obtain ⟨s1, s2, s3, s4, s5, s6⟩ := sync_good k6 (k1 hok)
  obtain ⟨h3, h4⟩ := shows_sync h1 h2 s1
  exact ⟨hok, s1, ⟨h3, h4, by rw [s4, k2, h.n], s2, s3, s5⟩, by simpa using k3, by rw [s6]; omega, by rw [s6]; omega⟩
theorem good_crash {p : DP} {n : Nat} {recs : List (List UInt8)} (h : Good p n recs) (a b : Int) (s : Nat) : Good (p.crash a b s) n recs := ⟨dok_crash h.ok h.ws a b s, shows_crash h.sh h.ws a b s, h.n, rfl, rfl, rfl⟩
end Go.Proofs.YtgkddegaiaeckaaDoor
/- The walk over baileelaw19.alive. -/
namespace Go.Proofs.YtgkddegaiaeckaaDoor
open Go.RowKit

theorem DErr.below {w w' : World} {e : Nat → Addr} (h : DErr w e) (hb : Below w.heap.size w w') : DErr w' e :=
  ⟨(hb.cell (p := ⟨0, 0, none⟩) (World.block_lt_of_cell? w _ h.range)).trans h.range, (hb.cell (p := ⟨4, 0, none⟩) (World.block_lt_of_cell? w _ h.size)).trans h.size, (hb.cell (p := ⟨2, 0, none⟩) (World.block_lt_of_cell? w _ h.power)).trans h.power⟩
theorem open_good {base : Nat} {w : World} {B mb mn : Nat} {v : Value} {p : DP} {n : Nat} {recs : List (List UInt8)} (h : DM base w B mb mn v p) (hb : base ≤ w.heap.size) (hG : Good p n recs) (h1 : 1 ≤ n) (hn : n ≤ 1000) (hmn : mn ≤ 60000) (hpl : -100000 ≤ p.l ∧ p.l ≤ 100000) (e : Nat → Addr) (hBE : 2 ≠ B) (hEb : ∀ W, Below base w W → DErr W e)
    (hK : ShaK w) (hF : ShaF w) (hE : endB recs ≤ 64 * n) (hr : ∀ r ∈ recs, okR r) : Calls Tryd.prog 14 #[.pointer (some ⟨B, 0, none⟩)] w (OpenPost base w B mb mn v p recs) := by
  have := open_any h hb n hG.n h1 hn (by rw [hG.ws]; decide) hmn hpl hG.a hG.g e hBE hEb hK hF
  rwa [shows_open hG.ok hG.n hG.sh hE hr, shows_recs hG.ok hG.n hG.sh hE hr] at this
/-- Put, on a good disk. -/
def PutG (base : Nat) (w : World) (J B mb mn : Nat) (v rv : Value) (F : Nat → Prop) (p : DP) (n : Nat) (recs : List (List UInt8)) (r : List UInt8) (x : Ending) (w' : World) : Prop :=
  x = .returned .nilIface ∧ ∃ mn' v' rv' F' p', mn' ≤ mn + 500 ∧ JStep base w w' J B mb v rv F mn' v' rv' F' p' (recs ++ [r]) (recs.length + 1) false ∧ Good p' n (recs ++ [r]) ∧ p.l - 500 ≤ p'.l ∧ p'.l ≤ p.l
theorem put_g {base : Nat} {w : World} {J B mb mn : Nat} {v rv : Value} {F : Nat → Prop} {p : DP} {recs : List (List UInt8)} {sure : Nat} (h : JD base w J B mb mn v rv F p recs sure false) (hb : base ≤ w.heap.size) (n : Nat) (hG : Good p n recs) (hn : n ≤ 1000) (hmn : mn ≤ 50000) (hpl : -200000 ≤ p.l ∧ p.l ≤ 200000) (e : Nat → Addr) (hBE : 2 ≠ B) (hEb : ∀ W, Below base w W → DErr W e)
    (hK : ShaK w) (hF : ShaF w) (r : List UInt8) (hr1 : 1 ≤ r.length) (hr4 : r.length ≤ 400) (hfit : endB recs + (34 + r.length) ≤ 64 * n) (a : Option Addr) (c : Nat) (hA : ArgB w a c r) (hAD : ∀ b o s, a = some ⟨b, o, s⟩ → ¬ JF J F rv b ∧ ¬ DiskD B mb v b ∧ b < w.heap.size) :
    Calls Tryd.prog 19 #[.pointer (some ⟨J, 0, none⟩), .slice a r.length c] w (PutG base w J B mb mn v rv F p n recs r) := by
  have hp := put_good h hb n hG.n hn (by omega) (by rw [hG.ws]; exact Nat.zero_le _) hmn hpl hG.g e hBE hEb hK hF r ⟨hr1, hr4, by unfold roomP; omega⟩ a c hA hAD
  obtain ⟨g1, g2, g3, g4, g5, g6⟩ := good_put hG hfit
  refine hp.mono ?_
  rintro x w' ⟨hx, mn', v', rv', F', hm, hst⟩
  rw [if_pos ⟨g1, g2⟩] at hx
  rw [if_pos g1, if_pos g1, if_pos ⟨g1, g2⟩, g1, g2] at hst
  exact ⟨hx, mn', v', rv', F', _, by omega, hst, g3, by omega, g6⟩
theorem JStep.below {base : Nat} {w w' : World} {J B mb mn mn' : Nat} {v v' rv rv' : Value} {F F' : Nat → Prop} {p p' : DP} {recs recs' : List (List UInt8)} {s s' : Nat} {d d' : Bool} (h : JStep base w w' J B mb v rv F mn' v' rv' F' p' recs' s' d') (h0 : JD base w J B mb mn v rv F p recs s d) (hb : base ≤ w.heap.size) : Below base w w' :=
  h.only.below hb (fun k hk => hk.elim (fun h1 => (h0.jm.lt k h1).1) (fun h1 => (h0.dm.lt k h1).1))

theorem argB_mark1 (w : World) (x : UInt8) : ArgB (w.alloc (.cells #[.int .u8 (x.toNat : Int)] 5 (1, 2))) (some ⟨w.heap.size, 0, none⟩) 1 [x] := by
  refine ⟨Nat.le_refl _, by decide, (fun e => by cases e), fun i hi => ⟨w.heap.size, 0, rfl, ?_⟩⟩
  obtain rfl : i = 0 := by simpa using hi
  rw [cell_of_block (heap_alloc_new w _)]
  rfl
set_option maxRecDepth 100000 in
set_option maxHeartbeats 2000000 in
theorem alive19_any (w : World) (e : Nat → Addr) (hE : DErr w e) (hK : ShaK w) (hF : ShaF w) : Calls Tryd.prog 6 #[] w fun x w' => x = .returned (.bool true) ∧ Below w.heap.size w w' := by
  have hn := Lib.hid (dnew_yes 8 (by decide) (by decide) w)
  have hd := dm_new 8 w w.heap.size (Nat.le_refl _)
  have hEb : ∀ W, Below w.heap.size w W → DErr W e := fun W hW => hE.below hW
  have hB2 : 2 < w.heap.size := World.block_lt_of_cell? w _ hE.power
  have hb1 : Below w.heap.size w ((w.alloc (.map #[] 0)).alloc (.cells (dcells 8 w.heap.size (.slice none 0 0) false 0 false) 72)) := ((Below.refl _ _).alloc (Nat.le_refl _) _).alloc (by simp) _
  generalize hW1 : (w.alloc (.map #[] 0)).alloc (.cells (dcells 8 w.heap.size (.slice none 0 0) false 0 false) 72) = w1 at *
  have hBE : 2 ≠ w.heap.size + 1 := by omega
  have hop := Lib.hid (open_good hd hb1.size (good_new 8) (by decide) (by decide) (by decide) ⟨by decide, by decide⟩ e hBE (fun W hW => hEb W (hb1.trans hW)) (hK.below hb1) (hF.below hb1) (by decide) (fun r hr => absurd hr (by simp)))
  obtain ⟨B, hB⟩ : ∃ B, B = w.heap.size + 1 := ⟨_, rfl⟩
  obtain ⟨base, hbase⟩ : ∃ base, base = w.heap.size := ⟨_, rfl⟩
  replace hB := Lib.hid hB
  replace hd := Lib.hid hd
  replace hEb := Lib.hid hEb
  replace hb1 := Lib.hid hb1
  replace hW1 := Lib.hid hW1
  replace hK := Lib.hid hK
  replace hF := Lib.hid hF
  replace hE := Lib.hid hE
  have kid := fun (w : World) (C : Array Value) (n c : Nat) => Lib.run_convert_bytes_const (P := Tryd.prog) w 22 5 C n c Tryd.underlying22 Tryd.underlying5
  go_enter Tryd.func6, Tryd.ntmps6
  go_wp2_with fail
  with_reducible refine hn.out.mono ?_
  rintro x w' ⟨rfl, hq⟩
  obtain rfl : w1 = w' := hq.symm
  clear hq hn hW1
  go_wp2_with fail
  with_reducible refine hop.out.mono ?_
  clear hop
  rintro x w2 ⟨J, rv, F, v2, mn2, rfl, hm2, hj2, hs2, hnew2⟩
  have hb2 : Below w.heap.size w w2 := hb1.out.trans (hs2.below hd.out hb1.out.size)
  have hok97 : okR [97] := ⟨by decide, by decide⟩
  have hok98 : okR [98] := ⟨by decide, by decide⟩
  have ha3 : ArgB (w2.alloc (.cells #[.int .u8 97] 5 (1, 2))) (some ⟨w2.heap.size, 0, none⟩) 1 [97] := argB_mark1 w2 97
  have hG3 : Below w2.heap.size w2 (w2.alloc (.cells #[.int .u8 97] 5 (1, 2))) := (Below.refl _ _).alloc (Nat.le_refl _) _
  have hs3 : (w2.alloc (.cells #[.int .u8 97] 5 (1, 2))).heap.size = w2.heap.size + 1 := World.size_alloc ..
  have hp3 := put_g (hj2.below hG3) (Nat.le_trans hb2.size hG3.size) 8 (good_new 8) (by decide) (by omega) ⟨by decide, by decide⟩ e hBE (fun W hW => hEb.out W ((hb2.trans (hG3.mono hb2.size)).trans hW)) ((hK.out.below hb2).below hG3) ((hF.out.below hb2).below hG3) [97] (by decide) (by decide) (by decide) (some ⟨w2.heap.size, 0, none⟩) 1 ha3
    (fun b o s e => by
      cases e
      exact ⟨fun hh => by have := (hj2.jm.lt _ hh).2; omega, fun hh => by have := (hj2.dm.lt _ hh).2; omega, by omega⟩)
  have hbl3 : Below w.heap.size w2 (w2.alloc (.cells #[.int .u8 97] 5 (1, 2))) := hG3.mono hb2.size
  have hj3 := hj2.below hG3
  obtain ⟨w3, hw3⟩ : ∃ w3, w3 = w2.alloc (.cells #[.int .u8 97] 5 (1, 2)) := ⟨_, rfl⟩
  rw [← hw3] at hp3 hj3 hbl3
  replace hp3 : Hid (Calls Tryd.prog 19 #[.pointer (some ⟨J, 0, none⟩), .slice (some ⟨w2.heap.size, 0, none⟩) 1 1] w3 _) := Lib.hid hp3
  replace hw3 := Lib.hid hw3
  replace hj3 := Lib.hid hj3
  replace hbl3 := Lib.hid hbl3
  replace hb2 := Lib.hid hb2
  replace hj2 := Lib.hid hj2
  replace hnew2 := Lib.hid hnew2
  clear ha3 hG3 hs3 hs2
  go_wp2_with fail
  rw [← hw3.out]
  with_reducible refine hp3.out.mono ?_
  rintro x w4 ⟨rfl, mn4, v4, rv4, F4, p4, hm4, hst4, hG4, hl4, hl4'⟩
  clear hp3
  have hj4 : JD w.heap.size w4 J (w.heap.size + 1) w.heap.size mn4 v4 rv4 F4 p4 [[97]] 1 false := hst4.ok
  have hG4' : Good p4 8 [[97]] := hG4
  have hb4 : Below w.heap.size w w4 := (hb2.out.trans hbl3.out).trans (hst4.below hj3.out (hb2.out.trans hbl3.out).size)
  have hl4a : (DP.new 8).l = 0 := rfl
  have ha5 : ArgB (w4.alloc (.cells #[.int .u8 98] 5 (1, 2))) (some ⟨w4.heap.size, 0, none⟩) 1 [98] := argB_mark1 w4 98
  have hG5 : Below w4.heap.size w4 (w4.alloc (.cells #[.int .u8 98] 5 (1, 2))) := (Below.refl _ _).alloc (Nat.le_refl _) _
  have hs5 : (w4.alloc (.cells #[.int .u8 98] 5 (1, 2))).heap.size = w4.heap.size + 1 := World.size_alloc ..
  have hp5 := put_g (hj4.below hG5) (Nat.le_trans hb4.size hG5.size) 8 hG4' (by decide) (by omega) ⟨by omega, by omega⟩ e hBE (fun W hW => hEb.out W ((hb4.trans (hG5.mono hb4.size)).trans hW)) ((hK.out.below hb4).below hG5) ((hF.out.below hb4).below hG5) [98] (by decide) (by decide) (by decide) (some ⟨w4.heap.size, 0, none⟩) 1 ha5
    (fun b o s e => by
      cases e
      exact ⟨fun hh => by have := (hj4.jm.lt _ hh).2; omega, fun hh => by have := (hj4.dm.lt _ hh).2; omega, by omega⟩)
  have hbl5 : Below w.heap.size w4 (w4.alloc (.cells #[.int .u8 98] 5 (1, 2))) := hG5.mono hb4.size
  have hj5 := hj4.below hG5
  obtain ⟨w5, hw5⟩ : ∃ w5, w5 = w4.alloc (.cells #[.int .u8 98] 5 (1, 2)) := ⟨_, rfl⟩
  rw [← hw5] at hp5 hj5 hbl5
  replace hp5 : Hid (Calls Tryd.prog 19 #[.pointer (some ⟨J, 0, none⟩), .slice (some ⟨w4.heap.size, 0, none⟩) 1 1] w5 _) := Lib.hid hp5
  replace hw5 := Lib.hid hw5
  replace hj5 := Lib.hid hj5
  replace hbl5 := Lib.hid hbl5
  replace hb4 := Lib.hid hb4
  clear ha5 hG5 hs5 hst4 hG4 hG4' hj4
  go_wp2_with fail
  rw [← hw5.out]
  with_reducible refine hp5.out.mono ?_
  rintro x w6 ⟨rfl, mn6, v6, rv6, F6, p6, hm6, hst6, hG6, hl6, hl6'⟩
  clear hp5
  have hj6 : JD w.heap.size w6 J (w.heap.size + 1) w.heap.size mn6 v6 rv6 F6 p6 [[97], [98]] 2 false := hst6.ok
  have hG6' : Good p6 8 [[97], [98]] := hG6
  have hb6 : Below w.heap.size w w6 := (hb4.out.trans hbl5.out).trans (hst6.below hj5.out (hb4.out.trans hbl5.out).size)
  have hcr := Lib.hid (dcrash_dm hj6.dm (by rw [hG6'.n]; decide) (by rw [hG6'.ws]; decide) (by omega) 0 0 0 0 rfl (by decide) (by decide) (by decide))
  have hw60 : p6.ws.length = 0 := by rw [hG6'.ws]; rfl
  have hG7 := Lib.hid (good_crash hG6' 0 0 0)
  replace hb6 := Lib.hid hb6
  replace hj6 := Lib.hid hj6
  clear hst6 hG6 hG6' hj3 hj5 hj2
  go_wp2_with fail
  with_reducible refine hcr.out.mono ?_
  rintro x w7 ⟨rfl, mn7, hm7, hst7⟩
  clear hcr
  have hb7 : Below w.heap.size w w7 := hb6.out.trans (hst7.below hj6.out.dm hb6.out.size)
  have hop := Lib.hid (open_good hst7.ok hb7.size hG7.out (by decide) (by decide) (by omega) ⟨by show (-100000 : Int) ≤ 0; decide, by show (0 : Int) ≤ 100000; decide⟩ e hBE (fun W hW => hEb.out W (hb7.trans hW)) (hK.out.below hb7) (hF.out.below hb7) (by decide) (fun r hr => by
    rcases List.mem_cons.1 hr with rfl | hr
    · exact hok97
    · rw [List.mem_singleton.1 hr]; exact hok98))
  have hd7 := Lib.hid hst7.ok
  replace hb7 := Lib.hid hb7
  clear hst7
  go_wp2_with fail
  with_reducible refine hop.out.mono ?_
  clear hop
  rintro x w8 ⟨J8, rv8, F8, v8, mn8, rfl, hm8, hj8, hs8, hnew8⟩
  have hb8 : Below w.heap.size w w8 := hb7.out.trans (hs8.below hd7.out hb7.out.size)
  have hre := Lib.hid (records_any hj8.jm (by decide))
  have hjm := Lib.hid hj8.jm
  replace hb8 := Lib.hid hb8
  clear hj8 hs8 hnew8
  go_wp2_with fail
  with_reducible refine hre.out.mono ?_
  clear hre
  rintro x w9 ⟨v9, F9, rfl, hrow, hF9, hb9⟩
  obtain ⟨g, c9, cs, rfl, ⟨a1, c1, rfl, hA1, _⟩, hr1⟩ := hrow.elem liesRB 0 [97] rfl
  obtain ⟨g', c9', cs', hv', ⟨a2, c2, rfl, hA2, _⟩, hr2⟩ := hrow.elem liesRB 1 [98] rfl
  cases hv'
  have q1 : w9.cell? ⟨g, 0, none⟩ = some (.slice a1 1 c1) := hr1 0 _ rfl
  have q2 : w9.cell? ⟨g, 1, none⟩ = some (.slice a2 1 c2) := hr2 0 _ rfl
  have kc1 : (convert 22 9 (.slice a1 1 c1)).run Tryd.prog w9 = .ok (.string ⟨#[97]⟩) w9 := conv_str (P := Tryd.prog) (src := 22) (dst := 9) (c := c1) [97] Tryd.underlying22 Tryd.underlying5 Tryd.underlying9 hA1.row
  have kc2 : (convert 22 9 (.slice a2 1 c2)).run Tryd.prog w9 = .ok (.string ⟨#[98]⟩) w9 := conv_str (P := Tryd.prog) (src := 22) (dst := 9) (c := c2) [98] Tryd.underlying22 Tryd.underlying5 Tryd.underlying9 hA2.row
  have hsu := Lib.hid (jsure_any (hjm.out.only (Only.ofBelow (D := fun _ => False) hb9) (fun _ _ h => h)))
  have hb99 := Lib.hid (hb8.out.trans (hb9.mono hb8.out.size))
  clear hr1 hr2 hA1 hA2 hrow hF9 hb9
  go_wp2_with fail
  with_reducible refine hsu.out.mono ?_
  rintro x w10 ⟨rfl, hq⟩
  obtain rfl := hq
  go_wp2_with fail
  go_ret
  exact ⟨rfl, hb99.out⟩
end Go.Proofs.YtgkddegaiaeckaaDoor
