/- The walk over journal.Append. -/
import Derived.Test.YtgkddegaiaeckaaDoorF28SafeSaid
import Derived.Test.YtgkddegaiaeckaaDoorConcatL
import Derived.Test.YtgkddegaiaeckaaDoorF14SafeSaid
import Derived.Test.YtgkddegaiaeckaaDoorF2SafeSaid
namespace Go.Proofs.YtgkddegaiaeckaaDoor
open Go.RowKit

section
variable {α : Type} {R : World → (Nat → Prop) → α → List Value → Prop} {e : TypeId} {size base : Nat} {w : World} {F F' : Nat → Prop} {v : Value} {ps : List α} {P : Program} {o : Oper} {a : Act} {Q : Exit → Act → World → Prop} {K : Act → World → Prop}
/-- append of one, the box somewhere. -/
theorem wpK_appRowsAt (hR : LiesOk R size) (s x : Operand) (t : TypeId) (ho : o.op = .call { callee := .builtin .append, args := #[s, x], argTypes := #[t, t] })
    (ht : P.underlying t = some (.slice e)) (bytes : Nat) (hi : (P.info? e).map (fun i => (i.zero.map (·.cells.size), i.size, i.bytes)) = some (some size, size, bytes)) (hsz : 0 < size)
    (hs : a.eval s = v) (h : Hid (RowsOf R e size base w F v ps)) (y : α) (C : Array Value) (hy : Hid (R w F' y C.toList)) (hF : Hid (∀ k, F k → F' k)) (ha : Hid (∀ k, v.ownBlock = some k → ¬ F' k)) (hl : Hid (∀ k, F' k → k < w.heap.size))
    (g : Nat) (hx : a.eval x = .slice (some ⟨g, 0, none⟩) 1 1) (hg : Hid (w.heap[g]? = some (.cells C e (0, 0)))) (h63 : ps.length ≤ 1000000) (hb8 : bytes ≤ 10000) (hbase : base ≤ w.heap.size)
    (hK : ∀ v' w', Hid (RowsOf R e size base w' F' v' (ps ++ [y])) → Hid (Only (fun k => v.ownBlock = some k) w w') → Hid (Moved w v v') → K (a.put o.dst v') w') : o.wp P a w K Q := by
  obtain ⟨ie, hie, h2⟩ := Option.map_eq_some_iff.1 hi
  simp only [Prod.mk.injEq] at h2
  obtain ⟨hz, hs1, hby⟩ := h2
  obtain ⟨z, hz1, hz2⟩ := Option.map_eq_some_iff.1 hz
  obtain ⟨v', w', hr, k1, k2, k3⟩ := h.out.app1 (P := P) hR t o.type ie z bytes ht hie hz1 hs1 hby hz2 hsz y C.toList hy.out hF.out ha.out hl.out g C rfl hg.out (by unfold maxLen; omega)
    (Nat.le_trans (Nat.mul_le_mul (Nat.succ_le_succ h63) hb8) (by decide)) hbase
  unfold Oper.wp execOp
  simp only [ho, resolve, invoke, builtin, Sem.run_bind, Sem.run_pure, Result.andThen_ok, List.map_toArray, List.map_cons, List.map_nil, hs, hx, hr]
  exact hK v' w' (Lib.hid k1) (Lib.hid k2) (Lib.hid k3)
end
theorem argBB_rowsAt {w : World} {b c : Nat} {ps : List (List UInt8)} (h : ArgBB w (some ⟨b, 0, none⟩) c ps) : RowsAt w b ps := by
  intro k hk
  obtain ⟨b', o', e', a, c', h1, h2⟩ := h.row k hk
  cases e'
  rw [Nat.zero_add] at h1
  exact ⟨a, c', h1, h2⟩
/-- A record more. -/
theorem JStep.appended {base : Nat} {w w8 w9 : World} {J B mb mn : Nat} {v rv rv' : Value} {F F' : Nat → Prop} {p : DP} {recs : List (List UInt8)} {sure : Nat} {dead : Bool} {r : List UInt8} (h : JD base w J B mb mn v rv F p recs sure dead) (hr : okR r)
    (hO : Only (fun k => rv.ownBlock = some k) w w8) (hF : ∀ k, F' k → F k ∨ w.heap.size ≤ k) (hv : ∀ k, rv'.ownBlock = some k → rv.ownBlock = some k ∨ w.heap.size ≤ k) (hrow : RowsOf RB 22 1 base w8 F' rv' (recs ++ [r]))
    (hU : Upd J (.cells (jcells B rv' (headB z32 (recs ++ [r])) (endB (recs ++ [r]) : Nat) sure dead) 76 (0, 0)) w8 w9) (hb : base ≤ w.heap.size) : JStep base w w9 J B mb v rv F mn v rv' F' p (recs ++ [r]) sure dead := by
  have hJl := block_lt h.jm.at_
  have hU2 : Only (fun k => k = J) w8 w9 := Only.ofUpd hU rfl
  have hO3 : Only (JF J F rv) w w9 := (hO.mono (fun k _ e => (.inr (.inr e) : JF J F rv k))).trans hU2 (fun k _ e => .inl e)
  have hO2 : Only (fun k => JF J F rv k ∨ DiskD B mb v k) w w9 := hO3.mono (fun _ _ h => .inl h)
  have hnF : ¬ F' J := fun hk => (hF J hk).elim h.jm.nF (fun h => by omega)
  have hnv : rv'.ownBlock ≠ some J := fun hk => (hv J hk).elim h.jm.nv (fun h => by omega)
  have hnew : ∀ k, JF J F' rv' k → JF J F rv k ∨ w.heap.size ≤ k := by
    rintro k (hk | hk | hk)
    · exact .inl (.inl hk)
    · exact (hF k hk).imp (fun h => .inr (.inl h)) id
    · exact (hv k hk).imp (fun h => .inr (.inr h)) id
  refine ⟨⟨⟨hU.here, hrow.only liesRB hU2 (fun k hk e => hnF (e ▸ hk)) (fun k hk e => hnv (e ▸ hk)), hnF, hnv, h.jm.ge, fun k hk => (hF k hk).elim (h.jm.geF k) (fun h => by omega), fun x hx => ?_⟩, h.dm.only hO3 (fun k hk hd => h.dj k hd hk), fun k hk hd => ?_⟩, hO2, hnew, fun _ h => .inl h⟩
  · rcases List.mem_append.1 hx with hx | hx
    · exact h.jm.okR x hx
    · rw [List.mem_singleton.1 hx]; exact hr
  · rcases hnew k hk with h1 | h1
    · exact h.dj k h1 hd
    · have := (h.dm.lt k hd).2; omega

theorem JStep.appended3 {base : Nat} {w w11 w12 w13 w14 w15 : World} {J B mb mn : Nat} {v rv rv' : Value} {F : Nat → Prop} {p : DP} {recs : List (List UInt8)} {sure : Nat} {dead : Bool} {r : List UInt8} (h : JD base w J B mb mn v rv F p recs sure dead) (hr : okR r)
    (hb11 : Below w.heap.size w w11) (hO : Only (fun k => rv.ownBlock = some k) w11 w12) (hM : Moved w11 rv rv') (g10 : Nat) (hg : w.heap.size ≤ g10) (hrow : RowsOf RB 22 1 base w12 (fun k => F k ∨ k = g10) rv' (recs ++ [r])) (E FL : Nat) (hE : E = endB recs) (hFL : FL = 34 + r.length)
    (h13 : Upd J (.cells (jcells B rv' (headB z32 recs) (E : Nat) sure dead) 76 (0, 0)) w12 w13) (h14 : Upd J (.cells (jcells B rv' (nextB (headB z32 recs) r) (E : Nat) sure dead) 76 (0, 0)) w13 w14)
    (h15 : Upd J (.cells ((jcells B rv' (nextB (headB z32 recs) r) (E : Nat) sure dead).setIfInBounds 34 (.int .i64 ((E : Int) + (FL : Int)))) 76 (0, 0)) w14 w15) (hb : base ≤ w.heap.size) : JStep base w w15 J B mb v rv F mn v rv' (fun k => F k ∨ k = g10) p (recs ++ [r]) sure dead := by
  have hU := (h13.trans h14).trans h15
  rw [jset34 (nextB_len _ _), show (E : Int) + (FL : Int) = ((endB (recs ++ [r]) : Nat) : Int) by rw [endB_snoc, hE, hFL]; omega, ← headB_snoc] at hU
  exact JStep.appended h hr ((Only.ofBelow (D := fun k => rv.ownBlock = some k) hb11).trans hO (fun _ _ h => h)) (fun k hk => hk.imp id (fun e => by omega)) (fun k hk => (hM k hk).imp id (fun h => Nat.le_trans hb11.size h)) hrow hU hb
theorem setCell_step {K : Act → World → Prop} {a : Act} {w : World} {x : Addr} {u : Value} (h : ∀ w', w' = w.setCell x u → K a w') : K a (w.setCell x u) := h _ rfl
theorem setCells_step {K : Act → World → Prop} {a : Act} {w : World} {b o : Nat} {us : List Value} (h : ∀ w', w' = w.setCells b o us → K a w') : K a (w.setCells b o us) := h _ rfl
def appGood (n : Nat) (recs : List (List UInt8)) (r : List UInt8) : Prop := 1 ≤ r.length ∧ r.length ≤ 400 ∧ r.length ≤ roomP n (endB recs)
/-- What 'Append' leaves, where it may. -/
def AppPost (base : Nat) (w : World) (J B mb mn : Nat) (v rv : Value) (F : Nat → Prop) (q : DP × Bool) (recs : List (List UInt8)) (r : List UInt8) (sure : Nat) (x : Ending) (w' : World) : Prop :=
  (if q.2 = true then x = .returned .nilIface else ∃ a, x = .returned (.iface 57 (.pointer (some a)))) ∧ ∃ v' rv' F', JStep base w w' J B mb v rv F mn v' rv' F' q.1 (if q.2 = true then recs ++ [r] else recs) sure (!q.2)

set_option maxRecDepth 100000 in
set_option maxHeartbeats 2000000 in
theorem append_good {base : Nat} {w : World} {J B mb mn : Nat} {v rv : Value} {F : Nat → Prop} {p : DP} {recs : List (List UInt8)} {sure : Nat} (h : JD base w J B mb mn v rv F p recs sure false) (hb : base ≤ w.heap.size) (n : Nat) (hpn : p.n = (n : Int)) (hn : n ≤ 1000) (hE64 : endB recs ≤ 64 * n) (hws : p.ws.length ≤ 20000) (hpl : -200000 ≤ p.l ∧ p.l ≤ 200000) (hg : p.gone = false) (e : Nat → Addr) (hBE : 2 ≠ B) (hEb : ∀ W, Below base w W → DErr W e)
    (hK : ShaK w) (hF : ShaF w) (r : List UInt8) (hgood : appGood n recs r) (a : Option Addr) (c : Nat) (hA : ArgB w a c r) (hAD : ∀ b o s, a = some ⟨b, o, s⟩ → ¬ JF J F rv b ∧ ¬ DiskD B mb v b ∧ b < w.heap.size) :
    Calls Tryd.prog 17 #[.pointer (some ⟨J, 0, none⟩), .slice a r.length c] w (AppPost base w J B mb mn v rv F (lay p (endB recs) (frameB (headB z32 recs) r)) recs r sure) := by
  have zr := zero32_run
  have zn := zero32_ne
  obtain ⟨g1, g2, g3⟩ := hgood
  obtain ⟨ra, rc, hrv, _⟩ := h.jm.rows.argBB
  subst hrv
  have hrl : recs.length ≤ 1000000 := by have := recs_le recs; omega
  have hroom : endB recs + 34 + r.length ≤ 64 * n := by unfold roomP at g3; omega
  have hfl := frameB_len (headB z32 recs) r
  have hc36 := h.jm.cell36
  have hsd := fun W => sized_any (r.length : Int) W
  have hd2 : decide (1 ≤ (r.length : Int) ∧ (r.length : Int) ≤ 400) = true := decide_eq_true (by omega)
  rw [hd2] at hsd
  have hrm := room_any h n hpn hn hE64
  have hH := headB_len z32_len recs
  have hNl := nextB_len (headB z32 recs) r
  have hhs : headB z32 (recs ++ [r]) = nextB (headB z32 recs) r := headB_snoc _ _ _
  have hes : endB (recs ++ [r]) = endB recs + (34 + r.length) := endB_snoc _ _
  obtain ⟨q, hq⟩ : ∃ q, q = lay p (endB recs) (frameB (headB z32 recs) r) := ⟨_, rfl⟩
  rw [← hq]
  replace hq := Lib.hid hq
  obtain ⟨RM, hRM⟩ : ∃ RM, RM = roomP n (endB recs) := ⟨_, rfl⟩
  rw [← hRM] at hrm g3
  have hR3 : ¬ ((r.length : Int) > (RM : Int)) := by omega
  have hR3' : ¬ ((RM : Int) < (r.length : Int)) := by omega
  obtain ⟨L, hL⟩ : ∃ L, L = r.length := ⟨_, rfl⟩
  rw [← hL] at hsd hR3 hR3' ⊢
  obtain ⟨H, hHd⟩ : ∃ H, H = (cB (headB z32 recs)).toArray := ⟨_, rfl⟩
  have hiH : (Tryd.prog.info? 32).map (·.size) = some (cB (headB z32 recs)).length := by rw [infoDigest hH, List.size_toArray]
  have huA : Tryd.prog.underlying 32 = some (.array 32 5) := Tryd.underlying32
  obtain ⟨N, hN⟩ : ∃ N, N = (cB (nextB (headB z32 recs) r)).toArray := ⟨_, rfl⟩
  have tD : (Tryd.prog.info? 32).map (·.size) = some N.size := by rw [hN]; exact infoDigest hNl
  have t32 : zero32.size = N.size := by rw [hN]; exact zero32_like hNl
  have tO : N.all (·.oneCell') = true := by rw [hN]; exact cB_all _
  replace h := Lib.hid h
  replace hpn := Lib.hid hpn
  replace hws := Lib.hid hws
  replace hpl := Lib.hid hpl
  replace hg := Lib.hid hg
  replace hEb := Lib.hid hEb
  replace hK := Lib.hid hK
  replace hF := Lib.hid hF
  replace hA := Lib.hid hA
  replace hAD := Lib.hid hAD
  replace hrm := Lib.hid hrm
  replace hsd := Lib.hid hsd
  replace hhs := Lib.hid hhs
  replace hes := Lib.hid hes
  replace hfl := Lib.hid hfl
  replace hRM := Lib.hid hRM
  replace hL := Lib.hid hL
  replace hN := Lib.hid hN
  replace hHd := Lib.hid hHd
  go_enter Tryd.func17, Tryd.ntmps17
  go_wp2_with fail
  with_reducible refine (hsd.out _).mono ?_
  rintro x w0 ⟨rfl, hq⟩
  obtain rfl := hq
  clear hsd
  go_wp2_with fail
  with_reducible refine hrm.out.mono ?_
  rintro x w1 ⟨rfl, nd, rfl⟩
  clear hrm
  have hb1 : Below w.heap.size w (w.drewN nd) := Drawn.below ⟨nd, rfl⟩ _
  generalize w.drewN nd = w1 at *
  have hhd : w1.rangeAt J 2 (cB (headB z32 recs)) := (h.out.below hb1).jm.head
  have hnx := next_any (headB z32 recs) r hH a c w1 (hA.out.below hb1) (by omega) (hK.out.below hb1) (hF.out.below hb1)
  rw [← hHd.out, ← hN.out, ← hL.out] at hnx
  replace hnx := Lib.hid hnx
  replace hhd := Lib.hid hhd
  replace hb1 := Lib.hid hb1
  go_wp2_with (refine wpList_load_mid rfl 32 (.tmp 29) rfl J 2 rfl (cB (headB z32 recs)) _ hhd.out huA rfl hiH ?_; rw [← hHd.out])
  with_reducible refine hnx.out.mono ?_
  rintro x w2 ⟨rfl, hb2⟩
  clear hnx hhd
  have hz2 : Hid ((w2.alloc (.cells zero32 32)).heap[w2.heap.size]? = some (.cells zero32 32 (0, 0))) := heap_alloc_new w2 (.cells zero32 32 (0, 0))
  go_wp2_with (refine wpList_store_row rfl 32 (.tmp 5) (.tmp 32) rfl w2.heap.size zero32 N rfl rfl hz2 tD t32 tO ?_; intro w4 hU4)
  have hb4 : Below w.heap.size w w4 := (hb1.out.trans (hb2.mono hb1.out.size)).trans (((Below.refl _ _).alloc (Nat.le_trans hb1.out.size hb2.size) _).trans (hU4.out.below (Nat.le_trans hb1.out.size hb2.size)))
  obtain ⟨g, hgd⟩ : ∃ g, g = w2.heap.size := ⟨_, rfl⟩
  have hNb : w4.heap[g]? = some (.cells N 32 (0, 0)) := by rw [hgd]; exact hU4.out.here
  have hgw : w.heap.size ≤ g := by rw [hgd]; exact Nat.le_trans hb1.out.size hb2.size
  rw [← hgd]
  replace hgd := Lib.hid hgd
  have hd4 : Below w4.heap.size w4 w4.drew := (Below.refl _ _).drew
  have hah : ArgB w4.drew (some ⟨g, 0, none⟩) 32 (nextB (headB z32 recs) r) := argB_block (by rw [← hN.out]; exact hNb) (by omega) (by decide)
  have har : ArgB w4.drew a c r := (hA.out.below hb4).below hd4
  have hsz := fun W => size_any r.length (by omega) W
  rw [← hL.out] at hsz
  have hmk := fun W ax cx ay cy az cz g (h1 : ArgB W ax cx (lnB r.length)) (h2 : ArgB W ay cy (nextB (headB z32 recs) r)) (h3 : ArgB W az cz r) => argBB_three (g := g) h1 h2 h3
  rw [hNl, show (lnB r.length).length = 2 from rfl, ← hL.out] at hmk
  have hcc := fun W g hA => concatL_any g [lnB r.length, nextB (headB z32 recs) r, r] W hA (by simp) (by simp [lnB]) (by simp [lnB, hNl]; omega)
  rw [show [lnB r.length, nextB (headB z32 recs) r, r].length = 3 from rfl, show [lnB r.length, nextB (headB z32 recs) r, r].flatten = frameB (headB z32 recs) r by simp [frameB]] at hcc
  rw [hL.out] at hmk hsz
  replace hcc := Lib.hid hcc
  replace hmk := Lib.hid hmk
  replace hsz := Lib.hid hsz
  replace hd4 := Lib.hid hd4
  replace hb4 := Lib.hid hb4
  replace hNb := Lib.hid hNb
  replace hah := Lib.hid hah
  replace har := Lib.hid har
  clear hz2 hU4 hb2 hb1
  rw [hL.out]
  go_wp2_with fail
  refine wp_region_held_drew (S := (Below w4.heap.size w4)) (by kernel_rfl) hd4.out (fun hOn => ?_)
  generalize World.drew w4 = wd at *
  refine wpAnyH_take (i := 0) (v := ?_) (by simp only [List.getElem?_toArray, List.getElem?_cons_zero]; rfl) (by kernel_rfl) (by kernel_rfl) (by kernel_rfl) (by exact fun _ _ _ h => h) (Or.inl ⟨by rfl, ?_⟩) hOn ?_
  rotate_left
  focus (intro W hSW; go_simp; try with_reducible rfl)
  try simp only [Act.put, List.setIfInBounds_toArray, List.set_cons_zero, List.set_cons_succ]
  refine wpAnyH_take (i := 1) (v := ?_) (by simp only [List.getElem?_toArray, List.getElem?_cons_succ, List.getElem?_cons_zero]; rfl) (by kernel_rfl) (by kernel_rfl) (by kernel_rfl) (by exact fun _ _ _ h => h) (Or.inl ⟨by rfl, ?_⟩) hOn ?_
  rotate_left
  focus (intro W hSW; go_simp; try with_reducible rfl)
  try simp only [Act.put, List.setIfInBounds_toArray, List.set_cons_zero, List.set_cons_succ]
  refine wpAnyH_take (i := 3) (v := ?_) (by simp only [List.getElem?_toArray, List.getElem?_cons_succ, List.getElem?_cons_zero]; rfl) (by kernel_rfl) (by kernel_rfl) (by kernel_rfl) (by exact fun _ _ _ h => h) (Or.inl ⟨by rfl, ?_⟩) hOn ?_
  rotate_left
  focus (intro W hSW; go_simp; try with_reducible rfl)
  try simp only [Act.put, List.setIfInBounds_toArray, List.set_cons_zero, List.set_cons_succ]
  refine wpAnyH_take (i := 4) (v := ?_) (by simp only [List.getElem?_toArray, List.getElem?_cons_succ, List.getElem?_cons_zero]; rfl) (by kernel_rfl) (by kernel_rfl) (by kernel_rfl) (by exact fun _ _ _ h => h) (Or.inl ⟨by rfl, ?_⟩) hOn ?_
  rotate_left
  focus (intro W hSW; go_simp; try with_reducible rfl)
  try simp only [Act.put, List.setIfInBounds_toArray, List.set_cons_zero, List.set_cons_succ]
  refine wpAnyH_ready (rs := [2]) (by kernel_rfl) (by simp) ?_
  refine AllReadyH.cons (by simp only [List.getElem?_toArray, List.getElem?_cons_succ, List.getElem?_cons_zero]; rfl) (fun Kz hKz => ?_) AllReadyH.nil
  go_simp
  (with_reducible refine (hsz.out _).mono ?_)
  rintro e w3 ⟨rfl, hl3, hnew⟩
  replace hah := Lib.hid (hah.out.below hnew)
  replace har := Lib.hid (har.out.below hnew)
  replace hl3 := Lib.hid hl3
  clear hsz
  focus (go_wp2_with fail)
  refine hKz.out _ _ (by first | exact hS | exact Below.trans hOn (Below.mono hnew (Below.size hOn))) (fun hNext => ?_)
  clear hKz Kz hOn
  have hOn := hNext
  clear hNext
  try clear hnew
  try clear hS
  try simp only [Act.put, List.setIfInBounds_toArray, List.set_cons_zero, List.set_cons_succ]
  refine wpAnyH_ready (rs := [5]) (by kernel_rfl) (by simp) ?_
  refine AllReadyH.cons (by simp only [List.getElem?_toArray, List.getElem?_cons_succ, List.getElem?_cons_zero]; rfl) (fun Kz hKz => ?_) AllReadyH.nil
  go_simp
  focus (try go_wp2_with fail)
  (with_reducible refine made_step (t := 22) ?_)
  intro w5 hx5 hnew
  have hq5 := Lib.hid (hmk.out _ _ _ _ _ _ _ _ (hl3.out.below hnew) (hah.out.below hnew) (har.out.below hnew) hx5.out)
  refine hKz.out _ _ (by first | exact hS | exact Below.trans hOn (Below.mono hnew (Below.size hOn))) (fun hNext => ?_)
  clear hKz Kz hOn
  have hOn := hNext
  clear hNext
  try clear hnew
  try clear hS
  try simp only [Act.put, List.setIfInBounds_toArray, List.set_cons_zero, List.set_cons_succ]
  refine wpAnyH_ready (rs := [6]) (by kernel_rfl) (by simp) ?_
  refine AllReadyH.cons (by simp only [List.getElem?_toArray, List.getElem?_cons_succ, List.getElem?_cons_zero]; rfl) (fun Kz hKz => ?_) AllReadyH.nil
  go_simp
  (with_reducible refine (hcc.out _ _ (argBB_rowsAt hq5.out)).mono ?_)
  rintro e w8 ⟨v8, rfl, ho8, hnew⟩
  have ho8 := Lib.hid (OwnB.mono ho8 hOn.size)
  focus (go_wp2_with fail)
  refine hKz.out _ _ (by first | exact hS | exact Below.trans hOn (Below.mono hnew (Below.size hOn))) (fun hNext => ?_)
  clear hKz Kz hOn
  have hOn := hNext
  clear hNext
  try clear hnew
  try clear hS
  try simp only [Act.put, List.setIfInBounds_toArray, List.set_cons_zero, List.set_cons_succ]
  refine wpAnyH_take (i := 7) (v := ?_) (by simp only [List.getElem?_toArray, List.getElem?_cons_succ, List.getElem?_cons_zero]; rfl) (by kernel_rfl) (by kernel_rfl) (by kernel_rfl) (by exact fun _ _ _ h => h) (Or.inl ⟨by rfl, ?_⟩) hOn ?_
  rotate_left
  focus (intro W hSW; go_simp; try with_reducible rfl)
  try simp only [Act.put, List.setIfInBounds_toArray, List.set_cons_zero, List.set_cons_succ]
  refine wpAnyH_done (by kernel_rfl) ?_ _
  have hb8 : Below w.heap.size w w8 := hb4.out.trans (hOn.mono hb4.out.size)
  have hN8 : w8.heap[g]? = some (.cells N 32 (0, 0)) := (hOn.block _ (block_lt hNb.out)).trans hNb.out
  obtain ⟨a8, c8, rfl, hA8, hB8⟩ := ho8.out.arg
  have hw4 := hb4.out.size
  have hlay := lay_any (h.out.below hb8) (Nat.le_trans hb hb8.size) n hpn.out hn hws.out hpl.out hg.out e hBE (fun W hW => hEb.out W ((hb8.mono hb).trans hW)) (frameB (headB z32 recs) r) (by rw [hfl.out]; omega) (by rw [hfl.out]; omega) a8 c8 hA8
    (fun b' o' s' e' => by
      have hbb := hB8 b' o' s' e'
      exact ⟨fun hj => by have := (h.out.jm.lt _ hj).2; omega, fun hd => by have := (h.out.dm.lt _ hd).2; omega, hbb.2⟩)
  rw [← hq.out] at hlay
  obtain ⟨FL, hFL⟩ : ∃ FL, FL = (frameB (headB z32 recs) r).length := ⟨_, rfl⟩
  rw [← hFL] at hlay ⊢
  have hFLn : FL = 34 + r.length := by rw [hFL, hfl.out]
  replace hFL := Lib.hid hFL
  replace hFLn := Lib.hid hFLn
  replace hlay := Lib.hid hlay
  replace hb8 := Lib.hid hb8
  replace hN8 := Lib.hid hN8
  clear hA8 hB8 ho8 hcc hmk hOn hc36 hd4 hx5 hq5 hah har hl3
  go_wp2_with fail
  with_reducible refine hlay.out.mono ?_
  clear hlay
  obtain ⟨p', ok⟩ := q
  rintro x w9 ⟨hx, v9, hst9⟩
  have hst := ((JStep.same h.out).grow hb8.out).trans hst9
  cases ok with
  | false =>
    obtain ⟨ad, rfl⟩ := hx
    replace hst := Lib.hid hst
    clear hst9
    go_wp2_with fail
    go_ret
    exact ⟨⟨_, rfl⟩, _, _, _, hst.out⟩
  | true =>
    cases (show x = _ from hx)
    have hw8 := hb8.out.size
    have hgl := block_lt hN8.out
    have hnJ : ¬ JF J F (.slice ra recs.length rc) g := fun hj => by have := (h.out.jm.lt _ hj).2; omega
    have hnD : ¬ DiskD B mb v g := fun hd => by have := (h.out.dm.lt _ hd).2; omega
    have hS9 : w9.drew.heap[g]? = some (.cells N 32 (0, 0)) := hst9.only.heap hN8.out (fun hd => hd.elim hnJ hnD)
    have hA9 : ArgB w9.drew a c r := (hst.only.argB hA.out (fun b' o' e' hd => (hAD.out b' o' none e').elim (fun h1 h2 => hd.elim h1 h2.1))).below ((Below.refl _ _).drew)
    have hcl := clone_any a c r w9.drew hA9 (by omega)
    have hgv : (Value.slice ra recs.length rc).ownBlock ≠ some g := fun e => hnJ (.inr (.inr e))
    have hgJ : g ≠ J := fun e => hnJ (.inl e)
    obtain ⟨E, hE⟩ : ∃ E, E = endB recs := ⟨_, rfl⟩
    have hE2 : E ≤ 64000 := by omega
    have hFL2 : FL ≤ 434 := by rw [hFLn.out]; omega
    have hatd : w9.drew.heap[J]? = some (.cells (jcells B (.slice ra recs.length rc) (headB z32 recs) (endB recs : Nat) sure false) 76 (0, 0)) := hst9.ok.jm.at_
    rw [← hE] at hatd
    have hrow9 : RowsOf RB 22 1 base w9.drew F (.slice ra recs.length rc) recs := hst9.ok.jm.rows.below liesRB ((Below.refl _ _).drew)
    have hb9 : base ≤ w9.drew.heap.size := Nat.le_trans hb (Nat.le_trans hw8 hst9.only.size)
    have hbd : Below w9.heap.size w9 w9.drew := (Below.refl _ _).drew
    have k1 : w9.drew.cell? ⟨J, 1, none⟩ = some (.slice ra recs.length rc) := by rw [cell_of_block hatd]; exact jc1
    have k34 : w9.drew.cell? ⟨J, 34, none⟩ = some (.int .i64 (E : Nat)) := by rw [cell_of_block hatd]; exact jc34 hH
    have rlA : ∀ W : World, W.heap[g]? = some (.cells N 32 (0, 0)) → W.heap[g]? = some (.cells N 32 (0, 0)) := fun _ h => h
    have hzA := tD
    have hNL : N.toList = cB (nextB (headB z32 recs) r) := by rw [hN.out]
    have hwrap : IntKind.i64.wrap ((E : Int) + (FL : Int)) = (E : Int) + (FL : Int) := IntWalk.i64_in _ (by omega)
    have hinfo := Lib.hid infoRow24
    have hus := Tryd.underlying23
    replace hS9 := Lib.hid hS9
    replace hcl := Lib.hid hcl
    replace hatd := Lib.hid hatd
    replace hrow9 := Lib.hid hrow9
    replace hNL := Lib.hid hNL
    replace hE := Lib.hid hE
    replace hst := Lib.hid hst
    replace hst9 := Lib.hid hst9
    replace hbd := Lib.hid hbd
    clear hA9 hnJ hnD
    go_wp2_with fail
    refine wp_region_held_drew (S := (fun W : World => W.heap[g]? = some (.cells N 32 (0, 0)))) (by kernel_rfl) hS9.out (fun hOn => ?_)
    generalize World.drew w9 = wd at *
    refine wpAnyH_take (i := 0) (v := ?_) (by simp only [List.getElem?_toArray, List.getElem?_cons_zero]; rfl) (by kernel_rfl) (by kernel_rfl) (by kernel_rfl) (by exact fun _ _ _ h => h) (Or.inl ⟨by rfl, ?_⟩) hOn ?_
    rotate_left
    focus (intro W hSW; go_simp; try with_reducible rfl)
    try simp only [Act.put, List.setIfInBounds_toArray, List.set_cons_zero, List.set_cons_succ]
    refine wpAnyH_take (i := 1) (v := ?_) (by simp only [List.getElem?_toArray, List.getElem?_cons_succ, List.getElem?_cons_zero]; rfl) (by kernel_rfl) (by kernel_rfl) (by kernel_rfl) (by exact fun _ _ _ h => h) (Or.inl ⟨by rfl, ?_⟩) hOn ?_
    rotate_left
    focus (intro W hSW; go_simp; try with_reducible rfl)
    try simp only [Act.put, List.setIfInBounds_toArray, List.set_cons_zero, List.set_cons_succ]
    refine wpAnyH_take (i := 2) (v := ?_) (by simp only [List.getElem?_toArray, List.getElem?_cons_succ, List.getElem?_cons_zero]; rfl) (by kernel_rfl) (by kernel_rfl) (by kernel_rfl) (by exact fun _ _ _ h => h) (Or.inl ⟨by rfl, ?_⟩) hOn ?_
    rotate_left
    focus (intro W hSW; go_simp; try with_reducible rfl)
    try simp only [Act.put, List.setIfInBounds_toArray, List.set_cons_zero, List.set_cons_succ]
    refine wpAnyH_take (i := 3) (v := ?_) (by simp only [List.getElem?_toArray, List.getElem?_cons_succ, List.getElem?_cons_zero]; rfl) (by kernel_rfl) (by kernel_rfl) (by kernel_rfl) (by exact fun _ _ _ h => h) (Or.inl ⟨by rfl, ?_⟩) hOn ?_
    rotate_left
    focus (intro W hSW; go_simp; try with_reducible rfl)
    try simp only [Act.put, List.setIfInBounds_toArray, List.set_cons_zero, List.set_cons_succ]
    refine wpAnyH_take (i := 4) (v := ?_) (by simp only [List.getElem?_toArray, List.getElem?_cons_succ, List.getElem?_cons_zero]; rfl) (by kernel_rfl) (by kernel_rfl) (by kernel_rfl) (by exact fun _ _ _ h => h) (Or.inl ⟨by rfl, ?_⟩) hOn ?_
    rotate_left
    focus (intro W hSW; go_simp; try with_reducible rfl)
    try simp only [Act.put, List.setIfInBounds_toArray, List.set_cons_zero, List.set_cons_succ]
    refine wpAnyH_take (i := 5) (v := ?_) (by simp only [List.getElem?_toArray, List.getElem?_cons_succ, List.getElem?_cons_zero]; rfl) (by kernel_rfl) (by kernel_rfl) (by kernel_rfl) (by exact fun _ _ _ h => h) (Or.inl ⟨by rfl, ?_⟩) hOn ?_
    rotate_left
    focus (intro W hSW; go_simp; try with_reducible rfl)
    try simp only [Act.put, List.setIfInBounds_toArray, List.set_cons_zero, List.set_cons_succ]
    refine wpAnyH_take (i := 7) (v := ?_) (by simp only [List.getElem?_toArray, List.getElem?_cons_succ, List.getElem?_cons_zero]; rfl) (by kernel_rfl) (by kernel_rfl) (by kernel_rfl) (by exact fun _ _ _ h => h) (Or.inl ⟨by rfl, ?_⟩) hOn ?_
    rotate_left
    focus (intro W hSW; go_simp; try with_reducible rfl)
    try simp only [Act.put, List.setIfInBounds_toArray, List.set_cons_zero, List.set_cons_succ]
    refine wpAnyH_take (i := 11) (v := Value.agg _) (by simp only [List.getElem?_toArray, List.getElem?_cons_succ, List.getElem?_cons_zero]; rfl) (by kernel_rfl) (by kernel_rfl) (by kernel_rfl) (by exact fun _ _ _ h => h) (Or.inl ⟨by rfl, fun W hSW => yields_load_row _ _ rfl _ _ _ rfl (rlA W hSW) huA rfl hzA⟩) hOn ?_
    try simp only [Act.put, List.setIfInBounds_toArray, List.set_cons_zero, List.set_cons_succ]
    refine wpAnyH_take (i := 12) (v := ?_) (by simp only [List.getElem?_toArray, List.getElem?_cons_succ, List.getElem?_cons_zero]; rfl) (by kernel_rfl) (by kernel_rfl) (by kernel_rfl) (by exact fun _ _ _ h => h) (Or.inl ⟨by rfl, ?_⟩) hOn ?_
    rotate_left
    focus (intro W hSW; go_simp; try with_reducible rfl)
    try simp only [Act.put, List.setIfInBounds_toArray, List.set_cons_zero, List.set_cons_succ]
    refine wpAnyH_take (i := 13) (v := ?_) (by simp only [List.getElem?_toArray, List.getElem?_cons_succ, List.getElem?_cons_zero]; rfl) (by kernel_rfl) (by kernel_rfl) (by kernel_rfl) (by exact fun _ _ _ h => h) (Or.inl ⟨by rfl, ?_⟩) hOn ?_
    rotate_left
    focus (intro W hSW; go_simp; try with_reducible rfl)
    try simp only [Act.put, List.setIfInBounds_toArray, List.set_cons_zero, List.set_cons_succ]
    refine wpAnyH_take (i := 14) (v := ?_) (by simp only [List.getElem?_toArray, List.getElem?_cons_succ, List.getElem?_cons_zero]; rfl) (by kernel_rfl) (by kernel_rfl) (by kernel_rfl) (by exact fun _ _ _ h => h) (Or.inl ⟨by rfl, ?_⟩) hOn ?_
    rotate_left
    focus (intro W hSW; go_simp; try with_reducible rfl)
    try simp only [Act.put, List.setIfInBounds_toArray, List.set_cons_zero, List.set_cons_succ]
    refine wpAnyH_take (i := 16) (v := ?_) (by simp only [List.getElem?_toArray, List.getElem?_cons_succ, List.getElem?_cons_zero]; rfl) (by kernel_rfl) (by kernel_rfl) (by kernel_rfl) (by exact fun _ _ _ h => h) (Or.inl ⟨by rfl, ?_⟩) hOn ?_
    rotate_left
    focus (intro W hSW; go_simp; try with_reducible rfl)
    try simp only [Act.put, List.setIfInBounds_toArray, List.set_cons_zero, List.set_cons_succ]
    refine wpAnyH_take (i := 17) (v := ?_) (by simp only [List.getElem?_toArray, List.getElem?_cons_succ, List.getElem?_cons_zero]; rfl) (by kernel_rfl) (by kernel_rfl) (by kernel_rfl) (by exact fun _ _ _ h => h) (Or.inl ⟨by rfl, ?_⟩) hOn ?_
    rotate_left
    focus (intro W hSW; go_simp; try with_reducible rfl)
    try simp only [Act.put, List.setIfInBounds_toArray, List.set_cons_zero, List.set_cons_succ]
    refine wpAnyH_ready (rs := [6, 8, 15]) (by kernel_rfl) (by simp) ?_
    refine AllReadyH.cons (by simp only [List.getElem?_toArray, List.getElem?_cons_succ, List.getElem?_cons_zero]; rfl) (fun Kz hKz => ?_) ?_
    go_simp
    focus (try go_wp2_with fail)
    refine hKz.out _ _ (by first | exact hOn | exact Grown.alloc hOn _ | exact Below.alloc hOn (Below.size hOn) _ | exact Grown.alloc (Grown.refl _) _) (fun hNext => ?_)
    clear hKz Kz hOn
    have hOn := hNext
    clear hNext
    try simp only [Act.put, List.setIfInBounds_toArray, List.set_cons_zero, List.set_cons_succ]
    refine wpAnyH_ready (rs := [8, 15]) (by kernel_rfl) (by simp) ?_
    refine AllReadyH.cons (by simp only [List.getElem?_toArray, List.getElem?_cons_succ, List.getElem?_cons_zero]; rfl) (fun Kz hKz => ?_) ?_
    go_simp
    (with_reducible refine hcl.out.mono ?_)
    rintro y w10 ⟨v10, rfl, ho10, hnew⟩
    have hS := (hnew.block g (block_lt hOn)).trans hOn
    have hat10 := Lib.hid ((hnew.block J (block_lt hatd.out)).trans hatd.out)
    have hb10 := Lib.hid hnew
    obtain ⟨g10, c10, rfl, hg10⟩ := OwnB.form ho10 g1
    have ho10 := Lib.hid ho10
    have k1c : w10.cell? ⟨J, 1, none⟩ = some (.slice ra recs.length rc) := (by rw [cell_of_block hat10.out]; exact jc1)
    have k34c : w10.cell? ⟨J, 34, none⟩ = some (.int .i64 (E : Nat)) := (by rw [cell_of_block hat10.out]; exact jc34 hH)
    focus (go_wp2_with fail)
    refine hKz.out _ _ (by first | exact hS | exact Below.trans hOn (Below.mono hnew (Below.size hOn))) (fun hNext => ?_)
    clear hKz Kz hOn
    have hOn := hNext
    clear hNext
    try clear hnew
    try clear hS
    try simp only [Act.put, List.setIfInBounds_toArray, List.set_cons_zero, List.set_cons_succ]
    refine wpAnyH_ready (rs := [9, 15]) (by kernel_rfl) (by simp) ?_
    refine AllReadyH.cons (by simp only [List.getElem?_toArray, List.getElem?_cons_succ, List.getElem?_cons_zero]; rfl) (fun Kz hKz => ?_) ?_
    go_simp
    focus (try go_wp2_with fail)
    (with_reducible refine made_step (t := 22) ?_)
    intro w11 hx11 hnew
    have hS := (hnew.block g (block_lt hOn)).trans hOn
    have hat11 := Lib.hid ((hnew.block J (block_lt hat10.out)).trans hat10.out)
    have hb11 := Lib.hid (hb10.out.trans (hnew.mono hb10.out.size))
    have ho11 := Lib.hid (OwnB.below ho10.out hnew (Nat.le_refl _))
    have hrow11 := Lib.hid (hrow9.out.below liesRB hb11.out)
    have hbs11 : base ≤ w11.heap.size := Nat.le_trans hb9 hb11.out.size
    have hyB := Lib.hid (show RB w11 (fun k => F k ∨ k = g10) r (#[Value.slice (some ⟨g10, 0, none⟩) r.length c10] : Array Value).toList from liesRB.more (rb_own ho11.out) (fun k h => by cases h; exact .inr rfl))
    have hFB := Lib.hid (show ∀ k, F k → F k ∨ k = g10 from fun k h => .inl h)
    have haB := Lib.hid (show ∀ k, (Value.slice ra recs.length rc).ownBlock = some k → ¬ (F k ∨ k = g10) from fun k hk h => h.elim (hrow9.out.apart k hk) (fun h => by have := (hrow9.out.ownLt k hk).2; omega))
    have hlB := Lib.hid (show ∀ k, F k ∨ k = g10 → k < w11.heap.size from fun k h => h.elim (fun h => hrow11.out.lt k h) (fun h => h ▸ (World.ownsRow.lt ho11.out g10 rfl).2))
    have k1c : w11.cell? ⟨J, 1, none⟩ = some (.slice ra recs.length rc) := (by rw [cell_of_block hat11.out]; exact jc1)
    have k34c : w11.cell? ⟨J, 34, none⟩ = some (.int .i64 (E : Nat)) := (by rw [cell_of_block hat11.out]; exact jc34 hH)
    refine hKz.out _ _ (by first | exact hS | exact Below.trans hOn (Below.mono hnew (Below.size hOn))) (fun hNext => ?_)
    clear hKz Kz hOn
    have hOn := hNext
    clear hNext
    try clear hnew
    try clear hS
    try simp only [Act.put, List.setIfInBounds_toArray, List.set_cons_zero, List.set_cons_succ]
    refine wpAnyH_ready (rs := [10, 15]) (by kernel_rfl) (by simp) ?_
    refine AllReadyH.cons (by simp only [List.getElem?_toArray, List.getElem?_cons_succ, List.getElem?_cons_zero]; rfl) (fun Kz hKz => ?_) ?_
    rw [if_pos (by rfl)]
    (refine wpK_appRowsAt liesRB (.tmp 52) (.tmp 55) 23 rfl hus 24 hinfo.out (by decide) rfl hrow11 r _ hyB hFB haB hlB w10.heap.size rfl hx11 hrl (by decide) hbs11 ?_)
    intro v12 w12 hr12 hO12 hM12
    have hS := hO12.out.heap hOn hgv
    have hat12 := Lib.hid (hO12.out.heap hat11.out (fun hd => hst9.out.ok.jm.nv hd))
    have k1c : w12.cell? ⟨J, 1, none⟩ = some (.slice ra recs.length rc) := (by rw [cell_of_block hat12.out]; exact jc1)
    have k34c : w12.cell? ⟨J, 34, none⟩ = some (.int .i64 (E : Nat)) := (by rw [cell_of_block hat12.out]; exact jc34 hH)
    have f1c : w12.frozen? ⟨J, 1, none⟩ = false := free_of_block hat12.out _
    obtain ⟨a12, n12, c12, hv12⟩ : ∃ a n c, v12 = .slice a n c := (by obtain ⟨a, c, e, _⟩ := hr12.out.form; exact ⟨a, _, c, e⟩)
    subst hv12
    refine hKz.out _ _ (by first | exact hS | exact Below.trans hOn (Below.mono hnew (Below.size hOn))) (fun hNext => ?_)
    clear hKz Kz hOn
    have hOn := hNext
    clear hNext
    try clear hnew
    try clear hS
    try simp only [Act.put]
    refine wpAnyH_ready (rs := [15]) (by kernel_rfl) (by simp) ?_
    refine AllReadyH.cons (by simp only [List.getElem?_toArray, List.getElem?_cons_succ, List.getElem?_cons_zero]; rfl) (fun Kz hKz => ?_) AllReadyH.nil
    go_simp
    focus (try go_wp2_with fail)
    refine hKz.out _ _ (by first | exact hOn | exact Grown.alloc hOn _ | exact Below.alloc hOn (Below.size hOn) _ | exact Grown.alloc (Grown.refl _) _) (fun hNext => ?_)
    clear hKz Kz hOn
    have hOn := hNext
    clear hNext
    try simp only [Act.put, List.setIfInBounds_toArray, List.set_cons_zero, List.set_cons_succ]
    refine wpAnyH_take (i := 18) (v := ?_) (by simp only [List.getElem?_toArray, List.getElem?_cons_succ, List.getElem?_cons_zero]; rfl) (by kernel_rfl) (by kernel_rfl) (by kernel_rfl) (by exact fun _ _ _ h => h) (Or.inl ⟨by rfl, ?_⟩) hOn ?_
    rotate_left
    focus (intro W hSW; go_simp; try with_reducible rfl)
    try simp only [Act.put, List.setIfInBounds_toArray, List.set_cons_zero, List.set_cons_succ]
    refine wpAnyH_take (i := 19) (v := ?_) (by simp only [List.getElem?_toArray, List.getElem?_cons_succ, List.getElem?_cons_zero]; rfl) (by kernel_rfl) (by kernel_rfl) (by kernel_rfl) (by exact fun _ _ _ h => h) (Or.inl ⟨by rfl, ?_⟩) hOn ?_
    rotate_left
    focus (intro W hSW; go_simp; try with_reducible rfl)
    try simp only [Act.put, List.setIfInBounds_toArray, List.set_cons_zero, List.set_cons_succ]
    refine wpAnyH_take (i := 20) (v := ?_) (by simp only [List.getElem?_toArray, List.getElem?_cons_succ, List.getElem?_cons_zero]; rfl) (by kernel_rfl) (by kernel_rfl) (by kernel_rfl) (by exact fun _ _ _ h => h) (Or.inl ⟨by rfl, ?_⟩) hOn ?_
    rotate_left
    focus (intro W hSW; go_simp; try with_reducible rfl)
    try simp only [Act.put, List.setIfInBounds_toArray, List.set_cons_zero, List.set_cons_succ]
    refine wpAnyH_ready (rs := [21]) (by kernel_rfl) (by simp) ?_
    refine AllReadyH.cons (by simp only [List.getElem?_toArray, List.getElem?_cons_succ, List.getElem?_cons_zero]; rfl) (fun Kz hKz => ?_) AllReadyH.nil
    have hU13 := ((Upd.refl hat12.out).setCell (j := 1) (.slice a12 n12 c12))
    go_simp
    (with_reducible refine setCell_step ?_)
    intro w13 hw13
    rw [← hw13, jset1] at hU13
    clear hw13
    have hS := (hU13.block g hgJ).trans hOn
    replace hU13 := Lib.hid hU13
    have hth := Lib.hid (show w13.there J 2 N.size from there_block hU13.out.here (by rw [jcells_size hH, hN.out, List.size_toArray, cB_length, hNl]; decide))
    refine hKz.out _ _ (by first | exact hS | exact Below.trans hOn (Below.mono hnew (Below.size hOn))) (fun hNext => ?_)
    clear hKz Kz hOn
    have hOn := hNext
    clear hNext
    try clear hnew
    try clear hS
    try simp only [Act.put]
    refine wpAnyH_take (i := 22) (v := ?_) (by simp only [List.getElem?_toArray, List.getElem?_cons_succ, List.getElem?_cons_zero]; rfl) (by kernel_rfl) (by kernel_rfl) (by kernel_rfl) (by exact fun _ _ _ h => h) (Or.inl ⟨by rfl, ?_⟩) hOn ?_
    rotate_left
    focus (intro W hSW; go_simp; try with_reducible rfl)
    try simp only [Act.put, List.setIfInBounds_toArray, List.set_cons_zero, List.set_cons_succ]
    refine wpAnyH_take (i := 23) (v := ?_) (by simp only [List.getElem?_toArray, List.getElem?_cons_succ, List.getElem?_cons_zero]; rfl) (by kernel_rfl) (by kernel_rfl) (by kernel_rfl) (by exact fun _ _ _ h => h) (Or.inl ⟨by rfl, ?_⟩) hOn ?_
    rotate_left
    focus (intro W hSW; go_simp; try with_reducible rfl)
    try simp only [Act.put, List.setIfInBounds_toArray, List.set_cons_zero, List.set_cons_succ]
    refine wpAnyH_ready (rs := [24]) (by kernel_rfl) (by simp) ?_
    refine AllReadyH.cons (by simp only [List.getElem?_toArray, List.getElem?_cons_succ, List.getElem?_cons_zero]; rfl) (fun Kz hKz => ?_) AllReadyH.nil
    rw [if_pos (by rfl)]
    have hU14 := (upd_setCells N.toList 2 (Upd.refl hU13.out.here))
    (refine wp_store_mid 32 (.tmp 68) (.tmp 57) rfl J 2 N rfl rfl hth.out tD tO ?_)
    (with_reducible refine setCells_step ?_)
    intro w14 hw14
    rw [← hw14, hNL.out, jsetH hH hNl] at hU14
    clear hw14
    have hS := (hU14.block g hgJ).trans hOn
    replace hU14 := Lib.hid hU14
    have k34c : w14.cell? ⟨J, 34, none⟩ = some (.int .i64 (E : Nat)) := (by rw [cell_of_block hU14.out.here]; exact jc34 hNl)
    have f34c : w14.frozen? ⟨J, 34, none⟩ = false := free_of_block hU14.out.here _
    refine hKz.out _ _ (by first | exact hS | exact Below.trans hOn (Below.mono hnew (Below.size hOn))) (fun hNext => ?_)
    clear hKz Kz hOn
    have hOn := hNext
    clear hNext
    try clear hnew
    try clear hS
    try simp only [Act.put]
    refine wpAnyH_take (i := 25) (v := ?_) (by simp only [List.getElem?_toArray, List.getElem?_cons_succ, List.getElem?_cons_zero]; rfl) (by kernel_rfl) (by kernel_rfl) (by kernel_rfl) (by exact fun _ _ _ h => h) (Or.inl ⟨by rfl, ?_⟩) hOn ?_
    rotate_left
    focus (intro W hSW; go_simp; try with_reducible rfl)
    try simp only [Act.put, List.setIfInBounds_toArray, List.set_cons_zero, List.set_cons_succ]
    refine wpAnyH_take (i := 26) (v := ?_) (by simp only [List.getElem?_toArray, List.getElem?_cons_succ, List.getElem?_cons_zero]; rfl) (by kernel_rfl) (by kernel_rfl) (by kernel_rfl) (by exact fun _ _ _ h => h) (Or.inl ⟨by rfl, ?_⟩) hOn ?_
    rotate_left
    focus (intro W hSW; go_simp; try with_reducible rfl)
    try simp only [Act.put, List.setIfInBounds_toArray, List.set_cons_zero, List.set_cons_succ]
    refine wpAnyH_ready (rs := [27]) (by kernel_rfl) (by simp) ?_
    refine AllReadyH.cons (by simp only [List.getElem?_toArray, List.getElem?_cons_succ, List.getElem?_cons_zero]; rfl) (fun Kz hKz => ?_) AllReadyH.nil
    have hU15 := Lib.hid ((Upd.refl hU14.out.here).setCell (j := 34) (.int .i64 ((E : Int) + (FL : Int))))
    go_simp
    (with_reducible refine setCell_step ?_)
    intro w15 hw15
    rw [← hw15] at hU15
    clear hw15
    have hS := (hU15.out.block g hgJ).trans hOn
    refine hKz.out _ _ (by first | exact hS | exact Below.trans hOn (Below.mono hnew (Below.size hOn))) (fun hNext => ?_)
    clear hKz Kz hOn
    have hOn := hNext
    clear hNext
    try clear hnew
    try clear hS
    try simp only [Act.put]
    refine wpAnyH_done (by kernel_rfl) ?_ _
    rotate_left
    refine AllReadyH.cons (by simp only [List.getElem?_toArray, List.getElem?_cons_succ, List.getElem?_cons_zero]; rfl) (fun Kz hKz => ?_) AllReadyH.nil
    go_simp
    focus (try go_wp2_with fail)
    refine hKz.out _ _ (by first | exact hOn | exact Grown.alloc hOn _ | exact Below.alloc hOn (Below.size hOn) _ | exact Grown.alloc (Grown.refl _) _) (fun hNext => ?_)
    clear hKz Kz hOn
    have hOn := hNext
    clear hNext
    try simp only [Act.put, List.setIfInBounds_toArray, List.set_cons_zero, List.set_cons_succ]
    refine wpAnyH_take (i := 18) (v := ?_) (by simp only [List.getElem?_toArray, List.getElem?_cons_succ, List.getElem?_cons_zero]; rfl) (by kernel_rfl) (by kernel_rfl) (by kernel_rfl) (by exact fun _ _ _ h => h) (Or.inl ⟨by rfl, ?_⟩) hOn ?_
    rotate_left
    focus (intro W hSW; go_simp; try with_reducible rfl)
    try simp only [Act.put, List.setIfInBounds_toArray, List.set_cons_zero, List.set_cons_succ]
    refine wpAnyH_ready (rs := [10]) (by kernel_rfl) (by simp) ?_
    refine AllReadyH.cons (by simp only [List.getElem?_toArray, List.getElem?_cons_succ, List.getElem?_cons_zero]; rfl) (fun Kz hKz => ?_) AllReadyH.nil
    rw [if_pos (by rfl)]
    (refine wpK_appRowsAt liesRB (.tmp 52) (.tmp 55) 23 rfl hus 24 hinfo.out (by decide) rfl hrow11 r _ hyB hFB haB hlB w10.heap.size rfl hx11 hrl (by decide) hbs11 ?_)
    intro v12 w12 hr12 hO12 hM12
    have hS := hO12.out.heap hOn hgv
    have hat12 := Lib.hid (hO12.out.heap hat11.out (fun hd => hst9.out.ok.jm.nv hd))
    have k1c : w12.cell? ⟨J, 1, none⟩ = some (.slice ra recs.length rc) := (by rw [cell_of_block hat12.out]; exact jc1)
    have k34c : w12.cell? ⟨J, 34, none⟩ = some (.int .i64 (E : Nat)) := (by rw [cell_of_block hat12.out]; exact jc34 hH)
    have f1c : w12.frozen? ⟨J, 1, none⟩ = false := free_of_block hat12.out _
    obtain ⟨a12, n12, c12, hv12⟩ : ∃ a n c, v12 = .slice a n c := (by obtain ⟨a, c, e, _⟩ := hr12.out.form; exact ⟨a, _, c, e⟩)
    subst hv12
    refine hKz.out _ _ (by first | exact hS | exact Below.trans hOn (Below.mono hnew (Below.size hOn))) (fun hNext => ?_)
    clear hKz Kz hOn
    have hOn := hNext
    clear hNext
    try clear hnew
    try clear hS
    try simp only [Act.put]
    refine wpAnyH_take (i := 19) (v := ?_) (by simp only [List.getElem?_toArray, List.getElem?_cons_succ, List.getElem?_cons_zero]; rfl) (by kernel_rfl) (by kernel_rfl) (by kernel_rfl) (by exact fun _ _ _ h => h) (Or.inl ⟨by rfl, ?_⟩) hOn ?_
    rotate_left
    focus (intro W hSW; go_simp; try with_reducible rfl)
    try simp only [Act.put, List.setIfInBounds_toArray, List.set_cons_zero, List.set_cons_succ]
    refine wpAnyH_take (i := 20) (v := ?_) (by simp only [List.getElem?_toArray, List.getElem?_cons_succ, List.getElem?_cons_zero]; rfl) (by kernel_rfl) (by kernel_rfl) (by kernel_rfl) (by exact fun _ _ _ h => h) (Or.inl ⟨by rfl, ?_⟩) hOn ?_
    rotate_left
    focus (intro W hSW; go_simp; try with_reducible rfl)
    try simp only [Act.put, List.setIfInBounds_toArray, List.set_cons_zero, List.set_cons_succ]
    refine wpAnyH_ready (rs := [21]) (by kernel_rfl) (by simp) ?_
    refine AllReadyH.cons (by simp only [List.getElem?_toArray, List.getElem?_cons_succ, List.getElem?_cons_zero]; rfl) (fun Kz hKz => ?_) AllReadyH.nil
    have hU13 := ((Upd.refl hat12.out).setCell (j := 1) (.slice a12 n12 c12))
    go_simp
    (with_reducible refine setCell_step ?_)
    intro w13 hw13
    rw [← hw13, jset1] at hU13
    clear hw13
    have hS := (hU13.block g hgJ).trans hOn
    replace hU13 := Lib.hid hU13
    have hth := Lib.hid (show w13.there J 2 N.size from there_block hU13.out.here (by rw [jcells_size hH, hN.out, List.size_toArray, cB_length, hNl]; decide))
    refine hKz.out _ _ (by first | exact hS | exact Below.trans hOn (Below.mono hnew (Below.size hOn))) (fun hNext => ?_)
    clear hKz Kz hOn
    have hOn := hNext
    clear hNext
    try clear hnew
    try clear hS
    try simp only [Act.put]
    refine wpAnyH_take (i := 22) (v := ?_) (by simp only [List.getElem?_toArray, List.getElem?_cons_succ, List.getElem?_cons_zero]; rfl) (by kernel_rfl) (by kernel_rfl) (by kernel_rfl) (by exact fun _ _ _ h => h) (Or.inl ⟨by rfl, ?_⟩) hOn ?_
    rotate_left
    focus (intro W hSW; go_simp; try with_reducible rfl)
    try simp only [Act.put, List.setIfInBounds_toArray, List.set_cons_zero, List.set_cons_succ]
    refine wpAnyH_take (i := 23) (v := ?_) (by simp only [List.getElem?_toArray, List.getElem?_cons_succ, List.getElem?_cons_zero]; rfl) (by kernel_rfl) (by kernel_rfl) (by kernel_rfl) (by exact fun _ _ _ h => h) (Or.inl ⟨by rfl, ?_⟩) hOn ?_
    rotate_left
    focus (intro W hSW; go_simp; try with_reducible rfl)
    try simp only [Act.put, List.setIfInBounds_toArray, List.set_cons_zero, List.set_cons_succ]
    refine wpAnyH_ready (rs := [24]) (by kernel_rfl) (by simp) ?_
    refine AllReadyH.cons (by simp only [List.getElem?_toArray, List.getElem?_cons_succ, List.getElem?_cons_zero]; rfl) (fun Kz hKz => ?_) AllReadyH.nil
    rw [if_pos (by rfl)]
    have hU14 := (upd_setCells N.toList 2 (Upd.refl hU13.out.here))
    (refine wp_store_mid 32 (.tmp 68) (.tmp 57) rfl J 2 N rfl rfl hth.out tD tO ?_)
    (with_reducible refine setCells_step ?_)
    intro w14 hw14
    rw [← hw14, hNL.out, jsetH hH hNl] at hU14
    clear hw14
    have hS := (hU14.block g hgJ).trans hOn
    replace hU14 := Lib.hid hU14
    have k34c : w14.cell? ⟨J, 34, none⟩ = some (.int .i64 (E : Nat)) := (by rw [cell_of_block hU14.out.here]; exact jc34 hNl)
    have f34c : w14.frozen? ⟨J, 34, none⟩ = false := free_of_block hU14.out.here _
    refine hKz.out _ _ (by first | exact hS | exact Below.trans hOn (Below.mono hnew (Below.size hOn))) (fun hNext => ?_)
    clear hKz Kz hOn
    have hOn := hNext
    clear hNext
    try clear hnew
    try clear hS
    try simp only [Act.put]
    refine wpAnyH_take (i := 25) (v := ?_) (by simp only [List.getElem?_toArray, List.getElem?_cons_succ, List.getElem?_cons_zero]; rfl) (by kernel_rfl) (by kernel_rfl) (by kernel_rfl) (by exact fun _ _ _ h => h) (Or.inl ⟨by rfl, ?_⟩) hOn ?_
    rotate_left
    focus (intro W hSW; go_simp; try with_reducible rfl)
    try simp only [Act.put, List.setIfInBounds_toArray, List.set_cons_zero, List.set_cons_succ]
    refine wpAnyH_take (i := 26) (v := ?_) (by simp only [List.getElem?_toArray, List.getElem?_cons_succ, List.getElem?_cons_zero]; rfl) (by kernel_rfl) (by kernel_rfl) (by kernel_rfl) (by exact fun _ _ _ h => h) (Or.inl ⟨by rfl, ?_⟩) hOn ?_
    rotate_left
    focus (intro W hSW; go_simp; try with_reducible rfl)
    try simp only [Act.put, List.setIfInBounds_toArray, List.set_cons_zero, List.set_cons_succ]
    refine wpAnyH_ready (rs := [27]) (by kernel_rfl) (by simp) ?_
    refine AllReadyH.cons (by simp only [List.getElem?_toArray, List.getElem?_cons_succ, List.getElem?_cons_zero]; rfl) (fun Kz hKz => ?_) AllReadyH.nil
    have hU15 := Lib.hid ((Upd.refl hU14.out.here).setCell (j := 34) (.int .i64 ((E : Int) + (FL : Int))))
    go_simp
    (with_reducible refine setCell_step ?_)
    intro w15 hw15
    rw [← hw15] at hU15
    clear hw15
    have hS := (hU15.out.block g hgJ).trans hOn
    refine hKz.out _ _ (by first | exact hS | exact Below.trans hOn (Below.mono hnew (Below.size hOn))) (fun hNext => ?_)
    clear hKz Kz hOn
    have hOn := hNext
    clear hNext
    try clear hnew
    try clear hS
    try simp only [Act.put]
    refine wpAnyH_done (by kernel_rfl) ?_ _
    rotate_left
    refine AllReadyH.cons (by simp only [List.getElem?_toArray, List.getElem?_cons_succ, List.getElem?_cons_zero]; rfl) (fun Kz hKz => ?_) AllReadyH.nil
    go_simp
    focus (try go_wp2_with fail)
    refine hKz.out _ _ (by first | exact hOn | exact Grown.alloc hOn _ | exact Below.alloc hOn (Below.size hOn) _ | exact Grown.alloc (Grown.refl _) _) (fun hNext => ?_)
    clear hKz Kz hOn
    have hOn := hNext
    clear hNext
    try simp only [Act.put, List.setIfInBounds_toArray, List.set_cons_zero, List.set_cons_succ]
    refine wpAnyH_take (i := 18) (v := ?_) (by simp only [List.getElem?_toArray, List.getElem?_cons_succ, List.getElem?_cons_zero]; rfl) (by kernel_rfl) (by kernel_rfl) (by kernel_rfl) (by exact fun _ _ _ h => h) (Or.inl ⟨by rfl, ?_⟩) hOn ?_
    rotate_left
    focus (intro W hSW; go_simp; try with_reducible rfl)
    try simp only [Act.put, List.setIfInBounds_toArray, List.set_cons_zero, List.set_cons_succ]
    refine wpAnyH_ready (rs := [9]) (by kernel_rfl) (by simp) ?_
    refine AllReadyH.cons (by simp only [List.getElem?_toArray, List.getElem?_cons_succ, List.getElem?_cons_zero]; rfl) (fun Kz hKz => ?_) AllReadyH.nil
    go_simp
    focus (try go_wp2_with fail)
    (with_reducible refine made_step (t := 22) ?_)
    intro w11 hx11 hnew
    have hS := (hnew.block g (block_lt hOn)).trans hOn
    have hat11 := Lib.hid ((hnew.block J (block_lt hat10.out)).trans hat10.out)
    have hb11 := Lib.hid (hb10.out.trans (hnew.mono hb10.out.size))
    have ho11 := Lib.hid (OwnB.below ho10.out hnew (Nat.le_refl _))
    have hrow11 := Lib.hid (hrow9.out.below liesRB hb11.out)
    have hbs11 : base ≤ w11.heap.size := Nat.le_trans hb9 hb11.out.size
    have hyB := Lib.hid (show RB w11 (fun k => F k ∨ k = g10) r (#[Value.slice (some ⟨g10, 0, none⟩) r.length c10] : Array Value).toList from liesRB.more (rb_own ho11.out) (fun k h => by cases h; exact .inr rfl))
    have hFB := Lib.hid (show ∀ k, F k → F k ∨ k = g10 from fun k h => .inl h)
    have haB := Lib.hid (show ∀ k, (Value.slice ra recs.length rc).ownBlock = some k → ¬ (F k ∨ k = g10) from fun k hk h => h.elim (hrow9.out.apart k hk) (fun h => by have := (hrow9.out.ownLt k hk).2; omega))
    have hlB := Lib.hid (show ∀ k, F k ∨ k = g10 → k < w11.heap.size from fun k h => h.elim (fun h => hrow11.out.lt k h) (fun h => h ▸ (World.ownsRow.lt ho11.out g10 rfl).2))
    have k1c : w11.cell? ⟨J, 1, none⟩ = some (.slice ra recs.length rc) := (by rw [cell_of_block hat11.out]; exact jc1)
    have k34c : w11.cell? ⟨J, 34, none⟩ = some (.int .i64 (E : Nat)) := (by rw [cell_of_block hat11.out]; exact jc34 hH)
    refine hKz.out _ _ (by first | exact hS | exact Below.trans hOn (Below.mono hnew (Below.size hOn))) (fun hNext => ?_)
    clear hKz Kz hOn
    have hOn := hNext
    clear hNext
    try clear hnew
    try clear hS
    try simp only [Act.put, List.setIfInBounds_toArray, List.set_cons_zero, List.set_cons_succ]
    refine wpAnyH_ready (rs := [10]) (by kernel_rfl) (by simp) ?_
    refine AllReadyH.cons (by simp only [List.getElem?_toArray, List.getElem?_cons_succ, List.getElem?_cons_zero]; rfl) (fun Kz hKz => ?_) AllReadyH.nil
    rw [if_pos (by rfl)]
    (refine wpK_appRowsAt liesRB (.tmp 52) (.tmp 55) 23 rfl hus 24 hinfo.out (by decide) rfl hrow11 r _ hyB hFB haB hlB w10.heap.size rfl hx11 hrl (by decide) hbs11 ?_)
    intro v12 w12 hr12 hO12 hM12
    have hS := hO12.out.heap hOn hgv
    have hat12 := Lib.hid (hO12.out.heap hat11.out (fun hd => hst9.out.ok.jm.nv hd))
    have k1c : w12.cell? ⟨J, 1, none⟩ = some (.slice ra recs.length rc) := (by rw [cell_of_block hat12.out]; exact jc1)
    have k34c : w12.cell? ⟨J, 34, none⟩ = some (.int .i64 (E : Nat)) := (by rw [cell_of_block hat12.out]; exact jc34 hH)
    have f1c : w12.frozen? ⟨J, 1, none⟩ = false := free_of_block hat12.out _
    obtain ⟨a12, n12, c12, hv12⟩ : ∃ a n c, v12 = .slice a n c := (by obtain ⟨a, c, e, _⟩ := hr12.out.form; exact ⟨a, _, c, e⟩)
    subst hv12
    refine hKz.out _ _ (by first | exact hS | exact Below.trans hOn (Below.mono hnew (Below.size hOn))) (fun hNext => ?_)
    clear hKz Kz hOn
    have hOn := hNext
    clear hNext
    try clear hnew
    try clear hS
    try simp only [Act.put]
    refine wpAnyH_take (i := 19) (v := ?_) (by simp only [List.getElem?_toArray, List.getElem?_cons_succ, List.getElem?_cons_zero]; rfl) (by kernel_rfl) (by kernel_rfl) (by kernel_rfl) (by exact fun _ _ _ h => h) (Or.inl ⟨by rfl, ?_⟩) hOn ?_
    rotate_left
    focus (intro W hSW; go_simp; try with_reducible rfl)
    try simp only [Act.put, List.setIfInBounds_toArray, List.set_cons_zero, List.set_cons_succ]
    refine wpAnyH_take (i := 20) (v := ?_) (by simp only [List.getElem?_toArray, List.getElem?_cons_succ, List.getElem?_cons_zero]; rfl) (by kernel_rfl) (by kernel_rfl) (by kernel_rfl) (by exact fun _ _ _ h => h) (Or.inl ⟨by rfl, ?_⟩) hOn ?_
    rotate_left
    focus (intro W hSW; go_simp; try with_reducible rfl)
    try simp only [Act.put, List.setIfInBounds_toArray, List.set_cons_zero, List.set_cons_succ]
    refine wpAnyH_ready (rs := [21]) (by kernel_rfl) (by simp) ?_
    refine AllReadyH.cons (by simp only [List.getElem?_toArray, List.getElem?_cons_succ, List.getElem?_cons_zero]; rfl) (fun Kz hKz => ?_) AllReadyH.nil
    have hU13 := ((Upd.refl hat12.out).setCell (j := 1) (.slice a12 n12 c12))
    go_simp
    (with_reducible refine setCell_step ?_)
    intro w13 hw13
    rw [← hw13, jset1] at hU13
    clear hw13
    have hS := (hU13.block g hgJ).trans hOn
    replace hU13 := Lib.hid hU13
    have hth := Lib.hid (show w13.there J 2 N.size from there_block hU13.out.here (by rw [jcells_size hH, hN.out, List.size_toArray, cB_length, hNl]; decide))
    refine hKz.out _ _ (by first | exact hS | exact Below.trans hOn (Below.mono hnew (Below.size hOn))) (fun hNext => ?_)
    clear hKz Kz hOn
    have hOn := hNext
    clear hNext
    try clear hnew
    try clear hS
    try simp only [Act.put]
    refine wpAnyH_take (i := 22) (v := ?_) (by simp only [List.getElem?_toArray, List.getElem?_cons_succ, List.getElem?_cons_zero]; rfl) (by kernel_rfl) (by kernel_rfl) (by kernel_rfl) (by exact fun _ _ _ h => h) (Or.inl ⟨by rfl, ?_⟩) hOn ?_
    rotate_left
    focus (intro W hSW; go_simp; try with_reducible rfl)
    try simp only [Act.put, List.setIfInBounds_toArray, List.set_cons_zero, List.set_cons_succ]
    refine wpAnyH_take (i := 23) (v := ?_) (by simp only [List.getElem?_toArray, List.getElem?_cons_succ, List.getElem?_cons_zero]; rfl) (by kernel_rfl) (by kernel_rfl) (by kernel_rfl) (by exact fun _ _ _ h => h) (Or.inl ⟨by rfl, ?_⟩) hOn ?_
    rotate_left
    focus (intro W hSW; go_simp; try with_reducible rfl)
    try simp only [Act.put, List.setIfInBounds_toArray, List.set_cons_zero, List.set_cons_succ]
    refine wpAnyH_ready (rs := [24]) (by kernel_rfl) (by simp) ?_
    refine AllReadyH.cons (by simp only [List.getElem?_toArray, List.getElem?_cons_succ, List.getElem?_cons_zero]; rfl) (fun Kz hKz => ?_) AllReadyH.nil
    rw [if_pos (by rfl)]
    have hU14 := (upd_setCells N.toList 2 (Upd.refl hU13.out.here))
    (refine wp_store_mid 32 (.tmp 68) (.tmp 57) rfl J 2 N rfl rfl hth.out tD tO ?_)
    (with_reducible refine setCells_step ?_)
    intro w14 hw14
    rw [← hw14, hNL.out, jsetH hH hNl] at hU14
    clear hw14
    have hS := (hU14.block g hgJ).trans hOn
    replace hU14 := Lib.hid hU14
    have k34c : w14.cell? ⟨J, 34, none⟩ = some (.int .i64 (E : Nat)) := (by rw [cell_of_block hU14.out.here]; exact jc34 hNl)
    have f34c : w14.frozen? ⟨J, 34, none⟩ = false := free_of_block hU14.out.here _
    refine hKz.out _ _ (by first | exact hS | exact Below.trans hOn (Below.mono hnew (Below.size hOn))) (fun hNext => ?_)
    clear hKz Kz hOn
    have hOn := hNext
    clear hNext
    try clear hnew
    try clear hS
    try simp only [Act.put]
    refine wpAnyH_take (i := 25) (v := ?_) (by simp only [List.getElem?_toArray, List.getElem?_cons_succ, List.getElem?_cons_zero]; rfl) (by kernel_rfl) (by kernel_rfl) (by kernel_rfl) (by exact fun _ _ _ h => h) (Or.inl ⟨by rfl, ?_⟩) hOn ?_
    rotate_left
    focus (intro W hSW; go_simp; try with_reducible rfl)
    try simp only [Act.put, List.setIfInBounds_toArray, List.set_cons_zero, List.set_cons_succ]
    refine wpAnyH_take (i := 26) (v := ?_) (by simp only [List.getElem?_toArray, List.getElem?_cons_succ, List.getElem?_cons_zero]; rfl) (by kernel_rfl) (by kernel_rfl) (by kernel_rfl) (by exact fun _ _ _ h => h) (Or.inl ⟨by rfl, ?_⟩) hOn ?_
    rotate_left
    focus (intro W hSW; go_simp; try with_reducible rfl)
    try simp only [Act.put, List.setIfInBounds_toArray, List.set_cons_zero, List.set_cons_succ]
    refine wpAnyH_ready (rs := [27]) (by kernel_rfl) (by simp) ?_
    refine AllReadyH.cons (by simp only [List.getElem?_toArray, List.getElem?_cons_succ, List.getElem?_cons_zero]; rfl) (fun Kz hKz => ?_) AllReadyH.nil
    have hU15 := Lib.hid ((Upd.refl hU14.out.here).setCell (j := 34) (.int .i64 ((E : Int) + (FL : Int))))
    go_simp
    (with_reducible refine setCell_step ?_)
    intro w15 hw15
    rw [← hw15] at hU15
    clear hw15
    have hS := (hU15.out.block g hgJ).trans hOn
    refine hKz.out _ _ (by first | exact hS | exact Below.trans hOn (Below.mono hnew (Below.size hOn))) (fun hNext => ?_)
    clear hKz Kz hOn
    have hOn := hNext
    clear hNext
    try clear hnew
    try clear hS
    try simp only [Act.put]
    refine wpAnyH_done (by kernel_rfl) ?_ _
    rotate_left
    refine AllReadyH.cons (by simp only [List.getElem?_toArray, List.getElem?_cons_succ, List.getElem?_cons_zero]; rfl) (fun Kz hKz => ?_) AllReadyH.nil
    go_simp
    focus (try go_wp2_with fail)
    refine hKz.out _ _ (by first | exact hOn | exact Grown.alloc hOn _ | exact Below.alloc hOn (Below.size hOn) _ | exact Grown.alloc (Grown.refl _) _) (fun hNext => ?_)
    clear hKz Kz hOn
    have hOn := hNext
    clear hNext
    try simp only [Act.put, List.setIfInBounds_toArray, List.set_cons_zero, List.set_cons_succ]
    refine wpAnyH_take (i := 18) (v := ?_) (by simp only [List.getElem?_toArray, List.getElem?_cons_succ, List.getElem?_cons_zero]; rfl) (by kernel_rfl) (by kernel_rfl) (by kernel_rfl) (by exact fun _ _ _ h => h) (Or.inl ⟨by rfl, ?_⟩) hOn ?_
    rotate_left
    focus (intro W hSW; go_simp; try with_reducible rfl)
    try simp only [Act.put, List.setIfInBounds_toArray, List.set_cons_zero, List.set_cons_succ]
    refine wpAnyH_ready (rs := [8]) (by kernel_rfl) (by simp) ?_
    refine AllReadyH.cons (by simp only [List.getElem?_toArray, List.getElem?_cons_succ, List.getElem?_cons_zero]; rfl) (fun Kz hKz => ?_) AllReadyH.nil
    go_simp
    (with_reducible refine hcl.out.mono ?_)
    rintro y w10 ⟨v10, rfl, ho10, hnew⟩
    have hS := (hnew.block g (block_lt hOn)).trans hOn
    have hat10 := Lib.hid ((hnew.block J (block_lt hatd.out)).trans hatd.out)
    have hb10 := Lib.hid hnew
    obtain ⟨g10, c10, rfl, hg10⟩ := OwnB.form ho10 g1
    have ho10 := Lib.hid ho10
    have k1c : w10.cell? ⟨J, 1, none⟩ = some (.slice ra recs.length rc) := (by rw [cell_of_block hat10.out]; exact jc1)
    have k34c : w10.cell? ⟨J, 34, none⟩ = some (.int .i64 (E : Nat)) := (by rw [cell_of_block hat10.out]; exact jc34 hH)
    focus (go_wp2_with fail)
    refine hKz.out _ _ (by first | exact hS | exact Below.trans hOn (Below.mono hnew (Below.size hOn))) (fun hNext => ?_)
    clear hKz Kz hOn
    have hOn := hNext
    clear hNext
    try clear hnew
    try clear hS
    try simp only [Act.put, List.setIfInBounds_toArray, List.set_cons_zero, List.set_cons_succ]
    refine wpAnyH_ready (rs := [9]) (by kernel_rfl) (by simp) ?_
    refine AllReadyH.cons (by simp only [List.getElem?_toArray, List.getElem?_cons_succ, List.getElem?_cons_zero]; rfl) (fun Kz hKz => ?_) AllReadyH.nil
    go_simp
    focus (try go_wp2_with fail)
    (with_reducible refine made_step (t := 22) ?_)
    intro w11 hx11 hnew
    have hS := (hnew.block g (block_lt hOn)).trans hOn
    have hat11 := Lib.hid ((hnew.block J (block_lt hat10.out)).trans hat10.out)
    have hb11 := Lib.hid (hb10.out.trans (hnew.mono hb10.out.size))
    have ho11 := Lib.hid (OwnB.below ho10.out hnew (Nat.le_refl _))
    have hrow11 := Lib.hid (hrow9.out.below liesRB hb11.out)
    have hbs11 : base ≤ w11.heap.size := Nat.le_trans hb9 hb11.out.size
    have hyB := Lib.hid (show RB w11 (fun k => F k ∨ k = g10) r (#[Value.slice (some ⟨g10, 0, none⟩) r.length c10] : Array Value).toList from liesRB.more (rb_own ho11.out) (fun k h => by cases h; exact .inr rfl))
    have hFB := Lib.hid (show ∀ k, F k → F k ∨ k = g10 from fun k h => .inl h)
    have haB := Lib.hid (show ∀ k, (Value.slice ra recs.length rc).ownBlock = some k → ¬ (F k ∨ k = g10) from fun k hk h => h.elim (hrow9.out.apart k hk) (fun h => by have := (hrow9.out.ownLt k hk).2; omega))
    have hlB := Lib.hid (show ∀ k, F k ∨ k = g10 → k < w11.heap.size from fun k h => h.elim (fun h => hrow11.out.lt k h) (fun h => h ▸ (World.ownsRow.lt ho11.out g10 rfl).2))
    have k1c : w11.cell? ⟨J, 1, none⟩ = some (.slice ra recs.length rc) := (by rw [cell_of_block hat11.out]; exact jc1)
    have k34c : w11.cell? ⟨J, 34, none⟩ = some (.int .i64 (E : Nat)) := (by rw [cell_of_block hat11.out]; exact jc34 hH)
    refine hKz.out _ _ (by first | exact hS | exact Below.trans hOn (Below.mono hnew (Below.size hOn))) (fun hNext => ?_)
    clear hKz Kz hOn
    have hOn := hNext
    clear hNext
    try clear hnew
    try clear hS
    try simp only [Act.put, List.setIfInBounds_toArray, List.set_cons_zero, List.set_cons_succ]
    refine wpAnyH_ready (rs := [10]) (by kernel_rfl) (by simp) ?_
    refine AllReadyH.cons (by simp only [List.getElem?_toArray, List.getElem?_cons_succ, List.getElem?_cons_zero]; rfl) (fun Kz hKz => ?_) AllReadyH.nil
    rw [if_pos (by rfl)]
    (refine wpK_appRowsAt liesRB (.tmp 52) (.tmp 55) 23 rfl hus 24 hinfo.out (by decide) rfl hrow11 r _ hyB hFB haB hlB w10.heap.size rfl hx11 hrl (by decide) hbs11 ?_)
    intro v12 w12 hr12 hO12 hM12
    have hS := hO12.out.heap hOn hgv
    have hat12 := Lib.hid (hO12.out.heap hat11.out (fun hd => hst9.out.ok.jm.nv hd))
    have k1c : w12.cell? ⟨J, 1, none⟩ = some (.slice ra recs.length rc) := (by rw [cell_of_block hat12.out]; exact jc1)
    have k34c : w12.cell? ⟨J, 34, none⟩ = some (.int .i64 (E : Nat)) := (by rw [cell_of_block hat12.out]; exact jc34 hH)
    have f1c : w12.frozen? ⟨J, 1, none⟩ = false := free_of_block hat12.out _
    obtain ⟨a12, n12, c12, hv12⟩ : ∃ a n c, v12 = .slice a n c := (by obtain ⟨a, c, e, _⟩ := hr12.out.form; exact ⟨a, _, c, e⟩)
    subst hv12
    refine hKz.out _ _ (by first | exact hS | exact Below.trans hOn (Below.mono hnew (Below.size hOn))) (fun hNext => ?_)
    clear hKz Kz hOn
    have hOn := hNext
    clear hNext
    try clear hnew
    try clear hS
    try simp only [Act.put]
    refine wpAnyH_take (i := 19) (v := ?_) (by simp only [List.getElem?_toArray, List.getElem?_cons_succ, List.getElem?_cons_zero]; rfl) (by kernel_rfl) (by kernel_rfl) (by kernel_rfl) (by exact fun _ _ _ h => h) (Or.inl ⟨by rfl, ?_⟩) hOn ?_
    rotate_left
    focus (intro W hSW; go_simp; try with_reducible rfl)
    try simp only [Act.put, List.setIfInBounds_toArray, List.set_cons_zero, List.set_cons_succ]
    refine wpAnyH_take (i := 20) (v := ?_) (by simp only [List.getElem?_toArray, List.getElem?_cons_succ, List.getElem?_cons_zero]; rfl) (by kernel_rfl) (by kernel_rfl) (by kernel_rfl) (by exact fun _ _ _ h => h) (Or.inl ⟨by rfl, ?_⟩) hOn ?_
    rotate_left
    focus (intro W hSW; go_simp; try with_reducible rfl)
    try simp only [Act.put, List.setIfInBounds_toArray, List.set_cons_zero, List.set_cons_succ]
    refine wpAnyH_ready (rs := [21]) (by kernel_rfl) (by simp) ?_
    refine AllReadyH.cons (by simp only [List.getElem?_toArray, List.getElem?_cons_succ, List.getElem?_cons_zero]; rfl) (fun Kz hKz => ?_) AllReadyH.nil
    have hU13 := ((Upd.refl hat12.out).setCell (j := 1) (.slice a12 n12 c12))
    go_simp
    (with_reducible refine setCell_step ?_)
    intro w13 hw13
    rw [← hw13, jset1] at hU13
    clear hw13
    have hS := (hU13.block g hgJ).trans hOn
    replace hU13 := Lib.hid hU13
    have hth := Lib.hid (show w13.there J 2 N.size from there_block hU13.out.here (by rw [jcells_size hH, hN.out, List.size_toArray, cB_length, hNl]; decide))
    refine hKz.out _ _ (by first | exact hS | exact Below.trans hOn (Below.mono hnew (Below.size hOn))) (fun hNext => ?_)
    clear hKz Kz hOn
    have hOn := hNext
    clear hNext
    try clear hnew
    try clear hS
    try simp only [Act.put]
    refine wpAnyH_take (i := 22) (v := ?_) (by simp only [List.getElem?_toArray, List.getElem?_cons_succ, List.getElem?_cons_zero]; rfl) (by kernel_rfl) (by kernel_rfl) (by kernel_rfl) (by exact fun _ _ _ h => h) (Or.inl ⟨by rfl, ?_⟩) hOn ?_
    rotate_left
    focus (intro W hSW; go_simp; try with_reducible rfl)
    try simp only [Act.put, List.setIfInBounds_toArray, List.set_cons_zero, List.set_cons_succ]
    refine wpAnyH_take (i := 23) (v := ?_) (by simp only [List.getElem?_toArray, List.getElem?_cons_succ, List.getElem?_cons_zero]; rfl) (by kernel_rfl) (by kernel_rfl) (by kernel_rfl) (by exact fun _ _ _ h => h) (Or.inl ⟨by rfl, ?_⟩) hOn ?_
    rotate_left
    focus (intro W hSW; go_simp; try with_reducible rfl)
    try simp only [Act.put, List.setIfInBounds_toArray, List.set_cons_zero, List.set_cons_succ]
    refine wpAnyH_ready (rs := [24]) (by kernel_rfl) (by simp) ?_
    refine AllReadyH.cons (by simp only [List.getElem?_toArray, List.getElem?_cons_succ, List.getElem?_cons_zero]; rfl) (fun Kz hKz => ?_) AllReadyH.nil
    rw [if_pos (by rfl)]
    have hU14 := (upd_setCells N.toList 2 (Upd.refl hU13.out.here))
    (refine wp_store_mid 32 (.tmp 68) (.tmp 57) rfl J 2 N rfl rfl hth.out tD tO ?_)
    (with_reducible refine setCells_step ?_)
    intro w14 hw14
    rw [← hw14, hNL.out, jsetH hH hNl] at hU14
    clear hw14
    have hS := (hU14.block g hgJ).trans hOn
    replace hU14 := Lib.hid hU14
    have k34c : w14.cell? ⟨J, 34, none⟩ = some (.int .i64 (E : Nat)) := (by rw [cell_of_block hU14.out.here]; exact jc34 hNl)
    have f34c : w14.frozen? ⟨J, 34, none⟩ = false := free_of_block hU14.out.here _
    refine hKz.out _ _ (by first | exact hS | exact Below.trans hOn (Below.mono hnew (Below.size hOn))) (fun hNext => ?_)
    clear hKz Kz hOn
    have hOn := hNext
    clear hNext
    try clear hnew
    try clear hS
    try simp only [Act.put]
    refine wpAnyH_take (i := 25) (v := ?_) (by simp only [List.getElem?_toArray, List.getElem?_cons_succ, List.getElem?_cons_zero]; rfl) (by kernel_rfl) (by kernel_rfl) (by kernel_rfl) (by exact fun _ _ _ h => h) (Or.inl ⟨by rfl, ?_⟩) hOn ?_
    rotate_left
    focus (intro W hSW; go_simp; try with_reducible rfl)
    try simp only [Act.put, List.setIfInBounds_toArray, List.set_cons_zero, List.set_cons_succ]
    refine wpAnyH_take (i := 26) (v := ?_) (by simp only [List.getElem?_toArray, List.getElem?_cons_succ, List.getElem?_cons_zero]; rfl) (by kernel_rfl) (by kernel_rfl) (by kernel_rfl) (by exact fun _ _ _ h => h) (Or.inl ⟨by rfl, ?_⟩) hOn ?_
    rotate_left
    focus (intro W hSW; go_simp; try with_reducible rfl)
    try simp only [Act.put, List.setIfInBounds_toArray, List.set_cons_zero, List.set_cons_succ]
    refine wpAnyH_ready (rs := [27]) (by kernel_rfl) (by simp) ?_
    refine AllReadyH.cons (by simp only [List.getElem?_toArray, List.getElem?_cons_succ, List.getElem?_cons_zero]; rfl) (fun Kz hKz => ?_) AllReadyH.nil
    have hU15 := Lib.hid ((Upd.refl hU14.out.here).setCell (j := 34) (.int .i64 ((E : Int) + (FL : Int))))
    go_simp
    (with_reducible refine setCell_step ?_)
    intro w15 hw15
    rw [← hw15] at hU15
    clear hw15
    have hS := (hU15.out.block g hgJ).trans hOn
    refine hKz.out _ _ (by first | exact hS | exact Below.trans hOn (Below.mono hnew (Below.size hOn))) (fun hNext => ?_)
    clear hKz Kz hOn
    have hOn := hNext
    clear hNext
    try clear hnew
    try clear hS
    try simp only [Act.put]
    refine wpAnyH_done (by kernel_rfl) ?_ _
    rotate_left
    refine AllReadyH.cons (by simp only [List.getElem?_toArray, List.getElem?_cons_succ, List.getElem?_cons_zero]; rfl) (fun Kz hKz => ?_) ?_
    go_simp
    (with_reducible refine hcl.out.mono ?_)
    rintro y w10 ⟨v10, rfl, ho10, hnew⟩
    have hS := (hnew.block g (block_lt hOn)).trans hOn
    have hat10 := Lib.hid ((hnew.block J (block_lt hatd.out)).trans hatd.out)
    have hb10 := Lib.hid hnew
    obtain ⟨g10, c10, rfl, hg10⟩ := OwnB.form ho10 g1
    have ho10 := Lib.hid ho10
    have k1c : w10.cell? ⟨J, 1, none⟩ = some (.slice ra recs.length rc) := (by rw [cell_of_block hat10.out]; exact jc1)
    have k34c : w10.cell? ⟨J, 34, none⟩ = some (.int .i64 (E : Nat)) := (by rw [cell_of_block hat10.out]; exact jc34 hH)
    focus (go_wp2_with fail)
    refine hKz.out _ _ (by first | exact hS | exact Below.trans hOn (Below.mono hnew (Below.size hOn))) (fun hNext => ?_)
    clear hKz Kz hOn
    have hOn := hNext
    clear hNext
    try clear hnew
    try clear hS
    try simp only [Act.put, List.setIfInBounds_toArray, List.set_cons_zero, List.set_cons_succ]
    refine wpAnyH_ready (rs := [6, 9, 15]) (by kernel_rfl) (by simp) ?_
    refine AllReadyH.cons (by simp only [List.getElem?_toArray, List.getElem?_cons_succ, List.getElem?_cons_zero]; rfl) (fun Kz hKz => ?_) ?_
    go_simp
    focus (try go_wp2_with fail)
    refine hKz.out _ _ (by first | exact hOn | exact Grown.alloc hOn _ | exact Below.alloc hOn (Below.size hOn) _ | exact Grown.alloc (Grown.refl _) _) (fun hNext => ?_)
    clear hKz Kz hOn
    have hOn := hNext
    clear hNext
    try simp only [Act.put, List.setIfInBounds_toArray, List.set_cons_zero, List.set_cons_succ]
    refine wpAnyH_ready (rs := [9, 15]) (by kernel_rfl) (by simp) ?_
    refine AllReadyH.cons (by simp only [List.getElem?_toArray, List.getElem?_cons_succ, List.getElem?_cons_zero]; rfl) (fun Kz hKz => ?_) ?_
    go_simp
    focus (try go_wp2_with fail)
    (with_reducible refine made_step (t := 22) ?_)
    intro w11 hx11 hnew
    have hS := (hnew.block g (block_lt hOn)).trans hOn
    have hat11 := Lib.hid ((hnew.block J (block_lt hat10.out)).trans hat10.out)
    have hb11 := Lib.hid (hb10.out.trans (hnew.mono hb10.out.size))
    have ho11 := Lib.hid (OwnB.below ho10.out hnew (Nat.le_refl _))
    have hrow11 := Lib.hid (hrow9.out.below liesRB hb11.out)
    have hbs11 : base ≤ w11.heap.size := Nat.le_trans hb9 hb11.out.size
    have hyB := Lib.hid (show RB w11 (fun k => F k ∨ k = g10) r (#[Value.slice (some ⟨g10, 0, none⟩) r.length c10] : Array Value).toList from liesRB.more (rb_own ho11.out) (fun k h => by cases h; exact .inr rfl))
    have hFB := Lib.hid (show ∀ k, F k → F k ∨ k = g10 from fun k h => .inl h)
    have haB := Lib.hid (show ∀ k, (Value.slice ra recs.length rc).ownBlock = some k → ¬ (F k ∨ k = g10) from fun k hk h => h.elim (hrow9.out.apart k hk) (fun h => by have := (hrow9.out.ownLt k hk).2; omega))
    have hlB := Lib.hid (show ∀ k, F k ∨ k = g10 → k < w11.heap.size from fun k h => h.elim (fun h => hrow11.out.lt k h) (fun h => h ▸ (World.ownsRow.lt ho11.out g10 rfl).2))
    have k1c : w11.cell? ⟨J, 1, none⟩ = some (.slice ra recs.length rc) := (by rw [cell_of_block hat11.out]; exact jc1)
    have k34c : w11.cell? ⟨J, 34, none⟩ = some (.int .i64 (E : Nat)) := (by rw [cell_of_block hat11.out]; exact jc34 hH)
    refine hKz.out _ _ (by first | exact hS | exact Below.trans hOn (Below.mono hnew (Below.size hOn))) (fun hNext => ?_)
    clear hKz Kz hOn
    have hOn := hNext
    clear hNext
    try clear hnew
    try clear hS
    try simp only [Act.put, List.setIfInBounds_toArray, List.set_cons_zero, List.set_cons_succ]
    refine wpAnyH_ready (rs := [10, 15]) (by kernel_rfl) (by simp) ?_
    refine AllReadyH.cons (by simp only [List.getElem?_toArray, List.getElem?_cons_succ, List.getElem?_cons_zero]; rfl) (fun Kz hKz => ?_) ?_
    rw [if_pos (by rfl)]
    (refine wpK_appRowsAt liesRB (.tmp 52) (.tmp 55) 23 rfl hus 24 hinfo.out (by decide) rfl hrow11 r _ hyB hFB haB hlB w10.heap.size rfl hx11 hrl (by decide) hbs11 ?_)
    intro v12 w12 hr12 hO12 hM12
    have hS := hO12.out.heap hOn hgv
    have hat12 := Lib.hid (hO12.out.heap hat11.out (fun hd => hst9.out.ok.jm.nv hd))
    have k1c : w12.cell? ⟨J, 1, none⟩ = some (.slice ra recs.length rc) := (by rw [cell_of_block hat12.out]; exact jc1)
    have k34c : w12.cell? ⟨J, 34, none⟩ = some (.int .i64 (E : Nat)) := (by rw [cell_of_block hat12.out]; exact jc34 hH)
    have f1c : w12.frozen? ⟨J, 1, none⟩ = false := free_of_block hat12.out _
    obtain ⟨a12, n12, c12, hv12⟩ : ∃ a n c, v12 = .slice a n c := (by obtain ⟨a, c, e, _⟩ := hr12.out.form; exact ⟨a, _, c, e⟩)
    subst hv12
    refine hKz.out _ _ (by first | exact hS | exact Below.trans hOn (Below.mono hnew (Below.size hOn))) (fun hNext => ?_)
    clear hKz Kz hOn
    have hOn := hNext
    clear hNext
    try clear hnew
    try clear hS
    try simp only [Act.put]
    refine wpAnyH_ready (rs := [15]) (by kernel_rfl) (by simp) ?_
    refine AllReadyH.cons (by simp only [List.getElem?_toArray, List.getElem?_cons_succ, List.getElem?_cons_zero]; rfl) (fun Kz hKz => ?_) AllReadyH.nil
    go_simp
    focus (try go_wp2_with fail)
    refine hKz.out _ _ (by first | exact hOn | exact Grown.alloc hOn _ | exact Below.alloc hOn (Below.size hOn) _ | exact Grown.alloc (Grown.refl _) _) (fun hNext => ?_)
    clear hKz Kz hOn
    have hOn := hNext
    clear hNext
    try simp only [Act.put, List.setIfInBounds_toArray, List.set_cons_zero, List.set_cons_succ]
    refine wpAnyH_take (i := 18) (v := ?_) (by simp only [List.getElem?_toArray, List.getElem?_cons_succ, List.getElem?_cons_zero]; rfl) (by kernel_rfl) (by kernel_rfl) (by kernel_rfl) (by exact fun _ _ _ h => h) (Or.inl ⟨by rfl, ?_⟩) hOn ?_
    rotate_left
    focus (intro W hSW; go_simp; try with_reducible rfl)
    try simp only [Act.put, List.setIfInBounds_toArray, List.set_cons_zero, List.set_cons_succ]
    refine wpAnyH_take (i := 19) (v := ?_) (by simp only [List.getElem?_toArray, List.getElem?_cons_succ, List.getElem?_cons_zero]; rfl) (by kernel_rfl) (by kernel_rfl) (by kernel_rfl) (by exact fun _ _ _ h => h) (Or.inl ⟨by rfl, ?_⟩) hOn ?_
    rotate_left
    focus (intro W hSW; go_simp; try with_reducible rfl)
    try simp only [Act.put, List.setIfInBounds_toArray, List.set_cons_zero, List.set_cons_succ]
    refine wpAnyH_take (i := 20) (v := ?_) (by simp only [List.getElem?_toArray, List.getElem?_cons_succ, List.getElem?_cons_zero]; rfl) (by kernel_rfl) (by kernel_rfl) (by kernel_rfl) (by exact fun _ _ _ h => h) (Or.inl ⟨by rfl, ?_⟩) hOn ?_
    rotate_left
    focus (intro W hSW; go_simp; try with_reducible rfl)
    try simp only [Act.put, List.setIfInBounds_toArray, List.set_cons_zero, List.set_cons_succ]
    refine wpAnyH_ready (rs := [21]) (by kernel_rfl) (by simp) ?_
    refine AllReadyH.cons (by simp only [List.getElem?_toArray, List.getElem?_cons_succ, List.getElem?_cons_zero]; rfl) (fun Kz hKz => ?_) AllReadyH.nil
    have hU13 := ((Upd.refl hat12.out).setCell (j := 1) (.slice a12 n12 c12))
    go_simp
    (with_reducible refine setCell_step ?_)
    intro w13 hw13
    rw [← hw13, jset1] at hU13
    clear hw13
    have hS := (hU13.block g hgJ).trans hOn
    replace hU13 := Lib.hid hU13
    have hth := Lib.hid (show w13.there J 2 N.size from there_block hU13.out.here (by rw [jcells_size hH, hN.out, List.size_toArray, cB_length, hNl]; decide))
    refine hKz.out _ _ (by first | exact hS | exact Below.trans hOn (Below.mono hnew (Below.size hOn))) (fun hNext => ?_)
    clear hKz Kz hOn
    have hOn := hNext
    clear hNext
    try clear hnew
    try clear hS
    try simp only [Act.put]
    refine wpAnyH_take (i := 22) (v := ?_) (by simp only [List.getElem?_toArray, List.getElem?_cons_succ, List.getElem?_cons_zero]; rfl) (by kernel_rfl) (by kernel_rfl) (by kernel_rfl) (by exact fun _ _ _ h => h) (Or.inl ⟨by rfl, ?_⟩) hOn ?_
    rotate_left
    focus (intro W hSW; go_simp; try with_reducible rfl)
    try simp only [Act.put, List.setIfInBounds_toArray, List.set_cons_zero, List.set_cons_succ]
    refine wpAnyH_take (i := 23) (v := ?_) (by simp only [List.getElem?_toArray, List.getElem?_cons_succ, List.getElem?_cons_zero]; rfl) (by kernel_rfl) (by kernel_rfl) (by kernel_rfl) (by exact fun _ _ _ h => h) (Or.inl ⟨by rfl, ?_⟩) hOn ?_
    rotate_left
    focus (intro W hSW; go_simp; try with_reducible rfl)
    try simp only [Act.put, List.setIfInBounds_toArray, List.set_cons_zero, List.set_cons_succ]
    refine wpAnyH_ready (rs := [24]) (by kernel_rfl) (by simp) ?_
    refine AllReadyH.cons (by simp only [List.getElem?_toArray, List.getElem?_cons_succ, List.getElem?_cons_zero]; rfl) (fun Kz hKz => ?_) AllReadyH.nil
    rw [if_pos (by rfl)]
    have hU14 := (upd_setCells N.toList 2 (Upd.refl hU13.out.here))
    (refine wp_store_mid 32 (.tmp 68) (.tmp 57) rfl J 2 N rfl rfl hth.out tD tO ?_)
    (with_reducible refine setCells_step ?_)
    intro w14 hw14
    rw [← hw14, hNL.out, jsetH hH hNl] at hU14
    clear hw14
    have hS := (hU14.block g hgJ).trans hOn
    replace hU14 := Lib.hid hU14
    have k34c : w14.cell? ⟨J, 34, none⟩ = some (.int .i64 (E : Nat)) := (by rw [cell_of_block hU14.out.here]; exact jc34 hNl)
    have f34c : w14.frozen? ⟨J, 34, none⟩ = false := free_of_block hU14.out.here _
    refine hKz.out _ _ (by first | exact hS | exact Below.trans hOn (Below.mono hnew (Below.size hOn))) (fun hNext => ?_)
    clear hKz Kz hOn
    have hOn := hNext
    clear hNext
    try clear hnew
    try clear hS
    try simp only [Act.put]
    refine wpAnyH_take (i := 25) (v := ?_) (by simp only [List.getElem?_toArray, List.getElem?_cons_succ, List.getElem?_cons_zero]; rfl) (by kernel_rfl) (by kernel_rfl) (by kernel_rfl) (by exact fun _ _ _ h => h) (Or.inl ⟨by rfl, ?_⟩) hOn ?_
    rotate_left
    focus (intro W hSW; go_simp; try with_reducible rfl)
    try simp only [Act.put, List.setIfInBounds_toArray, List.set_cons_zero, List.set_cons_succ]
    refine wpAnyH_take (i := 26) (v := ?_) (by simp only [List.getElem?_toArray, List.getElem?_cons_succ, List.getElem?_cons_zero]; rfl) (by kernel_rfl) (by kernel_rfl) (by kernel_rfl) (by exact fun _ _ _ h => h) (Or.inl ⟨by rfl, ?_⟩) hOn ?_
    rotate_left
    focus (intro W hSW; go_simp; try with_reducible rfl)
    try simp only [Act.put, List.setIfInBounds_toArray, List.set_cons_zero, List.set_cons_succ]
    refine wpAnyH_ready (rs := [27]) (by kernel_rfl) (by simp) ?_
    refine AllReadyH.cons (by simp only [List.getElem?_toArray, List.getElem?_cons_succ, List.getElem?_cons_zero]; rfl) (fun Kz hKz => ?_) AllReadyH.nil
    have hU15 := Lib.hid ((Upd.refl hU14.out.here).setCell (j := 34) (.int .i64 ((E : Int) + (FL : Int))))
    go_simp
    (with_reducible refine setCell_step ?_)
    intro w15 hw15
    rw [← hw15] at hU15
    clear hw15
    have hS := (hU15.out.block g hgJ).trans hOn
    refine hKz.out _ _ (by first | exact hS | exact Below.trans hOn (Below.mono hnew (Below.size hOn))) (fun hNext => ?_)
    clear hKz Kz hOn
    have hOn := hNext
    clear hNext
    try clear hnew
    try clear hS
    try simp only [Act.put]
    refine wpAnyH_done (by kernel_rfl) ?_ _
    rotate_left
    refine AllReadyH.cons (by simp only [List.getElem?_toArray, List.getElem?_cons_succ, List.getElem?_cons_zero]; rfl) (fun Kz hKz => ?_) AllReadyH.nil
    go_simp
    focus (try go_wp2_with fail)
    refine hKz.out _ _ (by first | exact hOn | exact Grown.alloc hOn _ | exact Below.alloc hOn (Below.size hOn) _ | exact Grown.alloc (Grown.refl _) _) (fun hNext => ?_)
    clear hKz Kz hOn
    have hOn := hNext
    clear hNext
    try simp only [Act.put, List.setIfInBounds_toArray, List.set_cons_zero, List.set_cons_succ]
    refine wpAnyH_take (i := 18) (v := ?_) (by simp only [List.getElem?_toArray, List.getElem?_cons_succ, List.getElem?_cons_zero]; rfl) (by kernel_rfl) (by kernel_rfl) (by kernel_rfl) (by exact fun _ _ _ h => h) (Or.inl ⟨by rfl, ?_⟩) hOn ?_
    rotate_left
    focus (intro W hSW; go_simp; try with_reducible rfl)
    try simp only [Act.put, List.setIfInBounds_toArray, List.set_cons_zero, List.set_cons_succ]
    refine wpAnyH_ready (rs := [10]) (by kernel_rfl) (by simp) ?_
    refine AllReadyH.cons (by simp only [List.getElem?_toArray, List.getElem?_cons_succ, List.getElem?_cons_zero]; rfl) (fun Kz hKz => ?_) AllReadyH.nil
    rw [if_pos (by rfl)]
    (refine wpK_appRowsAt liesRB (.tmp 52) (.tmp 55) 23 rfl hus 24 hinfo.out (by decide) rfl hrow11 r _ hyB hFB haB hlB w10.heap.size rfl hx11 hrl (by decide) hbs11 ?_)
    intro v12 w12 hr12 hO12 hM12
    have hS := hO12.out.heap hOn hgv
    have hat12 := Lib.hid (hO12.out.heap hat11.out (fun hd => hst9.out.ok.jm.nv hd))
    have k1c : w12.cell? ⟨J, 1, none⟩ = some (.slice ra recs.length rc) := (by rw [cell_of_block hat12.out]; exact jc1)
    have k34c : w12.cell? ⟨J, 34, none⟩ = some (.int .i64 (E : Nat)) := (by rw [cell_of_block hat12.out]; exact jc34 hH)
    have f1c : w12.frozen? ⟨J, 1, none⟩ = false := free_of_block hat12.out _
    obtain ⟨a12, n12, c12, hv12⟩ : ∃ a n c, v12 = .slice a n c := (by obtain ⟨a, c, e, _⟩ := hr12.out.form; exact ⟨a, _, c, e⟩)
    subst hv12
    refine hKz.out _ _ (by first | exact hS | exact Below.trans hOn (Below.mono hnew (Below.size hOn))) (fun hNext => ?_)
    clear hKz Kz hOn
    have hOn := hNext
    clear hNext
    try clear hnew
    try clear hS
    try simp only [Act.put]
    refine wpAnyH_take (i := 19) (v := ?_) (by simp only [List.getElem?_toArray, List.getElem?_cons_succ, List.getElem?_cons_zero]; rfl) (by kernel_rfl) (by kernel_rfl) (by kernel_rfl) (by exact fun _ _ _ h => h) (Or.inl ⟨by rfl, ?_⟩) hOn ?_
    rotate_left
    focus (intro W hSW; go_simp; try with_reducible rfl)
    try simp only [Act.put, List.setIfInBounds_toArray, List.set_cons_zero, List.set_cons_succ]
    refine wpAnyH_take (i := 20) (v := ?_) (by simp only [List.getElem?_toArray, List.getElem?_cons_succ, List.getElem?_cons_zero]; rfl) (by kernel_rfl) (by kernel_rfl) (by kernel_rfl) (by exact fun _ _ _ h => h) (Or.inl ⟨by rfl, ?_⟩) hOn ?_
    rotate_left
    focus (intro W hSW; go_simp; try with_reducible rfl)
    try simp only [Act.put, List.setIfInBounds_toArray, List.set_cons_zero, List.set_cons_succ]
    refine wpAnyH_ready (rs := [21]) (by kernel_rfl) (by simp) ?_
    refine AllReadyH.cons (by simp only [List.getElem?_toArray, List.getElem?_cons_succ, List.getElem?_cons_zero]; rfl) (fun Kz hKz => ?_) AllReadyH.nil
    have hU13 := ((Upd.refl hat12.out).setCell (j := 1) (.slice a12 n12 c12))
    go_simp
    (with_reducible refine setCell_step ?_)
    intro w13 hw13
    rw [← hw13, jset1] at hU13
    clear hw13
    have hS := (hU13.block g hgJ).trans hOn
    replace hU13 := Lib.hid hU13
    have hth := Lib.hid (show w13.there J 2 N.size from there_block hU13.out.here (by rw [jcells_size hH, hN.out, List.size_toArray, cB_length, hNl]; decide))
    refine hKz.out _ _ (by first | exact hS | exact Below.trans hOn (Below.mono hnew (Below.size hOn))) (fun hNext => ?_)
    clear hKz Kz hOn
    have hOn := hNext
    clear hNext
    try clear hnew
    try clear hS
    try simp only [Act.put]
    refine wpAnyH_take (i := 22) (v := ?_) (by simp only [List.getElem?_toArray, List.getElem?_cons_succ, List.getElem?_cons_zero]; rfl) (by kernel_rfl) (by kernel_rfl) (by kernel_rfl) (by exact fun _ _ _ h => h) (Or.inl ⟨by rfl, ?_⟩) hOn ?_
    rotate_left
    focus (intro W hSW; go_simp; try with_reducible rfl)
    try simp only [Act.put, List.setIfInBounds_toArray, List.set_cons_zero, List.set_cons_succ]
    refine wpAnyH_take (i := 23) (v := ?_) (by simp only [List.getElem?_toArray, List.getElem?_cons_succ, List.getElem?_cons_zero]; rfl) (by kernel_rfl) (by kernel_rfl) (by kernel_rfl) (by exact fun _ _ _ h => h) (Or.inl ⟨by rfl, ?_⟩) hOn ?_
    rotate_left
    focus (intro W hSW; go_simp; try with_reducible rfl)
    try simp only [Act.put, List.setIfInBounds_toArray, List.set_cons_zero, List.set_cons_succ]
    refine wpAnyH_ready (rs := [24]) (by kernel_rfl) (by simp) ?_
    refine AllReadyH.cons (by simp only [List.getElem?_toArray, List.getElem?_cons_succ, List.getElem?_cons_zero]; rfl) (fun Kz hKz => ?_) AllReadyH.nil
    rw [if_pos (by rfl)]
    have hU14 := (upd_setCells N.toList 2 (Upd.refl hU13.out.here))
    (refine wp_store_mid 32 (.tmp 68) (.tmp 57) rfl J 2 N rfl rfl hth.out tD tO ?_)
    (with_reducible refine setCells_step ?_)
    intro w14 hw14
    rw [← hw14, hNL.out, jsetH hH hNl] at hU14
    clear hw14
    have hS := (hU14.block g hgJ).trans hOn
    replace hU14 := Lib.hid hU14
    have k34c : w14.cell? ⟨J, 34, none⟩ = some (.int .i64 (E : Nat)) := (by rw [cell_of_block hU14.out.here]; exact jc34 hNl)
    have f34c : w14.frozen? ⟨J, 34, none⟩ = false := free_of_block hU14.out.here _
    refine hKz.out _ _ (by first | exact hS | exact Below.trans hOn (Below.mono hnew (Below.size hOn))) (fun hNext => ?_)
    clear hKz Kz hOn
    have hOn := hNext
    clear hNext
    try clear hnew
    try clear hS
    try simp only [Act.put]
    refine wpAnyH_take (i := 25) (v := ?_) (by simp only [List.getElem?_toArray, List.getElem?_cons_succ, List.getElem?_cons_zero]; rfl) (by kernel_rfl) (by kernel_rfl) (by kernel_rfl) (by exact fun _ _ _ h => h) (Or.inl ⟨by rfl, ?_⟩) hOn ?_
    rotate_left
    focus (intro W hSW; go_simp; try with_reducible rfl)
    try simp only [Act.put, List.setIfInBounds_toArray, List.set_cons_zero, List.set_cons_succ]
    refine wpAnyH_take (i := 26) (v := ?_) (by simp only [List.getElem?_toArray, List.getElem?_cons_succ, List.getElem?_cons_zero]; rfl) (by kernel_rfl) (by kernel_rfl) (by kernel_rfl) (by exact fun _ _ _ h => h) (Or.inl ⟨by rfl, ?_⟩) hOn ?_
    rotate_left
    focus (intro W hSW; go_simp; try with_reducible rfl)
    try simp only [Act.put, List.setIfInBounds_toArray, List.set_cons_zero, List.set_cons_succ]
    refine wpAnyH_ready (rs := [27]) (by kernel_rfl) (by simp) ?_
    refine AllReadyH.cons (by simp only [List.getElem?_toArray, List.getElem?_cons_succ, List.getElem?_cons_zero]; rfl) (fun Kz hKz => ?_) AllReadyH.nil
    have hU15 := Lib.hid ((Upd.refl hU14.out.here).setCell (j := 34) (.int .i64 ((E : Int) + (FL : Int))))
    go_simp
    (with_reducible refine setCell_step ?_)
    intro w15 hw15
    rw [← hw15] at hU15
    clear hw15
    have hS := (hU15.out.block g hgJ).trans hOn
    refine hKz.out _ _ (by first | exact hS | exact Below.trans hOn (Below.mono hnew (Below.size hOn))) (fun hNext => ?_)
    clear hKz Kz hOn
    have hOn := hNext
    clear hNext
    try clear hnew
    try clear hS
    try simp only [Act.put]
    refine wpAnyH_done (by kernel_rfl) ?_ _
    rotate_left
    refine AllReadyH.cons (by simp only [List.getElem?_toArray, List.getElem?_cons_succ, List.getElem?_cons_zero]; rfl) (fun Kz hKz => ?_) AllReadyH.nil
    go_simp
    focus (try go_wp2_with fail)
    refine hKz.out _ _ (by first | exact hOn | exact Grown.alloc hOn _ | exact Below.alloc hOn (Below.size hOn) _ | exact Grown.alloc (Grown.refl _) _) (fun hNext => ?_)
    clear hKz Kz hOn
    have hOn := hNext
    clear hNext
    try simp only [Act.put, List.setIfInBounds_toArray, List.set_cons_zero, List.set_cons_succ]
    refine wpAnyH_take (i := 18) (v := ?_) (by simp only [List.getElem?_toArray, List.getElem?_cons_succ, List.getElem?_cons_zero]; rfl) (by kernel_rfl) (by kernel_rfl) (by kernel_rfl) (by exact fun _ _ _ h => h) (Or.inl ⟨by rfl, ?_⟩) hOn ?_
    rotate_left
    focus (intro W hSW; go_simp; try with_reducible rfl)
    try simp only [Act.put, List.setIfInBounds_toArray, List.set_cons_zero, List.set_cons_succ]
    refine wpAnyH_ready (rs := [9]) (by kernel_rfl) (by simp) ?_
    refine AllReadyH.cons (by simp only [List.getElem?_toArray, List.getElem?_cons_succ, List.getElem?_cons_zero]; rfl) (fun Kz hKz => ?_) AllReadyH.nil
    go_simp
    focus (try go_wp2_with fail)
    (with_reducible refine made_step (t := 22) ?_)
    intro w11 hx11 hnew
    have hS := (hnew.block g (block_lt hOn)).trans hOn
    have hat11 := Lib.hid ((hnew.block J (block_lt hat10.out)).trans hat10.out)
    have hb11 := Lib.hid (hb10.out.trans (hnew.mono hb10.out.size))
    have ho11 := Lib.hid (OwnB.below ho10.out hnew (Nat.le_refl _))
    have hrow11 := Lib.hid (hrow9.out.below liesRB hb11.out)
    have hbs11 : base ≤ w11.heap.size := Nat.le_trans hb9 hb11.out.size
    have hyB := Lib.hid (show RB w11 (fun k => F k ∨ k = g10) r (#[Value.slice (some ⟨g10, 0, none⟩) r.length c10] : Array Value).toList from liesRB.more (rb_own ho11.out) (fun k h => by cases h; exact .inr rfl))
    have hFB := Lib.hid (show ∀ k, F k → F k ∨ k = g10 from fun k h => .inl h)
    have haB := Lib.hid (show ∀ k, (Value.slice ra recs.length rc).ownBlock = some k → ¬ (F k ∨ k = g10) from fun k hk h => h.elim (hrow9.out.apart k hk) (fun h => by have := (hrow9.out.ownLt k hk).2; omega))
    have hlB := Lib.hid (show ∀ k, F k ∨ k = g10 → k < w11.heap.size from fun k h => h.elim (fun h => hrow11.out.lt k h) (fun h => h ▸ (World.ownsRow.lt ho11.out g10 rfl).2))
    have k1c : w11.cell? ⟨J, 1, none⟩ = some (.slice ra recs.length rc) := (by rw [cell_of_block hat11.out]; exact jc1)
    have k34c : w11.cell? ⟨J, 34, none⟩ = some (.int .i64 (E : Nat)) := (by rw [cell_of_block hat11.out]; exact jc34 hH)
    refine hKz.out _ _ (by first | exact hS | exact Below.trans hOn (Below.mono hnew (Below.size hOn))) (fun hNext => ?_)
    clear hKz Kz hOn
    have hOn := hNext
    clear hNext
    try clear hnew
    try clear hS
    try simp only [Act.put, List.setIfInBounds_toArray, List.set_cons_zero, List.set_cons_succ]
    refine wpAnyH_ready (rs := [10]) (by kernel_rfl) (by simp) ?_
    refine AllReadyH.cons (by simp only [List.getElem?_toArray, List.getElem?_cons_succ, List.getElem?_cons_zero]; rfl) (fun Kz hKz => ?_) AllReadyH.nil
    rw [if_pos (by rfl)]
    (refine wpK_appRowsAt liesRB (.tmp 52) (.tmp 55) 23 rfl hus 24 hinfo.out (by decide) rfl hrow11 r _ hyB hFB haB hlB w10.heap.size rfl hx11 hrl (by decide) hbs11 ?_)
    intro v12 w12 hr12 hO12 hM12
    have hS := hO12.out.heap hOn hgv
    have hat12 := Lib.hid (hO12.out.heap hat11.out (fun hd => hst9.out.ok.jm.nv hd))
    have k1c : w12.cell? ⟨J, 1, none⟩ = some (.slice ra recs.length rc) := (by rw [cell_of_block hat12.out]; exact jc1)
    have k34c : w12.cell? ⟨J, 34, none⟩ = some (.int .i64 (E : Nat)) := (by rw [cell_of_block hat12.out]; exact jc34 hH)
    have f1c : w12.frozen? ⟨J, 1, none⟩ = false := free_of_block hat12.out _
    obtain ⟨a12, n12, c12, hv12⟩ : ∃ a n c, v12 = .slice a n c := (by obtain ⟨a, c, e, _⟩ := hr12.out.form; exact ⟨a, _, c, e⟩)
    subst hv12
    refine hKz.out _ _ (by first | exact hS | exact Below.trans hOn (Below.mono hnew (Below.size hOn))) (fun hNext => ?_)
    clear hKz Kz hOn
    have hOn := hNext
    clear hNext
    try clear hnew
    try clear hS
    try simp only [Act.put]
    refine wpAnyH_take (i := 19) (v := ?_) (by simp only [List.getElem?_toArray, List.getElem?_cons_succ, List.getElem?_cons_zero]; rfl) (by kernel_rfl) (by kernel_rfl) (by kernel_rfl) (by exact fun _ _ _ h => h) (Or.inl ⟨by rfl, ?_⟩) hOn ?_
    rotate_left
    focus (intro W hSW; go_simp; try with_reducible rfl)
    try simp only [Act.put, List.setIfInBounds_toArray, List.set_cons_zero, List.set_cons_succ]
    refine wpAnyH_take (i := 20) (v := ?_) (by simp only [List.getElem?_toArray, List.getElem?_cons_succ, List.getElem?_cons_zero]; rfl) (by kernel_rfl) (by kernel_rfl) (by kernel_rfl) (by exact fun _ _ _ h => h) (Or.inl ⟨by rfl, ?_⟩) hOn ?_
    rotate_left
    focus (intro W hSW; go_simp; try with_reducible rfl)
    try simp only [Act.put, List.setIfInBounds_toArray, List.set_cons_zero, List.set_cons_succ]
    refine wpAnyH_ready (rs := [21]) (by kernel_rfl) (by simp) ?_
    refine AllReadyH.cons (by simp only [List.getElem?_toArray, List.getElem?_cons_succ, List.getElem?_cons_zero]; rfl) (fun Kz hKz => ?_) AllReadyH.nil
    have hU13 := ((Upd.refl hat12.out).setCell (j := 1) (.slice a12 n12 c12))
    go_simp
    (with_reducible refine setCell_step ?_)
    intro w13 hw13
    rw [← hw13, jset1] at hU13
    clear hw13
    have hS := (hU13.block g hgJ).trans hOn
    replace hU13 := Lib.hid hU13
    have hth := Lib.hid (show w13.there J 2 N.size from there_block hU13.out.here (by rw [jcells_size hH, hN.out, List.size_toArray, cB_length, hNl]; decide))
    refine hKz.out _ _ (by first | exact hS | exact Below.trans hOn (Below.mono hnew (Below.size hOn))) (fun hNext => ?_)
    clear hKz Kz hOn
    have hOn := hNext
    clear hNext
    try clear hnew
    try clear hS
    try simp only [Act.put]
    refine wpAnyH_take (i := 22) (v := ?_) (by simp only [List.getElem?_toArray, List.getElem?_cons_succ, List.getElem?_cons_zero]; rfl) (by kernel_rfl) (by kernel_rfl) (by kernel_rfl) (by exact fun _ _ _ h => h) (Or.inl ⟨by rfl, ?_⟩) hOn ?_
    rotate_left
    focus (intro W hSW; go_simp; try with_reducible rfl)
    try simp only [Act.put, List.setIfInBounds_toArray, List.set_cons_zero, List.set_cons_succ]
    refine wpAnyH_take (i := 23) (v := ?_) (by simp only [List.getElem?_toArray, List.getElem?_cons_succ, List.getElem?_cons_zero]; rfl) (by kernel_rfl) (by kernel_rfl) (by kernel_rfl) (by exact fun _ _ _ h => h) (Or.inl ⟨by rfl, ?_⟩) hOn ?_
    rotate_left
    focus (intro W hSW; go_simp; try with_reducible rfl)
    try simp only [Act.put, List.setIfInBounds_toArray, List.set_cons_zero, List.set_cons_succ]
    refine wpAnyH_ready (rs := [24]) (by kernel_rfl) (by simp) ?_
    refine AllReadyH.cons (by simp only [List.getElem?_toArray, List.getElem?_cons_succ, List.getElem?_cons_zero]; rfl) (fun Kz hKz => ?_) AllReadyH.nil
    rw [if_pos (by rfl)]
    have hU14 := (upd_setCells N.toList 2 (Upd.refl hU13.out.here))
    (refine wp_store_mid 32 (.tmp 68) (.tmp 57) rfl J 2 N rfl rfl hth.out tD tO ?_)
    (with_reducible refine setCells_step ?_)
    intro w14 hw14
    rw [← hw14, hNL.out, jsetH hH hNl] at hU14
    clear hw14
    have hS := (hU14.block g hgJ).trans hOn
    replace hU14 := Lib.hid hU14
    have k34c : w14.cell? ⟨J, 34, none⟩ = some (.int .i64 (E : Nat)) := (by rw [cell_of_block hU14.out.here]; exact jc34 hNl)
    have f34c : w14.frozen? ⟨J, 34, none⟩ = false := free_of_block hU14.out.here _
    refine hKz.out _ _ (by first | exact hS | exact Below.trans hOn (Below.mono hnew (Below.size hOn))) (fun hNext => ?_)
    clear hKz Kz hOn
    have hOn := hNext
    clear hNext
    try clear hnew
    try clear hS
    try simp only [Act.put]
    refine wpAnyH_take (i := 25) (v := ?_) (by simp only [List.getElem?_toArray, List.getElem?_cons_succ, List.getElem?_cons_zero]; rfl) (by kernel_rfl) (by kernel_rfl) (by kernel_rfl) (by exact fun _ _ _ h => h) (Or.inl ⟨by rfl, ?_⟩) hOn ?_
    rotate_left
    focus (intro W hSW; go_simp; try with_reducible rfl)
    try simp only [Act.put, List.setIfInBounds_toArray, List.set_cons_zero, List.set_cons_succ]
    refine wpAnyH_take (i := 26) (v := ?_) (by simp only [List.getElem?_toArray, List.getElem?_cons_succ, List.getElem?_cons_zero]; rfl) (by kernel_rfl) (by kernel_rfl) (by kernel_rfl) (by exact fun _ _ _ h => h) (Or.inl ⟨by rfl, ?_⟩) hOn ?_
    rotate_left
    focus (intro W hSW; go_simp; try with_reducible rfl)
    try simp only [Act.put, List.setIfInBounds_toArray, List.set_cons_zero, List.set_cons_succ]
    refine wpAnyH_ready (rs := [27]) (by kernel_rfl) (by simp) ?_
    refine AllReadyH.cons (by simp only [List.getElem?_toArray, List.getElem?_cons_succ, List.getElem?_cons_zero]; rfl) (fun Kz hKz => ?_) AllReadyH.nil
    have hU15 := Lib.hid ((Upd.refl hU14.out.here).setCell (j := 34) (.int .i64 ((E : Int) + (FL : Int))))
    go_simp
    (with_reducible refine setCell_step ?_)
    intro w15 hw15
    rw [← hw15] at hU15
    clear hw15
    have hS := (hU15.out.block g hgJ).trans hOn
    refine hKz.out _ _ (by first | exact hS | exact Below.trans hOn (Below.mono hnew (Below.size hOn))) (fun hNext => ?_)
    clear hKz Kz hOn
    have hOn := hNext
    clear hNext
    try clear hnew
    try clear hS
    try simp only [Act.put]
    refine wpAnyH_done (by kernel_rfl) ?_ _
    rotate_left
    refine AllReadyH.cons (by simp only [List.getElem?_toArray, List.getElem?_cons_succ, List.getElem?_cons_zero]; rfl) (fun Kz hKz => ?_) ?_
    go_simp
    focus (try go_wp2_with fail)
    (with_reducible refine made_step (t := 22) ?_)
    intro w11 hx11 hnew
    have hS := (hnew.block g (block_lt hOn)).trans hOn
    have hat11 := Lib.hid ((hnew.block J (block_lt hat10.out)).trans hat10.out)
    have hb11 := Lib.hid (hb10.out.trans (hnew.mono hb10.out.size))
    have ho11 := Lib.hid (OwnB.below ho10.out hnew (Nat.le_refl _))
    have hrow11 := Lib.hid (hrow9.out.below liesRB hb11.out)
    have hbs11 : base ≤ w11.heap.size := Nat.le_trans hb9 hb11.out.size
    have hyB := Lib.hid (show RB w11 (fun k => F k ∨ k = g10) r (#[Value.slice (some ⟨g10, 0, none⟩) r.length c10] : Array Value).toList from liesRB.more (rb_own ho11.out) (fun k h => by cases h; exact .inr rfl))
    have hFB := Lib.hid (show ∀ k, F k → F k ∨ k = g10 from fun k h => .inl h)
    have haB := Lib.hid (show ∀ k, (Value.slice ra recs.length rc).ownBlock = some k → ¬ (F k ∨ k = g10) from fun k hk h => h.elim (hrow9.out.apart k hk) (fun h => by have := (hrow9.out.ownLt k hk).2; omega))
    have hlB := Lib.hid (show ∀ k, F k ∨ k = g10 → k < w11.heap.size from fun k h => h.elim (fun h => hrow11.out.lt k h) (fun h => h ▸ (World.ownsRow.lt ho11.out g10 rfl).2))
    have k1c : w11.cell? ⟨J, 1, none⟩ = some (.slice ra recs.length rc) := (by rw [cell_of_block hat11.out]; exact jc1)
    have k34c : w11.cell? ⟨J, 34, none⟩ = some (.int .i64 (E : Nat)) := (by rw [cell_of_block hat11.out]; exact jc34 hH)
    refine hKz.out _ _ (by first | exact hS | exact Below.trans hOn (Below.mono hnew (Below.size hOn))) (fun hNext => ?_)
    clear hKz Kz hOn
    have hOn := hNext
    clear hNext
    try clear hnew
    try clear hS
    try simp only [Act.put, List.setIfInBounds_toArray, List.set_cons_zero, List.set_cons_succ]
    refine wpAnyH_ready (rs := [6, 15]) (by kernel_rfl) (by simp) ?_
    refine AllReadyH.cons (by simp only [List.getElem?_toArray, List.getElem?_cons_succ, List.getElem?_cons_zero]; rfl) (fun Kz hKz => ?_) ?_
    go_simp
    focus (try go_wp2_with fail)
    refine hKz.out _ _ (by first | exact hOn | exact Grown.alloc hOn _ | exact Below.alloc hOn (Below.size hOn) _ | exact Grown.alloc (Grown.refl _) _) (fun hNext => ?_)
    clear hKz Kz hOn
    have hOn := hNext
    clear hNext
    try simp only [Act.put, List.setIfInBounds_toArray, List.set_cons_zero, List.set_cons_succ]
    refine wpAnyH_ready (rs := [10, 15]) (by kernel_rfl) (by simp) ?_
    refine AllReadyH.cons (by simp only [List.getElem?_toArray, List.getElem?_cons_succ, List.getElem?_cons_zero]; rfl) (fun Kz hKz => ?_) ?_
    rw [if_pos (by rfl)]
    (refine wpK_appRowsAt liesRB (.tmp 52) (.tmp 55) 23 rfl hus 24 hinfo.out (by decide) rfl hrow11 r _ hyB hFB haB hlB w10.heap.size rfl hx11 hrl (by decide) hbs11 ?_)
    intro v12 w12 hr12 hO12 hM12
    have hS := hO12.out.heap hOn hgv
    have hat12 := Lib.hid (hO12.out.heap hat11.out (fun hd => hst9.out.ok.jm.nv hd))
    have k1c : w12.cell? ⟨J, 1, none⟩ = some (.slice ra recs.length rc) := (by rw [cell_of_block hat12.out]; exact jc1)
    have k34c : w12.cell? ⟨J, 34, none⟩ = some (.int .i64 (E : Nat)) := (by rw [cell_of_block hat12.out]; exact jc34 hH)
    have f1c : w12.frozen? ⟨J, 1, none⟩ = false := free_of_block hat12.out _
    obtain ⟨a12, n12, c12, hv12⟩ : ∃ a n c, v12 = .slice a n c := (by obtain ⟨a, c, e, _⟩ := hr12.out.form; exact ⟨a, _, c, e⟩)
    subst hv12
    refine hKz.out _ _ (by first | exact hS | exact Below.trans hOn (Below.mono hnew (Below.size hOn))) (fun hNext => ?_)
    clear hKz Kz hOn
    have hOn := hNext
    clear hNext
    try clear hnew
    try clear hS
    try simp only [Act.put]
    refine wpAnyH_ready (rs := [15]) (by kernel_rfl) (by simp) ?_
    refine AllReadyH.cons (by simp only [List.getElem?_toArray, List.getElem?_cons_succ, List.getElem?_cons_zero]; rfl) (fun Kz hKz => ?_) AllReadyH.nil
    go_simp
    focus (try go_wp2_with fail)
    refine hKz.out _ _ (by first | exact hOn | exact Grown.alloc hOn _ | exact Below.alloc hOn (Below.size hOn) _ | exact Grown.alloc (Grown.refl _) _) (fun hNext => ?_)
    clear hKz Kz hOn
    have hOn := hNext
    clear hNext
    try simp only [Act.put, List.setIfInBounds_toArray, List.set_cons_zero, List.set_cons_succ]
    refine wpAnyH_take (i := 18) (v := ?_) (by simp only [List.getElem?_toArray, List.getElem?_cons_succ, List.getElem?_cons_zero]; rfl) (by kernel_rfl) (by kernel_rfl) (by kernel_rfl) (by exact fun _ _ _ h => h) (Or.inl ⟨by rfl, ?_⟩) hOn ?_
    rotate_left
    focus (intro W hSW; go_simp; try with_reducible rfl)
    try simp only [Act.put, List.setIfInBounds_toArray, List.set_cons_zero, List.set_cons_succ]
    refine wpAnyH_take (i := 19) (v := ?_) (by simp only [List.getElem?_toArray, List.getElem?_cons_succ, List.getElem?_cons_zero]; rfl) (by kernel_rfl) (by kernel_rfl) (by kernel_rfl) (by exact fun _ _ _ h => h) (Or.inl ⟨by rfl, ?_⟩) hOn ?_
    rotate_left
    focus (intro W hSW; go_simp; try with_reducible rfl)
    try simp only [Act.put, List.setIfInBounds_toArray, List.set_cons_zero, List.set_cons_succ]
    refine wpAnyH_take (i := 20) (v := ?_) (by simp only [List.getElem?_toArray, List.getElem?_cons_succ, List.getElem?_cons_zero]; rfl) (by kernel_rfl) (by kernel_rfl) (by kernel_rfl) (by exact fun _ _ _ h => h) (Or.inl ⟨by rfl, ?_⟩) hOn ?_
    rotate_left
    focus (intro W hSW; go_simp; try with_reducible rfl)
    try simp only [Act.put, List.setIfInBounds_toArray, List.set_cons_zero, List.set_cons_succ]
    refine wpAnyH_ready (rs := [21]) (by kernel_rfl) (by simp) ?_
    refine AllReadyH.cons (by simp only [List.getElem?_toArray, List.getElem?_cons_succ, List.getElem?_cons_zero]; rfl) (fun Kz hKz => ?_) AllReadyH.nil
    have hU13 := ((Upd.refl hat12.out).setCell (j := 1) (.slice a12 n12 c12))
    go_simp
    (with_reducible refine setCell_step ?_)
    intro w13 hw13
    rw [← hw13, jset1] at hU13
    clear hw13
    have hS := (hU13.block g hgJ).trans hOn
    replace hU13 := Lib.hid hU13
    have hth := Lib.hid (show w13.there J 2 N.size from there_block hU13.out.here (by rw [jcells_size hH, hN.out, List.size_toArray, cB_length, hNl]; decide))
    refine hKz.out _ _ (by first | exact hS | exact Below.trans hOn (Below.mono hnew (Below.size hOn))) (fun hNext => ?_)
    clear hKz Kz hOn
    have hOn := hNext
    clear hNext
    try clear hnew
    try clear hS
    try simp only [Act.put]
    refine wpAnyH_take (i := 22) (v := ?_) (by simp only [List.getElem?_toArray, List.getElem?_cons_succ, List.getElem?_cons_zero]; rfl) (by kernel_rfl) (by kernel_rfl) (by kernel_rfl) (by exact fun _ _ _ h => h) (Or.inl ⟨by rfl, ?_⟩) hOn ?_
    rotate_left
    focus (intro W hSW; go_simp; try with_reducible rfl)
    try simp only [Act.put, List.setIfInBounds_toArray, List.set_cons_zero, List.set_cons_succ]
    refine wpAnyH_take (i := 23) (v := ?_) (by simp only [List.getElem?_toArray, List.getElem?_cons_succ, List.getElem?_cons_zero]; rfl) (by kernel_rfl) (by kernel_rfl) (by kernel_rfl) (by exact fun _ _ _ h => h) (Or.inl ⟨by rfl, ?_⟩) hOn ?_
    rotate_left
    focus (intro W hSW; go_simp; try with_reducible rfl)
    try simp only [Act.put, List.setIfInBounds_toArray, List.set_cons_zero, List.set_cons_succ]
    refine wpAnyH_ready (rs := [24]) (by kernel_rfl) (by simp) ?_
    refine AllReadyH.cons (by simp only [List.getElem?_toArray, List.getElem?_cons_succ, List.getElem?_cons_zero]; rfl) (fun Kz hKz => ?_) AllReadyH.nil
    rw [if_pos (by rfl)]
    have hU14 := (upd_setCells N.toList 2 (Upd.refl hU13.out.here))
    (refine wp_store_mid 32 (.tmp 68) (.tmp 57) rfl J 2 N rfl rfl hth.out tD tO ?_)
    (with_reducible refine setCells_step ?_)
    intro w14 hw14
    rw [← hw14, hNL.out, jsetH hH hNl] at hU14
    clear hw14
    have hS := (hU14.block g hgJ).trans hOn
    replace hU14 := Lib.hid hU14
    have k34c : w14.cell? ⟨J, 34, none⟩ = some (.int .i64 (E : Nat)) := (by rw [cell_of_block hU14.out.here]; exact jc34 hNl)
    have f34c : w14.frozen? ⟨J, 34, none⟩ = false := free_of_block hU14.out.here _
    refine hKz.out _ _ (by first | exact hS | exact Below.trans hOn (Below.mono hnew (Below.size hOn))) (fun hNext => ?_)
    clear hKz Kz hOn
    have hOn := hNext
    clear hNext
    try clear hnew
    try clear hS
    try simp only [Act.put]
    refine wpAnyH_take (i := 25) (v := ?_) (by simp only [List.getElem?_toArray, List.getElem?_cons_succ, List.getElem?_cons_zero]; rfl) (by kernel_rfl) (by kernel_rfl) (by kernel_rfl) (by exact fun _ _ _ h => h) (Or.inl ⟨by rfl, ?_⟩) hOn ?_
    rotate_left
    focus (intro W hSW; go_simp; try with_reducible rfl)
    try simp only [Act.put, List.setIfInBounds_toArray, List.set_cons_zero, List.set_cons_succ]
    refine wpAnyH_take (i := 26) (v := ?_) (by simp only [List.getElem?_toArray, List.getElem?_cons_succ, List.getElem?_cons_zero]; rfl) (by kernel_rfl) (by kernel_rfl) (by kernel_rfl) (by exact fun _ _ _ h => h) (Or.inl ⟨by rfl, ?_⟩) hOn ?_
    rotate_left
    focus (intro W hSW; go_simp; try with_reducible rfl)
    try simp only [Act.put, List.setIfInBounds_toArray, List.set_cons_zero, List.set_cons_succ]
    refine wpAnyH_ready (rs := [27]) (by kernel_rfl) (by simp) ?_
    refine AllReadyH.cons (by simp only [List.getElem?_toArray, List.getElem?_cons_succ, List.getElem?_cons_zero]; rfl) (fun Kz hKz => ?_) AllReadyH.nil
    have hU15 := Lib.hid ((Upd.refl hU14.out.here).setCell (j := 34) (.int .i64 ((E : Int) + (FL : Int))))
    go_simp
    (with_reducible refine setCell_step ?_)
    intro w15 hw15
    rw [← hw15] at hU15
    clear hw15
    have hS := (hU15.out.block g hgJ).trans hOn
    refine hKz.out _ _ (by first | exact hS | exact Below.trans hOn (Below.mono hnew (Below.size hOn))) (fun hNext => ?_)
    clear hKz Kz hOn
    have hOn := hNext
    clear hNext
    try clear hnew
    try clear hS
    try simp only [Act.put]
    refine wpAnyH_done (by kernel_rfl) ?_ _
    rotate_left
    refine AllReadyH.cons (by simp only [List.getElem?_toArray, List.getElem?_cons_succ, List.getElem?_cons_zero]; rfl) (fun Kz hKz => ?_) AllReadyH.nil
    go_simp
    focus (try go_wp2_with fail)
    refine hKz.out _ _ (by first | exact hOn | exact Grown.alloc hOn _ | exact Below.alloc hOn (Below.size hOn) _ | exact Grown.alloc (Grown.refl _) _) (fun hNext => ?_)
    clear hKz Kz hOn
    have hOn := hNext
    clear hNext
    try simp only [Act.put, List.setIfInBounds_toArray, List.set_cons_zero, List.set_cons_succ]
    refine wpAnyH_take (i := 18) (v := ?_) (by simp only [List.getElem?_toArray, List.getElem?_cons_succ, List.getElem?_cons_zero]; rfl) (by kernel_rfl) (by kernel_rfl) (by kernel_rfl) (by exact fun _ _ _ h => h) (Or.inl ⟨by rfl, ?_⟩) hOn ?_
    rotate_left
    focus (intro W hSW; go_simp; try with_reducible rfl)
    try simp only [Act.put, List.setIfInBounds_toArray, List.set_cons_zero, List.set_cons_succ]
    refine wpAnyH_ready (rs := [10]) (by kernel_rfl) (by simp) ?_
    refine AllReadyH.cons (by simp only [List.getElem?_toArray, List.getElem?_cons_succ, List.getElem?_cons_zero]; rfl) (fun Kz hKz => ?_) AllReadyH.nil
    rw [if_pos (by rfl)]
    (refine wpK_appRowsAt liesRB (.tmp 52) (.tmp 55) 23 rfl hus 24 hinfo.out (by decide) rfl hrow11 r _ hyB hFB haB hlB w10.heap.size rfl hx11 hrl (by decide) hbs11 ?_)
    intro v12 w12 hr12 hO12 hM12
    have hS := hO12.out.heap hOn hgv
    have hat12 := Lib.hid (hO12.out.heap hat11.out (fun hd => hst9.out.ok.jm.nv hd))
    have k1c : w12.cell? ⟨J, 1, none⟩ = some (.slice ra recs.length rc) := (by rw [cell_of_block hat12.out]; exact jc1)
    have k34c : w12.cell? ⟨J, 34, none⟩ = some (.int .i64 (E : Nat)) := (by rw [cell_of_block hat12.out]; exact jc34 hH)
    have f1c : w12.frozen? ⟨J, 1, none⟩ = false := free_of_block hat12.out _
    obtain ⟨a12, n12, c12, hv12⟩ : ∃ a n c, v12 = .slice a n c := (by obtain ⟨a, c, e, _⟩ := hr12.out.form; exact ⟨a, _, c, e⟩)
    subst hv12
    refine hKz.out _ _ (by first | exact hS | exact Below.trans hOn (Below.mono hnew (Below.size hOn))) (fun hNext => ?_)
    clear hKz Kz hOn
    have hOn := hNext
    clear hNext
    try clear hnew
    try clear hS
    try simp only [Act.put]
    refine wpAnyH_take (i := 19) (v := ?_) (by simp only [List.getElem?_toArray, List.getElem?_cons_succ, List.getElem?_cons_zero]; rfl) (by kernel_rfl) (by kernel_rfl) (by kernel_rfl) (by exact fun _ _ _ h => h) (Or.inl ⟨by rfl, ?_⟩) hOn ?_
    rotate_left
    focus (intro W hSW; go_simp; try with_reducible rfl)
    try simp only [Act.put, List.setIfInBounds_toArray, List.set_cons_zero, List.set_cons_succ]
    refine wpAnyH_take (i := 20) (v := ?_) (by simp only [List.getElem?_toArray, List.getElem?_cons_succ, List.getElem?_cons_zero]; rfl) (by kernel_rfl) (by kernel_rfl) (by kernel_rfl) (by exact fun _ _ _ h => h) (Or.inl ⟨by rfl, ?_⟩) hOn ?_
    rotate_left
    focus (intro W hSW; go_simp; try with_reducible rfl)
    try simp only [Act.put, List.setIfInBounds_toArray, List.set_cons_zero, List.set_cons_succ]
    refine wpAnyH_ready (rs := [21]) (by kernel_rfl) (by simp) ?_
    refine AllReadyH.cons (by simp only [List.getElem?_toArray, List.getElem?_cons_succ, List.getElem?_cons_zero]; rfl) (fun Kz hKz => ?_) AllReadyH.nil
    have hU13 := ((Upd.refl hat12.out).setCell (j := 1) (.slice a12 n12 c12))
    go_simp
    (with_reducible refine setCell_step ?_)
    intro w13 hw13
    rw [← hw13, jset1] at hU13
    clear hw13
    have hS := (hU13.block g hgJ).trans hOn
    replace hU13 := Lib.hid hU13
    have hth := Lib.hid (show w13.there J 2 N.size from there_block hU13.out.here (by rw [jcells_size hH, hN.out, List.size_toArray, cB_length, hNl]; decide))
    refine hKz.out _ _ (by first | exact hS | exact Below.trans hOn (Below.mono hnew (Below.size hOn))) (fun hNext => ?_)
    clear hKz Kz hOn
    have hOn := hNext
    clear hNext
    try clear hnew
    try clear hS
    try simp only [Act.put]
    refine wpAnyH_take (i := 22) (v := ?_) (by simp only [List.getElem?_toArray, List.getElem?_cons_succ, List.getElem?_cons_zero]; rfl) (by kernel_rfl) (by kernel_rfl) (by kernel_rfl) (by exact fun _ _ _ h => h) (Or.inl ⟨by rfl, ?_⟩) hOn ?_
    rotate_left
    focus (intro W hSW; go_simp; try with_reducible rfl)
    try simp only [Act.put, List.setIfInBounds_toArray, List.set_cons_zero, List.set_cons_succ]
    refine wpAnyH_take (i := 23) (v := ?_) (by simp only [List.getElem?_toArray, List.getElem?_cons_succ, List.getElem?_cons_zero]; rfl) (by kernel_rfl) (by kernel_rfl) (by kernel_rfl) (by exact fun _ _ _ h => h) (Or.inl ⟨by rfl, ?_⟩) hOn ?_
    rotate_left
    focus (intro W hSW; go_simp; try with_reducible rfl)
    try simp only [Act.put, List.setIfInBounds_toArray, List.set_cons_zero, List.set_cons_succ]
    refine wpAnyH_ready (rs := [24]) (by kernel_rfl) (by simp) ?_
    refine AllReadyH.cons (by simp only [List.getElem?_toArray, List.getElem?_cons_succ, List.getElem?_cons_zero]; rfl) (fun Kz hKz => ?_) AllReadyH.nil
    rw [if_pos (by rfl)]
    have hU14 := (upd_setCells N.toList 2 (Upd.refl hU13.out.here))
    (refine wp_store_mid 32 (.tmp 68) (.tmp 57) rfl J 2 N rfl rfl hth.out tD tO ?_)
    (with_reducible refine setCells_step ?_)
    intro w14 hw14
    rw [← hw14, hNL.out, jsetH hH hNl] at hU14
    clear hw14
    have hS := (hU14.block g hgJ).trans hOn
    replace hU14 := Lib.hid hU14
    have k34c : w14.cell? ⟨J, 34, none⟩ = some (.int .i64 (E : Nat)) := (by rw [cell_of_block hU14.out.here]; exact jc34 hNl)
    have f34c : w14.frozen? ⟨J, 34, none⟩ = false := free_of_block hU14.out.here _
    refine hKz.out _ _ (by first | exact hS | exact Below.trans hOn (Below.mono hnew (Below.size hOn))) (fun hNext => ?_)
    clear hKz Kz hOn
    have hOn := hNext
    clear hNext
    try clear hnew
    try clear hS
    try simp only [Act.put]
    refine wpAnyH_take (i := 25) (v := ?_) (by simp only [List.getElem?_toArray, List.getElem?_cons_succ, List.getElem?_cons_zero]; rfl) (by kernel_rfl) (by kernel_rfl) (by kernel_rfl) (by exact fun _ _ _ h => h) (Or.inl ⟨by rfl, ?_⟩) hOn ?_
    rotate_left
    focus (intro W hSW; go_simp; try with_reducible rfl)
    try simp only [Act.put, List.setIfInBounds_toArray, List.set_cons_zero, List.set_cons_succ]
    refine wpAnyH_take (i := 26) (v := ?_) (by simp only [List.getElem?_toArray, List.getElem?_cons_succ, List.getElem?_cons_zero]; rfl) (by kernel_rfl) (by kernel_rfl) (by kernel_rfl) (by exact fun _ _ _ h => h) (Or.inl ⟨by rfl, ?_⟩) hOn ?_
    rotate_left
    focus (intro W hSW; go_simp; try with_reducible rfl)
    try simp only [Act.put, List.setIfInBounds_toArray, List.set_cons_zero, List.set_cons_succ]
    refine wpAnyH_ready (rs := [27]) (by kernel_rfl) (by simp) ?_
    refine AllReadyH.cons (by simp only [List.getElem?_toArray, List.getElem?_cons_succ, List.getElem?_cons_zero]; rfl) (fun Kz hKz => ?_) AllReadyH.nil
    have hU15 := Lib.hid ((Upd.refl hU14.out.here).setCell (j := 34) (.int .i64 ((E : Int) + (FL : Int))))
    go_simp
    (with_reducible refine setCell_step ?_)
    intro w15 hw15
    rw [← hw15] at hU15
    clear hw15
    have hS := (hU15.out.block g hgJ).trans hOn
    refine hKz.out _ _ (by first | exact hS | exact Below.trans hOn (Below.mono hnew (Below.size hOn))) (fun hNext => ?_)
    clear hKz Kz hOn
    have hOn := hNext
    clear hNext
    try clear hnew
    try clear hS
    try simp only [Act.put]
    refine wpAnyH_done (by kernel_rfl) ?_ _
    rotate_left
    refine AllReadyH.cons (by simp only [List.getElem?_toArray, List.getElem?_cons_succ, List.getElem?_cons_zero]; rfl) (fun Kz hKz => ?_) AllReadyH.nil
    go_simp
    focus (try go_wp2_with fail)
    refine hKz.out _ _ (by first | exact hOn | exact Grown.alloc hOn _ | exact Below.alloc hOn (Below.size hOn) _ | exact Grown.alloc (Grown.refl _) _) (fun hNext => ?_)
    clear hKz Kz hOn
    have hOn := hNext
    clear hNext
    try simp only [Act.put, List.setIfInBounds_toArray, List.set_cons_zero, List.set_cons_succ]
    refine wpAnyH_take (i := 18) (v := ?_) (by simp only [List.getElem?_toArray, List.getElem?_cons_succ, List.getElem?_cons_zero]; rfl) (by kernel_rfl) (by kernel_rfl) (by kernel_rfl) (by exact fun _ _ _ h => h) (Or.inl ⟨by rfl, ?_⟩) hOn ?_
    rotate_left
    focus (intro W hSW; go_simp; try with_reducible rfl)
    try simp only [Act.put, List.setIfInBounds_toArray, List.set_cons_zero, List.set_cons_succ]
    refine wpAnyH_ready (rs := [6]) (by kernel_rfl) (by simp) ?_
    refine AllReadyH.cons (by simp only [List.getElem?_toArray, List.getElem?_cons_succ, List.getElem?_cons_zero]; rfl) (fun Kz hKz => ?_) AllReadyH.nil
    go_simp
    focus (try go_wp2_with fail)
    refine hKz.out _ _ (by first | exact hOn | exact Grown.alloc hOn _ | exact Below.alloc hOn (Below.size hOn) _ | exact Grown.alloc (Grown.refl _) _) (fun hNext => ?_)
    clear hKz Kz hOn
    have hOn := hNext
    clear hNext
    try simp only [Act.put, List.setIfInBounds_toArray, List.set_cons_zero, List.set_cons_succ]
    refine wpAnyH_ready (rs := [10]) (by kernel_rfl) (by simp) ?_
    refine AllReadyH.cons (by simp only [List.getElem?_toArray, List.getElem?_cons_succ, List.getElem?_cons_zero]; rfl) (fun Kz hKz => ?_) AllReadyH.nil
    rw [if_pos (by rfl)]
    (refine wpK_appRowsAt liesRB (.tmp 52) (.tmp 55) 23 rfl hus 24 hinfo.out (by decide) rfl hrow11 r _ hyB hFB haB hlB w10.heap.size rfl hx11 hrl (by decide) hbs11 ?_)
    intro v12 w12 hr12 hO12 hM12
    have hS := hO12.out.heap hOn hgv
    have hat12 := Lib.hid (hO12.out.heap hat11.out (fun hd => hst9.out.ok.jm.nv hd))
    have k1c : w12.cell? ⟨J, 1, none⟩ = some (.slice ra recs.length rc) := (by rw [cell_of_block hat12.out]; exact jc1)
    have k34c : w12.cell? ⟨J, 34, none⟩ = some (.int .i64 (E : Nat)) := (by rw [cell_of_block hat12.out]; exact jc34 hH)
    have f1c : w12.frozen? ⟨J, 1, none⟩ = false := free_of_block hat12.out _
    obtain ⟨a12, n12, c12, hv12⟩ : ∃ a n c, v12 = .slice a n c := (by obtain ⟨a, c, e, _⟩ := hr12.out.form; exact ⟨a, _, c, e⟩)
    subst hv12
    refine hKz.out _ _ (by first | exact hS | exact Below.trans hOn (Below.mono hnew (Below.size hOn))) (fun hNext => ?_)
    clear hKz Kz hOn
    have hOn := hNext
    clear hNext
    try clear hnew
    try clear hS
    try simp only [Act.put]
    refine wpAnyH_take (i := 19) (v := ?_) (by simp only [List.getElem?_toArray, List.getElem?_cons_succ, List.getElem?_cons_zero]; rfl) (by kernel_rfl) (by kernel_rfl) (by kernel_rfl) (by exact fun _ _ _ h => h) (Or.inl ⟨by rfl, ?_⟩) hOn ?_
    rotate_left
    focus (intro W hSW; go_simp; try with_reducible rfl)
    try simp only [Act.put, List.setIfInBounds_toArray, List.set_cons_zero, List.set_cons_succ]
    refine wpAnyH_take (i := 20) (v := ?_) (by simp only [List.getElem?_toArray, List.getElem?_cons_succ, List.getElem?_cons_zero]; rfl) (by kernel_rfl) (by kernel_rfl) (by kernel_rfl) (by exact fun _ _ _ h => h) (Or.inl ⟨by rfl, ?_⟩) hOn ?_
    rotate_left
    focus (intro W hSW; go_simp; try with_reducible rfl)
    try simp only [Act.put, List.setIfInBounds_toArray, List.set_cons_zero, List.set_cons_succ]
    refine wpAnyH_ready (rs := [21]) (by kernel_rfl) (by simp) ?_
    refine AllReadyH.cons (by simp only [List.getElem?_toArray, List.getElem?_cons_succ, List.getElem?_cons_zero]; rfl) (fun Kz hKz => ?_) AllReadyH.nil
    have hU13 := ((Upd.refl hat12.out).setCell (j := 1) (.slice a12 n12 c12))
    go_simp
    (with_reducible refine setCell_step ?_)
    intro w13 hw13
    rw [← hw13, jset1] at hU13
    clear hw13
    have hS := (hU13.block g hgJ).trans hOn
    replace hU13 := Lib.hid hU13
    have hth := Lib.hid (show w13.there J 2 N.size from there_block hU13.out.here (by rw [jcells_size hH, hN.out, List.size_toArray, cB_length, hNl]; decide))
    refine hKz.out _ _ (by first | exact hS | exact Below.trans hOn (Below.mono hnew (Below.size hOn))) (fun hNext => ?_)
    clear hKz Kz hOn
    have hOn := hNext
    clear hNext
    try clear hnew
    try clear hS
    try simp only [Act.put]
    refine wpAnyH_take (i := 22) (v := ?_) (by simp only [List.getElem?_toArray, List.getElem?_cons_succ, List.getElem?_cons_zero]; rfl) (by kernel_rfl) (by kernel_rfl) (by kernel_rfl) (by exact fun _ _ _ h => h) (Or.inl ⟨by rfl, ?_⟩) hOn ?_
    rotate_left
    focus (intro W hSW; go_simp; try with_reducible rfl)
    try simp only [Act.put, List.setIfInBounds_toArray, List.set_cons_zero, List.set_cons_succ]
    refine wpAnyH_take (i := 23) (v := ?_) (by simp only [List.getElem?_toArray, List.getElem?_cons_succ, List.getElem?_cons_zero]; rfl) (by kernel_rfl) (by kernel_rfl) (by kernel_rfl) (by exact fun _ _ _ h => h) (Or.inl ⟨by rfl, ?_⟩) hOn ?_
    rotate_left
    focus (intro W hSW; go_simp; try with_reducible rfl)
    try simp only [Act.put, List.setIfInBounds_toArray, List.set_cons_zero, List.set_cons_succ]
    refine wpAnyH_ready (rs := [24]) (by kernel_rfl) (by simp) ?_
    refine AllReadyH.cons (by simp only [List.getElem?_toArray, List.getElem?_cons_succ, List.getElem?_cons_zero]; rfl) (fun Kz hKz => ?_) AllReadyH.nil
    rw [if_pos (by rfl)]
    have hU14 := (upd_setCells N.toList 2 (Upd.refl hU13.out.here))
    (refine wp_store_mid 32 (.tmp 68) (.tmp 57) rfl J 2 N rfl rfl hth.out tD tO ?_)
    (with_reducible refine setCells_step ?_)
    intro w14 hw14
    rw [← hw14, hNL.out, jsetH hH hNl] at hU14
    clear hw14
    have hS := (hU14.block g hgJ).trans hOn
    replace hU14 := Lib.hid hU14
    have k34c : w14.cell? ⟨J, 34, none⟩ = some (.int .i64 (E : Nat)) := (by rw [cell_of_block hU14.out.here]; exact jc34 hNl)
    have f34c : w14.frozen? ⟨J, 34, none⟩ = false := free_of_block hU14.out.here _
    refine hKz.out _ _ (by first | exact hS | exact Below.trans hOn (Below.mono hnew (Below.size hOn))) (fun hNext => ?_)
    clear hKz Kz hOn
    have hOn := hNext
    clear hNext
    try clear hnew
    try clear hS
    try simp only [Act.put]
    refine wpAnyH_take (i := 25) (v := ?_) (by simp only [List.getElem?_toArray, List.getElem?_cons_succ, List.getElem?_cons_zero]; rfl) (by kernel_rfl) (by kernel_rfl) (by kernel_rfl) (by exact fun _ _ _ h => h) (Or.inl ⟨by rfl, ?_⟩) hOn ?_
    rotate_left
    focus (intro W hSW; go_simp; try with_reducible rfl)
    try simp only [Act.put, List.setIfInBounds_toArray, List.set_cons_zero, List.set_cons_succ]
    refine wpAnyH_take (i := 26) (v := ?_) (by simp only [List.getElem?_toArray, List.getElem?_cons_succ, List.getElem?_cons_zero]; rfl) (by kernel_rfl) (by kernel_rfl) (by kernel_rfl) (by exact fun _ _ _ h => h) (Or.inl ⟨by rfl, ?_⟩) hOn ?_
    rotate_left
    focus (intro W hSW; go_simp; try with_reducible rfl)
    try simp only [Act.put, List.setIfInBounds_toArray, List.set_cons_zero, List.set_cons_succ]
    refine wpAnyH_ready (rs := [27]) (by kernel_rfl) (by simp) ?_
    refine AllReadyH.cons (by simp only [List.getElem?_toArray, List.getElem?_cons_succ, List.getElem?_cons_zero]; rfl) (fun Kz hKz => ?_) AllReadyH.nil
    have hU15 := Lib.hid ((Upd.refl hU14.out.here).setCell (j := 34) (.int .i64 ((E : Int) + (FL : Int))))
    go_simp
    (with_reducible refine setCell_step ?_)
    intro w15 hw15
    rw [← hw15] at hU15
    clear hw15
    have hS := (hU15.out.block g hgJ).trans hOn
    refine hKz.out _ _ (by first | exact hS | exact Below.trans hOn (Below.mono hnew (Below.size hOn))) (fun hNext => ?_)
    clear hKz Kz hOn
    have hOn := hNext
    clear hNext
    try clear hnew
    try clear hS
    try simp only [Act.put]
    refine wpAnyH_done (by kernel_rfl) ?_ _
    rotate_left
    refine AllReadyH.cons (by simp only [List.getElem?_toArray, List.getElem?_cons_succ, List.getElem?_cons_zero]; rfl) (fun Kz hKz => ?_) AllReadyH.nil
    go_simp
    focus (try go_wp2_with fail)
    refine hKz.out _ _ (by first | exact hOn | exact Grown.alloc hOn _ | exact Below.alloc hOn (Below.size hOn) _ | exact Grown.alloc (Grown.refl _) _) (fun hNext => ?_)
    clear hKz Kz hOn
    have hOn := hNext
    clear hNext
    try simp only [Act.put, List.setIfInBounds_toArray, List.set_cons_zero, List.set_cons_succ]
    refine wpAnyH_take (i := 18) (v := ?_) (by simp only [List.getElem?_toArray, List.getElem?_cons_succ, List.getElem?_cons_zero]; rfl) (by kernel_rfl) (by kernel_rfl) (by kernel_rfl) (by exact fun _ _ _ h => h) (Or.inl ⟨by rfl, ?_⟩) hOn ?_
    rotate_left
    focus (intro W hSW; go_simp; try with_reducible rfl)
    try simp only [Act.put, List.setIfInBounds_toArray, List.set_cons_zero, List.set_cons_succ]
    refine wpAnyH_ready (rs := [6, 9]) (by kernel_rfl) (by simp) ?_
    refine AllReadyH.cons (by simp only [List.getElem?_toArray, List.getElem?_cons_succ, List.getElem?_cons_zero]; rfl) (fun Kz hKz => ?_) ?_
    go_simp
    focus (try go_wp2_with fail)
    refine hKz.out _ _ (by first | exact hOn | exact Grown.alloc hOn _ | exact Below.alloc hOn (Below.size hOn) _ | exact Grown.alloc (Grown.refl _) _) (fun hNext => ?_)
    clear hKz Kz hOn
    have hOn := hNext
    clear hNext
    try simp only [Act.put, List.setIfInBounds_toArray, List.set_cons_zero, List.set_cons_succ]
    refine wpAnyH_ready (rs := [9]) (by kernel_rfl) (by simp) ?_
    refine AllReadyH.cons (by simp only [List.getElem?_toArray, List.getElem?_cons_succ, List.getElem?_cons_zero]; rfl) (fun Kz hKz => ?_) AllReadyH.nil
    go_simp
    focus (try go_wp2_with fail)
    (with_reducible refine made_step (t := 22) ?_)
    intro w11 hx11 hnew
    have hS := (hnew.block g (block_lt hOn)).trans hOn
    have hat11 := Lib.hid ((hnew.block J (block_lt hat10.out)).trans hat10.out)
    have hb11 := Lib.hid (hb10.out.trans (hnew.mono hb10.out.size))
    have ho11 := Lib.hid (OwnB.below ho10.out hnew (Nat.le_refl _))
    have hrow11 := Lib.hid (hrow9.out.below liesRB hb11.out)
    have hbs11 : base ≤ w11.heap.size := Nat.le_trans hb9 hb11.out.size
    have hyB := Lib.hid (show RB w11 (fun k => F k ∨ k = g10) r (#[Value.slice (some ⟨g10, 0, none⟩) r.length c10] : Array Value).toList from liesRB.more (rb_own ho11.out) (fun k h => by cases h; exact .inr rfl))
    have hFB := Lib.hid (show ∀ k, F k → F k ∨ k = g10 from fun k h => .inl h)
    have haB := Lib.hid (show ∀ k, (Value.slice ra recs.length rc).ownBlock = some k → ¬ (F k ∨ k = g10) from fun k hk h => h.elim (hrow9.out.apart k hk) (fun h => by have := (hrow9.out.ownLt k hk).2; omega))
    have hlB := Lib.hid (show ∀ k, F k ∨ k = g10 → k < w11.heap.size from fun k h => h.elim (fun h => hrow11.out.lt k h) (fun h => h ▸ (World.ownsRow.lt ho11.out g10 rfl).2))
    have k1c : w11.cell? ⟨J, 1, none⟩ = some (.slice ra recs.length rc) := (by rw [cell_of_block hat11.out]; exact jc1)
    have k34c : w11.cell? ⟨J, 34, none⟩ = some (.int .i64 (E : Nat)) := (by rw [cell_of_block hat11.out]; exact jc34 hH)
    refine hKz.out _ _ (by first | exact hS | exact Below.trans hOn (Below.mono hnew (Below.size hOn))) (fun hNext => ?_)
    clear hKz Kz hOn
    have hOn := hNext
    clear hNext
    try clear hnew
    try clear hS
    try simp only [Act.put, List.setIfInBounds_toArray, List.set_cons_zero, List.set_cons_succ]
    refine wpAnyH_ready (rs := [10]) (by kernel_rfl) (by simp) ?_
    refine AllReadyH.cons (by simp only [List.getElem?_toArray, List.getElem?_cons_succ, List.getElem?_cons_zero]; rfl) (fun Kz hKz => ?_) AllReadyH.nil
    rw [if_pos (by rfl)]
    (refine wpK_appRowsAt liesRB (.tmp 52) (.tmp 55) 23 rfl hus 24 hinfo.out (by decide) rfl hrow11 r _ hyB hFB haB hlB w10.heap.size rfl hx11 hrl (by decide) hbs11 ?_)
    intro v12 w12 hr12 hO12 hM12
    have hS := hO12.out.heap hOn hgv
    have hat12 := Lib.hid (hO12.out.heap hat11.out (fun hd => hst9.out.ok.jm.nv hd))
    have k1c : w12.cell? ⟨J, 1, none⟩ = some (.slice ra recs.length rc) := (by rw [cell_of_block hat12.out]; exact jc1)
    have k34c : w12.cell? ⟨J, 34, none⟩ = some (.int .i64 (E : Nat)) := (by rw [cell_of_block hat12.out]; exact jc34 hH)
    have f1c : w12.frozen? ⟨J, 1, none⟩ = false := free_of_block hat12.out _
    obtain ⟨a12, n12, c12, hv12⟩ : ∃ a n c, v12 = .slice a n c := (by obtain ⟨a, c, e, _⟩ := hr12.out.form; exact ⟨a, _, c, e⟩)
    subst hv12
    refine hKz.out _ _ (by first | exact hS | exact Below.trans hOn (Below.mono hnew (Below.size hOn))) (fun hNext => ?_)
    clear hKz Kz hOn
    have hOn := hNext
    clear hNext
    try clear hnew
    try clear hS
    try simp only [Act.put]
    refine wpAnyH_take (i := 19) (v := ?_) (by simp only [List.getElem?_toArray, List.getElem?_cons_succ, List.getElem?_cons_zero]; rfl) (by kernel_rfl) (by kernel_rfl) (by kernel_rfl) (by exact fun _ _ _ h => h) (Or.inl ⟨by rfl, ?_⟩) hOn ?_
    rotate_left
    focus (intro W hSW; go_simp; try with_reducible rfl)
    try simp only [Act.put, List.setIfInBounds_toArray, List.set_cons_zero, List.set_cons_succ]
    refine wpAnyH_take (i := 20) (v := ?_) (by simp only [List.getElem?_toArray, List.getElem?_cons_succ, List.getElem?_cons_zero]; rfl) (by kernel_rfl) (by kernel_rfl) (by kernel_rfl) (by exact fun _ _ _ h => h) (Or.inl ⟨by rfl, ?_⟩) hOn ?_
    rotate_left
    focus (intro W hSW; go_simp; try with_reducible rfl)
    try simp only [Act.put, List.setIfInBounds_toArray, List.set_cons_zero, List.set_cons_succ]
    refine wpAnyH_ready (rs := [21]) (by kernel_rfl) (by simp) ?_
    refine AllReadyH.cons (by simp only [List.getElem?_toArray, List.getElem?_cons_succ, List.getElem?_cons_zero]; rfl) (fun Kz hKz => ?_) AllReadyH.nil
    have hU13 := ((Upd.refl hat12.out).setCell (j := 1) (.slice a12 n12 c12))
    go_simp
    (with_reducible refine setCell_step ?_)
    intro w13 hw13
    rw [← hw13, jset1] at hU13
    clear hw13
    have hS := (hU13.block g hgJ).trans hOn
    replace hU13 := Lib.hid hU13
    have hth := Lib.hid (show w13.there J 2 N.size from there_block hU13.out.here (by rw [jcells_size hH, hN.out, List.size_toArray, cB_length, hNl]; decide))
    refine hKz.out _ _ (by first | exact hS | exact Below.trans hOn (Below.mono hnew (Below.size hOn))) (fun hNext => ?_)
    clear hKz Kz hOn
    have hOn := hNext
    clear hNext
    try clear hnew
    try clear hS
    try simp only [Act.put]
    refine wpAnyH_take (i := 22) (v := ?_) (by simp only [List.getElem?_toArray, List.getElem?_cons_succ, List.getElem?_cons_zero]; rfl) (by kernel_rfl) (by kernel_rfl) (by kernel_rfl) (by exact fun _ _ _ h => h) (Or.inl ⟨by rfl, ?_⟩) hOn ?_
    rotate_left
    focus (intro W hSW; go_simp; try with_reducible rfl)
    try simp only [Act.put, List.setIfInBounds_toArray, List.set_cons_zero, List.set_cons_succ]
    refine wpAnyH_take (i := 23) (v := ?_) (by simp only [List.getElem?_toArray, List.getElem?_cons_succ, List.getElem?_cons_zero]; rfl) (by kernel_rfl) (by kernel_rfl) (by kernel_rfl) (by exact fun _ _ _ h => h) (Or.inl ⟨by rfl, ?_⟩) hOn ?_
    rotate_left
    focus (intro W hSW; go_simp; try with_reducible rfl)
    try simp only [Act.put, List.setIfInBounds_toArray, List.set_cons_zero, List.set_cons_succ]
    refine wpAnyH_ready (rs := [24]) (by kernel_rfl) (by simp) ?_
    refine AllReadyH.cons (by simp only [List.getElem?_toArray, List.getElem?_cons_succ, List.getElem?_cons_zero]; rfl) (fun Kz hKz => ?_) AllReadyH.nil
    rw [if_pos (by rfl)]
    have hU14 := (upd_setCells N.toList 2 (Upd.refl hU13.out.here))
    (refine wp_store_mid 32 (.tmp 68) (.tmp 57) rfl J 2 N rfl rfl hth.out tD tO ?_)
    (with_reducible refine setCells_step ?_)
    intro w14 hw14
    rw [← hw14, hNL.out, jsetH hH hNl] at hU14
    clear hw14
    have hS := (hU14.block g hgJ).trans hOn
    replace hU14 := Lib.hid hU14
    have k34c : w14.cell? ⟨J, 34, none⟩ = some (.int .i64 (E : Nat)) := (by rw [cell_of_block hU14.out.here]; exact jc34 hNl)
    have f34c : w14.frozen? ⟨J, 34, none⟩ = false := free_of_block hU14.out.here _
    refine hKz.out _ _ (by first | exact hS | exact Below.trans hOn (Below.mono hnew (Below.size hOn))) (fun hNext => ?_)
    clear hKz Kz hOn
    have hOn := hNext
    clear hNext
    try clear hnew
    try clear hS
    try simp only [Act.put]
    refine wpAnyH_take (i := 25) (v := ?_) (by simp only [List.getElem?_toArray, List.getElem?_cons_succ, List.getElem?_cons_zero]; rfl) (by kernel_rfl) (by kernel_rfl) (by kernel_rfl) (by exact fun _ _ _ h => h) (Or.inl ⟨by rfl, ?_⟩) hOn ?_
    rotate_left
    focus (intro W hSW; go_simp; try with_reducible rfl)
    try simp only [Act.put, List.setIfInBounds_toArray, List.set_cons_zero, List.set_cons_succ]
    refine wpAnyH_take (i := 26) (v := ?_) (by simp only [List.getElem?_toArray, List.getElem?_cons_succ, List.getElem?_cons_zero]; rfl) (by kernel_rfl) (by kernel_rfl) (by kernel_rfl) (by exact fun _ _ _ h => h) (Or.inl ⟨by rfl, ?_⟩) hOn ?_
    rotate_left
    focus (intro W hSW; go_simp; try with_reducible rfl)
    try simp only [Act.put, List.setIfInBounds_toArray, List.set_cons_zero, List.set_cons_succ]
    refine wpAnyH_ready (rs := [27]) (by kernel_rfl) (by simp) ?_
    refine AllReadyH.cons (by simp only [List.getElem?_toArray, List.getElem?_cons_succ, List.getElem?_cons_zero]; rfl) (fun Kz hKz => ?_) AllReadyH.nil
    have hU15 := Lib.hid ((Upd.refl hU14.out.here).setCell (j := 34) (.int .i64 ((E : Int) + (FL : Int))))
    go_simp
    (with_reducible refine setCell_step ?_)
    intro w15 hw15
    rw [← hw15] at hU15
    clear hw15
    have hS := (hU15.out.block g hgJ).trans hOn
    refine hKz.out _ _ (by first | exact hS | exact Below.trans hOn (Below.mono hnew (Below.size hOn))) (fun hNext => ?_)
    clear hKz Kz hOn
    have hOn := hNext
    clear hNext
    try clear hnew
    try clear hS
    try simp only [Act.put]
    refine wpAnyH_done (by kernel_rfl) ?_ _
    rotate_left
    refine AllReadyH.cons (by simp only [List.getElem?_toArray, List.getElem?_cons_succ, List.getElem?_cons_zero]; rfl) (fun Kz hKz => ?_) AllReadyH.nil
    go_simp
    focus (try go_wp2_with fail)
    (with_reducible refine made_step (t := 22) ?_)
    intro w11 hx11 hnew
    have hS := (hnew.block g (block_lt hOn)).trans hOn
    have hat11 := Lib.hid ((hnew.block J (block_lt hat10.out)).trans hat10.out)
    have hb11 := Lib.hid (hb10.out.trans (hnew.mono hb10.out.size))
    have ho11 := Lib.hid (OwnB.below ho10.out hnew (Nat.le_refl _))
    have hrow11 := Lib.hid (hrow9.out.below liesRB hb11.out)
    have hbs11 : base ≤ w11.heap.size := Nat.le_trans hb9 hb11.out.size
    have hyB := Lib.hid (show RB w11 (fun k => F k ∨ k = g10) r (#[Value.slice (some ⟨g10, 0, none⟩) r.length c10] : Array Value).toList from liesRB.more (rb_own ho11.out) (fun k h => by cases h; exact .inr rfl))
    have hFB := Lib.hid (show ∀ k, F k → F k ∨ k = g10 from fun k h => .inl h)
    have haB := Lib.hid (show ∀ k, (Value.slice ra recs.length rc).ownBlock = some k → ¬ (F k ∨ k = g10) from fun k hk h => h.elim (hrow9.out.apart k hk) (fun h => by have := (hrow9.out.ownLt k hk).2; omega))
    have hlB := Lib.hid (show ∀ k, F k ∨ k = g10 → k < w11.heap.size from fun k h => h.elim (fun h => hrow11.out.lt k h) (fun h => h ▸ (World.ownsRow.lt ho11.out g10 rfl).2))
    have k1c : w11.cell? ⟨J, 1, none⟩ = some (.slice ra recs.length rc) := (by rw [cell_of_block hat11.out]; exact jc1)
    have k34c : w11.cell? ⟨J, 34, none⟩ = some (.int .i64 (E : Nat)) := (by rw [cell_of_block hat11.out]; exact jc34 hH)
    refine hKz.out _ _ (by first | exact hS | exact Below.trans hOn (Below.mono hnew (Below.size hOn))) (fun hNext => ?_)
    clear hKz Kz hOn
    have hOn := hNext
    clear hNext
    try clear hnew
    try clear hS
    try simp only [Act.put, List.setIfInBounds_toArray, List.set_cons_zero, List.set_cons_succ]
    refine wpAnyH_ready (rs := [6]) (by kernel_rfl) (by simp) ?_
    refine AllReadyH.cons (by simp only [List.getElem?_toArray, List.getElem?_cons_succ, List.getElem?_cons_zero]; rfl) (fun Kz hKz => ?_) AllReadyH.nil
    go_simp
    focus (try go_wp2_with fail)
    refine hKz.out _ _ (by first | exact hOn | exact Grown.alloc hOn _ | exact Below.alloc hOn (Below.size hOn) _ | exact Grown.alloc (Grown.refl _) _) (fun hNext => ?_)
    clear hKz Kz hOn
    have hOn := hNext
    clear hNext
    try simp only [Act.put, List.setIfInBounds_toArray, List.set_cons_zero, List.set_cons_succ]
    refine wpAnyH_ready (rs := [10]) (by kernel_rfl) (by simp) ?_
    refine AllReadyH.cons (by simp only [List.getElem?_toArray, List.getElem?_cons_succ, List.getElem?_cons_zero]; rfl) (fun Kz hKz => ?_) AllReadyH.nil
    rw [if_pos (by rfl)]
    (refine wpK_appRowsAt liesRB (.tmp 52) (.tmp 55) 23 rfl hus 24 hinfo.out (by decide) rfl hrow11 r _ hyB hFB haB hlB w10.heap.size rfl hx11 hrl (by decide) hbs11 ?_)
    intro v12 w12 hr12 hO12 hM12
    have hS := hO12.out.heap hOn hgv
    have hat12 := Lib.hid (hO12.out.heap hat11.out (fun hd => hst9.out.ok.jm.nv hd))
    have k1c : w12.cell? ⟨J, 1, none⟩ = some (.slice ra recs.length rc) := (by rw [cell_of_block hat12.out]; exact jc1)
    have k34c : w12.cell? ⟨J, 34, none⟩ = some (.int .i64 (E : Nat)) := (by rw [cell_of_block hat12.out]; exact jc34 hH)
    have f1c : w12.frozen? ⟨J, 1, none⟩ = false := free_of_block hat12.out _
    obtain ⟨a12, n12, c12, hv12⟩ : ∃ a n c, v12 = .slice a n c := (by obtain ⟨a, c, e, _⟩ := hr12.out.form; exact ⟨a, _, c, e⟩)
    subst hv12
    refine hKz.out _ _ (by first | exact hS | exact Below.trans hOn (Below.mono hnew (Below.size hOn))) (fun hNext => ?_)
    clear hKz Kz hOn
    have hOn := hNext
    clear hNext
    try clear hnew
    try clear hS
    try simp only [Act.put]
    refine wpAnyH_take (i := 19) (v := ?_) (by simp only [List.getElem?_toArray, List.getElem?_cons_succ, List.getElem?_cons_zero]; rfl) (by kernel_rfl) (by kernel_rfl) (by kernel_rfl) (by exact fun _ _ _ h => h) (Or.inl ⟨by rfl, ?_⟩) hOn ?_
    rotate_left
    focus (intro W hSW; go_simp; try with_reducible rfl)
    try simp only [Act.put, List.setIfInBounds_toArray, List.set_cons_zero, List.set_cons_succ]
    refine wpAnyH_take (i := 20) (v := ?_) (by simp only [List.getElem?_toArray, List.getElem?_cons_succ, List.getElem?_cons_zero]; rfl) (by kernel_rfl) (by kernel_rfl) (by kernel_rfl) (by exact fun _ _ _ h => h) (Or.inl ⟨by rfl, ?_⟩) hOn ?_
    rotate_left
    focus (intro W hSW; go_simp; try with_reducible rfl)
    try simp only [Act.put, List.setIfInBounds_toArray, List.set_cons_zero, List.set_cons_succ]
    refine wpAnyH_ready (rs := [21]) (by kernel_rfl) (by simp) ?_
    refine AllReadyH.cons (by simp only [List.getElem?_toArray, List.getElem?_cons_succ, List.getElem?_cons_zero]; rfl) (fun Kz hKz => ?_) AllReadyH.nil
    have hU13 := ((Upd.refl hat12.out).setCell (j := 1) (.slice a12 n12 c12))
    go_simp
    (with_reducible refine setCell_step ?_)
    intro w13 hw13
    rw [← hw13, jset1] at hU13
    clear hw13
    have hS := (hU13.block g hgJ).trans hOn
    replace hU13 := Lib.hid hU13
    have hth := Lib.hid (show w13.there J 2 N.size from there_block hU13.out.here (by rw [jcells_size hH, hN.out, List.size_toArray, cB_length, hNl]; decide))
    refine hKz.out _ _ (by first | exact hS | exact Below.trans hOn (Below.mono hnew (Below.size hOn))) (fun hNext => ?_)
    clear hKz Kz hOn
    have hOn := hNext
    clear hNext
    try clear hnew
    try clear hS
    try simp only [Act.put]
    refine wpAnyH_take (i := 22) (v := ?_) (by simp only [List.getElem?_toArray, List.getElem?_cons_succ, List.getElem?_cons_zero]; rfl) (by kernel_rfl) (by kernel_rfl) (by kernel_rfl) (by exact fun _ _ _ h => h) (Or.inl ⟨by rfl, ?_⟩) hOn ?_
    rotate_left
    focus (intro W hSW; go_simp; try with_reducible rfl)
    try simp only [Act.put, List.setIfInBounds_toArray, List.set_cons_zero, List.set_cons_succ]
    refine wpAnyH_take (i := 23) (v := ?_) (by simp only [List.getElem?_toArray, List.getElem?_cons_succ, List.getElem?_cons_zero]; rfl) (by kernel_rfl) (by kernel_rfl) (by kernel_rfl) (by exact fun _ _ _ h => h) (Or.inl ⟨by rfl, ?_⟩) hOn ?_
    rotate_left
    focus (intro W hSW; go_simp; try with_reducible rfl)
    try simp only [Act.put, List.setIfInBounds_toArray, List.set_cons_zero, List.set_cons_succ]
    refine wpAnyH_ready (rs := [24]) (by kernel_rfl) (by simp) ?_
    refine AllReadyH.cons (by simp only [List.getElem?_toArray, List.getElem?_cons_succ, List.getElem?_cons_zero]; rfl) (fun Kz hKz => ?_) AllReadyH.nil
    rw [if_pos (by rfl)]
    have hU14 := (upd_setCells N.toList 2 (Upd.refl hU13.out.here))
    (refine wp_store_mid 32 (.tmp 68) (.tmp 57) rfl J 2 N rfl rfl hth.out tD tO ?_)
    (with_reducible refine setCells_step ?_)
    intro w14 hw14
    rw [← hw14, hNL.out, jsetH hH hNl] at hU14
    clear hw14
    have hS := (hU14.block g hgJ).trans hOn
    replace hU14 := Lib.hid hU14
    have k34c : w14.cell? ⟨J, 34, none⟩ = some (.int .i64 (E : Nat)) := (by rw [cell_of_block hU14.out.here]; exact jc34 hNl)
    have f34c : w14.frozen? ⟨J, 34, none⟩ = false := free_of_block hU14.out.here _
    refine hKz.out _ _ (by first | exact hS | exact Below.trans hOn (Below.mono hnew (Below.size hOn))) (fun hNext => ?_)
    clear hKz Kz hOn
    have hOn := hNext
    clear hNext
    try clear hnew
    try clear hS
    try simp only [Act.put]
    refine wpAnyH_take (i := 25) (v := ?_) (by simp only [List.getElem?_toArray, List.getElem?_cons_succ, List.getElem?_cons_zero]; rfl) (by kernel_rfl) (by kernel_rfl) (by kernel_rfl) (by exact fun _ _ _ h => h) (Or.inl ⟨by rfl, ?_⟩) hOn ?_
    rotate_left
    focus (intro W hSW; go_simp; try with_reducible rfl)
    try simp only [Act.put, List.setIfInBounds_toArray, List.set_cons_zero, List.set_cons_succ]
    refine wpAnyH_take (i := 26) (v := ?_) (by simp only [List.getElem?_toArray, List.getElem?_cons_succ, List.getElem?_cons_zero]; rfl) (by kernel_rfl) (by kernel_rfl) (by kernel_rfl) (by exact fun _ _ _ h => h) (Or.inl ⟨by rfl, ?_⟩) hOn ?_
    rotate_left
    focus (intro W hSW; go_simp; try with_reducible rfl)
    try simp only [Act.put, List.setIfInBounds_toArray, List.set_cons_zero, List.set_cons_succ]
    refine wpAnyH_ready (rs := [27]) (by kernel_rfl) (by simp) ?_
    refine AllReadyH.cons (by simp only [List.getElem?_toArray, List.getElem?_cons_succ, List.getElem?_cons_zero]; rfl) (fun Kz hKz => ?_) AllReadyH.nil
    have hU15 := Lib.hid ((Upd.refl hU14.out.here).setCell (j := 34) (.int .i64 ((E : Int) + (FL : Int))))
    go_simp
    (with_reducible refine setCell_step ?_)
    intro w15 hw15
    rw [← hw15] at hU15
    clear hw15
    have hS := (hU15.out.block g hgJ).trans hOn
    refine hKz.out _ _ (by first | exact hS | exact Below.trans hOn (Below.mono hnew (Below.size hOn))) (fun hNext => ?_)
    clear hKz Kz hOn
    have hOn := hNext
    clear hNext
    try clear hnew
    try clear hS
    try simp only [Act.put]
    refine wpAnyH_done (by kernel_rfl) ?_ _
    rotate_left
    refine AllReadyH.cons (by simp only [List.getElem?_toArray, List.getElem?_cons_succ, List.getElem?_cons_zero]; rfl) (fun Kz hKz => ?_) AllReadyH.nil
    go_simp
    focus (try go_wp2_with fail)
    refine hKz.out _ _ (by first | exact hOn | exact Grown.alloc hOn _ | exact Below.alloc hOn (Below.size hOn) _ | exact Grown.alloc (Grown.refl _) _) (fun hNext => ?_)
    clear hKz Kz hOn
    have hOn := hNext
    clear hNext
    try simp only [Act.put, List.setIfInBounds_toArray, List.set_cons_zero, List.set_cons_succ]
    refine wpAnyH_take (i := 18) (v := ?_) (by simp only [List.getElem?_toArray, List.getElem?_cons_succ, List.getElem?_cons_zero]; rfl) (by kernel_rfl) (by kernel_rfl) (by kernel_rfl) (by exact fun _ _ _ h => h) (Or.inl ⟨by rfl, ?_⟩) hOn ?_
    rotate_left
    focus (intro W hSW; go_simp; try with_reducible rfl)
    try simp only [Act.put, List.setIfInBounds_toArray, List.set_cons_zero, List.set_cons_succ]
    refine wpAnyH_ready (rs := [6, 8]) (by kernel_rfl) (by simp) ?_
    refine AllReadyH.cons (by simp only [List.getElem?_toArray, List.getElem?_cons_succ, List.getElem?_cons_zero]; rfl) (fun Kz hKz => ?_) ?_
    go_simp
    focus (try go_wp2_with fail)
    refine hKz.out _ _ (by first | exact hOn | exact Grown.alloc hOn _ | exact Below.alloc hOn (Below.size hOn) _ | exact Grown.alloc (Grown.refl _) _) (fun hNext => ?_)
    clear hKz Kz hOn
    have hOn := hNext
    clear hNext
    try simp only [Act.put, List.setIfInBounds_toArray, List.set_cons_zero, List.set_cons_succ]
    refine wpAnyH_ready (rs := [8]) (by kernel_rfl) (by simp) ?_
    refine AllReadyH.cons (by simp only [List.getElem?_toArray, List.getElem?_cons_succ, List.getElem?_cons_zero]; rfl) (fun Kz hKz => ?_) AllReadyH.nil
    go_simp
    (with_reducible refine hcl.out.mono ?_)
    rintro y w10 ⟨v10, rfl, ho10, hnew⟩
    have hS := (hnew.block g (block_lt hOn)).trans hOn
    have hat10 := Lib.hid ((hnew.block J (block_lt hatd.out)).trans hatd.out)
    have hb10 := Lib.hid hnew
    obtain ⟨g10, c10, rfl, hg10⟩ := OwnB.form ho10 g1
    have ho10 := Lib.hid ho10
    have k1c : w10.cell? ⟨J, 1, none⟩ = some (.slice ra recs.length rc) := (by rw [cell_of_block hat10.out]; exact jc1)
    have k34c : w10.cell? ⟨J, 34, none⟩ = some (.int .i64 (E : Nat)) := (by rw [cell_of_block hat10.out]; exact jc34 hH)
    focus (go_wp2_with fail)
    refine hKz.out _ _ (by first | exact hS | exact Below.trans hOn (Below.mono hnew (Below.size hOn))) (fun hNext => ?_)
    clear hKz Kz hOn
    have hOn := hNext
    clear hNext
    try clear hnew
    try clear hS
    try simp only [Act.put, List.setIfInBounds_toArray, List.set_cons_zero, List.set_cons_succ]
    refine wpAnyH_ready (rs := [9]) (by kernel_rfl) (by simp) ?_
    refine AllReadyH.cons (by simp only [List.getElem?_toArray, List.getElem?_cons_succ, List.getElem?_cons_zero]; rfl) (fun Kz hKz => ?_) AllReadyH.nil
    go_simp
    focus (try go_wp2_with fail)
    (with_reducible refine made_step (t := 22) ?_)
    intro w11 hx11 hnew
    have hS := (hnew.block g (block_lt hOn)).trans hOn
    have hat11 := Lib.hid ((hnew.block J (block_lt hat10.out)).trans hat10.out)
    have hb11 := Lib.hid (hb10.out.trans (hnew.mono hb10.out.size))
    have ho11 := Lib.hid (OwnB.below ho10.out hnew (Nat.le_refl _))
    have hrow11 := Lib.hid (hrow9.out.below liesRB hb11.out)
    have hbs11 : base ≤ w11.heap.size := Nat.le_trans hb9 hb11.out.size
    have hyB := Lib.hid (show RB w11 (fun k => F k ∨ k = g10) r (#[Value.slice (some ⟨g10, 0, none⟩) r.length c10] : Array Value).toList from liesRB.more (rb_own ho11.out) (fun k h => by cases h; exact .inr rfl))
    have hFB := Lib.hid (show ∀ k, F k → F k ∨ k = g10 from fun k h => .inl h)
    have haB := Lib.hid (show ∀ k, (Value.slice ra recs.length rc).ownBlock = some k → ¬ (F k ∨ k = g10) from fun k hk h => h.elim (hrow9.out.apart k hk) (fun h => by have := (hrow9.out.ownLt k hk).2; omega))
    have hlB := Lib.hid (show ∀ k, F k ∨ k = g10 → k < w11.heap.size from fun k h => h.elim (fun h => hrow11.out.lt k h) (fun h => h ▸ (World.ownsRow.lt ho11.out g10 rfl).2))
    have k1c : w11.cell? ⟨J, 1, none⟩ = some (.slice ra recs.length rc) := (by rw [cell_of_block hat11.out]; exact jc1)
    have k34c : w11.cell? ⟨J, 34, none⟩ = some (.int .i64 (E : Nat)) := (by rw [cell_of_block hat11.out]; exact jc34 hH)
    refine hKz.out _ _ (by first | exact hS | exact Below.trans hOn (Below.mono hnew (Below.size hOn))) (fun hNext => ?_)
    clear hKz Kz hOn
    have hOn := hNext
    clear hNext
    try clear hnew
    try clear hS
    try simp only [Act.put, List.setIfInBounds_toArray, List.set_cons_zero, List.set_cons_succ]
    refine wpAnyH_ready (rs := [10]) (by kernel_rfl) (by simp) ?_
    refine AllReadyH.cons (by simp only [List.getElem?_toArray, List.getElem?_cons_succ, List.getElem?_cons_zero]; rfl) (fun Kz hKz => ?_) AllReadyH.nil
    rw [if_pos (by rfl)]
    (refine wpK_appRowsAt liesRB (.tmp 52) (.tmp 55) 23 rfl hus 24 hinfo.out (by decide) rfl hrow11 r _ hyB hFB haB hlB w10.heap.size rfl hx11 hrl (by decide) hbs11 ?_)
    intro v12 w12 hr12 hO12 hM12
    have hS := hO12.out.heap hOn hgv
    have hat12 := Lib.hid (hO12.out.heap hat11.out (fun hd => hst9.out.ok.jm.nv hd))
    have k1c : w12.cell? ⟨J, 1, none⟩ = some (.slice ra recs.length rc) := (by rw [cell_of_block hat12.out]; exact jc1)
    have k34c : w12.cell? ⟨J, 34, none⟩ = some (.int .i64 (E : Nat)) := (by rw [cell_of_block hat12.out]; exact jc34 hH)
    have f1c : w12.frozen? ⟨J, 1, none⟩ = false := free_of_block hat12.out _
    obtain ⟨a12, n12, c12, hv12⟩ : ∃ a n c, v12 = .slice a n c := (by obtain ⟨a, c, e, _⟩ := hr12.out.form; exact ⟨a, _, c, e⟩)
    subst hv12
    refine hKz.out _ _ (by first | exact hS | exact Below.trans hOn (Below.mono hnew (Below.size hOn))) (fun hNext => ?_)
    clear hKz Kz hOn
    have hOn := hNext
    clear hNext
    try clear hnew
    try clear hS
    try simp only [Act.put]
    refine wpAnyH_take (i := 19) (v := ?_) (by simp only [List.getElem?_toArray, List.getElem?_cons_succ, List.getElem?_cons_zero]; rfl) (by kernel_rfl) (by kernel_rfl) (by kernel_rfl) (by exact fun _ _ _ h => h) (Or.inl ⟨by rfl, ?_⟩) hOn ?_
    rotate_left
    focus (intro W hSW; go_simp; try with_reducible rfl)
    try simp only [Act.put, List.setIfInBounds_toArray, List.set_cons_zero, List.set_cons_succ]
    refine wpAnyH_take (i := 20) (v := ?_) (by simp only [List.getElem?_toArray, List.getElem?_cons_succ, List.getElem?_cons_zero]; rfl) (by kernel_rfl) (by kernel_rfl) (by kernel_rfl) (by exact fun _ _ _ h => h) (Or.inl ⟨by rfl, ?_⟩) hOn ?_
    rotate_left
    focus (intro W hSW; go_simp; try with_reducible rfl)
    try simp only [Act.put, List.setIfInBounds_toArray, List.set_cons_zero, List.set_cons_succ]
    refine wpAnyH_ready (rs := [21]) (by kernel_rfl) (by simp) ?_
    refine AllReadyH.cons (by simp only [List.getElem?_toArray, List.getElem?_cons_succ, List.getElem?_cons_zero]; rfl) (fun Kz hKz => ?_) AllReadyH.nil
    have hU13 := ((Upd.refl hat12.out).setCell (j := 1) (.slice a12 n12 c12))
    go_simp
    (with_reducible refine setCell_step ?_)
    intro w13 hw13
    rw [← hw13, jset1] at hU13
    clear hw13
    have hS := (hU13.block g hgJ).trans hOn
    replace hU13 := Lib.hid hU13
    have hth := Lib.hid (show w13.there J 2 N.size from there_block hU13.out.here (by rw [jcells_size hH, hN.out, List.size_toArray, cB_length, hNl]; decide))
    refine hKz.out _ _ (by first | exact hS | exact Below.trans hOn (Below.mono hnew (Below.size hOn))) (fun hNext => ?_)
    clear hKz Kz hOn
    have hOn := hNext
    clear hNext
    try clear hnew
    try clear hS
    try simp only [Act.put]
    refine wpAnyH_take (i := 22) (v := ?_) (by simp only [List.getElem?_toArray, List.getElem?_cons_succ, List.getElem?_cons_zero]; rfl) (by kernel_rfl) (by kernel_rfl) (by kernel_rfl) (by exact fun _ _ _ h => h) (Or.inl ⟨by rfl, ?_⟩) hOn ?_
    rotate_left
    focus (intro W hSW; go_simp; try with_reducible rfl)
    try simp only [Act.put, List.setIfInBounds_toArray, List.set_cons_zero, List.set_cons_succ]
    refine wpAnyH_take (i := 23) (v := ?_) (by simp only [List.getElem?_toArray, List.getElem?_cons_succ, List.getElem?_cons_zero]; rfl) (by kernel_rfl) (by kernel_rfl) (by kernel_rfl) (by exact fun _ _ _ h => h) (Or.inl ⟨by rfl, ?_⟩) hOn ?_
    rotate_left
    focus (intro W hSW; go_simp; try with_reducible rfl)
    try simp only [Act.put, List.setIfInBounds_toArray, List.set_cons_zero, List.set_cons_succ]
    refine wpAnyH_ready (rs := [24]) (by kernel_rfl) (by simp) ?_
    refine AllReadyH.cons (by simp only [List.getElem?_toArray, List.getElem?_cons_succ, List.getElem?_cons_zero]; rfl) (fun Kz hKz => ?_) AllReadyH.nil
    rw [if_pos (by rfl)]
    have hU14 := (upd_setCells N.toList 2 (Upd.refl hU13.out.here))
    (refine wp_store_mid 32 (.tmp 68) (.tmp 57) rfl J 2 N rfl rfl hth.out tD tO ?_)
    (with_reducible refine setCells_step ?_)
    intro w14 hw14
    rw [← hw14, hNL.out, jsetH hH hNl] at hU14
    clear hw14
    have hS := (hU14.block g hgJ).trans hOn
    replace hU14 := Lib.hid hU14
    have k34c : w14.cell? ⟨J, 34, none⟩ = some (.int .i64 (E : Nat)) := (by rw [cell_of_block hU14.out.here]; exact jc34 hNl)
    have f34c : w14.frozen? ⟨J, 34, none⟩ = false := free_of_block hU14.out.here _
    refine hKz.out _ _ (by first | exact hS | exact Below.trans hOn (Below.mono hnew (Below.size hOn))) (fun hNext => ?_)
    clear hKz Kz hOn
    have hOn := hNext
    clear hNext
    try clear hnew
    try clear hS
    try simp only [Act.put]
    refine wpAnyH_take (i := 25) (v := ?_) (by simp only [List.getElem?_toArray, List.getElem?_cons_succ, List.getElem?_cons_zero]; rfl) (by kernel_rfl) (by kernel_rfl) (by kernel_rfl) (by exact fun _ _ _ h => h) (Or.inl ⟨by rfl, ?_⟩) hOn ?_
    rotate_left
    focus (intro W hSW; go_simp; try with_reducible rfl)
    try simp only [Act.put, List.setIfInBounds_toArray, List.set_cons_zero, List.set_cons_succ]
    refine wpAnyH_take (i := 26) (v := ?_) (by simp only [List.getElem?_toArray, List.getElem?_cons_succ, List.getElem?_cons_zero]; rfl) (by kernel_rfl) (by kernel_rfl) (by kernel_rfl) (by exact fun _ _ _ h => h) (Or.inl ⟨by rfl, ?_⟩) hOn ?_
    rotate_left
    focus (intro W hSW; go_simp; try with_reducible rfl)
    try simp only [Act.put, List.setIfInBounds_toArray, List.set_cons_zero, List.set_cons_succ]
    refine wpAnyH_ready (rs := [27]) (by kernel_rfl) (by simp) ?_
    refine AllReadyH.cons (by simp only [List.getElem?_toArray, List.getElem?_cons_succ, List.getElem?_cons_zero]; rfl) (fun Kz hKz => ?_) AllReadyH.nil
    have hU15 := Lib.hid ((Upd.refl hU14.out.here).setCell (j := 34) (.int .i64 ((E : Int) + (FL : Int))))
    go_simp
    (with_reducible refine setCell_step ?_)
    intro w15 hw15
    rw [← hw15] at hU15
    clear hw15
    have hS := (hU15.out.block g hgJ).trans hOn
    refine hKz.out _ _ (by first | exact hS | exact Below.trans hOn (Below.mono hnew (Below.size hOn))) (fun hNext => ?_)
    clear hKz Kz hOn
    have hOn := hNext
    clear hNext
    try clear hnew
    try clear hS
    try simp only [Act.put]
    refine wpAnyH_done (by kernel_rfl) ?_ _
    rotate_left
    refine AllReadyH.cons (by simp only [List.getElem?_toArray, List.getElem?_cons_succ, List.getElem?_cons_zero]; rfl) (fun Kz hKz => ?_) AllReadyH.nil
    go_simp
    (with_reducible refine hcl.out.mono ?_)
    rintro y w10 ⟨v10, rfl, ho10, hnew⟩
    have hS := (hnew.block g (block_lt hOn)).trans hOn
    have hat10 := Lib.hid ((hnew.block J (block_lt hatd.out)).trans hatd.out)
    have hb10 := Lib.hid hnew
    obtain ⟨g10, c10, rfl, hg10⟩ := OwnB.form ho10 g1
    have ho10 := Lib.hid ho10
    have k1c : w10.cell? ⟨J, 1, none⟩ = some (.slice ra recs.length rc) := (by rw [cell_of_block hat10.out]; exact jc1)
    have k34c : w10.cell? ⟨J, 34, none⟩ = some (.int .i64 (E : Nat)) := (by rw [cell_of_block hat10.out]; exact jc34 hH)
    focus (go_wp2_with fail)
    refine hKz.out _ _ (by first | exact hS | exact Below.trans hOn (Below.mono hnew (Below.size hOn))) (fun hNext => ?_)
    clear hKz Kz hOn
    have hOn := hNext
    clear hNext
    try clear hnew
    try clear hS
    try simp only [Act.put, List.setIfInBounds_toArray, List.set_cons_zero, List.set_cons_succ]
    refine wpAnyH_ready (rs := [6, 9]) (by kernel_rfl) (by simp) ?_
    refine AllReadyH.cons (by simp only [List.getElem?_toArray, List.getElem?_cons_succ, List.getElem?_cons_zero]; rfl) (fun Kz hKz => ?_) ?_
    go_simp
    focus (try go_wp2_with fail)
    refine hKz.out _ _ (by first | exact hOn | exact Grown.alloc hOn _ | exact Below.alloc hOn (Below.size hOn) _ | exact Grown.alloc (Grown.refl _) _) (fun hNext => ?_)
    clear hKz Kz hOn
    have hOn := hNext
    clear hNext
    try simp only [Act.put, List.setIfInBounds_toArray, List.set_cons_zero, List.set_cons_succ]
    refine wpAnyH_ready (rs := [9]) (by kernel_rfl) (by simp) ?_
    refine AllReadyH.cons (by simp only [List.getElem?_toArray, List.getElem?_cons_succ, List.getElem?_cons_zero]; rfl) (fun Kz hKz => ?_) AllReadyH.nil
    go_simp
    focus (try go_wp2_with fail)
    (with_reducible refine made_step (t := 22) ?_)
    intro w11 hx11 hnew
    have hS := (hnew.block g (block_lt hOn)).trans hOn
    have hat11 := Lib.hid ((hnew.block J (block_lt hat10.out)).trans hat10.out)
    have hb11 := Lib.hid (hb10.out.trans (hnew.mono hb10.out.size))
    have ho11 := Lib.hid (OwnB.below ho10.out hnew (Nat.le_refl _))
    have hrow11 := Lib.hid (hrow9.out.below liesRB hb11.out)
    have hbs11 : base ≤ w11.heap.size := Nat.le_trans hb9 hb11.out.size
    have hyB := Lib.hid (show RB w11 (fun k => F k ∨ k = g10) r (#[Value.slice (some ⟨g10, 0, none⟩) r.length c10] : Array Value).toList from liesRB.more (rb_own ho11.out) (fun k h => by cases h; exact .inr rfl))
    have hFB := Lib.hid (show ∀ k, F k → F k ∨ k = g10 from fun k h => .inl h)
    have haB := Lib.hid (show ∀ k, (Value.slice ra recs.length rc).ownBlock = some k → ¬ (F k ∨ k = g10) from fun k hk h => h.elim (hrow9.out.apart k hk) (fun h => by have := (hrow9.out.ownLt k hk).2; omega))
    have hlB := Lib.hid (show ∀ k, F k ∨ k = g10 → k < w11.heap.size from fun k h => h.elim (fun h => hrow11.out.lt k h) (fun h => h ▸ (World.ownsRow.lt ho11.out g10 rfl).2))
    have k1c : w11.cell? ⟨J, 1, none⟩ = some (.slice ra recs.length rc) := (by rw [cell_of_block hat11.out]; exact jc1)
    have k34c : w11.cell? ⟨J, 34, none⟩ = some (.int .i64 (E : Nat)) := (by rw [cell_of_block hat11.out]; exact jc34 hH)
    refine hKz.out _ _ (by first | exact hS | exact Below.trans hOn (Below.mono hnew (Below.size hOn))) (fun hNext => ?_)
    clear hKz Kz hOn
    have hOn := hNext
    clear hNext
    try clear hnew
    try clear hS
    try simp only [Act.put, List.setIfInBounds_toArray, List.set_cons_zero, List.set_cons_succ]
    refine wpAnyH_ready (rs := [10]) (by kernel_rfl) (by simp) ?_
    refine AllReadyH.cons (by simp only [List.getElem?_toArray, List.getElem?_cons_succ, List.getElem?_cons_zero]; rfl) (fun Kz hKz => ?_) AllReadyH.nil
    rw [if_pos (by rfl)]
    (refine wpK_appRowsAt liesRB (.tmp 52) (.tmp 55) 23 rfl hus 24 hinfo.out (by decide) rfl hrow11 r _ hyB hFB haB hlB w10.heap.size rfl hx11 hrl (by decide) hbs11 ?_)
    intro v12 w12 hr12 hO12 hM12
    have hS := hO12.out.heap hOn hgv
    have hat12 := Lib.hid (hO12.out.heap hat11.out (fun hd => hst9.out.ok.jm.nv hd))
    have k1c : w12.cell? ⟨J, 1, none⟩ = some (.slice ra recs.length rc) := (by rw [cell_of_block hat12.out]; exact jc1)
    have k34c : w12.cell? ⟨J, 34, none⟩ = some (.int .i64 (E : Nat)) := (by rw [cell_of_block hat12.out]; exact jc34 hH)
    have f1c : w12.frozen? ⟨J, 1, none⟩ = false := free_of_block hat12.out _
    obtain ⟨a12, n12, c12, hv12⟩ : ∃ a n c, v12 = .slice a n c := (by obtain ⟨a, c, e, _⟩ := hr12.out.form; exact ⟨a, _, c, e⟩)
    subst hv12
    refine hKz.out _ _ (by first | exact hS | exact Below.trans hOn (Below.mono hnew (Below.size hOn))) (fun hNext => ?_)
    clear hKz Kz hOn
    have hOn := hNext
    clear hNext
    try clear hnew
    try clear hS
    try simp only [Act.put]
    refine wpAnyH_take (i := 19) (v := ?_) (by simp only [List.getElem?_toArray, List.getElem?_cons_succ, List.getElem?_cons_zero]; rfl) (by kernel_rfl) (by kernel_rfl) (by kernel_rfl) (by exact fun _ _ _ h => h) (Or.inl ⟨by rfl, ?_⟩) hOn ?_
    rotate_left
    focus (intro W hSW; go_simp; try with_reducible rfl)
    try simp only [Act.put, List.setIfInBounds_toArray, List.set_cons_zero, List.set_cons_succ]
    refine wpAnyH_take (i := 20) (v := ?_) (by simp only [List.getElem?_toArray, List.getElem?_cons_succ, List.getElem?_cons_zero]; rfl) (by kernel_rfl) (by kernel_rfl) (by kernel_rfl) (by exact fun _ _ _ h => h) (Or.inl ⟨by rfl, ?_⟩) hOn ?_
    rotate_left
    focus (intro W hSW; go_simp; try with_reducible rfl)
    try simp only [Act.put, List.setIfInBounds_toArray, List.set_cons_zero, List.set_cons_succ]
    refine wpAnyH_ready (rs := [21]) (by kernel_rfl) (by simp) ?_
    refine AllReadyH.cons (by simp only [List.getElem?_toArray, List.getElem?_cons_succ, List.getElem?_cons_zero]; rfl) (fun Kz hKz => ?_) AllReadyH.nil
    have hU13 := ((Upd.refl hat12.out).setCell (j := 1) (.slice a12 n12 c12))
    go_simp
    (with_reducible refine setCell_step ?_)
    intro w13 hw13
    rw [← hw13, jset1] at hU13
    clear hw13
    have hS := (hU13.block g hgJ).trans hOn
    replace hU13 := Lib.hid hU13
    have hth := Lib.hid (show w13.there J 2 N.size from there_block hU13.out.here (by rw [jcells_size hH, hN.out, List.size_toArray, cB_length, hNl]; decide))
    refine hKz.out _ _ (by first | exact hS | exact Below.trans hOn (Below.mono hnew (Below.size hOn))) (fun hNext => ?_)
    clear hKz Kz hOn
    have hOn := hNext
    clear hNext
    try clear hnew
    try clear hS
    try simp only [Act.put]
    refine wpAnyH_take (i := 22) (v := ?_) (by simp only [List.getElem?_toArray, List.getElem?_cons_succ, List.getElem?_cons_zero]; rfl) (by kernel_rfl) (by kernel_rfl) (by kernel_rfl) (by exact fun _ _ _ h => h) (Or.inl ⟨by rfl, ?_⟩) hOn ?_
    rotate_left
    focus (intro W hSW; go_simp; try with_reducible rfl)
    try simp only [Act.put, List.setIfInBounds_toArray, List.set_cons_zero, List.set_cons_succ]
    refine wpAnyH_take (i := 23) (v := ?_) (by simp only [List.getElem?_toArray, List.getElem?_cons_succ, List.getElem?_cons_zero]; rfl) (by kernel_rfl) (by kernel_rfl) (by kernel_rfl) (by exact fun _ _ _ h => h) (Or.inl ⟨by rfl, ?_⟩) hOn ?_
    rotate_left
    focus (intro W hSW; go_simp; try with_reducible rfl)
    try simp only [Act.put, List.setIfInBounds_toArray, List.set_cons_zero, List.set_cons_succ]
    refine wpAnyH_ready (rs := [24]) (by kernel_rfl) (by simp) ?_
    refine AllReadyH.cons (by simp only [List.getElem?_toArray, List.getElem?_cons_succ, List.getElem?_cons_zero]; rfl) (fun Kz hKz => ?_) AllReadyH.nil
    rw [if_pos (by rfl)]
    have hU14 := (upd_setCells N.toList 2 (Upd.refl hU13.out.here))
    (refine wp_store_mid 32 (.tmp 68) (.tmp 57) rfl J 2 N rfl rfl hth.out tD tO ?_)
    (with_reducible refine setCells_step ?_)
    intro w14 hw14
    rw [← hw14, hNL.out, jsetH hH hNl] at hU14
    clear hw14
    have hS := (hU14.block g hgJ).trans hOn
    replace hU14 := Lib.hid hU14
    have k34c : w14.cell? ⟨J, 34, none⟩ = some (.int .i64 (E : Nat)) := (by rw [cell_of_block hU14.out.here]; exact jc34 hNl)
    have f34c : w14.frozen? ⟨J, 34, none⟩ = false := free_of_block hU14.out.here _
    refine hKz.out _ _ (by first | exact hS | exact Below.trans hOn (Below.mono hnew (Below.size hOn))) (fun hNext => ?_)
    clear hKz Kz hOn
    have hOn := hNext
    clear hNext
    try clear hnew
    try clear hS
    try simp only [Act.put]
    refine wpAnyH_take (i := 25) (v := ?_) (by simp only [List.getElem?_toArray, List.getElem?_cons_succ, List.getElem?_cons_zero]; rfl) (by kernel_rfl) (by kernel_rfl) (by kernel_rfl) (by exact fun _ _ _ h => h) (Or.inl ⟨by rfl, ?_⟩) hOn ?_
    rotate_left
    focus (intro W hSW; go_simp; try with_reducible rfl)
    try simp only [Act.put, List.setIfInBounds_toArray, List.set_cons_zero, List.set_cons_succ]
    refine wpAnyH_take (i := 26) (v := ?_) (by simp only [List.getElem?_toArray, List.getElem?_cons_succ, List.getElem?_cons_zero]; rfl) (by kernel_rfl) (by kernel_rfl) (by kernel_rfl) (by exact fun _ _ _ h => h) (Or.inl ⟨by rfl, ?_⟩) hOn ?_
    rotate_left
    focus (intro W hSW; go_simp; try with_reducible rfl)
    try simp only [Act.put, List.setIfInBounds_toArray, List.set_cons_zero, List.set_cons_succ]
    refine wpAnyH_ready (rs := [27]) (by kernel_rfl) (by simp) ?_
    refine AllReadyH.cons (by simp only [List.getElem?_toArray, List.getElem?_cons_succ, List.getElem?_cons_zero]; rfl) (fun Kz hKz => ?_) AllReadyH.nil
    have hU15 := Lib.hid ((Upd.refl hU14.out.here).setCell (j := 34) (.int .i64 ((E : Int) + (FL : Int))))
    go_simp
    (with_reducible refine setCell_step ?_)
    intro w15 hw15
    rw [← hw15] at hU15
    clear hw15
    have hS := (hU15.out.block g hgJ).trans hOn
    refine hKz.out _ _ (by first | exact hS | exact Below.trans hOn (Below.mono hnew (Below.size hOn))) (fun hNext => ?_)
    clear hKz Kz hOn
    have hOn := hNext
    clear hNext
    try clear hnew
    try clear hS
    try simp only [Act.put]
    refine wpAnyH_done (by kernel_rfl) ?_ _
    rotate_left
    refine AllReadyH.cons (by simp only [List.getElem?_toArray, List.getElem?_cons_succ, List.getElem?_cons_zero]; rfl) (fun Kz hKz => ?_) AllReadyH.nil
    go_simp
    focus (try go_wp2_with fail)
    (with_reducible refine made_step (t := 22) ?_)
    intro w11 hx11 hnew
    have hS := (hnew.block g (block_lt hOn)).trans hOn
    have hat11 := Lib.hid ((hnew.block J (block_lt hat10.out)).trans hat10.out)
    have hb11 := Lib.hid (hb10.out.trans (hnew.mono hb10.out.size))
    have ho11 := Lib.hid (OwnB.below ho10.out hnew (Nat.le_refl _))
    have hrow11 := Lib.hid (hrow9.out.below liesRB hb11.out)
    have hbs11 : base ≤ w11.heap.size := Nat.le_trans hb9 hb11.out.size
    have hyB := Lib.hid (show RB w11 (fun k => F k ∨ k = g10) r (#[Value.slice (some ⟨g10, 0, none⟩) r.length c10] : Array Value).toList from liesRB.more (rb_own ho11.out) (fun k h => by cases h; exact .inr rfl))
    have hFB := Lib.hid (show ∀ k, F k → F k ∨ k = g10 from fun k h => .inl h)
    have haB := Lib.hid (show ∀ k, (Value.slice ra recs.length rc).ownBlock = some k → ¬ (F k ∨ k = g10) from fun k hk h => h.elim (hrow9.out.apart k hk) (fun h => by have := (hrow9.out.ownLt k hk).2; omega))
    have hlB := Lib.hid (show ∀ k, F k ∨ k = g10 → k < w11.heap.size from fun k h => h.elim (fun h => hrow11.out.lt k h) (fun h => h ▸ (World.ownsRow.lt ho11.out g10 rfl).2))
    have k1c : w11.cell? ⟨J, 1, none⟩ = some (.slice ra recs.length rc) := (by rw [cell_of_block hat11.out]; exact jc1)
    have k34c : w11.cell? ⟨J, 34, none⟩ = some (.int .i64 (E : Nat)) := (by rw [cell_of_block hat11.out]; exact jc34 hH)
    refine hKz.out _ _ (by first | exact hS | exact Below.trans hOn (Below.mono hnew (Below.size hOn))) (fun hNext => ?_)
    clear hKz Kz hOn
    have hOn := hNext
    clear hNext
    try clear hnew
    try clear hS
    try simp only [Act.put, List.setIfInBounds_toArray, List.set_cons_zero, List.set_cons_succ]
    refine wpAnyH_ready (rs := [6]) (by kernel_rfl) (by simp) ?_
    refine AllReadyH.cons (by simp only [List.getElem?_toArray, List.getElem?_cons_succ, List.getElem?_cons_zero]; rfl) (fun Kz hKz => ?_) AllReadyH.nil
    go_simp
    focus (try go_wp2_with fail)
    refine hKz.out _ _ (by first | exact hOn | exact Grown.alloc hOn _ | exact Below.alloc hOn (Below.size hOn) _ | exact Grown.alloc (Grown.refl _) _) (fun hNext => ?_)
    clear hKz Kz hOn
    have hOn := hNext
    clear hNext
    try simp only [Act.put, List.setIfInBounds_toArray, List.set_cons_zero, List.set_cons_succ]
    refine wpAnyH_ready (rs := [10]) (by kernel_rfl) (by simp) ?_
    refine AllReadyH.cons (by simp only [List.getElem?_toArray, List.getElem?_cons_succ, List.getElem?_cons_zero]; rfl) (fun Kz hKz => ?_) AllReadyH.nil
    rw [if_pos (by rfl)]
    (refine wpK_appRowsAt liesRB (.tmp 52) (.tmp 55) 23 rfl hus 24 hinfo.out (by decide) rfl hrow11 r _ hyB hFB haB hlB w10.heap.size rfl hx11 hrl (by decide) hbs11 ?_)
    intro v12 w12 hr12 hO12 hM12
    have hS := hO12.out.heap hOn hgv
    have hat12 := Lib.hid (hO12.out.heap hat11.out (fun hd => hst9.out.ok.jm.nv hd))
    have k1c : w12.cell? ⟨J, 1, none⟩ = some (.slice ra recs.length rc) := (by rw [cell_of_block hat12.out]; exact jc1)
    have k34c : w12.cell? ⟨J, 34, none⟩ = some (.int .i64 (E : Nat)) := (by rw [cell_of_block hat12.out]; exact jc34 hH)
    have f1c : w12.frozen? ⟨J, 1, none⟩ = false := free_of_block hat12.out _
    obtain ⟨a12, n12, c12, hv12⟩ : ∃ a n c, v12 = .slice a n c := (by obtain ⟨a, c, e, _⟩ := hr12.out.form; exact ⟨a, _, c, e⟩)
    subst hv12
    refine hKz.out _ _ (by first | exact hS | exact Below.trans hOn (Below.mono hnew (Below.size hOn))) (fun hNext => ?_)
    clear hKz Kz hOn
    have hOn := hNext
    clear hNext
    try clear hnew
    try clear hS
    try simp only [Act.put]
    refine wpAnyH_take (i := 19) (v := ?_) (by simp only [List.getElem?_toArray, List.getElem?_cons_succ, List.getElem?_cons_zero]; rfl) (by kernel_rfl) (by kernel_rfl) (by kernel_rfl) (by exact fun _ _ _ h => h) (Or.inl ⟨by rfl, ?_⟩) hOn ?_
    rotate_left
    focus (intro W hSW; go_simp; try with_reducible rfl)
    try simp only [Act.put, List.setIfInBounds_toArray, List.set_cons_zero, List.set_cons_succ]
    refine wpAnyH_take (i := 20) (v := ?_) (by simp only [List.getElem?_toArray, List.getElem?_cons_succ, List.getElem?_cons_zero]; rfl) (by kernel_rfl) (by kernel_rfl) (by kernel_rfl) (by exact fun _ _ _ h => h) (Or.inl ⟨by rfl, ?_⟩) hOn ?_
    rotate_left
    focus (intro W hSW; go_simp; try with_reducible rfl)
    try simp only [Act.put, List.setIfInBounds_toArray, List.set_cons_zero, List.set_cons_succ]
    refine wpAnyH_ready (rs := [21]) (by kernel_rfl) (by simp) ?_
    refine AllReadyH.cons (by simp only [List.getElem?_toArray, List.getElem?_cons_succ, List.getElem?_cons_zero]; rfl) (fun Kz hKz => ?_) AllReadyH.nil
    have hU13 := ((Upd.refl hat12.out).setCell (j := 1) (.slice a12 n12 c12))
    go_simp
    (with_reducible refine setCell_step ?_)
    intro w13 hw13
    rw [← hw13, jset1] at hU13
    clear hw13
    have hS := (hU13.block g hgJ).trans hOn
    replace hU13 := Lib.hid hU13
    have hth := Lib.hid (show w13.there J 2 N.size from there_block hU13.out.here (by rw [jcells_size hH, hN.out, List.size_toArray, cB_length, hNl]; decide))
    refine hKz.out _ _ (by first | exact hS | exact Below.trans hOn (Below.mono hnew (Below.size hOn))) (fun hNext => ?_)
    clear hKz Kz hOn
    have hOn := hNext
    clear hNext
    try clear hnew
    try clear hS
    try simp only [Act.put]
    refine wpAnyH_take (i := 22) (v := ?_) (by simp only [List.getElem?_toArray, List.getElem?_cons_succ, List.getElem?_cons_zero]; rfl) (by kernel_rfl) (by kernel_rfl) (by kernel_rfl) (by exact fun _ _ _ h => h) (Or.inl ⟨by rfl, ?_⟩) hOn ?_
    rotate_left
    focus (intro W hSW; go_simp; try with_reducible rfl)
    try simp only [Act.put, List.setIfInBounds_toArray, List.set_cons_zero, List.set_cons_succ]
    refine wpAnyH_take (i := 23) (v := ?_) (by simp only [List.getElem?_toArray, List.getElem?_cons_succ, List.getElem?_cons_zero]; rfl) (by kernel_rfl) (by kernel_rfl) (by kernel_rfl) (by exact fun _ _ _ h => h) (Or.inl ⟨by rfl, ?_⟩) hOn ?_
    rotate_left
    focus (intro W hSW; go_simp; try with_reducible rfl)
    try simp only [Act.put, List.setIfInBounds_toArray, List.set_cons_zero, List.set_cons_succ]
    refine wpAnyH_ready (rs := [24]) (by kernel_rfl) (by simp) ?_
    refine AllReadyH.cons (by simp only [List.getElem?_toArray, List.getElem?_cons_succ, List.getElem?_cons_zero]; rfl) (fun Kz hKz => ?_) AllReadyH.nil
    rw [if_pos (by rfl)]
    have hU14 := (upd_setCells N.toList 2 (Upd.refl hU13.out.here))
    (refine wp_store_mid 32 (.tmp 68) (.tmp 57) rfl J 2 N rfl rfl hth.out tD tO ?_)
    (with_reducible refine setCells_step ?_)
    intro w14 hw14
    rw [← hw14, hNL.out, jsetH hH hNl] at hU14
    clear hw14
    have hS := (hU14.block g hgJ).trans hOn
    replace hU14 := Lib.hid hU14
    have k34c : w14.cell? ⟨J, 34, none⟩ = some (.int .i64 (E : Nat)) := (by rw [cell_of_block hU14.out.here]; exact jc34 hNl)
    have f34c : w14.frozen? ⟨J, 34, none⟩ = false := free_of_block hU14.out.here _
    refine hKz.out _ _ (by first | exact hS | exact Below.trans hOn (Below.mono hnew (Below.size hOn))) (fun hNext => ?_)
    clear hKz Kz hOn
    have hOn := hNext
    clear hNext
    try clear hnew
    try clear hS
    try simp only [Act.put]
    refine wpAnyH_take (i := 25) (v := ?_) (by simp only [List.getElem?_toArray, List.getElem?_cons_succ, List.getElem?_cons_zero]; rfl) (by kernel_rfl) (by kernel_rfl) (by kernel_rfl) (by exact fun _ _ _ h => h) (Or.inl ⟨by rfl, ?_⟩) hOn ?_
    rotate_left
    focus (intro W hSW; go_simp; try with_reducible rfl)
    try simp only [Act.put, List.setIfInBounds_toArray, List.set_cons_zero, List.set_cons_succ]
    refine wpAnyH_take (i := 26) (v := ?_) (by simp only [List.getElem?_toArray, List.getElem?_cons_succ, List.getElem?_cons_zero]; rfl) (by kernel_rfl) (by kernel_rfl) (by kernel_rfl) (by exact fun _ _ _ h => h) (Or.inl ⟨by rfl, ?_⟩) hOn ?_
    rotate_left
    focus (intro W hSW; go_simp; try with_reducible rfl)
    try simp only [Act.put, List.setIfInBounds_toArray, List.set_cons_zero, List.set_cons_succ]
    refine wpAnyH_ready (rs := [27]) (by kernel_rfl) (by simp) ?_
    refine AllReadyH.cons (by simp only [List.getElem?_toArray, List.getElem?_cons_succ, List.getElem?_cons_zero]; rfl) (fun Kz hKz => ?_) AllReadyH.nil
    have hU15 := Lib.hid ((Upd.refl hU14.out.here).setCell (j := 34) (.int .i64 ((E : Int) + (FL : Int))))
    go_simp
    (with_reducible refine setCell_step ?_)
    intro w15 hw15
    rw [← hw15] at hU15
    clear hw15
    have hS := (hU15.out.block g hgJ).trans hOn
    refine hKz.out _ _ (by first | exact hS | exact Below.trans hOn (Below.mono hnew (Below.size hOn))) (fun hNext => ?_)
    clear hKz Kz hOn
    have hOn := hNext
    clear hNext
    try clear hnew
    try clear hS
    try simp only [Act.put]
    refine wpAnyH_done (by kernel_rfl) ?_ _
    all_goals
      go_wp2_with fail
      go_ret
      exact ⟨rfl, v9, _, _, hst.out.trans (JStep.appended3 hst9.out.ok ⟨g1, g2⟩ (hbd.out.trans (hb11.out.mono hbd.out.size)) hO12.out hM12.out g10 (Nat.le_trans hbd.out.size hg10) hr12.out E FL hE.out hFLn.out hU13.out hU14.out hU15.out (Nat.le_trans hb (Nat.le_trans hw8 hst9.out.only.size)))⟩
end Go.Proofs.YtgkddegaiaeckaaDoor
