/- The walk over ModelGrows. -/
import Derived.Test.YtpehdoepcpmnbaaDoorAlive34
import Derived.Test.YtpehdoepcpmnbaaDoorOf34
import Derived.Test.YtpehdoepcpmnbaaDoorOnL
import Derived.Deep.CutRange
namespace Go.Proofs.YtpehdoepcpmnbaaDoor
open Go.RowKit

/-- The document's model that 'Of' made, on its way into a box. -/
def Own2 (v v' : Value) (k : Nat) : Prop := v.ownBlock = some k ∨ v'.ownBlock = some k
structure OfR (base : Nat) (W : World) (v v' : Value) (m : Md) : Prop where
  rn : RowsOf RN 36 40 base W (fun _ => False) v m.ns
  rv : RowsOf RV 38 3 base W (fun _ => False) v' m.vs
theorem OfR.below {base : Nat} {W W' : World} {v v' : Value} {m : Md} (h : OfR base W v v' m) (hb : Below W.heap.size W W') : OfR base W' v v' m := ⟨h.rn.below liesRN hb, h.rv.below liesRV hb⟩
theorem OfR.lt {base : Nat} {W : World} {v v' : Value} {m : Md} (h : OfR base W v v' m) {k : Nat} (hk : Own2 v v' k) : base ≤ k ∧ k < W.heap.size := hk.elim (h.rn.ownLt k) (h.rv.ownLt k)
theorem OfR.only {base b : Nat} {W W' : World} {v v' : Value} {m : Md} (h : OfR base W v v' m) (hO : Only (fun k => k = b) W W') (hn : ∀ k, Own2 v v' k → k ≠ b) : OfR base W' v v' m :=
  ⟨h.rn.only liesRN hO (fun k hk => hk.elim) (fun k hk e => hn k (.inl hk) e), h.rv.only liesRV hO (fun k hk => hk.elim) (fun k hk e => hn k (.inr hk) e)⟩
theorem OfR.upd {base b : Nat} {W W' : World} {v v' : Value} {m : Md} {c : Array Value} {t : TypeId} (h : OfR base W v v' m) (hU : Upd b (.cells c t (0, 0)) W W') (hn : ∀ k, Own2 v v' k → k ≠ b) : OfR base W' v v' m := h.only (Only.ofUpd (D := fun k => k = b) hU rfl) hn
theorem OfR.old {base : Nat} {W : World} {v v' : Value} {m : Md} (h : OfR base W v v' m) : ∀ k, Own2 v v' k → k ≠ W.heap.size := fun k hk => by have := (h.lt hk).2; omega
theorem OfR.new {base b : Nat} {W : World} {v v' : Value} {m : Md} (h : OfR base W v v' m) (hb : b < base) : ∀ k, Own2 v v' k → k ≠ b := fun k hk => by have := (h.lt hk).1; omega
/-- The document's model in its box. -/
structure OfAt (W : World) (g : Nat) (m : Md) : Prop where
  ex : ∃ a c a' c', W.heap[g]? = some (.cells #[.slice a m.ns.length c, .slice a' m.vs.length c'] 30 (0, 0)) ∧ RowAt Nm.list 40 W a m.ns ∧ RowAt Vd.list 3 W a' m.vs
theorem ofAt_of {base g : Nat} {W : World} {v v' : Value} {m : Md} (h : OfR base W v v' m) (hh : W.heap[g]? = some (.cells #[v, v'] 30 (0, 0))) : OfAt W g m := by
  obtain ⟨a, c, rfl, h1, _⟩ := rowsN_at h.rn
  obtain ⟨a', c', rfl, h2, _⟩ := rowsV_at h.rv
  exact ⟨a, c, a', c', hh, h1, h2⟩
def longM (m : Md) : Prop := 20 < m.ns.length ∨ 40 < m.vs.length
theorem lawN_grow (x y : Nm) : growN x y = (decide (x.s = y.s) && decide (x.p = y.p) && decide (x.f = y.f) && (y.k || !x.k)) := by
  obtain ⟨s, p, f, k⟩ := x
  obtain ⟨s', p', f', k'⟩ := y
  unfold growN
  rw [Bool.eq_iff_iff]
  simp only [decide_eq_true_eq, Nm.mk.injEq, Bool.and_eq_true, Bool.or_eq_true, Bool.not_eq_true']
  cases k <;> cases k' <;> simp [and_assoc]
theorem lawV_grow (x y : Vd) : growV x y = (decide (x.o = y.o) && decide (x.w = y.w) && (decide (x.v = y.v) || decide (x.v = 0))) := by
  obtain ⟨o, wy, v⟩ := x
  obtain ⟨o', wy', v'⟩ := y
  unfold growV
  simp only
  by_cases hv : v = 0
  · subst hv
    simp
  · rw [if_neg hv]
    simp [hv, Bool.and_assoc]
theorem growsM_self (m : Md) : growsM m m = true := by
  unfold growsM
  rw [growL_all (f := growN) (fun i _ => by rw [lawN_grow]; simp), growL_all (f := growV) (fun i _ => by rw [lawV_grow]; simp)]
  simp
theorem OfR.one {base : Nat} {W : World} {v v' : Value} {m : Md} (h : OfR base W v v' m) : (#[v, v'] : Array Value).all (·.oneCell') = true := by
  obtain ⟨a, c, rfl, _⟩ := rowsN_at h.rn
  obtain ⟨a', c', rfl, _⟩ := rowsV_at h.rv
  simp [Value.oneCell']
def OfCPost (w : World) (m : Md) (x : Ending) (w' : World) : Prop := ∃ C v v', x = .returned (.agg C) ∧ Hid (C = #[v, v']) ∧ C.size = 2 ∧ Hid (OfR w.heap.size w' v v' m) ∧ Below w.heap.size w w'
theorem ofC {va : Value} {w : World} {m : Md} (h : Calls Tryd.prog 7 #[va] w (Of34Post w m)) : Calls Tryd.prog 7 #[va] w (OfCPost w m) := h.mono (by
  rintro x w' ⟨v, v', rfl, h1, h2, h3⟩
  exact ⟨_, v, v', rfl, Lib.hid rfl, rfl, Lib.hid ⟨h1, h2⟩, h3⟩)
theorem zz_size : (#[.slice none 0 0, .slice none 0 0] : Array Value).size = 2 := rfl
theorem infoM2 (x y : Value) : (Tryd.prog.info? 30).map (·.size) = some (#[x, y] : Array Value).size := by kernel_rfl
theorem infoG2 (x y : Value) : (Tryd.prog.info? 25).map (·.size) = some (#[x, y] : Array Value).size := by kernel_rfl
theorem zNmR_run (w : World) : (zeroValue 36).run Tryd.prog w = .ok (.agg zNm) w := by kernel_rfl
theorem infoNmR40 : (Tryd.prog.info? 36).map (·.size) = some 40 := by kernel_rfl
def allN (a b : Md) (k : Nat) : Bool := (List.range k).all fun i => growN (a.ns.getD i default) (b.ns.getD i default)
def allV (a b : Md) (k : Nat) : Bool := (List.range k).all fun i => growV (a.vs.getD i default) (b.vs.getD i default)
theorem allN_succ (a b : Md) (k : Nat) : allN a b (k + 1) = (allN a b k && growN (a.ns.getD k default) (b.ns.getD k default)) := by
  unfold allN
  rw [List.range_succ, List.all_append]
  simp
theorem allV_succ (a b : Md) (k : Nat) : allV a b (k + 1) = (allV a b k && growV (a.vs.getD k default) (b.vs.getD k default)) := by
  unfold allV
  rw [List.range_succ, List.all_append]
  simp
theorem growsM_all (a b : Md) : growsM a b = ((decide (a.ns.length ≤ b.ns.length) && decide (a.vs.length ≤ b.vs.length)) && allN a b a.ns.length && allV a b a.vs.length) := rfl
section
variable {P : Program} {ops : Array Oper} {rest : List Oper} {op : Oper} {a : Act} {w : World} {Q : Exit → Act → World → Prop}
theorem wpList_load_midG (hw : Region.wanted op (yielded ops a.tmps) = true) (ty : TypeId) (x : Operand) (ho : op.op = .load ty x)
    (b o : Nat) (hx : a.eval x = .pointer (some ⟨b, o, none⟩)) (cs : List Value) (d : TypeDesc) (hc : w.rangeAt b o cs)
    (hu : P.underlying ty = some d) (hd : d.isRow = true) (hi : (P.info? ty).map (·.size) = some cs.length) (C : Array Value) (hC : Hid (C = cs.toArray))
    (h : wpList P ops Q rest (a.put op.dst (.agg C)) w) : wpList P ops Q (op :: rest) a w := by
  refine wpList_step fun K hK => ?_
  rw [if_pos hw]
  rw [hC.out] at h
  exact wp_load_mid ty x ho b o hx cs d hc hu hd hi (hK _ _ h)
theorem wpList_load_midA (hgd : op.guard = none) (ty : TypeId) (x : Operand) (ho : op.op = .load ty x)
    (b o : Nat) (hx : a.eval x = .pointer (some ⟨b, o, none⟩)) (cs : List Value) (d : TypeDesc) (hc : w.rangeAt b o cs)
    (hu : P.underlying ty = some d) (hd : d.isRow = true) (hi : (P.info? ty).map (·.size) = some cs.length) (C : Array Value) (hC : Hid (C = cs.toArray))
    (h : wpList P ops Q rest (a.put op.dst (.agg C)) w) : wpList P ops Q (op :: rest) a w := by
  rw [hC.out] at h
  exact wpList_load_mid hgd ty x ho b o hx cs d hc hu hd hi h
end
set_option maxRecDepth 100000 in
set_option maxHeartbeats 4000000 in
theorem modelGrows_law (va vb : Value) (a b : Md) (w : World) (ha : ArgM w va a) (hb : ArgM w vb b) (zp : Nat → Addr) (hPE : ParErrs w zp) (z : Addr) (hz : SentAt 5 w z) :
    Calls Tryd.prog 3 #[va, vb] w fun x w' => x = .returned (.bool true) ∧ Below w.heap.size w w' := by
  have ha0 := ha
  have hb0 := hb
  obtain ⟨⟨an, cn, av, cv, rfl, hN, hN1, hN2, hV, hV1, hV2⟩, okN, okV⟩ := ha
  obtain ⟨⟨bn, dn, bv, dv, rfl, hM, hM1, hM2, hU, hU1, hU2⟩, okM, okU⟩ := hb
  have hal : ∀ W, Below w.heap.size w W → Calls Tryd.prog 6 #[] W fun x w' => x = .returned (.bool true) ∧ Below W.heap.size W w' := fun W hW => alive34_any W zp (hPE.below hW) z (hz.below hW)
  have hoa := fun W (hW : Below w.heap.size w W) (l1 : a.ns.length ≤ 1000) (l2 : a.vs.length ≤ 1000) => of34_any _ a W (ha0.below hW (Nat.le_refl _)) l1 l2
  have hob := fun W (hW : Below w.heap.size w W) (l1 : b.ns.length ≤ 1000) (l2 : b.vs.length ≤ 1000) => of34_any _ b W (hb0.below hW (Nat.le_refl _)) l1 l2
  have hgr := fun W (hW : Below w.heap.size w W) => grows_any _ _ a b W (ha0.below hW (Nat.le_refl _)) (hb0.below hW (Nat.le_refl _))
  have hgs := fun W (hW : Below w.heap.size w W) => grows_any _ _ a a W (ha0.below hW (Nat.le_refl _)) (ha0.below hW (Nat.le_refl _))
  obtain ⟨N, hNl⟩ : ∃ N, N = a.ns.length := ⟨_, rfl⟩
  obtain ⟨V, hVl⟩ : ∃ V, V = a.vs.length := ⟨_, rfl⟩
  obtain ⟨M, hMl⟩ : ∃ M, M = b.ns.length := ⟨_, rfl⟩
  obtain ⟨Z, hZl⟩ : ∃ Z, Z = b.vs.length := ⟨_, rfl⟩
  rw [← hNl, ← hVl] at hoa
  rw [← hMl, ← hZl] at hob
  rw [← hNl, ← hVl, ← hMl, ← hZl] at hgr
  rw [← hNl, ← hVl] at hgs
  rw [← hNl, ← hVl, ← hMl, ← hZl]
  clear hN hV hM hU hN1 hN2 hV1 hV2 hM1 hM2 hU1 hU2 ha0 hb0
  have hB : Below w.heap.size w ((w.alloc (.cells #[.slice an N cn, .slice av V cv] 25)).alloc (.cells #[.slice bn M dn, .slice bv Z dv] 25)) := ((Below.refl _ _).alloc (Nat.le_refl _) _).alloc (by simp) _
  obtain ⟨w2, hw2⟩ : ∃ w2, w2 = (w.alloc (.cells #[.slice an N cn, .slice av V cv] 25)).alloc (.cells #[.slice bn M dn, .slice bv Z dv] 25) := ⟨_, rfl⟩
  have hs2 : w2.heap.size = w.heap.size + 2 := by rw [hw2]; simp
  have e2 : w2.heap[w.heap.size]? = some (.cells #[.slice an N cn, .slice av V cv] 25 (0, 0)) := by rw [hw2]; exact (((Below.refl _ _).alloc (Nat.le_refl _) _).block _ (block_lt (heap_alloc_new w _))).trans (heap_alloc_new w _)
  have e3 : w2.heap[w.heap.size + 1]? = some (.cells #[.slice bn M dn, .slice bv Z dv] 25 (0, 0)) := by
    have h1 := heap_alloc_new (w.alloc (.cells #[.slice an N cn, .slice av V cv] 25)) (.cells #[.slice bn M dn, .slice bv Z dv] 25 (0, 0))
    rw [World.size_alloc] at h1
    rw [hw2]
    exact h1
  rw [← hw2] at hB
  replace hNl := Lib.hid hNl
  replace hVl := Lib.hid hVl
  replace hMl := Lib.hid hMl
  replace hZl := Lib.hid hZl
  replace okN := Lib.hid okN
  replace okV := Lib.hid okV
  replace okM := Lib.hid okM
  replace okU := Lib.hid okU
  replace hal := Lib.hid hal
  replace hoa := Lib.hid hoa
  replace hob := Lib.hid hob
  replace hgr := Lib.hid hgr
  replace hgs := Lib.hid hgs
  replace hB := Lib.hid hB
  replace hw2 := Lib.hid hw2
  replace hs2 := Lib.hid hs2
  replace e2 := Lib.hid e2
  replace e3 := Lib.hid e3
  clear hPE hz
  go_enter Tryd.func3, Tryd.ntmps3
  go_wp2_with fail
  rw [← hw2.out]
  clear hw2
  with_reducible refine (hal.out w2 hB.out).mono ?_
  clear hal
  rintro x w3 ⟨rfl, hb3⟩
  have hB3 := Lib.hid (hB.out.trans (hb3.mono hB.out.size))
  have e23 := (hb3.block _ (block_lt e2.out)).trans e2.out
  have e33 := (hb3.block _ (block_lt e3.out)).trans e3.out
  have c20 : w3.cell? ⟨w.heap.size, 0, none⟩ = some (.slice an N cn) := by rw [cell_of_block e23]; rfl
  have c21 : w3.cell? ⟨w.heap.size, 1, none⟩ = some (.slice av V cv) := by rw [cell_of_block e23]; rfl
  have c30 : w3.cell? ⟨w.heap.size + 1, 0, none⟩ = some (.slice bn M dn) := by rw [cell_of_block e33]; rfl
  have c31 : w3.cell? ⟨w.heap.size + 1, 1, none⟩ = some (.slice bv Z dv) := by rw [cell_of_block e33]; rfl
  replace e23 := Lib.hid e23
  replace e33 := Lib.hid e33
  have hs3 : w.heap.size + 2 ≤ w3.heap.size := by have := hb3.size; have := hs2.out; omega
  obtain ⟨n0, hn0⟩ : ∃ n0, n0 = w.heap.size := ⟨_, rfl⟩
  rw [← hn0] at c20 c21 c30 c31 e23 e33 hs3 ⊢
  replace hn0 := Lib.hid hn0
  clear hb3 hs2 e2 e3
  by_cases g1 : (20 : Int) < (N : Int)
  · go_wp2_with fail
    go_ret
    exact ⟨rfl, hB3.out⟩
  by_cases g2 : (20 : Int) < (M : Int)
  · go_wp2_with fail
    go_ret
    exact ⟨rfl, hB3.out⟩
  by_cases g3 : (40 : Int) < (V : Int)
  · go_wp2_with fail
    go_ret
    exact ⟨rfl, hB3.out⟩
  by_cases g4 : (40 : Int) < (Z : Int)
  · go_wp2_with fail
    go_ret
    exact ⟨rfl, hB3.out⟩
  have l1 : N ≤ 20 := by omega
  have l2 : M ≤ 20 := by omega
  have l3 : V ≤ 40 := by omega
  have l4 : Z ≤ 40 := by omega
  have hoa3 := Lib.hid (fun W hW => hoa.out W hW (by omega) (by omega))
  have hob3 := Lib.hid (fun W hW => hob.out W hW (by omega) (by omega))
  clear hoa hob
  obtain ⟨CA, hCA⟩ : ∃ CA : Array Value, CA = #[.slice an N cn, .slice av V cv] := ⟨_, rfl⟩
  obtain ⟨CB, hCB⟩ : ∃ CB : Array Value, CB = #[.slice bn M dn, .slice bv Z dv] := ⟨_, rfl⟩
  have huA : Tryd.prog.underlying 25 = _ := Tryd.underlying25
  have huB := huA
  have hzA : (Tryd.prog.info? 25).map (·.size) = some CA.size := by rw [hCA]; exact infoG2 _ _
  have hzB : (Tryd.prog.info? 25).map (·.size) = some CB.size := by rw [hCB]; exact infoG2 _ _
  have rlA : ∀ W : World, Below w3.heap.size w3 W → W.heap[n0]? = some (.cells CA 25 (0, 0)) := fun W hW => by rw [hCA]; exact (hW.block _ (block_lt e23.out)).trans e23.out
  have rlB : ∀ W : World, Below w3.heap.size w3 W → W.heap[n0 + 1]? = some (.cells CB 25 (0, 0)) := fun W hW => by rw [hCB]; exact (hW.block _ (block_lt e33.out)).trans e33.out
  have hoaC := Lib.hid (fun W (hW : Below w3.heap.size w3 W) => ofC (hoa3.out W (hB3.out.trans (hW.mono hB3.out.size))))
  have hobC := Lib.hid (fun W (hW : Below w3.heap.size w3 W) => ofC (hob3.out W (hB3.out.trans (hW.mono hB3.out.size))))
  rw [← hCA] at hoaC
  rw [← hCB] at hobC
  have hd0 : Hid (Below w3.heap.size w3 w3.drew) := Lib.hid ((Below.refl _ _).drew)
  replace hCA := Lib.hid hCA
  replace hCB := Lib.hid hCB
  clear hoa3 hob3
  go_upto_region 5 with fail
  go_cut [5, 6] from 7 (fun s5 s6 wx => ∃ g5 g6, s5 = .pointer (some ⟨g5, 0, none⟩) ∧ s6 = .pointer (some ⟨g6, 0, none⟩) ∧ OfAt wx g5 a ∧ OfAt wx g6 b ∧ Below w3.heap.size w3 wx)
  case first =>
    refine wp_region_held_drew (S := (Below w3.heap.size w3)) (by kernel_rfl) hd0.out (fun hOn => ?_)
    generalize World.drew w3 = wd at *
    refine wpAnyH_take (i := 0) (v := Value.agg _) (by simp only [List.getElem?_toArray, List.getElem?_cons_zero]; rfl) (by kernel_rfl) (by kernel_rfl) (by kernel_rfl) (by exact fun _ _ _ h => h) (Or.inl ⟨by rfl, fun W hSW => yields_load_row _ _ rfl _ _ _ rfl (rlA W hSW) huA rfl hzA⟩) hOn ?_
    try simp only [Act.put, List.setIfInBounds_toArray, List.set_cons_zero, List.set_cons_succ]
    refine wpAnyH_take (i := 2) (v := Value.agg _) (by simp only [List.getElem?_toArray, List.getElem?_cons_succ, List.getElem?_cons_zero]; rfl) (by kernel_rfl) (by kernel_rfl) (by kernel_rfl) (by exact fun _ _ _ h => h) (Or.inl ⟨by rfl, fun W hSW => yields_load_row _ _ rfl _ _ _ rfl (rlB W hSW) huB rfl hzB⟩) hOn ?_
    try simp only [Act.put, List.setIfInBounds_toArray, List.set_cons_zero, List.set_cons_succ]
    refine wpAnyH_ready (rs := [1, 4, 5]) (by kernel_rfl) (by simp) ?_
    refine AllReadyH.cons (by simp only [List.getElem?_toArray, List.getElem?_cons_succ, List.getElem?_cons_zero]; rfl) (fun Kz hKz => ?_) ?_
    go_simp
    (with_reducible refine (hoaC.out _ hOn).mono ?_)
    rintro e w4 ⟨C1, p1, q1, rfl, hC1, hsC1, hR1, hnew⟩
    (try have nz11 := Lib.hid (hR1.out.new (block_lt hz1.out)))
    (try have nz12 := Lib.hid (hR1.out.new (block_lt hz2.out)))
    (try replace hR2 := Lib.hid (hR2.out.below hnew))
    (try replace hz1 := Lib.hid ((hnew.block _ (block_lt hz1.out)).trans hz1.out))
    (try replace hz2 := Lib.hid ((hnew.block _ (block_lt hz2.out)).trans hz2.out))
    focus (go_wp2_with fail)
    refine hKz.out _ _ (by first | exact hS | exact Below.trans hOn (Below.mono hnew (Below.size hOn))) (fun hNext => ?_)
    clear hKz Kz hOn
    have hOn := hNext
    clear hNext
    try clear hnew
    try clear hS
    try simp only [Act.put, List.setIfInBounds_toArray, List.set_cons_zero, List.set_cons_succ]
    refine wpAnyH_ready (rs := [3, 4, 5]) (by kernel_rfl) (by simp) ?_
    refine AllReadyH.cons (by simp only [List.getElem?_toArray, List.getElem?_cons_succ, List.getElem?_cons_zero]; rfl) (fun Kz hKz => ?_) ?_
    go_simp
    (with_reducible refine (hobC.out _ hOn).mono ?_)
    rintro e w4 ⟨C2, p2, q2, rfl, hC2, hsC2, hR2, hnew⟩
    (try have nz21 := Lib.hid (hR2.out.new (block_lt hz1.out)))
    (try have nz22 := Lib.hid (hR2.out.new (block_lt hz2.out)))
    (try replace hR1 := Lib.hid (hR1.out.below hnew))
    (try replace hz1 := Lib.hid ((hnew.block _ (block_lt hz1.out)).trans hz1.out))
    (try replace hz2 := Lib.hid ((hnew.block _ (block_lt hz2.out)).trans hz2.out))
    focus (go_wp2_with fail)
    refine hKz.out _ _ (by first | exact hS | exact Below.trans hOn (Below.mono hnew (Below.size hOn))) (fun hNext => ?_)
    clear hKz Kz hOn
    have hOn := hNext
    clear hNext
    try clear hnew
    try clear hS
    try simp only [Act.put, List.setIfInBounds_toArray, List.set_cons_zero, List.set_cons_succ]
    refine wpAnyH_ready (rs := [4, 5]) (by kernel_rfl) (by simp) ?_
    refine AllReadyH.cons (by simp only [List.getElem?_toArray, List.getElem?_cons_succ, List.getElem?_cons_zero]; rfl) (fun Kz hKz => ?_) ?_
    go_simp
    focus (try go_wp2_with fail)
    (fail_if_success (have := hz1))
    (with_reducible refine made_step (t := 30) ?_)
    intro w5 hz1 hnew
    (try have nz11 := Lib.hid hR1.out.old)
    (try have nz21 := Lib.hid hR2.out.old)
    (try replace hR1 := Lib.hid (hR1.out.below hnew))
    (try replace hR2 := Lib.hid (hR2.out.below hnew))
    have hge1 := Lib.hid hOn.size
    refine hKz.out _ _ (by first | exact hS | exact Below.trans hOn (Below.mono hnew (Below.size hOn))) (fun hNext => ?_)
    clear hKz Kz hOn
    have hOn := hNext
    clear hNext
    try clear hnew
    try clear hS
    try simp only [Act.put, List.setIfInBounds_toArray, List.set_cons_zero, List.set_cons_succ]
    refine wpAnyH_ready (rs := [5]) (by kernel_rfl) (by simp) ?_
    refine AllReadyH.cons (by simp only [List.getElem?_toArray, List.getElem?_cons_succ, List.getElem?_cons_zero]; rfl) (fun Kz hKz => ?_) AllReadyH.nil
    go_simp
    focus (try go_wp2_with fail)
    (fail_if_success (have := hz2))
    (with_reducible refine made_step (t := 30) ?_)
    intro w6 hz2 hnew
    (try have nz12 := Lib.hid hR1.out.old)
    (try have nz22 := Lib.hid hR2.out.old)
    (try replace hR1 := Lib.hid (hR1.out.below hnew))
    (try replace hR2 := Lib.hid (hR2.out.below hnew))
    have hz12 := Lib.hid (block_lt hz1.out)
    have hge2 := Lib.hid hOn.size
    replace hz1 := Lib.hid ((hnew.block _ (block_lt hz1.out)).trans hz1.out)
    refine hKz.out _ _ (by first | exact hS | exact Below.trans hOn (Below.mono hnew (Below.size hOn))) (fun hNext => ?_)
    clear hKz Kz hOn
    have hOn := hNext
    clear hNext
    try clear hnew
    try clear hS
    try simp only [Act.put, List.setIfInBounds_toArray, List.set_cons_zero, List.set_cons_succ]
    refine wpAnyH_ready (rs := [6]) (by kernel_rfl) (by simp) ?_
    refine AllReadyH.cons (by simp only [List.getElem?_toArray, List.getElem?_cons_succ, List.getElem?_cons_zero]; rfl) (fun Kz hKz => ?_) AllReadyH.nil
    rw [if_pos (by rfl)]
    (with_reducible refine wp_store_rowK 30 (.tmp 5) (.tmp 39) rfl _ #[.slice none 0 0, .slice none 0 0] C1 rfl rfl hz1 (by rw [hC1.out]; exact infoM2 _ _) (zz_size.trans hsC1.symm) (by rw [hC1.out]; exact hR1.out.one) ?_)
    intro w7 hU7
    have hS := hOn.trans (hU7.out.below hge1.out)
    have hA7 := Lib.hid hU7.out.here
    have hz3 := Lib.hid ((hU7.out.block _ (by have := hz12.out; omega)).trans hz2.out)
    replace hR1 := Lib.hid (hR1.out.upd hU7.out nz11.out)
    replace hR2 := Lib.hid (hR2.out.upd hU7.out nz21.out)
    have ma := nz12
    have mb := nz22
    have hge7 := Lib.hid hge2.out
    refine hKz.out _ _ (by first | exact hS | exact Below.trans hOn (Below.mono hnew (Below.size hOn))) (fun hNext => ?_)
    clear hKz Kz hOn
    have hOn := hNext
    clear hNext
    try clear hnew
    try clear hS
    try simp only [Act.put]
    refine wpAnyH_ready (rs := [7]) (by kernel_rfl) (by simp) ?_
    refine AllReadyH.cons (by simp only [List.getElem?_toArray, List.getElem?_cons_succ, List.getElem?_cons_zero]; rfl) (fun Kz hKz => ?_) AllReadyH.nil
    rw [if_pos (by rfl)]
    (with_reducible refine wp_store_rowK 30 (.tmp 6) (.tmp 41) rfl _ #[.slice none 0 0, .slice none 0 0] C2 rfl rfl hz3 (by rw [hC2.out]; exact infoM2 _ _) (zz_size.trans hsC2.symm) (by rw [hC2.out]; exact hR2.out.one) ?_)
    intro w8 hU8
    have hS := hOn.trans (hU8.out.below hge7.out)
    have hB8 := Lib.hid hU8.out.here
    have hA8 := Lib.hid ((hU8.out.block _ (by have := hz12.out; omega)).trans hA7.out)
    replace hR1 := Lib.hid (hR1.out.upd hU8.out ma.out)
    replace hR2 := Lib.hid (hR2.out.upd hU8.out mb.out)
    refine hKz.out _ _ (by first | exact hS | exact Below.trans hOn (Below.mono hnew (Below.size hOn))) (fun hNext => ?_)
    clear hKz Kz hOn
    have hOn := hNext
    clear hNext
    try clear hnew
    try clear hS
    try simp only [Act.put]
    refine wpAnyH_done (by kernel_rfl) ?_ _
    rotate_left
    refine AllReadyH.cons (by simp only [List.getElem?_toArray, List.getElem?_cons_succ, List.getElem?_cons_zero]; rfl) (fun Kz hKz => ?_) AllReadyH.nil
    go_simp
    focus (try go_wp2_with fail)
    (fail_if_success (have := hz1))
    (with_reducible refine made_step (t := 30) ?_)
    intro w5 hz1 hnew
    (try have nz11 := Lib.hid hR1.out.old)
    (try have nz21 := Lib.hid hR2.out.old)
    (try replace hR1 := Lib.hid (hR1.out.below hnew))
    (try replace hR2 := Lib.hid (hR2.out.below hnew))
    have hge1 := Lib.hid hOn.size
    refine hKz.out _ _ (by first | exact hS | exact Below.trans hOn (Below.mono hnew (Below.size hOn))) (fun hNext => ?_)
    clear hKz Kz hOn
    have hOn := hNext
    clear hNext
    try clear hnew
    try clear hS
    try simp only [Act.put, List.setIfInBounds_toArray, List.set_cons_zero, List.set_cons_succ]
    refine wpAnyH_ready (rs := [4]) (by kernel_rfl) (by simp) ?_
    refine AllReadyH.cons (by simp only [List.getElem?_toArray, List.getElem?_cons_succ, List.getElem?_cons_zero]; rfl) (fun Kz hKz => ?_) AllReadyH.nil
    go_simp
    focus (try go_wp2_with fail)
    (fail_if_success (have := hz2))
    (with_reducible refine made_step (t := 30) ?_)
    intro w6 hz2 hnew
    (try have nz12 := Lib.hid hR1.out.old)
    (try have nz22 := Lib.hid hR2.out.old)
    (try replace hR1 := Lib.hid (hR1.out.below hnew))
    (try replace hR2 := Lib.hid (hR2.out.below hnew))
    have hz12 := Lib.hid (block_lt hz1.out)
    have hge2 := Lib.hid hOn.size
    replace hz1 := Lib.hid ((hnew.block _ (block_lt hz1.out)).trans hz1.out)
    refine hKz.out _ _ (by first | exact hS | exact Below.trans hOn (Below.mono hnew (Below.size hOn))) (fun hNext => ?_)
    clear hKz Kz hOn
    have hOn := hNext
    clear hNext
    try clear hnew
    try clear hS
    try simp only [Act.put, List.setIfInBounds_toArray, List.set_cons_zero, List.set_cons_succ]
    refine wpAnyH_ready (rs := [6]) (by kernel_rfl) (by simp) ?_
    refine AllReadyH.cons (by simp only [List.getElem?_toArray, List.getElem?_cons_succ, List.getElem?_cons_zero]; rfl) (fun Kz hKz => ?_) AllReadyH.nil
    rw [if_pos (by rfl)]
    (with_reducible refine wp_store_rowK 30 (.tmp 5) (.tmp 39) rfl _ #[.slice none 0 0, .slice none 0 0] C1 rfl rfl hz2 (by rw [hC1.out]; exact infoM2 _ _) (zz_size.trans hsC1.symm) (by rw [hC1.out]; exact hR1.out.one) ?_)
    intro w7 hU7
    have hS := hOn.trans (hU7.out.below hge2.out)
    have hA7 := Lib.hid hU7.out.here
    have hz3 := Lib.hid ((hU7.out.block _ (by have := hz12.out; omega)).trans hz1.out)
    replace hR1 := Lib.hid (hR1.out.upd hU7.out nz12.out)
    replace hR2 := Lib.hid (hR2.out.upd hU7.out nz22.out)
    have ma := nz11
    have mb := nz21
    have hge7 := Lib.hid hge1.out
    refine hKz.out _ _ (by first | exact hS | exact Below.trans hOn (Below.mono hnew (Below.size hOn))) (fun hNext => ?_)
    clear hKz Kz hOn
    have hOn := hNext
    clear hNext
    try clear hnew
    try clear hS
    try simp only [Act.put]
    refine wpAnyH_ready (rs := [7]) (by kernel_rfl) (by simp) ?_
    refine AllReadyH.cons (by simp only [List.getElem?_toArray, List.getElem?_cons_succ, List.getElem?_cons_zero]; rfl) (fun Kz hKz => ?_) AllReadyH.nil
    rw [if_pos (by rfl)]
    (with_reducible refine wp_store_rowK 30 (.tmp 6) (.tmp 41) rfl _ #[.slice none 0 0, .slice none 0 0] C2 rfl rfl hz3 (by rw [hC2.out]; exact infoM2 _ _) (zz_size.trans hsC2.symm) (by rw [hC2.out]; exact hR2.out.one) ?_)
    intro w8 hU8
    have hS := hOn.trans (hU8.out.below hge7.out)
    have hB8 := Lib.hid hU8.out.here
    have hA8 := Lib.hid ((hU8.out.block _ (by have := hz12.out; omega)).trans hA7.out)
    replace hR1 := Lib.hid (hR1.out.upd hU8.out ma.out)
    replace hR2 := Lib.hid (hR2.out.upd hU8.out mb.out)
    refine hKz.out _ _ (by first | exact hS | exact Below.trans hOn (Below.mono hnew (Below.size hOn))) (fun hNext => ?_)
    clear hKz Kz hOn
    have hOn := hNext
    clear hNext
    try clear hnew
    try clear hS
    try simp only [Act.put]
    refine wpAnyH_done (by kernel_rfl) ?_ _
    rotate_left
    refine AllReadyH.cons (by simp only [List.getElem?_toArray, List.getElem?_cons_succ, List.getElem?_cons_zero]; rfl) (fun Kz hKz => ?_) ?_
    go_simp
    focus (try go_wp2_with fail)
    (fail_if_success (have := hz1))
    (with_reducible refine made_step (t := 30) ?_)
    intro w5 hz1 hnew
    (try have nz11 := Lib.hid hR1.out.old)
    (try have nz21 := Lib.hid hR2.out.old)
    (try replace hR1 := Lib.hid (hR1.out.below hnew))
    (try replace hR2 := Lib.hid (hR2.out.below hnew))
    have hge1 := Lib.hid hOn.size
    refine hKz.out _ _ (by first | exact hS | exact Below.trans hOn (Below.mono hnew (Below.size hOn))) (fun hNext => ?_)
    clear hKz Kz hOn
    have hOn := hNext
    clear hNext
    try clear hnew
    try clear hS
    try simp only [Act.put, List.setIfInBounds_toArray, List.set_cons_zero, List.set_cons_succ]
    refine wpAnyH_ready (rs := [3, 5]) (by kernel_rfl) (by simp) ?_
    refine AllReadyH.cons (by simp only [List.getElem?_toArray, List.getElem?_cons_succ, List.getElem?_cons_zero]; rfl) (fun Kz hKz => ?_) ?_
    go_simp
    (with_reducible refine (hobC.out _ hOn).mono ?_)
    rintro e w4 ⟨C2, p2, q2, rfl, hC2, hsC2, hR2, hnew⟩
    (try have nz21 := Lib.hid (hR2.out.new (block_lt hz1.out)))
    (try have nz22 := Lib.hid (hR2.out.new (block_lt hz2.out)))
    (try replace hR1 := Lib.hid (hR1.out.below hnew))
    (try replace hz1 := Lib.hid ((hnew.block _ (block_lt hz1.out)).trans hz1.out))
    (try replace hz2 := Lib.hid ((hnew.block _ (block_lt hz2.out)).trans hz2.out))
    focus (go_wp2_with fail)
    refine hKz.out _ _ (by first | exact hS | exact Below.trans hOn (Below.mono hnew (Below.size hOn))) (fun hNext => ?_)
    clear hKz Kz hOn
    have hOn := hNext
    clear hNext
    try clear hnew
    try clear hS
    try simp only [Act.put, List.setIfInBounds_toArray, List.set_cons_zero, List.set_cons_succ]
    refine wpAnyH_ready (rs := [5]) (by kernel_rfl) (by simp) ?_
    refine AllReadyH.cons (by simp only [List.getElem?_toArray, List.getElem?_cons_succ, List.getElem?_cons_zero]; rfl) (fun Kz hKz => ?_) AllReadyH.nil
    go_simp
    focus (try go_wp2_with fail)
    (fail_if_success (have := hz2))
    (with_reducible refine made_step (t := 30) ?_)
    intro w6 hz2 hnew
    (try have nz12 := Lib.hid hR1.out.old)
    (try have nz22 := Lib.hid hR2.out.old)
    (try replace hR1 := Lib.hid (hR1.out.below hnew))
    (try replace hR2 := Lib.hid (hR2.out.below hnew))
    have hz12 := Lib.hid (block_lt hz1.out)
    have hge2 := Lib.hid hOn.size
    replace hz1 := Lib.hid ((hnew.block _ (block_lt hz1.out)).trans hz1.out)
    refine hKz.out _ _ (by first | exact hS | exact Below.trans hOn (Below.mono hnew (Below.size hOn))) (fun hNext => ?_)
    clear hKz Kz hOn
    have hOn := hNext
    clear hNext
    try clear hnew
    try clear hS
    try simp only [Act.put, List.setIfInBounds_toArray, List.set_cons_zero, List.set_cons_succ]
    refine wpAnyH_ready (rs := [6]) (by kernel_rfl) (by simp) ?_
    refine AllReadyH.cons (by simp only [List.getElem?_toArray, List.getElem?_cons_succ, List.getElem?_cons_zero]; rfl) (fun Kz hKz => ?_) AllReadyH.nil
    rw [if_pos (by rfl)]
    (with_reducible refine wp_store_rowK 30 (.tmp 5) (.tmp 39) rfl _ #[.slice none 0 0, .slice none 0 0] C1 rfl rfl hz1 (by rw [hC1.out]; exact infoM2 _ _) (zz_size.trans hsC1.symm) (by rw [hC1.out]; exact hR1.out.one) ?_)
    intro w7 hU7
    have hS := hOn.trans (hU7.out.below hge1.out)
    have hA7 := Lib.hid hU7.out.here
    have hz3 := Lib.hid ((hU7.out.block _ (by have := hz12.out; omega)).trans hz2.out)
    replace hR1 := Lib.hid (hR1.out.upd hU7.out nz11.out)
    replace hR2 := Lib.hid (hR2.out.upd hU7.out nz21.out)
    have ma := nz12
    have mb := nz22
    have hge7 := Lib.hid hge2.out
    refine hKz.out _ _ (by first | exact hS | exact Below.trans hOn (Below.mono hnew (Below.size hOn))) (fun hNext => ?_)
    clear hKz Kz hOn
    have hOn := hNext
    clear hNext
    try clear hnew
    try clear hS
    try simp only [Act.put]
    refine wpAnyH_ready (rs := [7]) (by kernel_rfl) (by simp) ?_
    refine AllReadyH.cons (by simp only [List.getElem?_toArray, List.getElem?_cons_succ, List.getElem?_cons_zero]; rfl) (fun Kz hKz => ?_) AllReadyH.nil
    rw [if_pos (by rfl)]
    (with_reducible refine wp_store_rowK 30 (.tmp 6) (.tmp 41) rfl _ #[.slice none 0 0, .slice none 0 0] C2 rfl rfl hz3 (by rw [hC2.out]; exact infoM2 _ _) (zz_size.trans hsC2.symm) (by rw [hC2.out]; exact hR2.out.one) ?_)
    intro w8 hU8
    have hS := hOn.trans (hU8.out.below hge7.out)
    have hB8 := Lib.hid hU8.out.here
    have hA8 := Lib.hid ((hU8.out.block _ (by have := hz12.out; omega)).trans hA7.out)
    replace hR1 := Lib.hid (hR1.out.upd hU8.out ma.out)
    replace hR2 := Lib.hid (hR2.out.upd hU8.out mb.out)
    refine hKz.out _ _ (by first | exact hS | exact Below.trans hOn (Below.mono hnew (Below.size hOn))) (fun hNext => ?_)
    clear hKz Kz hOn
    have hOn := hNext
    clear hNext
    try clear hnew
    try clear hS
    try simp only [Act.put]
    refine wpAnyH_done (by kernel_rfl) ?_ _
    rotate_left
    refine AllReadyH.cons (by simp only [List.getElem?_toArray, List.getElem?_cons_succ, List.getElem?_cons_zero]; rfl) (fun Kz hKz => ?_) AllReadyH.nil
    go_simp
    focus (try go_wp2_with fail)
    (fail_if_success (have := hz2))
    (with_reducible refine made_step (t := 30) ?_)
    intro w6 hz2 hnew
    (try have nz12 := Lib.hid hR1.out.old)
    (try have nz22 := Lib.hid hR2.out.old)
    (try replace hR1 := Lib.hid (hR1.out.below hnew))
    (try replace hR2 := Lib.hid (hR2.out.below hnew))
    have hz12 := Lib.hid (block_lt hz1.out)
    have hge2 := Lib.hid hOn.size
    replace hz1 := Lib.hid ((hnew.block _ (block_lt hz1.out)).trans hz1.out)
    refine hKz.out _ _ (by first | exact hS | exact Below.trans hOn (Below.mono hnew (Below.size hOn))) (fun hNext => ?_)
    clear hKz Kz hOn
    have hOn := hNext
    clear hNext
    try clear hnew
    try clear hS
    try simp only [Act.put, List.setIfInBounds_toArray, List.set_cons_zero, List.set_cons_succ]
    refine wpAnyH_ready (rs := [3]) (by kernel_rfl) (by simp) ?_
    refine AllReadyH.cons (by simp only [List.getElem?_toArray, List.getElem?_cons_succ, List.getElem?_cons_zero]; rfl) (fun Kz hKz => ?_) AllReadyH.nil
    go_simp
    (with_reducible refine (hobC.out _ hOn).mono ?_)
    rintro e w4 ⟨C2, p2, q2, rfl, hC2, hsC2, hR2, hnew⟩
    (try have nz21 := Lib.hid (hR2.out.new (block_lt hz1.out)))
    (try have nz22 := Lib.hid (hR2.out.new (block_lt hz2.out)))
    (try replace hR1 := Lib.hid (hR1.out.below hnew))
    (try replace hz1 := Lib.hid ((hnew.block _ (block_lt hz1.out)).trans hz1.out))
    (try replace hz2 := Lib.hid ((hnew.block _ (block_lt hz2.out)).trans hz2.out))
    focus (go_wp2_with fail)
    refine hKz.out _ _ (by first | exact hS | exact Below.trans hOn (Below.mono hnew (Below.size hOn))) (fun hNext => ?_)
    clear hKz Kz hOn
    have hOn := hNext
    clear hNext
    try clear hnew
    try clear hS
    try simp only [Act.put, List.setIfInBounds_toArray, List.set_cons_zero, List.set_cons_succ]
    refine wpAnyH_ready (rs := [6]) (by kernel_rfl) (by simp) ?_
    refine AllReadyH.cons (by simp only [List.getElem?_toArray, List.getElem?_cons_succ, List.getElem?_cons_zero]; rfl) (fun Kz hKz => ?_) AllReadyH.nil
    rw [if_pos (by rfl)]
    (with_reducible refine wp_store_rowK 30 (.tmp 5) (.tmp 39) rfl _ #[.slice none 0 0, .slice none 0 0] C1 rfl rfl hz1 (by rw [hC1.out]; exact infoM2 _ _) (zz_size.trans hsC1.symm) (by rw [hC1.out]; exact hR1.out.one) ?_)
    intro w7 hU7
    have hS := hOn.trans (hU7.out.below hge1.out)
    have hA7 := Lib.hid hU7.out.here
    have hz3 := Lib.hid ((hU7.out.block _ (by have := hz12.out; omega)).trans hz2.out)
    replace hR1 := Lib.hid (hR1.out.upd hU7.out nz11.out)
    replace hR2 := Lib.hid (hR2.out.upd hU7.out nz21.out)
    have ma := nz12
    have mb := nz22
    have hge7 := Lib.hid hge2.out
    refine hKz.out _ _ (by first | exact hS | exact Below.trans hOn (Below.mono hnew (Below.size hOn))) (fun hNext => ?_)
    clear hKz Kz hOn
    have hOn := hNext
    clear hNext
    try clear hnew
    try clear hS
    try simp only [Act.put]
    refine wpAnyH_ready (rs := [7]) (by kernel_rfl) (by simp) ?_
    refine AllReadyH.cons (by simp only [List.getElem?_toArray, List.getElem?_cons_succ, List.getElem?_cons_zero]; rfl) (fun Kz hKz => ?_) AllReadyH.nil
    rw [if_pos (by rfl)]
    (with_reducible refine wp_store_rowK 30 (.tmp 6) (.tmp 41) rfl _ #[.slice none 0 0, .slice none 0 0] C2 rfl rfl hz3 (by rw [hC2.out]; exact infoM2 _ _) (zz_size.trans hsC2.symm) (by rw [hC2.out]; exact hR2.out.one) ?_)
    intro w8 hU8
    have hS := hOn.trans (hU8.out.below hge7.out)
    have hB8 := Lib.hid hU8.out.here
    have hA8 := Lib.hid ((hU8.out.block _ (by have := hz12.out; omega)).trans hA7.out)
    replace hR1 := Lib.hid (hR1.out.upd hU8.out ma.out)
    replace hR2 := Lib.hid (hR2.out.upd hU8.out mb.out)
    refine hKz.out _ _ (by first | exact hS | exact Below.trans hOn (Below.mono hnew (Below.size hOn))) (fun hNext => ?_)
    clear hKz Kz hOn
    have hOn := hNext
    clear hNext
    try clear hnew
    try clear hS
    try simp only [Act.put]
    refine wpAnyH_done (by kernel_rfl) ?_ _
    rotate_left
    refine AllReadyH.cons (by simp only [List.getElem?_toArray, List.getElem?_cons_succ, List.getElem?_cons_zero]; rfl) (fun Kz hKz => ?_) AllReadyH.nil
    go_simp
    focus (try go_wp2_with fail)
    (fail_if_success (have := hz1))
    (with_reducible refine made_step (t := 30) ?_)
    intro w5 hz1 hnew
    (try have nz11 := Lib.hid hR1.out.old)
    (try have nz21 := Lib.hid hR2.out.old)
    (try replace hR1 := Lib.hid (hR1.out.below hnew))
    (try replace hR2 := Lib.hid (hR2.out.below hnew))
    have hge1 := Lib.hid hOn.size
    refine hKz.out _ _ (by first | exact hS | exact Below.trans hOn (Below.mono hnew (Below.size hOn))) (fun hNext => ?_)
    clear hKz Kz hOn
    have hOn := hNext
    clear hNext
    try clear hnew
    try clear hS
    try simp only [Act.put, List.setIfInBounds_toArray, List.set_cons_zero, List.set_cons_succ]
    refine wpAnyH_ready (rs := [3, 4]) (by kernel_rfl) (by simp) ?_
    refine AllReadyH.cons (by simp only [List.getElem?_toArray, List.getElem?_cons_succ, List.getElem?_cons_zero]; rfl) (fun Kz hKz => ?_) ?_
    go_simp
    (with_reducible refine (hobC.out _ hOn).mono ?_)
    rintro e w4 ⟨C2, p2, q2, rfl, hC2, hsC2, hR2, hnew⟩
    (try have nz21 := Lib.hid (hR2.out.new (block_lt hz1.out)))
    (try have nz22 := Lib.hid (hR2.out.new (block_lt hz2.out)))
    (try replace hR1 := Lib.hid (hR1.out.below hnew))
    (try replace hz1 := Lib.hid ((hnew.block _ (block_lt hz1.out)).trans hz1.out))
    (try replace hz2 := Lib.hid ((hnew.block _ (block_lt hz2.out)).trans hz2.out))
    focus (go_wp2_with fail)
    refine hKz.out _ _ (by first | exact hS | exact Below.trans hOn (Below.mono hnew (Below.size hOn))) (fun hNext => ?_)
    clear hKz Kz hOn
    have hOn := hNext
    clear hNext
    try clear hnew
    try clear hS
    try simp only [Act.put, List.setIfInBounds_toArray, List.set_cons_zero, List.set_cons_succ]
    refine wpAnyH_ready (rs := [4]) (by kernel_rfl) (by simp) ?_
    refine AllReadyH.cons (by simp only [List.getElem?_toArray, List.getElem?_cons_succ, List.getElem?_cons_zero]; rfl) (fun Kz hKz => ?_) AllReadyH.nil
    go_simp
    focus (try go_wp2_with fail)
    (fail_if_success (have := hz2))
    (with_reducible refine made_step (t := 30) ?_)
    intro w6 hz2 hnew
    (try have nz12 := Lib.hid hR1.out.old)
    (try have nz22 := Lib.hid hR2.out.old)
    (try replace hR1 := Lib.hid (hR1.out.below hnew))
    (try replace hR2 := Lib.hid (hR2.out.below hnew))
    have hz12 := Lib.hid (block_lt hz1.out)
    have hge2 := Lib.hid hOn.size
    replace hz1 := Lib.hid ((hnew.block _ (block_lt hz1.out)).trans hz1.out)
    refine hKz.out _ _ (by first | exact hS | exact Below.trans hOn (Below.mono hnew (Below.size hOn))) (fun hNext => ?_)
    clear hKz Kz hOn
    have hOn := hNext
    clear hNext
    try clear hnew
    try clear hS
    try simp only [Act.put, List.setIfInBounds_toArray, List.set_cons_zero, List.set_cons_succ]
    refine wpAnyH_ready (rs := [6]) (by kernel_rfl) (by simp) ?_
    refine AllReadyH.cons (by simp only [List.getElem?_toArray, List.getElem?_cons_succ, List.getElem?_cons_zero]; rfl) (fun Kz hKz => ?_) AllReadyH.nil
    rw [if_pos (by rfl)]
    (with_reducible refine wp_store_rowK 30 (.tmp 5) (.tmp 39) rfl _ #[.slice none 0 0, .slice none 0 0] C1 rfl rfl hz2 (by rw [hC1.out]; exact infoM2 _ _) (zz_size.trans hsC1.symm) (by rw [hC1.out]; exact hR1.out.one) ?_)
    intro w7 hU7
    have hS := hOn.trans (hU7.out.below hge2.out)
    have hA7 := Lib.hid hU7.out.here
    have hz3 := Lib.hid ((hU7.out.block _ (by have := hz12.out; omega)).trans hz1.out)
    replace hR1 := Lib.hid (hR1.out.upd hU7.out nz12.out)
    replace hR2 := Lib.hid (hR2.out.upd hU7.out nz22.out)
    have ma := nz11
    have mb := nz21
    have hge7 := Lib.hid hge1.out
    refine hKz.out _ _ (by first | exact hS | exact Below.trans hOn (Below.mono hnew (Below.size hOn))) (fun hNext => ?_)
    clear hKz Kz hOn
    have hOn := hNext
    clear hNext
    try clear hnew
    try clear hS
    try simp only [Act.put]
    refine wpAnyH_ready (rs := [7]) (by kernel_rfl) (by simp) ?_
    refine AllReadyH.cons (by simp only [List.getElem?_toArray, List.getElem?_cons_succ, List.getElem?_cons_zero]; rfl) (fun Kz hKz => ?_) AllReadyH.nil
    rw [if_pos (by rfl)]
    (with_reducible refine wp_store_rowK 30 (.tmp 6) (.tmp 41) rfl _ #[.slice none 0 0, .slice none 0 0] C2 rfl rfl hz3 (by rw [hC2.out]; exact infoM2 _ _) (zz_size.trans hsC2.symm) (by rw [hC2.out]; exact hR2.out.one) ?_)
    intro w8 hU8
    have hS := hOn.trans (hU8.out.below hge7.out)
    have hB8 := Lib.hid hU8.out.here
    have hA8 := Lib.hid ((hU8.out.block _ (by have := hz12.out; omega)).trans hA7.out)
    replace hR1 := Lib.hid (hR1.out.upd hU8.out ma.out)
    replace hR2 := Lib.hid (hR2.out.upd hU8.out mb.out)
    refine hKz.out _ _ (by first | exact hS | exact Below.trans hOn (Below.mono hnew (Below.size hOn))) (fun hNext => ?_)
    clear hKz Kz hOn
    have hOn := hNext
    clear hNext
    try clear hnew
    try clear hS
    try simp only [Act.put]
    refine wpAnyH_done (by kernel_rfl) ?_ _
    rotate_left
    refine AllReadyH.cons (by simp only [List.getElem?_toArray, List.getElem?_cons_succ, List.getElem?_cons_zero]; rfl) (fun Kz hKz => ?_) AllReadyH.nil
    go_simp
    focus (try go_wp2_with fail)
    (fail_if_success (have := hz2))
    (with_reducible refine made_step (t := 30) ?_)
    intro w6 hz2 hnew
    (try have nz12 := Lib.hid hR1.out.old)
    (try have nz22 := Lib.hid hR2.out.old)
    (try replace hR1 := Lib.hid (hR1.out.below hnew))
    (try replace hR2 := Lib.hid (hR2.out.below hnew))
    have hz12 := Lib.hid (block_lt hz1.out)
    have hge2 := Lib.hid hOn.size
    replace hz1 := Lib.hid ((hnew.block _ (block_lt hz1.out)).trans hz1.out)
    refine hKz.out _ _ (by first | exact hS | exact Below.trans hOn (Below.mono hnew (Below.size hOn))) (fun hNext => ?_)
    clear hKz Kz hOn
    have hOn := hNext
    clear hNext
    try clear hnew
    try clear hS
    try simp only [Act.put, List.setIfInBounds_toArray, List.set_cons_zero, List.set_cons_succ]
    refine wpAnyH_ready (rs := [3]) (by kernel_rfl) (by simp) ?_
    refine AllReadyH.cons (by simp only [List.getElem?_toArray, List.getElem?_cons_succ, List.getElem?_cons_zero]; rfl) (fun Kz hKz => ?_) AllReadyH.nil
    go_simp
    (with_reducible refine (hobC.out _ hOn).mono ?_)
    rintro e w4 ⟨C2, p2, q2, rfl, hC2, hsC2, hR2, hnew⟩
    (try have nz21 := Lib.hid (hR2.out.new (block_lt hz1.out)))
    (try have nz22 := Lib.hid (hR2.out.new (block_lt hz2.out)))
    (try replace hR1 := Lib.hid (hR1.out.below hnew))
    (try replace hz1 := Lib.hid ((hnew.block _ (block_lt hz1.out)).trans hz1.out))
    (try replace hz2 := Lib.hid ((hnew.block _ (block_lt hz2.out)).trans hz2.out))
    focus (go_wp2_with fail)
    refine hKz.out _ _ (by first | exact hS | exact Below.trans hOn (Below.mono hnew (Below.size hOn))) (fun hNext => ?_)
    clear hKz Kz hOn
    have hOn := hNext
    clear hNext
    try clear hnew
    try clear hS
    try simp only [Act.put, List.setIfInBounds_toArray, List.set_cons_zero, List.set_cons_succ]
    refine wpAnyH_ready (rs := [6]) (by kernel_rfl) (by simp) ?_
    refine AllReadyH.cons (by simp only [List.getElem?_toArray, List.getElem?_cons_succ, List.getElem?_cons_zero]; rfl) (fun Kz hKz => ?_) AllReadyH.nil
    rw [if_pos (by rfl)]
    (with_reducible refine wp_store_rowK 30 (.tmp 5) (.tmp 39) rfl _ #[.slice none 0 0, .slice none 0 0] C1 rfl rfl hz2 (by rw [hC1.out]; exact infoM2 _ _) (zz_size.trans hsC1.symm) (by rw [hC1.out]; exact hR1.out.one) ?_)
    intro w7 hU7
    have hS := hOn.trans (hU7.out.below hge2.out)
    have hA7 := Lib.hid hU7.out.here
    have hz3 := Lib.hid ((hU7.out.block _ (by have := hz12.out; omega)).trans hz1.out)
    replace hR1 := Lib.hid (hR1.out.upd hU7.out nz12.out)
    replace hR2 := Lib.hid (hR2.out.upd hU7.out nz22.out)
    have ma := nz11
    have mb := nz21
    have hge7 := Lib.hid hge1.out
    refine hKz.out _ _ (by first | exact hS | exact Below.trans hOn (Below.mono hnew (Below.size hOn))) (fun hNext => ?_)
    clear hKz Kz hOn
    have hOn := hNext
    clear hNext
    try clear hnew
    try clear hS
    try simp only [Act.put]
    refine wpAnyH_ready (rs := [7]) (by kernel_rfl) (by simp) ?_
    refine AllReadyH.cons (by simp only [List.getElem?_toArray, List.getElem?_cons_succ, List.getElem?_cons_zero]; rfl) (fun Kz hKz => ?_) AllReadyH.nil
    rw [if_pos (by rfl)]
    (with_reducible refine wp_store_rowK 30 (.tmp 6) (.tmp 41) rfl _ #[.slice none 0 0, .slice none 0 0] C2 rfl rfl hz3 (by rw [hC2.out]; exact infoM2 _ _) (zz_size.trans hsC2.symm) (by rw [hC2.out]; exact hR2.out.one) ?_)
    intro w8 hU8
    have hS := hOn.trans (hU8.out.below hge7.out)
    have hB8 := Lib.hid hU8.out.here
    have hA8 := Lib.hid ((hU8.out.block _ (by have := hz12.out; omega)).trans hA7.out)
    replace hR1 := Lib.hid (hR1.out.upd hU8.out ma.out)
    replace hR2 := Lib.hid (hR2.out.upd hU8.out mb.out)
    refine hKz.out _ _ (by first | exact hS | exact Below.trans hOn (Below.mono hnew (Below.size hOn))) (fun hNext => ?_)
    clear hKz Kz hOn
    have hOn := hNext
    clear hNext
    try clear hnew
    try clear hS
    try simp only [Act.put]
    refine wpAnyH_done (by kernel_rfl) ?_ _
    rotate_left
    refine AllReadyH.cons (by simp only [List.getElem?_toArray, List.getElem?_cons_succ, List.getElem?_cons_zero]; rfl) (fun Kz hKz => ?_) ?_
    go_simp
    focus (try go_wp2_with fail)
    (fail_if_success (have := hz1))
    (with_reducible refine made_step (t := 30) ?_)
    intro w5 hz1 hnew
    (try have nz11 := Lib.hid hR1.out.old)
    (try have nz21 := Lib.hid hR2.out.old)
    (try replace hR1 := Lib.hid (hR1.out.below hnew))
    (try replace hR2 := Lib.hid (hR2.out.below hnew))
    have hge1 := Lib.hid hOn.size
    refine hKz.out _ _ (by first | exact hS | exact Below.trans hOn (Below.mono hnew (Below.size hOn))) (fun hNext => ?_)
    clear hKz Kz hOn
    have hOn := hNext
    clear hNext
    try clear hnew
    try clear hS
    try simp only [Act.put, List.setIfInBounds_toArray, List.set_cons_zero, List.set_cons_succ]
    refine wpAnyH_ready (rs := [1, 5]) (by kernel_rfl) (by simp) ?_
    refine AllReadyH.cons (by simp only [List.getElem?_toArray, List.getElem?_cons_succ, List.getElem?_cons_zero]; rfl) (fun Kz hKz => ?_) ?_
    go_simp
    (with_reducible refine (hoaC.out _ hOn).mono ?_)
    rintro e w4 ⟨C1, p1, q1, rfl, hC1, hsC1, hR1, hnew⟩
    (try have nz11 := Lib.hid (hR1.out.new (block_lt hz1.out)))
    (try have nz12 := Lib.hid (hR1.out.new (block_lt hz2.out)))
    (try replace hR2 := Lib.hid (hR2.out.below hnew))
    (try replace hz1 := Lib.hid ((hnew.block _ (block_lt hz1.out)).trans hz1.out))
    (try replace hz2 := Lib.hid ((hnew.block _ (block_lt hz2.out)).trans hz2.out))
    focus (go_wp2_with fail)
    refine hKz.out _ _ (by first | exact hS | exact Below.trans hOn (Below.mono hnew (Below.size hOn))) (fun hNext => ?_)
    clear hKz Kz hOn
    have hOn := hNext
    clear hNext
    try clear hnew
    try clear hS
    try simp only [Act.put, List.setIfInBounds_toArray, List.set_cons_zero, List.set_cons_succ]
    refine wpAnyH_ready (rs := [3, 5]) (by kernel_rfl) (by simp) ?_
    refine AllReadyH.cons (by simp only [List.getElem?_toArray, List.getElem?_cons_succ, List.getElem?_cons_zero]; rfl) (fun Kz hKz => ?_) ?_
    go_simp
    (with_reducible refine (hobC.out _ hOn).mono ?_)
    rintro e w4 ⟨C2, p2, q2, rfl, hC2, hsC2, hR2, hnew⟩
    (try have nz21 := Lib.hid (hR2.out.new (block_lt hz1.out)))
    (try have nz22 := Lib.hid (hR2.out.new (block_lt hz2.out)))
    (try replace hR1 := Lib.hid (hR1.out.below hnew))
    (try replace hz1 := Lib.hid ((hnew.block _ (block_lt hz1.out)).trans hz1.out))
    (try replace hz2 := Lib.hid ((hnew.block _ (block_lt hz2.out)).trans hz2.out))
    focus (go_wp2_with fail)
    refine hKz.out _ _ (by first | exact hS | exact Below.trans hOn (Below.mono hnew (Below.size hOn))) (fun hNext => ?_)
    clear hKz Kz hOn
    have hOn := hNext
    clear hNext
    try clear hnew
    try clear hS
    try simp only [Act.put, List.setIfInBounds_toArray, List.set_cons_zero, List.set_cons_succ]
    refine wpAnyH_ready (rs := [5]) (by kernel_rfl) (by simp) ?_
    refine AllReadyH.cons (by simp only [List.getElem?_toArray, List.getElem?_cons_succ, List.getElem?_cons_zero]; rfl) (fun Kz hKz => ?_) AllReadyH.nil
    go_simp
    focus (try go_wp2_with fail)
    (fail_if_success (have := hz2))
    (with_reducible refine made_step (t := 30) ?_)
    intro w6 hz2 hnew
    (try have nz12 := Lib.hid hR1.out.old)
    (try have nz22 := Lib.hid hR2.out.old)
    (try replace hR1 := Lib.hid (hR1.out.below hnew))
    (try replace hR2 := Lib.hid (hR2.out.below hnew))
    have hz12 := Lib.hid (block_lt hz1.out)
    have hge2 := Lib.hid hOn.size
    replace hz1 := Lib.hid ((hnew.block _ (block_lt hz1.out)).trans hz1.out)
    refine hKz.out _ _ (by first | exact hS | exact Below.trans hOn (Below.mono hnew (Below.size hOn))) (fun hNext => ?_)
    clear hKz Kz hOn
    have hOn := hNext
    clear hNext
    try clear hnew
    try clear hS
    try simp only [Act.put, List.setIfInBounds_toArray, List.set_cons_zero, List.set_cons_succ]
    refine wpAnyH_ready (rs := [6]) (by kernel_rfl) (by simp) ?_
    refine AllReadyH.cons (by simp only [List.getElem?_toArray, List.getElem?_cons_succ, List.getElem?_cons_zero]; rfl) (fun Kz hKz => ?_) AllReadyH.nil
    rw [if_pos (by rfl)]
    (with_reducible refine wp_store_rowK 30 (.tmp 5) (.tmp 39) rfl _ #[.slice none 0 0, .slice none 0 0] C1 rfl rfl hz1 (by rw [hC1.out]; exact infoM2 _ _) (zz_size.trans hsC1.symm) (by rw [hC1.out]; exact hR1.out.one) ?_)
    intro w7 hU7
    have hS := hOn.trans (hU7.out.below hge1.out)
    have hA7 := Lib.hid hU7.out.here
    have hz3 := Lib.hid ((hU7.out.block _ (by have := hz12.out; omega)).trans hz2.out)
    replace hR1 := Lib.hid (hR1.out.upd hU7.out nz11.out)
    replace hR2 := Lib.hid (hR2.out.upd hU7.out nz21.out)
    have ma := nz12
    have mb := nz22
    have hge7 := Lib.hid hge2.out
    refine hKz.out _ _ (by first | exact hS | exact Below.trans hOn (Below.mono hnew (Below.size hOn))) (fun hNext => ?_)
    clear hKz Kz hOn
    have hOn := hNext
    clear hNext
    try clear hnew
    try clear hS
    try simp only [Act.put]
    refine wpAnyH_ready (rs := [7]) (by kernel_rfl) (by simp) ?_
    refine AllReadyH.cons (by simp only [List.getElem?_toArray, List.getElem?_cons_succ, List.getElem?_cons_zero]; rfl) (fun Kz hKz => ?_) AllReadyH.nil
    rw [if_pos (by rfl)]
    (with_reducible refine wp_store_rowK 30 (.tmp 6) (.tmp 41) rfl _ #[.slice none 0 0, .slice none 0 0] C2 rfl rfl hz3 (by rw [hC2.out]; exact infoM2 _ _) (zz_size.trans hsC2.symm) (by rw [hC2.out]; exact hR2.out.one) ?_)
    intro w8 hU8
    have hS := hOn.trans (hU8.out.below hge7.out)
    have hB8 := Lib.hid hU8.out.here
    have hA8 := Lib.hid ((hU8.out.block _ (by have := hz12.out; omega)).trans hA7.out)
    replace hR1 := Lib.hid (hR1.out.upd hU8.out ma.out)
    replace hR2 := Lib.hid (hR2.out.upd hU8.out mb.out)
    refine hKz.out _ _ (by first | exact hS | exact Below.trans hOn (Below.mono hnew (Below.size hOn))) (fun hNext => ?_)
    clear hKz Kz hOn
    have hOn := hNext
    clear hNext
    try clear hnew
    try clear hS
    try simp only [Act.put]
    refine wpAnyH_done (by kernel_rfl) ?_ _
    rotate_left
    refine AllReadyH.cons (by simp only [List.getElem?_toArray, List.getElem?_cons_succ, List.getElem?_cons_zero]; rfl) (fun Kz hKz => ?_) AllReadyH.nil
    go_simp
    focus (try go_wp2_with fail)
    (fail_if_success (have := hz2))
    (with_reducible refine made_step (t := 30) ?_)
    intro w6 hz2 hnew
    (try have nz12 := Lib.hid hR1.out.old)
    (try have nz22 := Lib.hid hR2.out.old)
    (try replace hR1 := Lib.hid (hR1.out.below hnew))
    (try replace hR2 := Lib.hid (hR2.out.below hnew))
    have hz12 := Lib.hid (block_lt hz1.out)
    have hge2 := Lib.hid hOn.size
    replace hz1 := Lib.hid ((hnew.block _ (block_lt hz1.out)).trans hz1.out)
    refine hKz.out _ _ (by first | exact hS | exact Below.trans hOn (Below.mono hnew (Below.size hOn))) (fun hNext => ?_)
    clear hKz Kz hOn
    have hOn := hNext
    clear hNext
    try clear hnew
    try clear hS
    try simp only [Act.put, List.setIfInBounds_toArray, List.set_cons_zero, List.set_cons_succ]
    refine wpAnyH_ready (rs := [3]) (by kernel_rfl) (by simp) ?_
    refine AllReadyH.cons (by simp only [List.getElem?_toArray, List.getElem?_cons_succ, List.getElem?_cons_zero]; rfl) (fun Kz hKz => ?_) AllReadyH.nil
    go_simp
    (with_reducible refine (hobC.out _ hOn).mono ?_)
    rintro e w4 ⟨C2, p2, q2, rfl, hC2, hsC2, hR2, hnew⟩
    (try have nz21 := Lib.hid (hR2.out.new (block_lt hz1.out)))
    (try have nz22 := Lib.hid (hR2.out.new (block_lt hz2.out)))
    (try replace hR1 := Lib.hid (hR1.out.below hnew))
    (try replace hz1 := Lib.hid ((hnew.block _ (block_lt hz1.out)).trans hz1.out))
    (try replace hz2 := Lib.hid ((hnew.block _ (block_lt hz2.out)).trans hz2.out))
    focus (go_wp2_with fail)
    refine hKz.out _ _ (by first | exact hS | exact Below.trans hOn (Below.mono hnew (Below.size hOn))) (fun hNext => ?_)
    clear hKz Kz hOn
    have hOn := hNext
    clear hNext
    try clear hnew
    try clear hS
    try simp only [Act.put, List.setIfInBounds_toArray, List.set_cons_zero, List.set_cons_succ]
    refine wpAnyH_ready (rs := [6]) (by kernel_rfl) (by simp) ?_
    refine AllReadyH.cons (by simp only [List.getElem?_toArray, List.getElem?_cons_succ, List.getElem?_cons_zero]; rfl) (fun Kz hKz => ?_) AllReadyH.nil
    rw [if_pos (by rfl)]
    (with_reducible refine wp_store_rowK 30 (.tmp 5) (.tmp 39) rfl _ #[.slice none 0 0, .slice none 0 0] C1 rfl rfl hz1 (by rw [hC1.out]; exact infoM2 _ _) (zz_size.trans hsC1.symm) (by rw [hC1.out]; exact hR1.out.one) ?_)
    intro w7 hU7
    have hS := hOn.trans (hU7.out.below hge1.out)
    have hA7 := Lib.hid hU7.out.here
    have hz3 := Lib.hid ((hU7.out.block _ (by have := hz12.out; omega)).trans hz2.out)
    replace hR1 := Lib.hid (hR1.out.upd hU7.out nz11.out)
    replace hR2 := Lib.hid (hR2.out.upd hU7.out nz21.out)
    have ma := nz12
    have mb := nz22
    have hge7 := Lib.hid hge2.out
    refine hKz.out _ _ (by first | exact hS | exact Below.trans hOn (Below.mono hnew (Below.size hOn))) (fun hNext => ?_)
    clear hKz Kz hOn
    have hOn := hNext
    clear hNext
    try clear hnew
    try clear hS
    try simp only [Act.put]
    refine wpAnyH_ready (rs := [7]) (by kernel_rfl) (by simp) ?_
    refine AllReadyH.cons (by simp only [List.getElem?_toArray, List.getElem?_cons_succ, List.getElem?_cons_zero]; rfl) (fun Kz hKz => ?_) AllReadyH.nil
    rw [if_pos (by rfl)]
    (with_reducible refine wp_store_rowK 30 (.tmp 6) (.tmp 41) rfl _ #[.slice none 0 0, .slice none 0 0] C2 rfl rfl hz3 (by rw [hC2.out]; exact infoM2 _ _) (zz_size.trans hsC2.symm) (by rw [hC2.out]; exact hR2.out.one) ?_)
    intro w8 hU8
    have hS := hOn.trans (hU8.out.below hge7.out)
    have hB8 := Lib.hid hU8.out.here
    have hA8 := Lib.hid ((hU8.out.block _ (by have := hz12.out; omega)).trans hA7.out)
    replace hR1 := Lib.hid (hR1.out.upd hU8.out ma.out)
    replace hR2 := Lib.hid (hR2.out.upd hU8.out mb.out)
    refine hKz.out _ _ (by first | exact hS | exact Below.trans hOn (Below.mono hnew (Below.size hOn))) (fun hNext => ?_)
    clear hKz Kz hOn
    have hOn := hNext
    clear hNext
    try clear hnew
    try clear hS
    try simp only [Act.put]
    refine wpAnyH_done (by kernel_rfl) ?_ _
    rotate_left
    refine AllReadyH.cons (by simp only [List.getElem?_toArray, List.getElem?_cons_succ, List.getElem?_cons_zero]; rfl) (fun Kz hKz => ?_) AllReadyH.nil
    go_simp
    focus (try go_wp2_with fail)
    (fail_if_success (have := hz2))
    (with_reducible refine made_step (t := 30) ?_)
    intro w6 hz2 hnew
    (try have nz12 := Lib.hid hR1.out.old)
    (try have nz22 := Lib.hid hR2.out.old)
    (try replace hR1 := Lib.hid (hR1.out.below hnew))
    (try replace hR2 := Lib.hid (hR2.out.below hnew))
    have hz12 := Lib.hid (block_lt hz1.out)
    have hge2 := Lib.hid hOn.size
    replace hz1 := Lib.hid ((hnew.block _ (block_lt hz1.out)).trans hz1.out)
    refine hKz.out _ _ (by first | exact hS | exact Below.trans hOn (Below.mono hnew (Below.size hOn))) (fun hNext => ?_)
    clear hKz Kz hOn
    have hOn := hNext
    clear hNext
    try clear hnew
    try clear hS
    try simp only [Act.put, List.setIfInBounds_toArray, List.set_cons_zero, List.set_cons_succ]
    refine wpAnyH_ready (rs := [1]) (by kernel_rfl) (by simp) ?_
    refine AllReadyH.cons (by simp only [List.getElem?_toArray, List.getElem?_cons_succ, List.getElem?_cons_zero]; rfl) (fun Kz hKz => ?_) AllReadyH.nil
    go_simp
    (with_reducible refine (hoaC.out _ hOn).mono ?_)
    rintro e w4 ⟨C1, p1, q1, rfl, hC1, hsC1, hR1, hnew⟩
    (try have nz11 := Lib.hid (hR1.out.new (block_lt hz1.out)))
    (try have nz12 := Lib.hid (hR1.out.new (block_lt hz2.out)))
    (try replace hR2 := Lib.hid (hR2.out.below hnew))
    (try replace hz1 := Lib.hid ((hnew.block _ (block_lt hz1.out)).trans hz1.out))
    (try replace hz2 := Lib.hid ((hnew.block _ (block_lt hz2.out)).trans hz2.out))
    focus (go_wp2_with fail)
    refine hKz.out _ _ (by first | exact hS | exact Below.trans hOn (Below.mono hnew (Below.size hOn))) (fun hNext => ?_)
    clear hKz Kz hOn
    have hOn := hNext
    clear hNext
    try clear hnew
    try clear hS
    try simp only [Act.put, List.setIfInBounds_toArray, List.set_cons_zero, List.set_cons_succ]
    refine wpAnyH_ready (rs := [3]) (by kernel_rfl) (by simp) ?_
    refine AllReadyH.cons (by simp only [List.getElem?_toArray, List.getElem?_cons_succ, List.getElem?_cons_zero]; rfl) (fun Kz hKz => ?_) AllReadyH.nil
    go_simp
    (with_reducible refine (hobC.out _ hOn).mono ?_)
    rintro e w4 ⟨C2, p2, q2, rfl, hC2, hsC2, hR2, hnew⟩
    (try have nz21 := Lib.hid (hR2.out.new (block_lt hz1.out)))
    (try have nz22 := Lib.hid (hR2.out.new (block_lt hz2.out)))
    (try replace hR1 := Lib.hid (hR1.out.below hnew))
    (try replace hz1 := Lib.hid ((hnew.block _ (block_lt hz1.out)).trans hz1.out))
    (try replace hz2 := Lib.hid ((hnew.block _ (block_lt hz2.out)).trans hz2.out))
    focus (go_wp2_with fail)
    refine hKz.out _ _ (by first | exact hS | exact Below.trans hOn (Below.mono hnew (Below.size hOn))) (fun hNext => ?_)
    clear hKz Kz hOn
    have hOn := hNext
    clear hNext
    try clear hnew
    try clear hS
    try simp only [Act.put, List.setIfInBounds_toArray, List.set_cons_zero, List.set_cons_succ]
    refine wpAnyH_ready (rs := [6]) (by kernel_rfl) (by simp) ?_
    refine AllReadyH.cons (by simp only [List.getElem?_toArray, List.getElem?_cons_succ, List.getElem?_cons_zero]; rfl) (fun Kz hKz => ?_) AllReadyH.nil
    rw [if_pos (by rfl)]
    (with_reducible refine wp_store_rowK 30 (.tmp 5) (.tmp 39) rfl _ #[.slice none 0 0, .slice none 0 0] C1 rfl rfl hz1 (by rw [hC1.out]; exact infoM2 _ _) (zz_size.trans hsC1.symm) (by rw [hC1.out]; exact hR1.out.one) ?_)
    intro w7 hU7
    have hS := hOn.trans (hU7.out.below hge1.out)
    have hA7 := Lib.hid hU7.out.here
    have hz3 := Lib.hid ((hU7.out.block _ (by have := hz12.out; omega)).trans hz2.out)
    replace hR1 := Lib.hid (hR1.out.upd hU7.out nz11.out)
    replace hR2 := Lib.hid (hR2.out.upd hU7.out nz21.out)
    have ma := nz12
    have mb := nz22
    have hge7 := Lib.hid hge2.out
    refine hKz.out _ _ (by first | exact hS | exact Below.trans hOn (Below.mono hnew (Below.size hOn))) (fun hNext => ?_)
    clear hKz Kz hOn
    have hOn := hNext
    clear hNext
    try clear hnew
    try clear hS
    try simp only [Act.put]
    refine wpAnyH_ready (rs := [7]) (by kernel_rfl) (by simp) ?_
    refine AllReadyH.cons (by simp only [List.getElem?_toArray, List.getElem?_cons_succ, List.getElem?_cons_zero]; rfl) (fun Kz hKz => ?_) AllReadyH.nil
    rw [if_pos (by rfl)]
    (with_reducible refine wp_store_rowK 30 (.tmp 6) (.tmp 41) rfl _ #[.slice none 0 0, .slice none 0 0] C2 rfl rfl hz3 (by rw [hC2.out]; exact infoM2 _ _) (zz_size.trans hsC2.symm) (by rw [hC2.out]; exact hR2.out.one) ?_)
    intro w8 hU8
    have hS := hOn.trans (hU8.out.below hge7.out)
    have hB8 := Lib.hid hU8.out.here
    have hA8 := Lib.hid ((hU8.out.block _ (by have := hz12.out; omega)).trans hA7.out)
    replace hR1 := Lib.hid (hR1.out.upd hU8.out ma.out)
    replace hR2 := Lib.hid (hR2.out.upd hU8.out mb.out)
    refine hKz.out _ _ (by first | exact hS | exact Below.trans hOn (Below.mono hnew (Below.size hOn))) (fun hNext => ?_)
    clear hKz Kz hOn
    have hOn := hNext
    clear hNext
    try clear hnew
    try clear hS
    try simp only [Act.put]
    refine wpAnyH_done (by kernel_rfl) ?_ _
    rotate_left
    refine AllReadyH.cons (by simp only [List.getElem?_toArray, List.getElem?_cons_succ, List.getElem?_cons_zero]; rfl) (fun Kz hKz => ?_) AllReadyH.nil
    go_simp
    focus (try go_wp2_with fail)
    (fail_if_success (have := hz1))
    (with_reducible refine made_step (t := 30) ?_)
    intro w5 hz1 hnew
    (try have nz11 := Lib.hid hR1.out.old)
    (try have nz21 := Lib.hid hR2.out.old)
    (try replace hR1 := Lib.hid (hR1.out.below hnew))
    (try replace hR2 := Lib.hid (hR2.out.below hnew))
    have hge1 := Lib.hid hOn.size
    refine hKz.out _ _ (by first | exact hS | exact Below.trans hOn (Below.mono hnew (Below.size hOn))) (fun hNext => ?_)
    clear hKz Kz hOn
    have hOn := hNext
    clear hNext
    try clear hnew
    try clear hS
    try simp only [Act.put, List.setIfInBounds_toArray, List.set_cons_zero, List.set_cons_succ]
    refine wpAnyH_ready (rs := [1, 4]) (by kernel_rfl) (by simp) ?_
    refine AllReadyH.cons (by simp only [List.getElem?_toArray, List.getElem?_cons_succ, List.getElem?_cons_zero]; rfl) (fun Kz hKz => ?_) ?_
    go_simp
    (with_reducible refine (hoaC.out _ hOn).mono ?_)
    rintro e w4 ⟨C1, p1, q1, rfl, hC1, hsC1, hR1, hnew⟩
    (try have nz11 := Lib.hid (hR1.out.new (block_lt hz1.out)))
    (try have nz12 := Lib.hid (hR1.out.new (block_lt hz2.out)))
    (try replace hR2 := Lib.hid (hR2.out.below hnew))
    (try replace hz1 := Lib.hid ((hnew.block _ (block_lt hz1.out)).trans hz1.out))
    (try replace hz2 := Lib.hid ((hnew.block _ (block_lt hz2.out)).trans hz2.out))
    focus (go_wp2_with fail)
    refine hKz.out _ _ (by first | exact hS | exact Below.trans hOn (Below.mono hnew (Below.size hOn))) (fun hNext => ?_)
    clear hKz Kz hOn
    have hOn := hNext
    clear hNext
    try clear hnew
    try clear hS
    try simp only [Act.put, List.setIfInBounds_toArray, List.set_cons_zero, List.set_cons_succ]
    refine wpAnyH_ready (rs := [3, 4]) (by kernel_rfl) (by simp) ?_
    refine AllReadyH.cons (by simp only [List.getElem?_toArray, List.getElem?_cons_succ, List.getElem?_cons_zero]; rfl) (fun Kz hKz => ?_) ?_
    go_simp
    (with_reducible refine (hobC.out _ hOn).mono ?_)
    rintro e w4 ⟨C2, p2, q2, rfl, hC2, hsC2, hR2, hnew⟩
    (try have nz21 := Lib.hid (hR2.out.new (block_lt hz1.out)))
    (try have nz22 := Lib.hid (hR2.out.new (block_lt hz2.out)))
    (try replace hR1 := Lib.hid (hR1.out.below hnew))
    (try replace hz1 := Lib.hid ((hnew.block _ (block_lt hz1.out)).trans hz1.out))
    (try replace hz2 := Lib.hid ((hnew.block _ (block_lt hz2.out)).trans hz2.out))
    focus (go_wp2_with fail)
    refine hKz.out _ _ (by first | exact hS | exact Below.trans hOn (Below.mono hnew (Below.size hOn))) (fun hNext => ?_)
    clear hKz Kz hOn
    have hOn := hNext
    clear hNext
    try clear hnew
    try clear hS
    try simp only [Act.put, List.setIfInBounds_toArray, List.set_cons_zero, List.set_cons_succ]
    refine wpAnyH_ready (rs := [4]) (by kernel_rfl) (by simp) ?_
    refine AllReadyH.cons (by simp only [List.getElem?_toArray, List.getElem?_cons_succ, List.getElem?_cons_zero]; rfl) (fun Kz hKz => ?_) AllReadyH.nil
    go_simp
    focus (try go_wp2_with fail)
    (fail_if_success (have := hz2))
    (with_reducible refine made_step (t := 30) ?_)
    intro w6 hz2 hnew
    (try have nz12 := Lib.hid hR1.out.old)
    (try have nz22 := Lib.hid hR2.out.old)
    (try replace hR1 := Lib.hid (hR1.out.below hnew))
    (try replace hR2 := Lib.hid (hR2.out.below hnew))
    have hz12 := Lib.hid (block_lt hz1.out)
    have hge2 := Lib.hid hOn.size
    replace hz1 := Lib.hid ((hnew.block _ (block_lt hz1.out)).trans hz1.out)
    refine hKz.out _ _ (by first | exact hS | exact Below.trans hOn (Below.mono hnew (Below.size hOn))) (fun hNext => ?_)
    clear hKz Kz hOn
    have hOn := hNext
    clear hNext
    try clear hnew
    try clear hS
    try simp only [Act.put, List.setIfInBounds_toArray, List.set_cons_zero, List.set_cons_succ]
    refine wpAnyH_ready (rs := [6]) (by kernel_rfl) (by simp) ?_
    refine AllReadyH.cons (by simp only [List.getElem?_toArray, List.getElem?_cons_succ, List.getElem?_cons_zero]; rfl) (fun Kz hKz => ?_) AllReadyH.nil
    rw [if_pos (by rfl)]
    (with_reducible refine wp_store_rowK 30 (.tmp 5) (.tmp 39) rfl _ #[.slice none 0 0, .slice none 0 0] C1 rfl rfl hz2 (by rw [hC1.out]; exact infoM2 _ _) (zz_size.trans hsC1.symm) (by rw [hC1.out]; exact hR1.out.one) ?_)
    intro w7 hU7
    have hS := hOn.trans (hU7.out.below hge2.out)
    have hA7 := Lib.hid hU7.out.here
    have hz3 := Lib.hid ((hU7.out.block _ (by have := hz12.out; omega)).trans hz1.out)
    replace hR1 := Lib.hid (hR1.out.upd hU7.out nz12.out)
    replace hR2 := Lib.hid (hR2.out.upd hU7.out nz22.out)
    have ma := nz11
    have mb := nz21
    have hge7 := Lib.hid hge1.out
    refine hKz.out _ _ (by first | exact hS | exact Below.trans hOn (Below.mono hnew (Below.size hOn))) (fun hNext => ?_)
    clear hKz Kz hOn
    have hOn := hNext
    clear hNext
    try clear hnew
    try clear hS
    try simp only [Act.put]
    refine wpAnyH_ready (rs := [7]) (by kernel_rfl) (by simp) ?_
    refine AllReadyH.cons (by simp only [List.getElem?_toArray, List.getElem?_cons_succ, List.getElem?_cons_zero]; rfl) (fun Kz hKz => ?_) AllReadyH.nil
    rw [if_pos (by rfl)]
    (with_reducible refine wp_store_rowK 30 (.tmp 6) (.tmp 41) rfl _ #[.slice none 0 0, .slice none 0 0] C2 rfl rfl hz3 (by rw [hC2.out]; exact infoM2 _ _) (zz_size.trans hsC2.symm) (by rw [hC2.out]; exact hR2.out.one) ?_)
    intro w8 hU8
    have hS := hOn.trans (hU8.out.below hge7.out)
    have hB8 := Lib.hid hU8.out.here
    have hA8 := Lib.hid ((hU8.out.block _ (by have := hz12.out; omega)).trans hA7.out)
    replace hR1 := Lib.hid (hR1.out.upd hU8.out ma.out)
    replace hR2 := Lib.hid (hR2.out.upd hU8.out mb.out)
    refine hKz.out _ _ (by first | exact hS | exact Below.trans hOn (Below.mono hnew (Below.size hOn))) (fun hNext => ?_)
    clear hKz Kz hOn
    have hOn := hNext
    clear hNext
    try clear hnew
    try clear hS
    try simp only [Act.put]
    refine wpAnyH_done (by kernel_rfl) ?_ _
    rotate_left
    refine AllReadyH.cons (by simp only [List.getElem?_toArray, List.getElem?_cons_succ, List.getElem?_cons_zero]; rfl) (fun Kz hKz => ?_) AllReadyH.nil
    go_simp
    focus (try go_wp2_with fail)
    (fail_if_success (have := hz2))
    (with_reducible refine made_step (t := 30) ?_)
    intro w6 hz2 hnew
    (try have nz12 := Lib.hid hR1.out.old)
    (try have nz22 := Lib.hid hR2.out.old)
    (try replace hR1 := Lib.hid (hR1.out.below hnew))
    (try replace hR2 := Lib.hid (hR2.out.below hnew))
    have hz12 := Lib.hid (block_lt hz1.out)
    have hge2 := Lib.hid hOn.size
    replace hz1 := Lib.hid ((hnew.block _ (block_lt hz1.out)).trans hz1.out)
    refine hKz.out _ _ (by first | exact hS | exact Below.trans hOn (Below.mono hnew (Below.size hOn))) (fun hNext => ?_)
    clear hKz Kz hOn
    have hOn := hNext
    clear hNext
    try clear hnew
    try clear hS
    try simp only [Act.put, List.setIfInBounds_toArray, List.set_cons_zero, List.set_cons_succ]
    refine wpAnyH_ready (rs := [3]) (by kernel_rfl) (by simp) ?_
    refine AllReadyH.cons (by simp only [List.getElem?_toArray, List.getElem?_cons_succ, List.getElem?_cons_zero]; rfl) (fun Kz hKz => ?_) AllReadyH.nil
    go_simp
    (with_reducible refine (hobC.out _ hOn).mono ?_)
    rintro e w4 ⟨C2, p2, q2, rfl, hC2, hsC2, hR2, hnew⟩
    (try have nz21 := Lib.hid (hR2.out.new (block_lt hz1.out)))
    (try have nz22 := Lib.hid (hR2.out.new (block_lt hz2.out)))
    (try replace hR1 := Lib.hid (hR1.out.below hnew))
    (try replace hz1 := Lib.hid ((hnew.block _ (block_lt hz1.out)).trans hz1.out))
    (try replace hz2 := Lib.hid ((hnew.block _ (block_lt hz2.out)).trans hz2.out))
    focus (go_wp2_with fail)
    refine hKz.out _ _ (by first | exact hS | exact Below.trans hOn (Below.mono hnew (Below.size hOn))) (fun hNext => ?_)
    clear hKz Kz hOn
    have hOn := hNext
    clear hNext
    try clear hnew
    try clear hS
    try simp only [Act.put, List.setIfInBounds_toArray, List.set_cons_zero, List.set_cons_succ]
    refine wpAnyH_ready (rs := [6]) (by kernel_rfl) (by simp) ?_
    refine AllReadyH.cons (by simp only [List.getElem?_toArray, List.getElem?_cons_succ, List.getElem?_cons_zero]; rfl) (fun Kz hKz => ?_) AllReadyH.nil
    rw [if_pos (by rfl)]
    (with_reducible refine wp_store_rowK 30 (.tmp 5) (.tmp 39) rfl _ #[.slice none 0 0, .slice none 0 0] C1 rfl rfl hz2 (by rw [hC1.out]; exact infoM2 _ _) (zz_size.trans hsC1.symm) (by rw [hC1.out]; exact hR1.out.one) ?_)
    intro w7 hU7
    have hS := hOn.trans (hU7.out.below hge2.out)
    have hA7 := Lib.hid hU7.out.here
    have hz3 := Lib.hid ((hU7.out.block _ (by have := hz12.out; omega)).trans hz1.out)
    replace hR1 := Lib.hid (hR1.out.upd hU7.out nz12.out)
    replace hR2 := Lib.hid (hR2.out.upd hU7.out nz22.out)
    have ma := nz11
    have mb := nz21
    have hge7 := Lib.hid hge1.out
    refine hKz.out _ _ (by first | exact hS | exact Below.trans hOn (Below.mono hnew (Below.size hOn))) (fun hNext => ?_)
    clear hKz Kz hOn
    have hOn := hNext
    clear hNext
    try clear hnew
    try clear hS
    try simp only [Act.put]
    refine wpAnyH_ready (rs := [7]) (by kernel_rfl) (by simp) ?_
    refine AllReadyH.cons (by simp only [List.getElem?_toArray, List.getElem?_cons_succ, List.getElem?_cons_zero]; rfl) (fun Kz hKz => ?_) AllReadyH.nil
    rw [if_pos (by rfl)]
    (with_reducible refine wp_store_rowK 30 (.tmp 6) (.tmp 41) rfl _ #[.slice none 0 0, .slice none 0 0] C2 rfl rfl hz3 (by rw [hC2.out]; exact infoM2 _ _) (zz_size.trans hsC2.symm) (by rw [hC2.out]; exact hR2.out.one) ?_)
    intro w8 hU8
    have hS := hOn.trans (hU8.out.below hge7.out)
    have hB8 := Lib.hid hU8.out.here
    have hA8 := Lib.hid ((hU8.out.block _ (by have := hz12.out; omega)).trans hA7.out)
    replace hR1 := Lib.hid (hR1.out.upd hU8.out ma.out)
    replace hR2 := Lib.hid (hR2.out.upd hU8.out mb.out)
    refine hKz.out _ _ (by first | exact hS | exact Below.trans hOn (Below.mono hnew (Below.size hOn))) (fun hNext => ?_)
    clear hKz Kz hOn
    have hOn := hNext
    clear hNext
    try clear hnew
    try clear hS
    try simp only [Act.put]
    refine wpAnyH_done (by kernel_rfl) ?_ _
    rotate_left
    refine AllReadyH.cons (by simp only [List.getElem?_toArray, List.getElem?_cons_succ, List.getElem?_cons_zero]; rfl) (fun Kz hKz => ?_) AllReadyH.nil
    go_simp
    focus (try go_wp2_with fail)
    (fail_if_success (have := hz2))
    (with_reducible refine made_step (t := 30) ?_)
    intro w6 hz2 hnew
    (try have nz12 := Lib.hid hR1.out.old)
    (try have nz22 := Lib.hid hR2.out.old)
    (try replace hR1 := Lib.hid (hR1.out.below hnew))
    (try replace hR2 := Lib.hid (hR2.out.below hnew))
    have hz12 := Lib.hid (block_lt hz1.out)
    have hge2 := Lib.hid hOn.size
    replace hz1 := Lib.hid ((hnew.block _ (block_lt hz1.out)).trans hz1.out)
    refine hKz.out _ _ (by first | exact hS | exact Below.trans hOn (Below.mono hnew (Below.size hOn))) (fun hNext => ?_)
    clear hKz Kz hOn
    have hOn := hNext
    clear hNext
    try clear hnew
    try clear hS
    try simp only [Act.put, List.setIfInBounds_toArray, List.set_cons_zero, List.set_cons_succ]
    refine wpAnyH_ready (rs := [1]) (by kernel_rfl) (by simp) ?_
    refine AllReadyH.cons (by simp only [List.getElem?_toArray, List.getElem?_cons_succ, List.getElem?_cons_zero]; rfl) (fun Kz hKz => ?_) AllReadyH.nil
    go_simp
    (with_reducible refine (hoaC.out _ hOn).mono ?_)
    rintro e w4 ⟨C1, p1, q1, rfl, hC1, hsC1, hR1, hnew⟩
    (try have nz11 := Lib.hid (hR1.out.new (block_lt hz1.out)))
    (try have nz12 := Lib.hid (hR1.out.new (block_lt hz2.out)))
    (try replace hR2 := Lib.hid (hR2.out.below hnew))
    (try replace hz1 := Lib.hid ((hnew.block _ (block_lt hz1.out)).trans hz1.out))
    (try replace hz2 := Lib.hid ((hnew.block _ (block_lt hz2.out)).trans hz2.out))
    focus (go_wp2_with fail)
    refine hKz.out _ _ (by first | exact hS | exact Below.trans hOn (Below.mono hnew (Below.size hOn))) (fun hNext => ?_)
    clear hKz Kz hOn
    have hOn := hNext
    clear hNext
    try clear hnew
    try clear hS
    try simp only [Act.put, List.setIfInBounds_toArray, List.set_cons_zero, List.set_cons_succ]
    refine wpAnyH_ready (rs := [3]) (by kernel_rfl) (by simp) ?_
    refine AllReadyH.cons (by simp only [List.getElem?_toArray, List.getElem?_cons_succ, List.getElem?_cons_zero]; rfl) (fun Kz hKz => ?_) AllReadyH.nil
    go_simp
    (with_reducible refine (hobC.out _ hOn).mono ?_)
    rintro e w4 ⟨C2, p2, q2, rfl, hC2, hsC2, hR2, hnew⟩
    (try have nz21 := Lib.hid (hR2.out.new (block_lt hz1.out)))
    (try have nz22 := Lib.hid (hR2.out.new (block_lt hz2.out)))
    (try replace hR1 := Lib.hid (hR1.out.below hnew))
    (try replace hz1 := Lib.hid ((hnew.block _ (block_lt hz1.out)).trans hz1.out))
    (try replace hz2 := Lib.hid ((hnew.block _ (block_lt hz2.out)).trans hz2.out))
    focus (go_wp2_with fail)
    refine hKz.out _ _ (by first | exact hS | exact Below.trans hOn (Below.mono hnew (Below.size hOn))) (fun hNext => ?_)
    clear hKz Kz hOn
    have hOn := hNext
    clear hNext
    try clear hnew
    try clear hS
    try simp only [Act.put, List.setIfInBounds_toArray, List.set_cons_zero, List.set_cons_succ]
    refine wpAnyH_ready (rs := [6]) (by kernel_rfl) (by simp) ?_
    refine AllReadyH.cons (by simp only [List.getElem?_toArray, List.getElem?_cons_succ, List.getElem?_cons_zero]; rfl) (fun Kz hKz => ?_) AllReadyH.nil
    rw [if_pos (by rfl)]
    (with_reducible refine wp_store_rowK 30 (.tmp 5) (.tmp 39) rfl _ #[.slice none 0 0, .slice none 0 0] C1 rfl rfl hz2 (by rw [hC1.out]; exact infoM2 _ _) (zz_size.trans hsC1.symm) (by rw [hC1.out]; exact hR1.out.one) ?_)
    intro w7 hU7
    have hS := hOn.trans (hU7.out.below hge2.out)
    have hA7 := Lib.hid hU7.out.here
    have hz3 := Lib.hid ((hU7.out.block _ (by have := hz12.out; omega)).trans hz1.out)
    replace hR1 := Lib.hid (hR1.out.upd hU7.out nz12.out)
    replace hR2 := Lib.hid (hR2.out.upd hU7.out nz22.out)
    have ma := nz11
    have mb := nz21
    have hge7 := Lib.hid hge1.out
    refine hKz.out _ _ (by first | exact hS | exact Below.trans hOn (Below.mono hnew (Below.size hOn))) (fun hNext => ?_)
    clear hKz Kz hOn
    have hOn := hNext
    clear hNext
    try clear hnew
    try clear hS
    try simp only [Act.put]
    refine wpAnyH_ready (rs := [7]) (by kernel_rfl) (by simp) ?_
    refine AllReadyH.cons (by simp only [List.getElem?_toArray, List.getElem?_cons_succ, List.getElem?_cons_zero]; rfl) (fun Kz hKz => ?_) AllReadyH.nil
    rw [if_pos (by rfl)]
    (with_reducible refine wp_store_rowK 30 (.tmp 6) (.tmp 41) rfl _ #[.slice none 0 0, .slice none 0 0] C2 rfl rfl hz3 (by rw [hC2.out]; exact infoM2 _ _) (zz_size.trans hsC2.symm) (by rw [hC2.out]; exact hR2.out.one) ?_)
    intro w8 hU8
    have hS := hOn.trans (hU8.out.below hge7.out)
    have hB8 := Lib.hid hU8.out.here
    have hA8 := Lib.hid ((hU8.out.block _ (by have := hz12.out; omega)).trans hA7.out)
    replace hR1 := Lib.hid (hR1.out.upd hU8.out ma.out)
    replace hR2 := Lib.hid (hR2.out.upd hU8.out mb.out)
    refine hKz.out _ _ (by first | exact hS | exact Below.trans hOn (Below.mono hnew (Below.size hOn))) (fun hNext => ?_)
    clear hKz Kz hOn
    have hOn := hNext
    clear hNext
    try clear hnew
    try clear hS
    try simp only [Act.put]
    refine wpAnyH_done (by kernel_rfl) ?_ _
    all_goals
      go_wp2_with fail
      go_meet
      exact ⟨_, _, rfl, rfl, ofAt_of hR1.out (by rw [← hC1.out]; exact hA8.out), ofAt_of hR2.out (by rw [← hC2.out]; exact hB8.out), hOn⟩
  case rest =>
    obtain ⟨g5, g6, rfl, rfl, hO5, hO6, hbx⟩ := hcut
    obtain ⟨x5, d5, x5', d5', hg5, hX, hX'⟩ := hO5.ex
    obtain ⟨x6, d6, x6', d6', hg6, hY, hY'⟩ := hO6.ex
    rw [← hNl.out, ← hVl.out] at hg5
    rw [← hMl.out, ← hZl.out] at hg6
    have p50 : wc.cell? ⟨g5, 0, none⟩ = some (.slice x5 N d5) := by rw [cell_of_block hg5]; rfl
    have p51 : wc.cell? ⟨g5, 1, none⟩ = some (.slice x5' V d5') := by rw [cell_of_block hg5]; rfl
    have p60 : wc.cell? ⟨g6, 0, none⟩ = some (.slice x6 M d6) := by rw [cell_of_block hg6]; rfl
    have p61 : wc.cell? ⟨g6, 1, none⟩ = some (.slice x6' Z d6') := by rw [cell_of_block hg6]; rfl
    have o20 := (hbx.cell (World.block_lt_of_cell? w3 _ c20)).trans c20
    have o21 := (hbx.cell (World.block_lt_of_cell? w3 _ c21)).trans c21
    have o30 := (hbx.cell (World.block_lt_of_cell? w3 _ c30)).trans c30
    have o31 := (hbx.cell (World.block_lt_of_cell? w3 _ c31)).trans c31
    have hBc := Lib.hid (hB3.out.trans (hbx.mono hB3.out.size))
    replace hX := Lib.hid hX
    replace hX' := Lib.hid hX'
    replace hY := Lib.hid hY
    replace hY' := Lib.hid hY'
    clear hO5 hO6 hg5 hg6 hbx c20 c21 c30 c31 hd0 rlA rlB hoaC hobC e23 e33 hs3 hB3 hCA hCB hzA hzB huA huB hB g1 g2 g3 g4
    obtain ⟨q0, hq0⟩ : ∃ q0, q0 = (decide (N ≤ M) && decide (V ≤ Z)) := ⟨_, rfl⟩
    replace hq0 := Lib.hid hq0
    go_upto_region 6 with fail
    go_cut [7] from 42 to 57 (fun s7 wx => s7 = .bool q0 ∧ wx = wc)
    case first =>
      by_cases h1 : (N : Int) ≤ (M : Int)
      · by_cases h2 : (V : Int) ≤ (Z : Int)
        · have e : q0 = true := by rw [hq0.out, decide_eq_true (p := N ≤ M) (by omega), decide_eq_true (p := V ≤ Z) (by omega)]; rfl
          subst e
          go_wp2_with fail
          go_meet
          exact ⟨rfl, rfl⟩
        · have e : q0 = false := by rw [hq0.out, decide_eq_false (p := V ≤ Z) (by omega), Bool.and_false]
          subst e
          go_wp2_with fail
          go_meet
          exact ⟨rfl, rfl⟩
      · have e : q0 = false := by rw [hq0.out, decide_eq_false (p := N ≤ M) (by omega), Bool.false_and]
        subst e
        go_wp2_with fail
        go_meet
        exact ⟨rfl, rfl⟩
    case rest =>
      obtain ⟨rfl, rfl⟩ := hcut
      go_wp2_with fail
      have okx : ∀ k, k < N → (a.ns.getD k default).Ok := fun k hk => by
        have hk' : k < a.ns.length := by rw [← hNl.out]; exact hk
        rw [← getD_lt default hk']
        exact okN.out _ (List.getElem_mem hk')
      have oky : ∀ k, k < M → (b.ns.getD k default).Ok := fun k hk => by
        have hk' : k < b.ns.length := by rw [← hMl.out]; exact hk
        rw [← getD_lt default hk']
        exact okM.out _ (List.getElem_mem hk')
      replace okx := Lib.hid okx
      replace oky := Lib.hid oky
      have zr := zNmR_run
      have zn := zNm_ne
      have huR : Tryd.prog.underlying 36 = _ := Tryd.underlying36
      have huP : Tryd.prog.underlying 33 = _ := Tryd.underlying33
      have huD : Tryd.prog.underlying 34 = _ := Tryd.underlying34
      refine wp_loopF [(false, 4), (true, 1), (false, 2), (true, 4), (false, 50), (true, 62), (false, 49)] _ [] (fun U wr => ∃ k : Nat, k ≤ N ∧ U 61 = .int .i64 (k : Nat) ∧ Below wc.heap.size wc wr ∧ ∃ okb : Bool, U 7 = .bool okb ∧ okb = (q0 && allN a b k)) (fun U _ => N - (intOf (U 61)).toNat) ?_ ?_
      · simp only [List.getD_cons_zero, List.getD_cons_succ]
        exact ⟨0, Nat.zero_le _, rfl, Below.refl _ _, q0, rfl, by simp [allN]⟩
      · intro U wr hrel KK hback l' hl'
        obtain ⟨k, hk, h61, hbw, okb, h7, hok⟩ := hrel
        simp only [fillS, popSeg, cond_true, cond_false, Nat.reduceAdd, h61, h7] at hl'
        subst hl'
        replace h61 := Lib.hid h61
        replace h7 := Lib.hid h7
        have f50 := (hbw.cell (World.block_lt_of_cell? wc _ p50)).trans p50
        have f51 := (hbw.cell (World.block_lt_of_cell? wc _ p51)).trans p51
        have f60 := (hbw.cell (World.block_lt_of_cell? wc _ p60)).trans p60
        have f61 := (hbw.cell (World.block_lt_of_cell? wc _ p61)).trans p61
        replace hok := Lib.hid hok
        by_cases hlt : k < N
        · have hlt2 : (k : Int) < (N : Int) := by omega
          have hkN : k < a.ns.length := by rw [← hNl.out]; exact hlt
          obtain ⟨b1, o1, rfl, hr1⟩ := hX.out.below hbw (Nat.le_refl _) k hkN
          have ox := okx.out k hlt
          rw [getD_lt default hkN] at hr1
          generalize hx : a.ns.getD k default = x at *
          obtain ⟨X, hXd⟩ : ∃ X, X = x.list.toArray := ⟨_, rfl⟩
          have hXs : X.size = 40 := by rw [hXd, Nm.size ox.f]
          have hX1 : X.all (·.oneCell') = true := by rw [hXd]; exact x.all_one
          have iX : (Tryd.prog.info? 36).map (·.size) = some X.size := by rw [hXs]; exact infoNmR40
          have ix : (Tryd.prog.info? 36).map (·.size) = some x.list.length := by rw [Nm.list_length ox.f]; exact infoNmR40
          have iP : (Tryd.prog.info? 33).map (·.size) = some x.p.list.length := by kernel_rfl
          have iD : (Tryd.prog.info? 34).map (·.size) = some (cB x.f).length := by rw [cB_length, ox.f]; kernel_rfl
          have zX : zNm.size = X.size := by rw [hXs]; exact zNm_size
          obtain ⟨S, hS⟩ : ∃ S, S = x.s := ⟨_, rfl⟩
          obtain ⟨PP, hPP⟩ : ∃ PP, PP = x.p.list.toArray := ⟨_, rfl⟩
          obtain ⟨DD, hDD⟩ : ∃ DD, DD = (cB x.f).toArray := ⟨_, rfl⟩
          obtain ⟨xk, hxk⟩ : ∃ xk, xk = x.k := ⟨_, rfl⟩
          have hX0 : X[0]? = some (.string S) := by rw [hXd, hS]; rfl
          have hX39 : X[39]? = some (.bool xk) := by rw [hXd, hxk]; simpa using Nm.c39 ox.f
          have hXP : (X.toList.drop 1).take 6 = x.p.list := by rw [hXd]; exact x.sub_p
          have hXD : (X.toList.drop 7).take 32 = cB x.f := by rw [hXd]; exact Nm.sub_f ox.f
          have hz1 : Hid ((wr.alloc (.cells zNm 36)).heap[wr.heap.size]? = some (.cells zNm 36 (0, 0))) := heap_alloc_new wr (.cells zNm 36 (0, 0))
          replace hx := Lib.hid hx
          replace hXd := Lib.hid hXd
          replace hS := Lib.hid hS
          replace hPP := Lib.hid hPP
          replace hDD := Lib.hid hDD
          replace hxk := Lib.hid hxk
          replace hX0 := Lib.hid hX0
          replace hX39 := Lib.hid hX39
          replace hXP := Lib.hid hXP
          replace hXD := Lib.hid hXD
          replace hr1 := Lib.hid hr1
          replace ox := Lib.hid ox
          go_upto_region 10 with (first
            | ((with_reducible show wpList _ _ _ (Oper.mk _ (Op.load 36 (.tmp 64)) _ _ _ _ :: _) _ _); refine wpList_load_midA rfl 36 (.tmp 64) rfl b1 (o1 + k * 40) rfl x.list _ hr1.out huR rfl ix _ hXd ?_; simp only [Act.put, List.setIfInBounds_toArray, List.set_cons_zero, List.set_cons_succ])
            | ((with_reducible show wpList _ _ _ (Oper.mk _ (Op.store 36 (.tmp 9) (.tmp 65)) _ _ _ _ :: _) _ _); refine wpList_store_row rfl 36 (.tmp 9) (.tmp 65) rfl wr.heap.size zNm X rfl rfl hz1 iX zX hX1 ?_; intro w5 hU5; simp only [Act.put, List.setIfInBounds_toArray, List.set_cons_zero, List.set_cons_succ]; have hb5 := Lib.hid (((Below.refl wr.heap.size wr).alloc (Nat.le_refl _) _).trans (hU5.out.below (Nat.le_refl _))); have k0 := (cell_of_block hU5.out.here 0).trans hX0.out; have s60 := (hb5.out.cell (World.block_lt_of_cell? wr _ f60)).trans f60; have hA5 := Lib.hid hU5.out.here))
          have hsz := hbw.size
          have hr5 := hb5.out.size
          have hbw5 := Lib.hid (hbw.trans (hb5.out.mono hsz))
          have hfin := Lib.hid (hBc.out.trans (hbw5.out.mono hBc.out.size))
          have hk1 : allN a b (k + 1) = (allN a b k && growN x (b.ns.getD k default)) := by rw [allN_succ, hx.out]
          replace hk1 := Lib.hid hk1
          replace hbw := Lib.hid hbw
          by_cases g1 : (100 : Int) < (S.size : Int)
          · go_wp2_with fail
            go_ret
            exact ⟨rfl, hfin.out⟩
          by_cases hlm : k < M
          · have hlm2 : (k : Int) < (M : Int) := by omega
            have hkM : k < b.ns.length := by rw [← hMl.out]; exact hlm
            obtain ⟨b2, o2, rfl, hr2⟩ := hY.out.below hbw5.out (Nat.le_refl _) k hkM
            have oy := oky.out k hlm
            rw [getD_lt default hkM] at hr2
            generalize hy : b.ns.getD k default = y at *
            obtain ⟨Y, hYd⟩ : ∃ Y, Y = y.list.toArray := ⟨_, rfl⟩
            have hYs : Y.size = 40 := by rw [hYd, Nm.size oy.f]
            have hY1 : Y.all (·.oneCell') = true := by rw [hYd]; exact y.all_one
            have iY : (Tryd.prog.info? 36).map (·.size) = some Y.size := by rw [hYs]; exact infoNmR40
            have iy : (Tryd.prog.info? 36).map (·.size) = some y.list.length := by rw [Nm.list_length oy.f]; exact infoNmR40
            have jP : (Tryd.prog.info? 33).map (·.size) = some y.p.list.length := by kernel_rfl
            have jD : (Tryd.prog.info? 34).map (·.size) = some (cB y.f).length := by rw [cB_length, oy.f]; kernel_rfl
            have zY : zNm.size = Y.size := by rw [hYs]; exact zNm_size
            obtain ⟨T, hT⟩ : ∃ T, T = y.s := ⟨_, rfl⟩
            obtain ⟨PQ, hPQ⟩ : ∃ PQ, PQ = y.p.list.toArray := ⟨_, rfl⟩
            obtain ⟨DE, hDE⟩ : ∃ DE, DE = (cB y.f).toArray := ⟨_, rfl⟩
            obtain ⟨yk, hyk⟩ : ∃ yk, yk = y.k := ⟨_, rfl⟩
            have hY0 : Y[0]? = some (.string T) := by rw [hYd, hT]; rfl
            have hY39 : Y[39]? = some (.bool yk) := by rw [hYd, hyk]; simpa using Nm.c39 oy.f
            have hYP : (Y.toList.drop 1).take 6 = y.p.list := by rw [hYd]; exact y.sub_p
            have hYD : (Y.toList.drop 7).take 32 = cB y.f := by rw [hYd]; exact Nm.sub_f oy.f
            have z0 := hr2 0 _ rfl
            rw [← hT] at z0
            simp only [Nat.add_zero] at z0
            have hz2 : Hid ((w5.alloc (.cells zNm 36)).heap[w5.heap.size]? = some (.cells zNm 36 (0, 0))) := heap_alloc_new w5 (.cells zNm 36 (0, 0))
            obtain ⟨bs, hbs⟩ : ∃ bs, bs = decide (S = T) := ⟨_, rfl⟩
            obtain ⟨bp, hbp⟩ : ∃ bp, bp = decide (x.p = y.p) := ⟨_, rfl⟩
            obtain ⟨bf, hbf⟩ : ∃ bf, bf = decide (x.f = y.f) := ⟨_, rfl⟩
            have es : (S.toList == T.toList) = bs := by rw [bytes_eq, hbs]
            have ep : ∀ W, (binOp .eql 33 (.agg PP) (.agg PQ)).run Tryd.prog W = .ok (.bool bp) W := fun W => by rw [hPP.out, hPQ, hbp]; exact eql_parR _ _ ox.out.p oy.p W
            have ed : ∀ W, (binOp .eql 34 (.agg DD) (.agg DE)).run Tryd.prog W = .ok (.bool bf) W := fun W => by rw [hDD.out, hDE, hbf]; exact eql_d32 _ _ ox.out.f oy.f W
            obtain ⟨gb, hgb⟩ : ∃ gb, gb = growN x y := ⟨_, rfl⟩
            have hgb2 : gb = (bs && bp && bf && (yk || !xk)) := by rw [hgb, lawN_grow, hbs, hbp, hbf, hyk, hxk.out, hS.out, hT]
            rw [← hgb] at hk1
            replace hy := Lib.hid hy
            replace hYd := Lib.hid hYd
            replace hT := Lib.hid hT
            replace hPQ := Lib.hid hPQ
            replace hDE := Lib.hid hDE
            replace hyk := Lib.hid hyk
            replace hY0 := Lib.hid hY0
            replace hY39 := Lib.hid hY39
            replace hYP := Lib.hid hYP
            replace hYD := Lib.hid hYD
            replace hr2 := Lib.hid hr2
            replace oy := Lib.hid oy
            replace hbs := Lib.hid hbs
            replace hbp := Lib.hid hbp
            replace hbf := Lib.hid hbf
            replace hgb := Lib.hid hgb
            replace hgb2 := Lib.hid hgb2
            replace ep := Lib.hid ep
            replace ed := Lib.hid ed
            replace es := Lib.hid es
            by_cases g2 : (100 : Int) < (T.size : Int)
            · go_wp2_with fail
              go_ret
              exact ⟨rfl, hfin.out⟩
            cases okb
            · have hn1 : Hid (false = (q0 && allN a b (k + 1))) := Lib.hid (by rw [hk1.out, ← Bool.and_assoc, ← hok.out, Bool.false_and])
              go_wp2_with fail
              refine hback.out _ _ (by kernel_rfl) ?_ ?_
              · simp only [List.getD_cons_zero, List.getD_cons_succ]
                exact ⟨k + 1, by omega, by go_num, hbw5.out, false, rfl, hn1.out⟩
              · have h61 := h61.out
                simp only [List.getD_cons_zero, List.getD_cons_succ, h61, intOf]
                omega
            · have hn1 : Hid (gb = (q0 && allN a b (k + 1))) := Lib.hid (by rw [hk1.out, ← Bool.and_assoc, ← hok.out, Bool.true_and])
              go_upto_region 14 with (first
                | ((with_reducible show wpList _ _ _ (Oper.mk _ (Op.load 36 (.tmp 92)) _ _ _ _ :: _) _ _); refine wpList_load_midA rfl 36 (.tmp 92) rfl b2 (o2 + k * 40) rfl y.list _ hr2.out huR rfl iy _ hYd ?_; simp only [Act.put, List.setIfInBounds_toArray, List.set_cons_zero, List.set_cons_succ])
                | ((with_reducible show wpList _ _ _ (Oper.mk _ (Op.store 36 (.tmp 10) (.tmp 93)) _ _ _ _ :: _) _ _); refine wpList_store_row rfl 36 (.tmp 10) (.tmp 93) rfl w5.heap.size zNm Y rfl rfl hz2 iY zY hY1 ?_; intro w6 hU6; simp only [Act.put, List.setIfInBounds_toArray, List.set_cons_zero, List.set_cons_succ]; have hb6 := Lib.hid (((Below.refl w5.heap.size w5).alloc (Nat.le_refl _) _).trans (hU6.out.below (Nat.le_refl _)))))
              have h63 := block_lt hA5.out
              have hx6 := (hb6.out.block _ h63).trans hA5.out
              have m0 := (cell_of_block hx6 0).trans hX0.out
              have m39 := (cell_of_block hx6 39).trans hX39.out
              have j0 := (cell_of_block hU6.out.here 0).trans hY0.out
              have j39 := (cell_of_block hU6.out.here 39).trans hY39.out
              have rP := Lib.hid (rangeAt_sub hx6 hXP.out)
              have rD := Lib.hid (rangeAt_sub hx6 hXD.out)
              have qP := Lib.hid (rangeAt_sub hU6.out.here hYP.out)
              have qD := Lib.hid (rangeAt_sub hU6.out.here hYD.out)
              have hbw6 := Lib.hid (hbw5.out.trans (hb6.out.mono (by omega)))
              have ep := ep.out
              have ed := ed.out
              have es := es.out
              replace hx6 := Lib.hid hx6
              clear hr2 hz2 hU6 hU5 hr1 hz1 hA5 k0 z0
              cases bs
              · have e : gb = false := by rw [hgb2.out]; rfl
                subst e
                clear ep ed
                go_wp2_with fail
                refine hback.out _ _ (by kernel_rfl) ?_ ?_
                · simp only [List.getD_cons_zero, List.getD_cons_succ]
                  exact ⟨k + 1, by omega, by go_num, hbw6.out, false, rfl, hn1.out⟩
                · have h61 := h61.out
                  simp only [List.getD_cons_zero, List.getD_cons_succ, h61, intOf]
                  omega
              cases bp
              · have e : gb = false := by rw [hgb2.out]; rfl
                subst e
                clear ed
                go_wp2_with (first | ((with_reducible show wpList _ _ _ (Oper.mk _ (Op.load 33 (.tmp 100)) _ _ _ _ :: _) _ _); refine wpList_load_midG (by kernel_rfl) 33 (.tmp 100) rfl wr.heap.size 1 rfl x.p.list _ rP.out huP rfl iP _ hPP ?_; simp only [Act.put, List.setIfInBounds_toArray, List.set_cons_zero, List.set_cons_succ]) | ((with_reducible show wpList _ _ _ (Oper.mk _ (Op.load 33 (.tmp 102)) _ _ _ _ :: _) _ _); refine wpList_load_midG (by kernel_rfl) 33 (.tmp 102) rfl w5.heap.size 1 rfl y.p.list _ qP.out huP rfl jP _ hPQ ?_; simp only [Act.put, List.setIfInBounds_toArray, List.set_cons_zero, List.set_cons_succ]) | ((with_reducible show wpList _ _ _ (Oper.mk _ (Op.load 34 (.tmp 107)) _ _ _ _ :: _) _ _); refine wpList_load_midG (by kernel_rfl) 34 (.tmp 107) rfl wr.heap.size 7 rfl (cB x.f) _ rD.out huD rfl iD _ hDD ?_; simp only [Act.put, List.setIfInBounds_toArray, List.set_cons_zero, List.set_cons_succ]) | ((with_reducible show wpList _ _ _ (Oper.mk _ (Op.load 34 (.tmp 109)) _ _ _ _ :: _) _ _); refine wpList_load_midG (by kernel_rfl) 34 (.tmp 109) rfl w5.heap.size 7 rfl (cB y.f) _ qD.out huD rfl jD _ hDE ?_; simp only [Act.put, List.setIfInBounds_toArray, List.set_cons_zero, List.set_cons_succ]))
                refine hback.out _ _ (by kernel_rfl) ?_ ?_
                · simp only [List.getD_cons_zero, List.getD_cons_succ]
                  exact ⟨k + 1, by omega, by go_num, hbw6.out, false, rfl, hn1.out⟩
                · have h61 := h61.out
                  simp only [List.getD_cons_zero, List.getD_cons_succ, h61, intOf]
                  omega
              cases bf
              · have e : gb = false := by rw [hgb2.out]; rfl
                subst e
                go_wp2_with (first | ((with_reducible show wpList _ _ _ (Oper.mk _ (Op.load 33 (.tmp 100)) _ _ _ _ :: _) _ _); refine wpList_load_midG (by kernel_rfl) 33 (.tmp 100) rfl wr.heap.size 1 rfl x.p.list _ rP.out huP rfl iP _ hPP ?_; simp only [Act.put, List.setIfInBounds_toArray, List.set_cons_zero, List.set_cons_succ]) | ((with_reducible show wpList _ _ _ (Oper.mk _ (Op.load 33 (.tmp 102)) _ _ _ _ :: _) _ _); refine wpList_load_midG (by kernel_rfl) 33 (.tmp 102) rfl w5.heap.size 1 rfl y.p.list _ qP.out huP rfl jP _ hPQ ?_; simp only [Act.put, List.setIfInBounds_toArray, List.set_cons_zero, List.set_cons_succ]) | ((with_reducible show wpList _ _ _ (Oper.mk _ (Op.load 34 (.tmp 107)) _ _ _ _ :: _) _ _); refine wpList_load_midG (by kernel_rfl) 34 (.tmp 107) rfl wr.heap.size 7 rfl (cB x.f) _ rD.out huD rfl iD _ hDD ?_; simp only [Act.put, List.setIfInBounds_toArray, List.set_cons_zero, List.set_cons_succ]) | ((with_reducible show wpList _ _ _ (Oper.mk _ (Op.load 34 (.tmp 109)) _ _ _ _ :: _) _ _); refine wpList_load_midG (by kernel_rfl) 34 (.tmp 109) rfl w5.heap.size 7 rfl (cB y.f) _ qD.out huD rfl jD _ hDE ?_; simp only [Act.put, List.setIfInBounds_toArray, List.set_cons_zero, List.set_cons_succ]))
                refine hback.out _ _ (by kernel_rfl) ?_ ?_
                · simp only [List.getD_cons_zero, List.getD_cons_succ]
                  exact ⟨k + 1, by omega, by go_num, hbw6.out, false, rfl, hn1.out⟩
                · have h61 := h61.out
                  simp only [List.getD_cons_zero, List.getD_cons_succ, h61, intOf]
                  omega
              cases yk
              · cases xk
                · have e : gb = true := by rw [hgb2.out]; rfl
                  subst e
                  go_wp2_with (first | ((with_reducible show wpList _ _ _ (Oper.mk _ (Op.load 33 (.tmp 100)) _ _ _ _ :: _) _ _); refine wpList_load_midG (by kernel_rfl) 33 (.tmp 100) rfl wr.heap.size 1 rfl x.p.list _ rP.out huP rfl iP _ hPP ?_; simp only [Act.put, List.setIfInBounds_toArray, List.set_cons_zero, List.set_cons_succ]) | ((with_reducible show wpList _ _ _ (Oper.mk _ (Op.load 33 (.tmp 102)) _ _ _ _ :: _) _ _); refine wpList_load_midG (by kernel_rfl) 33 (.tmp 102) rfl w5.heap.size 1 rfl y.p.list _ qP.out huP rfl jP _ hPQ ?_; simp only [Act.put, List.setIfInBounds_toArray, List.set_cons_zero, List.set_cons_succ]) | ((with_reducible show wpList _ _ _ (Oper.mk _ (Op.load 34 (.tmp 107)) _ _ _ _ :: _) _ _); refine wpList_load_midG (by kernel_rfl) 34 (.tmp 107) rfl wr.heap.size 7 rfl (cB x.f) _ rD.out huD rfl iD _ hDD ?_; simp only [Act.put, List.setIfInBounds_toArray, List.set_cons_zero, List.set_cons_succ]) | ((with_reducible show wpList _ _ _ (Oper.mk _ (Op.load 34 (.tmp 109)) _ _ _ _ :: _) _ _); refine wpList_load_midG (by kernel_rfl) 34 (.tmp 109) rfl w5.heap.size 7 rfl (cB y.f) _ qD.out huD rfl jD _ hDE ?_; simp only [Act.put, List.setIfInBounds_toArray, List.set_cons_zero, List.set_cons_succ]))
                  refine hback.out _ _ (by kernel_rfl) ?_ ?_
                  · simp only [List.getD_cons_zero, List.getD_cons_succ]
                    exact ⟨k + 1, by omega, by go_num, hbw6.out, true, rfl, hn1.out⟩
                  · have h61 := h61.out
                    simp only [List.getD_cons_zero, List.getD_cons_succ, h61, intOf]
                    omega
                · have e : gb = false := by rw [hgb2.out]; rfl
                  subst e
                  go_wp2_with (first | ((with_reducible show wpList _ _ _ (Oper.mk _ (Op.load 33 (.tmp 100)) _ _ _ _ :: _) _ _); refine wpList_load_midG (by kernel_rfl) 33 (.tmp 100) rfl wr.heap.size 1 rfl x.p.list _ rP.out huP rfl iP _ hPP ?_; simp only [Act.put, List.setIfInBounds_toArray, List.set_cons_zero, List.set_cons_succ]) | ((with_reducible show wpList _ _ _ (Oper.mk _ (Op.load 33 (.tmp 102)) _ _ _ _ :: _) _ _); refine wpList_load_midG (by kernel_rfl) 33 (.tmp 102) rfl w5.heap.size 1 rfl y.p.list _ qP.out huP rfl jP _ hPQ ?_; simp only [Act.put, List.setIfInBounds_toArray, List.set_cons_zero, List.set_cons_succ]) | ((with_reducible show wpList _ _ _ (Oper.mk _ (Op.load 34 (.tmp 107)) _ _ _ _ :: _) _ _); refine wpList_load_midG (by kernel_rfl) 34 (.tmp 107) rfl wr.heap.size 7 rfl (cB x.f) _ rD.out huD rfl iD _ hDD ?_; simp only [Act.put, List.setIfInBounds_toArray, List.set_cons_zero, List.set_cons_succ]) | ((with_reducible show wpList _ _ _ (Oper.mk _ (Op.load 34 (.tmp 109)) _ _ _ _ :: _) _ _); refine wpList_load_midG (by kernel_rfl) 34 (.tmp 109) rfl w5.heap.size 7 rfl (cB y.f) _ qD.out huD rfl jD _ hDE ?_; simp only [Act.put, List.setIfInBounds_toArray, List.set_cons_zero, List.set_cons_succ]))
                  refine hback.out _ _ (by kernel_rfl) ?_ ?_
                  · simp only [List.getD_cons_zero, List.getD_cons_succ]
                    exact ⟨k + 1, by omega, by go_num, hbw6.out, false, rfl, hn1.out⟩
                  · have h61 := h61.out
                    simp only [List.getD_cons_zero, List.getD_cons_succ, h61, intOf]
                    omega
              · have e : gb = true := by rw [hgb2.out]; rfl
                subst e
                go_wp2_with (first | ((with_reducible show wpList _ _ _ (Oper.mk _ (Op.load 33 (.tmp 100)) _ _ _ _ :: _) _ _); refine wpList_load_midG (by kernel_rfl) 33 (.tmp 100) rfl wr.heap.size 1 rfl x.p.list _ rP.out huP rfl iP _ hPP ?_; simp only [Act.put, List.setIfInBounds_toArray, List.set_cons_zero, List.set_cons_succ]) | ((with_reducible show wpList _ _ _ (Oper.mk _ (Op.load 33 (.tmp 102)) _ _ _ _ :: _) _ _); refine wpList_load_midG (by kernel_rfl) 33 (.tmp 102) rfl w5.heap.size 1 rfl y.p.list _ qP.out huP rfl jP _ hPQ ?_; simp only [Act.put, List.setIfInBounds_toArray, List.set_cons_zero, List.set_cons_succ]) | ((with_reducible show wpList _ _ _ (Oper.mk _ (Op.load 34 (.tmp 107)) _ _ _ _ :: _) _ _); refine wpList_load_midG (by kernel_rfl) 34 (.tmp 107) rfl wr.heap.size 7 rfl (cB x.f) _ rD.out huD rfl iD _ hDD ?_; simp only [Act.put, List.setIfInBounds_toArray, List.set_cons_zero, List.set_cons_succ]) | ((with_reducible show wpList _ _ _ (Oper.mk _ (Op.load 34 (.tmp 109)) _ _ _ _ :: _) _ _); refine wpList_load_midG (by kernel_rfl) 34 (.tmp 109) rfl w5.heap.size 7 rfl (cB y.f) _ qD.out huD rfl jD _ hDE ?_; simp only [Act.put, List.setIfInBounds_toArray, List.set_cons_zero, List.set_cons_succ]))
                refine hback.out _ _ (by kernel_rfl) ?_ ?_
                · simp only [List.getD_cons_zero, List.getD_cons_succ]
                  exact ⟨k + 1, by omega, by go_num, hbw6.out, true, rfl, hn1.out⟩
                · have h61 := h61.out
                  simp only [List.getD_cons_zero, List.getD_cons_succ, h61, intOf]
                  omega
          · have hq : okb = false := by rw [hok.out, hq0.out, decide_eq_false (p := N ≤ M) (by omega)]; simp
            subst hq
            have hlm2 : ¬ ((k : Int) < (M : Int)) := by omega
            have hn1 : Hid (false = (q0 && allN a b (k + 1))) := Lib.hid (by rw [hk1.out, ← Bool.and_assoc, ← hok.out, Bool.false_and])
            go_wp2_with fail
            refine hback.out _ _ (by kernel_rfl) ?_ ?_
            · simp only [List.getD_cons_zero, List.getD_cons_succ]
              exact ⟨k + 1, by omega, by go_num, hbw5.out, false, rfl, hn1.out⟩
            · have h61 := h61.out
              simp only [List.getD_cons_zero, List.getD_cons_succ, h61, intOf]
              omega
        · obtain rfl : k = N := by omega
          have hBw := Lib.hid (hBc.out.trans (hbw.mono hBc.out.size))
          have hX2 := Lib.hid (hX'.out.below hbw (Nat.le_refl _))
          have hY2 := Lib.hid (hY'.out.below hbw (Nat.le_refl _))
          have e20 := (hbw.cell (World.block_lt_of_cell? wc _ o20)).trans o20
          have e21 := (hbw.cell (World.block_lt_of_cell? wc _ o21)).trans o21
          have e30 := (hbw.cell (World.block_lt_of_cell? wc _ o30)).trans o30
          have e31 := (hbw.cell (World.block_lt_of_cell? wc _ o31)).trans o31
          clear hback okx oky hX hY hX' hY' o20 o21 o30 o31 p50 p51 p60 p61 f50 f60 zr zn huR huP huD hbw
          go_wp2_with fail
          refine wp_loopF [(false, 7), (true, 1), (false, 3), (true, 3), (false, 112), (true, 36), (false, 10)] _ [] (fun U2 wv => ∃ j : Nat, j ≤ V ∧ U2 126 = .int .i64 (j : Nat) ∧ Below wr.heap.size wr wv ∧ ∃ okv : Bool, U2 7 = .bool okv ∧ okv = (okb && allV a b j)) (fun U2 _ => V - (intOf (U2 126)).toNat) ?_ ?_
          · simp only [List.getD_cons_zero, List.getD_cons_succ]
            exact ⟨0, Nat.zero_le _, rfl, Below.refl _ _, okb, rfl, by simp [allV]⟩
          · intro U2 wv hrel KK2 hback2 l2 hl2
            obtain ⟨j, hj, h126, hbv, okv, h7v, hokv⟩ := hrel
            simp only [fillS, popSeg, cond_true, cond_false, Nat.reduceAdd, h126, h7v] at hl2
            subst hl2
            replace h126 := Lib.hid h126
            replace h7v := Lib.hid h7v
            have v61 := (hbv.cell (World.block_lt_of_cell? wr _ f61)).trans f61
            replace hokv := Lib.hid hokv
            by_cases hltv : j < V
            · have hltv2 : (j : Int) < (V : Int) := by omega
              have hkV : j < a.vs.length := by rw [← hVl.out]; exact hltv
              obtain ⟨b1, o1, rfl, hr1⟩ := hX2.out.below hbv (Nat.le_refl _) j hkV
              rw [getD_lt default hkV] at hr1
              have hk1 : allV a b (j + 1) = (allV a b j && growV (a.vs.getD j default) (b.vs.getD j default)) := allV_succ a b j
              generalize hx : a.vs.getD j default = x at *
              obtain ⟨xo, xw, xv⟩ := x
              have d0 := hr1 0 _ rfl
              have d1 := hr1 1 _ rfl
              have d2 := hr1 2 _ rfl
              simp only [Nat.add_zero] at d0 d1 d2
              have v61a := fun o => cellAfter v61 o
              have hsv := hbv.size
              replace hk1 := Lib.hid hk1
              replace hx := Lib.hid hx
              replace hbv := Lib.hid hbv
              clear hr1
              cases okv
              · have hn1 : Hid (false = (okb && allV a b (j + 1))) := Lib.hid (by rw [hk1.out, ← Bool.and_assoc, ← hokv.out, Bool.false_and])
                have hfinA := fun A => hbv.out.trans (((Below.refl wv.heap.size wv).alloc (Nat.le_refl _) A).mono hsv)
                replace hfinA := Lib.hid hfinA
                go_wp2_with fail
                refine hback2.out _ _ (by kernel_rfl) ?_ ?_
                · simp only [List.getD_cons_zero, List.getD_cons_succ]
                  exact ⟨j + 1, by omega, by go_num, hfinA.out _, false, rfl, hn1.out⟩
                · have h126 := h126.out
                  simp only [List.getD_cons_zero, List.getD_cons_succ, h126, intOf]
                  omega
              · have hob : okb = true := by
                  have := hokv.out
                  cases okb
                  · simp at this
                  · rfl
                have hq1 : q0 = true := by
                  have := hok.out
                  rw [hob] at this
                  cases q0
                  · simp at this
                  · rfl
                have hVZ : V ≤ Z := by
                  have := hq0.out
                  rw [hq1] at this
                  simp at this
                  exact this.2
                subst hob hq1
                have hltz : (j : Int) < (Z : Int) := by omega
                have hkZ : j < b.vs.length := by rw [← hZl.out]; omega
                obtain ⟨b2, o2, rfl, hr2⟩ := hY2.out.below hbv.out (Nat.le_refl _) j hkZ
                rw [getD_lt default hkZ] at hr2
                generalize hy : b.vs.getD j default = y at *
                obtain ⟨yo, yw, yv⟩ := y
                have z0 := hr2 0 _ rfl
                have z1 := hr2 1 _ rfl
                have z2 := hr2 2 _ rfl
                simp only [Nat.add_zero] at z0 z1 z2
                have y0 := fun o => cellAfter z0 o
                have y1 := fun o => cellAfter z1 o
                have y2 := fun o => cellAfter z2 o
                obtain ⟨gb, hgb⟩ : ∃ gb, gb = growV ⟨xo, xw, xv⟩ ⟨yo, yw, yv⟩ := ⟨_, rfl⟩
                have hn1 : Hid (gb = (true && allV a b (j + 1))) := Lib.hid (by rw [hk1.out, hgb, ← Bool.and_assoc, ← hokv.out, Bool.true_and])
                obtain ⟨c1, hc1⟩ : ∃ c1, c1 = decide (xo = yo) := ⟨_, rfl⟩
                obtain ⟨c2, hc2⟩ : ∃ c2, c2 = decide (xw = yw) := ⟨_, rfl⟩
                obtain ⟨c3, hc3⟩ : ∃ c3, c3 = decide (xv = yv) := ⟨_, rfl⟩
                obtain ⟨c4, hc4⟩ : ∃ c4, c4 = decide (xv = 0) := ⟨_, rfl⟩
                have i1 : (xo == yo) = c1 := by rw [hc1]; rfl
                have i2 : (xw == yw) = c2 := by rw [hc2]; rfl
                have i3 : (xv == yv) = c3 := by rw [hc3]; rfl
                have i4 : (xv == 0) = c4 := by rw [hc4]; rfl
                have hgb2 : gb = (c1 && c2 && (c3 || c4)) := by rw [hgb, lawV_grow, hc1, hc2, hc3, hc4]
                have hfinB := fun A B => ((hbv.out.trans (((Below.refl wv.heap.size wv).alloc (Nat.le_refl _) A).mono hsv)).trans (((Below.refl _ (wv.alloc A)).alloc (Nat.le_refl _) B).mono (by simp; omega)))
                replace hfinB := Lib.hid hfinB
                replace hy := Lib.hid hy
                replace hgb := Lib.hid hgb
                replace hgb2 := Lib.hid hgb2
                clear hc1 hc2 hc3 hc4 hr2
                cases c1
                · have e : gb = false := by rw [hgb2.out]; rfl
                  subst e
                  go_wp2_with fail
                  refine hback2.out _ _ (by kernel_rfl) ?_ ?_
                  · simp only [List.getD_cons_zero, List.getD_cons_succ]
                    exact ⟨j + 1, by omega, by go_num, hfinB.out _ _, false, rfl, hn1.out⟩
                  · have h126 := h126.out
                    simp only [List.getD_cons_zero, List.getD_cons_succ, h126, intOf]
                    omega
                cases c2
                · have e : gb = false := by rw [hgb2.out]; rfl
                  subst e
                  go_wp2_with fail
                  refine hback2.out _ _ (by kernel_rfl) ?_ ?_
                  · simp only [List.getD_cons_zero, List.getD_cons_succ]
                    exact ⟨j + 1, by omega, by go_num, hfinB.out _ _, false, rfl, hn1.out⟩
                  · have h126 := h126.out
                    simp only [List.getD_cons_zero, List.getD_cons_succ, h126, intOf]
                    omega
                cases c3
                · cases c4
                  · have e : gb = false := by rw [hgb2.out]; rfl
                    subst e
                    go_wp2_with fail
                    refine hback2.out _ _ (by kernel_rfl) ?_ ?_
                    · simp only [List.getD_cons_zero, List.getD_cons_succ]
                      exact ⟨j + 1, by omega, by go_num, hfinB.out _ _, false, rfl, hn1.out⟩
                    · have h126 := h126.out
                      simp only [List.getD_cons_zero, List.getD_cons_succ, h126, intOf]
                      omega
                  · have e : gb = true := by rw [hgb2.out]; rfl
                    subst e
                    go_wp2_with fail
                    refine hback2.out _ _ (by kernel_rfl) ?_ ?_
                    · simp only [List.getD_cons_zero, List.getD_cons_succ]
                      exact ⟨j + 1, by omega, by go_num, hfinB.out _ _, true, rfl, hn1.out⟩
                    · have h126 := h126.out
                      simp only [List.getD_cons_zero, List.getD_cons_succ, h126, intOf]
                      omega
                · have e : gb = true := by rw [hgb2.out]; rfl
                  subst e
                  go_wp2_with fail
                  refine hback2.out _ _ (by kernel_rfl) ?_ ?_
                  · simp only [List.getD_cons_zero, List.getD_cons_succ]
                    exact ⟨j + 1, by omega, by go_num, hfinB.out _ _, true, rfl, hn1.out⟩
                  · have h126 := h126.out
                    simp only [List.getD_cons_zero, List.getD_cons_succ, h126, intOf]
                    omega
            · obtain rfl : j = V := by omega
              have hBv := Lib.hid (hBw.out.trans (hbv.mono hBw.out.size))
              have hgF : Hid (okv = growsM a b) := Lib.hid (by rw [growsM_all, ← hNl.out, ← hVl.out, ← hMl.out, ← hZl.out, hokv.out, hok.out, hq0.out])
              have h20 := (hbv.cell (World.block_lt_of_cell? wr _ e20)).trans e20
              have h21 := (hbv.cell (World.block_lt_of_cell? wr _ e21)).trans e21
              have h30 := (hbv.cell (World.block_lt_of_cell? wr _ e30)).trans e30
              have h31 := (hbv.cell (World.block_lt_of_cell? wr _ e31)).trans e31
              clear hback2 hbv e20 e21 e30 e31 v61 f61 f51
              go_wp2_with fail
              have hgr2 := Lib.hid (hgr.out wv hBv.out)
              obtain ⟨g, hgg⟩ : ∃ g, g = growsM a b := ⟨_, rfl⟩
              rw [← hgg] at hgr2 hgF
              have hgF2 := hgF.out
              subst hgF2
              have hgs2 := fun W (hW : Below w.heap.size w W) => hgs.out W hW
              rw [growsM_self] at hgs2
              replace hgs2 := Lib.hid hgs2
              replace hgg := Lib.hid hgg
              clear hgF hgs hgr
              with_reducible refine hgr2.out.mono ?_
              clear hgr2
              rintro x w8 ⟨rfl, hb8⟩
              have hB8 := Lib.hid (hBv.out.trans (hb8.mono hBv.out.size))
              have t20 := (hb8.cell (World.block_lt_of_cell? wv _ h20)).trans h20
              have t21 := (hb8.cell (World.block_lt_of_cell? wv _ h21)).trans h21
              have hgs3 := Lib.hid (hgs2.out w8 hB8.out)
              clear hb8 h20 h21 h30 h31 hgs2
              go_wp2_with fail
              with_reducible refine hgs3.out.mono ?_
              clear hgs3
              rintro x w9 ⟨rfl, hb9⟩
              have hB9 := Lib.hid (hB8.out.trans (hb9.mono hB8.out.size))
              clear hb9 t20 t21
              go_wp2_with fail
              go_ret
              exact ⟨rfl, hB9.out⟩
end Go.Proofs.YtpehdoepcpmnbaaDoor
