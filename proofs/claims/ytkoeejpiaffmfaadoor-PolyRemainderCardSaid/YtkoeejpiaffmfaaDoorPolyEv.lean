/- Walks over poly.Eval. -/
import Derived.Test.YtkoeejpiaffmfaaDoorPoly2
namespace Go.Proofs.YtkoeejpiaffmfaaDoor
open Go.RowKit Go.Shelf

def evalPre (x : UInt8) (pre : List (Nat × UInt8)) : UInt8 := pre.foldl (fun out p => Gf.add (Gf.mul out x) p.2) 0
theorem evalPre_snoc (x : UInt8) (pre : List (Nat × UInt8)) (p : Nat × UInt8) : evalPre x (pre ++ [p]) = Gf.add (Gf.mul (evalPre x pre) x) p.2 := by simp [evalPre]
theorem evalPre_all (bs : List UInt8) (x : UInt8) : evalPre x (upto (backAt bs) bs.length) = peval bs x := by
  have h : (upto (backAt bs) bs.length).map Prod.snd = bs.reverse := by
    apply List.ext_getElem (by simp [upto])
    intro i h1 h2
    have hi : i < bs.length := by simpa using h2
    simp [upto, backAt]
    rw [List.getElem?_eq_getElem (by omega)]
    rfl
  have h2 : ∀ (l : List (Nat × UInt8)) (o : UInt8), l.foldl (fun out p => Gf.add (Gf.mul out x) p.2) o = (l.map Prod.snd).foldl (fun out c => Gf.add (Gf.mul out x) c) o := by
    intro l
    induction l with
    | nil => intro o; rfl
    | cons p l ih => intro o; simp only [List.foldl_cons, List.map_cons]; rw [ih]
  unfold evalPre
  rw [h2, h, List.foldl_reverse]
  rfl

theorem own_block {W W' : World} {row : Option Nat} {b : Nat} {o : Obj} (h : W.heap[b]? = some o) (ho : o.isCells = true) (hg : W.grownBy W' row) (hr : ∀ r, row = some r → ∃ o : Obj, W.heap[r]? = some o ∧ o.isCells = false) : W'.heap[b]? = some o :=
  (hg.block b (block_lt h) (fun e => by obtain ⟨o', h', h2⟩ := hr b e.symm; rw [h] at h'; cases h'; rw [ho] at h2; cases h2)).trans h
theorem TabAt.kept {W W' : World} {row : Option Nat} {b : Nat} (h : TabAt W b) (hg : W.grownBy W' row) (hr : ∀ r, row = some r → ∃ o : Obj, W.heap[r]? = some o ∧ o.isCells = false) : TabAt W' b := by
  obtain ⟨cs, h1, h2⟩ := h
  exact ⟨cs, own_block h1 rfl hg hr, h2⟩
theorem Boxed.keptIn {W W' : World} {row : Option Nat} {b : Nat} {t : TypeId} {v : Value} (h : Boxed W b t v) (hg : W.grownBy W' row) (hr : ∀ r, row = some r → ∃ o : Obj, W.heap[r]? = some o ∧ o.isCells = false) : Boxed W' b t v := own_block h rfl hg hr
theorem KeepsOthers.drewN (W : World) (n : Nat) : KeepsOthers W (W.drewN n) := ⟨Nat.le_refl _, fun _ _ h _ => h⟩

section
attribute [local go_sem] Oper.semAt_some
set_option maxRecDepth 100000 in
set_option maxHeartbeats 2000000 in
theorem eval_any (a : Option Addr) (cap : Nat) (bs : List UInt8) (x : UInt8) (w : World) (h : RowB w a bs) (hr : bs.length ≤ 1000000) :
    Calls Tryd.prog 7 #[.slice a bs.length cap, .int .u8 (x.toNat : Int)] w fun e W' => e = .returned (.int .u8 ((peval bs x).toNat : Int)) ∧ Below w.heap.size w W' := by
  refine (callsIn_wide (n := 3)).1 ?_
  refine callsIn_of_wp_marks Tryd.func7 rfl trivial ?_ rfl
  simp only [Tryd.ntmps7, List.size_toArray, List.length_cons, List.length_nil, Nat.reduceAdd, Nat.reduceSub, Array.replicate_succ, Array.replicate_zero, List.push_toArray, List.append_toArray, List.nil_append, List.cons_append]
  gi_wp2_with fail
  refine ⟨trivial, (callsIn_wide.2 (make_any _)).mono ?_⟩
  rintro e w1 ⟨rfl, hb1, ht1⟩
  have hz1 := hb1.size
  have hB1 : Below w.heap.size w w1 := ((Below.refl _ w).alloc (Nat.le_refl _) _).trans (hb1.mono (by simp))
  have b0 : Boxed w1 w.heap.size 5 (.int .u8 (x.toNat : Int)) := (hb1.block w.heap.size (by simp)).trans (Boxed.new w 5 (.int .u8 (x.toNat : Int)))
  rw [World.size_alloc] at ht1 hz1
  clear hb1
  gi_wp2_with (refine ⟨trivial, ?_⟩; gi_at_call 20; refine (back_in Fence.wide _ trivial rfl _ _ _ _).mono ?_; rintro e w' ⟨rfl, rfl⟩)
  obtain ⟨n1, hn1⟩ : ∃ n, n = w1.heap.size := ⟨_, rfl⟩
  have b1 := Boxed.new w1 35 (.pointer (some ⟨w.heap.size + 1, 0, none⟩))
  have b2 := Boxed.new (w1.alloc (.cells #[.pointer (some ⟨w.heap.size + 1, 0, none⟩)] 35)) 5 (.int .u8 0)
  have b3 := Boxed.new ((w1.alloc (.cells #[.pointer (some ⟨w.heap.size + 1, 0, none⟩)] 35)).alloc (.cells #[.int .u8 0] 5)) 22 (.slice a bs.length cap)
  replace b1 := (b1.alloc (.cells #[.int .u8 0] 5)).alloc (.cells #[.slice a bs.length cap] 22)
  replace b2 := b2.alloc (.cells #[.slice a bs.length cap] 22)
  replace b0 := ((b0.alloc (.cells #[.pointer (some ⟨w.heap.size + 1, 0, none⟩)] 35)).alloc (.cells #[.int .u8 0] 5)).alloc (.cells #[.slice a bs.length cap] 22)
  have hBa : Below w1.heap.size w1 (((w1.alloc (.cells #[.pointer (some ⟨w.heap.size + 1, 0, none⟩)] 35)).alloc (.cells #[.int .u8 0] 5)).alloc (.cells #[.slice a bs.length cap] 22)) :=
    (((Below.refl _ w1).alloc (Nat.le_refl _) _).alloc (by simp) _).alloc (by simp; omega) _
  have hB0 := hB1.trans (hBa.mono hB1.size)
  have ht0 := ht1.below hBa ht1.lt
  have htl := ht1.lt
  have hsz : (((w1.alloc (.cells #[.pointer (some ⟨w.heap.size + 1, 0, none⟩)] 35)).alloc (.cells #[.int .u8 0] 5)).alloc (.cells #[.slice a bs.length cap] 22)).heap.size = n1 + 1 + 1 + 1 := by simp [hn1]
  simp only [World.size_alloc] at b2 b3
  rw [← hn1] at hz1 htl b1 b2 b3 ⊢
  generalize (((w1.alloc (.cells #[.pointer (some ⟨w.heap.size + 1, 0, none⟩)] 35)).alloc (.cells #[.int .u8 0] 5)).alloc (.cells #[.slice a bs.length cap] 22)) = W0 at *
  clear hBa hB1 ht1 hn1
  refine wpIn_rangeFunc_ownG (n := 3) rfl (by decide) (gf := 28) (lb := #[.pointer (some ⟨n1 + 1 + 1, 0, none⟩)]) rfl trivial (enters_of Tryd.func28 (by kernel_rfl) rfl)
    (back_stops Fence.wide (3 - 1) trivial rfl (by decide) (n1 + 1 + 1) w.heap.size a cap bs hr W0 (by omega) b3 ((RowB.rowN h).below hB0)) keepB_t (keepB_b (by omega) (by omega)) (Below.refl _ _) (fun _ => rfl)
    (fun pre W => (Boxed W w.heap.size 5 (.int .u8 (x.toNat : Int)) ∧ Boxed W n1 35 (.pointer (some ⟨w.heap.size + 1, 0, none⟩)) ∧ Boxed W (n1 + 1) 5 (.int .u8 ((evalPre x pre).toNat : Int)) ∧ TabAt W (w.heap.size + 1) ∧ Boxed W (n1 + 1 + 1) 22 (.slice a bs.length cap)) ∧ Below w.heap.size w W)
    (fun _ _ _ => False)
    (OwnFrom.and (Own.from (fun s A B row hs hg hr => ⟨Boxed.keptIn hs.1 hg hr, Boxed.keptIn hs.2.1 hg hr, Boxed.keptIn hs.2.2.1 hg hr, hs.2.2.2.1.kept hg hr, Boxed.keptIn hs.2.2.2.2 hg hr⟩) _) (ownFrom_below (Nat.le_refl _) (by omega)))
    (fun _ _ _ _ _ hs _ _ => hs)
    ⟨⟨b0, b1, b2, ht0, b3⟩, hB0⟩
    (fun p => { tmps := #[.slice a bs.length cap, .int .u8 (x.toNat : Int), undef, .pointer (some ⟨w.heap.size, 0, none⟩), .int .u8 0, .pointer (some ⟨n1, 0, none⟩), .pointer (some ⟨n1 + 1, 0, none⟩), undef, .int .u8 (p.2.toNat : Int), .pointer (some ⟨w.heap.size + 1, 0, none⟩), .slice a bs.length cap, .func (.func 28) #[] #[.pointer (some ⟨n1 + 1 + 1, 0, none⟩)], .int .i64 (p.1 : Int), .int .u8 (p.2.toNat : Int), undef, undef, undef, undef, undef, undef, undef], defers := [] }) ?assign ?body ?done ?stop
  case assign =>
    intro l p W K hK
    gi_wp2
    exact hK
  case body =>
    rintro l pre p W ⟨⟨h0, h1, h2, ht, h3⟩, hB⟩ _
    have c0 := h0.cell
    have c1 := h1.cell
    have c2 := h2.cell
    have f2 := h2.frozen
    have he := Lib.hid (evalPre_snoc x pre p)
    generalize hev : evalPre x pre = ev at *
    obtain ⟨pi, pc⟩ := p
    dsimp only at he ⊢
    gi_wp2_with fail
    refine ⟨trivial, (CallsIn.inRound l (callsIn_wide.2 (tmul_any ev x _ _ ht))).mono ?_⟩
    rintro e w2 ⟨rfl, n, rfl⟩
    gi_wp2_with fail
    rw [xor_u8, ← he.out]
    have hgr := grownBy_setCell' (W.drewN n) (n1 + 1) (.int .u8 ((evalPre x (pre ++ [(pi, pc)])).toNat : Int))
    have hbs : Below w.heap.size W ((W.drewN n).setCell ⟨n1 + 1, 0, none⟩ (.int .u8 ((evalPre x (pre ++ [(pi, pc)])).toNat : Int))) := (below_drewN (Below.refl _ _) n).setCell (p := ⟨n1 + 1, 0, none⟩) (by show w.heap.size ≤ n1 + 1; omega) _
    have h0' : Boxed (W.drewN n) w.heap.size 5 (.int .u8 (x.toNat : Int)) := h0
    have h1' : Boxed (W.drewN n) n1 35 (.pointer (some ⟨w.heap.size + 1, 0, none⟩)) := h1
    have h2' : Boxed (W.drewN n) (n1 + 1) 5 (.int .u8 (ev.toNat : Int)) := h2
    have h3' : Boxed (W.drewN n) (n1 + 1 + 1) 22 (.slice a bs.length cap) := h3
    refine ⟨((KeepsOthers.drewN W n).trans (KeepsOthers.setCell _ _ _)).from _, ⟨hbs, hgr.block _ ?_ (by simp)⟩, ⟨h0'.kept hgr (by simp; omega), h1'.kept hgr (by simp), h2'.set _, ?_, h3'.kept hgr (by simp)⟩, hB.trans hbs⟩
    · exact block_lt (w := W.drewN n) h3
    · obtain ⟨cs, e1, e2⟩ := ht
      exact ⟨cs, (hgr.block _ (block_lt (w := W.drewN n) e1) (by simp; omega)).trans e1, e2⟩
  case done =>
    rintro D ys W hD rfl ⟨⟨h0, h1, h2, ht, h3⟩, hB⟩ hK
    have c2 := h2.cell
    rw [evalPre_all] at c2
    gi_wp2
    refine ⟨by simp, .inl ⟨_, _, rfl, run_takeDeferred hK, ?_⟩⟩
    exact ⟨_, results_tmp rfl _ _ _, rfl, hB.trans (belowK_b (w := w) (Nat.le_refl _) W D _ _ (by omega) hK rfl rfl)⟩
  case stop =>
    rintro D c pre W _ _ h _
    exact h.elim
end

end Go.Proofs.YtkoeejpiaffmfaaDoor
