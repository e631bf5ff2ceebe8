/- The walk over CodeSums. -/
import Derived.Test.YtenkdikdofhnpaaDoorWordsR
import Derived.Test.YtenkdikdofhnpaaDoorAlive3
import Derived.Test.YtenkdikdofhnpaaDoorPolyRef
import Derived.Test.YtenkdikdofhnpaaDoorEnum
namespace Go.Proofs.YtenkdikdofhnpaaDoor
open Go.RowKit

theorem sizeAt_one {w : World} {ea : Nat → Addr} (h : Errs 81 [0] w ea) : SizeAt w (ea 0) := h.var 0 (by decide)

section
variable {w : World} {o : Oper} {a : Act} {K : Act → World → Prop} {Q : Exit → Act → World → Prop}
/-- 'append(s, x)' of one byte in a region that draws. -/
theorem opB_app1 (s x : Operand) (ho : o.op = .call { callee := .builtin .append, args := #[s, x], argTypes := #[22, 22] })
    (base : Nat) (v : Value) (bs : List UInt8) (hs : a.eval s = v) (hown : Hid (OwnB base w v bs))
    (u : UInt8) (g : Nat) (hx : a.eval x = .slice (some ⟨g, 0, none⟩) 1 1) (hg : w.heap[g]? = some (.cells #[.int .u8 (u.toNat : Int)] 5 (0, 0))) (hl : bs.length ≤ 1000000) (hbase : base ≤ w.heap.size)
    (h : ∀ v' w', Hid (OwnB base w' v' (bs ++ [u])) → Hid (Below base w w') → K (a.put o.dst v') w') :
    o.wp Tryd.prog a w K Q := by
  obtain ⟨i0, hi, hz0, hz1, hz2⟩ := info_parts Tryd.infoByteP
  have hat : At w (some ⟨g, 0, none⟩) (cB [u]) := fun i hi => ⟨g, 0, rfl, by
    have : i = 0 := by simp [cB] at hi; omega
    subst this
    rw [cell_of_block hg]; rfl⟩
  refine wp_app s x 22 ho base 5 i0 (.int .u8 0) 1 Tryd.underlying22 hi hz0 hz1 hz2 rfl v bs.length (cB bs) hs (Lib.hid hown.out) (some ⟨g, 0, none⟩) 1 1 (cB [u]) hx (Lib.hid rfl) (Lib.hid hat) (Lib.hid (fun e => by cases e)) (cB_one [u]) (by unfold maxLen; omega) (by omega) hbase ?_
  intro v' w' h1 h2
  refine h v' w' (Lib.hid ?_) (Lib.hid ((Below.refl base w).grown h2.out hbase (fun k hk => (World.ownsRow.lt hown.out k hk).1)))
  unfold OwnB
  rw [cB_append, List.length_append]
  exact h1.out
end

/-- Sums of code words, and a code word times a number, are quiet. -/
theorem sum_right (xs ys : List UInt8) (h1 : 1 ≤ xs.length) (h2 : xs.length ≤ 223) (hl : xs.length = ys.length) : rightB (tab (xs.length + 32) fun i => Gf.add (cf (codeW xs) i) (cf (codeW ys) i)) = true := by
  have hx : tab (xs.length + 32) (cf (codeW xs)) = codeW xs := by rw [← codeW_length]; exact tab_cf _
  have hy : tab (xs.length + 32) (cf (codeW ys)) = codeW ys := by rw [hl, ← codeW_length]; exact tab_cf _
  unfold rightB
  rw [quiet_of (fun j hj => by rw [hv_add, hx, hy, codeW_zero _ _ hj, codeW_zero _ _ hj, Gf.add_zero]), decide_eq_true (by rw [tab_length]; omega)]; rfl
theorem turn_right (xs : List UInt8) (u : UInt8) (h1 : 1 ≤ xs.length) (h2 : xs.length ≤ 223) : rightB (tab (xs.length + 32) fun i => Gf.mul (cf (codeW xs) i) u) = true := by
  have hx : tab (xs.length + 32) (cf (codeW xs)) = codeW xs := by rw [← codeW_length]; exact tab_cf _
  unfold rightB
  rw [quiet_of (fun j hj => by rw [hv_scale, hx, codeW_zero _ _ hj, Gf.mul_zero_left]), decide_eq_true (by rw [tab_length]; omega)]; rfl
/-- The word turned so far. -/
def turnTo (X : List UInt8) (u : UInt8) (m j : Nat) : UInt8 := if j < m then Gf.mul (cf X j) u else 0
theorem turnTo_zero (X : List UInt8) (u : UInt8) : turnTo X u 0 = fun _ => 0 := by
  funext j; unfold turnTo; rw [if_neg (Nat.not_lt_zero j)]
theorem turnTo_full (X : List UInt8) (u : UInt8) (n : Nat) : tab n (turnTo X u n) = tab n fun i => Gf.mul (cf X i) u :=
  tab_congr fun j hj => by unfold turnTo; rw [if_pos hj]
theorem turnTo_next (X : List UInt8) (u : UInt8) (n m : Nat) : (tab n (turnTo X u m)).set m (Gf.mul (cf X m) u) = tab n (turnTo X u (m + 1)) := by
  rw [tab_set]
  refine tab_congr fun j _ => ?_
  unfold turnTo
  by_cases h : j = m
  · subst h; rw [if_pos rfl, if_pos (by omega)]
  · rw [if_neg h]
    by_cases h2 : j < m
    · rw [if_pos h2, if_pos (by omega)]
    · rw [if_neg h2, if_neg (by omega)]
theorem one_mul_at (x u : UInt8) : cf (pmul [x] [u]) 0 = Gf.mul x u := by
  rw [cf_pmul, conv, xsum, xsum, Nat.sub_self, cf_cons_zero, cf_cons_zero, Gf.zero_add]

set_option maxRecDepth 10000 in
set_option maxHeartbeats 8000000 in
theorem csums_walk8 (a : Option Addr) (ca : Nat) (xs : List UInt8) (b : Option Addr) (cb : Nat) (ys : List UInt8) (u : UInt8) (w : World) (ha : ArgB w a ca xs) (hb : ArgB w b cb ys) (ea : Nat → Addr) (hE : Errs 81 [0] w ea) :
    Calls Tryd.prog 5 #[.slice a xs.length ca, .slice b ys.length cb, .int .u8 (u.toNat : Int)] w fun e w' => e = .returned (.bool true) ∧ Below w.heap.size w w' := by
  have hla : xs.length ≤ maxLen := Nat.le_trans ha.len ha.most
  have hlb : ys.length ≤ maxLen := Nat.le_trans hb.len hb.most
  replace ha := Lib.hid ha
  replace hb := Lib.hid hb
  replace hE := Lib.hid hE
  by_cases hl : xs.length = ys.length
  case neg =>
    have hne2 : ((xs.length : Int) != (ys.length : Int)) = true := by rw [bne_iff_ne]; omega
    clear hl
    go_enter Tryd.func5, Tryd.ntmps5
    go_wp2_with fail
    with_reducible refine (alive3_any _).mono ?_
    rintro e w1 ⟨rfl, hb1⟩
    go_wp2_with fail
    go_ret
    exact ⟨rfl, hb1⟩
  rw [← hl]
  have hne2 : ((xs.length : Int) != (xs.length : Int)) = false := by simp
  rcases Nat.lt_or_ge 223 xs.length with h1 | h1
  · clear hl
    go_enter Tryd.func5, Tryd.ntmps5
    go_wp2_with fail
    with_reducible refine (alive3_any _).mono ?_
    rintro e w1 ⟨rfl, hb1⟩
    go_wp2_with fail
    go_ret
    exact ⟨rfl, hb1⟩
  by_cases h0 : xs.length = 0
  · obtain rfl : xs = [] := List.eq_nil_of_length_eq_zero h0
    obtain rfl : ys = [] := List.eq_nil_of_length_eq_zero hl.symm
    have he1 := fun w z hz => encode_size a ca [] w z hz (by simp) (by simp)
    have he2 := fun w z hz => encode_size b cb [] w z hz (by simp) (by simp)
    rw [List.length_nil] at he1 he2 ⊢
    replace he1 := Lib.hid he1
    replace he2 := Lib.hid he2
    clear h0 hl h1 hla hlb hne2
    go_enter Tryd.func5, Tryd.ntmps5
    go_wp2_with fail
    with_reducible refine (alive3_any _).mono ?_
    rintro e w1 ⟨rfl, hb1⟩
    replace hE := Lib.hid (hE.out.below hb1)
    replace hb1 := Lib.hid hb1
    go_wp2_with fail
    with_reducible refine (he1.out _ _ (sizeAt_one hE.out)).mono ?_
    rintro e w2 ⟨rfl, hd⟩
    replace hd := hd.below w1.heap.size
    replace hE := Lib.hid (hE.out.below hd)
    replace hb1 := Lib.hid (hb1.out.trans (hd.mono hb1.out.size))
    clear hd
    go_wp2_with fail
    with_reducible refine (he2.out _ _ (sizeAt_one hE.out)).mono ?_
    rintro e w3 ⟨rfl, hd⟩
    replace hd := hd.below w2.heap.size
    replace hb1 := Lib.hid (hb1.out.trans (hd.mono hb1.out.size))
    clear hd
    go_wp2_with fail
    go_ret
    exact ⟨rfl, hb1.out⟩
  have h0' : 1 ≤ xs.length := by omega
  have he1 := fun w h => encode_any a ca xs w h h0' h1
  have he2 := fun w h => encode_any b cb ys w h (by omega) (by omega)
  rw [← hl] at he2
  have hS := Lib.hid (sum_right xs ys h0' h1 hl)
  have hT := Lib.hid (turn_right xs u h0' h1)
  have hXl := codeW_length xs
  have hYl := codeW_length ys
  rw [← hl] at hYl
  have hri := fun a c l w z h1 h2 => right_any a c l w z h1 h2
  replace hri := Lib.hid hri
  replace he1 := Lib.hid he1
  replace he2 := Lib.hid he2
  obtain ⟨X, hX⟩ : ∃ X, X = codeW xs := ⟨_, rfl⟩
  obtain ⟨Y, hY⟩ : ∃ Y, Y = codeW ys := ⟨_, rfl⟩
  obtain ⟨N, hN⟩ : ∃ N, N = xs.length + 32 := ⟨_, rfl⟩
  rw [← hX] at hS hT he1 hXl
  rw [← hY] at hS he2 hYl
  rw [← hN] at hS hT hXl hYl
  have hN1 : 33 ≤ N := by omega
  have hN2 : N ≤ 255 := by omega
  replace hl := Lib.hid hl
  replace hXl := Lib.hid hXl
  replace hYl := Lib.hid hYl
  clear hX hY hN h0
  obtain ⟨i0, hi, hz0, hz1, hz2⟩ := info_parts Tryd.infoByteP
  go_enter Tryd.func5, Tryd.ntmps5
  go_wp2_with fail
  with_reducible refine (alive3_any _).mono ?_
  rintro e w1 ⟨rfl, hb1⟩
  replace ha := Lib.hid (ha.out.below hb1)
  replace hb := Lib.hid (hb.out.below hb1)
  replace hE := Lib.hid (hE.out.below hb1)
  replace hb1 := Lib.hid hb1
  go_wp2_with fail
  with_reducible refine (he1.out _ ha.out).mono ?_
  rintro e w2 ⟨v, rfl, ho, hd⟩
  obtain ⟨ax, cx, rfl, hXa, _⟩ := ho.arg
  rw [hXl.out]
  replace hb := Lib.hid (hb.out.below hd)
  replace hE := Lib.hid (hE.out.below hd)
  replace hXa := Lib.hid hXa
  replace hb1 := Lib.hid (hb1.out.trans (hd.mono hb1.out.size))
  clear hd ho he1 ha
  go_wp2_with fail
  with_reducible refine (he2.out _ hb.out).mono ?_
  rintro e W4 ⟨v, rfl, ho, hd⟩
  obtain ⟨ay, cy, rfl, hYa, _⟩ := ho.arg
  rw [hYl.out]
  replace hE := Lib.hid (hE.out.below hd)
  replace hXa := Lib.hid (hXa.out.below hd)
  replace hYa := Lib.hid hYa
  replace hb1 := Lib.hid (hb1.out.trans (hd.mono hb1.out.size))
  clear hd ho he2 hb
  have hNN : ((N : Int) != (N : Int)) = false := by simp
  go_wp2_with fail
  have hown0 := Lib.hid (owns_made0 W4 W4.heap.size (Nat.le_refl _))
  have hd0 := Lib.hid ((Below.refl W4.heap.size W4).alloc (Nat.le_refl _) (.cells #[] 5))
  go_loopw [11, 12, 58] (fun v _ j wr => ∃ k : Nat, k ≤ N ∧ j = .int .i64 k ∧ OwnB W4.heap.size wr v (tab k fun i => Gf.add (cf X i) (cf Y i)) ∧ Below W4.heap.size W4 wr)
    (fun _ _ j _ => N - (intOf j).toNat)
  case atStart => exact ⟨0, Nat.zero_le _, rfl, hown0.out, hd0.out⟩
  case round =>
    clear hown0 hd0
    obtain ⟨k, hk, rfl, hown, hbel⟩ := hrel
    have hsz := hbel.size
    by_cases hlt : k < N
    · obtain ⟨xb, xo, rfl, cx0⟩ := hXa.out.row k (by rw [hXl.out]; exact hlt)
      obtain ⟨yb, yo, rfl, cy0⟩ := hYa.out.row k (by rw [hYl.out]; exact hlt)
      rw [show X.getD k 0 = cf X k from rfl] at cx0
      rw [show Y.getD k 0 = cf Y k from rfl] at cy0
      have hst := Lib.hid (tab_succ k fun i => Gf.add (cf X i) (cf Y i))
      have hLl := Lib.hid (tab_length k fun i => Gf.add (cf X i) (cf Y i))
      generalize (tab k fun i => Gf.add (cf X i) (cf Y i)) = L at *
      generalize cf X k = x at *
      generalize cf Y k = y at *
      have cxf : ∀ W, Below W4.heap.size W4 W → W.cell? ⟨xb, xo + k, none⟩ = some (.int .u8 (x.toNat : Int)) := far_cell cx0
      have cyf : ∀ W, Below W4.heap.size W4 W → W.cell? ⟨yb, yo + k, none⟩ = some (.int .u8 (y.toNat : Int)) := far_cell cy0
      have k1 : (k : Int) < (N : Int) := by omega
      have k2 : (0 : Int) ≤ (k : Int) := by omega
      replace hown := Lib.hid hown
      replace hbel := Lib.hid hbel
      clear cx0 cy0
      go_wp2_with fail
      focus
        refine wp_region_held_drew (S := Below W4.heap.size W4) (by kernel_rfl) (hbel.out.trans (Drawn.below ⟨1, rfl⟩ _)) (fun hOn => ?_)
        refine wpAnyH_take (i := 0) (v := ?_) (by simp only [List.getElem?_toArray, List.getElem?_cons_zero]; rfl) (by kernel_rfl) (by kernel_rfl) (by kernel_rfl) (by exact fun _ _ _ h => h) (Or.inl ⟨by rfl, ?_⟩) hOn ?_
        rotate_left
        focus (intro W hSW; go_simp; try with_reducible rfl)
        try simp only [Act.put, List.setIfInBounds_toArray, List.set_cons_zero, List.set_cons_succ]
        refine wpAnyH_take (i := 1) (v := ?_) (by simp only [List.getElem?_toArray, List.getElem?_cons_succ, List.getElem?_cons_zero]; rfl) (by kernel_rfl) (by kernel_rfl) (by kernel_rfl) (by exact fun _ _ _ h => h) (Or.inl ⟨by rfl, ?_⟩) hOn ?_
        rotate_left
        focus (intro W hSW; go_simp; try with_reducible rfl)
        try simp only [Act.put, List.setIfInBounds_toArray, List.set_cons_zero, List.set_cons_succ]
        refine wpAnyH_take (i := 2) (v := ?_) (by simp only [List.getElem?_toArray, List.getElem?_cons_succ, List.getElem?_cons_zero]; rfl) (by kernel_rfl) (by kernel_rfl) (by kernel_rfl) (by exact fun _ _ _ h => h) (Or.inl ⟨by rfl, ?_⟩) hOn ?_
        rotate_left
        focus (intro W hSW; go_simp; try with_reducible rfl)
        try simp only [Act.put, List.setIfInBounds_toArray, List.set_cons_zero, List.set_cons_succ]
        refine wpAnyH_take (i := 3) (v := ?_) (by simp only [List.getElem?_toArray, List.getElem?_cons_succ, List.getElem?_cons_zero]; rfl) (by kernel_rfl) (by kernel_rfl) (by kernel_rfl) (by exact fun _ _ _ h => h) (Or.inl ⟨by rfl, ?_⟩) hOn ?_
        rotate_left
        focus (intro W hSW; go_simp; try with_reducible rfl)
        try simp only [Act.put, List.setIfInBounds_toArray, List.set_cons_zero, List.set_cons_succ]
        refine wpAnyH_take (i := 4) (v := ?_) (by simp only [List.getElem?_toArray, List.getElem?_cons_succ, List.getElem?_cons_zero]; rfl) (by kernel_rfl) (by kernel_rfl) (by kernel_rfl) (by exact fun _ _ _ h => h) (Or.inl ⟨by rfl, ?_⟩) hOn ?_
        rotate_left
        focus (intro W hSW; go_simp; try with_reducible rfl)
        try simp only [Act.put, List.setIfInBounds_toArray, List.set_cons_zero, List.set_cons_succ]
        refine wpAnyH_take (i := 5) (v := ?_) (by simp only [List.getElem?_toArray, List.getElem?_cons_succ, List.getElem?_cons_zero]; rfl) (by kernel_rfl) (by kernel_rfl) (by kernel_rfl) (by exact fun _ _ _ h => h) (Or.inl ⟨by rfl, ?_⟩) hOn ?_
        rotate_left
        focus (intro W hSW; go_simp; try with_reducible rfl)
        try simp only [Act.put, List.setIfInBounds_toArray, List.set_cons_zero, List.set_cons_succ]
        refine wpAnyH_take (i := 6) (v := ?_) (by simp only [List.getElem?_toArray, List.getElem?_cons_succ, List.getElem?_cons_zero]; rfl) (by kernel_rfl) (by kernel_rfl) (by kernel_rfl) (by exact fun _ _ _ h => h) (Or.inl ⟨by rfl, ?_⟩) hOn ?_
        rotate_left
        focus (intro W hSW; go_simp; try with_reducible rfl)
        try simp only [Act.put, List.setIfInBounds_toArray, List.set_cons_zero, List.set_cons_succ]
        refine wpAnyH_take (i := 7) (v := ?_) (by simp only [List.getElem?_toArray, List.getElem?_cons_succ, List.getElem?_cons_zero]; rfl) (by kernel_rfl) (by kernel_rfl) (by kernel_rfl) (by exact fun _ _ _ h => h) (Or.inl ⟨by rfl, ?_⟩) hOn ?_
        rotate_left
        focus (intro W hSW; go_simp; try with_reducible rfl)
        try simp only [Act.put, List.setIfInBounds_toArray, List.set_cons_zero, List.set_cons_succ]
        refine wpAnyH_take (i := 8) (v := ?_) (by simp only [List.getElem?_toArray, List.getElem?_cons_succ, List.getElem?_cons_zero]; rfl) (by kernel_rfl) (by kernel_rfl) (by kernel_rfl) (by exact fun _ _ _ h => h) (Or.inl ⟨by rfl, ?_⟩) hOn ?_
        rotate_left
        focus (intro W hSW; go_simp; try with_reducible rfl)
        try simp only [Act.put, List.setIfInBounds_toArray, List.set_cons_zero, List.set_cons_succ]
        refine wpAnyH_take (i := 9) (v := ?_) (by simp only [List.getElem?_toArray, List.getElem?_cons_succ, List.getElem?_cons_zero]; rfl) (by kernel_rfl) (by kernel_rfl) (by kernel_rfl) (by exact fun _ _ _ h => h) (Or.inl ⟨by rfl, ?_⟩) hOn ?_
        rotate_left
        focus (intro W hSW; go_simp; try with_reducible rfl)
        try simp only [Act.put, List.setIfInBounds_toArray, List.set_cons_zero, List.set_cons_succ]
        refine wpAnyH_ready (rs := [10]) (by kernel_rfl) (by simp) ?_
        refine AllReadyH.cons (by simp only [List.getElem?_toArray, List.getElem?_cons_succ, List.getElem?_cons_zero]; rfl) (fun K hK => ?_) AllReadyH.nil
        go_simp
        try go_wp2_with fail
        have hbox : (wr.drew.alloc (.cells #[.int .u8 (bits BinOp.xor IntKind.u8 (x.toNat : Int) (y.toNat : Int))] 5)).heap[wr.heap.size]? = some (.cells #[.int .u8 ((Gf.add x y).toNat : Int)] 5 (0, 0)) := by rw [← xor_u8]; exact heap_alloc_new wr.drew _
        have hown2 : Hid (OwnB W4.heap.size (wr.drew.alloc (.cells #[.int .u8 (bits BinOp.xor IntKind.u8 (x.toNat : Int) (y.toNat : Int))] 5)) u11 L) := Lib.hid (hown.out.below ((Below.refl wr.heap.size wr).trans ((Drawn.below ⟨1, rfl⟩ _).trans ((Below.refl wr.heap.size wr.drew).alloc (Nat.le_refl _) _))) (Nat.le_refl _))
        refine hK.out _ _ (Below.alloc hOn (by have := hsz; exact this) _) (fun hNext => ?_)
        clear hK K hOn
        have hOn := hNext
        clear hNext
        try simp only [Act.put, List.setIfInBounds_toArray, List.set_cons_zero, List.set_cons_succ]
        refine wpAnyH_ready (rs := [11]) (by kernel_rfl) (by simp) ?_
        refine AllReadyH.cons (by simp only [List.getElem?_toArray, List.getElem?_cons_succ, List.getElem?_cons_zero]; rfl) (fun K hK => ?_) AllReadyH.nil
        rw [if_pos (by rfl)]
        refine opB_app1 (.tmp 61) (.tmp 71) rfl W4.heap.size u11 L rfl hown2 (Gf.add x y) wr.heap.size rfl hbox (by have := hLl.out; omega) hOn.size ?_
        intro v' w3 hown3 hb3
        refine hK.out _ _ (Below.trans hOn hb3.out) (fun hNext => ?_)
        clear hK K hOn
        have hOn := hNext
        clear hNext
        try simp only [Act.put, List.setIfInBounds_toArray, List.set_cons_zero, List.set_cons_succ]
        refine wpAnyH_take (i := 12) (v := ?_) (by simp only [List.getElem?_toArray, List.getElem?_cons_succ, List.getElem?_cons_zero]; rfl) (by kernel_rfl) (by kernel_rfl) (by kernel_rfl) (by exact fun _ _ _ h => h) (Or.inl ⟨by rfl, ?_⟩) hOn ?_
        rotate_left
        focus (intro W hSW; go_simp; try with_reducible rfl)
        try simp only [Act.put, List.setIfInBounds_toArray, List.set_cons_zero, List.set_cons_succ]
        refine wpAnyH_done (by kernel_rfl) ?_ _
        go_wp2_with fail
        go_roundw
        case rel => exact ⟨k + 1, by omega, by go_num, by rw [hst.out]; exact hown3.out, hOn⟩
        case measure => simp [intOf]; omega
    · obtain rfl : k = N := by omega
      obtain ⟨as1, cs1, hv, hSa, _⟩ := hown.arg
      rw [tab_length] at hv
      subst hv
      have hsl := Lib.hid (tab_length k fun i => Gf.add (cf X i) (cf Y i))
      have hXa2 := Lib.hid (hXa.out.below hbel)
      have hE2 := Lib.hid (hE.out.below hbel)
      have hb2 := Lib.hid (hb1.out.trans (hbel.mono hb1.out.size))
      generalize (tab k fun i => Gf.add (cf X i) (cf Y i)) = SL at *
      replace hSa := Lib.hid hSa
      obtain ⟨W5, hW5⟩ : ∃ W, W = wr := ⟨_, rfl⟩
      rw [← hW5] at hXa2 hE2 hb2 hSa ⊢
      clear hown hbel hW5 hXa hYa hE hb1
      go_wp2_with (at_make; go_must (refine wpList_make_full _ rfl _ _ 22 rfl W5.heap.size 5 i0 (.int .u8 0) 1 Tryd.underlying22 hi hz0 hz1 _ _ _ _ k rfl rfl (by omega) (by omega) (by rw [hz2]; omega) (by unfold maxLen; omega) (Nat.le_refl _) ?_))
      intro W6 hown6 hg6
      have hq := Lib.hid (OwnB.made hown6)
      have hd6 := Lib.hid ((Below.refl W5.heap.size W5).grown hg6 (Nat.le_refl _) (fun k hk => by cases hk))
      clear hown6 hg6
      obtain ⟨gb, hgb⟩ : ∃ g, g = W5.heap.size := ⟨_, rfl⟩
      have hgs : W5.heap.size ≤ gb := by omega
      rw [← hgb] at hq ⊢
      clear hgb
      go_wp2_with fail
      go_loopw [14, 15, 16, 79] (fun _ _ _ j wq => ∃ m : Nat, m ≤ k ∧ j = .int .i64 m ∧ OwnB W5.heap.size wq (.slice (some ⟨gb, 0, none⟩) k k) (tab k (turnTo X u m)) ∧ Below W5.heap.size W5 wq)
        (fun _ _ _ j _ => k - (intOf j).toNat)
      case atStart => exact ⟨0, Nat.zero_le _, rfl, by rw [turnTo_zero]; exact hq.out.mono hgs, hd6.out⟩
      case round =>
        clear hq hd6
        obtain ⟨m, hm, rfl, hq, hbq⟩ := hrel
        by_cases hmm : m < k
        · obtain ⟨xb, xo, rfl, cx0⟩ := (hXa2.out.below hbq).row m (by rw [hXl.out]; exact hmm)
          rw [show X.getD m 0 = cf X m from rfl] at cx0
          have hnx := fun W (h : OwnB W5.heap.size W (.slice (some ⟨gb, 0, none⟩) k k) (tab k (turnTo X u m))) => h.set (tab_length _ _).symm m (Gf.mul (cf X m) u)
          rw [turnTo_next] at hnx
          replace hnx := Lib.hid hnx
          generalize cf X m = x at *
          have h1a := argB_lit (wr.alloc (.cells #[.int .u8 (x.toNat : Int)] 5)) 5 [u] #[.int .u8 (u.toNat : Int)] rfl (by simp)
          have h1b := (argB_lit wr 5 [x] #[.int .u8 (x.toNat : Int)] rfl (by simp)).below ((Below.refl _ _).alloc (Nat.le_refl _) (.cells #[.int .u8 (u.toNat : Int)] 5))
          have hmu := rmul_any _ _ [x] _ _ [u] _ h1b h1a (by simp) (by simp)
          have hbq2 : Below W5.heap.size W5 ((wr.alloc (.cells #[.int .u8 (x.toNat : Int)] 5)).alloc (.cells #[.int .u8 (u.toNat : Int)] 5)) := (hbq.alloc hbq.size _).alloc (by have := hbq.size; simp; omega) _
          have hq2 : OwnB W5.heap.size ((wr.alloc (.cells #[.int .u8 (x.toNat : Int)] 5)).alloc (.cells #[.int .u8 (u.toNat : Int)] 5)) (.slice (some ⟨gb, 0, none⟩) k k) (tab k (turnTo X u m)) := World.ownsRow.alloc (World.ownsRow.alloc hq _) _
          simp only [List.length_cons, List.length_nil, Nat.zero_add, World.size_alloc] at hmu
          replace hmu := Lib.hid hmu
          replace hbq2 := Lib.hid hbq2
          replace hq2 := Lib.hid hq2
          clear h1a h1b hq hbq
          go_wp2_with fail
          with_reducible refine hmu.out.mono ?_
          rintro e W7 ⟨v, rfl, ho, hd7⟩
          obtain ⟨ap, cp, rfl, hP, _⟩ := ho.arg
          have hq7 := hq2.out.below hd7 (by simp)
          have hbq7 := Lib.hid (hbq2.out.trans (hd7.mono (by have := hbq2.out.size; simpa using this)))
          have c1 := hq7.cell (tab_length _ _).symm (j := m) (by omega)
          have f1 := hq7.free (tab_length _ _).symm m
          have hnx7 := Lib.hid (hnx.out _ hq7)
          have hat := at_int ap cp (pmul [x] [u]) 0 0 rfl W7 hP.row
          rw [one_mul_at] at hat
          replace hat := Lib.hid hat
          generalize cf (tab k (turnTo X u m)) m = y at *
          have k1 : (m : Int) < (k : Int) := by omega
          have k2 : (0 : Int) ≤ (m : Int) := by omega
          clear ho hd7 hq7 hmu hP hq2
          go_wp2_with fail
          with_reducible refine hat.out.mono ?_
          rintro e W8 ⟨rfl, rfl⟩
          go_wp2_with fail
          go_roundw
          case rel => exact ⟨m + 1, by omega, by go_num, hnx7.out, hbq7.out.setCell (p := ⟨gb, m, none⟩) hgs _⟩
          case measure => simp [intOf]; omega
        · obtain rfl : m = k := by omega
          rw [turnTo_full] at hq
          obtain ⟨at1, ct1, hv, hTa, _⟩ := hq.arg
          rw [tab_length] at hv
          obtain ⟨rfl, rfl⟩ : some ⟨gb, 0, none⟩ = at1 ∧ m = ct1 := by simpa using hv
          have hr1 := hri.out as1 cs1 SL wr (ea 0) (sizeAt_one (hE2.out.below hbq)) (hSa.out.below hbq) (by rw [hsl.out]; omega)
          rw [hS.out, hsl.out] at hr1
          have hr2 := fun W (hW : Below wr.heap.size wr W) => hri.out _ _ _ W (ea 0) (sizeAt_one ((hE2.out.below hbq).below hW)) (hTa.below hW) (by rw [tab_length]; omega)
          rw [hT.out, tab_length] at hr2
          replace hr1 := Lib.hid hr1
          replace hr2 := Lib.hid hr2
          have hb3 := Lib.hid (hb2.out.trans (hbq.mono hb2.out.size))
          clear hv hq hTa hbq
          go_wp2_with fail
          with_reducible refine hr1.out.mono ?_
          rintro e W8 ⟨rfl, hd⟩
          have hb4 := Lib.hid (hb3.out.trans (hd.mono hb3.out.size))
          have hr3 := Lib.hid (hr2.out _ hd)
          clear hr1 hr2 hd
          go_wp2_with fail
          with_reducible refine hr3.out.mono ?_
          rintro e W9 ⟨rfl, hd⟩
          replace hb4 := Lib.hid (hb4.out.trans (hd.mono hb4.out.size))
          go_wp2_with fail
          go_ret
          exact ⟨rfl, hb4.out⟩

theorem csums_walk (a : Option Addr) (ca : Nat) (xs : List UInt8) (b : Option Addr) (cb : Nat) (ys : List UInt8) (x : Int) (w : World) (ha : ArgB w a ca xs) (hb : ArgB w b cb ys) (hx : (Lit.int .u8 x).wf = true) (ea : Nat → Addr) (hE : Errs 81 [0] w ea) :
    Calls Tryd.prog 5 #[.slice a xs.length ca, .slice b ys.length cb, .int .u8 x] w fun e w' => e = .returned (.bool true) ∧ Below w.heap.size w w' := by
  have := csums_walk8 a ca xs b cb ys (UInt8.ofNat x.toNat) w ha hb ea hE
  rw [u8_of_wf hx] at this
  exact this

end Go.Proofs.YtenkdikdofhnpaaDoor
