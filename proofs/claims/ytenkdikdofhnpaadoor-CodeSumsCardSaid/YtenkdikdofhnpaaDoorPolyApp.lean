/- Lists of bytes that a call makes: append, literals; the walks over At, Trim of the reference. -/
import Derived.Test.YtenkdikdofhnpaaDoorPoly2
namespace Go.Proofs.YtenkdikdofhnpaaDoor
open Go.RowKit

section
variable {w : World} {ops : Array Oper} {rest : List Oper} {o : Oper} {a : Act} {Q : Exit → Act → World → Prop}
/-- 'append(s, x)' of one byte. -/
theorem wpB_app1 (hgd : o.guard = none) (s x : Operand) (ho : o.op = .call { callee := .builtin .append, args := #[s, x], argTypes := #[22, 22] })
    (base : Nat) (v : Value) (bs : List UInt8) (hs : a.eval s = v) (hown : Hid (OwnB base w v bs))
    (u : UInt8) (hx : a.eval x = .slice (some ⟨w.heap.size, 0, none⟩) 1 1) (hl : bs.length ≤ 1000000) (hbase : base ≤ w.heap.size)
    (h : ∀ v' w', Hid (OwnB base w' v' (bs ++ [u])) → Hid (Below base w w') → wpList Tryd.prog ops Q rest (a.put o.dst v') w') :
    wpList Tryd.prog ops Q (o :: rest) a (w.alloc (.cells #[.int .u8 (u.toNat : Int)] 5)) := by
  obtain ⟨i0, hi, hz0, hz1, hz2⟩ := info_parts Tryd.infoByteP
  refine wpList_append1 hgd s x 22 ho base 5 i0 (.int .u8 0) 1 Tryd.underlying22 hi hz0 hz1 hz2 rfl v bs.length (cB bs) hs (Lib.hid hown.out) (.int .u8 (u.toNat : Int)) hx rfl (by unfold maxLen; omega) (by omega) hbase ?_
  intro v' w' h1 h2 _
  refine h v' w' (Lib.hid ?_) (Lib.hid ((Below.refl base w).grown h2.out hbase (fun k hk => (World.ownsRow.lt hown.out k hk).1)))
  unfold OwnB
  rw [cB_append, List.length_append]
  exact h1.out
/-- 'append(s, x...)' of bytes. -/
theorem wpB_app (hgd : o.guard = none) (s x : Operand) (ho : o.op = .call { callee := .builtin .append, args := #[s, x], argTypes := #[22, 22] })
    (base : Nat) (v : Value) (bs : List UInt8) (hs : a.eval s = v) (hown : Hid (OwnB base w v bs))
    (ao : Option Addr) (c : Nat) (ys : List UInt8) (m : Nat) (hx : a.eval x = .slice ao m c) (hm : Hid (ys.length = m)) (hy : Hid (ArgB w ao c ys)) (hl : bs.length ≤ 1000000) (hl2 : m ≤ 1000000) (hbase : base ≤ w.heap.size)
    (h : ∀ v' w', Hid (OwnB base w' v' (bs ++ ys)) → Hid (Below base w w') → wpList Tryd.prog ops Q rest (a.put o.dst v') w') :
    wpList Tryd.prog ops Q (o :: rest) a w := by
  obtain ⟨i0, hi, hz0, hz1, hz2⟩ := info_parts Tryd.infoByteP
  refine wpList_app hgd s x 22 ho base 5 i0 (.int .u8 0) 1 Tryd.underlying22 hi hz0 hz1 hz2 rfl v bs.length (cB bs) hs (Lib.hid hown.out) ao m c (cB ys) hx (Lib.hid (by rw [cB_length]; exact hm.out)) (Lib.hid (At.ofB hy.out.row)) (Lib.hid hy.out.nil) (cB_one ys) (by unfold maxLen; omega) (by omega) hbase ?_
  intro v' w' h1 h2
  refine h v' w' (Lib.hid ?_) (Lib.hid ((Below.refl base w).grown h2.out hbase (fun k hk => (World.ownsRow.lt hown.out k hk).1)))
  unfold OwnB
  rw [cB_append, List.length_append, hm.out]
  exact h1.out
end

/-- A literal. -/
theorem argB_lit (w : World) (t : TypeId) (bs : List UInt8) (cs : Array Value) (h : cs = (cB bs).toArray) (hl : bs.length ≤ 1000000) : ArgB (w.alloc (.cells cs t)) (some ⟨w.heap.size, 0, none⟩) bs.length bs := by
  subst h
  refine ⟨Nat.le_refl _, (by unfold maxLen; omega), (fun e => by cases e), fun i hi => ⟨_, _, rfl, ?_⟩⟩
  rw [cell_of_block (heap_alloc_new w _)]
  simp [cB, hi]
theorem own_lit (w : World) (bs : List UInt8) (cs : Array Value) (h : cs = (cB bs).toArray) (hl : bs.length ≤ 1000000) : OwnB w.heap.size (w.alloc (.cells cs 5)) (.slice (some ⟨w.heap.size, 0, none⟩) bs.length bs.length) bs := by
  subst h
  have := World.ownsRow_lit (base := w.heap.size) (e := 5) (size := 1) w (cB bs).toArray bs.length (Nat.le_refl _) (by unfold maxLen; omega) (by simp [cB_length])
  unfold OwnB
  simpa using this
theorem OwnB.below {base B : Nat} {w w' : World} {v : Value} {bs : List UInt8} (h : OwnB base w v bs) (hb : Below B w w') (hB : w.heap.size ≤ B) : OwnB base w' v bs := by
  refine ⟨h.1, ?_⟩
  rcases h.2 with h2 | ⟨g, cap, cur, e1, e2, e3, e4⟩
  · exact .inl h2
  · exact .inr ⟨g, cap, cur, e1, e2, (hb.block g (by have := block_lt e3; omega)).trans e3, e4⟩

set_option maxHeartbeats 400000 in
theorem at_any (a : Option Addr) (cap : Nat) (bs : List UInt8) (i : Nat) (w : World) (h : RowB w a bs) :
    Calls Tryd.prog 20 #[.slice a bs.length cap, .int .i64 (i : Int)] w fun e w' => e = .returned (.int .u8 ((cf bs i).toNat : Int)) ∧ w = w' := by
  by_cases hi : i < bs.length
  · obtain ⟨b, off, rfl, hc⟩ := h i hi
    have hd : bs.getD i 0 = cf bs i := rfl
    rw [hd] at hc
    clear hd h
    generalize cf bs i = x at *
    go_enter Tryd.func20, Tryd.ntmps20
    go_wp2_with fail
    go_ret
    exact ⟨rfl, rfl⟩
  · rw [cf_ge (Nat.le_of_not_lt hi)]
    go_enter Tryd.func20, Tryd.ntmps20
    go_wp2_with fail
    go_ret
    exact ⟨rfl, rfl⟩
theorem at_int (a : Option Addr) (cap : Nat) (bs : List UInt8) (z : Int) (i : Nat) (hz : z = i) (w : World) (h : RowB w a bs) :
    Calls Tryd.prog 20 #[.slice a bs.length cap, .int .i64 z] w fun e w' => e = .returned (.int .u8 ((cf bs i).toNat : Int)) ∧ w = w' := by
  subst hz
  exact at_any a cap bs i w h

theorem ne_bool (x : UInt8) : ((x.toNat : Int) == 0) = decide (x = 0) := by
  by_cases h : x = 0
  · subst h; rfl
  · rw [decide_eq_false h, beq_eq_false_iff_ne]
    intro h'
    exact h (UInt8.toNat_inj.1 (by rw [show (0 : UInt8).toNat = 0 from rfl]; omega))

set_option maxHeartbeats 1000000 in
theorem rtrim_any (a : Option Addr) (cap : Nat) (bs : List UInt8) (w : World) (h : ArgB w a cap bs) (hr : bs.length ≤ 1000000) :
    Calls Tryd.prog 18 #[.slice a bs.length cap] w fun e w' => ∃ v, e = .returned v ∧ OwnB w.heap.size w' v (trim bs) ∧ Below w.heap.size w w' := by
  have hcap := h.len
  have hmax := h.most
  have h := Lib.hid h
  go_enter Tryd.func18, Tryd.ntmps18
  go_wp2_with fail
  go_loop [3] (fun j => ∃ n : Nat, n ≤ bs.length ∧ j = .int .i64 n ∧ ∀ i, n ≤ i → cf bs i = 0) (fun j => (intOf j).toNat)
  case atStart => exact ⟨bs.length, Nat.le_refl _, rfl, fun i hi => cf_ge hi⟩
  case round =>
    obtain ⟨n, hn, rfl, hz⟩ := hrel
    by_cases h0 : n = 0 ∨ cf bs (n - 1) ≠ 0
    · have ht := tlen_eq hz h0
      have hown0 := Lib.hid (owns_made0 w w.heap.size (Nat.le_refl _))
      have hb0 := Lib.hid ((Below.refl w.heap.size w).alloc (Nat.le_refl _) (.cells #[] 5))
      have htr := trim_length bs
      rw [ht] at htr
      have hsrc : ArgB (w.alloc (.cells #[] 5)) a cap (trim bs) := by
        refine ⟨by rw [htr]; omega, hmax, h.out.nil, ?_⟩
        have := (At.ofB (h.out.below hb0.out).row).take n
        apply At.toB
        rw [show cB (trim bs) = (cB bs).take n from by simp [cB, trim, ht]]
        exact this
      replace hsrc := Lib.hid hsrc
      replace htr := Lib.hid htr
      have hstop : n = 0 ∨ (0 < n ∧ ∃ b off y, a = some ⟨b, off, none⟩ ∧ w.cell? ⟨b, off + (n - 1), none⟩ = some (.int .u8 y) ∧ (y == 0) = false) := by
        rcases h0 with h0 | h0
        · exact .inl h0
        · by_cases hn0 : n = 0
          · exact .inl hn0
          · obtain ⟨b, off, rfl, hc⟩ := h.out.row (n - 1) (by omega)
            exact .inr ⟨by omega, b, off, _, rfl, hc, by rw [show bs.getD (n - 1) 0 = cf bs (n - 1) from rfl, ne_bool, decide_eq_false h0]⟩
      replace hz := Lib.hid hz
      replace ht := Lib.hid ht
      clear h0
      rcases hstop with rfl | ⟨hpos, b, off, y, rfl, hc, hy⟩
      · go_wp2_with (at_builtin; go_must (refine wpB_app rfl (.tmp 18) (.tmp 21) rfl w.heap.size _ [] rfl hown0 _ cap (trim bs) 0 rfl htr hsrc (by simp) (by omega) (by simp) ?_))
        intro v' w' ho hb
        have hb2 := Lib.hid (hb0.out.trans hb.out)
        go_wp2_with fail
        go_ret
        exact ⟨_, rfl, ho.out, hb2.out⟩
      · obtain ⟨m, rfl⟩ : ∃ m, n = m + 1 := ⟨n - 1, by omega⟩
        rw [Nat.add_sub_cancel] at hc
        go_wp2_with (at_builtin; go_must (refine wpB_app rfl (.tmp 18) (.tmp 21) rfl w.heap.size _ [] rfl hown0 _ cap (trim bs) (m + 1) rfl htr hsrc (by simp) (by omega) (by simp) ?_))
        intro v' w' ho hb
        have hb2 := Lib.hid (hb0.out.trans hb.out)
        go_wp2_with fail
        go_ret
        exact ⟨_, rfl, ho.out, hb2.out⟩
    · have hn0 : n ≠ 0 := fun e => h0 (.inl e)
      have hc0 : cf bs (n - 1) = 0 := Classical.byContradiction fun e => h0 (.inr e)
      obtain ⟨m, rfl⟩ : ∃ m, n = m + 1 := ⟨n - 1, by omega⟩
      rw [Nat.add_sub_cancel] at hc0
      obtain ⟨b, off, rfl, hc⟩ := h.out.row m (by omega)
      rw [show bs.getD m 0 = cf bs m from rfl, hc0] at hc
      have hz' : ∀ i, m ≤ i → cf bs i = 0 := fun i hi => by
        by_cases e : i = m
        · rw [e, hc0]
        · exact hz i (by omega)
      replace hz := Lib.hid hz
      replace hz' := Lib.hid hz'
      clear h0 hc0
      go_wp2_with fail
      exact ⟨⟨m, by omega, by go_num, hz'.out⟩, by simp [intOf]⟩

end Go.Proofs.YtenkdikdofhnpaaDoor
