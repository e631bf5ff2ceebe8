/- Lists of bytes that a call makes: append, literals; the walks over At, Trim of the reference. -/
import Derived.Test.YtenkdikdofhnpaaPoly2
namespace Go.Proofs.Ytenkdikdofhnpaa
open Go.RowKit

section
variable {w : World} {ops : Array Oper} {rest : List Oper} {o : Oper} {a : Act} {Q : Exit → Act → World → Prop}
/-- 'append(s, x)' of one byte. -/
theorem wpB_app1 (hgd : o.guard = none) (s x : Operand) (ho : o.op = .call { callee := .builtin .append, args := #[s, x], argTypes := #[25, 25] })
    (base : Nat) (v : Value) (bs : List UInt8) (hs : a.eval s = v) (hown : Hid (OwnB base w v bs))
    (u : UInt8) (hx : a.eval x = .slice (some ⟨w.heap.size, 0, none⟩) 1 1) (hl : bs.length ≤ 1000000) (hbase : base ≤ w.heap.size)
    (h : ∀ v' w', Hid (OwnB base w' v' (bs ++ [u])) → Hid (Below base w w') → wpList Try.prog ops Q rest (a.put o.dst v') w') :
    wpList Try.prog ops Q (o :: rest) a (w.alloc (.cells #[.int .u8 (u.toNat : Int)] 5)) := by
  obtain ⟨i0, hi, hz0, hz1, hz2⟩ := info_parts Try.infoByteP
  refine wpList_append1 hgd s x 25 ho base 5 i0 (.int .u8 0) 1 Try.underlying25 hi hz0 hz1 hz2 rfl v bs.length (cB bs) hs (Lib.hid hown.out) (.int .u8 (u.toNat : Int)) hx rfl (by unfold maxLen; omega) (by omega) hbase ?_
  intro v' w' h1 h2 _
  refine h v' w' (Lib.hid ?_) (Lib.hid ((Below.refl base w).grown h2.out hbase (fun k hk => (World.ownsRow.lt hown.out k hk).1)))
  unfold OwnB
  rw [cB_append, List.length_append]
  exact h1.out
/-- 'append(s, x...)' of bytes. -/
theorem wpB_app (hgd : o.guard = none) (s x : Operand) (ho : o.op = .call { callee := .builtin .append, args := #[s, x], argTypes := #[25, 25] })
    (base : Nat) (v : Value) (bs : List UInt8) (hs : a.eval s = v) (hown : Hid (OwnB base w v bs))
    (ao : Option Addr) (c : Nat) (ys : List UInt8) (m : Nat) (hx : a.eval x = .slice ao m c) (hm : Hid (ys.length = m)) (hy : Hid (ArgB w ao c ys)) (hl : bs.length ≤ 1000000) (hl2 : m ≤ 1000000) (hbase : base ≤ w.heap.size)
    (h : ∀ v' w', Hid (OwnB base w' v' (bs ++ ys)) → Hid (Below base w w') → wpList Try.prog ops Q rest (a.put o.dst v') w') :
    wpList Try.prog ops Q (o :: rest) a w := by
  obtain ⟨i0, hi, hz0, hz1, hz2⟩ := info_parts Try.infoByteP
  refine wpList_app hgd s x 25 ho base 5 i0 (.int .u8 0) 1 Try.underlying25 hi hz0 hz1 hz2 rfl v bs.length (cB bs) hs (Lib.hid hown.out) ao m c (cB ys) hx (Lib.hid (by rw [cB_length]; exact hm.out)) (Lib.hid (At.ofB hy.out.row)) (Lib.hid hy.out.nil) (cB_one ys) (by unfold maxLen; omega) (by omega) hbase ?_
  intro v' w' h1 h2
  refine h v' w' (Lib.hid ?_) (Lib.hid ((Below.refl base w).grown h2.out hbase (fun k hk => (World.ownsRow.lt hown.out k hk).1)))
  unfold OwnB
  rw [cB_append, List.length_append, hm.out]
  exact h1.out
end

/-- A literal. -/
theorem argB_lit (w : World) (t : TypeId) (bs : List UInt8) (cs : Array Value) (h : cs = (cB bs).toArray) (hl : bs.length ≤ 1000000) : ArgB (w.alloc (.cells cs t)) (some ⟨w.heap.size, 0, none⟩) bs.length bs := by
  subst h
  refine ⟨Nat.le_refl _, (by unfold maxLen; omega), (fun e => by cases e), fun i hi => ⟨_, _, rfl, ?_⟩⟩
  rw [cell_of_block (heap_alloc_new w _)]
  simp [cB, hi]
theorem own_lit (w : World) (bs : List UInt8) (cs : Array Value) (h : cs = (cB bs).toArray) (hl : bs.length ≤ 1000000) : OwnB w.heap.size (w.alloc (.cells cs 5)) (.slice (some ⟨w.heap.size, 0, none⟩) bs.length bs.length) bs := by
  subst h
  have := World.ownsRow_lit (base := w.heap.size) (e := 5) (size := 1) w (cB bs).toArray bs.length (Nat.le_refl _) (by unfold maxLen; omega) (by simp [cB_length])
  unfold OwnB
  simpa using this
theorem OwnB.below {base B : Nat} {w w' : World} {v : Value} {bs : List UInt8} (h : OwnB base w v bs) (hb : Below B w w') (hB : w.heap.size ≤ B) : OwnB base w' v bs := by
  refine ⟨h.1, ?_⟩
  rcases h.2 with h2 | ⟨g, cap, cur, e1, e2, e3, e4⟩
  · exact .inl h2
  · exact .inr ⟨g, cap, cur, e1, e2, (hb.block g (by have := block_lt e3; omega)).trans e3, e4⟩

theorem ne_bool (x : UInt8) : ((x.toNat : Int) == 0) = decide (x = 0) := by
  by_cases h : x = 0
  · subst h; rfl
  · rw [decide_eq_false h, beq_eq_false_iff_ne]
    intro h'
    exact h (UInt8.toNat_inj.1 (by rw [show (0 : UInt8).toNat = 0 from rfl]; omega))

end Go.Proofs.Ytenkdikdofhnpaa
