/- MarkB, BytesM, ParsL. -/
import Derived.Test.YtahnicbokdbjdaaDoorF2ParsSaid20
import Derived.ArgAppend
import Derived.Laws.IdiomStrings
import Derived.Deep.MidRow
import Derived.Deep.Upon
import Derived.Test.YtahnicbokdbjdaaDoorF23ParsSaid20
import Derived.Test.YtahnicbokdbjdaaDoorF11ParsSaid20
import Derived.Test.YtahnicbokdbjdaaDoorF20ParsSaid20
/- Rows of bytes that were made of a string ('[]byte(s)'): they bear a mark behind their cells; append goes on behind them. -/
namespace Go.Proofs.YtahnicbokdbjdaaDoor
open Go.RowKit

/-- A row of bytes of the call's own, marked or not: its bytes, and room that may be written. -/
def MarkB (base : Nat) (w : World) (v : Value) (bs : List UInt8) : Prop :=
  ∃ g cap, v = .slice (some ⟨g, 0, none⟩) bs.length cap ∧ base ≤ g ∧ g < w.heap.size ∧ bs.length ≤ cap ∧ cap ≤ maxLen ∧ (∀ i, i < bs.length → w.cell? ⟨g, i, none⟩ = some (.int .u8 ((cf bs i).toNat : Int))) ∧
    ∀ j, bs.length ≤ j → j < cap → (w.cell? ⟨g, j, none⟩).isSome = true ∧ w.frozen? ⟨g, j, none⟩ = false
theorem MarkB.arg {base : Nat} {w : World} {v : Value} {bs : List UInt8} (h : MarkB base w v bs) : ∃ a c, v = .slice a bs.length c ∧ ArgB w a c bs := by
  obtain ⟨g, cap, rfl, h1, h2, h3, h4, h5, h6⟩ := h
  refine ⟨_, cap, rfl, h3, h4, (fun e => by cases e), fun i hi => ⟨g, 0, rfl, ?_⟩⟩
  rw [Nat.zero_add]
  exact h5 i hi
theorem MarkB.below {base B : Nat} {w w' : World} {v : Value} {bs : List UInt8} (h : MarkB base w v bs) (hb : Below B w w') (hB : w.heap.size ≤ B) : MarkB base w' v bs := by
  obtain ⟨g, cap, rfl, h1, h2, h3, h4, h5, h6⟩ := h
  have hc : ∀ j, w'.cell? ⟨g, j, none⟩ = w.cell? ⟨g, j, none⟩ := fun j => World.cell?_of_block (a := ⟨g, j, none⟩) (hb.block g (by omega))
  have hf : ∀ j, w'.frozen? ⟨g, j, none⟩ = w.frozen? ⟨g, j, none⟩ := fun j => World.frozen?_of_block (a := ⟨g, j, none⟩) (hb.block g (by omega))
  exact ⟨g, cap, rfl, h1, Nat.lt_of_lt_of_le h2 hb.size, h3, h4, fun i hi => by rw [hc]; exact h5 i hi, fun j a b => by rw [hc, hf]; exact h6 j a b⟩
theorem OwnB.mark {base : Nat} {w : World} {v : Value} {bs : List UInt8} (h : OwnB base w v bs) (hn : 0 < bs.length) : MarkB base w v bs := by
  rcases h.2 with ⟨rfl, h0⟩ | ⟨g, cap, cur, rfl, hbg, hg, hnc, hcm, hcs, htake⟩
  · rw [h0] at hn; exact absurd hn (by omega)
  · refine ⟨g, cap, rfl, hbg, block_lt hg, hnc, hcm, fun i hi => ?_, fun j a b => ⟨?_, free_of_block hg j⟩⟩
    · have := World.ownsRow.cellAt h i (by omega)
      rw [this]
      simp [cB, cf, hi]
    · rw [cell_of_block hg]
      simp [hcs]; omega

theorem setCells_below {w : World} (g o : Nat) (vs : List Value) {B : Nat} (hB : B ≤ g) : Below B w (w.setCells g o vs) := by
  induction vs generalizing w o with
  | nil => exact Below.refl _ _
  | cons v r ih =>
    rw [World.setCells]
    exact ((Below.refl B w).setCell (p := ⟨g, o, none⟩) hB v).trans (ih _)

section
variable {w : World} {ops : Array Oper} {rest : List Oper} {o : Oper} {a : Act} {Q : Exit → Act → World → Prop}
/-- '[]byte(s)'. -/
theorem wpM_conv (hgd : o.guard = none) (x : Operand) (ho : o.op = .convert 9 36 x) (s : ByteArray) (hx : a.eval x = .string s) (hs : s.size ≤ 1000000)
    (h : ∀ v' w', Hid (MarkB w.heap.size w' v' s.data.toList) → Hid (Below w.heap.size w w') → wpList Tryd.prog ops Q rest (a.put o.dst v') w') :
    wpList Tryd.prog ops Q (o :: rest) a w := by
  have hrun := run_bytes_of_string (P := Tryd.prog) w 9 36 5 s Tryd.underlying9 Tryd.underlying36 Tryd.underlying5
  have hge := grownCap_ge w s.size 0 5
  have hcm := grownCap_le_maxLen w s.size 0 5 (by unfold maxLen; omega)
  have hlen : s.data.toList.length = s.size := by simp
  generalize grownCap w s.size 0 5 = cap at *
  have hsz : (bytesRow s cap).size = cap := by simp [bytesRow]; omega
  have hnew : (w.drew.alloc (.cells (bytesRow s cap) 5 ((bytesRow s cap).size, (bytesRow s cap).size + 1))).heap[w.heap.size]? = some (.cells (bytesRow s cap) 5 ((bytesRow s cap).size, (bytesRow s cap).size + 1)) := heap_alloc_new w.drew _
  refine wpList_plain hgd fun K hK' => ?_
  unfold Oper.wp
  simp [execOp, ho, hx, hrun, Result.andThen, -World.alloc_eq, -World.drew_eq]
  refine hK' _ _ (h _ _ (Lib.hid ⟨w.heap.size, cap, by rw [hlen], Nat.le_refl _, block_lt hnew, by omega, hcm, fun i hi => ?_, fun j hj1 hj2 => ⟨?_, ?_⟩⟩) (Lib.hid ((Below.refl w.heap.size w).drew.alloc (Nat.le_refl _) _)))
  · simp only [World.cell?, hnew]
    rw [hlen] at hi
    rw [bytesRow, Array.getElem?_append_left (by simpa using hi)]
    simp [cf, hi]
  · simp only [World.cell?, hnew]
    simp [hsz]; omega
  · have hfz : ∀ W : World, W.heap[w.heap.size]? = some (.cells (bytesRow s cap) 5 ((bytesRow s cap).size, (bytesRow s cap).size + 1)) → W.frozen? ⟨w.heap.size, j, none⟩ = false := fun W hW => by
      simp only [World.frozen?, hW, hsz, Bool.and_eq_false_iff, decide_eq_false_iff_not]
      left; omega
    exact hfz _ hnew
/-- append behind such a row. -/
theorem wpM_app (hgd : o.guard = none) (s x : Operand) (ho : o.op = .call { callee := .builtin .append, args := #[s, x], argTypes := #[36, 36] })
    (base : Nat) (v : Value) (bs : List UInt8) (hs : a.eval s = v) (hown : Hid (MarkB base w v bs)) (b off : Nat) (c : Nat) (ys : List UInt8) (m : Nat) (hx : a.eval x = .slice (some ⟨b, off, none⟩) m c) (hm : Hid (ys.length = m)) (hy : Hid (ArgB w (some ⟨b, off, none⟩) c ys)) (hpos : 0 < m)
    (hl : bs.length ≤ 1000000) (hl2 : m ≤ 1000000) (hbase : base ≤ w.heap.size)
    (h : ∀ v' w', Hid (MarkB base w' v' (bs ++ ys)) → Hid (Below base w w') → wpList Tryd.prog ops Q rest (a.put o.dst v') w') :
    wpList Tryd.prog ops Q (o :: rest) a w := by
  obtain ⟨i0, hi, hz0, hz1, hz2⟩ := info_parts Tryd.infoByteP
  obtain ⟨g, cap, rfl, h1, h2, h3, h4, h5, h6⟩ := hown.out
  have hml := hm.out
  refine wpList_append_arg w hgd s x 36 ho 5 i0 (.int .u8 0) 1 1 Tryd.underlying36 hi hz0 hz1 hz2 rfl (by decide) g 0 bs.length cap (cB bs) hs (by rw [cB_length]; omega) (fun j u hj => ?_)
    ⟨b, off, none⟩ m c (cB ys) hx (by rw [cB_length]; omega) (getElem_add fun i hi => ?_) (cB_one ys) (fun hr j hj => ?_) (by unfold maxLen; omega) (by omega) (fun hr => ?_) (fun hr v' w' k1 k2 => ?_)
  · have hj' : j < bs.length := by have := (List.getElem?_eq_some_iff.1 hj).1; rwa [cB_length] at this
    rw [Nat.zero_add, h5 j hj', ← hj]
    simp [cB, cf, hj']
  · rw [cB_length] at hi
    obtain ⟨b', o', e, hc⟩ := hy.out.row i hi
    cases e
    rw [hc]; simp [cB, hi]
  · rw [cB_length] at hj
    rw [show 0 + bs.length * 1 + j = bs.length + j from by omega]
    exact h6 _ (by omega) (by omega)
  · rw [show 0 + bs.length * 1 = bs.length from by omega]
    refine h _ _ (Lib.hid ⟨g, cap, by rw [List.length_append, hml], h1, ?_, by rw [List.length_append]; omega, h4, fun i hi => ?_, fun j hj1 hj2 => ⟨?_, ?_⟩⟩) (Lib.hid (setCells_below g _ _ h1))
    · exact Nat.lt_of_lt_of_le h2 (setCells_below (w := w) g bs.length (cB ys) (Nat.le_refl g)).size
    · rw [List.length_append] at hi
      rw [cf_append]
      by_cases hib : i < bs.length
      · rw [if_pos hib, World.cell?_setCells_out g (cB ys) bs.length w ⟨g, i, none⟩ (fun _ _ => .inl hib)]
        exact h5 i hib
      · rw [if_neg hib]
        have := World.cell?_setCells_in g (cB ys) bs.length w (fun j hj => (h6 (bs.length + j) (by omega) (by rw [cB_length] at hj; omega)).1) (i - bs.length) (by rw [cB_length]; omega)
        rw [show bs.length + (i - bs.length) = i from by omega] at this
        rw [this]
        have hlt : i - bs.length < ys.length := by omega
        simp [cB, cf, hlt]
    · rw [List.length_append] at hj1
      exact World.isSome_setCells g (cB ys) bs.length w _ (h6 j (by omega) hj2).1
    · rw [List.length_append] at hj1
      rw [World.frozen?_setCells]
      exact (h6 j (by omega) hj2).2
  · have hown2 : OwnB w.heap.size w' v' (bs ++ ys) := by
      unfold OwnB
      rw [cB_append, List.length_append, hml]
      exact k1
    have hmk : MarkB w.heap.size w' v' (bs ++ ys) := hown2.mark (by rw [List.length_append]; omega)
    obtain ⟨g', c', e1, e2, e3⟩ := hmk
    exact h _ _ (Lib.hid ⟨g', c', e1, by omega, e3⟩) (Lib.hid ((Below.refl base w).grown k2 hbase (fun k hk => by cases hk)))
end

end Go.Proofs.YtahnicbokdbjdaaDoor
/- '[]byte(s)' in a region that draws its order; rows out of a record. -/
namespace Go.Proofs.YtahnicbokdbjdaaDoor
open Go.RowKit

theorem wpK_conv {K : Act → World → Prop} {Q : Exit → Act → World → Prop} {o : Oper} {a : Act} {w : World} (x : Operand) (ho : o.op = .convert 9 36 x) (s : ByteArray) (hx : a.eval x = .string s) (hs : s.size ≤ 1000000)
    (h : ∀ v' w', Hid (MarkB w.heap.size w' v' s.data.toList) → Hid (Below w.heap.size w w') → K (a.put o.dst v') w') : o.wp Tryd.prog a w K Q := by
  have hrun := run_bytes_of_string (P := Tryd.prog) w 9 36 5 s Tryd.underlying9 Tryd.underlying36 Tryd.underlying5
  have hge := grownCap_ge w s.size 0 5
  have hcm := grownCap_le_maxLen w s.size 0 5 (by unfold maxLen; omega)
  have hlen : s.data.toList.length = s.size := by simp
  generalize grownCap w s.size 0 5 = cap at *
  have hsz : (bytesRow s cap).size = cap := by simp [bytesRow]; omega
  have hnew : (w.drew.alloc (.cells (bytesRow s cap) 5 ((bytesRow s cap).size, (bytesRow s cap).size + 1))).heap[w.heap.size]? = some (.cells (bytesRow s cap) 5 ((bytesRow s cap).size, (bytesRow s cap).size + 1)) := heap_alloc_new w.drew _
  unfold Oper.wp
  simp [execOp, ho, hx, hrun, Result.andThen, -World.alloc_eq, -World.drew_eq]
  refine h _ _ (Lib.hid ⟨w.heap.size, cap, by rw [hlen], Nat.le_refl _, block_lt hnew, by omega, hcm, fun i hi => ?_, fun j hj1 hj2 => ⟨?_, ?_⟩⟩) (Lib.hid ((Below.refl w.heap.size w).drew.alloc (Nat.le_refl _) _))
  · simp only [World.cell?, hnew]
    rw [hlen] at hi
    rw [bytesRow, Array.getElem?_append_left (by simpa using hi)]
    simp [cf, hi]
  · simp only [World.cell?, hnew]
    simp [hsz]; omega
  · have hfz : ∀ W : World, W.heap[w.heap.size]? = some (.cells (bytesRow s cap) 5 ((bytesRow s cap).size, (bytesRow s cap).size + 1)) → W.frozen? ⟨w.heap.size, j, none⟩ = false := fun W hW => by
      simp only [World.frozen?, hW, hsz, Bool.and_eq_false_iff, decide_eq_false_iff_not]
      left; omega
    exact hfz _ hnew
theorem lab_size {s : ByteArray} (h : labB s.data.toList = true) : s.size ≤ 12 := by
  have hl : s.data.toList.length = s.size := by simp
  unfold labB at h
  simp at h
  omega
theorem argB_part {W : World} {b o : Nat} {bs : List UInt8} (h : W.rangeAt b o (cB bs)) (hl : bs.length = 32) : ArgB W (some ⟨b, o, none⟩) 32 bs := by
  refine ⟨by omega, (by unfold maxLen; omega), (fun e => by cases e), fun i hi => ⟨_, _, rfl, ?_⟩⟩
  refine h i _ ?_
  simp [cB, hi]
theorem argB_root (x : Rc) (hx : x.Ok) (T : TypeId) {W : World} {b : Nat} (h : W.heap[b]? = some (.cells x.list.toArray T (0, 0))) : ArgB W (some ⟨b, 10, none⟩) 32 x.root := argB_part (rangeAt_sub h (Rc.sub_root hx.root)) hx.root
theorem argB_file (x : Rc) (hx : x.Ok) (T : TypeId) {W : World} {b : Nat} (h : W.heap[b]? = some (.cells x.list.toArray T (0, 0))) : ArgB W (some ⟨b, 42, none⟩) 32 x.file := argB_part (rangeAt_sub h (Rc.sub_file hx.root hx.file)) hx.file
theorem rows7 {w : World} {B : Nat} {p0 p1 p2 p3 p4 p5 p6 : List UInt8} {a0 a1 a2 a3 a4 a5 a6 : Option Addr} {c0 c1 c2 c3 c4 c5 c6 l0 l1 l2 l3 l4 l5 l6 : Nat} (hB : w.heap[B]? = some (.cells #[.slice a0 l0 c0, .slice a1 l1 c1, .slice a2 l2 c2, .slice a3 l3 c3, .slice a4 l4 c4, .slice a5 l5 c5, .slice a6 l6 c6] 36 (0, 0)))
    (e0 : p0.length = l0) (e1 : p1.length = l1) (e2 : p2.length = l2) (e3 : p3.length = l3) (e4 : p4.length = l4) (e5 : p5.length = l5) (e6 : p6.length = l6) (h0 : ArgB w a0 c0 p0) (h1 : ArgB w a1 c1 p1) (h2 : ArgB w a2 c2 p2) (h3 : ArgB w a3 c3 p3) (h4 : ArgB w a4 c4 p4) (h5 : ArgB w a5 c5 p5) (h6 : ArgB w a6 c6 p6) : RowsAt w B [p0, p1, p2, p3, p4, p5, p6] := by
  intro k hk
  match k, hk with
  | 0, _ => exact ⟨a0, c0, by rw [cell_of_block hB]; show some (Value.slice a0 l0 c0) = _; rw [← e0]; rfl, h0⟩
  | 1, _ => exact ⟨a1, c1, by rw [cell_of_block hB]; show some (Value.slice a1 l1 c1) = _; rw [← e1]; rfl, h1⟩
  | 2, _ => exact ⟨a2, c2, by rw [cell_of_block hB]; show some (Value.slice a2 l2 c2) = _; rw [← e2]; rfl, h2⟩
  | 3, _ => exact ⟨a3, c3, by rw [cell_of_block hB]; show some (Value.slice a3 l3 c3) = _; rw [← e3]; rfl, h3⟩
  | 4, _ => exact ⟨a4, c4, by rw [cell_of_block hB]; show some (Value.slice a4 l4 c4) = _; rw [← e4]; rfl, h4⟩
  | 5, _ => exact ⟨a5, c5, by rw [cell_of_block hB]; show some (Value.slice a5 l5 c5) = _; rw [← e5]; rfl, h5⟩
  | 6, _ => exact ⟨a6, c6, by rw [cell_of_block hB]; show some (Value.slice a6 l6 c6) = _; rw [← e6]; rfl, h6⟩
end Go.Proofs.YtahnicbokdbjdaaDoor
/- Plain: what the reader makes of a right record's bytes. -/
namespace Go.Proofs.YtahnicbokdbjdaaDoor
open Go.RowKit

theorem byte_of (v : Int) (h1 : 0 ≤ v) (h2 : v < 9223372036854775808) (r : Nat) (hr : r < 8) : (numByte v (7 - r)).toNat = v.toNat / 256 ^ r % 256 := by
  have h := numX_byte v r hr
  unfold numX numU at h
  have e : (v % 18446744073709551616).toNat = v.toNat := by omega
  rw [e] at h
  omega
theorem numG_num (v : Int) (h1 : 0 ≤ v) (h2 : v ≤ 1099511627776) : ((numG (numB v) 0 : Nat) : Int) = v := by
  have b0 := byte_of v h1 (by omega) 7 (by decide)
  have b1 := byte_of v h1 (by omega) 6 (by decide)
  have b2 := byte_of v h1 (by omega) 5 (by decide)
  have b3 := byte_of v h1 (by omega) 4 (by decide)
  have b4 := byte_of v h1 (by omega) 3 (by decide)
  have b5 := byte_of v h1 (by omega) 2 (by decide)
  have b6 := byte_of v h1 (by omega) 1 (by decide)
  have b7 := byte_of v h1 (by omega) 0 (by decide)
  simp only [Nat.reduceSub, Nat.reducePow, Nat.div_one] at b0 b1 b2 b3 b4 b5 b6 b7
  have e : numB v = [numByte v 0, numByte v 1, numByte v 2, numByte v 3, numByte v 4, numByte v 5, numByte v 6, numByte v 7] := rfl
  rw [e]
  simp only [numG, b0, b1, b2, b3, b4, b5, b6, b7]
  omega
theorem numG_index (v : Int) (h1 : 0 ≤ v) (h2 : v ≤ 1048576) : ((numG ((numB v).drop 4) 0 : Nat) : Int) = v := by
  have b4 := byte_of v h1 (by omega) 3 (by decide)
  have b5 := byte_of v h1 (by omega) 2 (by decide)
  have b6 := byte_of v h1 (by omega) 1 (by decide)
  have b7 := byte_of v h1 (by omega) 0 (by decide)
  simp only [Nat.reduceSub, Nat.reducePow, Nat.div_one] at b4 b5 b6 b7
  have e : (numB v).drop 4 = [numByte v 4, numByte v 5, numByte v 6, numByte v 7] := rfl
  rw [e]
  simp only [numG, b4, b5, b6, b7]
  omega
theorem numG_one (b : UInt8) : numG [b] 0 = b.toNat := by simp [numG]
theorem got (A R : List UInt8) (n : Nat) (h : A.length = n) : nO (A ++ R, false) n = A ∧ nB (A ++ R, false) n = (R, false) := by
  subst h
  have hs : ¬ (false = true ∨ (A ++ R).length < A.length) := by simp
  unfold nO nB takeO takeB takeS
  simp only [if_neg hs]
  simp
theorem got_nN (A R : List UInt8) (n : Nat) (h : A.length = n) : nN (A ++ R, false) n = (numG A 0 : Nat) := by
  have := (got A R n h).1
  unfold nO at this
  unfold nN
  rw [this]
end Go.Proofs.YtahnicbokdbjdaaDoor
