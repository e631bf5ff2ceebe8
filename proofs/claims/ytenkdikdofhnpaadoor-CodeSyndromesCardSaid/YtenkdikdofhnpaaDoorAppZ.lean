/- append(s, make([]byte, k)...): of a row of the call's own. -/
import Derived.Test.YtenkdikdofhnpaaDoorPolyApp
import Derived.Lib.AppendZerosOnto
import Derived.Laws.CopyOwn
namespace Go.Proofs.YtenkdikdofhnpaaDoor
open Go.RowKit

theorem zeros_list (k : Nat) : (Builtin.zeroCells (Value.int .u8 0).cells k).toList = cB (List.replicate k 0) := by
  have h1 : (Builtin.zeroCells (Value.int .u8 0).cells k).toList.length = k := by rw [Array.length_toList, size_zeroCells]; simp [Value.cells]
  apply List.ext_getElem
  · rw [h1, cB_length, List.length_replicate]
  · intro i h2 h3
    simp [Builtin.zeroCells, Value.cells, cB, Nat.mod_one]

theorem append_zeros (base : Nat) (v : Value) (bs : List UInt8) (w : World) (ty : TypeId) (hown : OwnB base w v bs) (k : Nat) (h0 : 0 < k) (hk : k ≤ 1000000) (hl : bs.length ≤ 1000000) (hbase : base ≤ w.heap.size) :
    ∃ v' w', (Builtin.append_ #[22, 3] ty #[v, .int .i64 (k : Int)]).run Tryd.prog w = .ok v' w' ∧ OwnB base w' v' (bs ++ List.replicate k 0) ∧ Below base w w' := by
  obtain ⟨i0, hi, hz0, hz1, hz2⟩ := info_parts Tryd.infoByteP
  have hown0 := hown
  obtain ⟨hlen, hown⟩ := hown
  have hlen2 : (cB (bs ++ List.replicate k 0)).length = (bs ++ List.replicate k 0).length * 1 := by rw [cB_length, Nat.mul_one]
  have hll : (bs ++ List.replicate k (0 : UInt8)).length = bs.length + k := by simp
  have hzl := zeros_list k
  rcases hown with ⟨rfl, hn⟩ | ⟨g, cap, cur, rfl, hbg, hg, hnc, hcm, hcs, htake⟩
  · obtain rfl : bs = [] := List.eq_nil_of_length_eq_zero hn
    have happ := Lib.run_append_nil_zeros (P := Tryd.prog) w 22 3 ty 5 i0 (.int .u8 0) .i64 .i64 Tryd.underlying22 Tryd.underlying3 hi hz0 k h0 (by omega) (by omega) (by rw [hz2]; omega)
    have hge := grownCap_ge w k 0 5
    have hle := grownCap_le_maxLen w k 0 5 (by unfold maxLen; omega)
    refine ⟨_, _, happ, ⟨hlen2, .inr ⟨w.heap.size, _, _, by rw [hll]; simp, hbase, heap_alloc_new w.drew _, by rw [hll]; simpa using hge, hle, ?_, ?_⟩⟩, Below.alloc (Drawn.below ⟨1, rfl⟩ _) hbase _⟩
    · simp [size_zeroCells, Value.cells]; omega
    · rw [hll, Array.toList_append, hzl, List.nil_append, List.length_nil, Nat.zero_add, Nat.mul_one]
      exact List.take_left' (by rw [cB_length, List.length_replicate])
  · have hzl1 : (cB (List.replicate k 0)).length = k := by rw [cB_length, List.length_replicate]
    have hbl : (cB bs).length = bs.length := cB_length bs
    by_cases hroom : bs.length + k ≤ cap
    · have hst := run_storeCells_at Tryd.prog g bs.length 5 (cB (List.replicate k 0)) 0 cur w hg (by rw [hzl1, hcs]; omega) (cB_one _)
      have hw : IntKind.i64.wrap (k : Int) = k := by rw [IntKind.wrap_i64]; omega
      have hneg : ¬ ((k : Int) < 0) := by omega
      have hns : ¬ k = 0 := by omega
      have h48 : ¬ (281474976710656 < (k : Int)) := by omega
      rw [← hzl] at hst
      have hr : (Builtin.append_ #[22, 3] ty #[.slice (some ⟨g, 0, none⟩) bs.length cap, .int .i64 (k : Int)]).run Tryd.prog w =
          .ok (.slice (some ⟨g, 0, none⟩) (bs.length + k) cap) (w.setRow g (cur.toList.take (bs.length + 0) ++ (Builtin.zeroCells (Value.int .u8 0).cells k).toList ++ cur.toList.drop (bs.length + 0 + (Builtin.zeroCells (Value.int .u8 0).cells k).toList.length)).toArray) := by
        generalize hZ : Builtin.zeroCells (Value.int .u8 0).cells k = Z at hst ⊢
        simp [Builtin.append_, run_underlying Tryd.underlying22, run_underlying Tryd.underlying3, sizeOf, typeInfo, zeroValue, hi, hz0, hz1, hz2, asInt, asIntOf, hw, hneg, hns, h48, hroom, Addr.add_lit, hZ, hst]
      rw [hzl] at hr
      rw [show bs.length * 1 = bs.length from Nat.mul_one _] at htake
      have htl : (cur.toList.take (bs.length + 0)) = cB bs := htake
      rw [htl] at hr
      refine ⟨_, _, hr, ⟨hlen2, .inr ⟨g, cap, _, by rw [hll], hbg, setRow_heap w g cur _ _ _ hg, by rw [hll]; exact hroom, hcm, ?_, ?_⟩⟩, below_setRow (Below.refl _ _) hbg _⟩
      · simp [hzl1, hbl]; omega
      · rw [hll, Nat.mul_one, cB_append]
        exact List.take_left' (by rw [List.length_append, hzl1, hbl])
    · have hsrc : ∀ j u, (cB bs)[j]? = some u → w.drew.cell? ((⟨g, 0, none⟩ : Addr).add j) = some u := fun j u hu => World.ownsRow.cells hown0 rfl j u hu
      have hold : (Builtin.firstCells i0.size bs.length (.slice (some ⟨g, 0, none⟩) bs.length cap)).run Tryd.prog w.drew = .ok (cB bs).toArray w.drew :=
        run_firstCells_some (P := Tryd.prog) w.drew i0.size bs.length ⟨g, 0, none⟩ bs.length cap (cB bs) (by rw [hz1, hbl, Nat.mul_one]) hsrc
      have hr := Lib.run_append_grow_zeros (P := Tryd.prog) w 22 3 ty 5 i0 (.int .u8 0) .i64 .i64 Tryd.underlying22 Tryd.underlying3 hi hz0 (some ⟨g, 0, none⟩) bs.length cap (cB bs) hold k h0 (by omega) (by omega) (by omega) (by rw [hz2]; omega) (growslice_fits (by omega) (by rw [hz2]; omega))
      have hge := grownCap_ge w (bs.length + k) cap 5
      have hle := grownCap_le_maxLen w (bs.length + k) cap 5 (by unfold maxLen; omega)
      refine ⟨_, _, hr, ⟨hlen2, .inr ⟨w.heap.size, _, _, by rw [hll], hbase, heap_alloc_new w.drew _, by rw [hll]; exact hge, hle, ?_, ?_⟩⟩, Below.alloc (Drawn.below ⟨1, rfl⟩ _) hbase _⟩
      · simp [size_zeroCells, Value.cells, hbl]; omega
      · rw [hll, Nat.mul_one, cB_append, Array.toList_append, Array.toList_append, hzl]
        exact List.take_left' (by rw [List.length_append, hzl1]; simp [hbl])

section
variable {w : World} {ops : Array Oper} {rest : List Oper} {o : Oper} {a : Act} {Q : Exit → Act → World → Prop}
/-- 'append(s, make([]byte, k)...)', for the walk. -/
theorem wpB_zeros (hgd : o.guard = none) (s x : Operand) (ho : o.op = .call { callee := .builtin .append, args := #[s, x], argTypes := #[22, 3] })
    (base : Nat) (v : Value) (bs : List UInt8) (k : Nat) (hs : a.eval s = v) (hx : a.eval x = .int .i64 (k : Int)) (hown : Hid (OwnB base w v bs)) (h0 : 0 < k) (hk : k ≤ 1000000) (hl : bs.length ≤ 1000000) (hbase : base ≤ w.heap.size)
    (h : ∀ v' w', Hid (OwnB base w' v' (bs ++ List.replicate k 0)) → Hid (Below base w w') → wpList Tryd.prog ops Q rest (a.put o.dst v') w') :
    wpList Tryd.prog ops Q (o :: rest) a w := by
  obtain ⟨v', w', h1, h2, h3⟩ := append_zeros base v bs w o.type hown.out k h0 hk hl hbase
  exact Lib.wpList_append_run w hgd s x _ _ ho _ _ hs hx v' w' h1 (h v' w' (Lib.hid h2) (Lib.hid h3))
end

end Go.Proofs.YtenkdikdofhnpaaDoor
