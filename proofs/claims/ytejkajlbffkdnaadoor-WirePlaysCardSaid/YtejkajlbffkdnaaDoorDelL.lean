/- slices.Delete of one row of a list of rows: the library's contract at this program. -/
import Derived.Shelf.SlLaysE
import Derived.Shelf.SlicesE.Delete
import Derived.Test.YtejkajlbffkdnaaDoorWireL
namespace Go.Proofs
open Go.Shelf
def Tryd.dl_ren : Go.Shelf.Ren := ⟨fun | 45 => 32 | n => n, fun | 22 => 42 | 23 => 27 | 3 => 3 | 4 => 4 | 0 => 0 | n => n, fun | n => n⟩
theorem Tryd.dl : Go.Proofs.SlLaysE.n45 Tryd.prog Tryd.dl_ren := {
  mixed := by kernel_rfl
  f45 := ⟨Tryd.f32.name, by decide, Tryd.func32.trans (congrArg some (by kernel_rfl))⟩
  t0 := Tryd.underlying0
  a0 := Tryd.isAgg0
  z0 := Tryd.sizeOf0
  v0 := Tryd.zeroValue0
  t3 := Tryd.underlying3
  a3 := Tryd.isAgg3
  z3 := Tryd.sizeOf3
  v3 := Tryd.zeroValue3
  t4 := Tryd.underlying4
  a4 := Tryd.isAgg4
  z4 := Tryd.sizeOf4
  v4 := Tryd.zeroValue4
  t22 := Tryd.underlying42
  a22 := Tryd.isAgg42
  z22 := Tryd.sizeOf42
  v22 := Tryd.zeroValue42
  a23 := Tryd.isAgg27
  z23 := Tryd.sizeOf27 }
namespace YtejkajlbffkdnaaDoor
open Go.RowKit Go.Sort

/-- A message, or nothing. -/
def encO : Option Msg → Value
  | some m => encM m
  | none => .slice none 0 0
theorem encO_one : OneCell encO := fun x => by cases x <;> rfl

theorem take_putCellsA {α : Type} [Inhabited α] (enc : α → Value) (cur : Array Value) (ts : List α) (k : Nat) (hk : k ≤ ts.length) (h : ts.length ≤ cur.size) : (putCells enc 0 ts.toArray cur).toList.take k = (ts.take k).map enc := by
  have hs : (putCells enc 0 ts.toArray cur).size = cur.size := by simp [putCells]
  apply List.ext_getElem
  · simp [putCells]; omega
  · intro j h1 h2
    simp only [List.length_take, List.length_map, Array.length_toList, hs] at h1 h2
    simp only [List.getElem_take, List.getElem_map, Array.getElem_toList, putCells, Array.getElem_mapIdx]
    rw [if_pos (by simp; omega)]
    simp only [Nat.sub_zero]
    rw [getElem!_pos _ j (by simp; omega)]
    simp
theorem heap_putRow {α : Type} [Inhabited α] (enc : α → Value) {w : World} {g : Nat} {cur : Array Value} {e : TypeId} {fr : Nat × Nat} (q : Nat) (d : Array α) (h : w.heap[g]? = some (.cells cur e fr)) : (putRow enc (Sort.ahead w q) g 0 d).heap[g]? = some (.cells (putCells enc 0 d cur) e fr) := by
  unfold putRow mapBlock
  show (w.heap.modify g _)[g]? = _
  rw [Array.getElem?_modify, if_pos rfl, h]
  rfl
theorem grownBy_putRow {α : Type} [Inhabited α] (enc : α → Value) (w : World) (g q : Nat) (d : Array α) : w.grownBy (putRow enc (Sort.ahead w q) g 0 d) (some g) :=
  ⟨rfl, rfl, rfl, Nat.le_of_eq (by simp [putRow, mapBlock, Sort.ahead]), fun k hk hne => by
    unfold putRow mapBlock
    show (w.heap.modify g _)[k]? = _
    rw [Array.getElem?_modify, if_neg (fun e => hne (by rw [e]))]⟩

theorem wdel_any (g cap : Nat) (ms : List Msg) (i base : Nat) (w : World) (hown : w.ownsRow base 27 1 (.slice (some ⟨g, 0, none⟩) ms.length cap) ms.length (ms.map encM)) (hi : i < ms.length) :
    Calls Tryd.prog 32 #[.slice (some ⟨g, 0, none⟩) ms.length cap, .int .i64 i, .int .i64 ((i + 1 : Nat) : Int)] w fun e w' => e = .returned (.slice (some ⟨g, 0, none⟩) (ms.length - 1) cap) ∧ w'.ownsRow base 27 1 (.slice (some ⟨g, 0, none⟩) (ms.length - 1) cap) (ms.eraseIdx i).length ((ms.eraseIdx i).map encM) ∧ w.grownBy w' (some g) := by
  obtain ⟨i0, hi0, hz0, hz1, hz2⟩ := info_parts Tryd.infoRowW
  have hH : Holds encO w g 0 (ms.map some).toArray := by
    intro j hj
    simp only [List.size_toArray, List.length_map] at hj
    have hc := World.ownsRow.cellAt hown j (by simp; omega)
    refine ⟨?_, World.ownsRow.frozenAt hown (0 + j)⟩
    rw [Nat.zero_add, hc, getElem!_pos _ j (by simpa using hj)]
    simp [hj, encO]
  obtain ⟨hx, h2⟩ := hown
  rcases h2 with ⟨h2, _⟩ | ⟨g', cap', cur, hv, hb, hg, hn, hcap, hcur, htake⟩
  · cases h2
  cases hv
  have h := AnyE.slices_Delete Tryd.dl encO encO_one none Tryd.zeroValue27 i0 hi0 hz1 g 0 cap i (i + 1) (ms.map some).toArray w hH (by simpa using hn) hcap (by omega) (by simp; omega)
  simp only [List.size_toArray, List.length_map] at h
  refine h.mono ?_
  rintro e w' ⟨rfl, q, rfl⟩
  have hlen : (ms.eraseIdx i).length = ms.length - 1 := by rw [List.length_eraseIdx, if_pos hi]
  refine ⟨by rw [show i + 1 - i = 1 by omega], ⟨by simp, .inr ⟨g, cap, _, by rw [hlen], hb, heap_putRow encO q _ hg, by omega, hcap, by simp [putCells, hcur], ?_⟩⟩, grownBy_putRow _ _ _ _ _⟩
  have e1 : (ms.map some).take i ++ (ms.map some).drop (i + 1) = (ms.eraseIdx i).map some := by rw [List.eraseIdx_eq_take_drop_succ, List.map_append, List.map_take, List.map_drop]
  have e2 : ((ms.map some).take i ++ (ms.map some).drop (i + 1)).length = ms.length - 1 := by rw [e1, List.length_map, hlen]
  rw [Nat.mul_one, hlen, take_putCellsA encO cur _ (ms.length - 1) (by simp; omega) (by simp; omega)]
  rw [← e2, List.take_left, e1, List.map_map]
  rfl
end YtejkajlbffkdnaaDoor
end Go.Proofs
