/- The walks over Quiet, Poly, Right, Data of package code, and the reference's Syndromes. -/
import Derived.Test.YtenkdikdofhnpaaDoorOf
import Derived.Stop.BytesEq
namespace Go.Proofs.YtenkdikdofhnpaaDoor
open Go.RowKit

theorem agg_of (l : List UInt8) : Value.agg (cB l).toArray = .agg (l.map Extern.Stop.cell).toArray := rfl
theorem eql32 (xs ys : List UInt8) (hx : xs.length = 32) (hy : ys.length = 32) (w : World) : (binOp .eql 32 (.agg (cB xs).toArray) (.agg (cB ys).toArray)).run Tryd.prog w = .ok (.bool (xs == ys)) w :=
  run_eql_bytes w 32 5 32 Tryd.underlying32 Tryd.underlying5 (fun w => by kernel_rfl) xs ys hx hy
theorem eql32' (xs ys : List UInt8) (hx : xs.length = 32) (hy : ys.length = 32) (w : World) : (binOp .eql 31 (.agg (cB xs).toArray) (.agg (cB ys).toArray)).run Tryd.prog w = .ok (.bool (xs == ys)) w :=
  run_eql_bytes w 31 5 32 Tryd.underlying31 Tryd.underlying5 (fun w => by kernel_rfl) xs ys hx hy

/-- Are all 0? -/
def quiet (l : List UInt8) : Bool := l == tab 32 fun _ => 0

set_option maxRecDepth 10000 in
set_option maxHeartbeats 1000000 in
theorem quiet_any (l : List UInt8) (hl : l.length = 32) (w : World) : Calls Tryd.prog 16 #[.agg (cB l).toArray] w fun e w' => e = .returned (.bool (quiet l)) ∧ Below w.heap.size w w' := by
  have he := fun w => eql32 l (tab 32 fun _ => 0) hl (tab_length _ _) w
  have zr := zero32_run
  have zn := zero32_ne
  rw [← zero32_eq] at he
  have hsz : (Tryd.prog.info? 32).map (·.size) = some (cB l).toArray.size := by
    rw [List.size_toArray, cB_length, hl]; kernel_rfl
  have hone : (cB l).toArray.all (·.oneCell') = true := by
    rw [List.all_toArray, List.all_eq_true]; exact cB_one l
  rw [show (l == tab 32 fun _ => 0) = quiet l from rfl] at he
  generalize hC : (cB l).toArray = C at *
  have hu0 : Tryd.prog.underlying 32 = some (.array 32 5) := Tryd.underlying32
  have hrw := Lib.hid (heap_alloc_new w (.cells C 32))
  go_enter Tryd.func16, Tryd.ntmps16
  go_wp2_with (with_reducible refine wpList_load_row rfl 32 (.tmp 1) rfl w.heap.size C (.array 32 5) rfl hrw hu0 rfl hsz ?_)
  go_ret
  exact ⟨rfl, (Below.refl w.heap.size w).alloc (Nat.le_refl _) _⟩

set_option maxRecDepth 10000 in
set_option maxHeartbeats 1000000 in
theorem spoly_any (l : List UInt8) (hl : l.length = 32) (w : World) : Calls Tryd.prog 17 #[.agg (cB l).toArray] w fun e w' => ∃ v, e = .returned v ∧ OwnB w.heap.size w' v (trim l) ∧ Below w.heap.size w w' := by
  have harg := argB_lit w 32 l (cB l).toArray rfl (by omega)
  have hbl := (Below.refl w.heap.size w).alloc (Nat.le_refl _) (.cells (cB l).toArray 32)
  have htr := trim_any _ _ l _ harg (by omega)
  rw [hl] at htr
  replace hbl := Lib.hid hbl
  replace htr := Lib.hid htr
  clear harg
  generalize hC : (cB l).toArray = C at *
  go_enter Tryd.func17, Tryd.ntmps17
  go_wp2_with fail
  with_reducible refine htr.out.mono ?_
  rintro e w2 ⟨v, rfl, ho, hb⟩
  replace ho := Lib.hid (ho.mono (base' := w.heap.size) (by simp))
  replace hb := Lib.hid (hbl.out.trans (hb.mono (by simp)))
  go_wp2_with fail
  go_ret
  exact ⟨_, rfl, ho.out, hb.out⟩

section
variable {P : Program} {ops : Array Oper} {rest : List Oper} {o : Oper} {a : Act} {w : World} {Q : Exit → Act → World → Prop}
/-- A load of a whole row under a guard that is met. -/
theorem wpList_load_rowG (hw : Region.wanted o (yielded ops a.tmps) = true) (ty : TypeId) (x : Operand) (ho : o.op = .load ty x) (g : Nat) (c : Array Value) (d : TypeDesc)
    (hx : a.eval x = .pointer (some ⟨g, 0, none⟩)) (hg : Hid (w.heap[g]? = some (.cells c ty (0, 0)))) (hu : P.underlying ty = some d) (hd : (match d with | .struct _ | .array _ _ => true | _ => false) = true) (hi : (P.info? ty).map (·.size) = some c.size)
    (h : wpList P ops Q rest (a.put o.dst (.agg c)) w) : wpList P ops Q (o :: rest) a w := by
  unfold wpList
  rw [if_pos hw]
  left
  unfold Oper.wp
  rw [yields_load_row ty x ho g c d hx hg.out hu hd hi]
  exact h
end

/-- Is it a code word? -/
def rightB (bs : List UInt8) : Bool := decide (33 ≤ bs.length ∧ bs.length ≤ 255) && quiet (synd bs)

set_option maxRecDepth 10000 in
set_option maxHeartbeats 1000000 in
theorem right_any (a : Option Addr) (ca : Nat) (bs : List UInt8) (w : World) (z : Addr) (hz : SizeAt w z) (ha : ArgB w a ca bs) (hl : bs.length ≤ 1000000) :
    Calls Tryd.prog 14 #[.slice a bs.length ca] w fun e w' => e = .returned (.bool (rightB bs)) ∧ Below w.heap.size w w' := by
  have zr := zero32_run
  have zn := zero32_ne
  have hu0 : Tryd.prog.underlying 32 = some (.array 32 5) := Tryd.underlying32
  by_cases h : 33 ≤ bs.length ∧ bs.length ≤ 255
  · have e1 : rightB bs = quiet (synd bs) := by unfold rightB; rw [decide_eq_true h, Bool.true_and]
    have hl2 : (synd bs).length = 32 := tab_length _ _
    have hsz : (Tryd.prog.info? 32).map (·.size) = some (cB (synd bs)).toArray.size := by
      rw [List.size_toArray, cB_length, hl2]; kernel_rfl
    have hs2 : zero32.size = (cB (synd bs)).toArray.size := by rw [zero32_size, List.size_toArray, cB_length, hl2]
    have hone : (cB (synd bs)).toArray.all (·.oneCell') = true := by
      rw [List.all_toArray, List.all_eq_true]; exact cB_one (synd bs)
    have hcall := Lib.hid (of_any a ca bs w ha h.1 h.2)
    have hq := Lib.hid (quiet_any (synd bs) hl2)
    rw [e1]
    clear ha hz e1 hl2
    generalize quiet (synd bs) = q at *
    generalize hC : (cB (synd bs)).toArray = C at *
    clear hC
    go_enter Tryd.func14, Tryd.ntmps14
    go_wp2_with fail
    with_reducible refine hcall.out.mono ?_
    rintro e w1 ⟨rfl, hb1⟩
    have hz1 := Lib.hid (heap_alloc_new w1 (.cells zero32 32))
    have hb2 := Lib.hid (hb1.alloc hb1.size (.cells zero32 32))
    have hbs := hb1.size
    clear hb1 hcall
    go_wp2_with (with_reducible refine wpList_store_row rfl 32 (.tmp 3) (.tmp 8) rfl w1.heap.size zero32 C rfl rfl hz1 hsz hs2 hone ?_)
    intro w2 hU
    have hrw := Lib.hid hU.out.here
    have hb3 := Lib.hid (hb2.out.trans (hU.out.below hbs))
    clear hU hz1 hb2
    go_wp2_with (refine wpList_load_rowG (by rfl) 32 (.tmp 3) rfl w1.heap.size C (.array 32 5) rfl hrw hu0 rfl hsz ?_)
    with_reducible refine (hq.out _).mono ?_
    rintro e w4 ⟨rfl, hb4⟩
    replace hb4 := Lib.hid (hb3.out.trans (hb4.mono hb3.out.size))
    go_wp2_with fail
    go_ret
    exact ⟨rfl, hb4.out⟩
  · have e1 : rightB bs = false := by unfold rightB; rw [decide_eq_false h, Bool.false_and]
    have hcall := Lib.hid (of_size a ca bs w z hz hl h)
    have hone := zero32_one
    rw [e1]
    clear ha hz e1
    have hsz : (Tryd.prog.info? 32).map (·.size) = some zero32.size := by kernel_rfl
    go_enter Tryd.func14, Tryd.ntmps14
    go_wp2_with fail
    with_reducible refine hcall.out.mono ?_
    rintro e w1 ⟨rfl, hb1⟩
    have hz1 := Lib.hid (heap_alloc_new w1 (.cells zero32 32))
    have hb2 := Lib.hid (hb1.alloc hb1.size (.cells zero32 32))
    have hbs := hb1.size
    clear hb1 hcall
    go_wp2_with (with_reducible refine wpList_store_row rfl 32 (.tmp 3) (.tmp 8) rfl w1.heap.size zero32 zero32 rfl rfl hz1 hsz rfl hone ?_)
    intro w2 hU
    have hb3 := Lib.hid (hb2.out.trans (hU.out.below hbs))
    clear hU hz1 hb2
    go_wp2_with fail
    go_ret
    exact ⟨rfl, hb3.out⟩

set_option maxHeartbeats 1000000 in
theorem data_size (a : Option Addr) (ca : Nat) (bs : List UInt8) (w : World) (z : Addr) (hz : SizeAt w z) (hl : bs.length ≤ 1000000) (h : ¬ (33 ≤ bs.length ∧ bs.length ≤ 255)) :
    Calls Tryd.prog 11 #[.slice a bs.length ca] w fun e w' => e = .returned (.tuple #[.slice none 0 0, .iface 81 (.pointer (some z))]) ∧ Drawn w w' := by
  have hd := sub_sized bs.length hl
  rw [decide_eq_false h] at hd
  unfold SizeAt at hz
  clear h
  go_enter Tryd.func11, Tryd.ntmps11
  go_wp2_with fail
  with_reducible refine (sized_any _ _).mono ?_
  rintro e w1 ⟨rfl, rfl⟩
  rw [hd]
  go_wp2_with fail
  go_quiet (fail)
  go_wp2_with fail
  go_ret2
  exact ⟨rfl, _, rfl⟩

set_option maxHeartbeats 1000000 in
theorem data_any (a : Option Addr) (ca : Nat) (bs : List UInt8) (w : World) (ha : ArgB w a ca bs) (h : 33 ≤ bs.length ∧ bs.length ≤ 255) :
    Calls Tryd.prog 11 #[.slice a bs.length ca] w fun e w' => ∃ v, e = .returned (.tuple #[v, .nilIface]) ∧ OwnB w.heap.size w' v (bs.take (bs.length - 32)) ∧ Below w.heap.size w w' := by
  have hd := sub_sized bs.length (by omega)
  rw [show decide (33 ≤ bs.length ∧ bs.length ≤ 255) = true from decide_eq_true h] at hd
  obtain ⟨h1, h2⟩ := h
  have hcap := ha.len
  have hcl : (bs.take (bs.length - 32)).length = bs.length - 32 := by rw [List.length_take]; omega
  have ha2 : ArgB w a ca (bs.take (bs.length - 32)) := by
    refine ⟨by rw [hcl]; omega, ha.most, ha.nil, ?_⟩
    have := (At.ofB ha.row).take (bs.length - 32)
    apply At.toB
    rw [show cB (bs.take (bs.length - 32)) = (cB bs).take (bs.length - 32) from by simp [cB]]
    exact this
  have hc := clone_any a ca (bs.take (bs.length - 32)) w ha2 (by rw [hcl]; omega)
  rw [hcl] at hc
  have e3 : (bs.length : Int) - 32 = ((bs.length - 32 : Nat) : Int) := by omega
  replace hc := Lib.hid hc
  have hd2 : decide (1 ≤ ((bs.length - 32 : Nat) : Int) ∧ ((bs.length - 32 : Nat) : Int) ≤ 223) = true := decide_eq_true (by omega)
  clear ha ha2
  have hlo : (0 : Int) ≤ (bs.length : Int) - 32 := by omega
  have hhi : (bs.length : Int) - 32 ≤ (ca : Int) := by omega
  have hnat : ((bs.length : Int) - 32).toNat = bs.length - 32 := by omega
  go_enter Tryd.func11, Tryd.ntmps11
  go_wp2_with fail
  with_reducible refine (sized_any _ _).mono ?_
  rintro e w1 ⟨rfl, rfl⟩
  rw [hd2]
  go_wp2_with fail
  with_reducible refine hc.out.mono ?_
  rintro e w2 ⟨v, rfl, ho, hb⟩
  replace ho := Lib.hid ho
  replace hb := Lib.hid hb
  go_wp2_with fail
  go_ret2
  exact ⟨_, rfl, ho.out, hb.out⟩

end Go.Proofs.YtenkdikdofhnpaaDoor
