/- RChk0, RdrN. -/
import Derived.Test.YtahnicbokdbjdaaDoorF9ParsSaid20
import Derived.Test.YtahnicbokdbjdaaDoorF11ParsSaid20
import Derived.Test.YtahnicbokdbjdaaDoorF17ParsSaid20
import Derived.Test.YtahnicbokdbjdaaDoorF10ParsSaid20
/- Ahead of the walks of baileeref20.Check: a record's cells as facts. -/
namespace Go.Proofs.YtahnicbokdbjdaaDoor
open Go.RowKit

def z32a : Array Value := #[.int .u8 0, .int .u8 0, .int .u8 0, .int .u8 0, .int .u8 0, .int .u8 0, .int .u8 0, .int .u8 0, .int .u8 0, .int .u8 0, .int .u8 0, .int .u8 0, .int .u8 0, .int .u8 0, .int .u8 0, .int .u8 0, .int .u8 0, .int .u8 0, .int .u8 0, .int .u8 0, .int .u8 0, .int .u8 0, .int .u8 0, .int .u8 0, .int .u8 0, .int .u8 0, .int .u8 0, .int .u8 0, .int .u8 0, .int .u8 0, .int .u8 0, .int .u8 0]
/-- The cells of a record that lies in block b. -/
def RcF (R : Array Value) (lp lr lf : List Value) (v0 v1 v2 : Int) (v3 : ByteArray) (v7 v8 v9 v10 : Int) : Prop :=
  ∀ {T : TypeId} {b : Nat} {W : World}, W.heap[b]? = some (.cells R T (0, 0)) → W.cell? ⟨b, 0, none⟩ = some (.int .i64 v0) ∧ W.cell? ⟨b, 1, none⟩ = some (.int .i64 v1) ∧ W.cell? ⟨b, 2, none⟩ = some (.int .i64 v2) ∧ W.cell? ⟨b, 3, none⟩ = some (.string v3) ∧
    W.cell? ⟨b, 74, none⟩ = some (.int .i64 v7) ∧ W.cell? ⟨b, 75, none⟩ = some (.int .i64 v8) ∧ W.cell? ⟨b, 76, none⟩ = some (.int .i64 v9) ∧ W.cell? ⟨b, 77, none⟩ = some (.int .i64 v10) ∧ Hid (W.rangeAt b 4 lp) ∧ Hid (W.rangeAt b 10 lr) ∧ Hid (W.rangeAt b 42 lf)
theorem Rc.facts (x : Rc) (hx : x.Ok) : RcF x.list.toArray x.p.list (cB x.root) (cB x.file) x.kind x.obj x.id x.name x.way x.index x.verdict x.tick := fun {T b W} h => by
  refine ⟨?_, ?_, ?_, ?_, ?_, ?_, ?_, ?_, Lib.hid (rangeAt_sub h (Rc.sub_p x)), Lib.hid (rangeAt_sub h (Rc.sub_root hx.root)), Lib.hid (rangeAt_sub h (Rc.sub_file hx.root hx.file))⟩
  all_goals rw [cell_of_block h, List.getElem?_toArray]
  · exact x.c0
  · exact x.c1
  · exact x.c2
  · exact x.c3
  · exact Rc.c74 hx.root hx.file
  · exact Rc.c75 hx.root hx.file
  · exact Rc.c76 hx.root hx.file
  · exact Rc.c77 hx.root hx.file
theorem rc_behind {R : Array Value} {lp lr lf : List Value} {v0 v1 v2 : Int} {v3 : ByteArray} {v7 v8 v9 v10 : Int} (hF : RcF R lp lr lf v0 v1 v2 v3 v7 v8 v9 v10) {w w3 : World} {T D : TypeId} (hrow : Hid ((w.alloc (.cells R T)).heap[w.heap.size]? = some (.cells R T (0, 0)))) (hb : Hid (Below w.heap.size w (w.alloc (.cells R T))))
    (hU : Hid (Upd (w.heap.size + 1) (.cells z32a D (0, 0)) ((w.alloc (.cells R T)).alloc (.cells z32a D)) w3)) : Hid (w3.rangeAt (w.heap.size + 1) 0 z32a.toList) ∧ Hid (Below w.heap.size w w3) ∧ Hid (w3.heap[w.heap.size]? = some (.cells R T (0, 0))) ∧
    w3.cell? ⟨w.heap.size, 0, none⟩ = some (.int .i64 v0) ∧ w3.cell? ⟨w.heap.size, 1, none⟩ = some (.int .i64 v1) ∧ w3.cell? ⟨w.heap.size, 2, none⟩ = some (.int .i64 v2) ∧ w3.cell? ⟨w.heap.size, 3, none⟩ = some (.string v3) ∧
    w3.cell? ⟨w.heap.size, 74, none⟩ = some (.int .i64 v7) ∧ w3.cell? ⟨w.heap.size, 75, none⟩ = some (.int .i64 v8) ∧ w3.cell? ⟨w.heap.size, 76, none⟩ = some (.int .i64 v9) ∧ w3.cell? ⟨w.heap.size, 77, none⟩ = some (.int .i64 v10) ∧ Hid (w3.rangeAt w.heap.size 4 lp) ∧ Hid (w3.rangeAt w.heap.size 10 lr) ∧ Hid (w3.rangeAt w.heap.size 42 lf) := by
  have hrow3 : w3.heap[w.heap.size]? = some (.cells R T (0, 0)) := by
    rw [hU.out.block _ (by omega), heapA9, if_neg (by simp)]
    exact hrow.out
  exact ⟨Lib.hid (rangeAt_sub (o := 0) (n := 32) hU.out.here rfl), Lib.hid ((hb.out.alloc (by simp) _).trans (hU.out.below (Nat.le_succ _))), Lib.hid hrow3, hF hrow3⟩
end Go.Proofs.YtahnicbokdbjdaaDoor
/- The reader of records: number, digest. -/
namespace Go.Proofs.YtahnicbokdbjdaaDoor
open Go.RowKit

/-- The number that bytes are; one that is too great becomes one that is none. -/
def numG : List UInt8 → Nat → Nat
  | [], s => s
  | b :: r, s => numG r (min s 2199023255552 * 256 + b.toNat)
theorem or_join (m : Nat) (b : UInt8) (hm : m ≤ 2199023255552) : bits .or .i64 ((m : Int) * 256) (b.toNat : Int) = ((m * 256 + b.toNat : Nat) : Int) := by
  have hb := b.toNat_lt
  have h2 := Nat.shiftLeft_add_eq_or_of_lt (i := 8) (b := b.toNat) hb m
  rw [Nat.shiftLeft_eq] at h2
  have := i64_or_nat (m * 256) b.toNat (by omega) (by omega)
  rw [show ((m : Int) * 256) = ((m * 256 : Nat) : Int) from by omega, this]
  rw [show m * 2 ^ 8 = m * 256 from rfl] at h2
  rw [h2]
def NumPost (w : World) (q B : Nat) (bs : List UInt8) (sh : Bool) (n : Nat) (e : Ending) (w' : World) : Prop :=
  e = .returned (.int .i64 (numG (takeO bs sh n) 0 : Nat)) ∧ RdM w' q B (takeB bs sh n) (takeS bs sh n) ∧ Only (fun k => k = q) w w'

set_option maxHeartbeats 1000000 in
theorem number_any (q B : Nat) (bs : List UInt8) (sh : Bool) (n : Nat) (w : World) (h : RdM w q B bs sh) (hn : n ≤ 8) (hm : bs.length ≤ 1000000) : Calls Tryd.prog 31 #[.pointer (some ⟨q, 0, none⟩), .int .i64 (n : Int)] w (NumPost w q B bs sh n) := by
  have htk := Lib.hid (take_any q B bs sh n w h (by omega) hm)
  have hlen := takeO_length bs sh n
  have hpost := Lib.hid (fun (w' : World) (S : Nat) (h1 : numG (takeO bs sh n) 0 = S) (h2 : RdM w' q B (takeB bs sh n) (takeS bs sh n)) (h3 : Only (fun k => k = q) w w') => (⟨by rw [h1], h2, h3⟩ : NumPost w q B bs sh n (.returned (.int .i64 (S : Int))) w'))
  clear h
  go_enter Tryd.func31, Tryd.ntmps31
  go_wp2_with fail
  with_reducible refine htk.out.mono ?_
  rintro e w2 ⟨a, c, rfl, ha, _, hrd, hO⟩
  have hfin : ∀ S : Nat, numG (takeO bs sh n) 0 = S → NumPost w q B bs sh n (.returned (.int .i64 (S : Int))) w2 := fun S h1 => hpost.out w2 S h1 hrd hO
  clear hrd hO hpost htk
  generalize takeO bs sh n = xs at *
  subst hlen
  obtain ⟨L, hL⟩ : ∃ L, L = xs.length := ⟨_, rfl⟩
  rw [← hL]
  rw [← hL] at hn
  replace hfin := Lib.hid hfin
  replace hL := Lib.hid hL
  replace ha := Lib.hid ha
  go_wp2_with fail
  go_loop [5, 7, 12] (fun s _ j => ∃ (k : Nat) (S : Nat), k ≤ L ∧ j = .int .i64 k ∧ s = .int .i64 (S : Int) ∧ S ≤ 562949953421567 ∧ numG xs 0 = numG (xs.drop k) S) (fun _ _ j => L - (intOf j).toNat)
  case atStart => exact ⟨0, 0, Nat.zero_le _, rfl, rfl, by omega, by rw [List.drop_zero]⟩
  case round =>
    obtain ⟨k, S, hk, rfl, rfl, hS1, hrec⟩ := hrel
    by_cases hlt : k < L
    · have hkb : k < xs.length := by rw [← hL.out]; exact hlt
      obtain ⟨g, off, e0, hc⟩ := ha.out.row k hkb
      have hli : (k : Int) < L := by omega
      rw [drop_cf xs k hkb] at hrec
      subst e0
      generalize xs.getD k 0 = b at *
      have hb := b.toNat_lt
      obtain ⟨M, hM⟩ : ∃ M, M = min S 2199023255552 := ⟨_, rfl⟩
      have hmn : (if (2199023255552 : Int) < (S : Int) then (2199023255552 : Int) else (S : Int)) = (M : Int) := by split <;> omega
      have hmn2 : min (S : Int) 2199023255552 = (M : Int) := by omega
      have hMl : M ≤ 2199023255552 := by omega
      have hr : numG xs 0 = numG (xs.drop (k + 1)) (M * 256 + b.toNat) := by rw [hrec, hM]; rfl
      have hw1 : IntKind.i64.wrap ((M : Int) * 256) = (M : Int) * 256 := IntWalk.i64_in _ (by omega)
      have hw4 : wrap64 ((M : Int) * 256) = (M : Int) * 256 := IntWalk.wrap64_in _ (by omega)
      have hw2 : IntKind.i64.wrap (b.toNat : Int) = (b.toNat : Int) := IntWalk.i64_in _ (by omega)
      have hor := or_join M b hMl
      have hbd := Lib.hid (show M * 256 + b.toNat ≤ 562949953421567 from by omega)
      clear hrec
      replace hM := Lib.hid hM
      replace hr := Lib.hid hr
      go_wp2_with fail
      exact ⟨⟨k + 1, M * 256 + b.toNat, by omega, by go_num, by first | rfl | go_num, hbd.out, hr.out⟩, by simp [intOf]; omega⟩
    · obtain rfl : k = L := by omega
      have hr : numG xs 0 = S := by rw [hrec, hL.out, List.drop_length]; rfl
      clear hrec
      replace hr := Lib.hid hr
      go_wp2_with fail
      go_ret
      exact hfin.out S hr.out
section
variable {P : Program} {ops : Array Oper} {rest : List Oper} {o : Oper} {a : Act} {w : World} {Q : Exit → Act → World → Prop}
/-- A slice as an array: its address. -/
theorem wpList_s2a (hgd : o.guard = none) (arr : TypeId) (x : Operand) (ho : o.op = .sliceToArrayPointer arr x) (ad : Addr) (l c n : Nat) (e : TypeId) (hx : a.eval x = .slice (some ad) l c) (hu : P.underlying arr = some (.array n e)) (hl : n ≤ l)
    (h : wpList P ops Q rest (a.put o.dst (.pointer (some ad))) w) : wpList P ops Q (o :: rest) a w := by
  refine wpList_plain hgd fun K hK => ?_
  have h2 := hK _ _ h
  have hn : ¬ l < n := by omega
  unfold Oper.wp execOp
  simp only [ho, hx, Instr.arrayAt, run_underlying hu, Sem.run_bind, Sem.run_pure, Result.andThen_ok, if_neg hn]
  exact h2
end
theorem rangeAt_arg {w : World} {b o c : Nat} {xs : List UInt8} (h : ArgB w (some ⟨b, o, none⟩) c xs) : w.rangeAt b o (cB xs) := fun j v hv => by
  have hj : j < xs.length := by have := (List.getElem?_eq_some_iff.1 hv).1; rwa [cB_length] at this
  obtain ⟨b', o', e, hc⟩ := h.row j hj
  cases e
  rw [hc, ← hv]
  simp [cB, hj]
def DigPost (w : World) (q B : Nat) (bs : List UInt8) (sh : Bool) (e : Ending) (w' : World) : Prop :=
  e = .returned (.agg (cB (takeO bs sh 32)).toArray) ∧ RdM w' q B (takeB bs sh 32) (takeS bs sh 32) ∧ Only (fun k => k = q) w w'
set_option maxHeartbeats 1000000 in
theorem digest_any (q B : Nat) (bs : List UInt8) (sh : Bool) (w : World) (h : RdM w q B bs sh) (hm : bs.length ≤ 1000000) (hB : B ≤ w.heap.size) : Calls Tryd.prog 47 #[.pointer (some ⟨q, 0, none⟩)] w (DigPost w q B bs sh) := by
  have htk : ∀ W, RdM W q B bs sh → Calls Tryd.prog 45 #[.pointer (some ⟨q, 0, none⟩), .int .i64 32] W (TakePost W q B bs sh 32) := fun W h => take_any q B bs sh 32 W h (by omega) hm
  replace htk := Lib.hid htk
  have hlt : q < w.heap.size := by obtain ⟨a, c, h1, _⟩ := h; exact block_lt h1
  have hlen := takeO_length bs sh 32
  obtain ⟨w1, hw1⟩ : ∃ w1, w1 = w.alloc (.cells #[.int .u8 0, .int .u8 0, .int .u8 0, .int .u8 0, .int .u8 0, .int .u8 0, .int .u8 0, .int .u8 0, .int .u8 0, .int .u8 0, .int .u8 0, .int .u8 0, .int .u8 0, .int .u8 0, .int .u8 0, .int .u8 0, .int .u8 0, .int .u8 0, .int .u8 0, .int .u8 0, .int .u8 0, .int .u8 0, .int .u8 0, .int .u8 0, .int .u8 0, .int .u8 0, .int .u8 0, .int .u8 0, .int .u8 0, .int .u8 0, .int .u8 0, .int .u8 0] 29) := ⟨_, rfl⟩
  have h1 : RdM w1 q B bs sh := by
    rw [hw1]
    exact h.only (D := fun _ => False) (Only.ofBelow ((Below.refl _ _).alloc (Nat.le_refl _) _)) (fun e => e) (fun k e => e.elim)
  replace h1 := Lib.hid h1
  have hz1 : w1.heap[w.heap.size]? = some (.cells z32a 29 (0, 0)) := by rw [hw1]; exact heap_alloc_new w (.cells z32a 29)
  have hb1 : Below w.heap.size w w1 := by rw [hw1]; exact (Below.refl _ _).alloc (Nat.le_refl _) _
  have hi5 : (Tryd.prog.info? 29).map (·.size) = some (cB (takeO bs sh 32)).toArray.size := by rw [List.size_toArray, cB_length, hlen]; kernel_rfl
  have hi6 : (Tryd.prog.info? 29).map (·.size) = some (cB (takeO bs sh 32)).length := by rw [cB_length, hlen]; kernel_rfl
  have hz5 : z32a.size = (cB (takeO bs sh 32)).toArray.size := by show 32 = _; rw [List.size_toArray, cB_length, hlen]
  have ho5 := arr_one (cB_one (takeO bs sh 32))
  have hud := Tryd.underlying29
  replace hw1 := Lib.hid hw1
  have hlw1 : w.heap.size < w1.heap.size := block_lt hz1
  replace hz1 := Lib.hid hz1
  replace hb1 := Lib.hid hb1
  go_enter Tryd.func47, Tryd.ntmps47
  go_wp2_with fail
  rw [← hw1.out]
  with_reducible refine (htk.out _ h1.out).mono ?_
  rintro e w2 ⟨a, c, rfl, ha, hne, hrd, hO⟩
  have hz2 := Lib.hid (hO.heap hz1.out (by omega))
  have had : ∃ b o, a = some ⟨b, o, none⟩ := by
    cases a with
    | none => have h2 := ha.nil rfl; have h3 := ha.len; rw [hlen] at h3; omega
    | some ad => obtain ⟨b, o, rfl, _⟩ := hne ad rfl; exact ⟨b, o, rfl⟩
  obtain ⟨b, o, rfl⟩ := had
  have hr := Lib.hid (rangeAt_arg ha)
  have hpost : ∀ w3, Hid (Upd w.heap.size (.cells (cB (takeO bs sh 32)).toArray 29 (0, 0)) w2 w3) → DigPost w q B bs sh (.returned (.agg (cB (takeO bs sh 32)).toArray)) w3 := fun w3 hU => by
    have hO3 : Only (fun k => k = w.heap.size) w2 w3 := Only.ofUpd hU.out rfl
    have hO12 : Only (fun k => k = q) w w2 := (Only.ofBelow (D := fun k => k = q) hb1.out).trans hO (fun _ _ e => e)
    refine ⟨rfl, ?_, hO12.trans hO3 (fun k hk e => by omega)⟩
    exact hrd.only hO3 (by omega) (fun k hk => by omega)
  generalize hX : (cB (takeO bs sh 32)).toArray = X at *
  generalize cB (takeO bs sh 32) = lx at *
  clear ha hne hrd hO htk h1
  replace hpost := Lib.hid hpost
  go_wp2_with (first
    | (refine wpList_s2a rfl 29 (.tmp 4) rfl ⟨b, o, none⟩ 32 c 32 _ rfl hud (Nat.le_refl _) ?_)
    | ((with_reducible show wpList _ _ _ (Oper.mk _ (Op.load 29 (.tmp 5)) _ _ _ _ :: _) _ _); refine wpList_load_mid rfl 29 (.tmp 5) rfl b o rfl lx _ hr.out hud rfl hi6 ?_; rw [hX])
    | ((with_reducible show wpList _ _ _ (Oper.mk _ (Op.store 29 (.tmp 2) _) _ _ _ _ :: _) _ _); (refine wpList_store_row rfl 29 (.tmp 2) (.tmp 6) rfl w.heap.size z32a X rfl rfl hz2 hi5 hz5 ho5 ?_); intro w3 hU3))
  exact ret_cell_row rfl rfl hud rfl hi5 hU3.out.here (hpost.out w3 hU3)
end Go.Proofs.YtahnicbokdbjdaaDoor
