/- record.Check for every record: which error. -/
import Derived.Test.YtpehdoepcpmnbaaDoorF20ModelOfSaid
import Derived.Test.YtpehdoepcpmnbaaDoorF27ModelOfSaid
import Derived.Test.YtpehdoepcpmnbaaDoorLabelA
namespace Go.Proofs.YtpehdoepcpmnbaaDoor
open Go.RowKit

/-- A value of type error, and its number (0: nil). -/
def ErrIs (ea : Nat → Addr) (w : World) (v : Value) (n : Nat) : Prop :=
  (n = 0 ∧ v = .nilIface) ∨ (∃ i, i < 20 ∧ n = i + 1 ∧ v = .iface 177 (.pointer (some (ea i)))) ∨
  ∃ i g F V, i < 20 ∧ n = i + 1 ∧ v = .iface 126 (.pointer (some ⟨g, 0, none⟩)) ∧ w.heap[g]? = some (.cells #[.string F, .int .i64 V, .iface 177 (.pointer (some (ea i)))] 128 (0, 0))
theorem ErrIs.below {ea : Nat → Addr} {w w' : World} {v : Value} {n : Nat} (h : ErrIs ea w v n) (hb : Below w.heap.size w w') : ErrIs ea w' v n := by
  rcases h with h | h | ⟨i, g, F, V, h1, h2, h3, h4⟩
  · exact .inl h
  · exact .inr (.inl h)
  · exact .inr (.inr ⟨i, g, F, V, h1, h2, h3, (hb.block _ (block_lt h4)).trans h4⟩)
theorem ErrIs.lt {ea : Nat → Addr} {w : World} {v : Value} {n : Nat} (h : ErrIs ea w v n) : n ≤ 20 := by
  rcases h with ⟨rfl, rfl⟩ | ⟨i, h1, rfl, rfl⟩ | ⟨i, g, F, V, h1, rfl, rfl, h4⟩ <;> omega
/-- 'err != nil'. -/
theorem ErrIs.neq {ea : Nat → Addr} {w : World} {v : Value} {n : Nat} (h : ErrIs ea w v n) (W : World) : (binOp .neq 61 v .nilIface).run Tryd.prog W = .ok (.bool (n != 0)) W := by
  rcases h with ⟨rfl, rfl⟩ | ⟨i, h1, rfl, rfl⟩ | ⟨i, g, F, V, h1, rfl, rfl, h4⟩
  · show _ = _
    kernel_rfl
  · show _ = _
    kernel_rfl
  · show _ = _
    kernel_rfl
theorem ErrIs.guard {ea : Nat → Addr} {w : World} {v : Value} {n : Nat} (h : ErrIs ea w v n) (W : World) (i : Nat) : Sem.run Tryd.prog (eqGuard .neq 61 (.tmp i) (.const .nilIface) v .nilIface) W = .ok () W := by
  rcases h with ⟨rfl, rfl⟩ | ⟨i, h1, rfl, rfl⟩ | ⟨i, g, F, V, h1, rfl, rfl, h4⟩
  · show _ = _
    kernel_rfl
  · show _ = _
    kernel_rfl
  · show _ = _
    kernel_rfl

def Rc.chk (x : Rc) : Nat :=
  if x.kind < 1 ∨ 4 < x.kind then 7 else if x.nums = false then 1
  else if x.kind = 1 then (if labB x.name.data.toList = false then 6 else match badAt x.p.s x.p.n x.p.k x.p.d x.p.t x.p.r with
    | some (_, _, i) => i + 1
    | none => if x.bare = Rc.zero then 0 else 4)
  else if x.bare = Rc.zero then 0 else 4
def ChkPost (ea : Nat → Addr) (x : Rc) (w : World) (e : Ending) (w' : World) : Prop := ∃ v, e = .returned v ∧ ErrIs ea w' v x.chk ∧ Below w.heap.size w w'
theorem parCheck_any (p : P6) (hp : p.Ok) (ea : Nat → Addr) (w : World) (H : Errs 177 errGs w ea) :
    Calls Tryd.prog 38 #[.agg p.list.toArray] w fun e w' => ∃ v, e = .returned v ∧ ErrIs ea w' v (match badAt p.s p.n p.k p.d p.t p.r with | some (_, _, i) => i + 1 | none => 0) ∧ Below w.heap.size w w' := by
  cases hb : badAt p.s p.n p.k p.d p.t p.r with
  | none =>
    refine (check_ok p.s p.n p.k p.d p.t p.r (badAt_ok hb) (pz ea) w (par_of H)).mono ?_
    rintro e w' ⟨rfl, h⟩
    exact ⟨_, rfl, .inl ⟨rfl, rfl⟩, h⟩
  | some q =>
    obtain ⟨F, V, i⟩ := q
    refine (check_wrong p.s p.n p.k p.d p.t p.r F V i hb hp.2.1 ea w H).mono ?_
    rintro e w' ⟨g, rfl, _, h2, h3⟩
    exact ⟨_, rfl, .inr (.inr ⟨i, g, F, V, badAt_lt hb, rfl, rfl, h2⟩), h3⟩
theorem chkErrs {ea : Nat → Addr} {w : World} (H : Errs 177 errGs w ea) : ∀ W, Below w.heap.size w W →
    W.cell? ⟨6, 0, none⟩ = some (.iface 177 (.pointer (some (ea 6)))) ∧ W.cell? ⟨8, 0, none⟩ = some (.iface 177 (.pointer (some (ea 0)))) ∧
    W.cell? ⟨1, 0, none⟩ = some (.iface 177 (.pointer (some (ea 5)))) ∧ W.cell? ⟨11, 0, none⟩ = some (.iface 177 (.pointer (some (ea 3)))) := fun W hW => by
  obtain ⟨g0, g1, g2, g3, g4, g5, g6, _⟩ := num_cells (H.below hW)
  exact ⟨g6, g0, g5, g3⟩

set_option maxRecDepth 100000 in
set_option maxHeartbeats 2000000 in
theorem check_any (x : Rc) (hx : x.Ok) (ea : Nat → Addr) (w : World) (H : Errs 177 errGs w ea) : Calls Tryd.prog 33 #[.agg x.list.toArray] w (ChkPost ea x w) := by
  have hs := Rc.size hx
  have r0 := Rc.at0 x
  have r3 := Rc.at3 x
  have hsub4 : (x.list.drop 4).take 6 = x.p.list := Rc.sub_p x
  have hnum := Lib.hid (fun W => numbers_any x hx W)
  have hbare := Lib.hid (fun W => bare_any x hx W)
  have hlab := Lib.hid (fun W => label_any x.name W (Nat.le_trans hx.name (by decide)))
  have hpar := Lib.hid (fun W (h : Errs 177 errGs W ea) => parCheck_any x.p hx.p ea W h)
  have hneq := fun W => (neq_rcG x.bare Rc.zero (Rc.bare_ok hx) Rc.zero_ok W).1
  rw [← Rc.zeroG] at hneq
  have hsz : (Tryd.prog.info? 59).map (·.size) = some x.list.toArray.size := by rw [hs]; kernel_rfl
  have hszp : (Tryd.prog.info? 42).map (·.size) = some x.p.list.length := by rw [P6.len]; kernel_rfl
  have hE := Lib.hid (chkErrs H)
  have hpost : ∀ v n W, ErrIs ea W v n → Below w.heap.size w W → x.chk = n → ChkPost ea x w (.returned v) W := fun v n W h1 h2 h3 => ⟨v, rfl, by rw [h3]; exact h1, h2⟩
  have hchk := Lib.hid (rfl : x.chk = x.chk)
  have hcE : x.chk = (if x.kind < 1 ∨ 4 < x.kind then 7 else if x.nums = false then 1
    else if x.kind = 1 then (if labB x.name.data.toList = false then 6 else match badAt x.p.s x.p.n x.p.k x.p.d x.p.t x.p.r with
    | some (_, _, i) => i + 1
    | none => if x.bare = Rc.zero then 0 else 4)
  else if x.bare = Rc.zero then 0 else 4) := rfl
  have hr4 : ∀ W : World, W.heap[w.heap.size]? = some (.cells x.list.toArray 59 (0, 0)) → W.rangeAt w.heap.size 4 x.p.list := fun W hW j v hv => by
    rw [cell_of_block hW]
    rw [← hsub4, List.getElem?_take] at hv
    split at hv
    · rw [List.getElem?_drop] at hv
      simpa using hv
    · cases hv
  have hc0 : ∀ W : World, W.heap[w.heap.size]? = some (.cells x.list.toArray 59 (0, 0)) → W.cell? ⟨w.heap.size, 0, none⟩ = some (.int .i64 x.kind) ∧ W.cell? ⟨w.heap.size, 3, none⟩ = some (.string x.name) := fun W hW => ⟨by rw [cell_of_block hW]; simp [Rc.list], by rw [cell_of_block hW]; simp [Rc.list]⟩
  generalize hR : x.list.toArray = R at *
  have hrow := Lib.hid (heap_alloc_new w (.cells R 59))
  have hb := Lib.hid (show Below w.heap.size w (w.alloc (.cells R 59)) from (Below.refl _ _).alloc (Nat.le_refl _) _)
  have hzc := Tryd.underlying59
  have hup := Tryd.underlying42
  generalize x.bare = xb at *
  generalize x.nums = nb at *
  generalize hlb : labB x.name.data.toList = lb at *
  replace hR := Lib.hid hR
  replace hcE := Lib.hid hcE
  replace hpost := Lib.hid hpost
  replace hr4 := Lib.hid hr4
  replace hc0 := Lib.hid hc0
  replace hlb := Lib.hid hlb
  replace H := Lib.hid H
  have hrow0 := hrow
  have hb0 := hb
  obtain ⟨z0, z3⟩ := hc0.out _ hrow.out
  obtain ⟨e1, e2, e3, e4⟩ := hE.out _ hb.out
  clear hx hsub4 hchk
  by_cases hin : x.kind < 1 ∨ 4 < x.kind
  · have hi : inB x.kind 1 4 = false := by unfold inB; simp; omega
    replace hin := Lib.hid hin
    go_enter Tryd.func33, Tryd.ntmps33
    go_wp2_with fail
    with_reducible refine (within_any x.kind 1 4 _).mono ?_
    rintro e w1 ⟨rfl, rfl⟩
    go_wp2_with fail
    go_ret
    exact hpost.out _ 7 _ (.inr (.inl ⟨6, by decide, rfl, rfl⟩)) hb.out (by rw [hcE.out, if_pos hin.out])
  · have hi : inB x.kind 1 4 = true := by unfold inB; simp; omega
    replace hin := Lib.hid hin
    cases nb
    · go_enter Tryd.func33, Tryd.ntmps33
      go_wp2_with fail
      with_reducible refine (within_any x.kind 1 4 _).mono ?_
      rintro e w1 ⟨rfl, rfl⟩
      go_wp2_with (with_reducible refine wpList_load_row rfl 59 (.tmp 1) rfl w.heap.size R _ rfl hrow hzc rfl hsz ?_)
      with_reducible refine (hnum.out _).mono ?_
      rintro e w2 ⟨rfl, hnew⟩
      clear z0 z3 e1 e2 e3 e4
      have hrow2 := Lib.hid ((hnew.block _ (block_lt hrow0.out)).trans hrow0.out)
      have hb2 := Lib.hid (hb0.out.trans (hnew.mono hb0.out.size))
      obtain ⟨z0, z3⟩ := hc0.out _ hrow2.out
      obtain ⟨e1, e2, e3, e4⟩ := hE.out _ hb2.out
      clear hnew
      go_wp2_with fail
      go_ret
      exact hpost.out _ 1 _ (.inr (.inl ⟨0, by decide, rfl, rfl⟩)) hb2.out (by rw [hcE.out, if_neg hin.out]; simp)
    · by_cases hk1 : x.kind = 1
      · have hkb : (x.kind == 1) = true := by simpa using hk1
        replace hk1 := Lib.hid hk1
        cases lb
        · go_enter Tryd.func33, Tryd.ntmps33
          go_wp2_with fail
          with_reducible refine (within_any x.kind 1 4 _).mono ?_
          rintro e w1 ⟨rfl, rfl⟩
          go_wp2_with (with_reducible refine wpList_load_row rfl 59 (.tmp 1) rfl w.heap.size R _ rfl hrow hzc rfl hsz ?_)
          with_reducible refine (hnum.out _).mono ?_
          rintro e w2 ⟨rfl, hnew⟩
          clear z0 z3 e1 e2 e3 e4
          have hrow2 := Lib.hid ((hnew.block _ (block_lt hrow0.out)).trans hrow0.out)
          have hb2 := Lib.hid (hb0.out.trans (hnew.mono hb0.out.size))
          obtain ⟨z0, z3⟩ := hc0.out _ hrow2.out
          obtain ⟨e1, e2, e3, e4⟩ := hE.out _ hb2.out
          clear hnew
          go_wp2_with fail
          with_reducible refine (hlab.out _).mono ?_
          rintro e w3 ⟨rfl, hnew⟩
          clear z0 z3 e1 e2 e3 e4
          have hrow3 := Lib.hid ((hnew.block _ (block_lt hrow2.out)).trans hrow2.out)
          have hb3 := Lib.hid (hb2.out.trans (hnew.mono hb2.out.size))
          obtain ⟨z0, z3⟩ := hc0.out _ hrow3.out
          obtain ⟨e1, e2, e3, e4⟩ := hE.out _ hb3.out
          clear hnew
          go_wp2_with fail
          go_ret
          exact hpost.out _ 6 _ (.inr (.inl ⟨5, by decide, rfl, rfl⟩)) hb3.out (by rw [hcE.out, if_neg hin.out]; simp [hk1.out])
        · go_enter Tryd.func33, Tryd.ntmps33
          go_wp2_with fail
          with_reducible refine (within_any x.kind 1 4 _).mono ?_
          rintro e w1 ⟨rfl, rfl⟩
          go_wp2_with (with_reducible refine wpList_load_row rfl 59 (.tmp 1) rfl w.heap.size R _ rfl hrow hzc rfl hsz ?_)
          with_reducible refine (hnum.out _).mono ?_
          rintro e w2 ⟨rfl, hnew⟩
          clear z0 z3 e1 e2 e3 e4
          have hrow2 := Lib.hid ((hnew.block _ (block_lt hrow0.out)).trans hrow0.out)
          have hb2 := Lib.hid (hb0.out.trans (hnew.mono hb0.out.size))
          obtain ⟨z0, z3⟩ := hc0.out _ hrow2.out
          obtain ⟨e1, e2, e3, e4⟩ := hE.out _ hb2.out
          clear hnew
          go_wp2_with fail
          with_reducible refine (hlab.out _).mono ?_
          rintro e w3 ⟨rfl, hnew⟩
          clear z0 z3 e1 e2 e3 e4
          have hrow3 := Lib.hid ((hnew.block _ (block_lt hrow2.out)).trans hrow2.out)
          have hb3 := Lib.hid (hb2.out.trans (hnew.mono hb2.out.size))
          obtain ⟨z0, z3⟩ := hc0.out _ hrow3.out
          obtain ⟨e1, e2, e3, e4⟩ := hE.out _ hb3.out
          clear hnew
          have hr4' := hr4.out _ hrow3.out
          go_wp2_with ((with_reducible show wpList _ _ _ (Oper.mk _ (Op.load 42 (.tmp 29)) _ _ _ _ :: _) _ _); refine wpList_load_mid rfl 42 (.tmp 29) rfl w.heap.size 4 rfl x.p.list _ hr4' hup rfl hszp ?_)
          with_reducible refine (hpar.out _ (H.out.below hb3.out)).mono ?_
          rintro e w4 ⟨v4, rfl, hv4, hnew⟩
          clear z0 z3 e1 e2 e3 e4 hr4'
          have hrow4 := Lib.hid ((hnew.block _ (block_lt hrow3.out)).trans hrow3.out)
          have hb4 := Lib.hid (hb3.out.trans (hnew.mono hb3.out.size))
          obtain ⟨z0, z3⟩ := hc0.out _ hrow4.out
          obtain ⟨e1, e2, e3, e4⟩ := hE.out _ hb4.out
          clear hnew
          have hnq := hv4.neq
          have hng := hv4.guard
          cases hbd : badAt x.p.s x.p.n x.p.k x.p.d x.p.t x.p.r with
          | some q =>
            obtain ⟨F, V, i⟩ := q
            rw [hbd] at hv4 hnq
            simp only at hv4 hnq
            have hi0 : ((i + 1 : Nat) != 0) = true := by simp
            rw [hi0] at hnq
            replace hv4 := Lib.hid hv4
            replace hbd := Lib.hid hbd
            go_wp2_with fail
            go_ret
            exact hpost.out _ (i + 1) _ hv4.out hb4.out (by rw [hcE.out, if_neg hin.out]; simp [hk1.out, hbd.out])
          | none =>
            rw [hbd] at hv4 hnq
            simp only [bne_self_eq_false] at hv4 hnq
            replace hv4 := Lib.hid hv4
            replace hbd := Lib.hid hbd
            go_wp2_with (with_reducible refine wpList_load_row rfl 59 (.tmp 1) rfl w.heap.size R _ rfl hrow4 hzc rfl hsz ?_)
            with_reducible refine (hbare.out _).mono ?_
            rintro e w9 ⟨rfl, hnew⟩
            have hrow9 := Lib.hid ((hnew.block _ (block_lt hrow4.out)).trans hrow4.out)
            have hb9 := Lib.hid (hb4.out.trans (hnew.mono hb4.out.size))
            obtain ⟨z0, z3⟩ := hc0.out _ hrow9.out
            obtain ⟨e1, e2, e3, e4⟩ := hE.out _ hb9.out
            clear hnew
            have hq := hneq w9
            by_cases hz : xb = Rc.zero
            · have hd : (decide (xb = Rc.zero)) = true := by simpa using hz
              rw [hd] at hq
              replace hz := Lib.hid hz
              go_wp2_with fail
              go_ret
              exact hpost.out _ 0 _ (.inl ⟨rfl, rfl⟩) hb9.out (by rw [hcE.out, if_neg hin.out]; simp [hk1.out, hbd.out, hz.out])
            · have hd : (decide (xb = Rc.zero)) = false := by simpa using hz
              rw [hd] at hq
              replace hz := Lib.hid hz
              go_wp2_with fail
              go_ret
              exact hpost.out _ 4 _ (.inr (.inl ⟨3, by decide, rfl, rfl⟩)) hb9.out (by rw [hcE.out, if_neg hin.out]; simp [hk1.out, hbd.out, hz.out])
      · have hkb : (x.kind == 1) = false := by simpa using hk1
        replace hk1 := Lib.hid hk1
        go_enter Tryd.func33, Tryd.ntmps33
        go_wp2_with fail
        with_reducible refine (within_any x.kind 1 4 _).mono ?_
        rintro e w1 ⟨rfl, rfl⟩
        go_wp2_with (with_reducible refine wpList_load_row rfl 59 (.tmp 1) rfl w.heap.size R _ rfl hrow hzc rfl hsz ?_)
        with_reducible refine (hnum.out _).mono ?_
        rintro e w2 ⟨rfl, hnew⟩
        clear z0 z3 e1 e2 e3 e4
        have hrow2 := Lib.hid ((hnew.block _ (block_lt hrow0.out)).trans hrow0.out)
        have hb2 := Lib.hid (hb0.out.trans (hnew.mono hb0.out.size))
        obtain ⟨z0, z3⟩ := hc0.out _ hrow2.out
        obtain ⟨e1, e2, e3, e4⟩ := hE.out _ hb2.out
        clear hnew
        go_wp2_with (with_reducible refine wpList_load_row rfl 59 (.tmp 1) rfl w.heap.size R _ rfl hrow2 hzc rfl hsz ?_)
        with_reducible refine (hbare.out _).mono ?_
        rintro e w9 ⟨rfl, hnew⟩
        have hrow9 := Lib.hid ((hnew.block _ (block_lt hrow2.out)).trans hrow2.out)
        have hb9 := Lib.hid (hb2.out.trans (hnew.mono hb2.out.size))
        obtain ⟨z0, z3⟩ := hc0.out _ hrow9.out
        obtain ⟨e1, e2, e3, e4⟩ := hE.out _ hb9.out
        clear hnew
        have hq := hneq w9
        by_cases hz : xb = Rc.zero
        · have hd : (decide (xb = Rc.zero)) = true := by simpa using hz
          rw [hd] at hq
          replace hz := Lib.hid hz
          go_wp2_with fail
          go_ret
          exact hpost.out _ 0 _ (.inl ⟨rfl, rfl⟩) hb9.out (by rw [hcE.out, if_neg hin.out]; simp [hk1.out, hz.out])
        · have hd : (decide (xb = Rc.zero)) = false := by simpa using hz
          rw [hd] at hq
          replace hz := Lib.hid hz
          go_wp2_with fail
          go_ret
          exact hpost.out _ 4 _ (.inr (.inl ⟨3, by decide, rfl, rfl⟩)) hb9.out (by rw [hcE.out, if_neg hin.out]; simp [hk1.out, hz.out])

end Go.Proofs.YtpehdoepcpmnbaaDoor
