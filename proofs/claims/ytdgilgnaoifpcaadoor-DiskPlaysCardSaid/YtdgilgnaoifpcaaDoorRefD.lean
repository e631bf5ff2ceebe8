/- Walks over the reference's disk: deed, Read, Arm. -/
import Derived.Test.YtdgilgnaoifpcaaDoorRefDM
import Derived.Test.YtdgilgnaoifpcaaDoorRowsCp
import Derived.Test.YtdgilgnaoifpcaaDoorArm
import Derived.Test.YtdgilgnaoifpcaaDoorOpenD
namespace Go.Proofs.YtdgilgnaoifpcaaDoor
open Go.RowKit

/-- An answer's number. -/
def numD : Nat → Int
  | 0 => 0
  | 1 => 1
  | 2 => 8
  | _ => 14
set_option maxHeartbeats 400000 in
theorem rdeed_bad (R : Nat) (va vw : Value) (armed : Bool) (rl : Int) (gone : Bool) (T : TypeId) (h : (gone || (armed && rl == 0)) = true) (w : World) (hat : w.heap[R]? = some (.cells (rcells va vw armed rl gone) T (0, 0))) :
    Calls Tryd.prog 38 #[.pointer (some ⟨R, 0, none⟩)] w fun x w' => x = .returned (.int .i64 14) ∧ Upd R (.cells (rcells va vw armed rl true) T (0, 0)) w w' := by
  have c2 : w.cell? ⟨R, 2, none⟩ = some (.bool armed) := by rw [cell_of_block hat]; rfl
  have c3 : w.cell? ⟨R, 3, none⟩ = some (.int .i64 rl) := by rw [cell_of_block hat]; rfl
  have c4 : w.cell? ⟨R, 4, none⟩ = some (.bool gone) := by rw [cell_of_block hat]; rfl
  have f4 : w.frozen? ⟨R, 4, none⟩ = false := free_of_block hat _
  cases gone
  · obtain ⟨ha, hl⟩ : armed = true ∧ rl = 0 := by simpa using h
    subst ha hl
    have hU := Lib.hid ((Upd.refl hat).setCell (j := 4) (.bool true))
    clear h hat
    go_enter Tryd.func38, Tryd.ntmps38
    go_wp2_with fail
    go_ret
    exact ⟨rfl, hU.out⟩
  · have hU := Lib.hid (Upd.refl hat)
    clear h hat
    go_enter Tryd.func38, Tryd.ntmps38
    go_wp2_with fail
    go_ret
    exact ⟨rfl, hU.out⟩
set_option maxHeartbeats 400000 in
theorem rdeed_go (R : Nat) (va vw : Value) (armed : Bool) (rl : Int) (T : TypeId) (h : armed = true → rl ≠ 0) (hl : 0 ≤ rl ∧ rl ≤ 9223372036854775807) (w : World) (hat : w.heap[R]? = some (.cells (rcells va vw armed rl false) T (0, 0))) :
    Calls Tryd.prog 38 #[.pointer (some ⟨R, 0, none⟩)] w fun x w' => x = .returned (.int .i64 0) ∧ Upd R (.cells (rcells va vw armed (if armed = true then rl - 1 else rl) false) T (0, 0)) w w' := by
  have c2 : w.cell? ⟨R, 2, none⟩ = some (.bool armed) := by rw [cell_of_block hat]; rfl
  have c3 : w.cell? ⟨R, 3, none⟩ = some (.int .i64 rl) := by rw [cell_of_block hat]; rfl
  have c4 : w.cell? ⟨R, 4, none⟩ = some (.bool false) := by rw [cell_of_block hat]; rfl
  have f3 : w.frozen? ⟨R, 3, none⟩ = false := free_of_block hat _
  cases armed
  · have hU := Lib.hid (Upd.refl hat)
    clear h hat
    go_enter Tryd.func38, Tryd.ntmps38
    go_wp2_with fail
    go_ret
    exact ⟨rfl, hU.out⟩
  · have hw : IntKind.i64.wrap (rl - 1) = rl - 1 := IntWalk.i64_in _ (by omega)
    have h0 : (rl == 0) = false := by simpa using h rfl
    have hU := Lib.hid ((Upd.refl hat).setCell (j := 3) (.int .i64 (rl - 1)))
    clear h hat
    go_enter Tryd.func38, Tryd.ntmps38
    go_wp2_with fail
    go_ret
    exact ⟨rfl, hU.out⟩
/-- The reference's cells were changed, its rows were not. -/
theorem RefD.upd {base : Nat} {w w' : World} {R : Nat} {va vw : Value} {F : Nat → Prop} {n : Nat} {p p' : DP} {rl rl' : Int} (h : RefD base w R va vw F n p rl) (hU : Upd R (.cells (rcells va vw p'.armed rl' p'.gone) 51 (0, 0)) w w') (hf : p'.f = p.f) (hw : p'.ws = p.ws) (hl : p'.armed = true → rl' = p'.l) (hr : 0 ≤ rl' ∧ rl' ≤ 9223372036854775807) : RefD base w' R va vw F n p' rl' := by
  have hO : Only (fun k => k = R) w w' := Only.ofUpd hU rfl
  refine ⟨hU.here, ?_, ?_, h.fR, h.aR, h.wR, by rw [hw]; exact h.lens, by rw [hf]; exact h.flen, hl, hr⟩
  · rw [hf]; exact h.all.only liesRB hO (fun k hk e => h.fR (e ▸ hk)) h.aR
  · rw [hw]; exact h.waits.only liesRWt hO (fun k hk e => h.fR (e ▸ hk)) (fun k hk => (h.wR k hk).1)
theorem RM.updated {base : Nat} {w w' : World} {R n : Nat} {p p' : DP} {S : Nat → Prop} {va vw : Value} {F : Nat → Prop} {rl' : Int} (h : RM base w R n p S) (hbs : base ≤ w.heap.size) (h' : RefD base w' R va vw F n p' rl') (hU : Only (fun k => k = R) w w') (hS : S R ∧ (∀ k, va.ownBlock = some k → S k) ∧ (∀ k, vw.ownBlock = some k → S k) ∧ ∀ k, F k → S k) : RStep base w w' R n p' S :=
  RStep.mk' h hbs h' (hU.mono (fun _ _ e => e ▸ hS.1)) (fun k hk => .inl (hS.2.1 k hk)) (fun k hk => .inl (hS.2.2.1 k hk)) (fun k hk => .inl (hS.2.2.2 k hk))

set_option maxHeartbeats 400000 in
theorem rarm_any {base : Nat} {w : World} {R n : Nat} {p : DP} {S : Nat → Prop} (h : RM base w R n p S) (hbs : base ≤ w.heap.size) (d : Int) (hd : inI64 d) :
    Calls Tryd.prog 31 #[.pointer (some ⟨R, 0, none⟩), .int .i64 d] w fun x w' => x = .returned (.int .i64 (numD (p.arm d).2)) ∧ RStep base w w' R n (p.arm d).1 S := by
  have hsame := Lib.hid (RStep.same h hbs (Below.refl _ _))
  have h0 := h
  obtain ⟨va, vw, F, rl, hr, hS, _⟩ := h0
  have c4 : w.cell? ⟨R, 4, none⟩ = some (.bool p.gone) := by rw [hr.c]; rfl
  unfold DP.arm
  by_cases hneg : d < 0
  · rw [if_pos hneg]
    clear h hr hS c4
    go_enter Tryd.func31, Tryd.ntmps31
    go_wp2_with fail
    go_ret
    exact ⟨rfl, hsame.out⟩
  · rw [if_neg hneg]
    cases hg : p.gone
    · rw [if_neg (by decide)]
      rw [hg] at c4
      have hU := ((Upd.refl hr.at_).setCell (j := 2) (.bool true)).setCell (j := 3) (.int .i64 d)
      have hU' : Upd R (.cells (rcells va vw true d p.gone) 51 (0, 0)) w ((w.setCell ⟨R, 2, none⟩ (.bool true)).setCell ⟨R, 3, none⟩ (.int .i64 d)) := hU
      have hst := RM.updated h hbs (hr.upd (p' := { p with armed := true, l := d }) hU' rfl rfl (fun _ => rfl) (by unfold inI64 at hd; omega)) (Only.ofUpd hU' rfl) hS
      have hst := Lib.hid hst
      have c2 : w.cell? ⟨R, 2, none⟩ = some (.bool p.armed) := by rw [hr.c]; rfl
      have f2 := hr.free 2
      have hU1 := (Upd.refl hr.at_).setCell (j := 2) (.bool true)
      have c3 : (w.setCell ⟨R, 2, none⟩ (.bool true)).cell? ⟨R, 3, none⟩ = some (.int .i64 rl) := by rw [cell_of_block hU1.here]; rfl
      have f3 : (w.setCell ⟨R, 2, none⟩ (.bool true)).frozen? ⟨R, 3, none⟩ = false := free_of_block hU1.here _
      have c3' : w.cell? ⟨R, 3, none⟩ = some (.int .i64 rl) := by rw [hr.c]; rfl
      have f3' := hr.free 3
      clear h hr hS hU hU' hU1 hsame
      go_enter Tryd.func31, Tryd.ntmps31
      go_wp2_with fail
      go_ret
      refine ⟨rfl, ?_⟩
      have := hst.out
      simp only [hg] at this
      exact this
    · rw [if_pos rfl]
      rw [hg] at c4
      clear h hr hS
      go_enter Tryd.func31, Tryd.ntmps31
      go_wp2_with fail
      go_ret
      exact ⟨rfl, hsame.out⟩

theorem seenW_take {ws : List (Int × List UInt8)} {f : Int → List UInt8} {i : Int} {k : Nat} (hk : k < ws.length) : seenW (ws.take (k + 1)) f i = if ws[k].1 = i then ws[k].2 else seenW (ws.take k) f i := by
  unfold seenW lastOf
  rw [List.take_succ_eq_append_getElem hk, List.reverse_append, List.reverse_singleton, List.singleton_append, List.find?_cons]
  by_cases h : ws[k].1 = i
  · simp [h]
  · have : (ws[k].1 == i) = false := by simpa using h
    rw [this, if_neg h]
theorem seenW_len {ws : List (Int × List UInt8)} {f : Int → List UInt8} {i : Int} (hw : ∀ q ∈ ws, q.2.length = 64) (hf : ∀ i, (f i).length = 64) : (seenW ws f i).length = 64 := by
  unfold seenW
  cases h : lastOf ws i with
  | none => exact hf i
  | some q =>
    have := List.mem_of_find?_eq_some h
    exact hw q (by simpa using this)
set_option maxHeartbeats 400000 in
theorem rread_no {base : Nat} {w : World} {R n : Nat} {p : DP} {S : Nat → Prop} (h : RM base w R n p S) (i : Int) (hi : i < 0 ∨ (n : Int) ≤ i) :
    Calls Tryd.prog 19 #[.pointer (some ⟨R, 0, none⟩), .int .i64 i] w fun x w' => x = .returned (.tuple #[.slice none 0 0, .int .i64 1]) ∧ w = w' := by
  obtain ⟨va, vw, F, rl, hr, hS, _⟩ := h
  obtain ⟨a, c, rfl, _⟩ := hr.all.form
  have c0 : w.cell? ⟨R, 0, none⟩ = some (.slice a n c) := by rw [hr.c]; show some (Value.slice a (secs n p.f).length c) = _; rw [secs_length]
  clear hr hS
  by_cases h0 : i < 0
  · clear hi
    go_enter Tryd.func19, Tryd.ntmps19
    go_wp2_with fail
    go_ret2
    exact ⟨rfl, rfl⟩
  · have h1 : (n : Int) ≤ i := by omega
    clear hi
    go_enter Tryd.func19, Tryd.ntmps19
    go_wp2_with fail
    go_ret2
    exact ⟨rfl, rfl⟩
set_option maxHeartbeats 400000 in
theorem rread_gone {base : Nat} {w : World} {R n : Nat} {p : DP} {S : Nat → Prop} (h : RM base w R n p S) (i : Int) (hi : 0 ≤ i) (hi2 : i < (n : Int)) (hg : p.gone = true) :
    Calls Tryd.prog 19 #[.pointer (some ⟨R, 0, none⟩), .int .i64 i] w fun x w' => x = .returned (.tuple #[.slice none 0 0, .int .i64 14]) ∧ w = w' := by
  obtain ⟨va, vw, F, rl, hr, hS, _⟩ := h
  obtain ⟨a, c, rfl, _⟩ := hr.all.form
  have c0 : w.cell? ⟨R, 0, none⟩ = some (.slice a n c) := by rw [hr.c]; show some (Value.slice a (secs n p.f).length c) = _; rw [secs_length]
  have c4 : w.cell? ⟨R, 4, none⟩ = some (.bool true) := by rw [hr.c, ← hg]; rfl
  have h0 : ¬ i < 0 := by omega
  have h1 : ¬ (n : Int) ≤ i := by omega
  clear hr hS
  go_enter Tryd.func19, Tryd.ntmps19
  go_wp2_with fail
  go_ret2
  exact ⟨rfl, rfl⟩
set_option maxRecDepth 100000 in
set_option maxHeartbeats 1000000 in
theorem rread_yes {base : Nat} {w : World} {R n : Nat} {p : DP} {S : Nat → Prop} (h : RM base w R n p S) (hws : p.ws.length ≤ 100000) (i : Nat) (hi2 : i < n) (hg : p.gone = false) :
    Calls Tryd.prog 19 #[.pointer (some ⟨R, 0, none⟩), .int .i64 i] w fun x w' => ∃ a c, x = .returned (.tuple #[.slice a 64 c, .int .i64 0]) ∧ ArgB w' a c (seenW p.ws p.f i) ∧ Below w.heap.size w w' := by
  obtain ⟨va, vw, F, rl, hr, hS, _⟩ := h
  have hlen : ∀ q ∈ p.ws, q.2.length = 64 := fun q hq => (hr.lens q hq).1
  have hfl := hr.flen
  obtain ⟨ga, ca, cs, e1, hRB, hrg⟩ := hr.all.elem liesRB i _ (secs_at p.f hi2)
  obtain ⟨ab, cb, rfl, harg, _⟩ := hRB
  obtain ⟨aw, cw, e2, _⟩ := hr.waits.form
  rw [secs_length] at e1
  subst e1 e2
  have c0 : w.cell? ⟨R, 0, none⟩ = some (.slice (some ⟨ga, 0, none⟩) n ca) := by rw [hr.c]; rfl
  have c4 : w.cell? ⟨R, 4, none⟩ = some (.bool false) := by rw [hr.c, ← hg]; rfl
  have c1 : w.cell? ⟨R, 1, none⟩ = some (.slice aw p.ws.length cw) := by rw [hr.c]; rfl
  have cg : w.cell? ⟨ga, i, none⟩ = some (.slice ab 64 cb) := by
    have := hrg 0 _ rfl
    rw [Nat.mul_one, Nat.add_zero, hfl] at this
    exact this
  have h0 : ¬ (i : Int) < 0 := by omega
  have h1 : ¬ (n : Int) ≤ i := by omega
  have h1' : (i : Int) < n := by omega
  have hrows := Lib.hid hr.waits
  obtain ⟨L, hL⟩ : ∃ L, L = p.ws.length := ⟨_, rfl⟩
  rw [← hL] at c1 hws
  replace hL := Lib.hid hL
  replace hlen := Lib.hid hlen
  replace hfl := Lib.hid hfl
  replace harg := Lib.hid harg
  generalize hws2 : p.ws = ws at *
  generalize p.f = f at *
  clear hr hS hrg hws2
  go_enter Tryd.func19, Tryd.ntmps19
  go_wp2_with fail
  go_loopw [37, 38, 39, 8, 40, 41, 42, 43, 44, 45, 6, 46, 36] (fun _ _ _ _ _ _ _ _ _ _ out _ j wr => ∃ (k : Nat) (a : Option Addr) (c : Nat), k ≤ L ∧ j = .int .i64 k ∧ out = .slice a 64 c ∧ ArgB wr a c (seenW (ws.take k) f i) ∧ Below w.heap.size w wr) (fun _ _ _ _ _ _ _ _ _ _ _ _ j _ => L - (intOf j).toNat)
  case atStart => exact ⟨0, ab, cb, Nat.zero_le _, rfl, rfl, harg.out, Below.refl _ _⟩
  case round =>
    obtain ⟨k, a, c, hk, rfl, rfl, ha, hb⟩ := hrel
    clear c0 c4 c1 cg
    by_cases hlt : k < L
    · have hlt2 : (k : Int) < L := by omega
      have hkw : k < ws.length := by rw [← hL.out]; exact hlt
      obtain ⟨g, cap, cs, e3, hRW, hrgw⟩ := (hrows.out.below liesRWt hb).elem liesRWt k _ (List.getElem?_eq_getElem hkw)
      obtain ⟨a', c', rfl, harg', _⟩ := hRW
      have hl64 := hlen.out ws[k] (List.getElem_mem hkw)
      have hst := seenW_take (f := f) (i := (i : Int)) hkw
      rw [hl64] at hrgw
      have d0 := hrgw 0 _ rfl
      have d1 := hrgw 1 _ rfl
      generalize ws[k] = x at *
      obtain ⟨xi, xb⟩ := x
      simp only at d0 d1 hl64 harg' hst
      have hsl : aw = some ⟨g, 0, none⟩ ∧ L = ws.length := ⟨(by cases e3; rfl), hL.out⟩
      obtain ⟨rfl, _⟩ := hsl
      replace hst := Lib.hid hst
      replace hl64 := Lib.hid hl64
      replace hb := Lib.hid hb
      replace ha := Lib.hid ha
      replace harg' := Lib.hid harg'
      clear hrgw e3
      rw [Nat.add_zero] at d0
      by_cases hxi : xi = i
      · subst hxi
        go_wp2_with fail
        have hG : Below wr.heap.size wr (wr.alloc (.cells #[.int .i64 i, .slice a' 64 c'] 77)) := (Below.refl _ _).alloc (Nat.le_refl _) _
        go_roundw
        case rel => exact ⟨k + 1, a', c', by omega, by go_num, rfl, by rw [hst.out, if_pos rfl]; exact harg'.out.below hG, hb.out.trans (hG.mono hb.out.size)⟩
        case measure => simp [intOf]; omega
      · have hxb : (xi == (i : Int)) = false := by simpa using hxi
        go_wp2_with fail
        have hG : Below wr.heap.size wr (wr.alloc (.cells #[.int .i64 xi, .slice a' 64 c'] 77)) := (Below.refl _ _).alloc (Nat.le_refl _) _
        go_roundw
        case rel => exact ⟨k + 1, a, c, by omega, by go_num, rfl, by rw [hst.out, if_neg hxi]; exact ha.out.below hG, hb.out.trans (hG.mono hb.out.size)⟩
        case measure => simp [intOf]; omega
    · obtain rfl : k = L := by omega
      have ha2 : ArgB wr a c (seenW ws f i) := by
        have := ha
        rw [hL.out, List.take_length] at this
        exact this
      replace ha2 := Lib.hid ha2
      clear ha
      go_wp2_with fail
      go_ret2
      exact ⟨_, _, rfl, ha2.out, hb⟩
end Go.Proofs.YtdgilgnaoifpcaaDoor
