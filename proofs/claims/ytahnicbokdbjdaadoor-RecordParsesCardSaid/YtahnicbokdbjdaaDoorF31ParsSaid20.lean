/- PAny, RetTmp, Two. -/
import Derived.Test.YtahnicbokdbjdaaDoorF30ParsSaid20
import Derived.Test.YtahnicbokdbjdaaDoorF20ParsSaid20
import Derived.Test.YtahnicbokdbjdaaDoorF11ParsSaid20
import Derived.Test.YtahnicbokdbjdaaDoorF3ParsSaid20
import Derived.Test.YtahnicbokdbjdaaDoorF13ParsSaid20
import Derived.Deep.QuietTactic
import Derived.Deep.CutRange
import Derived.Deep.RegionWith
/- Plain: which record all bytes are, and that it has just these bytes. -/
namespace Go.Proofs.YtahnicbokdbjdaaDoor
open Go.RowKit
set_option linter.unusedVariables false

/-- Two numbers are the same, or both out of bounds. -/
def Agr (a b : Int) : Prop := a = b ∨ (inB a 0 1099511627776 = false ∧ inB b 0 1099511627776 = false)
theorem out_big {v : Int} (h : 1099511627776 < v) : inB v 0 1099511627776 = false := by
  unfold inB
  rw [decide_eq_false (p := v ≤ 1099511627776) (by omega), Bool.and_false]
theorem numG_ge : ∀ (bs : List UInt8) (s : Nat), 2199023255552 ≤ s → 2199023255552 ≤ numG bs s
  | [], _, h => h
  | b :: r, s, h => numG_ge r _ (by rw [Nat.min_eq_right h]; omega)
theorem num_agr : ∀ (bs : List UInt8) (s : Nat), Agr (numG bs s : Nat) (numR bs s)
  | [], _ => .inl rfl
  | b :: r, s => by
    show Agr (numG r (min s 2199023255552 * 256 + b.toNat) : Nat) (if (2199023255552 : Int) < (s : Int) then -1 else numR r ((s : Int) * 256 + b.toNat))
    by_cases h : s ≤ 2199023255552
    · rw [if_neg (by omega), Nat.min_eq_left h]
      have := num_agr r (s * 256 + b.toNat)
      rw [Int.natCast_add, Int.natCast_mul] at this
      exact this
    · rw [if_pos (by omega)]
      have := numG_ge r (min s 2199023255552 * 256 + b.toNat) (by omega)
      exact .inr ⟨out_big (by omega), by decide⟩
def beN : List UInt8 → Nat → Nat
  | [], s => s
  | b :: r, s => beN r (s * 256 + b.toNat)
theorem numG_be : ∀ (bs : List UInt8) (s : Nat), numG bs s < 2199023255552 → numG bs s = beN bs s
  | [], _, _ => rfl
  | b :: r, s, h => by
    have h2 : numG r (min s 2199023255552 * 256 + b.toNat) < 2199023255552 := h
    by_cases hs : s ≤ 2199023255552
    · show numG r (min s 2199023255552 * 256 + b.toNat) = beN r (s * 256 + b.toNat)
      rw [Nat.min_eq_left hs] at h2 ⊢
      exact numG_be r _ h2
    · have := numG_ge r (min s 2199023255552 * 256 + b.toNat) (by omega)
      omega
theorem len8 {l : List UInt8} (h : l.length = 8) : ∃ b0 b1 b2 b3 b4 b5 b6 b7, l = [b0, b1, b2, b3, b4, b5, b6, b7] := by
  match l, h with
  | [b0, b1, b2, b3, b4, b5, b6, b7], _ => exact ⟨b0, b1, b2, b3, b4, b5, b6, b7, rfl⟩
theorem len4 {l : List UInt8} (h : l.length = 4) : ∃ b0 b1 b2 b3, l = [b0, b1, b2, b3] := by
  match l, h with
  | [b0, b1, b2, b3], _ => exact ⟨b0, b1, b2, b3, rfl⟩
theorem len1 {l : List UInt8} (h : l.length = 1) : ∃ b0, l = [b0] := by
  match l, h with
  | [b0], _ => exact ⟨b0, rfl⟩
theorem numB_eight (v : Int) : numB v = [numByte v (7 - 7), numByte v (7 - 6), numByte v (7 - 5), numByte v (7 - 4), numByte v (7 - 3), numByte v (7 - 2), numByte v (7 - 1), numByte v (7 - 0)] := rfl
theorem byte_is (v : Nat) (h : v < 9223372036854775808) (r : Nat) (hr : r < 8) (b : UInt8) (hb : v / 256 ^ r % 256 = b.toNat) : numByte (v : Int) (7 - r) = b := by
  refine UInt8.toNat_inj.1 ?_
  rw [byte_of (v : Int) (by omega) (by omega) r hr, Int.toNat_natCast, hb]
theorem numB_back (l : List UInt8) (h8 : l.length = 8) (h : numG l 0 ≤ 1099511627776) : numB ((numG l 0 : Nat) : Int) = l := by
  obtain ⟨b0, b1, b2, b3, b4, b5, b6, b7, rfl⟩ := len8 h8
  have hbe : numG [b0, b1, b2, b3, b4, b5, b6, b7] 0 = beN [b0, b1, b2, b3, b4, b5, b6, b7] 0 := numG_be _ _ (by omega)
  rw [hbe] at h ⊢
  obtain ⟨v, hv⟩ : ∃ v, v = beN [b0, b1, b2, b3, b4, b5, b6, b7] 0 := ⟨_, rfl⟩
  rw [← hv] at h ⊢
  simp only [beN] at hv
  have k0 := b0.toNat_lt
  have k1 := b1.toNat_lt
  have k2 := b2.toNat_lt
  have k3 := b3.toNat_lt
  have k4 := b4.toNat_lt
  have k5 := b5.toNat_lt
  have k6 := b6.toNat_lt
  have k7 := b7.toNat_lt
  rw [numB_eight, byte_is v (by omega) 7 (by decide) b0 (by omega), byte_is v (by omega) 6 (by decide) b1 (by omega), byte_is v (by omega) 5 (by decide) b2 (by omega), byte_is v (by omega) 4 (by decide) b3 (by omega), byte_is v (by omega) 3 (by decide) b4 (by omega), byte_is v (by omega) 2 (by decide) b5 (by omega), byte_is v (by omega) 1 (by decide) b6 (by omega), byte_is v (by omega) 0 (by decide) b7 (by omega)]
theorem numX_back (l : List UInt8) (h4 : l.length = 4) : (numB ((numG l 0 : Nat) : Int)).drop 4 = l := by
  obtain ⟨b0, b1, b2, b3, rfl⟩ := len4 h4
  have k0 := b0.toNat_lt
  have k1 := b1.toNat_lt
  have k2 := b2.toNat_lt
  have k3 := b3.toNat_lt
  obtain ⟨v, hv⟩ : ∃ v, v = numG [b0, b1, b2, b3] 0 := ⟨_, rfl⟩
  rw [← hv]
  simp only [numG] at hv
  have e : ((numB (v : Int)).drop 4) = [numByte v (7 - 3), numByte v (7 - 2), numByte v (7 - 1), numByte v (7 - 0)] := by rw [numB_eight]; rfl
  rw [e, byte_is v (by omega) 3 (by decide) b0 (by omega), byte_is v (by omega) 2 (by decide) b1 (by omega), byte_is v (by omega) 1 (by decide) b2 (by omega), byte_is v (by omega) 0 (by decide) b3 (by omega)]
theorem b8_byte (b : UInt8) : b8 ((b.toNat : Nat) : Int) = b := by
  refine UInt8.toNat_inj.1 ?_
  have h := b8_val (b.toNat : Int) ⟨by omega, by have := b.toNat_lt; omega⟩
  omega
theorem agr_in {a b : Int} (h : Agr a b) : inB a 0 1099511627776 = inB b 0 1099511627776 ∧ (inB a 0 1099511627776 = true → a = b) := by
  rcases h with rfl | ⟨h1, h2⟩
  · exact ⟨rfl, fun _ => rfl⟩
  · exact ⟨by rw [h1, h2], fun e => by rw [h1] at e; cases e⟩
theorem inB_le {a m : Int} (hm : m ≤ 1099511627776) (h : inB a 0 m = true) : inB a 0 1099511627776 = true := by
  unfold inB at h ⊢
  simp only [Bool.and_eq_true, decide_eq_true_eq] at h ⊢
  omega
theorem agr_sub {a b m : Int} (hm : m ≤ 1099511627776) (h : Agr a b) : inB a 0 m = inB b 0 m := by
  obtain ⟨h1, h2⟩ := agr_in h
  cases e : inB a 0 m
  · cases e2 : inB b 0 m
    · rfl
    · have h3 := inB_le hm e2
      rw [← h1] at h3
      rw [h2 h3, e2] at e
      exact e.symm
  · rw [h2 (inB_le hm e)] at e
    exact e.symm
/-- What Check answers is the same for two records whose numbers agree. -/
theorem chk_agr (x y : Rc) (hk : x.kind = y.kind) (ho : Agr x.obj y.obj) (hi : Agr x.id y.id) (hx : Agr x.index y.index) (ht : Agr x.tick y.tick) (hn : x.name = y.name) (hp : x.p = y.p) (hr : x.root = y.root) (hf : x.file = y.file) (hw : x.way = y.way) (hv : x.verdict = y.verdict)
    (hid : x.kind ≠ 2 → x.kind ≠ 3 → x.id = y.id) (hix : x.kind ≠ 2 → x.index = y.index) : x.chk = y.chk ∧ (x.chk = 0 → x = y) := by
  have e1 : x.nums = y.nums := by
    unfold Rc.nums numsB
    rw [hk, (agr_in ho).1, (agr_in ht).1, (agr_in hi).1, agr_sub (m := 1048576) (by decide) hx, hw, hv]
  have e2 : x.nums = true → x = y := by
    intro h
    have h0 := h
    unfold Rc.nums numsB at h
    by_cases k2 : x.kind = 2
    · simp only [k2, if_true, Bool.and_eq_true] at h
      refine ext_rc hk ((agr_in ho).2 ?_) ((agr_in hi).2 ?_) hn hp hr hf hw ((agr_in hx).2 ?_) hv ((agr_in ht).2 ?_)
      all_goals simp_all [inB]
      all_goals omega
    · by_cases k3 : x.kind = 3
      · simp [k3, Bool.and_eq_true] at h
        refine ext_rc hk ((agr_in ho).2 ?_) ((agr_in hi).2 ?_) hn hp hr hf hw (hix k2) hv ((agr_in ht).2 ?_)
        all_goals simp_all [inB]
      · simp [k2, k3, Bool.and_eq_true] at h
        refine ext_rc hk ((agr_in ho).2 ?_) (hid k2 k3) hn hp hr hf hw (hix k2) hv ((agr_in ht).2 ?_)
        all_goals simp_all [inB]
  cases hb : x.nums
  · rw [hb] at e1
    have c : ∀ z : Rc, z.nums = false → z.chk = if z.kind < 1 ∨ 4 < z.kind then 7 else 1 := by
      intro z hz
      unfold Rc.chk
      rw [hz]
      simp
    rw [c x hb, c y e1.symm, hk]
    refine ⟨rfl, fun h => ?_⟩
    split at h <;> cases h
  · rw [e2 hb]
    exact ⟨rfl, fun _ => rfl⟩
/-- A chain of takes. -/
def nBs : List UInt8 × Bool → List Nat → List UInt8 × Bool
  | s, [] => s
  | s, n :: r => nBs (nB s n) r
theorem nB_true (l : List UInt8) (n : Nat) : nB (l, true) n = (l, true) := by
  unfold nB takeB takeS
  rw [if_pos (.inl rfl), if_pos (.inl rfl)]
theorem nBs_true (l : List UInt8) : ∀ ns, nBs (l, true) ns = (l, true)
  | [] => rfl
  | n :: r => by show nBs (nB (l, true) n) r = _; rw [nB_true]; exact nBs_true l r
theorem nB_short {l : List UInt8} {n : Nat} (h : l.length < n) : nB (l, false) n = (l, true) := by
  unfold nB takeB takeS
  rw [if_pos (.inr h), if_pos (.inr h)]
theorem nB_ok {l : List UInt8} {n : Nat} (h : n ≤ l.length) : nB (l, false) n = (l.drop n, false) := by
  have hh : ¬ (false = true ∨ l.length < n) := by rintro (h1 | h1); · cases h1
                                                  · omega
  unfold nB takeB takeS
  rw [if_neg hh, if_neg hh]
theorem nBs_short : ∀ (ns : List Nat) (l : List UInt8), l.length < ns.sum → (nBs (l, false) ns).2 = true
  | [], l, h => by simp at h
  | n :: r, l, h => by
    rw [List.sum_cons] at h
    show (nBs (nB (l, false) n) r).2 = true
    by_cases hn : l.length < n
    · rw [nB_short hn, nBs_true]
    · rw [nB_ok (by omega)]
      exact nBs_short r _ (by rw [List.length_drop]; omega)
theorem nBs_ok : ∀ (ns : List Nat) (l : List UInt8), ns.sum ≤ l.length → nBs (l, false) ns = (l.drop ns.sum, false)
  | [], l, _ => by simp [nBs]
  | n :: r, l, h => by
    rw [List.sum_cons] at h ⊢
    show nBs (nB (l, false) n) r = _
    rw [nB_ok (by omega), nBs_ok r _ (by rw [List.length_drop]; omega), List.drop_drop]
/-- A list in two parts. -/
theorem cut_at (l : List UInt8) (n m : Nat) (h : l.length = n + m) : ∃ A R, l = A ++ R ∧ A.length = n ∧ R.length = m :=
  ⟨l.take n, l.drop n, (List.take_append_drop n l).symm, by rw [List.length_take]; omega, by rw [List.length_drop]; omega⟩
theorem nat_inI {n : Nat} (h : n ≤ 9223372036854775807) : inI (n : Int) := by unfold inI; omega
theorem numG_bd : ∀ (bs : List UInt8) (s : Nat), s ≤ 562949953421567 → numG bs s ≤ 562949953421567
  | [], _, h => h
  | b :: r, s, h => numG_bd r _ (by have := b.toNat_lt; omega)
theorem numR_bd : ∀ (bs : List UInt8) (s : Int), 0 ≤ s → s ≤ 562949953421567 → -1 ≤ numR bs s ∧ numR bs s ≤ 562949953421567
  | [], _, h1, h2 => ⟨Int.le_trans (by decide) h1, h2⟩
  | b :: r, s, h1, h2 => by
    show -1 ≤ (if 2199023255552 < s then -1 else numR r (s * 256 + b.toNat)) ∧ (if 2199023255552 < s then -1 else numR r (s * 256 + b.toNat)) ≤ 562949953421567
    by_cases h : 2199023255552 < s
    · rw [if_pos h]; decide
    · rw [if_neg h]
      have := b.toNat_lt
      exact numR_bd r _ (by omega) (by omega)
end Go.Proofs.YtahnicbokdbjdaaDoor
/- Two results: a struct or an array that lies in a block, and one that lies in a slot. -/
namespace Go.Proofs.YtahnicbokdbjdaaDoor
open Go.RowKit
section
variable {P : Program} {fn : Func} {R : Ending → World → Prop} {p q : Tmp} {ty : TypeId}
theorem results_cell_tmpB (h : fn.results = #[.cell p ty, .tmp q]) (tmps : Array Value) (w : World) :
    (results fn tmps).run P w = ((asAddr (tmps.getD p undef)).run P w).andThen fun a w₁ => ((loadVar ty a).run P w₁).andThen fun v w₂ => .ok (.tuple #[v, tmps.getD q undef]) w₂ := by
  simp [results, h, Sem.run_bind, Result.andThen]
theorem ret_cell_tmpB {tmps : Array Value} {W : World} {b : Nat} {c : Array Value} {d : TypeDesc} (h : fn.results = #[.cell p ty, .tmp q])
    (hp : tmps.getD p undef = .pointer (some ⟨b, 0, none⟩)) (hu : P.underlying ty = some d) (hd : (match d with | .struct _ | .array _ _ => true | _ => false) = true) (hi : (P.info? ty).map (·.size) = some c.size) (hh : W.heap[b]? = some (.cells c ty (0, 0))) (hR : R (.returned (.tuple #[.agg c, tmps.getD q undef])) W) :
    bodyPost P fn R .ret ⟨tmps, []⟩ W := by
  refine bodyPost_ret (v := .tuple #[.agg c, tmps.getD q undef]) ?_ rfl hR
  rw [results_cell_tmpB h, hp]
  simp [asAddr, Result.andThen, run_loadVar_row W b ty ty c (0, 0) d hh hu hd hi]
end
/-- A sentinel lies in its variable. -/
def SentAt (g : Nat) (w : World) (z : Addr) : Prop := w.cell? ⟨g, 0, none⟩ = some (.iface 132 (.pointer (some z)))
theorem SentAt.below {g : Nat} {w w' : World} {z : Addr} (h : SentAt g w z) (hb : Below w.heap.size w w') : SentAt g w' z := (hb.cell (World.block_lt_of_cell? w _ h)).trans h
theorem SentAt.far {g : Nat} {w : World} {z : Addr} (h : SentAt g w z) : ∀ W, Below w.heap.size w W → W.cell? ⟨g, 0, none⟩ = some (.iface 132 (.pointer (some z))) := fun _ hW => h.below hW
end Go.Proofs.YtahnicbokdbjdaaDoor
/- Walks over params.two, params.Parse, the reference's Parse. -/
namespace Go.Proofs.YtahnicbokdbjdaaDoor
open Go.RowKit

theorem or_two (x y : UInt8) : bits BinOp.or IntKind.i64 ((x.toNat : Int) * 256) (y.toNat : Int) = (x.toNat : Int) * 256 + y.toNat := by
  have hx := x.toNat_lt
  have hy := y.toNat_lt
  have e0 : ((x.toNat : Int) * 256) = ((256 * x.toNat : Nat) : Int) := by omega
  rw [e0]
  have e1 : (BitVec.ofInt 64 ((256 * x.toNat : Nat) : Int)).toNat = 256 * x.toNat := by rw [BitVec.ofInt_natCast, BitVec.toNat_ofNat]; exact Nat.mod_eq_of_lt (by omega)
  have e2 : (BitVec.ofInt 64 (y.toNat : Int)).toNat = y.toNat := by rw [BitVec.ofInt_natCast, BitVec.toNat_ofNat]; exact Nat.mod_eq_of_lt (by omega)
  have e3 : 256 * x.toNat ||| y.toNat = 256 * x.toNat + y.toNat := (Nat.two_pow_add_eq_or_of_lt (i := 8) (by omega) x.toNat).symm
  show IntKind.i64.wrap ((BitVec.ofInt 64 ((256 * x.toNat : Nat) : Int) ||| BitVec.ofInt 64 (y.toNat : Int)).toNat : Int) = _
  rw [BitVec.toNat_or, e1, e2, e3, IntKind.wrap_i64]
  omega

set_option maxHeartbeats 1000000 in
theorem two_any (b off m c : Nat) (x y : UInt8) (w : World) (h0 : w.cell? ⟨b, off, none⟩ = some (.int .u8 (x.toNat : Int))) (h1 : w.cell? ⟨b, off + 1, none⟩ = some (.int .u8 (y.toNat : Int))) (hm : 2 ≤ m) :
    Calls Tryd.prog 48 #[.slice (some ⟨b, off, none⟩) m c] w fun e w' => e = .returned (.int .i64 ((x.toNat : Int) * 256 + y.toNat)) ∧ ∃ n, w' = w.drewN n := by
  have hx := x.toNat_lt
  have hy := y.toNat_lt
  have m0 : (0 : Int) < (m : Int) := by omega
  have m1 : (1 : Int) < (m : Int) := by omega
  go_enter Tryd.func48, Tryd.ntmps48
  go_wp2_with fail
  go_quiet (fail)
  go_wp2_with fail
  go_ret
  exact ⟨by rw [or_two]; rfl, _, rfl⟩


/-- The result of two parts: a struct or an array that lies in block b, and what lies in a slot. -/
theorem ret_cell_tmp_row {P : Program} {fn : Func} {R : Ending → World → Prop} {p u : Tmp} {ty : TypeId} {tmps : Array Value} {W : World} {b : Nat} {c : Array Value} {y : Value} {d : TypeDesc} (h : fn.results = #[.cell p ty, .tmp u])
    (hp : tmps.getD p undef = .pointer (some ⟨b, 0, none⟩)) (hy : tmps.getD u undef = y) (hu : P.underlying ty = some d) (hd : (match d with | .struct _ | .array _ _ => true | _ => false) = true) (hi : (P.info? ty).map (·.size) = some c.size) (hh : W.heap[b]? = some (.cells c ty (0, 0))) (hR : R (.returned (.tuple #[.agg c, y])) W) :
    bodyPost P fn R .ret ⟨tmps, []⟩ W := by
  refine bodyPost_ret (v := .tuple #[.agg c, y]) ?_ rfl hR
  have hr : (results fn tmps).run P W = ((asAddr (tmps.getD p undef)).run P W).andThen fun a w₁ => ((loadVar ty a).run P w₁).andThen fun v w₂ => .ok (.tuple #[v, tmps.getD u undef]) w₂ := by
    simp only [results, h]
    simp [Sem.run_bind, Result.andThen]
  rw [hr, hp, hy]
  simp [asAddr, Result.andThen, run_loadVar_row W b ty ty c (0, 0) d hh hu hd hi]

set_option maxHeartbeats 2000000 in
theorem parse_len (a : Option Addr) (m c : Nat) (hm : m ≠ 9) (z : Addr) (w : World) (hz : w.cell? ⟨7, 0, none⟩ = some (.iface 132 (.pointer (some z)))) :
    Calls Tryd.prog 33 #[.slice a m c] w fun e w' => e = .returned (.tuple #[.agg #[.int .i64 0, .int .i64 0, .int .i64 0, .int .i64 0, .int .i64 0, .int .i64 0], .iface 132 (.pointer (some z))]) ∧ Below w.heap.size w w' := by
  have hf : ((m : Int) != 9) = true := by rw [bne_iff_ne]; omega
  have hz1 := cell_far1 hz
  have hb0 := Lib.hid (Below.refl w.heap.size w)
  clear hz hm
  go_enter Tryd.func33, Tryd.ntmps33
  go_wp2_with fail
  go_region
  all_goals
    go_wp2
    refine ret_cell_tmp_row rfl rfl rfl Tryd.underlying27 rfl (by kernel_rfl) (b := w.heap.size) (c := #[.int .i64 0, .int .i64 0, .int .i64 0, .int .i64 0, .int .i64 0, .int .i64 0]) (heap_alloc_new w _) ?_
    exact ⟨rfl, below_drewN (hb0.out.alloc (Nat.le_refl _) _) 1⟩

end Go.Proofs.YtahnicbokdbjdaaDoor
