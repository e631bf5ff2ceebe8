/- The walk over baileeref07.Of. -/
import Derived.Test.YtgkddegaiaeckaaDoorF32SafeSaid
import Derived.Test.YtgkddegaiaeckaaDoorF2SafeSaid
import Derived.Test.YtgkddegaiaeckaaDoorF17SafeSaid
namespace Go.Proofs.YtgkddegaiaeckaaDoor
open Go.RowKit

theorem zero8R_run (w : World) : (zeroValue 93).run Tryd.prog w = .ok (.agg zero8) w := by kernel_rfl
theorem zeroR_run (w : World) : (zeroValue 30).run Tryd.prog w = .ok (.agg zero32) w := by kernel_rfl
/-- What is added, and the first state, lie in their variables. -/
def RefK (w : World) : Prop := ∀ t, t < 64 → w.cell? ⟨21, t, none⟩ = some (.int .u32 (wn (kAt t)))
theorem RefK.below {w w' : World} (h : RefK w) (hb : Below w.heap.size w w') : RefK w' := fun t ht => (hb.cell (World.block_lt_of_cell? w _ (h t ht))).trans (h t ht)
def RefF (w : World) : Prop := ∃ t fr, w.heap[20]? = some (.cells (c8 s8First) t fr)
theorem RefF.below {w w' : World} (h : RefF w) (hb : Below w.heap.size w w') : RefF w' := by
  obtain ⟨t, fr, h⟩ := h
  exact ⟨t, fr, (hb.block _ (block_lt h)).trans h⟩
section
variable {P : Program} {ops : Array Oper} {rest : List Oper} {o : Oper} {a : Act} {w : World} {Q : Exit → Act → World → Prop}
theorem wpList_load_rowT (hgd : o.guard = none) (ty : TypeId) (x : Operand) (ho : o.op = .load ty x) (g : Nat) (c : Array Value) (t : TypeId) (fr : Nat × Nat) (d : TypeDesc)
    (hx : a.eval x = .pointer (some ⟨g, 0, none⟩)) (hg : Hid (w.heap[g]? = some (.cells c t fr))) (hu : P.underlying ty = some d) (hd : (match d with | .struct _ | .array _ _ => true | _ => false) = true) (hi : (P.info? ty).map (·.size) = some c.size)
    (h : wpList P ops Q rest (a.put o.dst (.agg c)) w) : wpList P ops Q (o :: rest) a w := by
  refine wpList_plain hgd fun K hK => ?_
  have h2 := hK _ _ h
  unfold Oper.wp execOp
  simp only [ho, hx, Instr.loadAt, Instr.sureAddr, Sem.run_bind, Sem.run_pure, Result.andThen_ok, run_loadVar_row w g t ty c fr d hg.out hu hd hi]
  exact h2
end

/-- The message with its end, so far. -/
def padR (m : List UInt8) (k : Nat) : List UInt8 := m ++ [128] ++ List.replicate k 0
theorem padR_length (m : List UInt8) (k : Nat) : (padR m k).length = m.length + 1 + k := by simp [padR]; omega
theorem padR_succ (m : List UInt8) (k : Nat) : padR m (k + 1) = padR m k ++ [0] := by simp [padR, List.replicate_succ']
def lenR (m : List UInt8) (j : Nat) : List UInt8 := padR m (padZ m.length) ++ (List.range j).map (lenB m.length)
theorem lenR_zero (m : List UInt8) : lenR m 0 = padR m (padZ m.length) := by simp [lenR]
theorem lenR_succ (m : List UInt8) (j : Nat) : lenR m (j + 1) = lenR m j ++ [lenB m.length j] := by simp [lenR, List.range_succ]
theorem lenR_length (m : List UInt8) (j : Nat) : (lenR m j).length = m.length + 1 + padZ m.length + j := by simp [lenR, padR_length]
theorem lenR_eight (m : List UInt8) : lenR m 8 = padM m := rfl

/-- What is in memory while the message is laid out. -/
structure AllSt (w : World) (v : Value) (bs : List UInt8) (W : World) : Prop where
  own : OwnB (w.heap.size + 1) W v bs
  res : W.heap[w.heap.size]? = some (.cells zero32 30 (0, 0))
  bel : Below w.heap.size w W
  siz : w.heap.size + 1 ≤ W.heap.size
theorem AllSt.next {w : World} {v v' : Value} {bs bs' : List UInt8} {W W' : World} (h : AllSt w v bs W) (ho : OwnB (w.heap.size + 1) W' v' bs') (hb : Below (w.heap.size + 1) W W') : AllSt w v' bs' W' :=
  ⟨ho, (hb.block _ (Nat.lt_succ_self _)).trans h.res, h.bel.trans (hb.mono (Nat.le_succ _)), Nat.le_trans h.siz hb.size⟩

theorem padM_length0 (m : List UInt8) : (padM m).length = m.length + 1 + padZ m.length + 8 := by simp [padM, be8]; omega
theorem OwnB.block {base : Nat} {w : World} {a : Option Addr} {n c : Nat} {bs : List UInt8} (h : OwnB base w (.slice a n c) bs) (hn : 0 < bs.length) : ∃ g, a = some ⟨g, 0, none⟩ ∧ ∃ cur : Array Value, w.heap[g]? = some (.cells cur 5 (0, 0)) ∧ ∀ i, i < bs.length → cur[i]? = some (.int .u8 ((cf bs i).toNat : Int)) := by
  rcases h.2 with ⟨hv, hx⟩ | ⟨g, cap, cur, e1, e2, e3, e4, e5, e6, e7⟩
  · omega
  · cases e1
    refine ⟨g, rfl, cur, e3, fun i hi => ?_⟩
    have h1 := cB_at bs hi
    rw [← e7] at h1
    simp [hi] at h1
    simpa using h1
/-- What is in memory once the message is laid out. -/
structure RSt (w : World) (g : Nat) (cur : Array Value) (W : World) : Prop where
  all : W.heap[g]? = some (.cells cur 5 (0, 0))
  res : W.heap[w.heap.size]? = some (.cells zero32 30 (0, 0))
  bel : Below w.heap.size w W

theorem RSt.grown {w : World} {g : Nat} {cur : Array Value} {W W' : World} (h : RSt w g cur W) (hb : Grown W W') : RSt w g cur W' :=
  ⟨(hb.block g (block_lt h.all)).trans h.all, (hb.block _ (block_lt h.res)).trans h.res, h.bel.trans (hb.mono h.bel.size)⟩
structure BSt (w : World) (g sb : Nat) (cur : Array Value) (S : S8) (W : World) : Prop where
  rs : RSt w g cur W
  st : W.heap[sb]? = some (.cells (c8 S) 93 (0, 0))

structure WSt (w : World) (g sb wb : Nat) (cur : Array Value) (S : S8) (f : Nat → W32) (W : World) : Prop where
  bs : BSt w g sb cur S W
  row : W.heap[wb]? = some (.cells (cW (tabW 64 f)).toArray 94 (0, 0))
section
variable {w W W' : World} {g sb wb : Nat} {cur : Array Value} {S : S8} {f : Nat → W32}
theorem BSt.grown (h : BSt w g sb cur S W) (hb : Grown W W') : BSt w g sb cur S W' := ⟨h.rs.grown hb, (hb.block _ (block_lt h.st)).trans h.st⟩
theorem WSt.grown (h : WSt w g sb wb cur S f W) (hb : Grown W W') : WSt w g sb wb cur S f W' := ⟨h.bs.grown hb, (hb.block _ (block_lt h.row)).trans h.row⟩
theorem WSt.drewN (h : WSt w g sb wb cur S f W) (n : Nat) : WSt w g sb wb cur S f (W.drewN n) := h.grown (below_drewN (Below.refl _ _) n)
theorem WSt.cell (h : WSt w g sb wb cur S f W) {j : Nat} (hj : j < 64) : W.cell? ⟨wb, j, none⟩ = some (.int .u32 (wn (f j))) := by rw [cell_of_block h.row, cW_at hj]
theorem WSt.free (h : WSt w g sb wb cur S f W) (j : Nat) : W.frozen? ⟨wb, j, none⟩ = false := free_of_block h.row _
theorem WSt.sAt (h : BSt w g sb cur S W) {j : Nat} (hj : j < 8) : W.cell? ⟨sb, j, none⟩ = some (.int .u32 (wn (sAt S j))) := by rw [cell_of_block h.st, c8_at S hj]
theorem RSt.at {bs : List UInt8} (h : RSt w g cur W) (hc : ∀ i, i < bs.length → cur[i]? = some (.int .u8 ((cf bs i).toNat : Int))) {i : Nat} (hi : i < bs.length) : W.cell? ⟨g, i, none⟩ = some (.int .u8 ((cf bs i).toNat : Int)) := by rw [cell_of_block h.all, hc i hi]
theorem WSt.set (h : WSt w g sb wb cur S f W) (h1 : g ≠ wb) (h2 : sb ≠ wb) (h3 : w.heap.size < wb) (t : Nat) (x : W32) : WSt w g sb wb cur S (fun j => if j = t then x else f j) (W.setCell ⟨wb, t, none⟩ (.int .u32 (wn x))) := by
  have hu := ((Upd.refl h.row).setCell (j := t) (.int .u32 (wn x))).to (show _ = Obj.cells (cW (tabW 64 fun j => if j = t then x else f j)).toArray 94 (0, 0) from by rw [cW_set, tabW_set])
  exact ⟨⟨⟨(hu.block _ h1).trans h.bs.rs.all, (hu.block _ (by omega)).trans h.bs.rs.res, h.bs.rs.bel.trans (hu.below (by omega))⟩, (hu.block _ h2).trans h.bs.st⟩, hu.here⟩
theorem WSt.congr {f' : Nat → W32} (h : WSt w g sb wb cur S f W) (hf : ∀ i, i < 64 → f i = f' i) : WSt w g sb wb cur S f' W := ⟨h.bs, by rw [← tabW_congr hf]; exact h.row⟩
end
theorem addC (x y : W32) : (wn y + wn x) % 4294967296 = wn (x + y) := by rw [Int.add_comm]; exact add32 x y
theorem BSt.put8 {w W : World} {g sb : Nat} {cur : Array Value} {S : S8} (h : BSt w g sb cur S W) (h1 : g ≠ sb) (h2 : w.heap.size < sb) (x : S8) :
    BSt w g sb cur x ((((((((W.setCell ⟨sb, 0, none⟩ (.int .u32 (wn x.a))).setCell ⟨sb, 1, none⟩ (.int .u32 (wn x.b))).setCell ⟨sb, 2, none⟩ (.int .u32 (wn x.c))).setCell ⟨sb, 3, none⟩ (.int .u32 (wn x.d))).setCell ⟨sb, 4, none⟩ (.int .u32 (wn x.e))).setCell ⟨sb, 5, none⟩ (.int .u32 (wn x.f))).setCell ⟨sb, 6, none⟩ (.int .u32 (wn x.g))).setCell ⟨sb, 7, none⟩ (.int .u32 (wn x.h))) := by
  have hu := ((((((((Upd.refl h.st).setCell (j := 0) (.int .u32 (wn x.a))).setCell (j := 1) (.int .u32 (wn x.b))).setCell (j := 2) (.int .u32 (wn x.c))).setCell (j := 3) (.int .u32 (wn x.d))).setCell (j := 4) (.int .u32 (wn x.e))).setCell (j := 5) (.int .u32 (wn x.f))).setCell (j := 6) (.int .u32 (wn x.g))).setCell (j := 7) (.int .u32 (wn x.h))
  have hu2 := hu.to (show _ = Obj.cells (c8 x) 93 (0, 0) from by rw [c8_out, c8_out]; simp)
  exact ⟨⟨(hu2.block _ h1).trans h.rs.all, (hu2.block _ (by omega)).trans h.rs.res, h.rs.bel.trans (hu2.below (by omega))⟩, hu2.here⟩
theorem idx8R (s : S8) (t : Nat) (h : t < 8) (w : World) : (Instr.index 93 (.agg (c8 s)) (.int .i64 (t : Int))).run Tryd.prog w = .ok (.int .u32 (wn (sAt s t))) w := by
  have hs : (sizeOf 92).run Tryd.prog w = .ok 1 w := by kernel_rfl
  have hp : (part 92 (c8 s) t).run Tryd.prog w = .ok (.int .u32 (wn (sAt s t))) w := by
    simp [part, isAgg, run_underlying Tryd.underlying92]
    have := c8_at s h
    simp [this]
  have ht : (t : Int) < 8 := by omega
  simp [Instr.index, asIntOf, run_underlying Tryd.underlying93, hs, hp, h]
/-- What is in memory while the digest is written. -/
structure OSt (w : World) (ob : Nat) (f : Nat → UInt8) (W : World) : Prop where
  row : W.heap[ob]? = some (.cells (cB (tab 32 f)).toArray 30 (0, 0))
  res : W.heap[w.heap.size]? = some (.cells zero32 30 (0, 0))
  bel : Below w.heap.size w W
section
variable {w W : World} {ob : Nat} {f : Nat → UInt8} {s : S8} {n : Nat}
theorem OSt.cell (h : OSt w ob f W) {j : Nat} (hj : j < 32) : W.cell? ⟨ob, j, none⟩ = some (.int .u8 ((f j).toNat : Int)) := by
  rw [cell_of_block h.row, cB_at _ (by rw [tab_length]; exact hj), cf_tab, if_pos hj]
theorem OSt.free (h : OSt w ob f W) (j : Nat) : W.frozen? ⟨ob, j, none⟩ = false := free_of_block h.row _
theorem OSt.set (h : OSt w ob (outTo s n) W) (h1 : w.heap.size < ob) : OSt w ob (outTo s (n + 1)) (W.setCell ⟨ob, n, none⟩ (.int .u8 ((cf (bytesS s) n).toNat : Int))) := by
  have hu := (Upd.refl h.row).setCell (j := n) (.int .u8 ((cf (bytesS s) n).toNat : Int))
  have hu2 := hu.to (show _ = Obj.cells (cB (tab 32 (outTo s (n + 1)))).toArray 30 (0, 0) from by rw [cB_setA, outTo_set])
  exact ⟨hu2.here, (hu2.block _ (by omega)).trans h.res, h.bel.trans (hu2.below (by omega))⟩
end
theorem lowTo_word (b : List UInt8) (t : Nat) : ∀ i, i < 64 → (if i = t then wordAt b t else lowTo b t 0 i) = lowTo b (t + 1) 0 i := by
  intro i hi
  rw [← pwAt_four]
  rw [lowTo_set b t 0 4 i hi, lowTo_next b t i hi]
theorem cf_chunk (M : List UInt8) (K n : Nat) (h : n < 64) : cf ((M.drop K).take 64) n = cf M (K + n) := by
  rw [cf_take, if_pos h, cf_drop]

theorem rt_any (x : W32) (n : Nat) (h : 1 ≤ n ∧ n ≤ 31) (z : Int) (w : World) (hz : z = (n : Int)) : Calls Tryd.prog 49 #[.int .u32 (wn x), .int .u64 z] w fun e w' => e = .returned (.int .u32 (wn (rotr x n))) ∧ w = w' := by
  subst hz
  exact rturn_any x n h.1 h.2 w

set_option maxRecDepth 100000 in
set_option maxHeartbeats 4000000 in
theorem rshaOf_any (a : Option Addr) (cap : Nat) (m : List UInt8) (w : World) (h : ArgB w a cap m) (hl : m.length ≤ 100000) (hK : RefK w) (hF : RefF w) :
    Calls Tryd.prog 33 #[.slice a m.length cap] w fun e w' => e = .returned (.agg (cB (sha m)).toArray) ∧ Below w.heap.size w w' := by
  have zr := zeroR_run
  have zn := zero32_ne
  have hown := owns_made0 (w.alloc (.cells zero32 30)) (w.heap.size + 1) (by simp)
  have hb0 : Below w.heap.size w ((w.alloc (.cells zero32 30)).alloc (.cells #[] 5)) := ((Below.refl _ w).alloc (Nat.le_refl _) _).alloc (by simp) _
  have hres0 : ((w.alloc (.cells zero32 30)).alloc (.cells #[] 5)).heap[w.heap.size]? = some (.cells zero32 30 (0, 0)) := by
    rw [Below.heap_alloc _ _ _ (by simp)]; exact heap_alloc_new w _
  have ha2 := Lib.hid (h.below hb0)
  have hnum : w.heap.size + 1 ≤ ((w.alloc (.cells zero32 30)).alloc (.cells #[] 5)).heap.size := by simp
  rw [show (w.alloc (.cells zero32 30)).heap.size = w.heap.size + 1 from by simp] at hown
  replace hown := Lib.hid hown
  replace hb0 := Lib.hid hb0
  replace hres0 := Lib.hid hres0
  go_enter Tryd.func33, Tryd.ntmps33
  go_wp2_with (at_builtin; go_must (refine wpB_app rfl (.tmp 27) (.tmp 28) rfl (w.heap.size + 1) _ [] rfl hown a cap m m.length rfl (Lib.hid rfl) ha2 (by simp) (by omega) hnum ?_))
  intro v2 w2 ho2 hd2
  have hS := Lib.hid (show AllSt w v2 m w2 from ⟨by simpa using ho2.out, (hd2.out.block _ (Nat.lt_succ_self _)).trans hres0.out, hb0.out.trans (hd2.out.mono (Nat.le_succ _)), Nat.le_trans hnum hd2.out.size⟩)
  have hown2 := Lib.hid hS.out.own
  have hsz2 := hS.out.siz
  clear ho2 hd2 hown ha2 hnum hb0 hres0
  go_wp2_with (at_builtin; go_must (refine wpB_app1z rfl (.tmp 29) (.tmp 30) rfl (w.heap.size + 1) _ m rfl hown2 128 128 rfl rfl (by omega) hsz2 ?_))
  intro v3 w3 ho3 hd3
  replace hS := Lib.hid (show AllSt w v3 (padR m 0) w3 from hS.out.next (by simpa [padR] using ho3.out) hd3.out)
  clear ho3 hd3 hown2 hsz2
  go_wp2_with fail
  go_loopw [3] (fun v wr => ∃ k : Nat, k ≤ padZ m.length ∧ AllSt w v (padR m k) wr)
    (fun v _ => padZ m.length + m.length + 1 - slLen v)
  case atStart => exact ⟨0, Nat.zero_le _, hS.out⟩
  case round =>
    clear hS
    obtain ⟨k, hk, hS⟩ := hrel
    obtain ⟨a3, c3, rfl, _, _⟩ := hS.own.arg
    have hpl := padR_length m k
    have hps := Lib.hid (padR_succ m k)
    have hown := Lib.hid hS.own
    have hsiz := hS.siz
    replace hS := Lib.hid hS
    by_cases hlt : k < padZ m.length
    · have hne : ¬ (((padR m k).length : Int) % 64 = 56) := by unfold padZ at hlt; omega
      have hll : (padR m k).length ≤ 1000000 := by unfold padZ at hlt; omega
      replace hpl := Lib.hid hpl
      generalize hT : padR m k = T at *
      go_wp2_with (at_builtin; go_must (refine wpB_app1z rfl (.tmp 36) (.tmp 37) rfl (w.heap.size + 1) _ T rfl hown 0 0 rfl rfl hll hsiz ?_))
      intro v5 w5 ho5 hd5
      have hS5 := Lib.hid (hS.out.next (by rw [← hps.out] at ho5; exact ho5.out) hd5.out)
      obtain ⟨a5, c5, hv5, _, _⟩ := ho5.out.arg
      rw [hv5] at hS5 ⊢
      clear ho5 hd5
      go_wp2_with fail
      go_roundw
      case rel => exact ⟨k + 1, by omega, hS5.out⟩
      case measure => have := hpl.out; simp [slLen]; omega
    · obtain rfl : k = padZ m.length := by omega
      have hne : ((padR m (padZ m.length)).length : Int) % 64 = 56 := by unfold padZ at hpl ⊢; omega
      have hpl2 := Lib.hid hpl
      have hml : m.length ≤ 100000 := hl
      clear hpl
      have hz0 := Lib.hid (lenR_zero m)
      generalize hT : padR m (padZ m.length) = T at *
      go_wp2_with fail
      go_loopw [3, 5] (fun v j wr => ∃ k : Nat, k ≤ 8 ∧ j = .int .i64 (7 - (k : Int)) ∧ AllSt w v (lenR m k) wr)
        (fun _ j _ => (intOf j + 8).toNat)
      case atStart => exact ⟨0, Nat.zero_le _, rfl, by rw [hz0.out]; exact hS.out⟩
      case round =>
        clear hS hown hsiz hne hpl2
        obtain ⟨k, hk, rfl, hS⟩ := hrel
        obtain ⟨a3, c3, rfl, _, _⟩ := hS.own.arg
        have hpl := lenR_length m k
        have hps := Lib.hid (lenR_succ m k)
        have hown := Lib.hid hS.own
        have hsiz := hS.siz
        replace hS := Lib.hid hS
        by_cases hlt : k < 8
        · have hll : (lenR m k).length ≤ 1000000 := by unfold padZ at hpl; omega
          have hby := Lib.hid (lenB_at m.length k)
          have hge : (0 : Int) ≤ 7 - (k : Int) := by omega
          clear hpl
          generalize hT : lenR m k = T2 at *
          go_wp2_with (at_builtin; go_must (refine wpB_app1z rfl (.tmp 47) (.tmp 54) rfl (w.heap.size + 1) _ T2 rfl hown (lenB m.length k) _ ?hz rfl hll hsiz ?_))
          case hz => rw [show 8 * (7 - k) = 56 - 8 * k from by omega]; exact hby.out
          intro v5 w5 ho5 hd5
          have hS5 := Lib.hid (hS.out.next (by rw [← hps.out] at ho5; exact ho5.out) hd5.out)
          obtain ⟨a5, c5, hv5, _, _⟩ := ho5.out.arg
          rw [hv5] at hS5 ⊢
          clear ho5 hd5
          go_wp2_with fail
          go_roundw
          case rel => exact ⟨k + 1, by omega, by go_num, hS5.out⟩
          case measure => simp [intOf]; omega
        · obtain rfl : k = 8 := by omega
          have hLq : (lenR m 8).length % 64 = 0 := by unfold padZ at hpl; omega
          have hLl : (lenR m 8).length ≤ 200000 := by unfold padZ at hpl; omega
          rw [lenR_eight] at hLq hLl hS hown
          obtain ⟨g, hg0, cur, hgb, hcur⟩ := hS.out.own.block (by rw [padM_length0]; omega)
          cases hg0
          have hlt7 : ¬ (0 : Int) ≤ 7 - ((8 : Nat) : Int) := by omega
          rw [lenR_eight]
          have hRow := Lib.hid (show RSt w g cur wr from ⟨hgb, hS.out.res, hS.out.bel⟩)
          have hsz8 := heap_alloc_new wr (.cells (c8 s8First) 93)
          obtain ⟨tF, fF, hFw⟩ := hF.below hS.out.bel
          replace hFw := Lib.hid hFw
          have hsF : (Tryd.prog.info? 93).map (·.size) = some (c8 s8First).size := by kernel_rfl
          have hs8 : zero8.size = (c8 s8First).size := by rw [zero8_size, c8_size]
          have ho8 := c8_one s8First
          have hu8 : Tryd.prog.underlying 93 = some (.array 8 92) := Tryd.underlying93
          clear hpl hS hown hsiz hps hz0 hl hml
          have zr8 := zero8R_run
          have zn8 := zero8_ne
          have zr6 := zero64_run
          have zn6 := zero64_ne
          have hI := Lib.hid (show BSt w g wr.heap.size cur s8First (wr.alloc (.cells (c8 s8First) 93)) from ⟨hRow.out.grown ((Below.refl _ _).alloc (Nat.le_refl _) _), heap_alloc_new wr _⟩)
          have hgs := Lib.hid (show g ≠ wr.heap.size from by have := block_lt hRow.out.all; omega)
          have hws := Lib.hid (show w.heap.size < wr.heap.size from by have := block_lt hRow.out.res; omega)
          clear hsz8 hRow hgb
          generalize hC8 : c8 s8First = C8 at *
          generalize hM : padM m = M at *
          replace hM := Lib.hid hM
          go_wp2_with (first | with_reducible refine wpList_load_rowT rfl 93 (.global 20) rfl 20 C8 tF fF (.array 8 92) rfl hFw hu8 rfl hsF ?_ | with_reducible refine wpList_store_new rfl 93 (.tmp 6) (.tmp 56) rfl zero8 C8 rfl rfl hsF hs8 ho8 ?_)
          rename_i hQ _
          clear hFw hsF hs8 ho8 hlt7
          obtain ⟨sb, hsb⟩ : ∃ sb, sb = wr.heap.size := ⟨_, rfl⟩
          obtain ⟨W, hW⟩ : ∃ W, W = wr.alloc (.cells C8 93) := ⟨_, rfl⟩
          rw [← hW, ← hsb] at hI ⊢
          rw [← hsb] at hgs hws
          replace hsb := Lib.hid hsb
          replace hW := Lib.hid hW
          clear hC8
          obtain ⟨L, hL⟩ : ∃ L, L = M.length := ⟨_, rfl⟩
          rw [← hL] at hLq hLl hcur ⊢
          replace hcur := Lib.hid hcur
          replace hL := Lib.hid hL
          replace hgs := Lib.hid hgs
          replace hws := Lib.hid hws
          refine wp_loopF [(false, 7), (true, 17), (false, 33), (true, 214)] _ [] (fun U wr => ∃ q : Nat, 64 * q ≤ L ∧ U 7 = .int .i64 ((64 * q : Nat) : Int) ∧ BSt w g sb cur (foldS s8First M q) wr)
            (fun U _ => L - (intOf (U 7)).toNat) ?_ ?_
          · simp only [List.getD_cons_zero, List.getD_cons_succ]
            exact ⟨0, by omega, rfl, hI.out⟩
          · clear hI
            intro U wr hrel KK hback l' hl'
            obtain ⟨q, hq, h7, hI⟩ := hrel
            simp only [fillS, popSeg, cond_true, cond_false, Nat.reduceAdd, h7] at hl'
            subst hl'
            replace h7 := Lib.hid h7
            by_cases hlt : 64 * q < L
            · have hnext := Lib.hid (show foldS s8First M (q + 1) = takeS (foldS s8First M q) ((M.drop (64 * q)).take 64) from rfl)
              have hch := Lib.hid (fun n h => cf_chunk M (64 * q) n h)
              have hKL : 64 * q + 64 ≤ L := by omega
              have hkq := Lib.hid (show 64 * (q + 1) = 64 * q + 64 from by omega)
              obtain ⟨K, hK0⟩ : ∃ K, K = 64 * q := ⟨_, rfl⟩
              rw [← hK0] at hlt hch hnext hKL hkq ⊢
              replace hK0 := Lib.hid hK0
              generalize foldS s8First M q = S at *
              generalize (M.drop K).take 64 = ch at *
              have hlti : (K : Int) < (L : Int) := by omega
              have hst0 := Lib.hid (show WSt w g sb wr.heap.size cur S (lowTo ch 0 0) (wr.alloc (.cells zero64 94)) from ⟨hI.grown ((Below.refl _ _).alloc (Nat.le_refl _) _), by rw [lowTo_start, ← zero64_eq]; exact heap_alloc_new wr _⟩)
              have hgw := Lib.hid (show g ≠ wr.heap.size from by have := block_lt hI.rs.all; omega)
              have hsw := Lib.hid (show sb ≠ wr.heap.size from by have := block_lt hI.st; omega)
              have hww := Lib.hid (show w.heap.size < wr.heap.size from by have := block_lt hI.rs.res; omega)
              have hs64 : zero64.size = zero64.size := rfl
              have hi64 : (Tryd.prog.info? 94).map (·.size) = some zero64.size := by kernel_rfl
              have ho64 : zero64.all (·.oneCell') = true := by rw [zero64_eq]; exact cW_one _
              replace hs64 := Lib.hid hs64
              clear hI
              go_wp2_with (with_reducible refine wpList_store_new rfl 94 (.tmp 8) (.tmp 63) rfl zero64 zero64 rfl rfl hi64 hs64.out ho64 ?_)
              obtain ⟨wb, hwb⟩ : ∃ wb, wb = wr.heap.size := ⟨_, rfl⟩
              obtain ⟨W1, hW1⟩ : ∃ W, W = wr.alloc (.cells zero64 94) := ⟨_, rfl⟩
              rw [← hW1, ← hwb] at hst0
              rw [← hwb] at hgw hsw hww
              rw [← hW1, ← hwb]
              replace hwb := Lib.hid hwb
              replace hW1 := Lib.hid hW1
              clear ho64 hi64
              go_wp2_with fail
              refine wp_loopF [(false, 9), (true, 1), (false, 54), (true, 47)] _ [] (fun V wq => ∃ t : Nat, t ≤ 16 ∧ V 9 = .int .i64 t ∧ WSt w g sb wb cur S (lowTo ch t 0) wq)
                (fun V _ => 16 - (intOf (V 9)).toNat) ?_ ?_
              · simp only [List.getD_cons_zero, List.getD_cons_succ]
                exact ⟨0, Nat.zero_le _, rfl, hst0.out⟩
              · clear hst0
                intro V wr hrel K1 hbk1 l' hl'
                obtain ⟨t, ht, h9, hI⟩ := hrel
                simp only [fillS, popSeg, cond_true, cond_false, Nat.reduceAdd, h9] at hl'
                subst hl'
                replace h9 := Lib.hid h9
                by_cases hlt : t < 16
                · have hlt16 : (t : Int) < 16 := by omega
                  have hx : ∀ j, j < 4 → ∀ W, RSt w g cur W → W.cell? ⟨g, K + 4 * t + j, none⟩ = some (.int .u8 ((cf ch (4 * t + j)).toNat : Int)) := fun j hj W hW => by
                    rw [cell_of_block hW.all, hcur.out _ (by omega), hch.out _ (by omega), Nat.add_assoc]
                  have x0 := hx 0 (by omega)
                  have x1 := hx 1 (by omega)
                  have x2 := hx 2 (by omega)
                  have x3 := hx 3 (by omega)
                  simp only [Nat.add_zero] at x0
                  have hwR := Lib.hid (wordR_eq ch t)
                  generalize cf ch (4 * t) = c0 at *
                  generalize cf ch (4 * t + 1) = c1 at *
                  generalize cf ch (4 * t + 2) = c2 at *
                  generalize cf ch (4 * t + 3) = c3 at *
                  have f1 := hI.free t
                  have d1 := hI.cell (j := t) (by omega)
                  have n0 := IntWalk.i64_in (4 * (t : Int)) (by omega)
                  have n1 := IntWalk.i64_in ((K : Int) + 4 * (t : Int)) (by omega)
                  have n2 := IntWalk.i64_in ((K : Int) + 4 * (t : Int) + 1) (by omega)
                  have n3 := IntWalk.i64_in ((K : Int) + 4 * (t : Int) + 2) (by omega)
                  have n4 := IntWalk.i64_in ((K : Int) + 4 * (t : Int) + 3) (by omega)
                  have m1 : (0 : Int) ≤ (K : Int) + 4 * (t : Int) := by omega
                  have m2 : (0 : Int) ≤ (K : Int) + 4 * (t : Int) + 1 := by omega
                  have m3 : (0 : Int) ≤ (K : Int) + 4 * (t : Int) + 2 := by omega
                  have m4 : (0 : Int) ≤ (K : Int) + 4 * (t : Int) + 3 := by omega
                  have p1 : (K : Int) + 4 * (t : Int) < L := by omega
                  have p2 : (K : Int) + 4 * (t : Int) + 1 < L := by omega
                  have p3 : (K : Int) + 4 * (t : Int) + 2 < L := by omega
                  have p4 : (K : Int) + 4 * (t : Int) + 3 < L := by omega
                  have q1 : ((K : Int) + 4 * (t : Int)).toNat = K + 4 * t := by omega
                  have q2 : ((K : Int) + 4 * (t : Int) + 1).toNat = K + 4 * t + 1 := by omega
                  have q3 : ((K : Int) + 4 * (t : Int) + 2).toNat = K + 4 * t + 2 := by omega
                  have q4 : ((K : Int) + 4 * (t : Int) + 3).toNat = K + 4 * t + 3 := by omega
                  replace hI := Lib.hid hI
                  clear hx
                  go_wp2_with fail
                  replace hI := Lib.hid (hI.out.grown (Below.refl _ wr).drew)
                  have hbd := hI.out.bs.rs
                  have e0 : (c0.toNat : Int) % 4294967296 = wn c0.toUInt32 := by rw [← byteW]; have := c0.toNat_lt; omega
                  have e1 : (c1.toNat : Int) % 4294967296 = wn c1.toUInt32 := by rw [← byteW]; have := c1.toNat_lt; omega
                  have e2 : (c2.toNat : Int) % 4294967296 = wn c2.toUInt32 := by rw [← byteW]; have := c2.toNat_lt; omega
                  have e3 : (c3.toNat : Int) % 4294967296 = wn c3.toUInt32 := by rw [← byteW]; have := c3.toNat_lt; omega
                  have s0 : wn c0.toUInt32 * (16777216 : Int) % (4294967296 : Int) = wn (c0.toUInt32 <<< 24) := shl32 c0.toUInt32 24 (by omega)
                  have s1 : wn c1.toUInt32 * (65536 : Int) % (4294967296 : Int) = wn (c1.toUInt32 <<< 16) := shl32 c1.toUInt32 16 (by omega)
                  have s2 : wn c2.toUInt32 * (256 : Int) % (4294967296 : Int) = wn (c2.toUInt32 <<< 8) := shl32 c2.toUInt32 8 (by omega)
                  have b1 := or32 (c0.toUInt32 <<< 24) (c1.toUInt32 <<< 16)
                  have b2 := or32 (c0.toUInt32 <<< 24 ||| c1.toUInt32 <<< 16) (c2.toUInt32 <<< 8)
                  have b3 := or32 (c0.toUInt32 <<< 24 ||| c1.toUInt32 <<< 16 ||| c2.toUInt32 <<< 8) c3.toUInt32
                  replace hwR := Lib.hid (show c0.toUInt32 <<< 24 ||| c1.toUInt32 <<< 16 ||| c2.toUInt32 <<< 8 ||| c3.toUInt32 = wordAt ch t from hwR.out)
                  refine wp_region_held_drew (S := (RSt w g cur)) (by kernel_rfl) hbd (fun hOn => ?_)
                  generalize World.drew wr = wd at *
                  refine wpAnyH_take (i := 0) (v := ?_) (by simp only [List.getElem?_toArray, List.getElem?_cons_zero]; rfl) (by kernel_rfl) (by kernel_rfl) (by kernel_rfl) (by exact fun _ _ _ h => h) (Or.inl ⟨by rfl, ?_⟩) hOn ?_
                  rotate_left
                  focus (intro W hSW; go_simp; try with_reducible rfl)
                  try simp only [Act.put, List.setIfInBounds_toArray, List.set_cons_zero, List.set_cons_succ]
                  refine wpAnyH_take (i := 1) (v := ?_) (by simp only [List.getElem?_toArray, List.getElem?_cons_succ, List.getElem?_cons_zero]; rfl) (by kernel_rfl) (by kernel_rfl) (by kernel_rfl) (by exact fun _ _ _ h => h) (Or.inl ⟨by rfl, ?_⟩) hOn ?_
                  rotate_left
                  focus (intro W hSW; go_simp; try with_reducible rfl)
                  try simp only [Act.put, List.setIfInBounds_toArray, List.set_cons_zero, List.set_cons_succ]
                  refine wpAnyH_take (i := 2) (v := ?_) (by simp only [List.getElem?_toArray, List.getElem?_cons_succ, List.getElem?_cons_zero]; rfl) (by kernel_rfl) (by kernel_rfl) (by kernel_rfl) (by exact fun _ _ _ h => h) (Or.inl ⟨by rfl, ?_⟩) hOn ?_
                  rotate_left
                  focus (intro W hSW; go_simp; try with_reducible rfl)
                  try simp only [Act.put, List.setIfInBounds_toArray, List.set_cons_zero, List.set_cons_succ]
                  refine wpAnyH_take (i := 3) (v := ?_) (by simp only [List.getElem?_toArray, List.getElem?_cons_succ, List.getElem?_cons_zero]; rfl) (by kernel_rfl) (by kernel_rfl) (by kernel_rfl) (by exact fun _ _ _ h => h) (Or.inl ⟨by rfl, ?_⟩) hOn ?_
                  rotate_left
                  focus (intro W hSW; go_simp; try with_reducible rfl)
                  try simp only [Act.put, List.setIfInBounds_toArray, List.set_cons_zero, List.set_cons_succ]
                  refine wpAnyH_take (i := 4) (v := ?_) (by simp only [List.getElem?_toArray, List.getElem?_cons_succ, List.getElem?_cons_zero]; rfl) (by kernel_rfl) (by kernel_rfl) (by kernel_rfl) (by exact fun _ _ _ h => h) (Or.inl ⟨by rfl, ?_⟩) hOn ?_
                  rotate_left
                  focus (intro W hSW; go_simp; try with_reducible rfl)
                  try simp only [Act.put, List.setIfInBounds_toArray, List.set_cons_zero, List.set_cons_succ]
                  refine wpAnyH_take (i := 5) (v := ?_) (by simp only [List.getElem?_toArray, List.getElem?_cons_succ, List.getElem?_cons_zero]; rfl) (by kernel_rfl) (by kernel_rfl) (by kernel_rfl) (by exact fun _ _ _ h => h) (Or.inl ⟨by rfl, ?_⟩) hOn ?_
                  rotate_left
                  focus (intro W hSW; go_simp; try with_reducible rfl)
                  try simp only [Act.put, List.setIfInBounds_toArray, List.set_cons_zero, List.set_cons_succ]
                  refine wpAnyH_take (i := 6) (v := ?_) (by simp only [List.getElem?_toArray, List.getElem?_cons_succ, List.getElem?_cons_zero]; rfl) (by kernel_rfl) (by kernel_rfl) (by kernel_rfl) (by exact fun _ _ _ h => h) (Or.inl ⟨by rfl, ?_⟩) hOn ?_
                  rotate_left
                  focus (intro W hSW; go_simp; try with_reducible rfl)
                  try simp only [Act.put, List.setIfInBounds_toArray, List.set_cons_zero, List.set_cons_succ]
                  refine wpAnyH_take (i := 7) (v := ?_) (by simp only [List.getElem?_toArray, List.getElem?_cons_succ, List.getElem?_cons_zero]; rfl) (by kernel_rfl) (by kernel_rfl) (by kernel_rfl) (by exact fun _ _ _ h => h) (Or.inl ⟨by rfl, ?_⟩) hOn ?_
                  rotate_left
                  focus (intro W hSW; go_simp; try with_reducible rfl)
                  try simp only [Act.put, List.setIfInBounds_toArray, List.set_cons_zero, List.set_cons_succ]
                  refine wpAnyH_take (i := 8) (v := ?_) (by simp only [List.getElem?_toArray, List.getElem?_cons_succ, List.getElem?_cons_zero]; rfl) (by kernel_rfl) (by kernel_rfl) (by kernel_rfl) (by exact fun _ _ _ h => h) (Or.inl ⟨by rfl, ?_⟩) hOn ?_
                  rotate_left
                  focus (intro W hSW; go_simp; try with_reducible rfl)
                  try simp only [Act.put, List.setIfInBounds_toArray, List.set_cons_zero, List.set_cons_succ]
                  refine wpAnyH_take (i := 9) (v := ?_) (by simp only [List.getElem?_toArray, List.getElem?_cons_succ, List.getElem?_cons_zero]; rfl) (by kernel_rfl) (by kernel_rfl) (by kernel_rfl) (by exact fun _ _ _ h => h) (Or.inl ⟨by rfl, ?_⟩) hOn ?_
                  rotate_left
                  focus (intro W hSW; go_simp; try with_reducible rfl)
                  try simp only [Act.put, List.setIfInBounds_toArray, List.set_cons_zero, List.set_cons_succ]
                  refine wpAnyH_take (i := 10) (v := ?_) (by simp only [List.getElem?_toArray, List.getElem?_cons_succ, List.getElem?_cons_zero]; rfl) (by kernel_rfl) (by kernel_rfl) (by kernel_rfl) (by exact fun _ _ _ h => h) (Or.inl ⟨by rfl, ?_⟩) hOn ?_
                  rotate_left
                  focus (intro W hSW; go_simp; try with_reducible rfl)
                  try simp only [Act.put, List.setIfInBounds_toArray, List.set_cons_zero, List.set_cons_succ]
                  refine wpAnyH_take (i := 11) (v := ?_) (by simp only [List.getElem?_toArray, List.getElem?_cons_succ, List.getElem?_cons_zero]; rfl) (by kernel_rfl) (by kernel_rfl) (by kernel_rfl) (by exact fun _ _ _ h => h) (Or.inl ⟨by rfl, ?_⟩) hOn ?_
                  rotate_left
                  focus (intro W hSW; go_simp; try with_reducible rfl)
                  try simp only [Act.put, List.setIfInBounds_toArray, List.set_cons_zero, List.set_cons_succ]
                  refine wpAnyH_take (i := 12) (v := ?_) (by simp only [List.getElem?_toArray, List.getElem?_cons_succ, List.getElem?_cons_zero]; rfl) (by kernel_rfl) (by kernel_rfl) (by kernel_rfl) (by exact fun _ _ _ h => h) (Or.inl ⟨by rfl, ?_⟩) hOn ?_
                  rotate_left
                  focus (intro W hSW; go_simp; try with_reducible rfl)
                  try simp only [Act.put, List.setIfInBounds_toArray, List.set_cons_zero, List.set_cons_succ]
                  refine wpAnyH_take (i := 13) (v := ?_) (by simp only [List.getElem?_toArray, List.getElem?_cons_succ, List.getElem?_cons_zero]; rfl) (by kernel_rfl) (by kernel_rfl) (by kernel_rfl) (by exact fun _ _ _ h => h) (Or.inl ⟨by rfl, ?_⟩) hOn ?_
                  rotate_left
                  focus (intro W hSW; go_simp; try with_reducible rfl)
                  try simp only [Act.put, List.setIfInBounds_toArray, List.set_cons_zero, List.set_cons_succ]
                  refine wpAnyH_take (i := 14) (v := ?_) (by simp only [List.getElem?_toArray, List.getElem?_cons_succ, List.getElem?_cons_zero]; rfl) (by kernel_rfl) (by kernel_rfl) (by kernel_rfl) (by exact fun _ _ _ h => h) (Or.inl ⟨by rfl, ?_⟩) hOn ?_
                  rotate_left
                  focus (intro W hSW; go_simp; try with_reducible rfl)
                  try simp only [Act.put, List.setIfInBounds_toArray, List.set_cons_zero, List.set_cons_succ]
                  refine wpAnyH_take (i := 15) (v := ?_) (by simp only [List.getElem?_toArray, List.getElem?_cons_succ, List.getElem?_cons_zero]; rfl) (by kernel_rfl) (by kernel_rfl) (by kernel_rfl) (by exact fun _ _ _ h => h) (Or.inl ⟨by rfl, ?_⟩) hOn ?_
                  rotate_left
                  focus (intro W hSW; go_simp; try with_reducible rfl)
                  try simp only [Act.put, List.setIfInBounds_toArray, List.set_cons_zero, List.set_cons_succ]
                  refine wpAnyH_take (i := 16) (v := ?_) (by simp only [List.getElem?_toArray, List.getElem?_cons_succ, List.getElem?_cons_zero]; rfl) (by kernel_rfl) (by kernel_rfl) (by kernel_rfl) (by exact fun _ _ _ h => h) (Or.inl ⟨by rfl, ?_⟩) hOn ?_
                  rotate_left
                  focus (intro W hSW; go_simp; try with_reducible rfl)
                  try simp only [Act.put, List.setIfInBounds_toArray, List.set_cons_zero, List.set_cons_succ]
                  refine wpAnyH_take (i := 17) (v := ?_) (by simp only [List.getElem?_toArray, List.getElem?_cons_succ, List.getElem?_cons_zero]; rfl) (by kernel_rfl) (by kernel_rfl) (by kernel_rfl) (by exact fun _ _ _ h => h) (Or.inl ⟨by rfl, ?_⟩) hOn ?_
                  rotate_left
                  focus (intro W hSW; go_simp; try with_reducible rfl)
                  try simp only [Act.put, List.setIfInBounds_toArray, List.set_cons_zero, List.set_cons_succ]
                  refine wpAnyH_take (i := 18) (v := ?_) (by simp only [List.getElem?_toArray, List.getElem?_cons_succ, List.getElem?_cons_zero]; rfl) (by kernel_rfl) (by kernel_rfl) (by kernel_rfl) (by exact fun _ _ _ h => h) (Or.inl ⟨by rfl, ?_⟩) hOn ?_
                  rotate_left
                  focus (intro W hSW; go_simp; try with_reducible rfl)
                  try simp only [Act.put, List.setIfInBounds_toArray, List.set_cons_zero, List.set_cons_succ]
                  refine wpAnyH_take (i := 19) (v := ?_) (by simp only [List.getElem?_toArray, List.getElem?_cons_succ, List.getElem?_cons_zero]; rfl) (by kernel_rfl) (by kernel_rfl) (by kernel_rfl) (by exact fun _ _ _ h => h) (Or.inl ⟨by rfl, ?_⟩) hOn ?_
                  rotate_left
                  focus (intro W hSW; go_simp; try with_reducible rfl)
                  try simp only [Act.put, List.setIfInBounds_toArray, List.set_cons_zero, List.set_cons_succ]
                  refine wpAnyH_take (i := 20) (v := ?_) (by simp only [List.getElem?_toArray, List.getElem?_cons_succ, List.getElem?_cons_zero]; rfl) (by kernel_rfl) (by kernel_rfl) (by kernel_rfl) (by exact fun _ _ _ h => h) (Or.inl ⟨by rfl, ?_⟩) hOn ?_
                  rotate_left
                  focus (intro W hSW; go_simp; try with_reducible rfl)
                  try simp only [Act.put, List.setIfInBounds_toArray, List.set_cons_zero, List.set_cons_succ]
                  refine wpAnyH_take (i := 21) (v := ?_) (by simp only [List.getElem?_toArray, List.getElem?_cons_succ, List.getElem?_cons_zero]; rfl) (by kernel_rfl) (by kernel_rfl) (by kernel_rfl) (by exact fun _ _ _ h => h) (Or.inl ⟨by rfl, ?_⟩) hOn ?_
                  rotate_left
                  focus (intro W hSW; go_simp; try with_reducible rfl)
                  try simp only [Act.put, List.setIfInBounds_toArray, List.set_cons_zero, List.set_cons_succ]
                  refine wpAnyH_take (i := 22) (v := ?_) (by simp only [List.getElem?_toArray, List.getElem?_cons_succ, List.getElem?_cons_zero]; rfl) (by kernel_rfl) (by kernel_rfl) (by kernel_rfl) (by exact fun _ _ _ h => h) (Or.inl ⟨by rfl, ?_⟩) hOn ?_
                  rotate_left
                  focus (intro W hSW; go_simp; try with_reducible rfl)
                  try simp only [Act.put, List.setIfInBounds_toArray, List.set_cons_zero, List.set_cons_succ]
                  refine wpAnyH_take (i := 23) (v := ?_) (by simp only [List.getElem?_toArray, List.getElem?_cons_succ, List.getElem?_cons_zero]; rfl) (by kernel_rfl) (by kernel_rfl) (by kernel_rfl) (by exact fun _ _ _ h => h) (Or.inl ⟨by rfl, ?_⟩) hOn ?_
                  rotate_left
                  focus (intro W hSW; go_simp; try with_reducible rfl)
                  try simp only [Act.put, List.setIfInBounds_toArray, List.set_cons_zero, List.set_cons_succ]
                  refine wpAnyH_take (i := 24) (v := ?_) (by simp only [List.getElem?_toArray, List.getElem?_cons_succ, List.getElem?_cons_zero]; rfl) (by kernel_rfl) (by kernel_rfl) (by kernel_rfl) (by exact fun _ _ _ h => h) (Or.inl ⟨by rfl, ?_⟩) hOn ?_
                  rotate_left
                  focus (intro W hSW; go_simp; try with_reducible rfl)
                  try simp only [Act.put, List.setIfInBounds_toArray, List.set_cons_zero, List.set_cons_succ]
                  refine wpAnyH_take (i := 25) (v := ?_) (by simp only [List.getElem?_toArray, List.getElem?_cons_succ, List.getElem?_cons_zero]; rfl) (by kernel_rfl) (by kernel_rfl) (by kernel_rfl) (by exact fun _ _ _ h => h) (Or.inl ⟨by rfl, ?_⟩) hOn ?_
                  rotate_left
                  focus (intro W hSW; go_simp; try with_reducible rfl)
                  try simp only [Act.put, List.setIfInBounds_toArray, List.set_cons_zero, List.set_cons_succ]
                  refine wpAnyH_take (i := 26) (v := ?_) (by simp only [List.getElem?_toArray, List.getElem?_cons_succ, List.getElem?_cons_zero]; rfl) (by kernel_rfl) (by kernel_rfl) (by kernel_rfl) (by exact fun _ _ _ h => h) (Or.inl ⟨by rfl, ?_⟩) hOn ?_
                  rotate_left
                  focus (intro W hSW; go_simp; try with_reducible rfl)
                  try simp only [Act.put, List.setIfInBounds_toArray, List.set_cons_zero, List.set_cons_succ]
                  refine wpAnyH_take (i := 27) (v := ?_) (by simp only [List.getElem?_toArray, List.getElem?_cons_succ, List.getElem?_cons_zero]; rfl) (by kernel_rfl) (by kernel_rfl) (by kernel_rfl) (by exact fun _ _ _ h => h) (Or.inl ⟨by rfl, ?_⟩) hOn ?_
                  rotate_left
                  focus (intro W hSW; go_simp; try with_reducible rfl)
                  try simp only [Act.put, List.setIfInBounds_toArray, List.set_cons_zero, List.set_cons_succ]
                  refine wpAnyH_take (i := 28) (v := ?_) (by simp only [List.getElem?_toArray, List.getElem?_cons_succ, List.getElem?_cons_zero]; rfl) (by kernel_rfl) (by kernel_rfl) (by kernel_rfl) (by exact fun _ _ _ h => h) (Or.inl ⟨by rfl, ?_⟩) hOn ?_
                  rotate_left
                  focus (intro W hSW; go_simp; try with_reducible rfl)
                  try simp only [Act.put, List.setIfInBounds_toArray, List.set_cons_zero, List.set_cons_succ]
                  refine wpAnyH_take (i := 29) (v := ?_) (by simp only [List.getElem?_toArray, List.getElem?_cons_succ, List.getElem?_cons_zero]; rfl) (by kernel_rfl) (by kernel_rfl) (by kernel_rfl) (by exact fun _ _ _ h => h) (Or.inl ⟨by rfl, ?_⟩) hOn ?_
                  rotate_left
                  focus (intro W hSW; go_simp; try with_reducible rfl)
                  try simp only [Act.put, List.setIfInBounds_toArray, List.set_cons_zero, List.set_cons_succ]
                  refine wpAnyH_take (i := 30) (v := ?_) (by simp only [List.getElem?_toArray, List.getElem?_cons_succ, List.getElem?_cons_zero]; rfl) (by kernel_rfl) (by kernel_rfl) (by kernel_rfl) (by exact fun _ _ _ h => h) (Or.inl ⟨by rfl, ?_⟩) hOn ?_
                  rotate_left
                  focus (intro W hSW; go_simp; try with_reducible rfl)
                  try simp only [Act.put, List.setIfInBounds_toArray, List.set_cons_zero, List.set_cons_succ]
                  refine wpAnyH_take (i := 31) (v := ?_) (by simp only [List.getElem?_toArray, List.getElem?_cons_succ, List.getElem?_cons_zero]; rfl) (by kernel_rfl) (by kernel_rfl) (by kernel_rfl) (by exact fun _ _ _ h => h) (Or.inl ⟨by rfl, ?_⟩) hOn ?_
                  rotate_left
                  focus (intro W hSW; go_simp; try with_reducible rfl)
                  try simp only [Act.put, List.setIfInBounds_toArray, List.set_cons_zero, List.set_cons_succ]
                  refine wpAnyH_take (i := 32) (v := ?_) (by simp only [List.getElem?_toArray, List.getElem?_cons_succ, List.getElem?_cons_zero]; rfl) (by kernel_rfl) (by kernel_rfl) (by kernel_rfl) (by exact fun _ _ _ h => h) (Or.inl ⟨by rfl, ?_⟩) hOn ?_
                  rotate_left
                  focus (intro W hSW; go_simp; try with_reducible rfl)
                  try simp only [Act.put, List.setIfInBounds_toArray, List.set_cons_zero, List.set_cons_succ]
                  refine wpAnyH_take (i := 33) (v := ?_) (by simp only [List.getElem?_toArray, List.getElem?_cons_succ, List.getElem?_cons_zero]; rfl) (by kernel_rfl) (by kernel_rfl) (by kernel_rfl) (by exact fun _ _ _ h => h) (Or.inl ⟨by rfl, ?_⟩) hOn ?_
                  rotate_left
                  focus (intro W hSW; go_simp; try with_reducible rfl)
                  try simp only [Act.put, List.setIfInBounds_toArray, List.set_cons_zero, List.set_cons_succ]
                  refine wpAnyH_take (i := 34) (v := ?_) (by simp only [List.getElem?_toArray, List.getElem?_cons_succ, List.getElem?_cons_zero]; rfl) (by kernel_rfl) (by kernel_rfl) (by kernel_rfl) (by exact fun _ _ _ h => h) (Or.inl ⟨by rfl, ?_⟩) hOn ?_
                  rotate_left
                  focus (intro W hSW; go_simp; try with_reducible rfl)
                  try simp only [Act.put, List.setIfInBounds_toArray, List.set_cons_zero, List.set_cons_succ]
                  refine wpAnyH_take (i := 35) (v := ?_) (by simp only [List.getElem?_toArray, List.getElem?_cons_succ, List.getElem?_cons_zero]; rfl) (by kernel_rfl) (by kernel_rfl) (by kernel_rfl) (by exact fun _ _ _ h => h) (Or.inl ⟨by rfl, ?_⟩) hOn ?_
                  rotate_left
                  focus (intro W hSW; go_simp; try with_reducible rfl)
                  try simp only [Act.put, List.setIfInBounds_toArray, List.set_cons_zero, List.set_cons_succ]
                  refine wpAnyH_take (i := 36) (v := ?_) (by simp only [List.getElem?_toArray, List.getElem?_cons_succ, List.getElem?_cons_zero]; rfl) (by kernel_rfl) (by kernel_rfl) (by kernel_rfl) (by exact fun _ _ _ h => h) (Or.inl ⟨by rfl, ?_⟩) hOn ?_
                  rotate_left
                  focus (intro W hSW; go_simp; try with_reducible rfl)
                  try simp only [Act.put, List.setIfInBounds_toArray, List.set_cons_zero, List.set_cons_succ]
                  refine wpAnyH_take (i := 37) (v := ?_) (by simp only [List.getElem?_toArray, List.getElem?_cons_succ, List.getElem?_cons_zero]; rfl) (by kernel_rfl) (by kernel_rfl) (by kernel_rfl) (by exact fun _ _ _ h => h) (Or.inl ⟨by rfl, ?_⟩) hOn ?_
                  rotate_left
                  focus (intro W hSW; go_simp; try with_reducible rfl)
                  try simp only [Act.put, List.setIfInBounds_toArray, List.set_cons_zero, List.set_cons_succ]
                  refine wpAnyH_take (i := 38) (v := ?_) (by simp only [List.getElem?_toArray, List.getElem?_cons_succ, List.getElem?_cons_zero]; rfl) (by kernel_rfl) (by kernel_rfl) (by kernel_rfl) (by exact fun _ _ _ h => h) (Or.inl ⟨by rfl, ?_⟩) hOn ?_
                  rotate_left
                  focus (intro W hSW; go_simp; try with_reducible rfl)
                  try simp only [Act.put, List.setIfInBounds_toArray, List.set_cons_zero, List.set_cons_succ]
                  refine wpAnyH_take (i := 39) (v := ?_) (by simp only [List.getElem?_toArray, List.getElem?_cons_succ, List.getElem?_cons_zero]; rfl) (by kernel_rfl) (by kernel_rfl) (by kernel_rfl) (by exact fun _ _ _ h => h) (Or.inl ⟨by rfl, ?_⟩) hOn ?_
                  rotate_left
                  focus (intro W hSW; go_simp; try with_reducible rfl)
                  try simp only [Act.put, List.setIfInBounds_toArray, List.set_cons_zero, List.set_cons_succ]
                  refine wpAnyH_take (i := 40) (v := ?_) (by simp only [List.getElem?_toArray, List.getElem?_cons_succ, List.getElem?_cons_zero]; rfl) (by kernel_rfl) (by kernel_rfl) (by kernel_rfl) (by exact fun _ _ _ h => h) (Or.inl ⟨by rfl, ?_⟩) hOn ?_
                  rotate_left
                  focus (intro W hSW; go_simp; try with_reducible rfl)
                  try simp only [Act.put, List.setIfInBounds_toArray, List.set_cons_zero, List.set_cons_succ]
                  refine wpAnyH_take (i := 41) (v := ?_) (by simp only [List.getElem?_toArray, List.getElem?_cons_succ, List.getElem?_cons_zero]; rfl) (by kernel_rfl) (by kernel_rfl) (by kernel_rfl) (by exact fun _ _ _ h => h) (Or.inl ⟨by rfl, ?_⟩) hOn ?_
                  rotate_left
                  focus (intro W hSW; go_simp; try with_reducible rfl)
                  try simp only [Act.put, List.setIfInBounds_toArray, List.set_cons_zero, List.set_cons_succ]
                  refine wpAnyH_ready (rs := [42]) (by kernel_rfl) (by simp) ?_
                  refine AllReadyH.cons (by simp only [List.getElem?_toArray, List.getElem?_cons_succ, List.getElem?_cons_zero]; rfl) (fun Kz hKz => ?_) AllReadyH.nil
                  go_simp
                  try go_wp2_with fail
                  refine hKz.out _ _ (by first | exact hOn | exact Grown.alloc hOn _ | exact Below.alloc hOn (Below.size hOn) _ | exact Grown.alloc (Grown.refl _) _) (fun hNext => ?_)
                  clear hKz Kz hOn
                  have hOn := hNext
                  clear hNext
                  try simp only [Act.put, List.setIfInBounds_toArray, List.set_cons_zero, List.set_cons_succ]
                  refine wpAnyH_ready (rs := [43]) (by kernel_rfl) (by simp) ?_
                  refine AllReadyH.cons (by simp only [List.getElem?_toArray, List.getElem?_cons_succ, List.getElem?_cons_zero]; rfl) (fun Kz hKz => ?_) AllReadyH.nil
                  have hI6 := Lib.hid (show WSt w g sb wb cur S (lowTo ch (t + 1) 0) (wd.setCell ⟨wb, t, none⟩ (.int .u32 (wn (c0.toUInt32 <<< 24 ||| c1.toUInt32 <<< 16 ||| c2.toUInt32 <<< 8 ||| c3.toUInt32)))) from WSt.congr (hI.out.set hgw.out hsw.out hww.out t _) (fun i hi => by rw [← lowTo_word ch t i hi, ← hwR.out]))
                  have hS := hI6.out.bs.rs
                  rw [if_pos (by rfl)]
                  have f1 := hI.out.free t
                  have d1 := hI.out.cell (j := t) (by omega)
                  go_simp
                  refine hKz.out _ _ (by first | exact hS | exact Below.trans hOn (Below.mono hnew (Below.size hOn))) (fun hNext => ?_)
                  clear hKz Kz hOn
                  have hOn := hNext
                  clear hNext
                  try clear hnew
                  try clear hS
                  try simp only [Act.put]
                  refine wpAnyH_done (by kernel_rfl) ?_ _
                  go_wp2_with fail
                  refine hbk1.out _ _ (by kernel_rfl) ?_ ?_
                  · simp only [List.getD_cons_zero, List.getD_cons_succ]
                    exact ⟨t + 1, by omega, by go_num, hI6.out⟩
                  · have h9 := h9.out
                    simp only [List.getD_cons_zero, List.getD_cons_succ, h9, intOf]
                    omega
                · obtain rfl : t = 16 := by omega
                  have hI2 := Lib.hid (WSt.congr hI (lowTo_high ch))
                  clear hI h9 hbk1
                  go_wp2_with fail
                  refine wp_loopF [(false, 10), (true, 3), (false, 98), (true, 41)] _ [] (fun V wq => ∃ t : Nat, 16 ≤ t ∧ t ≤ 64 ∧ V 10 = .int .i64 t ∧ WSt w g sb wb cur S (highTo ch t) wq)
                    (fun V _ => 64 - (intOf (V 10)).toNat) ?_ ?_
                  · simp only [List.getD_cons_zero, List.getD_cons_succ]
                    exact ⟨16, Nat.le_refl _, by omega, rfl, hI2.out⟩
                  · clear hI2
                    intro V2 wr hrel K2 hbk2 l' hl'
                    obtain ⟨t, ht1, ht2, h9, hI⟩ := hrel
                    simp only [fillS, popSeg, cond_true, cond_false, Nat.reduceAdd, h9] at hl'
                    subst hl'
                    replace h9 := Lib.hid h9
                    by_cases hlt : t < 64
                    · have k1 := IntWalk.i64_in ((t : Int) - 2) (by omega)
                      have k2 := IntWalk.i64_in ((t : Int) - 7) (by omega)
                      have k3 := IntWalk.i64_in ((t : Int) - 15) (by omega)
                      have k4 := IntWalk.i64_in ((t : Int) - 16) (by omega)
                      have n1 : ((t : Int) - 2).toNat = t - 2 := by omega
                      have n2 : ((t : Int) - 7).toNat = t - 7 := by omega
                      have n3 : ((t : Int) - 15).toNat = t - 15 := by omega
                      have n4 : ((t : Int) - 16).toNat = t - 16 := by omega
                      have l1 : (0 : Int) ≤ (t : Int) - 2 := by omega
                      have l2 : (0 : Int) ≤ (t : Int) - 7 := by omega
                      have l3 : (0 : Int) ≤ (t : Int) - 15 := by omega
                      have l4 : (0 : Int) ≤ (t : Int) - 16 := by omega
                      have m1 : (2 : Int) ≤ (t : Int) := by omega
                      have m2 : (7 : Int) ≤ (t : Int) := by omega
                      have m3 : (15 : Int) ≤ (t : Int) := by omega
                      have m4 : (16 : Int) ≤ (t : Int) := by omega
                      have u1 : (t : Int) - 2 < 64 := by omega
                      have u2 : (t : Int) - 7 < 64 := by omega
                      have u3 : (t : Int) - 15 < 64 := by omega
                      have u4 : (t : Int) - 16 < 64 := by omega
                      have ca1 : ∀ W, WordsIn wb t ch W → W.cell? ⟨wb, t - 2, none⟩ = some (.int .u32 (wn (wAt ch (t - 2)))) := fun W h => h _ (by omega)
                      have cb1 : ∀ W, WordsIn wb t ch W → W.cell? ⟨wb, t - 7, none⟩ = some (.int .u32 (wn (wAt ch (t - 7)))) := fun W h => h _ (by omega)
                      have cc1 : ∀ W, WordsIn wb t ch W → W.cell? ⟨wb, t - 15, none⟩ = some (.int .u32 (wn (wAt ch (t - 15)))) := fun W h => h _ (by omega)
                      have cd1 : ∀ W, WordsIn wb t ch W → W.cell? ⟨wb, t - 16, none⟩ = some (.int .u32 (wn (wAt ch (t - 16)))) := fun W h => h _ (by omega)
                      have hSa : ∀ W, WSt w g sb wb cur S (highTo ch t) W → WordsIn wb t ch W := fun W h => by
                        intro i hi
                        rw [h.cell (by omega)]; unfold highTo; rw [if_pos hi]
                      have hSb : ∀ W, WSt w g sb wb cur S (highTo ch (t + 1)) W → WordsIn wb t ch W := fun W h => by
                        intro i hi
                        rw [h.cell (by omega)]; unfold highTo; rw [if_pos (by omega)]
                      have hwa := wAt_high ch t ht1
                      have hfin := highTo_next ch t
                      rw [hwa] at hfin
                      replace hfin := Lib.hid hfin
                      replace hSa := Lib.hid hSa
                      replace hSb := Lib.hid hSb
                      clear hwa
                      generalize wAt ch (t - 2) = xa at *
                      generalize wAt ch (t - 7) = xb at *
                      generalize wAt ch (t - 15) = xc at *
                      generalize wAt ch (t - 16) = xd at *
                      have x1 := xor32 (rotr xa 17) (rotr xa 19)
                      have x2 : bits BinOp.xor IntKind.u32 (wn (rotr xa 17 ^^^ rotr xa 19)) (wn (xa >>> 10)) = wn (small1 xa) := xor32 _ _
                      have x3 := xor32 (rotr xc 7) (rotr xc 18)
                      have x4 : bits BinOp.xor IntKind.u32 (wn (rotr xc 7 ^^^ rotr xc 18)) (wn (xc >>> 3)) = wn (small0 xc) := xor32 _ _
                      have z1 : wn xa / (1024 : Int) = wn (xa >>> 10) := shr32 xa 10 (by omega)
                      have z2 : wn xc / (8 : Int) = wn (xc >>> 3) := shr32 xc 3 (by omega)
                      have a1 := add32 (small1 xa) xb
                      have a2 := add32 (small1 xa + xb) (small0 xc)
                      have a3 := add32 (small1 xa + xb + small0 xc) xd
                      replace hI := Lib.hid (hI.grown (Below.refl _ wr).drew)
                      have hbd := hSa.out _ hI.out
                      have hti : (t : Int) < 64 := by omega
                      go_wp2_with fail
                      refine wp_region_held_drew (S := (WordsIn wb t ch)) (by kernel_rfl) hbd (fun hOn => ?_)
                      generalize World.drew wr = wd at *
                      refine wpAnyH_take (i := 0) (v := ?_) (by simp only [List.getElem?_toArray, List.getElem?_cons_zero]; rfl) (by kernel_rfl) (by kernel_rfl) (by kernel_rfl) (by exact fun _ _ _ h => h) (Or.inl ⟨by rfl, ?_⟩) hOn ?_
                      rotate_left
                      focus (intro W hSW; go_simp; try with_reducible rfl)
                      try simp only [Act.put, List.setIfInBounds_toArray, List.set_cons_zero, List.set_cons_succ]
                      refine wpAnyH_take (i := 1) (v := ?_) (by simp only [List.getElem?_toArray, List.getElem?_cons_succ, List.getElem?_cons_zero]; rfl) (by kernel_rfl) (by kernel_rfl) (by kernel_rfl) (by exact fun _ _ _ h => h) (Or.inl ⟨by rfl, ?_⟩) hOn ?_
                      rotate_left
                      focus (intro W hSW; go_simp; try with_reducible rfl)
                      try simp only [Act.put, List.setIfInBounds_toArray, List.set_cons_zero, List.set_cons_succ]
                      refine wpAnyH_take (i := 2) (v := ?_) (by simp only [List.getElem?_toArray, List.getElem?_cons_succ, List.getElem?_cons_zero]; rfl) (by kernel_rfl) (by kernel_rfl) (by kernel_rfl) (by exact fun _ _ _ h => h) (Or.inl ⟨by rfl, ?_⟩) hOn ?_
                      rotate_left
                      focus (intro W hSW; go_simp; try with_reducible rfl)
                      try simp only [Act.put, List.setIfInBounds_toArray, List.set_cons_zero, List.set_cons_succ]
                      refine wpAnyH_take (i := 3) (v := ?_) (by simp only [List.getElem?_toArray, List.getElem?_cons_succ, List.getElem?_cons_zero]; rfl) (by kernel_rfl) (by kernel_rfl) (by kernel_rfl) (by exact fun _ _ _ h => h) (Or.inl ⟨by rfl, ?_⟩) hOn ?_
                      rotate_left
                      focus (intro W hSW; go_simp; try with_reducible rfl)
                      try simp only [Act.put, List.setIfInBounds_toArray, List.set_cons_zero, List.set_cons_succ]
                      refine wpAnyH_take (i := 4) (v := ?_) (by simp only [List.getElem?_toArray, List.getElem?_cons_succ, List.getElem?_cons_zero]; rfl) (by kernel_rfl) (by kernel_rfl) (by kernel_rfl) (by exact fun _ _ _ h => h) (Or.inl ⟨by rfl, ?_⟩) hOn ?_
                      rotate_left
                      focus (intro W hSW; go_simp; try with_reducible rfl)
                      try simp only [Act.put, List.setIfInBounds_toArray, List.set_cons_zero, List.set_cons_succ]
                      refine wpAnyH_take (i := 5) (v := ?_) (by simp only [List.getElem?_toArray, List.getElem?_cons_succ, List.getElem?_cons_zero]; rfl) (by kernel_rfl) (by kernel_rfl) (by kernel_rfl) (by exact fun _ _ _ h => h) (Or.inl ⟨by rfl, ?_⟩) hOn ?_
                      rotate_left
                      focus (intro W hSW; go_simp; try with_reducible rfl)
                      try simp only [Act.put, List.setIfInBounds_toArray, List.set_cons_zero, List.set_cons_succ]
                      refine wpAnyH_take (i := 6) (v := ?_) (by simp only [List.getElem?_toArray, List.getElem?_cons_succ, List.getElem?_cons_zero]; rfl) (by kernel_rfl) (by kernel_rfl) (by kernel_rfl) (by exact fun _ _ _ h => h) (Or.inl ⟨by rfl, ?_⟩) hOn ?_
                      rotate_left
                      focus (intro W hSW; go_simp; try with_reducible rfl)
                      try simp only [Act.put, List.setIfInBounds_toArray, List.set_cons_zero, List.set_cons_succ]
                      refine wpAnyH_take (i := 7) (v := ?_) (by simp only [List.getElem?_toArray, List.getElem?_cons_succ, List.getElem?_cons_zero]; rfl) (by kernel_rfl) (by kernel_rfl) (by kernel_rfl) (by exact fun _ _ _ h => h) (Or.inl ⟨by rfl, ?_⟩) hOn ?_
                      rotate_left
                      focus (intro W hSW; go_simp; try with_reducible rfl)
                      try simp only [Act.put, List.setIfInBounds_toArray, List.set_cons_zero, List.set_cons_succ]
                      refine wpAnyH_take (i := 8) (v := ?_) (by simp only [List.getElem?_toArray, List.getElem?_cons_succ, List.getElem?_cons_zero]; rfl) (by kernel_rfl) (by kernel_rfl) (by kernel_rfl) (by exact fun _ _ _ h => h) (Or.inl ⟨by rfl, ?_⟩) hOn ?_
                      rotate_left
                      focus (intro W hSW; go_simp; try with_reducible rfl)
                      try simp only [Act.put, List.setIfInBounds_toArray, List.set_cons_zero, List.set_cons_succ]
                      refine wpAnyH_take (i := 9) (v := ?_) (by simp only [List.getElem?_toArray, List.getElem?_cons_succ, List.getElem?_cons_zero]; rfl) (by kernel_rfl) (by kernel_rfl) (by kernel_rfl) (by exact fun _ _ _ h => h) (Or.inl ⟨by rfl, ?_⟩) hOn ?_
                      rotate_left
                      focus (intro W hSW; go_simp; try with_reducible rfl)
                      try simp only [Act.put, List.setIfInBounds_toArray, List.set_cons_zero, List.set_cons_succ]
                      refine wpAnyH_done (by kernel_rfl) ?_ _
                      go_wp2_with fail
                      replace hI := Lib.hid (hI.out.grown (Below.refl _ wd).drew)
                      have hbd2 := hSa.out _ hI.out
                      generalize hq1 : wd = wp at *
                      refine wp_region_held_drew (S := (WordsIn wb t ch)) (by kernel_rfl) hbd2 (fun hOn => ?_)
                      generalize World.drew wp = wd at *
                      refine wpAnyH_take (i := 0) (v := ?_) (by simp only [List.getElem?_toArray, List.getElem?_cons_zero]; rfl) (by kernel_rfl) (by kernel_rfl) (by kernel_rfl) (by exact fun _ _ _ h => h) (Or.inl ⟨by rfl, ?_⟩) hOn ?_
                      rotate_left
                      focus (intro W hSW; go_simp; try with_reducible rfl)
                      try simp only [Act.put, List.setIfInBounds_toArray, List.set_cons_zero, List.set_cons_succ]
                      refine wpAnyH_take (i := 1) (v := ?_) (by simp only [List.getElem?_toArray, List.getElem?_cons_succ, List.getElem?_cons_zero]; rfl) (by kernel_rfl) (by kernel_rfl) (by kernel_rfl) (by exact fun _ _ _ h => h) (Or.inl ⟨by rfl, ?_⟩) hOn ?_
                      rotate_left
                      focus (intro W hSW; go_simp; try with_reducible rfl)
                      try simp only [Act.put, List.setIfInBounds_toArray, List.set_cons_zero, List.set_cons_succ]
                      refine wpAnyH_take (i := 3) (v := ?_) (by simp only [List.getElem?_toArray, List.getElem?_cons_succ, List.getElem?_cons_zero]; rfl) (by kernel_rfl) (by kernel_rfl) (by kernel_rfl) (by exact fun _ _ _ h => h) (Or.inl ⟨by rfl, ?_⟩) hOn ?_
                      rotate_left
                      focus (intro W hSW; go_simp; try with_reducible rfl)
                      try simp only [Act.put, List.setIfInBounds_toArray, List.set_cons_zero, List.set_cons_succ]
                      refine wpAnyH_take (i := 6) (v := ?_) (by simp only [List.getElem?_toArray, List.getElem?_cons_succ, List.getElem?_cons_zero]; rfl) (by kernel_rfl) (by kernel_rfl) (by kernel_rfl) (by exact fun _ _ _ h => h) (Or.inl ⟨by rfl, ?_⟩) hOn ?_
                      rotate_left
                      focus (intro W hSW; go_simp; try with_reducible rfl)
                      try simp only [Act.put, List.setIfInBounds_toArray, List.set_cons_zero, List.set_cons_succ]
                      refine wpAnyH_take (i := 7) (v := ?_) (by simp only [List.getElem?_toArray, List.getElem?_cons_succ, List.getElem?_cons_zero]; rfl) (by kernel_rfl) (by kernel_rfl) (by kernel_rfl) (by exact fun _ _ _ h => h) (Or.inl ⟨by rfl, ?_⟩) hOn ?_
                      rotate_left
                      focus (intro W hSW; go_simp; try with_reducible rfl)
                      try simp only [Act.put, List.setIfInBounds_toArray, List.set_cons_zero, List.set_cons_succ]
                      refine wpAnyH_take (i := 9) (v := ?_) (by simp only [List.getElem?_toArray, List.getElem?_cons_succ, List.getElem?_cons_zero]; rfl) (by kernel_rfl) (by kernel_rfl) (by kernel_rfl) (by exact fun _ _ _ h => h) (Or.inl ⟨by rfl, ?_⟩) hOn ?_
                      rotate_left
                      focus (intro W hSW; go_simp; try with_reducible rfl)
                      try simp only [Act.put, List.setIfInBounds_toArray, List.set_cons_zero, List.set_cons_succ]
                      refine wpAnyH_take (i := 10) (v := ?_) (by simp only [List.getElem?_toArray, List.getElem?_cons_succ, List.getElem?_cons_zero]; rfl) (by kernel_rfl) (by kernel_rfl) (by kernel_rfl) (by exact fun _ _ _ h => h) (Or.inl ⟨by rfl, ?_⟩) hOn ?_
                      rotate_left
                      focus (intro W hSW; go_simp; try with_reducible rfl)
                      try simp only [Act.put, List.setIfInBounds_toArray, List.set_cons_zero, List.set_cons_succ]
                      refine wpAnyH_take (i := 11) (v := ?_) (by simp only [List.getElem?_toArray, List.getElem?_cons_succ, List.getElem?_cons_zero]; rfl) (by kernel_rfl) (by kernel_rfl) (by kernel_rfl) (by exact fun _ _ _ h => h) (Or.inl ⟨by rfl, ?_⟩) hOn ?_
                      rotate_left
                      focus (intro W hSW; go_simp; try with_reducible rfl)
                      try simp only [Act.put, List.setIfInBounds_toArray, List.set_cons_zero, List.set_cons_succ]
                      refine wpAnyH_take (i := 12) (v := ?_) (by simp only [List.getElem?_toArray, List.getElem?_cons_succ, List.getElem?_cons_zero]; rfl) (by kernel_rfl) (by kernel_rfl) (by kernel_rfl) (by exact fun _ _ _ h => h) (Or.inl ⟨by rfl, ?_⟩) hOn ?_
                      rotate_left
                      focus (intro W hSW; go_simp; try with_reducible rfl)
                      try simp only [Act.put, List.setIfInBounds_toArray, List.set_cons_zero, List.set_cons_succ]
                      refine wpAnyH_take (i := 14) (v := ?_) (by simp only [List.getElem?_toArray, List.getElem?_cons_succ, List.getElem?_cons_zero]; rfl) (by kernel_rfl) (by kernel_rfl) (by kernel_rfl) (by exact fun _ _ _ h => h) (Or.inl ⟨by rfl, ?_⟩) hOn ?_
                      rotate_left
                      focus (intro W hSW; go_simp; try with_reducible rfl)
                      try simp only [Act.put, List.setIfInBounds_toArray, List.set_cons_zero, List.set_cons_succ]
                      refine wpAnyH_take (i := 16) (v := ?_) (by simp only [List.getElem?_toArray, List.getElem?_cons_succ, List.getElem?_cons_zero]; rfl) (by kernel_rfl) (by kernel_rfl) (by kernel_rfl) (by exact fun _ _ _ h => h) (Or.inl ⟨by rfl, ?_⟩) hOn ?_
                      rotate_left
                      focus (intro W hSW; go_simp; try with_reducible rfl)
                      try simp only [Act.put, List.setIfInBounds_toArray, List.set_cons_zero, List.set_cons_succ]
                      refine wpAnyH_take (i := 19) (v := ?_) (by simp only [List.getElem?_toArray, List.getElem?_cons_succ, List.getElem?_cons_zero]; rfl) (by kernel_rfl) (by kernel_rfl) (by kernel_rfl) (by exact fun _ _ _ h => h) (Or.inl ⟨by rfl, ?_⟩) hOn ?_
                      rotate_left
                      focus (intro W hSW; go_simp; try with_reducible rfl)
                      try simp only [Act.put, List.setIfInBounds_toArray, List.set_cons_zero, List.set_cons_succ]
                      refine wpAnyH_take (i := 20) (v := ?_) (by simp only [List.getElem?_toArray, List.getElem?_cons_succ, List.getElem?_cons_zero]; rfl) (by kernel_rfl) (by kernel_rfl) (by kernel_rfl) (by exact fun _ _ _ h => h) (Or.inl ⟨by rfl, ?_⟩) hOn ?_
                      rotate_left
                      focus (intro W hSW; go_simp; try with_reducible rfl)
                      try simp only [Act.put, List.setIfInBounds_toArray, List.set_cons_zero, List.set_cons_succ]
                      refine wpAnyH_take (i := 23) (v := ?_) (by simp only [List.getElem?_toArray, List.getElem?_cons_succ, List.getElem?_cons_zero]; rfl) (by kernel_rfl) (by kernel_rfl) (by kernel_rfl) (by exact fun _ _ _ h => h) (Or.inl ⟨by rfl, ?_⟩) hOn ?_
                      rotate_left
                      focus (intro W hSW; go_simp; try with_reducible rfl)
                      try simp only [Act.put, List.setIfInBounds_toArray, List.set_cons_zero, List.set_cons_succ]
                      refine wpAnyH_take (i := 24) (v := ?_) (by simp only [List.getElem?_toArray, List.getElem?_cons_succ, List.getElem?_cons_zero]; rfl) (by kernel_rfl) (by kernel_rfl) (by kernel_rfl) (by exact fun _ _ _ h => h) (Or.inl ⟨by rfl, ?_⟩) hOn ?_
                      rotate_left
                      focus (intro W hSW; go_simp; try with_reducible rfl)
                      try simp only [Act.put, List.setIfInBounds_toArray, List.set_cons_zero, List.set_cons_succ]
                      refine wpAnyH_take (i := 25) (v := ?_) (by simp only [List.getElem?_toArray, List.getElem?_cons_succ, List.getElem?_cons_zero]; rfl) (by kernel_rfl) (by kernel_rfl) (by kernel_rfl) (by exact fun _ _ _ h => h) (Or.inl ⟨by rfl, ?_⟩) hOn ?_
                      rotate_left
                      focus (intro W hSW; go_simp; try with_reducible rfl)
                      try simp only [Act.put, List.setIfInBounds_toArray, List.set_cons_zero, List.set_cons_succ]
                      refine wpAnyH_take (i := 26) (v := ?_) (by simp only [List.getElem?_toArray, List.getElem?_cons_succ, List.getElem?_cons_zero]; rfl) (by kernel_rfl) (by kernel_rfl) (by kernel_rfl) (by exact fun _ _ _ h => h) (Or.inl ⟨by rfl, ?_⟩) hOn ?_
                      rotate_left
                      focus (intro W hSW; go_simp; try with_reducible rfl)
                      try simp only [Act.put, List.setIfInBounds_toArray, List.set_cons_zero, List.set_cons_succ]
                      refine wpAnyH_ready (rs := [2]) (by kernel_rfl) (by simp) ?_
                      refine AllReadyH.cons (by simp only [List.getElem?_toArray, List.getElem?_cons_succ, List.getElem?_cons_zero]; rfl) (fun Kz hKz => ?_) AllReadyH.nil
                      go_simp
                      (with_reducible refine (rt_any xa 17 (by omega) _ _ (by omega)).mono ?_)
                      rintro e w4 ⟨rfl, rfl⟩
                      have hS := hOn
                      go_wp2_with fail
                      refine hKz.out _ _ (by first | exact hS | exact Below.trans hOn (Below.mono hnew (Below.size hOn))) (fun hNext => ?_)
                      clear hKz Kz hOn
                      have hOn := hNext
                      clear hNext
                      try clear hnew
                      try clear hS
                      try simp only [Act.put, List.setIfInBounds_toArray, List.set_cons_zero, List.set_cons_succ]
                      refine wpAnyH_ready (rs := [4]) (by kernel_rfl) (by simp) ?_
                      refine AllReadyH.cons (by simp only [List.getElem?_toArray, List.getElem?_cons_succ, List.getElem?_cons_zero]; rfl) (fun Kz hKz => ?_) AllReadyH.nil
                      go_simp
                      (with_reducible refine (rt_any xa 19 (by omega) _ _ (by omega)).mono ?_)
                      rintro e w4 ⟨rfl, rfl⟩
                      have hS := hOn
                      go_wp2_with fail
                      refine hKz.out _ _ (by first | exact hS | exact Below.trans hOn (Below.mono hnew (Below.size hOn))) (fun hNext => ?_)
                      clear hKz Kz hOn
                      have hOn := hNext
                      clear hNext
                      try clear hnew
                      try clear hS
                      try simp only [Act.put, List.setIfInBounds_toArray, List.set_cons_zero, List.set_cons_succ]
                      refine wpAnyH_take (i := 5) (v := ?_) (by simp only [List.getElem?_toArray, List.getElem?_cons_succ, List.getElem?_cons_zero]; rfl) (by kernel_rfl) (by kernel_rfl) (by kernel_rfl) (by exact fun _ _ _ h => h) (Or.inl ⟨by rfl, ?_⟩) hOn ?_
                      rotate_left
                      focus (intro W hSW; go_simp; try with_reducible rfl)
                      try simp only [Act.put, List.setIfInBounds_toArray, List.set_cons_zero, List.set_cons_succ]
                      refine wpAnyH_take (i := 8) (v := ?_) (by simp only [List.getElem?_toArray, List.getElem?_cons_succ, List.getElem?_cons_zero]; rfl) (by kernel_rfl) (by kernel_rfl) (by kernel_rfl) (by exact fun _ _ _ h => h) (Or.inl ⟨by rfl, ?_⟩) hOn ?_
                      rotate_left
                      focus (intro W hSW; go_simp; try with_reducible rfl)
                      try simp only [Act.put, List.setIfInBounds_toArray, List.set_cons_zero, List.set_cons_succ]
                      refine wpAnyH_take (i := 13) (v := ?_) (by simp only [List.getElem?_toArray, List.getElem?_cons_succ, List.getElem?_cons_zero]; rfl) (by kernel_rfl) (by kernel_rfl) (by kernel_rfl) (by exact fun _ _ _ h => h) (Or.inl ⟨by rfl, ?_⟩) hOn ?_
                      rotate_left
                      focus (intro W hSW; go_simp; try with_reducible rfl)
                      try simp only [Act.put, List.setIfInBounds_toArray, List.set_cons_zero, List.set_cons_succ]
                      refine wpAnyH_ready (rs := [15]) (by kernel_rfl) (by simp) ?_
                      refine AllReadyH.cons (by simp only [List.getElem?_toArray, List.getElem?_cons_succ, List.getElem?_cons_zero]; rfl) (fun Kz hKz => ?_) AllReadyH.nil
                      go_simp
                      (with_reducible refine (rt_any xc 7 (by omega) _ _ (by omega)).mono ?_)
                      rintro e w4 ⟨rfl, rfl⟩
                      have hS := hOn
                      go_wp2_with fail
                      refine hKz.out _ _ (by first | exact hS | exact Below.trans hOn (Below.mono hnew (Below.size hOn))) (fun hNext => ?_)
                      clear hKz Kz hOn
                      have hOn := hNext
                      clear hNext
                      try clear hnew
                      try clear hS
                      try simp only [Act.put, List.setIfInBounds_toArray, List.set_cons_zero, List.set_cons_succ]
                      refine wpAnyH_ready (rs := [17]) (by kernel_rfl) (by simp) ?_
                      refine AllReadyH.cons (by simp only [List.getElem?_toArray, List.getElem?_cons_succ, List.getElem?_cons_zero]; rfl) (fun Kz hKz => ?_) AllReadyH.nil
                      go_simp
                      (with_reducible refine (rt_any xc 18 (by omega) _ _ (by omega)).mono ?_)
                      rintro e w4 ⟨rfl, rfl⟩
                      have hS := hOn
                      go_wp2_with fail
                      refine hKz.out _ _ (by first | exact hS | exact Below.trans hOn (Below.mono hnew (Below.size hOn))) (fun hNext => ?_)
                      clear hKz Kz hOn
                      have hOn := hNext
                      clear hNext
                      try clear hnew
                      try clear hS
                      try simp only [Act.put, List.setIfInBounds_toArray, List.set_cons_zero, List.set_cons_succ]
                      refine wpAnyH_take (i := 18) (v := ?_) (by simp only [List.getElem?_toArray, List.getElem?_cons_succ, List.getElem?_cons_zero]; rfl) (by kernel_rfl) (by kernel_rfl) (by kernel_rfl) (by exact fun _ _ _ h => h) (Or.inl ⟨by rfl, ?_⟩) hOn ?_
                      rotate_left
                      focus (intro W hSW; go_simp; try with_reducible rfl)
                      try simp only [Act.put, List.setIfInBounds_toArray, List.set_cons_zero, List.set_cons_succ]
                      refine wpAnyH_take (i := 21) (v := ?_) (by simp only [List.getElem?_toArray, List.getElem?_cons_succ, List.getElem?_cons_zero]; rfl) (by kernel_rfl) (by kernel_rfl) (by kernel_rfl) (by exact fun _ _ _ h => h) (Or.inl ⟨by rfl, ?_⟩) hOn ?_
                      rotate_left
                      focus (intro W hSW; go_simp; try with_reducible rfl)
                      try simp only [Act.put, List.setIfInBounds_toArray, List.set_cons_zero, List.set_cons_succ]
                      refine wpAnyH_take (i := 22) (v := ?_) (by simp only [List.getElem?_toArray, List.getElem?_cons_succ, List.getElem?_cons_zero]; rfl) (by kernel_rfl) (by kernel_rfl) (by kernel_rfl) (by exact fun _ _ _ h => h) (Or.inl ⟨by rfl, ?_⟩) hOn ?_
                      rotate_left
                      focus (intro W hSW; go_simp; try with_reducible rfl)
                      try simp only [Act.put, List.setIfInBounds_toArray, List.set_cons_zero, List.set_cons_succ]
                      refine wpAnyH_take (i := 27) (v := ?_) (by simp only [List.getElem?_toArray, List.getElem?_cons_succ, List.getElem?_cons_zero]; rfl) (by kernel_rfl) (by kernel_rfl) (by kernel_rfl) (by exact fun _ _ _ h => h) (Or.inl ⟨by rfl, ?_⟩) hOn ?_
                      rotate_left
                      focus (intro W hSW; go_simp; try with_reducible rfl)
                      try simp only [Act.put, List.setIfInBounds_toArray, List.set_cons_zero, List.set_cons_succ]
                      refine wpAnyH_take (i := 28) (v := ?_) (by simp only [List.getElem?_toArray, List.getElem?_cons_succ, List.getElem?_cons_zero]; rfl) (by kernel_rfl) (by kernel_rfl) (by kernel_rfl) (by exact fun _ _ _ h => h) (Or.inl ⟨by rfl, ?_⟩) hOn ?_
                      rotate_left
                      focus (intro W hSW; go_simp; try with_reducible rfl)
                      try simp only [Act.put, List.setIfInBounds_toArray, List.set_cons_zero, List.set_cons_succ]
                      refine wpAnyH_ready (rs := [29]) (by kernel_rfl) (by simp) ?_
                      refine AllReadyH.cons (by simp only [List.getElem?_toArray, List.getElem?_cons_succ, List.getElem?_cons_zero]; rfl) (fun Kz hKz => ?_) AllReadyH.nil
                      have hI6 := Lib.hid (show WSt w g sb wb cur S (highTo ch (t + 1)) (wd.setCell ⟨wb, t, none⟩ (.int .u32 (wn (small1 xa + xb + small0 xc + xd)))) from WSt.congr (hI.out.set hgw.out hsw.out hww.out t _) hfin.out)
                      have hS := hSb.out _ hI6.out
                      rw [if_pos (by rfl)]
                      have f1 := hI.out.free t
                      have d1 := hI.out.cell (j := t) (by omega)
                      go_simp
                      refine hKz.out _ _ (by first | exact hS | exact Below.trans hOn (Below.mono hnew (Below.size hOn))) (fun hNext => ?_)
                      clear hKz Kz hOn
                      have hOn := hNext
                      clear hNext
                      try clear hnew
                      try clear hS
                      try simp only [Act.put]
                      refine wpAnyH_done (by kernel_rfl) ?_ _
                      go_wp2_with fail
                      refine hbk2.out _ _ (by kernel_rfl) ?_ ?_
                      · simp only [List.getD_cons_zero, List.getD_cons_succ]
                        exact ⟨t + 1, by omega, by omega, by go_num, hI6.out⟩
                      · have h9 := h9.out
                        simp only [List.getD_cons_zero, List.getD_cons_succ, h9, intOf]
                        omega
                    · obtain rfl : t = 64 := by omega
                      have hI2 := Lib.hid hI
                      have qq : ∀ j, j < 8 → ∀ W, BSt w g sb cur S W → W.cell? ⟨sb, j, none⟩ = some (.int .u32 (wn (sAt S j))) := fun j hj W hW => WSt.sAt hW hj
                      have q0 := qq 0 (by omega)
                      have q1 := qq 1 (by omega)
                      have q2 := qq 2 (by omega)
                      have q3 := qq 3 (by omega)
                      have q4 := qq 4 (by omega)
                      have q5 := qq 5 (by omega)
                      have q6 := qq 6 (by omega)
                      have q7 := qq 7 (by omega)
                      simp only [sAt] at q0 q1 q2 q3 q4 q5 q6 q7
                      replace hI := Lib.hid (hI2.out.grown (Below.refl _ wr).drew)
                      have hbd := hI.out.bs
                      clear hI2 h9 hbk2 qq
                      go_wp2_with fail
                      refine wp_region_held_drew (S := (BSt w g sb cur S)) (by kernel_rfl) hbd (fun hOn => ?_)
                      generalize World.drew wr = wd at *
                      refine wpAnyH_take (i := 0) (v := ?_) (by simp only [List.getElem?_toArray, List.getElem?_cons_zero]; rfl) (by kernel_rfl) (by kernel_rfl) (by kernel_rfl) (by exact fun _ _ _ h => h) (Or.inl ⟨by rfl, ?_⟩) hOn ?_
                      rotate_left
                      focus (intro W hSW; go_simp; try with_reducible rfl)
                      try simp only [Act.put, List.setIfInBounds_toArray, List.set_cons_zero, List.set_cons_succ]
                      refine wpAnyH_take (i := 1) (v := ?_) (by simp only [List.getElem?_toArray, List.getElem?_cons_succ, List.getElem?_cons_zero]; rfl) (by kernel_rfl) (by kernel_rfl) (by kernel_rfl) (by exact fun _ _ _ h => h) (Or.inl ⟨by rfl, ?_⟩) hOn ?_
                      rotate_left
                      focus (intro W hSW; go_simp; try with_reducible rfl)
                      try simp only [Act.put, List.setIfInBounds_toArray, List.set_cons_zero, List.set_cons_succ]
                      refine wpAnyH_take (i := 2) (v := ?_) (by simp only [List.getElem?_toArray, List.getElem?_cons_succ, List.getElem?_cons_zero]; rfl) (by kernel_rfl) (by kernel_rfl) (by kernel_rfl) (by exact fun _ _ _ h => h) (Or.inl ⟨by rfl, ?_⟩) hOn ?_
                      rotate_left
                      focus (intro W hSW; go_simp; try with_reducible rfl)
                      try simp only [Act.put, List.setIfInBounds_toArray, List.set_cons_zero, List.set_cons_succ]
                      refine wpAnyH_take (i := 3) (v := ?_) (by simp only [List.getElem?_toArray, List.getElem?_cons_succ, List.getElem?_cons_zero]; rfl) (by kernel_rfl) (by kernel_rfl) (by kernel_rfl) (by exact fun _ _ _ h => h) (Or.inl ⟨by rfl, ?_⟩) hOn ?_
                      rotate_left
                      focus (intro W hSW; go_simp; try with_reducible rfl)
                      try simp only [Act.put, List.setIfInBounds_toArray, List.set_cons_zero, List.set_cons_succ]
                      refine wpAnyH_take (i := 4) (v := ?_) (by simp only [List.getElem?_toArray, List.getElem?_cons_succ, List.getElem?_cons_zero]; rfl) (by kernel_rfl) (by kernel_rfl) (by kernel_rfl) (by exact fun _ _ _ h => h) (Or.inl ⟨by rfl, ?_⟩) hOn ?_
                      rotate_left
                      focus (intro W hSW; go_simp; try with_reducible rfl)
                      try simp only [Act.put, List.setIfInBounds_toArray, List.set_cons_zero, List.set_cons_succ]
                      refine wpAnyH_take (i := 5) (v := ?_) (by simp only [List.getElem?_toArray, List.getElem?_cons_succ, List.getElem?_cons_zero]; rfl) (by kernel_rfl) (by kernel_rfl) (by kernel_rfl) (by exact fun _ _ _ h => h) (Or.inl ⟨by rfl, ?_⟩) hOn ?_
                      rotate_left
                      focus (intro W hSW; go_simp; try with_reducible rfl)
                      try simp only [Act.put, List.setIfInBounds_toArray, List.set_cons_zero, List.set_cons_succ]
                      refine wpAnyH_take (i := 6) (v := ?_) (by simp only [List.getElem?_toArray, List.getElem?_cons_succ, List.getElem?_cons_zero]; rfl) (by kernel_rfl) (by kernel_rfl) (by kernel_rfl) (by exact fun _ _ _ h => h) (Or.inl ⟨by rfl, ?_⟩) hOn ?_
                      rotate_left
                      focus (intro W hSW; go_simp; try with_reducible rfl)
                      try simp only [Act.put, List.setIfInBounds_toArray, List.set_cons_zero, List.set_cons_succ]
                      refine wpAnyH_take (i := 7) (v := ?_) (by simp only [List.getElem?_toArray, List.getElem?_cons_succ, List.getElem?_cons_zero]; rfl) (by kernel_rfl) (by kernel_rfl) (by kernel_rfl) (by exact fun _ _ _ h => h) (Or.inl ⟨by rfl, ?_⟩) hOn ?_
                      rotate_left
                      focus (intro W hSW; go_simp; try with_reducible rfl)
                      try simp only [Act.put, List.setIfInBounds_toArray, List.set_cons_zero, List.set_cons_succ]
                      refine wpAnyH_take (i := 8) (v := ?_) (by simp only [List.getElem?_toArray, List.getElem?_cons_succ, List.getElem?_cons_zero]; rfl) (by kernel_rfl) (by kernel_rfl) (by kernel_rfl) (by exact fun _ _ _ h => h) (Or.inl ⟨by rfl, ?_⟩) hOn ?_
                      rotate_left
                      focus (intro W hSW; go_simp; try with_reducible rfl)
                      try simp only [Act.put, List.setIfInBounds_toArray, List.set_cons_zero, List.set_cons_succ]
                      refine wpAnyH_take (i := 9) (v := ?_) (by simp only [List.getElem?_toArray, List.getElem?_cons_succ, List.getElem?_cons_zero]; rfl) (by kernel_rfl) (by kernel_rfl) (by kernel_rfl) (by exact fun _ _ _ h => h) (Or.inl ⟨by rfl, ?_⟩) hOn ?_
                      rotate_left
                      focus (intro W hSW; go_simp; try with_reducible rfl)
                      try simp only [Act.put, List.setIfInBounds_toArray, List.set_cons_zero, List.set_cons_succ]
                      refine wpAnyH_take (i := 10) (v := ?_) (by simp only [List.getElem?_toArray, List.getElem?_cons_succ, List.getElem?_cons_zero]; rfl) (by kernel_rfl) (by kernel_rfl) (by kernel_rfl) (by exact fun _ _ _ h => h) (Or.inl ⟨by rfl, ?_⟩) hOn ?_
                      rotate_left
                      focus (intro W hSW; go_simp; try with_reducible rfl)
                      try simp only [Act.put, List.setIfInBounds_toArray, List.set_cons_zero, List.set_cons_succ]
                      refine wpAnyH_take (i := 11) (v := ?_) (by simp only [List.getElem?_toArray, List.getElem?_cons_succ, List.getElem?_cons_zero]; rfl) (by kernel_rfl) (by kernel_rfl) (by kernel_rfl) (by exact fun _ _ _ h => h) (Or.inl ⟨by rfl, ?_⟩) hOn ?_
                      rotate_left
                      focus (intro W hSW; go_simp; try with_reducible rfl)
                      try simp only [Act.put, List.setIfInBounds_toArray, List.set_cons_zero, List.set_cons_succ]
                      refine wpAnyH_take (i := 12) (v := ?_) (by simp only [List.getElem?_toArray, List.getElem?_cons_succ, List.getElem?_cons_zero]; rfl) (by kernel_rfl) (by kernel_rfl) (by kernel_rfl) (by exact fun _ _ _ h => h) (Or.inl ⟨by rfl, ?_⟩) hOn ?_
                      rotate_left
                      focus (intro W hSW; go_simp; try with_reducible rfl)
                      try simp only [Act.put, List.setIfInBounds_toArray, List.set_cons_zero, List.set_cons_succ]
                      refine wpAnyH_take (i := 13) (v := ?_) (by simp only [List.getElem?_toArray, List.getElem?_cons_succ, List.getElem?_cons_zero]; rfl) (by kernel_rfl) (by kernel_rfl) (by kernel_rfl) (by exact fun _ _ _ h => h) (Or.inl ⟨by rfl, ?_⟩) hOn ?_
                      rotate_left
                      focus (intro W hSW; go_simp; try with_reducible rfl)
                      try simp only [Act.put, List.setIfInBounds_toArray, List.set_cons_zero, List.set_cons_succ]
                      refine wpAnyH_take (i := 14) (v := ?_) (by simp only [List.getElem?_toArray, List.getElem?_cons_succ, List.getElem?_cons_zero]; rfl) (by kernel_rfl) (by kernel_rfl) (by kernel_rfl) (by exact fun _ _ _ h => h) (Or.inl ⟨by rfl, ?_⟩) hOn ?_
                      rotate_left
                      focus (intro W hSW; go_simp; try with_reducible rfl)
                      try simp only [Act.put, List.setIfInBounds_toArray, List.set_cons_zero, List.set_cons_succ]
                      refine wpAnyH_take (i := 15) (v := ?_) (by simp only [List.getElem?_toArray, List.getElem?_cons_succ, List.getElem?_cons_zero]; rfl) (by kernel_rfl) (by kernel_rfl) (by kernel_rfl) (by exact fun _ _ _ h => h) (Or.inl ⟨by rfl, ?_⟩) hOn ?_
                      rotate_left
                      focus (intro W hSW; go_simp; try with_reducible rfl)
                      try simp only [Act.put, List.setIfInBounds_toArray, List.set_cons_zero, List.set_cons_succ]
                      refine wpAnyH_take (i := 16) (v := ?_) (by simp only [List.getElem?_toArray, List.getElem?_cons_succ, List.getElem?_cons_zero]; rfl) (by kernel_rfl) (by kernel_rfl) (by kernel_rfl) (by exact fun _ _ _ h => h) (Or.inl ⟨by rfl, ?_⟩) hOn ?_
                      rotate_left
                      focus (intro W hSW; go_simp; try with_reducible rfl)
                      try simp only [Act.put, List.setIfInBounds_toArray, List.set_cons_zero, List.set_cons_succ]
                      refine wpAnyH_take (i := 17) (v := ?_) (by simp only [List.getElem?_toArray, List.getElem?_cons_succ, List.getElem?_cons_zero]; rfl) (by kernel_rfl) (by kernel_rfl) (by kernel_rfl) (by exact fun _ _ _ h => h) (Or.inl ⟨by rfl, ?_⟩) hOn ?_
                      rotate_left
                      focus (intro W hSW; go_simp; try with_reducible rfl)
                      try simp only [Act.put, List.setIfInBounds_toArray, List.set_cons_zero, List.set_cons_succ]
                      refine wpAnyH_take (i := 18) (v := ?_) (by simp only [List.getElem?_toArray, List.getElem?_cons_succ, List.getElem?_cons_zero]; rfl) (by kernel_rfl) (by kernel_rfl) (by kernel_rfl) (by exact fun _ _ _ h => h) (Or.inl ⟨by rfl, ?_⟩) hOn ?_
                      rotate_left
                      focus (intro W hSW; go_simp; try with_reducible rfl)
                      try simp only [Act.put, List.setIfInBounds_toArray, List.set_cons_zero, List.set_cons_succ]
                      refine wpAnyH_take (i := 19) (v := ?_) (by simp only [List.getElem?_toArray, List.getElem?_cons_succ, List.getElem?_cons_zero]; rfl) (by kernel_rfl) (by kernel_rfl) (by kernel_rfl) (by exact fun _ _ _ h => h) (Or.inl ⟨by rfl, ?_⟩) hOn ?_
                      rotate_left
                      focus (intro W hSW; go_simp; try with_reducible rfl)
                      try simp only [Act.put, List.setIfInBounds_toArray, List.set_cons_zero, List.set_cons_succ]
                      refine wpAnyH_take (i := 20) (v := ?_) (by simp only [List.getElem?_toArray, List.getElem?_cons_succ, List.getElem?_cons_zero]; rfl) (by kernel_rfl) (by kernel_rfl) (by kernel_rfl) (by exact fun _ _ _ h => h) (Or.inl ⟨by rfl, ?_⟩) hOn ?_
                      rotate_left
                      focus (intro W hSW; go_simp; try with_reducible rfl)
                      try simp only [Act.put, List.setIfInBounds_toArray, List.set_cons_zero, List.set_cons_succ]
                      refine wpAnyH_take (i := 21) (v := ?_) (by simp only [List.getElem?_toArray, List.getElem?_cons_succ, List.getElem?_cons_zero]; rfl) (by kernel_rfl) (by kernel_rfl) (by kernel_rfl) (by exact fun _ _ _ h => h) (Or.inl ⟨by rfl, ?_⟩) hOn ?_
                      rotate_left
                      focus (intro W hSW; go_simp; try with_reducible rfl)
                      try simp only [Act.put, List.setIfInBounds_toArray, List.set_cons_zero, List.set_cons_succ]
                      refine wpAnyH_take (i := 22) (v := ?_) (by simp only [List.getElem?_toArray, List.getElem?_cons_succ, List.getElem?_cons_zero]; rfl) (by kernel_rfl) (by kernel_rfl) (by kernel_rfl) (by exact fun _ _ _ h => h) (Or.inl ⟨by rfl, ?_⟩) hOn ?_
                      rotate_left
                      focus (intro W hSW; go_simp; try with_reducible rfl)
                      try simp only [Act.put, List.setIfInBounds_toArray, List.set_cons_zero, List.set_cons_succ]
                      refine wpAnyH_take (i := 23) (v := ?_) (by simp only [List.getElem?_toArray, List.getElem?_cons_succ, List.getElem?_cons_zero]; rfl) (by kernel_rfl) (by kernel_rfl) (by kernel_rfl) (by exact fun _ _ _ h => h) (Or.inl ⟨by rfl, ?_⟩) hOn ?_
                      rotate_left
                      focus (intro W hSW; go_simp; try with_reducible rfl)
                      try simp only [Act.put, List.setIfInBounds_toArray, List.set_cons_zero, List.set_cons_succ]
                      refine wpAnyH_done (by kernel_rfl) ?_ _
                      go_wp2_with fail
                      refine wp_loopF [(false, 13), (true, 11), (false, 144), (true, 63)] _ [] (fun V wq => ∃ t : Nat, t ≤ 64 ∧ V 21 = .int .i64 t ∧ (V 13 = .int .u32 (wn (roundsS ch S t).a) ∧ V 14 = .int .u32 (wn (roundsS ch S t).b) ∧ V 15 = .int .u32 (wn (roundsS ch S t).c) ∧ V 16 = .int .u32 (wn (roundsS ch S t).d) ∧
                          V 17 = .int .u32 (wn (roundsS ch S t).e) ∧ V 18 = .int .u32 (wn (roundsS ch S t).f) ∧ V 19 = .int .u32 (wn (roundsS ch S t).g) ∧ V 20 = .int .u32 (wn (roundsS ch S t).h)) ∧ WSt w g sb wb cur S (highTo ch 64) wq)
                        (fun V _ => 64 - (intOf (V 21)).toNat) ?_ ?_
                      · simp only [List.getD_cons_zero, List.getD_cons_succ]
                        exact ⟨0, Nat.zero_le _, rfl, ⟨rfl, rfl, rfl, rfl, rfl, rfl, rfl, rfl⟩, hI.out⟩
                      · clear hI q0 q1 q2 q3 q4 q5 q6 q7
                        intro V3 wr hrel K3 hbk3 l' hl'
                        obtain ⟨t, ht, h9, ⟨v13, v14, v15, v16, v17, v18, v19, v20⟩, hI⟩ := hrel
                        simp only [fillS, popSeg, cond_true, cond_false, Nat.reduceAdd, h9, v13, v14, v15, v16, v17, v18, v19, v20] at hl'
                        subst hl'
                        replace h9 := Lib.hid h9
                        clear v13 v14 v15 v16 v17 v18 v19 v20
                        by_cases hlt : t < 64
                        · have hti : (t : Int) < 64 := by omega
                          have ck : ∀ W, WSt w g sb wb cur S (highTo ch 64) W → W.cell? ⟨21, t, none⟩ = some (.int .u32 (wn (kAt t))) := fun W h => hK.below h.bs.rs.bel t hlt
                          have cw : ∀ W, WSt w g sb wb cur S (highTo ch 64) W → W.cell? ⟨wb, t, none⟩ = some (.int .u32 (wn (wAt ch t))) := fun W h => by
                            rw [h.cell hlt]; unfold highTo; rw [if_pos hlt]
                          have hnx := Lib.hid (show roundsS ch S (t + 1) = roundS (roundsS ch S t) (kAt t) (wAt ch t) from rfl)
                          generalize roundsS ch S t = r at *
                          obtain ⟨ra, rb, rc, rd, re, rf, rg, rh⟩ := r
                          have b1 := and32 re rf
                          have b2 : bits BinOp.xor IntKind.u32 IntKind.u32.max (wn re) = wn (~~~re) := not32 re
                          have b3 := and32 (~~~re) rg
                          have b4 := xor32 (re &&& rf) (~~~re &&& rg)
                          have b5 := and32 ra rb
                          have b6 := and32 ra rc
                          have b7 := xor32 (ra &&& rb) (ra &&& rc)
                          have b8 := and32 rb rc
                          have b9 := xor32 ((ra &&& rb) ^^^ (ra &&& rc)) (rb &&& rc)
                          rw [show (re &&& rf) ^^^ (~~~re &&& rg) = chW re rf rg from rfl] at b4
                          rw [show ((ra &&& rb) ^^^ (ra &&& rc)) ^^^ (rb &&& rc) = majW ra rb rc from rfl] at b9
                          have y1 := xor32 (rotr re 6) (rotr re 11)
                          have y2 : bits BinOp.xor IntKind.u32 (wn (rotr re 6 ^^^ rotr re 11)) (wn (rotr re 25)) = wn (big1 re) := xor32 _ _
                          have y3 := xor32 (rotr ra 2) (rotr ra 13)
                          have y4 : bits BinOp.xor IntKind.u32 (wn (rotr ra 2 ^^^ rotr ra 13)) (wn (rotr ra 22)) = wn (big0 ra) := xor32 _ _
                          generalize kAt t = kk at *
                          generalize wAt ch t = ww at *
                          have d1 := add32 rh (big1 re)
                          have d2 := add32 (rh + big1 re) (chW re rf rg)
                          have d3 := add32 (rh + big1 re + chW re rf rg) kk
                          have d4 := add32 (rh + big1 re + chW re rf rg + kk) ww
                          have d5 := add32 (big0 ra) (majW ra rb rc)
                          have d6 := add32 (rh + big1 re + chW re rf rg + kk + ww) (big0 ra + majW ra rb rc)
                          have d7 := add32 rd (rh + big1 re + chW re rf rg + kk + ww)
                          replace hI := Lib.hid (hI.grown (Below.refl _ wr).drew)
                          have hbd := hI.out
                          go_wp2_with fail
                          refine wp_region_held_drew (S := (WSt w g sb wb cur S (highTo ch 64))) (by kernel_rfl) hbd (fun hOn => ?_)
                          generalize World.drew wr = wd at *
                          refine wpAnyH_take (i := 0) (v := ?_) (by simp only [List.getElem?_toArray, List.getElem?_cons_zero]; rfl) (by kernel_rfl) (by kernel_rfl) (by kernel_rfl) (by exact fun _ _ _ h => h) (Or.inl ⟨by rfl, ?_⟩) hOn ?_
                          rotate_left
                          focus (intro W hSW; go_simp; try with_reducible rfl)
                          try simp only [Act.put, List.setIfInBounds_toArray, List.set_cons_zero, List.set_cons_succ]
                          refine wpAnyH_take (i := 1) (v := ?_) (by simp only [List.getElem?_toArray, List.getElem?_cons_succ, List.getElem?_cons_zero]; rfl) (by kernel_rfl) (by kernel_rfl) (by kernel_rfl) (by exact fun _ _ _ h => h) (Or.inl ⟨by rfl, ?_⟩) hOn ?_
                          rotate_left
                          focus (intro W hSW; go_simp; try with_reducible rfl)
                          try simp only [Act.put, List.setIfInBounds_toArray, List.set_cons_zero, List.set_cons_succ]
                          refine wpAnyH_take (i := 3) (v := ?_) (by simp only [List.getElem?_toArray, List.getElem?_cons_succ, List.getElem?_cons_zero]; rfl) (by kernel_rfl) (by kernel_rfl) (by kernel_rfl) (by exact fun _ _ _ h => h) (Or.inl ⟨by rfl, ?_⟩) hOn ?_
                          rotate_left
                          focus (intro W hSW; go_simp; try with_reducible rfl)
                          try simp only [Act.put, List.setIfInBounds_toArray, List.set_cons_zero, List.set_cons_succ]
                          refine wpAnyH_take (i := 6) (v := ?_) (by simp only [List.getElem?_toArray, List.getElem?_cons_succ, List.getElem?_cons_zero]; rfl) (by kernel_rfl) (by kernel_rfl) (by kernel_rfl) (by exact fun _ _ _ h => h) (Or.inl ⟨by rfl, ?_⟩) hOn ?_
                          rotate_left
                          focus (intro W hSW; go_simp; try with_reducible rfl)
                          try simp only [Act.put, List.setIfInBounds_toArray, List.set_cons_zero, List.set_cons_succ]
                          refine wpAnyH_take (i := 10) (v := ?_) (by simp only [List.getElem?_toArray, List.getElem?_cons_succ, List.getElem?_cons_zero]; rfl) (by kernel_rfl) (by kernel_rfl) (by kernel_rfl) (by exact fun _ _ _ h => h) (Or.inl ⟨by rfl, ?_⟩) hOn ?_
                          rotate_left
                          focus (intro W hSW; go_simp; try with_reducible rfl)
                          try simp only [Act.put, List.setIfInBounds_toArray, List.set_cons_zero, List.set_cons_succ]
                          refine wpAnyH_take (i := 11) (v := ?_) (by simp only [List.getElem?_toArray, List.getElem?_cons_succ, List.getElem?_cons_zero]; rfl) (by kernel_rfl) (by kernel_rfl) (by kernel_rfl) (by exact fun _ _ _ h => h) (Or.inl ⟨by rfl, ?_⟩) hOn ?_
                          rotate_left
                          focus (intro W hSW; go_simp; try with_reducible rfl)
                          try simp only [Act.put, List.setIfInBounds_toArray, List.set_cons_zero, List.set_cons_succ]
                          refine wpAnyH_take (i := 12) (v := ?_) (by simp only [List.getElem?_toArray, List.getElem?_cons_succ, List.getElem?_cons_zero]; rfl) (by kernel_rfl) (by kernel_rfl) (by kernel_rfl) (by exact fun _ _ _ h => h) (Or.inl ⟨by rfl, ?_⟩) hOn ?_
                          rotate_left
                          focus (intro W hSW; go_simp; try with_reducible rfl)
                          try simp only [Act.put, List.setIfInBounds_toArray, List.set_cons_zero, List.set_cons_succ]
                          refine wpAnyH_take (i := 13) (v := ?_) (by simp only [List.getElem?_toArray, List.getElem?_cons_succ, List.getElem?_cons_zero]; rfl) (by kernel_rfl) (by kernel_rfl) (by kernel_rfl) (by exact fun _ _ _ h => h) (Or.inl ⟨by rfl, ?_⟩) hOn ?_
                          rotate_left
                          focus (intro W hSW; go_simp; try with_reducible rfl)
                          try simp only [Act.put, List.setIfInBounds_toArray, List.set_cons_zero, List.set_cons_succ]
                          refine wpAnyH_take (i := 14) (v := ?_) (by simp only [List.getElem?_toArray, List.getElem?_cons_succ, List.getElem?_cons_zero]; rfl) (by kernel_rfl) (by kernel_rfl) (by kernel_rfl) (by exact fun _ _ _ h => h) (Or.inl ⟨by rfl, ?_⟩) hOn ?_
                          rotate_left
                          focus (intro W hSW; go_simp; try with_reducible rfl)
                          try simp only [Act.put, List.setIfInBounds_toArray, List.set_cons_zero, List.set_cons_succ]
                          refine wpAnyH_take (i := 15) (v := ?_) (by simp only [List.getElem?_toArray, List.getElem?_cons_succ, List.getElem?_cons_zero]; rfl) (by kernel_rfl) (by kernel_rfl) (by kernel_rfl) (by exact fun _ _ _ h => h) (Or.inl ⟨by rfl, ?_⟩) hOn ?_
                          rotate_left
                          focus (intro W hSW; go_simp; try with_reducible rfl)
                          try simp only [Act.put, List.setIfInBounds_toArray, List.set_cons_zero, List.set_cons_succ]
                          refine wpAnyH_take (i := 16) (v := ?_) (by simp only [List.getElem?_toArray, List.getElem?_cons_succ, List.getElem?_cons_zero]; rfl) (by kernel_rfl) (by kernel_rfl) (by kernel_rfl) (by exact fun _ _ _ h => h) (Or.inl ⟨by rfl, ?_⟩) hOn ?_
                          rotate_left
                          focus (intro W hSW; go_simp; try with_reducible rfl)
                          try simp only [Act.put, List.setIfInBounds_toArray, List.set_cons_zero, List.set_cons_succ]
                          refine wpAnyH_take (i := 17) (v := ?_) (by simp only [List.getElem?_toArray, List.getElem?_cons_succ, List.getElem?_cons_zero]; rfl) (by kernel_rfl) (by kernel_rfl) (by kernel_rfl) (by exact fun _ _ _ h => h) (Or.inl ⟨by rfl, ?_⟩) hOn ?_
                          rotate_left
                          focus (intro W hSW; go_simp; try with_reducible rfl)
                          try simp only [Act.put, List.setIfInBounds_toArray, List.set_cons_zero, List.set_cons_succ]
                          refine wpAnyH_take (i := 19) (v := ?_) (by simp only [List.getElem?_toArray, List.getElem?_cons_succ, List.getElem?_cons_zero]; rfl) (by kernel_rfl) (by kernel_rfl) (by kernel_rfl) (by exact fun _ _ _ h => h) (Or.inl ⟨by rfl, ?_⟩) hOn ?_
                          rotate_left
                          focus (intro W hSW; go_simp; try with_reducible rfl)
                          try simp only [Act.put, List.setIfInBounds_toArray, List.set_cons_zero, List.set_cons_succ]
                          refine wpAnyH_take (i := 20) (v := ?_) (by simp only [List.getElem?_toArray, List.getElem?_cons_succ, List.getElem?_cons_zero]; rfl) (by kernel_rfl) (by kernel_rfl) (by kernel_rfl) (by exact fun _ _ _ h => h) (Or.inl ⟨by rfl, ?_⟩) hOn ?_
                          rotate_left
                          focus (intro W hSW; go_simp; try with_reducible rfl)
                          try simp only [Act.put, List.setIfInBounds_toArray, List.set_cons_zero, List.set_cons_succ]
                          refine wpAnyH_take (i := 21) (v := ?_) (by simp only [List.getElem?_toArray, List.getElem?_cons_succ, List.getElem?_cons_zero]; rfl) (by kernel_rfl) (by kernel_rfl) (by kernel_rfl) (by exact fun _ _ _ h => h) (Or.inl ⟨by rfl, ?_⟩) hOn ?_
                          rotate_left
                          focus (intro W hSW; go_simp; try with_reducible rfl)
                          try simp only [Act.put, List.setIfInBounds_toArray, List.set_cons_zero, List.set_cons_succ]
                          refine wpAnyH_take (i := 23) (v := ?_) (by simp only [List.getElem?_toArray, List.getElem?_cons_succ, List.getElem?_cons_zero]; rfl) (by kernel_rfl) (by kernel_rfl) (by kernel_rfl) (by exact fun _ _ _ h => h) (Or.inl ⟨by rfl, ?_⟩) hOn ?_
                          rotate_left
                          focus (intro W hSW; go_simp; try with_reducible rfl)
                          try simp only [Act.put, List.setIfInBounds_toArray, List.set_cons_zero, List.set_cons_succ]
                          refine wpAnyH_take (i := 24) (v := ?_) (by simp only [List.getElem?_toArray, List.getElem?_cons_succ, List.getElem?_cons_zero]; rfl) (by kernel_rfl) (by kernel_rfl) (by kernel_rfl) (by exact fun _ _ _ h => h) (Or.inl ⟨by rfl, ?_⟩) hOn ?_
                          rotate_left
                          focus (intro W hSW; go_simp; try with_reducible rfl)
                          try simp only [Act.put, List.setIfInBounds_toArray, List.set_cons_zero, List.set_cons_succ]
                          refine wpAnyH_take (i := 25) (v := ?_) (by simp only [List.getElem?_toArray, List.getElem?_cons_succ, List.getElem?_cons_zero]; rfl) (by kernel_rfl) (by kernel_rfl) (by kernel_rfl) (by exact fun _ _ _ h => h) (Or.inl ⟨by rfl, ?_⟩) hOn ?_
                          rotate_left
                          focus (intro W hSW; go_simp; try with_reducible rfl)
                          try simp only [Act.put, List.setIfInBounds_toArray, List.set_cons_zero, List.set_cons_succ]
                          refine wpAnyH_ready (rs := [2]) (by kernel_rfl) (by simp) ?_
                          refine AllReadyH.cons (by simp only [List.getElem?_toArray, List.getElem?_cons_succ, List.getElem?_cons_zero]; rfl) (fun Kz hKz => ?_) AllReadyH.nil
                          go_simp
                          (with_reducible refine (rt_any re 6 (by omega) _ _ (by omega)).mono ?_)
                          rintro e w4 ⟨rfl, rfl⟩
                          have hS := hOn
                          go_wp2_with fail
                          refine hKz.out _ _ (by first | exact hS | exact Below.trans hOn (Below.mono hnew (Below.size hOn))) (fun hNext => ?_)
                          clear hKz Kz hOn
                          have hOn := hNext
                          clear hNext
                          try clear hnew
                          try clear hS
                          try simp only [Act.put, List.setIfInBounds_toArray, List.set_cons_zero, List.set_cons_succ]
                          refine wpAnyH_ready (rs := [4]) (by kernel_rfl) (by simp) ?_
                          refine AllReadyH.cons (by simp only [List.getElem?_toArray, List.getElem?_cons_succ, List.getElem?_cons_zero]; rfl) (fun Kz hKz => ?_) AllReadyH.nil
                          go_simp
                          (with_reducible refine (rt_any re 11 (by omega) _ _ (by omega)).mono ?_)
                          rintro e w4 ⟨rfl, rfl⟩
                          have hS := hOn
                          go_wp2_with fail
                          refine hKz.out _ _ (by first | exact hS | exact Below.trans hOn (Below.mono hnew (Below.size hOn))) (fun hNext => ?_)
                          clear hKz Kz hOn
                          have hOn := hNext
                          clear hNext
                          try clear hnew
                          try clear hS
                          try simp only [Act.put, List.setIfInBounds_toArray, List.set_cons_zero, List.set_cons_succ]
                          refine wpAnyH_take (i := 5) (v := ?_) (by simp only [List.getElem?_toArray, List.getElem?_cons_succ, List.getElem?_cons_zero]; rfl) (by kernel_rfl) (by kernel_rfl) (by kernel_rfl) (by exact fun _ _ _ h => h) (Or.inl ⟨by rfl, ?_⟩) hOn ?_
                          rotate_left
                          focus (intro W hSW; go_simp; try with_reducible rfl)
                          try simp only [Act.put, List.setIfInBounds_toArray, List.set_cons_zero, List.set_cons_succ]
                          refine wpAnyH_ready (rs := [7]) (by kernel_rfl) (by simp) ?_
                          refine AllReadyH.cons (by simp only [List.getElem?_toArray, List.getElem?_cons_succ, List.getElem?_cons_zero]; rfl) (fun Kz hKz => ?_) AllReadyH.nil
                          go_simp
                          (with_reducible refine (rt_any re 25 (by omega) _ _ (by omega)).mono ?_)
                          rintro e w4 ⟨rfl, rfl⟩
                          have hS := hOn
                          go_wp2_with fail
                          refine hKz.out _ _ (by first | exact hS | exact Below.trans hOn (Below.mono hnew (Below.size hOn))) (fun hNext => ?_)
                          clear hKz Kz hOn
                          have hOn := hNext
                          clear hNext
                          try clear hnew
                          try clear hS
                          try simp only [Act.put, List.setIfInBounds_toArray, List.set_cons_zero, List.set_cons_succ]
                          refine wpAnyH_take (i := 8) (v := ?_) (by simp only [List.getElem?_toArray, List.getElem?_cons_succ, List.getElem?_cons_zero]; rfl) (by kernel_rfl) (by kernel_rfl) (by kernel_rfl) (by exact fun _ _ _ h => h) (Or.inl ⟨by rfl, ?_⟩) hOn ?_
                          rotate_left
                          focus (intro W hSW; go_simp; try with_reducible rfl)
                          try simp only [Act.put, List.setIfInBounds_toArray, List.set_cons_zero, List.set_cons_succ]
                          refine wpAnyH_take (i := 9) (v := ?_) (by simp only [List.getElem?_toArray, List.getElem?_cons_succ, List.getElem?_cons_zero]; rfl) (by kernel_rfl) (by kernel_rfl) (by kernel_rfl) (by exact fun _ _ _ h => h) (Or.inl ⟨by rfl, ?_⟩) hOn ?_
                          rotate_left
                          focus (intro W hSW; go_simp; try with_reducible rfl)
                          try simp only [Act.put, List.setIfInBounds_toArray, List.set_cons_zero, List.set_cons_succ]
                          refine wpAnyH_take (i := 18) (v := ?_) (by simp only [List.getElem?_toArray, List.getElem?_cons_succ, List.getElem?_cons_zero]; rfl) (by kernel_rfl) (by kernel_rfl) (by kernel_rfl) (by exact fun _ _ _ h => h) (Or.inl ⟨by rfl, ?_⟩) hOn ?_
                          rotate_left
                          focus (intro W hSW; go_simp; try with_reducible rfl)
                          try simp only [Act.put, List.setIfInBounds_toArray, List.set_cons_zero, List.set_cons_succ]
                          refine wpAnyH_take (i := 22) (v := ?_) (by simp only [List.getElem?_toArray, List.getElem?_cons_succ, List.getElem?_cons_zero]; rfl) (by kernel_rfl) (by kernel_rfl) (by kernel_rfl) (by exact fun _ _ _ h => h) (Or.inl ⟨by rfl, ?_⟩) hOn ?_
                          rotate_left
                          focus (intro W hSW; go_simp; try with_reducible rfl)
                          try simp only [Act.put, List.setIfInBounds_toArray, List.set_cons_zero, List.set_cons_succ]
                          refine wpAnyH_take (i := 26) (v := ?_) (by simp only [List.getElem?_toArray, List.getElem?_cons_succ, List.getElem?_cons_zero]; rfl) (by kernel_rfl) (by kernel_rfl) (by kernel_rfl) (by exact fun _ _ _ h => h) (Or.inl ⟨by rfl, ?_⟩) hOn ?_
                          rotate_left
                          focus (intro W hSW; go_simp; try with_reducible rfl)
                          try simp only [Act.put, List.setIfInBounds_toArray, List.set_cons_zero, List.set_cons_succ]
                          refine wpAnyH_take (i := 27) (v := ?_) (by simp only [List.getElem?_toArray, List.getElem?_cons_succ, List.getElem?_cons_zero]; rfl) (by kernel_rfl) (by kernel_rfl) (by kernel_rfl) (by exact fun _ _ _ h => h) (Or.inl ⟨by rfl, ?_⟩) hOn ?_
                          rotate_left
                          focus (intro W hSW; go_simp; try with_reducible rfl)
                          try simp only [Act.put, List.setIfInBounds_toArray, List.set_cons_zero, List.set_cons_succ]
                          refine wpAnyH_done (by kernel_rfl) ?_ _
                          go_wp2_with fail
                          with_reducible refine (rt_any ra 2 (by omega) _ _ (by omega)).mono ?_
                          rintro e w4 ⟨rfl, rfl⟩
                          go_wp2_with fail
                          with_reducible refine (rt_any ra 13 (by omega) _ _ (by omega)).mono ?_
                          rintro e w4 ⟨rfl, rfl⟩
                          go_wp2_with fail
                          with_reducible refine (rt_any ra 22 (by omega) _ _ (by omega)).mono ?_
                          rintro e w4 ⟨rfl, rfl⟩
                          go_wp2_with fail
                          refine hbk3.out _ _ (by kernel_rfl) ?_ ?_
                          · simp only [List.getD_cons_zero, List.getD_cons_succ]
                            exact ⟨t + 1, by omega, by go_num, by rw [hnx.out]; exact ⟨rfl, rfl, rfl, rfl, rfl, rfl, rfl, rfl⟩, hI.out⟩
                          · have h9 := h9.out
                            simp only [List.getD_cons_zero, List.getD_cons_succ, h9, intOf]
                            omega
                        · obtain rfl : t = 64 := by omega
                          have htk := Lib.hid (show takeS S ch = addS (roundsS ch S 64) S from rfl)
                          have q0 := WSt.sAt hI.bs (j := 0) (by omega)
                          have q1 := WSt.sAt hI.bs (j := 1) (by omega)
                          have q2 := WSt.sAt hI.bs (j := 2) (by omega)
                          have q3 := WSt.sAt hI.bs (j := 3) (by omega)
                          have q4 := WSt.sAt hI.bs (j := 4) (by omega)
                          have q5 := WSt.sAt hI.bs (j := 5) (by omega)
                          have q6 := WSt.sAt hI.bs (j := 6) (by omega)
                          have q7 := WSt.sAt hI.bs (j := 7) (by omega)
                          simp only [sAt] at q0 q1 q2 q3 q4 q5 q6 q7
                          have f0 : ∀ j, wr.frozen? ⟨sb, j, none⟩ = false := fun j => free_of_block hI.bs.st _
                          generalize roundsS ch S 64 = r at *
                          have p0 := addC r.a S.a
                          have p1 := addC r.b S.b
                          have p2 := addC r.c S.c
                          have p3 := addC r.d S.d
                          have p4 := addC r.e S.e
                          have p5 := addC r.f S.f
                          have p6 := addC r.g S.g
                          have p7 := addC r.h S.h
                          have hput := Lib.hid (BSt.put8 hI.bs hgs.out hws.out (addS r S))
                          replace hI := Lib.hid hI
                          clear h9 hbk3
                          go_wp2_with fail
                          refine hback.out _ _ (by kernel_rfl) ?_ ?_
                          · simp only [List.getD_cons_zero, List.getD_cons_succ]
                            exact ⟨q + 1, by have := hkq.out; have := hKL; omega, by rw [hkq.out]; go_num, by rw [hnext.out, htk.out]; exact hput.out⟩
                          · have h7 := h7.out
                            have hk0 := hK0.out
                            have e1 : ((K : Int) + 64).toNat = K + 64 := by omega
                            have e2 : ((64 * q : Nat) : Int).toNat = 64 * q := by omega
                            simp only [List.getD_cons_zero, List.getD_cons_succ, h7, intOf, e1, ← hk0]
                            first | omega | (rw [Int.toNat_natCast]; omega)
            · have hq64 : 64 * q = L := by omega
              have hqL : q = L / 64 := by omega
              have hsha := Lib.hid (show sha m = bytesS (foldS s8First M q) from by unfold sha; rw [hM.out, ← hL.out, ← hqL])
              have hlti : ¬ ((64 * q : Nat) : Int) < (L : Int) := by omega
              generalize foldS s8First M q = S at *
              have hI0 := Lib.hid (show OSt w wr.heap.size (outTo S 0) (wr.alloc (.cells zero32 30)) from ⟨by rw [outTo_zero, ← zero32_eq]; exact heap_alloc_new wr _, (hI.rs.grown ((Below.refl _ _).alloc (Nat.le_refl _) _)).res, (hI.rs.grown ((Below.refl _ _).alloc (Nat.le_refl _) _)).bel⟩)
              have hst := Lib.hid (show (wr.alloc (.cells zero32 30)).heap[sb]? = some (.cells (c8 S) 93 (0, 0)) from (hI.grown ((Below.refl _ _).alloc (Nat.le_refl _) _)).st)
              have how := Lib.hid (show w.heap.size < wr.heap.size from by have := block_lt hI.rs.res; omega)
              have hidx := Lib.hid (fun i h W => idx8R S i h W)
              have hi32 : (Tryd.prog.info? 30).map (·.size) = some zero32.size := by kernel_rfl
              have ho32 : zero32.all (·.oneCell') = true := zero32_one
              have hs32 : zero32.size = zero32.size := rfl
              replace hs32 := Lib.hid hs32
              have hsF : (Tryd.prog.info? 93).map (·.size) = some (c8 S).size := by kernel_rfl
              clear hI h7 hback
              generalize c8 S = D8 at *
              go_wp2_with (first | with_reducible refine wpList_store_new rfl 30 (.tmp 24) (.tmp 271) rfl zero32 zero32 rfl rfl hi32 hs32.out ho32 ?_ | with_reducible refine wpList_load_row rfl 93 (.tmp 6) rfl sb D8 (.array 8 92) rfl hst hu8 rfl hsF ?_)
              go_wp2_with fail
              obtain ⟨ob, hob⟩ : ∃ ob, ob = wr.heap.size := ⟨_, rfl⟩
              obtain ⟨W1, hW1⟩ : ∃ W, W = wr.alloc (.cells zero32 30) := ⟨_, rfl⟩
              rw [← hW1, ← hob] at hI0
              rw [← hob] at how
              rw [← hW1, ← hob]
              replace hob := Lib.hid hob
              replace hW1 := Lib.hid hW1
              clear ho32 hi32 hst hsF
              refine wp_loopF [(false, 25), (true, 2), (false, 246), (true, 31)] _ [] (fun V wq => ∃ i : Nat, i ≤ 8 ∧ V 273 = .int .i64 i ∧ OSt w ob (outTo S (4 * i)) wq)
                (fun V _ => 8 - (intOf (V 273)).toNat) ?_ ?_
              · simp only [List.getD_cons_zero, List.getD_cons_succ]
                exact ⟨0, Nat.zero_le _, rfl, hI0.out⟩
              · clear hI0
                intro V wr hrel K1 hbk1 l' hl'
                obtain ⟨i, hi, h9, hO⟩ := hrel
                simp only [fillS, popSeg, cond_true, cond_false, Nat.reduceAdd, h9] at hl'
                subst hl'
                replace h9 := Lib.hid h9
                by_cases hlt : i < 8
                · have hix := hidx.out i hlt
                  have hi8 : (i : Int) < 8 := by omega
                  have c0 := hO.cell (j := 4 * i) (by omega)
                  have c1 := hO.cell (j := 4 * i + 1) (by omega)
                  have c2 := hO.cell (j := 4 * i + 2) (by omega)
                  have c3 := hO.cell (j := 4 * i + 3) (by omega)
                  have f0 : ∀ j, wr.frozen? ⟨ob, j, none⟩ = false := fun j => hO.free j
                  have v0 : wn (sAt S i) / (16777216 : Int) % (256 : Int) = ((cf (bytesS S) (4 * i)).toNat : Int) := (bytesS_at S i 0 hlt (by omega)).symm
                  have v1 : wn (sAt S i) / (65536 : Int) % (256 : Int) = ((cf (bytesS S) (4 * i + 1)).toNat : Int) := (bytesS_at S i 1 hlt (by omega)).symm
                  have v2 : wn (sAt S i) / (256 : Int) % (256 : Int) = ((cf (bytesS S) (4 * i + 2)).toNat : Int) := (bytesS_at S i 2 hlt (by omega)).symm
                  have v3 : wn (sAt S i) % (256 : Int) = ((cf (bytesS S) (4 * i + 3)).toNat : Int) := by
                    have := bytesS_at S i 3 hlt (by omega)
                    simp at this
                    omega
                  have e1 : (4 * (i : Int)).toNat = 4 * i := by omega
                  have e2 : (4 * (i : Int) + 1).toNat = 4 * i + 1 := by omega
                  have e3 : (4 * (i : Int) + 2).toNat = 4 * i + 2 := by omega
                  have e4 : (4 * (i : Int) + 3).toNat = 4 * i + 3 := by omega
                  have hO4 := Lib.hid (show OSt w ob (outTo S (4 * i + 4)) _ from ((hO.set how.out).set how.out |>.set how.out).set how.out)
                  replace hO := Lib.hid hO
                  generalize sAt S i = x at *
                  generalize cf (bytesS S) (4 * i) = y0 at *
                  go_wp2_with fail
                  refine hbk1.out _ _ (by kernel_rfl) ?_ ?_
                  · simp only [List.getD_cons_zero, List.getD_cons_succ]
                    exact ⟨i + 1, by omega, by go_num, hO4.out⟩
                  · have h9 := h9.out
                    simp only [List.getD_cons_zero, List.getD_cons_succ, h9, intOf]
                    omega
                · obtain rfl : i = 8 := by omega
                  have hrow := Lib.hid hO.row
                  have hres := Lib.hid hO.res
                  have hbel := Lib.hid hO.bel
                  have hDg : cB (tab 32 (outTo S (4 * 8))) = cB (sha m) := by rw [show 4 * 8 = 32 from rfl, outTo_end, hsha.out]
                  rw [hDg] at hrow
                  have hu1 : Tryd.prog.underlying 30 = some (.array 32 5) := Tryd.underlying30
                  have hszS : (Tryd.prog.info? 30).map (·.size) = some (cB (sha m)).toArray.size := by rw [List.size_toArray, cB_length, sha_length]; kernel_rfl
                  have hsZ : zero32.size = (cB (sha m)).toArray.size := by rw [zero32_size, List.size_toArray, cB_length, sha_length]
                  have hone : (cB (sha m)).toArray.all (·.oneCell') = true := by
                    rw [List.all_toArray, List.all_eq_true]
                    exact cB_one _
                  generalize hDD : (cB (sha m)).toArray = DD at *
                  clear hO hDg hidx h9 hbk1
                  go_wp2_with (first | with_reducible refine wpList_load_row rfl 30 (.tmp 24) rfl ob DD (.array 32 5) rfl hrow hu1 rfl hszS ?_ | with_reducible refine wpList_store_row rfl 30 (.tmp 2) (.tmp 304) rfl w.heap.size zero32 DD rfl rfl hres hszS hsZ hone ?_)
                  intro w9 hU9
                  go_wp2_with fail
                  exact ret_cell_row rfl rfl hu1 rfl hszS hU9.out.here ⟨by rw [hDD], hbel.out.trans (hU9.out.below (Nat.le_refl _))⟩

end Go.Proofs.YtgkddegaiaeckaaDoor
