/- The walks over code.Of, the reference's Syndromes, Quiet, Right, Poly, Data. -/
import Derived.Test.YtenkdikdofhnpaaDoorParity
import Derived.Test.YtenkdikdofhnpaaDoorStoreRow
import Derived.Test.YtenkdikdofhnpaaDoorOnL
namespace Go.Proofs.YtenkdikdofhnpaaDoor
open Go.RowKit

/-- 32 noughts (a name of its own: the walk does not write it out). -/
@[irreducible] def zero32 : Array Value := (cB (tab 32 fun _ => 0)).toArray
theorem zero32_run (w : World) : (zeroValue 32).run Tryd.prog w = .ok (.agg zero32) w := by kernel_rfl
theorem zero32_run' (w : World) : (zeroValue 31).run Tryd.prog w = .ok (.agg zero32) w := by kernel_rfl
theorem zero32_size : zero32.size = 32 := by kernel_rfl
theorem zero32_ne : zero32 ≠ #[] := fun e => by have := zero32_size; rw [e] at this; cases this
theorem zero32_eq : zero32 = (cB (tab 32 fun _ => 0)).toArray := by unfold zero32; rfl
theorem cB_setA (l : List UInt8) (j : Nat) (x : UInt8) : (cB l).toArray.setIfInBounds j (.int .u8 (x.toNat : Int)) = (cB (l.set j x)).toArray := by
  simp [cB, List.map_set]
theorem cB_at (l : List UInt8) {j : Nat} (h : j < l.length) : (cB l).toArray[j]? = some (.int .u8 ((cf l j).toNat : Int)) := by
  simp [cB, cf, h]

section
variable {P : Program} {fn : Func} {R : Ending → World → Prop} {p q : Tmp} {ty : TypeId}
theorem results_cell_tmp (h : fn.results = #[.cell p ty, .tmp q]) (tmps : Array Value) (w : World) :
    (results fn tmps).run P w = ((asAddr (tmps.getD p undef)).run P w).andThen fun a w₁ => ((loadVar ty a).run P w₁).andThen fun v w₂ => .ok (.tuple #[v, tmps.getD q undef]) w₂ := by
  simp [results, h, Sem.run_bind, Result.andThen]
/-- The results: a struct or an array that lies in block b, and one that lies in a slot. -/
theorem ret_cell_tmp {tmps : Array Value} {W : World} {b : Nat} {c : Array Value} {d : TypeDesc} (h : fn.results = #[.cell p ty, .tmp q])
    (hp : tmps.getD p undef = .pointer (some ⟨b, 0, none⟩)) (hu : P.underlying ty = some d) (hd : (match d with | .struct _ | .array _ _ => true | _ => false) = true) (hi : (P.info? ty).map (·.size) = some c.size) (hh : W.heap[b]? = some (.cells c ty (0, 0))) (hR : R (.returned (.tuple #[.agg c, tmps.getD q undef])) W) :
    bodyPost P fn R .ret ⟨tmps, []⟩ W := by
  refine bodyPost_ret (v := .tuple #[.agg c, tmps.getD q undef]) ?_ rfl hR
  rw [results_cell_tmp h, hp]
  simp [asAddr, Result.andThen, run_loadVar_row W b ty ty c (0, 0) d hh hu hd hi]
end

section
variable {P : Program} {o : Oper} {a : Act} {w : World} {K : Act → World → Prop} {Q : Exit → Act → World → Prop}
theorem yields_load_row (ty : TypeId) (x : Operand) (ho : o.op = .load ty x) (g : Nat) (c : Array Value) (d : TypeDesc)
    (hx : a.eval x = .pointer (some ⟨g, 0, none⟩)) (hg : w.heap[g]? = some (.cells c ty (0, 0))) (hu : P.underlying ty = some d) (hd : (match d with | .struct _ | .array _ _ => true | _ => false) = true) (hi : (P.info? ty).map (·.size) = some c.size) :
    (execOp a.eval o).run P w = .ok (.value (.agg c)) w := by
  unfold execOp
  simp only [ho, hx, Instr.loadAt, Instr.sureAddr, Sem.run_bind, Sem.run_pure, Result.andThen_ok, run_loadVar_row w g ty ty c (0, 0) d hg hu hd hi]
theorem wp_store_row (ty : TypeId) (x y : Operand) (ho : o.op = .store ty x y) (g : Nat) (c c' : Array Value)
    (hx : a.eval x = .pointer (some ⟨g, 0, none⟩)) (hy : a.eval y = .agg c') (hg : w.heap[g]? = some (.cells c ty (0, 0))) (hi : (P.info? ty).map (·.size) = some c'.size) (hs : c.size = c'.size) (h1 : c'.all (·.oneCell') = true)
    (h : ∀ w', Upd g (.cells c' ty (0, 0)) w w' → K (a.put o.dst undef) w') : o.wp P a w K Q := by
  have h2 := h _ (Upd.setRow (cs := c') hg)
  unfold Oper.wp execOp
  simp only [ho, hx, hy, Instr.storeAt, Instr.sureAddr, Sem.run_bind, Sem.run_pure, Result.andThen_ok, run_storeVar_row w g ty ty c c' hg hi hs h1]
  exact h2
end
theorem zero32_one : zero32.all (·.oneCell') = true := by kernel_rfl

/-- The syndromes within a round. -/
def ofTo (word : List UInt8) (j m i : Nat) : UInt8 := if i < j then hv (Gf.gexp i) word else if i = j then hv (Gf.gexp j) (word.take m) else 0
theorem ofTo_start (word : List UInt8) : tab 32 (ofTo word 0 0) = tab 32 fun _ => 0 := by
  refine tab_congr fun i _ => ?_
  unfold ofTo
  rw [if_neg (Nat.not_lt_zero i)]
  split
  · rw [List.take_zero]; rfl
  · rfl
theorem ofTo_at (word : List UInt8) (j m : Nat) (h : j < 32) : cf (tab 32 (ofTo word j m)) j = hv (Gf.gexp j) (word.take m) := by
  rw [cf_tab, if_pos h]; unfold ofTo; rw [if_neg (Nat.lt_irrefl j), if_pos rfl]
theorem ofTo_set (word : List UInt8) (j m m' : Nat) : (tab 32 (ofTo word j m)).set j (hv (Gf.gexp j) (word.take m')) = tab 32 (ofTo word j m') := by
  rw [tab_set]
  refine tab_congr fun i _ => ?_
  unfold ofTo
  by_cases h : i = j
  · subst h; rw [if_pos rfl, if_neg (Nat.lt_irrefl i), if_pos rfl]
  · rw [if_neg h, if_neg h, if_neg h]
theorem ofTo_full (word : List UInt8) (j : Nat) : tab 32 (ofTo word j word.length) = tab 32 (ofTo word (j + 1) 0) := by
  refine tab_congr fun i _ => ?_
  unfold ofTo
  rw [List.take_length, List.take_zero, hv_nil]
  by_cases h : i < j
  · rw [if_pos h, if_pos (by omega)]
  · by_cases h2 : i = j
    · subst h2; rw [if_neg h, if_pos rfl, if_pos (by omega)]
    · rw [if_neg h, if_neg h2, if_neg (by omega)]; split <;> rfl
theorem ofTo_end (word : List UInt8) : tab 32 (ofTo word 32 0) = synd word :=
  tab_congr fun i hi => by unfold ofTo; rw [if_pos hi]

theorem sub_sized (n : Nat) (h : n ≤ 1000000) : decide (1 ≤ (n : Int) - 32 ∧ (n : Int) - 32 ≤ 223) = decide (33 ≤ n ∧ n ≤ 255) := by
  apply decide_eq_decide.2; omega

set_option maxRecDepth 10000 in
set_option maxHeartbeats 1000000 in
theorem of_size (a : Option Addr) (ca : Nat) (bs : List UInt8) (w : World) (z : Addr) (hz : SizeAt w z) (hl : bs.length ≤ 1000000) (h : ¬ (33 ≤ bs.length ∧ bs.length ≤ 255)) :
    Calls Tryd.prog 10 #[.slice a bs.length ca] w fun e w' => e = .returned (.tuple #[.agg zero32, .iface 81 (.pointer (some z))]) ∧ Below w.heap.size w w' := by
  have hd := sub_sized bs.length hl
  rw [decide_eq_false h] at hd
  have hz2 : ∀ o1 o2, SizeAt ((w.alloc o1).alloc o2) z := fun o1 o2 => hz.below (((Below.refl w.heap.size w).alloc (Nat.le_refl _) o1).alloc (by simp) o2)
  unfold SizeAt at hz2
  have zr := zero32_run
  have zn := zero32_ne
  have hgl : 0 < w.heap.size := World.block_lt_of_cell? w _ hz
  replace hgl := Lib.hid hgl
  clear h hz
  go_enter Tryd.func10, Tryd.ntmps10
  go_wp2_with fail
  with_reducible refine (sized_any _ _).mono ?_
  rintro e w1 ⟨rfl, rfl⟩
  rw [hd]
  go_wp2_with fail
  have hsz : (Tryd.prog.info? 32).map (·.size) = some zero32.size := by kernel_rfl
  have hu0 : Tryd.prog.underlying 32 = some (.array 32 5) := Tryd.underlying32
  obtain ⟨W0, hW0⟩ : ∃ W0, W0 = ((w.alloc (.cells zero32 32)).alloc (.cells zero32 32)) := ⟨_, rfl⟩
  have q0 : W0.heap[w.heap.size]? = some (.cells zero32 32 (0, 0)) := by
    rw [hW0, Below.heap_alloc _ _ _ (by simp)]; exact heap_alloc_new w _
  have q1 : W0.heap[w.heap.size + 1]? = some (.cells zero32 32 (0, 0)) := by
    have := heap_alloc_new (w.alloc (.cells zero32 32)) (.cells zero32 32)
    rw [← hW0] at this; simpa using this
  have q2 : W0.cell? ⟨0, 0, none⟩ = some (.iface 81 (.pointer (some z))) := by rw [hW0]; exact hz2 _ _
  have q3 : Below w.heap.size w W0 := by rw [hW0]; exact ((Below.refl w.heap.size w).alloc (Nat.le_refl _) _).alloc (by simp) _
  rw [← hW0]
  clear hW0 hz2 zr
  obtain ⟨S, hS⟩ : ∃ S : World → Prop, S = fun W => W.heap[w.heap.size]? = some (.cells zero32 32 (0, 0)) ∧ W.heap[w.heap.size + 1]? = some (.cells zero32 32 (0, 0)) ∧
    W.cell? ⟨0, 0, none⟩ = some (.iface 81 (.pointer (some z))) ∧ Below w.heap.size w W := ⟨_, rfl⟩
  have hS0 : S { W0 with drawn := W0.drawn + 1 } := by rw [hS]; exact ⟨q0, q1, q2, q3.trans (Drawn.below ⟨1, rfl⟩ _)⟩
  generalize W0 = W0 at *
  refine wp_region_held (S := S) (by kernel_rfl) ?_
  generalize { W0 with drawn := W0.drawn + 1 } = W1 at *
  clear q0 q1 q2 q3
  refine wpAnyH_take (i := 0) (v := .agg zero32) (by simp only [List.getElem?_toArray, List.getElem?_cons_zero]; rfl) (by kernel_rfl) (by kernel_rfl) (by kernel_rfl) (by exact fun _ _ _ h => h) (Or.inl ⟨by rfl, fun W hW => ?_⟩) hS0 ?_
  · rw [hS] at hW
    exact yields_load_row _ _ rfl (w.heap.size + 1) zero32 _ rfl hW.2.1 hu0 rfl hsz
  try simp only [Act.put, List.setIfInBounds_toArray, List.set_cons_zero, List.set_cons_succ]
  refine wpAnyH_take (i := 1) (v := .iface 81 (.pointer (some z))) (by simp only [List.getElem?_toArray, List.getElem?_cons_succ, List.getElem?_cons_zero]; rfl) (by kernel_rfl) (by kernel_rfl) (by kernel_rfl) (by exact fun _ _ _ h => h) (Or.inl ⟨by rfl, fun W hW => ?_⟩) hS0 ?_
  · rw [hS] at hW
    have hW2 := hW.2.2.1
    go_simp
  try simp only [Act.put, List.setIfInBounds_toArray, List.set_cons_zero, List.set_cons_succ]
  refine wpAnyH_ready (rs := [2]) (by kernel_rfl) (by simp) ?_
  refine AllReadyH.cons (by simp only [List.getElem?_toArray, List.getElem?_cons_succ, List.getElem?_cons_zero]; rfl) (fun K hK => ?_) AllReadyH.nil
  rw [if_pos (by rfl)]
  have hW1 := hS ▸ hS0
  refine wp_store_row 32 _ _ rfl w.heap.size zero32 zero32 rfl rfl hW1.1 hsz rfl zero32_one (fun w2 hu2 => ?_)
  refine hK.out _ _ ?_ (fun hNext => ?_)
  · rw [hS]
    exact ⟨hu2.here, (hu2.block _ (by omega)).trans hW1.2.1, ((hu2.below (Nat.le_refl _)).cell hgl.out).trans hW1.2.2.1, hW1.2.2.2.trans (hu2.below (Nat.le_refl _))⟩
  refine wpAnyH_take (i := 3) (v := .iface 81 (.pointer (some z))) (by simp only [List.getElem?_toArray, List.getElem?_cons_succ, List.getElem?_cons_zero]; rfl) (by kernel_rfl) (by kernel_rfl) (by kernel_rfl) (by exact fun _ _ _ h => h) (Or.inl ⟨by rfl, fun W hW => ?_⟩) hNext ?_
  · go_simp
  try simp only [Act.put, List.setIfInBounds_toArray, List.set_cons_zero, List.set_cons_succ]
  rw [hS] at hNext
  refine wpAnyH_done (by kernel_rfl) ?_ _
  go_wp2_with fail
  refine ret_cell_tmp rfl rfl hu0 rfl hsz hNext.1 ⟨rfl, hNext.2.2.2⟩

theorem ArgB.drewN' {w : World} {a : Option Addr} {c : Nat} {bs : List UInt8} (h : ArgB w a c bs) (n : Nat) : ArgB (w.drewN n) a c bs := ⟨h.len, h.most, h.nil, h.row⟩
/-- What is in memory within Of: the syndromes so far in block o, the result's block r, the table. -/
structure OfSt (w : World) (ty : TypeId) (r o tb : Nat) (L : List UInt8) (W : World) : Prop where
  row : W.heap[o]? = some (.cells (cB L).toArray ty (0, 0))
  res : W.heap[r]? = some (.cells zero32 ty (0, 0))
  tab : TabAt W tb
  bel : Below w.heap.size w W
theorem OfSt.drewN {w : World} {ty : TypeId} {r o tb : Nat} {L : List UInt8} {W : World} (h : OfSt w ty r o tb L W) (n : Nat) : OfSt w ty r o tb L (W.drewN n) :=
  ⟨h.row, h.res, h.tab, below_drewN h.bel n⟩
theorem OfSt.set {w : World} {ty : TypeId} {r o tb : Nat} {L : List UInt8} {W : World} (h : OfSt w ty r o tb L W) (h1 : r ≠ o) (h2 : tb ≠ o) (h3 : w.heap.size ≤ o) (j : Nat) (x : UInt8) :
    OfSt w ty r o tb (L.set j x) (W.setCell ⟨o, j, none⟩ (.int .u8 (x.toNat : Int))) := by
  have hu := (Upd.refl h.row).setCell (j := j) (.int .u8 (x.toNat : Int))
  refine ⟨?_, (hu.block r h1).trans h.res, ?_, h.bel.trans (hu.below h3)⟩
  · rw [← cB_setA]; exact hu.here
  · obtain ⟨cs, k1, k2⟩ := h.tab
    exact ⟨cs, (hu.block tb h2).trans k1, k2⟩
theorem OfSt.cell {w : World} {ty : TypeId} {r o tb : Nat} {L : List UInt8} {W : World} (h : OfSt w ty r o tb L W) {j : Nat} (hj : j < L.length) : W.cell? ⟨o, j, none⟩ = some (.int .u8 ((cf L j).toNat : Int)) := by
  rw [cell_of_block h.row, cB_at L hj]
theorem OfSt.free {w : World} {ty : TypeId} {r o tb : Nat} {L : List UInt8} {W : World} (h : OfSt w ty r o tb L W) (j : Nat) : W.frozen? ⟨o, j, none⟩ = false := free_of_block h.row _

set_option maxRecDepth 10000 in
set_option maxHeartbeats 4000000 in
theorem of_any (a : Option Addr) (ca : Nat) (bs : List UInt8) (w : World) (ha : ArgB w a ca bs) (h1 : 33 ≤ bs.length) (h2 : bs.length ≤ 255) :
    Calls Tryd.prog 10 #[.slice a bs.length ca] w fun e w' => e = .returned (.tuple #[.agg (cB (synd bs)).toArray, .nilIface]) ∧ Below w.heap.size w w' := by
  have hd := sub_sized bs.length (by omega)
  rw [show decide (33 ≤ bs.length ∧ bs.length ≤ 255) = true from decide_eq_true ⟨h1, h2⟩] at hd
  have hend := Lib.hid (ofTo_end bs)
  have hst := Lib.hid (ofTo_start bs)
  have hsl := Lib.hid (show (synd bs).length = 32 from tab_length _ _)
  have zr := zero32_run
  have zn := zero32_ne
  have ha0 := Lib.hid ha
  go_enter Tryd.func10, Tryd.ntmps10
  go_wp2_with fail
  with_reducible refine (sized_any _ _).mono ?_
  rintro e w1 ⟨rfl, rfl⟩
  rw [hd]
  obtain ⟨W0, hW0⟩ : ∃ W0, W0 = ((w.alloc (.cells zero32 32)).alloc (.cells zero32 32)) := ⟨_, rfl⟩
  have q0 : W0.heap[w.heap.size]? = some (.cells zero32 32 (0, 0)) := by
    rw [hW0, Below.heap_alloc _ _ _ (by simp)]; exact heap_alloc_new w _
  have q1 : W0.heap[w.heap.size + 1]? = some (.cells zero32 32 (0, 0)) := by
    have := heap_alloc_new (w.alloc (.cells zero32 32)) (.cells zero32 32)
    rw [← hW0] at this; simpa using this
  have q3 : Below w.heap.size w W0 := by rw [hW0]; exact ((Below.refl w.heap.size w).alloc (Nat.le_refl _) _).alloc (by simp) _
  have q4 : w.heap.size + 2 ≤ W0.heap.size := by rw [hW0]; simp
  rw [← hW0]
  clear hW0 zr zn
  replace q0 := Lib.hid q0
  replace q1 := Lib.hid q1
  replace q3 := Lib.hid q3
  clear ha
  obtain ⟨o0, ho0⟩ : ∃ o0, o0 = w.heap.size + 1 := ⟨_, rfl⟩
  obtain ⟨r0, hr0⟩ : ∃ r0, r0 = w.heap.size := ⟨_, rfl⟩
  have hro : r0 ≠ o0 := by omega
  have hob : w.heap.size ≤ o0 := by omega
  have hol : o0 < W0.heap.size := by omega
  rw [← ho0] at q1 ⊢
  rw [← hr0] at q0 ⊢
  have hrl := block_lt q0.out
  have hrb := Lib.hid (show w.heap.size ≤ r0 from by omega)
  replace hro := Lib.hid hro
  replace hob := Lib.hid hob
  clear ho0 hr0 q4
  go_wp2_with fail
  with_reducible refine (make_any _).mono ?_
  rintro e w1 ⟨rfl, hb1, ht1⟩
  have hto : W0.heap.size ≠ o0 := by omega
  have hI : OfSt w 32 r0 o0 W0.heap.size (tab 32 (ofTo bs 0 0)) w1 :=
    ⟨by rw [hst.out, ← zero32_eq]; exact (hb1.block _ hol).trans q1.out, (hb1.block _ hrl).trans q0.out, ht1, q3.out.trans (hb1.mono q3.out.size)⟩
  replace hI := Lib.hid hI
  replace hto := Lib.hid hto
  generalize W0.heap.size = tb at *
  clear q0 q1 q3 hb1 ht1 hol hrl
  go_wp2_with fail
  go_loopw [6, 7, 9, 18] (fun _ _ _ j wr => ∃ k : Nat, k ≤ 32 ∧ j = .int .i64 k ∧ OfSt w 32 r0 o0 tb (tab 32 (ofTo bs k 0)) wr)
    (fun _ _ _ j _ => 32 - (intOf j).toNat)
  case atStart => exact ⟨0, Nat.zero_le _, rfl, hI.out⟩
  case round =>
    clear hI
    obtain ⟨k, hk, rfl, hI⟩ := hrel
    replace hI := Lib.hid hI
    by_cases hlt : k < 32
    · have hex := ex_of_lt (k : Int) (by omega)
      rw [Int.toNat_natCast] at hex
      have hcall := texp_any (k : Int) tb wr hI.out.tab
      rw [hex] at hcall
      replace hcall := Lib.hid hcall
      have hful := Lib.hid (ofTo_full bs k)
      clear hex
      go_wp2_with fail
      with_reducible refine hcall.out.mono ?_
      rintro e w5 ⟨rfl, rfl⟩
      go_wp2_with fail
      go_loopw [9, 26] (fun _ j wq => ∃ m : Nat, m ≤ bs.length ∧ j = .int .i64 m ∧ OfSt w 32 r0 o0 tb (tab 32 (ofTo bs k m)) wq)
        (fun _ j _ => bs.length - (intOf j).toNat)
      case atStart => exact ⟨0, Nat.zero_le _, rfl, hI.out⟩
      case round =>
        clear hI hcall
        obtain ⟨m, hm, rfl, hI⟩ := hrel
        replace hI := Lib.hid hI
        by_cases hmm : m < bs.length
        · obtain ⟨xb, xo, rfl, cx⟩ := (ha0.out.below hI.out.bel).row m hmm
          rw [show bs.getD m 0 = cf bs m from rfl] at cx
          have c1 := hI.out.cell (j := k) (by rw [tab_length]; omega)
          rw [ofTo_at _ _ _ hlt] at c1
          have f1 := hI.out.free k
          have hnx := hI.out.set hro.out hto.out hob.out k (hv (Gf.gexp k) (bs.take (m + 1)))
          rw [ofTo_set, hv_take _ hmm] at hnx
          replace hnx := Lib.hid hnx
          have htab := Lib.hid hI.out.tab
          generalize cf bs m = y at *
          generalize hv (Gf.gexp k) (bs.take m) = x at *
          generalize Gf.gexp k = p at *
          go_wp2_with fail
          with_reducible refine (tmul_any x p tb wr htab.out).mono ?_
          rintro e w6 ⟨rfl, n', rfl⟩
          go_wp2_with fail
          go_roundw
          case rel => exact ⟨m + 1, by omega, by go_num, by rw [xor_u8]; exact hnx.out.drewN n'⟩
          case measure => simp [intOf]; omega
        · obtain rfl : m = bs.length := by omega
          rw [hful.out] at hI
          go_wp2_with fail
          go_roundw
          case rel => exact ⟨k + 1, by omega, by go_num, hI.out⟩
          case measure => simp [intOf]; omega
    · obtain rfl : k = 32 := by omega
      rw [hend.out] at hI
      have hsz : (Tryd.prog.info? 32).map (·.size) = some (cB (synd bs)).toArray.size := by
        rw [List.size_toArray, cB_length, hsl.out]; kernel_rfl
      have hrw := Lib.hid hI.out.row
      have hrs := Lib.hid hI.out.res
      have hone : (cB (synd bs)).toArray.all (·.oneCell') = true := by
        rw [List.all_toArray, List.all_eq_true]; exact cB_one (synd bs)
      have hbl := hI.out.bel
      replace hbl := Lib.hid hbl
      have hu0 : Tryd.prog.underlying 32 = some (.array 32 5) := Tryd.underlying32
      have hs2 : zero32.size = (cB (synd bs)).toArray.size := by rw [zero32_size, List.size_toArray, cB_length, hsl.out]
      generalize hC : (cB (synd bs)).toArray = C at *
      go_wp2_with (first | with_reducible refine wpList_load_row rfl 32 (.tmp 4) rfl o0 C (.array 32 5) rfl hrw hu0 rfl hsz ?_ | with_reducible refine wpList_store_row rfl 32 (.tmp 2) (.tmp 42) rfl r0 zero32 C rfl rfl hrs hsz hs2 hone ?_)
      intro w8 hU
      go_wp2_with fail
      refine ret_cell_tmp rfl rfl hu0 rfl hsz hU.out.here ⟨by rw [hC]; rfl, hbl.out.trans (hU.out.below hrb.out)⟩

end Go.Proofs.YtenkdikdofhnpaaDoor
