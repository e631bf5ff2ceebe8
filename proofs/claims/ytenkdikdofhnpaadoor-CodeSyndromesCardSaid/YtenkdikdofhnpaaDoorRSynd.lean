/- The walk over the reference's Syndromes. -/
import Derived.Test.YtenkdikdofhnpaaDoorCodeS
import Derived.Test.YtenkdikdofhnpaaDoorRParity
namespace Go.Proofs.YtenkdikdofhnpaaDoor
open Go.RowKit

/-- What is in memory: the syndromes so far in block o, the result's block r. -/
structure SySt (w : World) (ty : TypeId) (r o : Nat) (L : List UInt8) (W : World) : Prop where
  row : W.heap[o]? = some (.cells (cB L).toArray ty (0, 0))
  res : W.heap[r]? = some (.cells zero32 ty (0, 0))
  bel : Below w.heap.size w W
theorem SySt.set {w : World} {ty : TypeId} {r o : Nat} {L : List UInt8} {W : World} (h : SySt w ty r o L W) (h1 : r ≠ o) (h3 : w.heap.size ≤ o) (j : Nat) (x : UInt8) :
    SySt w ty r o (L.set j x) (W.setCell ⟨o, j, none⟩ (.int .u8 (x.toNat : Int))) := by
  have hu := (Upd.refl h.row).setCell (j := j) (.int .u8 (x.toNat : Int))
  refine ⟨?_, (hu.block r h1).trans h.res, h.bel.trans (hu.below h3)⟩
  rw [← cB_setA]; exact hu.here
theorem SySt.cell {w : World} {ty : TypeId} {r o : Nat} {L : List UInt8} {W : World} (h : SySt w ty r o L W) {j : Nat} (hj : j < L.length) : W.cell? ⟨o, j, none⟩ = some (.int .u8 ((cf L j).toNat : Int)) := by
  rw [cell_of_block h.row, cB_at L hj]
theorem SySt.free {w : World} {ty : TypeId} {r o : Nat} {L : List UInt8} {W : World} (h : SySt w ty r o L W) (j : Nat) : W.frozen? ⟨o, j, none⟩ = false := free_of_block h.row _

set_option maxRecDepth 10000 in
set_option maxHeartbeats 4000000 in
theorem rsynd_any (a : Option Addr) (ca : Nat) (bs : List UInt8) (w : World) (ha : ArgB w a ca bs) (h2 : bs.length ≤ 1000) :
    Calls Tryd.prog 15 #[.slice a bs.length ca] w fun e w' => e = .returned (.agg (cB (synd bs)).toArray) ∧ Below w.heap.size w w' := by
  have hend := Lib.hid (ofTo_end bs)
  have hst := Lib.hid (ofTo_start bs)
  have hsl := Lib.hid (show (synd bs).length = 32 from tab_length _ _)
  have zr := zero32_run'
  have zn := zero32_ne
  have ha0 := Lib.hid ha
  have hone0 := zero32_one
  have hsz0 : (Tryd.prog.info? 31).map (·.size) = some zero32.size := by kernel_rfl
  have hu0 : Tryd.prog.underlying 31 = some (.array 32 5) := Tryd.underlying31
  have hz1 := Lib.hid (heap_alloc_new (w.alloc (.cells zero32 31)) (.cells zero32 31))
  rw [World.size_alloc] at hz1
  clear ha
  go_enter Tryd.func15, Tryd.ntmps15
  go_wp2_with (with_reducible refine wpList_store_row rfl 31 (.tmp 3) (.tmp 9) rfl (w.heap.size + 1) zero32 zero32 rfl rfl hz1 hsz0 rfl hone0 ?_)
  intro W0 hU
  have q0 : W0.heap[w.heap.size]? = some (.cells zero32 31 (0, 0)) := by
    rw [hU.out.block _ (by omega), Below.heap_alloc _ _ _ (by simp)]; exact heap_alloc_new w _
  have q1 := hU.out.here
  have q3 : Below w.heap.size w W0 := (((Below.refl w.heap.size w).alloc (Nat.le_refl _) _).alloc (by simp) _).trans (hU.out.below (by omega))
  obtain ⟨o0, ho0⟩ : ∃ o0, o0 = w.heap.size + 1 := ⟨_, rfl⟩
  obtain ⟨r0, hr0⟩ : ∃ r0, r0 = w.heap.size := ⟨_, rfl⟩
  have hro : r0 ≠ o0 := by omega
  have hob : w.heap.size ≤ o0 := by omega
  rw [← ho0] at q1 ⊢
  rw [← hr0] at q0 ⊢
  have hrb := Lib.hid (show w.heap.size ≤ r0 from by omega)
  have hI := Lib.hid (show SySt w 31 r0 o0 (tab 32 (ofTo bs 0 0)) W0 from ⟨by rw [hst.out, ← zero32_eq]; exact q1, q0, q3⟩)
  replace hro := Lib.hid hro
  replace hob := Lib.hid hob
  clear ho0 hr0 q0 q1 q3 hU hz1 zr
  go_wp2_with fail
  go_loopw [4, 5, 6, 8] (fun x j _ _ wr => ∃ k : Nat, k ≤ 32 ∧ j = .int .i64 k ∧ x = .int .u8 ((Gf.gexp k).toNat : Int) ∧ SySt w 31 r0 o0 (tab 32 (ofTo bs k 0)) wr)
    (fun _ j _ _ _ => 32 - (intOf j).toNat)
  case atStart => exact ⟨0, Nat.zero_le _, rfl, rfl, hI.out⟩
  case round =>
    clear hI
    obtain ⟨k, hk, rfl, rfl, hI⟩ := hrel
    replace hI := Lib.hid hI
    by_cases hlt : k < 32
    · have hful := Lib.hid (ofTo_full bs k)
      have hrt := Lib.hid (rgen_root k)
      have hdk : decide ((k : Int) < 32) = true := decide_eq_true (by omega)
      go_wp2_with fail
      try rw [hdk]
      go_loopw [6, 8, 16] (fun v _ j wq => ∃ m : Nat, m ≤ bs.length ∧ j = .int .i64 m ∧ v = .int .u8 ((hv (Gf.gexp k) (bs.take m)).toNat : Int) ∧ SySt w 31 r0 o0 (tab 32 (ofTo bs k 0)) wq)
        (fun _ _ j _ => bs.length - (intOf j).toNat)
      case atStart => exact ⟨0, Nat.zero_le _, rfl, rfl, hI.out⟩
      case round =>
        clear hI
        obtain ⟨m, hm, rfl, rfl, hI⟩ := hrel
        replace hI := Lib.hid hI
        by_cases hmm : m < bs.length
        · obtain ⟨xb, xo, rfl, cx⟩ := (ha0.out.below hI.out.bel).row m hmm
          rw [show bs.getD m 0 = cf bs m from rfl] at cx
          have hnx := Lib.hid (hv_take (Gf.gexp k) hmm)
          generalize cf bs m = y at *
          generalize hv (Gf.gexp k) (bs.take m) = x at *
          go_wp2_with fail
          with_reducible refine (refmul_any x (Gf.gexp k) _).mono ?_
          rintro e w6 ⟨rfl, rfl⟩
          go_wp2_with fail
          go_roundw
          case rel => exact ⟨m + 1, by omega, by go_num, by rw [xor_u8, hnx.out], hI.out⟩
          case measure => simp [intOf]; omega
        · obtain rfl : m = bs.length := by omega
          rw [List.take_length]
          have c1 := hI.out.cell (j := k) (by rw [tab_length]; omega)
          rw [ofTo_at _ _ _ hlt] at c1
          have f1 := hI.out.free k
          have hnx := hI.out.set hro.out hob.out k (hv (Gf.gexp k) (bs.take bs.length))
          rw [ofTo_set, hful.out, List.take_length] at hnx
          replace hnx := Lib.hid hnx
          go_wp2_with fail
          refine (refmul_any (Gf.gexp k) 2 _).mono ?_
          rintro e w6 ⟨rfl, rfl⟩
          go_wp2_with fail
          go_roundw
          case rel => exact ⟨k + 1, by omega, by go_num, by rw [hrt.out], hnx.out⟩
          case measure => simp [intOf]; omega
    · obtain rfl : k = 32 := by omega
      rw [hend.out] at hI
      have hsz : (Tryd.prog.info? 31).map (·.size) = some (cB (synd bs)).toArray.size := by
        rw [List.size_toArray, cB_length, hsl.out]; kernel_rfl
      have hrw := Lib.hid hI.out.row
      have hrs := Lib.hid hI.out.res
      have hone : (cB (synd bs)).toArray.all (·.oneCell') = true := by
        rw [List.all_toArray, List.all_eq_true]; exact cB_one (synd bs)
      have hbl := hI.out.bel
      replace hbl := Lib.hid hbl
      have hs2 : zero32.size = (cB (synd bs)).toArray.size := by rw [zero32_size, List.size_toArray, cB_length, hsl.out]
      generalize hC : (cB (synd bs)).toArray = C at *
      go_wp2_with (first | with_reducible refine wpList_load_row rfl 31 (.tmp 3) rfl o0 C (.array 32 5) rfl hrw hu0 rfl hsz ?_ | with_reducible refine wpList_store_row rfl 31 (.tmp 2) (.tmp 31) rfl r0 zero32 C rfl rfl hrs hsz hs2 hone ?_)
      intro w8 hU
      go_wp2_with fail
      exact ret_cell_row rfl rfl hu0 rfl hsz hU.out.here ⟨by rw [hC], hbl.out.trans (hU.out.below hrb.out)⟩

end Go.Proofs.YtenkdikdofhnpaaDoor
