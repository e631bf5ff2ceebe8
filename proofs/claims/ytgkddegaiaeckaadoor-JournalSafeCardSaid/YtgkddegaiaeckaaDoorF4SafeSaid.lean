/- The walk over (sha.state).take. -/
import Derived.Test.YtgkddegaiaeckaaDoorF3SafeSaid
namespace Go.Proofs.YtgkddegaiaeckaaDoor
open Go.RowKit

/-- Word i of a state. -/
def sAt (s : S8) : Nat → W32
  | 0 => s.a
  | 1 => s.b
  | 2 => s.c
  | 3 => s.d
  | 4 => s.e
  | 5 => s.f
  | 6 => s.g
  | 7 => s.h
  | _ => 0
/-- A state as the model holds it. -/
def c8 (s : S8) : Array Value := (cW (tabW 8 (sAt s))).toArray
theorem c8_out (s : S8) : c8 s = #[.int .u32 (wn s.a), .int .u32 (wn s.b), .int .u32 (wn s.c), .int .u32 (wn s.d), .int .u32 (wn s.e), .int .u32 (wn s.f), .int .u32 (wn s.g), .int .u32 (wn s.h)] := rfl
theorem c8_size (s : S8) : (c8 s).size = 8 := rfl
theorem c8_one (s : S8) : (c8 s).all (·.oneCell') = true := cW_one _
theorem c8_at (s : S8) {i : Nat} (h : i < 8) : (c8 s)[i]? = some (.int .u32 (wn (sAt s i))) := cW_at h
theorem c8_round (a b c d e f g h kk ww : W32) : (Obj.cells #[.int .u32 (wn (h + big1 e + chW e f g + kk + ww + (big0 a + majW a b c))), .int .u32 (wn a), .int .u32 (wn b), .int .u32 (wn c), .int .u32 (wn (d + (h + big1 e + chW e f g + kk + ww))), .int .u32 (wn e), .int .u32 (wn f), .int .u32 (wn g)] 138 (0, 0)) =
    .cells (cW (tabW 8 (sAt (roundS ⟨a, b, c, d, e, f, g, h⟩ kk ww)))).toArray 138 (0, 0) := by
  have e1 : roundS ⟨a, b, c, d, e, f, g, h⟩ kk ww = ⟨h + big1 e + chW e f g + kk + ww + (big0 a + majW a b c), a, b, c, d + (h + big1 e + chW e f g + kk + ww), e, f, g⟩ := rfl
  rw [e1]
  generalize h + big1 e + chW e f g + kk + ww = t1
  generalize t1 + (big0 a + majW a b c) = x0
  generalize d + t1 = x4
  rfl
@[irreducible] def zero8 : Array Value := (cW (tabW 8 fun _ => 0)).toArray
theorem zero8_run (w : World) : (zeroValue 138).run Tryd.prog w = .ok (.agg zero8) w := by kernel_rfl
theorem zero8_size : zero8.size = 8 := by kernel_rfl
theorem zero8_ne : zero8 ≠ #[] := fun e => by have := zero8_size; rw [e] at this; cases this

/-- What is added in the rounds lies in its variable. -/
def ShaK (w : World) : Prop := ∀ t, t < 64 → w.cell? ⟨24, t, none⟩ = some (.int .u32 (wn (kAt t)))
theorem ShaK.below {w w' : World} (h : ShaK w) (hb : Below w.heap.size w w') : ShaK w' := fun t ht => (hb.cell (World.block_lt_of_cell? w _ (h t ht))).trans (h t ht)

theorem idx64 (f : Nat → W32) (t : Nat) (h : t < 64) (w : World) : (Instr.index 94 (.agg (cW (tabW 64 f)).toArray) (.int .i64 (t : Int))).run Tryd.prog w = .ok (.int .u32 (wn (f t))) w := by
  have hs : (sizeOf 92).run Tryd.prog w = .ok 1 w := by kernel_rfl
  have hp : (part 92 (cW (tabW 64 f)).toArray t).run Tryd.prog w = .ok (.int .u32 (wn (f t))) w := by
    simp [part, isAgg, run_underlying Tryd.underlying92]
    have := cW_at (f := f) h
    simp at this
    simp [this]
  have ht : (t : Int) < 64 := by omega
  simp [Instr.index, asIntOf, run_underlying Tryd.underlying94, hs, hp, h]

/-- What is in memory within take: the state so far in block p, the result's block q, what was in block o. -/
structure TkSt (w : World) (p q o : Nat) (f : Nat → W32) (s : S8) (W : World) : Prop where
  row : W.heap[p]? = some (.cells (cW (tabW 8 f)).toArray 138 (0, 0))
  res : W.heap[q]? = some (.cells zero8 138 (0, 0))
  was : W.heap[o]? = some (.cells (c8 s) 138 (0, 0))
  bel : Below w.heap.size w W
theorem TkSt.drewN {w : World} {p q o : Nat} {f : Nat → W32} {s : S8} {W : World} (h : TkSt w p q o f s W) (n : Nat) : TkSt w p q o f s (W.drewN n) := ⟨h.row, h.res, h.was, below_drewN h.bel n⟩
theorem TkSt.upd {w : World} {p q o : Nat} {f g : Nat → W32} {s : S8} {W W' : World} (h : TkSt w p q o f s W) (hu : Upd p (.cells (cW (tabW 8 g)).toArray 138 (0, 0)) W W') (h1 : q ≠ p) (h2 : o ≠ p) (h3 : w.heap.size ≤ p) : TkSt w p q o g s W' :=
  ⟨hu.here, (hu.block q h1).trans h.res, (hu.block o h2).trans h.was, h.bel.trans (hu.below h3)⟩
theorem TkSt.cell {w : World} {p q o : Nat} {f : Nat → W32} {s : S8} {W : World} (h : TkSt w p q o f s W) {j : Nat} (hj : j < 8) : W.cell? ⟨p, j, none⟩ = some (.int .u32 (wn (f j))) := by
  rw [cell_of_block h.row, cW_at hj]
theorem TkSt.wasAt {w : World} {p q o : Nat} {f : Nat → W32} {s : S8} {W : World} (h : TkSt w p q o f s W) {j : Nat} (hj : j < 8) : W.cell? ⟨o, j, none⟩ = some (.int .u32 (wn (sAt s j))) := by
  rw [cell_of_block h.was, c8_at s hj]
theorem TkSt.free {w : World} {p q o : Nat} {f : Nat → W32} {s : S8} {W : World} (h : TkSt w p q o f s W) (j : Nat) : W.frozen? ⟨p, j, none⟩ = false := free_of_block h.row _

/-- The sum within a round. -/
def sumTo (r s : S8) (k i : Nat) : W32 := if i < k then sAt r i + sAt s i else sAt r i
theorem sumTo_set (r s : S8) (k : Nat) : tabW 8 (fun i => if i = k then sAt r k + sAt s k else sumTo r s k i) = tabW 8 (sumTo r s (k + 1)) := by
  refine tabW_congr fun i _ => ?_
  unfold sumTo
  by_cases h : i = k
  · subst h; rw [if_pos rfl, if_pos (by omega)]
  · rw [if_neg h]
    by_cases h2 : i < k
    · rw [if_pos h2, if_pos (by omega)]
    · rw [if_neg h2, if_neg (by omega)]
theorem sumTo_full (r s : S8) : tabW 8 (sumTo r s 8) = tabW 8 (sAt (addS r s)) := by
  refine tabW_congr fun i hi => ?_
  unfold sumTo
  rw [if_pos hi]
  match i, hi with
  | 0, _ => rfl
  | 1, _ => rfl
  | 2, _ => rfl
  | 3, _ => rfl
  | 4, _ => rfl
  | 5, _ => rfl
  | 6, _ => rfl
  | 7, _ => rfl
theorem sumTo_zero (r s : S8) : tabW 8 (sumTo r s 0) = tabW 8 (sAt r) := by
  refine tabW_congr fun i _ => ?_
  unfold sumTo; rw [if_neg (Nat.not_lt_zero i)]

set_option maxRecDepth 10000 in
set_option maxHeartbeats 1000000 in
theorem take_any (s : S8) (a : Option Addr) (ca : Nat) (bs : List UInt8) (w : World) (ha : ArgB w a ca bs) (h64 : bs.length = 64) (hK : ShaK w) :
    Calls Tryd.prog 74 #[.agg (c8 s), .slice a 64 ca] w fun e w' => e = .returned (.agg (c8 (takeS s bs))) ∧ Below w.heap.size w w' := by
  have zr := zero8_run
  have zn := zero8_ne
  have hu0 : Tryd.prog.underlying 138 = some (.array 8 92) := Tryd.underlying138
  have hsz : ∀ s, (Tryd.prog.info? 138).map (·.size) = some (c8 s).size := fun s => by kernel_rfl
  have hs0 : zero8.size = (c8 s).size := by rw [zero8_size, c8_size]
  have hone := c8_one s
  replace ha := Lib.hid ha
  replace h64 := Lib.hid h64
  have hK0 := Lib.hid hK
  have hend := Lib.hid (show addS (roundsS bs s 64) s = takeS s bs from rfl)
  have hsp := Lib.hid (fun w h => spread_any a ca bs w h h64.out)
  have hr0 := Lib.hid (show roundsS bs s 0 = s from rfl)
  have hrw := Lib.hid (show (w.alloc (.cells (c8 s) 138)).heap[w.heap.size]? = some (.cells (c8 s) 138 (0, 0)) from heap_alloc_new w _)
  obtain ⟨A1, hA1⟩ : ∃ A, A = w.alloc (.cells (c8 s) 138) := ⟨_, rfl⟩
  obtain ⟨A2, hA2⟩ : ∃ A, A = A1.alloc (.cells zero8 138) := ⟨_, rfl⟩
  obtain ⟨A3, hA3⟩ : ∃ A, A = A2.alloc (.cells zero8 138) := ⟨_, rfl⟩
  have z1 : A1.heap.size = w.heap.size + 1 := by rw [hA1]; simp
  have z2 : A2.heap.size = w.heap.size + 2 := by rw [hA2]; simp [z1]
  have p1 : A1.heap[w.heap.size]? = some (.cells (c8 s) 138 (0, 0)) := by rw [hA1]; exact heap_alloc_new w _
  have p2 : A2.heap[w.heap.size]? = some (.cells (c8 s) 138 (0, 0)) := by rw [hA2, Below.heap_alloc _ _ _ (by omega)]; exact p1
  have q2 : A2.heap[w.heap.size + 1]? = some (.cells zero8 138 (0, 0)) := by rw [hA2, ← z1]; exact heap_alloc_new A1 _
  have p3 : A3.heap[w.heap.size]? = some (.cells (c8 s) 138 (0, 0)) := by rw [hA3, Below.heap_alloc _ _ _ (by omega)]; exact p2
  have q3 : A3.heap[w.heap.size + 1]? = some (.cells zero8 138 (0, 0)) := by rw [hA3, Below.heap_alloc _ _ _ (by omega)]; exact q2
  have o3 : A3.heap[w.heap.size + 2]? = some (.cells zero8 138 (0, 0)) := by rw [hA3, ← z2]; exact heap_alloc_new A2 _
  have b3 : Below w.heap.size w A3 := by rw [hA3, hA2, hA1]; exact (((Below.refl w.heap.size w).alloc (Nat.le_refl _) _).alloc (by simp) _).alloc (by simp; omega) _
  rw [hA2, hA1] at hA3
  rw [hA2, hA1] at p2
  replace p2 := Lib.hid p2
  replace p3 := Lib.hid p3
  replace q3 := Lib.hid q3
  rw [hA3] at o3
  replace o3 := Lib.hid o3
  replace hA3 := Lib.hid hA3
  replace b3 := Lib.hid b3
  have hszC := hsz s
  clear hA1 hA2 z1 z2 p1 q2 hrw
  generalize hC : c8 s = C at *
  go_enter Tryd.func74, Tryd.ntmps74
  go_wp2_with (first | with_reducible refine wpList_load_row rfl 138 (.tmp 2) rfl w.heap.size C (.array 8 92) rfl p2 hu0 rfl hszC ?_ | with_reducible refine wpList_store_row rfl 138 (.tmp 5) (.tmp 13) rfl (w.heap.size + 2) zero8 C rfl rfl o3 hszC hs0 hone ?_)
  intro W0 hU
  obtain ⟨p0, hp0⟩ : ∃ p, p = w.heap.size := ⟨_, rfl⟩
  obtain ⟨q0, hq0⟩ : ∃ q, q = w.heap.size + 1 := ⟨_, rfl⟩
  obtain ⟨o0, ho0⟩ : ∃ o, o = w.heap.size + 1 + 1 := ⟨_, rfl⟩
  have hqp : q0 ≠ p0 := by omega
  have hop : o0 ≠ p0 := by omega
  have hpb : w.heap.size ≤ p0 := by omega
  have hqb := Lib.hid (show w.heap.size ≤ q0 from by omega)
  have hoe : w.heap.size + 2 = o0 := by omega
  have hI : TkSt w p0 q0 o0 (sAt s) s W0 := by
    have hU2 := hU.out
    rw [hoe] at hU2
    rw [← hA3.out] at hU2
    have hwas := hU2.here
    rw [← hC] at hwas
    refine ⟨?_, ?_, hwas, b3.out.trans (hU2.below (by omega))⟩
    · rw [hU2.block p0 (fun e => hop e.symm), hp0, p3.out, ← hC]; rfl
    · rw [hU2.block q0 (by omega), hq0]; exact q3.out
  rw [← ho0, ← hq0, ← hp0]
  replace hI := Lib.hid hI
  replace hqp := Lib.hid hqp
  replace hop := Lib.hid hop
  replace hpb := Lib.hid hpb
  clear hp0 hq0 ho0 hoe hU p2 p3 q3 o3 hA3 b3 zr zn
  go_wp2_with fail
  with_reducible refine (hsp.out _ (ha.out.below hI.out.bel)).mono ?_
  rintro e w2 ⟨rfl, hd⟩
  have hI2 : TkSt w p0 q0 o0 (sAt s) s w2 := ⟨(hd.block _ (block_lt hI.out.row)).trans hI.out.row, (hd.block _ (block_lt hI.out.res)).trans hI.out.res, (hd.block _ (block_lt hI.out.was)).trans hI.out.was, hI.out.bel.trans (hd.mono hI.out.bel.size)⟩
  replace hI := Lib.hid hI2
  have hidx := fun t h w => idx64 (wAt bs) t h w
  replace hidx := Lib.hid hidx
  clear hI2 hd hsp ha hK
  generalize (cW (tabW 64 (wAt bs))).toArray = CW at *
  go_wp2_with fail
  go_loopw [6, 7, 8, 9, 10, 11, 16] (fun _ _ _ _ _ _ j wr => ∃ t : Nat, t ≤ 64 ∧ j = .int .i64 t ∧ TkSt w p0 q0 o0 (sAt (roundsS bs s t)) s wr)
    (fun _ _ _ _ _ _ j _ => 64 - (intOf j).toNat)
  case atStart => exact ⟨0, Nat.zero_le _, rfl, hI.out⟩
  case round =>
    clear hI
    obtain ⟨t, ht, rfl, hI⟩ := hrel
    by_cases hlt : t < 64
    · have hk := fun n => (show (wr.drewN n).cell? ⟨24, t, none⟩ = some (.int .u32 (wn (kAt t))) from hK0.out.below hI.bel t hlt)
      have hk0 := hK0.out.below hI.bel t hlt
      have hix := hidx.out t hlt
      have hnx := Lib.hid (show roundsS bs s (t + 1) = roundS (roundsS bs s t) (kAt t) (wAt bs t) from rfl)
      have e0 := hI.cell (j := 0) (by omega)
      have e1 := hI.cell (j := 1) (by omega)
      have e2 := hI.cell (j := 2) (by omega)
      have e3 := hI.cell (j := 3) (by omega)
      have e4 := hI.cell (j := 4) (by omega)
      have e5 := hI.cell (j := 5) (by omega)
      have e6 := hI.cell (j := 6) (by omega)
      have e7 := hI.cell (j := 7) (by omega)
      have hrow := Lib.hid hI.row
      generalize roundsS bs s t = r at *
      obtain ⟨ra, rb, rc, rd, re, rf, rg, rh⟩ := r
      simp only [sAt] at e0 e1 e2 e3 e4 e5 e6 e7
      have htk : (t : Int) < 64 := by omega
      have b1 := and32 re rf
      have b2 : bits BinOp.xor IntKind.u32 IntKind.u32.max (wn re) = wn (~~~re) := not32 re
      have b3 := and32 (~~~re) rg
      have b4 := xor32 (re &&& rf) (~~~re &&& rg)
      have b5 := and32 ra rb
      have b6 := and32 ra rc
      have b7 := xor32 (ra &&& rb) (ra &&& rc)
      have b8 := and32 rb rc
      have b9 := xor32 ((ra &&& rb) ^^^ (ra &&& rc)) (rb &&& rc)
      rw [show (re &&& rf) ^^^ (~~~re &&& rg) = chW re rf rg from rfl] at b4
      rw [show ((ra &&& rb) ^^^ (ra &&& rc)) ^^^ (rb &&& rc) = majW ra rb rc from rfl] at b9
      have d1 := add32 rh (big1 re)
      have d2 := add32 (rh + big1 re) (chW re rf rg)
      have d3 := add32 (rh + big1 re + chW re rf rg) (kAt t)
      have d4 := add32 (rh + big1 re + chW re rf rg + kAt t) (wAt bs t)
      have d5 := add32 (big0 ra) (majW ra rb rc)
      have d6 := add32 (rh + big1 re + chW re rf rg + kAt t + wAt bs t) (big0 ra + majW ra rb rc)
      have d7 := add32 rd (rh + big1 re + chW re rf rg + kAt t + wAt bs t)
      replace hI := Lib.hid hI
      generalize kAt t = kk at *
      generalize wAt bs t = ww at *
      go_wp2_with fail
      go_quiet ((go_at_call 82; with_reducible exact quiet_eq (big1_any re _)))
      go_wp2_with fail
      with_reducible refine (big0_any ra _).mono ?_
      rintro e w6 ⟨rfl, rfl⟩
      have hrw2 : Hid ((wr.drewN nq).heap[p0]? = some (.cells (cW (tabW 8 (sAt ⟨ra, rb, rc, rd, re, rf, rg, rh⟩))).toArray 138 (0, 0))) := Lib.hid hrow.out
      have hszE : (Tryd.prog.info? 138).map (·.size) = some (#[.int .u32 (wn (rh + big1 re + chW re rf rg + kk + ww + (big0 ra + majW ra rb rc))), .int .u32 (wn ra), .int .u32 (wn rb), .int .u32 (wn rc), .int .u32 (wn (rd + (rh + big1 re + chW re rf rg + kk + ww))), .int .u32 (wn re), .int .u32 (wn rf), .int .u32 (wn rg)] : Array Value).size := hsz ⟨rh + big1 re + chW re rf rg + kk + ww + (big0 ra + majW ra rb rc), ra, rb, rc, rd + (rh + big1 re + chW re rf rg + kk + ww), re, rf, rg⟩
      have hsE : (cW (tabW 8 (sAt ⟨ra, rb, rc, rd, re, rf, rg, rh⟩))).toArray.size = (#[.int .u32 (wn (rh + big1 re + chW re rf rg + kk + ww + (big0 ra + majW ra rb rc))), .int .u32 (wn ra), .int .u32 (wn rb), .int .u32 (wn rc), .int .u32 (wn (rd + (rh + big1 re + chW re rf rg + kk + ww))), .int .u32 (wn re), .int .u32 (wn rf), .int .u32 (wn rg)] : Array Value).size := by rw [List.size_toArray, cW_length, tabW_length]; rfl
      have hoE : (#[.int .u32 (wn (rh + big1 re + chW re rf rg + kk + ww + (big0 ra + majW ra rb rc))), .int .u32 (wn ra), .int .u32 (wn rb), .int .u32 (wn rc), .int .u32 (wn (rd + (rh + big1 re + chW re rf rg + kk + ww))), .int .u32 (wn re), .int .u32 (wn rf), .int .u32 (wn rg)] : Array Value).all (·.oneCell') = true := c8_one ⟨rh + big1 re + chW re rf rg + kk + ww + (big0 ra + majW ra rb rc), ra, rb, rc, rd + (rh + big1 re + chW re rf rg + kk + ww), re, rf, rg⟩
      go_wp2_with (with_reducible refine wpList_store_row rfl 138 (.tmp 2) (.tmp 87) rfl p0 _ #[.int .u32 (wn (rh + big1 re + chW re rf rg + kk + ww + (big0 ra + majW ra rb rc))), .int .u32 (wn ra), .int .u32 (wn rb), .int .u32 (wn rc), .int .u32 (wn (rd + (rh + big1 re + chW re rf rg + kk + ww))), .int .u32 (wn re), .int .u32 (wn rf), .int .u32 (wn rg)] rfl rfl hrw2 hszE hsE hoE ?_)
      intro w7 hU7
      have hI7 := Lib.hid ((hI.out.drewN nq).upd (g := sAt (roundS ⟨ra, rb, rc, rd, re, rf, rg, rh⟩ kk ww)) (hU7.out.to (c8_round _ _ _ _ _ _ _ _ _ _)) hqp.out hop.out hpb.out)
      go_wp2_with fail
      go_roundw
      case rel => exact ⟨t + 1, by omega, by go_num, by rw [hnx.out]; exact hI7.out⟩
      case measure => simp [intOf]; omega
    · obtain rfl : t = 64 := by omega
      have hI2 := Lib.hid (show TkSt w p0 q0 o0 (sAt (roundsS bs s 64)) s wr from hI)
      have hfull := Lib.hid (sumTo_full (roundsS bs s 64) s)
      rw [hend.out] at hfull
      have hI3 : TkSt w p0 q0 o0 (sumTo (roundsS bs s 64) s 0) s wr := ⟨by rw [sumTo_zero]; exact hI.row, hI.res, hI.was, hI.bel⟩
      generalize roundsS bs s 64 = r at *
      replace hI3 := Lib.hid hI3
      clear hI2 hI
      go_wp2_with fail
      go_loopw [12, 89] (fun _ j wq => ∃ k : Nat, k ≤ 8 ∧ j = .int .i64 k ∧ TkSt w p0 q0 o0 (sumTo r s k) s wq) (fun _ j _ => 8 - (intOf j).toNat)
      case atStart => exact ⟨0, Nat.zero_le _, rfl, hI3.out⟩
      case round =>
        clear hI3
        obtain ⟨k, hk, rfl, hI⟩ := hrel
        by_cases hlt : k < 8
        · have c1 := hI.cell (j := k) hlt
          have c2 := hI.wasAt (j := k) hlt
          have f1 := hI.free k
          rw [show sumTo r s k k = sAt r k from by unfold sumTo; rw [if_neg (Nat.lt_irrefl k)]] at c1
          have ha1 := add32 (sAt r k) (sAt s k)
          have hset := Lib.hid (sumTo_set r s k)
          have hU1 := Lib.hid (((Upd.refl (hI.drewN 1).row).setCell (j := k) (.int .u32 (wn (sAt r k + sAt s k)))).to (show _ = Obj.cells (cW (tabW 8 (sumTo r s (k + 1)))).toArray 138 (0, 0) from by rw [cW_set, tabW_set, sumTo_set]))
          have hkk : (k : Int) < 8 := by omega
          replace hI := Lib.hid hI
          generalize hx : sAt r k = x at *
          generalize hy : sAt s k = y at *
          go_wp2_with fail
          go_region
          all_goals
            go_wp2_with fail
            go_roundw
            case rel => exact ⟨k + 1, by omega, by go_num, ((hI.out.drewN 1).upd hU1.out hqp.out hop.out hpb.out)⟩
            case measure => simp [intOf]; omega
        · obtain rfl : k = 8 := by omega
          have hrw := hI.row
          rw [hfull.out] at hrw
          have hrs := hI.res
          have hbl := Lib.hid hI.bel
          have hszC2 := hsz (takeS s bs)
          have hs1 : zero8.size = (c8 (takeS s bs)).size := by rw [zero8_size, c8_size]
          have hone2 := c8_one (takeS s bs)
          rw [show (cW (tabW 8 (sAt (takeS s bs)))).toArray = c8 (takeS s bs) from rfl] at hrw
          generalize hD : c8 (takeS s bs) = D at *
          replace hrw := Lib.hid hrw
          replace hrs := Lib.hid hrs
          go_wp2_with (first | with_reducible refine wpList_load_row rfl 138 (.tmp 2) rfl p0 D (.array 8 92) rfl hrw hu0 rfl hszC2 ?_ | with_reducible refine wpList_store_row rfl 138 (.tmp 4) (.tmp 101) rfl q0 zero8 D rfl rfl hrs hszC2 hs1 hone2 ?_)
          intro w8 hU
          go_wp2_with fail
          exact ret_cell_row rfl rfl hu0 rfl hszC2 hU.out.here ⟨by rw [hD], hbl.out.trans (hU.out.below hqb.out)⟩

end Go.Proofs.YtgkddegaiaeckaaDoor
