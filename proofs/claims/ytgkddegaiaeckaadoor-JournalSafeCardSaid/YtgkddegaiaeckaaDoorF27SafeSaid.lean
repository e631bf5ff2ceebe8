/- JSeen, JBehind, JWipe. -/
import Derived.Test.YtgkddegaiaeckaaDoorF18SafeSaid
import Derived.Test.YtgkddegaiaeckaaDoorF26SafeSaid
/- The walk over journal.seen: all bytes of a disk. -/
namespace Go.Proofs.YtgkddegaiaeckaaDoor
open Go.RowKit

/-- The first k sectors, as they are seen. -/
def seenTo (p : DP) (k : Nat) : List UInt8 := (List.range k).flatMap fun (i : Nat) => seenW p.ws p.f (i : Int)
def seenAll (p : DP) : List UInt8 := seenTo p p.n.toNat
theorem seenTo_succ (p : DP) (k : Nat) : seenTo p (k + 1) = seenTo p k ++ seenW p.ws p.f (k : Int) := by simp [seenTo, List.range_succ]
theorem DM.flen {base : Nat} {w : World} {B mb mn : Nat} {v : Value} {p : DP} (h : DM base w B mb mn v p) : ∀ i, (p.f i).length = 64 := by obtain ⟨_, _, _, hl, _⟩ := h.map; exact hl
theorem DM.seenLen {base : Nat} {w : World} {B mb mn : Nat} {v : Value} {p : DP} (h : DM base w B mb mn v p) (i : Int) : (seenW p.ws p.f i).length = 64 := by
  unfold seenW
  cases hq : lastOf p.ws i with
  | none => exact h.flen i
  | some q =>
    unfold lastOf at hq
    have := List.mem_of_find?_eq_some hq
    exact (h.lens q (by simpa using this)).1
theorem DM.seenToLen {base : Nat} {w : World} {B mb mn : Nat} {v : Value} {p : DP} (h : DM base w B mb mn v p) (k : Nat) : (seenTo p k).length = 64 * k := by
  induction k with
  | zero => rfl
  | succ k ih => rw [seenTo_succ, List.length_append, ih, h.seenLen]; omega
theorem DM.sizeCell {base : Nat} {w : World} {B mb mn : Nat} {v : Value} {p : DP} (h : DM base w B mb mn v p) : w.cell? ⟨B, 0, none⟩ = some (.int .i64 p.n) := by rw [h.cell]; rfl

set_option maxRecDepth 100000 in
set_option maxHeartbeats 2000000 in
theorem seen_any {base : Nat} {w : World} {B mb mn : Nat} {v : Value} {p : DP} (h : DM base w B mb mn v p) (h1 : 1 ≤ p.n) (hn : p.n ≤ 1000) (hws : p.ws.length ≤ 100000) (hg : p.gone = false) :
    Calls Tryd.prog 34 #[.pointer (some ⟨B, 0, none⟩)] w fun x w' => ∃ v, x = .returned (.tuple #[v, .nilIface]) ∧ OwnB w.heap.size w' v (seenAll p) ∧ Below w.heap.size w w' := by
  have hsz := Lib.hid (dsize_any B p.n w h.sizeCell)
  obtain ⟨L, hL⟩ : ∃ L : Nat, p.n = (L : Int) := ⟨p.n.toNat, by omega⟩
  have hLa : seenAll p = seenTo p L := by unfold seenAll; rw [hL]; rfl
  have hrd := fun W (hW : DM base W B mb mn v p) (i : Int) h0 h1 => dread_dm hW (by omega) hws hg i h0 h1
  have hlen := h.seenLen
  have hlto := h.seenToLen
  rw [hL] at hsz
  rw [hLa]
  have hLn : L ≤ 1000 := by omega
  have hrd2 : ∀ W (_ : DM base W B mb mn v p) (k : Nat), k < L → _ := fun W hW k hk => hrd W hW (k : Int) (by omega) (by omega)
  replace h := Lib.hid h
  replace hrd2 := Lib.hid hrd2
  replace hlen := Lib.hid hlen
  replace hlto := Lib.hid hlto
  replace hL := Lib.hid hL
  clear hLa hrd h1 hn hws hg
  go_enter Tryd.func34, Tryd.ntmps34
  go_wp2_with fail
  with_reducible refine hsz.out.mono ?_
  rintro e w1 ⟨rfl, hq⟩
  obtain rfl := hq
  clear hsz
  go_wp2_with fail
  refine wp_loopF [(false, 4), (true, 4), (false, 2), (true, 20)] _ [] (fun U wr => ∃ k : Nat, k ≤ L ∧ U 10 = .int .i64 k ∧ OwnB w.heap.size wr (U 4) (seenTo p k) ∧ Below w.heap.size w wr)
    (fun U _ => L - (intOf (U 10)).toNat) ?_ ?_
  · simp only [List.getD_cons_zero, List.getD_cons_succ]
    exact ⟨0, Nat.zero_le _, rfl, OwnB.nil _ _, Below.refl _ _⟩
  · intro U wr hrel KK hback l' hl'
    obtain ⟨k, hk, h10, hown, hbel⟩ := hrel
    simp only [fillS, popSeg, cond_true, cond_false, Nat.reduceAdd, h10] at hl'
    generalize hv4 : U 4 = vo at *
    subst hl'
    replace h10 := Lib.hid h10
    replace hv4 := Lib.hid hv4
    have hszr := hbel.size
    by_cases hlt : k < L
    · have hlt2 : (k : Int) < L := by omega
      have hr := Lib.hid (hrd2.out wr (h.out.below hbel) k hlt)
      have hsn := Lib.hid (seenTo_succ p k)
      have hl64 := hlen.out (k : Int)
      have hsl : (seenTo p k).length ≤ 1000000 := by rw [hlto.out]; omega
      generalize seenW p.ws p.f (k : Int) = sb at *
      generalize seenTo p k = so at *
      replace hown := Lib.hid hown
      replace hbel := Lib.hid hbel
      replace hl64 := Lib.hid hl64
      go_wp2_with fail
      with_reducible refine hr.out.mono ?_
      rintro e w2 ⟨g, off, rfl, hrb, hgl, hb2⟩
      clear hr
      have ho2 := Lib.hid (hown.out.below hb2 (Nat.le_refl _))
      have ha2 := Lib.hid (hrb.argB hl64.out)
      have hb2w := Lib.hid (hbel.out.trans (hb2.mono hszr))
      have hs2 := hb2.size
      have hbs2 : w.heap.size ≤ w2.heap.size := by omega
      clear hb2 hrb hown
      go_wp2_with (at_builtin; go_must (refine wpB_app rfl (.tmp 26) (.tmp 27) rfl w.heap.size _ so rfl ho2 _ _ sb 64 rfl hl64 ha2 hsl (by decide) hbs2 ?_); intro v3 w3 ho3 hb3)
      refine hback.out _ _ (by kernel_rfl) ?_ ?_
      · simp only [List.getD_cons_zero, List.getD_cons_succ]
        exact ⟨k + 1, by omega, by go_num, by rw [hsn.out]; exact ho3.out, hb2w.out.trans hb3.out⟩
      · have h10 := h10.out
        simp only [List.getD_cons_zero, List.getD_cons_succ, h10, intOf]
        omega
    · obtain rfl : k = L := by omega
      replace hown := Lib.hid hown
      replace hbel := Lib.hid hbel
      go_wp2_with fail
      go_ret2
      exact ⟨_, rfl, hown.out, hbel.out⟩
end Go.Proofs.YtgkddegaiaeckaaDoor
/- Walks over journal: behind. -/
namespace Go.Proofs.YtgkddegaiaeckaaDoor
open Go.RowKit

set_option maxHeartbeats 400000 in
theorem nz_any (x : UInt8) (w : World) : Calls Tryd.prog 70 #[.int .u8 (x.toNat : Int)] w fun e w' => e = .returned (.bool ((x.toNat : Int) != 0)) ∧ w = w' := by
  go_enter Tryd.func70, Tryd.ntmps70
  go_wp2_with fail
  go_ret
  exact ⟨rfl, rfl⟩
def allZ (bs : List UInt8) : Bool := bs.all (· == 0)
theorem allZ_take {bs : List UInt8} {k : Nat} (h : k < bs.length) : allZ (bs.take (k + 1)) = (allZ (bs.take k) && (bs.getD k 0 == 0)) := by
  unfold allZ
  rw [List.take_succ_eq_append_getElem h, List.all_append]
  simp [List.getD_eq_getElem?_getD, h]
theorem nz_eq (x : UInt8) : ((x.toNat : Int) != 0) = !(x == 0) := by
  by_cases h : x = 0
  · subst h; rfl
  · have h1 : ((x.toNat : Int) != 0) = true := by
      rw [bne_iff_ne]
      intro e
      exact h (UInt8.toNat_inj.1 (show x.toNat = 0 by omega))
    rw [h1, beq_eq_false_iff_ne.2 h]; rfl
set_option maxRecDepth 100000 in
set_option maxHeartbeats 1000000 in
theorem index_nz (bs : List UInt8) (hl : bs.length ≤ 1000000) (a : Option Addr) (c : Nat) (w : World) (ha : ArgB w a c bs) :
    Calls Tryd.prog 69 #[.slice a bs.length c, .func (.func 70) #[] #[]] w fun x w' => ∃ k : Int, x = .returned (.int .i64 k) ∧ decide (k < 0) = allZ bs ∧ w = w' := by
  replace ha := Lib.hid ha
  go_enter Tryd.func69, Tryd.ntmps69
  go_wp2_with fail
  refine wp_loopF [(false, 4), (true, 2), (false, 2), (true, 11)] _ [] (fun U W' => ∃ k : Nat, k ≤ bs.length ∧ U 8 = .int .i64 k ∧ allZ (bs.take k) = true ∧ W' = w) (fun U _ => bs.length - (intOf (U 8)).toNat) ?_ ?_
  · simp only [List.getD_cons_zero, List.getD_cons_succ]
    exact ⟨0, Nat.zero_le _, rfl, rfl, trivial⟩
  · intro U wr hrel KK hback l' hl'
    obtain ⟨k, hk, h8, hz, rfl⟩ := hrel
    simp only [fillS, popSeg, cond_true, cond_false, Nat.reduceAdd, h8] at hl'
    subst hl'
    replace h8 := Lib.hid h8
    by_cases hlt : k < bs.length
    · obtain ⟨b, o, rfl, hc⟩ := ha.out.row k hlt
      have hlt2 : (k : Int) < bs.length := by omega
      have hsn := Lib.hid (allZ_take hlt)
      have hall : bs.getD k 0 ≠ 0 → allZ bs = false := fun h => by
        unfold allZ
        rw [Bool.eq_false_iff]
        intro e
        rw [List.all_eq_true] at e
        have := e (bs[k]) (List.getElem_mem hlt)
        rw [show bs.getD k 0 = bs[k] by simp [List.getD_eq_getElem?_getD, hlt]] at h
        exact h (eq_of_beq this)
      generalize bs.getD k 0 = x at *
      have hq := nz_eq x
      have hcall := Lib.hid (nz_any x wr)
      rw [hq] at hcall
      replace hz := Lib.hid hz
      replace hall := Lib.hid hall
      cases hx : (x == 0)
      · rw [hx] at hcall
        clear hq
        go_wp2_with fail
        with_reducible refine hcall.out.mono ?_
        rintro e w2 ⟨rfl, hq⟩
        obtain rfl := hq
        go_wp2_with fail
        go_ret
        have h1 := hall.out (beq_eq_false_iff_ne.1 hx)
        exact ⟨(k : Int), rfl, by rw [h1]; simp, rfl⟩
      · rw [hx] at hcall
        clear hq
        go_wp2_with fail
        with_reducible refine hcall.out.mono ?_
        rintro e w2 ⟨rfl, hq⟩
        obtain rfl := hq
        go_wp2_with fail
        refine hback.out _ _ (by kernel_rfl) ?_ ?_
        · simp only [List.getD_cons_zero, List.getD_cons_succ]
          exact ⟨k + 1, by omega, by go_num, by rw [hsn.out, hz.out, hx]; rfl, trivial⟩
        · have h8 := h8.out
          simp only [List.getD_cons_zero, List.getD_cons_succ, h8, intOf]
          omega
    · obtain rfl : k = bs.length := by omega
      rw [List.take_length] at hz
      replace hz := Lib.hid hz
      go_wp2_with fail
      go_ret
      exact ⟨-1, rfl, by rw [hz.out]; rfl, rfl⟩
/-- A journal's 37 cells. -/
def jcells (B : Nat) (rv : Value) (hd : List UInt8) (E sure : Int) (dead : Bool) : Array Value := #[.pointer (some ⟨B, 0, none⟩), rv] ++ (cB hd).toArray ++ #[.int .i64 E, .int .i64 sure, .bool dead]
theorem jcells_size {B : Nat} {rv : Value} {hd : List UInt8} {E sure : Int} {dead : Bool} (h : hd.length = 32) : (jcells B rv hd E sure dead).size = 37 := by simp [jcells, cB_length, h]
theorem jc0 {B : Nat} {rv : Value} {hd : List UInt8} {E sure : Int} {dead : Bool} : (jcells B rv hd E sure dead)[0]? = some (.pointer (some ⟨B, 0, none⟩)) := by simp [jcells]
theorem jc1 {B : Nat} {rv : Value} {hd : List UInt8} {E sure : Int} {dead : Bool} : (jcells B rv hd E sure dead)[1]? = some rv := by simp [jcells]
theorem jc34 {B : Nat} {rv : Value} {hd : List UInt8} {E sure : Int} {dead : Bool} (h : hd.length = 32) : (jcells B rv hd E sure dead)[34]? = some (.int .i64 E) := by
  unfold jcells
  rw [Array.getElem?_append_right (by simp [cB_length, h])]
  simp [cB_length, h]
theorem jc35 {B : Nat} {rv : Value} {hd : List UInt8} {E sure : Int} {dead : Bool} (h : hd.length = 32) : (jcells B rv hd E sure dead)[35]? = some (.int .i64 sure) := by
  unfold jcells
  rw [Array.getElem?_append_right (by simp [cB_length, h])]
  simp [cB_length, h]
theorem jc36 {B : Nat} {rv : Value} {hd : List UInt8} {E sure : Int} {dead : Bool} (h : hd.length = 32) : (jcells B rv hd E sure dead)[36]? = some (.bool dead) := by
  unfold jcells
  rw [Array.getElem?_append_right (by simp [cB_length, h])]
  simp [cB_length, h]

/-- Where something stands behind E in sector i of all bytes: as 'behind' answers. -/
def behindR (all : List UInt8) (E i : Nat) : Int := if allZ ((all.drop (i * 64 + (E - i * 64))).take (64 - (E - i * 64))) then -1 else ((E - i * 64 : Nat) : Int)
set_option maxRecDepth 100000 in
set_option maxHeartbeats 1000000 in
theorem behind_any (J E i : Nat) (all : List UInt8) (hE : E ≤ 100000) (hi : i ≤ 10000) (hEi : E / 64 ≤ i) (hal : (i + 1) * 64 ≤ all.length) (hmax : all.length ≤ 100000) (a : Option Addr) (c : Nat) (w : World) (ha : ArgB w a c all) (hc : w.cell? ⟨J, 34, none⟩ = some (.int .i64 (E : Int))) :
    Calls Tryd.prog 52 #[.pointer (some ⟨J, 0, none⟩), .slice a all.length c, .int .i64 (i : Int)] w fun x w' => x = .returned (.int .i64 (behindR all E i)) ∧ w = w' := by
  obtain ⟨b, o, rfl, _⟩ := ha.row 0 (by omega)
  obtain ⟨I, hI⟩ : ∃ I, i * 64 = I := ⟨_, rfl⟩
  obtain ⟨F, hF⟩ : ∃ F, E - I = F := ⟨_, rfl⟩
  have hF64 : F < 64 := by omega
  have hl := ha.len
  have hm := ha.most
  have hI1 : (i : Int) * 64 = (I : Int) := by omega
  have hI2 : ((i : Int) + 1) * 64 = (I : Int) + 64 := by omega
  have hwr : IntKind.i64.wrap ((E : Int) - (I : Int)) = (E : Int) - I := IntWalk.i64_in _ (by omega)
  have hmx : (if (E : Int) - (I : Int) < 0 then (0 : Int) else (E : Int) - I) = (F : Int) := by split <;> omega
  have ha2 := (((ha.from I (by omega)).from F (by rw [List.length_drop]; omega)).upto (64 - F))
  rw [List.drop_drop] at ha2
  have hlen2 : ((all.drop (I + F)).take (64 - F)).length = 64 - F := by rw [List.length_take, List.length_drop]; omega
  have hR : behindR all E i = if allZ ((all.drop (I + F)).take (64 - F)) = true then -1 else (F : Int) := by unfold behindR; rw [hI, hF]
  generalize hbs : (all.drop (I + F)).take (64 - F) = bs at *
  have hix := index_nz bs (by omega) _ _ w ha2
  rw [hlen2] at hix
  replace hix := Lib.hid hix
  replace hR := Lib.hid hR
  replace hlen2 := Lib.hid hlen2
  clear hbs
  go_enter Tryd.func52, Tryd.ntmps52
  go_wp2_with fail
  with_reducible refine hix.out.mono ?_
  rintro e w2 ⟨k, rfl, hk, hq⟩
  obtain rfl := hq
  replace hR := hR.out
  cases hz : allZ bs
  · rw [hz] at hk hR
    have hk2 : ¬ k < 0 := by simpa using hk
    rw [if_neg (by simp)] at hR
    clear hk
    replace hR := Lib.hid hR
    go_wp2_with fail
    go_ret
    exact ⟨by rw [hR.out]; rfl, rfl⟩
  · rw [hz] at hk hR
    have hk2 : k < 0 := by simpa using hk
    rw [if_pos rfl] at hR
    clear hk
    replace hR := Lib.hid hR
    go_wp2_with fail
    go_ret
    exact ⟨by rw [hR.out]; rfl, rfl⟩
end Go.Proofs.YtgkddegaiaeckaaDoor
/- The walk over journal.wipe: what stands behind the records becomes noughts. -/
namespace Go.Proofs.YtgkddegaiaeckaaDoor
open Go.RowKit

/-- A sector, as it is written by 'wipe'. -/
def wipeB (all : List UInt8) (E i : Nat) : List UInt8 := (all.drop (i * 64)).take (E - i * 64) ++ zSec.drop (E - i * 64)
def wipeStep (all : List UInt8) (E i : Nat) (s : DP × Bool) : DP × Bool := if behindR all E i < 0 then s else ((s.1.write (i : Int) (wipeB all E i)).1, true)
def wipeL (all : List UInt8) (E i0 : Nat) : Nat → DP × Bool → DP × Bool
  | 0, s => s
  | k + 1, s => wipeStep all E (i0 + k) (wipeL all E i0 k s)
def wipeP (all : List UInt8) (E n : Nat) (p : DP) : DP :=
  if (wipeL all E (E / 64) (n - E / 64) (p, false)).2 = true then (wipeL all E (E / 64) (n - E / 64) (p, false)).1.sync.1 else (wipeL all E (E / 64) (n - E / 64) (p, false)).1
theorem wipeB_len {all : List UInt8} {E i : Nat} (hE : E - i * 64 < 64) (hl : (i + 1) * 64 ≤ all.length) : (wipeB all E i).length = 64 := by
  unfold wipeB
  rw [List.length_append, List.length_take, List.length_drop, List.length_drop]
  simp [zSec]; omega
theorem write_good {p : DP} {i : Int} {bs : List UInt8} (hb : p.bad = false) (h0 : 0 ≤ i) (h1 : i < p.n) (hl : bs.length = 64) : p.write i bs = ({ p with l := p.l - 1, ws := p.ws ++ [(i, bs)] }, 0) := by
  unfold DP.write
  rw [if_neg (by omega), if_neg (by omega), hb]
  rfl
theorem bad_false {p : DP} (ha : p.armed = false) (hg : p.gone = false) : p.bad = false := by unfold DP.bad; rw [ha, hg]; rfl
theorem wipeL_keeps {all : List UInt8} {E i0 n : Nat} {p : DP} (ha : p.armed = false) (hg : p.gone = false) (hn : p.n = (n : Int)) (hE : E / 64 ≤ i0) (hal : all.length = 64 * n) (b : Bool) : ∀ k, i0 + k ≤ n →
    (wipeL all E i0 k (p, b)).1.armed = false ∧ (wipeL all E i0 k (p, b)).1.gone = false ∧ (wipeL all E i0 k (p, b)).1.n = p.n ∧ (wipeL all E i0 k (p, b)).1.f = p.f ∧ (wipeL all E i0 k (p, b)).1.ws.length ≤ p.ws.length + k ∧ p.l - k ≤ (wipeL all E i0 k (p, b)).1.l ∧ (wipeL all E i0 k (p, b)).1.l ≤ p.l := by
  intro k
  induction k with
  | zero => intro _; exact ⟨ha, hg, rfl, rfl, Nat.le_refl _, by show p.l - 0 ≤ p.l; omega, Int.le_refl _⟩
  | succ k ih =>
    intro hk
    obtain ⟨h1, h2, h3, h4, h5, h6, h7⟩ := ih (by omega)
    show (wipeStep all E (i0 + k) (wipeL all E i0 k (p, b))).1.armed = false ∧ _
    have hu : wipeL all E i0 (k + 1) (p, b) = wipeStep all E (i0 + k) (wipeL all E i0 k (p, b)) := rfl
    rw [hu]
    generalize wipeL all E i0 k (p, b) = s at *
    unfold wipeStep
    split
    · exact ⟨h1, h2, h3, h4, by omega, by omega, h7⟩
    · rw [write_good (bad_false h1 h2) (by omega) (by rw [h3, hn]; omega) (wipeB_len (by omega) (by omega))]
      exact ⟨h1, h2, h3, h4, by simp; omega, by simp only; omega, by simp only; omega⟩
theorem wipeL_clean {all : List UInt8} {E i0 : Nat} (hc : ∀ k, E ≤ k → all.getD k 0 = 0) (s : DP × Bool) : ∀ k, wipeL all E i0 k s = s := by
  intro k
  induction k with
  | zero => rfl
  | succ k ih =>
    show wipeStep all E (i0 + k) (wipeL all E i0 k s) = s
    rw [ih]
    unfold wipeStep
    have hz : allZ ((all.drop ((i0 + k) * 64 + (E - (i0 + k) * 64))).take (64 - (E - (i0 + k) * 64))) = true := by
      unfold allZ
      rw [List.all_eq_true]
      intro x hx
      obtain ⟨j, hj⟩ := List.mem_iff_getElem?.1 hx
      rw [List.getElem?_take] at hj
      split at hj
      · rw [List.getElem?_drop] at hj
        have := hc ((i0 + k) * 64 + (E - (i0 + k) * 64) + j) (by omega)
        rw [List.getD_eq_getElem?_getD, hj] at this
        simp at this
        simp [this]
      · cases hj
    unfold behindR
    rw [hz]
    rfl
theorem wipeP_clean {all : List UInt8} {E n : Nat} {p : DP} (hc : ∀ k, E ≤ k → all.getD k 0 = 0) : wipeP all E n p = p := by
  unfold wipeP
  rw [wipeL_clean hc]
  rfl

theorem copied_cells (seg : List UInt8) : (cB seg ++ (cB zSec).toArray.toList.drop (cB seg).length).toArray = (cB (seg ++ zSec.drop seg.length)).toArray := by
  rw [cB_append, cB_length]
  simp [cB, List.map_drop]
/-- What 'wipe' leaves. -/
def WipePost (base : Nat) (w : World) (B mb mn : Nat) (v : Value) (q : DP) (m : Nat) (x : Ending) (w' : World) : Prop := x = .returned .nilIface ∧ ∃ v' mn', mn' ≤ mn + m ∧ DStep base w w' B mb v mn' v' q
theorem DStep.trans {base : Nat} {w w1 w2 : World} {B mb m1 m2 : Nat} {v v1 v2 : Value} {p1 p2 : DP} (h : DStep base w w1 B mb v m1 v1 p1) (h' : DStep base w1 w2 B mb v1 m2 v2 p2) : DStep base w w2 B mb v m2 v2 p2 := by
  refine ⟨h'.ok, h.only.trans h'.only (fun k hk hd => ?_), fun k hk => ?_⟩
  · rcases h.new k hd with h1 | h1
    · exact h1
    · omega
  · rcases h'.new k hk with h1 | h1
    · exact h.new k h1
    · exact .inr (Nat.le_trans h.only.size h1)
theorem DStep.grow {base : Nat} {w w1 w2 : World} {B mb m1 : Nat} {v v1 : Value} {p1 : DP} (h : DStep base w w1 B mb v m1 v1 p1) (hb : Below w1.heap.size w1 w2) : DStep base w w2 B mb v m1 v1 p1 :=
  h.trans ⟨h.ok.below hb, Only.ofBelow hb, fun _ h => .inl h⟩

set_option maxRecDepth 100000 in
set_option maxHeartbeats 4000000 in
theorem wipe_any {base : Nat} {w : World} {B mb mn : Nat} {v : Value} {p : DP} (h : DM base w B mb mn v p) (hb : base ≤ w.heap.size) (n : Nat) (hpn : p.n = (n : Int)) (h1 : 1 ≤ n) (hn : n ≤ 1000) (hws : p.ws.length ≤ 10000) (hmn : mn ≤ 60000) (hpl : -100000 ≤ p.l ∧ p.l ≤ 100000) (ha : p.armed = false) (hg : p.gone = false) (e : Nat → Addr) (hE : DErr w e) (hBE : 2 ≠ B) (hEb : ∀ W, Below base w W → DErr W e)
    (J : Nat) (C : Array Value) (T : TypeId) (hJ : w.heap[J]? = some (.cells C T (0, 0))) (hJD : ¬ DiskD B mb v J) (E : Nat) (hEn : E ≤ 64 * n) (hC0 : C[0]? = some (.pointer (some ⟨B, 0, none⟩))) (hC34 : C[34]? = some (.int .i64 (E : Int)))
    (all : List UInt8) (hal : all.length = 64 * n) (ab ao c : Nat) (hA : ArgB w (some ⟨ab, ao, none⟩) c all) (hAD : ¬ DiskD B mb v ab) :
    Calls Tryd.prog 35 #[.pointer (some ⟨J, 0, none⟩), .slice (some ⟨ab, ao, none⟩) all.length c] w (WipePost base w B mb mn v (wipeP all E n p) 20000) := by
  have hkeeps := fun k => wipeL_keeps (all := all) (E := E) (i0 := E / 64) ha hg hpn (Nat.le_refl _) hal false k
  have hP : wipeP all E n p = if (wipeL all E (E / 64) (n - E / 64) (p, false)).2 = true then (wipeL all E (E / 64) (n - E / 64) (p, false)).1.sync.1 else (wipeL all E (E / 64) (n - E / 64) (p, false)).1 := rfl
  obtain ⟨i0, hi0⟩ : ∃ i0, i0 = E / 64 := ⟨_, rfl⟩
  have hi0n : i0 ≤ n := by omega
  rw [← hi0] at hkeeps hP
  have hJl := block_lt hJ
  have hal2 : all.length ≤ 100000 := by omega
  have hablt : ab < w.heap.size := by
    obtain ⟨b', o', e', hc'⟩ := hA.row 0 (by omega)
    cases e'
    exact World.block_lt_of_cell? w _ hc'
  have hdiv : (E : Int) / 64 = (i0 : Int) := by omega
  have hdivt : (E : Int).tdiv 64 = (i0 : Int) := by rw [Int.tdiv_eq_ediv_of_nonneg (by omega)]; exact hdiv
  have hc34 : w.cell? ⟨J, 34, none⟩ = some (.int .i64 (E : Int)) := by rw [cell_of_block hJ]; exact hC34
  obtain ⟨La, hLa⟩ : ∃ La, La = all.length := ⟨_, rfl⟩
  rw [← hLa]
  replace hLa := Lib.hid hLa
  replace h := Lib.hid h
  replace hJ := Lib.hid hJ
  replace hA := Lib.hid hA
  replace hJD := Lib.hid hJD
  replace hAD := Lib.hid hAD
  replace hkeeps := Lib.hid hkeeps
  replace hP := Lib.hid hP
  replace hE := Lib.hid hE
  replace hEb := Lib.hid hEb
  replace hpn := Lib.hid hpn
  replace hC0 := Lib.hid hC0
  replace hC34 := Lib.hid hC34
  replace ha := Lib.hid ha
  replace hg := Lib.hid hg
  replace hal := Lib.hid hal
  replace hi0 := Lib.hid hi0
  have hmk : ∀ w : World, (Instr.makeSlice 22 (.int .i64 64) (.int .i64 64)).run Tryd.prog w = .ok (.slice (some ⟨w.heap.size, 0, none⟩) 64 64) (w.alloc (.cells (cB zSec).toArray 5)) := fun _ => by kernel_rfl
  go_enter Tryd.func35, Tryd.ntmps35
  go_wp2_with fail
  refine wp_loopF [(false, 5), (true, 5), (false, 6), (true, 40)] _ [] (fun U wr => ∃ (k : Nat) (v' : Value), i0 + k ≤ n ∧ U 6 = .int .i64 (i0 + k : Nat) ∧ U 5 = .bool (wipeL all E i0 k (p, false)).2 ∧ DStep base w wr B mb v mn v' (wipeL all E i0 k (p, false)).1)
    (fun U _ => n - (intOf (U 6)).toNat) ?_ ?_
  · simp only [List.getD_cons_zero, List.getD_cons_succ]
    exact ⟨0, v, by omega, rfl, rfl, DStep.same h.out⟩
  · intro U wr hrel KK hback l' hl'
    obtain ⟨k, v', hk, h6, h5, hst⟩ := hrel
    simp only [fillS, popSeg, cond_true, cond_false, Nat.reduceAdd, h6, h5] at hl'
    subst hl'
    obtain ⟨q1, q2, q3, q4, q5, q6, q7⟩ := hkeeps.out k hk
    have hstep : wipeL all E i0 (k + 1) (p, false) = wipeStep all E (i0 + k) (wipeL all E i0 k (p, false)) := rfl
    generalize hs : wipeL all E i0 k (p, false) = s at *
    obtain ⟨q, wp⟩ := s
    simp only at q1 q2 q3 q4 q5 q6 q7 hst h5
    replace hs := Lib.hid hs
    have hnq : q.n = (n : Int) := by rw [q3]; exact hpn.out
    have hJr : wr.heap[J]? = some (.cells C T (0, 0)) := hst.only.heap hJ.out hJD.out
    have hc0 : wr.cell? ⟨J, 0, none⟩ = some (.pointer (some ⟨B, 0, none⟩)) := by rw [cell_of_block hJr]; exact hC0.out
    have hc34r : wr.cell? ⟨J, 34, none⟩ = some (.int .i64 (E : Int)) := by rw [cell_of_block hJr]; exact hC34.out
    have hsz : Hid (Calls Tryd.prog 50 #[.pointer (some ⟨B, 0, none⟩)] wr fun x w' => x = .returned (.int .i64 (n : Int)) ∧ wr = w') := by
      have := dsize_any B q.n wr hst.ok.sizeCell
      rw [hnq] at this
      exact Lib.hid this
    have hAr : ArgB wr (some ⟨ab, ao, none⟩) c all := hst.only.argB hA.out (fun b o e => by cases e; exact hAD.out)
    obtain ⟨i, hi⟩ : ∃ i, i = i0 + k := ⟨_, rfl⟩
    rw [← hi] at hk hstep h6 ⊢
    have hsizes := hst.only.size
    replace h6 := Lib.hid h6
    replace h5 := Lib.hid h5
    have hkn1 : k ≤ n := by omega
    by_cases hlt : i < n
    · have hlt2 : (i : Int) < (n : Int) := by omega
      have hbe := behind_any J E i all (by omega) (by omega) (by have := hi0.out; omega) (by have := hal.out; omega) hal2 _ c wr hAr hc34r
      rw [← hLa.out] at hbe
      obtain ⟨r, hr⟩ : ∃ r, r = behindR all E i := ⟨_, rfl⟩
      rw [← hr] at hbe
      replace hbe := Lib.hid hbe
      replace hAr := Lib.hid hAr
      replace hst := Lib.hid hst
      replace hJr := Lib.hid hJr
      replace hnq := Lib.hid hnq
      replace hstep := Lib.hid hstep
      replace hi := Lib.hid hi
      replace hr := Lib.hid hr
      replace q3 := Lib.hid q3
      replace q4 := Lib.hid q4
      clear hc34r
      by_cases hneg : r < 0
      · go_wp2_with fail
        with_reducible refine hsz.out.mono ?_
        rintro x w2 ⟨rfl, hq⟩
        obtain rfl := hq
        go_wp2_with fail
        with_reducible refine hbe.out.mono ?_
        rintro x w2 ⟨rfl, hq⟩
        obtain rfl := hq
        go_wp2_with fail
        refine hback.out _ _ (by kernel_rfl) ?_ ?_
        · have hs1 : wipeL all E i0 (k + 1) (p, false) = (q, wp) := by rw [hstep.out]; unfold wipeStep; rw [← hr.out, if_pos hneg]
          simp only [List.getD_cons_zero, List.getD_cons_succ]
          exact ⟨k + 1, v', by have := hi.out; omega, by have := hi.out; congr 1; omega, by rw [hs1], by rw [hs1]; exact hst.out⟩
        · have h6 := h6.out
          simp only [List.getD_cons_zero, List.getD_cons_succ, h6, intOf]
          omega
      · go_wp2_with fail
        with_reducible refine hsz.out.mono ?_
        rintro x w2 ⟨rfl, hq⟩
        obtain rfl := hq
        go_wp2_with fail
        with_reducible refine hbe.out.mono ?_
        rintro x w2 ⟨rfl, hq⟩
        obtain rfl := hq
        obtain ⟨I, hI⟩ : ∃ I, i * 64 = I := ⟨_, rfl⟩
        obtain ⟨F, hF⟩ : ∃ F, E - I = F := ⟨_, rfl⟩
        have hi0' := hi0.out
        have hi' := hi.out
        have hal' := hal.out
        have hF64 : F < 64 := by omega
        have hrF : r = (F : Int) := by
          have h1 := hr.out
          unfold behindR at h1
          rw [hI, hF] at h1
          split at h1
          · omega
          · exact h1
        subst hrF
        have hlc := hAr.out.len
        have hI1 : (i : Int) * 64 = (I : Int) := by omega
        have hcI : ¬ c = I := by omega
        have hIF : (I : Int) + (F : Int) ≤ (c : Int) := by omega
        have hseg := (hAr.out.from I (by omega)).upto F
        have hsegl : ((all.drop I).take F).length = F := by rw [List.length_take, List.length_drop]; omega
        have hwB : wipeB all E i = (all.drop I).take F ++ zSec.drop F := by unfold wipeB; rw [hI, hF]
        have hwBl : (wipeB all E i).length = 64 := wipeB_len (by omega) (by omega)
        generalize hsg : (all.drop I).take F = seg at *
        have hwC : (cB seg ++ (cB zSec).toArray.toList.drop (cB seg).length).toArray = (cB (wipeB all E i)).toArray := by rw [copied_cells, hwB, hsegl]
        generalize hWB : wipeB all E i = wb at *
        replace hWB := Lib.hid hWB
        have hG : Below wr.heap.size wr (wr.alloc (.cells (cB zSec).toArray 5)) := (Below.refl _ _).alloc (Nat.le_refl _) _
        have hsrc : ∀ j u, (cB seg)[j]? = some u → (wr.alloc (.cells (cB zSec).toArray 5)).cell? ((⟨ab, ao + I, none⟩ : Addr).add j) = some u := fun j u hj => by
          rw [Addr.add_mid]
          exact (hseg.below hG).range j u hj
        have hcl : (cB seg).length = Nat.min (I + F - I) 64 := by rw [cB_length, hsegl]; show F = min (I + F - I) 64; omega
        have hcf : (cB seg).length ≤ (cB zSec).toArray.size := by rw [cB_length, hsegl]; simp [cB_length, zSec]; omega
        have hone := cB_one seg
        have hgz := Lib.hid (heap_alloc_new wr (.cells (cB zSec).toArray 5 (0, 0)))
        replace hsrc := Lib.hid hsrc
        replace hcl := Lib.hid hcl
        replace hcf := Lib.hid hcf
        replace hone := Lib.hid hone
        replace hwC := Lib.hid hwC
        replace hwB := Lib.hid hwB
        replace hwBl := Lib.hid hwBl
        replace hI := Lib.hid hI
        replace hF := Lib.hid hF
        replace hi' := Lib.hid hi'
        replace hi0' := Lib.hid hi0'
        replace hal' := Lib.hid hal'
        replace hsegl := Lib.hid hsegl
        replace hG := Lib.hid hG
        have hJne : J ≠ wr.heap.size := fun e => by have := block_lt hJr.out; omega
        have hJlr := block_lt hJr.out
        have hc7f : Hid (∀ w7 : World, Hid (Upd wr.heap.size (.cells (cB seg ++ (cB zSec).toArray.toList.drop (cB seg).length).toArray 5 (0, 0)) (wr.alloc (.cells (cB zSec).toArray 5)) w7) → w7.cell? ⟨J, 0, none⟩ = some (.pointer (some ⟨B, 0, none⟩))) := Lib.hid fun w7 hU => by
          rw [cell_of_block ((hU.out.block J hJne).trans ((hG.out.block J hJlr).trans hJr.out))]
          exact hC0.out
        clear hseg hsg
        go_wp2_with (refine wpList_plain rfl (fun K hK => ?_); refine wpK_copy (.tmp 32) (.tmp 40) rfl wr.heap.size 64 64 ⟨ab, ao + I, none⟩ (I + F - I) _ (cB zSec).toArray 5 (cB seg) rfl rfl hgz hcl.out hsrc.out hcf.out hone.out ?_; intro w7 hU7; refine hK _ _ ?_; clear hK K; have hc07 := hc7f.out w7 hU7)
        have hG7 : Below wr.heap.size wr w7 := hG.out.trans (hU7.out.below (Nat.le_refl _))
        have ho7 := hst.out.ok.below hG7
        have hst7 := hst.out.grow hG7
        have hb7 : base ≤ w7.heap.size := by have := hG7.size; omega
        have hw7 : w7.heap[wr.heap.size]? = some (.cells (cB wb).toArray 5 (0, 0)) := by rw [← hwC.out]; exact hU7.out.here
        have hE7 : DErr w7 e := hEb.out w7 ((hst.out.below h.out hb).trans (hG7.mono (by omega)))
        have hDw : ¬ DiskD B mb v' wr.heap.size := fun hd => Nat.lt_irrefl _ (hst.out.ok.lt _ hd).2
        have hwr := dwrite_any ho7 hb7 (by omega) (by omega) e hE7 hBE (i : Int) _ 64 wb (argB_block hw7 (by have := hwBl.out; omega) (by decide)) (fun b' o' s' e' => by cases e'; exact hDw)
        rw [hwBl.out, write_good (bad_false q1 q2) (by omega) (by rw [hnq.out]; exact hlt2) hwBl.out] at hwr
        replace hwr := Lib.hid hwr
        replace ho7 := Lib.hid ho7
        replace hst7 := Lib.hid hst7
        clear hG7 hw7 hE7 hDw hU7
        go_wp2_with fail
        with_reducible refine hwr.out.mono ?_
        rintro x w8 ⟨rfl, v8, hst8⟩
        clear hwr
        simp only [errV]
        have hst9 := Lib.hid (hst7.out.trans hst8)
        clear hst8
        go_wp2_with fail
        refine hback.out _ _ (by kernel_rfl) ?_ ?_
        · have hs1 : wipeL all E i0 (k + 1) (p, false) = ({ q with l := q.l - 1, ws := q.ws ++ [((i : Int), wb)] }, true) := by
            rw [hstep.out, hi'.out]
            unfold wipeStep
            rw [← hi'.out, ← hr.out, if_neg (by omega), hWB.out]
            simp only
            rw [write_good (bad_false q1 q2) (by omega) (by rw [hnq.out]; exact hlt2) hwBl.out]
          simp only [List.getD_cons_zero, List.getD_cons_succ]
          exact ⟨k + 1, v8, by have := hi.out; omega, by have := hi.out; congr 1; omega, by rw [hs1], by rw [hs1]; exact hst9.out⟩
        · have h6 := h6.out
          simp only [List.getD_cons_zero, List.getD_cons_succ, h6, intOf]
          omega
    · obtain rfl : i = n := by omega
      have hkn : k = i - i0 := by omega
      have hP2 : wipeP all E i p = if wp = true then q.sync.1 else q := by rw [hP.out, ← hkn, hs.out]
      have hsy := dsync_any hst.ok (by omega) (by omega) (by omega) (by omega) e (hEb.out wr (hst.below h.out hb)) hBE
      have hsq : q.sync = ({ q with l := q.l - 1, f := doneK (fun _ => some 64) q.ws q.f, ws := [] }, 0) := by unfold DP.sync; rw [bad_false q1 q2]; rfl
      have hs2 : q.sync.2 = 0 := by rw [hsq]
      rw [hs2] at hsy
      replace hsy := Lib.hid hsy
      replace hst := Lib.hid hst
      replace hP2 := Lib.hid hP2
      replace hsq := Lib.hid hsq
      replace hs2 := Lib.hid hs2
      replace hnq := Lib.hid hnq
      replace hJr := Lib.hid hJr
      replace hAr := Lib.hid hAr
      replace hstep := Lib.hid hstep
      replace hi := Lib.hid hi
      replace hkn := Lib.hid hkn
      replace q3 := Lib.hid q3
      replace q4 := Lib.hid q4
      clear hc34r
      cases wp
      · go_wp2_with fail
        with_reducible refine hsz.out.mono ?_
        rintro x w2 ⟨rfl, hq⟩
        obtain rfl := hq
        go_wp2_with fail
        go_ret
        exact ⟨rfl, v', mn, by omega, by rw [hP2.out]; exact hst.out⟩
      · go_wp2_with fail
        with_reducible refine hsz.out.mono ?_
        rintro x w2 ⟨rfl, hq⟩
        obtain rfl := hq
        go_wp2_with fail
        with_reducible refine hsy.out.mono ?_
        rintro x w2 ⟨rfl, v2, mn2, hm2, hst2⟩
        simp only [errV]
        replace hst2 := Lib.hid (hst.out.trans hst2)
        clear hsy
        go_wp2_with fail
        go_ret
        exact ⟨rfl, v2, mn2, by omega, by rw [hP2.out]; exact hst2.out⟩
end Go.Proofs.YtgkddegaiaeckaaDoor
