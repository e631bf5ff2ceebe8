/- The walks over label.Same's closures: plain parts, and bytes.Equal. -/
import Derived.Test.YtfmeheolcibfeaaDoorAll9
import Derived.Test.YtfmeheolcibfeaaDoorOwnBBK
import Derived.Test.YtfmeheolcibfeaaDoorConv
import Derived.Deep.QuietTactic
namespace Go.Proofs.YtfmeheolcibfeaaDoor
open Go.RowKit

theorem equal_any (a : Option Addr) (c : Nat) (xs : List UInt8) (b : Option Addr) (d : Nat) (ys : List UInt8) (w : World) (h1 : ArgB w a c xs) (h2 : ArgB w b d ys) :
    Calls Tryd.prog 30 #[.slice a xs.length c, .slice b ys.length d] w fun e w' => e = .returned (.bool (decide (xs = ys))) ∧ w = w' := by
  have k1 := convB h1 _ rfl
  have k2 := convB h2 _ rfl
  have hs := str_eq xs ys
  replace h1 := Lib.hid h1
  replace h2 := Lib.hid h2
  by_cases he : xs = ys
  · have hd : decide (xs = ys) = true := by simpa using he
    rw [hd]
    replace hd := Lib.hid hd
    subst he
    go_enter Tryd.func30, Tryd.ntmps30
    go_wp2_with fail
    go_ret
    exact ⟨rfl, rfl⟩
  · have hd : decide (xs = ys) = false := by simpa using he
    rw [hd]
    replace hd := Lib.hid hd
    generalize xs.length = l1 at *
    generalize ys.length = l2 at *
    go_enter Tryd.func30, Tryd.ntmps30
    go_wp2_with fail
    go_ret
    exact ⟨by simp [he], rfl⟩

/-- The worlds since X, but for the block rb. -/
def Oth (X : World) (rb : Nat) (W : World) : Prop := X.heap.size ≤ W.heap.size ∧ ∀ k, k < X.heap.size → k ≠ rb → W.heap[k]? = X.heap[k]?
theorem ArgB.oth {X W : World} {rb : Nat} {a : Option Addr} {c : Nat} {bs : List UInt8} (h : ArgB X a c bs) (ho : Oth X rb W) (hn : ∀ j x, X.cell? ⟨rb, j, none⟩ ≠ some (.int .u8 x)) : ArgB W a c bs :=
  ⟨h.len, h.most, h.nil, fun i hi => by
    obtain ⟨b, off, rfl, hc⟩ := h.row i hi
    refine ⟨b, off, rfl, ?_⟩
    have hne : b ≠ rb := by rintro rfl; exact hn _ _ hc
    rw [← hc]
    exact World.cell?_of_block (a := ⟨b, off + i, none⟩) (ho.2 b (World.block_lt_of_cell? X _ hc) hne)⟩
theorem OwnBB.updO {base p : Nat} {W W' : World} {v : Value} {o : Obj} {ps : List (List UInt8)} (h : OwnBB base W v ps) (hu : Upd p o W W') (hp : p < base) (hn : ∀ j x, W.cell? ⟨p, j, none⟩ ≠ some (.int .u8 x)) : OwnBB base W' v ps := by
  obtain ⟨xs, h1, h2⟩ := h
  refine ⟨xs, ⟨h1.1, ?_⟩, fun i hi => ?_⟩
  · rcases h1.2 with h | ⟨g, cap, cur, e1, e2, e3, e4⟩
    · exact .inl h
    · exact .inr ⟨g, cap, cur, e1, e2, (hu.block g (by omega)).trans e3, e4⟩
  · obtain ⟨ai, ci, hx, ha, hne⟩ := h2 i hi
    exact ⟨ai, ci, hx, ha.upd9 hu hn, hne⟩

/-- The rows so far. -/
def rowsTo (f : Nat → List UInt8) (i : Nat) : List (List UInt8) := (List.range i).map f
theorem rowsTo_succ (f : Nat → List UInt8) (i : Nat) : rowsTo f (i + 1) = rowsTo f i ++ [f i] := by simp [rowsTo, List.range_succ]
theorem rowsTo_length (f : Nat → List UInt8) (i : Nat) : (rowsTo f i).length = i := by simp [rowsTo]
/-- The state between the calls of the first closure. -/
structure S28 (w X : World) (rb : Nat) (f : Nat → List UInt8) (W : World) (i : Nat) : Prop where
  bel : Below w.heap.size w W
  oth : Oth X rb W
  lt : w.heap.size ≤ rb ∧ rb < X.heap.size
  row : ∃ v, W.heap[rb]? = some (.cells #[v] 60 (0, 0)) ∧ OwnBB X.heap.size W v (rowsTo f i)

theorem slice_no {v : Value} {W : World} {p : Nat} {t : TypeId} (h : W.heap[p]? = some (.cells #[v] t (0, 0))) (hv : ∃ a l c, v = .slice a l c) : ∀ j x, W.cell? ⟨p, j, none⟩ ≠ some (.int .u8 x) := by
  obtain ⟨a, l, c, rfl⟩ := hv
  intro j x
  rw [cell_of_block h]
  match j with
  | 0 => intro e; cases e
  | j + 1 => intro e; simp at e

set_option maxRecDepth 10000 in
set_option maxHeartbeats 1000000 in
theorem clo28_any (w X : World) (rb ab : Nat) (vs : List Value) (f : Nat → List UInt8) (i : Nat) (hi : i < 5) (s : Value) (W : World) (hv : Five X vs f) (hab : X.heap[ab]? = some (.cells vs.toArray 36 (0, 0))) (hne : ab ≠ rb) (hrX : ∀ j x, X.cell? ⟨rb, j, none⟩ ≠ some (.int .u8 x)) (hS : S28 w X rb f W i) :
    Calls Tryd.prog 28 #[s, .pointer (some ⟨ab, i, none⟩), .pointer (some ⟨rb, 0, none⟩)] W fun e W' => e = .returned (.tuple #[]) ∧ S28 w X rb f W' (i + 1) := by
  obtain ⟨v, hrow, hown⟩ := hS.row
  obtain ⟨ai, ci, ei, hai⟩ := hv.2 i hi
  have habW : W.heap[ab]? = some (.cells vs.toArray 36 (0, 0)) := (hS.oth.2 ab (block_lt hab) hne).trans hab
  have k1 : W.cell? ⟨ab, i, none⟩ = some (.slice ai (f i).length ci) := by rw [cell_of_block habW, List.getElem?_toArray]; exact ei
  have k2 : W.cell? ⟨rb, 0, none⟩ = some v := by rw [cell_of_block hrow]; rfl
  have haW := Lib.hid (hai.oth hS.oth hrX)
  have hvs : ∃ a l c, v = .slice a l c := by obtain ⟨a, c, e, _⟩ := hown.arg; exact ⟨a, _, c, e⟩
  have hlt := hown.lt
  have hap := Lib.hid (show 0 < (f i).length → ∀ b o, ai = some ⟨b, o, none⟩ → v.ownBlock ≠ some b from fun hl b o e h => by
    subst e
    have h1 := hlt b h
    have h2 := hai.lt hl
    omega)
  have hrs := rowsTo_succ f i
  have hrl := rowsTo_length f i
  have hszW := hS.oth.1
  have hbase : X.heap.size ≤ W.heap.size := hszW
  have hrbW := block_lt hrow
  replace hown := hown.below (Drawn.below ⟨1, rfl⟩ W.heap.size : Below W.heap.size W W.drew)
  have haW := Lib.hid (haW.out.below (Drawn.below ⟨1, rfl⟩ W.heap.size : Below W.heap.size W W.drew))
  have hbelD : Below w.heap.size w W.drew := Below.trans hS.bel (Drawn.below ⟨1, rfl⟩ _)
  have hfin := Lib.hid (show ∀ v' w', OwnBB X.heap.size w' v' (rowsTo f i ++ [f i]) → W.drew.grownBy w' v.ownBlock → (w'.cell? ⟨rb, 0, none⟩ = some v ∧ w'.frozen? ⟨rb, 0, none⟩ = false) ∧ S28 w X rb f (w'.setCell ⟨rb, 0, none⟩ v') (i + 1) from by
    intro v' w' ho hg
    have hrbn : v.ownBlock ≠ some rb := fun e => by have := hlt rb e; have := hS.lt.2; omega
    have hr' : w'.heap[rb]? = some (.cells #[v] 60 (0, 0)) := by
      rw [hg.block rb (show rb < W.drew.heap.size from hrbW) (fun e => hrbn e.symm)]; exact hrow
    have hvs' : ∃ a l c, v' = .slice a l c := by obtain ⟨a, c, e, _⟩ := ho.arg; exact ⟨a, _, c, e⟩
    have hU := (Upd.refl hr').setCell (j := 0) v'
    refine ⟨⟨by rw [cell_of_block hr']; rfl, free_of_block hr' 0⟩, ?_, ?_, hS.lt, v', hU.here.trans rfl, ?_⟩
    · exact (hbelD.grown hg hbelD.size (fun k hk => by have := hlt k hk; have := hS.lt; omega)).trans (hU.below hS.lt.1)
    · refine ⟨by rw [hU.size]; exact Nat.le_trans hS.oth.1 (show W.heap.size ≤ _ from hg.size), fun k hk hn => ?_⟩
      rw [hU.block k hn, hg.block k (by have := hS.oth.1; have : W.drew.heap.size = W.heap.size := rfl; omega) (fun e => by have := hlt k e.symm; omega)]
      exact hS.oth.2 k hk hn
    · rw [hrs]
      exact ho.updO hU hS.lt.2 (slice_no hr' hvs))
  replace hS := Lib.hid hS; replace hbelD := Lib.hid hbelD; replace hown := Lib.hid hown; replace hrow := Lib.hid hrow; replace habW := Lib.hid habW; replace hai := Lib.hid hai; replace hab := Lib.hid hab; replace hv := Lib.hid hv; replace hvs := Lib.hid hvs; replace hlt := Lib.hid hlt; replace hrs := Lib.hid hrs; replace hrX := Lib.hid hrX
  replace ei := Lib.hid ei
  have hLf := Lib.hid (show (f i).length = (f i).length from rfl)
  generalize hfl : (f i).length = L at k1
  replace hfl := Lib.hid hfl
  go_enter Tryd.func28, Tryd.ntmps28
  go_wp2_with fail
  go_region_law ((refine stepBB_app1d ?_ (.tmp 5) (.tmp 9) ?_ X.heap.size v (rowsTo f i) ?_ hown ai ci (f i) L hfl haW hap ?_ ?_ hbase ?_); rotate_right; (intro v' w' ho hg; obtain ⟨⟨q1, q2⟩, q3⟩ := hfin.out v' w' ho.out hg.out; obtain ⟨a9, c9, e9, _⟩ := ho.out.arg; subst e9; replace q3 := Lib.hid q3; clear hfin); rotate_left; rfl; rfl; rfl; rfl; omega)
  all_goals
    trace_state
    go_end0
    have hl9 : (rowsTo f i ++ [f i]).length = i + 1 := by rw [List.length_append, rowsTo_length]; rfl
    exact ⟨rfl, hl9 ▸ q3.out⟩

end Go.Proofs.YtfmeheolcibfeaaDoor
