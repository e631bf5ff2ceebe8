/- JPlain, JBase, JSize, JNext. -/
import Derived.Test.YtgkddegaiaeckaaDoorShaL
import Derived.Test.YtgkddegaiaeckaaDoorF8SafeSaid
import Derived.Test.YtgkddegaiaeckaaDoorF2SafeSaid
/- Journals in plain words: heads, frames, what bytes are as records. -/
namespace Go.Proofs.YtgkddegaiaeckaaDoor
open Go.RowKit

def lnB (n : Nat) : List UInt8 := [UInt8.ofNat (n / 256), UInt8.ofNat n]
def nextB (h r : List UInt8) : List UInt8 := sha (h ++ (lnB r.length ++ r))
theorem nextB_len (h r : List UInt8) : (nextB h r).length = 32 := sha_length _
def frameB (h r : List UInt8) : List UInt8 := lnB r.length ++ (nextB h r ++ r)
theorem frameB_len (h r : List UInt8) : (frameB h r).length = 34 + r.length := by simp [frameB, lnB, nextB_len]; omega
def numB (b : List UInt8) : Nat := (b.getD 0 0).toNat * 256 + (b.getD 1 0).toNat
/-- The record of the frame that bytes begin with. -/
def firstB (b h : List UInt8) : Option (List UInt8) :=
  if b.length < 34 then none else if numB b < 1 ∨ 400 < numB b ∨ b.length < 34 + numB b then none
  else if (b.drop 2).take 32 = nextB h ((b.drop 34).take (numB b)) then some ((b.drop 34).take (numB b)) else none
theorem firstB_some {b h r : List UInt8} (e : firstB b h = some r) : 1 ≤ r.length ∧ r.length ≤ 400 ∧ 34 + r.length ≤ b.length ∧ r.length = numB b ∧ r = (b.drop 34).take r.length ∧ (b.drop 2).take 32 = nextB h r := by
  unfold firstB at e
  split at e
  · cases e
  · split at e
    · cases e
    · next h2 =>
      split at e
      · next h3 =>
        injection e with e
        have hl : r.length = numB b := by rw [← e, List.length_take, List.length_drop]; omega
        refine ⟨by omega, by omega, by omega, hl, ?_, ?_⟩
        · rw [hl, e]
        · rw [h3, e]
      · cases e
def scanF : Nat → List UInt8 → List UInt8 → List (List UInt8)
  | 0, _, _ => []
  | k + 1, b, h => match firstB b h with
    | none => []
    | some r => r :: scanF k (b.drop (34 + r.length)) (nextB h r)
def scanB (b h : List UInt8) : List (List UInt8) := scanF (b.length + 1) b h
theorem scanF_more (k : Nat) : ∀ (j : Nat) (b h : List UInt8), b.length < k → b.length < j → scanF k b h = scanF j b h := by
  induction k with
  | zero => intro j b h h1; omega
  | succ k ih =>
    intro j b h h1 h2
    cases j with
    | zero => omega
    | succ j =>
      simp only [scanF]
      cases e : firstB b h with
      | none => rfl
      | some r =>
        have := firstB_some e
        simp only
        rw [ih j (b.drop (34 + r.length)) (nextB h r) (by rw [List.length_drop]; omega) (by rw [List.length_drop]; omega)]
theorem scanB_none {b h : List UInt8} (e : firstB b h = none) : scanB b h = [] := by simp [scanB, scanF, e]
theorem scanB_some {b h r : List UInt8} (e : firstB b h = some r) : scanB b h = r :: scanB (b.drop (34 + r.length)) (nextB h r) := by
  have := firstB_some e
  rw [scanB, scanF, e]
  simp only
  rw [scanB, scanF_more _ (((b.drop (34 + r.length)).length) + 1) _ _ (by rw [List.length_drop]; omega) (by omega)]
def headB (h : List UInt8) (l : List (List UInt8)) : List UInt8 := l.foldl nextB h
theorem headB_snoc (h : List UInt8) (l : List (List UInt8)) (r : List UInt8) : headB h (l ++ [r]) = nextB (headB h l) r := by simp [headB]
theorem headB_len {h : List UInt8} (hl : h.length = 32) (l : List (List UInt8)) : (headB h l).length = 32 := by
  have : ∀ (l : List (List UInt8)) (h : List UInt8), h.length = 32 → (headB h l).length = 32 := by
    intro l
    induction l with
    | nil => intro h hl; exact hl
    | cons r l ih => intro h _; exact ih (nextB h r) (nextB_len h r)
  exact this l h hl
def headsB : List UInt8 → List (List UInt8) → List (List UInt8)
  | _, [] => []
  | h, r :: l => nextB h r :: headsB (nextB h r) l
theorem headsB_snoc (l : List (List UInt8)) : ∀ (h r : List UInt8), headsB h (l ++ [r]) = headsB h l ++ [nextB (headB h l) r] := by
  induction l with
  | nil => intro h r; rfl
  | cons q l ih => intro h r; simp only [List.cons_append, headsB, ih]; rfl
theorem headsB_length (l : List (List UInt8)) : ∀ h, (headsB h l).length = l.length := by
  induction l with
  | nil => intro h; rfl
  | cons q l ih => intro h; simp [headsB, ih]
theorem headsB_last (l : List (List UInt8)) (h : List UInt8) (hl : 0 < l.length) : (headsB h l).getD (l.length - 1) [] = headB h l := by
  obtain ⟨m, r, rfl⟩ : ∃ m r, l = m ++ [r] := by
    rcases List.eq_nil_or_concat l with e | ⟨m, r, e⟩
    · subst e; simp at hl
    · exact ⟨m, r, by rw [e, List.concat_eq_append]⟩
  rw [headsB_snoc, headB_snoc]
  have := headsB_length m h
  simp [List.getD_eq_getElem?_getD, this]
def framesB : List UInt8 → List (List UInt8) → List UInt8
  | _, [] => []
  | h, r :: l => frameB h r ++ framesB (nextB h r) l
theorem framesB_snoc (l : List (List UInt8)) : ∀ (h r : List UInt8), framesB h (l ++ [r]) = framesB h l ++ frameB (headB h l) r := by
  induction l with
  | nil => intro h r; simp [framesB, headB]
  | cons q l ih => intro h r; simp only [List.cons_append, framesB, ih, List.append_assoc]; rfl
def endB (l : List (List UInt8)) : Nat := (l.map fun r => 34 + r.length).sum
theorem endB_snoc (l : List (List UInt8)) (r : List UInt8) : endB (l ++ [r]) = endB l + (34 + r.length) := by simp [endB]
theorem framesB_len (l : List (List UInt8)) : ∀ h, (framesB h l).length = endB l := by
  induction l with
  | nil => intro h; rfl
  | cons q l ih => intro h; rw [framesB, List.length_append, ih, frameB_len]; simp [endB]
/-- A record that may be written. -/
def okR (r : List UInt8) : Prop := 1 ≤ r.length ∧ r.length ≤ 400
theorem ofNat_div {n : Nat} (h : n ≤ 60000) : (UInt8.ofNat (n / 256)).toNat = n / 256 := by rw [UInt8.toNat_ofNat']; omega
theorem ofNat_mod (n : Nat) : (UInt8.ofNat n).toNat = n % 256 := by rw [UInt8.toNat_ofNat']
theorem numB_frame {r t : List UInt8} {h : List UInt8} (hr : r.length ≤ 400) : numB (frameB h r ++ t) = r.length := by
  show (UInt8.ofNat (r.length / 256)).toNat * 256 + (UInt8.ofNat r.length).toNat = r.length
  rw [ofNat_div (by omega), ofNat_mod]
  omega
theorem firstB_frame {h r t : List UInt8} (hr : okR r) : firstB (frameB h r ++ t) h = some r := by
  have hn := numB_frame (t := t) (h := h) hr.2
  have hl := frameB_len h r
  have h34 : (frameB h r ++ t).drop 34 = r ++ t := by
    rw [frameB, show lnB r.length ++ (nextB h r ++ r) ++ t = (lnB r.length ++ nextB h r) ++ (r ++ t) by simp [List.append_assoc]]
    rw [List.drop_append_of_le_length (by simp [lnB, nextB_len]), List.drop_of_length_le (by simp [lnB, nextB_len])]
    rfl
  have h2 : ((frameB h r ++ t).drop 2).take 32 = nextB h r := by
    show ((nextB h r ++ r) ++ t).take 32 = _
    rw [List.append_assoc, ← nextB_len h r, List.take_left]
  have h1 := hr.1
  have h400 := hr.2
  unfold firstB
  rw [if_neg (by rw [List.length_append]; omega), hn, if_neg (by rw [List.length_append]; omega), h34, List.take_left, if_pos h2]
theorem drop_frame (h r t : List UInt8) : (frameB h r ++ t).drop (34 + r.length) = t := by rw [← frameB_len h r, List.drop_left]
theorem scanB_frames (l : List (List UInt8)) : ∀ (h t : List UInt8), (∀ r ∈ l, okR r) → firstB t (headB h l) = none → scanB (framesB h l ++ t) h = l := by
  induction l with
  | nil => intro h t _ e; exact scanB_none e
  | cons r l ih =>
    intro h t hr e
    rw [framesB, List.append_assoc, scanB_some (firstB_frame (hr r (List.mem_cons_self ..))), drop_frame, ih _ _ (fun q hq => hr q (List.mem_cons_of_mem _ hq)) e]
theorem firstB_zeros {t h : List UInt8} (hz : ∀ i, i < 2 → t.getD i 0 = 0) : firstB t h = none := by
  have hn : numB t = 0 := by unfold numB; rw [hz 0 (by omega), hz 1 (by omega)]; rfl
  unfold firstB
  split
  · rfl
  · rw [if_pos (by omega)]
theorem scanB_ok (k : Nat) : ∀ (b h : List UInt8), b.length < k → ∀ r ∈ scanB b h, okR r := by
  induction k with
  | zero => intro b h hk; omega
  | succ k ih =>
    intro b h hk r hr
    cases e : firstB b h with
    | none => rw [scanB_none e] at hr; cases hr
    | some q =>
      have hq := firstB_some e
      rw [scanB_some e] at hr
      rcases List.mem_cons.1 hr with rfl | hr
      · exact ⟨hq.1, hq.2.1⟩
      · exact ih _ _ (by rw [List.length_drop]; omega) r hr
theorem take2 {b : List UInt8} (h : 2 ≤ b.length) : b.take 2 = [b.getD 0 0, b.getD 1 0] := by
  match b, h with
  | x :: y :: t, _ => rfl
/-- The bytes ahead of where the records end are the records' frames. -/
theorem scanB_end (k : Nat) : ∀ (b h : List UInt8), b.length < k → endB (scanB b h) ≤ b.length ∧ b.take (endB (scanB b h)) = framesB h (scanB b h) ∧ firstB (b.drop (endB (scanB b h))) (headB h (scanB b h)) = none := by
  induction k with
  | zero => intro b h hk; omega
  | succ k ih =>
    intro b h hk
    cases e : firstB b h with
    | none => rw [scanB_none e]; exact ⟨Nat.zero_le _, rfl, e⟩
    | some q =>
      obtain ⟨q1, q2, q3, q4, q5, q6⟩ := firstB_some e
      obtain ⟨k1, k2, k3⟩ := ih (b.drop (34 + q.length)) (nextB h q) (by rw [List.length_drop]; omega)
      rw [scanB_some e]
      have hend : endB (q :: scanB (b.drop (34 + q.length)) (nextB h q)) = 34 + q.length + endB (scanB (b.drop (34 + q.length)) (nextB h q)) := by simp [endB]
      rw [hend]
      rw [List.length_drop] at k1
      refine ⟨by omega, ?_, ?_⟩
      · rw [List.take_add, k2, framesB]
        congr 1
        have hn : lnB q.length = b.take 2 := by
          have hb := take2 (show 2 ≤ b.length by omega)
          have e0 : UInt8.ofNat (q.length / 256) = b.getD 0 0 := by
            apply UInt8.toNat_inj.1
            rw [ofNat_div (by omega), q4]
            unfold numB
            have := (b.getD 1 0).toNat_lt
            omega
          have e1 : UInt8.ofNat q.length = b.getD 1 0 := by
            apply UInt8.toNat_inj.1
            rw [ofNat_mod, q4]
            unfold numB
            have := (b.getD 1 0).toNat_lt
            omega
          rw [lnB, e0, e1, hb]
        have hs : b.take (34 + q.length) = b.take 2 ++ ((b.drop 2).take 32 ++ (b.drop 34).take q.length) := by
          rw [show 34 + q.length = 2 + (32 + q.length) by omega, List.take_add, List.take_add, List.drop_drop]
        rw [hs, frameB, hn, q6, ← q5]
      · rw [← List.drop_drop]
        exact k3
end Go.Proofs.YtgkddegaiaeckaaDoor
/- Journal: small laws on blocks, rows of rows. -/
namespace Go.Proofs.YtgkddegaiaeckaaDoor
open Go.RowKit

theorem cellB_at {l : List UInt8} {i : Nat} (h : i < l.length) : (cB l)[i]? = some (.int .u8 ((l.getD i 0).toNat : Int)) := by simp [cB, h]
theorem argB_block {W : World} {g : Nat} {l : List UInt8} {t : TypeId} {c : Nat} (h : W.heap[g]? = some (.cells (cB l).toArray t (0, 0))) (hl : l.length ≤ c) (hc : c ≤ 1000000) : ArgB W (some ⟨g, 0, none⟩) c l := by
  refine ⟨hl, by unfold maxLen; omega, (fun e => by cases e), fun i hi => ⟨g, 0, rfl, ?_⟩⟩
  rw [Nat.zero_add, cell_of_block h, List.getElem?_toArray, cellB_at hi]
theorem rowG {w : World} {g : Nat} {o : Obj} (h : w.heap[g]? = some o) : ∀ W, Grown w W → W.heap[g]? = some o := fun _ hW => (hW.block g (block_lt h)).trans h
theorem argBB_three {w : World} {a a' a'' : Option Addr} {c c' c'' : Nat} {p q r : List UInt8} {g : Nat} (h : ArgB w a c p) (h' : ArgB w a' c' q) (h'' : ArgB w a'' c'' r) (hg : w.heap[g]? = some (.cells #[.slice a p.length c, .slice a' q.length c', .slice a'' r.length c''] 22 (0, 0))) : ArgBB w (some ⟨g, 0, none⟩) 3 [p, q, r] := by
  refine ⟨Nat.le_refl _, by unfold maxLen; omega, (fun e => by cases e), fun i hi => ⟨g, 0, rfl, ?_⟩⟩
  have hi2 : i < 3 := by simpa using hi
  match i, hi2 with
  | 0, _ => exact ⟨a, c, by rw [cell_of_block hg]; rfl, h⟩
  | 1, _ => exact ⟨a', c', by rw [cell_of_block hg]; rfl, h'⟩
  | 2, _ => exact ⟨a'', c'', by rw [cell_of_block hg]; rfl, h''⟩
theorem infoDigest {l : List UInt8} (h : l.length = 32) : (Tryd.prog.info? 32).map (·.size) = some (cB l).toArray.size := by rw [List.size_toArray, cB_length, h]; kernel_rfl
theorem cB_all (l : List UInt8) : (cB l).toArray.all (·.oneCell') = true := by
  rw [List.all_toArray, List.all_eq_true]
  exact cB_one _
theorem zero32_like {l : List UInt8} (h : l.length = 32) : zero32.size = (cB l).toArray.size := by rw [zero32_size, List.size_toArray, cB_length, h]
end Go.Proofs.YtgkddegaiaeckaaDoor
/- Walks over journal: size, sized. -/
namespace Go.Proofs.YtgkddegaiaeckaaDoor
open Go.RowKit

set_option maxHeartbeats 400000 in
theorem size_any (n : Nat) (hn : n ≤ 1000) (w : World) : Calls Tryd.prog 40 #[.int .i64 (n : Int)] w fun x w' => x = .returned (.slice (some ⟨w.heap.size, 0, none⟩) 2 2) ∧ ArgB w' (some ⟨w.heap.size, 0, none⟩) 2 (lnB n) ∧ Below w.heap.size w w' := by
  have hl : ArgB (w.alloc (.cells (cB (lnB n)).toArray 5)) (some ⟨w.heap.size, 0, none⟩) 2 (lnB n) := argB_block (heap_alloc_new w _) (by simp [lnB]) (by decide)
  have hb : Below w.heap.size w (w.alloc (.cells (cB (lnB n)).toArray 5)) := (Below.refl _ _).alloc (Nat.le_refl _) _
  have e0 : (((UInt8.ofNat (n / 256)).toNat : Nat) : Int) = (n : Int) / 256 := by rw [ofNat_div (by omega)]; omega
  have e1 : (((UInt8.ofNat n).toNat : Nat) : Int) = (n : Int) % 256 := by rw [ofNat_mod]; omega
  have hcells : (cB (lnB n)).toArray = #[.int .u8 ((n : Int) / 256), .int .u8 ((n : Int) % 256)] := by
    rw [← e0, ← e1]; rfl
  rw [hcells] at hl hb
  replace hl := Lib.hid hl
  replace hb := Lib.hid hb
  have h1 : (n : Int) / 256 % 256 = (n : Int) / 256 := by omega
  clear hcells e0 e1
  go_enter Tryd.func40, Tryd.ntmps40
  go_wp2_with fail
  go_ret
  exact ⟨rfl, hl.out, hb.out⟩
set_option maxHeartbeats 400000 in
theorem sized_any (n : Int) (w : World) : Calls Tryd.prog 37 #[.int .i64 n] w fun x w' => x = .returned (.bool (decide (1 ≤ n ∧ n ≤ 400))) ∧ w = w' := by
  by_cases h1 : 1 ≤ n
  · by_cases h2 : n ≤ 400
    · go_enter Tryd.func37, Tryd.ntmps37
      go_wp2_with fail
      go_ret
      exact ⟨by simp [h1, h2], rfl⟩
    · have h3 : decide (n ≤ 400) = false := by simpa using h2
      go_enter Tryd.func37, Tryd.ntmps37
      go_wp2_with fail
      go_ret
      exact ⟨by simp [h2], rfl⟩
  · have h3 : decide (1 ≤ n) = false := by simpa using h1
    go_enter Tryd.func37, Tryd.ntmps37
    go_wp2_with fail
    go_ret
    exact ⟨by simp [h1], rfl⟩
end Go.Proofs.YtgkddegaiaeckaaDoor
/- The walk over journal.next. -/
namespace Go.Proofs.YtgkddegaiaeckaaDoor
open Go.RowKit

set_option maxRecDepth 10000 in
set_option maxHeartbeats 2000000 in
theorem next_any (h r : List UInt8) (hh : h.length = 32) (a : Option Addr) (c : Nat) (w : World) (ha : ArgB w a c r) (hr : r.length ≤ 1000) (hK : ShaK w) (hF : ShaF w) :
    Calls Tryd.prog 32 #[.agg (cB h).toArray, .slice a r.length c] w fun x w' => x = .returned (.agg (cB (nextB h r)).toArray) ∧ Below w.heap.size w w' := by
  have zr := zero32_run
  have zn := zero32_ne
  have hN := nextB_len h r
  obtain ⟨N, hNd⟩ : ∃ N, N = (cB (nextB h r)).toArray := ⟨_, rfl⟩
  have tD := infoDigest hN
  have t32 := zero32_like hN
  have tO := cB_all (nextB h r)
  have hsh := fun (W : World) (g : Nat) hA hB hC => shaOf_any (some ⟨g, 0, none⟩) 3 [h, lnB r.length, r] W hA (by simp [hh, lnB]; omega) (by simp) hB hC
  rw [show sha [h, lnB r.length, r].flatten = nextB h r by simp [nextB], show [h, lnB r.length, r].length = 3 from rfl] at hsh
  rw [← hNd] at tD t32 tO hsh ⊢
  obtain ⟨H, hHd⟩ : ∃ H, H = (cB h).toArray := ⟨_, rfl⟩
  rw [← hHd]
  have hbx := heap_alloc_new w (.cells (cB h).toArray 32 (0, 0))
  rw [← hHd] at hbx
  obtain ⟨A, hA⟩ : ∃ A, A = (w.alloc (.cells H 32)).alloc (.cells zero32 32) := ⟨_, rfl⟩
  have hw0 : Below w.heap.size w A := by rw [hA]; exact ((Below.refl _ w).alloc (Nat.le_refl _) _).alloc (by simp) _
  have hx : A.heap[w.heap.size]? = some (.cells (cB h).toArray 32 (0, 0)) := by rw [hA, ← hHd]; exact (Below.heap_alloc _ _ _ (by simp)).trans hbx
  have hZ : A.drew.heap[w.heap.size + 1]? = some (.cells zero32 32 (0, 0)) := by
    have := heap_alloc_new (w.alloc (.cells H 32)) (.cells zero32 32 (0, 0))
    rw [World.size_alloc] at this
    rw [hA]; exact this
  have hd1 := hw0.drew
  have hah : ArgB A.drew (some ⟨w.heap.size, 0, none⟩) 32 h := argB_block hx (by omega) (by decide)
  have har : ArgB A.drew a c r := ha.below hd1
  obtain ⟨p, hp⟩ : ∃ p, p = w.heap.size + 1 := ⟨_, rfl⟩
  rw [← hp] at hZ
  have hpl : w.heap.size ≤ p := by omega
  have hlt : p < A.drew.heap.size := block_lt hZ
  have hsz := fun W => size_any r.length hr W
  have hmk := fun W ax cx ay cy az cz g (h1 : ArgB W ax cx h) (h2 : ArgB W ay cy (lnB r.length)) (h3 : ArgB W az cz r) => argBB_three (g := g) h1 h2 h3
  rw [hh, show (lnB r.length).length = 2 from rfl] at hmk
  clear hbx hx
  replace hNd := Lib.hid hNd
  replace hHd := Lib.hid hHd
  replace hsh := Lib.hid hsh
  replace hmk := Lib.hid hmk
  replace hsz := Lib.hid hsz
  replace hZ := Lib.hid hZ
  replace hp := Lib.hid hp
  replace hd1 := Lib.hid hd1
  replace hA := Lib.hid hA
  replace hK := Lib.hid hK
  replace hF := Lib.hid hF
  replace hah := Lib.hid hah
  replace har := Lib.hid har
  replace hh := Lib.hid hh
  replace hN := Lib.hid hN
  clear ha
  go_enter Tryd.func32, Tryd.ntmps32
  go_wp2_with fail
  rw [← hA.out, ← hp.out]
  refine wp_region_held_drew (S := (Below w.heap.size w)) (by kernel_rfl) hd1.out (fun hOn => ?_)
  generalize World.drew A = wd at *
  refine wpAnyH_take (i := 0) (v := ?_) (by simp only [List.getElem?_toArray, List.getElem?_cons_zero]; rfl) (by kernel_rfl) (by kernel_rfl) (by kernel_rfl) (by exact fun _ _ _ h => h) (Or.inl ⟨by rfl, ?_⟩) hOn ?_
  rotate_left
  focus (intro W hSW; go_simp; try with_reducible rfl)
  try simp only [Act.put, List.setIfInBounds_toArray, List.set_cons_zero, List.set_cons_succ]
  refine wpAnyH_take (i := 1) (v := ?_) (by simp only [List.getElem?_toArray, List.getElem?_cons_succ, List.getElem?_cons_zero]; rfl) (by kernel_rfl) (by kernel_rfl) (by kernel_rfl) (by exact fun _ _ _ h => h) (Or.inl ⟨by rfl, ?_⟩) hOn ?_
  rotate_left
  focus (intro W hSW; go_simp; try with_reducible rfl)
  try simp only [Act.put, List.setIfInBounds_toArray, List.set_cons_zero, List.set_cons_succ]
  refine wpAnyH_take (i := 2) (v := ?_) (by simp only [List.getElem?_toArray, List.getElem?_cons_succ, List.getElem?_cons_zero]; rfl) (by kernel_rfl) (by kernel_rfl) (by kernel_rfl) (by exact fun _ _ _ h => h) (Or.inl ⟨by rfl, ?_⟩) hOn ?_
  rotate_left
  focus (intro W hSW; go_simp; try with_reducible rfl)
  try simp only [Act.put, List.setIfInBounds_toArray, List.set_cons_zero, List.set_cons_succ]
  refine wpAnyH_take (i := 4) (v := ?_) (by simp only [List.getElem?_toArray, List.getElem?_cons_succ, List.getElem?_cons_zero]; rfl) (by kernel_rfl) (by kernel_rfl) (by kernel_rfl) (by exact fun _ _ _ h => h) (Or.inl ⟨by rfl, ?_⟩) hOn ?_
  rotate_left
  focus (intro W hSW; go_simp; try with_reducible rfl)
  try simp only [Act.put, List.setIfInBounds_toArray, List.set_cons_zero, List.set_cons_succ]
  refine wpAnyH_ready (rs := [3]) (by kernel_rfl) (by simp) ?_
  refine AllReadyH.cons (by simp only [List.getElem?_toArray, List.getElem?_cons_succ, List.getElem?_cons_zero]; rfl) (fun Kz hKz => ?_) AllReadyH.nil
  go_simp
  (with_reducible refine (hsz.out _).mono ?_)
  rintro e w3 ⟨rfl, hl3, hnew⟩
  replace hZ := Lib.hid (rowG hZ.out _ hnew)
  replace hah := Lib.hid (hah.out.below hnew)
  replace har := Lib.hid (har.out.below hnew)
  replace hl3 := Lib.hid hl3
  clear hsz
  focus (go_wp2_with fail)
  refine hKz.out _ _ (by first | exact hS | exact Below.trans hOn (Below.mono hnew (Below.size hOn))) (fun hNext => ?_)
  clear hKz Kz hOn
  have hOn := hNext
  clear hNext
  try clear hnew
  try clear hS
  try simp only [Act.put, List.setIfInBounds_toArray, List.set_cons_zero, List.set_cons_succ]
  refine wpAnyH_ready (rs := [5]) (by kernel_rfl) (by simp) ?_
  refine AllReadyH.cons (by simp only [List.getElem?_toArray, List.getElem?_cons_succ, List.getElem?_cons_zero]; rfl) (fun Kz hKz => ?_) AllReadyH.nil
  go_simp
  focus (try go_wp2_with fail)
  (with_reducible refine made_step (t := 22) ?_)
  intro w5 hx5 hnew
  have hq5 := Lib.hid (hmk.out _ _ _ _ _ _ _ _ (hah.out.below hnew) (hl3.out.below hnew) (har.out.below hnew) hx5.out)
  replace hZ := Lib.hid (rowG hZ.out _ hnew)
  refine hKz.out _ _ (by first | exact hS | exact Below.trans hOn (Below.mono hnew (Below.size hOn))) (fun hNext => ?_)
  clear hKz Kz hOn
  have hOn := hNext
  clear hNext
  try clear hnew
  try clear hS
  try simp only [Act.put, List.setIfInBounds_toArray, List.set_cons_zero, List.set_cons_succ]
  refine wpAnyH_ready (rs := [6]) (by kernel_rfl) (by simp) ?_
  refine AllReadyH.cons (by simp only [List.getElem?_toArray, List.getElem?_cons_succ, List.getElem?_cons_zero]; rfl) (fun Kz hKz => ?_) AllReadyH.nil
  go_simp
  (with_reducible refine (hsh.out _ _ hq5.out (hK.out.below hOn) (hF.out.below hOn)).mono ?_)
  rintro e w8 ⟨rfl, hnew⟩
  replace hZ := Lib.hid (rowG hZ.out _ hnew)
  focus (go_wp2_with fail)
  refine hKz.out _ _ (by first | exact hS | exact Below.trans hOn (Below.mono hnew (Below.size hOn))) (fun hNext => ?_)
  clear hKz Kz hOn
  have hOn := hNext
  clear hNext
  try clear hnew
  try clear hS
  try simp only [Act.put, List.setIfInBounds_toArray, List.set_cons_zero, List.set_cons_succ]
  refine wpAnyH_ready (rs := [7]) (by kernel_rfl) (by simp) ?_
  refine AllReadyH.cons (by simp only [List.getElem?_toArray, List.getElem?_cons_succ, List.getElem?_cons_zero]; rfl) (fun Kz hKz => ?_) AllReadyH.nil
  rw [if_pos (by rfl)]
  (with_reducible refine wp_store_rowK 32 (.tmp 4) (.tmp 11) rfl p zero32 N rfl rfl hZ tD t32 tO ?_)
  intro w9 hU9
  have hS := hOn.trans (hU9.out.below hpl)
  refine hKz.out _ _ (by first | exact hS | exact Below.trans hOn (Below.mono hnew (Below.size hOn))) (fun hNext => ?_)
  clear hKz Kz hOn
  have hOn := hNext
  clear hNext
  try clear hnew
  try clear hS
  try simp only [Act.put]
  refine wpAnyH_done (by kernel_rfl) ?_ _
  have hu1 : Tryd.prog.underlying 32 = some (.array 32 5) := Tryd.underlying32
  go_wp2_with fail
  refine ret_cell_row rfl rfl hu1 rfl tD hU9.out.here ⟨rfl, hOn⟩
end Go.Proofs.YtgkddegaiaeckaaDoor
