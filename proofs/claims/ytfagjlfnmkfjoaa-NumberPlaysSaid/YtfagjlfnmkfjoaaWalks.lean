/- Walks over package number (layer 23). -/
import Derived.Test.YtfagjlfnmkfjoaaRows
import Derived.Test.YtfagjlfnmkfjoaaBase
import Derived.Outline
namespace Go.Proofs.Ytfagjlfnmkfjoaa
open Go.RowKit

def mayB (id : Int) : Bool := decide (0 ≤ id ∧ id ≤ 1099511627776)
def oldB (any : Bool) (g id : Int) : Bool := any && decide (id ≤ g - 64)
def bitB (g : Int) (c : Nat) (id : Int) : Bool := decide (id ≤ g) && c.testBit (g - id).toNat
def hasB (any : Bool) (g : Int) (c : Nat) (id : Int) : Bool := any && mayB id && !oldB any g id && bitB g c id

set_option maxHeartbeats 400000 in
theorem may_any (id : Int) (w : World) :
    Calls Try.prog 19 #[.int .i64 id] w fun e w' => e = .returned (.bool (mayB id)) ∧ w = w' := by
  by_cases h1 : 0 ≤ id <;> by_cases h2 : id ≤ 1099511627776 <;>
  ( go_enter Try.func19, Try.ntmps19
    go_wp2
    go_ret
    exact ⟨by simp [mayB, h1, h2], rfl⟩)

set_option maxHeartbeats 400000 in
theorem old_any (any : Bool) (g id : Int) (b : Nat) (w : World) (h0 : w.cell? ⟨b, 0, none⟩ = some (.bool any)) (h1 : w.cell? ⟨b, 1, none⟩ = some (.int .i64 g))
    (hg : 0 ≤ g ∧ g ≤ 1099511627776) :
    Calls Try.prog 15 #[.pointer (some ⟨b, 0, none⟩), .int .i64 id] w fun e w' => e = .returned (.bool (oldB any g id)) ∧ w = w' := by
  cases any
  · go_enter Try.func15, Try.ntmps15
    go_wp2
    go_ret
    exact ⟨rfl, rfl⟩
  · go_enter Try.func15, Try.ntmps15
    go_wp2
    go_ret
    exact ⟨by simp [oldB], rfl⟩

theorem testBit_and (c k : Nat) (hc : c < 18446744073709551616) : (bits BinOp.and IntKind.u64 ((c : Int) / 2 ^ k) 1 == 1) = c.testBit k := by
  have e : ((c : Int) / 2 ^ k) = ((c / 2 ^ k : Nat) : Int) := by rw [Int.natCast_ediv]; norm_cast
  have h1 : c / 2 ^ k < 18446744073709551616 := Nat.lt_of_le_of_lt (Nat.div_le_self _ _) hc
  have h2 := bits_and_u64_nat (c / 2 ^ k) 1 h1 (by omega)
  rw [e, show (1 : Int) = ((1 : Nat) : Int) from rfl, h2, Nat.and_one_is_mod, Nat.testBit_eq_decide_div_mod_eq, Bool.eq_iff_iff]
  simp
  omega

set_option maxHeartbeats 400000 in
theorem has_any (any : Bool) (g : Int) (c : Nat) (id : Int) (b : Nat) (w : World) (h0 : w.cell? ⟨b, 0, none⟩ = some (.bool any)) (h1 : w.cell? ⟨b, 1, none⟩ = some (.int .i64 g)) (h2 : w.cell? ⟨b, 2, none⟩ = some (.int .u64 c))
    (hg : 0 ≤ g ∧ g ≤ 1099511627776) (hc : c < 18446744073709551616) :
    Calls Try.prog 13 #[.pointer (some ⟨b, 0, none⟩), .int .i64 id] w fun e w' => e = .returned (.bool (hasB any g c id)) ∧ ∃ n, w' = w.drewN n := by
  cases any
  · rw [show hasB false g c id = false from rfl]
    go_enter Try.func13, Try.ntmps13
    go_wp2_with (fail)
    go_ret
    exact ⟨rfl, 0, rfl⟩
  cases hm : mayB id
  · rw [show hasB true g c id = false from by simp [hasB, hm]]
    go_enter Try.func13, Try.ntmps13
    go_wp2_with (first | (go_at_call 19; refine (may_any _ _).mono ?_; rintro e w' ⟨rfl, rfl⟩))
    go_ret
    exact ⟨rfl, 0, rfl⟩
  cases ho : oldB true g id
  · have ho' : g - 64 < id := by simpa [oldB] using ho
    by_cases hid : id ≤ g
    · rw [show hasB true g c id = c.testBit (g - id).toNat from by simp [hasB, hm, ho, bitB, hid]]
      have k1 : 0 ≤ g - id := by omega
      have k2 : g - id < 64 := by omega
      go_enter Try.func13, Try.ntmps13
      go_wp2_with (first | (go_at_call 19; refine (may_any _ _).mono ?_; rintro e w' ⟨rfl, rfl⟩) | (go_at_call 15; refine (old_any _ _ _ _ _ h0 h1 (by omega)).mono ?_; rintro e w' ⟨rfl, rfl⟩))
      go_quiet (fail)
      go_wp2
      go_ret
      refine ⟨?_, _, rfl⟩
      show Ending.returned (Value.bool (bits BinOp.and IntKind.u64 ((c : Int) / 2 ^ (g - id).toNat) 1 == 1)) = _
      rw [testBit_and _ _ hc]
    · rw [show hasB true g c id = false from by simp [hasB, bitB, hid]]
      go_enter Try.func13, Try.ntmps13
      go_wp2_with (first | (go_at_call 19; refine (may_any _ _).mono ?_; rintro e w' ⟨rfl, rfl⟩) | (go_at_call 15; refine (old_any _ _ _ _ _ h0 h1 (by omega)).mono ?_; rintro e w' ⟨rfl, rfl⟩))
      go_ret
      exact ⟨rfl, 0, rfl⟩
  · rw [show hasB true g c id = false from by simp [hasB, ho]]
    go_enter Try.func13, Try.ntmps13
    go_wp2_with (first | (go_at_call 19; refine (may_any _ _).mono ?_; rintro e w' ⟨rfl, rfl⟩) | (go_at_call 15; refine (old_any _ _ _ _ _ h0 h1 (by omega)).mono ?_; rintro e w' ⟨rfl, rfl⟩))
    go_ret
    exact ⟨rfl, 0, rfl⟩

/-- What 'Fresh' makes of the state. -/
def freshB (any : Bool) (g : Int) (c : Nat) (id : Int) : Bool := mayB id && !oldB any g id && !hasB any g c id
def bigN (g : Int) (c : Nat) (id : Int) : Nat := (c * 2 ^ (min (id - g) 64).toNat) % 18446744073709551616 ||| 1
def oneN (g : Int) (c : Nat) (id : Int) : Nat := c ||| 2 ^ (g - id).toNat
def nextC (any : Bool) (g : Int) (c : Nat) (id : Int) : Nat := if freshB any g c id then (if !any || decide (g < id) then bigN g c id else oneN g c id) else c
def nextG (any : Bool) (g : Int) (c : Nat) (id : Int) : Int := if freshB any g c id && (!any || decide (g < id)) then id else g
def nextAny (any : Bool) (g : Int) (c : Nat) (id : Int) : Bool := any || freshB any g c id

def seen (any : Bool) (g : Int) (c : Nat) : Obj := .cells #[.bool any, .int .i64 g, .int .u64 c] 38 (0, 0)

set_option maxHeartbeats 400000 in
theorem fresh_not (any : Bool) (g : Int) (c : Nat) (id : Int) (b : Nat) (w : World) (hb : w.heap[b]? = some (seen any g c))
    (hg : 0 ≤ g ∧ g ≤ 1099511627776) (hc : c < 18446744073709551616) (hf : freshB any g c id = false) :
    Calls Try.prog 7 #[.pointer (some ⟨b, 0, none⟩), .int .i64 id] w fun e w' => e = .returned (.bool false) ∧ ∃ n, w' = w.drewN n := by
  obtain ⟨⟨h0, h1, h2⟩, _⟩ := cells3 hb
  clear hb
  cases hm : mayB id
  · clear hf
    go_enter Try.func7, Try.ntmps7
    go_wp2_with (first | (go_at_call 19; refine (may_any _ _).mono ?_; rintro e w' ⟨rfl, rfl⟩))
    go_ret
    exact ⟨rfl, 0, rfl⟩
  cases ho : oldB any g id
  · have hh : hasB any g c id = true := by simpa [freshB, hm, ho] using hf
    clear hf
    go_enter Try.func7, Try.ntmps7
    go_wp2_with (first | (go_at_call 19; refine (may_any _ _).mono ?_; rintro e w' ⟨rfl, rfl⟩) | (go_at_call 15; refine (old_any _ _ _ _ _ h0 h1 (by omega)).mono ?_; rintro e w' ⟨rfl, rfl⟩) | (go_at_call 13; refine (has_any _ _ _ _ _ _ h0 h1 h2 hg hc).mono ?_; rintro e w' ⟨rfl, n, rfl⟩))
    go_ret
    exact ⟨rfl, _, rfl⟩
  · clear hf
    go_enter Try.func7, Try.ntmps7
    go_wp2_with (first | (go_at_call 19; refine (may_any _ _).mono ?_; rintro e w' ⟨rfl, rfl⟩) | (go_at_call 15; refine (old_any _ _ _ _ _ h0 h1 (by omega)).mono ?_; rintro e w' ⟨rfl, rfl⟩))
    go_ret
    exact ⟨rfl, 0, rfl⟩

theorem wrap_u64_nat (n : Nat) : IntKind.u64.wrap (n : Int) = ((n % 18446744073709551616 : Nat) : Int) := by
  simp [IntKind.wrap, IntKind.bits, IntKind.signed]

theorem shl_or (c k : Nat) : bits BinOp.or IntKind.u64 (IntKind.u64.wrap ((c : Int) * 2 ^ k)) 1 = (((c * 2 ^ k) % 18446744073709551616 ||| 1 : Nat) : Int) := by
  have e : ((c : Int) * 2 ^ k) = ((c * 2 ^ k : Nat) : Int) := by push_cast; rfl
  rw [e, wrap_u64_nat]
  exact bits_or_u64_nat _ 1 (Nat.mod_lt _ (by omega)) (by omega)

theorem shl_or64 (c : Nat) : bits BinOp.or IntKind.u64 (IntKind.u64.wrap ((c : Int) * 18446744073709551616)) 1 = (((c * 18446744073709551616) % 18446744073709551616 ||| 1 : Nat) : Int) := by
  have e : ((c : Int) * 18446744073709551616) = ((c * 18446744073709551616 : Nat) : Int) := (Int.natCast_mul c 18446744073709551616).symm
  rw [e, wrap_u64_nat]
  exact bits_or_u64_nat _ 1 (Nat.mod_lt _ (by omega)) (by omega)

theorem or_shl (c k : Nat) (hc : c < 18446744073709551616) (hk : k < 64) : bits BinOp.or IntKind.u64 c (IntKind.u64.wrap (2 ^ k)) = ((c ||| 2 ^ k : Nat) : Int) := by
  have hp : 2 ^ k < 18446744073709551616 := by
    have := Nat.pow_lt_pow_right (a := 2) (by omega) hk
    simpa using this
  have e : ((2 : Int) ^ k) = ((2 ^ k : Nat) : Int) := by push_cast; rfl
  rw [e, wrap_u64_nat, Nat.mod_eq_of_lt hp]
  exact bits_or_u64_nat _ _ hc hp

set_option maxHeartbeats 1000000 in
theorem fresh_big (any : Bool) (g : Int) (c : Nat) (id : Int) (b : Nat) (w : World) (hb : w.heap[b]? = some (seen any g c))
    (hg : 0 ≤ g ∧ g ≤ 1099511627776) (hc : c < 18446744073709551616) (hf : freshB any g c id = true) (hn : any = true → g < id) (hd : 0 ≤ id - g) :
    Calls Try.prog 7 #[.pointer (some ⟨b, 0, none⟩), .int .i64 id] w fun e w' => e = .returned (.bool true) ∧ Upd b (seen true id (bigN g c id)) w w' := by
  have hb' := hb
  obtain ⟨⟨h0, h1, h2⟩, f0, f1, f2⟩ := cells3 hb
  clear hb
  have hm : mayB id = true := by simp [freshB] at hf; simp [hf]
  have ho : oldB any g id = false := by simp [freshB] at hf; simp [hf]
  have hh : hasB any g c id = false := by simp [freshB] at hf; simp [hf]
  clear hf
  have hm' : 0 ≤ id ∧ id ≤ 1099511627776 := by simpa [mayB] using hm
  rcases (show id - g ≤ 64 ∨ 64 < id - g from by omega) with hk | hk
  · cases any
    · clear hn
      go_enter Try.func7, Try.ntmps7
      go_wp2_with (first | (go_at_call 19; refine (may_any _ _).mono ?_; rintro e w' ⟨rfl, rfl⟩) | (go_at_call 15; refine (old_any _ _ _ _ _ h0 h1 (by omega)).mono ?_; rintro e w' ⟨rfl, rfl⟩) | (go_at_call 13; refine (has_any _ _ _ _ _ _ h0 h1 h2 hg hc).mono ?_; rintro e w' ⟨rfl, n, rfl⟩))
      go_region
      go_wp2
      go_ret
      refine ⟨rfl, ?_⟩
      rw [shl_or, show seen true id (bigN g c id) = seen true id ((c * 2 ^ (id - g).toNat) % 18446744073709551616 ||| 1) from by rw [bigN, Int.min_eq_left (by omega)]]
      exact Upd.to (((((Upd.refl hb').drewN _).setCell _).setCell _).setCell _) rfl
    · have hn := hn rfl
      go_enter Try.func7, Try.ntmps7
      go_wp2_with (first | (go_at_call 19; refine (may_any _ _).mono ?_; rintro e w' ⟨rfl, rfl⟩) | (go_at_call 15; refine (old_any _ _ _ _ _ h0 h1 (by omega)).mono ?_; rintro e w' ⟨rfl, rfl⟩) | (go_at_call 13; refine (has_any _ _ _ _ _ _ h0 h1 h2 hg hc).mono ?_; rintro e w' ⟨rfl, n, rfl⟩))
      go_region
      go_wp2
      go_ret
      refine ⟨rfl, ?_⟩
      rw [shl_or, show seen true id (bigN g c id) = seen true id ((c * 2 ^ (id - g).toNat) % 18446744073709551616 ||| 1) from by rw [bigN, Int.min_eq_left (by omega)]]
      exact Upd.to (((((Upd.refl hb').drewN _).setCell _).setCell _).setCell _) rfl
  · cases any
    · clear hn
      go_enter Try.func7, Try.ntmps7
      go_wp2_with (first | (go_at_call 19; refine (may_any _ _).mono ?_; rintro e w' ⟨rfl, rfl⟩) | (go_at_call 15; refine (old_any _ _ _ _ _ h0 h1 (by omega)).mono ?_; rintro e w' ⟨rfl, rfl⟩) | (go_at_call 13; refine (has_any _ _ _ _ _ _ h0 h1 h2 hg hc).mono ?_; rintro e w' ⟨rfl, n, rfl⟩))
      go_region
      go_wp2
      go_ret
      refine ⟨rfl, ?_⟩
      rw [shl_or64, show seen true id (bigN g c id) = seen true id ((c * 18446744073709551616) % 18446744073709551616 ||| 1) from by rw [bigN, Int.min_eq_right (by omega)]; rfl]
      exact Upd.to (((((Upd.refl hb').drewN _).setCell _).setCell _).setCell _) rfl
    · have hn := hn rfl
      go_enter Try.func7, Try.ntmps7
      go_wp2_with (first | (go_at_call 19; refine (may_any _ _).mono ?_; rintro e w' ⟨rfl, rfl⟩) | (go_at_call 15; refine (old_any _ _ _ _ _ h0 h1 (by omega)).mono ?_; rintro e w' ⟨rfl, rfl⟩) | (go_at_call 13; refine (has_any _ _ _ _ _ _ h0 h1 h2 hg hc).mono ?_; rintro e w' ⟨rfl, n, rfl⟩))
      go_region
      go_wp2
      go_ret
      refine ⟨rfl, ?_⟩
      rw [shl_or64, show seen true id (bigN g c id) = seen true id ((c * 18446744073709551616) % 18446744073709551616 ||| 1) from by rw [bigN, Int.min_eq_right (by omega)]; rfl]
      exact Upd.to (((((Upd.refl hb').drewN _).setCell _).setCell _).setCell _) rfl

set_option maxHeartbeats 1000000 in
theorem fresh_one (g : Int) (c : Nat) (id : Int) (b : Nat) (w : World) (hb : w.heap[b]? = some (seen true g c))
    (hg : 0 ≤ g ∧ g ≤ 1099511627776) (hc : c < 18446744073709551616) (hf : freshB true g c id = true) (hn : id ≤ g) :
    Calls Try.prog 7 #[.pointer (some ⟨b, 0, none⟩), .int .i64 id] w fun e w' => e = .returned (.bool true) ∧ Upd b (seen true g (oneN g c id)) w w' := by
  have hb' := hb
  obtain ⟨⟨h0, h1, h2⟩, f0, f1, f2⟩ := cells3 hb
  clear hb
  have hm : mayB id = true := by simp [freshB] at hf; simp [hf]
  have ho : oldB true g id = false := by simp [freshB] at hf; simp [hf]
  have hh : hasB true g c id = false := by simp [freshB] at hf; simp [hf]
  clear hf
  have ho' : g - 64 < id := by simpa [oldB] using ho
  have hm' : 0 ≤ id ∧ id ≤ 1099511627776 := by simpa [mayB] using hm
  go_enter Try.func7, Try.ntmps7
  go_wp2_with (first | (go_at_call 19; refine (may_any _ _).mono ?_; rintro e w' ⟨rfl, rfl⟩) | (go_at_call 15; refine (old_any _ _ _ _ _ h0 h1 (by omega)).mono ?_; rintro e w' ⟨rfl, rfl⟩) | (go_at_call 13; refine (has_any _ _ _ _ _ _ h0 h1 h2 hg hc).mono ?_; rintro e w' ⟨rfl, n, rfl⟩))
  go_region
  go_wp2
  go_ret
  refine ⟨rfl, ?_⟩
  rw [or_shl _ _ hc (by omega)]
  exact Upd.to (((Upd.refl hb').drewN _).setCell _) rfl

theorem fresh_any (any : Bool) (g : Int) (c : Nat) (id : Int) (b : Nat) (w : World) (hb : w.heap[b]? = some (seen any g c))
    (hg : 0 ≤ g ∧ g ≤ 1099511627776) (hc : c < 18446744073709551616) (hz : any = false → g = 0) :
    Calls Try.prog 7 #[.pointer (some ⟨b, 0, none⟩), .int .i64 id] w fun e w' => e = .returned (.bool (freshB any g c id)) ∧
      Upd b (seen (nextAny any g c id) (nextG any g c id) (nextC any g c id)) w w' := by
  cases hf : freshB any g c id
  · refine (fresh_not any g c id b w hb hg hc hf).mono ?_
    rintro e w' ⟨he, n, rfl⟩
    refine ⟨he, ?_⟩
    have : nextAny any g c id = any ∧ nextG any g c id = g ∧ nextC any g c id = c := by simp [nextAny, nextG, nextC, hf]
    rw [this.1, this.2.1, this.2.2]
    exact (Upd.refl hb).drewN n
  · have hm : 0 ≤ id ∧ id ≤ 1099511627776 := by simp [freshB, mayB] at hf; omega
    by_cases hn : any = true → g < id
    · refine (fresh_big any g c id b w hb hg hc hf hn (by cases any <;> simp at hn hz <;> omega)).mono ?_
      rintro e w' ⟨he, hu⟩
      refine ⟨he, ?_⟩
      have : nextAny any g c id = true ∧ nextG any g c id = id ∧ nextC any g c id = bigN g c id := by
        cases any <;> simp_all [nextAny, nextG, nextC]
      rw [this.1, this.2.1, this.2.2]
      exact hu
    · obtain ⟨rfl, hle⟩ : any = true ∧ id ≤ g := by simp at hn; omega
      refine (fresh_one g c id b w hb hg hc hf hle).mono ?_
      rintro e w' ⟨he, hu⟩
      refine ⟨he, ?_⟩
      have : nextAny true g c id = true ∧ nextG true g c id = g ∧ nextC true g c id = oneN g c id := by
        have : ¬ g < id := by omega
        simp [nextAny, nextG, nextC, hf, this]
      rw [this.1, this.2.1, this.2.2]
      exact hu

end Go.Proofs.Ytfagjlfnmkfjoaa
