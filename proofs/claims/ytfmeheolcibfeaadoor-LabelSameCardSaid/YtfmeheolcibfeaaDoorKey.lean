/- The walks over label.Key, and the reference's Key. -/
import Derived.Test.YtfmeheolcibfeaaDoorLabelL
import Derived.Test.YtfmeheolcibfeaaDoorMarkB
import Derived.Test.YtfmeheolcibfeaaDoorTagR
namespace Go.Proofs.YtfmeheolcibfeaaDoor
open Go.RowKit

/-- What is macced for a label's key. -/
def kM (s : List UInt8) (n : Int) : List UInt8 := s ++ [0] ++ numB n
theorem kM_length (s : List UInt8) (n : Int) : (kM s n).length = s.length + 9 := by simp [kM, numB_length]
theorem argBB_three {w : World} {a a' a'' : Option Addr} {c c' c'' : Nat} {p q r : List UInt8} {g : Nat} (h : ArgB w a c p) (h' : ArgB w a' c' q) (h'' : ArgB w a'' c'' r) (hg : w.heap[g]? = some (.cells #[.slice a p.length c, .slice a' q.length c', .slice a'' r.length c''] 22 (0, 0))) : ArgBB w (some ⟨g, 0, none⟩) 3 [p, q, r] := by
  refine ⟨Nat.le_refl _, by unfold maxLen; omega, (fun e => by cases e), fun i hi => ⟨g, 0, rfl, ?_⟩⟩
  have hi3 : i < 3 := by simpa using hi
  match i, hi3 with
  | 0, _ => exact ⟨a, c, by rw [cell_of_block hg]; rfl, h⟩
  | 1, _ => exact ⟨a', c', by rw [cell_of_block hg]; rfl, h'⟩
  | 2, _ => exact ⟨a'', c'', by rw [cell_of_block hg]; rfl, h''⟩

/-- What Key answers. -/
def kBad (key s : List UInt8) (n : Int) : Int := if masB key.length then (if labB s then (if numdB n then 0 else 1) else 6) else 9
def kX (key s : List UInt8) (n : Int) : List UInt8 := if kBad key s n = 0 then hmac key (kM s n) else []
theorem kBad_zero {key s : List UInt8} {n : Int} (h : kBad key s n = 0) : masB key.length = true ∧ labB s = true ∧ numdB n = true := by
  unfold kBad at h
  split at h
  · split at h
    · split at h
      · exact ⟨‹_›, ‹_›, ‹_›⟩
      · exact absurd h (by decide)
    · exact absurd h (by decide)
  · exact absurd h (by decide)

set_option maxRecDepth 10000 in
set_option maxHeartbeats 1000000 in
theorem lKey_ok (ak : Option Addr) (ck : Nat) (key : List UInt8) (s : ByteArray) (n : Int) (w : World) (hk : ArgB w ak ck key) (hm : masB key.length = true) (hl : labB s.data.toList = true) (hn : numdB n = true) (hs : s.size ≤ 80000) (hK : ShaK w) (hF : ShaF w) :
    Calls Tryd.prog 7 #[.slice ak key.length ck, .string s, .int .i64 n] w fun e w' => ∃ v, e = .returned (.tuple #[v, .nilIface]) ∧ OwnB w.heap.size w' v (hmac key (kM s.data.toList n)) ∧ Below w.heap.size w w' := by
  have zr2 := zero32_run
  have zn2 := zero32_ne
  have hnr : 0 ≤ n ∧ n ≤ 1099511627776 := by simpa [numdB] using hn
  have hkl : key.length ≤ 64 := by have : 16 ≤ key.length ∧ key.length ≤ 64 := by simpa [masB] using hm
                                   exact this.2
  have hlen : s.data.toList.length = s.size := by simp
  have hx1 : key.length ≤ 9223372036854775807 := by omega
  have sD := size32 (hmac key (kM s.data.toList n)) (hmac_length _ _)
  have s32 := z32 (hmac key (kM s.data.toList n)) (hmac_length _ _)
  have sO := cB_all (hmac key (kM s.data.toList n))
  have hml := Lib.hid (hmac_length key (kM s.data.toList n))
  have hnb := Lib.hid (numB_length n)
  have hln := Lib.hid (fun W => lnum_any n W (by omega) (by omega))
  have hof := Lib.hid (fun W (B : ArgB W ak ck key) (g : Nat) (C : ArgBB W (some ⟨g, 0, none⟩) 3 [s.data.toList, [0], numB n]) D E => macOf_any ak ck key (some ⟨g, 0, none⟩) 3 [s.data.toList, [0], numB n] W B (by omega) C (by simp [numB_length]; omega) (by simp) D E)
  rw [show [s.data.toList, [0], numB n].flatten = kM s.data.toList n from by simp [kM], show [s.data.toList, [0], numB n].length = 3 from rfl] at hof
  have harg := Lib.hid (fun (W : World) (g : Nat) (hh : W.heap[g]? = some (.cells (cB (hmac key (kM s.data.toList n))).toArray 49 (0, 0))) => argB_block (c := 32) hh (by rw [hmac_length]; omega) (by omega))
  obtain ⟨D, hD⟩ : ∃ D, D = (cB (hmac key (kM s.data.toList n))).toArray := ⟨_, rfl⟩
  rw [← hD] at sD s32 sO harg hof
  have h0 : 0 ≤ n := hnr.1
  have h40 : n ≤ 1099511627776 := hnr.2
  replace hk := Lib.hid hk; replace hK := Lib.hid hK; replace hF := Lib.hid hF; replace hD := Lib.hid hD; replace hlen := Lib.hid hlen; replace hkl := Lib.hid hkl; replace hnr := Lib.hid hnr
  generalize hmac key (kM s.data.toList n) = T at *
  go_enter Tryd.func7, Tryd.ntmps7
  go_wp2_with fail
  with_reducible refine (master_any ak key.length ck _ hx1).mono ?_
  rintro e w1 ⟨rfl, rfl⟩
  rw [hm]
  replace hm := Lib.hid hm
  go_wp2_with fail
  with_reducible refine (label_any s _ (by omega)).mono ?_
  rintro e w1 ⟨rfl, hb1⟩
  rw [hl]
  replace hk := Lib.hid (hk.out.below hb1); replace hK := Lib.hid (hK.out.below hb1); replace hF := Lib.hid (hF.out.below hb1)
  replace hb1 := Lib.hid hb1
  replace hl := Lib.hid hl
  go_wp2_with fail
  with_reducible refine (numbered_any n _).mono ?_
  rintro e w2 ⟨rfl, rfl⟩
  rw [hn]
  replace hn := Lib.hid hn
  go_wp2_with (with_reducible refine wpM_conv rfl (.tmp 25) rfl s rfl (by omega) ?_)
  intro v3 w3 hv3 hb3
  obtain ⟨a3, c3, rfl, h3⟩ := hv3.out.arg
  replace hk := Lib.hid (hk.out.below hb3.out); replace hK := Lib.hid (hK.out.below hb3.out); replace hF := Lib.hid (hF.out.below hb3.out)
  replace hb1 := Lib.hid (hb1.out.trans (hb3.out.mono hb1.out.size))
  rw [hlen.out]
  have hga := (Below.refl w3.heap.size w3).alloc (Nat.le_refl _) (.cells #[.int .u8 0] 5)
  have h0b : ArgB (w3.alloc (.cells #[.int .u8 0] 5)) (some ⟨w3.heap.size, 0, none⟩) 1 [0] := argB_lit w3 5 [0] #[.int .u8 0] rfl (by simp)
  have h3b := h3.below hga
  replace h3b := Lib.hid h3b; replace h0b := Lib.hid h0b; replace hga := Lib.hid hga
  clear h3 hv3 hb3
  go_wp2_with fail
  with_reducible refine (hln.out _).mono ?_
  rintro e w4 ⟨v4, rfl, ho4, hb4⟩
  obtain ⟨a4, c4, rfl, h4, _⟩ := ho4.arg
  rw [hnb.out]
  have hb34 := hga.out.trans (hb4.mono hga.out.size)
  have hga5 := (Below.refl w4.heap.size w4).alloc (Nat.le_refl _) (.cells #[.slice a3 s.size c3, .slice (some ⟨w3.heap.size, 0, none⟩) 1 1, .slice a4 8 c4] 22)
  have hbb := argBB_three ((h3b.out.below hb4).below hga5) ((h0b.out.below hb4).below hga5) (h4.below hga5) (by rw [hlen.out, hnb.out]; exact heap_alloc_new w4 _)
  have hb35 := hb34.trans (hga5.mono hb34.size)
  have hmc := Lib.hid (hof.out _ (hk.out.below hb35) _ hbb (hK.out.below hb35) (hF.out.below hb35))
  replace hb1 := Lib.hid (hb1.out.trans (hb35.mono hb1.out.size))
  clear ho4 h4 h3b h0b hga hb34 hga5 hbb hb35 hof hb4
  go_wp2_with fail
  with_reducible refine hmc.out.mono ?_
  rintro e w6 ⟨rfl, hb6⟩
  have hb7 := hb1.out.trans (hb6.mono hb1.out.size)
  have ha := Lib.hid (harg.out _ _ (heap_alloc_new w6 (.cells D 49)))
  have hb8 := Lib.hid (hb7.alloc hb7.size (.cells D 49))
  clear hb6 hb7 hmc
  go_wp2_with (with_reducible refine wpList_store_new rfl 49 (.tmp 8) (.tmp 31) rfl zero32 D rfl rfl sD s32 sO ?_)
  have hcl := clone_any _ 32 T _ ha.out (by have := hml.out; omega)
  rw [hml.out] at hcl
  with_reducible refine hcl.mono ?_
  rintro e w10 ⟨v, rfl, ho, hd⟩
  have ho2 := Lib.hid (OwnB.mono (base' := w.heap.size) ho hb8.out.size)
  have hb9 := Lib.hid (hb8.out.trans (hd.mono hb8.out.size))
  clear ho hd hcl
  go_wp2_with fail
  go_ret2
  exact ⟨_, rfl, ho2.out, hb9.out⟩

set_option maxHeartbeats 1000000 in
theorem lKey_key (a : Option Addr) (L c : Nat) (s n : Value) (w : World) (z : Addr) (hz : SentAt gKey9 w z) (hL : L ≤ 9223372036854775807) (hm : masB L = false) :
    Calls Tryd.prog 7 #[.slice a L c, s, n] w fun e w' => e = .returned (.tuple #[.slice none 0 0, .iface 129 (.pointer (some z))]) ∧ Below w.heap.size w w' := by
  have hg : ∀ n, (w.drewN n).cell? ⟨gKey9, 0, none⟩ = some (.iface 129 (.pointer (some z))) := fun _ => hz
  have hg0 : w.cell? ⟨gKey9, 0, none⟩ = some (.iface 129 (.pointer (some z))) := hz
  unfold gKey9 at hg hg0
  replace hz := Lib.hid hz
  go_enter Tryd.func7, Tryd.ntmps7
  go_wp2_with fail
  with_reducible refine (master_any a L c _ hL).mono ?_
  rintro e w1 ⟨rfl, rfl⟩
  rw [hm]
  replace hm := Lib.hid hm
  go_wp2_with fail
  go_quiet (fail)
  go_wp2_with fail
  go_ret2
  exact ⟨rfl, below_drewN (Below.refl _ _) _⟩
set_option maxHeartbeats 1000000 in
theorem lKey_name (a : Option Addr) (L c : Nat) (s : ByteArray) (n : Value) (w : World) (z : Addr) (hz : SentAt gName9 w z) (hL : L ≤ 9223372036854775807) (hm : masB L = true) (hs : s.size ≤ 9223372036854775807) (hl : labB s.data.toList = false) :
    Calls Tryd.prog 7 #[.slice a L c, .string s, n] w fun e w' => e = .returned (.tuple #[.slice none 0 0, .iface 129 (.pointer (some z))]) ∧ Below w.heap.size w w' := by
  go_enter Tryd.func7, Tryd.ntmps7
  go_wp2_with fail
  with_reducible refine (master_any a L c _ hL).mono ?_
  rintro e w1 ⟨rfl, rfl⟩
  rw [hm]
  replace hm := Lib.hid hm
  go_wp2_with fail
  with_reducible refine (label_any s _ hs).mono ?_
  rintro e w1 ⟨rfl, hb1⟩
  rw [hl]
  replace hl := Lib.hid hl
  have hz1 : SentAt gName9 w1 z := hz.below hb1
  have hg : ∀ n, (w1.drewN n).cell? ⟨gName9, 0, none⟩ = some (.iface 129 (.pointer (some z))) := fun _ => hz1
  have hg0 : w1.cell? ⟨gName9, 0, none⟩ = some (.iface 129 (.pointer (some z))) := hz1
  unfold gName9 at hg hg0
  replace hz := Lib.hid hz
  replace hz1 := Lib.hid hz1
  replace hb1 := Lib.hid hb1
  go_wp2_with fail
  go_quiet (fail)
  go_wp2_with fail
  go_ret2
  exact ⟨rfl, below_drewN hb1.out _⟩
set_option maxHeartbeats 1000000 in
theorem lKey_range (a : Option Addr) (L c : Nat) (s : ByteArray) (n : Int) (w : World) (z : Addr) (hz : SentAt gRange9 w z) (hL : L ≤ 9223372036854775807) (hm : masB L = true) (hs : s.size ≤ 9223372036854775807) (hl : labB s.data.toList = true) (hn : numdB n = false) :
    Calls Tryd.prog 7 #[.slice a L c, .string s, .int .i64 n] w fun e w' => e = .returned (.tuple #[.slice none 0 0, .iface 129 (.pointer (some z))]) ∧ Below w.heap.size w w' := by
  go_enter Tryd.func7, Tryd.ntmps7
  go_wp2_with fail
  with_reducible refine (master_any a L c _ hL).mono ?_
  rintro e w1 ⟨rfl, rfl⟩
  rw [hm]
  replace hm := Lib.hid hm
  go_wp2_with fail
  with_reducible refine (label_any s _ hs).mono ?_
  rintro e w1 ⟨rfl, hb1⟩
  rw [hl]
  replace hl := Lib.hid hl
  have hz1 : SentAt gRange9 w1 z := hz.below hb1
  have hg : ∀ n, (w1.drewN n).cell? ⟨gRange9, 0, none⟩ = some (.iface 129 (.pointer (some z))) := fun _ => hz1
  have hg0 : w1.cell? ⟨gRange9, 0, none⟩ = some (.iface 129 (.pointer (some z))) := hz1
  unfold gRange9 at hg hg0
  replace hz := Lib.hid hz
  replace hz1 := Lib.hid hz1
  replace hb1 := Lib.hid hb1
  go_wp2_with fail
  with_reducible refine (numbered_any n _).mono ?_
  rintro e w2 ⟨rfl, rfl⟩
  rw [hn]
  replace hn := Lib.hid hn
  go_wp2_with fail
  go_quiet (fail)
  go_wp2_with fail
  go_ret2
  exact ⟨rfl, below_drewN hb1.out _⟩

set_option maxHeartbeats 1000000 in
theorem rKey_key (a : Option Addr) (L c : Nat) (s n : Value) (w : World) (hL : L ≤ 9223372036854775807) (hm : masB L = false) :
    Calls Tryd.prog 8 #[.slice a L c, s, n] w fun e w' => e = .returned (.tuple #[.slice none 0 0, .int .i64 9]) ∧ w = w' := by
  have hmn : L < 16 ∨ 64 < L := by
    have : ¬ (16 ≤ L ∧ L ≤ 64) := by simpa [masB] using hm
    omega
  have hd : ∃ b1 b2 : Bool, decide ((L : Int) < 16) = b1 ∧ decide (64 < (L : Int)) = b2 ∧ (b1 || b2) = true := by
    refine ⟨_, _, rfl, rfl, ?_⟩
    simp only [Bool.or_eq_true, decide_eq_true_eq]
    omega
  obtain ⟨b1, b2, e1, e2, e4⟩ := hd
  clear hmn
  replace hm := Lib.hid hm
  cases b1 <;> cases b2 <;> simp at e4
  all_goals
    go_enter Tryd.func8, Tryd.ntmps8
    go_wp2_with fail
    go_ret2
    exact ⟨rfl, rfl⟩
set_option maxHeartbeats 1000000 in
theorem rKey_name (a : Option Addr) (L c : Nat) (s : ByteArray) (n : Value) (w : World) (hL : L ≤ 9223372036854775807) (hm : masB L = true) (hs : s.size ≤ 9223372036854775807) (hl : labB s.data.toList = false) :
    Calls Tryd.prog 8 #[.slice a L c, .string s, n] w fun e w' => e = .returned (.tuple #[.slice none 0 0, .int .i64 6]) ∧ w = w' := by
  have hmn : 16 ≤ L ∧ L ≤ 64 := by simpa [masB] using hm
  have e1 : ¬ (L : Int) < 16 := by omega
  have e2 : ¬ 64 < (L : Int) := by omega
  clear hmn
  replace hm := Lib.hid hm
  go_enter Tryd.func8, Tryd.ntmps8
  go_wp2_with fail
  with_reducible refine (rLabel_any s _ hs).mono ?_
  rintro e w1 ⟨rfl, rfl⟩
  rw [hl]
  replace hl := Lib.hid hl
  go_wp2_with fail
  go_ret2
  exact ⟨rfl, rfl⟩
set_option maxHeartbeats 1000000 in
theorem rKey_range (a : Option Addr) (L c : Nat) (s : ByteArray) (n : Int) (w : World) (hL : L ≤ 9223372036854775807) (hm : masB L = true) (hs : s.size ≤ 9223372036854775807) (hl : labB s.data.toList = true) (hn : numdB n = false) :
    Calls Tryd.prog 8 #[.slice a L c, .string s, .int .i64 n] w fun e w' => e = .returned (.tuple #[.slice none 0 0, .int .i64 1]) ∧ w = w' := by
  have hmn : 16 ≤ L ∧ L ≤ 64 := by simpa [masB] using hm
  have e1 : ¬ (L : Int) < 16 := by omega
  have e2 : ¬ 64 < (L : Int) := by omega
  have hnn : n < 0 ∨ 1099511627776 < n := by
    have : ¬ (0 ≤ n ∧ n ≤ 1099511627776) := by simpa [numdB] using hn
    omega
  have hd : ∃ b1 b2 : Bool, decide (n < 0) = b1 ∧ decide (1099511627776 < n) = b2 ∧ (b1 || b2) = true := by
    refine ⟨_, _, rfl, rfl, ?_⟩
    simp only [Bool.or_eq_true, decide_eq_true_eq]
    omega
  obtain ⟨b1, b2, f1, f2, f4⟩ := hd
  clear hmn hnn
  replace hm := Lib.hid hm
  replace hn := Lib.hid hn
  have hlb := Lib.hid (fun W => rLabel_any s W hs)
  rw [hl] at hlb
  replace hl := Lib.hid hl
  cases b1 <;> cases b2 <;> simp at f4
  all_goals
    go_enter Tryd.func8, Tryd.ntmps8
    go_wp2_with fail
    with_reducible refine (hlb.out _).mono ?_
    rintro e w1 ⟨rfl, rfl⟩
    go_wp2_with fail
    go_ret2
    exact ⟨rfl, rfl⟩

set_option maxRecDepth 10000 in
set_option maxHeartbeats 1000000 in
theorem rKey_ok (ak : Option Addr) (ck : Nat) (key : List UInt8) (s : ByteArray) (n : Int) (w : World) (hk : ArgB w ak ck key) (hm : masB key.length = true) (hl : labB s.data.toList = true) (hn : numdB n = true) (hs : s.size ≤ 80000) (hK : RefK w) (hF : RefF w) :
    Calls Tryd.prog 8 #[.slice ak key.length ck, .string s, .int .i64 n] w fun e w' => ∃ v, e = .returned (.tuple #[v, .int .i64 0]) ∧ OwnB w.heap.size w' v (hmac key (kM s.data.toList n)) ∧ Below w.heap.size w w' := by
  have zr2 := zeroR_run
  have zn2 := zero32_ne
  have hnr : 0 ≤ n ∧ n ≤ 1099511627776 := by simpa [numdB] using hn
  have hmn : 16 ≤ key.length ∧ key.length ≤ 64 := by simpa [masB] using hm
  have e1 : ¬ (key.length : Int) < 16 := by omega
  have e2 : ¬ 64 < (key.length : Int) := by omega
  have hx1 : key.length ≤ 9223372036854775807 := by omega
  have hkl := hmn.2
  have hlen : s.data.toList.length = s.size := by simp
  have sD := sizeR (hmac key (kM s.data.toList n)) (hmac_length _ _)
  have s32 := z32 (hmac key (kM s.data.toList n)) (hmac_length _ _)
  have sO := cB_all (hmac key (kM s.data.toList n))
  have hml := Lib.hid (hmac_length key (kM s.data.toList n))
  have hnb := Lib.hid (numB_length n)
  have hln := Lib.hid (fun W => rnum_any n W (by omega) (by omega))
  have hkm := kM_length s.data.toList n
  have hof := Lib.hid (fun W (B : ArgB W ak ck key) am cm (C : ArgB W am cm (kM s.data.toList n)) D E => rmacOf_any ak ck key am cm (kM s.data.toList n) W B (by omega) C (by omega) D E)
  have hkm2 := Lib.hid (show (kM s.data.toList n).length = s.size + 9 from by omega)
  have harg := Lib.hid (fun (W : World) (g : Nat) (hh : W.heap[g]? = some (.cells (cB (hmac key (kM s.data.toList n))).toArray 48 (0, 0))) => argB_block (c := 32) hh (by rw [hmac_length]; omega) (by omega))
  obtain ⟨D, hD⟩ : ∃ D, D = (cB (hmac key (kM s.data.toList n))).toArray := ⟨_, rfl⟩
  rw [← hD] at sD s32 sO harg hof
  have h0 : ¬ n < 0 := by omega
  have h40 : ¬ 1099511627776 < n := by omega
  have hse := Lib.hid (show kM s.data.toList n = s.data.toList ++ 0 :: numB n from by simp [kM])
  replace hk := Lib.hid hk; replace hK := Lib.hid hK; replace hF := Lib.hid hF; replace hD := Lib.hid hD; replace hmn := Lib.hid hmn; replace hnr := Lib.hid hnr; replace hkm := Lib.hid hkm
  generalize hmac key (kM s.data.toList n) = T at *
  go_enter Tryd.func8, Tryd.ntmps8
  go_wp2_with fail
  with_reducible refine (rLabel_any s _ (by omega)).mono ?_
  rintro e w1 ⟨rfl, rfl⟩
  rw [hl]
  replace hl := Lib.hid hl
  replace hm := Lib.hid hm
  replace hn := Lib.hid hn
  go_wp2_with (with_reducible refine wpM_conv rfl (.tmp 27) rfl s rfl (by omega) ?_)
  intro v3 w3 hv3 hb3
  have hga := (Below.refl w3.heap.size w3).alloc (Nat.le_refl _) (.cells #[.int .u8 0] 5)
  have h0b := Lib.hid (show ArgB (w3.alloc (.cells #[.int .u8 0] 5)) (some ⟨w3.heap.size, 0, none⟩) 1 [0] from argB_lit w3 5 [0] #[.int .u8 0] rfl (by simp))
  have hv3b := Lib.hid (hv3.out.below hga (Nat.le_refl _))
  have hb3b := hb3.out.trans (hga.mono hb3.out.size)
  have hs3 := hb3b.size
  replace hb3b := Lib.hid hb3b
  clear hv3 hb3 hga
  go_wp2_with (at_builtin; go_must (refine wpM_app rfl (.tmp 28) (.tmp 29) rfl w.heap.size _ s.data.toList rfl hv3b w3.heap.size 0 1 [0] 1 rfl (Lib.hid rfl) h0b (by decide) (by have := hlen; omega) (by decide) hs3 ?_))
  intro v4 w4 hv4 hb4
  have hb4b := Lib.hid (hb3b.out.trans hb4.out)
  clear hv3b hb3b hb4 h0b
  go_wp2_with fail
  with_reducible refine (hln.out _).mono ?_
  rintro e w5 ⟨v5, rfl, ho5, hb5⟩
  obtain ⟨g5, c5, rfl, hg5⟩ := ho5.form (by rw [hnb.out]; decide)
  obtain ⟨a5, c5', e5, h5, _⟩ := ho5.arg
  cases e5
  rw [hnb.out]
  have hv5 := Lib.hid (hv4.out.below hb5 (Nat.le_refl _))
  have hb5b := hb4b.out.trans (hb5.mono hb4b.out.size)
  have hs5 := hb5b.size
  replace hb5b := Lib.hid hb5b
  replace h5 := Lib.hid h5
  replace hg5 := Lib.hid hg5
  clear ho5 hb5 hv4 hb4b
  go_wp2_with (at_builtin; go_must (refine wpM_app rfl (.tmp 30) (.tmp 32) rfl w.heap.size _ (s.data.toList ++ [0]) rfl hv5 g5 0 c5 (numB n) 8 rfl hnb h5 (by decide) (by rw [List.length_append]; have := hlen; simp; omega) (by decide) hs5 ?_))
  intro v6 w6 hv6 hb6
  rw [← hse.out] at hv6
  obtain ⟨a6, c6, rfl, h6⟩ := hv6.out.arg
  have hb6b := hb5b.out.trans hb6.out
  have hmc := Lib.hid (hof.out w6 (hk.out.below hb6b) a6 c6 h6 (hK.out.below hb6b) (hF.out.below hb6b))
  rw [hkm2.out] at hmc ⊢
  replace hb6b := Lib.hid hb6b
  clear hv6 hb6 h6 hv5 hb5b hof
  go_wp2_with fail
  with_reducible refine hmc.out.mono ?_
  rintro e w7 ⟨rfl, hb7⟩
  have hb1 := hb6b.out.trans (hb7.mono hb6b.out.size)
  have hg2 := (Below.refl w7.heap.size w7).alloc (Nat.le_refl _) (.cells D 48)
  have hg3 := (Below.refl (w7.alloc (.cells D 48)).heap.size (w7.alloc (.cells D 48))).alloc (Nat.le_refl _) (.cells #[] 5)
  have ha := Lib.hid ((harg.out _ _ (heap_alloc_new w7 (.cells D 48))).below hg3)
  have hown := owns_made0 (w7.alloc (.cells D 48)) (w7.alloc (.cells D 48)).heap.size (Nat.le_refl _)
  have hsz3 := hg3.size
  rw [show (w7.alloc (.cells D 48)).heap.size = w7.heap.size + 1 from by simp] at hown hsz3 hg3
  have hs17 := hb1.size
  have hb3 := Lib.hid (hb1.trans ((hg2.trans (hg3.mono (Nat.le_succ _))).mono hb1.size))
  replace hown := Lib.hid hown
  clear hg2 hg3 hb1 hb7 hmc
  go_wp2_with (first | with_reducible refine wpList_store_new rfl 48 (.tmp 8) (.tmp 34) rfl zero32 D rfl rfl sD s32 sO ?_ | (at_builtin; refine wpB_app rfl (.tmp 35) (.tmp 36) rfl (w7.heap.size + 1) _ [] rfl hown (some ⟨w7.heap.size, 0, none⟩) 32 T 32 rfl hml ha (by simp) (by omega) hsz3 ?_))
  intro v2 w2 ho2 hd2
  have ho3 := Lib.hid (OwnB.mono (base' := w.heap.size) (show OwnB (w7.heap.size + 1) w2 v2 T from by simpa using ho2.out) (by omega))
  have hb4 := Lib.hid (hb3.out.trans (hd2.out.mono (by omega)))
  clear ho2 hd2
  go_wp2_with fail
  go_ret2
  exact ⟨_, rfl, ho3.out, hb4.out⟩

end Go.Proofs.YtfmeheolcibfeaaDoor
