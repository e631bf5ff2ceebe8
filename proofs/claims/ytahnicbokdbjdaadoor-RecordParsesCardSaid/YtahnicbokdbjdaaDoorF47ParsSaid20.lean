/- Both readers of records: the same record, the same error's number, for all bytes. -/
import Derived.Test.YtahnicbokdbjdaaDoorF33ParsSaid20
import Derived.Test.YtahnicbokdbjdaaDoorF39ParsSaid20
import Derived.Test.YtahnicbokdbjdaaDoorF43ParsSaid20
import Derived.Test.YtahnicbokdbjdaaDoorF44ParsSaid20
import Derived.Test.YtahnicbokdbjdaaDoorF45ParsSaid20
import Derived.Test.YtahnicbokdbjdaaDoorF46ParsSaid20
import Derived.Test.YtahnicbokdbjdaaDoorF41ParsSaid20
namespace Go.Proofs.YtahnicbokdbjdaaDoor
open Go.RowKit
set_option linter.unusedVariables false

theorem cut_len {l : List UInt8} {k n : Nat} (h : k + n ≤ l.length) : (cut l k n).length = n := by unfold cut; rw [List.length_take, List.length_drop]; omega
theorem nO_at {l : List UInt8} {k n : Nat} (h : k + n ≤ l.length) : nO (l.drop k, false) n = cut l k n := by
  have hh : ¬ (false = true ∨ (l.drop k).length < n) := by
    rw [List.length_drop]
    rintro (h1 | h1)
    · cases h1
    · omega
  unfold nO takeO
  rw [if_neg hh]
  rfl
theorem nB_at {l : List UInt8} {k n : Nat} (h : k + n ≤ l.length) : nB (l.drop k, false) n = (l.drop (k + n), false) := by
  rw [nB_ok (by rw [List.length_drop]; omega), List.drop_drop]
theorem nN_at {l : List UInt8} {k n : Nat} (h : k + n ≤ l.length) : nN (l.drop k, false) n = (numG (cut l k n) 0 : Nat) := by
  rw [← nO_at h]; rfl
theorem cut_one {l : List UInt8} {k : Nat} (h : k + 1 ≤ l.length) : cut l k 1 = [l.getD k 0] := by
  obtain ⟨b, hb⟩ := len1 (cut_len h)
  rw [hb]
  have : (cut l k 1)[0]? = some b := by rw [hb]; rfl
  unfold cut at this
  rw [List.getElem?_take_of_lt (by decide), List.getElem?_drop, Nat.add_zero] at this
  rw [List.getD_eq_getElem?_getD, this]
  rfl
theorem drop_cut (l : List UInt8) (k n : Nat) : l.drop k = cut l k n ++ l.drop (k + n) := by
  unfold cut
  rw [← List.drop_drop, List.take_append_drop]
theorem drop_end {l : List UInt8} {k n : Nat} (h : l.length = k + n) : l.drop k = cut l k n := by
  unfold cut
  rw [List.take_of_length_le (by rw [List.length_drop]; omega)]
theorem head_cut {l : List UInt8} (h : 0 < l.length) : l = l.getD 0 0 :: l.drop 1 := by
  match l, h with
  | b :: r, _ => rfl
theorem nN_one {l : List UInt8} (h : 0 < l.length) : nN (l, false) 1 = ((l.getD 0 0).toNat : Int) := by
  have := nN_at (l := l) (k := 0) (n := 1) (by omega)
  rw [List.drop_zero, cut_one (by omega), numG_one] at this
  exact this
theorem nB_one {l : List UInt8} (h : 0 < l.length) : nB (l, false) 1 = (l.drop 1, false) := nB_ok (by omega)
theorem numR_one (b : UInt8) : numR [b] 0 = (b.toNat : Int) := by
  show (if (2199023255552 : Int) < 0 then -1 else (0 * 256 + (b.toNat : Int))) = _
  rw [if_neg (by decide)]
  omega
theorem inI_num {n : Nat} (h : n ≤ 562949953421567) : inI (n : Int) := ⟨by omega, by omega⟩
theorem inI_numR (bs : List UInt8) : inI (numR bs 0) := by
  have := numR_bd bs 0 (by decide) (by decide)
  exact ⟨by omega, by omega⟩
theorem inI_byte (b : UInt8) : inI (b.toNat : Int) := by have := b.toNat_lt; exact ⟨by omega, by omega⟩
/-- A record that both read, of a kind whose bytes are of one size. -/
def Both (bs : List UInt8) : Prop := ∃ y N, y.Ok ∧ (N = 0 → y.chk = 0 ∧ y.out = bs) ∧ N ≤ 20 ∧
  (∀ (a : Option Addr) (c : Nat) (w : World) (ea : Nat → Addr), ArgB w a c bs → (∀ ad, a = some ad → ∃ b o, ad = ⟨b, o, none⟩ ∧ b < w.heap.size) → Errs 132 errGs w ea →
    Calls Tryd.prog 14 #[.slice a bs.length c] w fun e w2 => ∃ v, e = .returned (.tuple #[.agg y.list.toArray, v]) ∧ ErrIs ea w2 v N ∧ Below w.heap.size w w2) ∧
  (∀ (a : Option Addr) (c : Nat) (w : World), ArgB w a c bs → Calls Tryd.prog 16 #[.slice a bs.length c] w (RPost y N w))
theorem arg_some {w : World} {a : Option Addr} {c : Nat} {bs : List UInt8} (h : ArgB w a c bs) (h0 : 0 < bs.length) : ∃ b o, a = some ⟨b, o, none⟩ := by
  obtain ⟨b, o, e, _⟩ := h.row 0 h0
  exact ⟨b, o, by simpa using e⟩
theorem both_empty (bs : List UInt8) (h : bs.length = 0) : Both bs := by
  have e : bs = [] := List.length_eq_zero_iff.1 h
  subst e
  refine ⟨Rc.zero, 2, Rc.zero_ok, (fun h => by cases h), by decide, fun a c w ea ha haf H => ?_, fun a c w ha => rpars_empty a c w⟩
  exact parse_empty [] a c 0 w ea (by rw [nB_short (by decide)]) ha rfl (by decide) haf H
theorem both_kind (bs : List UInt8) (h : 0 < bs.length) (hl : bs.length ≤ 500) (hk : inB ((bs.getD 0 0).toNat : Int) 1 4 = false) : Both bs := by
  refine ⟨Rc.zero, 7, Rc.zero_ok, (fun h => by cases h), by decide, fun a c w ea ha haf H => ?_, fun a c w ha => ?_⟩
  · exact parse_kind bs a c _ w ea _ (nN_one h) (by rw [nB_one h]) hk ha rfl (by omega) haf H
  · obtain ⟨b, o, rfl⟩ := arg_some ha h
    exact rpars_kind bs b o c _ _ w ha rfl (by omega) h rfl hk
/-- What rest of kinds 2, 3, 4 hands back, as the walks of Parse ask for it. -/
def RestIs (k : Int) (y : Rc) (s2 : List UInt8 × Bool) (s1 : List UInt8 × Bool) : Prop := ∀ (w : World) W pp, W.heap[pp]? = some (.cells (Rc.ofKind k).list.toArray 31 (0, 0)) → RdM W (w.heap.size + 1) w.heap.size s1.1 s1.2 → pp ≠ w.heap.size + 1 → w.heap.size ≤ pp →
  Calls Tryd.prog 32 #[.pointer (some ⟨w.heap.size + 1, 0, none⟩), .pointer (some ⟨pp, 0, none⟩)] W fun e w2 => e = .returned (.slice none 0 0) ∧ w2.heap[pp]? = some (.cells y.list.toArray 31 (0, 0)) ∧ RdM w2 (w.heap.size + 1) w.heap.size s2.1 s2.2 ∧ Only (fun k => k = pp ∨ k = w.heap.size + 1) W w2
def RestV (k : Int) (y : Rc) (s2 : List UInt8 × Bool) (s1 : List UInt8 × Bool) : Prop := ∀ (w : World) W pp, W.heap[pp]? = some (.cells (Rc.ofKind k).list.toArray 31 (0, 0)) → RdM W (w.heap.size + 1) w.heap.size s1.1 s1.2 → pp ≠ w.heap.size + 1 → w.heap.size ≤ pp →
  Calls Tryd.prog 32 #[.pointer (some ⟨w.heap.size + 1, 0, none⟩), .pointer (some ⟨pp, 0, none⟩)] W fun e w2 => ∃ v, e = .returned v ∧ w2.heap[pp]? = some (.cells y.list.toArray 31 (0, 0)) ∧ RdM w2 (w.heap.size + 1) w.heap.size s2.1 s2.2 ∧ Only (fun k => k = pp ∨ k = w.heap.size + 1) W w2
theorem RestIs.v {k : Int} {y : Rc} {s2 s1 : List UInt8 × Bool} (h : RestIs k y s2 s1) : RestV k y s2 s1 := fun w W pp a1 a2 a3 a4 => (h w W pp a1 a2 a3 a4).mono fun e w2 ⟨q1, q2⟩ => ⟨_, q1, q2⟩
theorem both_short (bs : List UInt8) (h : 0 < bs.length) (hl : bs.length ≤ 500) (k : Int) (hk : ((bs.getD 0 0).toNat : Int) = k) (hi : inB k 1 4 = true) (y : Rc) (s2 : List UInt8 × Bool) (hr : RestV k y s2 (nB (bs, false) 1)) (h2 : s2.2 = true)
    (href : ∀ (b o c : Nat) (w : World), ArgB w (some ⟨b, o, none⟩) c bs → Calls Tryd.prog 16 #[.slice (some ⟨b, o, none⟩) bs.length c] w (RPost Rc.zero 2 w)) : Both bs := by
  refine ⟨Rc.zero, 2, Rc.zero_ok, (fun h => by cases h), by decide, fun a c w ea ha haf H => ?_, fun a c w ha => ?_⟩
  · exact parse_short bs a c _ w ea k (by rw [← hk]; exact nN_one h) y s2 (by rw [nB_one h]) hi (hr w) h2 ha rfl (by omega) haf H
  · obtain ⟨b, o, rfl⟩ := arg_some ha h
    exact href b o c w ha
theorem both_long (bs : List UInt8) (h : 0 < bs.length) (hl : bs.length ≤ 500) (k : Int) (hk : ((bs.getD 0 0).toNat : Int) = k) (hi : inB k 1 4 = true) (y : Rc) (s2 : List UInt8 × Bool) (hr : RestV k y s2 (nB (bs, false) 1)) (h2 : s2.2 = false) (h3 : 0 < s2.1.length)
    (href : ∀ (b o c : Nat) (w : World), ArgB w (some ⟨b, o, none⟩) c bs → Calls Tryd.prog 16 #[.slice (some ⟨b, o, none⟩) bs.length c] w (RPost Rc.zero 3 w)) : Both bs := by
  refine ⟨Rc.zero, 3, Rc.zero_ok, (fun h => by cases h), by decide, fun a c w ea ha haf H => ?_, fun a c w ha => ?_⟩
  · exact parse_long bs a c _ w ea k (by rw [← hk]; exact nN_one h) y s2 (by rw [nB_one h]) hi (hr w) h2 h3 ha rfl (by omega) haf H
  · obtain ⟨b, o, rfl⟩ := arg_some ha h
    exact href b o c w ha
theorem chk_le (y : Rc) : y.chk ≤ 20 := by
  unfold Rc.chk
  split
  · decide
  · split
    · decide
    · split
      · split
        · decide
        · split
          · next hb => have := badAt_lt hb; omega
          · split <;> decide
      · split <;> decide
theorem both_full (bs : List UInt8) (h : 0 < bs.length) (hl : bs.length ≤ 500) (k : Int) (hk : ((bs.getD 0 0).toNat : Int) = k) (hi : inB k 1 4 = true) (y z : Rc) (hy : y.Ok) (hz : z.Ok) (s2 : List UInt8 × Bool) (hr : RestIs k y s2 (nB (bs, false) 1)) (h2 : s2.2 = false) (h3 : s2.1.length = 0)
    (hc : y.chk = z.chk) (he : y.chk = 0 → y = z) (ho : y.chk = 0 → y.out = bs)
    (href : ∀ (b o c : Nat) (w : World), ArgB w (some ⟨b, o, none⟩) c bs → Calls Tryd.prog 16 #[.slice (some ⟨b, o, none⟩) bs.length c] w (RFull z w)) : Both bs := by
  by_cases h0 : y.chk = 0
  · have ho := ho h0
    have he := he h0
    subst he
    refine ⟨y, 0, hy, fun _ => ⟨h0, ho⟩, by decide, fun a c w ea ha haf H => ?_, fun a c w ha => ?_⟩
    · refine (parse_good y hy h0 a c _ w (by rw [ho]; exact ha) (by rw [ho]) (by omega) haf ea H).mono ?_
      rintro e w2 ⟨rfl, hb⟩
      exact ⟨_, rfl, .inl ⟨rfl, rfl⟩, hb⟩
    · obtain ⟨b, o, rfl⟩ := arg_some ha h
      refine (href b o c w ha).mono fun e w2 h => ?_
      unfold RFull at h
      rw [if_pos h0, h0] at h
      exact h
  · refine ⟨Rc.zero, y.chk, Rc.zero_ok, fun h => absurd h h0, chk_le y, fun a c w ea ha haf H => ?_, fun a c w ha => ?_⟩
    · exact parse_chk bs a c _ w ea k (by rw [← hk]; exact nN_one h) y hy s2 (by rw [nB_one h]) hi (hr w) h2 h3 h0 ha rfl (by omega) haf H
    · obtain ⟨b, o, rfl⟩ := arg_some ha h
      refine (href b o c w ha).mono fun e w2 h => ?_
      unfold RFull at h
      rw [if_neg (by rw [← hc]; exact h0), ← hc] at h
      exact h
theorem num_back {l : List UInt8} (h : l.length = 8) {v : Int} (hv : v = (numG l 0 : Nat)) (h2 : v ≤ 1099511627776) : numB v = l := by
  rw [hv] at h2 ⊢
  exact numB_back l h (by omega)
theorem rest_ml {bs : List UInt8} (hl : bs.length ≤ 500) : (nB (bs, false) 1).1.length ≤ 1000000 := Nat.le_trans (nB_le _ _) (by show bs.length ≤ _; omega)
theorem both2 (bs : List UInt8) (h : 0 < bs.length) (hl : bs.length ≤ 500) (hk : ((bs.getD 0 0).toNat : Int) = 2) : Both bs := by
  have hr : RestIs 2 ((Rc.ofKind 2).rest2 (nB (bs, false) 1)) (restS2 (nB (bs, false) 1)) (nB (bs, false) 1) := fun w W pp h1 h2 h3 h4 => rest_k2 pp (w.heap.size + 1) w.heap.size (Rc.ofKind 2) (nB (bs, false) 1) W z32_len z32_len rfl h1 h2 h3 h4 (rest_ml hl)
  have hs : restS2 (nB (bs, false) 1) = nBs (bs, false) [1, 8, 8, 1, 4, 8] := rfl
  rcases Nat.lt_trichotomy bs.length 30 with hlt | heq | hgt
  · exact both_short bs h hl 2 hk (by decide) _ _ hr.v (by rw [hs]; exact nBs_short _ _ (by simpa using hlt)) fun b o c w ha => rpars_short2 bs b o c _ w ha rfl (by omega) h hk hlt
  · have q1 : nB (bs, false) 1 = (bs.drop 1, false) := nB_one h
    have hy : (Rc.ofKind 2).rest2 (nB (bs, false) 1) = { Rc.ofKind 2 with obj := (numG (cut bs 1 8) 0 : Nat), id := (numG (cut bs 9 8) 0 : Nat), way := ((bs.getD 17 0).toNat : Int), index := (numG (cut bs 18 4) 0 : Nat), tick := (numG (cut bs 22 8) 0 : Nat) } := by
      unfold Rc.rest2
      rw [q1, nB_at (by omega), nB_at (by omega), nB_at (by omega), nB_at (by omega), nN_at (by omega), nN_at (by omega), nN_at (by omega), nN_at (by omega), nN_at (by omega), cut_one (k := 17) (by omega), numG_one]
    have hz : (yR2 bs).Ok := ⟨by show inI 2; decide, inI_numR _, inI_numR _, Rc.zero_ok.name, Rc.zero_ok.p, Rc.zero_ok.root, Rc.zero_ok.file, inI_byte _, inI_numR _, Rc.zero_ok.verdict, inI_numR _⟩
    have hg := fun l => inI_num (numG_bd l 0 (by decide))
    have hyk : ((Rc.ofKind 2).rest2 (nB (bs, false) 1)).Ok := by
      rw [hy]
      exact ⟨by show inI 2; decide, hg _, hg _, Rc.zero_ok.name, Rc.zero_ok.p, Rc.zero_ok.root, Rc.zero_ok.file, inI_byte _, hg _, Rc.zero_ok.verdict, hg _⟩
    have hag := chk_agr ((Rc.ofKind 2).rest2 (nB (bs, false) 1)) (yR2 bs) rfl (by rw [hy]; exact num_agr _ 0) (by rw [hy]; exact num_agr _ 0) (by rw [hy]; exact num_agr _ 0) (by rw [hy]; exact num_agr _ 0) rfl rfl rfl rfl (by rw [hy]; rfl) rfl (fun h => absurd rfl h) (fun h => absurd rfl h)
    refine both_full bs h hl 2 hk (by decide) _ (yR2 bs) hyk hz _ hr ?_ ?_ hag.1 hag.2 ?_ fun b o c w ha => ?_
    · rw [hs, nBs_ok _ _ (by simp; omega)]
    · rw [hs, nBs_ok _ _ (by simp; omega)]
      simp; omega
    · intro hc
      obtain ⟨_, hn, _, _⟩ := Rc.chk0 hc
      obtain ⟨r1, r2, r3, _⟩ := nums_of hn
      obtain ⟨r3, r4, r5⟩ := r3 rfl
      unfold Rc.out Rc.head
      rw [if_neg (by show ¬ (2 : Int) = 1; decide), if_pos (by rfl)]
      have e1 := num_back (cut_len (l := bs) (k := 1) (n := 8) (by omega)) (v := ((Rc.ofKind 2).rest2 (nB (bs, false) 1)).obj) (by rw [hy]) r1.2
      have e2 := num_back (cut_len (l := bs) (k := 9) (n := 8) (by omega)) (v := ((Rc.ofKind 2).rest2 (nB (bs, false) 1)).id) (by rw [hy]) r5.2
      have e3 := num_back (cut_len (l := bs) (k := 22) (n := 8) (by omega)) (v := ((Rc.ofKind 2).rest2 (nB (bs, false) 1)).tick) (by rw [hy]) r2.2
      have e4 : (numB ((Rc.ofKind 2).rest2 (nB (bs, false) 1)).index).drop 4 = cut bs 18 4 := by rw [hy]; exact numX_back _ (cut_len (by omega))
      have e5 : [b8 ((Rc.ofKind 2).rest2 (nB (bs, false) 1)).way] = cut bs 17 1 := by rw [hy, cut_one (by omega)]; show [b8 ((bs.getD 17 0).toNat : Int)] = _; rw [b8_byte]
      have e6 : b8 ((Rc.ofKind 2).rest2 (nB (bs, false) 1)).kind = bs.getD 0 0 := by
        rw [← b8_byte (bs.getD 0 0), hk]; rfl
      rw [e1, e2, e3, e4, e5, e6, List.cons_append, ← drop_end (l := bs) (k := 22) (n := 8) (by omega), ← drop_cut bs 18 4, ← drop_cut bs 17 1, ← drop_cut bs 9 8, ← drop_cut bs 1 8, ← head_cut h]
    · have := rpars_full2 bs b o c (yR2 bs) rfl hz w ha heq (by decide) hk
      rw [← heq] at this
      exact this
  · exact both_long bs h hl 2 hk (by decide) _ _ hr.v (by rw [hs, nBs_ok _ _ (by simp; omega)]) (by rw [hs, nBs_ok _ _ (by simp; omega)]; simp; omega) fun b o c w ha => rpars_long2 bs b o c _ w ha rfl (by omega) h hk hgt
theorem both3 (bs : List UInt8) (h : 0 < bs.length) (hl : bs.length ≤ 500) (hk : ((bs.getD 0 0).toNat : Int) = 3) : Both bs := by
  have hr : RestIs 3 ((Rc.ofKind 3).rest3 (nB (bs, false) 1)) (restS3 (nB (bs, false) 1)) (nB (bs, false) 1) := fun w W pp h1 h2 h3 h4 => rest_k3 pp (w.heap.size + 1) w.heap.size (Rc.ofKind 3) (nB (bs, false) 1) W z32_len z32_len rfl h1 h2 h3 h4 (rest_ml hl)
  have hs : restS3 (nB (bs, false) 1) = nBs (bs, false) [1, 8, 8, 1, 8] := rfl
  rcases Nat.lt_trichotomy bs.length 26 with hlt | heq | hgt
  · exact both_short bs h hl 3 hk (by decide) _ _ hr.v (by rw [hs]; exact nBs_short _ _ (by simpa using hlt)) fun b o c w ha => rpars_short3 bs b o c _ w ha rfl (by omega) h hk hlt
  · have q1 : nB (bs, false) 1 = (bs.drop 1, false) := nB_one h
    have hy : (Rc.ofKind 3).rest3 (nB (bs, false) 1) = { Rc.ofKind 3 with obj := (numG (cut bs 1 8) 0 : Nat), id := (numG (cut bs 9 8) 0 : Nat), verdict := ((bs.getD 17 0).toNat : Int), tick := (numG (cut bs 18 8) 0 : Nat) } := by
      unfold Rc.rest3
      rw [q1, nB_at (by omega), nB_at (by omega), nB_at (by omega), nN_at (by omega), nN_at (by omega), nN_at (by omega), nN_at (by omega), cut_one (k := 17) (by omega), numG_one]
    have hz : (yR3 bs).Ok := ⟨by show inI 3; decide, inI_numR _, inI_numR _, Rc.zero_ok.name, Rc.zero_ok.p, Rc.zero_ok.root, Rc.zero_ok.file, Rc.zero_ok.way, Rc.zero_ok.index, inI_byte _, inI_numR _⟩
    have hg := fun l => inI_num (numG_bd l 0 (by decide))
    have hyk : ((Rc.ofKind 3).rest3 (nB (bs, false) 1)).Ok := by
      rw [hy]
      exact ⟨by show inI 3; decide, hg _, hg _, Rc.zero_ok.name, Rc.zero_ok.p, Rc.zero_ok.root, Rc.zero_ok.file, Rc.zero_ok.way, Rc.zero_ok.index, inI_byte _, hg _⟩
    have hag := chk_agr ((Rc.ofKind 3).rest3 (nB (bs, false) 1)) (yR3 bs) rfl (by rw [hy]; exact num_agr _ 0) (by rw [hy]; exact num_agr _ 0) (.inl rfl) (by rw [hy]; exact num_agr _ 0) rfl rfl rfl rfl rfl (by rw [hy]; rfl) (fun _ h => absurd rfl h) (fun _ => rfl)
    refine both_full bs h hl 3 hk (by decide) _ (yR3 bs) hyk hz _ hr ?_ ?_ hag.1 hag.2 ?_ fun b o c w ha => ?_
    · rw [hs, nBs_ok _ _ (by simp; omega)]
    · rw [hs, nBs_ok _ _ (by simp; omega)]
      simp; omega
    · intro hc
      obtain ⟨_, hn, _, _⟩ := Rc.chk0 hc
      obtain ⟨r1, r2, _, r3⟩ := nums_of hn
      obtain ⟨r3, r5⟩ := r3 rfl
      unfold Rc.out Rc.head
      rw [if_neg (by show ¬ (3 : Int) = 1; decide), if_neg (by show ¬ (3 : Int) = 2; decide), if_pos (by rfl)]
      have e1 := num_back (cut_len (l := bs) (k := 1) (n := 8) (by omega)) (v := ((Rc.ofKind 3).rest3 (nB (bs, false) 1)).obj) (by rw [hy]) r1.2
      have e2 := num_back (cut_len (l := bs) (k := 9) (n := 8) (by omega)) (v := ((Rc.ofKind 3).rest3 (nB (bs, false) 1)).id) (by rw [hy]) r5.2
      have e3 := num_back (cut_len (l := bs) (k := 18) (n := 8) (by omega)) (v := ((Rc.ofKind 3).rest3 (nB (bs, false) 1)).tick) (by rw [hy]) r2.2
      have e5 : [b8 ((Rc.ofKind 3).rest3 (nB (bs, false) 1)).verdict] = cut bs 17 1 := by rw [hy, cut_one (by omega)]; show [b8 ((bs.getD 17 0).toNat : Int)] = _; rw [b8_byte]
      have e6 : b8 ((Rc.ofKind 3).rest3 (nB (bs, false) 1)).kind = bs.getD 0 0 := by
        rw [← b8_byte (bs.getD 0 0), hk]; rfl
      rw [e1, e2, e3, e5, e6, List.cons_append, ← drop_end (l := bs) (k := 18) (n := 8) (by omega), ← drop_cut bs 17 1, ← drop_cut bs 9 8, ← drop_cut bs 1 8, ← head_cut h]
    · have := rpars_full3 bs b o c (yR3 bs) rfl hz w ha heq (by decide) hk
      rw [← heq] at this
      exact this
  · exact both_long bs h hl 3 hk (by decide) _ _ hr.v (by rw [hs, nBs_ok _ _ (by simp; omega)]) (by rw [hs, nBs_ok _ _ (by simp; omega)]; simp; omega) fun b o c w ha => rpars_long3 bs b o c _ w ha rfl (by omega) h hk hgt
theorem both4 (bs : List UInt8) (h : 0 < bs.length) (hl : bs.length ≤ 500) (hk : ((bs.getD 0 0).toNat : Int) = 4) : Both bs := by
  have hr : RestIs 4 ((Rc.ofKind 4).rest4 (nB (bs, false) 1)) (restS4 (nB (bs, false) 1)) (nB (bs, false) 1) := fun w W pp h1 h2 h3 h4 => rest_k4 pp (w.heap.size + 1) w.heap.size (Rc.ofKind 4) (nB (bs, false) 1) W z32_len z32_len rfl h1 h2 h3 h4 (rest_ml hl)
  have hs : restS4 (nB (bs, false) 1) = nBs (bs, false) [1, 8, 8] := rfl
  rcases Nat.lt_trichotomy bs.length 17 with hlt | heq | hgt
  · exact both_short bs h hl 4 hk (by decide) _ _ hr.v (by rw [hs]; exact nBs_short _ _ (by simpa using hlt)) fun b o c w ha => rpars_short4 bs b o c _ w ha rfl (by omega) h hk hlt
  · have q1 : nB (bs, false) 1 = (bs.drop 1, false) := nB_one h
    have hy : (Rc.ofKind 4).rest4 (nB (bs, false) 1) = { Rc.ofKind 4 with obj := (numG (cut bs 1 8) 0 : Nat), tick := (numG (cut bs 9 8) 0 : Nat) } := by
      unfold Rc.rest4
      rw [q1, nB_at (by omega), nN_at (by omega), nN_at (by omega)]
    have hz : (yR4 bs).Ok := ⟨by show inI 4; decide, inI_numR _, Rc.zero_ok.id, Rc.zero_ok.name, Rc.zero_ok.p, Rc.zero_ok.root, Rc.zero_ok.file, Rc.zero_ok.way, Rc.zero_ok.index, Rc.zero_ok.verdict, inI_numR _⟩
    have hg := fun l => inI_num (numG_bd l 0 (by decide))
    have hyk : ((Rc.ofKind 4).rest4 (nB (bs, false) 1)).Ok := by
      rw [hy]
      exact ⟨by show inI 4; decide, hg _, Rc.zero_ok.id, Rc.zero_ok.name, Rc.zero_ok.p, Rc.zero_ok.root, Rc.zero_ok.file, Rc.zero_ok.way, Rc.zero_ok.index, Rc.zero_ok.verdict, hg _⟩
    have hag := chk_agr ((Rc.ofKind 4).rest4 (nB (bs, false) 1)) (yR4 bs) rfl (by rw [hy]; exact num_agr _ 0) (.inl rfl) (.inl rfl) (by rw [hy]; exact num_agr _ 0) rfl rfl rfl rfl rfl rfl (fun _ _ => rfl) (fun _ => rfl)
    refine both_full bs h hl 4 hk (by decide) _ (yR4 bs) hyk hz _ hr ?_ ?_ hag.1 hag.2 ?_ fun b o c w ha => ?_
    · rw [hs, nBs_ok _ _ (by simp; omega)]
    · rw [hs, nBs_ok _ _ (by simp; omega)]
      simp; omega
    · intro hc
      obtain ⟨_, hn, _, _⟩ := Rc.chk0 hc
      obtain ⟨r1, r2, _, r3⟩ := nums_of hn
      unfold Rc.out Rc.head
      rw [if_neg (by show ¬ (4 : Int) = 1; decide), if_neg (by show ¬ (4 : Int) = 2; decide), if_neg (by show ¬ (4 : Int) = 3; decide)]
      have e1 := num_back (cut_len (l := bs) (k := 1) (n := 8) (by omega)) (v := ((Rc.ofKind 4).rest4 (nB (bs, false) 1)).obj) (by rw [hy]) r1.2
      have e3 := num_back (cut_len (l := bs) (k := 9) (n := 8) (by omega)) (v := ((Rc.ofKind 4).rest4 (nB (bs, false) 1)).tick) (by rw [hy]) r2.2
      have e6 : b8 ((Rc.ofKind 4).rest4 (nB (bs, false) 1)).kind = bs.getD 0 0 := by
        rw [← b8_byte (bs.getD 0 0), hk]; rfl
      rw [e1, e3, e6, List.cons_append, ← drop_end (l := bs) (k := 9) (n := 8) (by omega), ← drop_cut bs 1 8, ← head_cut h]
    · have := rpars_full4 bs b o c (yR4 bs) rfl hz w ha heq (by decide) hk
      rw [← heq] at this
      exact this
  · exact both_long bs h hl 4 hk (by decide) _ _ hr.v (by rw [hs, nBs_ok _ _ (by simp; omega)]) (by rw [hs, nBs_ok _ _ (by simp; omega)]; simp; omega) fun b o c w ha => rpars_long4 bs b o c _ w ha rfl (by omega) h hk hgt
end Go.Proofs.YtahnicbokdbjdaaDoor
