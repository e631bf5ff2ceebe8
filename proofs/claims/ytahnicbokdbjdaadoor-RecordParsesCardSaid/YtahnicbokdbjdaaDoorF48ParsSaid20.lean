/- PAll1, Enum, YieldRow. -/
import Derived.Test.YtahnicbokdbjdaaDoorF47ParsSaid20
import Derived.Test.YtahnicbokdbjdaaDoorRows
import Derived.Test.YtahnicbokdbjdaaDoorF1ParsSaid20
import Derived.Outline
import Derived.Test.YtahnicbokdbjdaaDoorF3ParsSaid20
/- Both readers of records: kind 1; and for all bytes. -/
namespace Go.Proofs.YtahnicbokdbjdaaDoor
open Go.RowKit
set_option linter.unusedVariables false

theorem len9 {l : List UInt8} (h : l.length = 9) : ∃ b0 b1 b2 b3 b4 b5 b6 b7 b8, l = [b0, b1, b2, b3, b4, b5, b6, b7, b8] := by
  match l, h with
  | [b0, b1, b2, b3, b4, b5, b6, b7, b8], _ => exact ⟨b0, b1, b2, b3, b4, b5, b6, b7, b8, rfl⟩
/-- Parameters as nine bytes tell them. -/
def q9 (l : List UInt8) : P6 := ⟨((l.getD 0 0).toNat : Int) * 256 + (l.getD 1 0).toNat, (l.getD 2 0).toNat, (l.getD 3 0).toNat, ((l.getD 4 0).toNat : Int) * 256 + (l.getD 5 0).toNat, ((l.getD 6 0).toNat : Int) * 256 + (l.getD 7 0).toNat, (l.getD 8 0).toNat⟩
def bad9 (l : List UInt8) : Option (ByteArray × Int × Nat) := badAt (q9 l).s (q9 l).n (q9 l).k (q9 l).d (q9 l).t (q9 l).r
theorem q9_ok (l : List UInt8) : (q9 l).Ok := by
  have h := fun i => (l.getD i 0).toNat_lt
  have h0 := h 0
  have h1 := h 1
  have h2 := h 2
  have h3 := h 3
  have h4 := h 4
  have h5 := h 5
  have h6 := h 6
  have h7 := h 7
  have h8 := h 8
  refine ⟨?_, ?_, ?_, ?_, ?_, ?_⟩ <;> simp only [q9, inI] <;> omega
theorem b8_eq {z : Int} {b : UInt8} (h : z % 256 = b.toNat) : b8 z = b := by
  refine UInt8.toNat_inj.1 ?_
  have := b8_mod z
  omega
theorem bytes9 {l : List UInt8} (h : l.length = 9) : bytesL (q9 l).s (q9 l).n (q9 l).k (q9 l).d (q9 l).t (q9 l).r = l := by
  obtain ⟨b0, b1, b2, b3, b4, b5, b6, b7, b8', rfl⟩ := len9 h
  have k0 := b0.toNat_lt
  have k1 := b1.toNat_lt
  have k2 := b2.toNat_lt
  have k3 := b3.toNat_lt
  have k4 := b4.toNat_lt
  have k5 := b5.toNat_lt
  have k6 := b6.toNat_lt
  have k7 := b7.toNat_lt
  have k8 := b8'.toNat_lt
  unfold bytesL q9
  simp only [List.getD_cons_zero, List.getD_cons_succ]
  rw [b8_eq (b := b0) (by omega), b8_eq (b := b1) (by omega), b8_eq (b := b2) (by omega), b8_eq (b := b3) (by omega), b8_eq (b := b4) (by omega), b8_eq (b := b5) (by omega), b8_eq (b := b6) (by omega), b8_eq (b := b7) (by omega), b8_eq (b := b8') (by omega)]
theorem ppar_any (xs : List UInt8) (h9 : xs.length = 9) (g cc : Nat) (w : World) (hA : ArgB w (some ⟨g, 0, none⟩) cc xs) (ea : Nat → Addr) (H : Errs 132 errGs w ea) :
    (bad9 xs = none → Calls Tryd.prog 33 #[.slice (some ⟨g, 0, none⟩) 9 cc] w fun e w2 => e = .returned (.tuple #[.agg (q9 xs).list.toArray, .nilIface]) ∧ Below w.heap.size w w2) ∧
    (∀ F V i, bad9 xs = some (F, V, i) → Calls Tryd.prog 33 #[.slice (some ⟨g, 0, none⟩) 9 cc] w fun e w2 => ∃ v, e = .returned (.tuple #[.agg #[.int .i64 0, .int .i64 0, .int .i64 0, .int .i64 0, .int .i64 0, .int .i64 0], v]) ∧ ErrIs ea w2 v (i + 1) ∧ Below w.heap.size w w2) := by
  have hc := argB_cells hA
  have hcc : 9 ≤ cc := by have := hA.len; omega
  constructor
  · intro h
    exact parse_right g 0 cc (xs.getD 0 0) (xs.getD 1 0) (xs.getD 2 0) (xs.getD 3 0) (xs.getD 4 0) (xs.getD 5 0) (xs.getD 6 0) (xs.getD 7 0) (xs.getD 8 0) hcc w h (pz ea) (par_of H) (hc 0 (by omega)) (hc 1 (by omega)) (hc 2 (by omega)) (hc 3 (by omega)) (hc 4 (by omega)) (hc 5 (by omega)) (hc 6 (by omega)) (hc 7 (by omega)) (hc 8 (by omega))
  · intro F V i h
    refine (parse_wrong g 0 cc (xs.getD 0 0) (xs.getD 1 0) (xs.getD 2 0) (xs.getD 3 0) (xs.getD 4 0) (xs.getD 5 0) (xs.getD 6 0) (xs.getD 7 0) (xs.getD 8 0) hcc w F V i h ea H (hc 0 (by omega)) (hc 1 (by omega)) (hc 2 (by omega)) (hc 3 (by omega)) (hc 4 (by omega)) (hc 5 (by omega)) (hc 6 (by omega)) (hc 7 (by omega)) (hc 8 (by omega))).mono ?_
    rintro e w2 ⟨g2, rfl, ⟨_, h2⟩, h3⟩
    exact ⟨_, rfl, .inr (.inr ⟨i, g2, F, V, badAt_lt h, rfl, rfl, h2⟩), h3⟩
theorem rpar_any (bs : List UInt8) (b o c m : Nat) (hm : 10 + m + 9 ≤ bs.length) (w : World) (ha : ArgB w (some ⟨b, o, none⟩) c bs) (W : World) (hW : Below w.heap.size w W) :
    (bad9 (cut bs (10 + m) 9) = none → Calls Tryd.prog 35 #[.slice (some ⟨b, o + (10 + m), none⟩) 9 (c - (10 + m))] W fun e w2 => e = .returned (.tuple #[.agg (q9 (cut bs (10 + m) 9)).list.toArray, .int .i64 0]) ∧ Below W.heap.size W w2) ∧
    (∀ F V i, bad9 (cut bs (10 + m) 9) = some (F, V, i) → Calls Tryd.prog 35 #[.slice (some ⟨b, o + (10 + m), none⟩) 9 (c - (10 + m))] W fun e w2 => e = .returned (.tuple #[.agg P6.zero.list.toArray, .int .i64 ((i + 1 : Nat) : Int)]) ∧ Below W.heap.size W w2) := by
  obtain ⟨hA, hl⟩ := argB_cut (ha.below hW) (10 + m) 9 (by omega)
  generalize cut bs (10 + m) 9 = xs at *
  have hc : ∀ i, i < xs.length → W.cell? ⟨b, o + (10 + m) + i, none⟩ = some (.int .u8 ((xs.getD i 0).toNat : Int)) := argB_cells hA
  have hcc : 9 ≤ c - (10 + m) := by have := hA.len; omega
  have h := fun B hB => rparse_nine b (o + (10 + m)) (c - (10 + m)) (xs.getD 0 0) (xs.getD 1 0) (xs.getD 2 0) (xs.getD 3 0) (xs.getD 4 0) (xs.getD 5 0) (xs.getD 6 0) (xs.getD 7 0) (xs.getD 8 0) hcc W B hB (hc 0 (by omega)) (hc 1 (by omega)) (hc 2 (by omega)) (hc 3 (by omega)) (hc 4 (by omega)) (hc 5 (by omega)) (hc 6 (by omega)) (hc 7 (by omega)) (hc 8 (by omega))
  exact ⟨fun hb => h none hb, fun F V i hb => h (some (F, V, i)) hb⟩
theorem both1 (bs : List UInt8) (h : 0 < bs.length) (hl : bs.length ≤ 500) (hk : ((bs.getD 0 0).toNat : Int) = 1) : Both bs := by
  have hr0 := fun (w : World) W pp h1 h2 h3 h4 => rest_k1 pp (w.heap.size + 1) w.heap.size (Rc.ofKind 1) (nB (bs, false) 1) W z32_len z32_len rfl h1 h2 h3 h4 (rest_ml hl)
  have hr : RestV 1 ((Rc.ofKind 1).rest1 (nB (bs, false) 1)) (restS1 (nB (bs, false) 1)) (nB (bs, false) 1) := fun w W pp h1 h2 h3 h4 => (hr0 w W pp h1 h2 h3 h4).mono fun e w2 ⟨g, c, q1, _, _, q2⟩ => ⟨_, q1, q2⟩
  have hs : restS1 (nB (bs, false) 1) = nBs (bs, false) [1, 8, 1, r1len (nB (bs, false) 1), 9, 32, 32, 8] := rfl
  have q1 : nB (bs, false) 1 = (bs.drop 1, false) := nB_one h
  by_cases h10 : bs.length < 10
  · exact both_short bs h hl 1 hk (by decide) _ _ hr (by rw [hs]; exact nBs_short _ _ (by simp; omega)) fun b o c w ha => rpars_ten bs b o c _ w ha rfl (by omega) h hk h10
  · obtain ⟨m, hm⟩ : ∃ m, (bs.getD 9 0).toNat = m := ⟨_, rfl⟩
    have hm9 : m ≤ 255 := by have := (bs.getD 9 0).toNat_lt; omega
    have hrl : r1len (nB (bs, false) 1) = m := by
      have e : nN (nB (nB (bs, false) 1) 8) 1 = (m : Int) := by rw [q1, nB_at (by omega), nN_at (by omega), cut_one (by omega), numG_one, hm]
      have e2 : nN (nB (nB (bs, false) 1) 8) 1 = ((r1len (nB (bs, false) 1) : Nat) : Int) := rfl
      omega
    rw [hrl] at hs
    rcases Nat.lt_trichotomy bs.length (91 + m) with hlt | heq | hgt
    · exact both_short bs h hl 1 hk (by decide) _ _ hr (by rw [hs]; exact nBs_short _ _ (by simp; omega)) fun b o c w ha => rpars_short1 bs b o c _ w ha rfl (by omega) (by omega) hk (by omega)
    · have hxs : nO (r1s3 (nB (bs, false) 1)) 9 = cut bs (10 + m) 9 := by
        unfold r1s3 r1s2
        rw [hrl, q1, nB_at (by omega), nB_at (by omega), nB_at (by omega), nO_at (by omega)]
      have hy0 : (Rc.ofKind 1).rest1 (nB (bs, false) 1) = { Rc.ofKind 1 with obj := (numG (cut bs 1 8) 0 : Nat), name := ⟨(cut bs 10 m).toArray⟩, root := cut bs (19 + m) 32, file := cut bs (51 + m) 32, tick := (numG (cut bs (83 + m) 8) 0 : Nat) } := by
        unfold Rc.rest1 r1s6 r1s5 r1s4 r1s3 r1s2
        rw [hrl, q1, nB_at (by omega), nB_at (by omega), nB_at (by omega), nB_at (by omega), nB_at (by omega), nB_at (by omega), nN_at (by omega), nN_at (by omega), nO_at (by omega), nO_at (by omega), nO_at (by omega)]
        rw [show 1 + 8 + 1 + m + 9 = 19 + m from by omega, show 19 + m + 32 = 51 + m from by omega, show 51 + m + 32 = 83 + m from by omega]
      have hg := fun l => inI_num (numG_bd l 0 (by decide))
      have hnm : (⟨(cut bs 10 m).toArray⟩ : ByteArray).size = m := by
        show (cut bs 10 m).toArray.size = m
        rw [List.size_toArray]
        exact cut_len (by omega)
      have hnl : (⟨(cut bs 10 m).toArray⟩ : ByteArray).size ≤ maxLen := by rw [hnm]; unfold maxLen; omega
      have hyk0 : ((Rc.ofKind 1).rest1 (nB (bs, false) 1)).Ok := by
        rw [hy0]
        exact ⟨by show inI 1; decide, hg _, Rc.zero_ok.id, hnl, Rc.zero_ok.p, cut_len (by omega), cut_len (by omega), Rc.zero_ok.way, Rc.zero_ok.index, Rc.zero_ok.verdict, hg _⟩
      have hzk : ∀ q : P6, q.Ok → (yR1 bs m q).Ok := fun q hq => ⟨by show inI 1; decide, inI_numR _, Rc.zero_ok.id, hnl, hq, cut_len (by omega), cut_len (by omega), Rc.zero_ok.way, Rc.zero_ok.index, Rc.zero_ok.verdict, inI_numR _⟩
      have hs2 : restS1 (nB (bs, false) 1) = (bs.drop (91 + m), false) := by rw [hs, nBs_ok _ _ (by simp; omega)]; congr 2; simp; omega
      have hs2l : (restS1 (nB (bs, false) 1)).1.length = 0 := by rw [hs2]; simp; omega
      have hs2f : (restS1 (nB (bs, false) 1)).2 = false := by rw [hs2]
      have hx9 : (cut bs (10 + m) 9).length = 9 := cut_len (by omega)
      have hrq : ∀ (w : World) W pp, W.heap[pp]? = some (.cells (Rc.ofKind 1).list.toArray 31 (0, 0)) → RdM W (w.heap.size + 1) w.heap.size (nB (bs, false) 1).1 (nB (bs, false) 1).2 → pp ≠ w.heap.size + 1 → w.heap.size ≤ pp →
          Calls Tryd.prog 32 #[.pointer (some ⟨w.heap.size + 1, 0, none⟩), .pointer (some ⟨pp, 0, none⟩)] W fun e w2 => ∃ g cc, e = .returned (.slice (some ⟨g, 0, none⟩) 9 cc) ∧ ArgB w2 (some ⟨g, 0, none⟩) cc (cut bs (10 + m) 9) ∧ w2.heap[pp]? = some (.cells ((Rc.ofKind 1).rest1 (nB (bs, false) 1)).list.toArray 31 (0, 0)) ∧ RdM w2 (w.heap.size + 1) w.heap.size (restS1 (nB (bs, false) 1)).1 (restS1 (nB (bs, false) 1)).2 ∧ Only (fun k => k = pp ∨ k = w.heap.size + 1) W w2 := by
        intro w W pp h1 h2 h3 h4
        refine (hr0 w W pp h1 h2 h3 h4).mono ?_
        rintro e w2 ⟨g, c, a1, a2, _, a3, a4, a5⟩
        rw [hxs] at a2
        exact ⟨g, c, a1, a2, a3, a4, a5⟩
      cases hb : bad9 (cut bs (10 + m) 9) with
      | some q =>
        obtain ⟨F, V, i⟩ := q
        refine ⟨Rc.zero, i + 1, Rc.zero_ok, (fun h => by cases h), by have := badAt_lt hb; omega, fun a c w ea ha haf H => ?_, fun a c w ha => ?_⟩
        · exact parse_par bs a c _ w ea 1 (by rw [← hk]; exact nN_one h) _ _ (cut bs (10 + m) 9) i (by rw [nB_one h]) (by decide) (hrq w) hs2f hs2l (fun W g cc hA hE => (ppar_any _ hx9 g cc W hA ea hE).2 F V i hb) ha rfl (by omega) haf H
        · obtain ⟨b, o, rfl⟩ := arg_some ha h
          have := rpars_par1 bs b o c m P6.zero ((i + 1 : Nat) : Int) (by simp; omega) (yR1 bs m P6.zero) rfl (hzk _ Rc.zero_ok.p) w ha heq (by omega) hk hm (fun W hW => (rpar_any bs b o c m (by omega) w ha W hW).2 F V i hb)
          rw [← heq] at this
          exact this
      | none =>
        have hq := q9_ok (cut bs (10 + m) 9)
        have hy : { (Rc.ofKind 1).rest1 (nB (bs, false) 1) with p := q9 (cut bs (10 + m) 9) } = ({ Rc.ofKind 1 with obj := (numG (cut bs 1 8) 0 : Nat), name := ⟨(cut bs 10 m).toArray⟩, p := q9 (cut bs (10 + m) 9), root := cut bs (19 + m) 32, file := cut bs (51 + m) 32, tick := (numG (cut bs (83 + m) 8) 0 : Nat) } : Rc) := by rw [hy0]
        obtain ⟨y, hyd⟩ : ∃ y : Rc, y = { (Rc.ofKind 1).rest1 (nB (bs, false) 1) with p := q9 (cut bs (10 + m) 9) } := ⟨_, rfl⟩
        have hyp : y.p = q9 (cut bs (10 + m) 9) := by rw [hyd]
        have hyk : y.Ok := by
          rw [hyd]
          exact ⟨hyk0.kind, hyk0.obj, hyk0.id, hyk0.name, hq, hyk0.root, hyk0.file, hyk0.way, hyk0.index, hyk0.verdict, hyk0.tick⟩
        rw [← hyd] at hy
        have hz := hzk _ hq
        have hag := chk_agr y (yR1 bs m (q9 (cut bs (10 + m) 9))) (by rw [hy]; rfl) (by rw [hy]; exact num_agr _ 0) (.inl (by rw [hy]; rfl)) (.inl (by rw [hy]; rfl)) (by rw [hy]; exact num_agr _ 0) (by rw [hy]; rfl) (by rw [hy]; rfl) (by rw [hy]; rfl) (by rw [hy]; rfl) (by rw [hy]; rfl) (by rw [hy]; rfl) (fun _ _ => by rw [hy]; rfl) (fun _ => by rw [hy]; rfl)
        have href : ∀ (b o c : Nat) (w : World), ArgB w (some ⟨b, o, none⟩) c bs → Calls Tryd.prog 16 #[.slice (some ⟨b, o, none⟩) bs.length c] w (RFull (yR1 bs m (q9 (cut bs (10 + m) 9))) w) := by
          intro b o c w ha
          have := rpars_full1 bs b o c m (q9 (cut bs (10 + m) 9)) _ rfl hz w ha heq (by omega) hk hm (fun W hW => (rpar_any bs b o c m (by omega) w ha W hW).1 hb)
          rw [← heq] at this
          exact this
        by_cases h0 : y.chk = 0
        · have ho : y.out = bs := by
            obtain ⟨_, hn, _, _⟩ := Rc.chk0 h0
            obtain ⟨r1, r2, _, _⟩ := nums_of hn
            have hkk : y.kind = 1 := by rw [hy]; rfl
            unfold Rc.out Rc.head
            rw [if_pos hkk, hkk]
            have e1 := num_back (cut_len (l := bs) (k := 1) (n := 8) (by omega)) (v := y.obj) (by rw [hy]) r1.2
            have e2 := num_back (cut_len (l := bs) (k := 83 + m) (n := 8) (by omega)) (v := y.tick) (by rw [hy]) r2.2
            have e3 : bytesL y.p.s y.p.n y.p.k y.p.d y.p.t y.p.r = cut bs (10 + m) 9 := by rw [hyp]; exact bytes9 hx9
            have e4 : [b8 (y.name.size : Int)] = cut bs 9 1 := by
              rw [hy, cut_one (by omega)]
              show [b8 (((⟨(cut bs 10 m).toArray⟩ : ByteArray).size : Nat) : Int)] = _
              rw [hnm, ← hm, b8_byte]
            have e5 : y.name.data.toList = cut bs 10 m := by rw [hy]
            have e6 : y.root = cut bs (19 + m) 32 := by rw [hy]
            have e7 : y.file = cut bs (51 + m) 32 := by rw [hy]
            have e8 : b8 1 = bs.getD 0 0 := by rw [← b8_byte (bs.getD 0 0), hk]
            have d1 := drop_end (l := bs) (k := 83 + m) (n := 8) (by omega)
            have d2 := drop_cut bs (51 + m) 32
            have d3 := drop_cut bs (19 + m) 32
            have d4 := drop_cut bs (10 + m) 9
            have d5 := drop_cut bs 10 m
            have d6 := drop_cut bs 9 1
            have d7 := drop_cut bs 1 8
            rw [show 51 + m + 32 = 83 + m from by omega] at d2
            rw [show 19 + m + 32 = 51 + m from by omega] at d3
            rw [show 10 + m + 9 = 19 + m from by omega] at d4
            rw [e1, e2, e3, e4, e5, e6, e7, e8, List.cons_append, ← d1, ← d2, ← d3, ← d4, ← d5, ← d6, ← d7, ← head_cut h]
          have he := hag.2 h0
          refine ⟨y, 0, hyk, fun _ => ⟨h0, ho⟩, by decide, fun a c w ea ha haf H => ?_, fun a c w ha => ?_⟩
          · refine (parse_good y hyk h0 a c _ w (by rw [ho]; exact ha) (by rw [ho]) (by omega) haf ea H).mono ?_
            rintro e w2 ⟨rfl, hb⟩
            exact ⟨_, rfl, .inl ⟨rfl, rfl⟩, hb⟩
          · obtain ⟨b, o, rfl⟩ := arg_some ha h
            refine (href b o c w ha).mono fun e w2 h => ?_
            unfold RFull at h
            rw [← he, if_pos h0, h0] at h
            exact h
        · refine ⟨Rc.zero, y.chk, Rc.zero_ok, fun h => absurd h h0, chk_le y, fun a c w ea ha haf H => ?_, fun a c w ha => ?_⟩
          · exact parse_chk1 bs a c _ w ea 1 (by rw [← hk]; exact nN_one h) y hyk _ hyk0 (by rw [hyp]; exact hyd) _ (cut bs (10 + m) 9) (by rw [nB_one h]) (by decide) (hrq w) hs2f hs2l (fun W g cc hA hE => by rw [hyp]; exact (ppar_any _ hx9 g cc W hA ea hE).1 hb) h0 ha rfl (by omega) haf H
          · obtain ⟨b, o, rfl⟩ := arg_some ha h
            refine (href b o c w ha).mono fun e w2 h => ?_
            unfold RFull at h
            rw [if_neg (by rw [← hag.1]; exact h0), ← hag.1] at h
            exact h
    · exact both_long bs h hl 1 hk (by decide) _ _ hr (by rw [hs, nBs_ok _ _ (by simp; omega)]) (by rw [hs, nBs_ok _ _ (by simp; omega)]; simp; omega) fun b o c w ha => rpars_long1 bs b o c _ w ha rfl (by omega) (by omega) hk (by omega)
theorem both_all (bs : List UInt8) (hl : bs.length ≤ 500) : Both bs := by
  by_cases h : 0 < bs.length
  · cases hi : inB ((bs.getD 0 0).toNat : Int) 1 4 with
    | false => exact both_kind bs h hl hi
    | true =>
      unfold inB at hi
      simp only [Bool.and_eq_true, decide_eq_true_eq] at hi
      rcases (show ((bs.getD 0 0).toNat : Int) = 1 ∨ ((bs.getD 0 0).toNat : Int) = 2 ∨ ((bs.getD 0 0).toNat : Int) = 3 ∨ ((bs.getD 0 0).toNat : Int) = 4 by omega) with h1 | h1 | h1 | h1
      · exact both1 bs h hl h1
      · exact both2 bs h hl h1
      · exact both3 bs h hl h1
      · exact both4 bs h hl h1
  · exact both_empty bs (by omega)
end Go.Proofs.YtahnicbokdbjdaaDoor
/- Walks over package baileenum: Bytes, Kept. -/
namespace Go.Proofs.YtahnicbokdbjdaaDoor
open Go.RowKit

theorem Tryd.infoByte : (Tryd.prog.info? 5).map (fun i => (i.zero, i.size, i.bytes)) = some (some (.int .u8 0), 1, 1) := by kernel_rfl
def marksB : List UInt8 := [201, 202, 203, 204, 205, 206]

set_option maxHeartbeats 1000000 in
theorem bytes_any (a : Option Addr) (cap : Nat) (bs : List UInt8) (w : World) (h : ArgB w a cap bs) (hr : bs.length ≤ 1000000) :
    Calls Tryd.prog 15 #[.slice a bs.length cap] w fun e w' => ∃ g, w.heap.size ≤ g ∧ e = .returned (.slice (some ⟨g, 0, none⟩) bs.length (bs.length + 6)) ∧ g < w'.heap.size ∧
      At w' (some ⟨g, 0, none⟩) (cB (bs ++ marksB)) ∧ Below w.heap.size w w' := by
  obtain ⟨i0, hi, hz0, hz1, hz2⟩ := info_parts Tryd.infoByte
  have h := Lib.hid h
  go_enter Tryd.func15, Tryd.ntmps15
  go_wp2_with (at_make; go_must (refine wpList_make_own _ rfl _ _ 36 rfl w.heap.size 5 i0 (.int .u8 0) 1 Tryd.underlying36 hi hz0 hz1 _ _ _ (bs.length + 6) rfl rfl (by simp) (by rw [hz2]; omega) (by unfold maxLen; omega) (Nat.le_refl _) ?_))
  intro w1 hown1 hg1
  replace hown1 := Lib.hid hown1
  have hb1 : Below w.heap.size w w1 := (Below.refl _ _).grown hg1 (Nat.le_refl _) (fun k hk => by cases hk)
  replace hb1 := Lib.hid hb1
  clear hg1
  have hsrc := Lib.hid ((At.ofB h.out.row).below hb1.out)
  have hnil := Lib.hid h.out.nil
  have hlen := Lib.hid (cB_length bs)
  go_wp2_with (at_builtin; go_must (refine wpList_fits rfl (.tmp 7) (.tmp 8) 36 rfl w.heap.size 5 i0 Tryd.underlying36 hi hz1 w.heap.size 0 (bs.length + 6) [] rfl hown1 _ bs.length cap (cB bs) rfl hlen hsrc hnil (cB_one bs) (by omega) ?_))
  intro w2 hown2 hg2
  have hb2 := Lib.hid (hb1.out.grown hg2.out (by have := hb1.out.size; omega) (fun k hk => by cases hk; exact Nat.le_refl _))
  clear hsrc hown1 hg2
  have hsrc2 : At (w2.alloc (.cells #[.int .u8 201, .int .u8 202, .int .u8 203, .int .u8 204, .int .u8 205, .int .u8 206] 5)) (some ⟨w2.heap.size, 0, none⟩) (cB marksB) := by
    intro i hi
    refine ⟨w2.heap.size, 0, rfl, ?_⟩
    rw [cell_of_block (heap_alloc_new w2 _)]
    match i, hi with
    | 0, _ => rfl
    | 1, _ => rfl
    | 2, _ => rfl
    | 3, _ => rfl
    | 4, _ => rfl
    | 5, _ => rfl
    | i + 6, hi => simp [cB, marksB] at hi; omega
  replace hsrc2 := Lib.hid hsrc2
  have hown3 := Lib.hid (World.ownsRow.alloc hown2.out (.cells #[.int .u8 201, .int .u8 202, .int .u8 203, .int .u8 204, .int .u8 205, .int .u8 206] 5))
  have hlen2 := Lib.hid (show (cB marksB).length = 6 from rfl)
  have hnil2 := Lib.hid (show ((some ⟨w2.heap.size, 0, none⟩ : Option Addr) = none → 6 = 0) from fun e => by cases e)
  have hb3 := Lib.hid (hb2.out.alloc hb2.out.size (.cells #[.int .u8 201, .int .u8 202, .int .u8 203, .int .u8 204, .int .u8 205, .int .u8 206] 5))
  clear hown2 hb1 hb2 hnil hlen
  go_wp2_with (at_builtin; go_must (refine wpList_fits rfl (.tmp 9) (.tmp 10) 36 rfl w.heap.size 5 i0 Tryd.underlying36 hi hz1 w.heap.size bs.length (bs.length + 6) (cB bs) rfl hown3 _ 6 6 (cB marksB) rfl hlen2 hsrc2 hnil2 (cB_one _) (by omega) ?_))
  intro w4 hown4 hg4
  have hb4 := Lib.hid (hb3.out.grown hg4.out hb3.out.size (fun k hk => by cases hk; exact Nat.le_refl _))
  clear hsrc2 hown3 hg4 hb3
  have hlt : w.heap.size < w4.heap.size := (World.ownsRow.lt hown4.out _ rfl).2
  go_wp2_with fail
  go_ret
  refine ⟨w.heap.size, Nat.le_refl _, rfl, hlt, ?_, hb4.out⟩
  rw [cB_append]
  exact owns_at hown4.out

theorem marks_row {w : World} {a : Option Addr} {bs : List UInt8} (h : At w a (cB (bs ++ marksB))) : RowB w a bs := by
  apply At.toB
  have h1 := h.take bs.length
  rw [cB_append, show (cB bs ++ cB marksB).take bs.length = cB bs from by rw [← cB_length bs]; simp] at h1
  exact h1

set_option maxHeartbeats 1000000 in
theorem kept_any (g : Nat) (a : Option Addr) (cap : Nat) (bs : List UInt8) (w : World) (hr : bs.length ≤ 1000000) (hg : At w (some ⟨g, 0, none⟩) (cB (bs ++ marksB))) (h : ArgB w a cap bs) :
    Calls Tryd.prog 17 #[.slice (some ⟨g, 0, none⟩) bs.length (bs.length + 6), .slice a bs.length cap] w fun e w' => e = .returned (.bool true) ∧ Drawn w w' := by
  have hrow : RowB w (some ⟨g, 0, none⟩) bs := marks_row hg
  have k1 := conv_str (P := Tryd.prog) (src := 36) (dst := 9) (c := bs.length + 6) bs Tryd.underlying36 Tryd.underlying5 Tryd.underlying9 hrow
  have k2 := conv_str (P := Tryd.prog) (src := 36) (dst := 9) (c := cap) bs Tryd.underlying36 Tryd.underlying5 Tryd.underlying9 h.row
  have hd : decide (bs.length + 6 < bs.length + 6) = false := by simp
  have hd' : decide ((bs.length : Int) + 6 < bs.length + 6) = false := by simp
  go_enter Tryd.func17, Tryd.ntmps17
  go_wp2_with fail
  have hs := IntWalk.i64_in ((bs.length : Int) + 6) (by omega)
  have hs2 : 0 ≤ (bs.length : Int) + 6 := by omega
  have k1' := conv_str (P := Tryd.prog) (w := w.drew) (src := 36) (dst := 9) (c := bs.length + 6) bs Tryd.underlying36 Tryd.underlying5 Tryd.underlying9 hrow
  have k2' := conv_str (P := Tryd.prog) (w := w.drew) (src := 36) (dst := 9) (c := cap) bs Tryd.underlying36 Tryd.underlying5 Tryd.underlying9 h.row
  replace hg := Lib.hid hg
  clear h hrow
  go_region
  go_wp2_with fail
  clear k1 k2 k1' k2' hs
  go_loop [6] (fun j => ∃ m : Nat, m ≤ 6 ∧ j = .int .i64 m) (fun j => 6 - (intOf j).toNat)
  case atStart => exact ⟨0, Nat.zero_le _, rfl⟩
  case round =>
    obtain ⟨m, hm, rfl⟩ := hrel
    by_cases hlt : m < 6
    · have hc : w.cell? ⟨g, bs.length + m, none⟩ = some (.int .u8 (201 + (m : Int))) := by
        obtain ⟨b, off, e, hc⟩ := hg.out (bs.length + m) (by rw [cB_length]; simp [marksB]; omega)
        cases e
        rw [Nat.zero_add] at hc
        rw [hc, cB_append, List.getElem?_append_right (by rw [cB_length]; omega), cB_length, show bs.length + m - bs.length = m from by omega]
        match m, hlt with
        | 0, _ => rfl
        | 1, _ => rfl
        | 2, _ => rfl
        | 3, _ => rfl
        | 4, _ => rfl
        | 5, _ => rfl
      go_wp2_with fail
      exact ⟨⟨m + 1, by omega, by go_num⟩, by simp [intOf]; omega⟩
    · go_wp2_with fail
      go_ret
      exact ⟨rfl, ⟨1, rfl⟩⟩

end Go.Proofs.YtahnicbokdbjdaaDoor
/- A load of a whole struct or array, as a step of a region that may be taken first (for base/XOn's rlA, huA, hzA). -/
namespace Go.Proofs.YtahnicbokdbjdaaDoor
open Go.RowKit
section
variable {P : Program} {o : Oper} {a : Act} {w : World}
theorem yields_load_row (ty : TypeId) (x : Operand) (ho : o.op = .load ty x) (g : Nat) (c : Array Value) (d : TypeDesc)
    (hx : a.eval x = .pointer (some ⟨g, 0, none⟩)) (hg : w.heap[g]? = some (.cells c ty (0, 0))) (hu : P.underlying ty = some d) (hd : (match d with | .struct _ | .array _ _ => true | _ => false) = true) (hi : (P.info? ty).map (·.size) = some c.size) :
    (execOp a.eval o).run P w = .ok (.value (.agg c)) w := by
  unfold execOp
  simp only [ho, hx, Instr.loadAt, Instr.sureAddr, Sem.run_bind, Sem.run_pure, Result.andThen_ok, run_loadVar_row w g ty ty c (0, 0) d hg hu hd hi]
end
end Go.Proofs.YtahnicbokdbjdaaDoor
