/- label.Key and the reference's Key, of whatever arguments. -/
import Derived.Test.YtfmeheolcibfeaaDoorKey
import Derived.Test.YtfmeheolcibfeaaDoorNum
namespace Go.Proofs.YtfmeheolcibfeaaDoor
open Go.RowKit

/-- What the label's laws find. -/
structure LabW (z : Nat → Addr) (w : World) : Prop where
  K : ShaK w
  F : ShaF w
  rK : RefK w
  rF : RefF w
  er : Errs 129 errGs w z
theorem LabW.below {z : Nat → Addr} {w w' : World} (h : LabW z w) (hb : Below w.heap.size w w') : LabW z w' := ⟨h.K.below hb, h.F.below hb, h.rK.below hb, h.rF.below hb, h.er.below hb⟩
theorem LabW.sent {z : Nat → Addr} {w : World} (h : LabW z w) : SentAt gRange9 w (z 0) ∧ SentAt gName9 w (z 5) ∧ SentAt gKey9 w (z 8) := by
  obtain ⟨g0, g1, g2, g3, g4, g5, g6, g7, g8, g9, g10, g11, g12, g13, g14, g15, g16, g17, g18, g19⟩ := num_cells h.er
  exact ⟨g0, g5, g8⟩
/-- What Key finds. -/
structure LabK (zr zn zk : Addr) (w : World) : Prop where
  K : ShaK w
  F : ShaF w
  range : SentAt gRange9 w zr
  name : SentAt gName9 w zn
  key : SentAt gKey9 w zk
theorem LabK.below {zr zn zk : Addr} {w w' : World} (h : LabK zr zn zk w) (hb : Below w.heap.size w w') : LabK zr zn zk w' := ⟨h.K.below hb, h.F.below hb, h.range.below hb, h.name.below hb, h.key.below hb⟩
theorem LabW.lk {z : Nat → Addr} {w : World} (h : LabW z w) : LabK (z 0) (z 5) (z 8) w := ⟨h.K, h.F, h.sent.1, h.sent.2.1, h.sent.2.2⟩
theorem argB_none9 (w : World) : ArgB w none 0 [] := ⟨Nat.le_refl _, Nat.zero_le _, fun _ => rfl, fun i hi => absurd hi (Nat.not_lt_zero i)⟩

def kE (zr zn zk : Addr) (b : Int) : Value := if b = 0 then .nilIface else .iface 129 (.pointer (some (if b = 9 then zk else if b = 6 then zn else zr)))

theorem lKey_any (ak : Option Addr) (ck : Nat) (key : List UInt8) (s : ByteArray) (n : Int) (zr zn zk : Addr) (w : World) (hk : ArgB w ak ck key) (hx : key.length ≤ 9223372036854775807) (hs : s.size ≤ 80000) (hW : LabK zr zn zk w) :
    Calls Tryd.prog 7 #[.slice ak key.length ck, .string s, .int .i64 n] w fun e w' => ∃ a c, e = .returned (.tuple #[.slice a (kX key s.data.toList n).length c, kE zr zn zk (kBad key s.data.toList n)]) ∧ ArgB w' a c (kX key s.data.toList n) ∧ Below w.heap.size w w' := by
  unfold kX kE kBad
  cases hm : masB key.length
  · refine (lKey_key ak key.length ck _ _ w zk hW.key hx hm).mono ?_
    rintro e w' ⟨rfl, hb⟩
    exact ⟨none, 0, rfl, argB_none9 _, hb⟩
  · cases hl : labB s.data.toList
    · refine (lKey_name ak key.length ck s _ w zn hW.name hx hm (by omega) hl).mono ?_
      rintro e w' ⟨rfl, hb⟩
      exact ⟨none, 0, rfl, argB_none9 _, hb⟩
    · cases hn : numdB n
      · refine (lKey_range ak key.length ck s n w zr hW.range hx hm (by omega) hl hn).mono ?_
        rintro e w' ⟨rfl, hb⟩
        exact ⟨none, 0, rfl, argB_none9 _, hb⟩
      · refine (lKey_ok ak ck key s n w hk hm hl hn hs hW.K hW.F).mono ?_
        rintro e w' ⟨v, rfl, ho, hb⟩
        obtain ⟨a, c, rfl, h, _⟩ := ho.arg
        exact ⟨a, c, rfl, h, hb⟩
theorem rKey_any (ak : Option Addr) (ck : Nat) (key : List UInt8) (s : ByteArray) (n : Int) (w : World) (hk : ArgB w ak ck key) (hx : key.length ≤ 9223372036854775807) (hs : s.size ≤ 80000) (hK : RefK w) (hF : RefF w) :
    Calls Tryd.prog 8 #[.slice ak key.length ck, .string s, .int .i64 n] w fun e w' => ∃ a c, e = .returned (.tuple #[.slice a (kX key s.data.toList n).length c, .int .i64 (kBad key s.data.toList n)]) ∧ ArgB w' a c (kX key s.data.toList n) ∧ Below w.heap.size w w' := by
  unfold kX kBad
  cases hm : masB key.length
  · refine (rKey_key ak key.length ck _ _ w hx hm).mono ?_
    rintro e w' ⟨rfl, rfl⟩
    exact ⟨none, 0, rfl, argB_none9 _, Below.refl _ _⟩
  · cases hl : labB s.data.toList
    · refine (rKey_name ak key.length ck s _ w hx hm (by omega) hl).mono ?_
      rintro e w' ⟨rfl, rfl⟩
      exact ⟨none, 0, rfl, argB_none9 _, Below.refl _ _⟩
    · cases hn : numdB n
      · refine (rKey_range ak key.length ck s n w hx hm (by omega) hl hn).mono ?_
        rintro e w' ⟨rfl, rfl⟩
        exact ⟨none, 0, rfl, argB_none9 _, Below.refl _ _⟩
      · refine (rKey_ok ak ck key s n w hk hm hl hn hs hK hF).mono ?_
        rintro e w' ⟨v, rfl, ho, hb⟩
        obtain ⟨a, c, rfl, h, _⟩ := ho.arg
        exact ⟨a, c, rfl, h, hb⟩
theorem kBad_cases (key s : List UInt8) (n : Int) : kBad key s n = 0 ∨ kBad key s n = 1 ∨ kBad key s n = 6 ∨ kBad key s n = 9 := by
  unfold kBad
  split
  · split
    · split
      · exact .inl rfl
      · exact .inr (.inl rfl)
    · exact .inr (.inr (.inl rfl))
  · exact .inr (.inr (.inr rfl))
theorem kE_num (z : Nat → Addr) (b : Int) (hb : b = 0 ∨ b = 1 ∨ b = 6 ∨ b = 9) (w : World) (hW : LabW z w) : Calls Tryd.prog 9 #[kE (z 0) (z 5) (z 8) b] w fun e w' => e = .returned (.int .i64 b) ∧ Below w.heap.size w w' := by
  rcases hb with rfl | rfl | rfl | rfl
  · refine (num_nil w).mono ?_
    rintro e w' ⟨rfl, rfl⟩
    exact ⟨rfl, Below.refl _ _⟩
  · exact num_err 0 (by omega) z w hW.er
  · exact num_err 5 (by omega) z w hW.er
  · exact num_err 8 (by omega) z w hW.er

end Go.Proofs.YtfmeheolcibfeaaDoor
