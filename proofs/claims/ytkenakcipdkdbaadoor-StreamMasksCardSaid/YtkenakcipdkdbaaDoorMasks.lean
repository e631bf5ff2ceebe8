/- The walk over stream.Masks. -/
import Derived.Test.YtkenakcipdkdbaaDoorBlocksLaw
import Derived.Test.YtkenakcipdkdbaaDoorOwnBB
namespace Go.Proofs.YtkenakcipdkdbaaDoor
open Go.RowKit

/-- What stream.Masks finds. -/
structure StrM (zr zs : Addr) (w : World) : Prop where
  K : ShaK w
  F : ShaF w
  range : SentAt gRange w zr
  size : SentAt gSize w zs
theorem StrM.below {zr zs : Addr} {w w' : World} (h : StrM zr zs w) (hb : Below w.heap.size w w') : StrM zr zs w' := ⟨h.K.below hb, h.F.below hb, h.range.below hb, h.size.below hb⟩

def atI (n : Int) (i : Nat) : Int := if cntd n then n + i else n
/-- What is wrong behind i elements; the blocks masked. -/
def sB (n : Int) (ps : List (List UInt8)) : Nat → Int
  | 0 => 0
  | i + 1 => if sB n ps i = 0 then mBad (atI n i) (ps.getD i []) else sB n ps i
def sW (key : List UInt8) (n : Int) (ps : List (List UInt8)) : Nat → List (List UInt8)
  | 0 => []
  | i + 1 => if sB n ps i = 0 then sW key n ps i ++ [mX key (atI n i) (ps.getD i [])] else sW key n ps i
def eOf (zr zs : Addr) (b : Int) : Value := if b = 0 then .nilIface else .iface 108 (.pointer (some (if b = 8 then zs else zr)))
def sL (key : List UInt8) (n : Int) (ps : List (List UInt8)) : List (List UInt8) := if sB n ps ps.length = 0 then sW key n ps ps.length else []
theorem sB_succ {n : Int} {ps : List (List UInt8)} {i : Nat} (h : sB n ps i = 0) : sB n ps (i + 1) = mBad (atI n i) (ps.getD i []) := by rw [sB, if_pos h]
theorem sW_succ {key : List UInt8} {n : Int} {ps : List (List UInt8)} {i : Nat} (h : sB n ps i = 0) : sW key n ps (i + 1) = sW key n ps i ++ [mX key (atI n i) (ps.getD i [])] := by rw [sW, if_pos h]
theorem sB_stay {n : Int} {ps : List (List UInt8)} {i : Nat} (h : sB n ps i ≠ 0) : ∀ d, sB n ps (i + d) = sB n ps i
  | 0 => rfl
  | d + 1 => by rw [← Nat.add_assoc, sB, sB_stay h d, if_neg h]
theorem sB_back {n : Int} {ps : List (List UInt8)} {i : Nat} (h : sB n ps (i + 1) = 0) : sB n ps i = 0 := by
  by_cases hz : sB n ps i = 0
  · exact hz
  · rw [sB_stay hz 1] at h; exact absurd h hz
theorem sW_length {key : List UInt8} {n : Int} {ps : List (List UInt8)} : ∀ i, sB n ps i = 0 → (sW key n ps i).length = i
  | 0, _ => rfl
  | i + 1, h => by rw [sW_succ (sB_back h), List.length_append, sW_length i (sB_back h)]; rfl
theorem sB_end {n : Int} {ps : List (List UInt8)} {i : Nat} (hi : i < ps.length) (h : sB n ps i = 0) (h2 : mBad (atI n i) (ps.getD i []) ≠ 0) : sB n ps ps.length = mBad (atI n i) (ps.getD i []) := by
  rw [← sB_succ h] at h2 ⊢
  have := sB_stay h2 (ps.length - (i + 1))
  rwa [show i + 1 + (ps.length - (i + 1)) = ps.length from by omega] at this
theorem argBB_nil0 (w : World) : ArgBB w none 0 [] := ⟨Nat.le_refl _, Nat.zero_le _, fun _ => rfl, fun i hi => absurd hi (Nat.not_lt_zero i)⟩

set_option maxRecDepth 10000 in
set_option maxHeartbeats 2000000 in
theorem masks_any (ak : Option Addr) (ck : Nat) (key : List UInt8) (n : Int) (a2 : Option Addr) (c2 : Nat) (ps : List (List UInt8)) (zr zs : Addr) (w : World) (hk : ArgB w ak ck key) (hkl : key.length ≤ 10000) (h2 : ArgBB w a2 c2 ps) (hpl : ps.length ≤ 1000) (hM : StrM zr zs w) :
    Calls Tryd.prog 7 #[.slice ak key.length ck, .int .i64 n, .slice a2 ps.length c2] w fun e w' => ∃ a c, e = .returned (.tuple #[.slice a (sL key n ps).length c, eOf zr zs (sB n ps ps.length)]) ∧ ArgBB w' a c (sL key n ps) ∧ Below w.heap.size w w' := by
  have hmk := Lib.hid (macMake_any ak ck key w hk hkl hM.K hM.F)
  replace h2 := Lib.hid h2
  replace hM := Lib.hid hM
  clear hk
  go_enter Tryd.func7, Tryd.ntmps7
  go_wp2_with fail
  with_reducible refine hmk.out.mono ?_
  rintro e w1 ⟨b, rfl, hkey, hb1⟩
  obtain ⟨X, hX⟩ : ∃ X, X = w1.alloc (.cells #[.pointer (some ⟨b, 0, none⟩)] 51) := ⟨_, rfl⟩
  have hgr : Below w1.heap.size w1 X := by rw [hX]; exact (Below.refl w1.heap.size w1).alloc (Nat.le_refl _) _
  have hg : Below w.heap.size w X := hb1.trans (hgr.mono hb1.size)
  have hbox : X.heap[w1.heap.size]? = some (.cells #[.pointer (some ⟨b, 0, none⟩)] 51 (0, 0)) := by rw [hX]; exact heap_alloc_new w1 _
  obtain ⟨p, hp⟩ : ∃ p, p = w1.heap.size := ⟨_, rfl⟩
  rw [← hp] at hbox
  replace hkey := Lib.hid (hkey.below hgr)
  replace h2 := Lib.hid (h2.out.below hg)
  replace hM := Lib.hid (hM.out.below hg)
  replace hbox := Lib.hid hbox
  replace hg := Lib.hid hg
  replace hX := Lib.hid hX
  replace hp := Lib.hid hp
  clear hb1 hmk hgr
  go_wp2_with fail
  rw [← hX.out, ← hp.out]
  go_loopw [9, 10, 11, 17] (fun v _ _ j wr => ∃ i : Nat, i ≤ ps.length ∧ j = .int .i64 i ∧ sB n ps i = 0 ∧ OwnBB X.heap.size wr v (sW key n ps i) ∧ Below X.heap.size X wr)
    (fun _ _ _ j _ => ps.length - (intOf j).toNat)
  case atStart => exact ⟨0, Nat.zero_le _, rfl, rfl, OwnBB.nil _ _, Below.refl _ _⟩
  case round =>
    obtain ⟨i, hi, rfl, hz, hO, hB⟩ := hrel
    by_cases hlt : i < ps.length
    · obtain ⟨g2, o2, rfl, ai, ci, hc, hr⟩ := (h2.out.below hB).row i hlt
      have hend := fun h => Lib.hid (sB_end (n := n) hlt hz h)
      have hnB := sB_succ hz
      have hnW := sW_succ (key := key) hz
      have hlW := sW_length (key := key) i hz
      have hsz := hB.size
      have hli : (i : Int) < ps.length := by omega
      have hbf := Lib.hid (hg.out.trans (hB.mono hg.out.size))
      have hMr := Lib.hid (hM.out.below hB)
      have hkeyr := Lib.hid (hkey.out.below hB)
      have hboxr : wr.cell? ⟨p, 0, none⟩ = some (.pointer (some ⟨b, 0, none⟩)) := by
        rw [cell_of_block (rowG hbox.out _ hB)]; rfl
      have hpx : (ps.getD i []).length ≤ 9223372036854775807 := by have := hr.len; have := hr.most; unfold maxLen at *; omega
      by_cases h8 : (ps.getD i []).length = 8
      · rw [h8] at hc
        have hgR : ∀ k, (wr.drewN k).cell? ⟨gRange, 0, none⟩ = some (.iface 108 (.pointer (some zr))) := fun _ => hMr.out.range
        have hgR0 : wr.cell? ⟨gRange, 0, none⟩ = some (.iface 108 (.pointer (some zr))) := hMr.out.range
        unfold gRange at hgR hgR0
        by_cases hct : cntd (atI n i) = true
        · have hnn : cntd n = true := by
            cases hcn : cntd n
            · unfold atI at hct; rw [hcn] at hct; simp at hct; rw [hcn] at hct; exact hct
            · rfl
          have hat : atI n i = n + i := by unfold atI; rw [if_pos hnn]
          rw [hat] at hct hnB hnW
          have hnr : 0 ≤ n ∧ n ≤ 1099511627776 := by simpa [cntd] using hnn
          have hw := IntWalk.i64_in (n + (i : Int)) (by omega)
          have hb0 : mBad (n + i) (ps.getD i []) = 0 := by unfold mBad bBad; rw [if_pos h8, if_pos hct]
          have hmX : mX key (n + i) (ps.getD i []) = maskB (blockB key (n + i)) (ps.getD i []) := by unfold mX; rw [if_pos ⟨h8, hct⟩]
          rw [hb0] at hnB
          rw [hmX] at hnW
          have hmask := Lib.hid (mkMask_any b key (n + i) ai ci (ps.getD i []) wr hkeyr.out (by omega) (by omega) hr h8 hMr.out.K hMr.out.F)
          have hml := Lib.hid (maskB_length (blockB key (n + i)) (ps.getD i []))
          have hbl := Lib.hid hB
          have hlt2 := hO.lt
          have hOh := Lib.hid hO
          clear hO hB hr hend hgR hgR0 hb0 hmX
          replace hnB := Lib.hid hnB; replace hnW := Lib.hid hnW; replace hnr := Lib.hid hnr; replace hat := Lib.hid hat; replace h8 := Lib.hid h8; replace hlt2 := Lib.hid hlt2
          generalize maskB (blockB key (n + i)) (ps.getD i []) = T at *
          go_wp2_with fail
          with_reducible refine (counted_any n _).mono ?_
          rintro e w3 ⟨rfl, rfl⟩
          rw [hnn]
          go_wp2_with fail
          with_reducible refine (counted_any (n + i) _).mono ?_
          rintro e w3 ⟨rfl, rfl⟩
          rw [hct]
          go_wp2_with fail
          with_reducible refine hmask.out.mono ?_
          rintro e w5 ⟨v5, rfl, ho5, hb5⟩
          obtain ⟨a5, c5, rfl, h5, hloc⟩ := ho5.arg
          rw [hml.out]
          have hne := Lib.hid (show 0 < T.length → ∀ b o, a5 = some ⟨b, o, none⟩ → Value.ownBlock _ ≠ some b from fun _ b o e h => by have h1 := hlt2.out b h; have h2 := hloc b o none e; omega)
          have hO5 := Lib.hid (hOh.out.below hb5)
          have hB5 := Lib.hid (hbl.out.trans (hb5.mono hbl.out.size))
          have hs5 := hB5.out.size
          replace h5 := Lib.hid h5
          clear ho5 hb5 hmask
          go_wp2_with (at_builtin; go_must (refine wpBB_app1 rfl (.tmp 39) (.tmp 46) rfl X.heap.size _ (sW key n ps i) rfl hO5 a5 c5 T 8 hml h5 hne rfl (by rw [hlW]; omega) hs5 ?_))
          intro v6 w6 ho6 hg6
          have hB6 := Lib.hid (Below.grown hB5.out hg6.out hs5 (fun k hk => (hO5.out.lt k hk).1))
          rw [← hnW.out] at ho6
          go_wp2_with fail
          exact ⟨⟨i + 1, by omega, by go_num, hnB.out, ho6.out, hB6.out⟩, by simp [intOf]; omega⟩
        · have hcf : cntd (atI n i) = false := by simpa using hct
          have hv : mBad (atI n i) (ps.getD i []) = 1 := by unfold mBad bBad; rw [if_pos h8, if_neg hct]
          have hfin := (hend (by rw [hv]; decide)).out
          rw [hv] at hfin
          have hsl : sL key n ps = [] := by unfold sL; rw [if_neg (by rw [hfin]; decide)]
          cases hnn : cntd n
          · replace hr := Lib.hid hr; replace hO := Lib.hid hO; replace hB := Lib.hid hB; replace hfin := Lib.hid hfin; replace hsl := Lib.hid hsl; replace h8 := Lib.hid h8; replace hv := Lib.hid hv; replace hcf := Lib.hid hcf; replace hct := Lib.hid hct; replace hnB := Lib.hid hnB; replace hnW := Lib.hid hnW
            clear hend
            go_wp2_with fail
            with_reducible refine (counted_any n _).mono ?_
            rintro e w3 ⟨rfl, rfl⟩
            rw [hnn]
            go_wp2_with fail
            go_quiet (fail)
            go_wp2_with fail
            go_ret2
            exact ⟨none, 0, by rw [hfin.out, hsl.out]; rfl, by rw [hsl.out]; exact argBB_nil0 _, below_drewN hbf.out _⟩
          · have hat : atI n i = n + i := by unfold atI; rw [if_pos hnn]
            rw [hat] at hcf
            have hnr : 0 ≤ n ∧ n ≤ 1099511627776 := by simpa [cntd] using hnn
            have hw := IntWalk.i64_in (n + (i : Int)) (by omega)
            replace hr := Lib.hid hr; replace hO := Lib.hid hO; replace hB := Lib.hid hB; replace hfin := Lib.hid hfin; replace hsl := Lib.hid hsl; replace h8 := Lib.hid h8; replace hv := Lib.hid hv; replace hct := Lib.hid hct; replace hnB := Lib.hid hnB; replace hnW := Lib.hid hnW; replace hnr := Lib.hid hnr; replace hat := Lib.hid hat
            clear hend
            go_wp2_with fail
            with_reducible refine (counted_any n _).mono ?_
            rintro e w3 ⟨rfl, rfl⟩
            rw [hnn]
            go_wp2_with fail
            with_reducible refine (counted_any (n + i) _).mono ?_
            rintro e w3 ⟨rfl, rfl⟩
            rw [hcf]
            go_wp2_with fail
            go_quiet (fail)
            go_wp2_with fail
            go_ret2
            exact ⟨none, 0, by rw [hfin.out, hsl.out]; rfl, by rw [hsl.out]; exact argBB_nil0 _, below_drewN hbf.out _⟩
      · have hv : mBad (atI n i) (ps.getD i []) = 8 := by unfold mBad; rw [if_neg h8]
        have hfin := (hend (by rw [hv]; decide)).out
        rw [hv] at hfin
        have hsl : sL key n ps = [] := by unfold sL; rw [if_neg (by rw [hfin]; decide)]
        have hgS : ∀ k, (wr.drewN k).cell? ⟨gSize, 0, none⟩ = some (.iface 108 (.pointer (some zs))) := fun _ => hMr.out.size
        have hgS0 : wr.cell? ⟨gSize, 0, none⟩ = some (.iface 108 (.pointer (some zs))) := hMr.out.size
        unfold gSize at hgS hgS0
        have ht : (((ps.getD i []).length : Int) != 8) = true := by rw [bne_iff_ne]; omega
        have ht2 : (((ps.getD i []).length : Int) == 8) = false := beq_eq_false_iff_ne.2 (by omega)
        replace hr := Lib.hid hr; replace hO := Lib.hid hO; replace hB := Lib.hid hB; replace hfin := Lib.hid hfin; replace hsl := Lib.hid hsl; replace h8 := Lib.hid h8; replace hv := Lib.hid hv; replace hnB := Lib.hid hnB; replace hnW := Lib.hid hnW
        clear hend
        generalize (ps.getD i []).length = bl at *
        go_wp2_with fail
        go_quiet (fail)
        go_wp2_with fail
        go_ret2
        exact ⟨none, 0, by rw [hfin.out, hsl.out]; rfl, by rw [hsl.out]; exact argBB_nil0 _, below_drewN hbf.out _⟩
    · obtain rfl : i = ps.length := by omega
      have hbf := Lib.hid (hg.out.trans (hB.mono hg.out.size))
      have hsl : sL key n ps = sW key n ps ps.length := by unfold sL; rw [if_pos hz]
      obtain ⟨a9, c9, rfl, h9⟩ := hO.arg
      replace h9 := Lib.hid h9; replace hz := Lib.hid hz; replace hsl := Lib.hid hsl
      clear hO hB
      go_wp2_with fail
      go_ret2
      exact ⟨a9, c9, by rw [hz.out, hsl.out]; rfl, by rw [hsl.out]; exact h9.out, hbf.out⟩

end Go.Proofs.YtkenakcipdkdbaaDoor
