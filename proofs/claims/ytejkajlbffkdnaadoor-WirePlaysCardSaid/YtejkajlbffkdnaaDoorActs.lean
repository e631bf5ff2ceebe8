/- Acts that came in: a row of structs of six cells, the last one a row of bytes. -/
import Derived.Test.YtejkajlbffkdnaaDoorWire5
import Derived.Test.YtejkajlbffkdnaaDoorWire6
namespace Go.Proofs.YtejkajlbffkdnaaDoor
open Go.RowKit

structure ActV where
  kind : Int
  way : Int
  i : Int
  at_ : Int
  by_ : UInt8
  a : Option Addr
  c : Nat
  bs : List UInt8
instance : Inhabited ActV := ⟨⟨0, 0, 0, 0, 0, none, 0, []⟩⟩
def ActV.cells (x : ActV) : Array Value := #[.int .i64 x.kind, .int .i64 x.way, .int .i64 x.i, .int .i64 x.at_, .int .u8 (x.by_.toNat : Int), .slice x.a x.bs.length x.c]
structure ActAt (w : World) (b o : Nat) (x : ActV) : Prop where
  c0 : w.cell? ⟨b, o, none⟩ = some (.int .i64 x.kind)
  c1 : w.cell? ⟨b, o + 1, none⟩ = some (.int .i64 x.way)
  c2 : w.cell? ⟨b, o + 2, none⟩ = some (.int .i64 x.i)
  c3 : w.cell? ⟨b, o + 3, none⟩ = some (.int .i64 x.at_)
  c4 : w.cell? ⟨b, o + 4, none⟩ = some (.int .u8 (x.by_.toNat : Int))
  c5 : w.cell? ⟨b, o + 5, none⟩ = some (.slice x.a x.bs.length x.c)
  arg : ArgB w x.a x.c x.bs
theorem ActAt.below {w w' : World} {b o : Nat} {x : ActV} (h : ActAt w b o x) (hb : Below w.heap.size w w') : ActAt w' b o x := by
  have hlt := World.block_lt_of_cell? w _ h.c0
  simp only at hlt
  exact ⟨(hb.cell (p := ⟨b, _, none⟩) hlt).trans h.c0, (hb.cell (p := ⟨b, _, none⟩) hlt).trans h.c1, (hb.cell (p := ⟨b, _, none⟩) hlt).trans h.c2, (hb.cell (p := ⟨b, _, none⟩) hlt).trans h.c3, (hb.cell (p := ⟨b, _, none⟩) hlt).trans h.c4, (hb.cell (p := ⟨b, _, none⟩) hlt).trans h.c5, h.arg.below hb⟩
/-- A row of acts. -/
structure ArgA (w : World) (a : Option Addr) (xs : List ActV) : Prop where
  row : ∀ k (h : k < xs.length), ∃ b o, a = some ⟨b, o, none⟩ ∧ ActAt w b (o + k * 6) xs[k]
theorem ArgA.below {w w' : World} {a : Option Addr} {xs : List ActV} (h : ArgA w a xs) (hb : Below w.heap.size w w') : ArgA w' a xs :=
  ⟨fun k hk => by obtain ⟨b, o, e, h1⟩ := h.row k hk; exact ⟨b, o, e, h1.below hb⟩⟩

set_option maxRecDepth 100000 in
set_option maxHeartbeats 1000000 in
/-- What Long says: in the end false where there are few acts. -/
theorem long_any (a : Option Addr) (c : Nat) (xs : List ActV) (w : World) (h : ArgA w a xs) :
    Calls Tryd.prog 6 #[.slice a xs.length c] w fun e w' => ∃ r, e = .returned (.bool r) ∧ (r = false → xs.length ≤ 200) ∧ Below w.heap.size w w' := by
  by_cases hl : 200 < xs.length
  · have hl2 : (200 : Int) < xs.length := by omega
    go_enter Tryd.func6, Tryd.ntmps6
    go_wp2_with fail
    go_ret
    exact ⟨true, rfl, (fun h => by cases h), Below.refl _ _⟩
  · have hl2 : ¬ ((200 : Int) < xs.length) := by omega
    replace h := Lib.hid h
    obtain ⟨L, hL⟩ : ∃ L, L = xs.length := ⟨_, rfl⟩
    rw [← hL] at hl hl2 ⊢
    replace hL := Lib.hid hL
    go_enter Tryd.func6, Tryd.ntmps6
    go_wp2_with fail
    go_loopw [4, 11, 12, 13, 14, 15, 16, 17, 18, 10] (fun _ _ _ _ _ _ _ _ _ j wr => ∃ k : Nat, k ≤ L ∧ j = .int .i64 k ∧ Below w.heap.size w wr) (fun _ _ _ _ _ _ _ _ _ j _ => L - (intOf j).toNat)
    case atStart => exact ⟨0, Nat.zero_le _, rfl, Below.refl _ _⟩
    case round =>
      obtain ⟨k, hk, rfl, hbel⟩ := hrel
      have hsz := hbel.size
      by_cases hlt : k < L
      · obtain ⟨b, o, rfl, hat⟩ := (h.out.below hbel).row k (by rw [← hL.out]; exact hlt)
        have hlt2 : (k : Int) < L := by omega
        obtain ⟨c0, c1, c2, c3, c4, c5, _⟩ := hat
        generalize xs[k]'(by rw [← hL.out]; exact hlt) = x at *
        replace hbel := Lib.hid hbel
        go_wp2_with fail
        · go_ret
          exact ⟨true, rfl, (fun h => by cases h), hbel.out.alloc hsz _⟩
        · exact ⟨⟨k + 1, by omega, by go_num, hbel.out.alloc hsz _⟩, by simp [intOf]; omega⟩
      · obtain rfl : k = L := by omega
        go_wp2_with fail
        go_ret
        exact ⟨false, rfl, (fun _ => by omega), hbel⟩
end Go.Proofs.YtejkajlbffkdnaaDoor
