/- ParOps2, Bytes0. -/
import Derived.Test.YtahnicbokdbjdaaDoorF16ParsSaid20
import Derived.Test.YtahnicbokdbjdaaDoorF22ParsSaid20
import Derived.Test.YtahnicbokdbjdaaDoorF11ParsSaid20
import Derived.Test.YtahnicbokdbjdaaDoorF17ParsSaid20
import Derived.Test.YtahnicbokdbjdaaDoorF9ParsSaid20
import Derived.Deep.CutRange
/- Walks over params.Window, Budget, Bytes, Field of nil; the reference's Stored, Bytes. -/
namespace Go.Proofs.YtahnicbokdbjdaaDoor
open Go.RowKit


section
variable (s n k d t r : Int) (F : ByteArray) (V : Int) (i : Nat) (ea : Nat → Addr) (w : World)

set_option maxHeartbeats 1000000 in
theorem bytes_wrong (h : badAt s n k d t r = some (F, V, i)) (hn : -9223372036854775808 ≤ n ∧ n ≤ 9223372036854775807) (H : Errs 132 errGs w ea) :
    Calls Tryd.prog 19 #[.agg #[.int .i64 s, .int .i64 n, .int .i64 k, .int .i64 d, .int .i64 t, .int .i64 r]] w fun e w' => ∃ g, e = .returned (.tuple #[.slice none 0 0, (.iface 93 (.pointer (some ⟨g, 0, none⟩)))]) ∧ WrongAns w.heap.size w' F V (ea i) g ∧ Below w.heap.size w w' := by
  have hb1 := Lib.hid ((Below.refl w.heap.size w).alloc (Nat.le_refl _) (.cells #[.int .i64 s, .int .i64 n, .int .i64 k, .int .i64 d, .int .i64 t, .int .i64 r] 27))
  have hp := Lib.hid (heap_alloc_new w (.cells #[.int .i64 s, .int .i64 n, .int .i64 k, .int .i64 d, .int .i64 t, .int .i64 r] 27))
  have hcall := Lib.hid (check_wrong s n k d t r F V i h hn ea _ (H.below hb1.out))
  clear h hn
  go_enter Tryd.func19, Tryd.ntmps19
  go_wp2_with (refine wpList_load_row rfl 27 (.tmp 1) rfl w.heap.size #[.int .i64 s, .int .i64 n, .int .i64 k, .int .i64 d, .int .i64 t, .int .i64 r] _ rfl hp Tryd.underlying27 rfl (by kernel_rfl) ?_)
  with_reducible refine hcall.out.mono ?_
  rintro e w1 ⟨g, rfl, hg1, hg2, hb2⟩
  rw [World.size_alloc] at hg1
  replace hb1 := Lib.hid (hb1.out.trans (hb2.mono hb1.out.size))
  clear hb2 hcall
  replace hg2 := Lib.hid hg2
  go_wp2_with fail
  go_ret2
  exact ⟨_, rfl, ⟨by omega, hg2.out⟩, hb1.out⟩

/-- The bytes of right parameters. -/
def b8 (z : Int) : UInt8 := UInt8.ofNat (z % 256).toNat
theorem b8_val (z : Int) (h : 0 ≤ z ∧ z ≤ 255) : ((b8 z).toNat : Int) = z := by unfold b8; simp; omega
theorem b8_mod (z : Int) : ((b8 z).toNat : Int) = z % 256 := by unfold b8; simp; omega
theorem argB_lit15 (w : World) (t : TypeId) (bs : List UInt8) (cs : Array Value) (h : cs = (cB bs).toArray) (hl : bs.length ≤ 1000000) : ArgB (w.alloc (.cells cs t)) (some ⟨w.heap.size, 0, none⟩) bs.length bs := by
  subst h
  refine ⟨Nat.le_refl _, (by unfold maxLen; omega), (fun e => by cases e), fun i hi => ⟨_, _, rfl, ?_⟩⟩
  rw [cell_of_block (heap_alloc_new w _)]
  simp [cB, hi]
def bytesL : List UInt8 := [b8 (s / 256), b8 s, b8 n, b8 k, b8 (d / 256), b8 d, b8 (t / 256), b8 t, b8 r]

theorem bytes_cells (h : ParOk s n k d t r) : (#[.int .u8 (s / 256), .int .u8 (s % 256), .int .u8 n, .int .u8 k, .int .u8 (d / 256), .int .u8 (d % 256), .int .u8 (t / 256), .int .u8 (t % 256), .int .u8 r] : Array Value) = (cB (bytesL s n k d t r)).toArray := by
  obtain ⟨hs, hn, hk, hd, ht, hr⟩ := h
  simp only [cB, bytesL, List.map]
  rw [b8_val (s / 256) (by omega), b8_mod s, b8_val n (by omega), b8_val k (by omega), b8_val (d / 256) (by omega), b8_mod d, b8_val (t / 256) (by omega), b8_mod t, b8_val r (by omega)]

set_option maxHeartbeats 1000000 in
theorem bytes_ok (h : ParOk s n k d t r) (z : Nat → Addr) (hE : ParErrs w z) :
    Calls Tryd.prog 19 #[.agg #[.int .i64 s, .int .i64 n, .int .i64 k, .int .i64 d, .int .i64 t, .int .i64 r]] w fun e w' => ∃ b, e = .returned (.tuple #[.slice (some ⟨b, 0, none⟩) 9 9, .nilIface]) ∧ ArgB w' (some ⟨b, 0, none⟩) 9 (bytesL s n k d t r) ∧ Below w.heap.size w w' := by
  obtain ⟨hs, hn, hk, hd, ht, hr⟩ := id h
  have hb1 := Lib.hid ((Below.refl w.heap.size w).alloc (Nat.le_refl _) (.cells #[.int .i64 s, .int .i64 n, .int .i64 k, .int .i64 d, .int .i64 t, .int .i64 r] 27))
  have hp := Lib.hid (heap_alloc_new w (.cells #[.int .i64 s, .int .i64 n, .int .i64 k, .int .i64 d, .int .i64 t, .int .i64 r] 27))
  have hcall := Lib.hid (check_lit s n k d t r h z _ (hE.below hb1.out))
  clear h
  go_enter Tryd.func19, Tryd.ntmps19
  go_wp2_with (refine wpList_load_row rfl 27 (.tmp 1) rfl w.heap.size #[.int .i64 s, .int .i64 n, .int .i64 k, .int .i64 d, .int .i64 t, .int .i64 r] _ rfl hp Tryd.underlying27 rfl (by kernel_rfl) ?_)
  with_reducible refine hcall.out.mono ?_
  rintro e w1 ⟨rfl, hb2⟩
  replace hp := Lib.hid ((hb2.block _ (by simp)).trans hp.out)
  replace hb1 := Lib.hid (hb1.out.trans (hb2.mono hb1.out.size))
  obtain ⟨c0, c1, c2, c3, c4, c5⟩ := box6 hp.out
  clear hb2 hcall
  go_wp2_with fail
  go_ret2
  exact ⟨_, rfl, argB_lit15 w1 _ (bytesL s n k d t r) _ (bytes_cells s n k d t r ⟨hs, hn, hk, hd, ht, hr⟩) (by simp [bytesL]), hb1.out.alloc hb1.out.size _⟩

set_option maxHeartbeats 1000000 in
theorem rbytes_any (h : ParOk s n k d t r) :
    Calls Tryd.prog 24 #[.agg #[.int .i64 s, .int .i64 n, .int .i64 k, .int .i64 d, .int .i64 t, .int .i64 r]] w fun e w' => ∃ b, e = .returned (.slice (some ⟨b, 0, none⟩) 9 9) ∧ ArgB w' (some ⟨b, 0, none⟩) 9 (bytesL s n k d t r) ∧ Below w.heap.size w w' := by
  obtain ⟨hs, hn, hk, hd, ht, hr⟩ := h
  have hb1 := Lib.hid ((Below.refl w.heap.size w).alloc (Nat.le_refl _) (.cells #[.int .i64 s, .int .i64 n, .int .i64 k, .int .i64 d, .int .i64 t, .int .i64 r] 32))
  go_enter Tryd.func24, Tryd.ntmps24
  go_wp2_with fail
  go_ret
  have hA := argB_lit15 (w.alloc (.cells #[.int .i64 s, .int .i64 n, .int .i64 k, .int .i64 d, .int .i64 t, .int .i64 r] 32)) 5 (bytesL s n k d t r) _ (bytes_cells s n k d t r ⟨hs, hn, hk, hd, ht, hr⟩) (by simp [bytesL])
  rw [World.size_alloc] at hA
  exact ⟨_, rfl, hA, hb1.out.alloc hb1.out.size _⟩

end
end Go.Proofs.YtahnicbokdbjdaaDoor
/- A right record's bytes, in plain words; what the walks of record.Bytes stand on. -/
namespace Go.Proofs.YtahnicbokdbjdaaDoor
open Go.RowKit

def Rc.head (x : Rc) : List UInt8 := b8 x.kind :: numB x.obj
def Rc.out (x : Rc) : List UInt8 :=
  if x.kind = 1 then x.head ++ ([b8 (x.name.size : Int)] ++ (x.name.data.toList ++ (bytesL x.p.s x.p.n x.p.k x.p.d x.p.t x.p.r ++ (x.root ++ (x.file ++ numB x.tick)))))
  else if x.kind = 2 then x.head ++ (numB x.id ++ ([b8 x.way] ++ ((numB x.index).drop 4 ++ numB x.tick)))
  else if x.kind = 3 then x.head ++ (numB x.id ++ ([b8 x.verdict] ++ numB x.tick))
  else x.head ++ numB x.tick
theorem Rc.chk0 {x : Rc} (h : x.chk = 0) : (1 ≤ x.kind ∧ x.kind ≤ 4) ∧ x.nums = true ∧ x.bare = Rc.zero ∧ (x.kind = 1 → labB x.name.data.toList = true ∧ badAt x.p.s x.p.n x.p.k x.p.d x.p.t x.p.r = none) := by
  unfold Rc.chk at h
  split at h
  · cases h
  · next h1 =>
    split at h
    · cases h
    · next h2 =>
      refine ⟨by omega, by simpa using h2, ?_⟩
      split at h
      · split at h
        · cases h
        · next h3 =>
          split at h
          · omega
          · next h4 =>
            split at h
            · next h5 => exact ⟨h5, fun _ => ⟨by simpa using h3, h4⟩⟩
            · cases h
      · next h3 =>
        split at h
        · next h5 => exact ⟨h5, fun e => absurd e h3⟩
        · cases h
/-- The cells of a record that lies in block b, in every world that grew behind. -/
theorem Rc.kept (x : Rc) (hx : x.Ok) (T : TypeId) (W : World) (b : Nat) (h : W.heap[b]? = some (.cells x.list.toArray T (0, 0))) (W2 : World) (hW : Grown W W2) :
    W2.cell? ⟨b, 0, none⟩ = some (.int .i64 x.kind) ∧ W2.cell? ⟨b, 1, none⟩ = some (.int .i64 x.obj) ∧ W2.cell? ⟨b, 2, none⟩ = some (.int .i64 x.id) ∧ W2.cell? ⟨b, 3, none⟩ = some (.string x.name) ∧
    W2.cell? ⟨b, 74, none⟩ = some (.int .i64 x.way) ∧ W2.cell? ⟨b, 75, none⟩ = some (.int .i64 x.index) ∧ W2.cell? ⟨b, 76, none⟩ = some (.int .i64 x.verdict) ∧ W2.cell? ⟨b, 77, none⟩ = some (.int .i64 x.tick) := by
  have h2 := rowG h hW
  refine ⟨?_, ?_, ?_, ?_, ?_, ?_, ?_, ?_⟩
  all_goals rw [cell_of_block h2, List.getElem?_toArray]
  · exact x.c0
  · exact x.c1
  · exact x.c2
  · exact x.c3
  · exact Rc.c74 hx.root hx.file
  · exact Rc.c75 hx.root hx.file
  · exact Rc.c76 hx.root hx.file
  · exact Rc.c77 hx.root hx.file
theorem check0 (x : Rc) (hx : x.Ok) (hc : x.chk = 0) (ea : Nat → Addr) (w : World) (H : Errs 132 errGs w ea) : Calls Tryd.prog 13 #[.agg x.list.toArray] w fun e w2 => e = .returned .nilIface ∧ Below w.heap.size w w2 := by
  refine (check_any x hx ea w H).mono ?_
  rintro e w2 ⟨v, rfl, hv, hb⟩
  rw [hc] at hv
  rcases hv with ⟨_, rfl⟩ | ⟨i, _, h, _⟩ | ⟨i, g, F, V, _, h, _⟩
  · exact ⟨rfl, hb⟩
  · cases h
  · cases h
theorem concatA (b : Nat) (ps : List (List UInt8)) (n : Nat) (w : World) (hA : RowsAt w b ps) (hn : ps.length = n) (hm : n ≤ 100) (h1 : 1 ≤ ps.flatten.length) (h2 : ps.flatten.length ≤ 1000000) :
    Calls Tryd.prog 20 #[.slice (some ⟨b, 0, none⟩) n n] w fun e w2 => ∃ v, e = .returned v ∧ OwnB w.heap.size w2 v ps.flatten ∧ Below w.heap.size w w2 := by
  subst hn
  exact concatL_any b ps w hA (by omega) h1 h2
theorem rowsAt_of {w : World} {B : Nat} {ps : List (List UInt8)} {vs : Array Value} (hB : w.heap[B]? = some (.cells vs 36 (0, 0))) (h : ∀ k, k < ps.length → ∃ a c, vs[k]? = some (.slice a (ps.getD k []).length c) ∧ ArgB w a c (ps.getD k [])) : RowsAt w B ps := by
  intro k hk
  obtain ⟨a, c, h1, h2⟩ := h k hk
  refine ⟨a, c, ?_, h2⟩
  rw [cell_of_block hB]
  exact h1
theorem rows5 {w : World} {B : Nat} {p0 p1 p2 p3 p4 : List UInt8} {a0 a1 a2 a3 a4 : Option Addr} {c0 c1 c2 c3 c4 l0 l1 l2 l3 l4 : Nat} (hB : w.heap[B]? = some (.cells #[.slice a0 l0 c0, .slice a1 l1 c1, .slice a2 l2 c2, .slice a3 l3 c3, .slice a4 l4 c4] 36 (0, 0)))
    (e0 : p0.length = l0) (e1 : p1.length = l1) (e2 : p2.length = l2) (e3 : p3.length = l3) (e4 : p4.length = l4) (h0 : ArgB w a0 c0 p0) (h1 : ArgB w a1 c1 p1) (h2 : ArgB w a2 c2 p2) (h3 : ArgB w a3 c3 p3) (h4 : ArgB w a4 c4 p4) : RowsAt w B [p0, p1, p2, p3, p4] := by
  intro k hk
  match k, hk with
  | 0, _ => exact ⟨a0, c0, by rw [cell_of_block hB]; show some (Value.slice a0 l0 c0) = _; rw [← e0]; rfl, h0⟩
  | 1, _ => exact ⟨a1, c1, by rw [cell_of_block hB]; show some (Value.slice a1 l1 c1) = _; rw [← e1]; rfl, h1⟩
  | 2, _ => exact ⟨a2, c2, by rw [cell_of_block hB]; show some (Value.slice a2 l2 c2) = _; rw [← e2]; rfl, h2⟩
  | 3, _ => exact ⟨a3, c3, by rw [cell_of_block hB]; show some (Value.slice a3 l3 c3) = _; rw [← e3]; rfl, h3⟩
  | 4, _ => exact ⟨a4, c4, by rw [cell_of_block hB]; show some (Value.slice a4 l4 c4) = _; rw [← e4]; rfl, h4⟩
def BytesPost (x : Rc) (w : World) (e : Ending) (w2 : World) : Prop := ∃ v, e = .returned (.tuple #[v, .nilIface]) ∧ OwnB w.heap.size w2 v x.out ∧ Below w.heap.size w w2
def BytesBad (ea : Nat → Addr) (x : Rc) (w : World) (e : Ending) (w2 : World) : Prop := ∃ v, e = .returned (.tuple #[.slice none 0 0, v]) ∧ ErrIs ea w2 v x.chk ∧ Below w.heap.size w w2

set_option maxRecDepth 100000 in
set_option maxHeartbeats 1000000 in
theorem bytes_bad (x : Rc) (hx : x.Ok) (hc : x.chk ≠ 0) (ea : Nat → Addr) (w : World) (H : Errs 132 errGs w ea) : Calls Tryd.prog 10 #[.agg x.list.toArray] w (BytesBad ea x w) := by
  have hs := Rc.size hx
  have hck := Lib.hid (fun W h => check_any x hx ea W h)
  have hsz : (Tryd.prog.info? 31).map (·.size) = some x.list.toArray.size := by rw [hs]; kernel_rfl
  generalize hR : x.list.toArray = R at *
  have hrow := Lib.hid (heap_alloc_new w (.cells R 31))
  have hb := Lib.hid (show Below w.heap.size w (w.alloc (.cells R 31)) from (Below.refl _ _).alloc (Nat.le_refl _) _)
  have hzc := Tryd.underlying31
  have hcb : (x.chk != 0) = true := by simpa using hc
  replace H := Lib.hid H
  clear hx hs hR
  go_enter Tryd.func10, Tryd.ntmps10
  go_wp2_with (with_reducible refine wpList_load_row rfl 31 (.tmp 1) rfl w.heap.size R _ rfl hrow hzc rfl hsz ?_)
  with_reducible refine (hck.out _ (H.out.below hb.out)).mono ?_
  rintro e w2 ⟨v2, rfl, hv2, hnew⟩
  have hb2 := Lib.hid (hb.out.trans (hnew.mono hb.out.size))
  have hnq := hv2.neq
  have hng := hv2.guard
  rw [hcb] at hnq
  replace hv2 := Lib.hid hv2
  clear hnew
  go_wp2_with fail
  go_ret2
  exact ⟨_, rfl, hv2.out, hb2.out⟩
end Go.Proofs.YtahnicbokdbjdaaDoor
