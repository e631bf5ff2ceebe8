/- DiskKeeps: the acts that came in; the plain law: behind a crash each byte is one that was sure, or one of a write. -/
import Derived.Test.YtdgilgnaoifpcaaDoorAlive18
import Derived.Test.YtdgilgnaoifpcaaDoorRowsG
namespace Go.Proofs.YtdgilgnaoifpcaaDoor
open Go.RowKit

structure ActD where
  kind : Int
  at_ : Int
  n : Int
  kept : Int
  torn : Int
  scat : Nat
  long : Int
instance : Inhabited ActD := ⟨⟨0, 0, 0, 0, 0, 0, 0⟩⟩
def inI64 (x : Int) : Prop := -9223372036854775808 ≤ x ∧ x ≤ 9223372036854775807
structure ActD.Wf (x : ActD) : Prop where
  kind : inI64 x.kind
  at_ : inI64 x.at_
  n : inI64 x.n
  kept : inI64 x.kept
  torn : inI64 x.torn
  scat : x.scat < 18446744073709551616
  long : inI64 x.long
def ActD.cells (x : ActD) : Array Value := #[.int .i64 x.kind, .int .i64 x.at_, .int .i64 x.n, .int .i64 x.kept, .int .i64 x.torn, .int .u64 (x.scat : Int), .int .i64 x.long]
structure ActAt (w : World) (b o : Nat) (x : ActD) : Prop where
  c0 : w.cell? ⟨b, o, none⟩ = some (.int .i64 x.kind)
  c1 : w.cell? ⟨b, o + 1, none⟩ = some (.int .i64 x.at_)
  c2 : w.cell? ⟨b, o + 2, none⟩ = some (.int .i64 x.n)
  c3 : w.cell? ⟨b, o + 3, none⟩ = some (.int .i64 x.kept)
  c4 : w.cell? ⟨b, o + 4, none⟩ = some (.int .i64 x.torn)
  c5 : w.cell? ⟨b, o + 5, none⟩ = some (.int .u64 (x.scat : Int))
  c6 : w.cell? ⟨b, o + 6, none⟩ = some (.int .i64 x.long)
  wf : x.Wf
theorem ActAt.below {w w' : World} {b o : Nat} {x : ActD} (h : ActAt w b o x) (hb : Below w.heap.size w w') : ActAt w' b o x := by
  have hlt := World.block_lt_of_cell? w _ h.c0
  simp only at hlt
  exact ⟨(hb.cell (p := ⟨b, _, none⟩) hlt).trans h.c0, (hb.cell (p := ⟨b, _, none⟩) hlt).trans h.c1, (hb.cell (p := ⟨b, _, none⟩) hlt).trans h.c2, (hb.cell (p := ⟨b, _, none⟩) hlt).trans h.c3, (hb.cell (p := ⟨b, _, none⟩) hlt).trans h.c4, (hb.cell (p := ⟨b, _, none⟩) hlt).trans h.c5, (hb.cell (p := ⟨b, _, none⟩) hlt).trans h.c6, h.wf⟩
structure ArgA (w : World) (a : Option Addr) (xs : List ActD) : Prop where
  row : ∀ k (h : k < xs.length), ∃ b o, a = some ⟨b, o, none⟩ ∧ ActAt w b (o + k * 7) xs[k]
theorem ArgA.below {w w' : World} {a : Option Addr} {xs : List ActD} (h : ArgA w a xs) (hb : Below w.heap.size w w') : ArgA w' a xs :=
  ⟨fun k hk => by obtain ⟨b, o, e, h1⟩ := h.row k hk; exact ⟨b, o, e, h1.below hb⟩⟩

theorem overB_at {k0 : Nat} {a b : List UInt8} (ha : a.length = 64) (hb : b.length = 64) (hk : k0 ≤ 64) (k : Nat) : (overB k0 a b).getD k 0 = if k < k0 then a.getD k 0 else b.getD k 0 := by
  unfold overB
  simp only [List.getD_eq_getElem?_getD, List.getElem?_append, List.length_take, List.getElem?_take, List.getElem?_drop]
  by_cases h : k < k0
  · rw [if_pos (show k < min k0 a.length by omega), if_pos h, if_pos h]
  · rw [if_neg (show ¬ k < min k0 a.length by omega), if_neg h, show k0 + (k - min k0 a.length) = k by omega]
def rowsOf (A : Int) (ws : List (Int × List UInt8)) : List (List UInt8) := (ws.filter fun q => q.1 == A).map (·.2)
theorem rowsOf_snoc_eq {A : Int} {ws : List (Int × List UInt8)} {bs : List UInt8} : rowsOf A (ws ++ [(A, bs)]) = rowsOf A ws ++ [bs] := by simp [rowsOf]
theorem rowsOf_snoc_ne {A i : Int} {ws : List (Int × List UInt8)} {bs : List UInt8} (h : i ≠ A) : rowsOf A (ws ++ [(i, bs)]) = rowsOf A ws := by simp [rowsOf, h]
theorem rowsOf_length (A : Int) (ws : List (Int × List UInt8)) : (rowsOf A ws).length ≤ ws.length := by
  unfold rowsOf; rw [List.length_map]; exact List.length_filter_le _ _
theorem rowsOf_len {A : Int} {ws : List (Int × List UInt8)} (h : ∀ q ∈ ws, q.2.length = 64) : ∀ r ∈ rowsOf A ws, r.length = 64 := by
  intro r hr
  simp only [rowsOf, List.mem_map, List.mem_filter] at hr
  obtain ⟨q, ⟨h1, _⟩, rfl⟩ := hr
  exact h q h1
theorem done_bytes (A : Int) (k : Nat) (ws : List (Int × List UInt8)) : ∀ (ks : Nat → Option Nat) (f : Int → List UInt8), (∀ q ∈ ws, q.2.length = 64) → (∀ i, (f i).length = 64) → (∀ j m, ks j = some m → m ≤ 64) →
    (doneK ks ws f A).getD k 0 = (f A).getD k 0 ∨ ∃ r ∈ rowsOf A ws, r.getD k 0 = (doneK ks ws f A).getD k 0 := by
  induction ws with
  | nil => intro ks f _ _ _; exact .inl rfl
  | cons p ws ih =>
    intro ks f hw hf hk
    have hp := hw p (List.mem_cons_self ..)
    have hw2 : ∀ q ∈ ws, q.2.length = 64 := fun q hq => hw q (List.mem_cons_of_mem _ hq)
    have hrow : ∀ r ∈ rowsOf A ws, r ∈ rowsOf A (p :: ws) := by
      intro r hr
      simp only [rowsOf, List.mem_map, List.mem_filter] at hr ⊢
      obtain ⟨q, ⟨h1, h2⟩, h3⟩ := hr
      exact ⟨q, ⟨List.mem_cons_of_mem _ h1, h2⟩, h3⟩
    unfold doneK
    cases h0 : ks 0 with
    | none =>
      rcases ih (fun j => ks (j + 1)) f hw2 hf (fun j m => hk (j + 1) m) with h | ⟨r, h1, h2⟩
      · exact .inl h
      · exact .inr ⟨r, hrow r h1, h2⟩
    | some m =>
      have hm := hk 0 m h0
      have hf2 : ∀ i, (if i = p.1 then overB m p.2 (f p.1) else f i).length = 64 := by
        intro i
        split
        · exact overB_len hm hp (hf _)
        · exact hf i
      rcases ih (fun j => ks (j + 1)) (fun j => if j = p.1 then overB m p.2 (f p.1) else f j) hw2 hf2 (fun j m => hk (j + 1) m) with h | ⟨r, h1, h2⟩
      · by_cases hA : A = p.1
        · simp only at h ⊢
          rw [if_pos hA, overB_at hp (hf _) hm] at h
          by_cases hlt : k < m
          · rw [if_pos hlt] at h
            refine .inr ⟨p.2, ?_, h.symm⟩
            simp only [rowsOf, List.mem_map, List.mem_filter]
            exact ⟨p, ⟨List.mem_cons_self .., by simpa using hA.symm⟩, rfl⟩
          · rw [if_neg hlt] at h
            exact .inl (h.trans (by rw [hA]))
        · rw [if_neg hA] at h
          exact .inl h
      · exact .inr ⟨r, hrow r h1, h2⟩

/-- What holds ahead of the k-th act. -/
def KInv (base : Nat) (w0 wr : World) (B mb : Nat) (A : Int) (k : Nat) (vv : Value) : Prop := ∃ mn v p F, DM base wr B mb mn v p ∧ p.n = 8 ∧ p.armed = false ∧ p.gone = false ∧ p.ws.length ≤ k ∧ mn ≤ 100 * k ∧ (-(k : Int) ≤ p.l ∧ p.l ≤ 0) ∧
  RowsOf RB 36 1 base wr F vv (rowsOf A p.ws) ∧ (∀ k, F k → ¬ DiskD B mb v k) ∧ (∀ k, vv.ownBlock = some k → ¬ DiskD B mb v k) ∧ Below base w0 wr
theorem KInv.below {base : Nat} {w0 wr w' : World} {B mb : Nat} {A : Int} {k : Nat} {vv : Value} (h : KInv base w0 wr B mb A k vv) (hb : Below wr.heap.size wr w') (hs : base ≤ wr.heap.size) : KInv base w0 w' B mb A k vv := by
  obtain ⟨mn, v, p, F, h1, h2, h3, h4, h5, h6, h7, h8, h9, h10, h11⟩ := h
  exact ⟨mn, v, p, F, h1.below hb, h2, h3, h4, h5, h6, h7, h8.below liesRB hb, h9, h10, h11.trans (hb.mono hs)⟩
theorem KInv.next {base : Nat} {w0 wr : World} {B mb : Nat} {A : Int} {k : Nat} {vv : Value} (h : KInv base w0 wr B mb A k vv) : KInv base w0 wr B mb A (k + 1) vv := by
  obtain ⟨mn, v, p, F, h1, h2, h3, h4, h5, h6, h7, h8, h9, h10, h11⟩ := h
  exact ⟨mn, v, p, F, h1, h2, h3, h4, by omega, by omega, by omega, h8, h9, h10, h11⟩
theorem KStep {base : Nat} {w0 w5 w6 : World} {B mb mn mn' : Nat} {v v' vv : Value} {p p' : DP} {F : Nat → Prop} {ps : List (List UInt8)} (hdm : DM base w5 B mb mn v p) (hrows : RowsOf RB 36 1 base w5 F vv ps) (hF : ∀ k, F k → ¬ DiskD B mb v k) (hvF : ∀ k, vv.ownBlock = some k → ¬ DiskD B mb v k) (hbel : Below base w0 w5) (hb : base ≤ w5.heap.size) (hst : DStep base w5 w6 B mb v mn' v' p') :
    RowsOf RB 36 1 base w6 F vv ps ∧ (∀ k, F k → ¬ DiskD B mb v' k) ∧ (∀ k, vv.ownBlock = some k → ¬ DiskD B mb v' k) ∧ Below base w0 w6 :=
  ⟨hrows.only liesRB hst.only (fun k hk => hF k hk) (fun k hk => hvF k hk), fun k hk => hst.apart (hF k hk) (hrows.lt k hk), fun k hk => hst.apart (hvF k hk) (hrows.ownLt k hk).2, hbel.trans (hst.below hdm hb)⟩
theorem KApp {base : Nat} {w0 w5 w6 w7 : World} {B mb mn mn' : Nat} {v v' vv v7 : Value} {p p' : DP} {F : Nat → Prop} {ps qs : List (List UInt8)} {O : Nat → Prop} {H : Nat} (hdm : DM base w5 B mb mn v p) (hH : ∀ k, DiskD B mb v k → k < H) (hO : ∀ k, O k → H ≤ k ∧ k < w5.heap.size) (hst : DStep base w5 w6 B mb v mn' v' p') (hF : ∀ k, F k → ¬ DiskD B mb v' k) (hvF : ∀ k, vv.ownBlock = some k → ¬ DiskD B mb v' k) (hbel : Below base w0 w6) (hb : base ≤ w6.heap.size)
    (hr6 : RowsOf RB 36 1 base w6 F vv ps) (hr7 : RowsOf RB 36 1 base w7 (fun k => F k ∨ O k) v7 qs) (hon : Only (fun k => vv.ownBlock = some k) w6 w7) (hmv : Moved w6 vv v7) :
    DM base w7 B mb mn' v' p' ∧ (∀ k, F k ∨ O k → ¬ DiskD B mb v' k) ∧ (∀ k, v7.ownBlock = some k → ¬ DiskD B mb v' k) ∧ Below base w0 w7 := by
  refine ⟨hst.ok.only hon (fun k hk e => hvF k e hk), fun k hk => ?_, fun k hk => ?_, hbel.trans (hon.below hb (fun k hk => (hr6.ownLt k hk).1))⟩
  · rcases hk with hk | hk
    · exact hF k hk
    · intro hd
      have h1 := hO k hk
      rcases hst.new k hd with h2 | h2
      · have := hH k h2; omega
      · omega
  · rcases hmv k hk with h1 | h1
    · exact hvF k h1
    · intro hd
      have := (hst.ok.lt k hd).2
      omega
theorem u8_beq (x y : UInt8) : ((x.toNat : Int) == (y.toNat : Int)) = (x == y) := by
  by_cases h : x = y
  · subst h; simp
  · have h2 : ((x.toNat : Int) == (y.toNat : Int)) = false := by
      rw [beq_eq_false_iff_ne]
      exact fun e => h (UInt8.toNat_inj.1 (by omega))
    rw [h2]
    exact (beq_eq_false_iff_ne.2 h).symm
theorem any_take {α : Type} {l : List α} {f : α → Bool} {j : Nat} (h : j < l.length) : (l.take (j + 1)).any f = ((l.take j).any f || f l[j]) := by
  rw [List.take_succ_eq_append_getElem h, List.any_append]; simp
end Go.Proofs.YtdgilgnaoifpcaaDoor
