/- The walks over sha.New, Put. -/
import Derived.Test.YtgkddegaiaeckaaDoorF4SafeSaid
namespace Go.Proofs.YtgkddegaiaeckaaDoor
open Go.RowKit

/-- The ten cells of a hash. -/
def hashC (s : S8) (a : Option Addr) (n c : Nat) (k : Int) : Array Value :=
  #[.int .u32 (wn s.a), .int .u32 (wn s.b), .int .u32 (wn s.c), .int .u32 (wn s.d), .int .u32 (wn s.e), .int .u32 (wn s.f), .int .u32 (wn s.g), .int .u32 (wn s.h), .slice a n c, .int .i64 k]
/-- A hash in memory: its state, its rest, its count. -/
structure HashAt (w0 : World) (b : Nat) (s : S8) (a : Option Addr) (n c : Nat) (k : Int) (W : World) : Prop where
  blk : W.heap[b]? = some (.cells (hashC s a n c k) 140 (0, 0))
  bel : Below w0.heap.size w0 W
/-- The rest of a hash is .. -/
def RestIs (b : Nat) (a : Option Addr) (n c : Nat) (W : World) : Prop := W.cell? ⟨b, 8, none⟩ = some (.slice a n c)
section
variable {w0 : World} {b : Nat} {s : S8} {a : Option Addr} {n c : Nat} {k : Int} {W W' : World}
theorem HashAt.restAt (h : HashAt w0 b s a n c k W) : RestIs b a n c W := by unfold RestIs; rw [cell_of_block h.blk]; rfl
theorem HashAt.countAt (h : HashAt w0 b s a n c k W) : W.cell? ⟨b, 9, none⟩ = some (.int .i64 k) := by rw [cell_of_block h.blk]; rfl
theorem HashAt.words (h : HashAt w0 b s a n c k W) : W.cell? ⟨b, 0, none⟩ = some (.int .u32 (wn s.a)) ∧ W.cell? ⟨b, 1, none⟩ = some (.int .u32 (wn s.b)) ∧ W.cell? ⟨b, 2, none⟩ = some (.int .u32 (wn s.c)) ∧ W.cell? ⟨b, 3, none⟩ = some (.int .u32 (wn s.d)) ∧
    W.cell? ⟨b, 4, none⟩ = some (.int .u32 (wn s.e)) ∧ W.cell? ⟨b, 5, none⟩ = some (.int .u32 (wn s.f)) ∧ W.cell? ⟨b, 6, none⟩ = some (.int .u32 (wn s.g)) ∧ W.cell? ⟨b, 7, none⟩ = some (.int .u32 (wn s.h)) := by
  refine ⟨?_, ?_, ?_, ?_, ?_, ?_, ?_, ?_⟩ <;> (rw [cell_of_block h.blk]; rfl)
theorem HashAt.free (h : HashAt w0 b s a n c k W) (j : Nat) : W.frozen? ⟨b, j, none⟩ = false := free_of_block h.blk _
theorem HashAt.grown (h : HashAt w0 b s a n c k W) (hd : Below W.heap.size W W') : HashAt w0 b s a n c k W' := ⟨(hd.block _ (block_lt h.blk)).trans h.blk, h.bel.trans (hd.mono h.bel.size)⟩
theorem HashAt.put8 (h : HashAt w0 b s a n c k W) (hb : w0.heap.size ≤ b) (s' : S8) : HashAt w0 b s' a n c k
    ((((((((W.setCell ⟨b, 0, none⟩ (.int .u32 (wn s'.a))).setCell ⟨b, 1, none⟩ (.int .u32 (wn s'.b))).setCell ⟨b, 2, none⟩ (.int .u32 (wn s'.c))).setCell ⟨b, 3, none⟩ (.int .u32 (wn s'.d))).setCell ⟨b, 4, none⟩ (.int .u32 (wn s'.e))).setCell ⟨b, 5, none⟩ (.int .u32 (wn s'.f))).setCell ⟨b, 6, none⟩ (.int .u32 (wn s'.g))).setCell ⟨b, 7, none⟩ (.int .u32 (wn s'.h))) := by
  have hu := ((((((((Upd.refl h.blk).setCell (j := 0) (.int .u32 (wn s'.a))).setCell (j := 1) (.int .u32 (wn s'.b))).setCell (j := 2) (.int .u32 (wn s'.c))).setCell (j := 3) (.int .u32 (wn s'.d))).setCell (j := 4) (.int .u32 (wn s'.e))).setCell (j := 5) (.int .u32 (wn s'.f))).setCell (j := 6) (.int .u32 (wn s'.g))).setCell (j := 7) (.int .u32 (wn s'.h))
  have hu2 := hu.to (show _ = Obj.cells (hashC s' a n c k) 140 (0, 0) from by simp [hashC])
  exact ⟨hu2.here, h.bel.trans (hu2.below hb)⟩
theorem HashAt.putRest (h : HashAt w0 b s a n c k W) (hb : w0.heap.size ≤ b) (a' : Option Addr) (n' c' : Nat) : HashAt w0 b s a' n' c' k (W.setCell ⟨b, 8, none⟩ (.slice a' n' c')) := by
  have hu := (Upd.refl h.blk).setCell (j := 8) (.slice a' n' c')
  have hu2 := hu.to (show _ = Obj.cells (hashC s a' n' c' k) 140 (0, 0) from by simp [hashC])
  exact ⟨hu2.here, h.bel.trans (hu2.below hb)⟩
theorem HashAt.putCount (h : HashAt w0 b s a n c k W) (hb : w0.heap.size ≤ b) (k' : Int) : HashAt w0 b s a n c k' (W.setCell ⟨b, 9, none⟩ (.int .i64 k')) := by
  have hu := (Upd.refl h.blk).setCell (j := 9) (.int .i64 k')
  have hu2 := hu.to (show _ = Obj.cells (hashC s a n c k') 140 (0, 0) from by simp [hashC])
  exact ⟨hu2.here, h.bel.trans (hu2.below hb)⟩
end

/-- A hash of a message. -/
def HashOf (w0 : World) (b : Nat) (m : List UInt8) (W : World) : Prop :=
  ∃ a n c, HashAt w0 b (foldS s8First m (m.length / 64)) a n c (m.length : Int) W ∧ OwnB w0.heap.size W (.slice a n c) (m.drop (64 * (m.length / 64))) ∧ w0.heap.size ≤ b

/-- What a hash begins with lies in its variable. -/
def ShaF (w : World) : Prop := ∀ i, i < 8 → w.cell? ⟨23, i, none⟩ = some (.int .u32 (wn (sAt s8First i)))
theorem ShaF.below {w w' : World} (h : ShaF w) (hb : Below w.heap.size w w') : ShaF w' := fun t ht => (hb.cell (World.block_lt_of_cell? w _ (h t ht))).trans (h t ht)

set_option maxHeartbeats 1000000 in
theorem new_any (w : World) (hF : ShaF w) : Calls Tryd.prog 63 #[] w fun e w' => e = .returned (.pointer (some ⟨w.heap.size, 0, none⟩)) ∧ w' = w.alloc (.cells (hashC s8First none 0 0 0) 140) := by
  have e0 := hF 0 (by omega)
  have e1 := hF 1 (by omega)
  have e2 := hF 2 (by omega)
  have e3 := hF 3 (by omega)
  have e4 := hF 4 (by omega)
  have e5 := hF 5 (by omega)
  have e6 := hF 6 (by omega)
  have e7 := hF 7 (by omega)
  clear hF
  go_enter Tryd.func63, Tryd.ntmps63
  go_wp2_with fail
  go_ret
  exact ⟨rfl, rfl⟩
theorem new_hash (w : World) (hF : ShaF w) : Calls Tryd.prog 63 #[] w fun e w' => e = .returned (.pointer (some ⟨w.heap.size, 0, none⟩)) ∧ HashOf w w.heap.size [] w' := by
  refine (new_any w hF).mono ?_
  rintro e w' ⟨rfl, rfl⟩
  refine ⟨rfl, none, 0, 0, ⟨heap_alloc_new w _, (Below.refl w.heap.size w).alloc (Nat.le_refl _) _⟩, OwnB.nil _ _, Nat.le_refl _⟩

/-! ### Put -/
theorem OwnB.upd {base b : Nat} {o : Obj} {W W' : World} {v : Value} {bs : List UInt8} (h : OwnB base W v bs) (hu : Upd b o W W') (hne : ∀ cur fz, W.heap[b]? ≠ some (.cells cur 5 fz)) : OwnB base W' v bs := by
  refine ⟨h.1, ?_⟩
  rcases h.2 with h2 | ⟨g, cap, cur, e1, e2, e3, e4⟩
  · exact .inl h2
  · refine .inr ⟨g, cap, cur, e1, e2, ?_, e4⟩
    rw [hu.block g (fun e => hne cur (0, 0) (by rw [← e]; exact e3))]
    exact e3
theorem HashAt.other {w0 : World} {b : Nat} {s : S8} {a : Option Addr} {n c : Nat} {k : Int} {W : World} (h : HashAt w0 b s a n c k W) : ∀ cur fz, W.heap[b]? ≠ some (.cells cur 5 fz) := by
  intro cur fz e
  rw [h.blk] at e
  have : 140 = 5 := by injection e with e; injection e
  exact absurd this (by decide)
/-- The rest's row is another block. -/
theorem own_ne {base b : Nat} {W : World} {v : Value} {bs : List UInt8} (h : OwnB base W v bs) (hne : ∀ cur fz, W.heap[b]? ≠ some (.cells cur 5 fz)) : some b ≠ v.ownBlock := by
  intro e
  rcases h.2 with ⟨rfl, _⟩ | ⟨g, cap, cur, rfl, e2, e3, e4⟩
  · simp [Value.ownBlock] at e
  · simp [Value.ownBlock] at e
    subst e
    exact hne _ _ e3

section
variable {w : World} {ops : Array Oper} {rest : List Oper} {o : Oper} {a : Act} {Q : Exit → Act → World → Prop}
/-- 'append(s, x...)' of bytes; what turns in memory is told, too. -/
theorem wpB_appG (hgd : o.guard = none) (s x : Operand) (ho : o.op = .call { callee := .builtin .append, args := #[s, x], argTypes := #[22, 22] })
    (base : Nat) (v : Value) (bs : List UInt8) (hs : a.eval s = v) (hown : Hid (OwnB base w v bs))
    (ao : Option Addr) (c : Nat) (ys : List UInt8) (m : Nat) (hx : a.eval x = .slice ao m c) (hm : Hid (ys.length = m)) (hy : Hid (ArgB w ao c ys)) (hl : bs.length ≤ 1000000) (hl2 : m ≤ 1000000) (hbase : base ≤ w.heap.size)
    (h : ∀ v' w', Hid (OwnB base w' v' (bs ++ ys)) → Hid (Below base w w') → Hid (w.grownBy w' v.ownBlock) → wpList Tryd.prog ops Q rest (a.put o.dst v') w') :
    wpList Tryd.prog ops Q (o :: rest) a w := by
  obtain ⟨i0, hi, hz0, hz1, hz2⟩ := info_parts Tryd.infoByteP
  refine wpList_app hgd s x 22 ho base 5 i0 (.int .u8 0) 1 Tryd.underlying22 hi hz0 hz1 hz2 rfl v bs.length (cB bs) hs (Lib.hid hown.out) ao m c (cB ys) hx (Lib.hid (by rw [cB_length]; exact hm.out)) (Lib.hid (At.ofB hy.out.row)) (Lib.hid hy.out.nil) (cB_one ys) (by unfold maxLen; omega) (by omega) hbase ?_
  intro v' w' h1 h2
  refine h v' w' (Lib.hid ?_) (Lib.hid ((Below.refl base w).grown h2.out hbase (fun k hk => (World.ownsRow.lt hown.out k hk).1))) h2
  unfold OwnB
  rw [cB_append, List.length_append, hm.out]
  exact h1.out
end
theorem argB_cut {W : World} {g off c : Nat} {l : List UInt8} (h : ArgB W (some ⟨g, off, none⟩) c l) (k : Nat) (hk : k ≤ l.length) : ArgB W (some ⟨g, off + k, none⟩) (c - k) (l.drop k) := by
  have := h.len
  have := h.most
  refine ⟨by rw [List.length_drop]; omega, by omega, (fun e => by cases e), fun i hi => ?_⟩
  rw [List.length_drop] at hi
  obtain ⟨b', o', e, hc⟩ := h.row (k + i) (by omega)
  cases e
  refine ⟨g, off + k, rfl, ?_⟩
  rw [Nat.add_assoc, hc]
  simp [List.getD_eq_getElem?_getD, List.getElem?_drop]
theorem argB_cutAll {W : World} {g off c : Nat} {l : List UInt8} (h : ArgB W (some ⟨g, off, none⟩) c l) (k : Nat) (hk : c ≤ k) : ArgB W (some ⟨g, off, none⟩) 0 (l.drop k) := by
  have := h.len
  rw [List.drop_eq_nil_of_le (by omega)]
  exact ⟨Nat.le_refl _, Nat.zero_le _, (fun e => by cases e), fun i hi => by simp at hi⟩
theorem argB_takeN {w : World} {a : Option Addr} {c : Nat} {bs : List UInt8} (h : ArgB w a c bs) (n : Nat) (hn : n ≤ bs.length) : ArgB w a c (bs.take n) := by
  refine ⟨by rw [List.length_take]; have := h.len; omega, h.most, h.nil, ?_⟩
  have := (At.ofB h.row).take n
  apply At.toB
  rw [show cB (bs.take n) = (cB bs).take n from by simp [cB]]
  exact this
theorem argB_set {W : World} {c b j : Nat} {v : Value} {l : List UInt8} {a : Option Addr} (hg : ∀ g' off', a = some ⟨g', off', none⟩ → g' ≠ b) (h : ArgB W a c l) : ArgB (W.setCell ⟨b, j, none⟩ v) a c l := by
  refine ⟨h.len, h.most, h.nil, fun i hi => ?_⟩
  obtain ⟨g', o', e, hc⟩ := h.row i hi
  refine ⟨g', o', e, ?_⟩
  rw [World.cell?_setCell_other _ _ _ _ (fun e2 => hg g' o' e (by have := congrArg Addr.block e2; first | exact this | exact this.symm))]
  exact hc
theorem argB_rest {W : World} {g off c1 : Nat} {l : List UInt8} (_ : True) (h : ArgB W (some ⟨g, off, none⟩) c1 l) (hl : 64 ≤ l.length) : ArgB W (if c1 = 64 then some ⟨g, off, none⟩ else some ⟨g, off + 64, none⟩) (c1 - 64) (l.drop 64) := by
  by_cases hc : c1 = 64
  · rw [if_pos hc, hc]; exact argB_cutAll h 64 (by omega)
  · rw [if_neg hc]; exact argB_cut h 64 hl
/-- A row of bytes does not lie in a hash's block. -/
theorem hash_ne {w0 W : World} {b : Nat} {s : S8} {a : Option Addr} {n c : Nat} {k : Int} (h : HashAt w0 b s a n c k W) {g off c1 : Nat} {l : List UInt8} (hr : ArgB W (some ⟨g, off, none⟩) c1 l) (hl : 0 < l.length) : g ≠ b := by
  rintro rfl
  obtain ⟨b', o', e, hc⟩ := hr.row 0 hl
  cases e
  rw [Nat.add_zero, cell_of_block h.blk] at hc
  match off with
  | 0 => simp [hashC] at hc
  | 1 => simp [hashC] at hc
  | 2 => simp [hashC] at hc
  | 3 => simp [hashC] at hc
  | 4 => simp [hashC] at hc
  | 5 => simp [hashC] at hc
  | 6 => simp [hashC] at hc
  | 7 => simp [hashC] at hc
  | 8 => simp [hashC] at hc
  | 9 => simp [hashC] at hc
  | n + 10 => simp [hashC] at hc
/-- How long the rest is. -/
def restLen (b : Nat) (w : World) : Nat := match w.cell? ⟨b, 8, none⟩ with | some (.slice _ n _) => n | _ => 0
theorem restLen_of {b : Nat} {a : Option Addr} {n c : Nat} {w : World} (h : RestIs b a n c w) : restLen b w = n := by unfold restLen; unfold RestIs at h; rw [h]

set_option maxRecDepth 10000 in
set_option maxHeartbeats 4000000 in
theorem put_any (w0 : World) (b : Nat) (m : List UInt8) (a : Option Addr) (ca : Nat) (bs : List UInt8) (w : World) (hH : HashOf w0 b m w) (ha : ArgB w0 a ca bs) (hK : ShaK w0) (hm : m.length ≤ 100000) (hl : bs.length ≤ 100000) :
    Calls Tryd.prog 64 #[.pointer (some ⟨b, 0, none⟩), .slice a bs.length ca] w fun e w' => e = .returned (.pointer (some ⟨b, 0, none⟩)) ∧ HashOf w0 b (m ++ bs) w' := by
  obtain ⟨a1, n1, c1, hA, hO, hbb⟩ := hH
  have e8 : w.cell? ⟨b, 8, none⟩ = some (.slice a1 n1 c1) := hA.restAt
  have e9 := hA.countAt
  have f8 := hA.free 8
  have f9 := hA.free 9
  have hA1 := Lib.hid (hA.putCount hbb ((m.length : Int) + bs.length))
  have hO1 := Lib.hid (hO.upd ((Upd.refl hA.blk).setCell (j := 9) (.int .i64 ((m.length : Int) + bs.length))) hA.other)
  have haW := Lib.hid (ha.below hA1.out.bel)
  have hml : (m.drop (64 * (m.length / 64))).length ≤ 1000000 := by rw [List.length_drop]; omega
  replace ha := Lib.hid ha
  have hK0 := Lib.hid hK
  have hbb := Lib.hid hbb
  have hsz : w0.heap.size ≤ (w.setCell ⟨b, 9, none⟩ (.int .i64 ((m.length : Int) + bs.length))).heap.size := hA1.out.bel.size
  have hst := Lib.hid (foldS_append s8First m bs (m.length / 64) (by omega))
  have hdr := Lib.hid (show (m ++ bs).drop (64 * (m.length / 64)) = m.drop (64 * (m.length / 64)) ++ bs from List.drop_append_of_le_length (by omega))
  have hM := Lib.hid (show ((m ++ bs).length : Int) = (m.length : Int) + bs.length from by simp)
  have hMl : (m ++ bs).length ≤ 200000 := by rw [List.length_append]; omega
  have hq0 := Lib.hid (show 64 * (m.length / 64) ≤ (m ++ bs).length from by rw [List.length_append]; omega)
  obtain ⟨M, hMe⟩ : ∃ M, M = m ++ bs := ⟨_, rfl⟩
  rw [← hMe] at hst hdr hM hMl hq0 ⊢
  replace hMe := Lib.hid hMe
  replace hMl := Lib.hid hMl
  replace hml := Lib.hid hml
  clear hA hO hK
  go_enter Tryd.func64, Tryd.ntmps64
  go_wp2_with (at_builtin; go_must (refine wpB_appG rfl (.tmp 18) (.tmp 19) rfl w0.heap.size _ _ rfl hO1 a ca bs _ rfl (Lib.hid rfl) haW hml.out (by omega) hsz ?_))
  intro v2 w2 hown2 hb2 hg2
  have hA2 : HashAt w0 b (foldS s8First M (m.length / 64)) a1 n1 c1 (M.length : Int) w2 := by
    rw [hst.out, hM.out]
    exact ⟨(hg2.out.block b (block_lt hA1.out.blk) (own_ne hO1.out hA1.out.other)).trans hA1.out.blk, hA1.out.bel.trans hb2.out⟩
  rw [← hdr.out] at hown2
  obtain ⟨a2, c2, hv2, hR2, _⟩ := hown2.out.arg
  rw [List.length_drop] at hv2
  subst hv2
  have f82 := hA2.free 8
  have e82 : w2.cell? ⟨b, 8, none⟩ = some (.slice a1 n1 c1) := hA2.restAt
  have hA3 := Lib.hid (hA2.putRest hbb.out a2 (M.length - 64 * (m.length / 64)) c2)
  have hR3 := Lib.hid (show ArgB (w2.setCell ⟨b, 8, none⟩ (.slice a2 (M.length - 64 * (m.length / 64)) c2)) a2 c2 (M.drop (64 * (m.length / 64))) from by
    have hO3 := hown2.out.upd ((Upd.refl hA2.blk).setCell (j := 8) (.slice a2 (M.length - 64 * (m.length / 64)) c2)) hA2.other
    obtain ⟨a3, c3, hv, hR, _⟩ := hO3.arg
    rw [List.length_drop] at hv
    obtain ⟨rfl, rfl⟩ : a2 = a3 ∧ c2 = c3 := by simpa using hv
    exact hR)
  clear hA1 hO1 hA2 hown2 hb2 hg2 hR2 hst hdr e8 e9 f8 f9 haW hM hsz
  obtain ⟨q1, hq1⟩ : ∃ q, q = m.length / 64 := ⟨_, rfl⟩
  rw [← hq1] at hA3 hR3 hq0 ⊢
  clear hq1 hml
  go_wp2_with fail
  go_loopw [] (fun wr => ∃ (q : Nat) (a1 : Option Addr) (n1 c1 : Nat), HashAt w0 b (foldS s8First M q) a1 n1 c1 (M.length : Int) wr ∧ ArgB wr a1 c1 (M.drop (64 * q)) ∧ n1 = M.length - 64 * q ∧ 64 * q ≤ M.length) (fun wr => restLen b wr)
  case atStart => exact ⟨q1, _, _, _, hA3.out, hR3.out, rfl, hq0.out⟩
  case round =>
    clear hA3 hR3 hq0 e82 f82
    obtain ⟨q, a1, n1, c1, hA, hR, hn1, hq⟩ := hrel
    subst hn1
    have hml := hMl.out
    have hr8 : wr.cell? ⟨b, 8, none⟩ = some (.slice a1 (M.length - 64 * q) c1) := hA.restAt
    have hlen := hR.len
    have hmost := hR.most
    rw [List.length_drop] at hlen
    by_cases hlt : 64 ≤ M.length - 64 * q
    · obtain ⟨g, off, rfl, _⟩ := hR.row 0 (by rw [List.length_drop]; omega)
      obtain ⟨r0, r1, r2, r3, r4, r5, r6, r7⟩ := hA.words
      have hS0 : RestIs b (some ⟨g, off, none⟩) (M.length - 64 * q) c1 wr.drew := hr8
      have hta := fun W (h : ArgB W (some ⟨g, off, none⟩) c1 ((M.drop (64 * q)).take 64)) (h2 : ShaK W) => take_any (foldS s8First M q) (some ⟨g, off, none⟩) c1 ((M.drop (64 * q)).take 64) W h (by rw [List.length_take, List.length_drop]; omega) h2
      simp only [c8_out] at hta
      replace hta := Lib.hid hta
      have hag : ArgB wr (some ⟨g, off, none⟩) c1 ((M.drop (64 * q)).take 64) := argB_takeN hR 64 (by rw [List.length_drop]; omega)
      have hcl : (64 : Int) ≤ ((M.length - 64 * q : Nat) : Int) := by omega
      have hcc : (64 : Int) ≤ (c1 : Int) := by omega
      have hI := Lib.hid (show HashAt w0 b (foldS s8First M q) (some ⟨g, off, none⟩) (M.length - 64 * q) c1 (M.length : Int) wr.drew from ⟨hA.blk, hA.bel.trans (Drawn.below ⟨1, rfl⟩ _)⟩)
      have hK1 := Lib.hid (show ShaK wr.drew from hK0.out.below hI.out.bel)
      replace hag := Lib.hid (show ArgB wr.drew (some ⟨g, off, none⟩) c1 ((M.drop (64 * q)).take 64) from hag.below (Drawn.below ⟨1, rfl⟩ _))
      have hgb := Lib.hid trivial
      have hgb1 := hash_ne hA hR (by rw [List.length_drop]; omega)
      have hgb7 := Lib.hid (show ∀ g' off', (if c1 = 64 then some (⟨g, off, none⟩ : Addr) else some ⟨g, off + 64, none⟩) = some ⟨g', off', none⟩ → g' ≠ b from by
        intro g' off' e
        split at e <;> (cases e; exact hgb1))
      have hr9 := Lib.hid (show RestIs b (some ⟨g, off, none⟩) (M.length - 64 * q) c1 wr from hr8)
      replace hR := Lib.hid (hR.below (w' := wr.drew) (Drawn.below ⟨1, rfl⟩ _))
      clear hgb1
      obtain ⟨n1, hn1⟩ : ∃ n, n = M.length - 64 * q := ⟨_, rfl⟩
      rw [← hn1] at hr8 hS0 hI hcl hlt
      replace hn1 := Lib.hid hn1
      have hrc : ∀ W, RestIs b (some ⟨g, off, none⟩) n1 c1 W → W.cell? ⟨b, 8, none⟩ = some (.slice (some ⟨g, off, none⟩) n1 c1) := fun _ h => h
      go_wp2_with fail
      refine wp_region_held_drew (S := RestIs b (some ⟨g, off, none⟩) n1 c1) (by kernel_rfl) hS0 (fun hOn => ?_)
      refine wpAnyH_take (i := 0) (v := ?_) (by simp only [List.getElem?_toArray, List.getElem?_cons_zero]; rfl) (by kernel_rfl) (by kernel_rfl) (by kernel_rfl) (by exact fun _ _ _ h => h) (Or.inl ⟨by rfl, ?_⟩) hOn ?_
      rotate_left
      focus (intro W hSW; go_simp; try with_reducible rfl)
      try simp only [Act.put, List.setIfInBounds_toArray, List.set_cons_zero, List.set_cons_succ]
      refine wpAnyH_take (i := 1) (v := ?_) (by simp only [List.getElem?_toArray, List.getElem?_cons_succ, List.getElem?_cons_zero]; rfl) (by kernel_rfl) (by kernel_rfl) (by kernel_rfl) (by exact fun _ _ _ h => h) (Or.inl ⟨by rfl, ?_⟩) hOn ?_
      rotate_left
      focus (intro W hSW; go_simp; try with_reducible rfl)
      try simp only [Act.put, List.setIfInBounds_toArray, List.set_cons_zero, List.set_cons_succ]
      refine wpAnyH_take (i := 2) (v := ?_) (by simp only [List.getElem?_toArray, List.getElem?_cons_succ, List.getElem?_cons_zero]; rfl) (by kernel_rfl) (by kernel_rfl) (by kernel_rfl) (by exact fun _ _ _ h => h) (Or.inl ⟨by rfl, ?_⟩) hOn ?_
      rotate_left
      focus (intro W hSW; go_simp; try with_reducible rfl)
      try simp only [Act.put, List.setIfInBounds_toArray, List.set_cons_zero, List.set_cons_succ]
      refine wpAnyH_take (i := 3) (v := ?_) (by simp only [List.getElem?_toArray, List.getElem?_cons_succ, List.getElem?_cons_zero]; rfl) (by kernel_rfl) (by kernel_rfl) (by kernel_rfl) (by exact fun _ _ _ h => h) (Or.inl ⟨by rfl, ?_⟩) hOn ?_
      rotate_left
      focus (intro W hSW; go_simp; try with_reducible rfl)
      try simp only [Act.put, List.setIfInBounds_toArray, List.set_cons_zero, List.set_cons_succ]
      refine wpAnyH_take (i := 5) (v := ?_) (by simp only [List.getElem?_toArray, List.getElem?_cons_succ, List.getElem?_cons_zero]; rfl) (by kernel_rfl) (by kernel_rfl) (by kernel_rfl) (by exact fun _ _ _ h => h) (Or.inl ⟨by rfl, ?_⟩) hOn ?_
      rotate_left
      focus (intro W hSW; go_simp; try with_reducible rfl)
      try simp only [Act.put, List.setIfInBounds_toArray, List.set_cons_zero, List.set_cons_succ]
      refine wpAnyH_take (i := 6) (v := ?_) (by simp only [List.getElem?_toArray, List.getElem?_cons_succ, List.getElem?_cons_zero]; rfl) (by kernel_rfl) (by kernel_rfl) (by kernel_rfl) (by exact fun _ _ _ h => h) (Or.inl ⟨by rfl, ?_⟩) hOn ?_
      rotate_left
      focus (intro W hSW; go_simp; try with_reducible rfl)
      try simp only [Act.put, List.setIfInBounds_toArray, List.set_cons_zero, List.set_cons_succ]
      refine wpAnyH_take (i := 7) (v := ?_) (by simp only [List.getElem?_toArray, List.getElem?_cons_succ, List.getElem?_cons_zero]; rfl) (by kernel_rfl) (by kernel_rfl) (by kernel_rfl) (by exact fun _ _ _ h => h) (Or.inl ⟨by rfl, ?_⟩) hOn ?_
      rotate_left
      focus (intro W hSW; go_simp; try with_reducible rfl)
      try simp only [Act.put, List.setIfInBounds_toArray, List.set_cons_zero, List.set_cons_succ]
      refine wpAnyH_take (i := 8) (v := ?_) (by simp only [List.getElem?_toArray, List.getElem?_cons_succ, List.getElem?_cons_zero]; rfl) (by kernel_rfl) (by kernel_rfl) (by kernel_rfl) (by exact fun _ _ _ h => h) (Or.inl ⟨by rfl, ?_⟩) hOn ?_
      rotate_left
      focus (intro W hSW; go_simp; try with_reducible rfl)
      try simp only [Act.put, List.setIfInBounds_toArray, List.set_cons_zero, List.set_cons_succ]
      refine wpAnyH_take (i := 9) (v := ?_) (by simp only [List.getElem?_toArray, List.getElem?_cons_succ, List.getElem?_cons_zero]; rfl) (by kernel_rfl) (by kernel_rfl) (by kernel_rfl) (by exact fun _ _ _ h => h) (Or.inl ⟨by rfl, ?_⟩) hOn ?_
      rotate_left
      focus (intro W hSW; go_simp; try with_reducible rfl)
      try simp only [Act.put, List.setIfInBounds_toArray, List.set_cons_zero, List.set_cons_succ]
      refine wpAnyH_ready (rs := [4]) (by kernel_rfl) (by simp) ?_
      refine AllReadyH.cons (by simp only [List.getElem?_toArray, List.getElem?_cons_succ, List.getElem?_cons_zero]; rfl) (fun K hK => ?_) AllReadyH.nil
      go_simp
      refine hK.out _ _ hS0 (fun hNext => ?_)
      clear hK K hOn
      have hOn := hNext
      clear hNext
      try simp only [Act.put, List.setIfInBounds_toArray, List.set_cons_zero, List.set_cons_succ]
      refine wpAnyH_ready (rs := [10]) (by kernel_rfl) (by simp) ?_
      refine AllReadyH.cons (by simp only [List.getElem?_toArray, List.getElem?_cons_succ, List.getElem?_cons_zero]; rfl) (fun K hK => ?_) AllReadyH.nil
      go_simp
      with_reducible refine (hta.out _ hag.out hK1.out).mono ?_
      rintro e w4 ⟨rfl, hd⟩
      have hI4 := Lib.hid (hI.out.grown hd)
      replace hR := Lib.hid (hR.out.below hd)
      have hS4 := hI4.out.restAt
      clear hd
      go_wp2_with fail
      refine hK.out _ _ hS4 (fun hNext => ?_)
      clear hS4
      clear hK K hOn
      have hOn := hNext
      clear hNext
      try simp only [Act.put, List.setIfInBounds_toArray, List.set_cons_zero, List.set_cons_succ]
      refine wpAnyH_take (i := 11) (v := ?_) (by simp only [List.getElem?_toArray, List.getElem?_cons_succ, List.getElem?_cons_zero]; rfl) (by kernel_rfl) (by kernel_rfl) (by kernel_rfl) (by exact fun _ _ _ h => h) (Or.inl ⟨by rfl, ?_⟩) hOn ?_
      rotate_left
      focus (intro W hSW; go_simp; try with_reducible rfl)
      try simp only [Act.put, List.setIfInBounds_toArray, List.set_cons_zero, List.set_cons_succ]
      refine wpAnyH_take (i := 12) (v := ?_) (by simp only [List.getElem?_toArray, List.getElem?_cons_succ, List.getElem?_cons_zero]; rfl) (by kernel_rfl) (by kernel_rfl) (by kernel_rfl) (by exact fun _ _ _ h => h) (Or.inl ⟨by rfl, ?_⟩) hOn ?_
      rotate_left
      focus (intro W hSW; go_simp; try with_reducible rfl)
      try simp only [Act.put, List.setIfInBounds_toArray, List.set_cons_zero, List.set_cons_succ]
      refine wpAnyH_ready (rs := [13]) (by kernel_rfl) (by simp) ?_
      refine AllReadyH.cons (by simp only [List.getElem?_toArray, List.getElem?_cons_succ, List.getElem?_cons_zero]; rfl) (fun K hK => ?_) AllReadyH.nil
      obtain ⟨g0, g1, g2, g3, g4, g5, g6, g7⟩ := hI4.out.words
      have f0 := hI4.out.free 0
      have f1 := hI4.out.free 1
      have f2 := hI4.out.free 2
      have f3 := hI4.out.free 3
      have f4 := hI4.out.free 4
      have f5 := hI4.out.free 5
      have f6 := hI4.out.free 6
      have f7 := hI4.out.free 7
      have hI6 := Lib.hid (hI4.out.put8 hbb.out (takeS (foldS s8First M q) ((M.drop (64 * q)).take 64)))
      have hS6 := hI6.out.restAt
      go_simp
      refine hK.out _ _ hS6 (fun hNext => ?_)
      clear hS6
      clear hK K hOn
      have hOn := hNext
      clear hNext
      try simp only [Act.put, List.setIfInBounds_toArray, List.set_cons_zero, List.set_cons_succ]
      refine wpAnyH_done (by kernel_rfl) ?_ _
      clear g0 g1 g2 g3 g4 g5 g6 g7 f0 f1 f2 f3 f4 f5 f6 f7 hI4
      have r8 := hI6.out.restAt
      unfold RestIs at r8
      have f8 := hI6.out.free 8
      clear hrc hr8 hS0 hta r0 r1 r2 r3 r4 r5 r6 r7
      go_wp2_with fail
      have hI7 := Lib.hid (hI6.out.putRest hbb.out (if c1 = 64 then some ⟨g, off, none⟩ else some ⟨g, off + 64, none⟩) (n1 - 64) (c1 - 64))
      have hR7 := Lib.hid (argB_rest hgb.out hR.out (by rw [List.length_drop]; have := hn1.out; omega))
      have hnn := hn1.out
      rw [List.drop_drop] at hR7
      refine ⟨⟨q + 1, _, _, _, hI7.out, argB_set hgb7.out (argB_set hgb7.out (argB_set hgb7.out (argB_set hgb7.out (argB_set hgb7.out (argB_set hgb7.out (argB_set hgb7.out (argB_set hgb7.out (argB_set hgb7.out ?_)))))))), by omega, by omega⟩, ?_⟩
      · exact hR7.out
      · rw [restLen_of hI7.out.restAt, restLen_of hr9.out]
        omega
    · have hq64 : q = M.length / 64 := by omega
      have hI := Lib.hid hA
      have hcl := clone_any a1 c1 (M.drop (64 * q)) wr hR (by rw [List.length_drop]; omega)
      rw [List.length_drop] at hcl
      replace hcl := Lib.hid hcl
      replace hR := Lib.hid hR
      obtain ⟨n1, hn1⟩ : ∃ n, n = M.length - 64 * q := ⟨_, rfl⟩
      rw [← hn1] at hr8 hI hcl hlt
      replace hn1 := Lib.hid hn1
      have hlt2 : (n1 : Int) < 64 := by omega
      go_wp2_with fail
      with_reducible refine hcl.out.mono ?_
      rintro e w5 ⟨v, rfl, ho, hd⟩
      have hI5 := hI.out.grown hd
      have hne5 := hI5.other
      obtain ⟨a5, c5, hv, _, _⟩ := ho.arg
      rw [List.length_drop, ← hn1.out] at hv
      subst hv
      have r8 : w5.cell? ⟨b, 8, none⟩ = some (.slice a1 n1 c1) := hI5.restAt
      have f8 := hI5.free 8
      have ho6 := Lib.hid ((ho.mono (base' := w0.heap.size) hI.out.bel.size).upd ((Upd.refl hI5.blk).setCell (j := 8) (.slice a5 n1 c5)) hne5)
      have hI6 := Lib.hid (hI5.putRest hbb.out a5 n1 c5)
      clear ho hd hcl hne5
      go_wp2_with fail
      go_ret
      refine ⟨rfl, a5, n1, c5, ?_, ?_, hbb.out⟩
      · rw [← hq64]; exact hI6.out
      · rw [← hq64]; exact ho6.out

end Go.Proofs.YtgkddegaiaeckaaDoor
