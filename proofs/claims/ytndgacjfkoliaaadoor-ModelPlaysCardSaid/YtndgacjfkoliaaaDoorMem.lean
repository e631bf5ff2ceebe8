/- Laws on slices of elements of one cell: what the walks of this work are fed with. Of whatever program. -/
import Derived.Test.YtndgacjfkoliaaaDoorBase
import Derived.Laws.AppendOwnNone
import Derived.Laws.BytesString
import Derived.Laws.BitsAllLaws
import Derived.Deep.QuietTactic
namespace Go.Proofs.YtndgacjfkoliaaaDoor
open Go.RowKit

/-- The address 'ao' leads to the cells ys (where there are none it may be anything). -/
def At (w : World) (ao : Option Addr) (ys : List Value) : Prop :=
  ∀ i, i < ys.length → ∃ b off, ao = some ⟨b, off, none⟩ ∧ w.cell? ⟨b, off + i, none⟩ = ys[i]?
/-- Bytes, ints as cells. -/
def cB (bs : List UInt8) : List Value := bs.map fun x => .int .u8 (x.toNat : Int)
def cI (zs : List Int) : List Value := zs.map fun x => .int .i64 x
theorem cB_length (bs : List UInt8) : (cB bs).length = bs.length := by simp [cB]
theorem cI_length (zs : List Int) : (cI zs).length = zs.length := by simp [cI]
theorem cB_append (a b : List UInt8) : cB (a ++ b) = cB a ++ cB b := by simp [cB]
theorem cI_append (a b : List Int) : cI (a ++ b) = cI a ++ cI b := by simp [cI]
theorem cB_one (bs : List UInt8) : ∀ u ∈ cB bs, u.oneCell' = true := by intro u hu; simp only [cB, List.mem_map] at hu; obtain ⟨_, _, rfl⟩ := hu; rfl
theorem cI_one (zs : List Int) : ∀ u ∈ cI zs, u.oneCell' = true := by intro u hu; simp only [cI, List.mem_map] at hu; obtain ⟨_, _, rfl⟩ := hu; rfl

theorem At.below {w w' : World} {ao : Option Addr} {ys : List Value} (h : At w ao ys) (hb : Below w.heap.size w w') : At w' ao ys := by
  intro i hi
  obtain ⟨b, off, rfl, hc⟩ := h i hi
  refine ⟨b, off, rfl, ?_⟩
  rw [List.getElem?_eq_getElem hi] at hc ⊢
  exact (hb.cell (World.block_lt_of_cell? w _ hc)).trans hc
theorem At.ofB {w : World} {ao : Option Addr} {bs : List UInt8} (h : RowB w ao bs) : At w ao (cB bs) := by
  intro i hi
  rw [cB_length] at hi
  obtain ⟨b, off, rfl, hc⟩ := h i hi
  exact ⟨b, off, rfl, by rw [hc]; simp [cB, hi]⟩
theorem At.ofI {w : World} {ao : Option Addr} {zs : List Int} (h : RowI .i64 w ao zs) : At w ao (cI zs) := by
  intro i hi
  rw [cI_length] at hi
  obtain ⟨b, off, rfl, hc⟩ := h i hi
  exact ⟨b, off, rfl, by rw [hc]; simp [cI, hi]⟩
theorem At.toB {w : World} {ao : Option Addr} {bs : List UInt8} (h : At w ao (cB bs)) : RowB w ao bs := by
  intro i hi
  obtain ⟨b, off, rfl, hc⟩ := h i (by rw [cB_length]; exact hi)
  exact ⟨b, off, rfl, by rw [hc]; simp [cB, hi]⟩
theorem At.toI {w : World} {ao : Option Addr} {zs : List Int} (h : At w ao (cI zs)) : RowI .i64 w ao zs := by
  intro i hi
  obtain ⟨b, off, rfl, hc⟩ := h i (by rw [cI_length]; exact hi)
  exact ⟨b, off, rfl, by rw [hc]; simp [cI, hi]⟩
theorem At.take {w : World} {ao : Option Addr} {ys : List Value} (h : At w ao ys) (n : Nat) : At w ao (ys.take n) := by
  intro i hi
  have hi' : i < n ∧ i < ys.length := by simpa [Nat.lt_min] using hi
  obtain ⟨b, off, rfl, hc⟩ := h i hi'.2
  exact ⟨b, off, rfl, by rw [hc]; simp [hi'.1]⟩

/-- What a row of the call's own reads as. -/
theorem owns_at {w : World} {base : Nat} {e : TypeId} {g n cap : Nat} {xs : List Value} (h : w.ownsRow base e 1 (.slice (some ⟨g, 0, none⟩) n cap) n xs) : At w (some ⟨g, 0, none⟩) xs := by
  intro i hi
  obtain ⟨hx, h2⟩ := h
  rcases h2 with ⟨h2, _⟩ | ⟨g', cap', cur, hv, hb, hg, hn, hcap, hcur, htake⟩
  · cases h2
  · cases hv
    refine ⟨g, 0, rfl, ?_⟩
    rw [cell_of_block hg, ← htake]
    have : i < n := by omega
    simp [this]
theorem owns_any {w : World} {base : Nat} {e : TypeId} {v : Value} {n : Nat} {xs : List Value} (h : w.ownsRow base e 1 v n xs) :
    ∃ a c, v = .slice a xs.length c ∧ (a = none → c = 0) ∧ xs.length ≤ c ∧ c ≤ maxLen ∧ At w a xs ∧ xs.length = n ∧ ∀ b o s, a = some ⟨b, o, s⟩ → base ≤ b ∧ b < w.heap.size := by
  have hx := h.1
  rcases h.2 with ⟨rfl, rfl⟩ | ⟨g, cap, cur, rfl, hb, hg, hn, hcap, hcur, htake⟩
  · have : xs = [] := List.eq_nil_of_length_eq_zero (by simpa using hx)
    subst this
    exact ⟨none, 0, rfl, fun _ => rfl, Nat.le_refl _, Nat.zero_le _, fun i hi => by simp at hi, rfl, fun _ _ _ h => by cases h⟩
  · have hl : xs.length = n := by omega
    refine ⟨some ⟨g, 0, none⟩, cap, by rw [hl], fun h => (by cases h), by omega, hcap, owns_at h, hl, fun b o s h => ?_⟩
    cases h
    exact ⟨hb, block_lt hg⟩

theorem getElem_add {w : World} {b off : Nat} {ys : List Value} (h : ∀ i, i < ys.length → w.cell? ⟨b, off + i, none⟩ = ys[i]?) : ∀ j u, ys[j]? = some u → w.cell? ((⟨b, off, none⟩ : Addr).add j) = some u := by
  intro j u hu
  have hj : j < ys.length := (List.getElem?_eq_some_iff.1 hu).1
  have e1 : (⟨b, off, none⟩ : Addr).add j = ⟨b, off + j, none⟩ := by unfold Addr.add; split <;> simp_all
  rw [e1, h j hj, hu]

section
variable {P : Program} {w : World} {ops : Array Oper} {rest : List Oper} {o : Oper} {a : Act} {Q : Exit → Act → World → Prop}

/-- 'append(s, x...)' on a row that the call owns, of whatever slice. -/
theorem wpList_app (hgd : o.guard = none) (s x : Operand) (t : TypeId)
    (ho : o.op = .call { callee := .builtin .append, args := #[s, x], argTypes := #[t, t] })
    (base : Nat) (e : TypeId) (i : TypeInfo) (z : Value) (bytes : Nat) (ht : P.underlying t = some (.slice e)) (hi : P.info? e = some i) (hz : i.zero = some z)
    (hsize : i.size = 1) (hby : i.bytes = bytes) (hzs : z.cells.size = 1)
    (v : Value) (n : Nat) (xs : List Value) (hs : a.eval s = v) (hown : Hid (w.ownsRow base e 1 v n xs))
    (ao : Option Addr) (m c : Nat) (ys : List Value) (hx : a.eval x = .slice ao m c) (hm : Hid (ys.length = m)) (hsrc : Hid (At w ao ys)) (hnil : Hid (ao = none → c = 0)) (h1 : ∀ u ∈ ys, u.oneCell' = true)
    (h63 : n + m ≤ maxLen) (hbytes : (n + m) * bytes ≤ 140737488355328) (hbase : base ≤ w.heap.size)
    (h : ∀ v' w', Hid (w'.ownsRow base e 1 v' (n + m) (xs ++ ys)) → Hid (w.grownBy w' v.ownBlock) → wpList P ops Q rest (a.put o.dst v') w') :
    wpList P ops Q (o :: rest) a w := by
  cases ao with
  | some ad =>
    have had : ∀ j u, ys[j]? = some u → w.cell? (ad.add j) = some u := by
      intro j u hu
      have hj : j < ys.length := (List.getElem?_eq_some_iff.1 hu).1
      obtain ⟨b, off, e, _⟩ := hsrc.out j hj
      cases e
      refine getElem_add (fun i hi => ?_) j u hu
      obtain ⟨b', off', e', hc⟩ := hsrc.out i hi
      cases e'
      exact hc
    exact wpList_append_own _ hgd s x t ho base e i z 1 bytes ht hi hz hsize hby hzs (by omega) v n xs hs hown.out ad m c ys hx (by rw [hm.out]; omega) had h1 h63 hbytes hbase fun v' w' h2 h3 _ => h v' w' h2 h3
  | none =>
    have hc := hnil.out rfl
    have hys : ys = [] := by
      cases ys with
      | nil => rfl
      | cons y ys =>
        obtain ⟨b, off, e, _⟩ := hsrc.out 0 (by simp)
        cases e
    have hm0 : m = 0 := by rw [← hm.out, hys]; rfl
    subst hys hm0 hc
    exact wpList_append_own_none hgd s x t ho base e i 1 ht hi v n xs hs hown.out hx (h v w (by rw [List.append_nil]; exact hown) (World.grownBy.refl _ _))

/-- The same where there is room: the row stays. -/
theorem wpList_fits (hgd : o.guard = none) (s x : Operand) (t : TypeId)
    (ho : o.op = Op.call { callee := Callee.builtin Builtin.append, args := #[s, x], argTypes := #[t, t] })
    (base : Nat) (e : TypeId) (i : TypeInfo) (ht : P.underlying t = some (.slice e)) (hi : P.info? e = some i) (hsize : i.size = 1)
    (g k cap : Nat) (xs : List Value) (hs : a.eval s = .slice (some ⟨g, 0, none⟩) k cap) (hown : Hid (w.ownsRow base e 1 (.slice (some ⟨g, 0, none⟩) k cap) k xs))
    (ao : Option Addr) (m c : Nat) (ys : List Value) (hx : a.eval x = .slice ao m c) (hm : Hid (ys.length = m)) (hsrc : Hid (At w ao ys)) (hnil : Hid (ao = none → c = 0)) (h1 : ∀ u ∈ ys, u.oneCell' = true) (b1 : k + m ≤ cap)
    (h : ∀ w', Hid (w'.ownsRow base e 1 (.slice (some ⟨g, 0, none⟩) (k + m) cap) (k + m) (xs ++ ys)) → Hid (w.grownBy w' (some g)) → wpList P ops Q rest (a.put o.dst (.slice (some ⟨g, 0, none⟩) (k + m) cap)) w') :
    wpList P ops Q (o :: rest) a w := by
  refine wpList_append_fits_any w hgd s x t ho base e i 1 ht hi hsize g k cap xs hs hown.out ao m c ys hx (by rw [hm.out]; omega) (fun e => ?_) (fun ad had => ?_) h1 b1 (fun w' h2 h3 => h w' h2 h3)
  · refine ⟨?_, hnil.out e⟩
    rw [← hm.out]
    cases ys with
    | nil => rfl
    | cons y ys =>
      obtain ⟨b, off, e', _⟩ := hsrc.out 0 (by simp)
      rw [e] at e'; cases e'
  · intro j u hu
    have hj : j < ys.length := (List.getElem?_eq_some_iff.1 hu).1
    obtain ⟨b, off, e, _⟩ := hsrc.out j hj
    rw [had] at e
    cases e
    refine getElem_add (fun i hi => ?_) j u hu
    obtain ⟨b', off', e', hc⟩ := hsrc.out i hi
    rw [had] at e'
    cases e'
    exact hc
end

/-! ### string(b) -/
theorem foldl_bytes (bs : List UInt8) : ∀ s : ByteArray, (bs.map fun x => (x.toNat : Int)).foldl (fun r n => r.push (UInt8.ofNat n.toNat)) s = ⟨s.data ++ bs.toArray⟩ := by
  induction bs with
  | nil => intro s; simp
  | cons b bs ih =>
    intro s
    rw [List.map_cons, List.foldl_cons, ih]
    simp [ByteArray.push]

theorem loadCells_at {P : Program} {w : World} {b off : Nat} : ∀ (ys : List Value), (∀ i, i < ys.length → w.cell? ⟨b, off + i, none⟩ = ys[i]?) → (loadCells ⟨b, off, none⟩ ys.length).run P w = .ok ys.toArray w := by
  intro ys h
  have h1 := run_firstCells_some (P := P) w 1 ys.length ⟨b, off, none⟩ ys.length ys.length ys (by omega) (getElem_add h)
  simpa [Builtin.firstCells] using h1

/-- 'string(b)' of bytes. -/
theorem conv_str {P : Program} {w : World} {src dst e : TypeId} {ao : Option Addr} {c : Nat} (bs : List UInt8)
    (hs : P.underlying src = some (.slice e)) (he : P.underlying e = some (.int .u8)) (hd : P.underlying dst = some .string) (h : RowB w ao bs) :
    (convert src dst (.slice ao bs.length c)).run P w = .ok (.string ⟨bs.toArray⟩) w := by
  rw [run_convert_bytes_string w src dst e ao bs.length c hs he hd]
  cases ao with
  | none =>
    have : bs = [] := by
      cases bs with
      | nil => rfl
      | cons x xs =>
        obtain ⟨b, off, e, _⟩ := h 0 (by simp)
        cases e
    subst this
    rfl
  | some ad =>
    by_cases hb : bs = []
    · subst hb
      exact run_bytesToString (P := P) w ad 0 c [] (by rfl)
    · obtain ⟨b, off, e, _⟩ := h 0 (List.length_pos_iff.2 hb)
      cases e
      have hl := loadCells_at (P := P) (w := w) (b := b) (off := off) (cB bs) (fun i hi => by
        rw [cB_length] at hi
        obtain ⟨b', off', e', hc⟩ := h i hi
        cases e'
        rw [hc]; simp [cB, hi])
      rw [cB_length] at hl
      have := run_bytesToString (P := P) w ⟨b, off, none⟩ bs.length c (bs.map fun x => (x.toNat : Int)) (by simpa [cB, Function.comp_def] using hl)
      rw [this, foldl_bytes]
      simp [ByteArray.empty, ByteArray.emptyWithCapacity]
      rfl

theorem str_eq (a b : List UInt8) : ((⟨a.toArray⟩ : ByteArray) = ⟨b.toArray⟩) ↔ a = b := by
  constructor
  · intro h
    have := congrArg (fun s : ByteArray => s.data.toList) h
    simpa using this
  · intro h; rw [h]

/-- Some draws, and nothing else. -/
def Drawn (w w' : World) : Prop := ∃ n, w' = w.drewN n
theorem Drawn.refl (w : World) : Drawn w w := ⟨0, rfl⟩
theorem Drawn.trans {a b c : World} (h : Drawn a b) (h' : Drawn b c) : Drawn a c := by
  obtain ⟨n, rfl⟩ := h
  obtain ⟨m, rfl⟩ := h'
  exact ⟨n + m, by rw [World.drewN_drewN]⟩
theorem Drawn.more {a b : World} (h : Drawn a b) (n : Nat) : Drawn a (b.drewN n) := h.trans ⟨n, rfl⟩
theorem Drawn.heap {a b : World} (h : Drawn a b) : b.heap = a.heap := by obtain ⟨n, rfl⟩ := h; rfl
theorem Drawn.below {a b : World} (h : Drawn a b) (B : Nat) : Below B a b := by obtain ⟨n, rfl⟩ := h; exact below_drewN (Below.refl _ _) n
theorem Drawn.cell {a b : World} (h : Drawn a b) (x : Addr) : b.cell? x = a.cell? x := by obtain ⟨n, rfl⟩ := h; rfl
theorem Drawn.rowB {a b : World} (h : Drawn a b) {x : Option Addr} {bs : List UInt8} (hr : RowB a x bs) : RowB b x bs := by obtain ⟨n, rfl⟩ := h; exact hr
theorem Drawn.at {a b : World} (h : Drawn a b) {x : Option Addr} {ys : List Value} (hr : At a x ys) : At b x ys := by obtain ⟨n, rfl⟩ := h; exact hr

/-- A callee's contract in the form that a quiet region asks. -/
theorem quiet_eq {P : Program} {f : FuncId} {args : Array Value} {w : World} {n : Nat} {v : Value}
    (h : Calls P f args (w.drewN n) fun e w' => e = .returned v ∧ w.drewN n = w') : Calls P f args (w.drewN n) fun e w'' => e = .returned v ∧ ∃ m, w'' = w.drewN m :=
  h.mono fun _ _ ⟨he, hm⟩ => ⟨he, n, hm.symm⟩

/-- Bytes, ints that came in. -/
structure ArgB (w : World) (a : Option Addr) (cap : Nat) (bs : List UInt8) : Prop where
  len : bs.length ≤ cap
  most : cap ≤ maxLen
  nil : a = none → cap = 0
  row : RowB w a bs
structure ArgI (w : World) (a : Option Addr) (cap : Nat) (zs : List Int) : Prop where
  len : zs.length ≤ cap
  most : cap ≤ maxLen
  nil : a = none → cap = 0
  row : RowI .i64 w a zs
  wf : ∀ n ∈ zs, (Lit.int .i64 n).wf = true
theorem ArgB.below {w w' : World} {a : Option Addr} {cap : Nat} {bs : List UInt8} (h : ArgB w a cap bs) (hb : Below w.heap.size w w') : ArgB w' a cap bs := ⟨h.len, h.most, h.nil, h.row.below hb⟩
theorem ArgI.below {w w' : World} {a : Option Addr} {cap : Nat} {bs : List Int} (h : ArgI w a cap bs) (hb : Below w.heap.size w w') : ArgI w' a cap bs := ⟨h.len, h.most, h.nil, h.row.below hb, h.wf⟩

section
open Go.ChangeShapes
variable {H : Type} {enc : TypeId × Value → H} {P : Program} {w : World}
theorem nil_of_trod {t e : TypeId} {k : IntKind} {a : Option Addr} {len cap : Nat} {d : DataW H} {p : List MemPlace} (ht : P.underlying t = some (.slice e)) (he : P.underlying e = some (.int k)) (hc : P.cellsOf e = 1)
    (h : DataW.Trod enc P w 0 (fun _ => true) true t (.slice a len cap) d p) : a = none → cap = 0 := by
  intro e
  subst e
  obtain ⟨fuel, hf⟩ := h
  rcases open_ints ht he hc hf with ⟨hcs, _⟩ | ⟨x, l, c, zs, hcs, _⟩
  · simp [Value.cells] at hcs
    exact hcs.2
  · simp [Value.cells] at hcs
theorem open_argB {t e : TypeId} {v : Value} {d : DataW H} {p : List MemPlace} (ht : P.underlying t = some (.slice e)) (he : P.underlying e = some (.int .u8)) (hc : P.cellsOf e = 1)
    (hv : ∃ a len cap, v = .slice a len cap) (h : DataW.Trod enc P w 0 (fun _ => true) true t v d p) : ∃ a cap bs, v = .slice a (List.length bs) cap ∧ ArgB w a cap bs := by
  obtain ⟨a, cap, bs, rfl, hl, hm, hr⟩ := open_rowB ht he hc hv h
  exact ⟨a, cap, bs, rfl, hl, hm, nil_of_trod ht he hc h, hr⟩
theorem open_argI {t e : TypeId} {v : Value} {d : DataW H} {p : List MemPlace} (ht : P.underlying t = some (.slice e)) (he : P.underlying e = some (.int .i64)) (hc : P.cellsOf e = 1)
    (hv : ∃ a len cap, v = .slice a len cap) (h : DataW.Trod enc P w 0 (fun _ => true) true t v d p) : ∃ a cap zs, v = .slice a (List.length zs) cap ∧ ArgI w a cap zs := by
  obtain ⟨a, cap, zs, rfl, hl, hm, hr, hw⟩ := open_rowI ht he hc hv h
  exact ⟨a, cap, zs, rfl, hl, hm, nil_of_trod ht he hc h, hr, hw⟩
end

end Go.Proofs.YtndgacjfkoliaaaDoor
