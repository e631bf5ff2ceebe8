/- Structs of numbers, texts and arrays of bytes, in cells: how the kit's reader takes them apart (keyLits), and '==' of two. -/
import Derived.Test.YtndgacjfkoliaaaDoorMem
import Derived.DeepKeys
import Derived.MapViews
import Derived.Laws.StructEq
namespace Go.Proofs.YtndgacjfkoliaaaDoor
open Go.RowKit

theorem mid_eq {α : Type} {A B C : List α} {o n : Nat} (hA : A.length = o) (hB : B.length = n) : ((A ++ (B ++ C)).drop o).take n = B := by
  subst hA hB
  rw [List.drop_left, List.take_left]
theorem split_eq {α : Type} {cs B : List α} {o n : Nat} (h : (cs.drop o).take n = B) : cs.drop o = B ++ cs.drop (o + n) := by
  rw [← h, ← List.drop_drop, List.take_append_drop]
theorem mapM_some {α β : Type} {g : α → Option β} {h : α → β} : ∀ l : List α, (∀ i ∈ l, g i = some (h i)) → l.mapM g = some (l.map h)
  | [], _ => rfl
  | x :: l, hl => by
    rw [List.mapM_cons, hl x (List.mem_cons_self ..), mapM_some l (fun i hi => hl i (List.mem_cons_of_mem _ hi))]
    rfl
theorem mapM_get {α β : Type} {g : α → Option β} : ∀ {l : List α} {ys : List β}, l.mapM g = some ys → ∀ (i : Nat) (x : α), l[i]? = some x → ∃ y, g x = some y
  | [], _, _, i, x, hx => by simp at hx
  | a :: l, ys, h, i, x, hx => by
    rw [List.mapM_cons] at h
    simp only [bind, Option.bind_eq_some_iff, pure, Option.some.injEq] at h
    obtain ⟨y, hy, zs, hz, _⟩ := h
    cases i with
    | zero => simp at hx; subst hx; exact ⟨y, hy⟩
    | succ i => exact mapM_get hz i x (by simpa using hx)
theorem mapM_pairs {α β γ : Type} (k : α → γ) (g : γ → Option β) : ∀ l : List α, l.mapM (fun x => g (k x)) = (l.map k).mapM g
  | [] => rfl
  | x :: l => by rw [List.mapM_cons, List.map_cons, List.mapM_cons, mapM_pairs k g l]

section
variable {P : Program}
theorem keyLits_struct {d : Nat} {t : TypeId} {fs : Array Field} {cs : List Value} {l : List Lit} (ht : P.underlying t = some (.struct fs)) (h : P.keyLits (d + 1) t cs = some l) :
    cs.length = P.cellsOf t ∧ ∀ (i : Nat) (f : Field), fs[i]? = some f → ∃ lf, P.keyLits d f.type ((cs.drop f.offset).take (P.cellsOf f.type)) = some lf := by
  unfold Program.keyLits at h
  simp only [ht] at h
  split at h
  · next hc =>
    refine ⟨hc.1, fun i f hf => ?_⟩
    rw [Option.map_eq_some_iff] at h
    obtain ⟨ls, h1, _⟩ := h
    exact mapM_get h1 i f (by simpa using hf)
  · cases h
theorem keyLits_array {d n : Nat} {t e : TypeId} {cs : List Value} {l : List Lit} (ht : P.underlying t = some (.array n e)) (h : P.keyLits (d + 1) t cs = some l) :
    cs.length = P.cellsOf t ∧ ∀ i, i < n → ∃ lf, P.keyLits d e ((cs.drop (i * P.cellsOf e)).take (P.cellsOf e)) = some lf := by
  unfold Program.keyLits at h
  simp only [ht] at h
  split at h
  · next hc =>
    refine ⟨hc, fun i hi => ?_⟩
    rw [Option.map_eq_some_iff] at h
    obtain ⟨ls, h1, _⟩ := h
    exact mapM_get h1 i i (by simp [hi])
  · cases h
/-- The lits of a struct, field by field. -/
theorem keyLits_mk {d : Nat} {t : TypeId} {fs : Array Field} {cs : List Value} {qs : List (TypeId × Nat)} {ls : List (List Lit)} (ht : P.underlying t = some (.struct fs)) (hq : fs.toList.map (fun f => (f.type, f.offset)) = qs) (hn : fs.all (·.name != "_") = true)
    (hl : cs.length = P.cellsOf t) (h : qs.mapM (fun q => P.keyLits d q.1 ((cs.drop q.2).take (P.cellsOf q.1))) = some ls) : P.keyLits (d + 1) t cs = some ls.flatten := by
  unfold Program.keyLits
  simp only [ht]
  rw [if_pos ⟨hl, hn⟩, mapM_pairs (fun f : Field => (f.type, f.offset)) (fun q => P.keyLits d q.1 ((cs.drop q.2).take (P.cellsOf q.1))), hq, h]
  rfl
theorem keyLits_i64 {d : Nat} {t : TypeId} {k : IntKind} {n : Int} (ht : P.underlying t = some (.int k)) (h : (Lit.int k n).wf = true) : P.keyLits (d + 1) t [.int k n] = some [.int k n] := by
  unfold Program.keyLits
  simp [ht, h]
theorem keyLits_str {d : Nat} {t : TypeId} {s : ByteArray} (ht : P.underlying t = some .string) (h : s.size ≤ maxLen) : P.keyLits (d + 1) t [.string s] = some [.string s.data.toList] := by
  unfold Program.keyLits
  simp [ht, h]
theorem keyLits_boo {d : Nat} {t : TypeId} {b : Bool} (ht : P.underlying t = some .bool) : P.keyLits (d + 1) t [.bool b] = some [.bool b] := by
  unfold Program.keyLits
  simp [ht]
theorem u8_wf (x : UInt8) : (Lit.int .u8 (x.toNat : Int)).wf = true := by
  have := x.toNat_lt
  simp [Lit.wf, IntKind.min, IntKind.max, IntKind.signed, IntKind.bits]
  omega
def lits8 (f : List UInt8) : List Lit := f.map fun x => .int .u8 (x.toNat : Int)
theorem lits8_inj {f g : List UInt8} (h : lits8 f = lits8 g) : f = g := by
  induction f generalizing g with
  | nil => cases g with
    | nil => rfl
    | cons y g => cases h
  | cons x f ih => cases g with
    | nil => cases h
    | cons y g =>
      simp only [lits8, List.map_cons, List.cons.injEq, Lit.int.injEq, true_and] at h
      have : x = y := UInt8.toNat.inj (by omega)
      rw [this, ih h.2]
theorem keyLits_bytes {d n : Nat} {t e : TypeId} (ht : P.underlying t = some (.array n e)) (he : P.underlying e = some (.int .u8)) (hce : P.cellsOf e = 1) (hct : P.cellsOf t = n) (f : List UInt8) (hf : f.length = n) : P.keyLits (d + 2) t (cB f) = some (lits8 f) := by
  unfold Program.keyLits
  simp only [ht]
  rw [if_pos (by rw [cB_length, hct, hf]), hce]
  have h := mapM_some (g := fun i => P.keyLits (d + 1) e (((cB f).drop (i * 1)).take 1)) (h := fun i => [Lit.int .u8 ((f.getD i 0).toNat : Int)]) (List.range n) (fun i hi => by
    have hi' : i < f.length := by rw [hf]; simpa using hi
    have : ((cB f).drop (i * 1)).take 1 = [.int .u8 ((f.getD i 0).toNat : Int)] := by
      rw [Nat.mul_one, List.drop_eq_getElem_cons (by rw [cB_length]; exact hi')]
      simp [cB, hi']
    rw [this]
    exact keyLits_i64 he (u8_wf _))
  rw [h]
  simp only [Option.map_some, Option.some.injEq]
  rw [← List.flatMap_def]
  apply List.ext_getElem?
  intro j
  have : (List.range n).flatMap (fun i => [Lit.int .u8 ((f.getD i 0).toNat : Int)]) = (List.range n).map fun i => Lit.int .u8 ((f.getD i 0).toNat : Int) := by
    exact List.map_eq_flatMap.symm
  rw [this]
  unfold lits8
  by_cases hj : j < n
  · simp [hj, hf]
  · simp [hj, hf]
/-- What such cells are. -/
theorem bytes_of_keyLits {d n : Nat} {t e : TypeId} {cs : List Value} {l : List Lit} (ht : P.underlying t = some (.array n e)) (he : P.underlying e = some (.int .u8)) (hce : P.cellsOf e = 1) (hct : P.cellsOf t = n) (h : P.keyLits (d + 1) t cs = some l) : ∃ f : List UInt8, cs = cB f ∧ f.length = n := by
  obtain ⟨hl, hi⟩ := keyLits_array ht h
  rw [hct] at hl
  rw [hce] at hi
  refine ⟨cs.map fun v => match v with | .int _ z => UInt8.ofNat z.toNat | _ => 0, ?_, by simp [hl]⟩
  apply List.ext_getElem?
  intro i
  by_cases hin : i < n
  · obtain ⟨lf, h1⟩ := hi i hin
    rw [Nat.mul_one] at h1
    cases d with
    | zero => simp [Program.keyLits] at h1
    | succ d =>
      have hi2 : i < cs.length := by omega
      rw [List.drop_eq_getElem_cons hi2] at h1
      have h3 : (cs[i] :: cs.drop (i + 1)).take 1 = [cs[i]] := rfl
      rw [h3] at h1
      obtain ⟨z, e1, e2⟩ := keyLits_int' he h1
      have hw := h1
      rw [e1] at hw
      have hwf : (Lit.int .u8 z).wf = true := by
        unfold Program.keyLits at hw
        simp only [he] at hw
        split at hw
        · next hh => exact hh.2
        · cases hw
      have hz : 0 ≤ z ∧ z ≤ 255 := by simpa [Lit.wf, IntKind.min, IntKind.max, IntKind.signed, IntKind.bits] using hwf
      have hc : cs[i] = .int .u8 z := by simpa using e1
      rw [List.getElem?_eq_getElem hi2, hc]
      simp only [cB, List.map_map, List.getElem?_map, List.getElem?_eq_getElem hi2, Option.map_some, Function.comp_apply, hc, Option.some.injEq, Value.int.injEq, true_and]
      rw [UInt8.toNat_ofNat_of_lt' (by show z.toNat < 256; omega)]
      omega
  · rw [List.getElem?_eq_none (by omega), List.getElem?_eq_none (by simp [cB]; omega)]
/-- '==' and '!=' of two structs or arrays. -/
theorem agg_eql {w : World} {t : TypeId} (hk : P.keyTypeAt 6 t = true) {d : Nat} {xs ys : Array Value} {la lb : List Lit} (hx : P.keyLits d t xs.toList = some la) (hy : P.keyLits d t ys.toList = some lb) (fx : (Value.agg xs).formed P t = true) (fy : (Value.agg ys).formed P t = true) :
    ∃ r : Bool, (r = true ↔ la = lb) ∧ (binOp .eql t (.agg xs) (.agg ys)).run P w = .ok (.bool r) w ∧ (binOp .neq t (.agg xs) (.agg ys)).run P w = .ok (.bool (!r)) w := by
  have h := run_equalIn_deep (P := P) 9994 6 t hk
  obtain ⟨r, hr, hiff⟩ := h w d d (.agg xs) (.agg ys) la lb fx fy (by simpa [Value.cells] using hx) (by simpa [Value.cells] using hy)
  refine ⟨r, hiff, ?_, ?_⟩
  · rw [run_eql_struct, show (10000 : Nat) = 9994 + 6 from rfl, hr]; rfl
  · rw [run_neq_struct, show (10000 : Nat) = 9994 + 6 from rfl, hr]; rfl
theorem formed_agg {t : TypeId} {d : TypeDesc} {xs : Array Value} (ht : P.underlying t = some d) (hd : (match d with | .struct _ | .array _ _ => true | _ => false) = true) (hs : xs.size = P.cellsOf t) : (Value.agg xs).formed P t = true := by
  cases d <;> simp at hd <;> simp [Value.formed, ht, hs]
end

/-- Six numbers: the parameters. -/
structure P6 where
  s : Int
  n : Int
  k : Int
  d : Int
  t : Int
  r : Int
deriving DecidableEq
abbrev inI (x : Int) : Prop := -9223372036854775808 ≤ x ∧ x ≤ 9223372036854775807
theorem inI_wf {x : Int} (h : inI x) : (Lit.int .i64 x).wf = true := by
  have := h
  unfold inI at this
  simp [Lit.wf, IntKind.min, IntKind.max, IntKind.signed, IntKind.bits]
  omega
theorem wf_inI {x : Int} (h : (Lit.int .i64 x).wf = true) : inI x := by simpa [inI, Lit.wf, IntKind.min, IntKind.max, IntKind.signed, IntKind.bits] using h
def P6.list (p : P6) : List Value := [.int .i64 p.s, .int .i64 p.n, .int .i64 p.k, .int .i64 p.d, .int .i64 p.t, .int .i64 p.r]
def P6.lits (p : P6) : List Lit := [.int .i64 p.s, .int .i64 p.n, .int .i64 p.k, .int .i64 p.d, .int .i64 p.t, .int .i64 p.r]
def P6.Ok (p : P6) : Prop := inI p.s ∧ inI p.n ∧ inI p.k ∧ inI p.d ∧ inI p.t ∧ inI p.r
theorem P6.lits_inj {p q : P6} (h : p.lits = q.lits) : p = q := by
  cases p; cases q
  simpa [P6.lits] using h
section
variable {P : Program}
theorem keyLits_six {t i64 : TypeId} {fs : Array Field} (ht : P.underlying t = some (.struct fs)) (hq : fs.toList.map (fun f => (f.type, f.offset)) = [(i64, 0), (i64, 1), (i64, 2), (i64, 3), (i64, 4), (i64, 5)]) (hn : fs.all (·.name != "_") = true) (hi : P.underlying i64 = some (.int .i64)) (ci : P.cellsOf i64 = 1) (ct : P.cellsOf t = 6)
    (p : P6) (hp : p.Ok) (d : Nat) : P.keyLits (d + 2) t p.list = some p.lits := by
  obtain ⟨h1, h2, h3, h4, h5, h6⟩ := hp
  have e := fun (n : Int) (h : inI n) => keyLits_i64 (d := d) hi (inI_wf h)
  refine keyLits_mk (ls := [[.int .i64 p.s], [.int .i64 p.n], [.int .i64 p.k], [.int .i64 p.d], [.int .i64 p.t], [.int .i64 p.r]]) ht hq hn (by rw [ct]; rfl) ?_
  simp only [List.mapM_cons, List.mapM_nil, ci, P6.list, List.drop_zero, List.drop_succ_cons, List.take_succ_cons, List.take_zero, e _ h1, e _ h2, e _ h3, e _ h4, e _ h5, e _ h6, Option.bind_eq_bind, Option.bind_some, Option.pure_def]
theorem six_of_keyLits {d : Nat} {t i64 : TypeId} {f0 f1 f2 f3 f4 f5 : Field} {cs : List Value} {l : List Lit} (ht : P.underlying t = some (.struct #[f0, f1, f2, f3, f4, f5])) (hq : [f0, f1, f2, f3, f4, f5].map (fun f => (f.type, f.offset)) = [(i64, 0), (i64, 1), (i64, 2), (i64, 3), (i64, 4), (i64, 5)]) (hi : P.underlying i64 = some (.int .i64)) (ci : P.cellsOf i64 = 1) (ct : P.cellsOf t = 6)
    (h : P.keyLits (d + 1) t cs = some l) : ∃ p : P6, cs = p.list ∧ p.Ok := by
  obtain ⟨hl, hf⟩ := keyLits_struct ht h
  rw [ct] at hl
  simp only [List.map_cons, List.map_nil, List.cons.injEq, Prod.mk.injEq, and_true] at hq
  obtain ⟨⟨a0, b0⟩, ⟨a1, b1⟩, ⟨a2, b2⟩, ⟨a3, b3⟩, ⟨a4, b4⟩, ⟨a5, b5⟩⟩ := hq
  have cell : ∀ (o : Nat) (f : Field) (i : Nat), (#[f0, f1, f2, f3, f4, f5] : Array Field)[i]? = some f → f.type = i64 → f.offset = o → ∃ n, (cs.drop o).take 1 = [.int .i64 n] ∧ inI n := fun o f i hg ht' ho => by
    obtain ⟨lf, h1⟩ := hf i f hg
    rw [ht', ho, ci] at h1
    obtain ⟨n, e1, e2⟩ := keyLits_int' hi h1
    refine ⟨n, e1, ?_⟩
    rw [e1] at h1
    cases d with
    | zero => simp [Program.keyLits] at h1
    | succ d =>
      unfold Program.keyLits at h1
      simp only [hi] at h1
      split at h1
      · next hh => exact wf_inI hh.2
      · cases h1
  obtain ⟨n0, e0, w0⟩ := cell 0 f0 0 rfl a0 b0
  obtain ⟨n1, e1, w1⟩ := cell 1 f1 1 rfl a1 b1
  obtain ⟨n2, e2, w2⟩ := cell 2 f2 2 rfl a2 b2
  obtain ⟨n3, e3, w3⟩ := cell 3 f3 3 rfl a3 b3
  obtain ⟨n4, e4, w4⟩ := cell 4 f4 4 rfl a4 b4
  obtain ⟨n5, e5, w5⟩ := cell 5 f5 5 rfl a5 b5
  refine ⟨⟨n0, n1, n2, n3, n4, n5⟩, ?_, w0, w1, w2, w3, w4, w5⟩
  have h0 := split_eq e0
  rw [List.drop_zero, split_eq e1, split_eq e2, split_eq e3, split_eq e4, split_eq e5, List.drop_of_length_le (i := 5 + 1) (by omega)] at h0
  exact h0
end
end Go.Proofs.YtndgacjfkoliaaaDoor
