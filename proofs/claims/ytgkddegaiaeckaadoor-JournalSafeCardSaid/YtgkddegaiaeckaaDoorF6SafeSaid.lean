/- ShaC, ShaD. -/
import Derived.Test.YtgkddegaiaeckaaDoorF1SafeSaid
import Derived.Test.YtgkddegaiaeckaaDoorF5SafeSaid
import Derived.BigRegionIn
import Derived.Test.YtgkddegaiaeckaaDoorF4SafeSaid
/- slices.Chunk over bytes: a range over a function. -/
namespace Go.Proofs.YtgkddegaiaeckaaDoor
open Go.RowKit Go.Shelf

attribute [local go_sem] Oper.semAt_some

/-- What a round keeps: what lay below n₀, and the iterator's two boxes. -/
def KeepC (n₀ Bs Ns : Nat) (W W' : World) : Prop := Below n₀ W W' ∧ W'.heap[Bs]? = W.heap[Bs]? ∧ W'.heap[Ns]? = W.heap[Ns]?
theorem KeepC.refl (n₀ Bs Ns : Nat) (W : World) : KeepC n₀ Bs Ns W W := ⟨Below.refl _ _, rfl, rfl⟩
theorem keepC_t {n₀ Bs Ns : Nat} {A B C : World} (h : KeepC n₀ Bs Ns A B) (k : KeepC n₀ Bs Ns B C) : KeepC n₀ Bs Ns A C := ⟨h.1.trans k.1, k.2.1.trans h.2.1, k.2.2.trans h.2.2⟩
theorem keepC_drew (n₀ Bs Ns : Nat) (W : World) : KeepC n₀ Bs Ns W W.drew := ⟨(Below.refl _ W).drew, rfl, rfl⟩
theorem keepC_b {n₀ Bs Ns : Nat} {w : World} (hn : n₀ ≤ w.heap.size) (hB : Bs < w.heap.size) (hN : Ns < w.heap.size) (W : World) (l : Nat) (o o' : Obj) (hl : w.heap.size ≤ l) (h : W.heap[l]? = some o) (h1 : o.isCells = false) (h2 : o.isWalk = false) : KeepC n₀ Bs Ns W (W.putObj l o') :=
  ⟨belowK_b hn W l o o' hl h h1 h2, World.putObj_heap_other (by omega), World.putObj_heap_other (by omega)⟩

set_option maxRecDepth 100000 in
set_option maxHeartbeats 2000000 in
theorem chunk1_in (F : Fence) (n : Nat) (h7 : F.fn 83) (hro : F.round = none) (hn : 1 ≤ n) (l Bs Ns n₀ g off cap q : Nat) (hq : 64 * q ≤ cap) (hcap : q ≤ 10000) (J Jx : List Nat → World → Prop) (hJd : ∀ pre W, J pre W → J pre W.drew)
    (hY : ∀ pre x W, J pre W → pre.length < q → x < q → YieldAt F (n - 1) Tryd.prog l #[.slice (some ⟨g, off + 64 * x, none⟩) 64 64] W fun e W' =>
      (e = .returned (.bool true) ∧ J (pre ++ [x]) W' ∧ KeepC n₀ Bs Ns W W') ∨ (e = .returned (.bool false) ∧ Jx (pre ++ [x]) W'))
    (W : World) (hBs : Boxed W Bs 22 (.slice (some ⟨g, off, none⟩) (64 * q) cap)) (hNs : Boxed W Ns 3 (.int .i64 64)) (h0 : J [] W) :
    CallsIn F n Tryd.prog 83 #[.func (.yield l) #[] #[], .pointer (some ⟨Bs, 0, none⟩), .pointer (some ⟨Ns, 0, none⟩)] W fun e W' => (∃ v, e = .returned v) ∧
      ((∃ ys, ys = upto (fun k => k) q ∧ J ys W') ∨ (∃ pre, (∃ k, k ≤ q ∧ pre = upto (fun k => k) k) ∧ Jx pre W')) := by
  refine callsIn_of_wp Tryd.func83 rfl h7 ?_ hro
  simp only [Tryd.ntmps83, List.size_toArray, List.length_cons, List.length_nil, Nat.reduceAdd, Nat.reduceSub, Array.replicate_succ, Array.replicate_zero, List.push_toArray, List.append_toArray, List.nil_append, List.cons_append]
  gi_wp2
  gi_loopw [4, 5] (fun i _ wr => ∃ k : Nat, k ≤ q ∧ i = .int .i64 ((64 * k : Nat) : Int) ∧ J (upto (fun k => k) k) wr ∧ KeepC n₀ Bs Ns W wr)
    (fun i _ _ => 64 * q - (intOf i).toNat)
  case atStart => exact ⟨0, Nat.zero_le _, rfl, h0, KeepC.refl _ _ _ _⟩
  case round =>
    obtain ⟨k, hk, rfl, hJs, hnx⟩ := hrel
    have hBx := (show Boxed wr Bs 22 (.slice (some ⟨g, off, none⟩) (64 * q) cap) from hnx.2.1.trans hBs).cell
    have hNx := (show Boxed wr Ns 3 (.int .i64 64) from hnx.2.2.trans hNs).cell
    by_cases hlt : k < q
    · obtain ⟨fn, tmps, assign, body, hy, hR⟩ := hY _ k wr.drew (hJd _ _ hJs) (by rw [upto_length]; omega) hlt
      obtain ⟨K, hK⟩ : ∃ K, K = 64 * k := ⟨_, rfl⟩
      obtain ⟨Q, hQ⟩ : ∃ Q, Q = 64 * q := ⟨_, rfl⟩
      rw [← hQ] at hBx
      rw [← hK]
      rw [← hK] at hy
      have k1 : (K : Int) < (Q : Int) := by omega
      have k2 : K + 64 ≤ Q := by omega
      have k3 : (64 : Int) ≤ (Q : Int) - (K : Int) := by omega
      have k4 : (0 : Int) ≤ (K : Int) := by omega
      have k5 : (K : Int) ≤ (Q : Int) := by omega
      have k6 : (K : Int) + 64 ≤ (cap : Int) := by omega
      have k7 := IntWalk.i64_in ((K : Int) + 64) (by omega)
      have k8 : (64 : Int) ≤ ((Q - K : Nat) : Int) := by omega
      have k10 : ¬ (cap = K) := by omega
      have k9 : ((K : Int) + 64).toNat - K = 64 := by omega
      replace hK := Lib.hid hK
      replace hQ := Lib.hid hQ
      gi_wp2
      gi_region
      all_goals gi_wp2
      all_goals (refine hR.mono ?_)
      all_goals (rintro e W3 (⟨rfl, hJ3, hk3⟩ | ⟨rfl, hJx3⟩))
      all_goals (try (have hN3 := (show Boxed W3 Ns 3 (.int .i64 64) from hk3.2.2.trans (hnx.2.2.trans hNs)).cell))
      all_goals gi_wp2
      all_goals (try (refine bodyPost_ret (results_none rfl _ _ _) rfl ⟨⟨_, rfl⟩, .inr ⟨_, ⟨k + 1, by omega, by rw [upto_succ]⟩, hJx3⟩⟩))
      all_goals (try go_roundw)
      any_goals (case rel => exact ⟨k + 1, by omega, by rw [hK.out]; go_num, by rw [upto_succ]; exact hJ3, keepC_t hnx (keepC_t (keepC_drew n₀ Bs Ns wr) hk3)⟩)
      any_goals (case measure => (have := hK.out; have := hQ.out; simp [intOf]; omega))
      all_goals exact ⟨⟨k + 1, by omega, by rw [hK.out]; go_num, by rw [upto_succ]; exact hJ3, keepC_t hnx (keepC_t (keepC_drew n₀ Bs Ns wr) hk3)⟩, by have := hK.out; have := hQ.out; simp [intOf]; omega⟩
    · obtain rfl : k = q := by omega
      gi_wp2
      go_end0
      exact ⟨⟨_, rfl⟩, .inl ⟨_, rfl, hJs⟩⟩

end Go.Proofs.YtgkddegaiaeckaaDoor
/- slices.Chunk over bytes, and what its iterator promises. -/
namespace Go.Proofs.YtgkddegaiaeckaaDoor
open Go.RowKit Go.Shelf

attribute [local go_sem] Oper.semAt_some

set_option maxHeartbeats 1000000 in
theorem chunk_in (F : Fence) (n : Nat) (h5 : F.fn 75) (hro : F.round = none) (a : Option Addr) (len cap : Nat) (w : World) :
    CallsIn F n Tryd.prog 75 #[.slice a len cap, .int .i64 64] w fun e w' => e = .returned (.func (.func 83) #[] #[.pointer (some ⟨w.heap.size, 0, none⟩), .pointer (some ⟨w.heap.size + 1, 0, none⟩)]) ∧
      w' = (w.alloc (.cells #[.slice a len cap] 22)).alloc (.cells #[.int .i64 64] 3) := by
  refine callsIn_of_wp Tryd.func75 rfl h5 ?_ hro
  simp only [Tryd.ntmps75, List.size_toArray, List.length_cons, List.length_nil, Nat.reduceAdd, Nat.reduceSub, Array.replicate_succ, Array.replicate_zero, List.push_toArray, List.append_toArray, List.nil_append, List.cons_append]
  gi_wp2
  go_ret
  exact ⟨rfl, rfl⟩

/-- The chunks' numbers are below q. -/
theorem chunk_stops (F : Fence) (n : Nat) (h8 : F.fn 83) (hro : F.round = none) (hn : 1 ≤ n) (Bs Ns n₀ g off cap q : Nat) (hq : 64 * q ≤ cap) (hcap : q ≤ 10000) (w : World)
    (hB : Boxed w Bs 22 (.slice (some ⟨g, off, none⟩) (64 * q) cap)) (hN : Boxed w Ns 3 (.int .i64 64)) :
    SeqStopsK F n Tryd.prog 83 #[.pointer (some ⟨Bs, 0, none⟩), .pointer (some ⟨Ns, 0, none⟩)] (fun x : Fin q => #[Value.slice (some ⟨g, off + 64 * x.val, none⟩) 64 64]) (KeepC n₀ Bs Ns) (fun ys => ys.map Fin.val = upto (fun k => k) q)
      (fun _ => True) q w := by
  intro l J Jx W hW hJ _ hY h0
  refine (chunk1_in F n h8 hro hn l Bs Ns n₀ g off cap q hq hcap (fun ns W => ∃ fs : List (Fin q), fs.map Fin.val = ns ∧ J fs W) (fun ns W => ∃ fs : List (Fin q), fs.map Fin.val = ns ∧ Jx fs W)
    (fun pre W h => ?_) ?_ W ((hW.block Bs hB.lt).trans hB) ((hW.block Ns hN.lt).trans hN) ⟨[], rfl, h0⟩).mono ?_
  · obtain ⟨fs, h1, h2⟩ := h
    exact ⟨fs, h1, hJ fs W W.drew none h2 ⟨rfl, rfl, rfl, Nat.le_refl _, fun _ _ _ => rfl⟩ (fun r e => by cases e)⟩
  · rintro pre x W1 ⟨fs, h1, h2⟩ hl hx
    obtain ⟨fn, tmps, assign, body, hy, hR⟩ := hY fs ⟨x, hx⟩ W1 h2 (by rw [← h1, List.length_map] at hl; exact hl)
    refine ⟨fn, tmps, assign, body, hy, hR.mono ?_⟩
    rintro e W' (⟨e1, e2, e3⟩ | ⟨e1, e2⟩)
    · exact .inl ⟨e1, ⟨fs ++ [⟨x, hx⟩], by rw [List.map_append, h1]; rfl, e2⟩, e3⟩
    · exact .inr ⟨e1, ⟨fs ++ [⟨x, hx⟩], by rw [List.map_append, h1]; rfl, e2⟩⟩
  · rintro e W' ⟨hv, (⟨ys, rfl, fs, h1, h2⟩ | ⟨pre, _, fs, _, h2⟩)⟩
    · exact ⟨hv, .inl ⟨fs, h1, h2⟩⟩
    · exact ⟨hv, .inr ⟨fs, trivial, h2⟩⟩

/-- Chunks taken, by their numbers. -/
def foldI (s : S8) (m : List UInt8) (ns : List Nat) : S8 := ns.foldl (fun s x => takeS s ((m.drop (64 * x)).take 64)) s
theorem foldI_snoc (s : S8) (m : List UInt8) (ns : List Nat) (x : Nat) : foldI s m (ns ++ [x]) = takeS (foldI s m ns) ((m.drop (64 * x)).take 64) := by simp [foldI]
theorem foldI_upto (s : S8) (m : List UInt8) : ∀ q, foldI s m (upto (fun k => k) q) = foldS s m q
  | 0 => rfl
  | q + 1 => by rw [upto_succ, foldI_snoc, foldI_upto s m q, foldS]

end Go.Proofs.YtgkddegaiaeckaaDoor
