/- slices.Chunk over bytes, and what its iterator promises. -/
import Derived.Test.YtgkddegaiaeckaaDoorShaC
import Derived.Test.YtgkddegaiaeckaaDoorShaK
namespace Go.Proofs.YtgkddegaiaeckaaDoor
open Go.RowKit Go.Shelf

attribute [local go_sem] Oper.semAt_some

set_option maxHeartbeats 1000000 in
theorem chunk_in (F : Fence) (n : Nat) (h5 : F.fn 75) (hro : F.round = none) (a : Option Addr) (len cap : Nat) (w : World) :
    CallsIn F n Tryd.prog 75 #[.slice a len cap, .int .i64 64] w fun e w' => e = .returned (.func (.func 83) #[] #[.pointer (some ⟨w.heap.size, 0, none⟩), .pointer (some ⟨w.heap.size + 1, 0, none⟩)]) ∧
      w' = (w.alloc (.cells #[.slice a len cap] 22)).alloc (.cells #[.int .i64 64] 3) := by
  refine callsIn_of_wp Tryd.func75 rfl h5 ?_ hro
  simp only [Tryd.ntmps75, List.size_toArray, List.length_cons, List.length_nil, Nat.reduceAdd, Nat.reduceSub, Array.replicate_succ, Array.replicate_zero, List.push_toArray, List.append_toArray, List.nil_append, List.cons_append]
  gi_wp2
  go_ret
  exact ⟨rfl, rfl⟩

/-- The chunks' numbers are below q. -/
theorem chunk_stops (F : Fence) (n : Nat) (h8 : F.fn 83) (hro : F.round = none) (hn : 1 ≤ n) (Bs Ns n₀ g off cap q : Nat) (hq : 64 * q ≤ cap) (hcap : q ≤ 10000) (w : World)
    (hB : Boxed w Bs 22 (.slice (some ⟨g, off, none⟩) (64 * q) cap)) (hN : Boxed w Ns 3 (.int .i64 64)) :
    SeqStopsK F n Tryd.prog 83 #[.pointer (some ⟨Bs, 0, none⟩), .pointer (some ⟨Ns, 0, none⟩)] (fun x : Fin q => #[Value.slice (some ⟨g, off + 64 * x.val, none⟩) 64 64]) (KeepC n₀ Bs Ns) (fun ys => ys.map Fin.val = upto (fun k => k) q)
      (fun _ => True) q w := by
  intro l J Jx W hW hJ _ hY h0
  refine (chunk1_in F n h8 hro hn l Bs Ns n₀ g off cap q hq hcap (fun ns W => ∃ fs : List (Fin q), fs.map Fin.val = ns ∧ J fs W) (fun ns W => ∃ fs : List (Fin q), fs.map Fin.val = ns ∧ Jx fs W)
    (fun pre W h => ?_) ?_ W ((hW.block Bs hB.lt).trans hB) ((hW.block Ns hN.lt).trans hN) ⟨[], rfl, h0⟩).mono ?_
  · obtain ⟨fs, h1, h2⟩ := h
    exact ⟨fs, h1, hJ fs W W.drew none h2 ⟨rfl, rfl, rfl, Nat.le_refl _, fun _ _ _ => rfl⟩ (fun r e => by cases e)⟩
  · rintro pre x W1 ⟨fs, h1, h2⟩ hl hx
    obtain ⟨fn, tmps, assign, body, hy, hR⟩ := hY fs ⟨x, hx⟩ W1 h2 (by rw [← h1, List.length_map] at hl; exact hl)
    refine ⟨fn, tmps, assign, body, hy, hR.mono ?_⟩
    rintro e W' (⟨e1, e2, e3⟩ | ⟨e1, e2⟩)
    · exact .inl ⟨e1, ⟨fs ++ [⟨x, hx⟩], by rw [List.map_append, h1]; rfl, e2⟩, e3⟩
    · exact .inr ⟨e1, ⟨fs ++ [⟨x, hx⟩], by rw [List.map_append, h1]; rfl, e2⟩⟩
  · rintro e W' ⟨hv, (⟨ys, rfl, fs, h1, h2⟩ | ⟨pre, _, fs, _, h2⟩)⟩
    · exact ⟨hv, .inl ⟨fs, h1, h2⟩⟩
    · exact ⟨hv, .inr ⟨fs, trivial, h2⟩⟩

/-- Chunks taken, by their numbers. -/
def foldI (s : S8) (m : List UInt8) (ns : List Nat) : S8 := ns.foldl (fun s x => takeS s ((m.drop (64 * x)).take 64)) s
theorem foldI_snoc (s : S8) (m : List UInt8) (ns : List Nat) (x : Nat) : foldI s m (ns ++ [x]) = takeS (foldI s m ns) ((m.drop (64 * x)).take 64) := by simp [foldI]
theorem foldI_upto (s : S8) (m : List UInt8) : ∀ q, foldI s m (upto (fun k => k) q) = foldS s m q
  | 0 => rfl
  | q + 1 => by rw [upto_succ, foldI_snoc, foldI_upto s m q, foldS]

end Go.Proofs.YtgkddegaiaeckaaDoor
