/- A wire in memory: its block of eight cells, both rows, the messages; all apart. -/
import Derived.Test.YtejkajlbffkdnaaDoorOwnB
import Derived.Test.YtejkajlbffkdnaaDoorOwnW
import Derived.Test.YtejkajlbffkdnaaDoorOnly
namespace Go.Proofs.YtejkajlbffkdnaaDoor
open Go.RowKit

theorem Tryd.infoRowW : (Tryd.prog.info? 27).map (fun i => (i.zero, i.size, i.bytes)) = some (some (.slice none 0 0), 1, 24) := by kernel_rfl

structure Msg where
  b : Nat
  cap : Nat
  bs : List UInt8
def encM (m : Msg) : Value := .slice (some ⟨m.b, 0, none⟩) m.bs.length m.cap
instance : Inhabited Msg := ⟨⟨0, 0, []⟩⟩
structure Way where
  i : Int
  o : Int
  l : Int
  v : Value
  ms : List Msg
def Way.blks (y : Way) : List Nat := y.v.ownBlock.toList ++ y.ms.map (·.b)
/-- One way's row and messages. -/
structure WayOk (base : Nat) (w : World) (y : Way) : Prop where
  own : w.ownsRow base 27 1 y.v y.ms.length (y.ms.map encM)
  msg : ∀ m ∈ y.ms, 0 < m.bs.length ∧ m.bs.length ≤ 8000 ∧ OwnB base w (encM m) m.bs
  nd : y.blks.Nodup
def wcells (y z : Way) : Array Value := #[.int .i64 y.i, .int .i64 y.o, .int .i64 y.l, y.v, .int .i64 z.i, .int .i64 z.o, .int .i64 z.l, z.v]
/-- A wire: its block W, both ways. -/
structure Wire (base : Nat) (w : World) (W : Nat) (T : TypeId) (y z : Way) : Prop where
  at_ : w.heap[W]? = some (.cells (wcells y z) T (0, 0))
  ge : base ≤ W
  ok0 : WayOk base w y
  ok1 : WayOk base w z
  n0 : W ∉ y.blks
  n1 : W ∉ z.blks
  dj : ∀ x, x ∈ y.blks → x ∉ z.blks
def Wire.D (W : Nat) (y z : Way) (k : Nat) : Prop := k = W ∨ k ∈ y.blks ∨ k ∈ z.blks

theorem WayOk.lt {base : Nat} {w : World} {y : Way} (h : WayOk base w y) : ∀ k, k ∈ y.blks → base ≤ k ∧ k < w.heap.size := by
  intro k hk
  simp only [Way.blks, List.mem_append, Option.mem_toList, List.mem_map] at hk
  rcases hk with hk | ⟨m, hm, rfl⟩
  · exact World.ownsRow.lt h.own k hk
  · obtain ⟨_, _, ho⟩ := h.msg m hm
    exact World.ownsRow.lt ho m.b rfl
theorem WayOk.only {base : Nat} {w w' : World} {y : Way} {D : Nat → Prop} (h : WayOk base w y) (ho : Only D w w') (hd : ∀ k, k ∈ y.blks → ¬ D k) : WayOk base w' y := by
  refine ⟨ho.owns h.own fun k hk => hd k ?_, fun m hm => ?_, h.nd⟩
  · simp only [Way.blks, List.mem_append, Option.mem_toList]; exact .inl hk
  · obtain ⟨h1, h2, h3⟩ := h.msg m hm
    refine ⟨h1, h2, ho.owns h3 fun k hk => hd k ?_⟩
    simp only [Way.blks, List.mem_append, List.mem_map]
    exact .inr ⟨m, hm, by simpa [encM, Value.ownBlock] using hk⟩
/-- A wire is as it was where none of its blocks changed. -/
theorem Wire.only {base : Nat} {w w' : World} {W : Nat} {T : TypeId} {y z : Way} {D : Nat → Prop} (h : Wire base w W T y z) (ho : Only D w w') (hd : ∀ k, Wire.D W y z k → ¬ D k) : Wire base w' W T y z :=
  ⟨ho.heap h.at_ (hd W (.inl rfl)), h.ge, h.ok0.only ho fun k hk => hd k (.inr (.inl hk)), h.ok1.only ho fun k hk => hd k (.inr (.inr hk)), h.n0, h.n1, h.dj⟩
theorem Wire.lt {base : Nat} {w : World} {W : Nat} {T : TypeId} {y z : Way} (h : Wire base w W T y z) : ∀ k, Wire.D W y z k → base ≤ k ∧ k < w.heap.size := by
  rintro k (rfl | hk | hk)
  · exact ⟨h.ge, block_lt h.at_⟩
  · exact h.ok0.lt k hk
  · exact h.ok1.lt k hk
/-- The same with the ways told by a number. -/
def pickY (k : Nat) (y z : Way) : Way := if k = 0 then y else z
/-- Way k becomes x. -/
def putY (k : Nat) (y z x : Way) : Way × Way := if k = 0 then (x, z) else (y, x)

/-- One way has changed, in its own blocks and in new ones alone. -/
theorem Wire.upd0 {base : Nat} {w w' : World} {W : Nat} {T : TypeId} {y z x : Way} (h : Wire base w W T y z) (ho : Only (fun k => k = W ∨ k ∈ y.blks) w w') (hb : base ≤ w.heap.size)
    (hx : WayOk base w' x) (hat : w'.heap[W]? = some (.cells (wcells x z) T (0, 0))) (hn : ∀ k, k ∈ x.blks → k ∈ y.blks ∨ w.heap.size ≤ k) :
    Wire base w' W T x z ∧ Only (Wire.D W y z) w w' ∧ ∀ k, Wire.D W x z k → Wire.D W y z k ∨ w.heap.size ≤ k := by
  have hW := block_lt h.at_
  refine ⟨⟨hat, h.ge, hx, h.ok1.only ho ?_, ?_, h.n1, ?_⟩, ho.mono ?_, ?_⟩
  · rintro k hk (rfl | hy)
    · exact h.n1 hk
    · exact h.dj k hy hk
  · intro hk
    rcases hn W hk with hy | hy
    · exact h.n0 hy
    · omega
  · intro k hk hz
    rcases hn k hk with hy | hy
    · exact h.dj k hy hz
    · have := (h.ok1.lt k hz).2; omega
  · rintro k _ (rfl | hy)
    · exact .inl rfl
    · exact .inr (.inl hy)
  · rintro k (rfl | hk | hk)
    · exact .inl (.inl rfl)
    · rcases hn k hk with hy | hy
      · exact .inl (.inr (.inl hy))
      · exact .inr hy
    · exact .inl (.inr (.inr hk))
theorem Wire.upd1 {base : Nat} {w w' : World} {W : Nat} {T : TypeId} {y z x : Way} (h : Wire base w W T y z) (ho : Only (fun k => k = W ∨ k ∈ z.blks) w w') (hb : base ≤ w.heap.size)
    (hx : WayOk base w' x) (hat : w'.heap[W]? = some (.cells (wcells y x) T (0, 0))) (hn : ∀ k, k ∈ x.blks → k ∈ z.blks ∨ w.heap.size ≤ k) :
    Wire base w' W T y x ∧ Only (Wire.D W y z) w w' ∧ ∀ k, Wire.D W y x k → Wire.D W y z k ∨ w.heap.size ≤ k := by
  have hW := block_lt h.at_
  refine ⟨⟨hat, h.ge, h.ok0.only ho ?_, hx, h.n0, ?_, ?_⟩, ho.mono ?_, ?_⟩
  · rintro k hk (rfl | hy)
    · exact h.n0 hk
    · exact h.dj k hk hy
  · intro hk
    rcases hn W hk with hy | hy
    · exact h.n1 hy
    · omega
  · intro k hk hz
    rcases hn k hz with hy | hy
    · exact h.dj k hk hy
    · have := (h.ok0.lt k hk).2; omega
  · rintro k _ (rfl | hy)
    · exact .inl rfl
    · exact .inr (.inr hy)
  · rintro k (rfl | hk | hk)
    · exact .inl (.inl rfl)
    · exact .inl (.inr (.inl hk))
    · rcases hn k hk with hy | hy
      · exact .inl (.inr (.inr hy))
      · exact .inr hy

end Go.Proofs.YtejkajlbffkdnaaDoor
