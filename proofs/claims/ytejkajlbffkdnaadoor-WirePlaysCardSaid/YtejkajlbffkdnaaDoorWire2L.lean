/- What becomes of a way's row: a message cut, one more, one bent, all gone. No program in sight. -/
import Derived.Test.YtejkajlbffkdnaaDoorDelL
namespace Go.Proofs.YtejkajlbffkdnaaDoor
open Go.RowKit

/-- A wire has become another one; what else changed is new. -/
structure WStep (base : Nat) (w w' : World) (W : Nat) (T : TypeId) (y z y' z' : Way) : Prop where
  wire : Wire base w' W T y' z'
  only : Only (Wire.D W y z) w w'
  new : ∀ k, Wire.D W y' z' k → Wire.D W y z k ∨ w.heap.size ≤ k
theorem WStep.ofUpd0 {base : Nat} {w w' : World} {W : Nat} {T : TypeId} {y z x : Way} (h : Wire base w W T y z) (hb : base ≤ w.heap.size)
    (h3 : WayOk base w' x ∧ Only (fun k => k = W ∨ k ∈ y.blks) w w' ∧ ∀ k, k ∈ x.blks → k ∈ y.blks ∨ w.heap.size ≤ k) (hat : w'.heap[W]? = some (.cells (wcells x z) T (0, 0))) : WStep base w w' W T y z x z := by
  obtain ⟨h1, h2, h3⟩ := h3
  obtain ⟨k1, k2, k3⟩ := h.upd0 h2 hb h1 hat h3
  exact ⟨k1, k2, k3⟩
theorem WStep.ofUpd1 {base : Nat} {w w' : World} {W : Nat} {T : TypeId} {y z x : Way} (h : Wire base w W T y z) (hb : base ≤ w.heap.size)
    (h3 : WayOk base w' x ∧ Only (fun k => k = W ∨ k ∈ z.blks) w w' ∧ ∀ k, k ∈ x.blks → k ∈ z.blks ∨ w.heap.size ≤ k) (hat : w'.heap[W]? = some (.cells (wcells y x) T (0, 0))) : WStep base w w' W T y z y x := by
  obtain ⟨h1, h2, h3⟩ := h3
  obtain ⟨k1, k2, k3⟩ := h.upd1 h2 hb h1 hat h3
  exact ⟨k1, k2, k3⟩
theorem WStep.drawn {base : Nat} {w w' : World} {W : Nat} {T : TypeId} {y z : Way} (h : Wire base w W T y z) (hd : Drawn w w') : WStep base w w' W T y z y z :=
  ⟨h.only (Only.ofDrawn (D := fun _ => False) hd) fun _ _ h => h, Only.ofDrawn hd, fun _ h => .inl h⟩

theorem Wire.c {base : Nat} {w : World} {W : Nat} {T : TypeId} {y z : Way} (h : Wire base w W T y z) (j : Nat) : w.cell? ⟨W, j, none⟩ = (wcells y z)[j]? := cell_of_block h.at_ j
theorem Wire.f {base : Nat} {w : World} {W : Nat} {T : TypeId} {y z : Way} (h : Wire base w W T y z) (j : Nat) : w.frozen? ⟨W, j, none⟩ = false := free_of_block h.at_ j
theorem WayOk.form {base : Nat} {w : World} {y : Way} (h : WayOk base w y) : ∃ a c, y.v = .slice a y.ms.length c ∧ y.ms.length ≤ c ∧ c ≤ maxLen := by
  rcases h.own.2 with ⟨e, h0⟩ | ⟨g, cap, cur, e, _, _, h1, h2, _⟩
  · exact ⟨none, 0, by rw [e, h0], by omega, by decide⟩
  · exact ⟨_, cap, e, h1, h2⟩
theorem WayOk.form1 {base : Nat} {w : World} {y : Way} (h : WayOk base w y) (hne : 0 < y.ms.length) : ∃ g c, y.v = .slice (some ⟨g, 0, none⟩) y.ms.length c := by
  rcases h.own.2 with ⟨e, h0⟩ | ⟨g, cap, cur, e, _⟩
  · omega
  · exact ⟨g, cap, e⟩
theorem WayOk.cell {base : Nat} {w : World} {y : Way} {g c : Nat} (h : WayOk base w y) (hv : y.v = .slice (some ⟨g, 0, none⟩) y.ms.length c) (i : Nat) (hi : i < y.ms.length) : w.cell? ⟨g, i, none⟩ = some (encM y.ms[i]) := by
  have ho := h.own
  rw [hv] at ho
  rw [World.ownsRow.cellAt ho i (by simp; omega)]
  simp [hi]

theorem mem_blks_v {y : Way} {g n c : Nat} (hv : y.v = .slice (some ⟨g, 0, none⟩) n c) : g ∈ y.blks := by simp [Way.blks, hv, Value.ownBlock]
theorem mem_blks_m {y : Way} {m : Msg} (hm : m ∈ y.ms) : m.b ∈ y.blks := by
  simp only [Way.blks, List.mem_append, List.mem_map]
  exact .inr ⟨m, hm, rfl⟩
/-- A message lies apart from the row. -/
theorem WayOk.apart {base : Nat} {w : World} {y : Way} (h : WayOk base w y) {m : Msg} (hm : m ∈ y.ms) {k : Nat} (hk : y.v.ownBlock = some k) : m.b ≠ k := by
  have := h.nd
  unfold Way.blks at this
  rw [hk] at this
  simp only [Option.toList_some, List.cons_append, List.nil_append, List.nodup_cons, List.mem_map] at this
  rintro rfl
  exact this.1 ⟨m, hm, rfl⟩

theorem cut_ok {base : Nat} {w w1 w2 : World} {y : Way} {g cap i W : Nat} (h : WayOk base w y) (hv : y.v = .slice (some ⟨g, 0, none⟩) y.ms.length cap)
    (ho1 : w1.ownsRow base 27 1 (.slice (some ⟨g, 0, none⟩) (y.ms.length - 1) cap) (y.ms.eraseIdx i).length ((y.ms.eraseIdx i).map encM)) (hg1 : w.grownBy w1 (some g)) (hO : Only (fun k => k = W) w1 w2) (hW : W ∉ y.blks) (i' o' l' : Int) :
    WayOk base w2 ⟨i', o', l', .slice (some ⟨g, 0, none⟩) (y.ms.length - 1) cap, y.ms.eraseIdx i⟩ ∧ Only (fun k => k = W ∨ k ∈ y.blks) w w2 ∧ ∀ k, k ∈ (Way.mk i' o' l' (.slice (some ⟨g, 0, none⟩) (y.ms.length - 1) cap) (y.ms.eraseIdx i)).blks → k ∈ y.blks ∨ w.heap.size ≤ k := by
  have hgb := mem_blks_v hv
  have hgW : g ≠ W := fun e => hW (e ▸ hgb)
  have hOn : Only (fun k => k = W ∨ k = g) w w2 := (Only.ofGrown (D := fun k => k = W ∨ k = g) hg1 (fun k hk => .inr (by cases hk; rfl))).trans hO fun k _ hk => .inl hk
  have hsub : (Way.mk i' o' l' (.slice (some ⟨g, 0, none⟩) (y.ms.length - 1) cap) (y.ms.eraseIdx i)).blks.Sublist y.blks := by
    simp only [Way.blks, hv, Value.ownBlock, Option.toList_some]
    exact List.Sublist.append (List.Sublist.refl _) ((List.eraseIdx_sublist _ _).map _)
  refine ⟨⟨hO.owns ho1 fun k hk => ?_, fun m hm => ?_, hsub.nodup h.nd⟩, hOn.mono fun k _ hk => ?_, fun k hk => .inl (hsub.subset hk)⟩
  · cases hk; exact hgW
  · have hm2 := List.mem_of_mem_eraseIdx hm
    obtain ⟨h1, h2, h3⟩ := h.msg m hm2
    refine ⟨h1, h2, hOn.owns h3 fun k hk => ?_⟩
    obtain rfl : m.b = k := by simpa [encM, Value.ownBlock] using hk
    rintro (e | e)
    · exact hW (e ▸ mem_blks_m hm2)
    · exact h.apart hm2 (by rw [hv]; rfl) e
  · rcases hk with rfl | rfl
    · exact .inl rfl
    · exact .inr hgb

/-- One more message, new in w1; the row appended to in w2; what became behind it is the wire's block alone. -/
theorem app_ok {base : Nat} {w w1 w2 w3 : World} {y : Way} {W : Nat} {v' : Value} {m : Msg} (h : WayOk base w y) (hb : base ≤ w.heap.size) (hl : 0 < m.bs.length ∧ m.bs.length ≤ 8000) (h1 : Only (fun k => k = W) w w1) (hm : OwnB w.heap.size w1 (encM m) m.bs)
    (ho2 : w2.ownsRow base 27 1 v' (y.ms.length + 1) (y.ms.map encM ++ [encM m])) (hg2 : w1.grownBy w2 y.v.ownBlock) (hmv : Moved w1 y.v v') (hO : Only (fun k => k = W) w2 w3) (hW : W ∉ y.blks) (hWl : W < w.heap.size) (i' o' l' : Int) :
    WayOk base w3 ⟨i', o', l', v', y.ms ++ [m]⟩ ∧ Only (fun k => k = W ∨ k ∈ y.blks) w w3 ∧ ∀ k, k ∈ (Way.mk i' o' l' v' (y.ms ++ [m])).blks → k ∈ y.blks ∨ w.heap.size ≤ k := by
  have hyv : ∀ k, y.v.ownBlock = some k → k ∈ y.blks := fun k hk => by simp [Way.blks, hk]
  have hml := World.ownsRow.lt hm m.b rfl
  have hOn1 : Only (fun k => y.v.ownBlock = some k) w1 w2 := Only.ofGrown hg2 fun k hk => hk
  have hOw2 : Only (fun k => k = W ∨ y.v.ownBlock = some k) w w2 := (h1.mono (fun k _ hk => .inl hk)).trans hOn1 fun k _ hk => .inr hk
  have hOn : Only (fun k => k = W ∨ y.v.ownBlock = some k) w w3 := hOw2.trans hO fun k _ hk => .inl hk
  have hv' : ∀ k, v'.ownBlock = some k → y.v.ownBlock = some k ∨ w1.heap.size ≤ k := hmv
  have hs1 := h1.size
  have hylt : ∀ k, k ∈ y.blks → k < w.heap.size := fun k hk => (h.lt k hk).2
  refine ⟨⟨?_, fun x hx => ?_, ?_⟩, hOn.mono fun k _ hk => ?_, fun k hk => ?_⟩
  · have := hO.owns ho2 fun k hk e => by
      subst e
      rcases hv' k hk with e | e
      · exact hW (hyv k e)
      · omega
    simpa using this
  · rcases List.mem_append.1 hx with hx | hx
    · obtain ⟨k1, k2, k3⟩ := h.msg x hx
      refine ⟨k1, k2, hOn.owns k3 fun k hk => ?_⟩
      obtain rfl : x.b = k := by simpa [encM, Value.ownBlock] using hk
      rintro (e | e)
      · exact hW (e ▸ mem_blks_m hx)
      · exact h.apart hx e rfl
    · obtain rfl : x = m := by simpa using hx
      have hOm : Only (fun k => y.v.ownBlock = some k ∨ k = W) w1 w3 := (hOn1.mono fun k _ hk => .inl hk).trans hO fun k _ hk => .inr hk
      refine ⟨hl.1, hl.2, owns_mono (hOm.owns hm fun k hk => ?_) hb⟩
      obtain rfl : x.b = k := by simpa [encM, Value.ownBlock] using hk
      rintro (e | e)
      · have := hylt _ (hyv _ e); omega
      · omega
  · have hnd := h.nd
    unfold Way.blks at hnd ⊢
    simp only [List.map_append, List.map_cons, List.map_nil]
    rw [← List.append_assoc, List.nodup_append]
    have hb2 : ∀ k, k ∈ y.ms.map (·.b) → k ∈ y.blks := fun k hk => by unfold Way.blks; exact List.mem_append_right _ hk
    have hnd2 := (List.nodup_append.1 hnd).2.1
    have hnd3 := (List.nodup_append.1 hnd).2.2
    have hd : ∀ k, v'.ownBlock = some k → k ∉ y.ms.map (·.b) := by
      intro k hk hm2
      rcases hv' k hk with e | e
      · exact hnd3 k (by simp [e]) k hm2 rfl
      · have := hylt k (hb2 k hm2); omega
    refine ⟨?_, by simp, ?_⟩
    · rw [List.nodup_append]
      refine ⟨?_, hnd2, ?_⟩
      · cases v'.ownBlock <;> simp
      · intro a ha c hc e
        subst e
        exact hd a (by simpa using ha) hc
    · intro a ha c hc e
      obtain rfl : c = m.b := by simpa using hc
      subst e
      rcases List.mem_append.1 ha with ha | ha
      · rcases hv' _ (by simpa using ha) with e | e
        · have := hylt _ (hyv _ e); omega
        · omega
      · have := hylt _ (hb2 _ ha); omega
  · rcases hk with rfl | hk
    · exact .inl rfl
    · exact .inr (hyv k hk)
  · simp only [Way.blks, List.map_append, List.map_cons, List.map_nil, List.mem_append, Option.mem_toList] at hk
    rcases hk with hk | hk | hk
    · rcases hv' k hk with e | e
      · exact .inl (hyv k e)
      · exact .inr (by omega)
    · exact .inl (by unfold Way.blks; exact List.mem_append_right _ hk)
    · obtain rfl : k = m.b := by simpa using hk
      exact .inr hml.1

/-- A message with one byte bent. -/
theorem bend_ok {base : Nat} {w : World} {y : Way} {W i k : Nat} (h : WayOk base w y) (hi : i < y.ms.length) (x : UInt8) (i' o' l' : Int) :
    WayOk base (w.setCell ⟨(y.ms[i]).b, k, none⟩ (.int .u8 (x.toNat : Int))) ⟨i', o', l', y.v, y.ms.set i ⟨(y.ms[i]).b, (y.ms[i]).cap, (y.ms[i]).bs.set k x⟩⟩ ∧ Only (fun j => j = W ∨ j ∈ y.blks) w (w.setCell ⟨(y.ms[i]).b, k, none⟩ (.int .u8 (x.toNat : Int))) ∧
      ∀ j, j ∈ (Way.mk i' o' l' y.v (y.ms.set i ⟨(y.ms[i]).b, (y.ms[i]).cap, (y.ms[i]).bs.set k x⟩)).blks → j ∈ y.blks ∨ w.heap.size ≤ j := by
  generalize hm : y.ms[i] = m
  have hmem : m ∈ y.ms := hm ▸ List.getElem_mem hi
  have hOn : Only (fun j => j = m.b) w (w.setCell ⟨m.b, k, none⟩ (.int .u8 (x.toNat : Int))) := (Only.refl _ w).setCell _ _ fun _ => rfl
  have hbs : (y.ms.set i ⟨m.b, m.cap, m.bs.set k x⟩).map (·.b) = y.ms.map (·.b) := by
    rw [List.map_set]
    apply List.ext_getElem (by simp)
    intro j h1 h2
    rw [List.getElem_set]
    split
    · next e => subst e; simp [hm]
    · rfl
  have henc : (y.ms.set i ⟨m.b, m.cap, m.bs.set k x⟩).map encM = y.ms.map encM := by
    rw [List.map_set]
    apply List.ext_getElem (by simp)
    intro j h1 h2
    rw [List.getElem_set]
    split
    · next e => subst e; simp [encM, hm]
    · rfl
  have hbl : (Way.mk i' o' l' y.v (y.ms.set i ⟨m.b, m.cap, m.bs.set k x⟩)).blks = y.blks := by
    unfold Way.blks
    simp only [hbs]
  refine ⟨⟨?_, fun a ha => ?_, by rw [hbl]; exact h.nd⟩, hOn.mono fun j _ e => .inr (e ▸ mem_blks_m hmem), fun j hj => .inl (hbl ▸ hj)⟩
  · simp only [henc, List.length_set]
    exact hOn.owns h.own fun j hj e => h.apart hmem hj e.symm
  · have ha : a ∈ y.ms.set i ⟨m.b, m.cap, m.bs.set k x⟩ := ha
    obtain ⟨j, hj, rfl⟩ := List.getElem_of_mem ha
    rw [List.length_set] at hj
    rw [List.getElem_set]
    split
    · next e =>
      subst e
      obtain ⟨k1, k2, k3⟩ := h.msg m hmem
      refine ⟨by simpa using k1, by simpa using k2, ?_⟩
      have := OwnB.set k3 rfl k x
      simpa [encM] using this
    · next e =>
      have hmj := List.getElem_mem hj
      obtain ⟨k1, k2, k3⟩ := h.msg _ hmj
      refine ⟨k1, k2, hOn.owns k3 fun q hq e2 => ?_⟩
      obtain rfl : (y.ms[j]).b = q := by simpa [encM, Value.ownBlock] using hq
      -- two messages lie apart
      have hnd := (List.nodup_append.1 h.nd).2.1
      have hij : i = j := by
        have h1 : (y.ms.map (·.b))[i]? = (y.ms.map (·.b))[j]? := by simp [hi, hj, hm, e2]
        exact (List.getElem?_inj (by simpa using hi) hnd).1 h1
      exact e hij
/-- All messages gone. -/
theorem clear_ok {base : Nat} {w w1 : World} {y : Way} {W : Nat} (hO : Only (fun k => k = W) w w1) (i' o' l' : Int) :
    WayOk base w1 ⟨i', o', l', .slice none 0 0, []⟩ ∧ Only (fun j => j = W ∨ j ∈ y.blks) w w1 ∧ ∀ j, j ∈ (Way.mk i' o' l' (.slice none 0 0) []).blks → j ∈ y.blks ∨ w.heap.size ≤ j :=
  ⟨⟨⟨rfl, .inl ⟨rfl, rfl⟩⟩, fun _ h => (by cases h), by simp [Way.blks, Value.ownBlock]⟩, hO.mono fun _ _ h => .inl h, fun j h => by simp [Way.blks, Value.ownBlock] at h⟩
/-- The numbers alone changed. -/
theorem nums_ok {base : Nat} {w w1 : World} {y : Way} {W : Nat} (h : WayOk base w y) (hO : Only (fun k => k = W) w w1) (hW : W ∉ y.blks) (i' o' l' : Int) :
    WayOk base w1 ⟨i', o', l', y.v, y.ms⟩ ∧ Only (fun j => j = W ∨ j ∈ y.blks) w w1 ∧ ∀ j, j ∈ (Way.mk i' o' l' y.v y.ms).blks → j ∈ y.blks ∨ w.heap.size ≤ j := by
  have h2 := h.only hO fun k hk e => hW (e ▸ hk)
  exact ⟨⟨h2.own, h2.msg, h2.nd⟩, hO.mono fun _ _ h => .inl h, fun j h => .inl h⟩

end Go.Proofs.YtejkajlbffkdnaaDoor
