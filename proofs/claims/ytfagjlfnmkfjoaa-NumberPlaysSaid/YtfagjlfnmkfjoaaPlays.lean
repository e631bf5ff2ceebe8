/- The walk over baileelaw23.NumberPlays. -/
import Derived.Test.YtfagjlfnmkfjoaaNumR
import Derived.Test.YtfagjlfnmkfjoaaAlive
namespace Go.Proofs.Ytfagjlfnmkfjoaa
open Go.RowKit

def nextAll (all : List Int) (id : Int) : List Int := if rFresh all id then all ++ [id] else all
theorem Win.step {all : List Int} {any : Bool} {g : Int} {c : Nat} (h : Win all any g c) (id : Int) : Win (nextAll all id) (nextAny any g c id) (nextG any g c id) (nextC any g c id) := by
  unfold nextAll
  rw [h.fresh]
  cases hf : freshB any g c id
  · obtain ⟨e1, e2, e3⟩ := next_not hf
    rw [e1, e2, e3]; exact h
  · exact h.next hf
theorem nextAll_length (all : List Int) (id : Int) : (nextAll all id).length ≤ all.length + 1 := by
  unfold nextAll; split <;> simp

/-- What is in memory: the window at b1, the reference's list at b2. -/
structure St (b1 b2 : Nat) (all : List Int) (any : Bool) (g : Int) (c : Nat) (w : World) : Prop where
  win : Win all any g c
  hs : w.heap[b1]? = some (seen any g c)
  hw : ∃ a ca, w.heap[b2]? = some (mods (.slice a all.length ca)) ∧ SrcI w a ca all ∧ ∀ b o s, a = some ⟨b, o, s⟩ → b2 < b
theorem St.below {b1 b2 : Nat} {all : List Int} {any : Bool} {g : Int} {c : Nat} {w w' : World} (h : St b1 b2 all any g c w) (hb : Below w.heap.size w w') : St b1 b2 all any g c w' := by
  obtain ⟨a, ca, h1, h2, h3⟩ := h.hw
  exact ⟨h.win, (hb.block _ (block_lt h.hs)).trans h.hs, a, ca, (hb.block _ (block_lt h1)).trans h1, h2.below hb, h3⟩
theorem St.drawn {b1 b2 : Nat} {all : List Int} {any : Bool} {g : Int} {c : Nat} {w w' : World} (h : St b1 b2 all any g c w) (hd : Drawn w w') : St b1 b2 all any g c w' := h.below (hd.below _)
theorem St.max {b1 b2 : Nat} {all : List Int} {any : Bool} {g : Int} {c : Nat} {w : World} (h : St b1 b2 all any g c w) : gMax all ≤ 1099511627776 := by
  have := h.win.hg; rw [h.win.gm] at this; exact this.2

section
variable {b1 b2 : Nat} {all : List Int} {any : Bool} {g : Int} {c : Nat} {w : World}
theorem St.has (h : St b1 b2 all any g c w) (id : Int) : Calls Try.prog 13 #[.pointer (some ⟨b1, 0, none⟩), .int .i64 id] w fun e w' => e = .returned (.bool (hasB any g c id)) ∧ Drawn w w' := by
  obtain ⟨⟨h0, h1, h2⟩, _⟩ := cells3 h.hs
  exact has_any any g c id b1 w h0 h1 h2 h.win.hg h.win.clt
theorem St.old (h : St b1 b2 all any g c w) (id : Int) : Calls Try.prog 15 #[.pointer (some ⟨b1, 0, none⟩), .int .i64 id] w fun e w' => e = .returned (.bool (oldB any g id)) ∧ Drawn w w' := by
  obtain ⟨⟨h0, h1, h2⟩, _⟩ := cells3 h.hs
  have hg := h.win.hg
  refine (old_any any g id b1 w h0 h1 (by omega)).mono ?_
  rintro e w' ⟨rfl, rfl⟩
  exact ⟨rfl, Drawn.refl _⟩
theorem St.rhas (h : St b1 b2 all any g c w) (hl : all.length ≤ 1000) (id : Int) : Calls Try.prog 14 #[.pointer (some ⟨b2, 0, none⟩), .int .i64 id] w fun e w' => e = .returned (.bool (hasB any g c id)) ∧ Drawn w w' := by
  obtain ⟨a, ca, h1, h2, h3⟩ := h.hw
  have := rhas_any all a ca id b2 w (by rw [cell_of_block h1]; rfl) h2.row (by omega) h.max
  rw [h.win.has] at this
  exact this
theorem St.rold (h : St b1 b2 all any g c w) (hl : all.length ≤ 1000) (id : Int) : Calls Try.prog 16 #[.pointer (some ⟨b2, 0, none⟩), .int .i64 id] w fun e w' => e = .returned (.bool (oldB any g id)) ∧ Drawn w w' := by
  obtain ⟨a, ca, h1, h2, h3⟩ := h.hw
  have := rold_any all a ca id b2 w (by rw [cell_of_block h1]; rfl) h2.row (by omega) h.max
  rw [h.win.old] at this
  exact this
theorem St.rgreat (h : St b1 b2 all any g c w) (hl : all.length ≤ 1000) : Calls Try.prog 12 #[.pointer (some ⟨b2, 0, none⟩)] w fun e w' => e = .returned (.tuple #[.int .i64 g, .bool any]) ∧ Drawn w w' := by
  obtain ⟨a, ca, h1, h2, h3⟩ := h.hw
  have := rgreat_any all a ca b2 w (by rw [cell_of_block h1]; rfl) h2.row (by omega)
  rw [← h.win.gm, ← h.win.hany] at this
  exact this
theorem St.rlist (h : St b1 b2 all any g c w) (hl : all.length ≤ 1000) : Calls Try.prog 8 #[.pointer (some ⟨b2, 0, none⟩)] w fun e w' => ∃ v, e = .returned v ∧ OwnI w.heap.size w' v (pList g c 64) ∧ Below w.heap.size w w' := by
  obtain ⟨a, ca, h1, h2, h3⟩ := h.hw
  have := rlist_any all a ca b2 w (by rw [cell_of_block h1]; rfl) (block_lt h1) h2 hl h.max
  rw [h.win.list] at this
  exact this
theorem St.list (h : St b1 b2 all any g c w) : Calls Try.prog 18 #[.pointer (some ⟨b1, 0, none⟩)] w fun e w' => ∃ v, e = .returned v ∧ OwnI w.heap.size w' v (pList g c 64) ∧ Below w.heap.size w w' :=
  list_any any g c b1 w h.hs h.win.hg h.win.clt

/-- Both Fresh, one behind the other. -/
theorem St.fresh (h : St b1 b2 all any g c w) (hne : b1 < b2) (id : Int) : Calls Try.prog 7 #[.pointer (some ⟨b1, 0, none⟩), .int .i64 id] w fun e w' => e = .returned (.bool (freshB any g c id)) ∧
    w'.heap[b1]? = some (seen (nextAny any g c id) (nextG any g c id) (nextC any g c id)) ∧ w.grownBy w' (some b1) ∧
    (∃ a ca, w'.heap[b2]? = some (mods (.slice a all.length ca)) ∧ SrcI w' a ca all ∧ ∀ b o s, a = some ⟨b, o, s⟩ → b2 < b) := by
  obtain ⟨a, ca, h1, h2, h3⟩ := h.hw
  refine (fresh_any any g c id b1 w h.hs h.win.hg h.win.clt h.win.hz).mono ?_
  rintro e w' ⟨rfl, hu⟩
  have hg : w.grownBy w' (some b1) := ⟨hu.os, hu.tape, hu.output, by rw [hu.size]; exact Nat.le_refl _, fun k _ hk => hu.block k (fun e => hk (by rw [e]))⟩
  refine ⟨rfl, hu.here, hg, a, ca, (hu.block b2 (by omega)).trans h1, ?_, h3⟩
  cases a with
  | none => exact ⟨h2.len, h2.most, h2.nil, fun i hi => by obtain ⟨_, _, e, _⟩ := h2.row i hi; cases e⟩
  | some ad =>
    obtain ⟨b, o, s⟩ := ad
    refine ⟨h2.len, h2.most, h2.nil, fun i hi => ?_⟩
    obtain ⟨b', o', e, hc⟩ := h2.row i hi
    cases e
    have := h3 b o none rfl
    exact ⟨b, o, rfl, hg.cell hc (by simp; omega)⟩
theorem rfresh_both (hwin : Win all any g c) (hl : all.length ≤ 1000) (id : Int) (hw : ∃ a ca, w.heap[b2]? = some (mods (.slice a all.length ca)) ∧ SrcI w a ca all ∧ ∀ b o s, a = some ⟨b, o, s⟩ → b2 < b) :
    Calls Try.prog 10 #[.pointer (some ⟨b2, 0, none⟩), .int .i64 id] w fun e w' => e = .returned (.bool (freshB any g c id)) ∧ w.grownBy w' (some b2) ∧
    (∃ a ca, w'.heap[b2]? = some (mods (.slice a (nextAll all id).length ca)) ∧ SrcI w' a ca (nextAll all id) ∧ ∀ b o s, a = some ⟨b, o, s⟩ → b2 < b) := by
  obtain ⟨a, ca, h1, h2, h3⟩ := hw
  have hm : gMax all ≤ 1099511627776 := by have := hwin.hg; rw [hwin.gm] at this; exact this.2
  rw [← hwin.fresh]
  cases hf : rFresh all id
  · refine (rfresh_no all a ca id b2 w (by rw [cell_of_block h1]; rfl) h2.row (by omega) hm hf).mono ?_
    rintro e w' ⟨rfl, hd⟩
    have hb := hd.below w.heap.size
    have e1 : nextAll all id = all := by simp [nextAll, hf]
    rw [e1]
    exact ⟨rfl, ⟨hb.os, hb.tape, hb.output, hb.size, fun k hk _ => hb.block k hk⟩, a, ca, (hb.block b2 (block_lt h1)).trans h1, h2.below hb, h3⟩
  · refine (rfresh_yes all a ca id b2 _ w rfl h1 h2 hl hm hf).mono ?_
    rintro e w' ⟨rfl, v, k1, k2, k3⟩
    have e1 : nextAll all id = all ++ [id] := by simp [nextAll, hf]
    rw [e1]
    obtain ⟨a', c', rfl, k4, k5⟩ := k2.src
    refine ⟨rfl, k3, a', c', k1, k4, fun b o s e => ?_⟩
    have := (k5 b o s e).1
    have := block_lt h1
    omega
end

theorem SrcI.same {w : World} {a b : Option Addr} {ca cb : Nat} {xs : List Int} (ha : SrcI w a ca xs) (hb : SrcI w b cb xs) (hl : xs.length ≤ 1000000) : Calls Try.prog 17 #[.slice a xs.length ca, .slice b xs.length cb] w fun e w' => e = .returned (.bool true) ∧ Drawn w w' :=
  same_any a b ca cb xs w ha.row hb.row hl

theorem SrcI.keep {w w' : World} {a : Option Addr} {ca : Nat} {xs : List Int} {b : Nat} (h : SrcI w a ca xs) (hg : w.grownBy w' (some b)) (hb : ∀ b3 o s, a = some ⟨b3, o, s⟩ → b3 ≠ b) : SrcI w' a ca xs := by
  cases a with
  | none => exact ⟨h.len, h.most, h.nil, fun i hi => by obtain ⟨_, _, e, _⟩ := h.row i hi; cases e⟩
  | some ad =>
    obtain ⟨b3, o3, s3⟩ := ad
    cases s3 with
    | none => exact h.kept hg (by have := hb _ _ _ rfl; simpa using this)
    | some z => exact ⟨h.len, h.most, h.nil, fun i hi => by obtain ⟨_, _, e, _⟩ := h.row i hi; cases e⟩

/-- What is in memory within a round: the state, the copy, the list that was. -/
structure Mid (w0 : World) (b1 bc : Nat) (aw : Option Addr) (cw : Nat) (any0 : Bool) (g0 : Int) (c0 : Nat) (all : List Int) (any : Bool) (g : Int) (c : Nat) (w : World) : Prop where
  st : St b1 (b1 + 1) all any g c w
  cp : w.heap[bc]? = some (seen any0 g0 c0)
  sw : SrcI w aw cw (pList g0 c0 64)
  bel : Below w0.heap.size w0 w
theorem Mid.below {w0 : World} {b1 bc : Nat} {aw : Option Addr} {cw : Nat} {any0 : Bool} {g0 : Int} {c0 : Nat} {all : List Int} {any : Bool} {g : Int} {c : Nat} {w w' : World} (h : Mid w0 b1 bc aw cw any0 g0 c0 all any g c w) (hb : Below w.heap.size w w') : Mid w0 b1 bc aw cw any0 g0 c0 all any g c w' :=
  ⟨h.st.below hb, (hb.block _ (block_lt h.cp)).trans h.cp, h.sw.below hb, h.bel.trans (hb.mono h.bel.size)⟩
theorem Mid.drawn {w0 : World} {b1 bc : Nat} {aw : Option Addr} {cw : Nat} {any0 : Bool} {g0 : Int} {c0 : Nat} {all : List Int} {any : Bool} {g : Int} {c : Nat} {w w' : World} (h : Mid w0 b1 bc aw cw any0 g0 c0 all any g c w) (hd : Drawn w w') : Mid w0 b1 bc aw cw any0 g0 c0 all any g c w' := h.below (hd.below _)

set_option maxRecDepth 10000 in
set_option maxHeartbeats 4000000 in
theorem plays_walk (a : Option Addr) (cap : Nat) (zs : List Int) (asked : Int) (w : World) (ha : ArgI w a cap zs) (_ : (Lit.int .i64 asked).wf = true) :
    Calls Try.prog 4 #[.slice a zs.length cap, .int .i64 asked] w fun e w' => e = .returned (.bool true) ∧ Below w.heap.size w w' := by
  have hcl : zs.length ≤ maxLen := Nat.le_trans ha.len ha.most
  have ha := Lib.hid ha
  rcases Nat.lt_or_ge 100 zs.length with h100 | h100
  · go_enter Try.func4, Try.ntmps4
    go_wp2_with fail
    with_reducible refine (alive_any _).mono ?_
    rintro e w1 ⟨rfl, hb1⟩
    go_wp2_with fail
    go_ret
    exact ⟨rfl, hb1⟩
  go_enter Try.func4, Try.ntmps4
  go_wp2_with fail
  with_reducible refine (alive_any _).mono ?_
  rintro e w1 ⟨rfl, hb1⟩
  go_wp2_with fail
  with_reducible refine (new_any _).mono ?_
  rintro e w2 ⟨rfl, rfl⟩
  go_wp2_with fail
  have hs1 := hb1.size
  obtain ⟨b1, hB1⟩ : ∃ b1, b1 = w1.heap.size := ⟨_, rfl⟩
  have hst0 : St b1 (b1 + 1) [] false 0 0 ((w1.alloc (seen false 0 0)).alloc (mods (.slice none 0 0))) := by
    subst hB1
    refine ⟨Win.start, ?_, none, 0, ?_, ⟨Nat.le_refl _, Nat.zero_le _, fun _ => rfl, fun i hi => by simp at hi⟩, fun _ _ _ e => by cases e⟩
    · rw [Below.heap_alloc _ _ _ (by simp)]
      exact heap_alloc_new _ _
    · have := heap_alloc_new (w1.alloc (seen false 0 0)) (mods (.slice none 0 0))
      simpa using this
  have hb2 : Below w.heap.size w ((w1.alloc (seen false 0 0)).alloc (mods (.slice none 0 0))) := (hb1.alloc hs1 _).alloc (by simp; omega) _
  have hbs := Lib.hid (show w.heap.size ≤ b1 from by omega)
  replace hst0 := Lib.hid hst0
  replace hb2 := Lib.hid hb2
  clear hb1
  rw [← hB1]
  clear hB1 hs1
  go_loopw [25] (fun j wr => ∃ (k : Nat) (all : List Int) (any : Bool) (g : Int) (c : Nat), k ≤ zs.length ∧ j = .int .i64 k ∧ all.length ≤ k ∧ St b1 (b1 + 1) all any g c wr ∧ Below w.heap.size w wr)
    (fun j _ => zs.length - (intOf j).toNat)
  case atStart => exact ⟨0, [], false, 0, 0, Nat.zero_le _, rfl, Nat.le_refl _, hst0.out, hb2.out⟩
  case round =>
    obtain ⟨k, all, any, g, c, hk, rfl, hal, hst, hbel⟩ := hrel
    by_cases hlt : k < zs.length
    · obtain ⟨b, off, e1, hx⟩ := (ha.out.row.below hbel) k hlt
      subst e1
      generalize zs.getD k 0 = id at *
      have hpl := Lib.hid (pList_length g c 64)
      have hp1 := Lib.hid (pList_length (nextG any g c id) (nextC any g c id) 64)
      have hlen := Lib.hid (show (nextAll all id).length ≤ k + 1 from Nat.le_trans (nextAll_length all id) (by omega))
      have hB2 : b1 + 1 < wr.heap.size := by obtain ⟨_, _, h, _⟩ := hst.hw; exact block_lt h
      replace hst := Lib.hid hst
      replace hbel := Lib.hid hbel
      go_wp2_with fail
      with_reducible refine (hst.out.rlist (by omega)).mono ?_
      rintro e wa ⟨vw, rfl, how, hba⟩
      replace hst := Lib.hid (hst.out.below hba)
      obtain ⟨aw, cw, rfl, hsw, hbw⟩ := how.src
      replace hsw := Lib.hid hsw
      replace hbel := Lib.hid (hbel.out.trans (hba.mono hbel.out.size))
      have hsz : wr.heap.size ≤ wa.heap.size := hba.size
      clear how hba
      go_wp2_with fail
      with_reducible refine (copy_any any g c b1 wa hst.out.hs).mono ?_
      rintro e wb ⟨rfl, rfl⟩
      obtain ⟨bc, hbc⟩ : ∃ bc, bc = wa.heap.size := ⟨_, rfl⟩
      rw [← hbc]
      have hcp0 := heap_alloc_new wa (seen any g c)
      rw [← hbc] at hcp0
      obtain ⟨wb, hwb⟩ : ∃ wb, wb = wa.alloc (seen any g c) := ⟨_, rfl⟩
      rw [← hwb]
      rw [← hwb] at hcp0
      have hbab : Grown wa wb := by rw [hwb]; exact Grown.alloc (Grown.refl _) _
      replace hst := Lib.hid (hst.out.below hbab)
      replace hsw := Lib.hid (hsw.out.below hbab)
      replace hbel := Lib.hid (hbel.out.trans (hbab.mono hbel.out.size))
      have hbw' := Lib.hid (fun b o s (e : aw = some ⟨b, o, s⟩) => (hbw b o s e).1)
      replace hcp0 := Lib.hid hcp0
      have hbw1 := Lib.hid (show b1 + 1 < bc from by omega)
      clear hwb hbab hbw hx hbc
      obtain ⟨f, hf⟩ : ∃ f, f = freshB any g c id := ⟨_, rfl⟩
      replace hf := Lib.hid hf
      go_wp2_with fail
      have hfr := hst.out.fresh (by omega) id
      rw [← hf.out] at hfr
      with_reducible refine hfr.mono ?_
      rintro e wc ⟨rfl, k1, k2, k3⟩
      clear hfr
      have hwin := Lib.hid hst.out.win
      have hcp1 : wc.heap[bc]? = some (seen any g c) := (k2.block bc (block_lt hcp0.out) (by have := hbw1.out; simp; omega)).trans hcp0.out
      have hsw1 : SrcI wc aw cw (pList g c 64) := hsw.out.keep k2 (by have := hbs.out; intro b3 o s e; have := hbw'.out b3 o s e; omega)
      have hbc1 : Below w.heap.size w wc := hbel.out.grown k2 (by have := hbs.out; have := hbel.out.size; omega) (by have := hbs.out; intro k hk; cases hk; omega)
      have k1 := Lib.hid k1
      have k3 := Lib.hid k3
      replace hcp1 := Lib.hid hcp1
      replace hsw1 := Lib.hid hsw1
      replace hbc1 := Lib.hid hbc1
      clear k2 hcp0 hsw hbel hst
      have hfb : ∀ f : Bool, (f != f) = false := by intro f; cases f <;> rfl
      have hcall := Lib.hid (rfresh_both hwin.out (by omega) id k3.out)
      rw [← hf.out] at hcall
      go_wp2_with fail
      with_reducible refine hcall.out.mono ?_
      rintro e wd ⟨rfl, l2, l3⟩
      clear hcall
      have hmid : Mid w b1 bc aw cw any g c (nextAll all id) (nextAny any g c id) (nextG any g c id) (nextC any g c id) wd :=
        ⟨⟨hwin.out.step id, (l2.block b1 (block_lt k1.out) (by simp)).trans k1.out, l3⟩, (l2.block bc (block_lt hcp1.out) (by have := hbw1.out; simp; omega)).trans hcp1.out,
          hsw1.out.keep l2 (by intro b3 o s e; have := hbw'.out b3 o s e; omega),
          hbc1.out.grown l2 (by have := hbs.out; have := hbc1.out.size; omega) (by have := hbs.out; intro k hk; cases hk; omega)⟩
      replace hmid := Lib.hid hmid
      have hw0 := hwin
      clear k1 k3 hcp1 hsw1 hbc1 l2 l3 hwin
      have hl1 : (nextAll all id).length ≤ 1000 := by have := hlen.out; omega
      generalize nextAll all id = all1 at *
      generalize nextAny any g c id = any1 at *
      generalize nextG any g c id = g1 at *
      generalize nextC any g c id = c1 at *
      have hff := hfb f
      clear hf
      go_wp2_with fail
      with_reducible refine (greatest_any any1 g1 c1 b1 wd hmid.out.st.hs).mono ?_
      rintro e wa ⟨rfl, hd⟩
      replace hmid := Lib.hid (hmid.out.drawn hd)
      clear hd
      go_wp2_with fail
      with_reducible refine (hmid.out.st.rgreat hl1).mono ?_
      rintro e wb ⟨rfl, hd⟩
      replace hmid := Lib.hid (hmid.out.drawn hd)
      clear hd
      clear hff k1 k3
      have hfa := hfb any1
      obtain ⟨f1, hf1⟩ : ∃ f, f = hasB any1 g1 c1 id := ⟨_, rfl⟩
      obtain ⟨f2, hf2⟩ : ∃ f, f = hasB any1 g1 c1 asked := ⟨_, rfl⟩
      obtain ⟨f3, hf3⟩ : ∃ f, f = oldB any1 g1 asked := ⟨_, rfl⟩
      replace hf1 := Lib.hid hf1
      replace hf2 := Lib.hid hf2
      replace hf3 := Lib.hid hf3
      have h1f := hfb f1
      have h2f := hfb f2
      have h3f := hfb f3
      go_wp2_with fail
      have hc := hmid.out.st.has id
      rw [← hf1.out] at hc
      with_reducible refine hc.mono ?_
      clear hc
      rintro e wa ⟨rfl, hd⟩
      replace hmid := Lib.hid (hmid.out.drawn hd)
      clear hd
      go_wp2_with fail
      have hc := hmid.out.st.rhas hl1 id
      rw [← hf1.out] at hc
      with_reducible refine hc.mono ?_
      clear hc
      rintro e wb ⟨rfl, hd⟩
      replace hmid := Lib.hid (hmid.out.drawn hd)
      clear hd
      go_wp2_with fail
      have hc := hmid.out.st.has asked
      rw [← hf2.out] at hc
      with_reducible refine hc.mono ?_
      clear hc
      rintro e wa ⟨rfl, hd⟩
      replace hmid := Lib.hid (hmid.out.drawn hd)
      clear hd
      go_wp2_with fail
      have hc := hmid.out.st.rhas hl1 asked
      rw [← hf2.out] at hc
      with_reducible refine hc.mono ?_
      clear hc
      rintro e wb ⟨rfl, hd⟩
      replace hmid := Lib.hid (hmid.out.drawn hd)
      clear hd
      go_wp2_with fail
      have hc := hmid.out.st.old asked
      rw [← hf3.out] at hc
      with_reducible refine hc.mono ?_
      clear hc
      rintro e wa ⟨rfl, hd⟩
      replace hmid := Lib.hid (hmid.out.drawn hd)
      clear hd
      go_wp2_with fail
      have hc := hmid.out.st.rold hl1 asked
      rw [← hf3.out] at hc
      with_reducible refine hc.mono ?_
      clear hc
      rintro e wb ⟨rfl, hd⟩
      replace hmid := Lib.hid (hmid.out.drawn hd)
      clear hd
      go_wp2_with fail
      with_reducible refine hmid.out.st.list.mono ?_
      rintro e wa ⟨v1, rfl, ho1, hba⟩
      replace hmid := Lib.hid (hmid.out.below hba)
      obtain ⟨a1, ca1, rfl, hs1, _⟩ := ho1.src
      replace hs1 := Lib.hid hs1
      clear ho1 hba
      go_wp2_with fail
      with_reducible refine (hmid.out.st.rlist hl1).mono ?_
      rintro e wb ⟨v2, rfl, ho2, hbb⟩
      replace hmid := Lib.hid (hmid.out.below hbb)
      replace hs1 := Lib.hid (hs1.out.below hbb)
      obtain ⟨a2, ca2, rfl, hs2, _⟩ := ho2.src
      replace hs2 := Lib.hid hs2
      clear ho2 hbb
      go_wp2_with fail
      with_reducible refine (SrcI.same hs1.out hs2.out (by have := hp1.out; omega)).mono ?_
      rintro e wa ⟨rfl, hd⟩
      replace hmid := Lib.hid (hmid.out.drawn hd)
      clear hd hs1 hs2
      go_wp2_with fail
      have hc := list_any any g c bc _ hmid.out.cp hw0.out.hg hw0.out.clt
      with_reducible refine hc.mono ?_
      clear hc
      rintro e wb ⟨v1, rfl, ho1, hbb⟩
      replace hmid := Lib.hid (hmid.out.below hbb)
      obtain ⟨a1, ca1, rfl, hs1, _⟩ := ho1.src
      replace hs1 := Lib.hid hs1
      clear ho1 hbb
      go_wp2_with fail
      with_reducible refine (SrcI.same hs1.out hmid.out.sw (by have := hpl.out; omega)).mono ?_
      rintro e wa ⟨rfl, hd⟩
      replace hmid := Lib.hid (hmid.out.drawn hd)
      clear hd hs1
      go_wp2_with fail
      go_roundw
      case rel => exact ⟨k + 1, all1, any1, g1, c1, by omega, by go_num, hlen.out, hmid.out.st, hmid.out.bel⟩
      case measure => simp [intOf]; omega
    · go_wp2_with fail
      go_ret
      exact ⟨rfl, hbel⟩

end Go.Proofs.Ytfagjlfnmkfjoaa
