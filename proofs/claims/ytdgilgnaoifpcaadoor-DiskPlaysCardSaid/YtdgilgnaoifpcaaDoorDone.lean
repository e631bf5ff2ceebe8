/- Walks over disk: done. -/
import Derived.Test.YtdgilgnaoifpcaaDoorWriteD
import Derived.Test.YtdgilgnaoifpcaaDoorOnL
namespace Go.Proofs.YtdgilgnaoifpcaaDoor
open Go.RowKit

section
variable {P : Program} {o : Oper} {a : Act} {w : World}
theorem yields_load_row (ty : TypeId) (x : Operand) (ho : o.op = .load ty x) (g : Nat) (c : Array Value) (d : TypeDesc)
    (hx : a.eval x = .pointer (some ⟨g, 0, none⟩)) (hg : w.heap[g]? = some (.cells c ty (0, 0))) (hu : P.underlying ty = some d) (hd : (match d with | .struct _ | .array _ _ => true | _ => false) = true) (hi : (P.info? ty).map (·.size) = some c.size) :
    (execOp a.eval o).run P w = .ok (.value (.agg c)) w := by
  unfold execOp
  simp only [ho, hx, Instr.loadAt, Instr.sureAddr, Sem.run_bind, Sem.run_pure, Result.andThen_ok, run_loadVar_row w g ty ty c (0, 0) d hg hu hd hi]
end
/-- A sector behind a write of which the first k bytes were done. -/
def overB (k : Nat) (new old : List UInt8) : List UInt8 := new.take k ++ old.drop k
theorem overB_len {k : Nat} {new old : List UInt8} (hk : k ≤ 64) (h1 : new.length = 64) (h2 : old.length = 64) : (overB k new old).length = 64 := by
  simp [overB, h1, h2]; omega

set_option maxRecDepth 100000 in
set_option maxHeartbeats 4000000 in
theorem ddone_any (B mb mn : Nat) (f : Int → List UInt8) (i : Int) (hi1 : -9223372036854775808 ≤ i) (hi2 : i ≤ 9223372036854775807) (bs : List UInt8) (hbs : bs.length = 64) (k : Nat) (hk : k ≤ 64) (K : Int) (hK : K = k) (w : World) (hc1 : w.cell? ⟨B, 1, none⟩ = some (.map (some mb))) (hm : SureMap w mb mn f) (hn : mn ≤ 1000000) (hmb : mb ≠ B) :
    Calls Tryd.prog 23 #[.pointer (some ⟨B, 0, none⟩), .agg (#[.int .i64 i] ++ (cB bs).toArray), .int .i64 K] w fun x w' => x = .returned (.tuple #[]) ∧ SureMap w' mb (mn + 1) (fun j => if j = i then overB k bs (f i) else f j) ∧ Only (fun b => b = mb) w w' := by
  subst hK
  have hfl : (f i).length = 64 := by obtain ⟨_, _, _, hl, _⟩ := hm; exact hl i
  have hmlt := hm.lt
  have hBlt := World.block_lt_of_cell? w _ hc1
  obtain ⟨R, hRd⟩ : ∃ R, R = #[Value.int .i64 i] ++ (cB bs).toArray := ⟨_, rfl⟩
  have hRs : R.size = 65 := by rw [hRd]; simp [cB_length, hbs]
  have hR0 : R[0]? = some (Value.int .i64 i) := by rw [hRd, Array.getElem?_append_left (by simp)]; rfl
  have hRj : ∀ j, R[j + 1]? = (cB bs)[j]? := by
    intro j
    rw [hRd, Array.getElem?_append_right (by simp)]
    simp
  rw [← hRd]
  obtain ⟨w1, hw1⟩ : ∃ w1, w1 = w.alloc (.cells R 64) := ⟨_, rfl⟩
  have hg1 : Grown w w1 := by rw [hw1]; exact Grown.alloc (Grown.refl w) _
  have hx1 : w1.heap[w.heap.size]? = some (.cells R 64 (0, 0)) := by rw [hw1]; exact heap_alloc_new w _
  have hs1 : w1.heap.size = w.heap.size + 1 := by rw [hw1]; exact World.size_alloc ..
  have hsd : w.heap.size < w1.drew.heap.size := by show _ < w1.heap.size; omega
  have hO1 : Only (fun b => b = mb) w w1 := Only.ofBelow hg1
  have hm1 : SureMap w1 mb mn f := hm.only (Only.ofBelow (D := fun _ => False) hg1) (fun h => h)
  have hc11 : w1.cell? ⟨B, 1, none⟩ = some (.map (some mb)) := (hg1.cell (p := ⟨B, 1, none⟩) hBlt).trans hc1
  have hxB : ∀ W, Grown w1.drew W → W.cell? ⟨B, 1, none⟩ = some (.map (some mb)) := fun W hW => (hW.cell (p := ⟨B, 1, none⟩) (Nat.lt_of_lt_of_le hBlt hg1.size)).trans hc11
  have hxX : ∀ W, Grown w1.drew W → W.cell? ⟨w.heap.size, 0, none⟩ = some (.int .i64 i) := fun W hW => (hW.cell (p := ⟨w.heap.size, 0, none⟩) hsd).trans (by rw [show w1.drew.cell? ⟨w.heap.size, 0, none⟩ = w1.cell? ⟨w.heap.size, 0, none⟩ from rfl, cell_of_block hx1]; exact hR0)
  have hmW : ∀ W, Grown w1.drew W → SureMap W mb mn f := fun W hW => SureMap.only (w := w1.drew) hm1 (Only.ofBelow (D := fun _ => False) hW) (fun h => h)
  have hd1 : Grown w1.drew w1.drew := Grown.refl _
  have hgd : Hid (Grown w w1.drew) := Lib.hid (Grown.drew hg1)
  have hxd : Hid (w1.drew.heap[w.heap.size]? = some (.cells R 64 (0, 0))) := Lib.hid hx1
  obtain ⟨F, hFd⟩ : ∃ F, F = (cB (f i)).toArray := ⟨_, rfl⟩
  have hSV : secV (f i) = .agg F := by rw [hFd]; rfl
  have hFs : F.size = 64 := by rw [hFd]; simp [cB_length, hfl]
  have hF1 : F.all (·.oneCell') = true := by
    rw [hFd, Array.all_eq_true']
    intro u hu
    exact cB_one _ u (by simpa using hu)
  have hsz : (Tryd.prog.info? 62).map (·.size) = some F.size := by rw [hFs]; kernel_rfl
  have hzs : (cB zSec).toArray.size = F.size := by rw [hFs]; rfl
  have hraw := True.intro
  have lkA : ∀ W, Grown w1.drew W → ∀ (o : Oper) (a : Act), o.op = Op.lookup 56 (.tmp 10) (.tmp 12) false → a.eval (.tmp 10) = .map (some mb) → a.eval (.tmp 12) = .int .i64 i → (execOp a.eval o).run Tryd.prog W = .ok (.value (.agg F)) W :=
    fun W hW o a h1 h2 h3 => by
      rw [← hSV]
      exact yields_look _ _ h1 mb mn f h2 (hmW W hW) i h3 hi1 hi2
  replace hSV := Lib.hid hSV
  replace hFd := Lib.hid hFd
  replace hRd := Lib.hid hRd
  replace hw1 := Lib.hid hw1
  replace hd1 := Lib.hid hd1
  replace hRj := Lib.hid hRj
  replace hfl := Lib.hid hfl
  replace hbs := Lib.hid hbs
  replace hc1 := Lib.hid hc1
  clear hm hg1 hx1 hO1 hm1 hc11 hs1
  go_enter Tryd.func23, Tryd.ntmps23
  go_wp2_with fail
  rw [← hw1.out]
  refine wp_region_held_drew (S := (Grown w1.drew)) (by kernel_rfl) hd1.out (fun hOn => ?_)
  generalize World.drew w1 = wd at *
  refine wpAnyH_take (i := 0) (v := ?_) (by simp only [List.getElem?_toArray, List.getElem?_cons_zero]; rfl) (by kernel_rfl) (by kernel_rfl) (by kernel_rfl) (by exact fun _ _ _ h => h) (Or.inl ⟨by rfl, ?_⟩) hOn ?_
  rotate_left
  focus (intro W hSW; go_simp; try with_reducible rfl)
  try simp only [Act.put, List.setIfInBounds_toArray, List.set_cons_zero, List.set_cons_succ]
  refine wpAnyH_take (i := 1) (v := ?_) (by simp only [List.getElem?_toArray, List.getElem?_cons_succ, List.getElem?_cons_zero]; rfl) (by kernel_rfl) (by kernel_rfl) (by kernel_rfl) (by exact fun _ _ _ h => h) (Or.inl ⟨by rfl, ?_⟩) hOn ?_
  rotate_left
  focus (intro W hSW; go_simp; try with_reducible rfl)
  try simp only [Act.put, List.setIfInBounds_toArray, List.set_cons_zero, List.set_cons_succ]
  refine wpAnyH_take (i := 2) (v := ?_) (by simp only [List.getElem?_toArray, List.getElem?_cons_succ, List.getElem?_cons_zero]; rfl) (by kernel_rfl) (by kernel_rfl) (by kernel_rfl) (by exact fun _ _ _ h => h) (Or.inl ⟨by rfl, ?_⟩) hOn ?_
  rotate_left
  focus (intro W hSW; go_simp; try with_reducible rfl)
  try simp only [Act.put, List.setIfInBounds_toArray, List.set_cons_zero, List.set_cons_succ]
  refine wpAnyH_take (i := 3) (v := ?_) (by simp only [List.getElem?_toArray, List.getElem?_cons_succ, List.getElem?_cons_zero]; rfl) (by kernel_rfl) (by kernel_rfl) (by kernel_rfl) (by exact fun _ _ _ h => h) (Or.inl ⟨by rfl, ?_⟩) hOn ?_
  rotate_left
  focus (intro W hSW; go_simp; try with_reducible rfl)
  try simp only [Act.put, List.setIfInBounds_toArray, List.set_cons_zero, List.set_cons_succ]
  refine wpAnyH_take (i := 4) (v := ?_) (by simp only [List.getElem?_toArray, List.getElem?_cons_succ, List.getElem?_cons_zero]; rfl) (by kernel_rfl) (by kernel_rfl) (by kernel_rfl) (by exact fun _ _ _ h => h) (Or.inl ⟨by rfl, ?_⟩) hOn ?_
  rotate_left
  focus (intro W hSW; go_simp; try with_reducible rfl)
  try simp only [Act.put, List.setIfInBounds_toArray, List.set_cons_zero, List.set_cons_succ]
  refine wpAnyH_take (i := 5) (v := ?_) (by simp only [List.getElem?_toArray, List.getElem?_cons_succ, List.getElem?_cons_zero]; rfl) (by kernel_rfl) (by kernel_rfl) (by kernel_rfl) (by exact fun _ _ _ h => h) (Or.inl ⟨by rfl, ?_⟩) hOn ?_
  rotate_left
  focus (intro W hSW; go_simp; try with_reducible rfl)
  try simp only [Act.put, List.setIfInBounds_toArray, List.set_cons_zero, List.set_cons_succ]
  refine wpAnyH_take (i := 6) (v := _) (by simp only [List.getElem?_toArray, List.getElem?_cons_succ, List.getElem?_cons_zero]; rfl) (by kernel_rfl) (by kernel_rfl) (by kernel_rfl) (by exact fun _ _ _ h => h) (Or.inl ⟨by rfl, fun W hSW => lkA W hSW _ _ rfl rfl rfl⟩) hOn ?_
  try simp only [Act.put, List.setIfInBounds_toArray, List.set_cons_zero, List.set_cons_succ]
  refine wpAnyH_ready (rs := [7]) (by kernel_rfl) (by simp) ?_
  refine AllReadyH.cons (by simp only [List.getElem?_toArray, List.getElem?_cons_succ, List.getElem?_cons_zero]; rfl) (fun Kz hKz => ?_) AllReadyH.nil
  go_simp
  focus (try go_wp2_with fail)
  (with_reducible refine made_step (t := 62) ?_)
  intro w5 hx5 hnew
  have hnew5 := Lib.hid hnew
  have hS := Grown.trans hOn hnew
  refine hKz.out _ _ (by first | exact hS | exact Below.trans hOn (Below.mono hnew (Below.size hOn))) (fun hNext => ?_)
  clear hKz Kz hOn
  have hOn := hNext
  clear hNext
  try clear hnew
  try clear hS
  try simp only [Act.put, List.setIfInBounds_toArray, List.set_cons_zero, List.set_cons_succ]
  refine wpAnyH_ready (rs := [8]) (by kernel_rfl) (by simp) ?_
  refine AllReadyH.cons (by simp only [List.getElem?_toArray, List.getElem?_cons_succ, List.getElem?_cons_zero]; rfl) (fun Kz hKz => ?_) AllReadyH.nil
  rw [if_pos (by rfl)]
  (refine wp_store_rowK 62 (.tmp 6) (.tmp 13) rfl _ (cB zSec).toArray F rfl rfl hx5 hsz hzs hF1 ?_)
  intro w6 hU6
  have hS := Below.trans hOn (hU6.out.below (Nat.le_refl _))
  refine hKz.out _ _ (by first | exact hS | exact Below.trans hOn (Below.mono hnew (Below.size hOn))) (fun hNext => ?_)
  clear hKz Kz hOn
  have hOn := hNext
  clear hNext
  try clear hnew
  try clear hS
  try simp only [Act.put]
  refine wpAnyH_done (by kernel_rfl) ?_ _
  have hG6 := Lib.hid (Grown.trans hgd.out hOn)
  have hR6 : Hid (w6.heap[w.heap.size]? = some (.cells R 64 (0, 0))) := Lib.hid ((hOn.block _ hsd).trans hxd.out)
  have hF6 : Hid (w6.heap[wd.heap.size]? = some (.cells F 62 (0, 0))) := Lib.hid hU6.out.here
  have hs6 := hU6.out.size
  have hs5 := hnew5.out.size
  have hx5l := block_lt hx5.out
  have hm6 := Lib.hid (hmW _ hOn)
  clear hU6 hx5 hmW hxB hxX lkA hOn hnew5 hd1 hxd hgd
  generalize hGd : wd.heap.size = G at *
  have hfit : ((cB bs).take k).length ≤ F.size := by simp [cB_length, hbs.out, hFs]; omega
  have hck : ((cB bs).take k).length = Nat.min 64 k := by simp [cB_length, hbs.out]; rw [Nat.min_comm]
  have h1k : ∀ v ∈ (cB bs).take k, v.oneCell' = true := fun v hv => cB_one _ v (List.mem_of_mem_take hv)
  have hsrc : Hid (∀ j v, ((cB bs).take k)[j]? = some v → w6.drew.cell? ((⟨w.heap.size, 1, none⟩ : Addr).add j) = some v) := Lib.hid (fun j v hv => by
    rw [Addr.add_mid, show w6.drew.cell? ⟨w.heap.size, 1 + j, none⟩ = w6.cell? ⟨w.heap.size, 1 + j, none⟩ from rfl, cell_of_block hR6.out, Nat.add_comm 1 j, hRj.out j]
    rw [List.getElem?_take] at hv
    split at hv
    · exact hv
    · cases hv)
  have hk2 : (k : Int) ≤ 64 := by omega
  have hFd6 : Hid (w6.drew.heap[G]? = some (.cells F 62 (0, 0))) := hF6
  have hmd6 : Hid (SureMap w6.drew mb mn f) := Lib.hid (SureMap.only hm6.out (Only.drew (Only.refl (fun _ => False) _)) (fun h => h))
  have hRd6 : Hid (w6.drew.heap[w.heap.size]? = some (.cells R 64 (0, 0))) := hR6
  have hGd6 : Hid (Grown w w6.drew) := Lib.hid (Grown.drew hG6.out)
  clear hF6 hm6 hR6 hG6
  go_wp2_with fail
  refine wp_region_held_drew (S := (fun _ : World => True)) (by kernel_rfl) True.intro (fun hOn => ?_)
  generalize World.drew w6 = wd at *
  refine wpAnyH_take (i := 0) (v := ?_) (by simp only [List.getElem?_toArray, List.getElem?_cons_zero]; rfl) (by kernel_rfl) (by kernel_rfl) (by kernel_rfl) (by exact fun _ _ _ h => h) (Or.inl ⟨by rfl, ?_⟩) hOn ?_
  rotate_left
  focus (intro W hSW; go_simp; try with_reducible rfl)
  try simp only [Act.put, List.setIfInBounds_toArray, List.set_cons_zero, List.set_cons_succ]
  refine wpAnyH_take (i := 1) (v := ?_) (by simp only [List.getElem?_toArray, List.getElem?_cons_succ, List.getElem?_cons_zero]; rfl) (by kernel_rfl) (by kernel_rfl) (by kernel_rfl) (by exact fun _ _ _ h => h) (Or.inl ⟨by rfl, ?_⟩) hOn ?_
  rotate_left
  focus (intro W hSW; go_simp; try with_reducible rfl)
  try simp only [Act.put, List.setIfInBounds_toArray, List.set_cons_zero, List.set_cons_succ]
  refine wpAnyH_take (i := 2) (v := ?_) (by simp only [List.getElem?_toArray, List.getElem?_cons_succ, List.getElem?_cons_zero]; rfl) (by kernel_rfl) (by kernel_rfl) (by kernel_rfl) (by exact fun _ _ _ h => h) (Or.inl ⟨by rfl, ?_⟩) hOn ?_
  rotate_left
  focus (intro W hSW; go_simp; try with_reducible rfl)
  try simp only [Act.put, List.setIfInBounds_toArray, List.set_cons_zero, List.set_cons_succ]
  refine wpAnyH_take (i := 3) (v := ?_) (by simp only [List.getElem?_toArray, List.getElem?_cons_succ, List.getElem?_cons_zero]; rfl) (by kernel_rfl) (by kernel_rfl) (by kernel_rfl) (by exact fun _ _ _ h => h) (Or.inl ⟨by rfl, ?_⟩) hOn ?_
  rotate_left
  focus (intro W hSW; go_simp; try with_reducible rfl)
  try simp only [Act.put, List.setIfInBounds_toArray, List.set_cons_zero, List.set_cons_succ]
  refine wpAnyH_ready (rs := [4]) (by kernel_rfl) (by simp) ?_
  refine AllReadyH.cons (by simp only [List.getElem?_toArray, List.getElem?_cons_succ, List.getElem?_cons_zero]; rfl) (fun Kz hKz => ?_) AllReadyH.nil
  rw [if_pos (by rfl)]
  (refine wpK_copy (.tmp 15) (.tmp 17) rfl G k 64 ⟨w.heap.size, 1, none⟩ 64 64 F 62 ((cB bs).take k) rfl rfl hFd6 hck hsrc.out hfit h1k ?_)
  intro w7 hU7
  have hS := True.intro
  refine hKz.out _ _ (by first | exact hS | exact Below.trans hOn (Below.mono hnew (Below.size hOn))) (fun hNext => ?_)
  clear hKz Kz hOn
  have hOn := hNext
  clear hNext
  try clear hnew
  try clear hS
  try simp only [Act.put]
  refine wpAnyH_done (by kernel_rfl) ?_ _
  obtain ⟨F7, hF7d⟩ : ∃ F7, F7 = ((cB bs).take k ++ F.toList.drop ((cB bs).take k).length).toArray := ⟨_, rfl⟩
  rw [← hF7d] at hU7
  have hF7V : Value.agg F7 = secV (overB k bs (f i)) := by
    rw [hF7d, hFd.out]
    unfold secV overB
    rw [cB_append]
    simp [cB, hbs.out, Nat.min_eq_left hk, List.map_take, List.map_drop]
  have hF7s : F7.size = 64 := by rw [hF7d]; simp [cB_length, hbs.out, hFs]; omega
  have hol : (overB k bs (f i)).length = 64 := overB_len hk hbs.out hfl.out
  have hU7' := Lib.hid (hU7.out)
  have hG7 : Hid (Grown w w7.drew) := Lib.hid (Grown.drew (Below.trans hGd6.out (hU7.out.below (by omega))))
  have hO7 : Hid (Only (fun b => b = mb) w w7.drew) := Lib.hid (Only.ofBelow hG7.out)
  have hc7 : w7.drew.cell? ⟨B, 1, none⟩ = some (.map (some mb)) := (hG7.out.cell (p := ⟨B, 1, none⟩) hBlt).trans hc1.out
  have hR7 : w7.drew.heap[w.heap.size]? = some (.cells R 64 (0, 0)) := (hU7.out.block _ (by omega)).trans hRd6.out
  have hF7 : w7.drew.heap[G]? = some (.cells F7 62 (0, 0)) := hU7.out.here
  have hm7 : Hid (SureMap w7.drew mb mn f) := Lib.hid (SureMap.only hmd6.out (Only.ofUpd (D := fun b => b = G) (hU7.out.drew) rfl) (fun h => by omega))
  have hO0 : Only (fun b => b = mb) w7.drew w7.drew := Only.refl _ _
  have hxB : ∀ W, Only (fun b => b = mb) w7.drew W → W.cell? ⟨B, 1, none⟩ = some (.map (some mb)) := fun W hW => (World.cell?_of_block (hW.block B (World.block_lt_of_cell? _ _ hc7) (fun e => hmb e.symm))).trans hc7
  have hxX : ∀ W, Only (fun b => b = mb) w7.drew W → W.cell? ⟨w.heap.size, 0, none⟩ = some (.int .i64 i) := fun W hW => by
    rw [cell_of_block (hW.heap hR7 (by omega))]
    exact hR0
  have rlA : ∀ W, Only (fun b => b = mb) w7.drew W → W.heap[G]? = some (.cells F7 62 (0, 0)) := fun W hW => hW.heap hF7 (by omega)
  have huA : Tryd.prog.underlying 62 = some (.array 64 5) := Tryd.underlying62
  have hzA : (Tryd.prog.info? 62).map (·.size) = some F7.size := by rw [hF7s]; kernel_rfl
  replace hO0 := Lib.hid hO0
  replace hF7V := Lib.hid hF7V
  clear hU7 hU7' hF7d hG7 hc7 hR7 hF7 hsrc hRd6 hFd6 hmd6 hGd6
  go_wp2_with fail
  refine wp_region_held_drew (S := (Only (fun b => b = mb) w7.drew)) (by kernel_rfl) hO0.out (fun hOn => ?_)
  generalize World.drew w7 = wd at *
  refine wpAnyH_take (i := 0) (v := ?_) (by simp only [List.getElem?_toArray, List.getElem?_cons_zero]; rfl) (by kernel_rfl) (by kernel_rfl) (by kernel_rfl) (by exact fun _ _ _ h => h) (Or.inl ⟨by rfl, ?_⟩) hOn ?_
  rotate_left
  focus (intro W hSW; go_simp; try with_reducible rfl)
  try simp only [Act.put, List.setIfInBounds_toArray, List.set_cons_zero, List.set_cons_succ]
  refine wpAnyH_take (i := 1) (v := ?_) (by simp only [List.getElem?_toArray, List.getElem?_cons_succ, List.getElem?_cons_zero]; rfl) (by kernel_rfl) (by kernel_rfl) (by kernel_rfl) (by exact fun _ _ _ h => h) (Or.inl ⟨by rfl, ?_⟩) hOn ?_
  rotate_left
  focus (intro W hSW; go_simp; try with_reducible rfl)
  try simp only [Act.put, List.setIfInBounds_toArray, List.set_cons_zero, List.set_cons_succ]
  refine wpAnyH_take (i := 2) (v := ?_) (by simp only [List.getElem?_toArray, List.getElem?_cons_succ, List.getElem?_cons_zero]; rfl) (by kernel_rfl) (by kernel_rfl) (by kernel_rfl) (by exact fun _ _ _ h => h) (Or.inl ⟨by rfl, ?_⟩) hOn ?_
  rotate_left
  focus (intro W hSW; go_simp; try with_reducible rfl)
  try simp only [Act.put, List.setIfInBounds_toArray, List.set_cons_zero, List.set_cons_succ]
  refine wpAnyH_take (i := 3) (v := ?_) (by simp only [List.getElem?_toArray, List.getElem?_cons_succ, List.getElem?_cons_zero]; rfl) (by kernel_rfl) (by kernel_rfl) (by kernel_rfl) (by exact fun _ _ _ h => h) (Or.inl ⟨by rfl, ?_⟩) hOn ?_
  rotate_left
  focus (intro W hSW; go_simp; try with_reducible rfl)
  try simp only [Act.put, List.setIfInBounds_toArray, List.set_cons_zero, List.set_cons_succ]
  refine wpAnyH_take (i := 4) (v := ?_) (by simp only [List.getElem?_toArray, List.getElem?_cons_succ, List.getElem?_cons_zero]; rfl) (by kernel_rfl) (by kernel_rfl) (by kernel_rfl) (by exact fun _ _ _ h => h) (Or.inl ⟨by rfl, ?_⟩) hOn ?_
  rotate_left
  focus (intro W hSW; go_simp; try with_reducible rfl)
  try simp only [Act.put, List.setIfInBounds_toArray, List.set_cons_zero, List.set_cons_succ]
  refine wpAnyH_take (i := 5) (v := ?_) (by simp only [List.getElem?_toArray, List.getElem?_cons_succ, List.getElem?_cons_zero]; rfl) (by kernel_rfl) (by kernel_rfl) (by kernel_rfl) (by exact fun _ _ _ h => h) (Or.inl ⟨by rfl, ?_⟩) hOn ?_
  rotate_left
  focus (intro W hSW; go_simp; try with_reducible rfl)
  try simp only [Act.put, List.setIfInBounds_toArray, List.set_cons_zero, List.set_cons_succ]
  refine wpAnyH_take (i := 6) (v := Value.agg _) (by simp only [List.getElem?_toArray, List.getElem?_cons_succ, List.getElem?_cons_zero]; rfl) (by kernel_rfl) (by kernel_rfl) (by kernel_rfl) (by exact fun _ _ _ h => h) (Or.inl ⟨by rfl, fun W hSW => yields_load_row _ _ rfl _ _ _ rfl (rlA W hSW) huA rfl hzA⟩) hOn ?_
  try simp only [Act.put, List.setIfInBounds_toArray, List.set_cons_zero, List.set_cons_succ]
  refine wpAnyH_ready (rs := [7]) (by kernel_rfl) (by simp) ?_
  refine AllReadyH.cons (by simp only [List.getElem?_toArray, List.getElem?_cons_succ, List.getElem?_cons_zero]; rfl) (fun Kz hKz => ?_) AllReadyH.nil
  rw [if_pos (by rfl)]
  (refine wpK_put (.tmp 22) (.tmp 24) (.tmp 25) rfl mb mn f rfl hm7 (by unfold maxLen; omega) i rfl hi1 hi2 (overB k bs (f i)) hF7V.out hol ?_)
  intro w8 hm8 hg8
  have hS := Only.trans hOn (Only.ofGrown (D := fun b => b = mb) hg8.out (fun b h => by injection h with h; exact h.symm)) (fun _ _ h => h)
  refine hKz.out _ _ (by first | exact hS | exact Below.trans hOn (Below.mono hnew (Below.size hOn))) (fun hNext => ?_)
  clear hKz Kz hOn
  have hOn := hNext
  clear hNext
  try clear hnew
  try clear hS
  try simp only [Act.put]
  refine wpAnyH_done (by kernel_rfl) ?_ _
  go_wp2_with fail
  go_end0
  exact ⟨rfl, hm8.out, hO7.out.trans hOn (fun _ _ h => h)⟩
end Go.Proofs.YtdgilgnaoifpcaaDoor
