/- ParsB, RetTmp, Two. -/
import Derived.Test.YtahnicbokdbjdaaDoorF25BytesSaid20
import Derived.Test.YtahnicbokdbjdaaDoorF30BytesSaid20
import Derived.Test.YtahnicbokdbjdaaDoorF1BytesSaid20
import Derived.Test.YtahnicbokdbjdaaDoorF13BytesSaid20
import Derived.Deep.QuietTactic
import Derived.Deep.CutRange
import Derived.Deep.RegionWith
/- Plain: the reader gives back a right record out of its bytes. -/
namespace Go.Proofs.YtahnicbokdbjdaaDoor
open Go.RowKit

def Rc.ofKind (k : Int) : Rc := { Rc.zero with kind := k }
theorem ext_rc {x y : Rc} (h0 : x.kind = y.kind) (h1 : x.obj = y.obj) (h2 : x.id = y.id) (h3 : x.name = y.name) (h4 : x.p = y.p) (h5 : x.root = y.root) (h6 : x.file = y.file) (h7 : x.way = y.way) (h8 : x.index = y.index) (h9 : x.verdict = y.verdict) (h10 : x.tick = y.tick) : x = y := by
  cases x; cases y
  simp only at *
  subst h0 h1 h2 h3 h4 h5 h6 h7 h8 h9 h10
  rfl
theorem nums_of {x : Rc} (h : x.nums = true) : (0 ≤ x.obj ∧ x.obj ≤ 1099511627776) ∧ (0 ≤ x.tick ∧ x.tick ≤ 1099511627776) ∧ (x.kind = 2 → (1 ≤ x.way ∧ x.way ≤ 2) ∧ (0 ≤ x.index ∧ x.index ≤ 1048576) ∧ (0 ≤ x.id ∧ x.id ≤ 1099511627776)) ∧ (x.kind = 3 → (1 ≤ x.verdict ∧ x.verdict ≤ 3) ∧ (0 ≤ x.id ∧ x.id ≤ 1099511627776)) := by
  unfold Rc.nums numsB at h
  by_cases h2 : x.kind = 2
  · simp [h2, inB] at h
    exact ⟨by omega, by omega, fun _ => ⟨by omega, by omega, by omega⟩, fun e => by omega⟩
  · by_cases h3 : x.kind = 3
    · simp [h3, inB] at h
      exact ⟨by omega, by omega, fun e => by omega, fun _ => ⟨by omega, by omega⟩⟩
    · simp [h2, h3, inB] at h
      exact ⟨by omega, by omega, fun e => absurd e h2, fun e => absurd e h3⟩
theorem back2 (x : Rc) (hk : x.kind = 2) (hc : x.chk = 0) : nN (x.out, false) 1 = 2 ∧ (Rc.ofKind 2).rest2 (nB (x.out, false) 1) = x ∧ restS2 (nB (x.out, false) 1) = ([], false) := by
  obtain ⟨_, hn, hz, _⟩ := Rc.chk0 hc
  obtain ⟨r1, r2, r3, _⟩ := nums_of hn
  obtain ⟨r3, r4, r5⟩ := r3 hk
  obtain ⟨z1, z2, z3, z4, z5⟩ := (bz2 x hk).1 hz
  have ho : x.out = [b8 2] ++ (numB x.obj ++ (numB x.id ++ ([b8 x.way] ++ ((numB x.index).drop 4 ++ (numB x.tick ++ []))))) := by
    unfold Rc.out Rc.head
    rw [if_neg (by omega), if_pos hk, hk]
    simp
  have a1 := got [b8 2] (numB x.obj ++ (numB x.id ++ ([b8 x.way] ++ ((numB x.index).drop 4 ++ (numB x.tick ++ []))))) 1 rfl
  have b1 := got_nN [b8 2] (numB x.obj ++ (numB x.id ++ ([b8 x.way] ++ ((numB x.index).drop 4 ++ (numB x.tick ++ []))))) 1 rfl
  have a2 := got (numB x.obj) (numB x.id ++ ([b8 x.way] ++ ((numB x.index).drop 4 ++ (numB x.tick ++ [])))) 8 (numB_length _)
  have b2 := got_nN (numB x.obj) (numB x.id ++ ([b8 x.way] ++ ((numB x.index).drop 4 ++ (numB x.tick ++ [])))) 8 (numB_length _)
  have a3 := got (numB x.id) ([b8 x.way] ++ ((numB x.index).drop 4 ++ (numB x.tick ++ []))) 8 (numB_length _)
  have b3 := got_nN (numB x.id) ([b8 x.way] ++ ((numB x.index).drop 4 ++ (numB x.tick ++ []))) 8 (numB_length _)
  have a4 := got [b8 x.way] ((numB x.index).drop 4 ++ (numB x.tick ++ [])) 1 rfl
  have b4 := got_nN [b8 x.way] ((numB x.index).drop 4 ++ (numB x.tick ++ [])) 1 rfl
  have a5 := got ((numB x.index).drop 4) (numB x.tick ++ []) 4 (by rw [List.length_drop, numB_length])
  have b5 := got_nN ((numB x.index).drop 4) (numB x.tick ++ []) 4 (by rw [List.length_drop, numB_length])
  have a6 := got (numB x.tick) [] 8 (numB_length _)
  have b6 := got_nN (numB x.tick) [] 8 (numB_length _)
  rw [ho]
  refine ⟨by rw [b1, numG_one]; decide, ?_, ?_⟩
  · rw [a1.2]
    unfold Rc.rest2
    rw [a2.2, a3.2, a4.2, a5.2, b2, b3, b4, b5, b6, numG_num _ r1.1 r1.2, numG_num _ r2.1 r2.2, numG_num _ r5.1 r5.2, numG_index _ r4.1 r4.2, numG_one, b8_val _ (by omega)]
    exact ext_rc hk.symm rfl rfl ((name_zero _).2 z1).symm z2.symm z3.symm z4.symm rfl rfl z5.symm rfl
  · rw [a1.2]
    unfold restS2
    rw [a2.2, a3.2, a4.2, a5.2, a6.2]
theorem back3 (x : Rc) (hk : x.kind = 3) (hc : x.chk = 0) : nN (x.out, false) 1 = 3 ∧ (Rc.ofKind 3).rest3 (nB (x.out, false) 1) = x ∧ restS3 (nB (x.out, false) 1) = ([], false) := by
  obtain ⟨_, hn, hz, _⟩ := Rc.chk0 hc
  obtain ⟨r1, r2, _, r3⟩ := nums_of hn
  obtain ⟨r3, r5⟩ := r3 hk
  obtain ⟨z1, z2, z3, z4, z5, z6⟩ := (bz3 x hk).1 hz
  have ho : x.out = [b8 3] ++ (numB x.obj ++ (numB x.id ++ ([b8 x.verdict] ++ (numB x.tick ++ [])))) := by
    unfold Rc.out Rc.head
    rw [if_neg (by omega), if_neg (by omega), if_pos hk, hk]
    simp
  have a1 := got [b8 3] (numB x.obj ++ (numB x.id ++ ([b8 x.verdict] ++ (numB x.tick ++ [])))) 1 rfl
  have b1 := got_nN [b8 3] (numB x.obj ++ (numB x.id ++ ([b8 x.verdict] ++ (numB x.tick ++ [])))) 1 rfl
  have a2 := got (numB x.obj) (numB x.id ++ ([b8 x.verdict] ++ (numB x.tick ++ []))) 8 (numB_length _)
  have b2 := got_nN (numB x.obj) (numB x.id ++ ([b8 x.verdict] ++ (numB x.tick ++ []))) 8 (numB_length _)
  have a3 := got (numB x.id) ([b8 x.verdict] ++ (numB x.tick ++ [])) 8 (numB_length _)
  have b3 := got_nN (numB x.id) ([b8 x.verdict] ++ (numB x.tick ++ [])) 8 (numB_length _)
  have a4 := got [b8 x.verdict] (numB x.tick ++ []) 1 rfl
  have b4 := got_nN [b8 x.verdict] (numB x.tick ++ []) 1 rfl
  have a6 := got (numB x.tick) [] 8 (numB_length _)
  have b6 := got_nN (numB x.tick) [] 8 (numB_length _)
  rw [ho]
  refine ⟨by rw [b1, numG_one]; decide, ?_, ?_⟩
  · rw [a1.2]
    unfold Rc.rest3
    rw [a2.2, a3.2, a4.2, b2, b3, b4, b6, numG_num _ r1.1 r1.2, numG_num _ r2.1 r2.2, numG_num _ r5.1 r5.2, numG_one, b8_val _ (by omega)]
    exact ext_rc hk.symm rfl rfl ((name_zero _).2 z1).symm z2.symm z3.symm z4.symm z5.symm z6.symm rfl rfl
  · rw [a1.2]
    unfold restS3
    rw [a2.2, a3.2, a4.2, a6.2]
theorem back4 (x : Rc) (hk : x.kind = 4) (hc : x.chk = 0) : nN (x.out, false) 1 = 4 ∧ (Rc.ofKind 4).rest4 (nB (x.out, false) 1) = x ∧ restS4 (nB (x.out, false) 1) = ([], false) := by
  obtain ⟨_, hn, hz, _⟩ := Rc.chk0 hc
  obtain ⟨r1, r2, _, _⟩ := nums_of hn
  obtain ⟨z1, z2, z3, z4, z5, z6, z7, z8⟩ := (bz4 x hk).1 hz
  have ho : x.out = [b8 4] ++ (numB x.obj ++ (numB x.tick ++ [])) := by
    unfold Rc.out Rc.head
    rw [if_neg (by omega), if_neg (by omega), if_neg (by omega), hk]
    simp
  have a1 := got [b8 4] (numB x.obj ++ (numB x.tick ++ [])) 1 rfl
  have b1 := got_nN [b8 4] (numB x.obj ++ (numB x.tick ++ [])) 1 rfl
  have a2 := got (numB x.obj) (numB x.tick ++ []) 8 (numB_length _)
  have b2 := got_nN (numB x.obj) (numB x.tick ++ []) 8 (numB_length _)
  have a6 := got (numB x.tick) [] 8 (numB_length _)
  have b6 := got_nN (numB x.tick) [] 8 (numB_length _)
  rw [ho]
  refine ⟨by rw [b1, numG_one]; decide, ?_, ?_⟩
  · rw [a1.2]
    unfold Rc.rest4
    rw [a2.2, b2, b6, numG_num _ r1.1 r1.2, numG_num _ r2.1 r2.2]
    exact ext_rc hk.symm rfl z8.symm ((name_zero _).2 z1).symm z2.symm z3.symm z4.symm z6.symm z7.symm z5.symm rfl
  · rw [a1.2]
    unfold restS4
    rw [a2.2, a6.2]
theorem back1 (x : Rc) (hx : x.Ok) (hk : x.kind = 1) (hc : x.chk = 0) : nN (x.out, false) 1 = 1 ∧ (Rc.ofKind 1).rest1 (nB (x.out, false) 1) = { x with p := P6.zero } ∧ restS1 (nB (x.out, false) 1) = ([], false) ∧ nO (r1s3 (nB (x.out, false) 1)) 9 = bytesL x.p.s x.p.n x.p.k x.p.d x.p.t x.p.r := by
  obtain ⟨_, hn, hz, hl⟩ := Rc.chk0 hc
  obtain ⟨hlab, _⟩ := hl hk
  have hs12 := lab_size hlab
  obtain ⟨r1, r2, _, _⟩ := nums_of hn
  obtain ⟨z1, z2, z3, z4⟩ := (bz1 x hk).1 hz
  have hnl : x.name.data.toList.length = x.name.size := by simp
  have ho : x.out = [b8 1] ++ (numB x.obj ++ ([b8 (x.name.size : Int)] ++ (x.name.data.toList ++ (bytesL x.p.s x.p.n x.p.k x.p.d x.p.t x.p.r ++ (x.root ++ (x.file ++ (numB x.tick ++ []))))))) := by
    unfold Rc.out Rc.head
    rw [if_pos hk, hk]
    simp
  have a1 := got [b8 1] (numB x.obj ++ ([b8 (x.name.size : Int)] ++ (x.name.data.toList ++ (bytesL x.p.s x.p.n x.p.k x.p.d x.p.t x.p.r ++ (x.root ++ (x.file ++ (numB x.tick ++ []))))))) 1 rfl
  have b1 := got_nN [b8 1] (numB x.obj ++ ([b8 (x.name.size : Int)] ++ (x.name.data.toList ++ (bytesL x.p.s x.p.n x.p.k x.p.d x.p.t x.p.r ++ (x.root ++ (x.file ++ (numB x.tick ++ []))))))) 1 rfl
  have a2 := got (numB x.obj) ([b8 (x.name.size : Int)] ++ (x.name.data.toList ++ (bytesL x.p.s x.p.n x.p.k x.p.d x.p.t x.p.r ++ (x.root ++ (x.file ++ (numB x.tick ++ [])))))) 8 (numB_length _)
  have b2 := got_nN (numB x.obj) ([b8 (x.name.size : Int)] ++ (x.name.data.toList ++ (bytesL x.p.s x.p.n x.p.k x.p.d x.p.t x.p.r ++ (x.root ++ (x.file ++ (numB x.tick ++ [])))))) 8 (numB_length _)
  have a3 := got [b8 (x.name.size : Int)] (x.name.data.toList ++ (bytesL x.p.s x.p.n x.p.k x.p.d x.p.t x.p.r ++ (x.root ++ (x.file ++ (numB x.tick ++ []))))) 1 rfl
  have b3 : nNat ([b8 (x.name.size : Int)] ++ (x.name.data.toList ++ (bytesL x.p.s x.p.n x.p.k x.p.d x.p.t x.p.r ++ (x.root ++ (x.file ++ (numB x.tick ++ []))))), false) 1 = x.name.size := by
    have h := got_nN [b8 (x.name.size : Int)] (x.name.data.toList ++ (bytesL x.p.s x.p.n x.p.k x.p.d x.p.t x.p.r ++ (x.root ++ (x.file ++ (numB x.tick ++ []))))) 1 rfl
    rw [numG_one, b8_val _ (by omega), nN_nat] at h
    omega
  have a4 := got x.name.data.toList (bytesL x.p.s x.p.n x.p.k x.p.d x.p.t x.p.r ++ (x.root ++ (x.file ++ (numB x.tick ++ [])))) x.name.size hnl
  have a5 := got (bytesL x.p.s x.p.n x.p.k x.p.d x.p.t x.p.r) (x.root ++ (x.file ++ (numB x.tick ++ []))) 9 rfl
  have a6 := got x.root (x.file ++ (numB x.tick ++ [])) 32 hx.root
  have a7 := got x.file (numB x.tick ++ []) 32 hx.file
  have a8 := got (numB x.tick) [] 8 (numB_length _)
  have b8' := got_nN (numB x.tick) [] 8 (numB_length _)
  rw [ho]
  have e3 : r1len (nB ([b8 1] ++ (numB x.obj ++ ([b8 (x.name.size : Int)] ++ (x.name.data.toList ++ (bytesL x.p.s x.p.n x.p.k x.p.d x.p.t x.p.r ++ (x.root ++ (x.file ++ (numB x.tick ++ []))))))), false) 1) = x.name.size := by
    unfold r1len
    rw [a1.2, a2.2, b3]
  refine ⟨by rw [b1, numG_one]; decide, ?_, ?_, ?_⟩
  · unfold Rc.rest1 r1s6 r1s5 r1s4 r1s3 r1s2
    rw [e3, a1.2, a2.2, a3.2, a4.2, a5.2, a6.2, a7.2, b2, b8', a4.1, a6.1, a7.1, numG_num _ r1.1 r1.2, numG_num _ r2.1 r2.2]
    exact ext_rc hk.symm rfl z1.symm (bytes_inj (by simp)) rfl rfl rfl z2.symm z3.symm z4.symm rfl
  · unfold restS1 r1s6 r1s5 r1s4 r1s3 r1s2
    rw [e3, a1.2, a2.2, a3.2, a4.2, a5.2, a6.2, a7.2, a8.2]
  · unfold r1s3 r1s2
    rw [e3, a1.2, a2.2, a3.2, a4.2, a5.1]
end Go.Proofs.YtahnicbokdbjdaaDoor
/- Two results: a struct or an array that lies in a block, and one that lies in a slot. -/
namespace Go.Proofs.YtahnicbokdbjdaaDoor
open Go.RowKit
section
variable {P : Program} {fn : Func} {R : Ending → World → Prop} {p q : Tmp} {ty : TypeId}
theorem results_cell_tmpB (h : fn.results = #[.cell p ty, .tmp q]) (tmps : Array Value) (w : World) :
    (results fn tmps).run P w = ((asAddr (tmps.getD p undef)).run P w).andThen fun a w₁ => ((loadVar ty a).run P w₁).andThen fun v w₂ => .ok (.tuple #[v, tmps.getD q undef]) w₂ := by
  simp [results, h, Sem.run_bind, Result.andThen]
theorem ret_cell_tmpB {tmps : Array Value} {W : World} {b : Nat} {c : Array Value} {d : TypeDesc} (h : fn.results = #[.cell p ty, .tmp q])
    (hp : tmps.getD p undef = .pointer (some ⟨b, 0, none⟩)) (hu : P.underlying ty = some d) (hd : (match d with | .struct _ | .array _ _ => true | _ => false) = true) (hi : (P.info? ty).map (·.size) = some c.size) (hh : W.heap[b]? = some (.cells c ty (0, 0))) (hR : R (.returned (.tuple #[.agg c, tmps.getD q undef])) W) :
    bodyPost P fn R .ret ⟨tmps, []⟩ W := by
  refine bodyPost_ret (v := .tuple #[.agg c, tmps.getD q undef]) ?_ rfl hR
  rw [results_cell_tmpB h, hp]
  simp [asAddr, Result.andThen, run_loadVar_row W b ty ty c (0, 0) d hh hu hd hi]
end
/-- A sentinel lies in its variable. -/
def SentAt (g : Nat) (w : World) (z : Addr) : Prop := w.cell? ⟨g, 0, none⟩ = some (.iface 132 (.pointer (some z)))
theorem SentAt.below {g : Nat} {w w' : World} {z : Addr} (h : SentAt g w z) (hb : Below w.heap.size w w') : SentAt g w' z := (hb.cell (World.block_lt_of_cell? w _ h)).trans h
theorem SentAt.far {g : Nat} {w : World} {z : Addr} (h : SentAt g w z) : ∀ W, Below w.heap.size w W → W.cell? ⟨g, 0, none⟩ = some (.iface 132 (.pointer (some z))) := fun _ hW => h.below hW
end Go.Proofs.YtahnicbokdbjdaaDoor
/- Walks over params.two, params.Parse, the reference's Parse. -/
namespace Go.Proofs.YtahnicbokdbjdaaDoor
open Go.RowKit

theorem or_two (x y : UInt8) : bits BinOp.or IntKind.i64 ((x.toNat : Int) * 256) (y.toNat : Int) = (x.toNat : Int) * 256 + y.toNat := by
  have hx := x.toNat_lt
  have hy := y.toNat_lt
  have e0 : ((x.toNat : Int) * 256) = ((256 * x.toNat : Nat) : Int) := by omega
  rw [e0]
  have e1 : (BitVec.ofInt 64 ((256 * x.toNat : Nat) : Int)).toNat = 256 * x.toNat := by rw [BitVec.ofInt_natCast, BitVec.toNat_ofNat]; exact Nat.mod_eq_of_lt (by omega)
  have e2 : (BitVec.ofInt 64 (y.toNat : Int)).toNat = y.toNat := by rw [BitVec.ofInt_natCast, BitVec.toNat_ofNat]; exact Nat.mod_eq_of_lt (by omega)
  have e3 : 256 * x.toNat ||| y.toNat = 256 * x.toNat + y.toNat := (Nat.two_pow_add_eq_or_of_lt (i := 8) (by omega) x.toNat).symm
  show IntKind.i64.wrap ((BitVec.ofInt 64 ((256 * x.toNat : Nat) : Int) ||| BitVec.ofInt 64 (y.toNat : Int)).toNat : Int) = _
  rw [BitVec.toNat_or, e1, e2, e3, IntKind.wrap_i64]
  omega

set_option maxHeartbeats 1000000 in
theorem two_any (b off m c : Nat) (x y : UInt8) (w : World) (h0 : w.cell? ⟨b, off, none⟩ = some (.int .u8 (x.toNat : Int))) (h1 : w.cell? ⟨b, off + 1, none⟩ = some (.int .u8 (y.toNat : Int))) (hm : 2 ≤ m) :
    Calls Tryd.prog 48 #[.slice (some ⟨b, off, none⟩) m c] w fun e w' => e = .returned (.int .i64 ((x.toNat : Int) * 256 + y.toNat)) ∧ ∃ n, w' = w.drewN n := by
  have hx := x.toNat_lt
  have hy := y.toNat_lt
  have m0 : (0 : Int) < (m : Int) := by omega
  have m1 : (1 : Int) < (m : Int) := by omega
  go_enter Tryd.func48, Tryd.ntmps48
  go_wp2_with fail
  go_quiet (fail)
  go_wp2_with fail
  go_ret
  exact ⟨by rw [or_two]; rfl, _, rfl⟩


/-- The result of two parts: a struct or an array that lies in block b, and what lies in a slot. -/
theorem ret_cell_tmp_row {P : Program} {fn : Func} {R : Ending → World → Prop} {p u : Tmp} {ty : TypeId} {tmps : Array Value} {W : World} {b : Nat} {c : Array Value} {y : Value} {d : TypeDesc} (h : fn.results = #[.cell p ty, .tmp u])
    (hp : tmps.getD p undef = .pointer (some ⟨b, 0, none⟩)) (hy : tmps.getD u undef = y) (hu : P.underlying ty = some d) (hd : (match d with | .struct _ | .array _ _ => true | _ => false) = true) (hi : (P.info? ty).map (·.size) = some c.size) (hh : W.heap[b]? = some (.cells c ty (0, 0))) (hR : R (.returned (.tuple #[.agg c, y])) W) :
    bodyPost P fn R .ret ⟨tmps, []⟩ W := by
  refine bodyPost_ret (v := .tuple #[.agg c, y]) ?_ rfl hR
  have hr : (results fn tmps).run P W = ((asAddr (tmps.getD p undef)).run P W).andThen fun a w₁ => ((loadVar ty a).run P w₁).andThen fun v w₂ => .ok (.tuple #[v, tmps.getD u undef]) w₂ := by
    simp only [results, h]
    simp [Sem.run_bind, Result.andThen]
  rw [hr, hp, hy]
  simp [asAddr, Result.andThen, run_loadVar_row W b ty ty c (0, 0) d hh hu hd hi]

set_option maxHeartbeats 2000000 in
theorem parse_len (a : Option Addr) (m c : Nat) (hm : m ≠ 9) (z : Addr) (w : World) (hz : w.cell? ⟨7, 0, none⟩ = some (.iface 132 (.pointer (some z)))) :
    Calls Tryd.prog 33 #[.slice a m c] w fun e w' => e = .returned (.tuple #[.agg #[.int .i64 0, .int .i64 0, .int .i64 0, .int .i64 0, .int .i64 0, .int .i64 0], .iface 132 (.pointer (some z))]) ∧ Below w.heap.size w w' := by
  have hf : ((m : Int) != 9) = true := by rw [bne_iff_ne]; omega
  have hz1 := cell_far1 hz
  have hb0 := Lib.hid (Below.refl w.heap.size w)
  clear hz hm
  go_enter Tryd.func33, Tryd.ntmps33
  go_wp2_with fail
  go_region
  all_goals
    go_wp2
    refine ret_cell_tmp_row rfl rfl rfl Tryd.underlying27 rfl (by kernel_rfl) (b := w.heap.size) (c := #[.int .i64 0, .int .i64 0, .int .i64 0, .int .i64 0, .int .i64 0, .int .i64 0]) (heap_alloc_new w _) ?_
    exact ⟨rfl, below_drewN (hb0.out.alloc (Nat.le_refl _) _) 1⟩

end Go.Proofs.YtahnicbokdbjdaaDoor
