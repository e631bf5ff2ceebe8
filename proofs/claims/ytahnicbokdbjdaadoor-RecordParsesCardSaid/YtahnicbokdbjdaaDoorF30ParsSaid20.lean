/- Plain: the reader gives back a right record out of its bytes. -/
import Derived.Test.YtahnicbokdbjdaaDoorF24ParsSaid20
import Derived.Test.YtahnicbokdbjdaaDoorF29ParsSaid20
namespace Go.Proofs.YtahnicbokdbjdaaDoor
open Go.RowKit

def Rc.ofKind (k : Int) : Rc := { Rc.zero with kind := k }
theorem ext_rc {x y : Rc} (h0 : x.kind = y.kind) (h1 : x.obj = y.obj) (h2 : x.id = y.id) (h3 : x.name = y.name) (h4 : x.p = y.p) (h5 : x.root = y.root) (h6 : x.file = y.file) (h7 : x.way = y.way) (h8 : x.index = y.index) (h9 : x.verdict = y.verdict) (h10 : x.tick = y.tick) : x = y := by
  cases x; cases y
  simp only at *
  subst h0 h1 h2 h3 h4 h5 h6 h7 h8 h9 h10
  rfl
theorem nums_of {x : Rc} (h : x.nums = true) : (0 ≤ x.obj ∧ x.obj ≤ 1099511627776) ∧ (0 ≤ x.tick ∧ x.tick ≤ 1099511627776) ∧ (x.kind = 2 → (1 ≤ x.way ∧ x.way ≤ 2) ∧ (0 ≤ x.index ∧ x.index ≤ 1048576) ∧ (0 ≤ x.id ∧ x.id ≤ 1099511627776)) ∧ (x.kind = 3 → (1 ≤ x.verdict ∧ x.verdict ≤ 3) ∧ (0 ≤ x.id ∧ x.id ≤ 1099511627776)) := by
  unfold Rc.nums numsB at h
  by_cases h2 : x.kind = 2
  · simp [h2, inB] at h
    exact ⟨by omega, by omega, fun _ => ⟨by omega, by omega, by omega⟩, fun e => by omega⟩
  · by_cases h3 : x.kind = 3
    · simp [h3, inB] at h
      exact ⟨by omega, by omega, fun e => by omega, fun _ => ⟨by omega, by omega⟩⟩
    · simp [h2, h3, inB] at h
      exact ⟨by omega, by omega, fun e => absurd e h2, fun e => absurd e h3⟩
theorem back2 (x : Rc) (hk : x.kind = 2) (hc : x.chk = 0) : nN (x.out, false) 1 = 2 ∧ (Rc.ofKind 2).rest2 (nB (x.out, false) 1) = x ∧ restS2 (nB (x.out, false) 1) = ([], false) := by
  obtain ⟨_, hn, hz, _⟩ := Rc.chk0 hc
  obtain ⟨r1, r2, r3, _⟩ := nums_of hn
  obtain ⟨r3, r4, r5⟩ := r3 hk
  obtain ⟨z1, z2, z3, z4, z5⟩ := (bz2 x hk).1 hz
  have ho : x.out = [b8 2] ++ (numB x.obj ++ (numB x.id ++ ([b8 x.way] ++ ((numB x.index).drop 4 ++ (numB x.tick ++ []))))) := by
    unfold Rc.out Rc.head
    rw [if_neg (by omega), if_pos hk, hk]
    simp
  have a1 := got [b8 2] (numB x.obj ++ (numB x.id ++ ([b8 x.way] ++ ((numB x.index).drop 4 ++ (numB x.tick ++ []))))) 1 rfl
  have b1 := got_nN [b8 2] (numB x.obj ++ (numB x.id ++ ([b8 x.way] ++ ((numB x.index).drop 4 ++ (numB x.tick ++ []))))) 1 rfl
  have a2 := got (numB x.obj) (numB x.id ++ ([b8 x.way] ++ ((numB x.index).drop 4 ++ (numB x.tick ++ [])))) 8 (numB_length _)
  have b2 := got_nN (numB x.obj) (numB x.id ++ ([b8 x.way] ++ ((numB x.index).drop 4 ++ (numB x.tick ++ [])))) 8 (numB_length _)
  have a3 := got (numB x.id) ([b8 x.way] ++ ((numB x.index).drop 4 ++ (numB x.tick ++ []))) 8 (numB_length _)
  have b3 := got_nN (numB x.id) ([b8 x.way] ++ ((numB x.index).drop 4 ++ (numB x.tick ++ []))) 8 (numB_length _)
  have a4 := got [b8 x.way] ((numB x.index).drop 4 ++ (numB x.tick ++ [])) 1 rfl
  have b4 := got_nN [b8 x.way] ((numB x.index).drop 4 ++ (numB x.tick ++ [])) 1 rfl
  have a5 := got ((numB x.index).drop 4) (numB x.tick ++ []) 4 (by rw [List.length_drop, numB_length])
  have b5 := got_nN ((numB x.index).drop 4) (numB x.tick ++ []) 4 (by rw [List.length_drop, numB_length])
  have a6 := got (numB x.tick) [] 8 (numB_length _)
  have b6 := got_nN (numB x.tick) [] 8 (numB_length _)
  rw [ho]
  refine ⟨by rw [b1, numG_one]; decide, ?_, ?_⟩
  · rw [a1.2]
    unfold Rc.rest2
    rw [a2.2, a3.2, a4.2, a5.2, b2, b3, b4, b5, b6, numG_num _ r1.1 r1.2, numG_num _ r2.1 r2.2, numG_num _ r5.1 r5.2, numG_index _ r4.1 r4.2, numG_one, b8_val _ (by omega)]
    exact ext_rc hk.symm rfl rfl ((name_zero _).2 z1).symm z2.symm z3.symm z4.symm rfl rfl z5.symm rfl
  · rw [a1.2]
    unfold restS2
    rw [a2.2, a3.2, a4.2, a5.2, a6.2]
theorem back3 (x : Rc) (hk : x.kind = 3) (hc : x.chk = 0) : nN (x.out, false) 1 = 3 ∧ (Rc.ofKind 3).rest3 (nB (x.out, false) 1) = x ∧ restS3 (nB (x.out, false) 1) = ([], false) := by
  obtain ⟨_, hn, hz, _⟩ := Rc.chk0 hc
  obtain ⟨r1, r2, _, r3⟩ := nums_of hn
  obtain ⟨r3, r5⟩ := r3 hk
  obtain ⟨z1, z2, z3, z4, z5, z6⟩ := (bz3 x hk).1 hz
  have ho : x.out = [b8 3] ++ (numB x.obj ++ (numB x.id ++ ([b8 x.verdict] ++ (numB x.tick ++ [])))) := by
    unfold Rc.out Rc.head
    rw [if_neg (by omega), if_neg (by omega), if_pos hk, hk]
    simp
  have a1 := got [b8 3] (numB x.obj ++ (numB x.id ++ ([b8 x.verdict] ++ (numB x.tick ++ [])))) 1 rfl
  have b1 := got_nN [b8 3] (numB x.obj ++ (numB x.id ++ ([b8 x.verdict] ++ (numB x.tick ++ [])))) 1 rfl
  have a2 := got (numB x.obj) (numB x.id ++ ([b8 x.verdict] ++ (numB x.tick ++ []))) 8 (numB_length _)
  have b2 := got_nN (numB x.obj) (numB x.id ++ ([b8 x.verdict] ++ (numB x.tick ++ []))) 8 (numB_length _)
  have a3 := got (numB x.id) ([b8 x.verdict] ++ (numB x.tick ++ [])) 8 (numB_length _)
  have b3 := got_nN (numB x.id) ([b8 x.verdict] ++ (numB x.tick ++ [])) 8 (numB_length _)
  have a4 := got [b8 x.verdict] (numB x.tick ++ []) 1 rfl
  have b4 := got_nN [b8 x.verdict] (numB x.tick ++ []) 1 rfl
  have a6 := got (numB x.tick) [] 8 (numB_length _)
  have b6 := got_nN (numB x.tick) [] 8 (numB_length _)
  rw [ho]
  refine ⟨by rw [b1, numG_one]; decide, ?_, ?_⟩
  · rw [a1.2]
    unfold Rc.rest3
    rw [a2.2, a3.2, a4.2, b2, b3, b4, b6, numG_num _ r1.1 r1.2, numG_num _ r2.1 r2.2, numG_num _ r5.1 r5.2, numG_one, b8_val _ (by omega)]
    exact ext_rc hk.symm rfl rfl ((name_zero _).2 z1).symm z2.symm z3.symm z4.symm z5.symm z6.symm rfl rfl
  · rw [a1.2]
    unfold restS3
    rw [a2.2, a3.2, a4.2, a6.2]
theorem back4 (x : Rc) (hk : x.kind = 4) (hc : x.chk = 0) : nN (x.out, false) 1 = 4 ∧ (Rc.ofKind 4).rest4 (nB (x.out, false) 1) = x ∧ restS4 (nB (x.out, false) 1) = ([], false) := by
  obtain ⟨_, hn, hz, _⟩ := Rc.chk0 hc
  obtain ⟨r1, r2, _, _⟩ := nums_of hn
  obtain ⟨z1, z2, z3, z4, z5, z6, z7, z8⟩ := (bz4 x hk).1 hz
  have ho : x.out = [b8 4] ++ (numB x.obj ++ (numB x.tick ++ [])) := by
    unfold Rc.out Rc.head
    rw [if_neg (by omega), if_neg (by omega), if_neg (by omega), hk]
    simp
  have a1 := got [b8 4] (numB x.obj ++ (numB x.tick ++ [])) 1 rfl
  have b1 := got_nN [b8 4] (numB x.obj ++ (numB x.tick ++ [])) 1 rfl
  have a2 := got (numB x.obj) (numB x.tick ++ []) 8 (numB_length _)
  have b2 := got_nN (numB x.obj) (numB x.tick ++ []) 8 (numB_length _)
  have a6 := got (numB x.tick) [] 8 (numB_length _)
  have b6 := got_nN (numB x.tick) [] 8 (numB_length _)
  rw [ho]
  refine ⟨by rw [b1, numG_one]; decide, ?_, ?_⟩
  · rw [a1.2]
    unfold Rc.rest4
    rw [a2.2, b2, b6, numG_num _ r1.1 r1.2, numG_num _ r2.1 r2.2]
    exact ext_rc hk.symm rfl z8.symm ((name_zero _).2 z1).symm z2.symm z3.symm z4.symm z6.symm z7.symm z5.symm rfl
  · rw [a1.2]
    unfold restS4
    rw [a2.2, a6.2]
theorem back1 (x : Rc) (hx : x.Ok) (hk : x.kind = 1) (hc : x.chk = 0) : nN (x.out, false) 1 = 1 ∧ (Rc.ofKind 1).rest1 (nB (x.out, false) 1) = { x with p := P6.zero } ∧ restS1 (nB (x.out, false) 1) = ([], false) ∧ nO (r1s3 (nB (x.out, false) 1)) 9 = bytesL x.p.s x.p.n x.p.k x.p.d x.p.t x.p.r := by
  obtain ⟨_, hn, hz, hl⟩ := Rc.chk0 hc
  obtain ⟨hlab, _⟩ := hl hk
  have hs12 := lab_size hlab
  obtain ⟨r1, r2, _, _⟩ := nums_of hn
  obtain ⟨z1, z2, z3, z4⟩ := (bz1 x hk).1 hz
  have hnl : x.name.data.toList.length = x.name.size := by simp
  have ho : x.out = [b8 1] ++ (numB x.obj ++ ([b8 (x.name.size : Int)] ++ (x.name.data.toList ++ (bytesL x.p.s x.p.n x.p.k x.p.d x.p.t x.p.r ++ (x.root ++ (x.file ++ (numB x.tick ++ []))))))) := by
    unfold Rc.out Rc.head
    rw [if_pos hk, hk]
    simp
  have a1 := got [b8 1] (numB x.obj ++ ([b8 (x.name.size : Int)] ++ (x.name.data.toList ++ (bytesL x.p.s x.p.n x.p.k x.p.d x.p.t x.p.r ++ (x.root ++ (x.file ++ (numB x.tick ++ []))))))) 1 rfl
  have b1 := got_nN [b8 1] (numB x.obj ++ ([b8 (x.name.size : Int)] ++ (x.name.data.toList ++ (bytesL x.p.s x.p.n x.p.k x.p.d x.p.t x.p.r ++ (x.root ++ (x.file ++ (numB x.tick ++ []))))))) 1 rfl
  have a2 := got (numB x.obj) ([b8 (x.name.size : Int)] ++ (x.name.data.toList ++ (bytesL x.p.s x.p.n x.p.k x.p.d x.p.t x.p.r ++ (x.root ++ (x.file ++ (numB x.tick ++ [])))))) 8 (numB_length _)
  have b2 := got_nN (numB x.obj) ([b8 (x.name.size : Int)] ++ (x.name.data.toList ++ (bytesL x.p.s x.p.n x.p.k x.p.d x.p.t x.p.r ++ (x.root ++ (x.file ++ (numB x.tick ++ [])))))) 8 (numB_length _)
  have a3 := got [b8 (x.name.size : Int)] (x.name.data.toList ++ (bytesL x.p.s x.p.n x.p.k x.p.d x.p.t x.p.r ++ (x.root ++ (x.file ++ (numB x.tick ++ []))))) 1 rfl
  have b3 : nNat ([b8 (x.name.size : Int)] ++ (x.name.data.toList ++ (bytesL x.p.s x.p.n x.p.k x.p.d x.p.t x.p.r ++ (x.root ++ (x.file ++ (numB x.tick ++ []))))), false) 1 = x.name.size := by
    have h := got_nN [b8 (x.name.size : Int)] (x.name.data.toList ++ (bytesL x.p.s x.p.n x.p.k x.p.d x.p.t x.p.r ++ (x.root ++ (x.file ++ (numB x.tick ++ []))))) 1 rfl
    rw [numG_one, b8_val _ (by omega), nN_nat] at h
    omega
  have a4 := got x.name.data.toList (bytesL x.p.s x.p.n x.p.k x.p.d x.p.t x.p.r ++ (x.root ++ (x.file ++ (numB x.tick ++ [])))) x.name.size hnl
  have a5 := got (bytesL x.p.s x.p.n x.p.k x.p.d x.p.t x.p.r) (x.root ++ (x.file ++ (numB x.tick ++ []))) 9 rfl
  have a6 := got x.root (x.file ++ (numB x.tick ++ [])) 32 hx.root
  have a7 := got x.file (numB x.tick ++ []) 32 hx.file
  have a8 := got (numB x.tick) [] 8 (numB_length _)
  have b8' := got_nN (numB x.tick) [] 8 (numB_length _)
  rw [ho]
  have e3 : r1len (nB ([b8 1] ++ (numB x.obj ++ ([b8 (x.name.size : Int)] ++ (x.name.data.toList ++ (bytesL x.p.s x.p.n x.p.k x.p.d x.p.t x.p.r ++ (x.root ++ (x.file ++ (numB x.tick ++ []))))))), false) 1) = x.name.size := by
    unfold r1len
    rw [a1.2, a2.2, b3]
  refine ⟨by rw [b1, numG_one]; decide, ?_, ?_, ?_⟩
  · unfold Rc.rest1 r1s6 r1s5 r1s4 r1s3 r1s2
    rw [e3, a1.2, a2.2, a3.2, a4.2, a5.2, a6.2, a7.2, b2, b8', a4.1, a6.1, a7.1, numG_num _ r1.1 r1.2, numG_num _ r2.1 r2.2]
    exact ext_rc hk.symm rfl z1.symm (bytes_inj (by simp)) rfl rfl rfl z2.symm z3.symm z4.symm rfl
  · unfold restS1 r1s6 r1s5 r1s4 r1s3 r1s2
    rw [e3, a1.2, a2.2, a3.2, a4.2, a5.2, a6.2, a7.2, a8.2]
  · unfold r1s3 r1s2
    rw [e3, a1.2, a2.2, a3.2, a4.2, a5.1]
end Go.Proofs.YtahnicbokdbjdaaDoor
