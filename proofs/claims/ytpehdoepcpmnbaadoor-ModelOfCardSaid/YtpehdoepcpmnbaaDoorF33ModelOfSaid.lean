/- ledger.State's object, kept, asked, judged where all is right. Printed by genfolg.py. -/
import Derived.Test.YtpehdoepcpmnbaaDoorF31ModelOfSaid
import Derived.Test.YtpehdoepcpmnbaaDoorF32ModelOfSaid
namespace Go.Proofs.YtpehdoepcpmnbaaDoor
open Go.RowKit
set_option linter.unusedVariables false

set_option maxRecDepth 100000 in
set_option maxHeartbeats 2000000 in
theorem object_good (va : Value) (m : St) (x : Rc) (hx : x.Ok) (w : World) (ha : ArgS w va m) (l1 : m.its.length ≤ 1000) (l2 : m.ens.length ≤ 1000) (h1 : (namedS m.its x.name).2 = false) (h2 : m.its.length < 4) (h3 : x.obj = (m.its.length : Int)) (ea : Nat → Addr) :
    Calls Tryd.prog 34 #[va, .agg x.list.toArray] w (FolPost ea ⟨m.its ++ [x.it], m.ens⟩ 0 w) := by
  have hcf := Lib.hid (Rc.kept0 x hx 59)
  have hcp := fun W (h : Below w.heap.size w W) => copyS_any va m W (ha.below h (Nat.le_refl _)) l1 l2
  have okI := ha.okN
  have okE := ha.okV
  have hc0 := fun W h => named_any va m W (ha.below h (Nat.le_refl _)) l1 x.name
  rw [h1] at hc0
  have hok := namedS_ok ha.okN x.name
  obtain ⟨XA, hXA⟩ : ∃ XA, XA = (namedS m.its x.name).1.list.toArray := ⟨_, rfl⟩
  have hRp : (x.list.drop 4).take 6 = x.p.list := Rc.sub_p x
  have hRr : (x.list.drop 10).take 32 = cB x.root := Rc.sub_root hx.root
  have hRf : (x.list.drop 42).take 32 = cB x.file := Rc.sub_file hx.root hx.file
  have hbd := fun W => build_it x hx W
  have hitk := Rc.it_ok hx
  obtain ⟨XI, hXI⟩ : ∃ XI, XI = x.it.list.toArray := ⟨_, rfl⟩
  have hXIs : XI.size = 76 := by rw [hXI]; exact It.size hitk
  rw [← hXI] at hbd
  have hsl := fun W => slice_one (P := Tryd.prog) (t := 53) Tryd.underlying53 infoItG (by decide) (by decide) XI hXIs W
  have hyN : ∀ W : World, RI W (fun _ => False) x.it XI.toList := fun W => ⟨by rw [hXI], hitk⟩
  have ipp : (Tryd.prog.info? 42).map (·.size) = some x.p.list.length := by rw [P6.list_length]; kernel_rfl
  have ird : (Tryd.prog.info? 57).map (·.size) = some (cB x.root).length := by rw [cB_length, hx.root]; kernel_rfl
  have ifd : (Tryd.prog.info? 57).map (·.size) = some (cB x.file).length := by rw [cB_length, hx.file]; kernel_rfl
  have iA : (Tryd.prog.info? 93).map (·.size) = some XA.size := by rw [hXA, It.size hok]; kernel_rfl
  have zA : (Tryd.zeroCells93).size = XA.size := by rw [hXA, It.size hok]; kernel_rfl
  have h1A : XA.all (·.oneCell') = true := by rw [hXA]; exact It.all_one _
  rw [← hXA] at hc0
  obtain ⟨⟨an, cn, av, cv, rfl, hN, hN1, hN2, hV, hV1, hV2⟩, okN, okV⟩ := ha
  obtain ⟨N, hNl⟩ : ∃ N, N = m.its.length := ⟨_, rfl⟩
  obtain ⟨V, hVl⟩ : ∃ V, V = m.ens.length := ⟨_, rfl⟩
  rw [← hNl, ← hVl] at hc0 hcp
  rw [← hNl, ← hVl]
  generalize hRR : x.list.toArray = R at *
  obtain ⟨aS, aR, aO, hs3, hB⟩ := three_boxes w #[.slice an N cn, .slice av V cv] R #[.slice none 0 0, .slice none 0 0] 56 59 56 _ rfl
  obtain ⟨w3, hw3⟩ : ∃ w3, w3 = ((w.alloc (.cells #[.slice an N cn, .slice av V cv] 56)).alloc (.cells R 59)).alloc (.cells #[.slice none 0 0, .slice none 0 0] 56) := ⟨_, rfl⟩
  have s0 := cell_of_block aS 0
  have s1 := cell_of_block aS 1
  obtain ⟨q0, q1, q2, q3, q4, q5, q6, q7⟩ := hcf.out _ _ aR
  rw [← hw3] at aS aR aO hB
  have hN4 : (N : Int) < 4 := by rw [hNl]; omega
  have hof : (x.obj != (N : Int)) = false := by rw [hNl, h3]; simp
  have hmR : ∀ (W : World) b, W.heap[b]? = some (.cells R 59 (0, 0)) → W.rangeAt b 4 x.p.list ∧ W.rangeAt b 10 (cB x.root) ∧ W.rangeAt b 42 (cB x.file) := fun W b h => ⟨rangeAt_sub h (by rw [← hRR, List.toList_toArray]; exact hRp), rangeAt_sub h (by rw [← hRR, List.toList_toArray]; exact hRr), rangeAt_sub h (by rw [← hRR, List.toList_toArray]; exact hRf)⟩
  obtain ⟨IT, hIT⟩ : ∃ IT, IT = x.it := ⟨_, rfl⟩
  rw [← hIT] at hyN ⊢
  generalize x.p.list = PL at *
  generalize cB x.root = RL at *
  generalize cB x.file = FL at *
  obtain ⟨PA, hPA⟩ : ∃ PA, PA = PL.toArray := ⟨_, rfl⟩
  obtain ⟨RA, hRA⟩ : ∃ RA, RA = RL.toArray := ⟨_, rfl⟩
  obtain ⟨FA, hFA⟩ : ∃ FA, FA = FL.toArray := ⟨_, rfl⟩
  rw [← hPA, ← hRA, ← hFA] at hbd
  generalize x.tick = vt at *
  replace hmR := Lib.hid hmR
  replace hbd := Lib.hid hbd
  replace hsl := Lib.hid hsl
  replace hyN := Lib.hid hyN
  replace hPA := Lib.hid hPA
  replace hRA := Lib.hid hRA
  replace hFA := Lib.hid hFA
  replace hXI := Lib.hid hXI
  generalize x.obj = vo at *
  generalize x.id = vi at *
  generalize x.way = vw at *
  generalize x.index = vx at *
  generalize x.name = vn at *
  replace hc0 := Lib.hid hc0
  replace hcp := Lib.hid hcp
  replace aS := Lib.hid aS
  replace aR := Lib.hid aR
  replace aO := Lib.hid aO
  replace hB := Lib.hid hB
  replace hw3 := Lib.hid hw3
  replace okI := Lib.hid okI
  replace okE := Lib.hid okE
  replace hNl := Lib.hid hNl
  replace hVl := Lib.hid hVl
  clear hRR hN hV hN1 hN2 hV1 hV2 okN okV hs3 hXA h1 h2 h3 hRp hRr hRf hitk hIT
  go_enter Tryd.func34, Tryd.ntmps34
  go_wp2_with fail
  rw [← hw3.out]
  with_reducible refine (hc0.out _ hB.out).mono ?_
  rintro e w4 ⟨rfl, hb⟩
  replace aS := Lib.hid ((hb.block _ (block_lt aS.out)).trans aS.out)
  replace aR := Lib.hid ((hb.block _ (block_lt aR.out)).trans aR.out)
  replace aO := Lib.hid ((hb.block _ (block_lt aO.out)).trans aO.out)
  replace hB := Lib.hid (hB.out.trans (hb.mono hB.out.size))
  clear hb s0 s1 q0 q1 q2 q3 q4 q5 q6 q7
  have s0 := cell_of_block aS.out 0
  have s1 := cell_of_block aS.out 1
  obtain ⟨q0, q1, q2, q3, q4, q5, q6, q7⟩ := hcf.out _ _ aR.out
  have hZ4 := Lib.hid (heap_alloc_new w4 (.cells Tryd.zeroCells93 93))
  go_wp2_with ((with_reducible show wpList _ _ _ (Oper.mk _ (Op.store 93 (.tmp 6) _) _ _ _ _ :: _) _ _); (refine wpList_store_row rfl 93 (.tmp 6) (.tmp 14) rfl w4.heap.size _ XA rfl rfl hZ4 iA zA h1A ?_); intro w5 hU5; have hb5 : Below w4.heap.size w4 w5 := (Below.alloc (Below.refl w4.heap.size w4) (Nat.le_refl _) _).trans (hU5.out.below (Nat.le_refl _)); have aX := Lib.hid hU5.out.here; replace aS := Lib.hid ((hb5.block _ (block_lt aS.out)).trans aS.out); replace aR := Lib.hid ((hb5.block _ (block_lt aR.out)).trans aR.out); replace aO := Lib.hid ((hb5.block _ (block_lt aO.out)).trans aO.out); replace hB := Lib.hid (hB.out.trans (hb5.mono hB.out.size)); clear s0 s1 q0 q1 q2 q3 q4 q5 q6 q7 hb5; have s0 := cell_of_block aS.out 0; have s1 := cell_of_block aS.out 1; obtain ⟨q0, q1, q2, q3, q4, q5, q6, q7⟩ := hcf.out _ _ aR.out)
  have hlt5 := Lib.hid (block_lt aO.out)
  with_reducible refine (hcp.out _ hB.out).mono ?_
  rintro e w6 ⟨v, v', rfl, hrN, hrV, hav, hb⟩
  obtain ⟨x4, c4, hv4, hnil4, _, _, hlt4⟩ := hrN.form
  obtain ⟨x5, c5, hv5, _⟩ := hrV.form
  subst hv4 hv5
  have hltV := Lib.hid (fun k (hk : (Value.slice x5 m.ens.length c5).ownBlock = some k) => hrV.ownLt k hk)
  have hltN := Lib.hid (fun k (hk : (Value.slice x4 m.its.length c4).ownBlock = some k) => hrN.ownLt k hk)
  obtain ⟨C, hC⟩ : ∃ C : Array Value, C = #[.slice x4 m.its.length c4, .slice x5 m.ens.length c5] := ⟨_, rfl⟩
  rw [← hC]
  have hs56 := hb.size
  have hlo6 : w.heap.size ≤ w5.heap.size := hB.out.size
  replace aS := Lib.hid ((hb.block _ (block_lt aS.out)).trans aS.out)
  replace aR := Lib.hid ((hb.block _ (block_lt aR.out)).trans aR.out)
  replace aO := Lib.hid ((hb.block _ (block_lt aO.out)).trans aO.out)
  replace hB := Lib.hid (hB.out.trans (hb.mono hB.out.size))
  clear hb s0 s1 q0 q1 q2 q3 q4 q5 q6 q7 hnil4 hlt4
  have s0 := cell_of_block aS.out 0
  have s1 := cell_of_block aS.out 1
  obtain ⟨q0, q1, q2, q3, q4, q5, q6, q7⟩ := hcf.out _ _ aR.out
  have hlt6 := Lib.hid (block_lt aO.out)
  have iC : (Tryd.prog.info? 56).map (·.size) = some C.size := by rw [hC]; kernel_rfl
  have zC : (#[.slice none 0 0, .slice none 0 0] : Array Value).size = C.size := by rw [hC]; rfl
  have h1C : C.all (·.oneCell') = true := by rw [hC]; simp [Value.oneCell']
  have hC2 : C.size = 2 := by rw [hC]; rfl
  have hkC : ∀ (W : World) b, W.heap[b]? = some (.cells C 56 (0, 0)) → W.cell? ⟨b, 0, none⟩ = some (.slice x4 m.its.length c4) ∧ W.cell? ⟨b, 1, none⟩ = some (.slice x5 m.ens.length c5) := fun W b h => by
    rw [cell_of_block h, cell_of_block h, hC]
    exact ⟨by simp, by simp⟩
  have hZ6 := Lib.hid (heap_alloc_new w6 (.cells #[.slice none 0 0, .slice none 0 0] 56))
  replace hC := Lib.hid hC
  replace hkC := Lib.hid hkC
  replace hrN := Lib.hid hrN
  replace hrV := Lib.hid hrV
  replace hav := Lib.hid hav
  replace hs56 := Lib.hid hs56
  have hF0 := Lib.hid (show ∀ k : Nat, (fun _ : Nat => False) k → (fun _ : Nat => False) k from fun _ h => h)
  have hln : m.its.length ≤ 1000000 := by omega
  go_wp2_with (first
    | ((with_reducible show wpList _ _ _ (Oper.mk _ (Op.store 56 (.tmp 8) _) _ _ _ _ :: _) _ _); (refine wpList_store_row rfl 56 (.tmp 8) (.tmp 37) rfl w6.heap.size _ C rfl rfl hZ6 iC zC h1C ?_); intro w7 hU7; have hb7 : Below w6.heap.size w6 w7 := (Below.alloc (Below.refl w6.heap.size w6) (Nat.le_refl _) _).trans (hU7.out.below (Nat.le_refl _)); have hs7 : w7.heap.size = w6.heap.size + 1 := hU7.out.size.trans (by simp); have aC := Lib.hid hU7.out.here; replace hrN := Lib.hid (hrN.out.below liesRI hb7); replace hrV := Lib.hid (hrV.out.below liesRE hb7); replace aS := Lib.hid ((hb7.block _ (block_lt aS.out)).trans aS.out); replace aR := Lib.hid ((hb7.block _ (block_lt aR.out)).trans aR.out); replace aO := Lib.hid ((hb7.block _ (block_lt aO.out)).trans aO.out); replace hB := Lib.hid (hB.out.trans (hb7.mono hB.out.size)); clear s0 s1 q0 q1 q2 q3 q4 q5 q6 q7 hb7; have s0 := cell_of_block aS.out 0; have s1 := cell_of_block aS.out 1; obtain ⟨q0, q1, q2, q3, q4, q5, q6, q7⟩ := hcf.out _ _ aR.out; obtain ⟨k0, k1⟩ := hkC.out _ _ aC.out; replace hs7 := Lib.hid hs7; obtain ⟨m4, m10, m42⟩ := hmR.out _ _ aR.out; replace m4 := Lib.hid m4; replace m10 := Lib.hid m10; replace m42 := Lib.hid m42)
    | ((with_reducible show wpList _ _ _ (Oper.mk _ (Op.load 42 (.tmp 44)) _ _ _ _ :: _) _ _); (refine wpList_load_mid rfl 42 (.tmp 44) rfl (w.heap.size + 1) 4 rfl PL _ m4.out Tryd.underlying42 rfl ipp ?_); rw [← hPA.out])
    | ((with_reducible show wpList _ _ _ (Oper.mk _ (Op.load 57 (.tmp 46)) _ _ _ _ :: _) _ _); (refine wpList_load_mid rfl 57 (.tmp 46) rfl (w.heap.size + 1) 10 rfl RL _ m10.out Tryd.underlying57 rfl ird ?_); rw [← hRA.out])
    | ((with_reducible show wpList _ _ _ (Oper.mk _ (Op.load 57 (.tmp 48)) _ _ _ _ :: _) _ _); (refine wpList_load_mid rfl 57 (.tmp 48) rfl (w.heap.size + 1) 42 rfl FL _ m42.out Tryd.underlying57 rfl ifd ?_); rw [← hFA.out])
    | ((with_reducible show wpList _ _ _ (Oper.mk _ (Op.build 93 _) _ _ _ _ :: _) _ _); refine wpList_buildV rfl 93 [(0, .tmp 41), (1, .tmp 43), (2, .tmp 45), (3, .tmp 47), (4, .tmp 49), (5, .tmp 51)] rfl [(0, .int .i64 vo), (1, .string vn), (2, .agg PA), (3, .agg RA), (4, .agg FA), (5, .int .i64 vt)] rfl _ (hbd.out _) ?_)
    | ((with_reducible show wpList _ _ _ (Oper.mk _ (Op.buildSlice _ _ _) _ _ _ _ :: _) _ _); refine wpList_buildS rfl 53 1 [(0, .tmp 52)] rfl [(0, .agg XI)] rfl _ _ (hsl.out _) ?_)
    | (at_builtin; refine wpList_appRows (P := Tryd.prog) (R := RI) (e := 93) (size := 76) (base := w5.heap.size) (F := fun _ => False) (F' := fun _ => False) rfl liesRI (.tmp 39) (.tmp 53) 53 rfl Tryd.underlying53 168 infoItG (by decide) rfl hrN IT XI (Lib.hid (hyN.out w7)) hF0 (Lib.hid (fun _ _ h => h)) (Lib.hid (fun _ h => h.elim)) rfl hln (by decide) (by have := hs7.out; have := hs56.out; omega) ?_; intro v9 w9 hr9 hO9 hM9; obtain ⟨a9, n9, c9, hv9⟩ : ∃ a n c, v9 = .slice a n c := (by obtain ⟨a, c, e, _⟩ := hr9.out.form; exact ⟨a, _, c, e⟩); subst hv9; have h9 := Lib.hid (hO9.out.heap aC.out (fun e => by have := (hltN.out _ e).2; omega)))
    | ((with_reducible show wpList _ _ _ (Oper.mk _ (Op.store 53 (.tmp 55) _) _ _ _ _ :: _) _ _); (refine wpList_store_oneU rfl 53 56 (.tmp 55) (.tmp 54) rfl w6.heap.size 0 C (.slice a9 n9 c9) rfl rfl h9 (by rw [hC2]; decide) (by kernel_rfl) rfl ?_); intro w10 hU10; have hat10 := hU10.out.here; rw [hC.out] at hat10; obtain ⟨CM, hCM⟩ : ∃ CM : Array Value, CM = #[.slice a9 n9 c9, .slice x5 m.ens.length c5] := ⟨_, rfl⟩; replace hat10 : w10.heap[w6.heap.size]? = some (.cells CM 56 (0, 0)) := (by rw [hCM]; simpa using hat10); have iM : (Tryd.prog.info? 56).map (·.size) = some CM.size := (by rw [hCM]; kernel_rfl); have zM : (#[.slice none 0 0, .slice none 0 0] : Array Value).size = CM.size := (by rw [hCM]; rfl); have h1M : CM.all (·.oneCell') = true := (by rw [hCM]; simp [Value.oneCell']); replace hat10 := Lib.hid hat10; replace hCM := Lib.hid hCM; have aO10 : Hid (w10.heap[w.heap.size + 2]? = some (.cells #[.slice none 0 0, .slice none 0 0] 56 (0, 0))) := Lib.hid ((hU10.out.block _ (by have := hlt6.out; omega)).trans (hO9.out.heap aO.out (fun e => by have := (hltN.out _ e).1; have := hlt5.out; omega))))
    | ((with_reducible show wpList _ _ _ (Oper.mk _ (Op.load 56 (.tmp 8)) _ _ _ _ :: _) _ _); refine wpList_load_row rfl 56 (.tmp 8) rfl w6.heap.size CM _ rfl hat10 Tryd.underlying56 rfl iM ?_)
    | ((with_reducible show wpList _ _ _ (Oper.mk _ (Op.store 56 (.tmp 4) _) _ _ _ _ :: _) _ _); (refine wpList_store_row rfl 56 (.tmp 4) (.tmp 56) rfl (w.heap.size + 2) _ CM rfl rfl aO10 iM zM h1M ?_); intro w11 hU11))
  have h7o := hs7.out
  have h5o := hlt5.out
  have h6o := hlt6.out
  have h56 := hs56.out
  have hO10 : Only (fun k => k = w6.heap.size) w9 w10 := Only.ofUpd hU10.out rfl
  have hO11 : Only (fun k => k = w.heap.size + 2) w10 w11 := Only.ofUpd hU11.out rfl
  have hrVX := ((hrV.out.only liesRE hO9.out (fun k hk => hk.elim) (fun k hk e => hav.out k e hk)).only liesRE hO10 (fun k hk => hk.elim) (fun k hk e => by have := (hltV.out k hk).2; omega)).only liesRE hO11 (fun k hk => hk.elim) (fun k hk e => by have := (hltV.out k hk).1; omega)
  have hrNX := (hr9.out.only liesRI hO10 (fun k hk => hk.elim) (fun k hk e => by
    rcases hM9.out k hk with h | h
    · have := (hltN.out k h).2; omega
    · omega)).only liesRI hO11 (fun k hk => hk.elim) (fun k hk e => by
    rcases hM9.out k hk with h | h
    · have := (hltN.out k h).1; omega
    · omega)
  have hBX := ((hB.out.trans (hO9.out.below (by have := hB.out.size; omega) (fun k hk => by have := (hltN.out k hk).1; omega))).trans (hU10.out.below (by omega))).trans (hU11.out.below (by omega))
  refine ret_cell_tmpB rfl rfl Tryd.underlying56 rfl iM hU11.out.here ?_
  rw [hCM.out]
  exact ⟨_, _, rfl, argS_of hrNX hrVX, .inl ⟨rfl, rfl⟩, hBX, freshS_of hrNX hrVX hlo6 hlo6⟩

set_option maxRecDepth 100000 in
set_option maxHeartbeats 2000000 in
theorem kept_good21 (va : Value) (m : St) (x : Rc) (hx : x.Ok) (w : World) (ha : ArgS w va m) (l1 : m.its.length ≤ 1000) (l2 : m.ens.length ≤ 1000) (i : Nat) (hi : i < m.its.length) (hx1 : x.obj = (i : Int)) (h1 : m.its[i].k = false) (ea : Nat → Addr) :
    Calls Tryd.prog 36 #[va, .agg x.list.toArray] w (FolPost ea ⟨m.its.set i { m.its[i] with k := true }, m.ens⟩ 0 w) := by
  have hcf := Lib.hid (Rc.kept0 x hx 59)
  have hcp := fun W (h : Below w.heap.size w W) => copyS_any va m W (ha.below h (Nat.le_refl _)) l1 l2
  have okI := ha.okN
  have okE := ha.okV
  have hc0 := fun W h => item_in va m W (ha.below h (Nat.le_refl _)) i hi l1
  rw [← hx1] at hc0
  have hok := ha.okN _ (List.getElem_mem hi)
  have hget : m.its[i]? = some m.its[i] := List.getElem?_eq_getElem hi
  have hset := fun (W : World) (base g n c : Nat) (h : RowsOf RI 93 76 base W (fun _ => False) (.slice (some ⟨g, 0, none⟩) n c) m.its) => rowsX_set (R := RI) (enc := It.list) (Ok := It.Ok) (fun _ _ _ _ => Iff.rfl) (fun _ h => It.list_length h) It.list_one (by decide) h okI i 73 hi (by decide) (.bool true) rfl { m.its[i] with k := true } (It.set73 hok true) ⟨hok.n, hok.s, hok.p, hok.root, hok.file, hok.t, hok.u, hok.r⟩
  obtain ⟨ITS, hITS⟩ : ∃ l, l = m.its.set i { m.its[i] with k := true } := ⟨_, rfl⟩
  rw [← hITS] at hset ⊢
  have hIl : ITS.length = m.its.length := by rw [hITS, List.length_set]
  generalize hy : m.its[i] = y at *
  obtain ⟨XA, hXA⟩ : ∃ XA, XA = y.list.toArray := ⟨_, rfl⟩
  have hk73 : ∀ (W : World) b, W.heap[b]? = some (.cells XA 93 (0, 0)) → W.cell? ⟨b, 73, none⟩ = some (.bool y.k) := fun W b h => by rw [cell_of_block h, hXA, List.getElem?_toArray]; exact It.c73 hok
  rw [h1] at hk73
  have iA : (Tryd.prog.info? 93).map (·.size) = some XA.size := by rw [hXA, It.size hok]; kernel_rfl
  have zA : (Tryd.zeroCells93).size = XA.size := by rw [hXA, It.size hok]; kernel_rfl
  have h1A : XA.all (·.oneCell') = true := by rw [hXA]; exact It.all_one _
  rw [← hXA] at hc0
  obtain ⟨⟨an, cn, av, cv, rfl, hN, hN1, hN2, hV, hV1, hV2⟩, okN, okV⟩ := ha
  obtain ⟨N, hNl⟩ : ∃ N, N = m.its.length := ⟨_, rfl⟩
  obtain ⟨V, hVl⟩ : ∃ V, V = m.ens.length := ⟨_, rfl⟩
  rw [← hNl, ← hVl] at hc0 hcp
  rw [← hNl, ← hVl]
  generalize hRR : x.list.toArray = R at *
  obtain ⟨aS, aR, aO, hs3, hB⟩ := three_boxes w #[.slice an N cn, .slice av V cv] R #[.slice none 0 0, .slice none 0 0] 56 59 56 _ rfl
  obtain ⟨w3, hw3⟩ : ∃ w3, w3 = ((w.alloc (.cells #[.slice an N cn, .slice av V cv] 56)).alloc (.cells R 59)).alloc (.cells #[.slice none 0 0, .slice none 0 0] 56) := ⟨_, rfl⟩
  have s0 := cell_of_block aS 0
  have s1 := cell_of_block aS 1
  obtain ⟨q0, q1, q2, q3, q4, q5, q6, q7⟩ := hcf.out _ _ aR
  rw [← hw3] at aS aR aO hB
  generalize x.obj = vo at *
  generalize x.id = vi at *
  generalize x.way = vw at *
  generalize x.index = vx at *
  generalize x.name = vn at *
  subst hx1
  replace hc0 := Lib.hid hc0
  replace hcp := Lib.hid hcp
  replace aS := Lib.hid aS
  replace aR := Lib.hid aR
  replace aO := Lib.hid aO
  replace hB := Lib.hid hB
  replace hw3 := Lib.hid hw3
  replace okI := Lib.hid okI
  replace okE := Lib.hid okE
  replace hNl := Lib.hid hNl
  replace hVl := Lib.hid hVl
  replace hk73 := Lib.hid hk73
  replace hset := Lib.hid hset
  replace hITS := Lib.hid hITS
  replace hIl := Lib.hid hIl
  replace hget := Lib.hid hget
  replace hy := Lib.hid hy
  clear hRR hN hV hN1 hN2 hV1 hV2 okN okV hs3 hXA
  go_enter Tryd.func36, Tryd.ntmps36
  go_wp2_with fail
  rw [← hw3.out]
  with_reducible refine (hc0.out _ hB.out).mono ?_
  rintro e w4 ⟨rfl, hb⟩
  replace aS := Lib.hid ((hb.block _ (block_lt aS.out)).trans aS.out)
  replace aR := Lib.hid ((hb.block _ (block_lt aR.out)).trans aR.out)
  replace aO := Lib.hid ((hb.block _ (block_lt aO.out)).trans aO.out)
  replace hB := Lib.hid (hB.out.trans (hb.mono hB.out.size))
  clear hb s0 s1 q0 q1 q2 q3 q4 q5 q6 q7
  have s0 := cell_of_block aS.out 0
  have s1 := cell_of_block aS.out 1
  obtain ⟨q0, q1, q2, q3, q4, q5, q6, q7⟩ := hcf.out _ _ aR.out
  have hZ4 := Lib.hid (heap_alloc_new w4 (.cells Tryd.zeroCells93 93))
  go_wp2_with ((with_reducible show wpList _ _ _ (Oper.mk _ (Op.store 93 (.tmp 6) _) _ _ _ _ :: _) _ _); (refine wpList_store_row rfl 93 (.tmp 6) (.tmp 14) rfl w4.heap.size _ XA rfl rfl hZ4 iA zA h1A ?_); intro w5 hU5; have hb5 : Below w4.heap.size w4 w5 := (Below.alloc (Below.refl w4.heap.size w4) (Nat.le_refl _) _).trans (hU5.out.below (Nat.le_refl _)); have aX := Lib.hid hU5.out.here; replace aS := Lib.hid ((hb5.block _ (block_lt aS.out)).trans aS.out); replace aR := Lib.hid ((hb5.block _ (block_lt aR.out)).trans aR.out); replace aO := Lib.hid ((hb5.block _ (block_lt aO.out)).trans aO.out); replace hB := Lib.hid (hB.out.trans (hb5.mono hB.out.size)); clear s0 s1 q0 q1 q2 q3 q4 q5 q6 q7 hb5; have s0 := cell_of_block aS.out 0; have s1 := cell_of_block aS.out 1; obtain ⟨q0, q1, q2, q3, q4, q5, q6, q7⟩ := hcf.out _ _ aR.out; have y73 := hk73.out _ _ aX.out)
  have hlt5 := Lib.hid (block_lt aO.out)
  with_reducible refine (hcp.out _ hB.out).mono ?_
  rintro e w6 ⟨v, v', rfl, hrN, hrV, hav, hb⟩
  obtain ⟨x4, c4, hv4, hnil4, _, _, hlt4⟩ := hrN.form
  obtain ⟨x5, c5, hv5, _⟩ := hrV.form
  subst hv4 hv5
  obtain ⟨g4, hg4⟩ : ∃ g4, x4 = some ⟨g4, 0, none⟩ := by
    cases x4 with
    | none => have := (hnil4 rfl).2; omega
    | some ad =>
      obtain ⟨b4, o4, s4⟩ := ad
      obtain ⟨rfl, rfl, _⟩ := hlt4 b4 o4 s4 rfl
      exact ⟨b4, rfl⟩
  subst hg4
  have hltV := Lib.hid (fun k (hk : (Value.slice x5 m.ens.length c5).ownBlock = some k) => hrV.ownLt k hk)
  have hltN := Lib.hid (fun k (hk : (Value.slice (some ⟨g4, 0, none⟩) m.its.length c4).ownBlock = some k) => hrN.ownLt k hk)
  obtain ⟨C, hC⟩ : ∃ C : Array Value, C = #[.slice (some ⟨g4, 0, none⟩) m.its.length c4, .slice x5 m.ens.length c5] := ⟨_, rfl⟩
  rw [← hC]
  have hs56 := hb.size
  have hlo6 : w.heap.size ≤ w5.heap.size := hB.out.size
  replace aS := Lib.hid ((hb.block _ (block_lt aS.out)).trans aS.out)
  replace aR := Lib.hid ((hb.block _ (block_lt aR.out)).trans aR.out)
  replace aO := Lib.hid ((hb.block _ (block_lt aO.out)).trans aO.out)
  replace hB := Lib.hid (hB.out.trans (hb.mono hB.out.size))
  clear hb s0 s1 q0 q1 q2 q3 q4 q5 q6 q7 hnil4 hlt4
  have s0 := cell_of_block aS.out 0
  have s1 := cell_of_block aS.out 1
  obtain ⟨q0, q1, q2, q3, q4, q5, q6, q7⟩ := hcf.out _ _ aR.out
  have hlt6 := Lib.hid (block_lt aO.out)
  have iC : (Tryd.prog.info? 56).map (·.size) = some C.size := by rw [hC]; kernel_rfl
  have zC : (#[.slice none 0 0, .slice none 0 0] : Array Value).size = C.size := by rw [hC]; rfl
  have h1C : C.all (·.oneCell') = true := by rw [hC]; simp [Value.oneCell']
  have hC2 : C.size = 2 := by rw [hC]; rfl
  have hkC : ∀ (W : World) b, W.heap[b]? = some (.cells C 56 (0, 0)) → W.cell? ⟨b, 0, none⟩ = some (.slice (some ⟨g4, 0, none⟩) m.its.length c4) ∧ W.cell? ⟨b, 1, none⟩ = some (.slice x5 m.ens.length c5) := fun W b h => by
    rw [cell_of_block h, cell_of_block h, hC]
    exact ⟨by simp, by simp⟩
  have hZ6 := Lib.hid (heap_alloc_new w6 (.cells #[.slice none 0 0, .slice none 0 0] 56))
  replace hC := Lib.hid hC
  replace hkC := Lib.hid hkC
  replace hrN := Lib.hid hrN
  replace hrV := Lib.hid hrV
  replace hav := Lib.hid hav
  replace hs56 := Lib.hid hs56
  have hii : (i : Int) < (m.its.length : Int) := by omega
  have i1b : (Tryd.prog.info? 4).map (·.size) = some 1 := by kernel_rfl
  have hg4l := hltN.out g4 rfl
  go_wp2_with (first
    | ((with_reducible show wpList _ _ _ (Oper.mk _ (Op.store 56 (.tmp 8) _) _ _ _ _ :: _) _ _); (refine wpList_store_row rfl 56 (.tmp 8) (.tmp 27) rfl w6.heap.size _ C rfl rfl hZ6 iC zC h1C ?_); intro w7 hU7; have hb7 : Below w6.heap.size w6 w7 := (Below.alloc (Below.refl w6.heap.size w6) (Nat.le_refl _) _).trans (hU7.out.below (Nat.le_refl _)); have hs7 : w7.heap.size = w6.heap.size + 1 := hU7.out.size.trans (by simp); have aC := Lib.hid hU7.out.here; replace hrN := Lib.hid (hrN.out.below liesRI hb7); replace hrV := Lib.hid (hrV.out.below liesRE hb7); replace aS := Lib.hid ((hb7.block _ (block_lt aS.out)).trans aS.out); replace aR := Lib.hid ((hb7.block _ (block_lt aR.out)).trans aR.out); replace aO := Lib.hid ((hb7.block _ (block_lt aO.out)).trans aO.out); replace hB := Lib.hid (hB.out.trans (hb7.mono hB.out.size)); clear s0 s1 q0 q1 q2 q3 q4 q5 q6 q7 hb7; have s0 := cell_of_block aS.out 0; have s1 := cell_of_block aS.out 1; obtain ⟨q0, q1, q2, q3, q4, q5, q6, q7⟩ := hcf.out _ _ aR.out; obtain ⟨k0, k1⟩ := hkC.out _ _ aC.out; replace hs7 := Lib.hid hs7)
    | ((with_reducible show wpList _ _ _ (Oper.mk _ (Op.store 4 (.tmp 33) _) _ _ _ _ :: _) _ _); (have hcc := rowsX_cell (R := RI) (enc := It.list) (Ok := It.Ok) (fun _ _ _ _ => Iff.rfl) liesRI hrN.out i 73 hi _ (It.c73 (okI.out _ (List.getElem_mem hi)))); (refine wpList_store_at rfl 4 (.tmp 33) (.const (.bool true)) rfl g4 (i * 76 + 73) (.bool true) rfl rfl (Lib.hid ⟨_, hcc.1⟩) hcc.2 i1b rfl ?_); intro w8 hw8; have hO8 : Only (fun k => k = g4) w7 w8 := (by rw [hw8.out]; exact (Only.refl _ _).setCell _ _ (fun _ => rfl)); have hrN8 := hset.out _ _ _ _ _ hrN.out; rw [← hw8.out] at hrN8; have aC8 := Lib.hid (hO8.heap aC.out (by omega)); have aO8 := Lib.hid (hO8.heap aO.out (by have := hlt5.out; omega)); replace hO8 := Lib.hid hO8; replace hrN8 := Lib.hid hrN8; clear hcc)
    | ((with_reducible show wpList _ _ _ (Oper.mk _ (Op.load 56 (.tmp 8)) _ _ _ _ :: _) _ _); refine wpList_load_row rfl 56 (.tmp 8) rfl w6.heap.size C _ rfl aC8 Tryd.underlying56 rfl iC ?_)
    | ((with_reducible show wpList _ _ _ (Oper.mk _ (Op.store 56 (.tmp 4) _) _ _ _ _ :: _) _ _); (refine wpList_store_row rfl 56 (.tmp 4) (.tmp 34) rfl (w.heap.size + 2) _ C rfl rfl aO8 iC zC h1C ?_); intro w11 hU11))
  have h7o := hs7.out
  have h5o := hlt5.out
  have h6o := hlt6.out
  have h56 := hs56.out
  have hO11 : Only (fun k => k = w.heap.size + 2) w8 w11 := Only.ofUpd hU11.out rfl
  have hrVX := (hrV.out.only liesRE hO8.out (fun k hk => hk.elim) (fun k hk e => hav.out g4 rfl (e ▸ hk))).only liesRE hO11 (fun k hk => hk.elim) (fun k hk e => by have := (hltV.out k hk).1; omega)
  have hrNX := hrN8.out.only liesRI hO11 (fun k hk => hk.elim) (fun k hk e => by have := (hltN.out k hk).1; omega)
  have hBX := (hB.out.trans (hO8.out.below (by have := hB.out.size; omega) (fun k e => by omega))).trans (hU11.out.below (by omega))
  refine ret_cell_tmpB rfl rfl Tryd.underlying56 rfl iC hU11.out.here ?_
  rw [hC.out]
  exact ⟨_, _, rfl, argS_of hrNX hrVX, .inl ⟨rfl, rfl⟩, hBX, freshS_of hrNX hrVX hlo6 hlo6⟩

set_option maxRecDepth 100000 in
set_option maxHeartbeats 2000000 in
theorem asked_sent (va : Value) (m : St) (x : Rc) (hx : x.Ok) (w : World) (ha : ArgS w va m) (l1 : m.its.length ≤ 1000) (l2 : m.ens.length ≤ 1000) (i : Nat) (hi : i < m.its.length) (hx1 : x.obj = (i : Int)) (h1 : m.its[i].k = true) (hw : x.way = 2) (h2 : (nextI m.its[i] x.way).2 = true) (h3 : x.id = (m.ens.length : Int)) (h4 : x.index = (nextI m.its[i] x.way).1) (hub : m.its[i].u ≤ 1000000) (ea : Nat → Addr) :
    Calls Tryd.prog 35 #[va, .agg x.list.toArray] w (FolPost ea ⟨m.its.set i { m.its[i] with u := m.its[i].u + 1 }, m.ens ++ [⟨x.id, x.obj, x.way, x.index, x.tick, 0, 0⟩]⟩ 0 w) := by
  have hcf := Lib.hid (Rc.kept0 x hx 59)
  have hcp := fun W (h : Below w.heap.size w W) => copyS_any va m W (ha.below h (Nat.le_refl _)) l1 l2
  have okI := ha.okN
  have okE := ha.okV
  have hc0 := fun W h => item_in va m W (ha.below h (Nat.le_refl _)) i hi l1
  rw [← hx1] at hc0
  have hok := ha.okN _ (List.getElem_mem hi)
  have hget : m.its[i]? = some m.its[i] := List.getElem?_eq_getElem hi
  have hub1 : inI (m.its[i].u + 1) := by have := hok.u; exact ⟨by omega, by omega⟩
  have hwr : IntKind.i64.wrap (m.its[i].u + 1) = m.its[i].u + 1 := IntWalk.i64_in _ (by have := hok.u; omega)
  have hset := fun (W : World) (base g n c : Nat) (h : RowsOf RI 93 76 base W (fun _ => False) (.slice (some ⟨g, 0, none⟩) n c) m.its) => rowsX_set (R := RI) (enc := It.list) (Ok := It.Ok) (fun _ _ _ _ => Iff.rfl) (fun _ h => It.list_length h) It.list_one (by decide) h okI i 74 hi (by decide) (.int .i64 (m.its[i].u + 1)) rfl { m.its[i] with u := m.its[i].u + 1 } (It.set74 hok _) ⟨hok.n, hok.s, hok.p, hok.root, hok.file, hok.t, hub1, hok.r⟩
  obtain ⟨NE, hNE⟩ : ∃ NE : En, NE = ⟨x.id, x.obj, x.way, x.index, x.tick, 0, 0⟩ := ⟨_, rfl⟩
  have hyE : ∀ W : World, RE W (fun _ => False) NE NE.list.toArray.toList := fun W => ⟨by simp, by rw [hNE]; exact ⟨hx.id, hx.obj, hx.way, hx.index, hx.tick, by show inI 0; decide, by show inI 0; decide⟩⟩
  have hbd := fun W => build_en x.id x.obj x.way x.index x.tick W
  rw [← hNE] at hbd ⊢
  obtain ⟨XE, hXE⟩ : ∃ XE, XE = NE.list.toArray := ⟨_, rfl⟩
  have hXEs : XE.size = 7 := by rw [hXE]; rfl
  rw [← hXE] at hbd hyE
  have hsl := fun W => slice_one (P := Tryd.prog) (t := 54) Tryd.underlying54 infoEnG (by decide) (by decide) XE hXEs W
  have hnx := Lib.hid (fun W => next_any m.its[i] hok x.way W)
  obtain ⟨ITS, hITS⟩ : ∃ l, l = m.its.set i { m.its[i] with u := m.its[i].u + 1 } := ⟨_, rfl⟩
  rw [← hITS] at hset ⊢
  have hIl : ITS.length = m.its.length := by rw [hITS, List.length_set]
  generalize hy : m.its[i] = y at *
  obtain ⟨XA, hXA⟩ : ∃ XA, XA = y.list.toArray := ⟨_, rfl⟩
  have hk73 : ∀ (W : World) b, W.heap[b]? = some (.cells XA 93 (0, 0)) → W.cell? ⟨b, 73, none⟩ = some (.bool y.k) := fun W b h => by rw [cell_of_block h, hXA, List.getElem?_toArray]; exact It.c73 hok
  rw [h1] at hk73
  have iA : (Tryd.prog.info? 93).map (·.size) = some XA.size := by rw [hXA, It.size hok]; kernel_rfl
  have zA : (Tryd.zeroCells93).size = XA.size := by rw [hXA, It.size hok]; kernel_rfl
  have h1A : XA.all (·.oneCell') = true := by rw [hXA]; exact It.all_one _
  rw [← hXA] at hc0 hnx
  obtain ⟨⟨an, cn, av, cv, rfl, hN, hN1, hN2, hV, hV1, hV2⟩, okN, okV⟩ := ha
  obtain ⟨N, hNl⟩ : ∃ N, N = m.its.length := ⟨_, rfl⟩
  obtain ⟨V, hVl⟩ : ∃ V, V = m.ens.length := ⟨_, rfl⟩
  rw [← hNl, ← hVl] at hc0 hcp
  rw [← hNl, ← hVl]
  generalize hRR : x.list.toArray = R at *
  obtain ⟨aS, aR, aO, hs3, hB⟩ := three_boxes w #[.slice an N cn, .slice av V cv] R #[.slice none 0 0, .slice none 0 0] 56 59 56 _ rfl
  obtain ⟨w3, hw3⟩ : ∃ w3, w3 = ((w.alloc (.cells #[.slice an N cn, .slice av V cv] 56)).alloc (.cells R 59)).alloc (.cells #[.slice none 0 0, .slice none 0 0] 56) := ⟨_, rfl⟩
  have s0 := cell_of_block aS 0
  have s1 := cell_of_block aS 1
  obtain ⟨q0, q1, q2, q3, q4, q5, q6, q7⟩ := hcf.out _ _ aR
  rw [← hw3] at aS aR aO hB
  obtain ⟨ix, lf, hnx2⟩ : ∃ ix lf, nextI y x.way = (ix, lf) := ⟨_, _, rfl⟩
  have hlf : lf = true := by rw [hnx2] at h2; exact h2
  subst hlf
  rw [hnx2] at hnx h4
  replace h4 : x.index = ix := h4
  replace hnx2 := Lib.hid hnx2
  have hof : (x.id != (V : Int)) = false := by rw [hVl, h3]; simp
  have hoi : (x.index != ix) = false := by rw [h4]; simp
  generalize x.tick = vt at *
  have hw2 : (x.way == 2) = true := by simpa using hw
  generalize x.obj = vo at *
  generalize x.id = vi at *
  generalize x.way = vw at *
  generalize x.index = vx at *
  generalize x.name = vn at *
  subst hx1
  subst h4
  replace hc0 := Lib.hid hc0
  replace hcp := Lib.hid hcp
  replace aS := Lib.hid aS
  replace aR := Lib.hid aR
  replace aO := Lib.hid aO
  replace hB := Lib.hid hB
  replace hw3 := Lib.hid hw3
  replace okI := Lib.hid okI
  replace okE := Lib.hid okE
  replace hNl := Lib.hid hNl
  replace hVl := Lib.hid hVl
  replace hk73 := Lib.hid hk73
  replace hset := Lib.hid hset
  replace hITS := Lib.hid hITS
  replace hIl := Lib.hid hIl
  replace hget := Lib.hid hget
  replace hy := Lib.hid hy
  replace hbd := Lib.hid hbd
  replace hsl := Lib.hid hsl
  replace hyE := Lib.hid hyE
  replace hNE := Lib.hid hNE
  replace hXE := Lib.hid hXE
  clear hRR hN hV hN1 hN2 hV1 hV2 okN okV hs3 hXA h1 h3 hw h2
  go_enter Tryd.func35, Tryd.ntmps35
  go_wp2_with fail
  rw [← hw3.out]
  with_reducible refine (hc0.out _ hB.out).mono ?_
  rintro e w4 ⟨rfl, hb⟩
  replace aS := Lib.hid ((hb.block _ (block_lt aS.out)).trans aS.out)
  replace aR := Lib.hid ((hb.block _ (block_lt aR.out)).trans aR.out)
  replace aO := Lib.hid ((hb.block _ (block_lt aO.out)).trans aO.out)
  replace hB := Lib.hid (hB.out.trans (hb.mono hB.out.size))
  clear hb s0 s1 q0 q1 q2 q3 q4 q5 q6 q7
  have s0 := cell_of_block aS.out 0
  have s1 := cell_of_block aS.out 1
  obtain ⟨q0, q1, q2, q3, q4, q5, q6, q7⟩ := hcf.out _ _ aR.out
  have hZ4 := Lib.hid (heap_alloc_new w4 (.cells Tryd.zeroCells93 93))
  go_wp2_with (first
    | ((with_reducible show wpList _ _ _ (Oper.mk _ (Op.store 93 (.tmp 6) _) _ _ _ _ :: _) _ _); (refine wpList_store_row rfl 93 (.tmp 6) (.tmp 16) rfl w4.heap.size _ XA rfl rfl hZ4 iA zA h1A ?_); intro w5 hU5; have hb5 : Below w4.heap.size w4 w5 := (Below.alloc (Below.refl w4.heap.size w4) (Nat.le_refl _) _).trans (hU5.out.below (Nat.le_refl _)); have aX := Lib.hid hU5.out.here; replace aS := Lib.hid ((hb5.block _ (block_lt aS.out)).trans aS.out); replace aR := Lib.hid ((hb5.block _ (block_lt aR.out)).trans aR.out); replace aO := Lib.hid ((hb5.block _ (block_lt aO.out)).trans aO.out); replace hB := Lib.hid (hB.out.trans (hb5.mono hB.out.size)); clear s0 s1 q0 q1 q2 q3 q4 q5 q6 q7 hb5; have s0 := cell_of_block aS.out 0; have s1 := cell_of_block aS.out 1; obtain ⟨q0, q1, q2, q3, q4, q5, q6, q7⟩ := hcf.out _ _ aR.out; have y73 := hk73.out _ _ aX.out)
    | ((with_reducible show wpList _ _ _ (Oper.mk _ (Op.load 93 (.tmp 6)) _ _ _ _ :: _) _ _); refine wpList_load_row rfl 93 (.tmp 6) rfl w4.heap.size XA _ rfl aX Tryd.underlying93 rfl iA ?_))
  with_reducible refine (hnx.out _).mono ?_
  rintro e w5b ⟨rfl, hb⟩
  replace aX := Lib.hid ((hb.block _ (block_lt aX.out)).trans aX.out)
  replace aS := Lib.hid ((hb.block _ (block_lt aS.out)).trans aS.out)
  replace aR := Lib.hid ((hb.block _ (block_lt aR.out)).trans aR.out)
  replace aO := Lib.hid ((hb.block _ (block_lt aO.out)).trans aO.out)
  replace hB := Lib.hid (hB.out.trans (hb.mono hB.out.size))
  clear hb s0 s1 q0 q1 q2 q3 q4 q5 q6 q7 y73 hU5
  have s0 := cell_of_block aS.out 0
  have s1 := cell_of_block aS.out 1
  obtain ⟨q0, q1, q2, q3, q4, q5, q6, q7⟩ := hcf.out _ _ aR.out
  have y73 := hk73.out _ _ aX.out
  obtain ⟨w5, hw5⟩ : ∃ W, W = w5b := ⟨_, rfl⟩
  subst hw5
  go_wp2_with fail
  have hlt5 := Lib.hid (block_lt aO.out)
  with_reducible refine (hcp.out _ hB.out).mono ?_
  rintro e w6 ⟨v, v', rfl, hrN, hrV, hav, hb⟩
  obtain ⟨x4, c4, hv4, hnil4, _, _, hlt4⟩ := hrN.form
  obtain ⟨x5, c5, hv5, _⟩ := hrV.form
  subst hv4 hv5
  obtain ⟨g4, hg4⟩ : ∃ g4, x4 = some ⟨g4, 0, none⟩ := by
    cases x4 with
    | none => have := (hnil4 rfl).2; omega
    | some ad =>
      obtain ⟨b4, o4, s4⟩ := ad
      obtain ⟨rfl, rfl, _⟩ := hlt4 b4 o4 s4 rfl
      exact ⟨b4, rfl⟩
  subst hg4
  have hltV := Lib.hid (fun k (hk : (Value.slice x5 m.ens.length c5).ownBlock = some k) => hrV.ownLt k hk)
  have hltN := Lib.hid (fun k (hk : (Value.slice (some ⟨g4, 0, none⟩) m.its.length c4).ownBlock = some k) => hrN.ownLt k hk)
  obtain ⟨C, hC⟩ : ∃ C : Array Value, C = #[.slice (some ⟨g4, 0, none⟩) m.its.length c4, .slice x5 m.ens.length c5] := ⟨_, rfl⟩
  rw [← hC]
  have hs56 := hb.size
  have hlo6 : w.heap.size ≤ w5.heap.size := hB.out.size
  replace aS := Lib.hid ((hb.block _ (block_lt aS.out)).trans aS.out)
  replace aR := Lib.hid ((hb.block _ (block_lt aR.out)).trans aR.out)
  replace aO := Lib.hid ((hb.block _ (block_lt aO.out)).trans aO.out)
  replace hB := Lib.hid (hB.out.trans (hb.mono hB.out.size))
  clear hb s0 s1 q0 q1 q2 q3 q4 q5 q6 q7 hnil4 hlt4
  have s0 := cell_of_block aS.out 0
  have s1 := cell_of_block aS.out 1
  obtain ⟨q0, q1, q2, q3, q4, q5, q6, q7⟩ := hcf.out _ _ aR.out
  have hlt6 := Lib.hid (block_lt aO.out)
  have iC : (Tryd.prog.info? 56).map (·.size) = some C.size := by rw [hC]; kernel_rfl
  have zC : (#[.slice none 0 0, .slice none 0 0] : Array Value).size = C.size := by rw [hC]; rfl
  have h1C : C.all (·.oneCell') = true := by rw [hC]; simp [Value.oneCell']
  have hC2 : C.size = 2 := by rw [hC]; rfl
  have hkC : ∀ (W : World) b, W.heap[b]? = some (.cells C 56 (0, 0)) → W.cell? ⟨b, 0, none⟩ = some (.slice (some ⟨g4, 0, none⟩) m.its.length c4) ∧ W.cell? ⟨b, 1, none⟩ = some (.slice x5 m.ens.length c5) := fun W b h => by
    rw [cell_of_block h, cell_of_block h, hC]
    exact ⟨by simp, by simp⟩
  have hZ6 := Lib.hid (heap_alloc_new w6 (.cells #[.slice none 0 0, .slice none 0 0] 56))
  replace hC := Lib.hid hC
  replace hkC := Lib.hid hkC
  replace hrN := Lib.hid hrN
  replace hrV := Lib.hid hrV
  replace hav := Lib.hid hav
  replace hs56 := Lib.hid hs56
  have hF0 := Lib.hid (show ∀ k : Nat, (fun _ : Nat => False) k → (fun _ : Nat => False) k from fun _ h => h)
  have hln : m.ens.length ≤ 1000000 := by omega
  have hii : (i : Int) < (m.its.length : Int) := by omega
  have i1i : (Tryd.prog.info? 3).map (·.size) = some 1 := by kernel_rfl
  have hg4l := hltN.out g4 rfl
  go_wp2_with (first
    | ((with_reducible show wpList _ _ _ (Oper.mk _ (Op.store 56 (.tmp 10) _) _ _ _ _ :: _) _ _); (refine wpList_store_row rfl 56 (.tmp 10) (.tmp 56) rfl w6.heap.size _ C rfl rfl hZ6 iC zC h1C ?_); intro w7 hU7; have hb7 : Below w6.heap.size w6 w7 := (Below.alloc (Below.refl w6.heap.size w6) (Nat.le_refl _) _).trans (hU7.out.below (Nat.le_refl _)); have hs7 : w7.heap.size = w6.heap.size + 1 := hU7.out.size.trans (by simp); have aC := Lib.hid hU7.out.here; replace hrN := Lib.hid (hrN.out.below liesRI hb7); replace hrV := Lib.hid (hrV.out.below liesRE hb7); replace aS := Lib.hid ((hb7.block _ (block_lt aS.out)).trans aS.out); replace aR := Lib.hid ((hb7.block _ (block_lt aR.out)).trans aR.out); replace aO := Lib.hid ((hb7.block _ (block_lt aO.out)).trans aO.out); replace hB := Lib.hid (hB.out.trans (hb7.mono hB.out.size)); clear s0 s1 q0 q1 q2 q3 q4 q5 q6 q7 hb7; have s0 := cell_of_block aS.out 0; have s1 := cell_of_block aS.out 1; obtain ⟨q0, q1, q2, q3, q4, q5, q6, q7⟩ := hcf.out _ _ aR.out; obtain ⟨k0, k1⟩ := hkC.out _ _ aC.out; replace hs7 := Lib.hid hs7)
    | ((with_reducible show wpList _ _ _ (Oper.mk _ (Op.build 95 _) _ _ _ _ :: _) _ _); refine wpList_buildV rfl 95 [(0, .tmp 60), (1, .tmp 62), (2, .tmp 64), (3, .tmp 65), (4, .tmp 67)] rfl [(0, .int .i64 vi), (1, .int .i64 (i : Int)), (2, .int .i64 vw), (3, .int .i64 vx), (4, .int .i64 vt)] rfl _ (hbd.out _) ?_)
    | ((with_reducible show wpList _ _ _ (Oper.mk _ (Op.buildSlice _ _ _) _ _ _ _ :: _) _ _); refine wpList_buildS rfl 54 1 [(0, .tmp 68)] rfl [(0, .agg XE)] rfl _ _ (hsl.out _) ?_)
    | (at_builtin; refine wpList_appRows (P := Tryd.prog) (R := RE) (e := 95) (size := 7) (base := w5.heap.size) (F := fun _ => False) (F' := fun _ => False) rfl liesRE (.tmp 58) (.tmp 69) 54 rfl Tryd.underlying54 56 infoEnG (by decide) rfl hrV NE XE (Lib.hid (hyE.out w7)) hF0 (Lib.hid (fun _ _ h => h)) (Lib.hid (fun _ h => h.elim)) rfl hln (by decide) (by have := hs7.out; have := hs56.out; omega) ?_; intro v9 w9 hr9 hO9 hM9; obtain ⟨a9, n9, c9, hv9⟩ : ∃ a n c, v9 = .slice a n c := (by obtain ⟨a, c, e, _⟩ := hr9.out.form; exact ⟨a, _, c, e⟩); subst hv9; have h9 := Lib.hid (hO9.out.heap aC.out (fun e => by have := (hltV.out _ e).2; omega)))
    | ((with_reducible show wpList _ _ _ (Oper.mk _ (Op.store 54 (.tmp 71) _) _ _ _ _ :: _) _ _); (refine wpList_store_oneU rfl 54 56 (.tmp 71) (.tmp 70) rfl w6.heap.size 1 C (.slice a9 n9 c9) rfl rfl h9 (by rw [hC2]; decide) (by kernel_rfl) rfl ?_); intro w10 hU10; have hat10 := hU10.out.here; rw [hC.out] at hat10; obtain ⟨CM, hCM⟩ : ∃ CM : Array Value, CM = #[.slice (some ⟨g4, 0, none⟩) m.its.length c4, .slice a9 n9 c9] := ⟨_, rfl⟩; replace hat10 : w10.heap[w6.heap.size]? = some (.cells CM 56 (0, 0)) := (by rw [hCM]; simpa using hat10); have iM : (Tryd.prog.info? 56).map (·.size) = some CM.size := (by rw [hCM]; kernel_rfl); have zM : (#[.slice none 0 0, .slice none 0 0] : Array Value).size = CM.size := (by rw [hCM]; rfl); have h1M : CM.all (·.oneCell') = true := (by rw [hCM]; simp [Value.oneCell']); have hO10 : Only (fun k => k = w6.heap.size) w9 w10 := Only.ofUpd hU10.out rfl; have hrN10 := (hrN.out.only liesRI hO9.out (fun k hk => hk.elim) (fun k hk e => hav.out k hk e)).only liesRI hO10 (fun k hk => hk.elim) (fun k hk e => by have := (hltN.out k hk).2; omega); have j0 : w10.cell? ⟨w6.heap.size, 0, none⟩ = some (.slice (some ⟨g4, 0, none⟩) m.its.length c4) := (by rw [cell_of_block hat10, hCM]; simp); have hcc := rowsX_cell (R := RI) (enc := It.list) (Ok := It.Ok) (fun _ _ _ _ => Iff.rfl) liesRI hrN10 i 74 hi _ (It.c74 (okI.out _ (List.getElem_mem hi))); have hce := hcc.1; rw [hy.out] at hce; have aO10 : Hid (w10.heap[w.heap.size + 2]? = some (.cells #[.slice none 0 0, .slice none 0 0] 56 (0, 0))) := Lib.hid ((hU10.out.block _ (by have := hlt6.out; omega)).trans (hO9.out.heap aO.out (fun e => by have := (hltV.out _ e).1; have := hlt5.out; omega))); have aR10 := (hU10.out.block _ (by have := hlt6.out; omega)).trans (hO9.out.heap aR.out (fun e => by have := (hltV.out _ e).1; have := hlt5.out; omega)); clear s0 s1 q0 q1 q2 q3 q4 q5 q6 q7 k0 k1; obtain ⟨q0, q1, q2, q3, q4, q5, q6, q7⟩ := hcf.out _ _ aR10; replace hat10 := Lib.hid hat10; replace hCM := Lib.hid hCM; replace hrN10 := Lib.hid hrN10; replace hO10 := Lib.hid hO10; have hfr := hcc.2; replace hcc := Lib.hid hcc; clear aR10)
    | ((with_reducible show wpList _ _ _ (Oper.mk _ (Op.store 3 (.tmp 84) _) _ _ _ _ :: _) _ _); (refine wpList_store_at rfl 3 (.tmp 84) (.tmp 82) rfl g4 (i * 76 + 74) (.int .i64 (y.u + 1)) rfl rfl (Lib.hid ⟨_, hcc.out.1⟩) hcc.out.2 i1i rfl ?_); intro w12 hw12; have hO12 : Only (fun k => k = g4) w10 w12 := (by rw [hw12.out]; exact (Only.refl _ _).setCell _ _ (fun _ => rfl)); have hrN12 := hset.out _ _ _ _ _ hrN10.out; rw [← hw12.out] at hrN12; have aC12 := Lib.hid (hO12.heap hat10.out (by omega)); have aO12 := Lib.hid (hO12.heap aO10.out (by have := hlt5.out; omega)); replace hO12 := Lib.hid hO12; replace hrN12 := Lib.hid hrN12)
    | ((with_reducible show wpList _ _ _ (Oper.mk _ (Op.load 56 (.tmp 10)) _ _ _ _ :: _) _ _); refine wpList_load_row rfl 56 (.tmp 10) rfl w6.heap.size CM _ rfl aC12 Tryd.underlying56 rfl iM ?_)
    | ((with_reducible show wpList _ _ _ (Oper.mk _ (Op.store 56 (.tmp 4) _) _ _ _ _ :: _) _ _); (refine wpList_store_row rfl 56 (.tmp 4) (.tmp 95) rfl (w.heap.size + 2) _ CM rfl rfl aO12 iM zM h1M ?_); intro w11 hU11))
  have h7o := hs7.out
  have h5o := hlt5.out
  have h6o := hlt6.out
  have h56 := hs56.out
  have hO11 : Only (fun k => k = w.heap.size + 2) w12 w11 := Only.ofUpd hU11.out rfl
  have hrVX := ((hr9.out.only liesRE hO10.out (fun k hk => hk.elim) (fun k hk e => by
    rcases hM9.out k hk with h | h
    · have := (hltV.out k h).2; omega
    · omega)).only liesRE hO12.out (fun k hk => hk.elim) (fun k hk e => by
    rcases hM9.out k hk with h | h
    · exact hav.out g4 rfl (e ▸ h)
    · omega)).only liesRE hO11 (fun k hk => hk.elim) (fun k hk e => by
    rcases hM9.out k hk with h | h
    · have := (hltV.out k h).1; omega
    · omega)
  have hrNX := hrN12.out.only liesRI hO11 (fun k hk => hk.elim) (fun k hk e => by have := (hltN.out k hk).1; omega)
  have hBX := (((hB.out.trans (hO9.out.below (by have := hB.out.size; omega) (fun k hk => by have := (hltV.out k hk).1; omega))).trans (hU10.out.below (by omega))).trans (hO12.out.below (by have := hB.out.size; have := hO9.out.size; have := hU10.out.size; omega) (fun k e => by omega))).trans (hU11.out.below (by omega))
  refine ret_cell_tmpB rfl rfl Tryd.underlying56 rfl iM hU11.out.here ?_
  rw [hCM.out]
  exact ⟨_, _, rfl, argS_of hrNX hrVX, .inl ⟨rfl, rfl⟩, hBX, freshS_of hrNX hrVX hlo6 hlo6⟩

set_option maxRecDepth 100000 in
set_option maxHeartbeats 2000000 in
theorem asked_spot (va : Value) (m : St) (x : Rc) (hx : x.Ok) (w : World) (ha : ArgS w va m) (l1 : m.its.length ≤ 1000) (l2 : m.ens.length ≤ 1000) (i : Nat) (hi : i < m.its.length) (hx1 : x.obj = (i : Int)) (h1 : m.its[i].k = true) (hw : x.way ≠ 2) (h3 : x.id = (m.ens.length : Int)) (h4 : x.index = (nextI m.its[i] x.way).1) (hub : m.its[i].r ≤ 1000000) (ea : Nat → Addr) :
    Calls Tryd.prog 35 #[va, .agg x.list.toArray] w (FolPost ea ⟨m.its.set i { m.its[i] with r := m.its[i].r + 1 }, m.ens ++ [⟨x.id, x.obj, x.way, x.index, x.tick, 0, 0⟩]⟩ 0 w) := by
  have hcf := Lib.hid (Rc.kept0 x hx 59)
  have hcp := fun W (h : Below w.heap.size w W) => copyS_any va m W (ha.below h (Nat.le_refl _)) l1 l2
  have okI := ha.okN
  have okE := ha.okV
  have hc0 := fun W h => item_in va m W (ha.below h (Nat.le_refl _)) i hi l1
  rw [← hx1] at hc0
  have hok := ha.okN _ (List.getElem_mem hi)
  have hget : m.its[i]? = some m.its[i] := List.getElem?_eq_getElem hi
  have hub1 : inI (m.its[i].r + 1) := by have := hok.r; exact ⟨by omega, by omega⟩
  have hwr : IntKind.i64.wrap (m.its[i].r + 1) = m.its[i].r + 1 := IntWalk.i64_in _ (by have := hok.r; omega)
  have hset := fun (W : World) (base g n c : Nat) (h : RowsOf RI 93 76 base W (fun _ => False) (.slice (some ⟨g, 0, none⟩) n c) m.its) => rowsX_set (R := RI) (enc := It.list) (Ok := It.Ok) (fun _ _ _ _ => Iff.rfl) (fun _ h => It.list_length h) It.list_one (by decide) h okI i 75 hi (by decide) (.int .i64 (m.its[i].r + 1)) rfl { m.its[i] with r := m.its[i].r + 1 } (It.set75 hok _) ⟨hok.n, hok.s, hok.p, hok.root, hok.file, hok.t, hok.u, hub1⟩
  obtain ⟨NE, hNE⟩ : ∃ NE : En, NE = ⟨x.id, x.obj, x.way, x.index, x.tick, 0, 0⟩ := ⟨_, rfl⟩
  have hyE : ∀ W : World, RE W (fun _ => False) NE NE.list.toArray.toList := fun W => ⟨by simp, by rw [hNE]; exact ⟨hx.id, hx.obj, hx.way, hx.index, hx.tick, by show inI 0; decide, by show inI 0; decide⟩⟩
  have hbd := fun W => build_en x.id x.obj x.way x.index x.tick W
  rw [← hNE] at hbd ⊢
  obtain ⟨XE, hXE⟩ : ∃ XE, XE = NE.list.toArray := ⟨_, rfl⟩
  have hXEs : XE.size = 7 := by rw [hXE]; rfl
  rw [← hXE] at hbd hyE
  have hsl := fun W => slice_one (P := Tryd.prog) (t := 54) Tryd.underlying54 infoEnG (by decide) (by decide) XE hXEs W
  have hnx := Lib.hid (fun W => next_any m.its[i] hok x.way W)
  obtain ⟨ITS, hITS⟩ : ∃ l, l = m.its.set i { m.its[i] with r := m.its[i].r + 1 } := ⟨_, rfl⟩
  rw [← hITS] at hset ⊢
  have hIl : ITS.length = m.its.length := by rw [hITS, List.length_set]
  generalize hy : m.its[i] = y at *
  obtain ⟨XA, hXA⟩ : ∃ XA, XA = y.list.toArray := ⟨_, rfl⟩
  have hk73 : ∀ (W : World) b, W.heap[b]? = some (.cells XA 93 (0, 0)) → W.cell? ⟨b, 73, none⟩ = some (.bool y.k) := fun W b h => by rw [cell_of_block h, hXA, List.getElem?_toArray]; exact It.c73 hok
  rw [h1] at hk73
  have iA : (Tryd.prog.info? 93).map (·.size) = some XA.size := by rw [hXA, It.size hok]; kernel_rfl
  have zA : (Tryd.zeroCells93).size = XA.size := by rw [hXA, It.size hok]; kernel_rfl
  have h1A : XA.all (·.oneCell') = true := by rw [hXA]; exact It.all_one _
  rw [← hXA] at hc0 hnx
  obtain ⟨⟨an, cn, av, cv, rfl, hN, hN1, hN2, hV, hV1, hV2⟩, okN, okV⟩ := ha
  obtain ⟨N, hNl⟩ : ∃ N, N = m.its.length := ⟨_, rfl⟩
  obtain ⟨V, hVl⟩ : ∃ V, V = m.ens.length := ⟨_, rfl⟩
  rw [← hNl, ← hVl] at hc0 hcp
  rw [← hNl, ← hVl]
  generalize hRR : x.list.toArray = R at *
  obtain ⟨aS, aR, aO, hs3, hB⟩ := three_boxes w #[.slice an N cn, .slice av V cv] R #[.slice none 0 0, .slice none 0 0] 56 59 56 _ rfl
  obtain ⟨w3, hw3⟩ : ∃ w3, w3 = ((w.alloc (.cells #[.slice an N cn, .slice av V cv] 56)).alloc (.cells R 59)).alloc (.cells #[.slice none 0 0, .slice none 0 0] 56) := ⟨_, rfl⟩
  have s0 := cell_of_block aS 0
  have s1 := cell_of_block aS 1
  obtain ⟨q0, q1, q2, q3, q4, q5, q6, q7⟩ := hcf.out _ _ aR
  rw [← hw3] at aS aR aO hB
  obtain ⟨ix, lf, hnx2⟩ : ∃ ix lf, nextI y x.way = (ix, lf) := ⟨_, _, rfl⟩
  have hlf : lf = true := by have e : nextI y x.way = (y.r, true) := (by unfold nextI; rw [if_neg hw]); rw [hnx2] at e; cases e; rfl
  subst hlf
  rw [hnx2] at hnx h4
  replace h4 : x.index = ix := h4
  replace hnx2 := Lib.hid hnx2
  have hof : (x.id != (V : Int)) = false := by rw [hVl, h3]; simp
  have hoi : (x.index != ix) = false := by rw [h4]; simp
  generalize x.tick = vt at *
  have hw2 : (x.way == 2) = false := by simpa using hw
  generalize x.obj = vo at *
  generalize x.id = vi at *
  generalize x.way = vw at *
  generalize x.index = vx at *
  generalize x.name = vn at *
  subst hx1
  subst h4
  replace hc0 := Lib.hid hc0
  replace hcp := Lib.hid hcp
  replace aS := Lib.hid aS
  replace aR := Lib.hid aR
  replace aO := Lib.hid aO
  replace hB := Lib.hid hB
  replace hw3 := Lib.hid hw3
  replace okI := Lib.hid okI
  replace okE := Lib.hid okE
  replace hNl := Lib.hid hNl
  replace hVl := Lib.hid hVl
  replace hk73 := Lib.hid hk73
  replace hset := Lib.hid hset
  replace hITS := Lib.hid hITS
  replace hIl := Lib.hid hIl
  replace hget := Lib.hid hget
  replace hy := Lib.hid hy
  replace hbd := Lib.hid hbd
  replace hsl := Lib.hid hsl
  replace hyE := Lib.hid hyE
  replace hNE := Lib.hid hNE
  replace hXE := Lib.hid hXE
  clear hRR hN hV hN1 hN2 hV1 hV2 okN okV hs3 hXA h1 h3 hw
  go_enter Tryd.func35, Tryd.ntmps35
  go_wp2_with fail
  rw [← hw3.out]
  with_reducible refine (hc0.out _ hB.out).mono ?_
  rintro e w4 ⟨rfl, hb⟩
  replace aS := Lib.hid ((hb.block _ (block_lt aS.out)).trans aS.out)
  replace aR := Lib.hid ((hb.block _ (block_lt aR.out)).trans aR.out)
  replace aO := Lib.hid ((hb.block _ (block_lt aO.out)).trans aO.out)
  replace hB := Lib.hid (hB.out.trans (hb.mono hB.out.size))
  clear hb s0 s1 q0 q1 q2 q3 q4 q5 q6 q7
  have s0 := cell_of_block aS.out 0
  have s1 := cell_of_block aS.out 1
  obtain ⟨q0, q1, q2, q3, q4, q5, q6, q7⟩ := hcf.out _ _ aR.out
  have hZ4 := Lib.hid (heap_alloc_new w4 (.cells Tryd.zeroCells93 93))
  go_wp2_with (first
    | ((with_reducible show wpList _ _ _ (Oper.mk _ (Op.store 93 (.tmp 6) _) _ _ _ _ :: _) _ _); (refine wpList_store_row rfl 93 (.tmp 6) (.tmp 16) rfl w4.heap.size _ XA rfl rfl hZ4 iA zA h1A ?_); intro w5 hU5; have hb5 : Below w4.heap.size w4 w5 := (Below.alloc (Below.refl w4.heap.size w4) (Nat.le_refl _) _).trans (hU5.out.below (Nat.le_refl _)); have aX := Lib.hid hU5.out.here; replace aS := Lib.hid ((hb5.block _ (block_lt aS.out)).trans aS.out); replace aR := Lib.hid ((hb5.block _ (block_lt aR.out)).trans aR.out); replace aO := Lib.hid ((hb5.block _ (block_lt aO.out)).trans aO.out); replace hB := Lib.hid (hB.out.trans (hb5.mono hB.out.size)); clear s0 s1 q0 q1 q2 q3 q4 q5 q6 q7 hb5; have s0 := cell_of_block aS.out 0; have s1 := cell_of_block aS.out 1; obtain ⟨q0, q1, q2, q3, q4, q5, q6, q7⟩ := hcf.out _ _ aR.out; have y73 := hk73.out _ _ aX.out)
    | ((with_reducible show wpList _ _ _ (Oper.mk _ (Op.load 93 (.tmp 6)) _ _ _ _ :: _) _ _); refine wpList_load_row rfl 93 (.tmp 6) rfl w4.heap.size XA _ rfl aX Tryd.underlying93 rfl iA ?_))
  with_reducible refine (hnx.out _).mono ?_
  rintro e w5b ⟨rfl, hb⟩
  replace aX := Lib.hid ((hb.block _ (block_lt aX.out)).trans aX.out)
  replace aS := Lib.hid ((hb.block _ (block_lt aS.out)).trans aS.out)
  replace aR := Lib.hid ((hb.block _ (block_lt aR.out)).trans aR.out)
  replace aO := Lib.hid ((hb.block _ (block_lt aO.out)).trans aO.out)
  replace hB := Lib.hid (hB.out.trans (hb.mono hB.out.size))
  clear hb s0 s1 q0 q1 q2 q3 q4 q5 q6 q7 y73 hU5
  have s0 := cell_of_block aS.out 0
  have s1 := cell_of_block aS.out 1
  obtain ⟨q0, q1, q2, q3, q4, q5, q6, q7⟩ := hcf.out _ _ aR.out
  have y73 := hk73.out _ _ aX.out
  obtain ⟨w5, hw5⟩ : ∃ W, W = w5b := ⟨_, rfl⟩
  subst hw5
  go_wp2_with fail
  have hlt5 := Lib.hid (block_lt aO.out)
  with_reducible refine (hcp.out _ hB.out).mono ?_
  rintro e w6 ⟨v, v', rfl, hrN, hrV, hav, hb⟩
  obtain ⟨x4, c4, hv4, hnil4, _, _, hlt4⟩ := hrN.form
  obtain ⟨x5, c5, hv5, _⟩ := hrV.form
  subst hv4 hv5
  obtain ⟨g4, hg4⟩ : ∃ g4, x4 = some ⟨g4, 0, none⟩ := by
    cases x4 with
    | none => have := (hnil4 rfl).2; omega
    | some ad =>
      obtain ⟨b4, o4, s4⟩ := ad
      obtain ⟨rfl, rfl, _⟩ := hlt4 b4 o4 s4 rfl
      exact ⟨b4, rfl⟩
  subst hg4
  have hltV := Lib.hid (fun k (hk : (Value.slice x5 m.ens.length c5).ownBlock = some k) => hrV.ownLt k hk)
  have hltN := Lib.hid (fun k (hk : (Value.slice (some ⟨g4, 0, none⟩) m.its.length c4).ownBlock = some k) => hrN.ownLt k hk)
  obtain ⟨C, hC⟩ : ∃ C : Array Value, C = #[.slice (some ⟨g4, 0, none⟩) m.its.length c4, .slice x5 m.ens.length c5] := ⟨_, rfl⟩
  rw [← hC]
  have hs56 := hb.size
  have hlo6 : w.heap.size ≤ w5.heap.size := hB.out.size
  replace aS := Lib.hid ((hb.block _ (block_lt aS.out)).trans aS.out)
  replace aR := Lib.hid ((hb.block _ (block_lt aR.out)).trans aR.out)
  replace aO := Lib.hid ((hb.block _ (block_lt aO.out)).trans aO.out)
  replace hB := Lib.hid (hB.out.trans (hb.mono hB.out.size))
  clear hb s0 s1 q0 q1 q2 q3 q4 q5 q6 q7 hnil4 hlt4
  have s0 := cell_of_block aS.out 0
  have s1 := cell_of_block aS.out 1
  obtain ⟨q0, q1, q2, q3, q4, q5, q6, q7⟩ := hcf.out _ _ aR.out
  have hlt6 := Lib.hid (block_lt aO.out)
  have iC : (Tryd.prog.info? 56).map (·.size) = some C.size := by rw [hC]; kernel_rfl
  have zC : (#[.slice none 0 0, .slice none 0 0] : Array Value).size = C.size := by rw [hC]; rfl
  have h1C : C.all (·.oneCell') = true := by rw [hC]; simp [Value.oneCell']
  have hC2 : C.size = 2 := by rw [hC]; rfl
  have hkC : ∀ (W : World) b, W.heap[b]? = some (.cells C 56 (0, 0)) → W.cell? ⟨b, 0, none⟩ = some (.slice (some ⟨g4, 0, none⟩) m.its.length c4) ∧ W.cell? ⟨b, 1, none⟩ = some (.slice x5 m.ens.length c5) := fun W b h => by
    rw [cell_of_block h, cell_of_block h, hC]
    exact ⟨by simp, by simp⟩
  have hZ6 := Lib.hid (heap_alloc_new w6 (.cells #[.slice none 0 0, .slice none 0 0] 56))
  replace hC := Lib.hid hC
  replace hkC := Lib.hid hkC
  replace hrN := Lib.hid hrN
  replace hrV := Lib.hid hrV
  replace hav := Lib.hid hav
  replace hs56 := Lib.hid hs56
  have hF0 := Lib.hid (show ∀ k : Nat, (fun _ : Nat => False) k → (fun _ : Nat => False) k from fun _ h => h)
  have hln : m.ens.length ≤ 1000000 := by omega
  have hii : (i : Int) < (m.its.length : Int) := by omega
  have i1i : (Tryd.prog.info? 3).map (·.size) = some 1 := by kernel_rfl
  have hg4l := hltN.out g4 rfl
  go_wp2_with (first
    | ((with_reducible show wpList _ _ _ (Oper.mk _ (Op.store 56 (.tmp 10) _) _ _ _ _ :: _) _ _); (refine wpList_store_row rfl 56 (.tmp 10) (.tmp 56) rfl w6.heap.size _ C rfl rfl hZ6 iC zC h1C ?_); intro w7 hU7; have hb7 : Below w6.heap.size w6 w7 := (Below.alloc (Below.refl w6.heap.size w6) (Nat.le_refl _) _).trans (hU7.out.below (Nat.le_refl _)); have hs7 : w7.heap.size = w6.heap.size + 1 := hU7.out.size.trans (by simp); have aC := Lib.hid hU7.out.here; replace hrN := Lib.hid (hrN.out.below liesRI hb7); replace hrV := Lib.hid (hrV.out.below liesRE hb7); replace aS := Lib.hid ((hb7.block _ (block_lt aS.out)).trans aS.out); replace aR := Lib.hid ((hb7.block _ (block_lt aR.out)).trans aR.out); replace aO := Lib.hid ((hb7.block _ (block_lt aO.out)).trans aO.out); replace hB := Lib.hid (hB.out.trans (hb7.mono hB.out.size)); clear s0 s1 q0 q1 q2 q3 q4 q5 q6 q7 hb7; have s0 := cell_of_block aS.out 0; have s1 := cell_of_block aS.out 1; obtain ⟨q0, q1, q2, q3, q4, q5, q6, q7⟩ := hcf.out _ _ aR.out; obtain ⟨k0, k1⟩ := hkC.out _ _ aC.out; replace hs7 := Lib.hid hs7)
    | ((with_reducible show wpList _ _ _ (Oper.mk _ (Op.build 95 _) _ _ _ _ :: _) _ _); refine wpList_buildV rfl 95 [(0, .tmp 60), (1, .tmp 62), (2, .tmp 64), (3, .tmp 65), (4, .tmp 67)] rfl [(0, .int .i64 vi), (1, .int .i64 (i : Int)), (2, .int .i64 vw), (3, .int .i64 vx), (4, .int .i64 vt)] rfl _ (hbd.out _) ?_)
    | ((with_reducible show wpList _ _ _ (Oper.mk _ (Op.buildSlice _ _ _) _ _ _ _ :: _) _ _); refine wpList_buildS rfl 54 1 [(0, .tmp 68)] rfl [(0, .agg XE)] rfl _ _ (hsl.out _) ?_)
    | (at_builtin; refine wpList_appRows (P := Tryd.prog) (R := RE) (e := 95) (size := 7) (base := w5.heap.size) (F := fun _ => False) (F' := fun _ => False) rfl liesRE (.tmp 58) (.tmp 69) 54 rfl Tryd.underlying54 56 infoEnG (by decide) rfl hrV NE XE (Lib.hid (hyE.out w7)) hF0 (Lib.hid (fun _ _ h => h)) (Lib.hid (fun _ h => h.elim)) rfl hln (by decide) (by have := hs7.out; have := hs56.out; omega) ?_; intro v9 w9 hr9 hO9 hM9; obtain ⟨a9, n9, c9, hv9⟩ : ∃ a n c, v9 = .slice a n c := (by obtain ⟨a, c, e, _⟩ := hr9.out.form; exact ⟨a, _, c, e⟩); subst hv9; have h9 := Lib.hid (hO9.out.heap aC.out (fun e => by have := (hltV.out _ e).2; omega)))
    | ((with_reducible show wpList _ _ _ (Oper.mk _ (Op.store 54 (.tmp 71) _) _ _ _ _ :: _) _ _); (refine wpList_store_oneU rfl 54 56 (.tmp 71) (.tmp 70) rfl w6.heap.size 1 C (.slice a9 n9 c9) rfl rfl h9 (by rw [hC2]; decide) (by kernel_rfl) rfl ?_); intro w10 hU10; have hat10 := hU10.out.here; rw [hC.out] at hat10; obtain ⟨CM, hCM⟩ : ∃ CM : Array Value, CM = #[.slice (some ⟨g4, 0, none⟩) m.its.length c4, .slice a9 n9 c9] := ⟨_, rfl⟩; replace hat10 : w10.heap[w6.heap.size]? = some (.cells CM 56 (0, 0)) := (by rw [hCM]; simpa using hat10); have iM : (Tryd.prog.info? 56).map (·.size) = some CM.size := (by rw [hCM]; kernel_rfl); have zM : (#[.slice none 0 0, .slice none 0 0] : Array Value).size = CM.size := (by rw [hCM]; rfl); have h1M : CM.all (·.oneCell') = true := (by rw [hCM]; simp [Value.oneCell']); have hO10 : Only (fun k => k = w6.heap.size) w9 w10 := Only.ofUpd hU10.out rfl; have hrN10 := (hrN.out.only liesRI hO9.out (fun k hk => hk.elim) (fun k hk e => hav.out k hk e)).only liesRI hO10 (fun k hk => hk.elim) (fun k hk e => by have := (hltN.out k hk).2; omega); have j0 : w10.cell? ⟨w6.heap.size, 0, none⟩ = some (.slice (some ⟨g4, 0, none⟩) m.its.length c4) := (by rw [cell_of_block hat10, hCM]; simp); have hcc := rowsX_cell (R := RI) (enc := It.list) (Ok := It.Ok) (fun _ _ _ _ => Iff.rfl) liesRI hrN10 i 75 hi _ (It.c75 (okI.out _ (List.getElem_mem hi))); have hce := hcc.1; rw [hy.out] at hce; have aO10 : Hid (w10.heap[w.heap.size + 2]? = some (.cells #[.slice none 0 0, .slice none 0 0] 56 (0, 0))) := Lib.hid ((hU10.out.block _ (by have := hlt6.out; omega)).trans (hO9.out.heap aO.out (fun e => by have := (hltV.out _ e).1; have := hlt5.out; omega))); have aR10 := (hU10.out.block _ (by have := hlt6.out; omega)).trans (hO9.out.heap aR.out (fun e => by have := (hltV.out _ e).1; have := hlt5.out; omega)); clear s0 s1 q0 q1 q2 q3 q4 q5 q6 q7 k0 k1; obtain ⟨q0, q1, q2, q3, q4, q5, q6, q7⟩ := hcf.out _ _ aR10; replace hat10 := Lib.hid hat10; replace hCM := Lib.hid hCM; replace hrN10 := Lib.hid hrN10; replace hO10 := Lib.hid hO10; have hfr := hcc.2; replace hcc := Lib.hid hcc; clear aR10)
    | ((with_reducible show wpList _ _ _ (Oper.mk _ (Op.store 3 (.tmp 94) _) _ _ _ _ :: _) _ _); (refine wpList_store_at rfl 3 (.tmp 94) (.tmp 92) rfl g4 (i * 76 + 75) (.int .i64 (y.r + 1)) rfl rfl (Lib.hid ⟨_, hcc.out.1⟩) hcc.out.2 i1i rfl ?_); intro w12 hw12; have hO12 : Only (fun k => k = g4) w10 w12 := (by rw [hw12.out]; exact (Only.refl _ _).setCell _ _ (fun _ => rfl)); have hrN12 := hset.out _ _ _ _ _ hrN10.out; rw [← hw12.out] at hrN12; have aC12 := Lib.hid (hO12.heap hat10.out (by omega)); have aO12 := Lib.hid (hO12.heap aO10.out (by have := hlt5.out; omega)); replace hO12 := Lib.hid hO12; replace hrN12 := Lib.hid hrN12)
    | ((with_reducible show wpList _ _ _ (Oper.mk _ (Op.load 56 (.tmp 10)) _ _ _ _ :: _) _ _); refine wpList_load_row rfl 56 (.tmp 10) rfl w6.heap.size CM _ rfl aC12 Tryd.underlying56 rfl iM ?_)
    | ((with_reducible show wpList _ _ _ (Oper.mk _ (Op.store 56 (.tmp 4) _) _ _ _ _ :: _) _ _); (refine wpList_store_row rfl 56 (.tmp 4) (.tmp 95) rfl (w.heap.size + 2) _ CM rfl rfl aO12 iM zM h1M ?_); intro w11 hU11))
  have h7o := hs7.out
  have h5o := hlt5.out
  have h6o := hlt6.out
  have h56 := hs56.out
  have hO11 : Only (fun k => k = w.heap.size + 2) w12 w11 := Only.ofUpd hU11.out rfl
  have hrVX := ((hr9.out.only liesRE hO10.out (fun k hk => hk.elim) (fun k hk e => by
    rcases hM9.out k hk with h | h
    · have := (hltV.out k h).2; omega
    · omega)).only liesRE hO12.out (fun k hk => hk.elim) (fun k hk e => by
    rcases hM9.out k hk with h | h
    · exact hav.out g4 rfl (e ▸ h)
    · omega)).only liesRE hO11 (fun k hk => hk.elim) (fun k hk e => by
    rcases hM9.out k hk with h | h
    · have := (hltV.out k h).1; omega
    · omega)
  have hrNX := hrN12.out.only liesRI hO11 (fun k hk => hk.elim) (fun k hk e => by have := (hltN.out k hk).1; omega)
  have hBX := (((hB.out.trans (hO9.out.below (by have := hB.out.size; omega) (fun k hk => by have := (hltV.out k hk).1; omega))).trans (hU10.out.below (by omega))).trans (hO12.out.below (by have := hB.out.size; have := hO9.out.size; have := hU10.out.size; omega) (fun k e => by omega))).trans (hU11.out.below (by omega))
  refine ret_cell_tmpB rfl rfl Tryd.underlying56 rfl iM hU11.out.here ?_
  rw [hCM.out]
  exact ⟨_, _, rfl, argS_of hrNX hrVX, .inl ⟨rfl, rfl⟩, hBX, freshS_of hrNX hrVX hlo6 hlo6⟩

end Go.Proofs.YtpehdoepcpmnbaaDoor
