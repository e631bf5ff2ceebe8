/- The law RecordBytes. Printed by genblaw.py. -/
import Derived.Test.YtahnicbokdbjdaaDoorF34BytesSaid20
import Derived.Test.YtahnicbokdbjdaaDoorF35BytesSaid20
import Derived.Test.YtahnicbokdbjdaaDoorF36BytesSaid20
import Derived.Test.YtahnicbokdbjdaaDoorF37BytesSaid20
import Derived.Test.YtahnicbokdbjdaaDoorF38BytesSaid20
import Derived.Test.YtahnicbokdbjdaaDoorF40BytesSaid20
import Derived.Test.YtahnicbokdbjdaaDoorF41BytesSaid20
import Derived.Test.YtahnicbokdbjdaaDoorF42BytesSaid20
import Derived.Test.YtahnicbokdbjdaaDoorF43BytesSaid20
namespace Go.Proofs.YtahnicbokdbjdaaDoor
open Go.RowKit
set_option linter.unusedVariables false

theorem bytes_good (x : Rc) (hx : x.Ok) (hc : x.chk = 0) (ea : Nat → Addr) (w : World) (H : Errs 132 errGs w ea) : Calls Tryd.prog 10 #[.agg x.list.toArray] w (BytesPost x w) := by
  obtain ⟨hk, _⟩ := Rc.chk0 hc
  rcases (show x.kind = 1 ∨ x.kind = 2 ∨ x.kind = 3 ∨ x.kind = 4 by omega) with h | h | h | h
  · exact bytes_k1 x hx h hc ea w H
  · exact bytes_k2 x hx h hc ea w H
  · exact bytes_k3 x hx h hc ea w H
  · exact bytes_k4 x hx h hc ea w H
theorem rbytes_good (x : Rc) (hx : x.Ok) (hc : x.chk = 0) (w : World) : Calls Tryd.prog 11 #[.agg x.list.toArray] w (RBytesPost x w) := by
  obtain ⟨hk, _⟩ := Rc.chk0 hc
  rcases (show x.kind = 1 ∨ x.kind = 2 ∨ x.kind = 3 ∨ x.kind = 4 by omega) with h | h | h | h
  · exact rbytes_k1 x hx h hc w
  · exact rbytes_k2 x hx h hc w
  · exact rbytes_k3 x hx h hc w
  · exact rbytes_k4 x hx h hc w
theorem parse_good (x : Rc) (hx : x.Ok) (hc : x.chk = 0) (a : Option Addr) (c : Nat) (n : Nat) (w : World) (ha : ArgB w a c x.out) (hn : x.out.length = n) (hm : n ≤ 1000) (haf : ∀ ad, a = some ad → ∃ b o, ad = ⟨b, o, none⟩ ∧ b < w.heap.size) (ea : Nat → Addr) (H : Errs 132 errGs w ea) :
    Calls Tryd.prog 14 #[.slice a n c] w (PGood x w) := by
  obtain ⟨hk, _⟩ := Rc.chk0 hc
  rcases (show x.kind = 1 ∨ x.kind = 2 ∨ x.kind = 3 ∨ x.kind = 4 by omega) with h | h | h | h
  · exact parse_good1 x hx h hc a c n w ha hn hm haf ea H
  · exact parse_good2 x hx h hc a c n w ha hn hm haf ea H
  · exact parse_good3 x hx h hc a c n w ha hn hm haf ea H
  · exact parse_good4 x hx h hc a c n w ha hn hm haf ea H
theorem out_le (x : Rc) (hx : x.Ok) (hc : x.chk = 0) : 1 ≤ x.out.length ∧ x.out.length ≤ 1000 := by
  have hl : x.kind = 1 → x.name.size ≤ 12 := fun h => lab_size ((Rc.chk0 hc).2.2.2 h).1
  have hb : (bytesL x.p.s x.p.n x.p.k x.p.d x.p.t x.p.r).length = 9 := rfl
  unfold Rc.out Rc.head
  split
  · next h =>
    have := hl h
    simp [numB_length, hx.root, hx.file, hb]
    omega
  · split
    · simp [numB_length]
    · split <;> simp [numB_length]

set_option maxRecDepth 100000 in
set_option maxHeartbeats 1000000 in
theorem rb_long (x : Rc) (hx : x.Ok) (hl : 100 < x.name.size) (w : World) : Calls Tryd.prog 4 #[.agg x.list.toArray] w fun e w2 => e = .returned (.bool true) ∧ Below w.heap.size w w2 := by
  have hs := Rc.size hx
  have hal := Lib.hid (fun W => alive20 W)
  have hof := Lib.hid (fun W => of20_any x hx W)
  have hsz : (Tryd.prog.info? 31).map (·.size) = some x.list.toArray.size := by rw [hs]; kernel_rfl
  have hszR : (Tryd.prog.info? 34).map (·.size) = some x.list.toArray.size := by rw [hs]; kernel_rfl
  have hzR : (Tryd.zeroCells34).size = x.list.toArray.size := by rw [hs]; kernel_rfl
  have hzG : (Tryd.zeroCells31).size = x.list.toArray.size := by rw [hs]; kernel_rfl
  have hVo := Rc.all_one x
  have c3 : ∀ W : World, W.heap[w.heap.size]? = some (.cells x.list.toArray 31 (0, 0)) → W.cell? ⟨w.heap.size, 3, none⟩ = some (.string x.name) := fun W h => by rw [cell_of_block h, List.getElem?_toArray]; exact x.c3
  replace c3 := Lib.hid c3
  have hu := Tryd.underlying31
  have huR := Tryd.underlying34
  obtain ⟨L, hL⟩ : ∃ L : Int, (x.name.size : Int) = L := ⟨_, rfl⟩
  have hlt : 100 < L := by omega
  have H := True.intro
  generalize x.list.toArray = R at *
  generalize x.name = nm at *
  have hrow := Lib.hid (heap_alloc_new w (.cells R 31))
  have hb := Lib.hid (show Below w.heap.size w (w.alloc (.cells R 31)) from (Below.refl _ _).alloc (Nat.le_refl _) _)
  replace H := Lib.hid H
  go_enter Tryd.func4, Tryd.ntmps4
  go_wp2_with fail
  with_reducible refine (hal.out _).mono ?_
  rintro e w1 ⟨rfl, hn⟩
  have hrow1 := Lib.hid ((hn.block _ (block_lt hrow.out)).trans hrow.out)
  have hb1 := Lib.hid (hb.out.trans (hn.mono hb.out.size))
  have k3 := c3.out _ hrow1.out
  clear hn
  go_wp2_with fail
  go_ret
  exact ⟨rfl, hb1.out⟩

set_option maxRecDepth 100000 in
set_option maxHeartbeats 2000000 in
theorem rb_bad (x : Rc) (hx : x.Ok) (hl : x.name.size ≤ 100) (hc : x.chk ≠ 0) (ea : Nat → Addr) (w : World) (H : Errs 132 errGs w ea) : Calls Tryd.prog 4 #[.agg x.list.toArray] w fun e w2 => e = .returned (.bool true) ∧ Below w.heap.size w w2 := by
  have hs := Rc.size hx
  have hal := Lib.hid (fun W => alive20 W)
  have hof := Lib.hid (fun W => of20_any x hx W)
  have hsz : (Tryd.prog.info? 31).map (·.size) = some x.list.toArray.size := by rw [hs]; kernel_rfl
  have hszR : (Tryd.prog.info? 34).map (·.size) = some x.list.toArray.size := by rw [hs]; kernel_rfl
  have hzR : (Tryd.zeroCells34).size = x.list.toArray.size := by rw [hs]; kernel_rfl
  have hzG : (Tryd.zeroCells31).size = x.list.toArray.size := by rw [hs]; kernel_rfl
  have hVo := Rc.all_one x
  have c3 : ∀ W : World, W.heap[w.heap.size]? = some (.cells x.list.toArray 31 (0, 0)) → W.cell? ⟨w.heap.size, 3, none⟩ = some (.string x.name) := fun W h => by rw [cell_of_block h, List.getElem?_toArray]; exact x.c3
  replace c3 := Lib.hid c3
  have hu := Tryd.underlying31
  have huR := Tryd.underlying34
  obtain ⟨L, hL⟩ : ∃ L : Int, (x.name.size : Int) = L := ⟨_, rfl⟩
  have hlt : ¬ 100 < L := by omega
  have hby := Lib.hid (fun W h => bytes_bad x hx hc ea W h)
  have hrb := rbytes_bad x hx hc
  have hck := Lib.hid (fun W h => check_any x hx ea W h)
  have hnm : ∀ W v, ErrIs ea W v x.chk → Errs 132 errGs W ea → Calls Tryd.prog 12 #[v] W fun e w2 => e = .returned (.int .i64 (x.chk : Int)) ∧ Below W.heap.size W w2 := fun W v h1 h2 => num_is h1 h2
  have hNb : ((x.chk : Int) != 0) = true := by simpa using hc
  have hcv := fun W => convB (w := W) (a := none) (c := 0) (bs := []) (argB_empty (by decide) (fun _ => rfl)) 0 rfl
  generalize hN : (x.chk : Int) = N at *
  replace hrb := Lib.hid hrb
  replace hnm := Lib.hid hnm
  generalize x.list.toArray = R at *
  generalize x.name = nm at *
  have hrow := Lib.hid (heap_alloc_new w (.cells R 31))
  have hb := Lib.hid (show Below w.heap.size w (w.alloc (.cells R 31)) from (Below.refl _ _).alloc (Nat.le_refl _) _)
  replace H := Lib.hid H
  go_enter Tryd.func4, Tryd.ntmps4
  go_wp2_with fail
  with_reducible refine (hal.out _).mono ?_
  rintro e w1 ⟨rfl, hn⟩
  have hrow1 := Lib.hid ((hn.block _ (block_lt hrow.out)).trans hrow.out)
  have hb1 := Lib.hid (hb.out.trans (hn.mono hb.out.size))
  have k3 := c3.out _ hrow1.out
  clear hn
  go_wp2_with (with_reducible refine wpList_load_row rfl 31 (.tmp 1) rfl w.heap.size R _ rfl hrow1 hu rfl hsz ?_)
  with_reducible refine (hof.out _).mono ?_
  rintro e w2 ⟨rfl, hn⟩
  have hrow2 := Lib.hid ((hn.block _ (block_lt hrow1.out)).trans hrow1.out)
  have hb2 := Lib.hid (hb1.out.trans (hn.mono hb1.out.size))
  clear hn
  have hZ2 := Lib.hid (heap_alloc_new w2 (.cells Tryd.zeroCells34 34))
  go_wp2_with (first
    | ((with_reducible show wpList _ _ _ (Oper.mk _ (Op.store 34 (.tmp 3) _) _ _ _ _ :: _) _ _); (refine wpList_store_row rfl 34 (.tmp 3) (.tmp 16) rfl w2.heap.size _ R rfl rfl hZ2 hszR hzR hVo ?_); intro w3 hU3; have hn3 : Below w2.heap.size w2 w3 := (Below.alloc (Below.refl w2.heap.size w2) (Nat.le_refl _) (.cells Tryd.zeroCells34 34)).trans (hU3.out.below (Nat.le_refl _)); have hrow3 := Lib.hid ((hn3.block _ (block_lt hrow2.out)).trans hrow2.out); have hb3 := Lib.hid (hb2.out.trans (hn3.mono hb2.out.size)); have hy3 := Lib.hid hU3.out.here; clear hn3)
    | (with_reducible refine wpList_load_row rfl 31 (.tmp 1) rfl w.heap.size R _ rfl hrow3 hu rfl hsz ?_))
  with_reducible refine (hby.out _ (H.out.below hb3.out)).mono ?_
  rintro e w4 ⟨v4, rfl, hv4, hn⟩
  have hrow4 := Lib.hid ((hn.block _ (block_lt hrow3.out)).trans hrow3.out)
  have hb4 := Lib.hid (hb3.out.trans (hn.mono hb3.out.size))
  have hy4 := Lib.hid ((hn.block _ (block_lt hy3.out)).trans hy3.out)
  clear hn
  go_wp2_with (with_reducible refine wpList_load_row rfl 34 (.tmp 3) rfl w2.heap.size R _ rfl hy4 huR rfl hszR ?_)
  with_reducible refine (hrb.out _).mono ?_
  rintro e w5 ⟨rfl, hn⟩
  have hrow5 := Lib.hid ((hn.block _ (block_lt hrow4.out)).trans hrow4.out)
  have hb5 := Lib.hid (hb4.out.trans (hn.mono hb4.out.size))
  have hv5 := Lib.hid (hv4.below hn)
  clear hn hv4
  go_wp2_with (with_reducible refine wpList_load_row rfl 31 (.tmp 1) rfl w.heap.size R _ rfl hrow5 hu rfl hsz ?_)
  with_reducible refine (hck.out _ (H.out.below hb5.out)).mono ?_
  rintro e w6 ⟨v6, rfl, hv6, hn⟩
  have hb6 := Lib.hid (hb5.out.trans (hn.mono hb5.out.size))
  have hv56 := Lib.hid (hv5.out.below hn)
  clear hn
  go_wp2_with fail
  with_reducible refine (hnm.out _ _ hv6 (H.out.below hb6.out)).mono ?_
  rintro e w7 ⟨rfl, hn⟩
  have hb7 := Lib.hid (hb6.out.trans (hn.mono hb6.out.size))
  have hv7 := Lib.hid (hv56.out.below hn)
  clear hn hv6
  go_wp2_with fail
  with_reducible refine (hnm.out _ _ hv7.out (H.out.below hb7.out)).mono ?_
  rintro e w8 ⟨rfl, hn⟩
  have hb8 := Lib.hid (hb7.out.trans (hn.mono hb7.out.size))
  clear hn
  go_wp2_with fail
  go_ret
  exact ⟨rfl, hb8.out⟩

set_option maxRecDepth 100000 in
set_option maxHeartbeats 2000000 in
theorem rb_good (x : Rc) (hx : x.Ok) (hl : x.name.size ≤ 100) (hc : x.chk = 0) (ea : Nat → Addr) (w : World) (H : Errs 132 errGs w ea) : Calls Tryd.prog 4 #[.agg x.list.toArray] w fun e w2 => e = .returned (.bool true) ∧ Below w.heap.size w w2 := by
  have hs := Rc.size hx
  have hal := Lib.hid (fun W => alive20 W)
  have hof := Lib.hid (fun W => of20_any x hx W)
  have hsz : (Tryd.prog.info? 31).map (·.size) = some x.list.toArray.size := by rw [hs]; kernel_rfl
  have hszR : (Tryd.prog.info? 34).map (·.size) = some x.list.toArray.size := by rw [hs]; kernel_rfl
  have hzR : (Tryd.zeroCells34).size = x.list.toArray.size := by rw [hs]; kernel_rfl
  have hzG : (Tryd.zeroCells31).size = x.list.toArray.size := by rw [hs]; kernel_rfl
  have hVo := Rc.all_one x
  have c3 : ∀ W : World, W.heap[w.heap.size]? = some (.cells x.list.toArray 31 (0, 0)) → W.cell? ⟨w.heap.size, 3, none⟩ = some (.string x.name) := fun W h => by rw [cell_of_block h, List.getElem?_toArray]; exact x.c3
  replace c3 := Lib.hid c3
  have hu := Tryd.underlying31
  have huR := Tryd.underlying34
  obtain ⟨L, hL⟩ : ∃ L : Int, (x.name.size : Int) = L := ⟨_, rfl⟩
  have hlt : ¬ 100 < L := by omega
  have hby := Lib.hid (fun W h => bytes_good x hx hc ea W h)
  have hrb := Lib.hid (fun W => rbytes_good x hx hc W)
  have hck := Lib.hid (fun W h => check0 x hx hc ea W h)
  have hnz := Lib.hid (fun W => num_nil W)
  have hol := Lib.hid (out_le x hx hc)
  have hpg := Lib.hid (fun W a c n h1 h2 h3 h4 h5 => parse_good x hx hc a c n W h1 h2 h3 h4 ea h5)
  have heq := fun W => (neq_rcG x x hx hx W).2
  have hdd : (decide (x = x)) = true := by simp
  rw [hdd] at heq
  obtain ⟨n, hn0⟩ : ∃ n, x.out.length = n := ⟨_, rfl⟩
  generalize hR : x.list.toArray = R at *
  generalize x.name = nm at *
  have hszL : (Tryd.prog.info? 31).map (·.size) = some R.toList.length := by rw [Array.length_toList]; exact hsz
  have hwhole : (R.toList.drop 0).take 78 = R.toList := by rw [List.drop_zero]; exact List.take_of_length_le (by rw [Array.length_toList, hs]; decide)
  replace hwhole := Lib.hid hwhole
  have hrow := Lib.hid (heap_alloc_new w (.cells R 31))
  have hb := Lib.hid (show Below w.heap.size w (w.alloc (.cells R 31)) from (Below.refl _ _).alloc (Nat.le_refl _) _)
  replace H := Lib.hid H
  go_enter Tryd.func4, Tryd.ntmps4
  go_wp2_with fail
  with_reducible refine (hal.out _).mono ?_
  rintro e w1 ⟨rfl, hn⟩
  have hrow1 := Lib.hid ((hn.block _ (block_lt hrow.out)).trans hrow.out)
  have hb1 := Lib.hid (hb.out.trans (hn.mono hb.out.size))
  have k3 := c3.out _ hrow1.out
  clear hn
  go_wp2_with (with_reducible refine wpList_load_row rfl 31 (.tmp 1) rfl w.heap.size R _ rfl hrow1 hu rfl hsz ?_)
  with_reducible refine (hof.out _).mono ?_
  rintro e w2 ⟨rfl, hn⟩
  have hrow2 := Lib.hid ((hn.block _ (block_lt hrow1.out)).trans hrow1.out)
  have hb2 := Lib.hid (hb1.out.trans (hn.mono hb1.out.size))
  clear hn
  have hZ2 := Lib.hid (heap_alloc_new w2 (.cells Tryd.zeroCells34 34))
  go_wp2_with (first
    | ((with_reducible show wpList _ _ _ (Oper.mk _ (Op.store 34 (.tmp 3) _) _ _ _ _ :: _) _ _); (refine wpList_store_row rfl 34 (.tmp 3) (.tmp 16) rfl w2.heap.size _ R rfl rfl hZ2 hszR hzR hVo ?_); intro w3 hU3; have hn3 : Below w2.heap.size w2 w3 := (Below.alloc (Below.refl w2.heap.size w2) (Nat.le_refl _) (.cells Tryd.zeroCells34 34)).trans (hU3.out.below (Nat.le_refl _)); have hrow3 := Lib.hid ((hn3.block _ (block_lt hrow2.out)).trans hrow2.out); have hb3 := Lib.hid (hb2.out.trans (hn3.mono hb2.out.size)); have hy3 := Lib.hid hU3.out.here; clear hn3)
    | (with_reducible refine wpList_load_row rfl 31 (.tmp 1) rfl w.heap.size R _ rfl hrow3 hu rfl hsz ?_))
  with_reducible refine (hby.out _ (H.out.below hb3.out)).mono ?_
  rintro e w4 ⟨v4, rfl, ho4, hn⟩
  have hrow4 := Lib.hid ((hn.block _ (block_lt hrow3.out)).trans hrow3.out)
  have hb4 := Lib.hid (hb3.out.trans (hn.mono hb3.out.size))
  have hy4 := Lib.hid ((hn.block _ (block_lt hy3.out)).trans hy3.out)
  obtain ⟨g4, c4, rfl, _⟩ := ho4.form hol.out.1
  have hg4 := (World.ownsRow.lt ho4 g4 rfl).2
  obtain ⟨a4, cc4, e4, ha4, _⟩ := ho4.arg
  cases e4
  rw [hn0]
  replace ha4 := Lib.hid ha4
  replace hg4 := Lib.hid hg4
  clear hn ho4
  go_wp2_with (with_reducible refine wpList_load_row rfl 34 (.tmp 3) rfl w2.heap.size R _ rfl hy4 huR rfl hszR ?_)
  with_reducible refine (hrb.out _).mono ?_
  rintro e w5 ⟨v5, rfl, ho5, hn⟩
  have hrow5 := Lib.hid ((hn.block _ (block_lt hrow4.out)).trans hrow4.out)
  have hb5 := Lib.hid (hb4.out.trans (hn.mono hb4.out.size))
  obtain ⟨a5, c5, rfl, ha5, _⟩ := ho5.arg
  rw [hn0]
  replace ha5 := Lib.hid ha5
  replace ha4 := Lib.hid (ha4.out.below hn)
  replace hg4 := Lib.hid (Nat.lt_of_lt_of_le hg4.out hn.size)
  clear hn ho5
  go_wp2_with (with_reducible refine wpList_load_row rfl 31 (.tmp 1) rfl w.heap.size R _ rfl hrow5 hu rfl hsz ?_)
  with_reducible refine (hck.out _ (H.out.below hb5.out)).mono ?_
  rintro e w6 ⟨rfl, hn⟩
  have hrow6 := Lib.hid ((hn.block _ (block_lt hrow5.out)).trans hrow5.out)
  have hb6 := Lib.hid (hb5.out.trans (hn.mono hb5.out.size))
  replace ha4 := Lib.hid (ha4.out.below hn)
  replace ha5 := Lib.hid (ha5.out.below hn)
  replace hg4 := Lib.hid (Nat.lt_of_lt_of_le hg4.out hn.size)
  clear hn
  have cv4 := convB ha4.out n hn0
  have cv5 := convB ha5.out n hn0
  go_wp2_with fail
  with_reducible refine (hnz.out _).mono ?_
  rintro e w7 ⟨rfl, rfl⟩
  go_wp2_with fail
  with_reducible refine (hnz.out _).mono ?_
  rintro e w8 ⟨rfl, rfl⟩
  go_wp2_with fail
  with_reducible refine (hpg.out _ _ _ _ ha4.out hn0 (by rw [← hn0]; exact hol.out.2) (fun ad e => by cases e; exact ⟨_, _, rfl, hg4.out⟩) (H.out.below hb6.out)).mono ?_
  rintro e w9 ⟨rfl, hn⟩
  have hrow9 := Lib.hid ((hn.block _ (block_lt hrow6.out)).trans hrow6.out)
  have hb9 := Lib.hid (hb6.out.trans (hn.mono hb6.out.size))
  clear hn cv4 cv5
  rw [hR]
  have hZ9 := Lib.hid (heap_alloc_new w9 (.cells Tryd.zeroCells31 31))
  go_wp2_with (first
    | ((with_reducible show wpList _ _ _ (Oper.mk _ (Op.store 31 (.tmp 8) _) _ _ _ _ :: _) _ _); (refine wpList_store_row rfl 31 (.tmp 8) (.tmp 50) rfl w9.heap.size _ R rfl rfl hZ9 hsz hzG hVo ?_); intro w10 hU10; have hn10 : Below w9.heap.size w9 w10 := (Below.alloc (Below.refl w9.heap.size w9) (Nat.le_refl _) (.cells Tryd.zeroCells31 31)).trans (hU10.out.below (Nat.le_refl _)); have hrow10 := Lib.hid ((hn10.block _ (block_lt hrow9.out)).trans hrow9.out); have hb10 := Lib.hid (hb9.out.trans (hn10.mono hb9.out.size)); have hy10 := hU10.out.here; have hm1 := rangeAt_sub hy10 (o := 0) (n := 78) hwhole.out; have hm2 := rangeAt_sub hrow10.out (o := 0) (n := 78) hwhole.out; replace hm1 := Lib.hid hm1; replace hm2 := Lib.hid hm2; clear hn10)
    | (refine wpList_load_midG rfl 31 (.tmp 8) rfl w9.heap.size 0 rfl R.toList _ hm1.out hu rfl hszL R (Lib.hid rfl) ?_)
    | (refine wpList_load_midG rfl 31 (.tmp 1) rfl w.heap.size 0 rfl R.toList _ hm2.out hu rfl hszL R (Lib.hid rfl) ?_))
  go_ret
  exact ⟨rfl, hb10.out⟩
theorem rb_law (x : Rc) (w : World) (hx : x.Ok) (ea : Nat → Addr) (H : Errs 132 errGs w ea) : Calls Tryd.prog 4 #[.agg x.list.toArray] w fun e w2 => e = .returned (.bool true) ∧ Below w.heap.size w w2 := by
  by_cases hl : 100 < x.name.size
  · exact rb_long x hx hl w
  · by_cases hc : x.chk = 0
    · exact rb_good x hx (by omega) hc ea w H
    · exact rb_bad x hx (by omega) hc ea w H
end Go.Proofs.YtahnicbokdbjdaaDoor
