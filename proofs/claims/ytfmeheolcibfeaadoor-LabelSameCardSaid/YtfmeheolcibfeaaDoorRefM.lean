/- The walks over baileeref08.Of, baileeref08.Tag. -/
import Derived.Test.YtfmeheolcibfeaaDoorRefB
import Derived.Test.YtfmeheolcibfeaaDoorOwnW
import Derived.Test.YtfmeheolcibfeaaDoorMacN
import Derived.Deep.CutRange
namespace Go.Proofs.YtfmeheolcibfeaaDoor
open Go.RowKit

theorem aggR : Tryd.prog.underlying 48 = some (.array 32 5) := Tryd.underlying48
theorem sizeR (l : List UInt8) (hl : l.length = 32) : (Tryd.prog.info? 48).map (·.size) = some (cB l).toArray.size := by rw [List.size_toArray, cB_length, hl]; kernel_rfl

/-- A key with noughts behind it. -/
def kzero (key : List UInt8) (j : Nat) : List UInt8 := kcut key ++ List.replicate j 0
theorem kzero_succ (key : List UInt8) (j : Nat) : kzero key (j + 1) = kzero key j ++ [0] := by simp [kzero, List.replicate_succ']
theorem kzero_length (key : List UInt8) (j : Nat) : (kzero key j).length = (kcut key).length + j := by simp [kzero]
theorem kzero_end (key : List UInt8) : kzero key (64 - (kcut key).length) = kpad key := rfl
/-- Two rows of the call's own. -/
structure TwoSt (w : World) (v u : Value) (A B : List UInt8) (W : World) : Prop where
  own : OwnB w.heap.size W v A
  own2 : OwnB w.heap.size W u B
  apart : Apart2 v u
  bel : Grown w W
theorem TwoSt.next {w : World} {v u v' : Value} {A B A' : List UInt8} {W W' : World} (h : TwoSt w v u A B W) (ho : OwnB w.heap.size W' v' A') (hg : W.grownBy W' v.ownBlock) (hm : Moved W v v') : TwoSt w v' u A' B W' := by
  have hb : Below w.heap.size W W' := (Below.refl _ W).grown hg h.bel.size (fun k hk => (World.ownsRow.lt h.own k hk).1)
  exact ⟨ho, h.own2.other hg h.apart, h.apart.moved hm h.own2.lt, Below.trans h.bel hb⟩
theorem TwoSt.swap {w : World} {v u : Value} {A B : List UInt8} {W : World} (h : TwoSt w v u A B W) : TwoSt w u v B A W := ⟨h.own2, h.own, h.apart.symm, h.bel⟩
theorem two_start (w : World) : TwoSt w (.slice (some ⟨w.heap.size, 0, none⟩) 0 0) (.slice (some ⟨w.heap.size + 1, 0, none⟩) 0 0) [] [] ((w.alloc (.cells #[] 5)).alloc (.cells #[] 5)) := by
  have h1 := owns_made0 w w.heap.size (Nat.le_refl _)
  have h2 := owns_made0 (w.alloc (.cells #[] 5)) w.heap.size (by simp)
  rw [show (w.alloc (.cells #[] 5)).heap.size = w.heap.size + 1 from by simp] at h2
  refine ⟨h1.below ((Below.refl (w.alloc (.cells #[] 5)).heap.size _).alloc (Nat.le_refl _) _) (Nat.le_refl _), h2, ?_, ((Below.refl _ w).alloc (Nat.le_refl _) _).alloc (by simp) _⟩
  intro k hk hk2
  simp [Value.ownBlock] at hk hk2
  omega
theorem take_map_succ (l : List UInt8) (y : UInt8) (i : Nat) (h : i < l.length) : ((l.take (i + 1)).map (· ^^^ y)) = (l.take i).map (· ^^^ y) ++ [cf l i ^^^ y] := by
  rw [List.take_add_one, List.map_append, List.getElem?_eq_getElem h, cf_lt h]
  rfl

set_option maxRecDepth 100000 in
set_option maxHeartbeats 4000000 in
theorem rmacOf_any (ak : Option Addr) (ck : Nat) (key : List UInt8) (am : Option Addr) (cm : Nat) (m : List UInt8) (w : World) (hk : ArgB w ak ck key) (hkl : key.length ≤ 10000) (hm : ArgB w am cm m) (hml : m.length ≤ 90000) (hK : RefK w) (hF : RefF w) :
    Calls Tryd.prog 23 #[.slice ak key.length ck, .slice am m.length cm] w fun e w' => e = .returned (.agg (cB (hmac key m)).toArray) ∧ Below w.heap.size w w' := by
  have zr := zeroR_run
  have zn := zero32_ne
  have hown := owns_made0 (w.alloc (.cells zero32 48)) (w.heap.size + 1) (by simp)
  have hb0 : Below w.heap.size w ((w.alloc (.cells zero32 48)).alloc (.cells #[] 5)) := ((Below.refl _ w).alloc (Nat.le_refl _) _).alloc (by simp) _
  have hres0 : ((w.alloc (.cells zero32 48)).alloc (.cells #[] 5)).heap[w.heap.size]? = some (.cells zero32 48 (0, 0)) := by
    rw [Below.heap_alloc _ _ _ (by simp)]; exact heap_alloc_new w _
  have ha2 := Lib.hid (hk.below hb0)
  have hnum : w.heap.size + 1 ≤ ((w.alloc (.cells zero32 48)).alloc (.cells #[] 5)).heap.size := by simp
  rw [show (w.alloc (.cells zero32 48)).heap.size = w.heap.size + 1 from by simp] at hown
  replace hown := Lib.hid hown
  replace hb0 := Lib.hid hb0
  replace hres0 := Lib.hid hres0
  replace hm := Lib.hid hm
  replace hK := Lib.hid hK
  replace hF := Lib.hid hF
  have hkc := kcut_le key
  go_enter Tryd.func23, Tryd.ntmps23
  go_wp2_with (at_builtin; go_must (refine wpB_app rfl (.tmp 12) (.tmp 13) rfl (w.heap.size + 1) _ [] rfl hown ak ck key key.length rfl (Lib.hid rfl) ha2 (by simp) (by omega) hnum ?_))
  intro v2 w2 ho2 hd2
  have hS := Lib.hid (show AllSt w v2 key w2 from ⟨by simpa using ho2.out, (hd2.out.block _ (Nat.lt_succ_self _)).trans hres0.out, hb0.out.trans (hd2.out.mono (Nat.le_succ _)), Nat.le_trans hnum hd2.out.size⟩)
  clear ho2 hd2 hown ha2 hnum hb0 hres0
  obtain ⟨a3, c3, rfl, ha3, _⟩ := hS.out.own.arg
  replace ha3 := Lib.hid ha3
  go_upto_if 17 with fail
  go_cut [5] from 15 to 22 (fun s5 wx => AllSt w s5 (kcut key) wx)
  case first =>
    by_cases hlong : 64 < key.length
    · have hlk : (64 : Int) < key.length := by omega
      have hcut := Lib.hid (show kcut key = sha key from by unfold kcut; rw [if_pos hlong])
      have hsiz := hS.out.siz
      have hsh := Lib.hid (rshaOf_any a3 c3 key w2 ha3.out (by omega) (hK.out.below hS.out.bel) (hF.out.below hS.out.bel))
      have hszD := sizeR (sha key) (sha_length _)
      have hs32 := z32 (sha key) (sha_length _)
      have hone := cB_all (sha key)
      have hlen := sha_length key
      go_wp2_with fail
      with_reducible refine hsh.out.mono ?_
      rintro e w4 ⟨rfl, hb4⟩
      have hS4 := Lib.hid (hS.out.next (hS.out.own.below hb4 (Nat.le_refl _)) (hb4.mono hS.out.siz))
      have hsz4 := hb4.size
      clear hb4 hS
      obtain ⟨D, hD⟩ : ∃ D, D = (cB (sha key)).toArray := ⟨_, rfl⟩
      rw [← hD] at hszD hs32 hone ⊢
      have hDarg : ArgB (w4.alloc (.cells D 48)) (some ⟨w4.heap.size, 0, none⟩) 32 (sha key) := argB_block (by rw [← hD]; exact heap_alloc_new w4 _) (by omega) (by omega)
      have hd5 := (Below.refl (w4.alloc (.cells D 48)).heap.size (w4.alloc (.cells D 48))).alloc (Nat.le_refl _) (.cells #[] 5)
      have hS5 := Lib.hid (show AllSt w (.slice (some ⟨(w4.alloc (.cells D 48)).heap.size, 0, none⟩) 0 0) [] ((w4.alloc (.cells D 48)).alloc (.cells #[] 5)) from
        hS4.out.next (owns_made0 (w4.alloc (.cells D 48)) (w.heap.size + 1) (by simp; omega)) ((((Below.refl w4.heap.size w4).alloc (Nat.le_refl _) _).alloc (by simp) _).mono hS4.out.siz))
      replace hDarg := Lib.hid (hDarg.below hd5)
      rw [show (w4.alloc (.cells D 48)).heap.size = w4.heap.size + 1 from by simp] at hS5
      have hown5 := Lib.hid hS5.out.own
      have hsz5 := hS5.out.siz
      have hl32 := Lib.hid hlen
      replace hD := Lib.hid hD
      clear hd5 hS4 hlen
      go_wp2_with (first | with_reducible refine wpList_store_new rfl 48 (.tmp 6) (.tmp 19) rfl zero32 D rfl rfl hszD hs32 hone ?_ | (at_builtin; refine wpB_app rfl (.tmp 20) (.tmp 21) rfl (w.heap.size + 1) _ [] rfl hown5 (some ⟨w4.heap.size, 0, none⟩) 32 (sha key) 32 rfl hl32 hDarg (by simp) (by omega) hsz5 ?_))
      intro v6 w6 ho6 hd6
      have hS6 := Lib.hid (hS5.out.next (by simpa using ho6.out) hd6.out)
      rw [← hcut.out] at hS6
      clear ho6 hd6 hS5 hown5 hsz5
      go_wp2_with fail
      go_meet
      exact hS6.out
    · have hlk : ¬ (64 : Int) < key.length := by omega
      have hcut := Lib.hid (show kcut key = key from by unfold kcut; rw [if_neg hlong])
      go_wp2_with fail
      go_meet
      rw [hcut.out]
      exact hS.out
  case rest =>
    clear hS ha3
    have hS := Lib.hid hcut
    clear hcut
    go_wp2_with fail
    go_loopw [5] (fun v wr => ∃ k : Nat, k ≤ 64 - (kcut key).length ∧ AllSt w v (kzero key k) wr) (fun v _ => 64 - slLen v)
    case atStart => exact ⟨0, Nat.zero_le _, by rw [show kzero key 0 = kcut key from by simp [kzero]]; exact hS.out⟩
    case round =>
      clear hS
      obtain ⟨k, hkk, hS⟩ := hrel
      obtain ⟨a3, c3, rfl, _, _⟩ := hS.own.arg
      have hpl := kzero_length key k
      have hps := Lib.hid (kzero_succ key k)
      have hown := Lib.hid hS.own
      have hsiz := hS.siz
      replace hS := Lib.hid hS
      by_cases hlt : k < 64 - (kcut key).length
      · have hne : ((kzero key k).length : Int) < 64 := by omega
        have hll : (kzero key k).length ≤ 1000000 := by omega
        replace hpl := Lib.hid hpl
        generalize hT : kzero key k = T at *
        go_wp2_with (at_builtin; go_must (refine wpB_app1z rfl (.tmp 26) (.tmp 27) rfl (w.heap.size + 1) _ T rfl hown 0 0 rfl rfl hll hsiz ?_))
        intro v5 w5 ho5 hd5
        have hS5 := Lib.hid (hS.out.next (by rw [← hps.out] at ho5; exact ho5.out) hd5.out)
        obtain ⟨a5, c5, hv5, _, _⟩ := ho5.out.arg
        rw [hv5] at hS5 ⊢
        clear ho5 hd5
        go_wp2_with fail
        go_roundw
        case rel => exact ⟨k + 1, by omega, hS5.out⟩
        case measure => have := hpl.out; simp [slLen]; omega
      · obtain rfl : k = 64 - (kcut key).length := by omega
        have hlen := Lib.hid (kpad_length key)
        have hip := Lib.hid (show (kpad key).map (· ^^^ 54) = ipad key from rfl)
        have hop := Lib.hid (show (kpad key).map (· ^^^ 92) = opad key from rfl)
        rw [kzero_end] at hS hown hpl ⊢
        have hne : ¬ ((kpad key).length : Int) < 64 := by rw [hlen.out]; omega
        clear hpl hps
        generalize kpad key = KP at *
        replace hne := Lib.hid hne
        have hT0 := Lib.hid (two_start wr)
        have hKarg := Lib.hid hown.out.arg
        generalize wr = w5 at *
        have hll : KP.length = 64 := hlen.out
        rw [hll] at hown hS hKarg ⊢
        replace hll := Lib.hid hll
        clear hne
        go_wp2_with fail
        go_loopw [7, 8, 33] (fun v u j wq => ∃ i : Nat, i ≤ 64 ∧ j = .int .i64 i ∧ TwoSt w5 v u ((KP.take i).map (· ^^^ 54)) ((KP.take i).map (· ^^^ 92)) wq) (fun _ _ j _ => 64 - (intOf j).toNat)
        case atStart => exact ⟨0, Nat.zero_le _, rfl, hT0.out⟩
        case round =>
          clear hT0
          obtain ⟨i, hi, rfl, hT⟩ := hrel
          by_cases hlt : i < 64
          · have hi64 : (i : Int) < 64 := by omega
            obtain ⟨ka, kc, hkv, hka, _⟩ := hKarg.out
            cases hkv
            have hkr := (hka.below hT.bel).row
            obtain ⟨bk, ok, rfl, ck0⟩ := hkr i (by rw [hll.out]; exact hlt)
            rw [show KP.getD i 0 = cf KP i from rfl] at ck0
            have t1 := Lib.hid (take_map_succ KP 54 i (by rw [hll.out]; exact hlt))
            have t2 := Lib.hid (take_map_succ KP 92 i (by rw [hll.out]; exact hlt))
            have x1 : bits BinOp.xor IntKind.u8 ((cf KP i).toNat : Int) 54 = ((cf KP i ^^^ 54).toNat : Int) := xor8 (cf KP i) 54
            have x2 : bits BinOp.xor IntKind.u8 ((cf KP i).toNat : Int) 92 = ((cf KP i ^^^ 92).toNat : Int) := xor8 (cf KP i) 92
            generalize cf KP i ^^^ 54 = y1 at *
            generalize cf KP i ^^^ 92 = y2 at *
            have hl1 : ((KP.take i).map (· ^^^ 54)).length ≤ 1000000 := by rw [List.length_map]; have := List.length_take_le i KP; omega
            have hl2 : ((KP.take i).map (· ^^^ 92)).length ≤ 1000000 := by rw [List.length_map]; have := List.length_take_le i KP; omega
            generalize (KP.take i).map (· ^^^ 54) = A at *
            generalize (KP.take i).map (· ^^^ 92) = B at *
            have o1 := Lib.hid hT.own
            have hsz := hT.bel.size
            replace hT := Lib.hid hT
            clear hka hkr
            go_wp2_with (at_builtin; go_must (refine wpB_app1w rfl (.tmp 37) (.tmp 40) rfl w5.heap.size _ A rfl o1 y1 _ rfl rfl hl1 hsz ?_))
            intro va wa h1 g1 m1
            have hT1 := hT.out.next h1.out g1.out m1.out
            have o2 := Lib.hid hT1.own2
            have hsz2 := hT1.bel.size
            replace hT1 := Lib.hid hT1
            clear h1 g1 m1 o1 hT
            go_wp2_with (at_builtin; go_must (refine wpB_app1w rfl (.tmp 42) (.tmp 45) rfl w5.heap.size _ B rfl o2 y2 _ rfl rfl hl2 hsz2 ?_))
            intro vb wb h1 g1 m1
            have hT2 := Lib.hid (hT1.out.swap.next h1.out g1.out m1.out).swap
            clear h1 g1 m1 o2 hT1
            go_wp2_with fail
            go_roundw
            case rel => exact ⟨i + 1, by omega, by go_num, by rw [t1.out, t2.out]; exact hT2.out⟩
            case measure => simp [intOf]; omega
          · obtain rfl : i = 64 := by omega
            rw [← hll.out, List.take_length, hip.out, hop.out] at hT
            obtain ⟨aa, ca, rfl, _, _⟩ := hT.own.arg
            have oa := Lib.hid hT.own
            have hsz := hT.bel.size
            have hil := ipad_length key
            have hol := opad_length key
            have hil2 := Lib.hid (show (ipad key).length ≤ 1000000 from by rw [hil]; omega)
            have hmm := Lib.hid ((hm.out.below hS.out.bel).below hT.bel)
            have hbw := Lib.hid (hS.out.bel.trans (hT.bel.mono hS.out.bel.size))
            have hres := Lib.hid ((hT.bel.block _ (block_lt hS.out.res)).trans hS.out.res)
            have hps := Lib.hid (show w.heap.size < w5.heap.size from block_lt hS.out.res)
            have hL1 := sha_length (ipad key ++ m)
            have hle1 : (ipad key ++ m).length ≤ 100000 := by rw [List.length_append, hil]; omega
            have hle2 : (opad key ++ sha (ipad key ++ m)).length ≤ 100000 := by rw [List.length_append, hol, hL1]; omega
            have hfin := Lib.hid (show sha (opad key ++ sha (ipad key ++ m)) = hmac key m from rfl)
            have hzD := sizeR (sha (ipad key ++ m)) hL1
            have hz3 := z32 (sha (ipad key ++ m)) hL1
            have hzo := cB_all (sha (ipad key ++ m))
            have hzE := sizeR (hmac key m) (hmac_length _ _)
            have hz4 := z32 (hmac key m) (hmac_length _ _)
            have hzp := cB_all (hmac key m)
            replace hT := Lib.hid hT
            replace hle1 := Lib.hid hle1
            replace hle2 := Lib.hid hle2
            replace hL1 := Lib.hid hL1
            replace hil := Lib.hid hil
            replace hol := Lib.hid hol
            clear hip hop hS hKarg hlen hll hown
            obtain ⟨D, hD⟩ : ∃ D, D = (cB (sha (ipad key ++ m))).toArray := ⟨_, rfl⟩
            rw [← hD] at hzD hz3 hzo
            obtain ⟨E, hE⟩ : ∃ E, E = (cB (hmac key m)).toArray := ⟨_, rfl⟩
            rw [← hE] at hzE hz4 hzp
            replace hD := Lib.hid hD
            replace hE := Lib.hid hE
            have hn64 : ((ipad key).length : Int) = 64 := by rw [hil.out]; rfl
            replace hn64 := Lib.hid hn64
            have hlt64 : ¬ ((64 : Nat) : Int) < 64 := by omega
            generalize hip : ipad key = IP at *
            generalize hop : opad key = OP at *
            replace hip := Lib.hid hip
            replace hop := Lib.hid hop
            go_wp2_with (at_builtin; go_must (refine wpB_appG rfl (.tmp 48) (.tmp 49) rfl w5.heap.size _ IP rfl oa am cm m m.length rfl (Lib.hid rfl) hmm hil2.out (by omega) hsz ?_))
            intro v6 w6 o6 b6 g6
            have ob6 := hT.out.own2.other g6.out hT.out.apart
            obtain ⟨a6, c6, rfl, h6, _⟩ := o6.out.arg
            have hb6 := Lib.hid (hbw.out.trans (b6.out.mono (Nat.le_of_lt hps.out)))
            have hr6 := Lib.hid ((b6.out.block _ hps.out).trans hres.out)
            have hs6 := Nat.le_trans hsz b6.out.size
            replace h6 := Lib.hid h6
            replace ob6 := Lib.hid ob6
            clear b6 g6 o6 hres hbw oa hT hmm
            go_wp2_with fail
            have hq := rshaOf_any a6 c6 (IP ++ m) w6 h6.out hle1.out (hK.out.below hb6.out) (hF.out.below hb6.out)
            rw [List.length_append] at hq
            with_reducible refine hq.mono ?_
            clear hq
            rintro e w7 ⟨rfl, hb7⟩
            rw [← hD.out]
            have ob7 := ob6.out.below hb7 (Nat.le_refl _)
            have hb8 := hb6.out.trans (hb7.mono hb6.out.size)
            have hr7 := (hb7.block _ (block_lt hr6.out)).trans hr6.out
            have hs7 := Nat.le_trans hs6 hb7.size
            have hg8 := (Below.refl w7.heap.size w7).alloc (Nat.le_refl _) (.cells D 48)
            have ob8 := Lib.hid (ob7.below hg8 (Nat.le_refl _))
            have hb9 := Lib.hid (hb8.trans (hg8.mono hb8.size))
            have hr8 := Lib.hid ((hg8.block _ (block_lt hr7)).trans hr7)
            have hs8 := Nat.le_trans hs7 hg8.size
            have hD8 : ArgB (w7.alloc (.cells D 48)) (some ⟨w7.heap.size, 0, none⟩) 32 (sha (IP ++ m)) := argB_block (by rw [← hD.out]; exact heap_alloc_new w7 _) (by have := hL1.out; omega) (by omega)
            replace hD8 := Lib.hid hD8
            have hol2 : OP.length ≤ 1000000 := by rw [hol.out]; omega
            clear hb7 hg8 hb8 hr7 ob7 ob6 hr6 hb6 h6 hs6
            go_wp2_with (first | with_reducible refine wpList_store_new rfl 48 (.tmp 11) (.tmp 51) rfl zero32 D rfl rfl hzD hz3 hzo ?_ | (at_builtin; refine wpB_app rfl (.tmp 52) (.tmp 53) rfl w5.heap.size _ OP rfl ob8 (some ⟨w7.heap.size, 0, none⟩) 32 (sha (IP ++ m)) 32 rfl hL1 hD8 hol2 (by omega) hs8 ?_))
            intro v9 w9 o9 b9
            obtain ⟨a9, c9, rfl, h9, _⟩ := o9.out.arg
            have hb10 := Lib.hid (hb9.out.trans (b9.out.mono (Nat.le_of_lt hps.out)))
            have hr9 := Lib.hid ((b9.out.block _ hps.out).trans hr8.out)
            replace h9 := Lib.hid h9
            clear o9 b9 ob8 hb9 hr8 hD8
            go_wp2_with fail
            have hq := rshaOf_any a9 c9 (OP ++ sha (IP ++ m)) w9 h9.out hle2.out (hK.out.below hb10.out) (hF.out.below hb10.out)
            rw [List.length_append] at hq
            with_reducible refine hq.mono ?_
            clear hq
            rintro e w10 ⟨rfl, hb11⟩
            rw [hfin.out, ← hE.out]
            have hr10 := Lib.hid ((hb11.block _ (block_lt hr9.out)).trans hr9.out)
            have hb12 := Lib.hid (hb10.out.trans (hb11.mono hb10.out.size))
            clear hb11
            go_wp2_with (with_reducible refine wpList_store_row rfl 48 (.tmp 4) (.tmp 55) rfl w.heap.size zero32 E rfl rfl hr10 hzE hz4 hzp ?_)
            intro w11 hU
            go_wp2_with fail
            exact ret_cell_row rfl rfl aggR rfl hzE hU.out.here ⟨by rw [hE.out], hb12.out.trans (hU.out.below (Nat.le_refl _))⟩

end Go.Proofs.YtfmeheolcibfeaaDoor
