/- SHA-256 at given bytes, reckoned by the kernel: the plain spec in a form that it can run. -/
import Derived.Test.YtfmeheolcibfeaaDoorMacL
namespace Go.Proofs.YtfmeheolcibfeaaDoor
open Go.RowKit

/-- n words more, the last one first. -/
def wsGo : Nat → List W32 → List W32
  | 0, l => l
  | n + 1, l => wsGo n ((small1 (l.getD 1 0) + l.getD 6 0 + small0 (l.getD 14 0) + l.getD 15 0) :: l)
/-- The rounds over what is added and words. -/
def runS : List W32 → List W32 → S8 → S8
  | k :: ks, w :: ws, s => runS ks ws (roundS s k w)
  | _, _, s => s
@[irreducible] def takeC (s : S8) (b : List UInt8) : S8 := addS (runS kList (wsGo 48 ((List.range 16).map (wordAt b)).reverse).reverse s) s
def chunks (f : S8 → List UInt8 → S8) : Nat → List UInt8 → S8 → S8
  | 0, _, s => s
  | n + 1, m, s => chunks f n (m.drop 64) (f s (m.take 64))
def shaC (m : List UInt8) : List UInt8 := bytesS (chunks takeC ((padM m).length / 64) (padM m) s8First)

theorem wList_low (b : List UInt8) : ∀ n, n ≤ 16 → wList b n = (List.range n).map (wordAt b)
  | 0, _ => rfl
  | n + 1, h => by
    rw [wList, if_pos (by omega), wList_low b n (by omega), List.range_succ, List.map_append]; rfl
theorem wsGo_eq (b : List UInt8) : ∀ n k, 16 ≤ k → wsGo n (wList b k).reverse = (wList b (k + n)).reverse
  | 0, _, _ => rfl
  | n + 1, k, hk => by
    have hl := wList_length b k
    have hr : ∀ j, j < k → (wList b k).reverse.getD j 0 = (wList b k).getD (k - 1 - j) 0 := fun j hj => by
      rw [List.getD_eq_getElem?_getD, List.getD_eq_getElem?_getD, List.getElem?_reverse (by omega), hl]
    rw [wsGo, hr 1 (by omega), hr 6 (by omega), hr 14 (by omega), hr 15 (by omega)]
    rw [show k - 1 - 1 = k - 2 from by omega, show k - 1 - 6 = k - 7 from by omega, show k - 1 - 14 = k - 15 from by omega, show k - 1 - 15 = k - 16 from by omega]
    have h := wsGo_eq b n (k + 1) (by omega)
    rw [wList, if_neg (by omega), List.reverse_append] at h
    simp only [List.reverse_cons, List.reverse_nil, List.nil_append, List.cons_append] at h
    rw [h, show k + 1 + n = k + (n + 1) from by omega]
theorem runS_snoc : ∀ (ks ws : List W32) (s : S8) (k w : W32), ks.length = ws.length → runS (ks ++ [k]) (ws ++ [w]) s = roundS (runS ks ws s) k w
  | [], [], _, _, _, _ => rfl
  | [], _ :: _, _, _, _, h => by simp at h
  | _ :: _, [], _, _, _, h => by simp at h
  | k0 :: ks, w0 :: ws, s, k, w, h => by
    simp only [List.cons_append, runS]
    exact runS_snoc ks ws _ k w (by simpa using h)
theorem runS_eq (b : List UInt8) (s : S8) : ∀ n, n ≤ 64 → runS (kList.take n) ((wList b 64).take n) s = roundsS b s n
  | 0, _ => rfl
  | n + 1, h => by
    have hk : kList.length = 64 := rfl
    have hw := wList_length b 64
    rw [List.take_add_one, List.take_add_one, List.getElem?_eq_getElem (by omega), List.getElem?_eq_getElem (by omega)]
    simp only [Option.toList]
    have e1 : kList[n]'(by omega) = kAt n := by
      unfold kAt
      rw [List.getD_eq_getElem?_getD, List.getElem?_eq_getElem (by omega)]; rfl
    have e2 : (wList b 64)[n]'(by omega) = wAt b n := by
      rw [← wList_at b n 64 (by omega), List.getD_eq_getElem?_getD, List.getElem?_eq_getElem (by omega)]; rfl
    rw [runS_snoc _ _ _ _ _ (by rw [List.length_take, List.length_take, hk, hw]), runS_eq b s n (by omega), roundsS, e1, e2]
theorem takeC_eq (s : S8) (b : List UInt8) : takeC s b = takeS s b := by
  unfold takeC takeS
  rw [← wList_low b 16 (Nat.le_refl _), wsGo_eq b 48 16 (Nat.le_refl _), List.reverse_reverse]
  have h := runS_eq b s 64 (Nat.le_refl _)
  have e1 : kList.take 64 = kList := List.take_of_length_le (Nat.le_refl 64)
  have e2 : (wList b 64).take 64 = wList b 64 := List.take_of_length_le (by rw [wList_length]; exact Nat.le_refl _)
  rw [e1, e2] at h
  rw [show 16 + 48 = 64 from rfl, h]
theorem chunks_eq (f : S8 → List UInt8 → S8) (hf : ∀ s b, f s b = takeS s b) : ∀ n (m : List UInt8) (s : S8), chunks f n m s = foldS s m n
  | 0, _, _ => rfl
  | n + 1, m, s => by
    have h1 : foldS s m 1 = takeS s (m.take 64) := rfl
    rw [chunks, chunks_eq f hf n, hf, Nat.add_comm n 1, foldS_add s m 1 n, h1, Nat.mul_one]
theorem shaC_eq (m : List UInt8) : shaC m = sha m := congrArg bytesS (chunks_eq takeC takeC_eq _ _ _)

theorem mac_none : (shaC ((((([] : List UInt8) ++ List.replicate 64 0).map (· ^^^ 92))) ++ shaC (((([] : List UInt8) ++ List.replicate 64 0).map (· ^^^ 54)) ++ []))).take 4 = [182, 19, 103, 154] := by decide +kernel
/-- The mac of nothing by no key begins so. -/
theorem hmac_none : (hmac [] []).take 4 = [182, 19, 103, 154] := by
  have h := mac_none
  rw [shaC_eq, shaC_eq] at h
  exact h

end Go.Proofs.YtfmeheolcibfeaaDoor
