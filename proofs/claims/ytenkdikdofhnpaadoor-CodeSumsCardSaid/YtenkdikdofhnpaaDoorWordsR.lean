/- Code words: roots of the generator, what follows of them. -/
import Derived.Test.YtenkdikdofhnpaaDoorEncode
import Derived.Test.YtenkdikdofhnpaaDoorCodeS
namespace Go.Proofs.YtenkdikdofhnpaaDoor
open Go.RowKit

theorem gen_root (j : Nat) (hj : j < 32) : Gf.add (xsum 32 fun i => Gf.mul (cf genP i) (xpow (Gf.gexp j) i)) (xpow (Gf.gexp j) 32) = 0 := by
  have h : (List.range 32).all (fun j => decide (Gf.add (xsum 32 fun i => Gf.mul (cf genP i) (xpow (Gf.gexp j) i)) (xpow (Gf.gexp j) 32) = 0)) = true := by decide +kernel
  rw [List.all_eq_true] at h
  exact of_decide_eq_true (h j (List.mem_range.2 hj))
theorem codeW_zero (bs : List UInt8) (j : Nat) (hj : j < 32) : hv (Gf.gexp j) (codeW bs) = 0 := word_value genP _ (gen_root j hj) bs
theorem quiet_of {l : List UInt8} (h : ∀ j, j < 32 → hv (Gf.gexp j) l = 0) : quiet (synd l) = true := by
  rw [synd_zero h]; unfold quiet; exact beq_self_eq_true _
theorem codeW_right (bs : List UInt8) (h1 : 1 ≤ bs.length) (h2 : bs.length ≤ 223) : rightB (codeW bs) = true := by
  unfold rightB
  rw [quiet_of (codeW_zero bs), decide_eq_true (by rw [codeW_length]; omega)]; rfl
theorem codeW_take (bs : List UInt8) : (codeW bs).take ((codeW bs).length - 32) = bs := by
  rw [codeW_length, Nat.add_sub_cancel]; unfold codeW; exact List.take_left
theorem bytes_add (a b : List UInt8) : ((⟨a.toArray⟩ : ByteArray) ++ ⟨b.toArray⟩) = ⟨(a ++ b).toArray⟩ := by
  apply ByteArray.ext
  simp [ByteArray.data_append]
theorem sizeAt_errs {w : World} {ea : Nat → Addr} (h : Errs 81 errGs w ea) : SizeAt w (ea 7) := h.var 7 (by decide)
theorem argB_none (w : World) : ArgB w none 0 [] := ⟨Nat.le_refl _, Nat.zero_le _, fun _ => rfl, fun i hi => by simp at hi⟩

end Go.Proofs.YtenkdikdofhnpaaDoor
