import Derived.WalkKit
import Derived.Lib.Hide
import Derived.Carry
import Derived.ProofKit
import Derived.OpenShut
namespace Go.Proofs.YtpdhceiodgnbmaaGreatDoor
open Go.RowKit
theorem oX{p:Prop}(h:p:=by omega):p:=h
theorem kX{p:Prop}(h:p:=by kernel_rfl):p:=h
theorem dX{p:Prop}(h:p:=by decide):p:=h
theorem sX{p:Prop}(h:p:=by simp):p:=h
theorem sYq{p:Prop}(h:p:=by simp;omega):p:=h
theorem nR{n:Nat}:n<=n:=Nat.le_refl n
theorem bR{b:Nat}{w:World}:Below b w w:=Below.refl b w
theorem c0X{p:Prop}(h:p:=by first|exact Zf (Grown.refl _) _|exact Grown.alloc (Zf (Grown.refl _) _) _|exact Zf (Grown.alloc (Zf (Grown.refl _) _) _) _):p:=h
theorem c1X{p:Prop}(h:p:=by first|exact hOn|exact Grown.alloc hOn _|exact Below.alloc hOn (Below.size hOn) _|exact Grown.alloc (Grown.refl _) _):p:=h
theorem c2X{p:Prop}(h:p:=by simp only[List.getElem?_toArray,List.getElem?_cons_succ,List.getElem?_cons_zero];rfl):p:=h
theorem c3X{p:Prop}(h:p:=by rw[List.length_drop];omega):p:=h
theorem c4X{p:Prop}(h:p:=by rw[World.size_alloc];omega):p:=h
theorem c5X{p:Prop}(h:p:=by simp[Value.oneCell']):p:=h
theorem c6X{p:Prop}(h:p:=by unfold maxLen;omega):p:=h
end Go.Proofs.YtpdhceiodgnbmaaGreatDoor
