import Derived.WalkKit
import Derived.Lib.Hide
import Derived.ProofKit
import Derived.OpenShut
namespace Go.Proofs.YtpdhceiodgnbmaaGreatDoor
open Go.RowKit
theorem aB{p:Prop}(h:p:=by omega):p:=h
theorem kX{p:Prop}(h:p:=by kernel_rfl):p:=h
theorem dX{p:Prop}(h:p:=by decide):p:=h
theorem sX{p:Prop}(h:p:=by simp):p:=h
theorem bf{p:Prop}(h:p:=by simp;omega):p:=h
theorem nZ{n:Nat}:n<=n:=Nat.le_refl n
theorem bR{b:Nat}{w:World}:Below b w w:=Below.refl b w
theorem mV{p:Prop}(h:p:=by first|exact Zf (Grown.refl _) _|exact Grown.alloc (Zf (Grown.refl _) _) _|exact Zf (Grown.alloc (Zf (Grown.refl _) _) _) _):p:=h
theorem qD{p:Prop}(h:p:=by first|exact aD|exact Grown.alloc aD _|exact Below.alloc aD (Below.size aD) _|exact Grown.alloc (Grown.refl _) _):p:=h
theorem jr{p:Prop}(h:p:=by simp only[List.getElem?_toArray,List.getElem?_cons_succ,List.getElem?_cons_zero];rfl):p:=h
theorem oU{p:Prop}(h:p:=by simp only[World.size_alloc];omega):p:=h
theorem jH{p:Prop}(h:p:=by rw[List.length_drop];omega):p:=h
theorem qE{p:Prop}(h:p:=by rw[World.size_alloc];omega):p:=h
theorem jK{p:Prop}(h:p:=by simp[Value.oneCell']):p:=h
theorem kS{p:Prop}(h:p:=by unfold maxLen;omega):p:=h
theorem bT{p:Prop}(h:p:=by rfl):p:=h
theorem aA{α}(a:α):∃ v,v=a:=⟨a,rfl⟩
end Go.Proofs.YtpdhceiodgnbmaaGreatDoor
