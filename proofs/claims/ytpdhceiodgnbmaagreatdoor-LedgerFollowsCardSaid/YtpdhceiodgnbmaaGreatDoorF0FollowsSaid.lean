import Derived.WalkKit
import Derived.Lib.Hide
import Derived.Carry
import Derived.ProofKit
import Derived.OpenShut
namespace Go.Proofs.YtpdhceiodgnbmaaGreatDoor
open Go.RowKit
theorem oX{p:Prop}(h:p:=by omega):p:=h
theorem kX{p:Prop}(h:p:=by kernel_rfl):p:=h
theorem dX{p:Prop}(h:p:=by decide):p:=h
theorem sX{p:Prop}(h:p:=by simp):p:=h
theorem sY{p:Prop}(h:p:=by simp;omega):p:=h
theorem nR{n:Nat}:n<=n:=Nat.le_refl n
theorem bR{b:Nat}{w:World}:Below b w w:=Below.refl b w
end Go.Proofs.YtpdhceiodgnbmaaGreatDoor
