import Derived.Test.YtdilmfnpkeihiaaGreatDoorF0AudSaid
import Derived.Test.YtdilmfnpkeihiaaGreatDoorF2AudSaid
import Derived.Test.YtdilmfnpkeihiaaGreatDoorF31AudSaid
set_option linter.unusedVariables false
set_option linter.unusedSimpArgs false
set_option linter.unnecessarySimpa false
set_option maxRecDepth 100000
set_option maxHeartbeats 8000000
namespace Go.Proofs.YtdilmfnpkeihiaaGreatDoor
open Go.RowKit
theorem DErr.below{w w':World}{e:Nat->Addr}(h:DErr w e)(hb:Below w.heap.size w w'):DErr w' e:=
 ⟨(hb.cell (p:=⟨0,0,none⟩) (World.block_lt_of_cell? w _ h.range)).trans h.range,(hb.cell (p:=⟨7,0,none⟩) (World.block_lt_of_cell? w _ h.size)).trans h.size,(hb.cell (p:=⟨14,0,none⟩) (World.block_lt_of_cell? w _ h.power)).trans h.power⟩
theorem KH{base:Nat}{w:World}{B mb mn:Nat}{v:Value}{p:DP}(h:DM base w B mb mn v p)(hn:p.n<=2048)(hws:p.ws.length<=100000)(hg:p.gone=false)(i:Int)(h0:0<=i)(h1:i<p.n) :
  Calls Tryz.prog 100 #[.pointer (some ⟨B,0,none⟩),.int .i64 i] w λx w'=>∃ g off,x=.returned (.tuple #[.slice (some ⟨g,off,none⟩) 64 64,.nilIface])/\RdBlk w' g off (ZK p.ws p.f i)/\w.heap.size<=g/\Below w.heap.size w w':=by
 obtain⟨a,c,rfl⟩:=h.form
 exact UE B mb mn p.f p.n i h0 h1 hn w a c p.ws oX (by rw[h.cell];rfl) (by rw[h.cell];rfl) (by rw[h.cell];rfl) (by rw[h.cell,hg];rfl) h.map (λq hq=>(h.lens q hq).1) h.rowN
end Go.Proofs.YtdilmfnpkeihiaaGreatDoor
