/- Nodes that can be read. -/
import Derived.Test.YtjbdmaehomhdeaaGreatG15
set_option linter.unusedSimpArgs false
set_option linter.unusedVariables false
namespace Go.Proofs.YtjbdmaehomhdeaaGreat
open Go.RowKit

theorem Nodes.on {w W : World} {A : Option Addr} {l : List NV} (h : Nodes w 0 w.heap.size A l) (hb : Below w.heap.size w W) : Nodes W 0 W.heap.size A l :=
  ⟨(h.row.below hb).mono (Nat.le_refl _) hb.size, fun x hx => ⟨((h.by_ x hx).1.below hb).mono (Nat.le_refl _) hb.size, (h.by_ x hx).2⟩⟩
/-- a node's bytes can be read -/
def Nd (w : World) (x : NV) : Prop := Rd byteCell 1 w 0 w.heap.size x.A x.bs ∧ x.bs.length ≤ x.c ∧ (∀ b ∈ x.bs, b < 256) ∧ x.bs.length ≤ 140737488351232
theorem Nd.on {w W : World} {x : NV} (h : Nd w x) (hb : Below w.heap.size w W) : Nd W x := ⟨(h.1.below hb).mono (Nat.le_refl _) hb.size, h.2⟩
end Go.Proofs.YtjbdmaehomhdeaaGreat
