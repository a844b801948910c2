/-
  No cell of these rows narrows 'for every input' (looked for: loops, veiled, ifaces, maps, wideKeys, modest, calm, conditions, laid).
  DERIVED. THE GIVEN ROWS OF THIS SEAT. 5 by the template 'for every input the law returns true; each argument reads behind the call as it read before'; 0 by the template 'total and deterministic' (their statements: YtjbdmaehomhdeaaTotals.lean).
  GIVEN WITH THE SEED: the statements are not yours to turn. If you find one false, say at which input.
  Laid BY PROGRAM, IN A SANDBOX (cutbox-rows.mjs): the forced cells as the released guide's own fill.sh prints them over the translation 35110908c92c22fe… (all of the seat's roots in one cut). By AI agents, Wed Nov 11 2026. No macro, syntax, notation, axiom, sorry.
-/
import Derived.Test.YtjbdmaehomhdeaaChecked
import GoSem.Claim
import GoSem.ClaimJoined
import GoSem.ClaimMapViews
import Derived.JoinedTies
import Derived.KernelRfl
namespace Go.Proofs.Ytjbdmaehomhdeaa
/- THE CELL 'sum', in the pinned program and in every row, IS THE sha256 OF THE DUMP (.gsa) THAT YtjbdmaehomhdeaaProg.lean LOADS. Nothing in Lean hashes anything: it is a label: what it is worth is what the hold of that sum in a sandbox is worth. -/
noncomputable def Try.pinned : Pinned := { name := "ytjbdmaehomhdeaa", sum := "35110908c92c22fe509927567f3ed8fb545cf60a944895fc9de0e40472a3d975", checked := Try.checked }
namespace Rows
def none {H : Type} : Left H := { results := [], args := [] }

/-- 'pollardlaw10.PageReads': WHATEVER THE INPUT: true; the input reads as it did. -/
def pageReadsSpec : ChangeSpec := { name := "pageReads", fn := fun _ => fun
  | [d] => { results := [.lit (.bool true)], args := [d] }
  | _ => none }
def pageReadsRow : OpenClaim := { program := "ytjbdmaehomhdeaa", sum := "35110908c92c22fe509927567f3ed8fb545cf60a944895fc9de0e40472a3d975", func := "pollard/pollardlaw10.PageReads", spec := "pageReads", inPlace := ["internal/bytealg.abigen_runtime_cmpstring", "slices.overlaps[pollard/api.Item]"], unfollowed := true, recurses := true, apart := false }
def PageReadsSaid : Prop := pageReadsRow.holds Try.pinned (OpenSpec.ofChange pageReadsSpec)

/-- ITS FALSE NEIGHBOUR: 'it returns false'. Refute it at one input. -/
def pageReadsWrong : ChangeSpec := { name := "pageReads", fn := fun _ => fun
  | [d] => { results := [.lit (.bool false)], args := [d] }
  | _ => none }
def PageReadsWrongFalsely : Prop := pageReadsRow.holds Try.pinned (OpenSpec.ofChange pageReadsWrong)

/-- 'pollardlaw11.DeltaAnyOrder': WHATEVER THE INPUT: true; the input reads as it did. -/
def deltaAnyOrderSpec : ChangeSpec := { name := "deltaAnyOrder", fn := fun _ => fun
  | [d1, d2] => { results := [.lit (.bool true)], args := [d1, d2] }
  | _ => none }
def deltaAnyOrderRow : OpenClaim := { program := "ytjbdmaehomhdeaa", sum := "35110908c92c22fe509927567f3ed8fb545cf60a944895fc9de0e40472a3d975", func := "pollard/pollardlaw11.DeltaAnyOrder", spec := "deltaAnyOrder", unfollowed := true, recurses := true, apart := false }
def DeltaAnyOrderSaid : Prop := deltaAnyOrderRow.holds Try.pinned (OpenSpec.ofChange deltaAnyOrderSpec)

/-- ITS FALSE NEIGHBOUR: 'it returns false'. Refute it at one input. -/
def deltaAnyOrderWrong : ChangeSpec := { name := "deltaAnyOrder", fn := fun _ => fun
  | [d1, d2] => { results := [.lit (.bool false)], args := [d1, d2] }
  | _ => none }
def DeltaAnyOrderWrongFalsely : Prop := deltaAnyOrderRow.holds Try.pinned (OpenSpec.ofChange deltaAnyOrderWrong)

/-- 'pollardlaw11.DeltaSplits': WHATEVER THE INPUT: true; the input reads as it did. -/
def deltaSplitsSpec : ChangeSpec := { name := "deltaSplits", fn := fun _ => fun
  | [d1, d2, d3, d4] => { results := [.lit (.bool true)], args := [d1, d2, d3, d4] }
  | _ => none }
def deltaSplitsRow : OpenClaim := { program := "ytjbdmaehomhdeaa", sum := "35110908c92c22fe509927567f3ed8fb545cf60a944895fc9de0e40472a3d975", func := "pollard/pollardlaw11.DeltaSplits", spec := "deltaSplits", unfollowed := true, recurses := true, apart := false }
def DeltaSplitsSaid : Prop := deltaSplitsRow.holds Try.pinned (OpenSpec.ofChange deltaSplitsSpec)

/-- ITS FALSE NEIGHBOUR: 'it returns false'. Refute it at one input. -/
def deltaSplitsWrong : ChangeSpec := { name := "deltaSplits", fn := fun _ => fun
  | [d1, d2, d3, d4] => { results := [.lit (.bool false)], args := [d1, d2, d3, d4] }
  | _ => none }
def DeltaSplitsWrongFalsely : Prop := deltaSplitsRow.holds Try.pinned (OpenSpec.ofChange deltaSplitsWrong)

/-- 'pollardlaw11.DeltaBack': WHATEVER THE INPUT: true; the input reads as it did. -/
def deltaBackSpec : ChangeSpec := { name := "deltaBack", fn := fun _ => fun
  | [d1, d2] => { results := [.lit (.bool true)], args := [d1, d2] }
  | _ => none }
def deltaBackRow : OpenClaim := { program := "ytjbdmaehomhdeaa", sum := "35110908c92c22fe509927567f3ed8fb545cf60a944895fc9de0e40472a3d975", func := "pollard/pollardlaw11.DeltaBack", spec := "deltaBack", unfollowed := true, recurses := true, apart := false }
def DeltaBackSaid : Prop := deltaBackRow.holds Try.pinned (OpenSpec.ofChange deltaBackSpec)

/-- ITS FALSE NEIGHBOUR: 'it returns false'. Refute it at one input. -/
def deltaBackWrong : ChangeSpec := { name := "deltaBack", fn := fun _ => fun
  | [d1, d2] => { results := [.lit (.bool false)], args := [d1, d2] }
  | _ => none }
def DeltaBackWrongFalsely : Prop := deltaBackRow.holds Try.pinned (OpenSpec.ofChange deltaBackWrong)

/-- 'pollardlaw11.DeltaLinks': WHATEVER THE INPUT: true; the input reads as it did. -/
def deltaLinksSpec : ChangeSpec := { name := "deltaLinks", fn := fun _ => fun
  | [d1, d2, d3] => { results := [.lit (.bool true)], args := [d1, d2, d3] }
  | _ => none }
def deltaLinksRow : OpenClaim := { program := "ytjbdmaehomhdeaa", sum := "35110908c92c22fe509927567f3ed8fb545cf60a944895fc9de0e40472a3d975", func := "pollard/pollardlaw11.DeltaLinks", spec := "deltaLinks", unfollowed := true, recurses := true, apart := false }
def DeltaLinksSaid : Prop := deltaLinksRow.holds Try.pinned (OpenSpec.ofChange deltaLinksSpec)

/-- ITS FALSE NEIGHBOUR: 'it returns false'. Refute it at one input. -/
def deltaLinksWrong : ChangeSpec := { name := "deltaLinks", fn := fun _ => fun
  | [d1, d2, d3] => { results := [.lit (.bool false)], args := [d1, d2, d3] }
  | _ => none }
def DeltaLinksWrongFalsely : Prop := deltaLinksRow.holds Try.pinned (OpenSpec.ofChange deltaLinksWrong)

/- THE SECOND FORM. 'bulk': how many values and letters a reading holds, each counted each time it is reached (what is shared counts as often as it is met; a slice's spare places count too). A statement '..UptoSaid' is the law's where the arguments, and the package variables that the reading takes, are together of bulk at most 1048576: NARROWER than '..Said'. Prove '..Said' where nothing that the law and all that it calls make is longer than what came in: it says more and counts as full. Else prove '..UptoSaid'. A law counts once. -/
mutual
def uptoBulk {H : Type} : DataW H → Nat
  | .lit (.string bytes) => bytes.length + 1
  | .lit _ => 1
  | .nil => 1
  | .ptr d => uptoBulk d + 1
  | .slice elems spare => uptoBulkAll elems + uptoBulkAll spare + 1
  | .agg parts => uptoBulkAll parts + 1
  | .iface _ d => uptoBulk d + 1
  | .map entries => uptoBulkEntries entries + 1
  | .held _ => 1
def uptoBulkAll {H : Type} : List (DataW H) → Nat
  | [] => 0
  | d :: r => uptoBulk d + uptoBulkAll r
def uptoBulkEntries {H : Type} : List (Lit × DataW H) → Nat
  | [] => 0
  | x :: r => uptoBulkEntry x + uptoBulkEntries r
def uptoBulkEntry {H : Type} : Lit × DataW H → Nat
  | (.string bytes, d) => bytes.length + uptoBulk d + 1
  | (_, d) => uptoBulk d + 1
 end
def uptoSmall : (H : Type) → List (DataW H) → Bool := fun _ ds => decide (uptoBulkAll ds ≤ 1048576)
def OpenSpec.upto (s : _root_.Go.ChangeSpec) : _root_.Go.OpenSpec := { _root_.Go.OpenSpec.ofChange s with cond := some uptoSmall }

/-- 'pollardlaw10.PageReads', WHERE WHAT IT READS IS OF BULK AT MOST 1048576: true; the input reads as it did. -/
def pageReadsUptoRow : OpenClaim := { program := "ytjbdmaehomhdeaa", sum := "35110908c92c22fe509927567f3ed8fb545cf60a944895fc9de0e40472a3d975", func := "pollard/pollardlaw10.PageReads", spec := "pageReads", inPlace := ["internal/bytealg.abigen_runtime_cmpstring", "slices.overlaps[pollard/api.Item]"], unfollowed := true, recurses := true, apart := false, narrowed := true }
def PageReadsUptoSaid : Prop := pageReadsUptoRow.holds Try.pinned (OpenSpec.upto pageReadsSpec)

/-- 'pollardlaw11.DeltaAnyOrder', WHERE WHAT IT READS IS OF BULK AT MOST 1048576: true; the input reads as it did. -/
def deltaAnyOrderUptoRow : OpenClaim := { program := "ytjbdmaehomhdeaa", sum := "35110908c92c22fe509927567f3ed8fb545cf60a944895fc9de0e40472a3d975", func := "pollard/pollardlaw11.DeltaAnyOrder", spec := "deltaAnyOrder", unfollowed := true, recurses := true, apart := false, narrowed := true }
def DeltaAnyOrderUptoSaid : Prop := deltaAnyOrderUptoRow.holds Try.pinned (OpenSpec.upto deltaAnyOrderSpec)

/-- 'pollardlaw11.DeltaSplits', WHERE WHAT IT READS IS OF BULK AT MOST 1048576: true; the input reads as it did. -/
def deltaSplitsUptoRow : OpenClaim := { program := "ytjbdmaehomhdeaa", sum := "35110908c92c22fe509927567f3ed8fb545cf60a944895fc9de0e40472a3d975", func := "pollard/pollardlaw11.DeltaSplits", spec := "deltaSplits", unfollowed := true, recurses := true, apart := false, narrowed := true }
def DeltaSplitsUptoSaid : Prop := deltaSplitsUptoRow.holds Try.pinned (OpenSpec.upto deltaSplitsSpec)

/-- 'pollardlaw11.DeltaBack', WHERE WHAT IT READS IS OF BULK AT MOST 1048576: true; the input reads as it did. -/
def deltaBackUptoRow : OpenClaim := { program := "ytjbdmaehomhdeaa", sum := "35110908c92c22fe509927567f3ed8fb545cf60a944895fc9de0e40472a3d975", func := "pollard/pollardlaw11.DeltaBack", spec := "deltaBack", unfollowed := true, recurses := true, apart := false, narrowed := true }
def DeltaBackUptoSaid : Prop := deltaBackUptoRow.holds Try.pinned (OpenSpec.upto deltaBackSpec)

/-- 'pollardlaw11.DeltaLinks', WHERE WHAT IT READS IS OF BULK AT MOST 1048576: true; the input reads as it did. -/
def deltaLinksUptoRow : OpenClaim := { program := "ytjbdmaehomhdeaa", sum := "35110908c92c22fe509927567f3ed8fb545cf60a944895fc9de0e40472a3d975", func := "pollard/pollardlaw11.DeltaLinks", spec := "deltaLinks", unfollowed := true, recurses := true, apart := false, narrowed := true }
def DeltaLinksUptoSaid : Prop := deltaLinksUptoRow.holds Try.pinned (OpenSpec.upto deltaLinksSpec)

end Rows
end Go.Proofs.Ytjbdmaehomhdeaa
