/-
  No cell of these rows narrows 'for every input' (looked for: loops, veiled, ifaces, maps, wideKeys, modest, calm, conditions, laid).
  DERIVED. THE GIVEN ROWS OF THIS SEAT. 4 by the template 'for every input the law returns true; each argument reads behind the call as it read before'; 0 by the template 'total and deterministic' (their statements: YtjbdmaehomhdeaaGreatTotals.lean).
  GIVEN WITH THE SEED: the statements are not yours to turn. If you find one false, say at which input.
  Laid BY PROGRAM, IN A SANDBOX (cutbox-rows.mjs): the forced cells as the released guide's own fill.sh prints them over the translation 31e07e5935d9fa33… (all of the seat's roots in one cut). By AI agents, Wed Nov 11 2026. No macro, syntax, notation, axiom, sorry.
-/
import Derived.Test.YtjbdmaehomhdeaaGreatChecked
import GoSem.Claim
import GoSem.ClaimJoined
import GoSem.ClaimMapViews
import Derived.JoinedTies
import Derived.KernelRfl
namespace Go.Proofs.YtjbdmaehomhdeaaGreat
/- THE CELL 'sum', in the pinned program and in every row, IS THE sha256 OF THE DUMP (.gsa) THAT YtjbdmaehomhdeaaGreatProg.lean LOADS. Nothing in Lean hashes anything: it is a label: what it is worth is what the hold of that sum in a sandbox is worth. -/
noncomputable def Tryz.pinned : Pinned := { name := "ytjbdmaehomhdeaagreat", sum := "31e07e5935d9fa33dddb4705990f839c295a3dca550de2b602ba9b4847ae9e94", checked := Tryz.checked }
namespace Rows
def none {H : Type} : Left H := { results := [], args := [] }

/-- 'pollardlaw11.DeltaLays': WHATEVER THE INPUT: true; the input reads as it did. -/
def deltaLaysSpec : ChangeSpec := { name := "deltaLays", fn := fun _ => fun
  | [d1, d2] => { results := [.lit (.bool true)], args := [d1, d2] }
  | _ => none }
def deltaLaysRow : OpenClaim := { program := "ytjbdmaehomhdeaagreat", sum := "31e07e5935d9fa33dddb4705990f839c295a3dca550de2b602ba9b4847ae9e94", func := "pollard/pollardlaw11.DeltaLays", spec := "deltaLays", unfollowed := true, recurses := true, apart := false }
def DeltaLaysSaid : Prop := deltaLaysRow.holds Tryz.pinned (OpenSpec.ofChange deltaLaysSpec)

/-- ITS FALSE NEIGHBOUR: 'it returns false'. Refute it at one input. -/
def deltaLaysWrong : ChangeSpec := { name := "deltaLays", fn := fun _ => fun
  | [d1, d2] => { results := [.lit (.bool false)], args := [d1, d2] }
  | _ => none }
def DeltaLaysWrongFalsely : Prop := deltaLaysRow.holds Tryz.pinned (OpenSpec.ofChange deltaLaysWrong)

/-- 'pollardlaw11.DeltaReads': WHATEVER THE INPUT: true; the input reads as it did. -/
def deltaReadsSpec : ChangeSpec := { name := "deltaReads", fn := fun _ => fun
  | [d] => { results := [.lit (.bool true)], args := [d] }
  | _ => none }
def deltaReadsRow : OpenClaim := { program := "ytjbdmaehomhdeaagreat", sum := "31e07e5935d9fa33dddb4705990f839c295a3dca550de2b602ba9b4847ae9e94", func := "pollard/pollardlaw11.DeltaReads", spec := "deltaReads", unfollowed := true, recurses := true, apart := false }
def DeltaReadsSaid : Prop := deltaReadsRow.holds Tryz.pinned (OpenSpec.ofChange deltaReadsSpec)

/-- ITS FALSE NEIGHBOUR: 'it returns false'. Refute it at one input. -/
def deltaReadsWrong : ChangeSpec := { name := "deltaReads", fn := fun _ => fun
  | [d] => { results := [.lit (.bool false)], args := [d] }
  | _ => none }
def DeltaReadsWrongFalsely : Prop := deltaReadsRow.holds Tryz.pinned (OpenSpec.ofChange deltaReadsWrong)

/-- 'pollardlaw11.DeltaApplies': WHATEVER THE INPUT: true; the input reads as it did. -/
def deltaAppliesSpec : ChangeSpec := { name := "deltaApplies", fn := fun _ => fun
  | [d1, d2] => { results := [.lit (.bool true)], args := [d1, d2] }
  | _ => none }
def deltaAppliesRow : OpenClaim := { program := "ytjbdmaehomhdeaagreat", sum := "31e07e5935d9fa33dddb4705990f839c295a3dca550de2b602ba9b4847ae9e94", func := "pollard/pollardlaw11.DeltaApplies", spec := "deltaApplies", unfollowed := true, recurses := true, apart := false }
def DeltaAppliesSaid : Prop := deltaAppliesRow.holds Tryz.pinned (OpenSpec.ofChange deltaAppliesSpec)

/-- ITS FALSE NEIGHBOUR: 'it returns false'. Refute it at one input. -/
def deltaAppliesWrong : ChangeSpec := { name := "deltaApplies", fn := fun _ => fun
  | [d1, d2] => { results := [.lit (.bool false)], args := [d1, d2] }
  | _ => none }
def DeltaAppliesWrongFalsely : Prop := deltaAppliesRow.holds Tryz.pinned (OpenSpec.ofChange deltaAppliesWrong)

/-- 'pollardlaw11.DeltaFlat': WHATEVER THE INPUT: true; the input reads as it did. -/
def deltaFlatSpec : ChangeSpec := { name := "deltaFlat", fn := fun _ => fun
  | [d1, d2] => { results := [.lit (.bool true)], args := [d1, d2] }
  | _ => none }
def deltaFlatRow : OpenClaim := { program := "ytjbdmaehomhdeaagreat", sum := "31e07e5935d9fa33dddb4705990f839c295a3dca550de2b602ba9b4847ae9e94", func := "pollard/pollardlaw11.DeltaFlat", spec := "deltaFlat", unfollowed := true, recurses := true, apart := false }
def DeltaFlatSaid : Prop := deltaFlatRow.holds Tryz.pinned (OpenSpec.ofChange deltaFlatSpec)

/-- ITS FALSE NEIGHBOUR: 'it returns false'. Refute it at one input. -/
def deltaFlatWrong : ChangeSpec := { name := "deltaFlat", fn := fun _ => fun
  | [d1, d2] => { results := [.lit (.bool false)], args := [d1, d2] }
  | _ => none }
def DeltaFlatWrongFalsely : Prop := deltaFlatRow.holds Tryz.pinned (OpenSpec.ofChange deltaFlatWrong)

/- THE SECOND FORM. 'bulk': how many values and letters a reading holds, each counted each time it is reached (what is shared counts as often as it is met; a slice's spare places count too). A statement '..UptoSaid' is the law's where the arguments, and the package variables that the reading takes, are together of bulk at most 1048576: NARROWER than '..Said'. Prove '..Said' where nothing that the law and all that it calls make is longer than what came in: it says more and counts as full. Else prove '..UptoSaid'. A law counts once. -/
mutual
def uptoBulk {H : Type} : DataW H → Nat
  | .lit (.string bytes) => bytes.length + 1
  | .lit _ => 1
  | .nil => 1
  | .ptr d => uptoBulk d + 1
  | .slice elems spare => uptoBulkAll elems + uptoBulkAll spare + 1
  | .agg parts => uptoBulkAll parts + 1
  | .iface _ d => uptoBulk d + 1
  | .map entries => uptoBulkEntries entries + 1
  | .held _ => 1
def uptoBulkAll {H : Type} : List (DataW H) → Nat
  | [] => 0
  | d :: r => uptoBulk d + uptoBulkAll r
def uptoBulkEntries {H : Type} : List (Lit × DataW H) → Nat
  | [] => 0
  | x :: r => uptoBulkEntry x + uptoBulkEntries r
def uptoBulkEntry {H : Type} : Lit × DataW H → Nat
  | (.string bytes, d) => bytes.length + uptoBulk d + 1
  | (_, d) => uptoBulk d + 1
 end
def uptoSmall : (H : Type) → List (DataW H) → Bool := fun _ ds => decide (uptoBulkAll ds ≤ 1048576)
def OpenSpec.upto (s : _root_.Go.ChangeSpec) : _root_.Go.OpenSpec := { _root_.Go.OpenSpec.ofChange s with cond := some uptoSmall }

/-- 'pollardlaw11.DeltaLays', WHERE WHAT IT READS IS OF BULK AT MOST 1048576: true; the input reads as it did. -/
def deltaLaysUptoRow : OpenClaim := { program := "ytjbdmaehomhdeaagreat", sum := "31e07e5935d9fa33dddb4705990f839c295a3dca550de2b602ba9b4847ae9e94", func := "pollard/pollardlaw11.DeltaLays", spec := "deltaLays", unfollowed := true, recurses := true, apart := false, narrowed := true }
def DeltaLaysUptoSaid : Prop := deltaLaysUptoRow.holds Tryz.pinned (OpenSpec.upto deltaLaysSpec)

/-- 'pollardlaw11.DeltaReads', WHERE WHAT IT READS IS OF BULK AT MOST 1048576: true; the input reads as it did. -/
def deltaReadsUptoRow : OpenClaim := { program := "ytjbdmaehomhdeaagreat", sum := "31e07e5935d9fa33dddb4705990f839c295a3dca550de2b602ba9b4847ae9e94", func := "pollard/pollardlaw11.DeltaReads", spec := "deltaReads", unfollowed := true, recurses := true, apart := false, narrowed := true }
def DeltaReadsUptoSaid : Prop := deltaReadsUptoRow.holds Tryz.pinned (OpenSpec.upto deltaReadsSpec)

/-- 'pollardlaw11.DeltaApplies', WHERE WHAT IT READS IS OF BULK AT MOST 1048576: true; the input reads as it did. -/
def deltaAppliesUptoRow : OpenClaim := { program := "ytjbdmaehomhdeaagreat", sum := "31e07e5935d9fa33dddb4705990f839c295a3dca550de2b602ba9b4847ae9e94", func := "pollard/pollardlaw11.DeltaApplies", spec := "deltaApplies", unfollowed := true, recurses := true, apart := false, narrowed := true }
def DeltaAppliesUptoSaid : Prop := deltaAppliesUptoRow.holds Tryz.pinned (OpenSpec.upto deltaAppliesSpec)

/-- 'pollardlaw11.DeltaFlat', WHERE WHAT IT READS IS OF BULK AT MOST 1048576: true; the input reads as it did. -/
def deltaFlatUptoRow : OpenClaim := { program := "ytjbdmaehomhdeaagreat", sum := "31e07e5935d9fa33dddb4705990f839c295a3dca550de2b602ba9b4847ae9e94", func := "pollard/pollardlaw11.DeltaFlat", spec := "deltaFlat", unfollowed := true, recurses := true, apart := false, narrowed := true }
def DeltaFlatUptoSaid : Prop := deltaFlatUptoRow.holds Tryz.pinned (OpenSpec.upto deltaFlatSpec)

end Rows
end Go.Proofs.YtjbdmaehomhdeaaGreat
