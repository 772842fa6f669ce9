/-
  No cell of these rows narrows 'for every input' (looked for: loops, veiled, ifaces, maps, wideKeys, modest, calm, conditions, laid).
  DERIVED. THE GIVEN ROWS OF THIS SEAT. 6 by the template 'for every input the law returns true; each argument reads behind the call as it read before'; 0 by the template 'total and deterministic' (their statements: YtjpfhldklbgdcaaTotals.lean).
  GIVEN WITH THE SEED: the statements are not yours to turn. If you find one false, say at which input.
  Laid BY PROGRAM, IN A SANDBOX (cutbox-rows.mjs): the forced cells as the released guide's own fill.sh prints them over the translation 3e89ef424374299b… (all of the seat's roots in one cut). By AI agents, Wed Nov 11 2026. No macro, syntax, notation, axiom, sorry.
-/
import Derived.Test.YtjpfhldklbgdcaaChecked
import GoSem.Claim
import GoSem.ClaimJoined
import GoSem.ClaimMapViews
import Derived.JoinedTies
import Derived.KernelRfl
namespace Go.Proofs.Ytjpfhldklbgdcaa
/- THE CELL 'sum', in the pinned program and in every row, IS THE sha256 OF THE DUMP (.gsa) THAT YtjpfhldklbgdcaaProg.lean LOADS. Nothing in Lean hashes anything: it is a label: what it is worth is what the hold of that sum in a sandbox is worth. -/
noncomputable def Try.pinned : Pinned := { name := "ytjpfhldklbgdcaa", sum := "3e89ef424374299b07b62b38b4f2a414b5b38f0b32a503a758dca87b11120011", checked := Try.checked }
namespace Rows
def none {H : Type} : Left H := { results := [], args := [] }

/-- 'laws.FnExactLessDepth': WHATEVER THE INPUT: true; the input reads as it did. -/
def fnExactLessDepthSpec : ChangeSpec := { name := "fnExactLessDepth", fn := fun _ => fun
  | [d] => { results := [.lit (.bool true)], args := [d] }
  | _ => none }
def fnExactLessDepthRow : OpenClaim := { program := "ytjpfhldklbgdcaa", sum := "3e89ef424374299b07b62b38b4f2a414b5b38f0b32a503a758dca87b11120011", func := "loop.example/g00099/laws.FnExactLessDepth", spec := "fnExactLessDepth", plainKeys := false, apart := false }
def FnExactLessDepthSaid : Prop := fnExactLessDepthRow.holds Try.pinned (OpenSpec.ofChange fnExactLessDepthSpec)

/-- ITS FALSE NEIGHBOUR: 'it returns false'. Refute it at one input. -/
def fnExactLessDepthWrong : ChangeSpec := { name := "fnExactLessDepth", fn := fun _ => fun
  | [d] => { results := [.lit (.bool false)], args := [d] }
  | _ => none }
def FnExactLessDepthWrongFalsely : Prop := fnExactLessDepthRow.holds Try.pinned (OpenSpec.ofChange fnExactLessDepthWrong)

/-- 'laws.FnExactLessGray': WHATEVER THE INPUT: true; the input reads as it did. -/
def fnExactLessGraySpec : ChangeSpec := { name := "fnExactLessGray", fn := fun _ => fun
  | [d] => { results := [.lit (.bool true)], args := [d] }
  | _ => none }
def fnExactLessGrayRow : OpenClaim := { program := "ytjpfhldklbgdcaa", sum := "3e89ef424374299b07b62b38b4f2a414b5b38f0b32a503a758dca87b11120011", func := "loop.example/g00099/laws.FnExactLessGray", spec := "fnExactLessGray", plainKeys := false, apart := false }
def FnExactLessGraySaid : Prop := fnExactLessGrayRow.holds Try.pinned (OpenSpec.ofChange fnExactLessGraySpec)

/-- ITS FALSE NEIGHBOUR: 'it returns false'. Refute it at one input. -/
def fnExactLessGrayWrong : ChangeSpec := { name := "fnExactLessGray", fn := fun _ => fun
  | [d] => { results := [.lit (.bool false)], args := [d] }
  | _ => none }
def FnExactLessGrayWrongFalsely : Prop := fnExactLessGrayRow.holds Try.pinned (OpenSpec.ofChange fnExactLessGrayWrong)

/-- 'laws.FnReduces': WHATEVER THE INPUT: true; the input reads as it did. -/
def fnReducesSpec : ChangeSpec := { name := "fnReduces", fn := fun _ => fun
  | [d] => { results := [.lit (.bool true)], args := [d] }
  | _ => none }
def fnReducesRow : OpenClaim := { program := "ytjpfhldklbgdcaa", sum := "3e89ef424374299b07b62b38b4f2a414b5b38f0b32a503a758dca87b11120011", func := "loop.example/g00099/laws.FnReduces", spec := "fnReduces", unfollowed := true, recurses := true, plainKeys := false, apart := false }
def FnReducesSaid : Prop := fnReducesRow.holds Try.pinned (OpenSpec.ofChange fnReducesSpec)

/-- ITS FALSE NEIGHBOUR: 'it returns false'. Refute it at one input. -/
def fnReducesWrong : ChangeSpec := { name := "fnReduces", fn := fun _ => fun
  | [d] => { results := [.lit (.bool false)], args := [d] }
  | _ => none }
def FnReducesWrongFalsely : Prop := fnReducesRow.holds Try.pinned (OpenSpec.ofChange fnReducesWrong)

/-- 'laws.FnExactNoColor': WHATEVER THE INPUT: true; the input reads as it did. -/
def fnExactNoColorSpec : ChangeSpec := { name := "fnExactNoColor", fn := fun _ => fun
  | [d] => { results := [.lit (.bool true)], args := [d] }
  | _ => none }
def fnExactNoColorRow : OpenClaim := { program := "ytjpfhldklbgdcaa", sum := "3e89ef424374299b07b62b38b4f2a414b5b38f0b32a503a758dca87b11120011", func := "loop.example/g00099/laws.FnExactNoColor", spec := "fnExactNoColor", unfollowed := true, recurses := true, plainKeys := false, apart := false }
def FnExactNoColorSaid : Prop := fnExactNoColorRow.holds Try.pinned (OpenSpec.ofChange fnExactNoColorSpec)

/-- ITS FALSE NEIGHBOUR: 'it returns false'. Refute it at one input. -/
def fnExactNoColorWrong : ChangeSpec := { name := "fnExactNoColor", fn := fun _ => fun
  | [d] => { results := [.lit (.bool false)], args := [d] }
  | _ => none }
def FnExactNoColorWrongFalsely : Prop := fnExactNoColorRow.holds Try.pinned (OpenSpec.ofChange fnExactNoColorWrong)

/-- 'laws.FnFewer': WHATEVER THE INPUT: true; the input reads as it did. -/
def fnFewerSpec : ChangeSpec := { name := "fnFewer", fn := fun _ => fun
  | [d] => { results := [.lit (.bool true)], args := [d] }
  | _ => none }
def fnFewerRow : OpenClaim := { program := "ytjpfhldklbgdcaa", sum := "3e89ef424374299b07b62b38b4f2a414b5b38f0b32a503a758dca87b11120011", func := "loop.example/g00099/laws.FnFewer", spec := "fnFewer", unfollowed := true, recurses := true, plainKeys := false, apart := false }
def FnFewerSaid : Prop := fnFewerRow.holds Try.pinned (OpenSpec.ofChange fnFewerSpec)

/-- ITS FALSE NEIGHBOUR: 'it returns false'. Refute it at one input. -/
def fnFewerWrong : ChangeSpec := { name := "fnFewer", fn := fun _ => fun
  | [d] => { results := [.lit (.bool false)], args := [d] }
  | _ => none }
def FnFewerWrongFalsely : Prop := fnFewerRow.holds Try.pinned (OpenSpec.ofChange fnFewerWrong)

/-- 'laws.FnExactToTable': WHATEVER THE INPUT: true; the input reads as it did. -/
def fnExactToTableSpec : ChangeSpec := { name := "fnExactToTable", fn := fun _ => fun
  | [d] => { results := [.lit (.bool true)], args := [d] }
  | _ => none }
def fnExactToTableRow : OpenClaim := { program := "ytjpfhldklbgdcaa", sum := "3e89ef424374299b07b62b38b4f2a414b5b38f0b32a503a758dca87b11120011", func := "loop.example/g00099/laws.FnExactToTable", spec := "fnExactToTable", plainKeys := false, apart := false }
def FnExactToTableSaid : Prop := fnExactToTableRow.holds Try.pinned (OpenSpec.ofChange fnExactToTableSpec)

/-- ITS FALSE NEIGHBOUR: 'it returns false'. Refute it at one input. -/
def fnExactToTableWrong : ChangeSpec := { name := "fnExactToTable", fn := fun _ => fun
  | [d] => { results := [.lit (.bool false)], args := [d] }
  | _ => none }
def FnExactToTableWrongFalsely : Prop := fnExactToTableRow.holds Try.pinned (OpenSpec.ofChange fnExactToTableWrong)

/- THE SECOND FORM. 'bulk': how many values and letters a reading holds, each counted each time it is reached (what is shared counts as often as it is met; a slice's spare places count too). A statement '..UptoSaid' is the law's where the arguments, and the package variables that the reading takes, are together of bulk at most 1048576: NARROWER than '..Said'. Prove '..Said' where nothing that the law and all that it calls make is longer than what came in: it says more and counts as full. Else prove '..UptoSaid'. A law counts once. -/
mutual
def uptoBulk {H : Type} : DataW H → Nat
  | .lit (.string bytes) => bytes.length + 1
  | .lit _ => 1
  | .nil => 1
  | .ptr d => uptoBulk d + 1
  | .slice elems spare => uptoBulkAll elems + uptoBulkAll spare + 1
  | .agg parts => uptoBulkAll parts + 1
  | .iface _ d => uptoBulk d + 1
  | .map entries => uptoBulkEntries entries + 1
  | .held _ => 1
def uptoBulkAll {H : Type} : List (DataW H) → Nat
  | [] => 0
  | d :: r => uptoBulk d + uptoBulkAll r
def uptoBulkEntries {H : Type} : List (Lit × DataW H) → Nat
  | [] => 0
  | x :: r => uptoBulkEntry x + uptoBulkEntries r
def uptoBulkEntry {H : Type} : Lit × DataW H → Nat
  | (.string bytes, d) => bytes.length + uptoBulk d + 1
  | (_, d) => uptoBulk d + 1
 end
def uptoSmall : (H : Type) → List (DataW H) → Bool := fun _ ds => decide (uptoBulkAll ds ≤ 1048576)
def OpenSpec.upto (s : _root_.Go.ChangeSpec) : _root_.Go.OpenSpec := { _root_.Go.OpenSpec.ofChange s with cond := some uptoSmall }

/-- 'laws.FnExactLessDepth', WHERE WHAT IT READS IS OF BULK AT MOST 1048576: true; the input reads as it did. -/
def fnExactLessDepthUptoRow : OpenClaim := { program := "ytjpfhldklbgdcaa", sum := "3e89ef424374299b07b62b38b4f2a414b5b38f0b32a503a758dca87b11120011", func := "loop.example/g00099/laws.FnExactLessDepth", spec := "fnExactLessDepth", plainKeys := false, apart := false, narrowed := true }
def FnExactLessDepthUptoSaid : Prop := fnExactLessDepthUptoRow.holds Try.pinned (OpenSpec.upto fnExactLessDepthSpec)

/-- 'laws.FnExactLessGray', WHERE WHAT IT READS IS OF BULK AT MOST 1048576: true; the input reads as it did. -/
def fnExactLessGrayUptoRow : OpenClaim := { program := "ytjpfhldklbgdcaa", sum := "3e89ef424374299b07b62b38b4f2a414b5b38f0b32a503a758dca87b11120011", func := "loop.example/g00099/laws.FnExactLessGray", spec := "fnExactLessGray", plainKeys := false, apart := false, narrowed := true }
def FnExactLessGrayUptoSaid : Prop := fnExactLessGrayUptoRow.holds Try.pinned (OpenSpec.upto fnExactLessGraySpec)

/-- 'laws.FnReduces', WHERE WHAT IT READS IS OF BULK AT MOST 1048576: true; the input reads as it did. -/
def fnReducesUptoRow : OpenClaim := { program := "ytjpfhldklbgdcaa", sum := "3e89ef424374299b07b62b38b4f2a414b5b38f0b32a503a758dca87b11120011", func := "loop.example/g00099/laws.FnReduces", spec := "fnReduces", unfollowed := true, recurses := true, plainKeys := false, apart := false, narrowed := true }
def FnReducesUptoSaid : Prop := fnReducesUptoRow.holds Try.pinned (OpenSpec.upto fnReducesSpec)

/-- 'laws.FnExactNoColor', WHERE WHAT IT READS IS OF BULK AT MOST 1048576: true; the input reads as it did. -/
def fnExactNoColorUptoRow : OpenClaim := { program := "ytjpfhldklbgdcaa", sum := "3e89ef424374299b07b62b38b4f2a414b5b38f0b32a503a758dca87b11120011", func := "loop.example/g00099/laws.FnExactNoColor", spec := "fnExactNoColor", unfollowed := true, recurses := true, plainKeys := false, apart := false, narrowed := true }
def FnExactNoColorUptoSaid : Prop := fnExactNoColorUptoRow.holds Try.pinned (OpenSpec.upto fnExactNoColorSpec)

/-- 'laws.FnFewer', WHERE WHAT IT READS IS OF BULK AT MOST 1048576: true; the input reads as it did. -/
def fnFewerUptoRow : OpenClaim := { program := "ytjpfhldklbgdcaa", sum := "3e89ef424374299b07b62b38b4f2a414b5b38f0b32a503a758dca87b11120011", func := "loop.example/g00099/laws.FnFewer", spec := "fnFewer", unfollowed := true, recurses := true, plainKeys := false, apart := false, narrowed := true }
def FnFewerUptoSaid : Prop := fnFewerUptoRow.holds Try.pinned (OpenSpec.upto fnFewerSpec)

/-- 'laws.FnExactToTable', WHERE WHAT IT READS IS OF BULK AT MOST 1048576: true; the input reads as it did. -/
def fnExactToTableUptoRow : OpenClaim := { program := "ytjpfhldklbgdcaa", sum := "3e89ef424374299b07b62b38b4f2a414b5b38f0b32a503a758dca87b11120011", func := "loop.example/g00099/laws.FnExactToTable", spec := "fnExactToTable", plainKeys := false, apart := false, narrowed := true }
def FnExactToTableUptoSaid : Prop := fnExactToTableUptoRow.holds Try.pinned (OpenSpec.upto fnExactToTableSpec)

end Rows
end Go.Proofs.Ytjpfhldklbgdcaa
