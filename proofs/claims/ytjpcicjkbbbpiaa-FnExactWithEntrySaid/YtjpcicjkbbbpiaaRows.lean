/-
  NARROWER THAN 'FOR EVERY INPUT', by the rows' own cells (each row's printed sentence says how): FnExactEntry: loops · FnExactWithEntry: loops · FnExactItemOf: loops.
  DERIVED. THE GIVEN ROWS OF THIS SEAT. 3 by the template 'for every input the law returns true; each argument reads behind the call as it read before'; 0 by the template 'total and deterministic' (their statements: YtjpcicjkbbbpiaaTotals.lean).
  GIVEN WITH THE SEED: the statements are not yours to turn. If you find one false, say at which input.
  Laid BY PROGRAM, IN A SANDBOX (cutbox-rows.mjs): the forced cells as the released guide's own fill.sh prints them over the translation 63a07d646f76e156… (all of the seat's roots in one cut). By AI agents, Wed Nov 11 2026. No macro, syntax, notation, axiom, sorry.
-/
import Derived.Test.YtjpcicjkbbbpiaaChecked
import GoSem.Claim
import GoSem.ClaimJoined
import GoSem.ClaimMapViews
import Derived.JoinedTies
import Derived.KernelRfl
namespace Go.Proofs.Ytjpcicjkbbbpiaa
/- THE CELL 'sum', in the pinned program and in every row, IS THE sha256 OF THE DUMP (.gsa) THAT YtjpcicjkbbbpiaaProg.lean LOADS. Nothing in Lean hashes anything: it is a label: what it is worth is what the hold of that sum in a sandbox is worth. -/
noncomputable def Try.pinned : Pinned := { name := "ytjpcicjkbbbpiaa", sum := "63a07d646f76e1564ea69f2282344cc790326dd3b71b1094c4090846ab03618e", checked := Try.checked }
namespace Rows
def none {H : Type} : Left H := { results := [], args := [] }

/-- 'laws.FnExactEntry': WHATEVER THE INPUT: true; the input reads as it did. -/
def fnExactEntrySpec : ChangeSpec := { name := "fnExactEntry", fn := fun _ => fun
  | [d1, d2] => { results := [.lit (.bool true)], args := [d1, d2] }
  | _ => none }
def fnExactEntryRow : OpenClaim := { program := "ytjpcicjkbbbpiaa", sum := "63a07d646f76e1564ea69f2282344cc790326dd3b71b1094c4090846ab03618e", func := "loop.example/g00099/laws.FnExactEntry", spec := "fnExactEntry", recurses := true, loops := true, apart := false }
def FnExactEntrySaid : Prop := fnExactEntryRow.holds Try.pinned (OpenSpec.ofChange fnExactEntrySpec)

/-- ITS FALSE NEIGHBOUR: 'it returns false'. Refute it at one input. -/
def fnExactEntryWrong : ChangeSpec := { name := "fnExactEntry", fn := fun _ => fun
  | [d1, d2] => { results := [.lit (.bool false)], args := [d1, d2] }
  | _ => none }
def FnExactEntryWrongFalsely : Prop := fnExactEntryRow.holds Try.pinned (OpenSpec.ofChange fnExactEntryWrong)

/-- 'laws.FnExactWithEntry': WHATEVER THE INPUT: true; the input reads as it did. -/
def fnExactWithEntrySpec : ChangeSpec := { name := "fnExactWithEntry", fn := fun _ => fun
  | [d1, d2, d3] => { results := [.lit (.bool true)], args := [d1, d2, d3] }
  | _ => none }
def fnExactWithEntryRow : OpenClaim := { program := "ytjpcicjkbbbpiaa", sum := "63a07d646f76e1564ea69f2282344cc790326dd3b71b1094c4090846ab03618e", func := "loop.example/g00099/laws.FnExactWithEntry", spec := "fnExactWithEntry", inPlace := ["internal/bytealg.IndexByteString", "slices.overlaps[string]", "slices.overlaps[loop.example/g00099/impl.Obj]"], recurses := true, loops := true, apart := false }
def FnExactWithEntrySaid : Prop := fnExactWithEntryRow.holds Try.pinned (OpenSpec.ofChange fnExactWithEntrySpec)

/-- ITS FALSE NEIGHBOUR: 'it returns false'. Refute it at one input. -/
def fnExactWithEntryWrong : ChangeSpec := { name := "fnExactWithEntry", fn := fun _ => fun
  | [d1, d2, d3] => { results := [.lit (.bool false)], args := [d1, d2, d3] }
  | _ => none }
def FnExactWithEntryWrongFalsely : Prop := fnExactWithEntryRow.holds Try.pinned (OpenSpec.ofChange fnExactWithEntryWrong)

/-- 'laws.FnExactItemOf': WHATEVER THE INPUT: true; the input reads as it did. -/
def fnExactItemOfSpec : ChangeSpec := { name := "fnExactItemOf", fn := fun _ => fun
  | [d1, d2] => { results := [.lit (.bool true)], args := [d1, d2] }
  | _ => none }
def fnExactItemOfRow : OpenClaim := { program := "ytjpcicjkbbbpiaa", sum := "63a07d646f76e1564ea69f2282344cc790326dd3b71b1094c4090846ab03618e", func := "loop.example/g00099/laws.FnExactItemOf", spec := "fnExactItemOf", inPlace := ["internal/bytealg.IndexByteString"], unfollowed := true, recurses := true, loops := true, apart := false }
def FnExactItemOfSaid : Prop := fnExactItemOfRow.holds Try.pinned (OpenSpec.ofChange fnExactItemOfSpec)

/-- ITS FALSE NEIGHBOUR: 'it returns false'. Refute it at one input. -/
def fnExactItemOfWrong : ChangeSpec := { name := "fnExactItemOf", fn := fun _ => fun
  | [d1, d2] => { results := [.lit (.bool false)], args := [d1, d2] }
  | _ => none }
def FnExactItemOfWrongFalsely : Prop := fnExactItemOfRow.holds Try.pinned (OpenSpec.ofChange fnExactItemOfWrong)

/- THE SECOND FORM. 'bulk': how many values and letters a reading holds, each counted each time it is reached (what is shared counts as often as it is met; a slice's spare places count too). A statement '..UptoSaid' is the law's where the arguments, and the package variables that the reading takes, are together of bulk at most 1048576: NARROWER than '..Said'. Prove '..Said' where nothing that the law and all that it calls make is longer than what came in: it says more and counts as full. Else prove '..UptoSaid'. A law counts once. -/
mutual
def uptoBulk {H : Type} : DataW H → Nat
  | .lit (.string bytes) => bytes.length + 1
  | .lit _ => 1
  | .nil => 1
  | .ptr d => uptoBulk d + 1
  | .slice elems spare => uptoBulkAll elems + uptoBulkAll spare + 1
  | .agg parts => uptoBulkAll parts + 1
  | .iface _ d => uptoBulk d + 1
  | .map entries => uptoBulkEntries entries + 1
  | .held _ => 1
def uptoBulkAll {H : Type} : List (DataW H) → Nat
  | [] => 0
  | d :: r => uptoBulk d + uptoBulkAll r
def uptoBulkEntries {H : Type} : List (Lit × DataW H) → Nat
  | [] => 0
  | x :: r => uptoBulkEntry x + uptoBulkEntries r
def uptoBulkEntry {H : Type} : Lit × DataW H → Nat
  | (.string bytes, d) => bytes.length + uptoBulk d + 1
  | (_, d) => uptoBulk d + 1
 end
def uptoSmall : (H : Type) → List (DataW H) → Bool := fun _ ds => decide (uptoBulkAll ds ≤ 1048576)
def OpenSpec.upto (s : _root_.Go.ChangeSpec) : _root_.Go.OpenSpec := { _root_.Go.OpenSpec.ofChange s with cond := some uptoSmall }

/-- 'laws.FnExactEntry', WHERE WHAT IT READS IS OF BULK AT MOST 1048576: true; the input reads as it did. -/
def fnExactEntryUptoRow : OpenClaim := { program := "ytjpcicjkbbbpiaa", sum := "63a07d646f76e1564ea69f2282344cc790326dd3b71b1094c4090846ab03618e", func := "loop.example/g00099/laws.FnExactEntry", spec := "fnExactEntry", recurses := true, loops := true, apart := false, narrowed := true }
def FnExactEntryUptoSaid : Prop := fnExactEntryUptoRow.holds Try.pinned (OpenSpec.upto fnExactEntrySpec)

/-- 'laws.FnExactWithEntry', WHERE WHAT IT READS IS OF BULK AT MOST 1048576: true; the input reads as it did. -/
def fnExactWithEntryUptoRow : OpenClaim := { program := "ytjpcicjkbbbpiaa", sum := "63a07d646f76e1564ea69f2282344cc790326dd3b71b1094c4090846ab03618e", func := "loop.example/g00099/laws.FnExactWithEntry", spec := "fnExactWithEntry", inPlace := ["internal/bytealg.IndexByteString", "slices.overlaps[string]", "slices.overlaps[loop.example/g00099/impl.Obj]"], recurses := true, loops := true, apart := false, narrowed := true }
def FnExactWithEntryUptoSaid : Prop := fnExactWithEntryUptoRow.holds Try.pinned (OpenSpec.upto fnExactWithEntrySpec)

/-- 'laws.FnExactItemOf', WHERE WHAT IT READS IS OF BULK AT MOST 1048576: true; the input reads as it did. -/
def fnExactItemOfUptoRow : OpenClaim := { program := "ytjpcicjkbbbpiaa", sum := "63a07d646f76e1564ea69f2282344cc790326dd3b71b1094c4090846ab03618e", func := "loop.example/g00099/laws.FnExactItemOf", spec := "fnExactItemOf", inPlace := ["internal/bytealg.IndexByteString"], unfollowed := true, recurses := true, loops := true, apart := false, narrowed := true }
def FnExactItemOfUptoSaid : Prop := fnExactItemOfUptoRow.holds Try.pinned (OpenSpec.upto fnExactItemOfSpec)

end Rows
end Go.Proofs.Ytjpcicjkbbbpiaa
