/-
  NARROWER THAN 'FOR EVERY INPUT', by the rows' own cells (each row's printed sentence says how): FnExactEntry: loops · FnExactObjOk: loops · FnExactDocOk: loops · FnExactWithEntry: loops · FnExactItemOf: loops.
  DERIVED. THE GIVEN ROWS OF THIS SEAT. 9 by the template 'for every input the law returns true; each argument reads behind the call as it read before'; 0 by the template 'total and deterministic' (their statements: YtbmdncjnnlajnaaTotals.lean).
  GIVEN WITH THE SEED: the statements are not yours to turn. If you find one false, say at which input.
  Laid BY PROGRAM, IN A SANDBOX (cutbox-rows.mjs): the forced cells as the released guide's own fill.sh prints them over the translation 06efd43a6e12f8c7… (all of the seat's roots in one cut). By AI agents, Wed Nov 11 2026. No macro, syntax, notation, axiom, sorry.
-/
import Derived.Test.YtbmdncjnnlajnaaChecked
import GoSem.Claim
import GoSem.ClaimJoined
import GoSem.ClaimMapViews
import Derived.JoinedTies
import Derived.KernelRfl
namespace Go.Proofs.Ytbmdncjnnlajnaa
/- THE CELL 'sum', in the pinned program and in every row, IS THE sha256 OF THE DUMP (.gsa) THAT YtbmdncjnnlajnaaProg.lean LOADS. Nothing in Lean hashes anything: it is a label: what it is worth is what the hold of that sum in a sandbox is worth. -/
noncomputable def Try.pinned : Pinned := { name := "ytbmdncjnnlajnaa", sum := "06efd43a6e12f8c77668a88dd41e88d163f494ba9c413dea7a4fba05b116a3c6", checked := Try.checked }
namespace Rows
def none {H : Type} : Left H := { results := [], args := [] }

/-- 'laws.FnExactOptionsOk': WHATEVER THE INPUT: true; the input reads as it did. -/
def fnExactOptionsOkSpec : ChangeSpec := { name := "fnExactOptionsOk", fn := fun _ => fun
  | [d] => { results := [.lit (.bool true)], args := [d] }
  | _ => none }
def fnExactOptionsOkRow : OpenClaim := { program := "ytbmdncjnnlajnaa", sum := "06efd43a6e12f8c77668a88dd41e88d163f494ba9c413dea7a4fba05b116a3c6", func := "loop.example/g00099/laws.FnExactOptionsOk", spec := "fnExactOptionsOk", apart := false }
def FnExactOptionsOkSaid : Prop := fnExactOptionsOkRow.holds Try.pinned (OpenSpec.ofChange fnExactOptionsOkSpec)

/-- ITS FALSE NEIGHBOUR: 'it returns false'. Refute it at one input. -/
def fnExactOptionsOkWrong : ChangeSpec := { name := "fnExactOptionsOk", fn := fun _ => fun
  | [d] => { results := [.lit (.bool false)], args := [d] }
  | _ => none }
def FnExactOptionsOkWrongFalsely : Prop := fnExactOptionsOkRow.holds Try.pinned (OpenSpec.ofChange fnExactOptionsOkWrong)

/-- 'laws.FnExactSniff': WHATEVER THE INPUT: true; the input reads as it did. -/
def fnExactSniffSpec : ChangeSpec := { name := "fnExactSniff", fn := fun _ => fun
  | [d] => { results := [.lit (.bool true)], args := [d] }
  | _ => none }
def fnExactSniffRow : OpenClaim := { program := "ytbmdncjnnlajnaa", sum := "06efd43a6e12f8c77668a88dd41e88d163f494ba9c413dea7a4fba05b116a3c6", func := "loop.example/g00099/laws.FnExactSniff", spec := "fnExactSniff", apart := false }
def FnExactSniffSaid : Prop := fnExactSniffRow.holds Try.pinned (OpenSpec.ofChange fnExactSniffSpec)

/-- ITS FALSE NEIGHBOUR: 'it returns false'. Refute it at one input. -/
def fnExactSniffWrong : ChangeSpec := { name := "fnExactSniff", fn := fun _ => fun
  | [d] => { results := [.lit (.bool false)], args := [d] }
  | _ => none }
def FnExactSniffWrongFalsely : Prop := fnExactSniffRow.holds Try.pinned (OpenSpec.ofChange fnExactSniffWrong)

/-- 'laws.FnExactWordOk': WHATEVER THE INPUT: true; the input reads as it did. -/
def fnExactWordOkSpec : ChangeSpec := { name := "fnExactWordOk", fn := fun _ => fun
  | [d] => { results := [.lit (.bool true)], args := [d] }
  | _ => none }
def fnExactWordOkRow : OpenClaim := { program := "ytbmdncjnnlajnaa", sum := "06efd43a6e12f8c77668a88dd41e88d163f494ba9c413dea7a4fba05b116a3c6", func := "loop.example/g00099/laws.FnExactWordOk", spec := "fnExactWordOk", inPlace := ["internal/bytealg.IndexByteString"], apart := false }
def FnExactWordOkSaid : Prop := fnExactWordOkRow.holds Try.pinned (OpenSpec.ofChange fnExactWordOkSpec)

/-- ITS FALSE NEIGHBOUR: 'it returns false'. Refute it at one input. -/
def fnExactWordOkWrong : ChangeSpec := { name := "fnExactWordOk", fn := fun _ => fun
  | [d] => { results := [.lit (.bool false)], args := [d] }
  | _ => none }
def FnExactWordOkWrongFalsely : Prop := fnExactWordOkRow.holds Try.pinned (OpenSpec.ofChange fnExactWordOkWrong)

/-- 'laws.FnExactEntry': WHATEVER THE INPUT: true; the input reads as it did. -/
def fnExactEntrySpec : ChangeSpec := { name := "fnExactEntry", fn := fun _ => fun
  | [d1, d2] => { results := [.lit (.bool true)], args := [d1, d2] }
  | _ => none }
def fnExactEntryRow : OpenClaim := { program := "ytbmdncjnnlajnaa", sum := "06efd43a6e12f8c77668a88dd41e88d163f494ba9c413dea7a4fba05b116a3c6", func := "loop.example/g00099/laws.FnExactEntry", spec := "fnExactEntry", recurses := true, loops := true, apart := false }
def FnExactEntrySaid : Prop := fnExactEntryRow.holds Try.pinned (OpenSpec.ofChange fnExactEntrySpec)

/-- ITS FALSE NEIGHBOUR: 'it returns false'. Refute it at one input. -/
def fnExactEntryWrong : ChangeSpec := { name := "fnExactEntry", fn := fun _ => fun
  | [d1, d2] => { results := [.lit (.bool false)], args := [d1, d2] }
  | _ => none }
def FnExactEntryWrongFalsely : Prop := fnExactEntryRow.holds Try.pinned (OpenSpec.ofChange fnExactEntryWrong)

/-- 'laws.FnExactObjOk': WHATEVER THE INPUT: true; the input reads as it did. -/
def fnExactObjOkSpec : ChangeSpec := { name := "fnExactObjOk", fn := fun _ => fun
  | [d] => { results := [.lit (.bool true)], args := [d] }
  | _ => none }
def fnExactObjOkRow : OpenClaim := { program := "ytbmdncjnnlajnaa", sum := "06efd43a6e12f8c77668a88dd41e88d163f494ba9c413dea7a4fba05b116a3c6", func := "loop.example/g00099/laws.FnExactObjOk", spec := "fnExactObjOk", inPlace := ["internal/bytealg.IndexByteString"], recurses := true, loops := true, apart := false }
def FnExactObjOkSaid : Prop := fnExactObjOkRow.holds Try.pinned (OpenSpec.ofChange fnExactObjOkSpec)

/-- ITS FALSE NEIGHBOUR: 'it returns false'. Refute it at one input. -/
def fnExactObjOkWrong : ChangeSpec := { name := "fnExactObjOk", fn := fun _ => fun
  | [d] => { results := [.lit (.bool false)], args := [d] }
  | _ => none }
def FnExactObjOkWrongFalsely : Prop := fnExactObjOkRow.holds Try.pinned (OpenSpec.ofChange fnExactObjOkWrong)

/-- 'laws.FnExactDocOk': WHATEVER THE INPUT: true; the input reads as it did. -/
def fnExactDocOkSpec : ChangeSpec := { name := "fnExactDocOk", fn := fun _ => fun
  | [d] => { results := [.lit (.bool true)], args := [d] }
  | _ => none }
def fnExactDocOkRow : OpenClaim := { program := "ytbmdncjnnlajnaa", sum := "06efd43a6e12f8c77668a88dd41e88d163f494ba9c413dea7a4fba05b116a3c6", func := "loop.example/g00099/laws.FnExactDocOk", spec := "fnExactDocOk", inPlace := ["internal/bytealg.IndexByteString"], unfollowed := true, recurses := true, loops := true, apart := false }
def FnExactDocOkSaid : Prop := fnExactDocOkRow.holds Try.pinned (OpenSpec.ofChange fnExactDocOkSpec)

/-- ITS FALSE NEIGHBOUR: 'it returns false'. Refute it at one input. -/
def fnExactDocOkWrong : ChangeSpec := { name := "fnExactDocOk", fn := fun _ => fun
  | [d] => { results := [.lit (.bool false)], args := [d] }
  | _ => none }
def FnExactDocOkWrongFalsely : Prop := fnExactDocOkRow.holds Try.pinned (OpenSpec.ofChange fnExactDocOkWrong)

/-- 'laws.FnExactWithEntry': WHATEVER THE INPUT: true; the input reads as it did. -/
def fnExactWithEntrySpec : ChangeSpec := { name := "fnExactWithEntry", fn := fun _ => fun
  | [d1, d2, d3] => { results := [.lit (.bool true)], args := [d1, d2, d3] }
  | _ => none }
def fnExactWithEntryRow : OpenClaim := { program := "ytbmdncjnnlajnaa", sum := "06efd43a6e12f8c77668a88dd41e88d163f494ba9c413dea7a4fba05b116a3c6", func := "loop.example/g00099/laws.FnExactWithEntry", spec := "fnExactWithEntry", inPlace := ["internal/bytealg.IndexByteString", "slices.overlaps[string]", "slices.overlaps[loop.example/g00099/impl.Obj]"], recurses := true, loops := true, apart := false }
def FnExactWithEntrySaid : Prop := fnExactWithEntryRow.holds Try.pinned (OpenSpec.ofChange fnExactWithEntrySpec)

/-- ITS FALSE NEIGHBOUR: 'it returns false'. Refute it at one input. -/
def fnExactWithEntryWrong : ChangeSpec := { name := "fnExactWithEntry", fn := fun _ => fun
  | [d1, d2, d3] => { results := [.lit (.bool false)], args := [d1, d2, d3] }
  | _ => none }
def FnExactWithEntryWrongFalsely : Prop := fnExactWithEntryRow.holds Try.pinned (OpenSpec.ofChange fnExactWithEntryWrong)

/-- 'laws.FnEntries': WHATEVER THE INPUT: true; the input reads as it did. -/
def fnEntriesSpec : ChangeSpec := { name := "fnEntries", fn := fun _ => fun
  | [d] => { results := [.lit (.bool true)], args := [d] }
  | _ => none }
def fnEntriesRow : OpenClaim := { program := "ytbmdncjnnlajnaa", sum := "06efd43a6e12f8c77668a88dd41e88d163f494ba9c413dea7a4fba05b116a3c6", func := "loop.example/g00099/laws.FnEntries", spec := "fnEntries", inPlace := ["internal/bytealg.IndexByteString", "slices.overlaps[string]", "slices.overlaps[loop.example/g00099/impl.Obj]"], recurses := true, apart := false }
def FnEntriesSaid : Prop := fnEntriesRow.holds Try.pinned (OpenSpec.ofChange fnEntriesSpec)

/-- ITS FALSE NEIGHBOUR: 'it returns false'. Refute it at one input. -/
def fnEntriesWrong : ChangeSpec := { name := "fnEntries", fn := fun _ => fun
  | [d] => { results := [.lit (.bool false)], args := [d] }
  | _ => none }
def FnEntriesWrongFalsely : Prop := fnEntriesRow.holds Try.pinned (OpenSpec.ofChange fnEntriesWrong)

/-- 'laws.FnExactItemOf': WHATEVER THE INPUT: true; the input reads as it did. -/
def fnExactItemOfSpec : ChangeSpec := { name := "fnExactItemOf", fn := fun _ => fun
  | [d1, d2] => { results := [.lit (.bool true)], args := [d1, d2] }
  | _ => none }
def fnExactItemOfRow : OpenClaim := { program := "ytbmdncjnnlajnaa", sum := "06efd43a6e12f8c77668a88dd41e88d163f494ba9c413dea7a4fba05b116a3c6", func := "loop.example/g00099/laws.FnExactItemOf", spec := "fnExactItemOf", inPlace := ["internal/bytealg.IndexByteString"], unfollowed := true, recurses := true, loops := true, apart := false }
def FnExactItemOfSaid : Prop := fnExactItemOfRow.holds Try.pinned (OpenSpec.ofChange fnExactItemOfSpec)

/-- ITS FALSE NEIGHBOUR: 'it returns false'. Refute it at one input. -/
def fnExactItemOfWrong : ChangeSpec := { name := "fnExactItemOf", fn := fun _ => fun
  | [d1, d2] => { results := [.lit (.bool false)], args := [d1, d2] }
  | _ => none }
def FnExactItemOfWrongFalsely : Prop := fnExactItemOfRow.holds Try.pinned (OpenSpec.ofChange fnExactItemOfWrong)

/- THE SECOND FORM. 'bulk': how many values and letters a reading holds, each counted each time it is reached (what is shared counts as often as it is met; a slice's spare places count too). A statement '..UptoSaid' is the law's where the arguments, and the package variables that the reading takes, are together of bulk at most 1048576: NARROWER than '..Said'. Prove '..Said' where nothing that the law and all that it calls make is longer than what came in: it says more and counts as full. Else prove '..UptoSaid'. A law counts once. -/
mutual
def uptoBulk {H : Type} : DataW H → Nat
  | .lit (.string bytes) => bytes.length + 1
  | .lit _ => 1
  | .nil => 1
  | .ptr d => uptoBulk d + 1
  | .slice elems spare => uptoBulkAll elems + uptoBulkAll spare + 1
  | .agg parts => uptoBulkAll parts + 1
  | .iface _ d => uptoBulk d + 1
  | .map entries => uptoBulkEntries entries + 1
  | .held _ => 1
def uptoBulkAll {H : Type} : List (DataW H) → Nat
  | [] => 0
  | d :: r => uptoBulk d + uptoBulkAll r
def uptoBulkEntries {H : Type} : List (Lit × DataW H) → Nat
  | [] => 0
  | x :: r => uptoBulkEntry x + uptoBulkEntries r
def uptoBulkEntry {H : Type} : Lit × DataW H → Nat
  | (.string bytes, d) => bytes.length + uptoBulk d + 1
  | (_, d) => uptoBulk d + 1
 end
def uptoSmall : (H : Type) → List (DataW H) → Bool := fun _ ds => decide (uptoBulkAll ds ≤ 1048576)
def OpenSpec.upto (s : _root_.Go.ChangeSpec) : _root_.Go.OpenSpec := { _root_.Go.OpenSpec.ofChange s with cond := some uptoSmall }

/-- 'laws.FnExactOptionsOk', WHERE WHAT IT READS IS OF BULK AT MOST 1048576: true; the input reads as it did. -/
def fnExactOptionsOkUptoRow : OpenClaim := { program := "ytbmdncjnnlajnaa", sum := "06efd43a6e12f8c77668a88dd41e88d163f494ba9c413dea7a4fba05b116a3c6", func := "loop.example/g00099/laws.FnExactOptionsOk", spec := "fnExactOptionsOk", apart := false, narrowed := true }
def FnExactOptionsOkUptoSaid : Prop := fnExactOptionsOkUptoRow.holds Try.pinned (OpenSpec.upto fnExactOptionsOkSpec)

/-- 'laws.FnExactSniff', WHERE WHAT IT READS IS OF BULK AT MOST 1048576: true; the input reads as it did. -/
def fnExactSniffUptoRow : OpenClaim := { program := "ytbmdncjnnlajnaa", sum := "06efd43a6e12f8c77668a88dd41e88d163f494ba9c413dea7a4fba05b116a3c6", func := "loop.example/g00099/laws.FnExactSniff", spec := "fnExactSniff", apart := false, narrowed := true }
def FnExactSniffUptoSaid : Prop := fnExactSniffUptoRow.holds Try.pinned (OpenSpec.upto fnExactSniffSpec)

/-- 'laws.FnExactWordOk', WHERE WHAT IT READS IS OF BULK AT MOST 1048576: true; the input reads as it did. -/
def fnExactWordOkUptoRow : OpenClaim := { program := "ytbmdncjnnlajnaa", sum := "06efd43a6e12f8c77668a88dd41e88d163f494ba9c413dea7a4fba05b116a3c6", func := "loop.example/g00099/laws.FnExactWordOk", spec := "fnExactWordOk", inPlace := ["internal/bytealg.IndexByteString"], apart := false, narrowed := true }
def FnExactWordOkUptoSaid : Prop := fnExactWordOkUptoRow.holds Try.pinned (OpenSpec.upto fnExactWordOkSpec)

/-- 'laws.FnExactEntry', WHERE WHAT IT READS IS OF BULK AT MOST 1048576: true; the input reads as it did. -/
def fnExactEntryUptoRow : OpenClaim := { program := "ytbmdncjnnlajnaa", sum := "06efd43a6e12f8c77668a88dd41e88d163f494ba9c413dea7a4fba05b116a3c6", func := "loop.example/g00099/laws.FnExactEntry", spec := "fnExactEntry", recurses := true, loops := true, apart := false, narrowed := true }
def FnExactEntryUptoSaid : Prop := fnExactEntryUptoRow.holds Try.pinned (OpenSpec.upto fnExactEntrySpec)

/-- 'laws.FnExactObjOk', WHERE WHAT IT READS IS OF BULK AT MOST 1048576: true; the input reads as it did. -/
def fnExactObjOkUptoRow : OpenClaim := { program := "ytbmdncjnnlajnaa", sum := "06efd43a6e12f8c77668a88dd41e88d163f494ba9c413dea7a4fba05b116a3c6", func := "loop.example/g00099/laws.FnExactObjOk", spec := "fnExactObjOk", inPlace := ["internal/bytealg.IndexByteString"], recurses := true, loops := true, apart := false, narrowed := true }
def FnExactObjOkUptoSaid : Prop := fnExactObjOkUptoRow.holds Try.pinned (OpenSpec.upto fnExactObjOkSpec)

/-- 'laws.FnExactDocOk', WHERE WHAT IT READS IS OF BULK AT MOST 1048576: true; the input reads as it did. -/
def fnExactDocOkUptoRow : OpenClaim := { program := "ytbmdncjnnlajnaa", sum := "06efd43a6e12f8c77668a88dd41e88d163f494ba9c413dea7a4fba05b116a3c6", func := "loop.example/g00099/laws.FnExactDocOk", spec := "fnExactDocOk", inPlace := ["internal/bytealg.IndexByteString"], unfollowed := true, recurses := true, loops := true, apart := false, narrowed := true }
def FnExactDocOkUptoSaid : Prop := fnExactDocOkUptoRow.holds Try.pinned (OpenSpec.upto fnExactDocOkSpec)

/-- 'laws.FnExactWithEntry', WHERE WHAT IT READS IS OF BULK AT MOST 1048576: true; the input reads as it did. -/
def fnExactWithEntryUptoRow : OpenClaim := { program := "ytbmdncjnnlajnaa", sum := "06efd43a6e12f8c77668a88dd41e88d163f494ba9c413dea7a4fba05b116a3c6", func := "loop.example/g00099/laws.FnExactWithEntry", spec := "fnExactWithEntry", inPlace := ["internal/bytealg.IndexByteString", "slices.overlaps[string]", "slices.overlaps[loop.example/g00099/impl.Obj]"], recurses := true, loops := true, apart := false, narrowed := true }
def FnExactWithEntryUptoSaid : Prop := fnExactWithEntryUptoRow.holds Try.pinned (OpenSpec.upto fnExactWithEntrySpec)

/-- 'laws.FnEntries', WHERE WHAT IT READS IS OF BULK AT MOST 1048576: true; the input reads as it did. -/
def fnEntriesUptoRow : OpenClaim := { program := "ytbmdncjnnlajnaa", sum := "06efd43a6e12f8c77668a88dd41e88d163f494ba9c413dea7a4fba05b116a3c6", func := "loop.example/g00099/laws.FnEntries", spec := "fnEntries", inPlace := ["internal/bytealg.IndexByteString", "slices.overlaps[string]", "slices.overlaps[loop.example/g00099/impl.Obj]"], recurses := true, apart := false, narrowed := true }
def FnEntriesUptoSaid : Prop := fnEntriesUptoRow.holds Try.pinned (OpenSpec.upto fnEntriesSpec)

/-- 'laws.FnExactItemOf', WHERE WHAT IT READS IS OF BULK AT MOST 1048576: true; the input reads as it did. -/
def fnExactItemOfUptoRow : OpenClaim := { program := "ytbmdncjnnlajnaa", sum := "06efd43a6e12f8c77668a88dd41e88d163f494ba9c413dea7a4fba05b116a3c6", func := "loop.example/g00099/laws.FnExactItemOf", spec := "fnExactItemOf", inPlace := ["internal/bytealg.IndexByteString"], unfollowed := true, recurses := true, loops := true, apart := false, narrowed := true }
def FnExactItemOfUptoSaid : Prop := fnExactItemOfUptoRow.holds Try.pinned (OpenSpec.upto fnExactItemOfSpec)

end Rows
end Go.Proofs.Ytbmdncjnnlajnaa
