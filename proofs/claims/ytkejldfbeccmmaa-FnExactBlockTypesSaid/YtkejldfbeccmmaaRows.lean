/-
  No cell of these rows narrows 'for every input' (looked for: loops, veiled, ifaces, maps, wideKeys, modest, calm, conditions, laid).
  DERIVED. THE GIVEN ROWS OF THIS SEAT. 7 by the template 'for every input the law returns true; each argument reads behind the call as it read before'; 0 by the template 'total and deterministic' (their statements: YtkejldfbeccmmaaTotals.lean).
  GIVEN WITH THE SEED: the statements are not yours to turn. If you find one false, say at which input.
  Laid BY PROGRAM, IN A SANDBOX (cutbox-rows.mjs): the forced cells as the released guide's own fill.sh prints them over the translation 79cce72c0b7ed873… (all of the seat's roots in one cut). By AI agents, Wed Nov 11 2026. No macro, syntax, notation, axiom, sorry.
-/
import Derived.Test.YtkejldfbeccmmaaChecked
import GoSem.Claim
import GoSem.ClaimJoined
import GoSem.ClaimMapViews
import Derived.JoinedTies
import Derived.KernelRfl
namespace Go.Proofs.Ytkejldfbeccmmaa
/- THE CELL 'sum', in the pinned program and in every row, IS THE sha256 OF THE DUMP (.gsa) THAT YtkejldfbeccmmaaProg.lean LOADS. Nothing in Lean hashes anything: it is a label: what it is worth is what the hold of that sum in a sandbox is worth. -/
noncomputable def Try.pinned : Pinned := { name := "ytkejldfbeccmmaa", sum := "79cce72c0b7ed8737646dd97123ce09ff41b316e9d688173b697380cefa42ae3", checked := Try.checked }
namespace Rows
def none {H : Type} : Left H := { results := [], args := [] }

/-- 'laws.FnInflates': WHATEVER THE INPUT: true; the input reads as it did. -/
def fnInflatesSpec : ChangeSpec := { name := "fnInflates", fn := fun _ => fun
  | [d] => { results := [.lit (.bool true)], args := [d] }
  | _ => none }
def fnInflatesRow : OpenClaim := { program := "ytkejldfbeccmmaa", sum := "79cce72c0b7ed8737646dd97123ce09ff41b316e9d688173b697380cefa42ae3", func := "loop.example/g00099/laws.FnInflates", spec := "fnInflates", unfollowed := true, recurses := true, apart := false }
def FnInflatesSaid : Prop := fnInflatesRow.holds Try.pinned (OpenSpec.ofChange fnInflatesSpec)

/-- ITS FALSE NEIGHBOUR: 'it returns false'. Refute it at one input. -/
def fnInflatesWrong : ChangeSpec := { name := "fnInflates", fn := fun _ => fun
  | [d] => { results := [.lit (.bool false)], args := [d] }
  | _ => none }
def FnInflatesWrongFalsely : Prop := fnInflatesRow.holds Try.pinned (OpenSpec.ofChange fnInflatesWrong)

/-- 'laws.FnExactInflate': WHATEVER THE INPUT: true; the input reads as it did. -/
def fnExactInflateSpec : ChangeSpec := { name := "fnExactInflate", fn := fun _ => fun
  | [d1, d2] => { results := [.lit (.bool true)], args := [d1, d2] }
  | _ => none }
def fnExactInflateRow : OpenClaim := { program := "ytkejldfbeccmmaa", sum := "79cce72c0b7ed8737646dd97123ce09ff41b316e9d688173b697380cefa42ae3", func := "loop.example/g00099/laws.FnExactInflate", spec := "fnExactInflate", apart := false }
def FnExactInflateSaid : Prop := fnExactInflateRow.holds Try.pinned (OpenSpec.ofChange fnExactInflateSpec)

/-- ITS FALSE NEIGHBOUR: 'it returns false'. Refute it at one input. -/
def fnExactInflateWrong : ChangeSpec := { name := "fnExactInflate", fn := fun _ => fun
  | [d1, d2] => { results := [.lit (.bool false)], args := [d1, d2] }
  | _ => none }
def FnExactInflateWrongFalsely : Prop := fnExactInflateRow.holds Try.pinned (OpenSpec.ofChange fnExactInflateWrong)

/-- 'laws.FnExactBlockTypes': WHATEVER THE INPUT: true; the input reads as it did. -/
def fnExactBlockTypesSpec : ChangeSpec := { name := "fnExactBlockTypes", fn := fun _ => fun
  | [d1, d2] => { results := [.lit (.bool true)], args := [d1, d2] }
  | _ => none }
def fnExactBlockTypesRow : OpenClaim := { program := "ytkejldfbeccmmaa", sum := "79cce72c0b7ed8737646dd97123ce09ff41b316e9d688173b697380cefa42ae3", func := "loop.example/g00099/laws.FnExactBlockTypes", spec := "fnExactBlockTypes", apart := false }
def FnExactBlockTypesSaid : Prop := fnExactBlockTypesRow.holds Try.pinned (OpenSpec.ofChange fnExactBlockTypesSpec)

/-- ITS FALSE NEIGHBOUR: 'it returns false'. Refute it at one input. -/
def fnExactBlockTypesWrong : ChangeSpec := { name := "fnExactBlockTypes", fn := fun _ => fun
  | [d1, d2] => { results := [.lit (.bool false)], args := [d1, d2] }
  | _ => none }
def FnExactBlockTypesWrongFalsely : Prop := fnExactBlockTypesRow.holds Try.pinned (OpenSpec.ofChange fnExactBlockTypesWrong)

/-- 'laws.FnExactZlibRead': WHATEVER THE INPUT: true; the input reads as it did. -/
def fnExactZlibReadSpec : ChangeSpec := { name := "fnExactZlibRead", fn := fun _ => fun
  | [d1, d2] => { results := [.lit (.bool true)], args := [d1, d2] }
  | _ => none }
def fnExactZlibReadRow : OpenClaim := { program := "ytkejldfbeccmmaa", sum := "79cce72c0b7ed8737646dd97123ce09ff41b316e9d688173b697380cefa42ae3", func := "loop.example/g00099/laws.FnExactZlibRead", spec := "fnExactZlibRead", apart := false }
def FnExactZlibReadSaid : Prop := fnExactZlibReadRow.holds Try.pinned (OpenSpec.ofChange fnExactZlibReadSpec)

/-- ITS FALSE NEIGHBOUR: 'it returns false'. Refute it at one input. -/
def fnExactZlibReadWrong : ChangeSpec := { name := "fnExactZlibRead", fn := fun _ => fun
  | [d1, d2] => { results := [.lit (.bool false)], args := [d1, d2] }
  | _ => none }
def FnExactZlibReadWrongFalsely : Prop := fnExactZlibReadRow.holds Try.pinned (OpenSpec.ofChange fnExactZlibReadWrong)

/-- 'laws.FnBlocks': WHATEVER THE INPUT: true; the input reads as it did. -/
def fnBlocksSpec : ChangeSpec := { name := "fnBlocks", fn := fun _ => fun
  | [d] => { results := [.lit (.bool true)], args := [d] }
  | _ => none }
def fnBlocksRow : OpenClaim := { program := "ytkejldfbeccmmaa", sum := "79cce72c0b7ed8737646dd97123ce09ff41b316e9d688173b697380cefa42ae3", func := "loop.example/g00099/laws.FnBlocks", spec := "fnBlocks", unfollowed := true, recurses := true, apart := false }
def FnBlocksSaid : Prop := fnBlocksRow.holds Try.pinned (OpenSpec.ofChange fnBlocksSpec)

/-- ITS FALSE NEIGHBOUR: 'it returns false'. Refute it at one input. -/
def fnBlocksWrong : ChangeSpec := { name := "fnBlocks", fn := fun _ => fun
  | [d] => { results := [.lit (.bool false)], args := [d] }
  | _ => none }
def FnBlocksWrongFalsely : Prop := fnBlocksRow.holds Try.pinned (OpenSpec.ofChange fnBlocksWrong)

/-- 'laws.FnCut': WHATEVER THE INPUT: true; the input reads as it did. -/
def fnCutSpec : ChangeSpec := { name := "fnCut", fn := fun _ => fun
  | [d] => { results := [.lit (.bool true)], args := [d] }
  | _ => none }
def fnCutRow : OpenClaim := { program := "ytkejldfbeccmmaa", sum := "79cce72c0b7ed8737646dd97123ce09ff41b316e9d688173b697380cefa42ae3", func := "loop.example/g00099/laws.FnCut", spec := "fnCut", unfollowed := true, recurses := true, apart := false }
def FnCutSaid : Prop := fnCutRow.holds Try.pinned (OpenSpec.ofChange fnCutSpec)

/-- ITS FALSE NEIGHBOUR: 'it returns false'. Refute it at one input. -/
def fnCutWrong : ChangeSpec := { name := "fnCut", fn := fun _ => fun
  | [d] => { results := [.lit (.bool false)], args := [d] }
  | _ => none }
def FnCutWrongFalsely : Prop := fnCutRow.holds Try.pinned (OpenSpec.ofChange fnCutWrong)

/-- 'laws.FnUnpacks': WHATEVER THE INPUT: true; the input reads as it did. -/
def fnUnpacksSpec : ChangeSpec := { name := "fnUnpacks", fn := fun _ => fun
  | [d] => { results := [.lit (.bool true)], args := [d] }
  | _ => none }
def fnUnpacksRow : OpenClaim := { program := "ytkejldfbeccmmaa", sum := "79cce72c0b7ed8737646dd97123ce09ff41b316e9d688173b697380cefa42ae3", func := "loop.example/g00099/laws.FnUnpacks", spec := "fnUnpacks", apart := false }
def FnUnpacksSaid : Prop := fnUnpacksRow.holds Try.pinned (OpenSpec.ofChange fnUnpacksSpec)

/-- ITS FALSE NEIGHBOUR: 'it returns false'. Refute it at one input. -/
def fnUnpacksWrong : ChangeSpec := { name := "fnUnpacks", fn := fun _ => fun
  | [d] => { results := [.lit (.bool false)], args := [d] }
  | _ => none }
def FnUnpacksWrongFalsely : Prop := fnUnpacksRow.holds Try.pinned (OpenSpec.ofChange fnUnpacksWrong)

/- THE SECOND FORM. 'bulk': how many values and letters a reading holds, each counted each time it is reached (what is shared counts as often as it is met; a slice's spare places count too). A statement '..UptoSaid' is the law's where the arguments, and the package variables that the reading takes, are together of bulk at most 1048576: NARROWER than '..Said'. Prove '..Said' where nothing that the law and all that it calls make is longer than what came in: it says more and counts as full. Else prove '..UptoSaid'. A law counts once. -/
mutual
def uptoBulk {H : Type} : DataW H → Nat
  | .lit (.string bytes) => bytes.length + 1
  | .lit _ => 1
  | .nil => 1
  | .ptr d => uptoBulk d + 1
  | .slice elems spare => uptoBulkAll elems + uptoBulkAll spare + 1
  | .agg parts => uptoBulkAll parts + 1
  | .iface _ d => uptoBulk d + 1
  | .map entries => uptoBulkEntries entries + 1
  | .held _ => 1
def uptoBulkAll {H : Type} : List (DataW H) → Nat
  | [] => 0
  | d :: r => uptoBulk d + uptoBulkAll r
def uptoBulkEntries {H : Type} : List (Lit × DataW H) → Nat
  | [] => 0
  | x :: r => uptoBulkEntry x + uptoBulkEntries r
def uptoBulkEntry {H : Type} : Lit × DataW H → Nat
  | (.string bytes, d) => bytes.length + uptoBulk d + 1
  | (_, d) => uptoBulk d + 1
 end
def uptoSmall : (H : Type) → List (DataW H) → Bool := fun _ ds => decide (uptoBulkAll ds ≤ 1048576)
def OpenSpec.upto (s : _root_.Go.ChangeSpec) : _root_.Go.OpenSpec := { _root_.Go.OpenSpec.ofChange s with cond := some uptoSmall }

/-- 'laws.FnInflates', WHERE WHAT IT READS IS OF BULK AT MOST 1048576: true; the input reads as it did. -/
def fnInflatesUptoRow : OpenClaim := { program := "ytkejldfbeccmmaa", sum := "79cce72c0b7ed8737646dd97123ce09ff41b316e9d688173b697380cefa42ae3", func := "loop.example/g00099/laws.FnInflates", spec := "fnInflates", unfollowed := true, recurses := true, apart := false, narrowed := true }
def FnInflatesUptoSaid : Prop := fnInflatesUptoRow.holds Try.pinned (OpenSpec.upto fnInflatesSpec)

/-- 'laws.FnExactInflate', WHERE WHAT IT READS IS OF BULK AT MOST 1048576: true; the input reads as it did. -/
def fnExactInflateUptoRow : OpenClaim := { program := "ytkejldfbeccmmaa", sum := "79cce72c0b7ed8737646dd97123ce09ff41b316e9d688173b697380cefa42ae3", func := "loop.example/g00099/laws.FnExactInflate", spec := "fnExactInflate", apart := false, narrowed := true }
def FnExactInflateUptoSaid : Prop := fnExactInflateUptoRow.holds Try.pinned (OpenSpec.upto fnExactInflateSpec)

/-- 'laws.FnExactBlockTypes', WHERE WHAT IT READS IS OF BULK AT MOST 1048576: true; the input reads as it did. -/
def fnExactBlockTypesUptoRow : OpenClaim := { program := "ytkejldfbeccmmaa", sum := "79cce72c0b7ed8737646dd97123ce09ff41b316e9d688173b697380cefa42ae3", func := "loop.example/g00099/laws.FnExactBlockTypes", spec := "fnExactBlockTypes", apart := false, narrowed := true }
def FnExactBlockTypesUptoSaid : Prop := fnExactBlockTypesUptoRow.holds Try.pinned (OpenSpec.upto fnExactBlockTypesSpec)

/-- 'laws.FnExactZlibRead', WHERE WHAT IT READS IS OF BULK AT MOST 1048576: true; the input reads as it did. -/
def fnExactZlibReadUptoRow : OpenClaim := { program := "ytkejldfbeccmmaa", sum := "79cce72c0b7ed8737646dd97123ce09ff41b316e9d688173b697380cefa42ae3", func := "loop.example/g00099/laws.FnExactZlibRead", spec := "fnExactZlibRead", apart := false, narrowed := true }
def FnExactZlibReadUptoSaid : Prop := fnExactZlibReadUptoRow.holds Try.pinned (OpenSpec.upto fnExactZlibReadSpec)

/-- 'laws.FnBlocks', WHERE WHAT IT READS IS OF BULK AT MOST 1048576: true; the input reads as it did. -/
def fnBlocksUptoRow : OpenClaim := { program := "ytkejldfbeccmmaa", sum := "79cce72c0b7ed8737646dd97123ce09ff41b316e9d688173b697380cefa42ae3", func := "loop.example/g00099/laws.FnBlocks", spec := "fnBlocks", unfollowed := true, recurses := true, apart := false, narrowed := true }
def FnBlocksUptoSaid : Prop := fnBlocksUptoRow.holds Try.pinned (OpenSpec.upto fnBlocksSpec)

/-- 'laws.FnCut', WHERE WHAT IT READS IS OF BULK AT MOST 1048576: true; the input reads as it did. -/
def fnCutUptoRow : OpenClaim := { program := "ytkejldfbeccmmaa", sum := "79cce72c0b7ed8737646dd97123ce09ff41b316e9d688173b697380cefa42ae3", func := "loop.example/g00099/laws.FnCut", spec := "fnCut", unfollowed := true, recurses := true, apart := false, narrowed := true }
def FnCutUptoSaid : Prop := fnCutUptoRow.holds Try.pinned (OpenSpec.upto fnCutSpec)

/-- 'laws.FnUnpacks', WHERE WHAT IT READS IS OF BULK AT MOST 1048576: true; the input reads as it did. -/
def fnUnpacksUptoRow : OpenClaim := { program := "ytkejldfbeccmmaa", sum := "79cce72c0b7ed8737646dd97123ce09ff41b316e9d688173b697380cefa42ae3", func := "loop.example/g00099/laws.FnUnpacks", spec := "fnUnpacks", apart := false, narrowed := true }
def FnUnpacksUptoSaid : Prop := fnUnpacksUptoRow.holds Try.pinned (OpenSpec.upto fnUnpacksSpec)

end Rows
end Go.Proofs.Ytkejldfbeccmmaa
