/-
  DERIVED. GIVEN WITH THE SEED: THE CARDS: each row of YtbmibaopkfenbaaDoorRows.lean that lists a variable, with what it lists TIED to the program's text (the seventh form; the later family's looks); each row that meets fmt, with fmt's text TOLD by the authors' own Lean function (tested against real Go, not proved from fmt's source: count such statements apart). THE CARD IS WHAT COUNTS. Prove the row's statement (the work); the ties are given (YtbmibaopkfenbaaDoorTie.lean); close each card by the builder's one call (the guide's Derived/Test/ToyasCard.lean, 'card_holds'). Laid BY PROGRAM, IN A SANDBOX (cutbox-door.mjs). By AI agents, Wed Nov 11 2026. No macro, syntax, notation, axiom, sorry.
-/
import Derived.Test.YtbmibaopkfenbaaDoorRows
import GoSem.ClaimSeven
namespace Go.Proofs.YtbmibaopkfenbaaDoor
namespace Rows

/-- THE TIED CARD OF 'laws.FnExactShowObj'. -/
def fnExactShowObjCard : Claim7 := { stood := { row := fnExactShowObjRow, standIns := [], harness := (true, "5aaac63b3124d44a23fa66a717c3cad92af698850dee5c3367a76b1dd795eab9"), looks := true }, kinds := [], alts := [], laidByText := true, laidKinds := [.data, .data, .data], laidTests := true, laidLooks := .later }
def FnExactShowObjCardSaid : Prop := Claim7.holds Tryd.pinned (.plain (OpenSpec.ofChange fnExactShowObjSpec)) fnExactShowObjCard

/-- THE TIED CARD OF 'laws.FnExactDocText'. -/
def fnExactDocTextCard : Claim7 := { stood := { row := fnExactDocTextRow, standIns := [], harness := (true, "5aaac63b3124d44a23fa66a717c3cad92af698850dee5c3367a76b1dd795eab9"), looks := true }, kinds := [], alts := [], laidByText := true, laidKinds := [.data, .data, .data], laidTests := true, laidLooks := .later }
def FnExactDocTextCardSaid : Prop := Claim7.holds Tryd.pinned (.plain (OpenSpec.ofChange fnExactDocTextSpec)) fnExactDocTextCard

/-- THE TIED CARD OF 'laws.FnObjects'. -/
def fnObjectsCard : Claim7 := { stood := { row := fnObjectsRow, standIns := [], harness := (true, "5aaac63b3124d44a23fa66a717c3cad92af698850dee5c3367a76b1dd795eab9"), looks := true }, kinds := [], alts := [], laidByText := true, laidKinds := [.data, .data, .data, .sentinel, .sentinel], laidTests := true, laidLooks := .later }
def FnObjectsCardSaid : Prop := Claim7.holds Tryd.pinned (.plain (OpenSpec.ofChange fnObjectsSpec)) fnObjectsCard

/-- THE SECOND FORM's CARD OF 'laws.FnExactShowObj'. -/
def fnExactShowObjUptoCard : Claim7 := { stood := { row := fnExactShowObjUptoRow, standIns := [], harness := (true, "5aaac63b3124d44a23fa66a717c3cad92af698850dee5c3367a76b1dd795eab9"), looks := true }, kinds := [], alts := [], laidByText := true, laidKinds := [.data, .data, .data], laidTests := true, laidLooks := .later }
def FnExactShowObjUptoCardSaid : Prop := Claim7.holds Tryd.pinned (.plain (OpenSpec.upto fnExactShowObjSpec)) fnExactShowObjUptoCard

/-- THE SECOND FORM's CARD OF 'laws.FnExactDocText'. -/
def fnExactDocTextUptoCard : Claim7 := { stood := { row := fnExactDocTextUptoRow, standIns := [], harness := (true, "5aaac63b3124d44a23fa66a717c3cad92af698850dee5c3367a76b1dd795eab9"), looks := true }, kinds := [], alts := [], laidByText := true, laidKinds := [.data, .data, .data], laidTests := true, laidLooks := .later }
def FnExactDocTextUptoCardSaid : Prop := Claim7.holds Tryd.pinned (.plain (OpenSpec.upto fnExactDocTextSpec)) fnExactDocTextUptoCard

/-- THE SECOND FORM's CARD OF 'laws.FnObjects'. -/
def fnObjectsUptoCard : Claim7 := { stood := { row := fnObjectsUptoRow, standIns := [], harness := (true, "5aaac63b3124d44a23fa66a717c3cad92af698850dee5c3367a76b1dd795eab9"), looks := true }, kinds := [], alts := [], laidByText := true, laidKinds := [.data, .data, .data, .sentinel, .sentinel], laidTests := true, laidLooks := .later }
def FnObjectsUptoCardSaid : Prop := Claim7.holds Tryd.pinned (.plain (OpenSpec.upto fnObjectsSpec)) fnObjectsUptoCard
end Rows
end Go.Proofs.YtbmibaopkfenbaaDoor
