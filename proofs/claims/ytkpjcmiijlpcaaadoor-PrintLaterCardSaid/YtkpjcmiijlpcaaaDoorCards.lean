/-
  DERIVED. GIVEN WITH THE SEED: THE CARDS: each row of YtkpjcmiijlpcaaaDoorRows.lean that lists a variable, with what it lists TIED to the program's text (the seventh form; the later family's looks); each row that meets fmt, with fmt's text TOLD by the authors' own Lean function (tested against real Go, not proved from fmt's source: count such statements apart). THE CARD IS WHAT COUNTS. Prove the row's statement (the work); the ties are given (YtkpjcmiijlpcaaaDoorTie.lean); close each card by the builder's one call (the guide's Derived/Test/ToyasCard.lean, 'card_holds'). Laid BY PROGRAM, IN A SANDBOX (cutbox-door.mjs). By AI agents, Wed Nov 11 2026. No macro, syntax, notation, axiom, sorry.
-/
import Derived.Test.YtkpjcmiijlpcaaaDoorRows
import GoSem.ClaimSeven
namespace Go.Proofs.YtkpjcmiijlpcaaaDoor
namespace Rows

/-- THE TIED CARD OF 'runaroundlaw22.PrintDraws'. -/
def printDrawsCard : Claim7 := { stood := { row := printDrawsRow, standIns := [], harness := (true, "9ec3c4e73bd4e2f49a5baf61c1fe254d3f5a9647be63ef9e54594bc58e5d9e80"), looks := true }, kinds := [], alts := [], laidByText := true, laidKinds := [.data], laidTests := true, laidLooks := .later }
def PrintDrawsCardSaid : Prop := Claim7.holds Tryd.pinned (.plain (OpenSpec.ofChange printDrawsSpec)) printDrawsCard

/-- THE TIED CARD OF 'runaroundlaw22.PrintLater'. -/
def printLaterCard : Claim7 := { stood := { row := printLaterRow, standIns := [], harness := (true, "9ec3c4e73bd4e2f49a5baf61c1fe254d3f5a9647be63ef9e54594bc58e5d9e80"), looks := true }, kinds := [], alts := [], laidByText := true, laidKinds := [.data], laidTests := true, laidLooks := .later }
def PrintLaterCardSaid : Prop := Claim7.holds Tryd.pinned (.plain (OpenSpec.ofChange printLaterSpec)) printLaterCard

/-- THE TIED CARD OF 'runaroundlaw22.PrintSigns'. -/
def printSignsCard : Claim7 := { stood := { row := printSignsRow, standIns := [], harness := (true, "9ec3c4e73bd4e2f49a5baf61c1fe254d3f5a9647be63ef9e54594bc58e5d9e80"), looks := true }, kinds := [], alts := [], laidByText := true, laidKinds := [.data, .data, .data, .data], laidTests := true, laidLooks := .later }
def PrintSignsCardSaid : Prop := Claim7.holds Tryd.pinned (.plain (OpenSpec.ofChange printSignsSpec)) printSignsCard

/-- THE TIED CARD OF 'runaroundlaw23.TaleJoins'. -/
def taleJoinsCard : Claim7 := { stood := { row := taleJoinsRow, standIns := [], harness := (true, "9ec3c4e73bd4e2f49a5baf61c1fe254d3f5a9647be63ef9e54594bc58e5d9e80"), looks := true }, kinds := [], alts := [], laidByText := true, laidKinds := [.data, .data, .data, .data, .sentinel, .sentinel, .data, .pinned], laidTests := true, laidLooks := .later }
def TaleJoinsCardSaid : Prop := Claim7.holds Tryd.pinned (.plain (OpenSpec.ofChange taleJoinsSpec)) taleJoinsCard

/-- THE SECOND FORM's CARD OF 'runaroundlaw22.PrintDraws'. -/
def printDrawsUptoCard : Claim7 := { stood := { row := printDrawsUptoRow, standIns := [], harness := (true, "9ec3c4e73bd4e2f49a5baf61c1fe254d3f5a9647be63ef9e54594bc58e5d9e80"), looks := true }, kinds := [], alts := [], laidByText := true, laidKinds := [.data], laidTests := true, laidLooks := .later }
def PrintDrawsUptoCardSaid : Prop := Claim7.holds Tryd.pinned (.plain (OpenSpec.upto printDrawsSpec)) printDrawsUptoCard

/-- THE SECOND FORM's CARD OF 'runaroundlaw22.PrintLater'. -/
def printLaterUptoCard : Claim7 := { stood := { row := printLaterUptoRow, standIns := [], harness := (true, "9ec3c4e73bd4e2f49a5baf61c1fe254d3f5a9647be63ef9e54594bc58e5d9e80"), looks := true }, kinds := [], alts := [], laidByText := true, laidKinds := [.data], laidTests := true, laidLooks := .later }
def PrintLaterUptoCardSaid : Prop := Claim7.holds Tryd.pinned (.plain (OpenSpec.upto printLaterSpec)) printLaterUptoCard

/-- THE SECOND FORM's CARD OF 'runaroundlaw22.PrintSigns'. -/
def printSignsUptoCard : Claim7 := { stood := { row := printSignsUptoRow, standIns := [], harness := (true, "9ec3c4e73bd4e2f49a5baf61c1fe254d3f5a9647be63ef9e54594bc58e5d9e80"), looks := true }, kinds := [], alts := [], laidByText := true, laidKinds := [.data, .data, .data, .data], laidTests := true, laidLooks := .later }
def PrintSignsUptoCardSaid : Prop := Claim7.holds Tryd.pinned (.plain (OpenSpec.upto printSignsSpec)) printSignsUptoCard

/-- THE SECOND FORM's CARD OF 'runaroundlaw23.TaleJoins'. -/
def taleJoinsUptoCard : Claim7 := { stood := { row := taleJoinsUptoRow, standIns := [], harness := (true, "9ec3c4e73bd4e2f49a5baf61c1fe254d3f5a9647be63ef9e54594bc58e5d9e80"), looks := true }, kinds := [], alts := [], laidByText := true, laidKinds := [.data, .data, .data, .data, .sentinel, .sentinel, .data, .pinned], laidTests := true, laidLooks := .later }
def TaleJoinsUptoCardSaid : Prop := Claim7.holds Tryd.pinned (.plain (OpenSpec.upto taleJoinsSpec)) taleJoinsUptoCard
end Rows
end Go.Proofs.YtkpjcmiijlpcaaaDoor
