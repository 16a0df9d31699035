/-
  No cell of these rows narrows 'for every input' (looked for: loops, veiled, ifaces, maps, wideKeys, modest, calm, conditions, laid).
  DERIVED. THE GIVEN ROWS OF THIS SEAT. 12 by the template 'for every input the law returns true; each argument reads behind the call as it read before'; 0 by the template 'total and deterministic' (their statements: YtjhhkfjabaojhaaTotals.lean).
  GIVEN WITH THE SEED: the statements are not yours to turn. If you find one false, say at which input.
  Laid BY PROGRAM, IN A SANDBOX (cutbox-rows.mjs): the forced cells as the released guide's own fill.sh prints them over the translation 57e66f1d3ed13b1a… (all of the seat's roots in one cut). By AI agents, Wed Nov 11 2026. No macro, syntax, notation, axiom, sorry.
-/
import Derived.Test.YtjhhkfjabaojhaaChecked
import GoSem.Claim
import GoSem.ClaimJoined
import GoSem.ClaimMapViews
import Derived.JoinedTies
import Derived.KernelRfl
namespace Go.Proofs.Ytjhhkfjabaojhaa
/- THE CELL 'sum', in the pinned program and in every row, IS THE sha256 OF THE DUMP (.gsa) THAT YtjhhkfjabaojhaaProg.lean LOADS. Nothing in Lean hashes anything: it is a label: what it is worth is what the hold of that sum in a sandbox is worth. -/
noncomputable def Try.pinned : Pinned := { name := "ytjhhkfjabaojhaa", sum := "57e66f1d3ed13b1a8f848b51c6dc8a945c9c61682be7ed80f05747a4b6131d88", checked := Try.checked }
namespace Rows
def none {H : Type} : Left H := { results := [], args := [] }

/-- 'runaroundlaw15.SpotZero': WHATEVER THE INPUT: true; the input reads as it did. -/
def spotZeroSpec : ChangeSpec := { name := "spotZero", fn := fun _ => fun
  | [d1, d2, d3] => { results := [.lit (.bool true)], args := [d1, d2, d3] }
  | _ => none }
def spotZeroRow : OpenClaim := { program := "ytjhhkfjabaojhaa", sum := "57e66f1d3ed13b1a8f848b51c6dc8a945c9c61682be7ed80f05747a4b6131d88", func := "runaround/runaroundlaw15.SpotZero", spec := "spotZero", apart := false }
def SpotZeroSaid : Prop := spotZeroRow.holds Try.pinned (OpenSpec.ofChange spotZeroSpec)

/-- ITS FALSE NEIGHBOUR: 'it returns false'. Refute it at one input. -/
def spotZeroWrong : ChangeSpec := { name := "spotZero", fn := fun _ => fun
  | [d1, d2, d3] => { results := [.lit (.bool false)], args := [d1, d2, d3] }
  | _ => none }
def SpotZeroWrongFalsely : Prop := spotZeroRow.holds Try.pinned (OpenSpec.ofChange spotZeroWrong)

/-- 'runaroundlaw15.SpotFixes': WHATEVER THE INPUT: true; the input reads as it did. -/
def spotFixesSpec : ChangeSpec := { name := "spotFixes", fn := fun _ => fun
  | [d1, d2, d3, d4] => { results := [.lit (.bool true)], args := [d1, d2, d3, d4] }
  | _ => none }
def spotFixesRow : OpenClaim := { program := "ytjhhkfjabaojhaa", sum := "57e66f1d3ed13b1a8f848b51c6dc8a945c9c61682be7ed80f05747a4b6131d88", func := "runaround/runaroundlaw15.SpotFixes", spec := "spotFixes", apart := false }
def SpotFixesSaid : Prop := spotFixesRow.holds Try.pinned (OpenSpec.ofChange spotFixesSpec)

/-- ITS FALSE NEIGHBOUR: 'it returns false'. Refute it at one input. -/
def spotFixesWrong : ChangeSpec := { name := "spotFixes", fn := fun _ => fun
  | [d1, d2, d3, d4] => { results := [.lit (.bool false)], args := [d1, d2, d3, d4] }
  | _ => none }
def SpotFixesWrongFalsely : Prop := spotFixesRow.holds Try.pinned (OpenSpec.ofChange spotFixesWrong)

/-- 'runaroundlaw21.HitMoves': WHATEVER THE INPUT: true; the input reads as it did. -/
def hitMovesSpec : ChangeSpec := { name := "hitMoves", fn := fun _ => fun
  | [d1, d2, d3, d4, d5, d6] => { results := [.lit (.bool true)], args := [d1, d2, d3, d4, d5, d6] }
  | _ => none }
def hitMovesRow : OpenClaim := { program := "ytjhhkfjabaojhaa", sum := "57e66f1d3ed13b1a8f848b51c6dc8a945c9c61682be7ed80f05747a4b6131d88", func := "runaround/runaroundlaw21.HitMoves", spec := "hitMoves", unfollowed := true, recurses := true, apart := false }
def HitMovesSaid : Prop := hitMovesRow.holds Try.pinned (OpenSpec.ofChange hitMovesSpec)

/-- ITS FALSE NEIGHBOUR: 'it returns false'. Refute it at one input. -/
def hitMovesWrong : ChangeSpec := { name := "hitMoves", fn := fun _ => fun
  | [d1, d2, d3, d4, d5, d6] => { results := [.lit (.bool false)], args := [d1, d2, d3, d4, d5, d6] }
  | _ => none }
def HitMovesWrongFalsely : Prop := hitMovesRow.holds Try.pinned (OpenSpec.ofChange hitMovesWrong)

/-- 'runaroundlaw15.SpotGoes': WHATEVER THE INPUT: true; the input reads as it did. -/
def spotGoesSpec : ChangeSpec := { name := "spotGoes", fn := fun _ => fun
  | [d] => { results := [.lit (.bool true)], args := [d] }
  | _ => none }
def spotGoesRow : OpenClaim := { program := "ytjhhkfjabaojhaa", sum := "57e66f1d3ed13b1a8f848b51c6dc8a945c9c61682be7ed80f05747a4b6131d88", func := "runaround/runaroundlaw15.SpotGoes", spec := "spotGoes", apart := false }
def SpotGoesSaid : Prop := spotGoesRow.holds Try.pinned (OpenSpec.ofChange spotGoesSpec)

/-- ITS FALSE NEIGHBOUR: 'it returns false'. Refute it at one input. -/
def spotGoesWrong : ChangeSpec := { name := "spotGoes", fn := fun _ => fun
  | [d] => { results := [.lit (.bool false)], args := [d] }
  | _ => none }
def SpotGoesWrongFalsely : Prop := spotGoesRow.holds Try.pinned (OpenSpec.ofChange spotGoesWrong)

/-- 'runaroundlaw15.SpotCollapses': WHATEVER THE INPUT: true; the input reads as it did. -/
def spotCollapsesSpec : ChangeSpec := { name := "spotCollapses", fn := fun _ => fun
  | [d1, d2, d3] => { results := [.lit (.bool true)], args := [d1, d2, d3] }
  | _ => none }
def spotCollapsesRow : OpenClaim := { program := "ytjhhkfjabaojhaa", sum := "57e66f1d3ed13b1a8f848b51c6dc8a945c9c61682be7ed80f05747a4b6131d88", func := "runaround/runaroundlaw15.SpotCollapses", spec := "spotCollapses", apart := false }
def SpotCollapsesSaid : Prop := spotCollapsesRow.holds Try.pinned (OpenSpec.ofChange spotCollapsesSpec)

/-- ITS FALSE NEIGHBOUR: 'it returns false'. Refute it at one input. -/
def spotCollapsesWrong : ChangeSpec := { name := "spotCollapses", fn := fun _ => fun
  | [d1, d2, d3] => { results := [.lit (.bool false)], args := [d1, d2, d3] }
  | _ => none }
def SpotCollapsesWrongFalsely : Prop := spotCollapsesRow.holds Try.pinned (OpenSpec.ofChange spotCollapsesWrong)

/-- 'runaroundlaw24.DiffTurns': WHATEVER THE INPUT: true; the input reads as it did. -/
def diffTurnsSpec : ChangeSpec := { name := "diffTurns", fn := fun _ => fun
  | [d1, d2, d3, d4] => { results := [.lit (.bool true)], args := [d1, d2, d3, d4] }
  | _ => none }
def diffTurnsRow : OpenClaim := { program := "ytjhhkfjabaojhaa", sum := "57e66f1d3ed13b1a8f848b51c6dc8a945c9c61682be7ed80f05747a4b6131d88", func := "runaround/runaroundlaw24.DiffTurns", spec := "diffTurns", unfollowed := true, recurses := true, apart := false }
def DiffTurnsSaid : Prop := diffTurnsRow.holds Try.pinned (OpenSpec.ofChange diffTurnsSpec)

/-- ITS FALSE NEIGHBOUR: 'it returns false'. Refute it at one input. -/
def diffTurnsWrong : ChangeSpec := { name := "diffTurns", fn := fun _ => fun
  | [d1, d2, d3, d4] => { results := [.lit (.bool false)], args := [d1, d2, d3, d4] }
  | _ => none }
def DiffTurnsWrongFalsely : Prop := diffTurnsRow.holds Try.pinned (OpenSpec.ofChange diffTurnsWrong)

/-- 'runaroundlaw05.ScriptWrites': WHATEVER THE INPUT: true; the input reads as it did. -/
def scriptWritesSpec : ChangeSpec := { name := "scriptWrites", fn := fun _ => fun
  | [d] => { results := [.lit (.bool true)], args := [d] }
  | _ => none }
def scriptWritesRow : OpenClaim := { program := "ytjhhkfjabaojhaa", sum := "57e66f1d3ed13b1a8f848b51c6dc8a945c9c61682be7ed80f05747a4b6131d88", func := "runaround/runaroundlaw05.ScriptWrites", spec := "scriptWrites", unfollowed := true, recurses := true, apart := false }
def ScriptWritesSaid : Prop := scriptWritesRow.holds Try.pinned (OpenSpec.ofChange scriptWritesSpec)

/-- ITS FALSE NEIGHBOUR: 'it returns false'. Refute it at one input. -/
def scriptWritesWrong : ChangeSpec := { name := "scriptWrites", fn := fun _ => fun
  | [d] => { results := [.lit (.bool false)], args := [d] }
  | _ => none }
def ScriptWritesWrongFalsely : Prop := scriptWritesRow.holds Try.pinned (OpenSpec.ofChange scriptWritesWrong)

/-- 'runaroundlaw05.ScriptReads': WHATEVER THE INPUT: true; the input reads as it did. -/
def scriptReadsSpec : ChangeSpec := { name := "scriptReads", fn := fun _ => fun
  | [d] => { results := [.lit (.bool true)], args := [d] }
  | _ => none }
def scriptReadsRow : OpenClaim := { program := "ytjhhkfjabaojhaa", sum := "57e66f1d3ed13b1a8f848b51c6dc8a945c9c61682be7ed80f05747a4b6131d88", func := "runaround/runaroundlaw05.ScriptReads", spec := "scriptReads", unfollowed := true, recurses := true, apart := false }
def ScriptReadsSaid : Prop := scriptReadsRow.holds Try.pinned (OpenSpec.ofChange scriptReadsSpec)

/-- ITS FALSE NEIGHBOUR: 'it returns false'. Refute it at one input. -/
def scriptReadsWrong : ChangeSpec := { name := "scriptReads", fn := fun _ => fun
  | [d] => { results := [.lit (.bool false)], args := [d] }
  | _ => none }
def ScriptReadsWrongFalsely : Prop := scriptReadsRow.holds Try.pinned (OpenSpec.ofChange scriptReadsWrong)

/-- 'runaroundlaw05.ScriptLong': WHATEVER THE INPUT: true; the input reads as it did. -/
def scriptLongSpec : ChangeSpec := { name := "scriptLong", fn := fun _ => fun
  | [d1, d2] => { results := [.lit (.bool true)], args := [d1, d2] }
  | _ => none }
def scriptLongRow : OpenClaim := { program := "ytjhhkfjabaojhaa", sum := "57e66f1d3ed13b1a8f848b51c6dc8a945c9c61682be7ed80f05747a4b6131d88", func := "runaround/runaroundlaw05.ScriptLong", spec := "scriptLong", unfollowed := true, recurses := true, apart := false }
def ScriptLongSaid : Prop := scriptLongRow.holds Try.pinned (OpenSpec.ofChange scriptLongSpec)

/-- ITS FALSE NEIGHBOUR: 'it returns false'. Refute it at one input. -/
def scriptLongWrong : ChangeSpec := { name := "scriptLong", fn := fun _ => fun
  | [d1, d2] => { results := [.lit (.bool false)], args := [d1, d2] }
  | _ => none }
def ScriptLongWrongFalsely : Prop := scriptLongRow.holds Try.pinned (OpenSpec.ofChange scriptLongWrong)

/-- 'runaroundlaw05.ScriptCounts': WHATEVER THE INPUT: true; the input reads as it did. -/
def scriptCountsSpec : ChangeSpec := { name := "scriptCounts", fn := fun _ => fun
  | [d] => { results := [.lit (.bool true)], args := [d] }
  | _ => none }
def scriptCountsRow : OpenClaim := { program := "ytjhhkfjabaojhaa", sum := "57e66f1d3ed13b1a8f848b51c6dc8a945c9c61682be7ed80f05747a4b6131d88", func := "runaround/runaroundlaw05.ScriptCounts", spec := "scriptCounts", unfollowed := true, recurses := true, apart := false }
def ScriptCountsSaid : Prop := scriptCountsRow.holds Try.pinned (OpenSpec.ofChange scriptCountsSpec)

/-- ITS FALSE NEIGHBOUR: 'it returns false'. Refute it at one input. -/
def scriptCountsWrong : ChangeSpec := { name := "scriptCounts", fn := fun _ => fun
  | [d] => { results := [.lit (.bool false)], args := [d] }
  | _ => none }
def ScriptCountsWrongFalsely : Prop := scriptCountsRow.holds Try.pinned (OpenSpec.ofChange scriptCountsWrong)

/-- 'runaroundlaw05.ScriptJoins': WHATEVER THE INPUT: true; the input reads as it did. -/
def scriptJoinsSpec : ChangeSpec := { name := "scriptJoins", fn := fun _ => fun
  | [d1, d2] => { results := [.lit (.bool true)], args := [d1, d2] }
  | _ => none }
def scriptJoinsRow : OpenClaim := { program := "ytjhhkfjabaojhaa", sum := "57e66f1d3ed13b1a8f848b51c6dc8a945c9c61682be7ed80f05747a4b6131d88", func := "runaround/runaroundlaw05.ScriptJoins", spec := "scriptJoins", unfollowed := true, recurses := true, apart := false }
def ScriptJoinsSaid : Prop := scriptJoinsRow.holds Try.pinned (OpenSpec.ofChange scriptJoinsSpec)

/-- ITS FALSE NEIGHBOUR: 'it returns false'. Refute it at one input. -/
def scriptJoinsWrong : ChangeSpec := { name := "scriptJoins", fn := fun _ => fun
  | [d1, d2] => { results := [.lit (.bool false)], args := [d1, d2] }
  | _ => none }
def ScriptJoinsWrongFalsely : Prop := scriptJoinsRow.holds Try.pinned (OpenSpec.ofChange scriptJoinsWrong)

/-- 'runaroundlaw24.DiffTells': WHATEVER THE INPUT: true; the input reads as it did. -/
def diffTellsSpec : ChangeSpec := { name := "diffTells", fn := fun _ => fun
  | [d1, d2] => { results := [.lit (.bool true)], args := [d1, d2] }
  | _ => none }
def diffTellsRow : OpenClaim := { program := "ytjhhkfjabaojhaa", sum := "57e66f1d3ed13b1a8f848b51c6dc8a945c9c61682be7ed80f05747a4b6131d88", func := "runaround/runaroundlaw24.DiffTells", spec := "diffTells", unfollowed := true, recurses := true, apart := false }
def DiffTellsSaid : Prop := diffTellsRow.holds Try.pinned (OpenSpec.ofChange diffTellsSpec)

/-- ITS FALSE NEIGHBOUR: 'it returns false'. Refute it at one input. -/
def diffTellsWrong : ChangeSpec := { name := "diffTells", fn := fun _ => fun
  | [d1, d2] => { results := [.lit (.bool false)], args := [d1, d2] }
  | _ => none }
def DiffTellsWrongFalsely : Prop := diffTellsRow.holds Try.pinned (OpenSpec.ofChange diffTellsWrong)

/- THE SECOND FORM. 'bulk': how many values and letters a reading holds, each counted each time it is reached (what is shared counts as often as it is met; a slice's spare places count too). A statement '..UptoSaid' is the law's where the arguments, and the package variables that the reading takes, are together of bulk at most 1048576: NARROWER than '..Said'. Prove '..Said' where nothing that the law and all that it calls make is longer than what came in: it says more and counts as full. Else prove '..UptoSaid'. A law counts once. -/
mutual
def uptoBulk {H : Type} : DataW H → Nat
  | .lit (.string bytes) => bytes.length + 1
  | .lit _ => 1
  | .nil => 1
  | .ptr d => uptoBulk d + 1
  | .slice elems spare => uptoBulkAll elems + uptoBulkAll spare + 1
  | .agg parts => uptoBulkAll parts + 1
  | .iface _ d => uptoBulk d + 1
  | .map entries => uptoBulkEntries entries + 1
  | .held _ => 1
def uptoBulkAll {H : Type} : List (DataW H) → Nat
  | [] => 0
  | d :: r => uptoBulk d + uptoBulkAll r
def uptoBulkEntries {H : Type} : List (Lit × DataW H) → Nat
  | [] => 0
  | x :: r => uptoBulkEntry x + uptoBulkEntries r
def uptoBulkEntry {H : Type} : Lit × DataW H → Nat
  | (.string bytes, d) => bytes.length + uptoBulk d + 1
  | (_, d) => uptoBulk d + 1
 end
def uptoSmall : (H : Type) → List (DataW H) → Bool := fun _ ds => decide (uptoBulkAll ds ≤ 1048576)
def OpenSpec.upto (s : _root_.Go.ChangeSpec) : _root_.Go.OpenSpec := { _root_.Go.OpenSpec.ofChange s with cond := some uptoSmall }

/-- 'runaroundlaw15.SpotZero', WHERE WHAT IT READS IS OF BULK AT MOST 1048576: true; the input reads as it did. -/
def spotZeroUptoRow : OpenClaim := { program := "ytjhhkfjabaojhaa", sum := "57e66f1d3ed13b1a8f848b51c6dc8a945c9c61682be7ed80f05747a4b6131d88", func := "runaround/runaroundlaw15.SpotZero", spec := "spotZero", apart := false, narrowed := true }
def SpotZeroUptoSaid : Prop := spotZeroUptoRow.holds Try.pinned (OpenSpec.upto spotZeroSpec)

/-- 'runaroundlaw15.SpotFixes', WHERE WHAT IT READS IS OF BULK AT MOST 1048576: true; the input reads as it did. -/
def spotFixesUptoRow : OpenClaim := { program := "ytjhhkfjabaojhaa", sum := "57e66f1d3ed13b1a8f848b51c6dc8a945c9c61682be7ed80f05747a4b6131d88", func := "runaround/runaroundlaw15.SpotFixes", spec := "spotFixes", apart := false, narrowed := true }
def SpotFixesUptoSaid : Prop := spotFixesUptoRow.holds Try.pinned (OpenSpec.upto spotFixesSpec)

/-- 'runaroundlaw21.HitMoves', WHERE WHAT IT READS IS OF BULK AT MOST 1048576: true; the input reads as it did. -/
def hitMovesUptoRow : OpenClaim := { program := "ytjhhkfjabaojhaa", sum := "57e66f1d3ed13b1a8f848b51c6dc8a945c9c61682be7ed80f05747a4b6131d88", func := "runaround/runaroundlaw21.HitMoves", spec := "hitMoves", unfollowed := true, recurses := true, apart := false, narrowed := true }
def HitMovesUptoSaid : Prop := hitMovesUptoRow.holds Try.pinned (OpenSpec.upto hitMovesSpec)

/-- 'runaroundlaw15.SpotGoes', WHERE WHAT IT READS IS OF BULK AT MOST 1048576: true; the input reads as it did. -/
def spotGoesUptoRow : OpenClaim := { program := "ytjhhkfjabaojhaa", sum := "57e66f1d3ed13b1a8f848b51c6dc8a945c9c61682be7ed80f05747a4b6131d88", func := "runaround/runaroundlaw15.SpotGoes", spec := "spotGoes", apart := false, narrowed := true }
def SpotGoesUptoSaid : Prop := spotGoesUptoRow.holds Try.pinned (OpenSpec.upto spotGoesSpec)

/-- 'runaroundlaw15.SpotCollapses', WHERE WHAT IT READS IS OF BULK AT MOST 1048576: true; the input reads as it did. -/
def spotCollapsesUptoRow : OpenClaim := { program := "ytjhhkfjabaojhaa", sum := "57e66f1d3ed13b1a8f848b51c6dc8a945c9c61682be7ed80f05747a4b6131d88", func := "runaround/runaroundlaw15.SpotCollapses", spec := "spotCollapses", apart := false, narrowed := true }
def SpotCollapsesUptoSaid : Prop := spotCollapsesUptoRow.holds Try.pinned (OpenSpec.upto spotCollapsesSpec)

/-- 'runaroundlaw24.DiffTurns', WHERE WHAT IT READS IS OF BULK AT MOST 1048576: true; the input reads as it did. -/
def diffTurnsUptoRow : OpenClaim := { program := "ytjhhkfjabaojhaa", sum := "57e66f1d3ed13b1a8f848b51c6dc8a945c9c61682be7ed80f05747a4b6131d88", func := "runaround/runaroundlaw24.DiffTurns", spec := "diffTurns", unfollowed := true, recurses := true, apart := false, narrowed := true }
def DiffTurnsUptoSaid : Prop := diffTurnsUptoRow.holds Try.pinned (OpenSpec.upto diffTurnsSpec)

/-- 'runaroundlaw05.ScriptWrites', WHERE WHAT IT READS IS OF BULK AT MOST 1048576: true; the input reads as it did. -/
def scriptWritesUptoRow : OpenClaim := { program := "ytjhhkfjabaojhaa", sum := "57e66f1d3ed13b1a8f848b51c6dc8a945c9c61682be7ed80f05747a4b6131d88", func := "runaround/runaroundlaw05.ScriptWrites", spec := "scriptWrites", unfollowed := true, recurses := true, apart := false, narrowed := true }
def ScriptWritesUptoSaid : Prop := scriptWritesUptoRow.holds Try.pinned (OpenSpec.upto scriptWritesSpec)

/-- 'runaroundlaw05.ScriptReads', WHERE WHAT IT READS IS OF BULK AT MOST 1048576: true; the input reads as it did. -/
def scriptReadsUptoRow : OpenClaim := { program := "ytjhhkfjabaojhaa", sum := "57e66f1d3ed13b1a8f848b51c6dc8a945c9c61682be7ed80f05747a4b6131d88", func := "runaround/runaroundlaw05.ScriptReads", spec := "scriptReads", unfollowed := true, recurses := true, apart := false, narrowed := true }
def ScriptReadsUptoSaid : Prop := scriptReadsUptoRow.holds Try.pinned (OpenSpec.upto scriptReadsSpec)

/-- 'runaroundlaw05.ScriptLong', WHERE WHAT IT READS IS OF BULK AT MOST 1048576: true; the input reads as it did. -/
def scriptLongUptoRow : OpenClaim := { program := "ytjhhkfjabaojhaa", sum := "57e66f1d3ed13b1a8f848b51c6dc8a945c9c61682be7ed80f05747a4b6131d88", func := "runaround/runaroundlaw05.ScriptLong", spec := "scriptLong", unfollowed := true, recurses := true, apart := false, narrowed := true }
def ScriptLongUptoSaid : Prop := scriptLongUptoRow.holds Try.pinned (OpenSpec.upto scriptLongSpec)

/-- 'runaroundlaw05.ScriptCounts', WHERE WHAT IT READS IS OF BULK AT MOST 1048576: true; the input reads as it did. -/
def scriptCountsUptoRow : OpenClaim := { program := "ytjhhkfjabaojhaa", sum := "57e66f1d3ed13b1a8f848b51c6dc8a945c9c61682be7ed80f05747a4b6131d88", func := "runaround/runaroundlaw05.ScriptCounts", spec := "scriptCounts", unfollowed := true, recurses := true, apart := false, narrowed := true }
def ScriptCountsUptoSaid : Prop := scriptCountsUptoRow.holds Try.pinned (OpenSpec.upto scriptCountsSpec)

/-- 'runaroundlaw05.ScriptJoins', WHERE WHAT IT READS IS OF BULK AT MOST 1048576: true; the input reads as it did. -/
def scriptJoinsUptoRow : OpenClaim := { program := "ytjhhkfjabaojhaa", sum := "57e66f1d3ed13b1a8f848b51c6dc8a945c9c61682be7ed80f05747a4b6131d88", func := "runaround/runaroundlaw05.ScriptJoins", spec := "scriptJoins", unfollowed := true, recurses := true, apart := false, narrowed := true }
def ScriptJoinsUptoSaid : Prop := scriptJoinsUptoRow.holds Try.pinned (OpenSpec.upto scriptJoinsSpec)

/-- 'runaroundlaw24.DiffTells', WHERE WHAT IT READS IS OF BULK AT MOST 1048576: true; the input reads as it did. -/
def diffTellsUptoRow : OpenClaim := { program := "ytjhhkfjabaojhaa", sum := "57e66f1d3ed13b1a8f848b51c6dc8a945c9c61682be7ed80f05747a4b6131d88", func := "runaround/runaroundlaw24.DiffTells", spec := "diffTells", unfollowed := true, recurses := true, apart := false, narrowed := true }
def DiffTellsUptoSaid : Prop := diffTellsUptoRow.holds Try.pinned (OpenSpec.upto diffTellsSpec)

end Rows
end Go.Proofs.Ytjhhkfjabaojhaa
