/-
  No cell of these rows narrows 'for every input' (looked for: loops, veiled, ifaces, maps, wideKeys, modest, calm, conditions, laid).
  DERIVED. THE GIVEN ROWS OF THIS SEAT. 4 by the template 'for every input the law returns true; each argument reads behind the call as it read before'; 0 by the template 'total and deterministic' (their statements: YtkpjcmiijlpcaaaTotals.lean).
  GIVEN WITH THE SEED: the statements are not yours to turn. If you find one false, say at which input.
  Laid BY PROGRAM, IN A SANDBOX (cutbox-rows.mjs): the forced cells as the released guide's own fill.sh prints them over the translation b29f4b4c54ef3b70… (all of the seat's roots in one cut). By AI agents, Wed Nov 11 2026. No macro, syntax, notation, axiom, sorry.
-/
import Derived.Test.YtkpjcmiijlpcaaaChecked
import GoSem.Claim
import GoSem.ClaimJoined
import GoSem.ClaimMapViews
import Derived.JoinedTies
import Derived.KernelRfl
namespace Go.Proofs.Ytkpjcmiijlpcaaa
/- THE CELL 'sum', in the pinned program and in every row, IS THE sha256 OF THE DUMP (.gsa) THAT YtkpjcmiijlpcaaaProg.lean LOADS. Nothing in Lean hashes anything: it is a label: what it is worth is what the hold of that sum in a sandbox is worth. -/
noncomputable def Try.pinned : Pinned := { name := "ytkpjcmiijlpcaaa", sum := "b29f4b4c54ef3b70e58ed9f9b221a058c97ebc0ca6c0a1d8bf7059141e456c64", checked := Try.checked }
namespace Rows
def none {H : Type} : Left H := { results := [], args := [] }

/-- 'runaroundlaw05.ScriptLong': WHATEVER THE INPUT: true; the input reads as it did. -/
def scriptLongSpec : ChangeSpec := { name := "scriptLong", fn := fun _ => fun
  | [d1, d2] => { results := [.lit (.bool true)], args := [d1, d2] }
  | _ => none }
def scriptLongRow : OpenClaim := { program := "ytkpjcmiijlpcaaa", sum := "b29f4b4c54ef3b70e58ed9f9b221a058c97ebc0ca6c0a1d8bf7059141e456c64", func := "runaround/runaroundlaw05.ScriptLong", spec := "scriptLong", unfollowed := true, recurses := true, apart := false }
def ScriptLongSaid : Prop := scriptLongRow.holds Try.pinned (OpenSpec.ofChange scriptLongSpec)

/-- ITS FALSE NEIGHBOUR: 'it returns false'. Refute it at one input. -/
def scriptLongWrong : ChangeSpec := { name := "scriptLong", fn := fun _ => fun
  | [d1, d2] => { results := [.lit (.bool false)], args := [d1, d2] }
  | _ => none }
def ScriptLongWrongFalsely : Prop := scriptLongRow.holds Try.pinned (OpenSpec.ofChange scriptLongWrong)

/-- 'runaroundlaw05.ScriptCounts': WHATEVER THE INPUT: true; the input reads as it did. -/
def scriptCountsSpec : ChangeSpec := { name := "scriptCounts", fn := fun _ => fun
  | [d] => { results := [.lit (.bool true)], args := [d] }
  | _ => none }
def scriptCountsRow : OpenClaim := { program := "ytkpjcmiijlpcaaa", sum := "b29f4b4c54ef3b70e58ed9f9b221a058c97ebc0ca6c0a1d8bf7059141e456c64", func := "runaround/runaroundlaw05.ScriptCounts", spec := "scriptCounts", unfollowed := true, recurses := true, apart := false }
def ScriptCountsSaid : Prop := scriptCountsRow.holds Try.pinned (OpenSpec.ofChange scriptCountsSpec)

/-- ITS FALSE NEIGHBOUR: 'it returns false'. Refute it at one input. -/
def scriptCountsWrong : ChangeSpec := { name := "scriptCounts", fn := fun _ => fun
  | [d] => { results := [.lit (.bool false)], args := [d] }
  | _ => none }
def ScriptCountsWrongFalsely : Prop := scriptCountsRow.holds Try.pinned (OpenSpec.ofChange scriptCountsWrong)

/-- 'runaroundlaw05.ScriptJoins': WHATEVER THE INPUT: true; the input reads as it did. -/
def scriptJoinsSpec : ChangeSpec := { name := "scriptJoins", fn := fun _ => fun
  | [d1, d2] => { results := [.lit (.bool true)], args := [d1, d2] }
  | _ => none }
def scriptJoinsRow : OpenClaim := { program := "ytkpjcmiijlpcaaa", sum := "b29f4b4c54ef3b70e58ed9f9b221a058c97ebc0ca6c0a1d8bf7059141e456c64", func := "runaround/runaroundlaw05.ScriptJoins", spec := "scriptJoins", unfollowed := true, recurses := true, apart := false }
def ScriptJoinsSaid : Prop := scriptJoinsRow.holds Try.pinned (OpenSpec.ofChange scriptJoinsSpec)

/-- ITS FALSE NEIGHBOUR: 'it returns false'. Refute it at one input. -/
def scriptJoinsWrong : ChangeSpec := { name := "scriptJoins", fn := fun _ => fun
  | [d1, d2] => { results := [.lit (.bool false)], args := [d1, d2] }
  | _ => none }
def ScriptJoinsWrongFalsely : Prop := scriptJoinsRow.holds Try.pinned (OpenSpec.ofChange scriptJoinsWrong)

/-- 'runaroundlaw20.JudgeParts': WHATEVER THE INPUT: true; the input reads as it did. -/
def judgePartsSpec : ChangeSpec := { name := "judgeParts", fn := fun _ => fun
  | [d1, d2, d3, d4, d5] => { results := [.lit (.bool true)], args := [d1, d2, d3, d4, d5] }
  | _ => none }
def judgePartsRow : OpenClaim := { program := "ytkpjcmiijlpcaaa", sum := "b29f4b4c54ef3b70e58ed9f9b221a058c97ebc0ca6c0a1d8bf7059141e456c64", func := "runaround/runaroundlaw20.JudgeParts", spec := "judgeParts", unfollowed := true, recurses := true, apart := false }
def JudgePartsSaid : Prop := judgePartsRow.holds Try.pinned (OpenSpec.ofChange judgePartsSpec)

/-- ITS FALSE NEIGHBOUR: 'it returns false'. Refute it at one input. -/
def judgePartsWrong : ChangeSpec := { name := "judgeParts", fn := fun _ => fun
  | [d1, d2, d3, d4, d5] => { results := [.lit (.bool false)], args := [d1, d2, d3, d4, d5] }
  | _ => none }
def JudgePartsWrongFalsely : Prop := judgePartsRow.holds Try.pinned (OpenSpec.ofChange judgePartsWrong)

/- THE SECOND FORM. 'bulk': how many values and letters a reading holds, each counted each time it is reached (what is shared counts as often as it is met; a slice's spare places count too). A statement '..UptoSaid' is the law's where the arguments, and the package variables that the reading takes, are together of bulk at most 1048576: NARROWER than '..Said'. Prove '..Said' where nothing that the law and all that it calls make is longer than what came in: it says more and counts as full. Else prove '..UptoSaid'. A law counts once. -/
mutual
def uptoBulk {H : Type} : DataW H → Nat
  | .lit (.string bytes) => bytes.length + 1
  | .lit _ => 1
  | .nil => 1
  | .ptr d => uptoBulk d + 1
  | .slice elems spare => uptoBulkAll elems + uptoBulkAll spare + 1
  | .agg parts => uptoBulkAll parts + 1
  | .iface _ d => uptoBulk d + 1
  | .map entries => uptoBulkEntries entries + 1
  | .held _ => 1
def uptoBulkAll {H : Type} : List (DataW H) → Nat
  | [] => 0
  | d :: r => uptoBulk d + uptoBulkAll r
def uptoBulkEntries {H : Type} : List (Lit × DataW H) → Nat
  | [] => 0
  | x :: r => uptoBulkEntry x + uptoBulkEntries r
def uptoBulkEntry {H : Type} : Lit × DataW H → Nat
  | (.string bytes, d) => bytes.length + uptoBulk d + 1
  | (_, d) => uptoBulk d + 1
 end
def uptoSmall : (H : Type) → List (DataW H) → Bool := fun _ ds => decide (uptoBulkAll ds ≤ 1048576)
def OpenSpec.upto (s : _root_.Go.ChangeSpec) : _root_.Go.OpenSpec := { _root_.Go.OpenSpec.ofChange s with cond := some uptoSmall }

/-- 'runaroundlaw05.ScriptLong', WHERE WHAT IT READS IS OF BULK AT MOST 1048576: true; the input reads as it did. -/
def scriptLongUptoRow : OpenClaim := { program := "ytkpjcmiijlpcaaa", sum := "b29f4b4c54ef3b70e58ed9f9b221a058c97ebc0ca6c0a1d8bf7059141e456c64", func := "runaround/runaroundlaw05.ScriptLong", spec := "scriptLong", unfollowed := true, recurses := true, apart := false, narrowed := true }
def ScriptLongUptoSaid : Prop := scriptLongUptoRow.holds Try.pinned (OpenSpec.upto scriptLongSpec)

/-- 'runaroundlaw05.ScriptCounts', WHERE WHAT IT READS IS OF BULK AT MOST 1048576: true; the input reads as it did. -/
def scriptCountsUptoRow : OpenClaim := { program := "ytkpjcmiijlpcaaa", sum := "b29f4b4c54ef3b70e58ed9f9b221a058c97ebc0ca6c0a1d8bf7059141e456c64", func := "runaround/runaroundlaw05.ScriptCounts", spec := "scriptCounts", unfollowed := true, recurses := true, apart := false, narrowed := true }
def ScriptCountsUptoSaid : Prop := scriptCountsUptoRow.holds Try.pinned (OpenSpec.upto scriptCountsSpec)

/-- 'runaroundlaw05.ScriptJoins', WHERE WHAT IT READS IS OF BULK AT MOST 1048576: true; the input reads as it did. -/
def scriptJoinsUptoRow : OpenClaim := { program := "ytkpjcmiijlpcaaa", sum := "b29f4b4c54ef3b70e58ed9f9b221a058c97ebc0ca6c0a1d8bf7059141e456c64", func := "runaround/runaroundlaw05.ScriptJoins", spec := "scriptJoins", unfollowed := true, recurses := true, apart := false, narrowed := true }
def ScriptJoinsUptoSaid : Prop := scriptJoinsUptoRow.holds Try.pinned (OpenSpec.upto scriptJoinsSpec)

/-- 'runaroundlaw20.JudgeParts', WHERE WHAT IT READS IS OF BULK AT MOST 1048576: true; the input reads as it did. -/
def judgePartsUptoRow : OpenClaim := { program := "ytkpjcmiijlpcaaa", sum := "b29f4b4c54ef3b70e58ed9f9b221a058c97ebc0ca6c0a1d8bf7059141e456c64", func := "runaround/runaroundlaw20.JudgeParts", spec := "judgeParts", unfollowed := true, recurses := true, apart := false, narrowed := true }
def JudgePartsUptoSaid : Prop := judgePartsUptoRow.holds Try.pinned (OpenSpec.upto judgePartsSpec)

end Rows
end Go.Proofs.Ytkpjcmiijlpcaaa
