/-
  No cell of these rows narrows 'for every input' (looked for: loops, veiled, ifaces, maps, wideKeys, modest, calm, conditions, laid).
  DERIVED. THE GIVEN ROWS OF THIS SEAT. 12 by the template 'for every input the law returns true; each argument reads behind the call as it read before'; 0 by the template 'total and deterministic' (their statements: YtpojdmikpodoaaaTotals.lean).
  GIVEN WITH THE SEED: the statements are not yours to turn. If you find one false, say at which input.
  Laid BY PROGRAM, IN A SANDBOX (cutbox-rows.mjs): the forced cells as the released guide's own fill.sh prints them over the translation 19fc617fd196a70c… (all of the seat's roots in one cut). By AI agents, Wed Nov 11 2026. No macro, syntax, notation, axiom, sorry.
-/
import Derived.Test.YtpojdmikpodoaaaChecked
import GoSem.Claim
import GoSem.ClaimJoined
import GoSem.ClaimMapViews
import Derived.JoinedTies
import Derived.KernelRfl
namespace Go.Proofs.Ytpojdmikpodoaaa
/- THE CELL 'sum', in the pinned program and in every row, IS THE sha256 OF THE DUMP (.gsa) THAT YtpojdmikpodoaaaProg.lean LOADS. Nothing in Lean hashes anything: it is a label: what it is worth is what the hold of that sum in a sandbox is worth. -/
noncomputable def Try.pinned : Pinned := { name := "ytpojdmikpodoaaa", sum := "19fc617fd196a70c254af0eca6e9c11d08bfa0e02d458563ea400bbe254cee70", checked := Try.checked }
namespace Rows
def none {H : Type} : Left H := { results := [], args := [] }

/-- 'runaroundlaw03.StrutTells': WHATEVER THE INPUT: true; the input reads as it did. -/
def strutTellsSpec : ChangeSpec := { name := "strutTells", fn := fun _ => fun
  | [d] => { results := [.lit (.bool true)], args := [d] }
  | _ => none }
def strutTellsRow : OpenClaim := { program := "ytpojdmikpodoaaa", sum := "19fc617fd196a70c254af0eca6e9c11d08bfa0e02d458563ea400bbe254cee70", func := "runaround/runaroundlaw03.StrutTells", spec := "strutTells", apart := false }
def StrutTellsSaid : Prop := strutTellsRow.holds Try.pinned (OpenSpec.ofChange strutTellsSpec)

/-- ITS FALSE NEIGHBOUR: 'it returns false'. Refute it at one input. -/
def strutTellsWrong : ChangeSpec := { name := "strutTells", fn := fun _ => fun
  | [d] => { results := [.lit (.bool false)], args := [d] }
  | _ => none }
def StrutTellsWrongFalsely : Prop := strutTellsRow.holds Try.pinned (OpenSpec.ofChange strutTellsWrong)

/-- 'runaroundlaw03.StrutJoins': WHATEVER THE INPUT: true; the input reads as it did. -/
def strutJoinsSpec : ChangeSpec := { name := "strutJoins", fn := fun _ => fun
  | [d1, d2, d3] => { results := [.lit (.bool true)], args := [d1, d2, d3] }
  | _ => none }
def strutJoinsRow : OpenClaim := { program := "ytpojdmikpodoaaa", sum := "19fc617fd196a70c254af0eca6e9c11d08bfa0e02d458563ea400bbe254cee70", func := "runaround/runaroundlaw03.StrutJoins", spec := "strutJoins", apart := false }
def StrutJoinsSaid : Prop := strutJoinsRow.holds Try.pinned (OpenSpec.ofChange strutJoinsSpec)

/-- ITS FALSE NEIGHBOUR: 'it returns false'. Refute it at one input. -/
def strutJoinsWrong : ChangeSpec := { name := "strutJoins", fn := fun _ => fun
  | [d1, d2, d3] => { results := [.lit (.bool false)], args := [d1, d2, d3] }
  | _ => none }
def StrutJoinsWrongFalsely : Prop := strutJoinsRow.holds Try.pinned (OpenSpec.ofChange strutJoinsWrong)

/-- 'runaroundlaw03.StrutRaw': WHATEVER THE INPUT: true; the input reads as it did. -/
def strutRawSpec : ChangeSpec := { name := "strutRaw", fn := fun _ => fun
  | [d1, d2, d3] => { results := [.lit (.bool true)], args := [d1, d2, d3] }
  | _ => none }
def strutRawRow : OpenClaim := { program := "ytpojdmikpodoaaa", sum := "19fc617fd196a70c254af0eca6e9c11d08bfa0e02d458563ea400bbe254cee70", func := "runaround/runaroundlaw03.StrutRaw", spec := "strutRaw", apart := false }
def StrutRawSaid : Prop := strutRawRow.holds Try.pinned (OpenSpec.ofChange strutRawSpec)

/-- ITS FALSE NEIGHBOUR: 'it returns false'. Refute it at one input. -/
def strutRawWrong : ChangeSpec := { name := "strutRaw", fn := fun _ => fun
  | [d1, d2, d3] => { results := [.lit (.bool false)], args := [d1, d2, d3] }
  | _ => none }
def StrutRawWrongFalsely : Prop := strutRawRow.holds Try.pinned (OpenSpec.ofChange strutRawWrong)

/-- 'runaroundlaw03.StrutBounds': WHATEVER THE INPUT: true; the input reads as it did. -/
def strutBoundsSpec : ChangeSpec := { name := "strutBounds", fn := fun _ => fun
  | [d] => { results := [.lit (.bool true)], args := [d] }
  | _ => none }
def strutBoundsRow : OpenClaim := { program := "ytpojdmikpodoaaa", sum := "19fc617fd196a70c254af0eca6e9c11d08bfa0e02d458563ea400bbe254cee70", func := "runaround/runaroundlaw03.StrutBounds", spec := "strutBounds", apart := false }
def StrutBoundsSaid : Prop := strutBoundsRow.holds Try.pinned (OpenSpec.ofChange strutBoundsSpec)

/-- ITS FALSE NEIGHBOUR: 'it returns false'. Refute it at one input. -/
def strutBoundsWrong : ChangeSpec := { name := "strutBounds", fn := fun _ => fun
  | [d] => { results := [.lit (.bool false)], args := [d] }
  | _ => none }
def StrutBoundsWrongFalsely : Prop := strutBoundsRow.holds Try.pinned (OpenSpec.ofChange strutBoundsWrong)

/-- 'runaroundlaw03.StrutOne': WHATEVER THE INPUT: true; the input reads as it did. -/
def strutOneSpec : ChangeSpec := { name := "strutOne", fn := fun _ => fun
  | [d1, d2] => { results := [.lit (.bool true)], args := [d1, d2] }
  | _ => none }
def strutOneRow : OpenClaim := { program := "ytpojdmikpodoaaa", sum := "19fc617fd196a70c254af0eca6e9c11d08bfa0e02d458563ea400bbe254cee70", func := "runaround/runaroundlaw03.StrutOne", spec := "strutOne", apart := false }
def StrutOneSaid : Prop := strutOneRow.holds Try.pinned (OpenSpec.ofChange strutOneSpec)

/-- ITS FALSE NEIGHBOUR: 'it returns false'. Refute it at one input. -/
def strutOneWrong : ChangeSpec := { name := "strutOne", fn := fun _ => fun
  | [d1, d2] => { results := [.lit (.bool false)], args := [d1, d2] }
  | _ => none }
def StrutOneWrongFalsely : Prop := strutOneRow.holds Try.pinned (OpenSpec.ofChange strutOneWrong)

/-- 'runaroundlaw01.UnitLaws': WHATEVER THE INPUT: true; the input reads as it did. -/
def unitLawsSpec : ChangeSpec := { name := "unitLaws", fn := fun _ => fun
  | [d1, d2] => { results := [.lit (.bool true)], args := [d1, d2] }
  | _ => none }
def unitLawsRow : OpenClaim := { program := "ytpojdmikpodoaaa", sum := "19fc617fd196a70c254af0eca6e9c11d08bfa0e02d458563ea400bbe254cee70", func := "runaround/runaroundlaw01.UnitLaws", spec := "unitLaws", unfollowed := true, recurses := true, apart := false }
def UnitLawsSaid : Prop := unitLawsRow.holds Try.pinned (OpenSpec.ofChange unitLawsSpec)

/-- ITS FALSE NEIGHBOUR: 'it returns false'. Refute it at one input. -/
def unitLawsWrong : ChangeSpec := { name := "unitLaws", fn := fun _ => fun
  | [d1, d2] => { results := [.lit (.bool false)], args := [d1, d2] }
  | _ => none }
def UnitLawsWrongFalsely : Prop := unitLawsRow.holds Try.pinned (OpenSpec.ofChange unitLawsWrong)

/-- 'runaroundlaw02.RectTells': WHATEVER THE INPUT: true; the input reads as it did. -/
def rectTellsSpec : ChangeSpec := { name := "rectTells", fn := fun _ => fun
  | [d1, d2, d3] => { results := [.lit (.bool true)], args := [d1, d2, d3] }
  | _ => none }
def rectTellsRow : OpenClaim := { program := "ytpojdmikpodoaaa", sum := "19fc617fd196a70c254af0eca6e9c11d08bfa0e02d458563ea400bbe254cee70", func := "runaround/runaroundlaw02.RectTells", spec := "rectTells", unfollowed := true, recurses := true, apart := false }
def RectTellsSaid : Prop := rectTellsRow.holds Try.pinned (OpenSpec.ofChange rectTellsSpec)

/-- ITS FALSE NEIGHBOUR: 'it returns false'. Refute it at one input. -/
def rectTellsWrong : ChangeSpec := { name := "rectTells", fn := fun _ => fun
  | [d1, d2, d3] => { results := [.lit (.bool false)], args := [d1, d2, d3] }
  | _ => none }
def RectTellsWrongFalsely : Prop := rectTellsRow.holds Try.pinned (OpenSpec.ofChange rectTellsWrong)

/-- 'runaroundlaw02.RectLaws': WHATEVER THE INPUT: true; the input reads as it did. -/
def rectLawsSpec : ChangeSpec := { name := "rectLaws", fn := fun _ => fun
  | [d1, d2, d3, d4, d5] => { results := [.lit (.bool true)], args := [d1, d2, d3, d4, d5] }
  | _ => none }
def rectLawsRow : OpenClaim := { program := "ytpojdmikpodoaaa", sum := "19fc617fd196a70c254af0eca6e9c11d08bfa0e02d458563ea400bbe254cee70", func := "runaround/runaroundlaw02.RectLaws", spec := "rectLaws", unfollowed := true, recurses := true, apart := false }
def RectLawsSaid : Prop := rectLawsRow.holds Try.pinned (OpenSpec.ofChange rectLawsSpec)

/-- ITS FALSE NEIGHBOUR: 'it returns false'. Refute it at one input. -/
def rectLawsWrong : ChangeSpec := { name := "rectLaws", fn := fun _ => fun
  | [d1, d2, d3, d4, d5] => { results := [.lit (.bool false)], args := [d1, d2, d3, d4, d5] }
  | _ => none }
def RectLawsWrongFalsely : Prop := rectLawsRow.holds Try.pinned (OpenSpec.ofChange rectLawsWrong)

/-- 'runaroundlaw01.UnitSums': WHATEVER THE INPUT: true; the input reads as it did. -/
def unitSumsSpec : ChangeSpec := { name := "unitSums", fn := fun _ => fun
  | [d1, d2, d3] => { results := [.lit (.bool true)], args := [d1, d2, d3] }
  | _ => none }
def unitSumsRow : OpenClaim := { program := "ytpojdmikpodoaaa", sum := "19fc617fd196a70c254af0eca6e9c11d08bfa0e02d458563ea400bbe254cee70", func := "runaround/runaroundlaw01.UnitSums", spec := "unitSums", unfollowed := true, recurses := true, apart := false }
def UnitSumsSaid : Prop := unitSumsRow.holds Try.pinned (OpenSpec.ofChange unitSumsSpec)

/-- ITS FALSE NEIGHBOUR: 'it returns false'. Refute it at one input. -/
def unitSumsWrong : ChangeSpec := { name := "unitSums", fn := fun _ => fun
  | [d1, d2, d3] => { results := [.lit (.bool false)], args := [d1, d2, d3] }
  | _ => none }
def UnitSumsWrongFalsely : Prop := unitSumsRow.holds Try.pinned (OpenSpec.ofChange unitSumsWrong)

/-- 'runaroundlaw01.UnitReckons': WHATEVER THE INPUT: true; the input reads as it did. -/
def unitReckonsSpec : ChangeSpec := { name := "unitReckons", fn := fun _ => fun
  | [d1, d2, d3] => { results := [.lit (.bool true)], args := [d1, d2, d3] }
  | _ => none }
def unitReckonsRow : OpenClaim := { program := "ytpojdmikpodoaaa", sum := "19fc617fd196a70c254af0eca6e9c11d08bfa0e02d458563ea400bbe254cee70", func := "runaround/runaroundlaw01.UnitReckons", spec := "unitReckons", unfollowed := true, recurses := true, apart := false }
def UnitReckonsSaid : Prop := unitReckonsRow.holds Try.pinned (OpenSpec.ofChange unitReckonsSpec)

/-- ITS FALSE NEIGHBOUR: 'it returns false'. Refute it at one input. -/
def unitReckonsWrong : ChangeSpec := { name := "unitReckons", fn := fun _ => fun
  | [d1, d2, d3] => { results := [.lit (.bool false)], args := [d1, d2, d3] }
  | _ => none }
def UnitReckonsWrongFalsely : Prop := unitReckonsRow.holds Try.pinned (OpenSpec.ofChange unitReckonsWrong)

/-- 'runaroundlaw01.UnitNests': WHATEVER THE INPUT: true; the input reads as it did. -/
def unitNestsSpec : ChangeSpec := { name := "unitNests", fn := fun _ => fun
  | [d1, d2, d3] => { results := [.lit (.bool true)], args := [d1, d2, d3] }
  | _ => none }
def unitNestsRow : OpenClaim := { program := "ytpojdmikpodoaaa", sum := "19fc617fd196a70c254af0eca6e9c11d08bfa0e02d458563ea400bbe254cee70", func := "runaround/runaroundlaw01.UnitNests", spec := "unitNests", unfollowed := true, recurses := true, apart := false }
def UnitNestsSaid : Prop := unitNestsRow.holds Try.pinned (OpenSpec.ofChange unitNestsSpec)

/-- ITS FALSE NEIGHBOUR: 'it returns false'. Refute it at one input. -/
def unitNestsWrong : ChangeSpec := { name := "unitNests", fn := fun _ => fun
  | [d1, d2, d3] => { results := [.lit (.bool false)], args := [d1, d2, d3] }
  | _ => none }
def UnitNestsWrongFalsely : Prop := unitNestsRow.holds Try.pinned (OpenSpec.ofChange unitNestsWrong)

/-- 'runaroundlaw01.UnitTries': WHATEVER THE INPUT: true; the input reads as it did. -/
def unitTriesSpec : ChangeSpec := { name := "unitTries", fn := fun _ => fun
  | [d1, d2] => { results := [.lit (.bool true)], args := [d1, d2] }
  | _ => none }
def unitTriesRow : OpenClaim := { program := "ytpojdmikpodoaaa", sum := "19fc617fd196a70c254af0eca6e9c11d08bfa0e02d458563ea400bbe254cee70", func := "runaround/runaroundlaw01.UnitTries", spec := "unitTries", unfollowed := true, recurses := true, apart := false }
def UnitTriesSaid : Prop := unitTriesRow.holds Try.pinned (OpenSpec.ofChange unitTriesSpec)

/-- ITS FALSE NEIGHBOUR: 'it returns false'. Refute it at one input. -/
def unitTriesWrong : ChangeSpec := { name := "unitTries", fn := fun _ => fun
  | [d1, d2] => { results := [.lit (.bool false)], args := [d1, d2] }
  | _ => none }
def UnitTriesWrongFalsely : Prop := unitTriesRow.holds Try.pinned (OpenSpec.ofChange unitTriesWrong)

/- THE SECOND FORM. 'bulk': how many values and letters a reading holds, each counted each time it is reached (what is shared counts as often as it is met; a slice's spare places count too). A statement '..UptoSaid' is the law's where the arguments, and the package variables that the reading takes, are together of bulk at most 1048576: NARROWER than '..Said'. Prove '..Said' where nothing that the law and all that it calls make is longer than what came in: it says more and counts as full. Else prove '..UptoSaid'. A law counts once. -/
mutual
def uptoBulk {H : Type} : DataW H → Nat
  | .lit (.string bytes) => bytes.length + 1
  | .lit _ => 1
  | .nil => 1
  | .ptr d => uptoBulk d + 1
  | .slice elems spare => uptoBulkAll elems + uptoBulkAll spare + 1
  | .agg parts => uptoBulkAll parts + 1
  | .iface _ d => uptoBulk d + 1
  | .map entries => uptoBulkEntries entries + 1
  | .held _ => 1
def uptoBulkAll {H : Type} : List (DataW H) → Nat
  | [] => 0
  | d :: r => uptoBulk d + uptoBulkAll r
def uptoBulkEntries {H : Type} : List (Lit × DataW H) → Nat
  | [] => 0
  | x :: r => uptoBulkEntry x + uptoBulkEntries r
def uptoBulkEntry {H : Type} : Lit × DataW H → Nat
  | (.string bytes, d) => bytes.length + uptoBulk d + 1
  | (_, d) => uptoBulk d + 1
 end
def uptoSmall : (H : Type) → List (DataW H) → Bool := fun _ ds => decide (uptoBulkAll ds ≤ 1048576)
def OpenSpec.upto (s : _root_.Go.ChangeSpec) : _root_.Go.OpenSpec := { _root_.Go.OpenSpec.ofChange s with cond := some uptoSmall }

/-- 'runaroundlaw03.StrutTells', WHERE WHAT IT READS IS OF BULK AT MOST 1048576: true; the input reads as it did. -/
def strutTellsUptoRow : OpenClaim := { program := "ytpojdmikpodoaaa", sum := "19fc617fd196a70c254af0eca6e9c11d08bfa0e02d458563ea400bbe254cee70", func := "runaround/runaroundlaw03.StrutTells", spec := "strutTells", apart := false, narrowed := true }
def StrutTellsUptoSaid : Prop := strutTellsUptoRow.holds Try.pinned (OpenSpec.upto strutTellsSpec)

/-- 'runaroundlaw03.StrutJoins', WHERE WHAT IT READS IS OF BULK AT MOST 1048576: true; the input reads as it did. -/
def strutJoinsUptoRow : OpenClaim := { program := "ytpojdmikpodoaaa", sum := "19fc617fd196a70c254af0eca6e9c11d08bfa0e02d458563ea400bbe254cee70", func := "runaround/runaroundlaw03.StrutJoins", spec := "strutJoins", apart := false, narrowed := true }
def StrutJoinsUptoSaid : Prop := strutJoinsUptoRow.holds Try.pinned (OpenSpec.upto strutJoinsSpec)

/-- 'runaroundlaw03.StrutRaw', WHERE WHAT IT READS IS OF BULK AT MOST 1048576: true; the input reads as it did. -/
def strutRawUptoRow : OpenClaim := { program := "ytpojdmikpodoaaa", sum := "19fc617fd196a70c254af0eca6e9c11d08bfa0e02d458563ea400bbe254cee70", func := "runaround/runaroundlaw03.StrutRaw", spec := "strutRaw", apart := false, narrowed := true }
def StrutRawUptoSaid : Prop := strutRawUptoRow.holds Try.pinned (OpenSpec.upto strutRawSpec)

/-- 'runaroundlaw03.StrutBounds', WHERE WHAT IT READS IS OF BULK AT MOST 1048576: true; the input reads as it did. -/
def strutBoundsUptoRow : OpenClaim := { program := "ytpojdmikpodoaaa", sum := "19fc617fd196a70c254af0eca6e9c11d08bfa0e02d458563ea400bbe254cee70", func := "runaround/runaroundlaw03.StrutBounds", spec := "strutBounds", apart := false, narrowed := true }
def StrutBoundsUptoSaid : Prop := strutBoundsUptoRow.holds Try.pinned (OpenSpec.upto strutBoundsSpec)

/-- 'runaroundlaw03.StrutOne', WHERE WHAT IT READS IS OF BULK AT MOST 1048576: true; the input reads as it did. -/
def strutOneUptoRow : OpenClaim := { program := "ytpojdmikpodoaaa", sum := "19fc617fd196a70c254af0eca6e9c11d08bfa0e02d458563ea400bbe254cee70", func := "runaround/runaroundlaw03.StrutOne", spec := "strutOne", apart := false, narrowed := true }
def StrutOneUptoSaid : Prop := strutOneUptoRow.holds Try.pinned (OpenSpec.upto strutOneSpec)

/-- 'runaroundlaw01.UnitLaws', WHERE WHAT IT READS IS OF BULK AT MOST 1048576: true; the input reads as it did. -/
def unitLawsUptoRow : OpenClaim := { program := "ytpojdmikpodoaaa", sum := "19fc617fd196a70c254af0eca6e9c11d08bfa0e02d458563ea400bbe254cee70", func := "runaround/runaroundlaw01.UnitLaws", spec := "unitLaws", unfollowed := true, recurses := true, apart := false, narrowed := true }
def UnitLawsUptoSaid : Prop := unitLawsUptoRow.holds Try.pinned (OpenSpec.upto unitLawsSpec)

/-- 'runaroundlaw02.RectTells', WHERE WHAT IT READS IS OF BULK AT MOST 1048576: true; the input reads as it did. -/
def rectTellsUptoRow : OpenClaim := { program := "ytpojdmikpodoaaa", sum := "19fc617fd196a70c254af0eca6e9c11d08bfa0e02d458563ea400bbe254cee70", func := "runaround/runaroundlaw02.RectTells", spec := "rectTells", unfollowed := true, recurses := true, apart := false, narrowed := true }
def RectTellsUptoSaid : Prop := rectTellsUptoRow.holds Try.pinned (OpenSpec.upto rectTellsSpec)

/-- 'runaroundlaw02.RectLaws', WHERE WHAT IT READS IS OF BULK AT MOST 1048576: true; the input reads as it did. -/
def rectLawsUptoRow : OpenClaim := { program := "ytpojdmikpodoaaa", sum := "19fc617fd196a70c254af0eca6e9c11d08bfa0e02d458563ea400bbe254cee70", func := "runaround/runaroundlaw02.RectLaws", spec := "rectLaws", unfollowed := true, recurses := true, apart := false, narrowed := true }
def RectLawsUptoSaid : Prop := rectLawsUptoRow.holds Try.pinned (OpenSpec.upto rectLawsSpec)

/-- 'runaroundlaw01.UnitSums', WHERE WHAT IT READS IS OF BULK AT MOST 1048576: true; the input reads as it did. -/
def unitSumsUptoRow : OpenClaim := { program := "ytpojdmikpodoaaa", sum := "19fc617fd196a70c254af0eca6e9c11d08bfa0e02d458563ea400bbe254cee70", func := "runaround/runaroundlaw01.UnitSums", spec := "unitSums", unfollowed := true, recurses := true, apart := false, narrowed := true }
def UnitSumsUptoSaid : Prop := unitSumsUptoRow.holds Try.pinned (OpenSpec.upto unitSumsSpec)

/-- 'runaroundlaw01.UnitReckons', WHERE WHAT IT READS IS OF BULK AT MOST 1048576: true; the input reads as it did. -/
def unitReckonsUptoRow : OpenClaim := { program := "ytpojdmikpodoaaa", sum := "19fc617fd196a70c254af0eca6e9c11d08bfa0e02d458563ea400bbe254cee70", func := "runaround/runaroundlaw01.UnitReckons", spec := "unitReckons", unfollowed := true, recurses := true, apart := false, narrowed := true }
def UnitReckonsUptoSaid : Prop := unitReckonsUptoRow.holds Try.pinned (OpenSpec.upto unitReckonsSpec)

/-- 'runaroundlaw01.UnitNests', WHERE WHAT IT READS IS OF BULK AT MOST 1048576: true; the input reads as it did. -/
def unitNestsUptoRow : OpenClaim := { program := "ytpojdmikpodoaaa", sum := "19fc617fd196a70c254af0eca6e9c11d08bfa0e02d458563ea400bbe254cee70", func := "runaround/runaroundlaw01.UnitNests", spec := "unitNests", unfollowed := true, recurses := true, apart := false, narrowed := true }
def UnitNestsUptoSaid : Prop := unitNestsUptoRow.holds Try.pinned (OpenSpec.upto unitNestsSpec)

/-- 'runaroundlaw01.UnitTries', WHERE WHAT IT READS IS OF BULK AT MOST 1048576: true; the input reads as it did. -/
def unitTriesUptoRow : OpenClaim := { program := "ytpojdmikpodoaaa", sum := "19fc617fd196a70c254af0eca6e9c11d08bfa0e02d458563ea400bbe254cee70", func := "runaround/runaroundlaw01.UnitTries", spec := "unitTries", unfollowed := true, recurses := true, apart := false, narrowed := true }
def UnitTriesUptoSaid : Prop := unitTriesUptoRow.holds Try.pinned (OpenSpec.upto unitTriesSpec)

end Rows
end Go.Proofs.Ytpojdmikpodoaaa
