/- The row ScriptCounts: from the law's contract to the statement. -/
import Derived.Test.YtkpjcmiijlpcaaaRows
import Derived.Test.YtkpjcmiijlpcaaaAwY
import Derived.Test.YtkpjcmiijlpcaaaEb
set_option linter.unusedVariables false
set_option linter.unusedSimpArgs false
namespace Go.Proofs.Ytkpjcmiijlpcaaa.scriptCounts
open Go Go.Proofs Go.Proofs.Ytkpjcmiijlpcaaa.Aw
theorem own : ownKnob Try.prog.godebug = none := by kernel_rfl
theorem laidOut : laidOutB Try.prog = true := by kernel_rfl
set_option maxRecDepth 100000 in
theorem lifted (os : Os) (started : os.Started) (H : Type) (enc : TypeId × Value → H) :
    ReturnsInHanded {} Try.checked os 4 .any (Rows.scriptCountsSpec.pre6 enc Try.prog Try.f4 Rows.scriptCountsRow.domain false) (Rows.scriptCountsSpec.post enc Try.prog Try.f4 false true false false) :=
  row_lift (C := Try.checked) own started (by kernel_rfl) Try.func4 laidOut
    (ChangeSpec.witness6 (enc := enc) (C := Try.checked) false ⟨#[], #[.slice none 0 0], []⟩ 8 (by kernel_rfl) (by kernel_rfl) (by kernel_rfl) (by kernel_rfl))
    [(false, .list 35 (.pair (.int .i64) (.pair (.int .i64) (.pair (.int .i64) (.pair (.int .i64) (.pair (.int .i64) (.pair (.int .i64) (.pair (.pair (.int .i64) (.pair (.int .i64) (.pair (.int .i64) (.int .i64)))) (.pair (.int .i64) (.pair (.int .i64) (.pair (.int .i64) (.int .i64))))))))))))] (by kernel_rfl) rfl Try.underlying4 rfl
    (fun ds h => by match ds, h with | [_], _ => rfl)
    (fun x hx => W.law4 x hx)
theorem over : Rows.scriptCountsRow.holds Try.pinned (OpenSpec.ofChange Rows.scriptCountsSpec) :=
  OpenClaim.holds_of_wide 4 Try.f4 rfl rfl rfl rfl rfl rfl rfl ⟨rfl, rfl, rfl, rfl, rfl⟩ rfl rfl rfl rfl rfl (by kernel_rfl) Try.func4 (by kernel_rfl)
    (of_decide_eq_true (by kernel_rfl)) (by unfold Func.isWrapper; first | (rw [if_pos (by decide +kernel)]; kernel_rfl) | (rw [if_neg (by decide +kernel)]; exact ⟨rfl, rfl⟩))
    (fun os started H enc _ => lifted os started H enc)
end Go.Proofs.Ytkpjcmiijlpcaaa.scriptCounts
namespace Go.Proofs.Ytkpjcmiijlpcaaa
/-- The row, under a short name, for the claim. -/
theorem scriptCounts_holds : Rows.ScriptCountsSaid := scriptCounts.over
#print axioms scriptCounts_holds
end Go.Proofs.Ytkpjcmiijlpcaaa
