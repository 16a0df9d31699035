/- The row DiffTells: from the law's contract to the statement. -/
import Derived.Test.YtjhhkfjabaojhaaRows
import Derived.Test.YtjhhkfjabaojhaaAwY
import Derived.Test.YtjhhkfjabaojhaaDb
set_option linter.unusedVariables false
set_option linter.unusedSimpArgs false
namespace Go.Proofs.Ytjhhkfjabaojhaa.diffTells
open Go Go.Proofs Go.Proofs.Ytjhhkfjabaojhaa.Aw
theorem own : ownKnob Try.prog.godebug = none := by kernel_rfl
theorem laidOut : laidOutB Try.prog = true := by kernel_rfl
set_option maxRecDepth 100000 in
theorem lifted (os : Os) (started : os.Started) (H : Type) (enc : TypeId × Value → H) :
    ReturnsInHanded {} Try.checked os 14 .any (Rows.diffTellsSpec.pre6 enc Try.prog Try.f14 Rows.diffTellsRow.domain false) (Rows.diffTellsSpec.post enc Try.prog Try.f14 false true false false) :=
  row_lift (C := Try.checked) own started (by kernel_rfl) Try.func14 laidOut
    (ChangeSpec.witness6 (enc := enc) (C := Try.checked) false ⟨#[], #[.agg #[.slice none 0 0, .slice none 0 0], .agg #[.slice none 0 0, .slice none 0 0]], []⟩ 8 (by kernel_rfl) (by kernel_rfl) (by kernel_rfl) (by kernel_rfl))
    [(true, .pair (.list 45 (.pair (.int .i64) (.pair (.int .i64) (.pair (.int .i64) (.int .i64))))) (.list 111 (.pair (.int .i64) (.pair (.pair (.int .i64) (.pair (.int .i64) (.pair (.int .i64) (.int .i64)))) (.pair (.int .i64) (.int .i64)))))), (true, .pair (.list 45 (.pair (.int .i64) (.pair (.int .i64) (.pair (.int .i64) (.int .i64))))) (.list 111 (.pair (.int .i64) (.pair (.pair (.int .i64) (.pair (.int .i64) (.pair (.int .i64) (.int .i64)))) (.pair (.int .i64) (.int .i64))))))] (by kernel_rfl) rfl Try.underlying4 rfl
    (fun ds h => by match ds, h with | [_, _], _ => rfl)
    (fun x hx => W.law14 x hx)
theorem over : Rows.diffTellsRow.holds Try.pinned (OpenSpec.ofChange Rows.diffTellsSpec) :=
  OpenClaim.holds_of_wide 14 Try.f14 rfl rfl rfl rfl rfl rfl rfl ⟨rfl, rfl, rfl, rfl, rfl⟩ rfl rfl rfl rfl rfl (by kernel_rfl) Try.func14 (by kernel_rfl)
    (of_decide_eq_true (by kernel_rfl)) (by unfold Func.isWrapper; first | (rw [if_pos (by decide +kernel)]; kernel_rfl) | (rw [if_neg (by decide +kernel)]; exact ⟨rfl, rfl⟩))
    (fun os started H enc _ => lifted os started H enc)
end Go.Proofs.Ytjhhkfjabaojhaa.diffTells
namespace Go.Proofs.Ytjhhkfjabaojhaa
/-- The row, under a short name, for the claim. -/
theorem diffTells_holds : Rows.DiffTellsSaid := diffTells.over
#print axioms diffTells_holds
end Go.Proofs.Ytjhhkfjabaojhaa
