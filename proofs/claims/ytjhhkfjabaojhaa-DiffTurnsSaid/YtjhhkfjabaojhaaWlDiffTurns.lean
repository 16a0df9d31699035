/- The row DiffTurns: from the law's contract to the statement. -/
import Derived.Test.YtjhhkfjabaojhaaRows
import Derived.Test.YtjhhkfjabaojhaaAwY
import Derived.Test.YtjhhkfjabaojhaaDe
set_option linter.unusedVariables false
set_option linter.unusedSimpArgs false
namespace Go.Proofs.Ytjhhkfjabaojhaa.diffTurns
open Go Go.Proofs Go.Proofs.Ytjhhkfjabaojhaa.Aw
theorem own : ownKnob Try.prog.godebug = none := by kernel_rfl
theorem laidOut : laidOutB Try.prog = true := by kernel_rfl
set_option maxRecDepth 100000 in
theorem lifted (os : Os) (started : os.Started) (H : Type) (enc : TypeId × Value → H) :
    ReturnsInHanded {} Try.checked os 8 .any (Rows.diffTurnsSpec.pre6 enc Try.prog Try.f8 Rows.diffTurnsRow.domain false) (Rows.diffTurnsSpec.post enc Try.prog Try.f8 false true false false) :=
  row_lift (C := Try.checked) own started (by kernel_rfl) Try.func8 laidOut
    (ChangeSpec.witness6 (enc := enc) (C := Try.checked) false ⟨#[], #[.agg #[.slice none 0 0, .slice none 0 0], .agg #[.int .i64 0, .int .i64 0, .int .i64 0, .int .i64 0, .int .i64 0, .int .i64 0, .int .i64 0, .int .i64 0, .int .i64 0, .int .i64 0, .int .i64 0, .int .i64 0, .int .i64 0, .int .i64 0], .int .u8 0, .int .u8 0], []⟩ 8 (by kernel_rfl) (by kernel_rfl) (by kernel_rfl) (by kernel_rfl))
    [(true, .pair (.list 45 (.pair (.int .i64) (.pair (.int .i64) (.pair (.int .i64) (.int .i64))))) (.list 111 (.pair (.int .i64) (.pair (.pair (.int .i64) (.pair (.int .i64) (.pair (.int .i64) (.int .i64)))) (.pair (.int .i64) (.int .i64)))))), (true, .pair (.int .i64) (.pair (.int .i64) (.pair (.int .i64) (.pair (.int .i64) (.pair (.int .i64) (.pair (.int .i64) (.pair (.pair (.int .i64) (.pair (.int .i64) (.pair (.int .i64) (.int .i64)))) (.pair (.int .i64) (.pair (.int .i64) (.pair (.int .i64) (.int .i64))))))))))), (false, .int .u8), (false, .int .u8)] (by kernel_rfl) rfl Try.underlying4 rfl
    (fun ds h => by match ds, h with | [_, _, _, _], _ => rfl)
    (fun x hx => W.law8 x hx)
theorem over : Rows.diffTurnsRow.holds Try.pinned (OpenSpec.ofChange Rows.diffTurnsSpec) :=
  OpenClaim.holds_of_wide 8 Try.f8 rfl rfl rfl rfl rfl rfl rfl ⟨rfl, rfl, rfl, rfl, rfl⟩ rfl rfl rfl rfl rfl (by kernel_rfl) Try.func8 (by kernel_rfl)
    (of_decide_eq_true (by kernel_rfl)) (by unfold Func.isWrapper; first | (rw [if_pos (by decide +kernel)]; kernel_rfl) | (rw [if_neg (by decide +kernel)]; exact ⟨rfl, rfl⟩))
    (fun os started H enc _ => lifted os started H enc)
end Go.Proofs.Ytjhhkfjabaojhaa.diffTurns
namespace Go.Proofs.Ytjhhkfjabaojhaa
/-- The row, under a short name, for the claim. -/
theorem diffTurns_holds : Rows.DiffTurnsSaid := diffTurns.over
#print axioms diffTurns_holds
end Go.Proofs.Ytjhhkfjabaojhaa
