/- The row HitMoves: from the law's contract to the statement. -/
import Derived.Test.YtjhhkfjabaojhaaRows
import Derived.Test.YtjhhkfjabaojhaaAwY
import Derived.Test.YtjhhkfjabaojhaaHa
set_option linter.unusedVariables false
set_option linter.unusedSimpArgs false
namespace Go.Proofs.Ytjhhkfjabaojhaa.hitMoves
open Go Go.Proofs Go.Proofs.Ytjhhkfjabaojhaa.Aw
theorem own : ownKnob Try.prog.godebug = none := by kernel_rfl
theorem laidOut : laidOutB Try.prog = true := by kernel_rfl
set_option maxRecDepth 100000 in
theorem lifted (os : Os) (started : os.Started) (H : Type) (enc : TypeId × Value → H) :
    ReturnsInHanded {} Try.checked os 5 .any (Rows.hitMovesSpec.pre6 enc Try.prog Try.f5 Rows.hitMovesRow.domain false) (Rows.hitMovesSpec.post enc Try.prog Try.f5 false true false false) :=
  row_liftR (C := Try.checked) own started (by kernel_rfl) Try.func5 laidOut
    (ChangeSpec.witness6 (enc := enc) (C := Try.checked) false ⟨#[], #[.slice none 0 0, .int .i16 0, .int .i16 0, .int .i16 0, .int .i16 0, .int .u8 0], []⟩ 8 (by kernel_rfl) (by kernel_rfl) (by kernel_rfl) (by kernel_rfl))
    [(false, .list 45 (.pair (.int .i64) (.pair (.int .i64) (.pair (.int .i64) (.int .i64))))), (false, .int .i16), (false, .int .i16), (false, .int .i16), (false, .int .i16), (false, .int .u8)] (by kernel_rfl) rfl Try.underlying4 rfl
    (fun ds h => by match ds, h with | [_, _, _, _, _, _], _ => rfl)
    (fun x hx hz => W.law5 x hx hz)
theorem over : Rows.hitMovesRow.holds Try.pinned (OpenSpec.ofChange Rows.hitMovesSpec) :=
  OpenClaim.holds_of_wide 5 Try.f5 rfl rfl rfl rfl rfl rfl rfl ⟨rfl, rfl, rfl, rfl, rfl⟩ rfl rfl rfl rfl rfl (by kernel_rfl) Try.func5 (by kernel_rfl)
    (of_decide_eq_true (by kernel_rfl)) (by unfold Func.isWrapper; first | (rw [if_pos (by decide +kernel)]; kernel_rfl) | (rw [if_neg (by decide +kernel)]; exact ⟨rfl, rfl⟩))
    (fun os started H enc _ => lifted os started H enc)
end Go.Proofs.Ytjhhkfjabaojhaa.hitMoves
namespace Go.Proofs.Ytjhhkfjabaojhaa
/-- The row, under a short name, for the claim. -/
theorem hitMoves_holds : Rows.HitMovesSaid := hitMoves.over
#print axioms hitMoves_holds
end Go.Proofs.Ytjhhkfjabaojhaa
