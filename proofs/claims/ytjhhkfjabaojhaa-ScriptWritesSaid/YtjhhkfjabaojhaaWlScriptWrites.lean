/- The row ScriptWrites: from the law's contract to the statement. -/
import Derived.Test.YtjhhkfjabaojhaaRows
import Derived.Test.YtjhhkfjabaojhaaAwY
import Derived.Test.YtjhhkfjabaojhaaEb
set_option linter.unusedVariables false
set_option linter.unusedSimpArgs false
namespace Go.Proofs.Ytjhhkfjabaojhaa.scriptWrites
open Go Go.Proofs Go.Proofs.Ytjhhkfjabaojhaa.Aw
theorem own : ownKnob Try.prog.godebug = none := by kernel_rfl
theorem laidOut : laidOutB Try.prog = true := by kernel_rfl
set_option maxRecDepth 100000 in
theorem lifted (os : Os) (started : os.Started) (H : Type) (enc : TypeId × Value → H) :
    ReturnsInHanded {} Try.checked os 9 .any (Rows.scriptWritesSpec.pre6 enc Try.prog Try.f9 Rows.scriptWritesRow.domain false) (Rows.scriptWritesSpec.post enc Try.prog Try.f9 false true false false) :=
  row_lift (C := Try.checked) own started (by kernel_rfl) Try.func9 laidOut
    (ChangeSpec.witness6 (enc := enc) (C := Try.checked) false ⟨#[], #[.slice none 0 0], []⟩ 8 (by kernel_rfl) (by kernel_rfl) (by kernel_rfl) (by kernel_rfl))
    [(false, .list 66 (.pair (.int .i64) (.pair (.int .i64) (.pair (.int .i64) (.pair (.int .i64) (.pair (.int .i64) (.pair (.int .i64) (.pair (.pair (.int .i64) (.pair (.int .i64) (.pair (.int .i64) (.int .i64)))) (.pair (.int .i64) (.pair (.int .i64) (.pair (.int .i64) (.int .i64))))))))))))] (by kernel_rfl) rfl Try.underlying4 rfl
    (fun ds h => by match ds, h with | [_], _ => rfl)
    (fun x hx => W.law9 x hx)
theorem over : Rows.scriptWritesRow.holds Try.pinned (OpenSpec.ofChange Rows.scriptWritesSpec) :=
  OpenClaim.holds_of_wide 9 Try.f9 rfl rfl rfl rfl rfl rfl rfl ⟨rfl, rfl, rfl, rfl, rfl⟩ rfl rfl rfl rfl rfl (by kernel_rfl) Try.func9 (by kernel_rfl)
    (of_decide_eq_true (by kernel_rfl)) (by unfold Func.isWrapper; first | (rw [if_pos (by decide +kernel)]; kernel_rfl) | (rw [if_neg (by decide +kernel)]; exact ⟨rfl, rfl⟩))
    (fun os started H enc _ => lifted os started H enc)
end Go.Proofs.Ytjhhkfjabaojhaa.scriptWrites
namespace Go.Proofs.Ytjhhkfjabaojhaa
/-- The row, under a short name, for the claim. -/
theorem scriptWrites_holds : Rows.ScriptWritesSaid := scriptWrites.over
#print axioms scriptWrites_holds
end Go.Proofs.Ytjhhkfjabaojhaa
