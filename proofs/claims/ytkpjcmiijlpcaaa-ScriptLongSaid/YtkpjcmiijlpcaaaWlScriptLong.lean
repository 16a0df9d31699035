/- The row ScriptLong: from the law's contract to the statement. -/
import Derived.Test.YtkpjcmiijlpcaaaRows
import Derived.Test.YtkpjcmiijlpcaaaAwY
import Derived.Test.YtkpjcmiijlpcaaaLa
set_option linter.unusedVariables false
set_option linter.unusedSimpArgs false
namespace Go.Proofs.Ytkpjcmiijlpcaaa.scriptLong
open Go Go.Proofs Go.Proofs.Ytkpjcmiijlpcaaa.Aw
theorem own : ownKnob Try.prog.godebug = none := by kernel_rfl
theorem laidOut : laidOutB Try.prog = true := by kernel_rfl
set_option maxRecDepth 100000 in
theorem lifted (os : Os) (started : os.Started) (H : Type) (enc : TypeId × Value → H) :
    ReturnsInHanded {} Try.checked os 3 .any (Rows.scriptLongSpec.pre6 enc Try.prog Try.f3 Rows.scriptLongRow.domain false) (Rows.scriptLongSpec.post enc Try.prog Try.f3 false true false false) :=
  row_lift (C := Try.checked) own started (by kernel_rfl) Try.func3 laidOut
    (ChangeSpec.witness6 (enc := enc) (C := Try.checked) false ⟨#[], #[.int .u8 0, .int .u8 0], []⟩ 8 (by kernel_rfl) (by kernel_rfl) (by kernel_rfl) (by kernel_rfl))
    [(false, .int .u8), (false, .int .u8)] (by kernel_rfl) rfl Try.underlying4 rfl
    (fun ds h => by match ds, h with | [_, _], _ => rfl)
    (fun x hx => W.law3 x hx)
theorem over : Rows.scriptLongRow.holds Try.pinned (OpenSpec.ofChange Rows.scriptLongSpec) :=
  OpenClaim.holds_of_wide 3 Try.f3 rfl rfl rfl rfl rfl rfl rfl ⟨rfl, rfl, rfl, rfl, rfl⟩ rfl rfl rfl rfl rfl (by kernel_rfl) Try.func3 (by kernel_rfl)
    (of_decide_eq_true (by kernel_rfl)) (by unfold Func.isWrapper; first | (rw [if_pos (by decide +kernel)]; kernel_rfl) | (rw [if_neg (by decide +kernel)]; exact ⟨rfl, rfl⟩))
    (fun os started H enc _ => lifted os started H enc)
end Go.Proofs.Ytkpjcmiijlpcaaa.scriptLong
namespace Go.Proofs.Ytkpjcmiijlpcaaa
/-- The row, under a short name, for the claim. -/
theorem scriptLong_holds : Rows.ScriptLongSaid := scriptLong.over
#print axioms scriptLong_holds
end Go.Proofs.Ytkpjcmiijlpcaaa
