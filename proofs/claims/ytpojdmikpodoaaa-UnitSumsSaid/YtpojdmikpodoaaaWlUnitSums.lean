/- The row UnitSums: from the law's contract to the statement. -/
import Derived.Test.YtpojdmikpodoaaaRows
import Derived.Test.YtpojdmikpodoaaaAwY
import Derived.Test.YtpojdmikpodoaaaUb
namespace Go.Proofs.Ytpojdmikpodoaaa.unitSums
open Go Go.Proofs Go.Proofs.Ytpojdmikpodoaaa.Aw
theorem own : ownKnob Try.prog.godebug = none := by kernel_rfl
theorem laidOut : laidOutB Try.prog = true := by kernel_rfl
set_option maxRecDepth 100000 in
theorem lifted (os : Os) (started : os.Started) (H : Type) (enc : TypeId × Value → H) :
    ReturnsInHanded {} Try.checked os 11 .any (Rows.unitSumsSpec.pre6 enc Try.prog Try.f11 Rows.unitSumsRow.domain false) (Rows.unitSumsSpec.post enc Try.prog Try.f11 false true false false) :=
  row_lift (C := Try.checked) own started (by kernel_rfl) Try.func11 laidOut
    (ChangeSpec.witness6 (enc := enc) (C := Try.checked) false ⟨#[], #[.slice none 0 0, .int .u8 0, .int .i64 0], []⟩ 8 (by kernel_rfl) (by kernel_rfl) (by kernel_rfl) (by kernel_rfl))
    [(false, .list 21 (.int .i32)), (false, .int .u8), (false, .int .i64)] (by kernel_rfl) rfl Try.underlying4 rfl
    (fun ds h => by match ds, h with | [_, _, _], _ => rfl)
    (fun x hx => W.law11 x hx)
theorem over : Rows.unitSumsRow.holds Try.pinned (OpenSpec.ofChange Rows.unitSumsSpec) :=
  OpenClaim.holds_of_wide 11 Try.f11 rfl rfl rfl rfl rfl rfl rfl ⟨rfl, rfl, rfl, rfl, rfl⟩ rfl rfl rfl rfl rfl (by kernel_rfl) Try.func11 (by kernel_rfl)
    (of_decide_eq_true (by kernel_rfl)) (by unfold Func.isWrapper; first | (rw [if_pos (by decide +kernel)]; kernel_rfl) | (rw [if_neg (by decide +kernel)]; exact ⟨rfl, rfl⟩))
    (fun os started H enc _ => lifted os started H enc)
end Go.Proofs.Ytpojdmikpodoaaa.unitSums
namespace Go.Proofs.Ytpojdmikpodoaaa
/-- The row, under a short name, for the claim. -/
theorem unitSums_holds : Rows.UnitSumsSaid := unitSums.over
#print axioms unitSums_holds
end Go.Proofs.Ytpojdmikpodoaaa
