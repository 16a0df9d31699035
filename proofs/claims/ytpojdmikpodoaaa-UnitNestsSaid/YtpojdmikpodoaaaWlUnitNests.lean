/- The row UnitNests: from the law's contract to the statement. -/
import Derived.Test.YtpojdmikpodoaaaRows
import Derived.Test.YtpojdmikpodoaaaAwY
import Derived.Test.YtpojdmikpodoaaaUd
namespace Go.Proofs.Ytpojdmikpodoaaa.unitNests
open Go Go.Proofs Go.Proofs.Ytpojdmikpodoaaa.Aw
theorem own : ownKnob Try.prog.godebug = none := by kernel_rfl
theorem laidOut : laidOutB Try.prog = true := by kernel_rfl
set_option maxRecDepth 100000 in
theorem lifted (os : Os) (started : os.Started) (H : Type) (enc : TypeId × Value → H) :
    ReturnsInHanded {} Try.checked os 13 .any (Rows.unitNestsSpec.pre6 enc Try.prog Try.f13 Rows.unitNestsRow.domain false) (Rows.unitNestsSpec.post enc Try.prog Try.f13 false true false false) :=
  row_lift (C := Try.checked) own started (by kernel_rfl) Try.func13 laidOut
    (ChangeSpec.witness6 (enc := enc) (C := Try.checked) false ⟨#[], #[.int .i64 0, .int .i64 0, .int .i64 0], []⟩ 8 (by kernel_rfl) (by kernel_rfl) (by kernel_rfl) (by kernel_rfl))
    [(false, .int .i64), (false, .int .i64), (false, .int .i64)] (by kernel_rfl) rfl Try.underlying4 rfl
    (fun ds h => by match ds, h with | [_, _, _], _ => rfl)
    (fun x hx => W.law13 x hx)
theorem over : Rows.unitNestsRow.holds Try.pinned (OpenSpec.ofChange Rows.unitNestsSpec) :=
  OpenClaim.holds_of_wide 13 Try.f13 rfl rfl rfl rfl rfl rfl rfl ⟨rfl, rfl, rfl, rfl, rfl⟩ rfl rfl rfl rfl rfl (by kernel_rfl) Try.func13 (by kernel_rfl)
    (of_decide_eq_true (by kernel_rfl)) (by unfold Func.isWrapper; first | (rw [if_pos (by decide +kernel)]; kernel_rfl) | (rw [if_neg (by decide +kernel)]; exact ⟨rfl, rfl⟩))
    (fun os started H enc _ => lifted os started H enc)
end Go.Proofs.Ytpojdmikpodoaaa.unitNests
namespace Go.Proofs.Ytpojdmikpodoaaa
/-- The row, under a short name, for the claim. -/
theorem unitNests_holds : Rows.UnitNestsSaid := unitNests.over
#print axioms unitNests_holds
end Go.Proofs.Ytpojdmikpodoaaa
