/- The row UnitTries: from the law's contract to the statement. -/
import Derived.Test.YtpojdmikpodoaaaRows
import Derived.Test.YtpojdmikpodoaaaAwY
import Derived.Test.YtpojdmikpodoaaaUe
namespace Go.Proofs.Ytpojdmikpodoaaa.unitTries
open Go Go.Proofs Go.Proofs.Ytpojdmikpodoaaa.Aw
theorem own : ownKnob Try.prog.godebug = none := by kernel_rfl
theorem laidOut : laidOutB Try.prog = true := by kernel_rfl
set_option maxRecDepth 100000 in
theorem lifted (os : Os) (started : os.Started) (H : Type) (enc : TypeId × Value → H) :
    ReturnsInHanded {} Try.checked os 14 .any (Rows.unitTriesSpec.pre6 enc Try.prog Try.f14 Rows.unitTriesRow.domain false) (Rows.unitTriesSpec.post enc Try.prog Try.f14 false true false false) :=
  row_lift (C := Try.checked) own started (by kernel_rfl) Try.func14 laidOut
    (ChangeSpec.witness6 (enc := enc) (C := Try.checked) false ⟨#[], #[.slice none 0 0, .bool false], []⟩ 8 (by kernel_rfl) (by kernel_rfl) (by kernel_rfl) (by kernel_rfl))
    [(false, .list 3 (.int .i64)), (false, .bool)] (by kernel_rfl) rfl Try.underlying4 rfl
    (fun ds h => by match ds, h with | [_, _], _ => rfl)
    (fun x hx => W.law14 x hx)
theorem over : Rows.unitTriesRow.holds Try.pinned (OpenSpec.ofChange Rows.unitTriesSpec) :=
  OpenClaim.holds_of_wide 14 Try.f14 rfl rfl rfl rfl rfl rfl rfl ⟨rfl, rfl, rfl, rfl, rfl⟩ rfl rfl rfl rfl rfl (by kernel_rfl) Try.func14 (by kernel_rfl)
    (of_decide_eq_true (by kernel_rfl)) (by unfold Func.isWrapper; first | (rw [if_pos (by decide +kernel)]; kernel_rfl) | (rw [if_neg (by decide +kernel)]; exact ⟨rfl, rfl⟩))
    (fun os started H enc _ => lifted os started H enc)
end Go.Proofs.Ytpojdmikpodoaaa.unitTries
namespace Go.Proofs.Ytpojdmikpodoaaa
/-- The row, under a short name, for the claim. -/
theorem unitTries_holds : Rows.UnitTriesSaid := unitTries.over
#print axioms unitTries_holds
end Go.Proofs.Ytpojdmikpodoaaa
