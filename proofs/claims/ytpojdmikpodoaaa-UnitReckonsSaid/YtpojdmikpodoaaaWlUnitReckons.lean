/- The row UnitReckons: from the law's contract to the statement. -/
import Derived.Test.YtpojdmikpodoaaaRows
import Derived.Test.YtpojdmikpodoaaaAwY
import Derived.Test.YtpojdmikpodoaaaUb
namespace Go.Proofs.Ytpojdmikpodoaaa.unitReckons
open Go Go.Proofs Go.Proofs.Ytpojdmikpodoaaa.Aw
theorem own : ownKnob Try.prog.godebug = none := by kernel_rfl
theorem laidOut : laidOutB Try.prog = true := by kernel_rfl
set_option maxRecDepth 100000 in
theorem lifted (os : Os) (started : os.Started) (H : Type) (enc : TypeId × Value → H) :
    ReturnsInHanded {} Try.checked os 12 .any (Rows.unitReckonsSpec.pre6 enc Try.prog Try.f12 Rows.unitReckonsRow.domain false) (Rows.unitReckonsSpec.post enc Try.prog Try.f12 false true false false) :=
  row_lift (C := Try.checked) own started (by kernel_rfl) Try.func12 laidOut
    (ChangeSpec.witness6 (enc := enc) (C := Try.checked) false ⟨#[], #[.int .i64 0, .int .i64 0, .slice none 0 0], []⟩ 8 (by kernel_rfl) (by kernel_rfl) (by kernel_rfl) (by kernel_rfl))
    [(false, .int .i64), (false, .int .i64), (false, .list 3 (.int .i64))] (by kernel_rfl) rfl Try.underlying4 rfl
    (fun ds h => by match ds, h with | [_, _, _], _ => rfl)
    (fun x hx => W.law12 x hx)
theorem over : Rows.unitReckonsRow.holds Try.pinned (OpenSpec.ofChange Rows.unitReckonsSpec) :=
  OpenClaim.holds_of_wide 12 Try.f12 rfl rfl rfl rfl rfl rfl rfl ⟨rfl, rfl, rfl, rfl, rfl⟩ rfl rfl rfl rfl rfl (by kernel_rfl) Try.func12 (by kernel_rfl)
    (of_decide_eq_true (by kernel_rfl)) (by unfold Func.isWrapper; first | (rw [if_pos (by decide +kernel)]; kernel_rfl) | (rw [if_neg (by decide +kernel)]; exact ⟨rfl, rfl⟩))
    (fun os started H enc _ => lifted os started H enc)
end Go.Proofs.Ytpojdmikpodoaaa.unitReckons
namespace Go.Proofs.Ytpojdmikpodoaaa
/-- The row, under a short name, for the claim. -/
theorem unitReckons_holds : Rows.UnitReckonsSaid := unitReckons.over
#print axioms unitReckons_holds
end Go.Proofs.Ytpojdmikpodoaaa
