/- The row SpotCollapses: from the law's contract to the statement. -/
import Derived.Test.YtjhhkfjabaojhaaRows
import Derived.Test.YtjhhkfjabaojhaaAwY
import Derived.Test.YtjhhkfjabaojhaaWe
namespace Go.Proofs.Ytjhhkfjabaojhaa.spotCollapses
open Go Go.Proofs Go.Proofs.Ytjhhkfjabaojhaa.Aw
theorem own : ownKnob Try.prog.godebug = none := by kernel_rfl
theorem laidOut : laidOutB Try.prog = true := by kernel_rfl
set_option maxRecDepth 100000 in
theorem lifted (os : Os) (started : os.Started) (H : Type) (enc : TypeId × Value → H) :
    ReturnsInHanded {} Try.checked os 7 .any (Rows.spotCollapsesSpec.pre6 enc Try.prog Try.f7 Rows.spotCollapsesRow.domain false) (Rows.spotCollapsesSpec.post enc Try.prog Try.f7 false true false false) :=
  row_lift (C := Try.checked) own started (by kernel_rfl) Try.func7 laidOut
    (ChangeSpec.witness6 (enc := enc) (C := Try.checked) false ⟨#[], #[.int .i64 0, .slice none 0 0, .int .u8 0], []⟩ 8 (by kernel_rfl) (by kernel_rfl) (by kernel_rfl) (by kernel_rfl))
    [(false, .int .i64), (false, .list 3 (.int .i64)), (false, .int .u8)] (by kernel_rfl) rfl Try.underlying4 rfl
    (fun ds h => by match ds, h with | [_, _, _], _ => rfl)
    (fun x hx => W.law7 x hx)
theorem over : Rows.spotCollapsesRow.holds Try.pinned (OpenSpec.ofChange Rows.spotCollapsesSpec) :=
  OpenClaim.holds_of_wide 7 Try.f7 rfl rfl rfl rfl rfl rfl rfl ⟨rfl, rfl, rfl, rfl, rfl⟩ rfl rfl rfl rfl rfl (by kernel_rfl) Try.func7 (by kernel_rfl)
    (of_decide_eq_true (by kernel_rfl)) (by unfold Func.isWrapper; first | (rw [if_pos (by decide +kernel)]; kernel_rfl) | (rw [if_neg (by decide +kernel)]; exact ⟨rfl, rfl⟩))
    (fun os started H enc _ => lifted os started H enc)
end Go.Proofs.Ytjhhkfjabaojhaa.spotCollapses
namespace Go.Proofs.Ytjhhkfjabaojhaa
/-- The row, under a short name, for the claim. -/
theorem spotCollapses_holds : Rows.SpotCollapsesSaid := spotCollapses.over
#print axioms spotCollapses_holds
end Go.Proofs.Ytjhhkfjabaojhaa
