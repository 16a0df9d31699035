/- The row JudgeFinds: from the law's contract to the statement. -/
import Derived.Test.YtkpjcmiijlpcaaaGreatRows
import Derived.Test.YtkpjcmiijlpcaaaGreatAwY
import Derived.Test.YtkpjcmiijlpcaaaGreatLw
set_option linter.unusedVariables false
set_option linter.unusedSimpArgs false
namespace Go.Proofs.YtkpjcmiijlpcaaaGreat.judgeFinds
open Go Go.Proofs Go.Proofs.YtkpjcmiijlpcaaaGreat.Aw
theorem own:ownKnob Tryz.prog.godebug=none:=by kernel_rfl
theorem laidOut:laidOutB Tryz.prog=true:=by kernel_rfl
set_option maxRecDepth 100000 in
theorem lifted (os:Os) (started:os.Started) (H:Type) (enc:TypeId×Value→H) :
 ReturnsInHanded {} Tryz.checked os 3 .any (Rows.judgeFindsSpec.pre6 enc Tryz.prog Tryz.f3 Rows.judgeFindsRow.domain false) (Rows.judgeFindsSpec.post enc Tryz.prog Tryz.f3 false true false false):=
 row_lift (C:=Tryz.checked) own started (by kernel_rfl) Tryz.func3 laidOut
  (ChangeSpec.witness6 (enc:=enc) (C:=Tryz.checked) false ⟨#[],#[.slice none 0 0,.agg #[.slice none 0 0,.slice none 0 0]],[]⟩ 8 (by kernel_rfl) (by kernel_rfl) (by kernel_rfl) (by kernel_rfl))
  [(false,.list 80 (.pair (.int .i64) (.pair (.int .i64) (.pair (.int .i64) (.pair (.int .i64) (.pair (.int .i64) (.pair (.int .i64) (.pair (.pair (.int .i64) (.pair (.int .i64) (.pair (.int .i64) (.int .i64)))) (.pair (.int .i64) (.pair (.int .i64) (.pair (.int .i64) (.int .i64)))))))))))),(true,.pair (.list 46 (.pair (.int .i64) (.pair (.int .i64) (.pair (.int .i64) (.int .i64))))) (.list 48 (.pair (.int .i64) (.pair (.pair (.int .i64) (.pair (.int .i64) (.pair (.int .i64) (.int .i64)))) (.pair (.int .i64) (.int .i64))))))] (by kernel_rfl) rfl Tryz.underlying4 rfl
  (fun ds h=>by match ds,h with | [_,_],_=>rfl)
  (fun x hx=>W.law3 x hx)
theorem over:Rows.judgeFindsRow.holds Tryz.pinned (OpenSpec.ofChange Rows.judgeFindsSpec):=
 OpenClaim.holds_of_wide 3 Tryz.f3 rfl rfl rfl rfl rfl rfl rfl ⟨rfl,rfl,rfl,rfl,rfl⟩ rfl rfl rfl rfl rfl (by kernel_rfl) Tryz.func3 (by kernel_rfl)
  (of_decide_eq_true (by kernel_rfl)) (by unfold Func.isWrapper;first | (rw[if_pos (by decide +kernel)];kernel_rfl) | (rw[if_neg (by decide +kernel)];exact⟨rfl,rfl⟩))
  (fun os started H enc _=>lifted os started H enc)
end Go.Proofs.YtkpjcmiijlpcaaaGreat.judgeFinds
namespace Go.Proofs.YtkpjcmiijlpcaaaGreat
theorem judgeFinds_holds:Rows.JudgeFindsSaid:=judgeFinds.over
#print axioms judgeFinds_holds
end Go.Proofs.YtkpjcmiijlpcaaaGreat
