/- The statement PrintLater, as a card: from the law's contract to the row, and from the row to the card. -/
import Derived.Test.YtkpjcmiijlpcaaaDoorRows
import Derived.Test.YtkpjcmiijlpcaaaDoorCards
import Derived.Test.YtkpjcmiijlpcaaaDoorTie
import Derived.Test.YtkpjcmiijlpcaaaDoorAwAJ
import Derived.SevenTiedAt
import Derived.Test.YtkpjcmiijlpcaaaDoorWq
set_option linter.unusedVariables false
set_option linter.unusedSimpArgs false
namespace Go.Proofs.YtkpjcmiijlpcaaaDoor.printLater
open Go Go.Proofs Go.Proofs.YtkpjcmiijlpcaaaDoor.Aw
theorem own:ownKnob Tryd.prog.godebug=none:=by kernel_rfl
theorem laidOut:laidOutB Tryd.prog=true:=by kernel_rfl
set_option maxRecDepth 100000 in
theorem lifted (os:Os) (started:os.Started) (H:Type) (enc:TypeId×Value→H) :
 ReturnsInHanded {} Tryd.checked os 4 .any (fun w args=>(Rows.printLaterSpec.pre enc Tryd.prog Tryd.f4 [] false w args∧laidMetH Tryd.prog W.laid1 w)∧sizedMet enc Tryd.prog Tryd.f4 (OpenSpec.ofChange Rows.printLaterSpec) false w args)
  (Rows.printLaterSpec.post enc Tryd.prog Tryd.f4 false true false false):=
 row_liftL (C:=Tryd.checked) (X:=fun w _=>laidMetH Tryd.prog W.laid1 w) (fun _ _ _ hh h=>h.of_heap hh) own started (by kernel_rfl) Tryd.func4 laidOut
  (ChangeSpec.witness_shaped (enc:=enc) (C:=Tryd.checked) (os:=os) (X:=fun w _=>laidMetH Tryd.prog W.laid1 w) false (World.doorLaid Tryd.prog 400 os) #[.slice none 0 0,.agg #[.int .i64 0,.int .i64 0,.int .i64 0,.int .i64 0],.int .u8 0,.int .u8 0] 8 rfl (World.shaped_of_RefB (by kernel_rfl) (by kernel_rfl)) (by kernel_rfl) (by kernel_rfl) (by kernel_rfl) (W.door_met os _))
  [(false,.list 30 (.pair (.int .i64) (.pair (.int .i64) (.pair (.int .i64) (.int .i64))))),(true,(.pair (.int .i64) (.pair (.int .i64) (.pair (.int .i64) (.int .i64))))),(false,.int .u8),(false,.int .u8)] (by kernel_rfl) rfl Tryd.underlying4 rfl
  (fun ds h=>by match ds,h with | [_,_,_,_],_=>rfl)
  (fun x hx _=>W.law4 x hx) (fun _ _ h=>W.gl_of h)
theorem over:Rows.printLaterRow.holds Tryd.pinned (OpenSpec.ofChange Rows.printLaterSpec):=
 OpenClaim.holds_of_wide 4 Tryd.f4 rfl rfl rfl rfl rfl rfl rfl ⟨rfl,rfl,rfl,rfl,rfl⟩ rfl rfl rfl rfl rfl (by kernel_rfl) Tryd.func4 (by kernel_rfl)
  (of_decide_eq_true (by kernel_rfl)) (by unfold Func.isWrapper;first | (rw[if_pos (by decide +kernel)];kernel_rfl) | (rw[if_neg (by decide +kernel)];exact⟨rfl,rfl⟩))
  (fun os started H enc _=>lifted os started H enc)
theorem card:Claim7.holds Tryd.pinned (.plain (OpenSpec.ofChange Rows.printLaterSpec)) Rows.printLaterCard:=
 Claim7.holds_tied_plain_at .later [] [.data] true (true, "9ec3c4e73bd4e2f49a5baf61c1fe254d3f5a9647be63ef9e54594bc58e5d9e80") true
  over (fun _ h=>by cases h) (by kernel_rfl) (fun _ h=>by cases h) printLater_row_tie rfl ⟨rfl,rfl⟩ (by kernel_rfl) rfl
  (fun f fn hf hfn=>by
   obtain rfl:f=4:=Option.some.inj ((show Tryd.prog.funcNamed Rows.printLaterRow.func=some 4 by kernel_rfl).symm.trans hf) |>.symm
   obtain rfl:fn=Tryd.f4:=(Option.some.inj (Tryd.func4.symm.trans hfn)).symm
   refine⟨by kernel_rfl,fun j t ht => ?_⟩
   rw[Tryd.params4] at ht
   match j,ht with
   | 0,ht=>
    obtain rfl:22=t:=by simpa using ht
    exact (show Tryd.prog.wantsStandIn 22=false by kernel_rfl)
   | 1,ht=>
    obtain rfl:30=t:=by simpa using ht
    exact (show Tryd.prog.wantsStandIn 30=false by kernel_rfl)
   | 2,ht=>
    obtain rfl:5=t:=by simpa using ht
    exact (show Tryd.prog.wantsStandIn 5=false by kernel_rfl)
   | 3,ht=>
    obtain rfl:5=t:=by simpa using ht
    exact (show Tryd.prog.wantsStandIn 5=false by kernel_rfl)
   | j+4,ht=>simp at ht)
  (by kernel_rfl)
end Go.Proofs.YtkpjcmiijlpcaaaDoor.printLater
namespace Go.Proofs.YtkpjcmiijlpcaaaDoor
theorem printLater_holds:Rows.PrintLaterCardSaid:=printLater.card
#print axioms printLater_holds
end Go.Proofs.YtkpjcmiijlpcaaaDoor
