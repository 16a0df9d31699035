/- The functions of layer 4 (record), and what they come to. -/
import Derived.Test.YtkpjcmiijlpcaaaWa
import Derived.Test.YtkpjcmiijlpcaaaEa
import Derived.Test.YtkpjcmiijlpcaaaAwZ
import Derived.KernelRfl
set_option linter.unusedVariables false
set_option linter.unusedSimpArgs false
namespace Go.Proofs.Ytkpjcmiijlpcaaa.W
open Go Go.Proofs Go.Proofs.Ytkpjcmiijlpcaaa.Aw
noncomputable section
def consF0 : Cons := []
def twosF0 : Cons2 := []
def pansF0 : Cons3 := []
def itersF0 : Cons4 := []
abbrev eF0 : Env := envOf4 consF0 twosF0 pansF0 itersF0
theorem allconsF0 : ∀ c ∈ consF0, ConOk Try.prog c := all_nil
theorem alltwosF0 : ∀ c ∈ twosF0, ConOk2 Try.prog c := all_nil
theorem allpansF0 : ∀ c ∈ pansF0, ConOk3 Try.prog c := all_nil
theorem allitersF0 : ∀ c ∈ itersF0, ConOk4 Try.prog c := all_nil
theorem envF0 : EnvOk Try.prog eF0 := envOf4_ok _ _ _ _ allconsF0 alltwosF0 allpansF0 allitersF0
def con84 : List AV → Option Tells
  | [.int .i64 a1, .int .i64 a2, .int .i64 a3] => some ⟨[], AV.bool (bif !decide (a1 < a2) then decide (a1 > a3) else true), []⟩
  | _ => none
theorem f84_run (R : AV → List Ob → Prop) (a1 a2 a3 : Int) : fnA tab eF0 Try.f84 (bodyOf Try.f84) [.int .i64 a1, .int .i64 a2, .int .i64 a3] R = (bif !decide (a1 < a2) then R (AV.bool (decide (a1 > a3))) [] else R (AV.bool true) []) := by kernel_rfl
theorem ok84 : ConOk Try.prog (84, con84) := by
  intro args t h hp
  simp only [con84] at h
  split at h
  · cases h
    refine fn_ok envF0 tab_ok mixed Try.func84 (by kernel_rfl) (by kernel_rfl) ?_
    rw [f84_run]
    exact cond_split (fun h0 => ⟨by simp only [h0, cond_true, cond_false], by first | rfl | simp only [h0, cond_true, cond_false]⟩) (fun h0 => ⟨by simp only [h0, cond_true, cond_false], by first | rfl | simp only [h0, cond_true, cond_false]⟩)
  · cases h
def con50 : List AV → Option Tells
  | [.int .i64 a1] => some ⟨[], AV.bool (bif !a1 == 2 then a1 == 3 else true), []⟩
  | _ => none
theorem f50_run (R : AV → List Ob → Prop) (a1 : Int) : fnA tab eF0 Try.f50 (bodyOf Try.f50) [.int .i64 a1] R = (bif !a1 == 2 then R (AV.bool (a1 == 3)) [] else R (AV.bool true) []) := by kernel_rfl
theorem ok50 : ConOk Try.prog (50, con50) := by
  intro args t h hp
  simp only [con50] at h
  split at h
  · cases h
    refine fn_ok envF0 tab_ok mixed Try.func50 (by kernel_rfl) (by kernel_rfl) ?_
    rw [f50_run]
    exact cond_split (fun h0 => ⟨by simp only [h0, cond_true, cond_false], by first | rfl | simp only [h0, cond_true, cond_false]⟩) (fun h0 => ⟨by simp only [h0, cond_true, cond_false], by first | rfl | simp only [h0, cond_true, cond_false]⟩)
  · cases h
def consF1 : Cons := (84, con84) :: (50, con50) :: []
def twosF1 : Cons2 := []
def pansF1 : Cons3 := []
def itersF1 : Cons4 := []
abbrev eF1 : Env := envOf4 consF1 twosF1 pansF1 itersF1
theorem allconsF1 : ∀ c ∈ consF1, ConOk Try.prog c := all_cons ok84 (all_cons ok50 all_nil)
theorem alltwosF1 : ∀ c ∈ twosF1, ConOk2 Try.prog c := all_nil
theorem allpansF1 : ∀ c ∈ pansF1, ConOk3 Try.prog c := all_nil
theorem allitersF1 : ∀ c ∈ itersF1, ConOk4 Try.prog c := all_nil
theorem envF1 : EnvOk Try.prog eF1 := envOf4_ok _ _ _ _ allconsF1 alltwosF1 allpansF1 allitersF1
def con83 : List AV → Option Tells
  | [.agg (.cons (.int .i64 a1) (.cons (.int .i64 a2) (.cons (.int .i64 a3) (.cons (.int .i64 a4) (.cons (.int .i64 a5) (.cons (.int .i64 a6) (.cons (.int .i64 a7) (.cons (.int .i64 a8) (.cons (.int .i64 a9) (.cons (.int .i64 a10) (.cons (.int .i64 a11) (.cons (.int .i64 a12) (.cons (.int .i64 a13) (.cons (.int .i64 a14) .nl))))))))))))))] => some ⟨[], AV.bool (bif !decide (a2 < 1) then decide (a2 > 5) else true), []⟩
  | _ => none
theorem f83_run (R : AV → List Ob → Prop) (a1 a2 a3 a4 a5 a6 a7 a8 a9 a10 a11 a12 a13 a14 : Int) : fnA tab eF1 Try.f83 (bodyOf Try.f83) [.agg (.cons (.int .i64 a1) (.cons (.int .i64 a2) (.cons (.int .i64 a3) (.cons (.int .i64 a4) (.cons (.int .i64 a5) (.cons (.int .i64 a6) (.cons (.int .i64 a7) (.cons (.int .i64 a8) (.cons (.int .i64 a9) (.cons (.int .i64 a10) (.cons (.int .i64 a11) (.cons (.int .i64 a12) (.cons (.int .i64 a13) (.cons (.int .i64 a14) .nl))))))))))))))] R = (R (AV.bool (bif !decide (a2 < 1) then decide (a2 > 5) else true)) []) := by kernel_rfl
theorem ok83 : ConOk Try.prog (83, con83) := by
  intro args t h hp
  simp only [con83] at h
  split at h
  · cases h
    refine fn_ok envF1 tab_ok mixed Try.func83 (by kernel_rfl) (by kernel_rfl) ?_
    rw [f83_run]
    exact ⟨rfl, rfl⟩
  · cases h
def con87 : List AV → Option Tells
  | [.int .i64 a1] => some ⟨[], AV.bool (bif !decide (a1 < -268435456) then decide (a1 > 268435456) else true), []⟩
  | _ => none
theorem f87_run (R : AV → List Ob → Prop) (a1 : Int) : fnA tab eF1 Try.f87 (bodyOf Try.f87) [.int .i64 a1] R = (R (AV.bool (bif !decide (a1 < -268435456) then decide (a1 > 268435456) else true)) []) := by kernel_rfl
theorem ok87 : ConOk Try.prog (87, con87) := by
  intro args t h hp
  simp only [con87] at h
  split at h
  · cases h
    refine fn_ok envF1 tab_ok mixed Try.func87 (by kernel_rfl) (by kernel_rfl) ?_
    rw [f87_run]
    exact ⟨rfl, rfl⟩
  · cases h
def con88 : List AV → Option Tells
  | [.agg (.cons (.int .i64 a1) (.cons (.int .i64 a2) (.cons (.int .i64 a3) (.cons (.int .i64 a4) (.cons (.int .i64 a5) (.cons (.int .i64 a6) (.cons (.int .i64 a7) (.cons (.int .i64 a8) (.cons (.int .i64 a9) (.cons (.int .i64 a10) (.cons (.int .i64 a11) (.cons (.int .i64 a12) (.cons (.int .i64 a13) (.cons (.int .i64 a14) .nl))))))))))))))] => some ⟨[], AV.bool (bif a2 == 2 then bif !decide (a3 < 1) then decide (a3 > 2) else true else a3 != 0), []⟩
  | _ => none
theorem f88_run (R : AV → List Ob → Prop) (a1 a2 a3 a4 a5 a6 a7 a8 a9 a10 a11 a12 a13 a14 : Int) : fnA tab eF1 Try.f88 (bodyOf Try.f88) [.agg (.cons (.int .i64 a1) (.cons (.int .i64 a2) (.cons (.int .i64 a3) (.cons (.int .i64 a4) (.cons (.int .i64 a5) (.cons (.int .i64 a6) (.cons (.int .i64 a7) (.cons (.int .i64 a8) (.cons (.int .i64 a9) (.cons (.int .i64 a10) (.cons (.int .i64 a11) (.cons (.int .i64 a12) (.cons (.int .i64 a13) (.cons (.int .i64 a14) .nl))))))))))))))] R = (bif a2 == 2 then R (AV.bool (bif !decide (a3 < 1) then decide (a3 > 2) else true)) [] else R (AV.bool (a3 != 0)) []) := by kernel_rfl
theorem ok88 : ConOk Try.prog (88, con88) := by
  intro args t h hp
  simp only [con88] at h
  split at h
  · cases h
    refine fn_ok envF1 tab_ok mixed Try.func88 (by kernel_rfl) (by kernel_rfl) ?_
    rw [f88_run]
    exact cond_split (fun h0 => ⟨by simp only [h0, cond_true, cond_false], by first | rfl | simp only [h0, cond_true, cond_false]⟩) (fun h0 => ⟨by simp only [h0, cond_true, cond_false], by first | rfl | simp only [h0, cond_true, cond_false]⟩)
  · cases h
def con89 : List AV → Option Tells
  | [.agg (.cons (.int .i64 a1) (.cons (.int .i64 a2) (.cons (.int .i64 a3) (.cons (.int .i64 a4) (.cons (.int .i64 a5) (.cons (.int .i64 a6) (.cons (.int .i64 a7) (.cons (.int .i64 a8) (.cons (.int .i64 a9) (.cons (.int .i64 a10) (.cons (.int .i64 a11) (.cons (.int .i64 a12) (.cons (.int .i64 a13) (.cons (.int .i64 a14) .nl))))))))))))))] => some ⟨[], AV.bool (bif !bif !decide (a4 < 0) then decide (a4 > 3) else true then bif a2 == 5 then a4 != 0 else false else true), []⟩
  | _ => none
theorem f89_run (R : AV → List Ob → Prop) (a1 a2 a3 a4 a5 a6 a7 a8 a9 a10 a11 a12 a13 a14 : Int) : fnA tab eF1 Try.f89 (bodyOf Try.f89) [.agg (.cons (.int .i64 a1) (.cons (.int .i64 a2) (.cons (.int .i64 a3) (.cons (.int .i64 a4) (.cons (.int .i64 a5) (.cons (.int .i64 a6) (.cons (.int .i64 a7) (.cons (.int .i64 a8) (.cons (.int .i64 a9) (.cons (.int .i64 a10) (.cons (.int .i64 a11) (.cons (.int .i64 a12) (.cons (.int .i64 a13) (.cons (.int .i64 a14) .nl))))))))))))))] R = (bif !bif !decide (a4 < 0) then decide (a4 > 3) else true then bif a2 == 5 then R (AV.bool (a4 != 0)) [] else R (AV.bool false) [] else R (AV.bool true) []) := by kernel_rfl
theorem ok89 : ConOk Try.prog (89, con89) := by
  intro args t h hp
  simp only [con89] at h
  split at h
  · cases h
    refine fn_ok envF1 tab_ok mixed Try.func89 (by kernel_rfl) (by kernel_rfl) ?_
    rw [f89_run]
    exact cond_split (fun h0 => cond_split (fun h1 => ⟨by simp only [h0, h1, cond_true, cond_false], by first | rfl | simp only [h0, h1, cond_true, cond_false]⟩) (fun h1 => ⟨by simp only [h0, h1, cond_true, cond_false], by first | rfl | simp only [h0, h1, cond_true, cond_false]⟩)) (fun h0 => ⟨by simp only [h0, cond_true, cond_false], by first | rfl | simp only [h0, cond_true, cond_false]⟩)
  · cases h
def con90 : List AV → Option Tells
  | [.agg (.cons (.int .i64 a1) (.cons (.int .i64 a2) (.cons (.int .i64 a3) (.cons (.int .i64 a4) (.cons (.int .i64 a5) (.cons (.int .i64 a6) (.cons (.int .i64 a7) (.cons (.int .i64 a8) (.cons (.int .i64 a9) (.cons (.int .i64 a10) (.cons (.int .i64 a11) (.cons (.int .i64 a12) (.cons (.int .i64 a13) (.cons (.int .i64 a14) .nl))))))))))))))] => some ⟨[], AV.bool (bif a2 == 2 then bif !decide (a5 < 0) then decide (a6 < -1) else true else bif a2 == 5 then bif !decide (a5 < 0) then decide (a6 < 0) else true else bif !decide (a5 < -1) then decide (a6 < -1) else true), []⟩
  | _ => none
theorem f90_run (R : AV → List Ob → Prop) (a1 a2 a3 a4 a5 a6 a7 a8 a9 a10 a11 a12 a13 a14 : Int) : fnA tab eF1 Try.f90 (bodyOf Try.f90) [.agg (.cons (.int .i64 a1) (.cons (.int .i64 a2) (.cons (.int .i64 a3) (.cons (.int .i64 a4) (.cons (.int .i64 a5) (.cons (.int .i64 a6) (.cons (.int .i64 a7) (.cons (.int .i64 a8) (.cons (.int .i64 a9) (.cons (.int .i64 a10) (.cons (.int .i64 a11) (.cons (.int .i64 a12) (.cons (.int .i64 a13) (.cons (.int .i64 a14) .nl))))))))))))))] R = (bif a2 == 2 then bif !decide (a5 < 0) then R (AV.bool (decide (a6 < -1))) [] else R (AV.bool true) [] else bif a2 == 5 then bif !decide (a5 < 0) then R (AV.bool (decide (a6 < 0))) [] else R (AV.bool true) [] else bif !decide (a5 < -1) then R (AV.bool (decide (a6 < -1))) [] else R (AV.bool true) []) := by kernel_rfl
theorem ok90 : ConOk Try.prog (90, con90) := by
  intro args t h hp
  simp only [con90] at h
  split at h
  · cases h
    refine fn_ok envF1 tab_ok mixed Try.func90 (by kernel_rfl) (by kernel_rfl) ?_
    rw [f90_run]
    exact cond_split (fun h0 => cond_split (fun h1 => ⟨by simp only [h0, h1, cond_true, cond_false], by first | rfl | simp only [h0, h1, cond_true, cond_false]⟩) (fun h1 => ⟨by simp only [h0, h1, cond_true, cond_false], by first | rfl | simp only [h0, h1, cond_true, cond_false]⟩)) (fun h0 => cond_split (fun h1 => cond_split (fun h2 => ⟨by simp only [h0, h1, h2, cond_true, cond_false], by first | rfl | simp only [h0, h1, h2, cond_true, cond_false]⟩) (fun h2 => ⟨by simp only [h0, h1, h2, cond_true, cond_false], by first | rfl | simp only [h0, h1, h2, cond_true, cond_false]⟩)) (fun h1 => cond_split (fun h2 => ⟨by simp only [h0, h1, h2, cond_true, cond_false], by first | rfl | simp only [h0, h1, h2, cond_true, cond_false]⟩) (fun h2 => ⟨by simp only [h0, h1, h2, cond_true, cond_false], by first | rfl | simp only [h0, h1, h2, cond_true, cond_false]⟩)))
  · cases h
def con91 : List AV → Option Tells
  | [.agg (.cons (.int .i64 a1) (.cons (.int .i64 a2) (.cons (.int .i64 a3) (.cons (.int .i64 a4) (.cons (.int .i64 a5) (.cons (.int .i64 a6) (.cons (.int .i64 a7) (.cons (.int .i64 a8) (.cons (.int .i64 a9) (.cons (.int .i64 a10) (.cons (.int .i64 a11) (.cons (.int .i64 a12) (.cons (.int .i64 a13) (.cons (.int .i64 a14) .nl))))))))))))))] => some ⟨[], AV.bool (bif a2 == 5 then !(a7 == 0 && (a8 == 0 && (a9 == 0 && (a10 == 0 && true)))) else false), []⟩
  | _ => none
theorem f91_run (R : AV → List Ob → Prop) (a1 a2 a3 a4 a5 a6 a7 a8 a9 a10 a11 a12 a13 a14 : Int) : fnA tab eF1 Try.f91 (bodyOf Try.f91) [.agg (.cons (.int .i64 a1) (.cons (.int .i64 a2) (.cons (.int .i64 a3) (.cons (.int .i64 a4) (.cons (.int .i64 a5) (.cons (.int .i64 a6) (.cons (.int .i64 a7) (.cons (.int .i64 a8) (.cons (.int .i64 a9) (.cons (.int .i64 a10) (.cons (.int .i64 a11) (.cons (.int .i64 a12) (.cons (.int .i64 a13) (.cons (.int .i64 a14) .nl))))))))))))))] R = (bif a2 == 5 then R (AV.bool !(a7 == 0 && (a8 == 0 && (a9 == 0 && (a10 == 0 && true))))) [] else R (AV.bool false) []) := by kernel_rfl
theorem ok91 : ConOk Try.prog (91, con91) := by
  intro args t h hp
  simp only [con91] at h
  split at h
  · cases h
    refine fn_ok envF1 tab_ok mixed Try.func91 (by kernel_rfl) (by kernel_rfl) ?_
    rw [f91_run]
    exact cond_split (fun h0 => ⟨by simp only [h0, cond_true, cond_false], by first | rfl | simp only [h0, cond_true, cond_false]⟩) (fun h0 => ⟨by simp only [h0, cond_true, cond_false], by first | rfl | simp only [h0, cond_true, cond_false]⟩)
  · cases h
def con94 : List AV → Option Tells
  | [.agg (.cons (.int .i64 a1) (.cons (.int .i64 a2) (.cons (.int .i64 a3) (.cons (.int .i64 a4) (.cons (.int .i64 a5) (.cons (.int .i64 a6) (.cons (.int .i64 a7) (.cons (.int .i64 a8) (.cons (.int .i64 a9) (.cons (.int .i64 a10) (.cons (.int .i64 a11) (.cons (.int .i64 a12) (.cons (.int .i64 a13) (.cons (.int .i64 a14) .nl))))))))))))))] => some ⟨[], AV.bool (bif !decide (a1 < 0) then decide (a1 > 256) else true), []⟩
  | _ => none
theorem f94_run (R : AV → List Ob → Prop) (a1 a2 a3 a4 a5 a6 a7 a8 a9 a10 a11 a12 a13 a14 : Int) : fnA tab eF1 Try.f94 (bodyOf Try.f94) [.agg (.cons (.int .i64 a1) (.cons (.int .i64 a2) (.cons (.int .i64 a3) (.cons (.int .i64 a4) (.cons (.int .i64 a5) (.cons (.int .i64 a6) (.cons (.int .i64 a7) (.cons (.int .i64 a8) (.cons (.int .i64 a9) (.cons (.int .i64 a10) (.cons (.int .i64 a11) (.cons (.int .i64 a12) (.cons (.int .i64 a13) (.cons (.int .i64 a14) .nl))))))))))))))] R = (R (AV.bool (bif !decide (a1 < 0) then decide (a1 > 256) else true)) []) := by kernel_rfl
theorem ok94 : ConOk Try.prog (94, con94) := by
  intro args t h hp
  simp only [con94] at h
  split at h
  · cases h
    refine fn_ok envF1 tab_ok mixed Try.func94 (by kernel_rfl) (by kernel_rfl) ?_
    rw [f94_run]
    exact ⟨rfl, rfl⟩
  · cases h
def con56 : List AV → Option Tells
  | [.int .i64 a1, .int .i64 a2] => some ⟨[], AV.bool (bif !a1 == 1 then bif a2 == 5 then a1 == 4 else bif a2 == 2 then bif !bif !a1 == 2 then a1 == 3 else true then a1 == 4 else true else bif a2 == 1 then bif !a1 == 2 then a1 == 3 else true else bif a2 == 3 then bif !a1 == 2 then a1 == 3 else true else bif a2 == 4 then bif !a1 == 2 then a1 == 3 else true else false else bif a2 == 5 then a1 == 4 else bif a2 == 2 then true else bif a2 == 1 then true else bif a2 == 3 then true else bif a2 == 4 then true else false), []⟩
  | _ => none
theorem f56_run (R : AV → List Ob → Prop) (a1 a2 : Int) : fnA tab eF1 Try.f56 (bodyOf Try.f56) [.int .i64 a1, .int .i64 a2] R = (bif !a1 == 1 then bif a2 == 5 then R (AV.bool (a1 == 4)) [] else bif a2 == 2 then bif !bif !a1 == 2 then a1 == 3 else true then R (AV.bool (a1 == 4)) [] else R (AV.bool true) [] else bif a2 == 1 then R (AV.bool (bif !a1 == 2 then a1 == 3 else true)) [] else bif a2 == 3 then R (AV.bool (bif !a1 == 2 then a1 == 3 else true)) [] else bif a2 == 4 then R (AV.bool (bif !a1 == 2 then a1 == 3 else true)) [] else R (AV.bool false) [] else bif a2 == 5 then R (AV.bool (a1 == 4)) [] else bif a2 == 2 then R (AV.bool true) [] else bif a2 == 1 then R (AV.bool true) [] else bif a2 == 3 then R (AV.bool true) [] else bif a2 == 4 then R (AV.bool true) [] else R (AV.bool false) []) := by kernel_rfl
theorem ok56 : ConOk Try.prog (56, con56) := by
  intro args t h hp
  simp only [con56] at h
  split at h
  · cases h
    refine fn_ok envF1 tab_ok mixed Try.func56 (by kernel_rfl) (by kernel_rfl) ?_
    rw [f56_run]
    exact cond_split (fun h0 => cond_split (fun h1 => ⟨by simp only [h0, h1, cond_true, cond_false], by first | rfl | simp only [h0, h1, cond_true, cond_false]⟩) (fun h1 => cond_split (fun h2 => cond_split (fun h3 => ⟨by simp only [h0, h1, h2, h3, cond_true, cond_false], by first | rfl | simp only [h0, h1, h2, h3, cond_true, cond_false]⟩) (fun h3 => ⟨by simp only [h0, h1, h2, h3, cond_true, cond_false], by first | rfl | simp only [h0, h1, h2, h3, cond_true, cond_false]⟩)) (fun h2 => cond_split (fun h3 => ⟨by simp only [h0, h1, h2, h3, cond_true, cond_false], by first | rfl | simp only [h0, h1, h2, h3, cond_true, cond_false]⟩) (fun h3 => cond_split (fun h4 => ⟨by simp only [h0, h1, h2, h3, h4, cond_true, cond_false], by first | rfl | simp only [h0, h1, h2, h3, h4, cond_true, cond_false]⟩) (fun h4 => cond_split (fun h5 => ⟨by simp only [h0, h1, h2, h3, h4, h5, cond_true, cond_false], by first | rfl | simp only [h0, h1, h2, h3, h4, h5, cond_true, cond_false]⟩) (fun h5 => ⟨by simp only [h0, h1, h2, h3, h4, h5, cond_true, cond_false], by first | rfl | simp only [h0, h1, h2, h3, h4, h5, cond_true, cond_false]⟩)))))) (fun h0 => cond_split (fun h1 => ⟨by simp only [h0, h1, cond_true, cond_false], by first | rfl | simp only [h0, h1, cond_true, cond_false]⟩) (fun h1 => cond_split (fun h2 => ⟨by simp only [h0, h1, h2, cond_true, cond_false], by first | rfl | simp only [h0, h1, h2, cond_true, cond_false]⟩) (fun h2 => cond_split (fun h3 => ⟨by simp only [h0, h1, h2, h3, cond_true, cond_false], by first | rfl | simp only [h0, h1, h2, h3, cond_true, cond_false]⟩) (fun h3 => cond_split (fun h4 => ⟨by simp only [h0, h1, h2, h3, h4, cond_true, cond_false], by first | rfl | simp only [h0, h1, h2, h3, h4, cond_true, cond_false]⟩) (fun h4 => cond_split (fun h5 => ⟨by simp only [h0, h1, h2, h3, h4, h5, cond_true, cond_false], by first | rfl | simp only [h0, h1, h2, h3, h4, h5, cond_true, cond_false]⟩) (fun h5 => ⟨by simp only [h0, h1, h2, h3, h4, h5, cond_true, cond_false], by first | rfl | simp only [h0, h1, h2, h3, h4, h5, cond_true, cond_false]⟩))))))
  · cases h
theorem ex_blk (α : Type) : ∃ f : α → α, ∀ x, f x = x := ⟨id, fun _ => rfl⟩
def blk {α : Type} : α → α := Classical.choose (ex_blk α)
theorem blk_eq {α : Type} (x : α) : blk x = x := Classical.choose_spec (ex_blk α) x
def bigB (n : Int) : Bool := bif !decide (n < -268435456) then decide (n > 268435456) else true
def idxFrom (p : Int → Bool) : List Int → Int → Int
  | [], _ => -1
  | x :: r, i => bif p x then i else idxFrom p r (i + 1)
def minF : List Int → Int
  | [] => 0
  | x :: r => r.foldl min x
theorem idx_step (p : Int → Bool) (xs : List Int) (k : Nat) (h : k < xs.length) : idxFrom p (xs.drop k) k = bif p (xs.getD (k : Int).toNat 0) then (k : Int) else idxFrom p (xs.drop (k + 1)) ((k + 1 : Nat) : Int) := by
  rw [List.drop_eq_getElem_cons h, getD_nat xs 0 k h]
  simp only [idxFrom]
  rw [show ((k : Int) + 1) = ((k + 1 : Nat) : Int) by omega]
theorem min_if (m x : Int) : (if x < m then x else m) = min m x := by split <;> omega
theorem min_step (xs : List Int) (k : Nat) (h0 : 0 < k) (h : k < xs.length) : minF (xs.take (k + 1)) = min (minF (xs.take k)) (xs.getD (k : Int).toNat 0) := by
  rw [getD_nat xs 0 k h, take_next xs k h]
  cases xs with
  | nil => simp at h
  | cons x r =>
    obtain ⟨j, rfl⟩ : ∃ j, k = j + 1 := ⟨k - 1, by omega⟩
    simp only [List.take_succ_cons, List.cons_append, minF, List.foldl_append, List.foldl_cons, List.foldl_nil]
def consF2 : Cons := (83, con83) :: (87, con87) :: (88, con88) :: (89, con89) :: (90, con90) :: (91, con91) :: (94, con94) :: (56, con56) :: consF1
def twosF2 : Cons2 := twosF1
def pansF2 : Cons3 := pansF1
def itersF2 : Cons4 := itersF1
abbrev eF2 : Env := envOf4 consF2 twosF2 pansF2 itersF2
theorem allconsF2 : ∀ c ∈ consF2, ConOk Try.prog c := all_cons ok83 (all_cons ok87 (all_cons ok88 (all_cons ok89 (all_cons ok90 (all_cons ok91 (all_cons ok94 (all_cons ok56 allconsF1)))))))
theorem alltwosF2 : ∀ c ∈ twosF2, ConOk2 Try.prog c := alltwosF1
theorem allpansF2 : ∀ c ∈ pansF2, ConOk3 Try.prog c := allpansF1
theorem allitersF2 : ∀ c ∈ itersF2, ConOk4 Try.prog c := allitersF1
theorem envF2 : EnvOk Try.prog eF2 := envOf4_ok _ _ _ _ allconsF2 alltwosF2 allpansF2 allitersF2
def con48 : List AV → Option Tells
  | [.list 3 (.int .i64) xs, .fn (.func 87) .nl .nl] => some ⟨[xs.length ≤ 4096], .int .i64 (idxFrom bigB xs 0), []⟩
  | _ => none
def f48_live1 : List Nat := [8, 7, 8, 1, 0, 8, 4]
def f48_head1 (xs : List (Ty.int IntKind.i64).den) (s8 : Int) : St := { slots := [AV.list 3 (Ty.int IntKind.i64) xs, AV.fn (Fn.func 87) AV.nl AV.nl, AV.undef, AV.undef, AV.int IntKind.i64 0, AV.undef, AV.undef, AV.int IntKind.i64 (↑xs.length : Int), AV.int IntKind.i64 s8] ++ List.replicate 10 AV.undef, obs := [] }
def f48_q1 (R : AV → List Ob → Prop) : Ex → St → Prop := blockA 0 (seqQ tab eF2 (subC [1, 1] (bodyOf Try.f48)) [4] (endA tab Try.f48 R))
def f48_loop1 (R : AV → List Ob → Prop) (xs : List (Ty.int IntKind.i64).den) (s8 : Int) : Prop := loopT f48_live1 (codeA tab eF2 (subC [1, 0, 1, 0, 0] (bodyOf Try.f48)) f48_live1) (f48_head1 xs s8) (f48_q1 R)
def f48_rhs1 (R : AV → List Ob → Prop) (xs : List (Ty.int IntKind.i64).den) (J : St → Prop) (s8 : Int) : Prop := bif decide (s8 < (↑xs.length : Int)) then 0 ≤ s8 ∧ s8 < (↑xs.length : Int) ∧ bif bif !decide (xs.getD s8.toNat 0 < -268435456) then decide (xs.getD s8.toNat 0 > 268435456) else true then R (AV.int IntKind.i64 s8) [] else J (f48_head1 xs (IntKind.i64.wrap (s8 + 1))) else R (AV.int IntKind.i64 (-1)) []
theorem f48_eq1 (R : AV → List Ob → Prop) (xs : List (Ty.int IntKind.i64).den) (J : St → Prop) (s8 : Int) : codeA tab eF2 (subC [1, 0, 1, 0, 0] (bodyOf Try.f48)) f48_live1 (f48_head1 xs s8) (thenA (fun s => J (St.tidy f48_live1 s)) (f48_q1 R)) = f48_rhs1 R xs J s8 := by kernel_rfl
theorem f48_rule1 (R : AV → List Ob → Prop) (xs : List (Ty.int IntKind.i64).den) (I : Nat → (Int) → Prop) (n : Nat) (s8 : Int) (h0 : I n s8) (h : ∀ n, ∀ (s8 : Int), I n s8 → f48_rhs1 R xs (fun t => ∃ m, m < n ∧ ∃ (s8 : Int), t = f48_head1 xs s8 ∧ I m s8) s8) : f48_loop1 R xs s8 :=
  loop_intro (fun n t => ∃ (s8 : Int), t = f48_head1 xs s8 ∧ I n s8) n ⟨s8, rfl, h0⟩ (fun n t ht => by obtain ⟨s8, rfl, hI⟩ := ht; exact Eq.mpr (f48_eq1 R xs (fun t => ∃ m, m < n ∧ ∃ (s8 : Int), t = f48_head1 xs s8 ∧ I m s8) s8) (h n s8 hI))
theorem f48_run (R : AV → List Ob → Prop) (xs : List (Ty.int .i64).den) : fnA tab eF2 Try.f48 (bodyOf Try.f48) [.list 3 (.int .i64) xs, .fn (.func 87) .nl .nl] R = (f48_loop1 R xs 0) := by kernel_rfl
theorem ok48 : ConOk Try.prog (48, con48) := by
  intro args t h hp
  simp only [con48] at h
  split at h
  · rename_i xs
    change List (Ty.int .i64).den at xs
    cases h
    refine fn_ok envF2 tab_ok mixed Try.func48 (by kernel_rfl) (by kernel_rfl) ?_
    rw [f48_run]
    try dsimp only
    have hx := hp (xs.length ≤ 4096) (by simp)
    refine f48_rule1 _ xs (fun n i => ∃ k : Nat, k ≤ xs.length ∧ n = xs.length - k ∧ i = k ∧ idxFrom bigB xs 0 = idxFrom bigB (xs.drop k) k) xs.length 0 ⟨0, by omega, by simp, rfl, rfl⟩ ?_
    rintro n i ⟨k, hk, rfl, rfl, hi⟩
    unfold f48_rhs1
    refine dec_split (fun hlt => ⟨by omega, hlt, ?_⟩) (fun hlt => ?_)
    · have hlt' : k < xs.length := by omega
      rw [idx_step bigB xs k hlt'] at hi
      refine cond_split (fun hc => ?_) (fun hc => ?_)
      · rw [show bigB _ = true from hc] at hi
        rw [hi]
        exact ⟨rfl, rfl⟩
      · rw [show bigB _ = false from hc] at hi
        exact ⟨xs.length - (k + 1), by omega, _, rfl, k + 1, by omega, rfl, wrap_next k _ hlt' (by simp only [maxLen]; omega), hi⟩
    · rw [hi, List.drop_of_length_le (by omega)]
      exact ⟨rfl, rfl⟩
  · cases h
def con93 : List AV → Option Tells
  | [.list 3 (.int .i64) xs] => some ⟨[0 < xs.length, xs.length ≤ 4096], .int .i64 (blk (minF xs)), []⟩
  | _ => none
def f93_live1 : List Nat := [4, 0, 3, 0, 4, 4, 3, 2]
def f93_head1 (xs : List (Ty.int IntKind.i64).den) (s3 : Int) (s4 : Int) : St := { slots := [AV.list 3 (Ty.int IntKind.i64) xs, AV.undef, AV.int IntKind.i64 0, AV.int IntKind.i64 s3, AV.int IntKind.i64 s4] ++ List.replicate 20 AV.undef, obs := [] }
def f93_q1 (R : AV → List Ob → Prop) : Ex → St → Prop := blockA 0 (seqQ tab eF2 (subC [1, 1, 1, 1] (bodyOf Try.f93)) [2] (endA tab Try.f93 R))
def f93_loop1 (R : AV → List Ob → Prop) (xs : List (Ty.int IntKind.i64).den) (s3 : Int) (s4 : Int) : Prop := loopT f93_live1 (codeA tab eF2 (subC [1, 1, 1, 0, 1, 0, 0] (bodyOf Try.f93)) f93_live1) (f93_head1 xs s3 s4) (f93_q1 R)
def f93_rhs1 (R : AV → List Ob → Prop) (xs : List (Ty.int IntKind.i64).den) (J : St → Prop) (s3 : Int) (s4 : Int) : Prop := bif decide (s4 < (↑xs.length : Int)) then 0 ≤ s4 ∧ s4 < (↑xs.length : Int) ∧ J (f93_head1 xs (if xs.getD s4.toNat 0 < s3 then xs.getD s4.toNat 0 else s3) (IntKind.i64.wrap (s4 + 1))) else R (AV.int IntKind.i64 s3) []
theorem f93_eq1 (R : AV → List Ob → Prop) (xs : List (Ty.int IntKind.i64).den) (J : St → Prop) (s3 : Int) (s4 : Int) : codeA tab eF2 (subC [1, 1, 1, 0, 1, 0, 0] (bodyOf Try.f93)) f93_live1 (f93_head1 xs s3 s4) (thenA (fun s => J (St.tidy f93_live1 s)) (f93_q1 R)) = f93_rhs1 R xs J s3 s4 := by kernel_rfl
theorem f93_rule1 (R : AV → List Ob → Prop) (xs : List (Ty.int IntKind.i64).den) (I : Nat → (Int) → (Int) → Prop) (n : Nat) (s3 : Int) (s4 : Int) (h0 : I n s3 s4) (h : ∀ n, ∀ (s3 : Int) (s4 : Int), I n s3 s4 → f93_rhs1 R xs (fun t => ∃ m, m < n ∧ ∃ (s3 : Int) (s4 : Int), t = f93_head1 xs s3 s4 ∧ I m s3 s4) s3 s4) : f93_loop1 R xs s3 s4 :=
  loop_intro (fun n t => ∃ (s3 : Int) (s4 : Int), t = f93_head1 xs s3 s4 ∧ I n s3 s4) n ⟨s3, s4, rfl, h0⟩ (fun n t ht => by obtain ⟨s3, s4, rfl, hI⟩ := ht; exact Eq.mpr (f93_eq1 R xs (fun t => ∃ m, m < n ∧ ∃ (s3 : Int) (s4 : Int), t = f93_head1 xs s3 s4 ∧ I m s3 s4) s3 s4) (h n s3 s4 hI))
theorem f93_run (R : AV → List Ob → Prop) (xs : List (Ty.int .i64).den) : fnA tab eF2 Try.f93 (bodyOf Try.f93) [.list 3 (.int .i64) xs] R = (bif decide ((↑xs.length : Int) < 1) then False else (0 : Int) ≤ 0 ∧ 0 < (↑xs.length : Int) ∧ f93_loop1 R xs (xs.getD 0 0) 1) := by kernel_rfl
theorem ok93 : ConOk Try.prog (93, con93) := by
  intro args t h hp
  simp only [con93] at h
  split at h
  · rename_i xs
    change List (Ty.int .i64).den at xs
    cases h
    refine fn_ok envF2 tab_ok mixed Try.func93 (by kernel_rfl) (by kernel_rfl) ?_
    rw [f93_run]
    try dsimp only
    have hx := hp (xs.length ≤ 4096) (by simp)
    have h0 := hp (0 < xs.length) (by simp)
    refine dec_no (by omega) ⟨Int.le_refl 0, by omega, ?_⟩
    rw [blk_eq]
    refine f93_rule1 _ xs (fun n m i => ∃ k : Nat, 0 < k ∧ k ≤ xs.length ∧ n = xs.length - k ∧ i = k ∧ m = minF (xs.take k)) (xs.length - 1) _ _ ⟨1, by omega, by omega, rfl, rfl, ?_⟩ ?_
    · cases xs with
      | nil => simp at h0
      | cons x r => rfl
    rintro n m i ⟨k, hk0, hk, rfl, rfl, rfl⟩
    unfold f93_rhs1
    refine dec_split (fun hlt => ⟨by omega, hlt, ?_⟩) (fun hlt => ?_)
    · have hlt' : k < xs.length := by omega
      refine ⟨xs.length - (k + 1), by omega, _, _, rfl, k + 1, by omega, by omega, rfl, wrap_next k _ hlt' (by simp only [maxLen]; omega), ?_⟩
      rw [min_step xs k hk0 hlt']
      generalize xs.getD (k : Int).toNat 0 = x
      exact min_if _ _
    · rw [take_all xs k (by omega)]
      exact ⟨rfl, rfl⟩
  · cases h
def consF3 : Cons := (48, con48) :: (93, con93) :: consF2
def twosF3 : Cons2 := twosF2
def pansF3 : Cons3 := pansF2
def itersF3 : Cons4 := itersF2
abbrev eF3 : Env := envOf4 consF3 twosF3 pansF3 itersF3
theorem allconsF3 : ∀ c ∈ consF3, ConOk Try.prog c := all_cons ok48 (all_cons ok93 allconsF2)
theorem alltwosF3 : ∀ c ∈ twosF3, ConOk2 Try.prog c := alltwosF2
theorem allpansF3 : ∀ c ∈ pansF3, ConOk3 Try.prog c := allpansF2
theorem allitersF3 : ∀ c ∈ itersF3, ConOk4 Try.prog c := allitersF2
theorem envF3 : EnvOk Try.prog eF3 := envOf4_ok _ _ _ _ allconsF3 alltwosF3 allpansF3 allitersF3
def con86 : List AV → Option Tells
  | [.list 3 (.int .i64) xs, .fn (.func 87) .nl .nl] => some ⟨[xs.length ≤ 4096], .bool (blk (decide (idxFrom bigB xs 0 ≥ 0))), []⟩
  | _ => none
theorem f86_run (R : AV → List Ob → Prop) (xs : List (Ty.int .i64).den) : fnA tab eF3 Try.f86 (bodyOf Try.f86) [.list 3 (.int .i64) xs, .fn (.func 87) .nl .nl] R = (xs.length ≤ 4096 ∧ R (AV.bool (decide (idxFrom bigB xs 0 ≥ 0))) []) := by kernel_rfl
theorem ok86 : ConOk Try.prog (86, con86) := by
  intro args t h hp
  simp only [con86] at h
  split at h
  · rename_i xs
    change List (Ty.int .i64).den at xs
    cases h
    refine fn_ok envF3 tab_ok mixed Try.func86 (by kernel_rfl) (by kernel_rfl) ?_
    rw [f86_run]
    try dsimp only
    have hx := hp (xs.length ≤ 4096) (by simp)
    rw [blk_eq]
    exact ⟨hx, rfl, rfl⟩
  · cases h
def consF4 : Cons := (86, con86) :: consF3
def twosF4 : Cons2 := twosF3
def pansF4 : Cons3 := pansF3
def itersF4 : Cons4 := itersF3
abbrev eF4 : Env := envOf4 consF4 twosF4 pansF4 itersF4
theorem allconsF4 : ∀ c ∈ consF4, ConOk Try.prog c := all_cons ok86 allconsF3
theorem alltwosF4 : ∀ c ∈ twosF4, ConOk2 Try.prog c := alltwosF3
theorem allpansF4 : ∀ c ∈ pansF4, ConOk3 Try.prog c := allpansF3
theorem allitersF4 : ∀ c ∈ itersF4, ConOk4 Try.prog c := allitersF3
theorem envF4 : EnvOk Try.prog eF4 := envOf4_ok _ _ _ _ allconsF4 alltwosF4 allpansF4 allitersF4
def con85 : List AV → Option Tells
  | [.agg (.cons (.int .i64 a1) (.cons (.int .i64 a2) (.cons (.int .i64 a3) (.cons (.int .i64 a4) (.cons (.int .i64 a5) (.cons (.int .i64 a6) (.cons (.int .i64 a7) (.cons (.int .i64 a8) (.cons (.int .i64 a9) (.cons (.int .i64 a10) (.cons (.int .i64 a11) (.cons (.int .i64 a12) (.cons (.int .i64 a13) (.cons (.int .i64 a14) .nl))))))))))))))] => some ⟨[], AV.bool (blk (decide (idxFrom bigB ([a5, a6] ++ ([a7, a8, a9, a10] ++ [a11, a12, a13, a14])) 0 ≥ 0))), []⟩
  | _ => none
theorem f85_run (R : AV → List Ob → Prop) (a1 a2 a3 a4 a5 a6 a7 a8 a9 a10 a11 a12 a13 a14 : Int) : fnA tab eF4 Try.f85 (bodyOf Try.f85) [.agg (.cons (.int .i64 a1) (.cons (.int .i64 a2) (.cons (.int .i64 a3) (.cons (.int .i64 a4) (.cons (.int .i64 a5) (.cons (.int .i64 a6) (.cons (.int .i64 a7) (.cons (.int .i64 a8) (.cons (.int .i64 a9) (.cons (.int .i64 a10) (.cons (.int .i64 a11) (.cons (.int .i64 a12) (.cons (.int .i64 a13) (.cons (.int .i64 a14) .nl))))))))))))))] R = ((0 : Int) ≤ 0 ∧ (0 : Int) ≤ 4 ∧ (4 : Int) ≤ 4 ∧ (4 : Int) ≤ 4 ∧ (0 : Int) ≤ 0 ∧ (0 : Int) ≤ 4 ∧ (4 : Int) ≤ 4 ∧ (4 : Int) ≤ 4 ∧ (4 + 4) * 8 ≤ 140737488355328 ∧ Nat.le 1 4 ∧ Nat.le 1 4 ∧ (2 + 8) * 8 ≤ 140737488355328 ∧ Nat.le 10 4096 ∧ R (AV.bool (blk (decide (idxFrom bigB ([a5, a6] ++ ([a7, a8, a9, a10] ++ [a11, a12, a13, a14])) 0 ≥ 0)))) []) := by kernel_rfl
theorem ok85 : ConOk Try.prog (85, con85) := by
  intro args t h hp
  simp only [con85] at h
  split at h
  · cases h
    refine fn_ok envF4 tab_ok mixed Try.func85 (by kernel_rfl) (by kernel_rfl) ?_
    rw [f85_run]
    exact ⟨of_decide_eq_true rfl, ⟨of_decide_eq_true rfl, ⟨of_decide_eq_true rfl, ⟨of_decide_eq_true rfl, ⟨of_decide_eq_true rfl, ⟨of_decide_eq_true rfl, ⟨of_decide_eq_true rfl, ⟨of_decide_eq_true rfl, ⟨of_decide_eq_true rfl, ⟨Nat.le_of_ble_eq_true rfl, ⟨Nat.le_of_ble_eq_true rfl, ⟨of_decide_eq_true rfl, ⟨Nat.le_of_ble_eq_true rfl, ⟨rfl, rfl⟩⟩⟩⟩⟩⟩⟩⟩⟩⟩⟩⟩⟩⟩
  · cases h
def con92 : List AV → Option Tells
  | [.agg (.cons (.int .i64 a1) (.cons (.int .i64 a2) (.cons (.int .i64 a3) (.cons (.int .i64 a4) (.cons (.int .i64 a5) (.cons (.int .i64 a6) (.cons (.int .i64 a7) (.cons (.int .i64 a8) (.cons (.int .i64 a9) (.cons (.int .i64 a10) (.cons (.int .i64 a11) (.cons (.int .i64 a12) (.cons (.int .i64 a13) (.cons (.int .i64 a14) .nl))))))))))))))] => some ⟨[], AV.bool (bif !decide (blk (minF [a11, a12, a13, a14]) < 0) then bif a2 == 5 then !(a11 == 0 && (a12 == 0 && (a13 == 0 && (a14 == 0 && true)))) else false else true), []⟩
  | _ => none
theorem f92_run (R : AV → List Ob → Prop) (a1 a2 a3 a4 a5 a6 a7 a8 a9 a10 a11 a12 a13 a14 : Int) : fnA tab eF4 Try.f92 (bodyOf Try.f92) [.agg (.cons (.int .i64 a1) (.cons (.int .i64 a2) (.cons (.int .i64 a3) (.cons (.int .i64 a4) (.cons (.int .i64 a5) (.cons (.int .i64 a6) (.cons (.int .i64 a7) (.cons (.int .i64 a8) (.cons (.int .i64 a9) (.cons (.int .i64 a10) (.cons (.int .i64 a11) (.cons (.int .i64 a12) (.cons (.int .i64 a13) (.cons (.int .i64 a14) .nl))))))))))))))] R = ((0 : Int) ≤ 0 ∧ (0 : Int) ≤ 4 ∧ (4 : Int) ≤ 4 ∧ (4 : Int) ≤ 4 ∧ Nat.le 1 4 ∧ Nat.le 4 4096 ∧ bif !decide (blk (minF [a11, a12, a13, a14]) < 0) then bif a2 == 5 then R (AV.bool !(a11 == 0 && (a12 == 0 && (a13 == 0 && (a14 == 0 && true))))) [] else R (AV.bool false) [] else R (AV.bool true) []) := by kernel_rfl
theorem ok92 : ConOk Try.prog (92, con92) := by
  intro args t h hp
  simp only [con92] at h
  split at h
  · cases h
    refine fn_ok envF4 tab_ok mixed Try.func92 (by kernel_rfl) (by kernel_rfl) ?_
    rw [f92_run]
    exact ⟨of_decide_eq_true rfl, ⟨of_decide_eq_true rfl, ⟨of_decide_eq_true rfl, ⟨of_decide_eq_true rfl, ⟨Nat.le_of_ble_eq_true rfl, ⟨Nat.le_of_ble_eq_true rfl, cond_split (fun h0 => cond_split (fun h1 => ⟨by simp only [h0, h1, cond_true, cond_false], by first | rfl | simp only [h0, h1, cond_true, cond_false]⟩) (fun h1 => ⟨by simp only [h0, h1, cond_true, cond_false], by first | rfl | simp only [h0, h1, cond_true, cond_false]⟩)) (fun h0 => ⟨by simp only [h0, cond_true, cond_false], by first | rfl | simp only [h0, cond_true, cond_false]⟩)⟩⟩⟩⟩⟩⟩
  · cases h
def con69 : List AV → Option Tells
  | [] => some ⟨[], AV.view 0 0 8 139 (Ty.bool.pair (Ty.bool.pair Ty.unit)), [Ob.cells 139 [AV.int IntKind.i64 4, AV.fn (Fn.func 83) AV.nl AV.nl, AV.int IntKind.i64 10, AV.fn (Fn.func 85) AV.nl AV.nl, AV.int IntKind.i64 5, AV.fn (Fn.func 88) AV.nl AV.nl, AV.int IntKind.i64 6, AV.fn (Fn.func 89) AV.nl AV.nl, AV.int IntKind.i64 7, AV.fn (Fn.func 90) AV.nl AV.nl, AV.int IntKind.i64 8, AV.fn (Fn.func 91) AV.nl AV.nl, AV.int IntKind.i64 9, AV.fn (Fn.func 92) AV.nl AV.nl, AV.int IntKind.i64 11, AV.fn (Fn.func 94) AV.nl AV.nl]]⟩
  | _ => none
theorem f69_run (R : AV → List Ob → Prop)  : fnA tab eF4 Try.f69 (bodyOf Try.f69) [] R = (R (AV.view 0 0 8 139 (Ty.bool.pair (Ty.bool.pair Ty.unit))) [Ob.cells 139 [AV.int IntKind.i64 4, AV.fn (Fn.func 83) AV.nl AV.nl, AV.int IntKind.i64 10, AV.fn (Fn.func 85) AV.nl AV.nl, AV.int IntKind.i64 5, AV.fn (Fn.func 88) AV.nl AV.nl, AV.int IntKind.i64 6, AV.fn (Fn.func 89) AV.nl AV.nl, AV.int IntKind.i64 7, AV.fn (Fn.func 90) AV.nl AV.nl, AV.int IntKind.i64 8, AV.fn (Fn.func 91) AV.nl AV.nl, AV.int IntKind.i64 9, AV.fn (Fn.func 92) AV.nl AV.nl, AV.int IntKind.i64 11, AV.fn (Fn.func 94) AV.nl AV.nl]]) := by kernel_rfl
theorem ok69 : ConOk Try.prog (69, con69) := by
  intro args t h hp
  simp only [con69] at h
  split at h
  · cases h
    refine fn_ok envF4 tab_ok mixed Try.func69 (by kernel_rfl) (by kernel_rfl) ?_
    rw [f69_run]
    exact ⟨rfl, rfl⟩
  · cases h
def consF5 : Cons := (85, con85) :: (92, con92) :: (69, con69) :: consF4
def twosF5 : Cons2 := twosF4
def pansF5 : Cons3 := pansF4
def itersF5 : Cons4 := itersF4
abbrev eF5 : Env := envOf4 consF5 twosF5 pansF5 itersF5
theorem allconsF5 : ∀ c ∈ consF5, ConOk Try.prog c := all_cons ok85 (all_cons ok92 (all_cons ok69 allconsF4))
theorem alltwosF5 : ∀ c ∈ twosF5, ConOk2 Try.prog c := alltwosF4
theorem allpansF5 : ∀ c ∈ pansF5, ConOk3 Try.prog c := allpansF4
theorem allitersF5 : ∀ c ∈ itersF5, ConOk4 Try.prog c := allitersF4
theorem envF5 : EnvOk Try.prog eF5 := envOf4_ok _ _ _ _ allconsF5 alltwosF5 allpansF5 allitersF5
def wrB1 (a1 a2 a3 a4 a5 a6 a7 a8 a9 a10 a11 a12 a13 a14 : Int) : Bool := bif !decide (a2 < 1) then decide (a2 > 5) else true
def wrB2 (a1 a2 a3 a4 a5 a6 a7 a8 a9 a10 a11 a12 a13 a14 : Int) : Bool := blk (decide (idxFrom bigB ([a5, a6] ++ ([a7, a8, a9, a10] ++ [a11, a12, a13, a14])) 0 ≥ 0))
def wrB3 (a1 a2 a3 a4 a5 a6 a7 a8 a9 a10 a11 a12 a13 a14 : Int) : Bool := bif a2 == 2 then bif !decide (a3 < 1) then decide (a3 > 2) else true else a3 != 0
def wrB4 (a1 a2 a3 a4 a5 a6 a7 a8 a9 a10 a11 a12 a13 a14 : Int) : Bool := bif !bif !decide (a4 < 0) then decide (a4 > 3) else true then bif a2 == 5 then a4 != 0 else false else true
def wrB5 (a1 a2 a3 a4 a5 a6 a7 a8 a9 a10 a11 a12 a13 a14 : Int) : Bool := bif a2 == 2 then bif !decide (a5 < 0) then decide (a6 < -1) else true else bif a2 == 5 then bif !decide (a5 < 0) then decide (a6 < 0) else true else bif !decide (a5 < -1) then decide (a6 < -1) else true
def wrB6 (a1 a2 a3 a4 a5 a6 a7 a8 a9 a10 a11 a12 a13 a14 : Int) : Bool := bif a2 == 5 then !(a7 == 0 && (a8 == 0 && (a9 == 0 && (a10 == 0 && true)))) else false
def wrB7 (a1 a2 a3 a4 a5 a6 a7 a8 a9 a10 a11 a12 a13 a14 : Int) : Bool := bif !decide (blk (minF [a11, a12, a13, a14]) < 0) then bif a2 == 5 then !(a11 == 0 && (a12 == 0 && (a13 == 0 && (a14 == 0 && true)))) else false else true
def wrB8 (a1 a2 a3 a4 a5 a6 a7 a8 a9 a10 a11 a12 a13 a14 : Int) : Bool := bif !decide (a1 < 0) then decide (a1 > 256) else true
def pickE (c1 c2 c3 c4 c5 c6 c7 c8 : Bool) : Int := bif c1 then 4 else bif c2 then 10 else bif c3 then 5 else bif c4 then 6 else bif c5 then 7 else bif c6 then 8 else bif c7 then 9 else bif c8 then 11 else 0
def chkB (a1 a2 a3 a4 a5 a6 a7 a8 a9 a10 a11 a12 a13 a14 : Int) : Int := pickE (wrB1 a1 a2 a3 a4 a5 a6 a7 a8 a9 a10 a11 a12 a13 a14) (wrB2 a1 a2 a3 a4 a5 a6 a7 a8 a9 a10 a11 a12 a13 a14) (wrB3 a1 a2 a3 a4 a5 a6 a7 a8 a9 a10 a11 a12 a13 a14) (wrB4 a1 a2 a3 a4 a5 a6 a7 a8 a9 a10 a11 a12 a13 a14) (wrB5 a1 a2 a3 a4 a5 a6 a7 a8 a9 a10 a11 a12 a13 a14) (wrB6 a1 a2 a3 a4 a5 a6 a7 a8 a9 a10 a11 a12 a13 a14) (wrB7 a1 a2 a3 a4 a5 a6 a7 a8 a9 a10 a11 a12 a13 a14) (wrB8 a1 a2 a3 a4 a5 a6 a7 a8 a9 a10 a11 a12 a13 a14)
theorem pick_all (c1 c2 c3 c4 c5 c6 c7 c8 : Bool) : (0 : Int) ≤ 0 ∧ (0 : Int) < 8 ∧ bif c1 then (AV.int .i64 4 = .int .i64 (pickE c1 c2 c3 c4 c5 c6 c7 c8) ∧ ([] : List Ob) = []) else (0 : Int) ≤ 1 ∧ (1 : Int) < 8 ∧ bif c2 then (AV.int .i64 10 = .int .i64 (pickE c1 c2 c3 c4 c5 c6 c7 c8) ∧ ([] : List Ob) = []) else (0 : Int) ≤ 2 ∧ (2 : Int) < 8 ∧ bif c3 then (AV.int .i64 5 = .int .i64 (pickE c1 c2 c3 c4 c5 c6 c7 c8) ∧ ([] : List Ob) = []) else (0 : Int) ≤ 3 ∧ (3 : Int) < 8 ∧ bif c4 then (AV.int .i64 6 = .int .i64 (pickE c1 c2 c3 c4 c5 c6 c7 c8) ∧ ([] : List Ob) = []) else (0 : Int) ≤ 4 ∧ (4 : Int) < 8 ∧ bif c5 then (AV.int .i64 7 = .int .i64 (pickE c1 c2 c3 c4 c5 c6 c7 c8) ∧ ([] : List Ob) = []) else (0 : Int) ≤ 5 ∧ (5 : Int) < 8 ∧ bif c6 then (AV.int .i64 8 = .int .i64 (pickE c1 c2 c3 c4 c5 c6 c7 c8) ∧ ([] : List Ob) = []) else (0 : Int) ≤ 6 ∧ (6 : Int) < 8 ∧ bif c7 then (AV.int .i64 9 = .int .i64 (pickE c1 c2 c3 c4 c5 c6 c7 c8) ∧ ([] : List Ob) = []) else (0 : Int) ≤ 7 ∧ (7 : Int) < 8 ∧ bif c8 then (AV.int .i64 11 = .int .i64 (pickE c1 c2 c3 c4 c5 c6 c7 c8) ∧ ([] : List Ob) = []) else (AV.int .i64 0 = .int .i64 (pickE c1 c2 c3 c4 c5 c6 c7 c8) ∧ ([] : List Ob) = []) := by
  refine ⟨by decide, by decide, ?_⟩
  cases c1 with
  | true => exact ⟨rfl, rfl⟩
  | false =>
    refine ⟨by decide, by decide, ?_⟩
    cases c2 with
    | true => exact ⟨rfl, rfl⟩
    | false =>
      refine ⟨by decide, by decide, ?_⟩
      cases c3 with
      | true => exact ⟨rfl, rfl⟩
      | false =>
        refine ⟨by decide, by decide, ?_⟩
        cases c4 with
        | true => exact ⟨rfl, rfl⟩
        | false =>
          refine ⟨by decide, by decide, ?_⟩
          cases c5 with
          | true => exact ⟨rfl, rfl⟩
          | false =>
            refine ⟨by decide, by decide, ?_⟩
            cases c6 with
            | true => exact ⟨rfl, rfl⟩
            | false =>
              refine ⟨by decide, by decide, ?_⟩
              cases c7 with
              | true => exact ⟨rfl, rfl⟩
              | false =>
                refine ⟨by decide, by decide, ?_⟩
                cases c8 with
                | true => exact ⟨rfl, rfl⟩
                | false =>
                  exact ⟨rfl, rfl⟩
def con55 : List AV → Option Tells
  | [.agg (.cons (.int .i64 a1) (.cons (.int .i64 a2) (.cons (.int .i64 a3) (.cons (.int .i64 a4) (.cons (.int .i64 a5) (.cons (.int .i64 a6) (.cons (.int .i64 a7) (.cons (.int .i64 a8) (.cons (.int .i64 a9) (.cons (.int .i64 a10) (.cons (.int .i64 a11) (.cons (.int .i64 a12) (.cons (.int .i64 a13) (.cons (.int .i64 a14) .nl))))))))))))))] => some ⟨[], .int .i64 (blk (chkB a1 a2 a3 a4 a5 a6 a7 a8 a9 a10 a11 a12 a13 a14)), []⟩
  | _ => none
def f55_live1 : List Nat := [7, 6, 5, 7, 1, 7, 2]
def f55_head1 (a1 : Int) (a2 : Int) (a3 : Int) (a4 : Int) (a5 : Int) (a6 : Int) (a7 : Int) (a8 : Int) (a9 : Int) (a10 : Int) (a11 : Int) (a12 : Int) (a13 : Int) (a14 : Int) : St := { slots := [AV.undef, AV.ptr 0 0, AV.int IntKind.i64 0, AV.undef, AV.undef, AV.view 1 0 8 139 (Ty.bool.pair (Ty.bool.pair Ty.unit)), AV.int IntKind.i64 8, AV.int IntKind.i64 0] ++ List.replicate 10 AV.undef, obs := [Ob.cells 50 [AV.int IntKind.i64 a1, AV.int IntKind.i64 a2, AV.int IntKind.i64 a3, AV.int IntKind.i64 a4, AV.int IntKind.i64 a5, AV.int IntKind.i64 a6, AV.int IntKind.i64 a7, AV.int IntKind.i64 a8, AV.int IntKind.i64 a9, AV.int IntKind.i64 a10, AV.int IntKind.i64 a11, AV.int IntKind.i64 a12, AV.int IntKind.i64 a13, AV.int IntKind.i64 a14], Ob.cells 139 [AV.int IntKind.i64 4, AV.fn (Fn.func 83) AV.nl AV.nl, AV.int IntKind.i64 10, AV.fn (Fn.func 85) AV.nl AV.nl, AV.int IntKind.i64 5, AV.fn (Fn.func 88) AV.nl AV.nl, AV.int IntKind.i64 6, AV.fn (Fn.func 89) AV.nl AV.nl, AV.int IntKind.i64 7, AV.fn (Fn.func 90) AV.nl AV.nl, AV.int IntKind.i64 8, AV.fn (Fn.func 91) AV.nl AV.nl, AV.int IntKind.i64 9, AV.fn (Fn.func 92) AV.nl AV.nl, AV.int IntKind.i64 11, AV.fn (Fn.func 94) AV.nl AV.nl]] }
def f55_q1 (R : AV → List Ob → Prop) : Ex → St → Prop := blockA 0 (seqQ tab eF5 (subC [1, 1] (bodyOf Try.f55)) [2] (endA tab Try.f55 R))
def f55_loop1 (R : AV → List Ob → Prop) (a1 : Int) (a2 : Int) (a3 : Int) (a4 : Int) (a5 : Int) (a6 : Int) (a7 : Int) (a8 : Int) (a9 : Int) (a10 : Int) (a11 : Int) (a12 : Int) (a13 : Int) (a14 : Int) : Prop := loopT f55_live1 (codeA tab eF5 (subC [1, 0, 1, 0, 0] (bodyOf Try.f55)) f55_live1) (f55_head1 a1 a2 a3 a4 a5 a6 a7 a8 a9 a10 a11 a12 a13 a14) (f55_q1 R)
set_option maxHeartbeats 2000000 in
theorem f55_eq1 (R : AV → List Ob → Prop) (a1 : Int) (a2 : Int) (a3 : Int) (a4 : Int) (a5 : Int) (a6 : Int) (a7 : Int) (a8 : Int) (a9 : Int) (a10 : Int) (a11 : Int) (a12 : Int) (a13 : Int) (a14 : Int) : loopU f55_live1 (codeA tab eF5 (subC [1, 0, 1, 0, 0] (bodyOf Try.f55)) f55_live1) 40 (f55_head1 a1 a2 a3 a4 a5 a6 a7 a8 a9 a10 a11 a12 a13 a14) (f55_q1 R) = ((0 : Int) ≤ 0 ∧ (0 : Int) < 8 ∧ bif bif !decide (a2 < 1) then decide (a2 > 5) else true then R (AV.int IntKind.i64 4) [] else (0 : Int) ≤ 1 ∧ (1 : Int) < 8 ∧ bif blk (decide (idxFrom bigB ([a5, a6] ++ ([a7, a8, a9, a10] ++ [a11, a12, a13, a14])) 0 ≥ 0)) then R (AV.int IntKind.i64 10) [] else (0 : Int) ≤ 2 ∧ (2 : Int) < 8 ∧ bif bif a2 == 2 then bif !decide (a3 < 1) then decide (a3 > 2) else true else a3 != 0 then R (AV.int IntKind.i64 5) [] else (0 : Int) ≤ 3 ∧ (3 : Int) < 8 ∧ bif bif !bif !decide (a4 < 0) then decide (a4 > 3) else true then bif a2 == 5 then a4 != 0 else false else true then R (AV.int IntKind.i64 6) [] else (0 : Int) ≤ 4 ∧ (4 : Int) < 8 ∧ bif bif a2 == 2 then bif !decide (a5 < 0) then decide (a6 < -1) else true else bif a2 == 5 then bif !decide (a5 < 0) then decide (a6 < 0) else true else bif !decide (a5 < -1) then decide (a6 < -1) else true then R (AV.int IntKind.i64 7) [] else (0 : Int) ≤ 5 ∧ (5 : Int) < 8 ∧ bif bif a2 == 5 then !(a7 == 0 && (a8 == 0 && (a9 == 0 && (a10 == 0 && true)))) else false then R (AV.int IntKind.i64 8) [] else (0 : Int) ≤ 6 ∧ (6 : Int) < 8 ∧ bif bif !decide (blk (minF [a11, a12, a13, a14]) < 0) then bif a2 == 5 then !(a11 == 0 && (a12 == 0 && (a13 == 0 && (a14 == 0 && true)))) else false else true then R (AV.int IntKind.i64 9) [] else (0 : Int) ≤ 7 ∧ (7 : Int) < 8 ∧ bif bif !decide (a1 < 0) then decide (a1 > 256) else true then R (AV.int IntKind.i64 11) [] else R (AV.int IntKind.i64 0) []) := by kernel_rfl
set_option maxHeartbeats 2000000 in
theorem f55_rule1 (R : AV → List Ob → Prop) (a1 : Int) (a2 : Int) (a3 : Int) (a4 : Int) (a5 : Int) (a6 : Int) (a7 : Int) (a8 : Int) (a9 : Int) (a10 : Int) (a11 : Int) (a12 : Int) (a13 : Int) (a14 : Int) (h : (0 : Int) ≤ 0 ∧ (0 : Int) < 8 ∧ bif bif !decide (a2 < 1) then decide (a2 > 5) else true then R (AV.int IntKind.i64 4) [] else (0 : Int) ≤ 1 ∧ (1 : Int) < 8 ∧ bif blk (decide (idxFrom bigB ([a5, a6] ++ ([a7, a8, a9, a10] ++ [a11, a12, a13, a14])) 0 ≥ 0)) then R (AV.int IntKind.i64 10) [] else (0 : Int) ≤ 2 ∧ (2 : Int) < 8 ∧ bif bif a2 == 2 then bif !decide (a3 < 1) then decide (a3 > 2) else true else a3 != 0 then R (AV.int IntKind.i64 5) [] else (0 : Int) ≤ 3 ∧ (3 : Int) < 8 ∧ bif bif !bif !decide (a4 < 0) then decide (a4 > 3) else true then bif a2 == 5 then a4 != 0 else false else true then R (AV.int IntKind.i64 6) [] else (0 : Int) ≤ 4 ∧ (4 : Int) < 8 ∧ bif bif a2 == 2 then bif !decide (a5 < 0) then decide (a6 < -1) else true else bif a2 == 5 then bif !decide (a5 < 0) then decide (a6 < 0) else true else bif !decide (a5 < -1) then decide (a6 < -1) else true then R (AV.int IntKind.i64 7) [] else (0 : Int) ≤ 5 ∧ (5 : Int) < 8 ∧ bif bif a2 == 5 then !(a7 == 0 && (a8 == 0 && (a9 == 0 && (a10 == 0 && true)))) else false then R (AV.int IntKind.i64 8) [] else (0 : Int) ≤ 6 ∧ (6 : Int) < 8 ∧ bif bif !decide (blk (minF [a11, a12, a13, a14]) < 0) then bif a2 == 5 then !(a11 == 0 && (a12 == 0 && (a13 == 0 && (a14 == 0 && true)))) else false else true then R (AV.int IntKind.i64 9) [] else (0 : Int) ≤ 7 ∧ (7 : Int) < 8 ∧ bif bif !decide (a1 < 0) then decide (a1 > 256) else true then R (AV.int IntKind.i64 11) [] else R (AV.int IntKind.i64 0) []) : f55_loop1 R a1 a2 a3 a4 a5 a6 a7 a8 a9 a10 a11 a12 a13 a14 := loop_rounds 40 (Eq.mpr (f55_eq1 R a1 a2 a3 a4 a5 a6 a7 a8 a9 a10 a11 a12 a13 a14) h)
theorem f55_run (R : AV → List Ob → Prop) (a1 a2 a3 a4 a5 a6 a7 a8 a9 a10 a11 a12 a13 a14 : Int) : fnA tab eF5 Try.f55 (bodyOf Try.f55) [.agg (.cons (.int .i64 a1) (.cons (.int .i64 a2) (.cons (.int .i64 a3) (.cons (.int .i64 a4) (.cons (.int .i64 a5) (.cons (.int .i64 a6) (.cons (.int .i64 a7) (.cons (.int .i64 a8) (.cons (.int .i64 a9) (.cons (.int .i64 a10) (.cons (.int .i64 a11) (.cons (.int .i64 a12) (.cons (.int .i64 a13) (.cons (.int .i64 a14) .nl))))))))))))))] R = (f55_loop1 R a1 a2 a3 a4 a5 a6 a7 a8 a9 a10 a11 a12 a13 a14) := by kernel_rfl
theorem ok55 : ConOk Try.prog (55, con55) := by
  intro args t h hp
  simp only [con55] at h
  split at h
  · rename_i a1 a2 a3 a4 a5 a6 a7 a8 a9 a10 a11 a12 a13 a14
    cases h
    refine fn_ok envF5 tab_ok mixed Try.func55 (by kernel_rfl) (by kernel_rfl) ?_
    rw [f55_run]
    try dsimp only
    rw [blk_eq]
    refine f55_rule1 _ a1 a2 a3 a4 a5 a6 a7 a8 a9 a10 a11 a12 a13 a14 ?_
    exact pick_all _ _ _ _ _ _ _ _
  · cases h
end
end Go.Proofs.Ytkpjcmiijlpcaaa.W
