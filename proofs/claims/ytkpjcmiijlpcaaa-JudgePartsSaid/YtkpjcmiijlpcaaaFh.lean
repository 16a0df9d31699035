/- The functions of layer 2 (rect) that layer 20 calls. -/
import Derived.Test.YtkpjcmiijlpcaaaWa
import Derived.Test.YtkpjcmiijlpcaaaEa
import Derived.Test.YtkpjcmiijlpcaaaFa
import Derived.Test.YtkpjcmiijlpcaaaFb
import Derived.Test.YtkpjcmiijlpcaaaAwZ
import Derived.KernelRfl
set_option linter.unusedVariables false
set_option linter.unusedSimpArgs false
namespace Go.Proofs.Ytkpjcmiijlpcaaa.W
open Go Go.Proofs Go.Proofs.Ytkpjcmiijlpcaaa.Aw
noncomputable section
def consR0 : Cons := []
def twosR0 : Cons2 := []
def pansR0 : Cons3 := []
def itersR0 : Cons4 := []
abbrev eR0 : Env := envOf4 consR0 twosR0 pansR0 itersR0
theorem allconsR0 : ∀ c ∈ consR0, ConOk Try.prog c := all_nil
theorem alltwosR0 : ∀ c ∈ twosR0, ConOk2 Try.prog c := all_nil
theorem allpansR0 : ∀ c ∈ pansR0, ConOk3 Try.prog c := all_nil
theorem allitersR0 : ∀ c ∈ itersR0, ConOk4 Try.prog c := all_nil
theorem envR0 : EnvOk Try.prog eR0 := envOf4_ok _ _ _ _ allconsR0 alltwosR0 allpansR0 allitersR0
def con59 : List AV → Option Tells
  | [.agg (.cons (.int .i64 a) (.cons (.int .i64 b) (.cons (.int .i64 c) (.cons (.int .i64 d) .nl))))] => some ⟨[], ((AV.int IntKind.i64 a).cons ((AV.int IntKind.i64 c).cons AV.nl)).agg, []⟩
  | _ => none
theorem f59_run (R : AV → List Ob → Prop) (a b c d : Int) : fnA tab eR0 Try.f59 (bodyOf Try.f59) [.agg (.cons (.int .i64 a) (.cons (.int .i64 b) (.cons (.int .i64 c) (.cons (.int .i64 d) .nl))))] R = (R ((AV.int IntKind.i64 a).cons ((AV.int IntKind.i64 c).cons AV.nl)).agg []) := by kernel_rfl
theorem ok59 : ConOk Try.prog (59, con59) := by
  intro args t h hp
  simp only [con59] at h
  split at h
  · cases h
    refine fn_ok envR0 tab_ok mixed Try.func59 (by kernel_rfl) (by kernel_rfl) ?_
    rw [f59_run]
    exact ⟨rfl, rfl⟩
  · cases h
def con96 : List AV → Option Tells
  | [.agg (.cons (.int .i64 a) (.cons (.int .i64 b) (.cons (.int .i64 c) (.cons (.int .i64 d) .nl))))] => some ⟨[], ((AV.int IntKind.i64 b).cons ((AV.int IntKind.i64 d).cons AV.nl)).agg, []⟩
  | _ => none
theorem f96_run (R : AV → List Ob → Prop) (a b c d : Int) : fnA tab eR0 Try.f96 (bodyOf Try.f96) [.agg (.cons (.int .i64 a) (.cons (.int .i64 b) (.cons (.int .i64 c) (.cons (.int .i64 d) .nl))))] R = (R ((AV.int IntKind.i64 b).cons ((AV.int IntKind.i64 d).cons AV.nl)).agg []) := by kernel_rfl
theorem ok96 : ConOk Try.prog (96, con96) := by
  intro args t h hp
  simp only [con96] at h
  split at h
  · cases h
    refine fn_ok envR0 tab_ok mixed Try.func96 (by kernel_rfl) (by kernel_rfl) ?_
    rw [f96_run]
    exact ⟨rfl, rfl⟩
  · cases h
def con105 : List AV → Option Tells
  | [.agg (.cons (.int .i64 a) (.cons (.int .i64 b) .nl)), .agg (.cons (.int .i64 c) (.cons (.int .i64 d) .nl))] => some ⟨[], ((AV.int IntKind.i64 a).cons ((AV.int IntKind.i64 c).cons ((AV.int IntKind.i64 b).cons ((AV.int IntKind.i64 d).cons AV.nl)))).agg, []⟩
  | _ => none
theorem f105_run (R : AV → List Ob → Prop) (a b c d : Int) : fnA tab eR0 Try.f105 (bodyOf Try.f105) [.agg (.cons (.int .i64 a) (.cons (.int .i64 b) .nl)), .agg (.cons (.int .i64 c) (.cons (.int .i64 d) .nl))] R = (R ((AV.int IntKind.i64 a).cons ((AV.int IntKind.i64 c).cons ((AV.int IntKind.i64 b).cons ((AV.int IntKind.i64 d).cons AV.nl)))).agg []) := by kernel_rfl
theorem ok105 : ConOk Try.prog (105, con105) := by
  intro args t h hp
  simp only [con105] at h
  split at h
  · cases h
    refine fn_ok envR0 tab_ok mixed Try.func105 (by kernel_rfl) (by kernel_rfl) ?_
    rw [f105_run]
    exact ⟨rfl, rfl⟩
  · cases h
def con95 : List AV → Option Tells
  | [.agg (.cons (.int .i64 a) (.cons (.int .i64 b) .nl))] => some ⟨[], AV.int IntKind.i64 (IntKind.i64.wrap (b - a)), []⟩
  | _ => none
theorem f95_run (R : AV → List Ob → Prop) (a b : Int) : fnA tab eR0 Try.f95 (bodyOf Try.f95) [.agg (.cons (.int .i64 a) (.cons (.int .i64 b) .nl))] R = (R (AV.int IntKind.i64 (IntKind.i64.wrap (b - a))) []) := by kernel_rfl
theorem ok95 : ConOk Try.prog (95, con95) := by
  intro args t h hp
  simp only [con95] at h
  split at h
  · cases h
    refine fn_ok envR0 tab_ok mixed Try.func95 (by kernel_rfl) (by kernel_rfl) ?_
    rw [f95_run]
    exact ⟨rfl, rfl⟩
  · cases h
def con98 : List AV → Option Tells
  | [.agg (.cons (.int .i64 a) (.cons (.int .i64 b) .nl)), .agg (.cons (.int .i64 c) (.cons (.int .i64 d) .nl))] => some ⟨[], .agg (.cons (.int .i64 (max a c)) (.cons (.int .i64 (min b d)) .nl)), []⟩
  | _ => none
theorem f98_run (R : AV → List Ob → Prop) (a b c d : Int) : fnA tab eR0 Try.f98 (bodyOf Try.f98) [.agg (.cons (.int .i64 a) (.cons (.int .i64 b) .nl)), .agg (.cons (.int .i64 c) (.cons (.int .i64 d) .nl))] R = (R ((AV.int IntKind.i64 (if c > a then c else a)).cons ((AV.int IntKind.i64 (if d < b then d else b)).cons AV.nl)).agg []) := by kernel_rfl
theorem ok98 : ConOk Try.prog (98, con98) := by
  intro args t h hp
  change con98 args = some t at h
  unfold con98 at h
  split at h
  · rename_i a b c d
    cases h
    refine fn_ok envR0 tab_ok mixed Try.func98 (by kernel_rfl) (by kernel_rfl) ?_
    rw [f98_run]
    try dsimp only
    rw [show (if c > a then c else a) = max a c by omega, show (if d < b then d else b) = min b d by omega]
    exact ⟨rfl, rfl⟩
  · cases h
def consR1 : Cons := (59, con59) :: (96, con96) :: (105, con105) :: (95, con95) :: (98, con98) :: consR0
def twosR1 : Cons2 := twosR0
def pansR1 : Cons3 := pansR0
def itersR1 : Cons4 := itersR0
abbrev eR1 : Env := envOf4 consR1 twosR1 pansR1 itersR1
theorem allconsR1 : ∀ c ∈ consR1, ConOk Try.prog c := all_cons ok59 (all_cons ok96 (all_cons ok105 (all_cons ok95 (all_cons ok98 allconsR0))))
theorem alltwosR1 : ∀ c ∈ twosR1, ConOk2 Try.prog c := alltwosR0
theorem allpansR1 : ∀ c ∈ pansR1, ConOk3 Try.prog c := allpansR0
theorem allitersR1 : ∀ c ∈ itersR1, ConOk4 Try.prog c := allitersR0
theorem envR1 : EnvOk Try.prog eR1 := envOf4_ok _ _ _ _ allconsR1 alltwosR1 allpansR1 allitersR1
def con97 : List AV → Option Tells
  | [.fn (.func 98) .nl .nl, .agg (.cons (.int .i64 a) (.cons (.int .i64 b) (.cons (.int .i64 c) (.cons (.int .i64 d) .nl)))), .agg (.cons (.int .i64 x) (.cons (.int .i64 y) (.cons (.int .i64 z) (.cons (.int .i64 t) .nl))))] => some ⟨[], ((AV.int IntKind.i64 (max a x)).cons ((AV.int IntKind.i64 (max b y)).cons ((AV.int IntKind.i64 (min c z)).cons ((AV.int IntKind.i64 (min d t)).cons AV.nl)))).agg, []⟩
  | _ => none
theorem f97_run (R : AV → List Ob → Prop) (a b c d x y z t : Int) : fnA tab eR1 Try.f97 (bodyOf Try.f97) [.fn (.func 98) .nl .nl, .agg (.cons (.int .i64 a) (.cons (.int .i64 b) (.cons (.int .i64 c) (.cons (.int .i64 d) .nl)))), .agg (.cons (.int .i64 x) (.cons (.int .i64 y) (.cons (.int .i64 z) (.cons (.int .i64 t) .nl))))] R = (R ((AV.int IntKind.i64 (max a x)).cons ((AV.int IntKind.i64 (max b y)).cons ((AV.int IntKind.i64 (min c z)).cons ((AV.int IntKind.i64 (min d t)).cons AV.nl)))).agg []) := by kernel_rfl
theorem ok97 : ConOk Try.prog (97, con97) := by
  intro args t h hp
  simp only [con97] at h
  split at h
  · cases h
    refine fn_ok envR1 tab_ok mixed Try.func97 (by kernel_rfl) (by kernel_rfl) ?_
    rw [f97_run]
    exact ⟨rfl, rfl⟩
  · cases h
def consR2 : Cons := (97, con97) :: consR1
def twosR2 : Cons2 := twosR1
def pansR2 : Cons3 := pansR1
def itersR2 : Cons4 := itersR1
abbrev eR2 : Env := envOf4 consR2 twosR2 pansR2 itersR2
theorem allconsR2 : ∀ c ∈ consR2, ConOk Try.prog c := all_cons ok97 allconsR1
theorem alltwosR2 : ∀ c ∈ twosR2, ConOk2 Try.prog c := alltwosR1
theorem allpansR2 : ∀ c ∈ pansR2, ConOk3 Try.prog c := allpansR1
theorem allitersR2 : ∀ c ∈ itersR2, ConOk4 Try.prog c := allitersR1
theorem envR2 : EnvOk Try.prog eR2 := envOf4_ok _ _ _ _ allconsR2 alltwosR2 allpansR2 allitersR2
def con71 : List AV → Option Tells
  | [.agg (.cons (.int .i64 a) (.cons (.int .i64 b) (.cons (.int .i64 c) (.cons (.int .i64 d) .nl)))), .agg (.cons (.int .i64 x) (.cons (.int .i64 y) (.cons (.int .i64 z) (.cons (.int .i64 t) .nl))))] => some ⟨[], ((AV.int IntKind.i64 (max a x)).cons ((AV.int IntKind.i64 (max b y)).cons ((AV.int IntKind.i64 (min c z)).cons ((AV.int IntKind.i64 (min d t)).cons AV.nl)))).agg, []⟩
  | _ => none
theorem f71_run (R : AV → List Ob → Prop) (a b c d x y z t : Int) : fnA tab eR2 Try.f71 (bodyOf Try.f71) [.agg (.cons (.int .i64 a) (.cons (.int .i64 b) (.cons (.int .i64 c) (.cons (.int .i64 d) .nl)))), .agg (.cons (.int .i64 x) (.cons (.int .i64 y) (.cons (.int .i64 z) (.cons (.int .i64 t) .nl))))] R = (R ((AV.int IntKind.i64 (max a x)).cons ((AV.int IntKind.i64 (max b y)).cons ((AV.int IntKind.i64 (min c z)).cons ((AV.int IntKind.i64 (min d t)).cons AV.nl)))).agg []) := by kernel_rfl
theorem ok71 : ConOk Try.prog (71, con71) := by
  intro args t h hp
  simp only [con71] at h
  split at h
  · cases h
    refine fn_ok envR2 tab_ok mixed Try.func71 (by kernel_rfl) (by kernel_rfl) ?_
    rw [f71_run]
    exact ⟨rfl, rfl⟩
  · cases h
def fullW (a b c d : Int) : Bool := decide (0 < IntKind.wrap .i64 (c - a)) && decide (0 < IntKind.wrap .i64 (d - b))
def con70 : List AV → Option Tells
  | [.agg (.cons (.int .i64 a) (.cons (.int .i64 b) (.cons (.int .i64 c) (.cons (.int .i64 d) .nl))))] => some ⟨[], .bool (fullW a b c d), []⟩
  | _ => none
theorem f70_run (R : AV → List Ob → Prop) (a b c d : Int) : fnA tab eR1 Try.f70 (bodyOf Try.f70) [.agg (.cons (.int .i64 a) (.cons (.int .i64 b) (.cons (.int .i64 c) (.cons (.int .i64 d) .nl))))] R = (bif decide (IntKind.i64.wrap (c - a) > 0) then R (AV.bool (decide (IntKind.i64.wrap (d - b) > 0))) [] else R (AV.bool false) []) := by kernel_rfl
theorem ok70 : ConOk Try.prog (70, con70) := by
  intro args t h hp
  change con70 args = some t at h
  unfold con70 at h
  split at h
  · rename_i a b c d
    cases h
    refine fn_ok envR1 tab_ok mixed Try.func70 (by kernel_rfl) (by kernel_rfl) ?_
    rw [f70_run]
    try dsimp only
    unfold fullW
    refine dec_split (fun h => ?_) (fun h => ?_)
    · rw [decide_eq_true (by omega : 0 < IntKind.wrap .i64 (c - a))]; exact ⟨by simp, rfl⟩
    · rw [decide_eq_false (by omega : ¬ 0 < IntKind.wrap .i64 (c - a))]; exact ⟨rfl, rfl⟩
  · cases h
def consR3 : Cons := (71, con71) :: (70, con70) :: consR2
def twosR3 : Cons2 := twosR2
def pansR3 : Cons3 := pansR2
def itersR3 : Cons4 := itersR2
abbrev eR3 : Env := envOf4 consR3 twosR3 pansR3 itersR3
theorem allconsR3 : ∀ c ∈ consR3, ConOk Try.prog c := all_cons ok71 (all_cons ok70 allconsR2)
theorem alltwosR3 : ∀ c ∈ twosR3, ConOk2 Try.prog c := alltwosR2
theorem allpansR3 : ∀ c ∈ pansR3, ConOk3 Try.prog c := allpansR2
theorem allitersR3 : ∀ c ∈ itersR3, ConOk4 Try.prog c := allitersR2
theorem envR3 : EnvOk Try.prog eR3 := envOf4_ok _ _ _ _ allconsR3 alltwosR3 allpansR3 allitersR3
def con60 : List AV → Option Tells
  | [.agg (.cons (.int .i64 a) (.cons (.int .i64 b) (.cons (.int .i64 c) (.cons (.int .i64 d) .nl)))), .agg (.cons (.int .i64 x) (.cons (.int .i64 y) (.cons (.int .i64 z) (.cons (.int .i64 t) .nl))))] => some ⟨[], AV.bool (fullW (max a x) (max b y) (min c z) (min d t)), []⟩
  | _ => none
theorem f60_run (R : AV → List Ob → Prop) (a b c d x y z t : Int) : fnA tab eR3 Try.f60 (bodyOf Try.f60) [.agg (.cons (.int .i64 a) (.cons (.int .i64 b) (.cons (.int .i64 c) (.cons (.int .i64 d) .nl)))), .agg (.cons (.int .i64 x) (.cons (.int .i64 y) (.cons (.int .i64 z) (.cons (.int .i64 t) .nl))))] R = (R (AV.bool (fullW (max a x) (max b y) (min c z) (min d t))) []) := by kernel_rfl
theorem ok60 : ConOk Try.prog (60, con60) := by
  intro args t h hp
  simp only [con60] at h
  split at h
  · cases h
    refine fn_ok envR3 tab_ok mixed Try.func60 (by kernel_rfl) (by kernel_rfl) ?_
    rw [f60_run]
    exact ⟨rfl, rfl⟩
  · cases h
end
end Go.Proofs.Ytkpjcmiijlpcaaa.W
