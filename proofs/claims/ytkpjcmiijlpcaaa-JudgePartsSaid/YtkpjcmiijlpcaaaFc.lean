/- The functions of layer 6 (tree), and what they come to: what a tree tells. -/
import Derived.Test.YtkpjcmiijlpcaaaWa
import Derived.Test.YtkpjcmiijlpcaaaEa
import Derived.Test.YtkpjcmiijlpcaaaFa
import Derived.Test.YtkpjcmiijlpcaaaFb
import Derived.Test.YtkpjcmiijlpcaaaAwAE
import Derived.Test.YtkpjcmiijlpcaaaAwAF
import Derived.Test.YtkpjcmiijlpcaaaAwZ
import Derived.KernelRfl
set_option linter.unusedVariables false
set_option linter.unusedSimpArgs false
namespace Go.Proofs.Ytkpjcmiijlpcaaa.W
open Go Go.Proofs Go.Proofs.Ytkpjcmiijlpcaaa.Aw
noncomputable section
def ndAt (xs : List TN.den) (i : Int) : Nd := bif (bif !decide (i < 0) then decide (i ≥ (xs.length : Int)) else true) then (zBx, -1, -1, -1, []) else xs.getD i.toNat zNd
def consH0 : Cons := []
def twosH0 : Cons2 := []
def pansH0 : Cons3 := []
def itersH0 : Cons4 := []
abbrev eH0 : Env := envOf4 consH0 twosH0 pansH0 itersH0
theorem allconsH0 : ∀ c ∈ consH0, ConOk Try.prog c := all_nil
theorem alltwosH0 : ∀ c ∈ twosH0, ConOk2 Try.prog c := all_nil
theorem allpansH0 : ∀ c ∈ pansH0, ConOk3 Try.prog c := all_nil
theorem allitersH0 : ∀ c ∈ itersH0, ConOk4 Try.prog c := all_nil
theorem envH0 : EnvOk Try.prog eH0 := envOf4_ok _ _ _ _ allconsH0 alltwosH0 allpansH0 allitersH0
def con38 : List AV → Option Tells
  | [.lptr 94 (.list 98 (.pair (.pair (.int .i64) (.pair (.int .i64) (.pair (.int .i64) (.pair (.int .i64) (.pair (.int .i64) (.pair (.int .i64) (.pair (.pair (.int .i64) (.pair (.int .i64) (.pair (.int .i64) (.int .i64)))) (.pair (.int .i64) (.pair (.int .i64) (.pair (.int .i64) (.int .i64))))))))))) (.pair (.int .i64) (.pair (.int .i64) (.pair (.int .i64) (.list 3 (.int .i64))))))) [xs] 0 0] => some ⟨[], AV.int IntKind.i64 (↑(List.length ([xs].getD 0 [])) : Int), []⟩
  | _ => none
theorem f38_run (R : AV → List Ob → Prop) (xs : List TN.den) : fnA tab eH0 Try.f38 (bodyOf Try.f38) [.lptr 94 (.list 98 TN) [xs] 0 0] R = (R (AV.int IntKind.i64 (↑(List.length ([xs].getD 0 [])) : Int)) []) := by kernel_rfl
theorem ok38 : ConOk Try.prog (38, con38) := by
  intro args t h hp
  simp only [con38] at h
  split at h
  · cases h
    refine fn_ok envH0 tab_ok mixed Try.func38 (by kernel_rfl) (by kernel_rfl) ?_
    rw [f38_run]
    exact ⟨rfl, rfl⟩
  · cases h
def con49 : List AV → Option Tells
  | [.lptr 94 (.list 98 (.pair (.pair (.int .i64) (.pair (.int .i64) (.pair (.int .i64) (.pair (.int .i64) (.pair (.int .i64) (.pair (.int .i64) (.pair (.pair (.int .i64) (.pair (.int .i64) (.pair (.int .i64) (.int .i64)))) (.pair (.int .i64) (.pair (.int .i64) (.pair (.int .i64) (.int .i64))))))))))) (.pair (.int .i64) (.pair (.int .i64) (.pair (.int .i64) (.list 3 (.int .i64))))))) [xs] 0 0, .int .i64 i] => some ⟨[], .agg (.cons (.int .i64 ((ndAt xs i).1.1)) (.cons (.int .i64 ((ndAt xs i).1.2.1)) (.cons (.int .i64 ((ndAt xs i).1.2.2.1)) (.cons (.int .i64 ((ndAt xs i).1.2.2.2.1)) (.cons (.int .i64 ((ndAt xs i).1.2.2.2.2.1)) (.cons (.int .i64 ((ndAt xs i).1.2.2.2.2.2.1)) (.cons (.int .i64 ((ndAt xs i).1.2.2.2.2.2.2.1.1)) (.cons (.int .i64 ((ndAt xs i).1.2.2.2.2.2.2.1.2.1)) (.cons (.int .i64 ((ndAt xs i).1.2.2.2.2.2.2.1.2.2.1)) (.cons (.int .i64 ((ndAt xs i).1.2.2.2.2.2.2.1.2.2.2)) (.cons (.int .i64 ((ndAt xs i).1.2.2.2.2.2.2.2.1)) (.cons (.int .i64 ((ndAt xs i).1.2.2.2.2.2.2.2.2.1)) (.cons (.int .i64 ((ndAt xs i).1.2.2.2.2.2.2.2.2.2.1)) (.cons (.int .i64 ((ndAt xs i).1.2.2.2.2.2.2.2.2.2.2)) (.cons (.int .i64 ((ndAt xs i).2.1)) (.cons (.int .i64 ((ndAt xs i).2.2.1)) (.cons (.int .i64 ((ndAt xs i).2.2.2.1)) (.cons (.list 3 (.int .i64) (ndAt xs i).2.2.2.2) .nl)))))))))))))))))), []⟩
  | _ => none
set_option maxHeartbeats 2000000 in
theorem f49_run (R : AV → List Ob → Prop) (xs : List TN.den) (i : Int) : fnA tab eH0 Try.f49 (bodyOf Try.f49) [.lptr 94 (.list 98 TN) [xs] 0 0, .int .i64 i] R = (bif !decide (i < 0) then bif decide (i ≥ (↑(List.length ([xs].getD 0 [])) : Int)) then R ((AV.int IntKind.i64 0).cons ((AV.int IntKind.i64 0).cons ((AV.int IntKind.i64 0).cons ((AV.int IntKind.i64 0).cons ((AV.int IntKind.i64 0).cons ((AV.int IntKind.i64 0).cons ((AV.int IntKind.i64 0).cons ((AV.int IntKind.i64 0).cons ((AV.int IntKind.i64 0).cons ((AV.int IntKind.i64 0).cons ((AV.int IntKind.i64 0).cons ((AV.int IntKind.i64 0).cons ((AV.int IntKind.i64 0).cons ((AV.int IntKind.i64 0).cons ((AV.int IntKind.i64 (-1)).cons ((AV.int IntKind.i64 (-1)).cons ((AV.int IntKind.i64 (-1)).cons ((AV.nils 3 (Ty.int IntKind.i64)).cons AV.nl)))))))))))))))))).agg [] else 0 ≤ i ∧ i < (↑(List.length ([xs].getD 0 [])) : Int) ∧ R ((AV.int IntKind.i64 (List.getD ([xs].getD 0 []) i.toNat ((0, 0, 0, 0, 0, 0, (0, 0, 0, 0), 0, 0, 0, 0), 0, 0, 0, [])).fst.fst).cons ((AV.int IntKind.i64 (List.getD ([xs].getD 0 []) i.toNat ((0, 0, 0, 0, 0, 0, (0, 0, 0, 0), 0, 0, 0, 0), 0, 0, 0, [])).fst.snd.fst).cons ((AV.int IntKind.i64 (List.getD ([xs].getD 0 []) i.toNat ((0, 0, 0, 0, 0, 0, (0, 0, 0, 0), 0, 0, 0, 0), 0, 0, 0, [])).fst.snd.snd.fst).cons ((AV.int IntKind.i64 (List.getD ([xs].getD 0 []) i.toNat ((0, 0, 0, 0, 0, 0, (0, 0, 0, 0), 0, 0, 0, 0), 0, 0, 0, [])).fst.snd.snd.snd.fst).cons ((AV.int IntKind.i64 (List.getD ([xs].getD 0 []) i.toNat ((0, 0, 0, 0, 0, 0, (0, 0, 0, 0), 0, 0, 0, 0), 0, 0, 0, [])).fst.snd.snd.snd.snd.fst).cons ((AV.int IntKind.i64 (List.getD ([xs].getD 0 []) i.toNat ((0, 0, 0, 0, 0, 0, (0, 0, 0, 0), 0, 0, 0, 0), 0, 0, 0, [])).fst.snd.snd.snd.snd.snd.fst).cons ((AV.int IntKind.i64 (List.getD ([xs].getD 0 []) i.toNat ((0, 0, 0, 0, 0, 0, (0, 0, 0, 0), 0, 0, 0, 0), 0, 0, 0, [])).fst.snd.snd.snd.snd.snd.snd.fst.fst).cons ((AV.int IntKind.i64 (List.getD ([xs].getD 0 []) i.toNat ((0, 0, 0, 0, 0, 0, (0, 0, 0, 0), 0, 0, 0, 0), 0, 0, 0, [])).fst.snd.snd.snd.snd.snd.snd.fst.snd.fst).cons ((AV.int IntKind.i64 (List.getD ([xs].getD 0 []) i.toNat ((0, 0, 0, 0, 0, 0, (0, 0, 0, 0), 0, 0, 0, 0), 0, 0, 0, [])).fst.snd.snd.snd.snd.snd.snd.fst.snd.snd.fst).cons ((AV.int IntKind.i64 (List.getD ([xs].getD 0 []) i.toNat ((0, 0, 0, 0, 0, 0, (0, 0, 0, 0), 0, 0, 0, 0), 0, 0, 0, [])).fst.snd.snd.snd.snd.snd.snd.fst.snd.snd.snd).cons ((AV.int IntKind.i64 (List.getD ([xs].getD 0 []) i.toNat ((0, 0, 0, 0, 0, 0, (0, 0, 0, 0), 0, 0, 0, 0), 0, 0, 0, [])).fst.snd.snd.snd.snd.snd.snd.snd.fst).cons ((AV.int IntKind.i64 (List.getD ([xs].getD 0 []) i.toNat ((0, 0, 0, 0, 0, 0, (0, 0, 0, 0), 0, 0, 0, 0), 0, 0, 0, [])).fst.snd.snd.snd.snd.snd.snd.snd.snd.fst).cons ((AV.int IntKind.i64 (List.getD ([xs].getD 0 []) i.toNat ((0, 0, 0, 0, 0, 0, (0, 0, 0, 0), 0, 0, 0, 0), 0, 0, 0, [])).fst.snd.snd.snd.snd.snd.snd.snd.snd.snd.fst).cons ((AV.int IntKind.i64 (List.getD ([xs].getD 0 []) i.toNat ((0, 0, 0, 0, 0, 0, (0, 0, 0, 0), 0, 0, 0, 0), 0, 0, 0, [])).fst.snd.snd.snd.snd.snd.snd.snd.snd.snd.snd).cons ((AV.int IntKind.i64 (List.getD ([xs].getD 0 []) i.toNat ((0, 0, 0, 0, 0, 0, (0, 0, 0, 0), 0, 0, 0, 0), 0, 0, 0, [])).snd.fst).cons ((AV.int IntKind.i64 (List.getD ([xs].getD 0 []) i.toNat ((0, 0, 0, 0, 0, 0, (0, 0, 0, 0), 0, 0, 0, 0), 0, 0, 0, [])).snd.snd.fst).cons ((AV.int IntKind.i64 (List.getD ([xs].getD 0 []) i.toNat ((0, 0, 0, 0, 0, 0, (0, 0, 0, 0), 0, 0, 0, 0), 0, 0, 0, [])).snd.snd.snd.fst).cons ((AV.list 3 (Ty.int IntKind.i64) (List.getD ([xs].getD 0 []) i.toNat ((0, 0, 0, 0, 0, 0, (0, 0, 0, 0), 0, 0, 0, 0), 0, 0, 0, [])).snd.snd.snd.snd).cons AV.nl)))))))))))))))))).agg [] else R ((AV.int IntKind.i64 0).cons ((AV.int IntKind.i64 0).cons ((AV.int IntKind.i64 0).cons ((AV.int IntKind.i64 0).cons ((AV.int IntKind.i64 0).cons ((AV.int IntKind.i64 0).cons ((AV.int IntKind.i64 0).cons ((AV.int IntKind.i64 0).cons ((AV.int IntKind.i64 0).cons ((AV.int IntKind.i64 0).cons ((AV.int IntKind.i64 0).cons ((AV.int IntKind.i64 0).cons ((AV.int IntKind.i64 0).cons ((AV.int IntKind.i64 0).cons ((AV.int IntKind.i64 (-1)).cons ((AV.int IntKind.i64 (-1)).cons ((AV.int IntKind.i64 (-1)).cons ((AV.nils 3 (Ty.int IntKind.i64)).cons AV.nl)))))))))))))))))).agg []) := by kernel_rfl
theorem ok49 : ConOk Try.prog (49, con49) := by
  intro args t h hp
  simp only [con49] at h
  split at h
  · rename_i xs i
    change List TN.den at xs
    cases h
    refine fn_okF envH0 tab_ok mixed Try.func49 (by kernel_rfl) (by kernel_rfl) ?_
    rw [f49_run]
    try dsimp only
    have hz : ∀ xs' : List TN.den, [xs'].getD 0 [] = xs' := fun _ => rfl
    refine cond_split (fun h0 => ?_) (fun h0 => ?_)
    · have h0' : ¬ i < 0 := by simpa using h0
      refine dec_split (fun h1 => ?_) (fun h1 => ?_)
      · have e : ndAt xs i = (zBx, -1, -1, -1, []) := by
          unfold ndAt
          rw [h0, cond_true, show decide (i ≥ (xs.length : Int)) = true from decide_eq_true h1]
          rfl
        rw [e]
        refine .agg _ _ ?_
        repeat' first | exact .nils _ _ | exact .nl | exact .keep _ rfl rfl | refine .cons _ _ _ _ ?_ ?_
      · have e : ndAt xs i = xs.getD i.toNat zNd := by
          unfold ndAt
          rw [h0, cond_true, show decide (i ≥ (xs.length : Int)) = false from decide_eq_false h1]
          rfl
        rw [e]
        refine ⟨by omega, by change i < (xs.length : Int); change ¬ i ≥ (xs.length : Int) at h1; omega, .agg _ _ ?_⟩
        repeat' first | exact .nl | exact .keep _ rfl rfl | refine .cons _ _ _ _ ?_ ?_
    · have e : ndAt xs i = (zBx, -1, -1, -1, []) := by
        unfold ndAt
        rw [h0]
        rfl
      rw [e]
      refine .agg _ _ ?_
      repeat' first | exact .nils _ _ | exact .nl | exact .keep _ rfl rfl | refine .cons _ _ _ _ ?_ ?_
  · cases h
def consH1 : Cons := (49, con49) :: (38, con38) :: consH0
def twosH1 : Cons2 := twosH0
def pansH1 : Cons3 := pansH0
def itersH1 : Cons4 := itersH0
abbrev eH1 : Env := envOf4 consH1 twosH1 pansH1 itersH1
theorem allconsH1 : ∀ c ∈ consH1, ConOk Try.prog c := all_cons ok49 (all_cons ok38 allconsH0)
theorem alltwosH1 : ∀ c ∈ twosH1, ConOk2 Try.prog c := alltwosH0
theorem allpansH1 : ∀ c ∈ pansH1, ConOk3 Try.prog c := allpansH0
theorem allitersH1 : ∀ c ∈ itersH1, ConOk4 Try.prog c := allitersH0
theorem envH1 : EnvOk Try.prog eH1 := envOf4_ok _ _ _ _ allconsH1 alltwosH1 allpansH1 allitersH1
def con30 : List AV → Option Tells
  | [.lptr 94 (.list 98 (.pair (.pair (.int .i64) (.pair (.int .i64) (.pair (.int .i64) (.pair (.int .i64) (.pair (.int .i64) (.pair (.int .i64) (.pair (.pair (.int .i64) (.pair (.int .i64) (.pair (.int .i64) (.int .i64)))) (.pair (.int .i64) (.pair (.int .i64) (.pair (.int .i64) (.int .i64))))))))))) (.pair (.int .i64) (.pair (.int .i64) (.pair (.int .i64) (.list 3 (.int .i64))))))) [xs] 0 0, .int .i64 i] => some ⟨[], ((AV.int IntKind.i64 (ndAt xs i).fst.fst).cons ((AV.int IntKind.i64 (ndAt xs i).fst.snd.fst).cons ((AV.int IntKind.i64 (ndAt xs i).fst.snd.snd.fst).cons ((AV.int IntKind.i64 (ndAt xs i).fst.snd.snd.snd.fst).cons ((AV.int IntKind.i64 (ndAt xs i).fst.snd.snd.snd.snd.fst).cons ((AV.int IntKind.i64 (ndAt xs i).fst.snd.snd.snd.snd.snd.fst).cons ((AV.int IntKind.i64 (ndAt xs i).fst.snd.snd.snd.snd.snd.snd.fst.fst).cons ((AV.int IntKind.i64 (ndAt xs i).fst.snd.snd.snd.snd.snd.snd.fst.snd.fst).cons ((AV.int IntKind.i64 (ndAt xs i).fst.snd.snd.snd.snd.snd.snd.fst.snd.snd.fst).cons ((AV.int IntKind.i64 (ndAt xs i).fst.snd.snd.snd.snd.snd.snd.fst.snd.snd.snd).cons ((AV.int IntKind.i64 (ndAt xs i).fst.snd.snd.snd.snd.snd.snd.snd.fst).cons ((AV.int IntKind.i64 (ndAt xs i).fst.snd.snd.snd.snd.snd.snd.snd.snd.fst).cons ((AV.int IntKind.i64 (ndAt xs i).fst.snd.snd.snd.snd.snd.snd.snd.snd.snd.fst).cons ((AV.int IntKind.i64 (ndAt xs i).fst.snd.snd.snd.snd.snd.snd.snd.snd.snd.snd).cons AV.nl)))))))))))))).agg, []⟩
  | _ => none
theorem f30_run (R : AV → List Ob → Prop) (xs : List TN.den) (i : Int) : fnA tab eH1 Try.f30 (bodyOf Try.f30) [.lptr 94 (.list 98 TN) [xs] 0 0, .int .i64 i] R = (R ((AV.int IntKind.i64 (ndAt xs i).fst.fst).cons ((AV.int IntKind.i64 (ndAt xs i).fst.snd.fst).cons ((AV.int IntKind.i64 (ndAt xs i).fst.snd.snd.fst).cons ((AV.int IntKind.i64 (ndAt xs i).fst.snd.snd.snd.fst).cons ((AV.int IntKind.i64 (ndAt xs i).fst.snd.snd.snd.snd.fst).cons ((AV.int IntKind.i64 (ndAt xs i).fst.snd.snd.snd.snd.snd.fst).cons ((AV.int IntKind.i64 (ndAt xs i).fst.snd.snd.snd.snd.snd.snd.fst.fst).cons ((AV.int IntKind.i64 (ndAt xs i).fst.snd.snd.snd.snd.snd.snd.fst.snd.fst).cons ((AV.int IntKind.i64 (ndAt xs i).fst.snd.snd.snd.snd.snd.snd.fst.snd.snd.fst).cons ((AV.int IntKind.i64 (ndAt xs i).fst.snd.snd.snd.snd.snd.snd.fst.snd.snd.snd).cons ((AV.int IntKind.i64 (ndAt xs i).fst.snd.snd.snd.snd.snd.snd.snd.fst).cons ((AV.int IntKind.i64 (ndAt xs i).fst.snd.snd.snd.snd.snd.snd.snd.snd.fst).cons ((AV.int IntKind.i64 (ndAt xs i).fst.snd.snd.snd.snd.snd.snd.snd.snd.snd.fst).cons ((AV.int IntKind.i64 (ndAt xs i).fst.snd.snd.snd.snd.snd.snd.snd.snd.snd.snd).cons AV.nl)))))))))))))).agg []) := by kernel_rfl
theorem ok30 : ConOk Try.prog (30, con30) := by
  intro args t h hp
  simp only [con30] at h
  split at h
  · cases h
    refine fn_ok envH1 tab_ok mixed Try.func30 (by kernel_rfl) (by kernel_rfl) ?_
    rw [f30_run]
    exact ⟨rfl, rfl⟩
  · cases h
def con58 : List AV → Option Tells
  | [.lptr 94 (.list 98 (.pair (.pair (.int .i64) (.pair (.int .i64) (.pair (.int .i64) (.pair (.int .i64) (.pair (.int .i64) (.pair (.int .i64) (.pair (.pair (.int .i64) (.pair (.int .i64) (.pair (.int .i64) (.int .i64)))) (.pair (.int .i64) (.pair (.int .i64) (.pair (.int .i64) (.int .i64))))))))))) (.pair (.int .i64) (.pair (.int .i64) (.pair (.int .i64) (.list 3 (.int .i64))))))) [xs] 0 0, .int .i64 i] => some ⟨[], AV.int IntKind.i64 (ndAt xs i).snd.fst, []⟩
  | _ => none
theorem f58_run (R : AV → List Ob → Prop) (xs : List TN.den) (i : Int) : fnA tab eH1 Try.f58 (bodyOf Try.f58) [.lptr 94 (.list 98 TN) [xs] 0 0, .int .i64 i] R = (R (AV.int IntKind.i64 (ndAt xs i).snd.fst) []) := by kernel_rfl
theorem ok58 : ConOk Try.prog (58, con58) := by
  intro args t h hp
  simp only [con58] at h
  split at h
  · cases h
    refine fn_ok envH1 tab_ok mixed Try.func58 (by kernel_rfl) (by kernel_rfl) ?_
    rw [f58_run]
    exact ⟨rfl, rfl⟩
  · cases h
def con41 : List AV → Option Tells
  | [.lptr 94 (.list 98 (.pair (.pair (.int .i64) (.pair (.int .i64) (.pair (.int .i64) (.pair (.int .i64) (.pair (.int .i64) (.pair (.int .i64) (.pair (.pair (.int .i64) (.pair (.int .i64) (.pair (.int .i64) (.int .i64)))) (.pair (.int .i64) (.pair (.int .i64) (.pair (.int .i64) (.int .i64))))))))))) (.pair (.int .i64) (.pair (.int .i64) (.pair (.int .i64) (.list 3 (.int .i64))))))) [xs] 0 0, .int .i64 i] => some ⟨[], AV.int IntKind.i64 (ndAt xs i).snd.snd.snd.fst, []⟩
  | _ => none
theorem f41_run (R : AV → List Ob → Prop) (xs : List TN.den) (i : Int) : fnA tab eH1 Try.f41 (bodyOf Try.f41) [.lptr 94 (.list 98 TN) [xs] 0 0, .int .i64 i] R = (R (AV.int IntKind.i64 (ndAt xs i).snd.snd.snd.fst) []) := by kernel_rfl
theorem ok41 : ConOk Try.prog (41, con41) := by
  intro args t h hp
  simp only [con41] at h
  split at h
  · cases h
    refine fn_ok envH1 tab_ok mixed Try.func41 (by kernel_rfl) (by kernel_rfl) ?_
    rw [f41_run]
    exact ⟨rfl, rfl⟩
  · cases h
def con65 : List AV → Option Tells
  | [.list 3 (.int .i64) xs] => some ⟨[xs.length ≤ 65536], .list 3 (.int .i64) xs, []⟩
  | _ => none
theorem f65_run (R : AV → List Ob → Prop) (xs : List (Ty.int .i64).den) : fnA tab eH1 Try.f65 (bodyOf Try.f65) [.list 3 (.int .i64) xs] R = ((xs = [] → R (AV.row 0) [Ob.row 3 (Ty.int IntKind.i64) []]) ∧ (0 + xs.length) * 8 ≤ 140737488355328 ∧ R (AV.row 0) [Ob.row 3 (Ty.int IntKind.i64) xs]) := by kernel_rfl
theorem ok65 : ConOk Try.prog (65, con65) := by
  intro args t h hp
  simp only [con65] at h
  split at h
  · rename_i xs
    change List (Ty.int .i64).den at xs
    cases h
    refine fn_okF envH1 tab_ok mixed Try.func65 (by kernel_rfl) (by kernel_rfl) ?_
    rw [f65_run]
    try dsimp only
    have hx := hp (xs.length ≤ 65536) (by simp)
    exact ⟨fun e => by rw [e]; exact .row 0 _ _ _ rfl, by omega, .row 0 _ _ _ rfl⟩
  · cases h
def consH2 : Cons := (65, con65) :: (30, con30) :: (58, con58) :: (41, con41) :: consH1
def twosH2 : Cons2 := twosH1
def pansH2 : Cons3 := pansH1
def itersH2 : Cons4 := itersH1
abbrev eH2 : Env := envOf4 consH2 twosH2 pansH2 itersH2
theorem allconsH2 : ∀ c ∈ consH2, ConOk Try.prog c := all_cons ok65 (all_cons ok30 (all_cons ok58 (all_cons ok41 allconsH1)))
theorem alltwosH2 : ∀ c ∈ twosH2, ConOk2 Try.prog c := alltwosH1
theorem allpansH2 : ∀ c ∈ pansH2, ConOk3 Try.prog c := allpansH1
theorem allitersH2 : ∀ c ∈ itersH2, ConOk4 Try.prog c := allitersH1
theorem envH2 : EnvOk Try.prog eH2 := envOf4_ok _ _ _ _ allconsH2 alltwosH2 allpansH2 allitersH2
def con51 : List AV → Option Tells
  | [.lptr 94 (.list 98 (.pair (.pair (.int .i64) (.pair (.int .i64) (.pair (.int .i64) (.pair (.int .i64) (.pair (.int .i64) (.pair (.int .i64) (.pair (.pair (.int .i64) (.pair (.int .i64) (.pair (.int .i64) (.int .i64)))) (.pair (.int .i64) (.pair (.int .i64) (.pair (.int .i64) (.int .i64))))))))))) (.pair (.int .i64) (.pair (.int .i64) (.pair (.int .i64) (.list 3 (.int .i64))))))) [xs] 0 0, .int .i64 i] => some ⟨[(ndAt xs i).2.2.2.2.length ≤ 65536], .list 3 (.int .i64) (ndAt xs i).2.2.2.2, []⟩
  | _ => none
theorem f51_run (R : AV → List Ob → Prop) (xs : List TN.den) (i : Int) : fnA tab eH2 Try.f51 (bodyOf Try.f51) [.lptr 94 (.list 98 TN) [xs] 0 0, .int .i64 i] R = ((ndAt xs i).snd.snd.snd.snd.length ≤ 65536 ∧ R (AV.list 3 (Ty.int IntKind.i64) (ndAt xs i).snd.snd.snd.snd) []) := by kernel_rfl
theorem ok51 : ConOk Try.prog (51, con51) := by
  intro args t h hp
  simp only [con51] at h
  split at h
  · rename_i xs i
    change List TN.den at xs
    cases h
    refine fn_ok envH2 tab_ok mixed Try.func51 (by kernel_rfl) (by kernel_rfl) ?_
    rw [f51_run]
    try dsimp only
    have hx := hp ((ndAt xs i).2.2.2.2.length ≤ 65536) (by simp)
    exact ⟨hx, rfl, rfl⟩
  · cases h
end
end Go.Proofs.Ytkpjcmiijlpcaaa.W
