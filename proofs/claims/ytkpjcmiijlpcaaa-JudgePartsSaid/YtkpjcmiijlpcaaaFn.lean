/- Layer 20's statements: where they begin, and JudgeParts. -/
import Derived.Test.YtkpjcmiijlpcaaaWa
import Derived.Test.YtkpjcmiijlpcaaaEa
import Derived.Test.YtkpjcmiijlpcaaaFa
import Derived.Test.YtkpjcmiijlpcaaaFb
import Derived.Test.YtkpjcmiijlpcaaaFc
import Derived.Test.YtkpjcmiijlpcaaaFd
import Derived.Test.YtkpjcmiijlpcaaaFe
import Derived.Test.YtkpjcmiijlpcaaaFf
import Derived.Test.YtkpjcmiijlpcaaaFg
import Derived.Test.YtkpjcmiijlpcaaaFh
import Derived.Test.YtkpjcmiijlpcaaaFi
import Derived.Test.YtkpjcmiijlpcaaaFj
import Derived.Test.YtkpjcmiijlpcaaaFk
import Derived.Test.YtkpjcmiijlpcaaaPa
import Derived.Test.YtkpjcmiijlpcaaaPb
import Derived.Test.YtkpjcmiijlpcaaaPc
import Derived.Test.YtkpjcmiijlpcaaaFl
import Derived.Test.YtkpjcmiijlpcaaaPd
import Derived.Test.YtkpjcmiijlpcaaaFm
import Derived.Test.YtkpjcmiijlpcaaaAwZ
import Derived.KernelRfl
set_option linter.unusedVariables false
set_option linter.unusedSimpArgs false
namespace Go.Proofs.Ytkpjcmiijlpcaaa.W
open Go Go.Proofs Go.Proofs.Ytkpjcmiijlpcaaa.Aw
noncomputable section
def consC0 : Cons := (10, con10) :: (23, con23) :: []
def twosC0 : Cons2 := (25, con25_b) :: (26, con26) :: []
def pansC0 : Cons3 := []
def itersC0 : Cons4 := []
abbrev eC0 : Env := envOf4 consC0 twosC0 pansC0 itersC0
theorem allconsC0 : ∀ c ∈ consC0, ConOk Try.prog c := all_cons ok10 (all_cons ok23 all_nil)
theorem alltwosC0 : ∀ c ∈ twosC0, ConOk2 Try.prog c := all_cons ok25_b (all_cons ok26 all_nil)
theorem allpansC0 : ∀ c ∈ pansC0, ConOk3 Try.prog c := all_nil
theorem allitersC0 : ∀ c ∈ itersC0, ConOk4 Try.prog c := all_nil
theorem envC0 : EnvOk Try.prog eC0 := envOf4_ok _ _ _ _ allconsC0 alltwosC0 allpansC0 allitersC0
def con24 : List AV → Option Tells
  | [.list 35 (.pair (.int .i64) (.pair (.int .i64) (.pair (.int .i64) (.pair (.int .i64) (.pair (.int .i64) (.pair (.int .i64) (.pair (.pair (.int .i64) (.pair (.int .i64) (.pair (.int .i64) (.int .i64)))) (.pair (.int .i64) (.pair (.int .i64) (.pair (.int .i64) (.int .i64))))))))))) l] => some ⟨[l.length ≤ 4096, 0 < l.length, (buildN l 0 ([], [])).isSome = true], .lptr 94 (.list 98 TN) [((buildN l 0 ([], [])).getD [])] 0 0, []⟩
  | _ => none
theorem f24_run (R : AV → List Ob → Prop) (l : List TB.den) : fnA tab eC0 Try.f24 (bodyOf Try.f24) [.list 35 TB l] R = (l.length ≤ 4096 ∧ l.length ≤ 65536 ∧ 0 < l.length ∧ (buildN l 0 ([], [])).isSome = true ∧ R (AV.lptr 94 (Ty.list 98 TN) [(buildN l 0 ([], [])).getD []] 0 0) []) := by kernel_rfl
theorem ok24 : ConOk Try.prog (24, con24) := by
  intro args t h hp
  change con24 args = some t at h
  unfold con24 at h
  split at h
  · rename_i l
    change List TB.den at l
    cases h
    refine fn_ok envC0 tab_ok mixed Try.func24 (by kernel_rfl) (by kernel_rfl) ?_
    rw [f24_run]
    try dsimp only
    have hx := hp (l.length ≤ 4096) (by simp)
    have hl0 := hp (0 < l.length) (by simp)
    have hb := hp ((buildN l 0 ([], [])).isSome = true) (by simp)
    exact ⟨hx, by omega, hl0, hb, rfl, rfl⟩
  · cases h
abbrev ex0 : Bx := (0, 3, 0, 0, 9, 0, (0, 0, 0, 0), 0, 0, 0, 0)
abbrev ex1 : Bx := (1, 2, 1, 0, 1, 1, (0, 0, 0, 0), 0, 0, 0, 0)
abbrev exT : List Nd := [(ex0, -1, 3, 0, [1, 2]), (ex1, 0, 2, 0, []), (ex1, 0, 3, 0, [])]
theorem chkN_of {xs : List Nd} {b : Bx} {p : Int} (h : OkBx b.1 b.2.1 b.2.2.1 b.2.2.2.1 b.2.2.2.2.1 b.2.2.2.2.2.1 b.2.2.2.2.2.2.1.1 b.2.2.2.2.2.2.1.2.1 b.2.2.2.2.2.2.1.2.2.1 b.2.2.2.2.2.2.1.2.2.2 b.2.2.2.2.2.2.2.1 b.2.2.2.2.2.2.2.2.1 b.2.2.2.2.2.2.2.2.2.1 b.2.2.2.2.2.2.2.2.2.2) :
    chkN xs b p = bif (xs.length : Int) == 65536 then 3 else bif (bif (xs.length : Int) == 0 then rootB b.1 b.2.1 b.2.2.2.1 b.2.2.2.2.1 b.2.2.2.2.2.2.1.1 b.2.2.2.2.2.2.1.2.1 b.2.2.2.2.2.2.1.2.2.1 b.2.2.2.2.2.2.1.2.2.2 else bif decide (p ≥ 0) then fitsB (xs.getD p.toNat zNd).1.2.1 b.2.1 else false) then 0 else 12 := by
  unfold chkN chkT
  rw [chkB_ok h]
  rfl
theorem ex_ok0 : OkBx 0 3 0 0 9 0 0 0 0 0 0 0 0 0 := ⟨by decide, by decide, by decide, by decide, by decide, by decide, by decide, by decide⟩
theorem ex_ok1 : OkBx 1 2 1 0 1 1 0 0 0 0 0 0 0 0 := ⟨by decide, by decide, by decide, by decide, by decide, by decide, by decide, by decide⟩
theorem ex_build : buildN [ex0, ex1, ex1] 0 ([], []) = some exT := by
  have h0 : chkN [] ex0 (parN [] ex0.1) = 0 := by rw [chkN_of ex_ok0]; rfl
  have h1 : chkN (stepN ([], []) ex0 0).1 ex1 (parN (stepN ([], []) ex0 0).2 ex1.1) = 0 := by rw [chkN_of ex_ok1]; rfl
  have h2 : chkN (stepN (stepN ([], []) ex0 0) ex1 1).1 ex1 (parN (stepN (stepN ([], []) ex0 0) ex1 1).2 ex1.1) = 0 := by rw [chkN_of ex_ok1]; rfl
  simp only [buildN]
  rw [h0]
  simp only [bne_self_eq_false, cond_false]
  rw [h1]
  simp only [bne_self_eq_false, cond_false]
  rw [h2]
  rfl
theorem ex_tr : TrOk exT := trOk_of ex_build (by decide) (by decide)
theorem ex_mem : memL exT 0 = [1, 2] := by
  obtain ⟨_, _, t⟩ := tree_of ex_build (by decide)
  rw [(ctx_walk t (by decide) 0).2]
  rfl
theorem ex_judge : judgeL exT [(0, 0, 9, 0), (0, 0, 1, 1), (0, 0, 1, 1)] [] = [(2, 2, 1)] := by
  have f1 : fltL exT (ndAt exT 1).2.2.2.1 1 = [] := by
    show (memL exT 0).filter _ = _
    rw [ex_mem]; rfl
  have f2 : fltL exT (ndAt exT 2).2.2.2.1 2 = [1] := by
    show (memL exT 0).filter _ = _
    rw [ex_mem]; rfl
  have g1 : flL exT [(0, 0, 9, 0), (0, 0, 1, 1), (0, 0, 1, 1)] 1 [] = [] := by
    unfold flL; rw [f1]; rfl
  have g2 : flL exT [(0, 0, 9, 0), (0, 0, 1, 1), (0, 0, 1, 1)] 2 [] = [(2, 2, 1)] := by
    unfold flL; rw [f2]; rfl
  show flL exT [(0, 0, 9, 0), (0, 0, 1, 1), (0, 0, 1, 1)] 2 (flL exT [(0, 0, 9, 0), (0, 0, 1, 1), (0, 0, 1, 1)] 1 []) = _
  rw [g1, g2]
def con14 : List AV → Option Tells
  | [] => some ⟨[], .bool true, []⟩
  | _ => none
set_option maxHeartbeats 2000000 in
theorem f14_run (R : AV → List Ob → Prop) : fnA tab eC0 Try.f14 (bodyOf Try.f14) [] R = (Nat.le 3 65536 ∧ Nat.le 1 3 ∧ (buildN [(0, 3, 0, 0, 9, 0, (0, 0, 0, 0), 0, 0, 0, 0), (1, 2, 1, 0, 1, 1, (0, 0, 0, 0), 0, 0, 0, 0), (1, 2, 1, 0, 1, 1, (0, 0, 0, 0), 0, 0, 0, 0)] 0 ([], [])).isSome = true ∧ TrOk ((buildN [(0, 3, 0, 0, 9, 0, (0, 0, 0, 0), 0, 0, 0, 0), (1, 2, 1, 0, 1, 1, (0, 0, 0, 0), 0, 0, 0, 0), (1, 2, 1, 0, 1, 1, (0, 0, 0, 0), 0, 0, 0, 0)] 0 ([], [])).getD []) ∧ ((buildN [(0, 3, 0, 0, 9, 0, (0, 0, 0, 0), 0, 0, 0, 0), (1, 2, 1, 0, 1, 1, (0, 0, 0, 0), 0, 0, 0, 0), (1, 2, 1, 0, 1, 1, (0, 0, 0, 0), 0, 0, 0, 0)] 0 ([], [])).getD []).length = 3 ∧ 0 < ((buildN [(0, 3, 0, 0, 9, 0, (0, 0, 0, 0), 0, 0, 0, 0), (1, 2, 1, 0, 1, 1, (0, 0, 0, 0), 0, 0, 0, 0), (1, 2, 1, 0, 1, 1, (0, 0, 0, 0), 0, 0, 0, 0)] 0 ([], [])).getD []).length ∧ Nat.le 0 65536 ∧ (judgeL ((buildN [(0, 3, 0, 0, 9, 0, (0, 0, 0, 0), 0, 0, 0, 0), (1, 2, 1, 0, 1, 1, (0, 0, 0, 0), 0, 0, 0, 0), (1, 2, 1, 0, 1, 1, (0, 0, 0, 0), 0, 0, 0, 0)] 0 ([], [])).getD []) [(0, 0, 9, 0), (0, 0, 1, 1), (0, 0, 1, 1)] []).length ≤ 1 ∧ bif (↑(blk (judgeL ((buildN [(0, 3, 0, 0, 9, 0, (0, 0, 0, 0), 0, 0, 0, 0), (1, 2, 1, 0, 1, 1, (0, 0, 0, 0), 0, 0, 0, 0), (1, 2, 1, 0, 1, 1, (0, 0, 0, 0), 0, 0, 0, 0)] 0 ([], [])).getD []) [(0, 0, 9, 0), (0, 0, 1, 1), (0, 0, 1, 1)] [])).length : Int) == 1 then (0 : Int) ≤ 0 ∧ 0 < (↑(blk (judgeL ((buildN [(0, 3, 0, 0, 9, 0, (0, 0, 0, 0), 0, 0, 0, 0), (1, 2, 1, 0, 1, 1, (0, 0, 0, 0), 0, 0, 0, 0), (1, 2, 1, 0, 1, 1, (0, 0, 0, 0), 0, 0, 0, 0)] 0 ([], [])).getD []) [(0, 0, 9, 0), (0, 0, 1, 1), (0, 0, 1, 1)] [])).length : Int) ∧ R (AV.bool (((blk (judgeL ((buildN [(0, 3, 0, 0, 9, 0, (0, 0, 0, 0), 0, 0, 0, 0), (1, 2, 1, 0, 1, 1, (0, 0, 0, 0), 0, 0, 0, 0), (1, 2, 1, 0, 1, 1, (0, 0, 0, 0), 0, 0, 0, 0)] 0 ([], [])).getD []) [(0, 0, 9, 0), (0, 0, 1, 1), (0, 0, 1, 1)] [])).getD 0 (0, 0, 0)).fst == 2 && (((blk (judgeL ((buildN [(0, 3, 0, 0, 9, 0, (0, 0, 0, 0), 0, 0, 0, 0), (1, 2, 1, 0, 1, 1, (0, 0, 0, 0), 0, 0, 0, 0), (1, 2, 1, 0, 1, 1, (0, 0, 0, 0), 0, 0, 0, 0)] 0 ([], [])).getD []) [(0, 0, 9, 0), (0, 0, 1, 1), (0, 0, 1, 1)] [])).getD 0 (0, 0, 0)).snd.fst == 2 && (((blk (judgeL ((buildN [(0, 3, 0, 0, 9, 0, (0, 0, 0, 0), 0, 0, 0, 0), (1, 2, 1, 0, 1, 1, (0, 0, 0, 0), 0, 0, 0, 0), (1, 2, 1, 0, 1, 1, (0, 0, 0, 0), 0, 0, 0, 0)] 0 ([], [])).getD []) [(0, 0, 9, 0), (0, 0, 1, 1), (0, 0, 1, 1)] [])).getD 0 (0, 0, 0)).snd.snd == 1 && true)))) [] else R (AV.bool false) []) := by kernel_rfl
theorem ok14 : ConOk Try.prog (14, con14) := by
  intro args t h hp
  change con14 args = some t at h
  unfold con14 at h
  split at h
  · skip
    cases h
    refine fn_ok envC0 tab_ok mixed Try.func14 (by kernel_rfl) (by kernel_rfl) ?_
    rw [f14_run]
    try dsimp only
    rw [blk_eq]
    have hz : (buildN [(0, 3, 0, 0, 9, 0, (0, 0, 0, 0), 0, 0, 0, 0), (1, 2, 1, 0, 1, 1, (0, 0, 0, 0), 0, 0, 0, 0), (1, 2, 1, 0, 1, 1, (0, 0, 0, 0), 0, 0, 0, 0)] 0 ([], [])) = some exT := ex_build
    rw [hz]
    refine ⟨(show (3 : Nat) ≤ 65536 by decide), (show (1 : Nat) ≤ 3 by decide), rfl, ex_tr, rfl, by decide, (show (0 : Nat) ≤ 65536 by decide), ?_, ?_⟩
    · show (judgeL exT [(0, 0, 9, 0), (0, 0, 1, 1), (0, 0, 1, 1)] []).length ≤ 1
      rw [ex_judge]; decide
    · show bif ((judgeL exT [(0, 0, 9, 0), (0, 0, 1, 1), (0, 0, 1, 1)] []).length : Int) == 1 then _ else _
      have e : (some exT).getD [] = exT := rfl
      rw [e, ex_judge]
      exact ⟨by decide, by decide, rfl, rfl⟩
  · cases h
def consC1 : Cons := (24, con24) :: (14, con14) :: consC0
def twosC1 : Cons2 := twosC0
def pansC1 : Cons3 := pansC0
def itersC1 : Cons4 := itersC0
abbrev eC1 : Env := envOf4 consC1 twosC1 pansC1 itersC1
theorem allconsC1 : ∀ c ∈ consC1, ConOk Try.prog c := all_cons ok24 (all_cons ok14 allconsC0)
theorem alltwosC1 : ∀ c ∈ twosC1, ConOk2 Try.prog c := alltwosC0
theorem allpansC1 : ∀ c ∈ pansC1, ConOk3 Try.prog c := allpansC0
theorem allitersC1 : ∀ c ∈ itersC1, ConOk4 Try.prog c := allitersC0
theorem envC1 : EnvOk Try.prog eC1 := envOf4_ok _ _ _ _ allconsC1 alltwosC1 allpansC1 allitersC1
def badN (n : Int) : Bool := bif !decide (n > 288230376151711744) then decide (n < -288230376151711744) else true
def badR (r : R4) : Bool := badN r.1 || (badN r.2.1 || (badN r.2.2.1 || badN r.2.2.2))
def begBad (l : List Bx) (gs : List R4) (gl : List Ln) (most : Int) : Bool := (chk6 l).2 != 0 || (decide ((l.length : Int) > most) || (decide ((gs.length : Int) > 2 * most) || (decide ((gl.length : Int) > 2 * most) || (gs.any badR || gl.any fun x => badR x.2.1))))
theorem badR_split {K3 K1 : Prop} (r : R4) (h1 : badR r = true → K1) (h3 : badR r = false → K3) : bif !decide (r.1 > 288230376151711744) then bif decide (r.1 < -288230376151711744) then K1 else bif !decide (r.2.1 > 288230376151711744) then bif decide (r.2.1 < -288230376151711744) then K1 else bif !decide (r.2.2.1 > 288230376151711744) then bif decide (r.2.2.1 < -288230376151711744) then K1 else bif !decide (r.2.2.2 > 288230376151711744) then bif decide (r.2.2.2 < -288230376151711744) then K1 else K3 else K1 else K1 else K1 else K1 := by
  unfold badR badN at h1 h3
  generalize decide (r.1 > 288230376151711744) = a1 at *
  generalize decide (r.1 < -288230376151711744) = a2 at *
  generalize decide (r.2.1 > 288230376151711744) = b1 at *
  generalize decide (r.2.1 < -288230376151711744) = b2 at *
  generalize decide (r.2.2.1 > 288230376151711744) = c1 at *
  generalize decide (r.2.2.1 < -288230376151711744) = c2 at *
  generalize decide (r.2.2.2 > 288230376151711744) = d1 at *
  generalize decide (r.2.2.2 < -288230376151711744) = d2 at *
  cases a1 <;> cases a2 <;> cases b1 <;> cases b2 <;> cases c1 <;> cases c2 <;> cases d1 <;> cases d2 <;> first | exact h1 rfl | exact h3 rfl
theorem any_next {α : Type} {l : List α} {p : α → Bool} {d : α} {k : Nat} (hk : k < l.length) (h : (l.take k).any p = false) (hp : p (l.getD k d) = false) : (l.take (k + 1)).any p = false := by
  rw [take_next l k hk, List.any_append, h, ← getD_nat' l d k hk]
  show (false || (p (l.getD k d) || false)) = false
  rw [hp]; rfl
theorem any_here {α : Type} {l : List α} {p : α → Bool} {d : α} {k : Nat} (hk : k < l.length) (hp : p (l.getD k d) = true) : l.any p = true := by
  rw [getD_nat' l d k hk] at hp
  exact List.any_eq_true.2 ⟨_, List.getElem_mem hk, hp⟩
def con13_n : List AV → Option Tells
  | [.list 35 (.pair (.int .i64) (.pair (.int .i64) (.pair (.int .i64) (.pair (.int .i64) (.pair (.int .i64) (.pair (.int .i64) (.pair (.pair (.int .i64) (.pair (.int .i64) (.pair (.int .i64) (.int .i64)))) (.pair (.int .i64) (.pair (.int .i64) (.pair (.int .i64) (.int .i64))))))))))) l, .agg (.cons (.list 40 (.pair (.int .i64) (.pair (.int .i64) (.pair (.int .i64) (.int .i64)))) gs) (.cons (.list 67 (.pair (.int .i64) (.pair (.pair (.int .i64) (.pair (.int .i64) (.pair (.int .i64) (.int .i64)))) (.pair (.int .i64) (.int .i64)))) gl) .nl)), .int .i64 most] => some ⟨[begBad l gs gl most = true, 0 ≤ most, most ≤ 1000], .nilp, []⟩
  | _ => none
def f13_n_cuts : List Nat := [4]
def f13_n_j1 (R : AV → List Ob → Prop) (l : List TB.den) (gs : List T4.den) (gl : List TL.den) (most : Int)  : Prop := Meet (fun s => codeA tab (eC1.cut f13_n_cuts) (subC [1, 0, 1, 1] (bodyOf Try.f13)) [4, 4, 0, 6] s (seqQ tab (eC1.cut f13_n_cuts) (subC [1, 1] (bodyOf Try.f13)) [6] (endA tab Try.f13 R))) { slots := [AV.list 35 TB l, AV.undef, AV.undef, AV.undef, AV.ptr 0 0, AV.undef, AV.nilp] ++ List.replicate 38 AV.undef ++ [AV.bool (decide ((↑gl.length : Int) > IntKind.i64.wrap (2 * most)))] ++ List.replicate 41 AV.undef, obs := [Ob.cells 46 [AV.list 40 T4 gs, AV.list 67 ((Ty.int IntKind.i64).pair (T4.pair ((Ty.int IntKind.i64).pair (Ty.int IntKind.i64)))) gl]] }
def f13_n_live2 : List Nat := [49, 48, 47, 49, 49, 4, 0, 6]
def f13_n_head2 (l : List TB.den) (gs : List T4.den) (gl : List TL.den) (s49 : Int) : St := { slots := [AV.list 35 TB l, AV.undef, AV.undef, AV.undef, AV.ptr 0 0, AV.undef, AV.nilp] ++ List.replicate 40 AV.undef ++ [AV.list 40 T4 gs, AV.int IntKind.i64 (↑gs.length : Int), AV.int IntKind.i64 s49] ++ List.replicate 37 AV.undef, obs := [Ob.cells 46 [AV.list 40 T4 gs, AV.list 67 ((Ty.int IntKind.i64).pair (T4.pair ((Ty.int IntKind.i64).pair (Ty.int IntKind.i64)))) gl]] }
def f13_n_q2 (R : AV → List Ob → Prop) : Ex → St → Prop := blockA 0 (seqQ tab (eC1.cut f13_n_cuts) (subC [1, 1, 1] (bodyOf Try.f13)) [6] (endA tab Try.f13 R))
def f13_n_loop2 (R : AV → List Ob → Prop) (l : List TB.den) (gs : List T4.den) (gl : List TL.den) (s49 : Int) : Prop := loopT f13_n_live2 (codeA tab (eC1.cut f13_n_cuts) (subC [1, 1, 0, 1, 0, 0] (bodyOf Try.f13)) f13_n_live2) (f13_n_head2 l gs gl s49) (f13_n_q2 R)
def f13_n_live3 : List Nat := [54, 53, 54, 54, 49, 49, 48, 47, 49, 49, 4, 0, 6]
def f13_n_head3 (l : List TB.den) (gs : List T4.den) (gl : List TL.den) (s49 : Int) : St := { slots := [AV.list 35 TB l, AV.undef, AV.undef, AV.undef, AV.ptr 0 0, AV.undef, AV.nilp] ++ List.replicate 40 AV.undef ++ [AV.list 40 T4 gs, AV.int IntKind.i64 (↑gs.length : Int), AV.int IntKind.i64 s49, AV.undef, AV.undef, AV.undef, ((AV.int IntKind.i64 (gs.getD s49.toNat (0, 0, 0, 0)).fst).cons ((AV.int IntKind.i64 (gs.getD s49.toNat (0, 0, 0, 0)).snd.fst).cons ((AV.int IntKind.i64 (gs.getD s49.toNat (0, 0, 0, 0)).snd.snd.fst).cons ((AV.int IntKind.i64 (gs.getD s49.toNat (0, 0, 0, 0)).snd.snd.snd).cons AV.nl)))).agg, AV.int IntKind.i64 0] ++ List.replicate 32 AV.undef, obs := [Ob.cells 46 [AV.list 40 T4 gs, AV.list 67 ((Ty.int IntKind.i64).pair (T4.pair ((Ty.int IntKind.i64).pair (Ty.int IntKind.i64)))) gl]] }
def f13_n_q3 (R : AV → List Ob → Prop) (J : St → Prop) : Ex → St → Prop := blockA 2 (blockA 1 (seqQ tab (eC1.cut f13_n_cuts) (subC [1, 1, 0, 1, 0, 0, 1, 1, 1] (bodyOf Try.f13)) [49, 48, 47, 49, 49, 4, 0, 6] (thenA (fun s => J (St.tidy f13_n_live2 s)) (blockA 0 (seqQ tab (eC1.cut f13_n_cuts) (subC [1, 1, 1] (bodyOf Try.f13)) [6] (endA tab Try.f13 R))))))
def f13_n_loop3 (R : AV → List Ob → Prop) (l : List TB.den) (gs : List T4.den) (gl : List TL.den) (s49 : Int) (J : St → Prop) : Prop := loopT f13_n_live3 (codeA tab (eC1.cut f13_n_cuts) (subC [1, 1, 0, 1, 0, 0, 1, 1, 0, 0, 1, 1, 0, 0] (bodyOf Try.f13)) f13_n_live3) (f13_n_head3 l gs gl s49) (f13_n_q3 R J)
theorem f13_n_eq3 (R : AV → List Ob → Prop) (l : List TB.den) (gs : List T4.den) (gl : List TL.den) (s49 : Int) (J : St → Prop) : loopU f13_n_live3 (codeA tab (eC1.cut f13_n_cuts) (subC [1, 1, 0, 1, 0, 0, 1, 1, 0, 0, 1, 1, 0, 0] (bodyOf Try.f13)) f13_n_live3) 40 (f13_n_head3 l gs gl s49) (f13_n_q3 R J) = (bif !decide ((gs.getD s49.toNat (0, 0, 0, 0)).fst > 288230376151711744) then bif decide ((gs.getD s49.toNat (0, 0, 0, 0)).fst < -288230376151711744) then R AV.nilp [] else bif !decide ((gs.getD s49.toNat (0, 0, 0, 0)).snd.fst > 288230376151711744) then bif decide ((gs.getD s49.toNat (0, 0, 0, 0)).snd.fst < -288230376151711744) then R AV.nilp [] else bif !decide ((gs.getD s49.toNat (0, 0, 0, 0)).snd.snd.fst > 288230376151711744) then bif decide ((gs.getD s49.toNat (0, 0, 0, 0)).snd.snd.fst < -288230376151711744) then R AV.nilp [] else bif !decide ((gs.getD s49.toNat (0, 0, 0, 0)).snd.snd.snd > 288230376151711744) then bif decide ((gs.getD s49.toNat (0, 0, 0, 0)).snd.snd.snd < -288230376151711744) then R AV.nilp [] else J (f13_n_head2 l gs gl (IntKind.i64.wrap (s49 + 1))) else R AV.nilp [] else R AV.nilp [] else R AV.nilp [] else R AV.nilp []) := by kernel_rfl
set_option maxHeartbeats 2000000 in
theorem f13_n_rule3 (R : AV → List Ob → Prop) (l : List TB.den) (gs : List T4.den) (gl : List TL.den) (s49 : Int) (J : St → Prop) (h : bif !decide ((gs.getD s49.toNat (0, 0, 0, 0)).fst > 288230376151711744) then bif decide ((gs.getD s49.toNat (0, 0, 0, 0)).fst < -288230376151711744) then R AV.nilp [] else bif !decide ((gs.getD s49.toNat (0, 0, 0, 0)).snd.fst > 288230376151711744) then bif decide ((gs.getD s49.toNat (0, 0, 0, 0)).snd.fst < -288230376151711744) then R AV.nilp [] else bif !decide ((gs.getD s49.toNat (0, 0, 0, 0)).snd.snd.fst > 288230376151711744) then bif decide ((gs.getD s49.toNat (0, 0, 0, 0)).snd.snd.fst < -288230376151711744) then R AV.nilp [] else bif !decide ((gs.getD s49.toNat (0, 0, 0, 0)).snd.snd.snd > 288230376151711744) then bif decide ((gs.getD s49.toNat (0, 0, 0, 0)).snd.snd.snd < -288230376151711744) then R AV.nilp [] else J (f13_n_head2 l gs gl (IntKind.i64.wrap (s49 + 1))) else R AV.nilp [] else R AV.nilp [] else R AV.nilp [] else R AV.nilp []) : f13_n_loop3 R l gs gl s49 J := loop_rounds 40 (Eq.mpr (f13_n_eq3 R l gs gl s49 J) h)
def f13_n_live4 : List Nat := [68, 67, 66, 68, 68, 0, 6]
def f13_n_head4 (l : List TB.den) (gl : List TL.den) (s68' : Int) : St := { slots := [AV.list 35 TB l] ++ List.replicate 5 AV.undef ++ [AV.nilp] ++ List.replicate 59 AV.undef ++ [AV.list 67 ((Ty.int IntKind.i64).pair (T4.pair ((Ty.int IntKind.i64).pair (Ty.int IntKind.i64)))) gl, AV.int IntKind.i64 (↑gl.length : Int), AV.int IntKind.i64 s68'] ++ List.replicate 18 AV.undef, obs := [] }
def f13_n_q4 (R : AV → List Ob → Prop) : Ex → St → Prop := blockA 4 (seqQ tab (eC1.cut f13_n_cuts) (subC [1, 1, 1, 1] (bodyOf Try.f13)) [6] (endA tab Try.f13 R))
def f13_n_loop4 (R : AV → List Ob → Prop) (l : List TB.den) (gl : List TL.den) (s68' : Int) : Prop := loopT f13_n_live4 (codeA tab (eC1.cut f13_n_cuts) (subC [1, 1, 1, 0, 1, 0, 0] (bodyOf Try.f13)) f13_n_live4) (f13_n_head4 l gl s68') (f13_n_q4 R)
def f13_n_live5 : List Nat := [74, 73, 74, 74, 68, 68, 67, 66, 68, 68, 0, 6]
def f13_n_head5 (l : List TB.den) (gl : List TL.den) (s68' : Int) : St := { slots := [AV.list 35 TB l] ++ List.replicate 5 AV.undef ++ [AV.nilp] ++ List.replicate 59 AV.undef ++ [AV.list 67 ((Ty.int IntKind.i64).pair (T4.pair ((Ty.int IntKind.i64).pair (Ty.int IntKind.i64)))) gl, AV.int IntKind.i64 (↑gl.length : Int), AV.int IntKind.i64 s68'] ++ List.replicate 4 AV.undef ++ [((AV.int IntKind.i64 (gl.getD s68'.toNat (0, (0, 0, 0, 0), 0, 0)).snd.fst.fst).cons ((AV.int IntKind.i64 (gl.getD s68'.toNat (0, (0, 0, 0, 0), 0, 0)).snd.fst.snd.fst).cons ((AV.int IntKind.i64 (gl.getD s68'.toNat (0, (0, 0, 0, 0), 0, 0)).snd.fst.snd.snd.fst).cons ((AV.int IntKind.i64 (gl.getD s68'.toNat (0, (0, 0, 0, 0), 0, 0)).snd.fst.snd.snd.snd).cons AV.nl)))).agg, AV.int IntKind.i64 0] ++ List.replicate 12 AV.undef, obs := [] }
def f13_n_q5 (R : AV → List Ob → Prop) (J1 : St → Prop) : Ex → St → Prop := blockA 6 (blockA 5 (seqQ tab (eC1.cut f13_n_cuts) (subC [1, 1, 1, 0, 1, 0, 0, 1, 1, 1] (bodyOf Try.f13)) [68, 67, 66, 68, 68, 0, 6] (thenA (fun s => J1 (St.tidy f13_n_live4 s)) (blockA 4 (seqQ tab (eC1.cut f13_n_cuts) (subC [1, 1, 1, 1] (bodyOf Try.f13)) [6] (endA tab Try.f13 R))))))
def f13_n_loop5 (R : AV → List Ob → Prop) (l : List TB.den) (gl : List TL.den) (s68' : Int) (J1 : St → Prop) : Prop := loopT f13_n_live5 (codeA tab (eC1.cut f13_n_cuts) (subC [1, 1, 1, 0, 1, 0, 0, 1, 1, 0, 0, 1, 1, 0, 0] (bodyOf Try.f13)) f13_n_live5) (f13_n_head5 l gl s68') (f13_n_q5 R J1)
theorem f13_n_eq5 (R : AV → List Ob → Prop) (l : List TB.den) (gl : List TL.den) (s68' : Int) (J1 : St → Prop) : loopU f13_n_live5 (codeA tab (eC1.cut f13_n_cuts) (subC [1, 1, 1, 0, 1, 0, 0, 1, 1, 0, 0, 1, 1, 0, 0] (bodyOf Try.f13)) f13_n_live5) 40 (f13_n_head5 l gl s68') (f13_n_q5 R J1) = (bif !decide ((gl.getD s68'.toNat (0, (0, 0, 0, 0), 0, 0)).snd.fst.fst > 288230376151711744) then bif decide ((gl.getD s68'.toNat (0, (0, 0, 0, 0), 0, 0)).snd.fst.fst < -288230376151711744) then R AV.nilp [] else bif !decide ((gl.getD s68'.toNat (0, (0, 0, 0, 0), 0, 0)).snd.fst.snd.fst > 288230376151711744) then bif decide ((gl.getD s68'.toNat (0, (0, 0, 0, 0), 0, 0)).snd.fst.snd.fst < -288230376151711744) then R AV.nilp [] else bif !decide ((gl.getD s68'.toNat (0, (0, 0, 0, 0), 0, 0)).snd.fst.snd.snd.fst > 288230376151711744) then bif decide ((gl.getD s68'.toNat (0, (0, 0, 0, 0), 0, 0)).snd.fst.snd.snd.fst < -288230376151711744) then R AV.nilp [] else bif !decide ((gl.getD s68'.toNat (0, (0, 0, 0, 0), 0, 0)).snd.fst.snd.snd.snd > 288230376151711744) then bif decide ((gl.getD s68'.toNat (0, (0, 0, 0, 0), 0, 0)).snd.fst.snd.snd.snd < -288230376151711744) then R AV.nilp [] else J1 (f13_n_head4 l gl (IntKind.i64.wrap (s68' + 1))) else R AV.nilp [] else R AV.nilp [] else R AV.nilp [] else R AV.nilp []) := by kernel_rfl
set_option maxHeartbeats 2000000 in
theorem f13_n_rule5 (R : AV → List Ob → Prop) (l : List TB.den) (gl : List TL.den) (s68' : Int) (J1 : St → Prop) (h : bif !decide ((gl.getD s68'.toNat (0, (0, 0, 0, 0), 0, 0)).snd.fst.fst > 288230376151711744) then bif decide ((gl.getD s68'.toNat (0, (0, 0, 0, 0), 0, 0)).snd.fst.fst < -288230376151711744) then R AV.nilp [] else bif !decide ((gl.getD s68'.toNat (0, (0, 0, 0, 0), 0, 0)).snd.fst.snd.fst > 288230376151711744) then bif decide ((gl.getD s68'.toNat (0, (0, 0, 0, 0), 0, 0)).snd.fst.snd.fst < -288230376151711744) then R AV.nilp [] else bif !decide ((gl.getD s68'.toNat (0, (0, 0, 0, 0), 0, 0)).snd.fst.snd.snd.fst > 288230376151711744) then bif decide ((gl.getD s68'.toNat (0, (0, 0, 0, 0), 0, 0)).snd.fst.snd.snd.fst < -288230376151711744) then R AV.nilp [] else bif !decide ((gl.getD s68'.toNat (0, (0, 0, 0, 0), 0, 0)).snd.fst.snd.snd.snd > 288230376151711744) then bif decide ((gl.getD s68'.toNat (0, (0, 0, 0, 0), 0, 0)).snd.fst.snd.snd.snd < -288230376151711744) then R AV.nilp [] else J1 (f13_n_head4 l gl (IntKind.i64.wrap (s68' + 1))) else R AV.nilp [] else R AV.nilp [] else R AV.nilp [] else R AV.nilp []) : f13_n_loop5 R l gl s68' J1 := loop_rounds 40 (Eq.mpr (f13_n_eq5 R l gl s68' J1) h)
def f13_n_rhs4 (R : AV → List Ob → Prop) (l : List TB.den) (gl : List TL.den) (J1 : St → Prop) (s68' : Int) : Prop := bif decide (s68' < (↑gl.length : Int)) then 0 ≤ s68' ∧ s68' < (↑gl.length : Int) ∧ f13_n_loop5 R l gl s68' J1 else l.length ≤ 4096 ∧ 0 < l.length ∧ (buildN l 0 ([], [])).isSome = true ∧ R (AV.lptr 94 (Ty.list 98 TN) [(buildN l 0 ([], [])).getD []] 0 0) []
theorem f13_n_eq4 (R : AV → List Ob → Prop) (l : List TB.den) (gl : List TL.den) (J1 : St → Prop) (s68' : Int) : codeA tab (eC1.cut f13_n_cuts) (subC [1, 1, 1, 0, 1, 0, 0] (bodyOf Try.f13)) f13_n_live4 (f13_n_head4 l gl s68') (thenA (fun s => J1 (St.tidy f13_n_live4 s)) (f13_n_q4 R)) = f13_n_rhs4 R l gl J1 s68' := by kernel_rfl
set_option maxHeartbeats 2000000 in
theorem f13_n_rule4 (R : AV → List Ob → Prop) (l : List TB.den) (gl : List TL.den) (I : Nat → (Int) → Prop) (n : Nat) (s68' : Int) (h0 : I n s68') (h : ∀ n, ∀ (s68' : Int), I n s68' → f13_n_rhs4 R l gl (fun t => ∃ m, m < n ∧ ∃ (s68' : Int), t = f13_n_head4 l gl s68' ∧ I m s68') s68') : f13_n_loop4 R l gl s68' :=
  loop_intro (fun n t => ∃ (s68' : Int), t = f13_n_head4 l gl s68' ∧ I n s68') n ⟨s68', rfl, h0⟩ (fun n t ht => by obtain ⟨s68', rfl, hI⟩ := ht; exact Eq.mpr (f13_n_eq4 R l gl (fun t => ∃ m, m < n ∧ ∃ (s68' : Int), t = f13_n_head4 l gl s68' ∧ I m s68') s68') (h n s68' hI))
def f13_n_rhs2 (R : AV → List Ob → Prop) (l : List TB.den) (gs : List T4.den) (gl : List TL.den) (J : St → Prop) (s49 : Int) : Prop := bif decide (s49 < (↑gs.length : Int)) then 0 ≤ s49 ∧ s49 < (↑gs.length : Int) ∧ f13_n_loop3 R l gs gl s49 J else f13_n_loop4 R l gl 0
theorem f13_n_eq2 (R : AV → List Ob → Prop) (l : List TB.den) (gs : List T4.den) (gl : List TL.den) (J : St → Prop) (s49 : Int) : codeA tab (eC1.cut f13_n_cuts) (subC [1, 1, 0, 1, 0, 0] (bodyOf Try.f13)) f13_n_live2 (f13_n_head2 l gs gl s49) (thenA (fun s => J (St.tidy f13_n_live2 s)) (f13_n_q2 R)) = f13_n_rhs2 R l gs gl J s49 := by kernel_rfl
set_option maxHeartbeats 2000000 in
theorem f13_n_rule2 (R : AV → List Ob → Prop) (l : List TB.den) (gs : List T4.den) (gl : List TL.den) (I : Nat → (Int) → Prop) (n : Nat) (s49 : Int) (h0 : I n s49) (h : ∀ n, ∀ (s49 : Int), I n s49 → f13_n_rhs2 R l gs gl (fun t => ∃ m, m < n ∧ ∃ (s49 : Int), t = f13_n_head2 l gs gl s49 ∧ I m s49) s49) : f13_n_loop2 R l gs gl s49 :=
  loop_intro (fun n t => ∃ (s49 : Int), t = f13_n_head2 l gs gl s49 ∧ I n s49) n ⟨s49, rfl, h0⟩ (fun n t ht => by obtain ⟨s49, rfl, hI⟩ := ht; exact Eq.mpr (f13_n_eq2 R l gs gl (fun t => ∃ m, m < n ∧ ∃ (s49 : Int), t = f13_n_head2 l gs gl s49 ∧ I m s49) s49) (h n s49 hI))
theorem f13_n_jeq1 (R : AV → List Ob → Prop) (l : List TB.den) (gs : List T4.den) (gl : List TL.den) (most : Int)  : f13_n_j1 R l gs gl most  = (bif decide ((↑gl.length : Int) > IntKind.i64.wrap (2 * most)) then R AV.nilp [] else f13_n_loop2 R l gs gl 0) := (meet_eq _ _).trans (by kernel_rfl)
def f13_n_j6 (R : AV → List Ob → Prop) (l : List TB.den) (gs : List T4.den) (gl : List TL.den)  : Prop := Meet (fun s => codeA tab (eC1.cut f13_n_cuts) (subC [1, 0, 1, 1] (bodyOf Try.f13)) [4, 4, 0, 6] s (seqQ tab (eC1.cut f13_n_cuts) (subC [1, 1] (bodyOf Try.f13)) [6] (endA tab Try.f13 R))) { slots := [AV.list 35 TB l, AV.undef, AV.undef, AV.undef, AV.ptr 0 0, AV.undef, AV.nilp] ++ List.replicate 38 AV.undef ++ [AV.bool true] ++ List.replicate 41 AV.undef, obs := [Ob.cells 46 [AV.list 40 T4 gs, AV.list 67 ((Ty.int IntKind.i64).pair (T4.pair ((Ty.int IntKind.i64).pair (Ty.int IntKind.i64)))) gl]] }
theorem f13_n_jeq6 (R : AV → List Ob → Prop) (l : List TB.den) (gs : List T4.den) (gl : List TL.den)  : f13_n_j6 R l gs gl  = (R AV.nilp []) := (meet_eq _ _).trans (by kernel_rfl)
theorem f13_n_run (R : AV → List Ob → Prop) (l : List TB.den) (gs : List T4.den) (gl : List TL.den) (most : Int) : fnA tab (eC1.cut f13_n_cuts) Try.f13 (bodyOf Try.f13) [.list 35 TB l, .agg (.cons (.list 40 T4 gs) (.cons (.list 67 TL gl) .nl)), .int .i64 most] R = (bif !(blk (chk6 l)).snd != 0 then bif !decide ((↑l.length : Int) > most) then bif !decide ((↑gs.length : Int) > IntKind.i64.wrap (2 * most)) then f13_n_j1 R l gs gl most else f13_n_j6 R l gs gl else f13_n_j6 R l gs gl else f13_n_j6 R l gs gl) := by kernel_rfl
theorem ok13_n : ConOk Try.prog (13, con13_n) := by
  intro args t h hp
  change con13_n args = some t at h
  unfold con13_n at h
  split at h
  · rename_i l gs gl most
    change List TB.den at l
    change List T4.den at gs
    change List TL.den at gl
    cases h
    refine fn_ok (envC1.cut f13_n_cuts) tab_ok mixed Try.func13 (by kernel_rfl) (by kernel_rfl) ?_
    rw [f13_n_run]
    try dsimp only
    have hb := hp (begBad l gs gl most = true) (by simp)
    have hm0 := hp (0 ≤ most) (by simp)
    have hm1 := hp (most ≤ 1000) (by simp)
    clear hp
    unfold begBad at hb
    rw [blk_eq]
    refine cond_split (fun h1 => cond_split (fun h2 => cond_split (fun h3 => ?_) (fun h3 => ?_)) (fun h2 => ?_)) (fun h1 => ?_)
    rotate_left
    · rw [f13_n_jeq6]
      exact ⟨rfl, rfl⟩
    · rw [f13_n_jeq6]
      exact ⟨rfl, rfl⟩
    · rw [f13_n_jeq6]
      exact ⟨rfl, rfl⟩
    have hw2 : IntKind.wrap .i64 (2 * most) = 2 * most := wrap_id _ (by omega)
    rw [Bool.not_eq_true'] at h1 h2 h3
    rw [hw2] at h3
    rw [h1, h2, h3, Bool.false_or, Bool.false_or, Bool.false_or] at hb
    rw [f13_n_jeq1, hw2]
    refine dec_split (fun h4 => ?_) (fun h4 => ?_)
    · exact ⟨rfl, rfl⟩
    rw [decide_eq_false h4, Bool.false_or] at hb
    have e1 : (chk6 l).2 = 0 := bne_zero h1
    have e2 := of_decide_eq_false h2
    have e3 := of_decide_eq_false h3
    refine f13_n_rule2 _ l gs gl (fun n s => ∃ k : Nat, k ≤ gs.length ∧ n = gs.length - k ∧ s = k ∧ (gs.take k).any badR = false) gs.length 0 ⟨0, Nat.zero_le _, rfl, rfl, rfl⟩ ?_
    rintro n s ⟨k, hk, rfl, rfl, ha⟩
    unfold f13_n_rhs2
    refine dec_split (fun hlt => ⟨by omega, hlt, ?_⟩) (fun hlt => ?_)
    · have hlt' : k < gs.length := by omega
      refine f13_n_rule3 _ l gs gl _ _ ?_
      rw [Int.toNat_natCast]
      refine badR_split (gs.getD k (0, 0, 0, 0)) (fun hq => ?_) (fun hq => ?_)
      · exact ⟨rfl, rfl⟩
      · exact ⟨gs.length - (k + 1), by omega, _, rfl, k + 1, by omega, rfl, by rw [wrap_id _ (by omega)]; rfl, any_next hlt' ha hq⟩
    · have hga : gs.any badR = false := by rw [List.take_of_length_le (by omega)] at ha; exact ha
      rw [hga, Bool.false_or] at hb
      refine f13_n_rule4 _ l gl (fun n s => ∃ j : Nat, j ≤ gl.length ∧ n = gl.length - j ∧ s = j ∧ (gl.take j).any (fun x => badR x.2.1) = false) gl.length 0 ⟨0, Nat.zero_le _, rfl, rfl, rfl⟩ ?_
      rintro n s ⟨j, hj, rfl, rfl, hja⟩
      unfold f13_n_rhs4
      refine dec_split (fun hlt => ⟨by omega, hlt, ?_⟩) (fun hlt => ?_)
      · have hlt' : j < gl.length := by omega
        refine f13_n_rule5 _ l gl _ _ ?_
        rw [Int.toNat_natCast]
        refine badR_split (gl.getD j (0, (0, 0, 0, 0), 0, 0)).2.1 (fun hq => ?_) (fun hq => ?_)
        · exact ⟨rfl, rfl⟩
        · exact ⟨gl.length - (j + 1), by omega, _, rfl, j + 1, by omega, rfl, by rw [wrap_id _ (by omega)]; rfl, any_next (p := fun x : Ln => badR x.2.1) hlt' hja hq⟩
      · have hgl : (gl.any fun x => badR x.2.1) = false := by rw [List.take_of_length_le (by omega)] at hja; exact hja
        rw [hgl] at hb; cases hb
  · cases h
end
end Go.Proofs.Ytkpjcmiijlpcaaa.W
