/- JudgeParts: what its function comes to. -/
import Derived.Test.YtkpjcmiijlpcaaaWa
import Derived.Test.YtkpjcmiijlpcaaaEa
import Derived.Test.YtkpjcmiijlpcaaaFa
import Derived.Test.YtkpjcmiijlpcaaaFb
import Derived.Test.YtkpjcmiijlpcaaaFc
import Derived.Test.YtkpjcmiijlpcaaaFd
import Derived.Test.YtkpjcmiijlpcaaaFe
import Derived.Test.YtkpjcmiijlpcaaaFf
import Derived.Test.YtkpjcmiijlpcaaaFg
import Derived.Test.YtkpjcmiijlpcaaaFh
import Derived.Test.YtkpjcmiijlpcaaaFi
import Derived.Test.YtkpjcmiijlpcaaaFj
import Derived.Test.YtkpjcmiijlpcaaaFk
import Derived.Test.YtkpjcmiijlpcaaaPa
import Derived.Test.YtkpjcmiijlpcaaaPb
import Derived.Test.YtkpjcmiijlpcaaaPc
import Derived.Test.YtkpjcmiijlpcaaaFl
import Derived.Test.YtkpjcmiijlpcaaaPd
import Derived.Test.YtkpjcmiijlpcaaaFm
import Derived.Test.YtkpjcmiijlpcaaaFn
import Derived.Test.YtkpjcmiijlpcaaaAwZ
import Derived.KernelRfl
set_option linter.unusedVariables false
set_option linter.unusedSimpArgs false
namespace Go.Proofs.Ytkpjcmiijlpcaaa.W
open Go Go.Proofs Go.Proofs.Ytkpjcmiijlpcaaa.Aw
noncomputable section
def consV0 : Cons := (13, con13_n) :: (14, con14) :: (17, con17) :: (16, con16) :: (18, con18) :: (15, con15) :: (19, con19) :: (20, con20) :: []
def twosV0 : Cons2 := []
def pansV0 : Cons3 := []
def itersV0 : Cons4 := []
abbrev eV0 : Env := envOf4 consV0 twosV0 pansV0 itersV0
theorem allconsV0 : ∀ c ∈ consV0, ConOk Try.prog c := all_cons ok13_n (all_cons ok14 (all_cons ok17 (all_cons ok16 (all_cons ok18 (all_cons ok15 (all_cons ok19 (all_cons ok20 all_nil)))))))
theorem alltwosV0 : ∀ c ∈ twosV0, ConOk2 Try.prog c := all_nil
theorem allpansV0 : ∀ c ∈ pansV0, ConOk3 Try.prog c := all_nil
theorem allitersV0 : ∀ c ∈ itersV0, ConOk4 Try.prog c := all_nil
theorem envV0 : EnvOk Try.prog eV0 := envOf4_ok _ _ _ _ allconsV0 alltwosV0 allpansV0 allitersV0
def con6_n : List AV → Option Tells
  | [.list 35 (.pair (.int .i64) (.pair (.int .i64) (.pair (.int .i64) (.pair (.int .i64) (.pair (.int .i64) (.pair (.int .i64) (.pair (.pair (.int .i64) (.pair (.int .i64) (.pair (.int .i64) (.int .i64)))) (.pair (.int .i64) (.pair (.int .i64) (.pair (.int .i64) (.int .i64))))))))))) l, .int .i64 c, .int .i64 at', .agg (.cons (.int .i64 a1) (.cons (.int .i64 a2) (.cons (.int .i64 a3) (.cons (.int .i64 a4) (.cons (.int .i64 a5) (.cons (.int .i64 a6) (.cons (.int .i64 a7) (.cons (.int .i64 a8) (.cons (.int .i64 a9) (.cons (.int .i64 a10) (.cons (.int .i64 a11) (.cons (.int .i64 a12) (.cons (.int .i64 a13) (.cons (.int .i64 a14) .nl)))))))))))))), .agg (.cons (.int .i64 x) (.cons (.int .i64 y) (.cons (.int .i64 z) (.cons (.int .i64 t) .nl))))] => some ⟨[begBad l [(x, y, z, t), (a7, a8, a9, a10)] [] 60 = true], .bool true, []⟩
  | _ => none
def f6_n_cuts : List Nat := []
theorem f6_n_run (R : AV → List Ob → Prop) (l : List TB.den) (c at' a1 a2 a3 a4 a5 a6 a7 a8 a9 a10 a11 a12 a13 a14 x y z t : Int) : fnA tab (eV0.cut f6_n_cuts) Try.f6 (bodyOf Try.f6) [.list 35 TB l, .int .i64 c, .int .i64 at', .agg (.cons (.int .i64 a1) (.cons (.int .i64 a2) (.cons (.int .i64 a3) (.cons (.int .i64 a4) (.cons (.int .i64 a5) (.cons (.int .i64 a6) (.cons (.int .i64 a7) (.cons (.int .i64 a8) (.cons (.int .i64 a9) (.cons (.int .i64 a10) (.cons (.int .i64 a11) (.cons (.int .i64 a12) (.cons (.int .i64 a13) (.cons (.int .i64 a14) .nl)))))))))))))), .agg (.cons (.int .i64 x) (.cons (.int .i64 y) (.cons (.int .i64 z) (.cons (.int .i64 t) .nl))))] R = (begBad l [(x, y, z, t), (a7, a8, a9, a10)] [] 60 = true ∧ (0 : Int) ≤ 60 ∧ (60 : Int) ≤ 1000 ∧ R (AV.bool true) []) := by kernel_rfl
theorem ok6_n : ConOk Try.prog (6, con6_n) := by
  intro args t h hp
  change con6_n args = some t at h
  unfold con6_n at h
  split at h
  · rename_i l c at' a1 a2 a3 a4 a5 a6 a7 a8 a9 a10 a11 a12 a13 a14 x y z t
    change List TB.den at l
    cases h
    refine fn_ok (envV0.cut f6_n_cuts) tab_ok mixed Try.func6 (by kernel_rfl) (by kernel_rfl) ?_
    rw [f6_n_run]
    try dsimp only
    have hb := hp (begBad l [(x, y, z, t), (a7, a8, a9, a10)] [] 60 = true) (by simp)
    exact ⟨hb, by decide, by decide, rfl, rfl⟩
  · cases h
def con13_b : List AV → List Ob → Option Tells2
  | [.list 35 (.pair (.int .i64) (.pair (.int .i64) (.pair (.int .i64) (.pair (.int .i64) (.pair (.int .i64) (.pair (.int .i64) (.pair (.pair (.int .i64) (.pair (.int .i64) (.pair (.int .i64) (.int .i64)))) (.pair (.int .i64) (.pair (.int .i64) (.pair (.int .i64) (.int .i64))))))))))) l, .agg (.cons (.row 0) (.cons (.nils 67 (.pair (.int .i64) (.pair (.pair (.int .i64) (.pair (.int .i64) (.pair (.int .i64) (.int .i64)))) (.pair (.int .i64) (.int .i64))))) .nl)), .int .i64 most], [.row 40 (.pair (.int .i64) (.pair (.int .i64) (.pair (.int .i64) (.int .i64)))) gs] => some ⟨[begBad l gs [] most = false, 0 ≤ most, most ≤ 1000], .lptr 94 (.list 98 TN) [((buildN l 0 ([], [])).getD [])] 0 0, [none], []⟩
  | _, _ => none
def f13_b_cuts : List Nat := [4]
def f13_b_j1 (R : AV → List Ob → Prop) (l : List TB.den) (most : Int) (gs : List T4.den)  : Prop := Meet (fun s => codeA tab (eC1.cut f13_b_cuts) (subC [1, 0, 1, 1] (bodyOf Try.f13)) [4, 4, 0, 6] s (seqQ tab (eC1.cut f13_b_cuts) (subC [1, 1] (bodyOf Try.f13)) [6] (endA tab Try.f13 R))) { slots := [AV.list 35 TB l, AV.undef, AV.undef, AV.undef, AV.ptr 1 0, AV.undef, AV.nilp] ++ List.replicate 38 AV.undef ++ [AV.bool (decide (0 > IntKind.i64.wrap (2 * most)))] ++ List.replicate 41 AV.undef, obs := [Ob.row 40 T4 gs, Ob.cells 46 [AV.row 0, AV.row 2], Ob.row 67 ((Ty.int IntKind.i64).pair (T4.pair ((Ty.int IntKind.i64).pair (Ty.int IntKind.i64)))) []], n := 1 }
def f13_b_live2 : List Nat := [49, 48, 47, 49, 49, 4, 0, 6]
def f13_b_head2 (l : List TB.den) (gs : List T4.den) (s49 : Int) : St := { slots := [AV.list 35 TB l, AV.undef, AV.undef, AV.undef, AV.ptr 1 0, AV.undef, AV.nilp] ++ List.replicate 40 AV.undef ++ [AV.row 0, AV.int IntKind.i64 (↑gs.length : Int), AV.int IntKind.i64 s49] ++ List.replicate 37 AV.undef, obs := [Ob.row 40 T4 gs, Ob.cells 46 [AV.row 0, AV.row 2], Ob.row 67 ((Ty.int IntKind.i64).pair (T4.pair ((Ty.int IntKind.i64).pair (Ty.int IntKind.i64)))) []], n := 1 }
def f13_b_q2 (R : AV → List Ob → Prop) : Ex → St → Prop := blockA 0 (seqQ tab (eC1.cut f13_b_cuts) (subC [1, 1, 1] (bodyOf Try.f13)) [6] (endA tab Try.f13 R))
def f13_b_loop2 (R : AV → List Ob → Prop) (l : List TB.den) (gs : List T4.den) (s49 : Int) : Prop := loopT f13_b_live2 (codeA tab (eC1.cut f13_b_cuts) (subC [1, 1, 0, 1, 0, 0] (bodyOf Try.f13)) f13_b_live2) (f13_b_head2 l gs s49) (f13_b_q2 R)
def f13_b_live3 : List Nat := [54, 53, 54, 54, 49, 49, 48, 47, 49, 49, 4, 0, 6]
def f13_b_head3 (l : List TB.den) (gs : List T4.den) (s49 : Int) : St := { slots := [AV.list 35 TB l, AV.undef, AV.undef, AV.undef, AV.ptr 1 0, AV.undef, AV.nilp] ++ List.replicate 40 AV.undef ++ [AV.row 0, AV.int IntKind.i64 (↑gs.length : Int), AV.int IntKind.i64 s49, AV.undef, AV.undef, AV.undef, ((AV.int IntKind.i64 (gs.getD s49.toNat (0, 0, 0, 0)).fst).cons ((AV.int IntKind.i64 (gs.getD s49.toNat (0, 0, 0, 0)).snd.fst).cons ((AV.int IntKind.i64 (gs.getD s49.toNat (0, 0, 0, 0)).snd.snd.fst).cons ((AV.int IntKind.i64 (gs.getD s49.toNat (0, 0, 0, 0)).snd.snd.snd).cons AV.nl)))).agg, AV.int IntKind.i64 0] ++ List.replicate 32 AV.undef, obs := [Ob.row 40 T4 gs, Ob.cells 46 [AV.row 0, AV.row 2], Ob.row 67 ((Ty.int IntKind.i64).pair (T4.pair ((Ty.int IntKind.i64).pair (Ty.int IntKind.i64)))) []], n := 1 }
def f13_b_q3 (R : AV → List Ob → Prop) (J : St → Prop) : Ex → St → Prop := blockA 2 (blockA 1 (seqQ tab (eC1.cut f13_b_cuts) (subC [1, 1, 0, 1, 0, 0, 1, 1, 1] (bodyOf Try.f13)) [49, 48, 47, 49, 49, 4, 0, 6] (thenA (fun s => J (St.tidy f13_b_live2 s)) (blockA 0 (seqQ tab (eC1.cut f13_b_cuts) (subC [1, 1, 1] (bodyOf Try.f13)) [6] (endA tab Try.f13 R))))))
def f13_b_loop3 (R : AV → List Ob → Prop) (l : List TB.den) (gs : List T4.den) (s49 : Int) (J : St → Prop) : Prop := loopT f13_b_live3 (codeA tab (eC1.cut f13_b_cuts) (subC [1, 1, 0, 1, 0, 0, 1, 1, 0, 0, 1, 1, 0, 0] (bodyOf Try.f13)) f13_b_live3) (f13_b_head3 l gs s49) (f13_b_q3 R J)
set_option maxHeartbeats 2000000 in
theorem f13_b_eq3 (R : AV → List Ob → Prop) (l : List TB.den) (gs : List T4.den) (s49 : Int) (J : St → Prop) : loopU f13_b_live3 (codeA tab (eC1.cut f13_b_cuts) (subC [1, 1, 0, 1, 0, 0, 1, 1, 0, 0, 1, 1, 0, 0] (bodyOf Try.f13)) f13_b_live3) 40 (f13_b_head3 l gs s49) (f13_b_q3 R J) = (bif !decide ((gs.getD s49.toNat (0, 0, 0, 0)).fst > 288230376151711744) then bif decide ((gs.getD s49.toNat (0, 0, 0, 0)).fst < -288230376151711744) then R AV.nilp [Ob.row 40 T4 gs] else bif !decide ((gs.getD s49.toNat (0, 0, 0, 0)).snd.fst > 288230376151711744) then bif decide ((gs.getD s49.toNat (0, 0, 0, 0)).snd.fst < -288230376151711744) then R AV.nilp [Ob.row 40 T4 gs] else bif !decide ((gs.getD s49.toNat (0, 0, 0, 0)).snd.snd.fst > 288230376151711744) then bif decide ((gs.getD s49.toNat (0, 0, 0, 0)).snd.snd.fst < -288230376151711744) then R AV.nilp [Ob.row 40 T4 gs] else bif !decide ((gs.getD s49.toNat (0, 0, 0, 0)).snd.snd.snd > 288230376151711744) then bif decide ((gs.getD s49.toNat (0, 0, 0, 0)).snd.snd.snd < -288230376151711744) then R AV.nilp [Ob.row 40 T4 gs] else J (f13_b_head2 l gs (IntKind.i64.wrap (s49 + 1))) else R AV.nilp [Ob.row 40 T4 gs] else R AV.nilp [Ob.row 40 T4 gs] else R AV.nilp [Ob.row 40 T4 gs] else R AV.nilp [Ob.row 40 T4 gs]) := by kernel_rfl
set_option maxHeartbeats 2000000 in
theorem f13_b_rule3 (R : AV → List Ob → Prop) (l : List TB.den) (gs : List T4.den) (s49 : Int) (J : St → Prop) (h : bif !decide ((gs.getD s49.toNat (0, 0, 0, 0)).fst > 288230376151711744) then bif decide ((gs.getD s49.toNat (0, 0, 0, 0)).fst < -288230376151711744) then R AV.nilp [Ob.row 40 T4 gs] else bif !decide ((gs.getD s49.toNat (0, 0, 0, 0)).snd.fst > 288230376151711744) then bif decide ((gs.getD s49.toNat (0, 0, 0, 0)).snd.fst < -288230376151711744) then R AV.nilp [Ob.row 40 T4 gs] else bif !decide ((gs.getD s49.toNat (0, 0, 0, 0)).snd.snd.fst > 288230376151711744) then bif decide ((gs.getD s49.toNat (0, 0, 0, 0)).snd.snd.fst < -288230376151711744) then R AV.nilp [Ob.row 40 T4 gs] else bif !decide ((gs.getD s49.toNat (0, 0, 0, 0)).snd.snd.snd > 288230376151711744) then bif decide ((gs.getD s49.toNat (0, 0, 0, 0)).snd.snd.snd < -288230376151711744) then R AV.nilp [Ob.row 40 T4 gs] else J (f13_b_head2 l gs (IntKind.i64.wrap (s49 + 1))) else R AV.nilp [Ob.row 40 T4 gs] else R AV.nilp [Ob.row 40 T4 gs] else R AV.nilp [Ob.row 40 T4 gs] else R AV.nilp [Ob.row 40 T4 gs]) : f13_b_loop3 R l gs s49 J := loop_rounds 40 (Eq.mpr (f13_b_eq3 R l gs s49 J) h)
def f13_b_live4 : List Nat := [68, 67, 66, 68, 68, 0, 6]
def f13_b_head4 (l : List TB.den) (gs : List T4.den) : St := { slots := [AV.list 35 TB l] ++ List.replicate 5 AV.undef ++ [AV.nilp] ++ List.replicate 59 AV.undef ++ [AV.row 1, AV.int IntKind.i64 0, AV.int IntKind.i64 0] ++ List.replicate 18 AV.undef, obs := [Ob.row 40 T4 gs, Ob.row 67 ((Ty.int IntKind.i64).pair (T4.pair ((Ty.int IntKind.i64).pair (Ty.int IntKind.i64)))) []], n := 1 }
def f13_b_q4 (R : AV → List Ob → Prop) : Ex → St → Prop := blockA 4 (seqQ tab (eC1.cut f13_b_cuts) (subC [1, 1, 1, 1] (bodyOf Try.f13)) [6] (endA tab Try.f13 R))
def f13_b_loop4 (R : AV → List Ob → Prop) (l : List TB.den) (gs : List T4.den) : Prop := loopT f13_b_live4 (codeA tab (eC1.cut f13_b_cuts) (subC [1, 1, 1, 0, 1, 0, 0] (bodyOf Try.f13)) f13_b_live4) (f13_b_head4 l gs) (f13_b_q4 R)
theorem f13_b_eq4 (R : AV → List Ob → Prop) (l : List TB.den) (gs : List T4.den) : loopU f13_b_live4 (codeA tab (eC1.cut f13_b_cuts) (subC [1, 1, 1, 0, 1, 0, 0] (bodyOf Try.f13)) f13_b_live4) 40 (f13_b_head4 l gs) (f13_b_q4 R) = (l.length ≤ 4096 ∧ 0 < l.length ∧ (buildN l 0 ([], [])).isSome = true ∧ R (AV.lptr 94 (Ty.list 98 TN) [(buildN l 0 ([], [])).getD []] 0 0) [Ob.row 40 T4 gs]) := by kernel_rfl
set_option maxHeartbeats 2000000 in
theorem f13_b_rule4 (R : AV → List Ob → Prop) (l : List TB.den) (gs : List T4.den) (h : l.length ≤ 4096 ∧ 0 < l.length ∧ (buildN l 0 ([], [])).isSome = true ∧ R (AV.lptr 94 (Ty.list 98 TN) [(buildN l 0 ([], [])).getD []] 0 0) [Ob.row 40 T4 gs]) : f13_b_loop4 R l gs := loop_rounds 40 (Eq.mpr (f13_b_eq4 R l gs) h)
def f13_b_rhs2 (R : AV → List Ob → Prop) (l : List TB.den) (gs : List T4.den) (J : St → Prop) (s49 : Int) : Prop := bif decide (s49 < (↑gs.length : Int)) then 0 ≤ s49 ∧ s49 < (↑gs.length : Int) ∧ f13_b_loop3 R l gs s49 J else f13_b_loop4 R l gs
theorem f13_b_eq2 (R : AV → List Ob → Prop) (l : List TB.den) (gs : List T4.den) (J : St → Prop) (s49 : Int) : codeA tab (eC1.cut f13_b_cuts) (subC [1, 1, 0, 1, 0, 0] (bodyOf Try.f13)) f13_b_live2 (f13_b_head2 l gs s49) (thenA (fun s => J (St.tidy f13_b_live2 s)) (f13_b_q2 R)) = f13_b_rhs2 R l gs J s49 := by kernel_rfl
set_option maxHeartbeats 2000000 in
theorem f13_b_rule2 (R : AV → List Ob → Prop) (l : List TB.den) (gs : List T4.den) (I : Nat → (Int) → Prop) (n : Nat) (s49 : Int) (h0 : I n s49) (h : ∀ n, ∀ (s49 : Int), I n s49 → f13_b_rhs2 R l gs (fun t => ∃ m, m < n ∧ ∃ (s49 : Int), t = f13_b_head2 l gs s49 ∧ I m s49) s49) : f13_b_loop2 R l gs s49 :=
  loop_intro (fun n t => ∃ (s49 : Int), t = f13_b_head2 l gs s49 ∧ I n s49) n ⟨s49, rfl, h0⟩ (fun n t ht => by obtain ⟨s49, rfl, hI⟩ := ht; exact Eq.mpr (f13_b_eq2 R l gs (fun t => ∃ m, m < n ∧ ∃ (s49 : Int), t = f13_b_head2 l gs s49 ∧ I m s49) s49) (h n s49 hI))
theorem f13_b_jeq1 (R : AV → List Ob → Prop) (l : List TB.den) (most : Int) (gs : List T4.den)  : f13_b_j1 R l most gs  = (bif decide (0 > IntKind.i64.wrap (2 * most)) then R AV.nilp [Ob.row 40 T4 gs] else f13_b_loop2 R l gs 0) := (meet_eq _ _).trans (by kernel_rfl)
def f13_b_j5 (R : AV → List Ob → Prop) (l : List TB.den) (gs : List T4.den)  : Prop := Meet (fun s => codeA tab (eC1.cut f13_b_cuts) (subC [1, 0, 1, 1] (bodyOf Try.f13)) [4, 4, 0, 6] s (seqQ tab (eC1.cut f13_b_cuts) (subC [1, 1] (bodyOf Try.f13)) [6] (endA tab Try.f13 R))) { slots := [AV.list 35 TB l, AV.undef, AV.undef, AV.undef, AV.ptr 1 0, AV.undef, AV.nilp] ++ List.replicate 38 AV.undef ++ [AV.bool true] ++ List.replicate 41 AV.undef, obs := [Ob.row 40 T4 gs, Ob.cells 46 [AV.row 0, AV.row 2], Ob.row 67 ((Ty.int IntKind.i64).pair (T4.pair ((Ty.int IntKind.i64).pair (Ty.int IntKind.i64)))) []], n := 1 }
theorem f13_b_run (R : AV → List Ob → Prop) (l : List TB.den) (most : Int) (gs : List T4.den) : fnB tab (eC1.cut f13_b_cuts) Try.f13 (bodyOf Try.f13) [.list 35 TB l, .agg (.cons (.row 0) (.cons (.nils 67 TL) .nl)), .int .i64 most] [.row 40 T4 gs] R = (bif !(blk (chk6 l)).snd != 0 then bif !decide ((↑l.length : Int) > most) then bif !decide ((↑gs.length : Int) > IntKind.i64.wrap (2 * most)) then f13_b_j1 R l most gs else f13_b_j5 R l gs else f13_b_j5 R l gs else f13_b_j5 R l gs) := by kernel_rfl
theorem ok13_b : ConOk2 Try.prog (13, con13_b) := by
  intro args obs t h hp
  change con13_b args obs = some t at h
  unfold con13_b at h
  split at h
  · rename_i l most gs
    change List TB.den at l
    change List T4.den at gs
    cases h
    refine fn_ok2F (envC1.cut f13_b_cuts) tab_ok mixed Try.func13 (by kernel_rfl) (by kernel_rfl) rfl ?_
    rw [f13_b_run]
    try dsimp only
    have hb := hp (begBad l gs [] most = false) (by simp)
    have hm0 := hp (0 ≤ most) (by simp)
    have hm1 := hp (most ≤ 1000) (by simp)
    clear hp
    unfold begBad at hb
    simp only [Bool.or_eq_false_iff] at hb
    obtain ⟨b1, b2, b3, _, b5, _⟩ := hb
    have hw2 : IntKind.wrap .i64 (2 * most) = 2 * most := wrap_id _ (by omega)
    have e1 : (chk6 l).2 = 0 := bne_zero b1
    have e2 := of_decide_eq_false b2
    have e3 := of_decide_eq_false b3
    rw [blk_eq, hw2]
    refine cond_split (fun _ => cond_split (fun _ => cond_split (fun _ => ?_) (fun h => by rw [b3] at h; cases h)) (fun h => by rw [b2] at h; cases h)) (fun h => by rw [b1] at h; cases h)
    rw [f13_b_jeq1, hw2]
    refine dec_split (fun h => absurd h (by omega)) (fun _ => ?_)
    refine f13_b_rule2 _ l gs (fun n s => ∃ k : Nat, k ≤ gs.length ∧ n = gs.length - k ∧ s = k) gs.length 0 ⟨0, Nat.zero_le _, rfl, rfl⟩ ?_
    rintro n s ⟨k, hk, rfl, rfl⟩
    unfold f13_b_rhs2
    refine dec_split (fun hlt => ⟨by omega, hlt, ?_⟩) (fun hlt => ?_)
    · have hlt' : k < gs.length := by omega
      refine f13_b_rule3 _ l gs _ _ ?_
      rw [Int.toNat_natCast]
      refine badR_split (gs.getD k (0, 0, 0, 0)) (fun hq => ?_) (fun hq => ?_)
      · rw [any_here hlt' hq] at b5; cases b5
      · exact ⟨gs.length - (k + 1), by omega, _, rfl, k + 1, by omega, rfl, by rw [wrap_id _ (by omega)]; rfl⟩
    · refine f13_b_rule4 _ l gs ?_
      exact ⟨by omega, (build_some e1).1, (build_some e1).2, rfl, .keep _ rfl rfl⟩
  · cases h
theorem flt_next (q : Int → Bool) (m : List Int) (k : Nat) (h : k < m.length) : (m.take (k + 1)).filter q = (m.take k).filter q ++ if q (m.getD k 0) then [m.getD k 0] else [] := by
  rw [take_next m k h, List.filter_append, ← getD_nat' m 0 k h]
  cases hq : q (m.getD k 0) with
  | true => rw [List.filter_cons_of_pos hq]; rfl
  | false => rw [List.filter_cons_of_neg (by rw [hq]; simp)]; rfl
theorem flt_full (q : Int → Bool) (m : List Int) (k : Nat) (h : k < m.length) (hq : q (m.getD k 0) = true) : m.filter q = (m.take k).filter q ++ m.getD k 0 :: (m.drop (k + 1)).filter q := by
  conv => lhs; rw [← List.take_append_drop k m]
  rw [List.filter_append, List.drop_eq_getElem_cons h, ← getD_nat' m 0 k h, List.filter_cons_of_pos hq]
def consV1 : Cons := (14, con14) :: (17, con17) :: (16, con16) :: (18, con18) :: (15, con15) :: (19, con19) :: (20, con20) :: []
def twosV1 : Cons2 := (13, con13_b) :: []
def pansV1 : Cons3 := []
def itersV1 : Cons4 := []
abbrev eV1 : Env := envOf4 consV1 twosV1 pansV1 itersV1
theorem allconsV1 : ∀ c ∈ consV1, ConOk Try.prog c := all_cons ok14 (all_cons ok17 (all_cons ok16 (all_cons ok18 (all_cons ok15 (all_cons ok19 (all_cons ok20 all_nil))))))
theorem alltwosV1 : ∀ c ∈ twosV1, ConOk2 Try.prog c := all_cons ok13_b all_nil
theorem allpansV1 : ∀ c ∈ pansV1, ConOk3 Try.prog c := all_nil
theorem allitersV1 : ∀ c ∈ itersV1, ConOk4 Try.prog c := all_nil
theorem envV1 : EnvOk Try.prog eV1 := envOf4_ok _ _ _ _ allconsV1 alltwosV1 allpansV1 allitersV1
def con6_t : List AV → Option Tells
  | [.list 35 (.pair (.int .i64) (.pair (.int .i64) (.pair (.int .i64) (.pair (.int .i64) (.pair (.int .i64) (.pair (.int .i64) (.pair (.pair (.int .i64) (.pair (.int .i64) (.pair (.int .i64) (.int .i64)))) (.pair (.int .i64) (.pair (.int .i64) (.pair (.int .i64) (.int .i64))))))))))) l, .int .i64 c, .int .i64 at', .agg (.cons (.int .i64 a1) (.cons (.int .i64 a2) (.cons (.int .i64 a3) (.cons (.int .i64 a4) (.cons (.int .i64 a5) (.cons (.int .i64 a6) (.cons (.int .i64 a7) (.cons (.int .i64 a8) (.cons (.int .i64 a9) (.cons (.int .i64 a10) (.cons (.int .i64 a11) (.cons (.int .i64 a12) (.cons (.int .i64 a13) (.cons (.int .i64 a14) .nl)))))))))))))), .agg (.cons (.int .i64 x) (.cons (.int .i64 y) (.cons (.int .i64 z) (.cons (.int .i64 t) .nl))))] => some ⟨[begBad l [(x, y, z, t), (a7, a8, a9, a10)] [] 60 = false], .bool true, []⟩
  | _ => none
def f6_t_cuts : List Nat := [17]
def f6_t_live1 : List Nat := [51, 50, 49, 51, 2, 0, 14, 13, 13, 14, 14, 51, 14, 13, 10]
def f6_t_head1 (l : List TB.den) (c : Int) (at' : Int) (s14 : Int) (s51 : Int) : St := { slots := [AV.list 35 TB l, AV.undef, AV.int IntKind.i64 at'] ++ List.replicate 7 AV.undef ++ [AV.bool false, AV.undef, AV.undef, AV.row 0, AV.int IntKind.i64 s14] ++ List.replicate 34 AV.undef ++ [AV.row 1, AV.int IntKind.i64 (↑(memL ((buildN l 0 ([], [])).getD []) c).length : Int), AV.int IntKind.i64 s51] ++ List.replicate 33 AV.undef, obs := [Ob.row 3 (Ty.int IntKind.i64) (fltL ((buildN l 0 ([], [])).getD []) c at'), Ob.row 3 (Ty.int IntKind.i64) (memL ((buildN l 0 ([], [])).getD []) c)] }
def f6_t_q1 (R : AV → List Ob → Prop) : Ex → St → Prop := blockA 0 (seqQ tab (eV1.cut f6_t_cuts) (subC [1, 1, 1, 1, 1, 1, 1, 1] (bodyOf Try.f6)) [10] (endA tab Try.f6 R))
def f6_t_loop1 (R : AV → List Ob → Prop) (l : List TB.den) (c : Int) (at' : Int) (s14 : Int) (s51 : Int) : Prop := loopT f6_t_live1 (codeA tab (eV1.cut f6_t_cuts) (subC [1, 1, 1, 1, 1, 1, 1, 0, 1, 0, 0] (bodyOf Try.f6)) f6_t_live1) (f6_t_head1 l c at' s14 s51) (f6_t_q1 R)
def f6_t_j2 (R : AV → List Ob → Prop) (l : List TB.den) (c : Int) (at' : Int) (s51 : Int) (J : St → Prop) (s14'_2 : Int) : Prop := Meet (fun s => codeA tab (eV1.cut f6_t_cuts) (subC [1, 1, 1, 1, 1, 1, 1, 0, 1, 0, 0, 1, 1, 1] (bodyOf Try.f6)) [51, 50, 49, 51, 2, 0, 14, 13, 13, 14, 14, 51, 14, 13, 10] s (thenA (fun s => J (St.tidy f6_t_live1 s)) (blockA 0 (seqQ tab (eV1.cut f6_t_cuts) (subC [1, 1, 1, 1, 1, 1, 1, 1] (bodyOf Try.f6)) [10] (endA tab Try.f6 R))))) { slots := [AV.list 35 TB l, AV.undef, AV.int IntKind.i64 at'] ++ List.replicate 7 AV.undef ++ [AV.bool false, AV.undef, AV.undef, AV.row 0, AV.int IntKind.i64 s14'_2] ++ List.replicate 34 AV.undef ++ [AV.row 1, AV.int IntKind.i64 (↑(memL ((buildN l 0 ([], [])).getD []) c).length : Int), AV.int IntKind.i64 s51] ++ List.replicate 33 AV.undef, obs := [Ob.row 3 (Ty.int IntKind.i64) (fltL ((buildN l 0 ([], [])).getD []) c at'), Ob.row 3 (Ty.int IntKind.i64) (memL ((buildN l 0 ([], [])).getD []) c)] }
theorem f6_t_jeq2 (R : AV → List Ob → Prop) (l : List TB.den) (c : Int) (at' : Int) (s51 : Int) (J : St → Prop) (s14'_2 : Int) : f6_t_j2 R l c at' s51 J s14'_2 = (J (f6_t_head1 l c at' s14'_2 (IntKind.i64.wrap (s51 + 1)))) := (meet_eq _ _).trans (by kernel_rfl)
def f6_t_rhs1 (R : AV → List Ob → Prop) (l : List TB.den) (c : Int) (at' : Int) (J : St → Prop) (s14 : Int) (s51 : Int) : Prop := bif decide (s51 < (↑(memL ((buildN l 0 ([], [])).getD []) c).length : Int)) then 0 ≤ s51 ∧ s51 < (↑(memL ((buildN l 0 ([], [])).getD []) c).length : Int) ∧ bif !decide ((memL ((buildN l 0 ([], [])).getD []) c).getD s51.toNat 0 ≥ at') then 0 ≤ (memL ((buildN l 0 ([], [])).getD []) c).getD s51.toNat 0 ∧ (memL ((buildN l 0 ([], [])).getD []) c).getD s51.toNat 0 < (↑l.length : Int) ∧ bif (l.getD (Int.toNat ((memL ((buildN l 0 ([], [])).getD []) c).getD s51.toNat 0)) (0, 0, 0, 0, 0, 0, (0, 0, 0, 0), 0, 0, 0, 0)).snd.fst != 2 then f6_t_j2 R l c at' s51 J s14 else bif !decide (s14 ≥ (↑(fltL ((buildN l 0 ([], [])).getD []) c at').length : Int)) then 0 ≤ s14 ∧ s14 < (↑(fltL ((buildN l 0 ([], [])).getD []) c at').length : Int) ∧ bif (fltL ((buildN l 0 ([], [])).getD []) c at').getD s14.toNat 0 != (memL ((buildN l 0 ([], [])).getD []) c).getD s51.toNat 0 then R (AV.bool false) [] else f6_t_j2 R l c at' s51 J (IntKind.i64.wrap (s14 + 1)) else R (AV.bool false) [] else f6_t_j2 R l c at' s51 J s14 else R (AV.bool (s14 == (↑(fltL ((buildN l 0 ([], [])).getD []) c at').length : Int))) []
theorem f6_t_eq1 (R : AV → List Ob → Prop) (l : List TB.den) (c : Int) (at' : Int) (J : St → Prop) (s14 : Int) (s51 : Int) : codeA tab (eV1.cut f6_t_cuts) (subC [1, 1, 1, 1, 1, 1, 1, 0, 1, 0, 0] (bodyOf Try.f6)) f6_t_live1 (f6_t_head1 l c at' s14 s51) (thenA (fun s => J (St.tidy f6_t_live1 s)) (f6_t_q1 R)) = f6_t_rhs1 R l c at' J s14 s51 := by kernel_rfl
set_option maxHeartbeats 2000000 in
theorem f6_t_rule1 (R : AV → List Ob → Prop) (l : List TB.den) (c : Int) (at' : Int) (I : Nat → (Int) → (Int) → Prop) (n : Nat) (s14 : Int) (s51 : Int) (h0 : I n s14 s51) (h : ∀ n, ∀ (s14 : Int) (s51 : Int), I n s14 s51 → f6_t_rhs1 R l c at' (fun t => ∃ m, m < n ∧ ∃ (s14 : Int) (s51 : Int), t = f6_t_head1 l c at' s14 s51 ∧ I m s14 s51) s14 s51) : f6_t_loop1 R l c at' s14 s51 :=
  loop_intro (fun n t => ∃ (s14 : Int) (s51 : Int), t = f6_t_head1 l c at' s14 s51 ∧ I n s14 s51) n ⟨s14, s51, rfl, h0⟩ (fun n t ht => by obtain ⟨s14, s51, rfl, hI⟩ := ht; exact Eq.mpr (f6_t_eq1 R l c at' (fun t => ∃ m, m < n ∧ ∃ (s14 : Int) (s51 : Int), t = f6_t_head1 l c at' s14 s51 ∧ I m s14 s51) s14 s51) (h n s14 s51 hI))
theorem f6_t_run (R : AV → List Ob → Prop) (l : List TB.den) (c at' a1 a2 a3 a4 a5 a6 a7 a8 a9 a10 a11 a12 a13 a14 x y z t : Int) : fnA tab (eV1.cut f6_t_cuts) Try.f6 (bodyOf Try.f6) [.list 35 TB l, .int .i64 c, .int .i64 at', .agg (.cons (.int .i64 a1) (.cons (.int .i64 a2) (.cons (.int .i64 a3) (.cons (.int .i64 a4) (.cons (.int .i64 a5) (.cons (.int .i64 a6) (.cons (.int .i64 a7) (.cons (.int .i64 a8) (.cons (.int .i64 a9) (.cons (.int .i64 a10) (.cons (.int .i64 a11) (.cons (.int .i64 a12) (.cons (.int .i64 a13) (.cons (.int .i64 a14) .nl)))))))))))))), .agg (.cons (.int .i64 x) (.cons (.int .i64 y) (.cons (.int .i64 z) (.cons (.int .i64 t) .nl))))] R = (begBad l [(x, y, z, t), (a7, a8, a9, a10)] [] 60 = false ∧ (0 : Int) ≤ 60 ∧ (60 : Int) ≤ 1000 ∧ bif !(IntKind.i64.wrap (x - a10) == IntKind.i64.wrap (x - a10) && (IntKind.i64.wrap (y - a7) == IntKind.i64.wrap (y - a7) && (IntKind.i64.wrap (z + a8) == IntKind.i64.wrap (z + a8) && (IntKind.i64.wrap (t + a9) == IntKind.i64.wrap (t + a9) && true)))) then R (AV.bool false) [] else (∀ (x : TN.den), x ∈ (buildN l 0 ([], [])).getD [] → List.length x.snd.snd.snd.snd ≤ 65536) ∧ endQ ((buildN l 0 ([], [])).getD []) (topQ ((buildN l 0 ([], [])).getD []) c) ∧ (memL ((buildN l 0 ([], [])).getD []) c).length ≤ 65536 ∧ (∀ (x : TN.den), x ∈ (buildN l 0 ([], [])).getD [] → List.length x.snd.snd.snd.snd ≤ 65536) ∧ endQ ((buildN l 0 ([], [])).getD []) (topQ ((buildN l 0 ([], [])).getD []) c) ∧ f6_t_loop1 R l c at' 0 0) := by kernel_rfl
theorem ok6_t : ConOk Try.prog (6, con6_t) := by
  intro args t h hp
  change con6_t args = some t at h
  unfold con6_t at h
  split at h
  · rename_i l c at' a1 a2 a3 a4 a5 a6 a7 a8 a9 a10 a11 a12 a13 a14 x y z t
    change List TB.den at l
    cases h
    refine fn_ok (envV1.cut f6_t_cuts) tab_ok mixed Try.func6 (by kernel_rfl) (by kernel_rfl) ?_
    rw [f6_t_run]
    try dsimp only
    have hb := hp (begBad l [(x, y, z, t), (a7, a8, a9, a10)] [] 60 = false) (by simp)
    refine ⟨hb, by decide, by decide, cond_no (by simp) ?_⟩
    unfold begBad at hb
    simp only [Bool.or_eq_false_iff] at hb
    obtain ⟨b1, b2, _⟩ := hb
    have e2 := of_decide_eq_false b2
    obtain ⟨h0, hbs⟩ := build_some (bne_zero b1)
    obtain ⟨X, hX⟩ := Option.isSome_iff_exists.1 hbs
    have hG : (buildN l 0 ([], [])).getD [] = X := by rw [hX]; rfl
    have ht := trOk_of hX h0 (by omega)
    obtain ⟨t1, t2, t3⟩ := tree_of hX h0
    rw [hG]
    refine ⟨ht.kids, ht.fin c, ht.mem c, ht.kids, ht.fin c, ?_⟩
    have hml := ht.mem c
    have hin := ht.mems c
    refine f6_t_rule1 _ l c at' (fun n s14 s => ∃ k : Nat, k ≤ (memL X c).length ∧ n = (memL X c).length - k ∧ s = k ∧ s14 = (((memL X c).take k).filter fun i => !delB X at' i).length) (memL X c).length 0 0 ⟨0, Nat.zero_le _, rfl, rfl, rfl⟩ ?_
    rintro n s14 s ⟨k, hk, rfl, rfl, rfl⟩
    unfold f6_t_rhs1
    rw [hG]
    have hflt : fltL X c at' = (memL X c).filter fun i => !delB X at' i := rfl
    rw [hflt]
    generalize memL X c = m at hml hin hk ⊢
    refine dec_split (fun hlt => ?_) (fun hlt => ?_)
    · have hlt' : k < m.length := by omega
      obtain ⟨i0, i1⟩ := hin _ (getD_mem (d := 0) hlt')
      have hw := wrap_next k _ hlt' (by simp only [maxLen]; omega)
      have hnx := flt_next (fun i => !delB X at' i) m k hlt'
      have hfu := flt_full (fun i => !delB X at' i) m k hlt'
      have hfl : ((m.take k).filter fun i => !delB X at' i).length ≤ 65536 := Nat.le_trans (List.length_filter_le _ _) (by rw [List.length_take]; omega)
      rw [Int.toNat_natCast]
      generalize m.getD k 0 = i at i0 i1 hnx hfu ⊢
      have hkd : (ndAt X i).1.2.1 = (l.getD i.toNat zBx).2.1 := by rw [ndAt_in i0 i1, t2 i.toNat (by omega)]
      refine ⟨by omega, hlt, cond_split (fun g1 => ⟨i0, by omega, cond_split (fun g2 => ?_) (fun g2 => ?_)⟩) (fun g1 => ?_)⟩
      · have hd : delB X at' i = true := by
          unfold delB
          rw [Bool.not_eq_true'] at g1
          rw [g1, cond_false, hkd]; exact g2
        rw [hd] at hnx
        rw [f6_t_jeq2, hw]
        exact ⟨m.length - (k + 1), by omega, _, _, rfl, k + 1, by omega, rfl, rfl, by rw [hnx]; simp⟩
      · have hd : delB X at' i = false := by
          unfold delB
          rw [Bool.not_eq_true'] at g1
          rw [g1, cond_false, hkd]; exact g2
        rw [hd] at hnx hfu
        have hfu := hfu rfl
        generalize hA : ((m.take k).filter fun i => !delB X at' i) = A at hnx hfu hfl ⊢
        generalize ((m.drop (k + 1)).filter fun i => !delB X at' i) = B at hfu
        rw [hfu]
        have hlen : (A ++ i :: B).length = A.length + (B.length + 1) := by simp
        have hget : (A ++ i :: B).getD A.length 0 = i := by simp [List.getD]
        refine cond_split (fun g3 => ⟨by omega, by rw [hlen]; omega, ?_⟩) (fun g3 => ?_)
        · rw [Int.toNat_natCast, hget]
          refine cond_no (by simp) ?_
          rw [f6_t_jeq2, hw]
          refine ⟨m.length - (k + 1), by omega, _, _, rfl, k + 1, by omega, rfl, rfl, ?_⟩
          rw [wrap_id _ (by omega), hnx]; simp
        · rw [Bool.not_eq_false', decide_eq_true_eq, hlen] at g3
          omega
      · have hd : delB X at' i = true := by
          unfold delB
          rw [Bool.not_eq_false'] at g1
          rw [g1]; rfl
        rw [hd] at hnx
        rw [f6_t_jeq2, hw]
        exact ⟨m.length - (k + 1), by omega, _, _, rfl, k + 1, by omega, rfl, rfl, by rw [hnx]; simp⟩
    · rw [take_all m k (by omega)]
      exact ⟨by simp, rfl⟩
  · cases h
theorem law6' (l : List TB.den) (c at' a1 a2 a3 a4 a5 a6 a7 a8 a9 a10 a11 a12 a13 a14 x y z t : Int) : ACalls Try.prog 6 [.list 35 TB l, .int .i64 c, .int .i64 at', .agg (.cons (.int .i64 a1) (.cons (.int .i64 a2) (.cons (.int .i64 a3) (.cons (.int .i64 a4) (.cons (.int .i64 a5) (.cons (.int .i64 a6) (.cons (.int .i64 a7) (.cons (.int .i64 a8) (.cons (.int .i64 a9) (.cons (.int .i64 a10) (.cons (.int .i64 a11) (.cons (.int .i64 a12) (.cons (.int .i64 a13) (.cons (.int .i64 a14) .nl)))))))))))))), .agg (.cons (.int .i64 x) (.cons (.int .i64 y) (.cons (.int .i64 z) (.cons (.int .i64 t) .nl))))] (.bool true) [] := by
  cases hb : begBad l [(x, y, z, t), (a7, a8, a9, a10)] [] 60 with
  | true => exact ok6_n _ ⟨[begBad l [(x, y, z, t), (a7, a8, a9, a10)] [] 60 = true], .bool true, []⟩ rfl (fun p hp => by simp at hp; rw [hp]; exact hb)
  | false => exact ok6_t _ ⟨[begBad l [(x, y, z, t), (a7, a8, a9, a10)] [] 60 = false], .bool true, []⟩ rfl (fun p hp => by simp at hp; rw [hp]; exact hb)
theorem law6 (x : ArgsDen [(false, .list 35 TB), (false, .int .i64), (false, .int .i64), (true, TB), (true, T4)]) (_h : OkArgs [(false, .list 35 TB), (false, .int .i64), (false, .int .i64), (true, TB), (true, T4)] x) : ACalls Try.prog 6 (argsA [(false, .list 35 TB), (false, .int .i64), (false, .int .i64), (true, TB), (true, T4)] x) (.bool true) [] := by
  obtain ⟨l, c, a, b, r, _⟩ := x
  exact law6' l c a b.1 b.2.1 b.2.2.1 b.2.2.2.1 b.2.2.2.2.1 b.2.2.2.2.2.1 b.2.2.2.2.2.2.1.1 b.2.2.2.2.2.2.1.2.1 b.2.2.2.2.2.2.1.2.2.1 b.2.2.2.2.2.2.1.2.2.2 b.2.2.2.2.2.2.2.1 b.2.2.2.2.2.2.2.2.1 b.2.2.2.2.2.2.2.2.2.1 b.2.2.2.2.2.2.2.2.2.2 r.1 r.2.1 r.2.2.1 r.2.2.2
end
end Go.Proofs.Ytkpjcmiijlpcaaa.W
