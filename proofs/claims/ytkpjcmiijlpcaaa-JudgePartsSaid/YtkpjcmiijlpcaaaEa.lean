/- The functions of layer 5 (script), the program's and the document's, and what they come to. -/
import Derived.Test.YtkpjcmiijlpcaaaWa
import Derived.Test.YtkpjcmiijlpcaaaAwZ
import Derived.KernelRfl
set_option linter.unusedVariables false
set_option linter.unusedSimpArgs false
namespace Go.Proofs.Ytkpjcmiijlpcaaa.W
open Go Go.Proofs Go.Proofs.Ytkpjcmiijlpcaaa.Aw
abbrev T4 : Ty := .pair (.int .i64) (.pair (.int .i64) (.pair (.int .i64) (.int .i64)))
abbrev TB : Ty := .pair (.int .i64) (.pair (.int .i64) (.pair (.int .i64) (.pair (.int .i64) (.pair (.int .i64) (.pair (.int .i64) (.pair T4 T4))))))
abbrev Rc4 := Int × Int × Int × Int
abbrev Bx := Int × Int × Int × Int × Int × Int × Rc4 × Rc4
theorem take_nextB (xs : List Bx) (k : Nat) (h : k < xs.length) : xs.take (k + 1) = xs.take k ++ [xs.getD (k : Int).toNat (0, 0, 0, 0, 0, 0, (0, 0, 0, 0), 0, 0, 0, 0)] := by
  rw [getD_nat xs _ k h, take_next xs k h]
def consS0 : Cons := []
def twosS0 : Cons2 := []
def pansS0 : Cons3 := []
def itersS0 : Cons4 := []
abbrev eS0 : Env := envOf4 consS0 twosS0 pansS0 itersS0
theorem allconsS0 : ∀ c ∈ consS0, ConOk Try.prog c := all_nil
theorem alltwosS0 : ∀ c ∈ twosS0, ConOk2 Try.prog c := all_nil
theorem allpansS0 : ∀ c ∈ pansS0, ConOk3 Try.prog c := all_nil
theorem allitersS0 : ∀ c ∈ itersS0, ConOk4 Try.prog c := all_nil
theorem envS0 : EnvOk Try.prog eS0 := envOf4_ok _ _ _ _ allconsS0 alltwosS0 allpansS0 allitersS0
def con16 : List AV → Option Tells
  | [.agg (.cons (.int .i64 a1) (.cons (.int .i64 a2) (.cons (.int .i64 a3) (.cons (.int .i64 a4) (.cons (.int .i64 a5) (.cons (.int .i64 a6) (.cons (.int .i64 a7) (.cons (.int .i64 a8) (.cons (.int .i64 a9) (.cons (.int .i64 a10) (.cons (.int .i64 a11) (.cons (.int .i64 a12) (.cons (.int .i64 a13) (.cons (.int .i64 a14) .nl))))))))))))))] => some ⟨[], ((AV.int IntKind.i64 a1).cons ((AV.int IntKind.i64 a2).cons ((AV.int IntKind.i64 a3).cons ((AV.int IntKind.i64 a4).cons ((AV.int IntKind.i64 a5).cons ((AV.int IntKind.i64 a6).cons ((AV.int IntKind.i64 a7).cons ((AV.int IntKind.i64 a8).cons ((AV.int IntKind.i64 a9).cons ((AV.int IntKind.i64 a10).cons ((AV.int IntKind.i64 a11).cons ((AV.int IntKind.i64 a12).cons ((AV.int IntKind.i64 a13).cons ((AV.int IntKind.i64 a14).cons AV.nl)))))))))))))).agg, []⟩
  | _ => none
theorem f16_run (R : AV → List Ob → Prop) (a1 a2 a3 a4 a5 a6 a7 a8 a9 a10 a11 a12 a13 a14 : Int) : fnA tab eS0 Try.f16 (bodyOf Try.f16) [.agg (.cons (.int .i64 a1) (.cons (.int .i64 a2) (.cons (.int .i64 a3) (.cons (.int .i64 a4) (.cons (.int .i64 a5) (.cons (.int .i64 a6) (.cons (.int .i64 a7) (.cons (.int .i64 a8) (.cons (.int .i64 a9) (.cons (.int .i64 a10) (.cons (.int .i64 a11) (.cons (.int .i64 a12) (.cons (.int .i64 a13) (.cons (.int .i64 a14) .nl))))))))))))))] R = (R ((AV.int IntKind.i64 a1).cons ((AV.int IntKind.i64 a2).cons ((AV.int IntKind.i64 a3).cons ((AV.int IntKind.i64 a4).cons ((AV.int IntKind.i64 a5).cons ((AV.int IntKind.i64 a6).cons ((AV.int IntKind.i64 a7).cons ((AV.int IntKind.i64 a8).cons ((AV.int IntKind.i64 a9).cons ((AV.int IntKind.i64 a10).cons ((AV.int IntKind.i64 a11).cons ((AV.int IntKind.i64 a12).cons ((AV.int IntKind.i64 a13).cons ((AV.int IntKind.i64 a14).cons AV.nl)))))))))))))).agg []) := by kernel_rfl
theorem ok16 : ConOk Try.prog (16, con16) := by
  intro args t h hp
  simp only [con16] at h
  split at h
  · cases h
    refine fn_ok envS0 tab_ok mixed Try.func16 (by kernel_rfl) (by kernel_rfl) ?_
    rw [f16_run]
    exact ⟨rfl, rfl⟩
  · cases h
def con22 : List AV → List Ob → Option Tells2
  | [.ptr 0 0], [.cells 50 [.int .i64 a1, .int .i64 a2, .int .i64 a3, .int .i64 a4, .int .i64 a5, .int .i64 a6, .int .i64 a7, .int .i64 a8, .int .i64 a9, .int .i64 a10, .int .i64 a11, .int .i64 a12, .int .i64 a13, .int .i64 a14]] => some ⟨[], .prow 1, [none], [.prow 63 [.ptr 0 0, .ptr 0 1, .ptr 0 2, .ptr 0 3, .ptr 0 4, .ptr 0 5, .ptr 0 6, .ptr 0 7, .ptr 0 8, .ptr 0 9, .ptr 0 10, .ptr 0 11, .ptr 0 12, .ptr 0 13]]⟩
  | _, _ => none
def f22_live1 : List Nat := [25, 25, 3, 0, 25, 3, 0, 3, 2]
def f22_head1 (a1 : Int) (a2 : Int) (a3 : Int) (a4 : Int) (a5 : Int) (a6 : Int) (a7 : Int) (a8 : Int) (a9 : Int) (a10 : Int) (a11 : Int) (a12 : Int) (a13 : Int) (a14 : Int) : St := { slots := [AV.ptr 0 0, AV.undef, AV.nil0, AV.prow 1] ++ List.replicate 21 AV.undef ++ [AV.int IntKind.i64 0] ++ List.replicate 24 AV.undef, obs := [Ob.cells 50 [AV.int IntKind.i64 a1, AV.int IntKind.i64 a2, AV.int IntKind.i64 a3, AV.int IntKind.i64 a4, AV.int IntKind.i64 a5, AV.int IntKind.i64 a6, AV.int IntKind.i64 a7, AV.int IntKind.i64 a8, AV.int IntKind.i64 a9, AV.int IntKind.i64 a10, AV.int IntKind.i64 a11, AV.int IntKind.i64 a12, AV.int IntKind.i64 a13, AV.int IntKind.i64 a14], Ob.prow 63 [AV.ptr 0 0, AV.ptr 0 1, AV.ptr 0 2, AV.ptr 0 3, AV.ptr 0 4, AV.ptr 0 5]], n := 1 }
def f22_q1 (R : AV → List Ob → Prop) : Ex → St → Prop := blockA 0 (seqQ tab eS0 (subC [1, 1, 1] (bodyOf Try.f22)) [2] (endA tab Try.f22 R))
def f22_loop1 (R : AV → List Ob → Prop) (a1 : Int) (a2 : Int) (a3 : Int) (a4 : Int) (a5 : Int) (a6 : Int) (a7 : Int) (a8 : Int) (a9 : Int) (a10 : Int) (a11 : Int) (a12 : Int) (a13 : Int) (a14 : Int) : Prop := loopT f22_live1 (codeA tab eS0 (subC [1, 1, 0, 1, 0, 0] (bodyOf Try.f22)) f22_live1) (f22_head1 a1 a2 a3 a4 a5 a6 a7 a8 a9 a10 a11 a12 a13 a14) (f22_q1 R)
def f22_live2 : List Nat := [37, 37, 3, 0, 37, 3, 2]
def f22_head2 (a1 : Int) (a2 : Int) (a3 : Int) (a4 : Int) (a5 : Int) (a6 : Int) (a7 : Int) (a8 : Int) (a9 : Int) (a10 : Int) (a11 : Int) (a12 : Int) (a13 : Int) (a14 : Int) : St := { slots := [AV.ptr 0 0, AV.undef, AV.nil0, AV.prow 1] ++ List.replicate 33 AV.undef ++ [AV.int IntKind.i64 0] ++ List.replicate 12 AV.undef, obs := [Ob.cells 50 [AV.int IntKind.i64 a1, AV.int IntKind.i64 a2, AV.int IntKind.i64 a3, AV.int IntKind.i64 a4, AV.int IntKind.i64 a5, AV.int IntKind.i64 a6, AV.int IntKind.i64 a7, AV.int IntKind.i64 a8, AV.int IntKind.i64 a9, AV.int IntKind.i64 a10, AV.int IntKind.i64 a11, AV.int IntKind.i64 a12, AV.int IntKind.i64 a13, AV.int IntKind.i64 a14], Ob.prow 63 [AV.ptr 0 0, AV.ptr 0 1, AV.ptr 0 2, AV.ptr 0 3, AV.ptr 0 4, AV.ptr 0 5, AV.ptr 0 6, AV.ptr 0 7, AV.ptr 0 8, AV.ptr 0 9]], n := 1 }
def f22_q2 (R : AV → List Ob → Prop) : Ex → St → Prop := blockA 2 (seqQ tab eS0 (subC [1, 1, 1, 1] (bodyOf Try.f22)) [2] (endA tab Try.f22 R))
def f22_loop2 (R : AV → List Ob → Prop) (a1 : Int) (a2 : Int) (a3 : Int) (a4 : Int) (a5 : Int) (a6 : Int) (a7 : Int) (a8 : Int) (a9 : Int) (a10 : Int) (a11 : Int) (a12 : Int) (a13 : Int) (a14 : Int) : Prop := loopT f22_live2 (codeA tab eS0 (subC [1, 1, 1, 0, 1, 0, 0] (bodyOf Try.f22)) f22_live2) (f22_head2 a1 a2 a3 a4 a5 a6 a7 a8 a9 a10 a11 a12 a13 a14) (f22_q2 R)
theorem f22_eq2 (R : AV → List Ob → Prop) (a1 : Int) (a2 : Int) (a3 : Int) (a4 : Int) (a5 : Int) (a6 : Int) (a7 : Int) (a8 : Int) (a9 : Int) (a10 : Int) (a11 : Int) (a12 : Int) (a13 : Int) (a14 : Int) : loopU f22_live2 (codeA tab eS0 (subC [1, 1, 1, 0, 1, 0, 0] (bodyOf Try.f22)) f22_live2) 40 (f22_head2 a1 a2 a3 a4 a5 a6 a7 a8 a9 a10 a11 a12 a13 a14) (f22_q2 R) = ((0 : Int) ≤ 0 ∧ (0 : Int) < 4 ∧ Nat.le 88 140737488355328 ∧ (0 : Int) ≤ 1 ∧ (1 : Int) < 4 ∧ Nat.le 96 140737488355328 ∧ (0 : Int) ≤ 2 ∧ (2 : Int) < 4 ∧ Nat.le 104 140737488355328 ∧ (0 : Int) ≤ 3 ∧ (3 : Int) < 4 ∧ Nat.le 112 140737488355328 ∧ R (AV.prow 1) [Ob.cells 50 [AV.int IntKind.i64 a1, AV.int IntKind.i64 a2, AV.int IntKind.i64 a3, AV.int IntKind.i64 a4, AV.int IntKind.i64 a5, AV.int IntKind.i64 a6, AV.int IntKind.i64 a7, AV.int IntKind.i64 a8, AV.int IntKind.i64 a9, AV.int IntKind.i64 a10, AV.int IntKind.i64 a11, AV.int IntKind.i64 a12, AV.int IntKind.i64 a13, AV.int IntKind.i64 a14], Ob.prow 63 [AV.ptr 0 0, AV.ptr 0 1, AV.ptr 0 2, AV.ptr 0 3, AV.ptr 0 4, AV.ptr 0 5, AV.ptr 0 6, AV.ptr 0 7, AV.ptr 0 8, AV.ptr 0 9, AV.ptr 0 10, AV.ptr 0 11, AV.ptr 0 12, AV.ptr 0 13]]) := by kernel_rfl
theorem f22_rule2 (R : AV → List Ob → Prop) (a1 : Int) (a2 : Int) (a3 : Int) (a4 : Int) (a5 : Int) (a6 : Int) (a7 : Int) (a8 : Int) (a9 : Int) (a10 : Int) (a11 : Int) (a12 : Int) (a13 : Int) (a14 : Int) (h : (0 : Int) ≤ 0 ∧ (0 : Int) < 4 ∧ Nat.le 88 140737488355328 ∧ (0 : Int) ≤ 1 ∧ (1 : Int) < 4 ∧ Nat.le 96 140737488355328 ∧ (0 : Int) ≤ 2 ∧ (2 : Int) < 4 ∧ Nat.le 104 140737488355328 ∧ (0 : Int) ≤ 3 ∧ (3 : Int) < 4 ∧ Nat.le 112 140737488355328 ∧ R (AV.prow 1) [Ob.cells 50 [AV.int IntKind.i64 a1, AV.int IntKind.i64 a2, AV.int IntKind.i64 a3, AV.int IntKind.i64 a4, AV.int IntKind.i64 a5, AV.int IntKind.i64 a6, AV.int IntKind.i64 a7, AV.int IntKind.i64 a8, AV.int IntKind.i64 a9, AV.int IntKind.i64 a10, AV.int IntKind.i64 a11, AV.int IntKind.i64 a12, AV.int IntKind.i64 a13, AV.int IntKind.i64 a14], Ob.prow 63 [AV.ptr 0 0, AV.ptr 0 1, AV.ptr 0 2, AV.ptr 0 3, AV.ptr 0 4, AV.ptr 0 5, AV.ptr 0 6, AV.ptr 0 7, AV.ptr 0 8, AV.ptr 0 9, AV.ptr 0 10, AV.ptr 0 11, AV.ptr 0 12, AV.ptr 0 13]]) : f22_loop2 R a1 a2 a3 a4 a5 a6 a7 a8 a9 a10 a11 a12 a13 a14 := loop_rounds 40 (Eq.mpr (f22_eq2 R a1 a2 a3 a4 a5 a6 a7 a8 a9 a10 a11 a12 a13 a14) h)
theorem f22_eq1 (R : AV → List Ob → Prop) (a1 : Int) (a2 : Int) (a3 : Int) (a4 : Int) (a5 : Int) (a6 : Int) (a7 : Int) (a8 : Int) (a9 : Int) (a10 : Int) (a11 : Int) (a12 : Int) (a13 : Int) (a14 : Int) : loopU f22_live1 (codeA tab eS0 (subC [1, 1, 0, 1, 0, 0] (bodyOf Try.f22)) f22_live1) 40 (f22_head1 a1 a2 a3 a4 a5 a6 a7 a8 a9 a10 a11 a12 a13 a14) (f22_q1 R) = ((0 : Int) ≤ 0 ∧ (0 : Int) < 4 ∧ Nat.le 56 140737488355328 ∧ (0 : Int) ≤ 1 ∧ (1 : Int) < 4 ∧ Nat.le 64 140737488355328 ∧ (0 : Int) ≤ 2 ∧ (2 : Int) < 4 ∧ Nat.le 72 140737488355328 ∧ (0 : Int) ≤ 3 ∧ (3 : Int) < 4 ∧ Nat.le 80 140737488355328 ∧ f22_loop2 R a1 a2 a3 a4 a5 a6 a7 a8 a9 a10 a11 a12 a13 a14) := by kernel_rfl
theorem f22_rule1 (R : AV → List Ob → Prop) (a1 : Int) (a2 : Int) (a3 : Int) (a4 : Int) (a5 : Int) (a6 : Int) (a7 : Int) (a8 : Int) (a9 : Int) (a10 : Int) (a11 : Int) (a12 : Int) (a13 : Int) (a14 : Int) (h : (0 : Int) ≤ 0 ∧ (0 : Int) < 4 ∧ Nat.le 56 140737488355328 ∧ (0 : Int) ≤ 1 ∧ (1 : Int) < 4 ∧ Nat.le 64 140737488355328 ∧ (0 : Int) ≤ 2 ∧ (2 : Int) < 4 ∧ Nat.le 72 140737488355328 ∧ (0 : Int) ≤ 3 ∧ (3 : Int) < 4 ∧ Nat.le 80 140737488355328 ∧ f22_loop2 R a1 a2 a3 a4 a5 a6 a7 a8 a9 a10 a11 a12 a13 a14) : f22_loop1 R a1 a2 a3 a4 a5 a6 a7 a8 a9 a10 a11 a12 a13 a14 := loop_rounds 40 (Eq.mpr (f22_eq1 R a1 a2 a3 a4 a5 a6 a7 a8 a9 a10 a11 a12 a13 a14) h)
theorem f22_run (R : AV → List Ob → Prop) (a1 a2 a3 a4 a5 a6 a7 a8 a9 a10 a11 a12 a13 a14 : Int) : fnB tab eS0 Try.f22 (bodyOf Try.f22) [.ptr 0 0] [.cells 50 [.int .i64 a1, .int .i64 a2, .int .i64 a3, .int .i64 a4, .int .i64 a5, .int .i64 a6, .int .i64 a7, .int .i64 a8, .int .i64 a9, .int .i64 a10, .int .i64 a11, .int .i64 a12, .int .i64 a13, .int .i64 a14]] R = (f22_loop1 R a1 a2 a3 a4 a5 a6 a7 a8 a9 a10 a11 a12 a13 a14) := by kernel_rfl
theorem ok22 : ConOk2 Try.prog (22, con22) := by
  intro args obs t h hp
  simp only [con22] at h
  split at h
  · rename_i a1 a2 a3 a4 a5 a6 a7 a8 a9 a10 a11 a12 a13 a14
    cases h
    refine fn_ok2 envS0 tab_ok mixed Try.func22 (by kernel_rfl) (by kernel_rfl) ?_
    rw [f22_run]
    try dsimp only
    refine f22_rule1 _ a1 a2 a3 a4 a5 a6 a7 a8 a9 a10 a11 a12 a13 a14 ?_
    repeat' first | refine dec_and rfl ?_ | refine ⟨Nat.le_of_ble_eq_true rfl, ?_⟩
    refine f22_rule2 _ a1 a2 a3 a4 a5 a6 a7 a8 a9 a10 a11 a12 a13 a14 ?_
    repeat' first | refine dec_and rfl ?_ | refine ⟨Nat.le_of_ble_eq_true rfl, ?_⟩
    exact ⟨rfl, rfl⟩
  · cases h
def consS1 : Cons := (16, con16) :: consS0
def twosS1 : Cons2 := (22, con22) :: twosS0
def pansS1 : Cons3 := pansS0
def itersS1 : Cons4 := itersS0
abbrev eS1 : Env := envOf4 consS1 twosS1 pansS1 itersS1
theorem allconsS1 : ∀ c ∈ consS1, ConOk Try.prog c := all_cons ok16 allconsS0
theorem alltwosS1 : ∀ c ∈ twosS1, ConOk2 Try.prog c := all_cons ok22 alltwosS0
theorem allpansS1 : ∀ c ∈ pansS1, ConOk3 Try.prog c := allpansS0
theorem allitersS1 : ∀ c ∈ itersS1, ConOk4 Try.prog c := allitersS0
theorem envS1 : EnvOk Try.prog eS1 := envOf4_ok _ _ _ _ allconsS1 alltwosS1 allpansS1 allitersS1
def con10 : List AV → Option Tells
  | [.list 35 (.pair (.int .i64) (.pair (.int .i64) (.pair (.int .i64) (.pair (.int .i64) (.pair (.int .i64) (.pair (.int .i64) (.pair (.pair (.int .i64) (.pair (.int .i64) (.pair (.int .i64) (.int .i64)))) (.pair (.int .i64) (.pair (.int .i64) (.pair (.int .i64) (.int .i64))))))))))) xs] => some ⟨[xs.length ≤ 4096], .row 0, [.row 50 TB xs]⟩
  | _ => none
def f10_live1 : List Nat := [8, 7, 6, 8, 3, 8, 3, 2]
def f10_head1 (xs : List TB.den) (s8 : Int) (o1 : List (Int × Int × Int × Int × Int × Int × (Int × Int × Int × Int) × Int × Int × Int × Int)) : St := { slots := [AV.undef, AV.undef, AV.row 0, AV.row 1, AV.undef, AV.undef, AV.list 35 ((Ty.int IntKind.i64).pair ((Ty.int IntKind.i64).pair ((Ty.int IntKind.i64).pair ((Ty.int IntKind.i64).pair ((Ty.int IntKind.i64).pair ((Ty.int IntKind.i64).pair (((Ty.int IntKind.i64).pair ((Ty.int IntKind.i64).pair ((Ty.int IntKind.i64).pair (Ty.int IntKind.i64)))).pair ((Ty.int IntKind.i64).pair ((Ty.int IntKind.i64).pair ((Ty.int IntKind.i64).pair (Ty.int IntKind.i64))))))))))) xs, AV.int IntKind.i64 (↑xs.length : Int), AV.int IntKind.i64 s8] ++ List.replicate 10 AV.undef, obs := [Ob.row 50 ((Ty.int IntKind.i64).pair ((Ty.int IntKind.i64).pair ((Ty.int IntKind.i64).pair ((Ty.int IntKind.i64).pair ((Ty.int IntKind.i64).pair ((Ty.int IntKind.i64).pair (((Ty.int IntKind.i64).pair ((Ty.int IntKind.i64).pair ((Ty.int IntKind.i64).pair (Ty.int IntKind.i64)))).pair ((Ty.int IntKind.i64).pair ((Ty.int IntKind.i64).pair ((Ty.int IntKind.i64).pair (Ty.int IntKind.i64))))))))))) [], Ob.row 50 ((Ty.int IntKind.i64).pair ((Ty.int IntKind.i64).pair ((Ty.int IntKind.i64).pair ((Ty.int IntKind.i64).pair ((Ty.int IntKind.i64).pair ((Ty.int IntKind.i64).pair (((Ty.int IntKind.i64).pair ((Ty.int IntKind.i64).pair ((Ty.int IntKind.i64).pair (Ty.int IntKind.i64)))).pair ((Ty.int IntKind.i64).pair ((Ty.int IntKind.i64).pair ((Ty.int IntKind.i64).pair (Ty.int IntKind.i64))))))))))) o1] }
def f10_q1 (R : AV → List Ob → Prop) : Ex → St → Prop := blockA 0 (seqQ tab eS1 (subC [1, 1, 1] (bodyOf Try.f10)) [2] (endA tab Try.f10 R))
def f10_loop1 (R : AV → List Ob → Prop) (xs : List TB.den) (s8 : Int) (o1 : List (Int × Int × Int × Int × Int × Int × (Int × Int × Int × Int) × Int × Int × Int × Int)) : Prop := loopT f10_live1 (codeA tab eS1 (subC [1, 1, 0, 1, 0, 0] (bodyOf Try.f10)) f10_live1) (f10_head1 xs s8 o1) (f10_q1 R)
set_option maxHeartbeats 2000000 in
def f10_rhs1 (R : AV → List Ob → Prop) (xs : List TB.den) (J : St → Prop) (s8 : Int) (o1 : List (Int × Int × Int × Int × Int × Int × (Int × Int × Int × Int) × Int × Int × Int × Int)) : Prop := bif decide (s8 < (↑xs.length : Int)) then 0 ≤ s8 ∧ s8 < (↑xs.length : Int) ∧ (o1.length + 1) * 112 ≤ 140737488355328 ∧ J (f10_head1 xs (IntKind.i64.wrap (s8 + 1)) (o1 ++ [((xs.getD s8.toNat (0, 0, 0, 0, 0, 0, (0, 0, 0, 0), 0, 0, 0, 0)).fst, (xs.getD s8.toNat (0, 0, 0, 0, 0, 0, (0, 0, 0, 0), 0, 0, 0, 0)).snd.fst, (xs.getD s8.toNat (0, 0, 0, 0, 0, 0, (0, 0, 0, 0), 0, 0, 0, 0)).snd.snd.fst, (xs.getD s8.toNat (0, 0, 0, 0, 0, 0, (0, 0, 0, 0), 0, 0, 0, 0)).snd.snd.snd.fst, (xs.getD s8.toNat (0, 0, 0, 0, 0, 0, (0, 0, 0, 0), 0, 0, 0, 0)).snd.snd.snd.snd.fst, (xs.getD s8.toNat (0, 0, 0, 0, 0, 0, (0, 0, 0, 0), 0, 0, 0, 0)).snd.snd.snd.snd.snd.fst, ((xs.getD s8.toNat (0, 0, 0, 0, 0, 0, (0, 0, 0, 0), 0, 0, 0, 0)).snd.snd.snd.snd.snd.snd.fst.fst, (xs.getD s8.toNat (0, 0, 0, 0, 0, 0, (0, 0, 0, 0), 0, 0, 0, 0)).snd.snd.snd.snd.snd.snd.fst.snd.fst, (xs.getD s8.toNat (0, 0, 0, 0, 0, 0, (0, 0, 0, 0), 0, 0, 0, 0)).snd.snd.snd.snd.snd.snd.fst.snd.snd.fst, (xs.getD s8.toNat (0, 0, 0, 0, 0, 0, (0, 0, 0, 0), 0, 0, 0, 0)).snd.snd.snd.snd.snd.snd.fst.snd.snd.snd), (xs.getD s8.toNat (0, 0, 0, 0, 0, 0, (0, 0, 0, 0), 0, 0, 0, 0)).snd.snd.snd.snd.snd.snd.snd.fst, (xs.getD s8.toNat (0, 0, 0, 0, 0, 0, (0, 0, 0, 0), 0, 0, 0, 0)).snd.snd.snd.snd.snd.snd.snd.snd.fst, (xs.getD s8.toNat (0, 0, 0, 0, 0, 0, (0, 0, 0, 0), 0, 0, 0, 0)).snd.snd.snd.snd.snd.snd.snd.snd.snd.fst, (xs.getD s8.toNat (0, 0, 0, 0, 0, 0, (0, 0, 0, 0), 0, 0, 0, 0)).snd.snd.snd.snd.snd.snd.snd.snd.snd.snd)])) else R (AV.row 0) [Ob.row 50 ((Ty.int IntKind.i64).pair ((Ty.int IntKind.i64).pair ((Ty.int IntKind.i64).pair ((Ty.int IntKind.i64).pair ((Ty.int IntKind.i64).pair ((Ty.int IntKind.i64).pair (((Ty.int IntKind.i64).pair ((Ty.int IntKind.i64).pair ((Ty.int IntKind.i64).pair (Ty.int IntKind.i64)))).pair ((Ty.int IntKind.i64).pair ((Ty.int IntKind.i64).pair ((Ty.int IntKind.i64).pair (Ty.int IntKind.i64))))))))))) o1]
theorem f10_eq1 (R : AV → List Ob → Prop) (xs : List TB.den) (J : St → Prop) (s8 : Int) (o1 : List (Int × Int × Int × Int × Int × Int × (Int × Int × Int × Int) × Int × Int × Int × Int)) : codeA tab eS1 (subC [1, 1, 0, 1, 0, 0] (bodyOf Try.f10)) f10_live1 (f10_head1 xs s8 o1) (thenA (fun s => J (St.tidy f10_live1 s)) (f10_q1 R)) = f10_rhs1 R xs J s8 o1 := by kernel_rfl
theorem f10_rule1 (R : AV → List Ob → Prop) (xs : List TB.den) (I : Nat → (Int) → (List (Int × Int × Int × Int × Int × Int × (Int × Int × Int × Int) × Int × Int × Int × Int)) → Prop) (n : Nat) (s8 : Int) (o1 : List (Int × Int × Int × Int × Int × Int × (Int × Int × Int × Int) × Int × Int × Int × Int)) (h0 : I n s8 o1) (h : ∀ n, ∀ (s8 : Int) (o1 : List (Int × Int × Int × Int × Int × Int × (Int × Int × Int × Int) × Int × Int × Int × Int)), I n s8 o1 → f10_rhs1 R xs (fun t => ∃ m, m < n ∧ ∃ (s8 : Int) (o1 : List (Int × Int × Int × Int × Int × Int × (Int × Int × Int × Int) × Int × Int × Int × Int)), t = f10_head1 xs s8 o1 ∧ I m s8 o1) s8 o1) : f10_loop1 R xs s8 o1 :=
  loop_intro (fun n t => ∃ (s8 : Int) (o1 : List (Int × Int × Int × Int × Int × Int × (Int × Int × Int × Int) × Int × Int × Int × Int)), t = f10_head1 xs s8 o1 ∧ I n s8 o1) n ⟨s8, o1, rfl, h0⟩ (fun n t ht => by obtain ⟨s8, o1, rfl, hI⟩ := ht; exact Eq.mpr (f10_eq1 R xs (fun t => ∃ m, m < n ∧ ∃ (s8 : Int) (o1 : List (Int × Int × Int × Int × Int × Int × (Int × Int × Int × Int) × Int × Int × Int × Int)), t = f10_head1 xs s8 o1 ∧ I m s8 o1) s8 o1) (h n s8 o1 hI))
theorem f10_run (R : AV → List Ob → Prop) (xs : List TB.den) : fnA tab eS1 Try.f10 (bodyOf Try.f10) [.list 35 TB xs] R = (f10_loop1 R xs 0 []) := by kernel_rfl
theorem ok10 : ConOk Try.prog (10, con10) := by
  intro args t h hp
  simp only [con10] at h
  split at h
  · rename_i xs
    change List TB.den at xs
    cases h
    refine fn_ok envS1 tab_ok mixed Try.func10 (by kernel_rfl) (by kernel_rfl) ?_
    rw [f10_run]
    try dsimp only
    have hx := hp (xs.length ≤ 4096) (by simp)
    refine f10_rule1 _ xs (fun n i o => ∃ k : Nat, k ≤ xs.length ∧ n = xs.length - k ∧ i = k ∧ o = xs.take k) xs.length 0 [] ⟨0, by omega, by simp, rfl, by simp⟩ ?_
    rintro n i o ⟨k, hk, rfl, rfl, rfl⟩
    unfold f10_rhs1
    refine dec_split (fun hlt => ⟨by omega, hlt, ?_, ?_⟩) (fun hlt => ?_)
    · simp only [List.length_take]; omega
    · have hlt' : k < xs.length := by omega
      exact ⟨xs.length - (k + 1), by omega, _, _, rfl, k + 1, by omega, rfl, wrap_next k _ hlt' (by simp only [maxLen]; omega), (take_nextB xs k hlt').symm⟩
    · rw [take_all xs k (by omega)]
      exact ⟨rfl, rfl⟩
  · cases h
end Go.Proofs.Ytkpjcmiijlpcaaa.W
