/- The functions of layers 20 and 24 (judge's Of, diff), and what they come to. -/
import Derived.Test.YtjhhkfjabaojhaaWa
import Derived.Test.YtjhhkfjabaojhaaAwZ
import Derived.KernelRfl
set_option linter.unusedVariables false
set_option linter.unusedSimpArgs false
namespace Go.Proofs.Ytjhhkfjabaojhaa.W
open Go Go.Proofs Go.Proofs.Ytjhhkfjabaojhaa.Aw
abbrev T4 : Ty := .pair (.int .i64) (.pair (.int .i64) (.pair (.int .i64) (.int .i64)))
abbrev TL : Ty := .pair (.int .i64) (.pair T4 (.pair (.int .i64) (.int .i64)))
abbrev TC : Ty := .pair (.int .i64) (.pair T4 T4)
abbrev Rc4 := Int × Int × Int × Int
abbrev Ln := Int × Rc4 × Int × Int
theorem step4 (xs : List Rc4) (k : Nat) (h : k < xs.length) : xs.take k ++ [((xs.getD (k : Int).toNat (0, 0, 0, 0)).1, (xs.getD (k : Int).toNat (0, 0, 0, 0)).2.1, (xs.getD (k : Int).toNat (0, 0, 0, 0)).2.2.1, (xs.getD (k : Int).toNat (0, 0, 0, 0)).2.2.2)] = xs.take (k + 1) := by
  rw [getD_nat xs _ k h, take_next xs k h]
theorem stepL (xs : List Ln) (k : Nat) (h : k < xs.length) : xs.take k ++ [((xs.getD (k : Int).toNat (0, (0, 0, 0, 0), 0, 0)).1, ((xs.getD (k : Int).toNat (0, (0, 0, 0, 0), 0, 0)).2.1.1, (xs.getD (k : Int).toNat (0, (0, 0, 0, 0), 0, 0)).2.1.2.1, (xs.getD (k : Int).toNat (0, (0, 0, 0, 0), 0, 0)).2.1.2.2.1, (xs.getD (k : Int).toNat (0, (0, 0, 0, 0), 0, 0)).2.1.2.2.2), (xs.getD (k : Int).toNat (0, (0, 0, 0, 0), 0, 0)).2.2.1, (xs.getD (k : Int).toNat (0, (0, 0, 0, 0), 0, 0)).2.2.2)] = xs.take (k + 1) := by
  rw [getD_nat xs _ k h, take_next xs k h]
theorem stepB (xs : List Rc4) (ls : List Ln) (k : Nat) (h : k < ls.length) : (xs ++ (ls.take k).map fun n => n.2.1) ++ [((ls.getD (k : Int).toNat (0, (0, 0, 0, 0), 0, 0)).2.1.1, (ls.getD (k : Int).toNat (0, (0, 0, 0, 0), 0, 0)).2.1.2.1, (ls.getD (k : Int).toNat (0, (0, 0, 0, 0), 0, 0)).2.1.2.2.1, (ls.getD (k : Int).toNat (0, (0, 0, 0, 0), 0, 0)).2.1.2.2.2)] = xs ++ (ls.take (k + 1)).map fun n => n.2.1 := by
  rw [getD_nat ls _ k h, take_next ls k h, List.map_append, List.append_assoc]
  rfl
def consD0 : Cons := []
def twosD0 : Cons2 := []
def pansD0 : Cons3 := []
def itersD0 : Cons4 := []
abbrev eD0 : Env := envOf4 consD0 twosD0 pansD0 itersD0
theorem allconsD0 : ∀ c ∈ consD0, ConOk Try.prog c := all_nil
theorem alltwosD0 : ∀ c ∈ twosD0, ConOk2 Try.prog c := all_nil
theorem allpansD0 : ∀ c ∈ pansD0, ConOk3 Try.prog c := all_nil
theorem allitersD0 : ∀ c ∈ itersD0, ConOk4 Try.prog c := all_nil
theorem envD0 : EnvOk Try.prog eD0 := envOf4_ok _ _ _ _ allconsD0 alltwosD0 allpansD0 allitersD0
def con27 : List AV → Option Tells
  | [.agg (.cons (.int .i64 a) (.cons (.int .i64 b) (.cons (.int .i64 c) (.cons (.int .i64 d) .nl))))] => some ⟨[], ((AV.int IntKind.i64 a).cons ((AV.int IntKind.i64 b).cons ((AV.int IntKind.i64 c).cons ((AV.int IntKind.i64 d).cons AV.nl)))).agg, []⟩
  | _ => none
theorem f27_run (R : AV → List Ob → Prop) (a b c d : Int) : fnA tab eD0 Try.f27 (bodyOf Try.f27) [.agg (.cons (.int .i64 a) (.cons (.int .i64 b) (.cons (.int .i64 c) (.cons (.int .i64 d) .nl))))] R = ((0 : Int) ≤ 0 ∧ (0 : Int) < 4 ∧ (0 : Int) ≤ 1 ∧ (1 : Int) < 4 ∧ (0 : Int) ≤ 2 ∧ (2 : Int) < 4 ∧ (0 : Int) ≤ 3 ∧ (3 : Int) < 4 ∧ R ((AV.int IntKind.i64 a).cons ((AV.int IntKind.i64 b).cons ((AV.int IntKind.i64 c).cons ((AV.int IntKind.i64 d).cons AV.nl)))).agg []) := by kernel_rfl
theorem ok27 : ConOk Try.prog (27, con27) := by
  intro args t h hp
  simp only [con27] at h
  split at h
  · cases h
    refine fn_ok envD0 tab_ok mixed Try.func27 (by kernel_rfl) (by kernel_rfl) ?_
    rw [f27_run]
    exact ⟨of_decide_eq_true rfl, ⟨of_decide_eq_true rfl, ⟨of_decide_eq_true rfl, ⟨of_decide_eq_true rfl, ⟨of_decide_eq_true rfl, ⟨of_decide_eq_true rfl, ⟨of_decide_eq_true rfl, ⟨of_decide_eq_true rfl, ⟨rfl, rfl⟩⟩⟩⟩⟩⟩⟩⟩⟩
  · cases h
def con28 : List AV → Option Tells
  | [.agg (.cons (.int .i64 a) (.cons (.int .i64 b) (.cons (.int .i64 c) (.cons (.int .i64 d) .nl)))), .int .i64 x, .int .i64 y] => some ⟨[], ((AV.int IntKind.i64 (IntKind.i64.wrap (a + x))).cons ((AV.int IntKind.i64 (IntKind.i64.wrap (b + y))).cons ((AV.int IntKind.i64 (IntKind.i64.wrap (c + x))).cons ((AV.int IntKind.i64 (IntKind.i64.wrap (d + y))).cons AV.nl)))).agg, []⟩
  | _ => none
theorem f28_run (R : AV → List Ob → Prop) (a b c d x y : Int) : fnA tab eD0 Try.f28 (bodyOf Try.f28) [.agg (.cons (.int .i64 a) (.cons (.int .i64 b) (.cons (.int .i64 c) (.cons (.int .i64 d) .nl)))), .int .i64 x, .int .i64 y] R = ((0 : Int) ≤ 0 ∧ (0 : Int) < 4 ∧ (0 : Int) ≤ 1 ∧ (1 : Int) < 4 ∧ (0 : Int) ≤ 2 ∧ (2 : Int) < 4 ∧ (0 : Int) ≤ 3 ∧ (3 : Int) < 4 ∧ R ((AV.int IntKind.i64 (IntKind.i64.wrap (a + x))).cons ((AV.int IntKind.i64 (IntKind.i64.wrap (b + y))).cons ((AV.int IntKind.i64 (IntKind.i64.wrap (c + x))).cons ((AV.int IntKind.i64 (IntKind.i64.wrap (d + y))).cons AV.nl)))).agg []) := by kernel_rfl
theorem ok28 : ConOk Try.prog (28, con28) := by
  intro args t h hp
  simp only [con28] at h
  split at h
  · cases h
    refine fn_ok envD0 tab_ok mixed Try.func28 (by kernel_rfl) (by kernel_rfl) ?_
    rw [f28_run]
    exact ⟨of_decide_eq_true rfl, ⟨of_decide_eq_true rfl, ⟨of_decide_eq_true rfl, ⟨of_decide_eq_true rfl, ⟨of_decide_eq_true rfl, ⟨of_decide_eq_true rfl, ⟨of_decide_eq_true rfl, ⟨of_decide_eq_true rfl, ⟨rfl, rfl⟩⟩⟩⟩⟩⟩⟩⟩⟩
  · cases h
def con76 : List AV → Option Tells
  | [.agg (.cons (.int .i64 a) (.cons (.int .i64 b) (.cons (.int .i64 c) (.cons (.int .i64 d) .nl)))), .int .i64 x, .int .i64 y] => some ⟨[], ((AV.int IntKind.i64 (IntKind.i64.wrap (a + x))).cons ((AV.int IntKind.i64 (IntKind.i64.wrap (b + y))).cons ((AV.int IntKind.i64 (IntKind.i64.wrap (c + x))).cons ((AV.int IntKind.i64 (IntKind.i64.wrap (d + y))).cons AV.nl)))).agg, []⟩
  | _ => none
theorem f76_run (R : AV → List Ob → Prop) (a b c d x y : Int) : fnA tab eD0 Try.f76 (bodyOf Try.f76) [.agg (.cons (.int .i64 a) (.cons (.int .i64 b) (.cons (.int .i64 c) (.cons (.int .i64 d) .nl)))), .int .i64 x, .int .i64 y] R = (R ((AV.int IntKind.i64 (IntKind.i64.wrap (a + x))).cons ((AV.int IntKind.i64 (IntKind.i64.wrap (b + y))).cons ((AV.int IntKind.i64 (IntKind.i64.wrap (c + x))).cons ((AV.int IntKind.i64 (IntKind.i64.wrap (d + y))).cons AV.nl)))).agg []) := by kernel_rfl
theorem ok76 : ConOk Try.prog (76, con76) := by
  intro args t h hp
  simp only [con76] at h
  split at h
  · cases h
    refine fn_ok envD0 tab_ok mixed Try.func76 (by kernel_rfl) (by kernel_rfl) ?_
    rw [f76_run]
    exact ⟨rfl, rfl⟩
  · cases h
def turnSide (s : Int) : Int := if s = 1 then 2 else if s = 2 then 1 else s
def con43 : List AV → Option Tells
  | [.agg (.cons (.int .i64 a1) (.cons (.int .i64 a2) (.cons (.int .i64 a3) (.cons (.int .i64 a4) (.cons (.int .i64 a5) (.cons (.int .i64 a6) (.cons (.int .i64 a7) (.cons (.int .i64 a8) (.cons (.int .i64 a9) (.cons (.int .i64 a10) (.cons (.int .i64 a11) (.cons (.int .i64 a12) (.cons (.int .i64 a13) (.cons (.int .i64 a14) .nl))))))))))))))] => some ⟨[], .agg (.cons (.int .i64 a1) (.cons (.int .i64 a2) (.cons (.int .i64 (turnSide a3)) (.cons (.int .i64 (turnSide a4)) (.cons (.int .i64 a5) (.cons (.int .i64 a6) (.cons (.int .i64 a7) (.cons (.int .i64 a10) (.cons (.int .i64 a9) (.cons (.int .i64 a8) (.cons (.int .i64 a11) (.cons (.int .i64 a14) (.cons (.int .i64 a13) (.cons (.int .i64 a12) .nl)))))))))))))), []⟩
  | _ => none
def f43_live1 : List Nat := [11, 10, 9, 11, 11, 1, 1, 1, 2, 2]
def f43_head1 (a1 : Int) (a2 : Int) (a3 : Int) (a4 : Int) (a5 : Int) (a6 : Int) (a7 : Int) (a8 : Int) (a9 : Int) (a10 : Int) (a11 : Int) (a12 : Int) (a13 : Int) (a14 : Int) : St := { slots := [AV.undef, AV.ptr 0 0, AV.ptr 1 0] ++ List.replicate 6 AV.undef ++ [AV.prow 2, AV.int IntKind.i64 2, AV.int IntKind.i64 0] ++ List.replicate 39 AV.undef, obs := [Ob.cells 72 [AV.int IntKind.i64 a1, AV.int IntKind.i64 a2, AV.int IntKind.i64 a3, AV.int IntKind.i64 a4, AV.int IntKind.i64 a5, AV.int IntKind.i64 a6, AV.int IntKind.i64 a7, AV.int IntKind.i64 a8, AV.int IntKind.i64 a9, AV.int IntKind.i64 a10, AV.int IntKind.i64 a11, AV.int IntKind.i64 a12, AV.int IntKind.i64 a13, AV.int IntKind.i64 a14], Ob.cells 72 [AV.int IntKind.i64 0, AV.int IntKind.i64 0, AV.int IntKind.i64 0, AV.int IntKind.i64 0, AV.int IntKind.i64 0, AV.int IntKind.i64 0, AV.int IntKind.i64 0, AV.int IntKind.i64 0, AV.int IntKind.i64 0, AV.int IntKind.i64 0, AV.int IntKind.i64 0, AV.int IntKind.i64 0, AV.int IntKind.i64 0, AV.int IntKind.i64 0], Ob.prow 117 [AV.ptr 0 2, AV.ptr 0 3]] }
def f43_q1 (R : AV → List Ob → Prop) : Ex → St → Prop := blockA 0 (seqQ tab eD0 (subC [1, 1] (bodyOf Try.f43)) [2] (endA tab Try.f43 R))
def f43_loop1 (R : AV → List Ob → Prop) (a1 : Int) (a2 : Int) (a3 : Int) (a4 : Int) (a5 : Int) (a6 : Int) (a7 : Int) (a8 : Int) (a9 : Int) (a10 : Int) (a11 : Int) (a12 : Int) (a13 : Int) (a14 : Int) : Prop := loopT f43_live1 (codeA tab eD0 (subC [1, 0, 1, 0, 0] (bodyOf Try.f43)) f43_live1) (f43_head1 a1 a2 a3 a4 a5 a6 a7 a8 a9 a10 a11 a12 a13 a14) (f43_q1 R)
def f43_live2 : List Nat := [31, 30, 29, 31, 31, 1, 2, 2]
def f43_head2 (a1 : Int) (a2 : Int) (a5 : Int) (a6 : Int) (a7 : Int) (a8 : Int) (a9 : Int) (a10 : Int) (a11 : Int) (a12 : Int) (a13 : Int) (a14 : Int) : St := { slots := [AV.undef, AV.ptr 0 0, AV.ptr 1 0] ++ List.replicate 26 AV.undef ++ [AV.prow 2, AV.int IntKind.i64 2, AV.int IntKind.i64 0] ++ List.replicate 19 AV.undef, obs := [Ob.cells 72 [AV.int IntKind.i64 a1, AV.int IntKind.i64 a2, AV.int IntKind.i64 2, AV.int IntKind.i64 2, AV.int IntKind.i64 a5, AV.int IntKind.i64 a6, AV.int IntKind.i64 a7, AV.int IntKind.i64 a8, AV.int IntKind.i64 a9, AV.int IntKind.i64 a10, AV.int IntKind.i64 a11, AV.int IntKind.i64 a12, AV.int IntKind.i64 a13, AV.int IntKind.i64 a14], Ob.cells 72 [AV.int IntKind.i64 0, AV.int IntKind.i64 0, AV.int IntKind.i64 0, AV.int IntKind.i64 0, AV.int IntKind.i64 0, AV.int IntKind.i64 0, AV.int IntKind.i64 0, AV.int IntKind.i64 0, AV.int IntKind.i64 0, AV.int IntKind.i64 0, AV.int IntKind.i64 0, AV.int IntKind.i64 0, AV.int IntKind.i64 0, AV.int IntKind.i64 0], Ob.prow 119 [AV.ptr 0 6, AV.ptr 0 10]] }
def f43_q2 (R : AV → List Ob → Prop) : Ex → St → Prop := blockA 3 (seqQ tab eD0 (subC [1, 1, 1] (bodyOf Try.f43)) [2] (endA tab Try.f43 R))
def f43_loop2 (R : AV → List Ob → Prop) (a1 : Int) (a2 : Int) (a5 : Int) (a6 : Int) (a7 : Int) (a8 : Int) (a9 : Int) (a10 : Int) (a11 : Int) (a12 : Int) (a13 : Int) (a14 : Int) : Prop := loopT f43_live2 (codeA tab eD0 (subC [1, 1, 0, 1, 0, 0] (bodyOf Try.f43)) f43_live2) (f43_head2 a1 a2 a5 a6 a7 a8 a9 a10 a11 a12 a13 a14) (f43_q2 R)
theorem f43_eq2 (R : AV → List Ob → Prop) (a1 : Int) (a2 : Int) (a5 : Int) (a6 : Int) (a7 : Int) (a8 : Int) (a9 : Int) (a10 : Int) (a11 : Int) (a12 : Int) (a13 : Int) (a14 : Int) : loopU f43_live2 (codeA tab eD0 (subC [1, 1, 0, 1, 0, 0] (bodyOf Try.f43)) f43_live2) 40 (f43_head2 a1 a2 a5 a6 a7 a8 a9 a10 a11 a12 a13 a14) (f43_q2 R) = ((0 : Int) ≤ 0 ∧ (0 : Int) < 2 ∧ (0 : Int) ≤ 3 ∧ (3 : Int) < 4 ∧ (0 : Int) ≤ 1 ∧ (1 : Int) < 4 ∧ (0 : Int) ≤ 1 ∧ (1 : Int) < 4 ∧ (0 : Int) ≤ 3 ∧ (3 : Int) < 4 ∧ (0 : Int) ≤ 1 ∧ (1 : Int) < 2 ∧ (0 : Int) ≤ 3 ∧ (3 : Int) < 4 ∧ (0 : Int) ≤ 1 ∧ (1 : Int) < 4 ∧ (0 : Int) ≤ 1 ∧ (1 : Int) < 4 ∧ (0 : Int) ≤ 3 ∧ (3 : Int) < 4 ∧ R ((AV.int IntKind.i64 a1).cons ((AV.int IntKind.i64 a2).cons ((AV.int IntKind.i64 2).cons ((AV.int IntKind.i64 2).cons ((AV.int IntKind.i64 a5).cons ((AV.int IntKind.i64 a6).cons ((AV.int IntKind.i64 a7).cons ((AV.int IntKind.i64 a10).cons ((AV.int IntKind.i64 a9).cons ((AV.int IntKind.i64 a8).cons ((AV.int IntKind.i64 a11).cons ((AV.int IntKind.i64 a14).cons ((AV.int IntKind.i64 a13).cons ((AV.int IntKind.i64 a12).cons AV.nl)))))))))))))).agg []) := by kernel_rfl
theorem f43_rule2 (R : AV → List Ob → Prop) (a1 : Int) (a2 : Int) (a5 : Int) (a6 : Int) (a7 : Int) (a8 : Int) (a9 : Int) (a10 : Int) (a11 : Int) (a12 : Int) (a13 : Int) (a14 : Int) (h : (0 : Int) ≤ 0 ∧ (0 : Int) < 2 ∧ (0 : Int) ≤ 3 ∧ (3 : Int) < 4 ∧ (0 : Int) ≤ 1 ∧ (1 : Int) < 4 ∧ (0 : Int) ≤ 1 ∧ (1 : Int) < 4 ∧ (0 : Int) ≤ 3 ∧ (3 : Int) < 4 ∧ (0 : Int) ≤ 1 ∧ (1 : Int) < 2 ∧ (0 : Int) ≤ 3 ∧ (3 : Int) < 4 ∧ (0 : Int) ≤ 1 ∧ (1 : Int) < 4 ∧ (0 : Int) ≤ 1 ∧ (1 : Int) < 4 ∧ (0 : Int) ≤ 3 ∧ (3 : Int) < 4 ∧ R ((AV.int IntKind.i64 a1).cons ((AV.int IntKind.i64 a2).cons ((AV.int IntKind.i64 2).cons ((AV.int IntKind.i64 2).cons ((AV.int IntKind.i64 a5).cons ((AV.int IntKind.i64 a6).cons ((AV.int IntKind.i64 a7).cons ((AV.int IntKind.i64 a10).cons ((AV.int IntKind.i64 a9).cons ((AV.int IntKind.i64 a8).cons ((AV.int IntKind.i64 a11).cons ((AV.int IntKind.i64 a14).cons ((AV.int IntKind.i64 a13).cons ((AV.int IntKind.i64 a12).cons AV.nl)))))))))))))).agg []) : f43_loop2 R a1 a2 a5 a6 a7 a8 a9 a10 a11 a12 a13 a14 := loop_rounds 40 (Eq.mpr (f43_eq2 R a1 a2 a5 a6 a7 a8 a9 a10 a11 a12 a13 a14) h)
def f43_live3 : List Nat := [31, 30, 29, 31, 31, 1, 2, 2]
def f43_head3 (a1 : Int) (a2 : Int) (a5 : Int) (a6 : Int) (a7 : Int) (a8 : Int) (a9 : Int) (a10 : Int) (a11 : Int) (a12 : Int) (a13 : Int) (a14 : Int) : St := { slots := [AV.undef, AV.ptr 0 0, AV.ptr 1 0] ++ List.replicate 26 AV.undef ++ [AV.prow 2, AV.int IntKind.i64 2, AV.int IntKind.i64 0] ++ List.replicate 19 AV.undef, obs := [Ob.cells 72 [AV.int IntKind.i64 a1, AV.int IntKind.i64 a2, AV.int IntKind.i64 2, AV.int IntKind.i64 1, AV.int IntKind.i64 a5, AV.int IntKind.i64 a6, AV.int IntKind.i64 a7, AV.int IntKind.i64 a8, AV.int IntKind.i64 a9, AV.int IntKind.i64 a10, AV.int IntKind.i64 a11, AV.int IntKind.i64 a12, AV.int IntKind.i64 a13, AV.int IntKind.i64 a14], Ob.cells 72 [AV.int IntKind.i64 0, AV.int IntKind.i64 0, AV.int IntKind.i64 0, AV.int IntKind.i64 0, AV.int IntKind.i64 0, AV.int IntKind.i64 0, AV.int IntKind.i64 0, AV.int IntKind.i64 0, AV.int IntKind.i64 0, AV.int IntKind.i64 0, AV.int IntKind.i64 0, AV.int IntKind.i64 0, AV.int IntKind.i64 0, AV.int IntKind.i64 0], Ob.prow 119 [AV.ptr 0 6, AV.ptr 0 10]] }
def f43_q3 (R : AV → List Ob → Prop) : Ex → St → Prop := blockA 3 (seqQ tab eD0 (subC [1, 1, 1] (bodyOf Try.f43)) [2] (endA tab Try.f43 R))
def f43_loop3 (R : AV → List Ob → Prop) (a1 : Int) (a2 : Int) (a5 : Int) (a6 : Int) (a7 : Int) (a8 : Int) (a9 : Int) (a10 : Int) (a11 : Int) (a12 : Int) (a13 : Int) (a14 : Int) : Prop := loopT f43_live3 (codeA tab eD0 (subC [1, 1, 0, 1, 0, 0] (bodyOf Try.f43)) f43_live3) (f43_head3 a1 a2 a5 a6 a7 a8 a9 a10 a11 a12 a13 a14) (f43_q3 R)
theorem f43_eq3 (R : AV → List Ob → Prop) (a1 : Int) (a2 : Int) (a5 : Int) (a6 : Int) (a7 : Int) (a8 : Int) (a9 : Int) (a10 : Int) (a11 : Int) (a12 : Int) (a13 : Int) (a14 : Int) : loopU f43_live3 (codeA tab eD0 (subC [1, 1, 0, 1, 0, 0] (bodyOf Try.f43)) f43_live3) 40 (f43_head3 a1 a2 a5 a6 a7 a8 a9 a10 a11 a12 a13 a14) (f43_q3 R) = ((0 : Int) ≤ 0 ∧ (0 : Int) < 2 ∧ (0 : Int) ≤ 3 ∧ (3 : Int) < 4 ∧ (0 : Int) ≤ 1 ∧ (1 : Int) < 4 ∧ (0 : Int) ≤ 1 ∧ (1 : Int) < 4 ∧ (0 : Int) ≤ 3 ∧ (3 : Int) < 4 ∧ (0 : Int) ≤ 1 ∧ (1 : Int) < 2 ∧ (0 : Int) ≤ 3 ∧ (3 : Int) < 4 ∧ (0 : Int) ≤ 1 ∧ (1 : Int) < 4 ∧ (0 : Int) ≤ 1 ∧ (1 : Int) < 4 ∧ (0 : Int) ≤ 3 ∧ (3 : Int) < 4 ∧ R ((AV.int IntKind.i64 a1).cons ((AV.int IntKind.i64 a2).cons ((AV.int IntKind.i64 2).cons ((AV.int IntKind.i64 1).cons ((AV.int IntKind.i64 a5).cons ((AV.int IntKind.i64 a6).cons ((AV.int IntKind.i64 a7).cons ((AV.int IntKind.i64 a10).cons ((AV.int IntKind.i64 a9).cons ((AV.int IntKind.i64 a8).cons ((AV.int IntKind.i64 a11).cons ((AV.int IntKind.i64 a14).cons ((AV.int IntKind.i64 a13).cons ((AV.int IntKind.i64 a12).cons AV.nl)))))))))))))).agg []) := by kernel_rfl
theorem f43_rule3 (R : AV → List Ob → Prop) (a1 : Int) (a2 : Int) (a5 : Int) (a6 : Int) (a7 : Int) (a8 : Int) (a9 : Int) (a10 : Int) (a11 : Int) (a12 : Int) (a13 : Int) (a14 : Int) (h : (0 : Int) ≤ 0 ∧ (0 : Int) < 2 ∧ (0 : Int) ≤ 3 ∧ (3 : Int) < 4 ∧ (0 : Int) ≤ 1 ∧ (1 : Int) < 4 ∧ (0 : Int) ≤ 1 ∧ (1 : Int) < 4 ∧ (0 : Int) ≤ 3 ∧ (3 : Int) < 4 ∧ (0 : Int) ≤ 1 ∧ (1 : Int) < 2 ∧ (0 : Int) ≤ 3 ∧ (3 : Int) < 4 ∧ (0 : Int) ≤ 1 ∧ (1 : Int) < 4 ∧ (0 : Int) ≤ 1 ∧ (1 : Int) < 4 ∧ (0 : Int) ≤ 3 ∧ (3 : Int) < 4 ∧ R ((AV.int IntKind.i64 a1).cons ((AV.int IntKind.i64 a2).cons ((AV.int IntKind.i64 2).cons ((AV.int IntKind.i64 1).cons ((AV.int IntKind.i64 a5).cons ((AV.int IntKind.i64 a6).cons ((AV.int IntKind.i64 a7).cons ((AV.int IntKind.i64 a10).cons ((AV.int IntKind.i64 a9).cons ((AV.int IntKind.i64 a8).cons ((AV.int IntKind.i64 a11).cons ((AV.int IntKind.i64 a14).cons ((AV.int IntKind.i64 a13).cons ((AV.int IntKind.i64 a12).cons AV.nl)))))))))))))).agg []) : f43_loop3 R a1 a2 a5 a6 a7 a8 a9 a10 a11 a12 a13 a14 := loop_rounds 40 (Eq.mpr (f43_eq3 R a1 a2 a5 a6 a7 a8 a9 a10 a11 a12 a13 a14) h)
def f43_live4 : List Nat := [31, 30, 29, 31, 31, 1, 2, 2]
def f43_head4 (a1 : Int) (a2 : Int) (a4 : Int) (a5 : Int) (a6 : Int) (a7 : Int) (a8 : Int) (a9 : Int) (a10 : Int) (a11 : Int) (a12 : Int) (a13 : Int) (a14 : Int) : St := { slots := [AV.undef, AV.ptr 0 0, AV.ptr 1 0] ++ List.replicate 26 AV.undef ++ [AV.prow 2, AV.int IntKind.i64 2, AV.int IntKind.i64 0] ++ List.replicate 19 AV.undef, obs := [Ob.cells 72 [AV.int IntKind.i64 a1, AV.int IntKind.i64 a2, AV.int IntKind.i64 2, AV.int IntKind.i64 a4, AV.int IntKind.i64 a5, AV.int IntKind.i64 a6, AV.int IntKind.i64 a7, AV.int IntKind.i64 a8, AV.int IntKind.i64 a9, AV.int IntKind.i64 a10, AV.int IntKind.i64 a11, AV.int IntKind.i64 a12, AV.int IntKind.i64 a13, AV.int IntKind.i64 a14], Ob.cells 72 [AV.int IntKind.i64 0, AV.int IntKind.i64 0, AV.int IntKind.i64 0, AV.int IntKind.i64 0, AV.int IntKind.i64 0, AV.int IntKind.i64 0, AV.int IntKind.i64 0, AV.int IntKind.i64 0, AV.int IntKind.i64 0, AV.int IntKind.i64 0, AV.int IntKind.i64 0, AV.int IntKind.i64 0, AV.int IntKind.i64 0, AV.int IntKind.i64 0], Ob.prow 119 [AV.ptr 0 6, AV.ptr 0 10]] }
def f43_q4 (R : AV → List Ob → Prop) : Ex → St → Prop := blockA 3 (seqQ tab eD0 (subC [1, 1, 1] (bodyOf Try.f43)) [2] (endA tab Try.f43 R))
def f43_loop4 (R : AV → List Ob → Prop) (a1 : Int) (a2 : Int) (a4 : Int) (a5 : Int) (a6 : Int) (a7 : Int) (a8 : Int) (a9 : Int) (a10 : Int) (a11 : Int) (a12 : Int) (a13 : Int) (a14 : Int) : Prop := loopT f43_live4 (codeA tab eD0 (subC [1, 1, 0, 1, 0, 0] (bodyOf Try.f43)) f43_live4) (f43_head4 a1 a2 a4 a5 a6 a7 a8 a9 a10 a11 a12 a13 a14) (f43_q4 R)
theorem f43_eq4 (R : AV → List Ob → Prop) (a1 : Int) (a2 : Int) (a4 : Int) (a5 : Int) (a6 : Int) (a7 : Int) (a8 : Int) (a9 : Int) (a10 : Int) (a11 : Int) (a12 : Int) (a13 : Int) (a14 : Int) : loopU f43_live4 (codeA tab eD0 (subC [1, 1, 0, 1, 0, 0] (bodyOf Try.f43)) f43_live4) 40 (f43_head4 a1 a2 a4 a5 a6 a7 a8 a9 a10 a11 a12 a13 a14) (f43_q4 R) = ((0 : Int) ≤ 0 ∧ (0 : Int) < 2 ∧ (0 : Int) ≤ 3 ∧ (3 : Int) < 4 ∧ (0 : Int) ≤ 1 ∧ (1 : Int) < 4 ∧ (0 : Int) ≤ 1 ∧ (1 : Int) < 4 ∧ (0 : Int) ≤ 3 ∧ (3 : Int) < 4 ∧ (0 : Int) ≤ 1 ∧ (1 : Int) < 2 ∧ (0 : Int) ≤ 3 ∧ (3 : Int) < 4 ∧ (0 : Int) ≤ 1 ∧ (1 : Int) < 4 ∧ (0 : Int) ≤ 1 ∧ (1 : Int) < 4 ∧ (0 : Int) ≤ 3 ∧ (3 : Int) < 4 ∧ R ((AV.int IntKind.i64 a1).cons ((AV.int IntKind.i64 a2).cons ((AV.int IntKind.i64 2).cons ((AV.int IntKind.i64 a4).cons ((AV.int IntKind.i64 a5).cons ((AV.int IntKind.i64 a6).cons ((AV.int IntKind.i64 a7).cons ((AV.int IntKind.i64 a10).cons ((AV.int IntKind.i64 a9).cons ((AV.int IntKind.i64 a8).cons ((AV.int IntKind.i64 a11).cons ((AV.int IntKind.i64 a14).cons ((AV.int IntKind.i64 a13).cons ((AV.int IntKind.i64 a12).cons AV.nl)))))))))))))).agg []) := by kernel_rfl
theorem f43_rule4 (R : AV → List Ob → Prop) (a1 : Int) (a2 : Int) (a4 : Int) (a5 : Int) (a6 : Int) (a7 : Int) (a8 : Int) (a9 : Int) (a10 : Int) (a11 : Int) (a12 : Int) (a13 : Int) (a14 : Int) (h : (0 : Int) ≤ 0 ∧ (0 : Int) < 2 ∧ (0 : Int) ≤ 3 ∧ (3 : Int) < 4 ∧ (0 : Int) ≤ 1 ∧ (1 : Int) < 4 ∧ (0 : Int) ≤ 1 ∧ (1 : Int) < 4 ∧ (0 : Int) ≤ 3 ∧ (3 : Int) < 4 ∧ (0 : Int) ≤ 1 ∧ (1 : Int) < 2 ∧ (0 : Int) ≤ 3 ∧ (3 : Int) < 4 ∧ (0 : Int) ≤ 1 ∧ (1 : Int) < 4 ∧ (0 : Int) ≤ 1 ∧ (1 : Int) < 4 ∧ (0 : Int) ≤ 3 ∧ (3 : Int) < 4 ∧ R ((AV.int IntKind.i64 a1).cons ((AV.int IntKind.i64 a2).cons ((AV.int IntKind.i64 2).cons ((AV.int IntKind.i64 a4).cons ((AV.int IntKind.i64 a5).cons ((AV.int IntKind.i64 a6).cons ((AV.int IntKind.i64 a7).cons ((AV.int IntKind.i64 a10).cons ((AV.int IntKind.i64 a9).cons ((AV.int IntKind.i64 a8).cons ((AV.int IntKind.i64 a11).cons ((AV.int IntKind.i64 a14).cons ((AV.int IntKind.i64 a13).cons ((AV.int IntKind.i64 a12).cons AV.nl)))))))))))))).agg []) : f43_loop4 R a1 a2 a4 a5 a6 a7 a8 a9 a10 a11 a12 a13 a14 := loop_rounds 40 (Eq.mpr (f43_eq4 R a1 a2 a4 a5 a6 a7 a8 a9 a10 a11 a12 a13 a14) h)
def f43_live5 : List Nat := [31, 30, 29, 31, 31, 1, 2, 2]
def f43_head5 (a1 : Int) (a2 : Int) (a5 : Int) (a6 : Int) (a7 : Int) (a8 : Int) (a9 : Int) (a10 : Int) (a11 : Int) (a12 : Int) (a13 : Int) (a14 : Int) : St := { slots := [AV.undef, AV.ptr 0 0, AV.ptr 1 0] ++ List.replicate 26 AV.undef ++ [AV.prow 2, AV.int IntKind.i64 2, AV.int IntKind.i64 0] ++ List.replicate 19 AV.undef, obs := [Ob.cells 72 [AV.int IntKind.i64 a1, AV.int IntKind.i64 a2, AV.int IntKind.i64 1, AV.int IntKind.i64 2, AV.int IntKind.i64 a5, AV.int IntKind.i64 a6, AV.int IntKind.i64 a7, AV.int IntKind.i64 a8, AV.int IntKind.i64 a9, AV.int IntKind.i64 a10, AV.int IntKind.i64 a11, AV.int IntKind.i64 a12, AV.int IntKind.i64 a13, AV.int IntKind.i64 a14], Ob.cells 72 [AV.int IntKind.i64 0, AV.int IntKind.i64 0, AV.int IntKind.i64 0, AV.int IntKind.i64 0, AV.int IntKind.i64 0, AV.int IntKind.i64 0, AV.int IntKind.i64 0, AV.int IntKind.i64 0, AV.int IntKind.i64 0, AV.int IntKind.i64 0, AV.int IntKind.i64 0, AV.int IntKind.i64 0, AV.int IntKind.i64 0, AV.int IntKind.i64 0], Ob.prow 119 [AV.ptr 0 6, AV.ptr 0 10]] }
def f43_q5 (R : AV → List Ob → Prop) : Ex → St → Prop := blockA 3 (seqQ tab eD0 (subC [1, 1, 1] (bodyOf Try.f43)) [2] (endA tab Try.f43 R))
def f43_loop5 (R : AV → List Ob → Prop) (a1 : Int) (a2 : Int) (a5 : Int) (a6 : Int) (a7 : Int) (a8 : Int) (a9 : Int) (a10 : Int) (a11 : Int) (a12 : Int) (a13 : Int) (a14 : Int) : Prop := loopT f43_live5 (codeA tab eD0 (subC [1, 1, 0, 1, 0, 0] (bodyOf Try.f43)) f43_live5) (f43_head5 a1 a2 a5 a6 a7 a8 a9 a10 a11 a12 a13 a14) (f43_q5 R)
theorem f43_eq5 (R : AV → List Ob → Prop) (a1 : Int) (a2 : Int) (a5 : Int) (a6 : Int) (a7 : Int) (a8 : Int) (a9 : Int) (a10 : Int) (a11 : Int) (a12 : Int) (a13 : Int) (a14 : Int) : loopU f43_live5 (codeA tab eD0 (subC [1, 1, 0, 1, 0, 0] (bodyOf Try.f43)) f43_live5) 40 (f43_head5 a1 a2 a5 a6 a7 a8 a9 a10 a11 a12 a13 a14) (f43_q5 R) = ((0 : Int) ≤ 0 ∧ (0 : Int) < 2 ∧ (0 : Int) ≤ 3 ∧ (3 : Int) < 4 ∧ (0 : Int) ≤ 1 ∧ (1 : Int) < 4 ∧ (0 : Int) ≤ 1 ∧ (1 : Int) < 4 ∧ (0 : Int) ≤ 3 ∧ (3 : Int) < 4 ∧ (0 : Int) ≤ 1 ∧ (1 : Int) < 2 ∧ (0 : Int) ≤ 3 ∧ (3 : Int) < 4 ∧ (0 : Int) ≤ 1 ∧ (1 : Int) < 4 ∧ (0 : Int) ≤ 1 ∧ (1 : Int) < 4 ∧ (0 : Int) ≤ 3 ∧ (3 : Int) < 4 ∧ R ((AV.int IntKind.i64 a1).cons ((AV.int IntKind.i64 a2).cons ((AV.int IntKind.i64 1).cons ((AV.int IntKind.i64 2).cons ((AV.int IntKind.i64 a5).cons ((AV.int IntKind.i64 a6).cons ((AV.int IntKind.i64 a7).cons ((AV.int IntKind.i64 a10).cons ((AV.int IntKind.i64 a9).cons ((AV.int IntKind.i64 a8).cons ((AV.int IntKind.i64 a11).cons ((AV.int IntKind.i64 a14).cons ((AV.int IntKind.i64 a13).cons ((AV.int IntKind.i64 a12).cons AV.nl)))))))))))))).agg []) := by kernel_rfl
theorem f43_rule5 (R : AV → List Ob → Prop) (a1 : Int) (a2 : Int) (a5 : Int) (a6 : Int) (a7 : Int) (a8 : Int) (a9 : Int) (a10 : Int) (a11 : Int) (a12 : Int) (a13 : Int) (a14 : Int) (h : (0 : Int) ≤ 0 ∧ (0 : Int) < 2 ∧ (0 : Int) ≤ 3 ∧ (3 : Int) < 4 ∧ (0 : Int) ≤ 1 ∧ (1 : Int) < 4 ∧ (0 : Int) ≤ 1 ∧ (1 : Int) < 4 ∧ (0 : Int) ≤ 3 ∧ (3 : Int) < 4 ∧ (0 : Int) ≤ 1 ∧ (1 : Int) < 2 ∧ (0 : Int) ≤ 3 ∧ (3 : Int) < 4 ∧ (0 : Int) ≤ 1 ∧ (1 : Int) < 4 ∧ (0 : Int) ≤ 1 ∧ (1 : Int) < 4 ∧ (0 : Int) ≤ 3 ∧ (3 : Int) < 4 ∧ R ((AV.int IntKind.i64 a1).cons ((AV.int IntKind.i64 a2).cons ((AV.int IntKind.i64 1).cons ((AV.int IntKind.i64 2).cons ((AV.int IntKind.i64 a5).cons ((AV.int IntKind.i64 a6).cons ((AV.int IntKind.i64 a7).cons ((AV.int IntKind.i64 a10).cons ((AV.int IntKind.i64 a9).cons ((AV.int IntKind.i64 a8).cons ((AV.int IntKind.i64 a11).cons ((AV.int IntKind.i64 a14).cons ((AV.int IntKind.i64 a13).cons ((AV.int IntKind.i64 a12).cons AV.nl)))))))))))))).agg []) : f43_loop5 R a1 a2 a5 a6 a7 a8 a9 a10 a11 a12 a13 a14 := loop_rounds 40 (Eq.mpr (f43_eq5 R a1 a2 a5 a6 a7 a8 a9 a10 a11 a12 a13 a14) h)
def f43_live6 : List Nat := [31, 30, 29, 31, 31, 1, 2, 2]
def f43_head6 (a1 : Int) (a2 : Int) (a5 : Int) (a6 : Int) (a7 : Int) (a8 : Int) (a9 : Int) (a10 : Int) (a11 : Int) (a12 : Int) (a13 : Int) (a14 : Int) : St := { slots := [AV.undef, AV.ptr 0 0, AV.ptr 1 0] ++ List.replicate 26 AV.undef ++ [AV.prow 2, AV.int IntKind.i64 2, AV.int IntKind.i64 0] ++ List.replicate 19 AV.undef, obs := [Ob.cells 72 [AV.int IntKind.i64 a1, AV.int IntKind.i64 a2, AV.int IntKind.i64 1, AV.int IntKind.i64 1, AV.int IntKind.i64 a5, AV.int IntKind.i64 a6, AV.int IntKind.i64 a7, AV.int IntKind.i64 a8, AV.int IntKind.i64 a9, AV.int IntKind.i64 a10, AV.int IntKind.i64 a11, AV.int IntKind.i64 a12, AV.int IntKind.i64 a13, AV.int IntKind.i64 a14], Ob.cells 72 [AV.int IntKind.i64 0, AV.int IntKind.i64 0, AV.int IntKind.i64 0, AV.int IntKind.i64 0, AV.int IntKind.i64 0, AV.int IntKind.i64 0, AV.int IntKind.i64 0, AV.int IntKind.i64 0, AV.int IntKind.i64 0, AV.int IntKind.i64 0, AV.int IntKind.i64 0, AV.int IntKind.i64 0, AV.int IntKind.i64 0, AV.int IntKind.i64 0], Ob.prow 119 [AV.ptr 0 6, AV.ptr 0 10]] }
def f43_q6 (R : AV → List Ob → Prop) : Ex → St → Prop := blockA 3 (seqQ tab eD0 (subC [1, 1, 1] (bodyOf Try.f43)) [2] (endA tab Try.f43 R))
def f43_loop6 (R : AV → List Ob → Prop) (a1 : Int) (a2 : Int) (a5 : Int) (a6 : Int) (a7 : Int) (a8 : Int) (a9 : Int) (a10 : Int) (a11 : Int) (a12 : Int) (a13 : Int) (a14 : Int) : Prop := loopT f43_live6 (codeA tab eD0 (subC [1, 1, 0, 1, 0, 0] (bodyOf Try.f43)) f43_live6) (f43_head6 a1 a2 a5 a6 a7 a8 a9 a10 a11 a12 a13 a14) (f43_q6 R)
theorem f43_eq6 (R : AV → List Ob → Prop) (a1 : Int) (a2 : Int) (a5 : Int) (a6 : Int) (a7 : Int) (a8 : Int) (a9 : Int) (a10 : Int) (a11 : Int) (a12 : Int) (a13 : Int) (a14 : Int) : loopU f43_live6 (codeA tab eD0 (subC [1, 1, 0, 1, 0, 0] (bodyOf Try.f43)) f43_live6) 40 (f43_head6 a1 a2 a5 a6 a7 a8 a9 a10 a11 a12 a13 a14) (f43_q6 R) = ((0 : Int) ≤ 0 ∧ (0 : Int) < 2 ∧ (0 : Int) ≤ 3 ∧ (3 : Int) < 4 ∧ (0 : Int) ≤ 1 ∧ (1 : Int) < 4 ∧ (0 : Int) ≤ 1 ∧ (1 : Int) < 4 ∧ (0 : Int) ≤ 3 ∧ (3 : Int) < 4 ∧ (0 : Int) ≤ 1 ∧ (1 : Int) < 2 ∧ (0 : Int) ≤ 3 ∧ (3 : Int) < 4 ∧ (0 : Int) ≤ 1 ∧ (1 : Int) < 4 ∧ (0 : Int) ≤ 1 ∧ (1 : Int) < 4 ∧ (0 : Int) ≤ 3 ∧ (3 : Int) < 4 ∧ R ((AV.int IntKind.i64 a1).cons ((AV.int IntKind.i64 a2).cons ((AV.int IntKind.i64 1).cons ((AV.int IntKind.i64 1).cons ((AV.int IntKind.i64 a5).cons ((AV.int IntKind.i64 a6).cons ((AV.int IntKind.i64 a7).cons ((AV.int IntKind.i64 a10).cons ((AV.int IntKind.i64 a9).cons ((AV.int IntKind.i64 a8).cons ((AV.int IntKind.i64 a11).cons ((AV.int IntKind.i64 a14).cons ((AV.int IntKind.i64 a13).cons ((AV.int IntKind.i64 a12).cons AV.nl)))))))))))))).agg []) := by kernel_rfl
theorem f43_rule6 (R : AV → List Ob → Prop) (a1 : Int) (a2 : Int) (a5 : Int) (a6 : Int) (a7 : Int) (a8 : Int) (a9 : Int) (a10 : Int) (a11 : Int) (a12 : Int) (a13 : Int) (a14 : Int) (h : (0 : Int) ≤ 0 ∧ (0 : Int) < 2 ∧ (0 : Int) ≤ 3 ∧ (3 : Int) < 4 ∧ (0 : Int) ≤ 1 ∧ (1 : Int) < 4 ∧ (0 : Int) ≤ 1 ∧ (1 : Int) < 4 ∧ (0 : Int) ≤ 3 ∧ (3 : Int) < 4 ∧ (0 : Int) ≤ 1 ∧ (1 : Int) < 2 ∧ (0 : Int) ≤ 3 ∧ (3 : Int) < 4 ∧ (0 : Int) ≤ 1 ∧ (1 : Int) < 4 ∧ (0 : Int) ≤ 1 ∧ (1 : Int) < 4 ∧ (0 : Int) ≤ 3 ∧ (3 : Int) < 4 ∧ R ((AV.int IntKind.i64 a1).cons ((AV.int IntKind.i64 a2).cons ((AV.int IntKind.i64 1).cons ((AV.int IntKind.i64 1).cons ((AV.int IntKind.i64 a5).cons ((AV.int IntKind.i64 a6).cons ((AV.int IntKind.i64 a7).cons ((AV.int IntKind.i64 a10).cons ((AV.int IntKind.i64 a9).cons ((AV.int IntKind.i64 a8).cons ((AV.int IntKind.i64 a11).cons ((AV.int IntKind.i64 a14).cons ((AV.int IntKind.i64 a13).cons ((AV.int IntKind.i64 a12).cons AV.nl)))))))))))))).agg []) : f43_loop6 R a1 a2 a5 a6 a7 a8 a9 a10 a11 a12 a13 a14 := loop_rounds 40 (Eq.mpr (f43_eq6 R a1 a2 a5 a6 a7 a8 a9 a10 a11 a12 a13 a14) h)
def f43_live7 : List Nat := [31, 30, 29, 31, 31, 1, 2, 2]
def f43_head7 (a1 : Int) (a2 : Int) (a4 : Int) (a5 : Int) (a6 : Int) (a7 : Int) (a8 : Int) (a9 : Int) (a10 : Int) (a11 : Int) (a12 : Int) (a13 : Int) (a14 : Int) : St := { slots := [AV.undef, AV.ptr 0 0, AV.ptr 1 0] ++ List.replicate 26 AV.undef ++ [AV.prow 2, AV.int IntKind.i64 2, AV.int IntKind.i64 0] ++ List.replicate 19 AV.undef, obs := [Ob.cells 72 [AV.int IntKind.i64 a1, AV.int IntKind.i64 a2, AV.int IntKind.i64 1, AV.int IntKind.i64 a4, AV.int IntKind.i64 a5, AV.int IntKind.i64 a6, AV.int IntKind.i64 a7, AV.int IntKind.i64 a8, AV.int IntKind.i64 a9, AV.int IntKind.i64 a10, AV.int IntKind.i64 a11, AV.int IntKind.i64 a12, AV.int IntKind.i64 a13, AV.int IntKind.i64 a14], Ob.cells 72 [AV.int IntKind.i64 0, AV.int IntKind.i64 0, AV.int IntKind.i64 0, AV.int IntKind.i64 0, AV.int IntKind.i64 0, AV.int IntKind.i64 0, AV.int IntKind.i64 0, AV.int IntKind.i64 0, AV.int IntKind.i64 0, AV.int IntKind.i64 0, AV.int IntKind.i64 0, AV.int IntKind.i64 0, AV.int IntKind.i64 0, AV.int IntKind.i64 0], Ob.prow 119 [AV.ptr 0 6, AV.ptr 0 10]] }
def f43_q7 (R : AV → List Ob → Prop) : Ex → St → Prop := blockA 3 (seqQ tab eD0 (subC [1, 1, 1] (bodyOf Try.f43)) [2] (endA tab Try.f43 R))
def f43_loop7 (R : AV → List Ob → Prop) (a1 : Int) (a2 : Int) (a4 : Int) (a5 : Int) (a6 : Int) (a7 : Int) (a8 : Int) (a9 : Int) (a10 : Int) (a11 : Int) (a12 : Int) (a13 : Int) (a14 : Int) : Prop := loopT f43_live7 (codeA tab eD0 (subC [1, 1, 0, 1, 0, 0] (bodyOf Try.f43)) f43_live7) (f43_head7 a1 a2 a4 a5 a6 a7 a8 a9 a10 a11 a12 a13 a14) (f43_q7 R)
theorem f43_eq7 (R : AV → List Ob → Prop) (a1 : Int) (a2 : Int) (a4 : Int) (a5 : Int) (a6 : Int) (a7 : Int) (a8 : Int) (a9 : Int) (a10 : Int) (a11 : Int) (a12 : Int) (a13 : Int) (a14 : Int) : loopU f43_live7 (codeA tab eD0 (subC [1, 1, 0, 1, 0, 0] (bodyOf Try.f43)) f43_live7) 40 (f43_head7 a1 a2 a4 a5 a6 a7 a8 a9 a10 a11 a12 a13 a14) (f43_q7 R) = ((0 : Int) ≤ 0 ∧ (0 : Int) < 2 ∧ (0 : Int) ≤ 3 ∧ (3 : Int) < 4 ∧ (0 : Int) ≤ 1 ∧ (1 : Int) < 4 ∧ (0 : Int) ≤ 1 ∧ (1 : Int) < 4 ∧ (0 : Int) ≤ 3 ∧ (3 : Int) < 4 ∧ (0 : Int) ≤ 1 ∧ (1 : Int) < 2 ∧ (0 : Int) ≤ 3 ∧ (3 : Int) < 4 ∧ (0 : Int) ≤ 1 ∧ (1 : Int) < 4 ∧ (0 : Int) ≤ 1 ∧ (1 : Int) < 4 ∧ (0 : Int) ≤ 3 ∧ (3 : Int) < 4 ∧ R ((AV.int IntKind.i64 a1).cons ((AV.int IntKind.i64 a2).cons ((AV.int IntKind.i64 1).cons ((AV.int IntKind.i64 a4).cons ((AV.int IntKind.i64 a5).cons ((AV.int IntKind.i64 a6).cons ((AV.int IntKind.i64 a7).cons ((AV.int IntKind.i64 a10).cons ((AV.int IntKind.i64 a9).cons ((AV.int IntKind.i64 a8).cons ((AV.int IntKind.i64 a11).cons ((AV.int IntKind.i64 a14).cons ((AV.int IntKind.i64 a13).cons ((AV.int IntKind.i64 a12).cons AV.nl)))))))))))))).agg []) := by kernel_rfl
theorem f43_rule7 (R : AV → List Ob → Prop) (a1 : Int) (a2 : Int) (a4 : Int) (a5 : Int) (a6 : Int) (a7 : Int) (a8 : Int) (a9 : Int) (a10 : Int) (a11 : Int) (a12 : Int) (a13 : Int) (a14 : Int) (h : (0 : Int) ≤ 0 ∧ (0 : Int) < 2 ∧ (0 : Int) ≤ 3 ∧ (3 : Int) < 4 ∧ (0 : Int) ≤ 1 ∧ (1 : Int) < 4 ∧ (0 : Int) ≤ 1 ∧ (1 : Int) < 4 ∧ (0 : Int) ≤ 3 ∧ (3 : Int) < 4 ∧ (0 : Int) ≤ 1 ∧ (1 : Int) < 2 ∧ (0 : Int) ≤ 3 ∧ (3 : Int) < 4 ∧ (0 : Int) ≤ 1 ∧ (1 : Int) < 4 ∧ (0 : Int) ≤ 1 ∧ (1 : Int) < 4 ∧ (0 : Int) ≤ 3 ∧ (3 : Int) < 4 ∧ R ((AV.int IntKind.i64 a1).cons ((AV.int IntKind.i64 a2).cons ((AV.int IntKind.i64 1).cons ((AV.int IntKind.i64 a4).cons ((AV.int IntKind.i64 a5).cons ((AV.int IntKind.i64 a6).cons ((AV.int IntKind.i64 a7).cons ((AV.int IntKind.i64 a10).cons ((AV.int IntKind.i64 a9).cons ((AV.int IntKind.i64 a8).cons ((AV.int IntKind.i64 a11).cons ((AV.int IntKind.i64 a14).cons ((AV.int IntKind.i64 a13).cons ((AV.int IntKind.i64 a12).cons AV.nl)))))))))))))).agg []) : f43_loop7 R a1 a2 a4 a5 a6 a7 a8 a9 a10 a11 a12 a13 a14 := loop_rounds 40 (Eq.mpr (f43_eq7 R a1 a2 a4 a5 a6 a7 a8 a9 a10 a11 a12 a13 a14) h)
def f43_live8 : List Nat := [31, 30, 29, 31, 31, 1, 2, 2]
def f43_head8 (a1 : Int) (a2 : Int) (a3 : Int) (a5 : Int) (a6 : Int) (a7 : Int) (a8 : Int) (a9 : Int) (a10 : Int) (a11 : Int) (a12 : Int) (a13 : Int) (a14 : Int) : St := { slots := [AV.undef, AV.ptr 0 0, AV.ptr 1 0] ++ List.replicate 26 AV.undef ++ [AV.prow 2, AV.int IntKind.i64 2, AV.int IntKind.i64 0] ++ List.replicate 19 AV.undef, obs := [Ob.cells 72 [AV.int IntKind.i64 a1, AV.int IntKind.i64 a2, AV.int IntKind.i64 a3, AV.int IntKind.i64 2, AV.int IntKind.i64 a5, AV.int IntKind.i64 a6, AV.int IntKind.i64 a7, AV.int IntKind.i64 a8, AV.int IntKind.i64 a9, AV.int IntKind.i64 a10, AV.int IntKind.i64 a11, AV.int IntKind.i64 a12, AV.int IntKind.i64 a13, AV.int IntKind.i64 a14], Ob.cells 72 [AV.int IntKind.i64 0, AV.int IntKind.i64 0, AV.int IntKind.i64 0, AV.int IntKind.i64 0, AV.int IntKind.i64 0, AV.int IntKind.i64 0, AV.int IntKind.i64 0, AV.int IntKind.i64 0, AV.int IntKind.i64 0, AV.int IntKind.i64 0, AV.int IntKind.i64 0, AV.int IntKind.i64 0, AV.int IntKind.i64 0, AV.int IntKind.i64 0], Ob.prow 119 [AV.ptr 0 6, AV.ptr 0 10]] }
def f43_q8 (R : AV → List Ob → Prop) : Ex → St → Prop := blockA 3 (seqQ tab eD0 (subC [1, 1, 1] (bodyOf Try.f43)) [2] (endA tab Try.f43 R))
def f43_loop8 (R : AV → List Ob → Prop) (a1 : Int) (a2 : Int) (a3 : Int) (a5 : Int) (a6 : Int) (a7 : Int) (a8 : Int) (a9 : Int) (a10 : Int) (a11 : Int) (a12 : Int) (a13 : Int) (a14 : Int) : Prop := loopT f43_live8 (codeA tab eD0 (subC [1, 1, 0, 1, 0, 0] (bodyOf Try.f43)) f43_live8) (f43_head8 a1 a2 a3 a5 a6 a7 a8 a9 a10 a11 a12 a13 a14) (f43_q8 R)
theorem f43_eq8 (R : AV → List Ob → Prop) (a1 : Int) (a2 : Int) (a3 : Int) (a5 : Int) (a6 : Int) (a7 : Int) (a8 : Int) (a9 : Int) (a10 : Int) (a11 : Int) (a12 : Int) (a13 : Int) (a14 : Int) : loopU f43_live8 (codeA tab eD0 (subC [1, 1, 0, 1, 0, 0] (bodyOf Try.f43)) f43_live8) 40 (f43_head8 a1 a2 a3 a5 a6 a7 a8 a9 a10 a11 a12 a13 a14) (f43_q8 R) = ((0 : Int) ≤ 0 ∧ (0 : Int) < 2 ∧ (0 : Int) ≤ 3 ∧ (3 : Int) < 4 ∧ (0 : Int) ≤ 1 ∧ (1 : Int) < 4 ∧ (0 : Int) ≤ 1 ∧ (1 : Int) < 4 ∧ (0 : Int) ≤ 3 ∧ (3 : Int) < 4 ∧ (0 : Int) ≤ 1 ∧ (1 : Int) < 2 ∧ (0 : Int) ≤ 3 ∧ (3 : Int) < 4 ∧ (0 : Int) ≤ 1 ∧ (1 : Int) < 4 ∧ (0 : Int) ≤ 1 ∧ (1 : Int) < 4 ∧ (0 : Int) ≤ 3 ∧ (3 : Int) < 4 ∧ R ((AV.int IntKind.i64 a1).cons ((AV.int IntKind.i64 a2).cons ((AV.int IntKind.i64 a3).cons ((AV.int IntKind.i64 2).cons ((AV.int IntKind.i64 a5).cons ((AV.int IntKind.i64 a6).cons ((AV.int IntKind.i64 a7).cons ((AV.int IntKind.i64 a10).cons ((AV.int IntKind.i64 a9).cons ((AV.int IntKind.i64 a8).cons ((AV.int IntKind.i64 a11).cons ((AV.int IntKind.i64 a14).cons ((AV.int IntKind.i64 a13).cons ((AV.int IntKind.i64 a12).cons AV.nl)))))))))))))).agg []) := by kernel_rfl
theorem f43_rule8 (R : AV → List Ob → Prop) (a1 : Int) (a2 : Int) (a3 : Int) (a5 : Int) (a6 : Int) (a7 : Int) (a8 : Int) (a9 : Int) (a10 : Int) (a11 : Int) (a12 : Int) (a13 : Int) (a14 : Int) (h : (0 : Int) ≤ 0 ∧ (0 : Int) < 2 ∧ (0 : Int) ≤ 3 ∧ (3 : Int) < 4 ∧ (0 : Int) ≤ 1 ∧ (1 : Int) < 4 ∧ (0 : Int) ≤ 1 ∧ (1 : Int) < 4 ∧ (0 : Int) ≤ 3 ∧ (3 : Int) < 4 ∧ (0 : Int) ≤ 1 ∧ (1 : Int) < 2 ∧ (0 : Int) ≤ 3 ∧ (3 : Int) < 4 ∧ (0 : Int) ≤ 1 ∧ (1 : Int) < 4 ∧ (0 : Int) ≤ 1 ∧ (1 : Int) < 4 ∧ (0 : Int) ≤ 3 ∧ (3 : Int) < 4 ∧ R ((AV.int IntKind.i64 a1).cons ((AV.int IntKind.i64 a2).cons ((AV.int IntKind.i64 a3).cons ((AV.int IntKind.i64 2).cons ((AV.int IntKind.i64 a5).cons ((AV.int IntKind.i64 a6).cons ((AV.int IntKind.i64 a7).cons ((AV.int IntKind.i64 a10).cons ((AV.int IntKind.i64 a9).cons ((AV.int IntKind.i64 a8).cons ((AV.int IntKind.i64 a11).cons ((AV.int IntKind.i64 a14).cons ((AV.int IntKind.i64 a13).cons ((AV.int IntKind.i64 a12).cons AV.nl)))))))))))))).agg []) : f43_loop8 R a1 a2 a3 a5 a6 a7 a8 a9 a10 a11 a12 a13 a14 := loop_rounds 40 (Eq.mpr (f43_eq8 R a1 a2 a3 a5 a6 a7 a8 a9 a10 a11 a12 a13 a14) h)
def f43_live9 : List Nat := [31, 30, 29, 31, 31, 1, 2, 2]
def f43_head9 (a1 : Int) (a2 : Int) (a3 : Int) (a5 : Int) (a6 : Int) (a7 : Int) (a8 : Int) (a9 : Int) (a10 : Int) (a11 : Int) (a12 : Int) (a13 : Int) (a14 : Int) : St := { slots := [AV.undef, AV.ptr 0 0, AV.ptr 1 0] ++ List.replicate 26 AV.undef ++ [AV.prow 2, AV.int IntKind.i64 2, AV.int IntKind.i64 0] ++ List.replicate 19 AV.undef, obs := [Ob.cells 72 [AV.int IntKind.i64 a1, AV.int IntKind.i64 a2, AV.int IntKind.i64 a3, AV.int IntKind.i64 1, AV.int IntKind.i64 a5, AV.int IntKind.i64 a6, AV.int IntKind.i64 a7, AV.int IntKind.i64 a8, AV.int IntKind.i64 a9, AV.int IntKind.i64 a10, AV.int IntKind.i64 a11, AV.int IntKind.i64 a12, AV.int IntKind.i64 a13, AV.int IntKind.i64 a14], Ob.cells 72 [AV.int IntKind.i64 0, AV.int IntKind.i64 0, AV.int IntKind.i64 0, AV.int IntKind.i64 0, AV.int IntKind.i64 0, AV.int IntKind.i64 0, AV.int IntKind.i64 0, AV.int IntKind.i64 0, AV.int IntKind.i64 0, AV.int IntKind.i64 0, AV.int IntKind.i64 0, AV.int IntKind.i64 0, AV.int IntKind.i64 0, AV.int IntKind.i64 0], Ob.prow 119 [AV.ptr 0 6, AV.ptr 0 10]] }
def f43_q9 (R : AV → List Ob → Prop) : Ex → St → Prop := blockA 3 (seqQ tab eD0 (subC [1, 1, 1] (bodyOf Try.f43)) [2] (endA tab Try.f43 R))
def f43_loop9 (R : AV → List Ob → Prop) (a1 : Int) (a2 : Int) (a3 : Int) (a5 : Int) (a6 : Int) (a7 : Int) (a8 : Int) (a9 : Int) (a10 : Int) (a11 : Int) (a12 : Int) (a13 : Int) (a14 : Int) : Prop := loopT f43_live9 (codeA tab eD0 (subC [1, 1, 0, 1, 0, 0] (bodyOf Try.f43)) f43_live9) (f43_head9 a1 a2 a3 a5 a6 a7 a8 a9 a10 a11 a12 a13 a14) (f43_q9 R)
theorem f43_eq9 (R : AV → List Ob → Prop) (a1 : Int) (a2 : Int) (a3 : Int) (a5 : Int) (a6 : Int) (a7 : Int) (a8 : Int) (a9 : Int) (a10 : Int) (a11 : Int) (a12 : Int) (a13 : Int) (a14 : Int) : loopU f43_live9 (codeA tab eD0 (subC [1, 1, 0, 1, 0, 0] (bodyOf Try.f43)) f43_live9) 40 (f43_head9 a1 a2 a3 a5 a6 a7 a8 a9 a10 a11 a12 a13 a14) (f43_q9 R) = ((0 : Int) ≤ 0 ∧ (0 : Int) < 2 ∧ (0 : Int) ≤ 3 ∧ (3 : Int) < 4 ∧ (0 : Int) ≤ 1 ∧ (1 : Int) < 4 ∧ (0 : Int) ≤ 1 ∧ (1 : Int) < 4 ∧ (0 : Int) ≤ 3 ∧ (3 : Int) < 4 ∧ (0 : Int) ≤ 1 ∧ (1 : Int) < 2 ∧ (0 : Int) ≤ 3 ∧ (3 : Int) < 4 ∧ (0 : Int) ≤ 1 ∧ (1 : Int) < 4 ∧ (0 : Int) ≤ 1 ∧ (1 : Int) < 4 ∧ (0 : Int) ≤ 3 ∧ (3 : Int) < 4 ∧ R ((AV.int IntKind.i64 a1).cons ((AV.int IntKind.i64 a2).cons ((AV.int IntKind.i64 a3).cons ((AV.int IntKind.i64 1).cons ((AV.int IntKind.i64 a5).cons ((AV.int IntKind.i64 a6).cons ((AV.int IntKind.i64 a7).cons ((AV.int IntKind.i64 a10).cons ((AV.int IntKind.i64 a9).cons ((AV.int IntKind.i64 a8).cons ((AV.int IntKind.i64 a11).cons ((AV.int IntKind.i64 a14).cons ((AV.int IntKind.i64 a13).cons ((AV.int IntKind.i64 a12).cons AV.nl)))))))))))))).agg []) := by kernel_rfl
theorem f43_rule9 (R : AV → List Ob → Prop) (a1 : Int) (a2 : Int) (a3 : Int) (a5 : Int) (a6 : Int) (a7 : Int) (a8 : Int) (a9 : Int) (a10 : Int) (a11 : Int) (a12 : Int) (a13 : Int) (a14 : Int) (h : (0 : Int) ≤ 0 ∧ (0 : Int) < 2 ∧ (0 : Int) ≤ 3 ∧ (3 : Int) < 4 ∧ (0 : Int) ≤ 1 ∧ (1 : Int) < 4 ∧ (0 : Int) ≤ 1 ∧ (1 : Int) < 4 ∧ (0 : Int) ≤ 3 ∧ (3 : Int) < 4 ∧ (0 : Int) ≤ 1 ∧ (1 : Int) < 2 ∧ (0 : Int) ≤ 3 ∧ (3 : Int) < 4 ∧ (0 : Int) ≤ 1 ∧ (1 : Int) < 4 ∧ (0 : Int) ≤ 1 ∧ (1 : Int) < 4 ∧ (0 : Int) ≤ 3 ∧ (3 : Int) < 4 ∧ R ((AV.int IntKind.i64 a1).cons ((AV.int IntKind.i64 a2).cons ((AV.int IntKind.i64 a3).cons ((AV.int IntKind.i64 1).cons ((AV.int IntKind.i64 a5).cons ((AV.int IntKind.i64 a6).cons ((AV.int IntKind.i64 a7).cons ((AV.int IntKind.i64 a10).cons ((AV.int IntKind.i64 a9).cons ((AV.int IntKind.i64 a8).cons ((AV.int IntKind.i64 a11).cons ((AV.int IntKind.i64 a14).cons ((AV.int IntKind.i64 a13).cons ((AV.int IntKind.i64 a12).cons AV.nl)))))))))))))).agg []) : f43_loop9 R a1 a2 a3 a5 a6 a7 a8 a9 a10 a11 a12 a13 a14 := loop_rounds 40 (Eq.mpr (f43_eq9 R a1 a2 a3 a5 a6 a7 a8 a9 a10 a11 a12 a13 a14) h)
def f43_live10 : List Nat := [31, 30, 29, 31, 31, 1, 2, 2]
def f43_head10 (a1 : Int) (a2 : Int) (a3 : Int) (a4 : Int) (a5 : Int) (a6 : Int) (a7 : Int) (a8 : Int) (a9 : Int) (a10 : Int) (a11 : Int) (a12 : Int) (a13 : Int) (a14 : Int) : St := { slots := [AV.undef, AV.ptr 0 0, AV.ptr 1 0] ++ List.replicate 26 AV.undef ++ [AV.prow 2, AV.int IntKind.i64 2, AV.int IntKind.i64 0] ++ List.replicate 19 AV.undef, obs := [Ob.cells 72 [AV.int IntKind.i64 a1, AV.int IntKind.i64 a2, AV.int IntKind.i64 a3, AV.int IntKind.i64 a4, AV.int IntKind.i64 a5, AV.int IntKind.i64 a6, AV.int IntKind.i64 a7, AV.int IntKind.i64 a8, AV.int IntKind.i64 a9, AV.int IntKind.i64 a10, AV.int IntKind.i64 a11, AV.int IntKind.i64 a12, AV.int IntKind.i64 a13, AV.int IntKind.i64 a14], Ob.cells 72 [AV.int IntKind.i64 0, AV.int IntKind.i64 0, AV.int IntKind.i64 0, AV.int IntKind.i64 0, AV.int IntKind.i64 0, AV.int IntKind.i64 0, AV.int IntKind.i64 0, AV.int IntKind.i64 0, AV.int IntKind.i64 0, AV.int IntKind.i64 0, AV.int IntKind.i64 0, AV.int IntKind.i64 0, AV.int IntKind.i64 0, AV.int IntKind.i64 0], Ob.prow 119 [AV.ptr 0 6, AV.ptr 0 10]] }
def f43_q10 (R : AV → List Ob → Prop) : Ex → St → Prop := blockA 3 (seqQ tab eD0 (subC [1, 1, 1] (bodyOf Try.f43)) [2] (endA tab Try.f43 R))
def f43_loop10 (R : AV → List Ob → Prop) (a1 : Int) (a2 : Int) (a3 : Int) (a4 : Int) (a5 : Int) (a6 : Int) (a7 : Int) (a8 : Int) (a9 : Int) (a10 : Int) (a11 : Int) (a12 : Int) (a13 : Int) (a14 : Int) : Prop := loopT f43_live10 (codeA tab eD0 (subC [1, 1, 0, 1, 0, 0] (bodyOf Try.f43)) f43_live10) (f43_head10 a1 a2 a3 a4 a5 a6 a7 a8 a9 a10 a11 a12 a13 a14) (f43_q10 R)
theorem f43_eq10 (R : AV → List Ob → Prop) (a1 : Int) (a2 : Int) (a3 : Int) (a4 : Int) (a5 : Int) (a6 : Int) (a7 : Int) (a8 : Int) (a9 : Int) (a10 : Int) (a11 : Int) (a12 : Int) (a13 : Int) (a14 : Int) : loopU f43_live10 (codeA tab eD0 (subC [1, 1, 0, 1, 0, 0] (bodyOf Try.f43)) f43_live10) 40 (f43_head10 a1 a2 a3 a4 a5 a6 a7 a8 a9 a10 a11 a12 a13 a14) (f43_q10 R) = ((0 : Int) ≤ 0 ∧ (0 : Int) < 2 ∧ (0 : Int) ≤ 3 ∧ (3 : Int) < 4 ∧ (0 : Int) ≤ 1 ∧ (1 : Int) < 4 ∧ (0 : Int) ≤ 1 ∧ (1 : Int) < 4 ∧ (0 : Int) ≤ 3 ∧ (3 : Int) < 4 ∧ (0 : Int) ≤ 1 ∧ (1 : Int) < 2 ∧ (0 : Int) ≤ 3 ∧ (3 : Int) < 4 ∧ (0 : Int) ≤ 1 ∧ (1 : Int) < 4 ∧ (0 : Int) ≤ 1 ∧ (1 : Int) < 4 ∧ (0 : Int) ≤ 3 ∧ (3 : Int) < 4 ∧ R ((AV.int IntKind.i64 a1).cons ((AV.int IntKind.i64 a2).cons ((AV.int IntKind.i64 a3).cons ((AV.int IntKind.i64 a4).cons ((AV.int IntKind.i64 a5).cons ((AV.int IntKind.i64 a6).cons ((AV.int IntKind.i64 a7).cons ((AV.int IntKind.i64 a10).cons ((AV.int IntKind.i64 a9).cons ((AV.int IntKind.i64 a8).cons ((AV.int IntKind.i64 a11).cons ((AV.int IntKind.i64 a14).cons ((AV.int IntKind.i64 a13).cons ((AV.int IntKind.i64 a12).cons AV.nl)))))))))))))).agg []) := by kernel_rfl
theorem f43_rule10 (R : AV → List Ob → Prop) (a1 : Int) (a2 : Int) (a3 : Int) (a4 : Int) (a5 : Int) (a6 : Int) (a7 : Int) (a8 : Int) (a9 : Int) (a10 : Int) (a11 : Int) (a12 : Int) (a13 : Int) (a14 : Int) (h : (0 : Int) ≤ 0 ∧ (0 : Int) < 2 ∧ (0 : Int) ≤ 3 ∧ (3 : Int) < 4 ∧ (0 : Int) ≤ 1 ∧ (1 : Int) < 4 ∧ (0 : Int) ≤ 1 ∧ (1 : Int) < 4 ∧ (0 : Int) ≤ 3 ∧ (3 : Int) < 4 ∧ (0 : Int) ≤ 1 ∧ (1 : Int) < 2 ∧ (0 : Int) ≤ 3 ∧ (3 : Int) < 4 ∧ (0 : Int) ≤ 1 ∧ (1 : Int) < 4 ∧ (0 : Int) ≤ 1 ∧ (1 : Int) < 4 ∧ (0 : Int) ≤ 3 ∧ (3 : Int) < 4 ∧ R ((AV.int IntKind.i64 a1).cons ((AV.int IntKind.i64 a2).cons ((AV.int IntKind.i64 a3).cons ((AV.int IntKind.i64 a4).cons ((AV.int IntKind.i64 a5).cons ((AV.int IntKind.i64 a6).cons ((AV.int IntKind.i64 a7).cons ((AV.int IntKind.i64 a10).cons ((AV.int IntKind.i64 a9).cons ((AV.int IntKind.i64 a8).cons ((AV.int IntKind.i64 a11).cons ((AV.int IntKind.i64 a14).cons ((AV.int IntKind.i64 a13).cons ((AV.int IntKind.i64 a12).cons AV.nl)))))))))))))).agg []) : f43_loop10 R a1 a2 a3 a4 a5 a6 a7 a8 a9 a10 a11 a12 a13 a14 := loop_rounds 40 (Eq.mpr (f43_eq10 R a1 a2 a3 a4 a5 a6 a7 a8 a9 a10 a11 a12 a13 a14) h)
theorem f43_eq1 (R : AV → List Ob → Prop) (a1 : Int) (a2 : Int) (a3 : Int) (a4 : Int) (a5 : Int) (a6 : Int) (a7 : Int) (a8 : Int) (a9 : Int) (a10 : Int) (a11 : Int) (a12 : Int) (a13 : Int) (a14 : Int) : loopU f43_live1 (codeA tab eD0 (subC [1, 0, 1, 0, 0] (bodyOf Try.f43)) f43_live1) 40 (f43_head1 a1 a2 a3 a4 a5 a6 a7 a8 a9 a10 a11 a12 a13 a14) (f43_q1 R) = ((0 : Int) ≤ 0 ∧ (0 : Int) < 2 ∧ bif a3 == 1 then (0 : Int) ≤ 1 ∧ (1 : Int) < 2 ∧ bif a4 == 1 then f43_loop2 R a1 a2 a5 a6 a7 a8 a9 a10 a11 a12 a13 a14 else bif a4 == 2 then f43_loop3 R a1 a2 a5 a6 a7 a8 a9 a10 a11 a12 a13 a14 else f43_loop4 R a1 a2 a4 a5 a6 a7 a8 a9 a10 a11 a12 a13 a14 else bif a3 == 2 then (0 : Int) ≤ 1 ∧ (1 : Int) < 2 ∧ bif a4 == 1 then f43_loop5 R a1 a2 a5 a6 a7 a8 a9 a10 a11 a12 a13 a14 else bif a4 == 2 then f43_loop6 R a1 a2 a5 a6 a7 a8 a9 a10 a11 a12 a13 a14 else f43_loop7 R a1 a2 a4 a5 a6 a7 a8 a9 a10 a11 a12 a13 a14 else (0 : Int) ≤ 1 ∧ (1 : Int) < 2 ∧ bif a4 == 1 then f43_loop8 R a1 a2 a3 a5 a6 a7 a8 a9 a10 a11 a12 a13 a14 else bif a4 == 2 then f43_loop9 R a1 a2 a3 a5 a6 a7 a8 a9 a10 a11 a12 a13 a14 else f43_loop10 R a1 a2 a3 a4 a5 a6 a7 a8 a9 a10 a11 a12 a13 a14) := by kernel_rfl
theorem f43_rule1 (R : AV → List Ob → Prop) (a1 : Int) (a2 : Int) (a3 : Int) (a4 : Int) (a5 : Int) (a6 : Int) (a7 : Int) (a8 : Int) (a9 : Int) (a10 : Int) (a11 : Int) (a12 : Int) (a13 : Int) (a14 : Int) (h : (0 : Int) ≤ 0 ∧ (0 : Int) < 2 ∧ bif a3 == 1 then (0 : Int) ≤ 1 ∧ (1 : Int) < 2 ∧ bif a4 == 1 then f43_loop2 R a1 a2 a5 a6 a7 a8 a9 a10 a11 a12 a13 a14 else bif a4 == 2 then f43_loop3 R a1 a2 a5 a6 a7 a8 a9 a10 a11 a12 a13 a14 else f43_loop4 R a1 a2 a4 a5 a6 a7 a8 a9 a10 a11 a12 a13 a14 else bif a3 == 2 then (0 : Int) ≤ 1 ∧ (1 : Int) < 2 ∧ bif a4 == 1 then f43_loop5 R a1 a2 a5 a6 a7 a8 a9 a10 a11 a12 a13 a14 else bif a4 == 2 then f43_loop6 R a1 a2 a5 a6 a7 a8 a9 a10 a11 a12 a13 a14 else f43_loop7 R a1 a2 a4 a5 a6 a7 a8 a9 a10 a11 a12 a13 a14 else (0 : Int) ≤ 1 ∧ (1 : Int) < 2 ∧ bif a4 == 1 then f43_loop8 R a1 a2 a3 a5 a6 a7 a8 a9 a10 a11 a12 a13 a14 else bif a4 == 2 then f43_loop9 R a1 a2 a3 a5 a6 a7 a8 a9 a10 a11 a12 a13 a14 else f43_loop10 R a1 a2 a3 a4 a5 a6 a7 a8 a9 a10 a11 a12 a13 a14) : f43_loop1 R a1 a2 a3 a4 a5 a6 a7 a8 a9 a10 a11 a12 a13 a14 := loop_rounds 40 (Eq.mpr (f43_eq1 R a1 a2 a3 a4 a5 a6 a7 a8 a9 a10 a11 a12 a13 a14) h)
theorem f43_run (R : AV → List Ob → Prop) (a1 a2 a3 a4 a5 a6 a7 a8 a9 a10 a11 a12 a13 a14 : Int) : fnA tab eD0 Try.f43 (bodyOf Try.f43) [.agg (.cons (.int .i64 a1) (.cons (.int .i64 a2) (.cons (.int .i64 a3) (.cons (.int .i64 a4) (.cons (.int .i64 a5) (.cons (.int .i64 a6) (.cons (.int .i64 a7) (.cons (.int .i64 a8) (.cons (.int .i64 a9) (.cons (.int .i64 a10) (.cons (.int .i64 a11) (.cons (.int .i64 a12) (.cons (.int .i64 a13) (.cons (.int .i64 a14) .nl))))))))))))))] R = (f43_loop1 R a1 a2 a3 a4 a5 a6 a7 a8 a9 a10 a11 a12 a13 a14) := by kernel_rfl
theorem ok43 : ConOk Try.prog (43, con43) := by
  intro args t h hp
  simp only [con43] at h
  split at h
  · rename_i a1 a2 a3 a4 a5 a6 a7 a8 a9 a10 a11 a12 a13 a14
    cases h
    refine fn_ok envD0 tab_ok mixed Try.func43 (by kernel_rfl) (by kernel_rfl) ?_
    rw [f43_run]
    dsimp only
    refine f43_rule1 _ a1 a2 a3 a4 a5 a6 a7 a8 a9 a10 a11 a12 a13 a14 (dec_and rfl (dec_and rfl ?_))
    repeat' first
      | refine dec_and rfl ?_
      | refine cond_split (fun _ => ?_) (fun _ => ?_)
      | refine f43_rule2 _ _ _ _ _ _ _ _ _ _ _ _ _ ?_
      | refine f43_rule3 _ _ _ _ _ _ _ _ _ _ _ _ _ ?_
      | refine f43_rule4 _ _ _ _ _ _ _ _ _ _ _ _ _ _ ?_
      | refine f43_rule5 _ _ _ _ _ _ _ _ _ _ _ _ _ ?_
      | refine f43_rule6 _ _ _ _ _ _ _ _ _ _ _ _ _ ?_
      | refine f43_rule7 _ _ _ _ _ _ _ _ _ _ _ _ _ _ ?_
      | refine f43_rule8 _ _ _ _ _ _ _ _ _ _ _ _ _ _ ?_
      | refine f43_rule9 _ _ _ _ _ _ _ _ _ _ _ _ _ _ ?_
      | refine f43_rule10 _ _ _ _ _ _ _ _ _ _ _ _ _ _ _ ?_
    all_goals
      refine ⟨?_, rfl⟩
      simp_all [turnSide]
  · cases h
def consD1 : Cons := (27, con27) :: (28, con28) :: (76, con76) :: (43, con43) :: consD0
def twosD1 : Cons2 := twosD0
def pansD1 : Cons3 := pansD0
def itersD1 : Cons4 := itersD0
abbrev eD1 : Env := envOf4 consD1 twosD1 pansD1 itersD1
theorem allconsD1 : ∀ c ∈ consD1, ConOk Try.prog c := all_cons ok27 (all_cons ok28 (all_cons ok76 (all_cons ok43 allconsD0)))
theorem alltwosD1 : ∀ c ∈ twosD1, ConOk2 Try.prog c := alltwosD0
theorem allpansD1 : ∀ c ∈ pansD1, ConOk3 Try.prog c := allpansD0
theorem allitersD1 : ∀ c ∈ itersD1, ConOk4 Try.prog c := allitersD0
theorem envD1 : EnvOk Try.prog eD1 := envOf4_ok _ _ _ _ allconsD1 alltwosD1 allpansD1 allitersD1
def con37 : List AV → Option Tells
  | [] => some ⟨[], AV.bool true, []⟩
  | _ => none
theorem f37_run (R : AV → List Ob → Prop)  : fnA tab eD1 Try.f37 (bodyOf Try.f37) [] R = (R (AV.bool true) []) := by kernel_rfl
theorem ok37 : ConOk Try.prog (37, con37) := by
  intro args t h hp
  simp only [con37] at h
  split at h
  · cases h
    refine fn_ok envD1 tab_ok mixed Try.func37 (by kernel_rfl) (by kernel_rfl) ?_
    rw [f37_run]
    exact ⟨rfl, rfl⟩
  · cases h
def con40 : List AV → Option Tells
  | [.agg (.cons (.list 45 (.pair (.int .i64) (.pair (.int .i64) (.pair (.int .i64) (.int .i64)))) xs) (.cons (.list 111 (.pair (.int .i64) (.pair (.pair (.int .i64) (.pair (.int .i64) (.pair (.int .i64) (.int .i64)))) (.pair (.int .i64) (.int .i64)))) ys) .nl))] => some ⟨[xs.length ≤ 4096, ys.length ≤ 4096], .agg (.cons (.row 0) (.cons (.row 1) .nl)), [.row 47 T4 xs, .row 106 TL ys]⟩
  | _ => none
def f40_live1 : List Nat := [11, 10, 9, 11, 3, 3, 11, 1, 3, 3, 3, 2, 2]
def f40_head1 (xs : List T4.den) (ys : List TL.den) (s11 : Int) (o5 : List (Int × Int × Int × Int)) : St := { slots := [AV.undef, AV.ptr 0 0, AV.ptr 1 0, AV.ptr 2 0] ++ List.replicate 5 AV.undef ++ [AV.list 45 ((Ty.int IntKind.i64).pair ((Ty.int IntKind.i64).pair ((Ty.int IntKind.i64).pair (Ty.int IntKind.i64)))) xs, AV.int IntKind.i64 (↑xs.length : Int), AV.int IntKind.i64 s11] ++ List.replicate 35 AV.undef, obs := [Ob.cells 64 [AV.list 45 ((Ty.int IntKind.i64).pair ((Ty.int IntKind.i64).pair ((Ty.int IntKind.i64).pair (Ty.int IntKind.i64)))) xs, AV.list 111 ((Ty.int IntKind.i64).pair (((Ty.int IntKind.i64).pair ((Ty.int IntKind.i64).pair ((Ty.int IntKind.i64).pair (Ty.int IntKind.i64)))).pair ((Ty.int IntKind.i64).pair (Ty.int IntKind.i64)))) ys], Ob.cells 40 [AV.row 3, AV.row 4], Ob.cells 40 [AV.row 5, AV.row 6], Ob.row 47 ((Ty.int IntKind.i64).pair ((Ty.int IntKind.i64).pair ((Ty.int IntKind.i64).pair (Ty.int IntKind.i64)))) [], Ob.row 106 ((Ty.int IntKind.i64).pair (((Ty.int IntKind.i64).pair ((Ty.int IntKind.i64).pair ((Ty.int IntKind.i64).pair (Ty.int IntKind.i64)))).pair ((Ty.int IntKind.i64).pair (Ty.int IntKind.i64)))) [], Ob.row 47 ((Ty.int IntKind.i64).pair ((Ty.int IntKind.i64).pair ((Ty.int IntKind.i64).pair (Ty.int IntKind.i64)))) o5, Ob.row 106 ((Ty.int IntKind.i64).pair (((Ty.int IntKind.i64).pair ((Ty.int IntKind.i64).pair ((Ty.int IntKind.i64).pair (Ty.int IntKind.i64)))).pair ((Ty.int IntKind.i64).pair (Ty.int IntKind.i64)))) []] }
def f40_q1 (R : AV → List Ob → Prop) : Ex → St → Prop := blockA 0 (seqQ tab eD1 (subC [1, 1, 1] (bodyOf Try.f40)) [2] (endA tab Try.f40 R))
def f40_loop1 (R : AV → List Ob → Prop) (xs : List T4.den) (ys : List TL.den) (s11 : Int) (o5 : List (Int × Int × Int × Int)) : Prop := loopT f40_live1 (codeA tab eD1 (subC [1, 1, 0, 1, 0, 0] (bodyOf Try.f40)) f40_live1) (f40_head1 xs ys s11 o5) (f40_q1 R)
def f40_live2 : List Nat := [26, 25, 24, 26, 3, 3, 26, 3, 2, 2]
def f40_head2 (ys : List TL.den) (o5 : List (Int × Int × Int × Int)) (s26' : Int) (o5' : List (Int × (Int × Int × Int × Int) × Int × Int)) : St := { slots := [AV.undef, AV.undef, AV.ptr 0 0, AV.ptr 1 0] ++ List.replicate 20 AV.undef ++ [AV.list 111 ((Ty.int IntKind.i64).pair (((Ty.int IntKind.i64).pair ((Ty.int IntKind.i64).pair ((Ty.int IntKind.i64).pair (Ty.int IntKind.i64)))).pair ((Ty.int IntKind.i64).pair (Ty.int IntKind.i64)))) ys, AV.int IntKind.i64 (↑ys.length : Int), AV.int IntKind.i64 s26'] ++ List.replicate 20 AV.undef, obs := [Ob.cells 40 [AV.row 2, AV.row 3], Ob.cells 40 [AV.row 4, AV.row 5], Ob.row 47 ((Ty.int IntKind.i64).pair ((Ty.int IntKind.i64).pair ((Ty.int IntKind.i64).pair (Ty.int IntKind.i64)))) [], Ob.row 106 ((Ty.int IntKind.i64).pair (((Ty.int IntKind.i64).pair ((Ty.int IntKind.i64).pair ((Ty.int IntKind.i64).pair (Ty.int IntKind.i64)))).pair ((Ty.int IntKind.i64).pair (Ty.int IntKind.i64)))) [], Ob.row 47 ((Ty.int IntKind.i64).pair ((Ty.int IntKind.i64).pair ((Ty.int IntKind.i64).pair (Ty.int IntKind.i64)))) o5, Ob.row 106 ((Ty.int IntKind.i64).pair (((Ty.int IntKind.i64).pair ((Ty.int IntKind.i64).pair ((Ty.int IntKind.i64).pair (Ty.int IntKind.i64)))).pair ((Ty.int IntKind.i64).pair (Ty.int IntKind.i64)))) o5'] }
def f40_q2 (R : AV → List Ob → Prop) : Ex → St → Prop := blockA 2 (seqQ tab eD1 (subC [1, 1, 1, 1] (bodyOf Try.f40)) [2] (endA tab Try.f40 R))
def f40_loop2 (R : AV → List Ob → Prop) (ys : List TL.den) (o5 : List (Int × Int × Int × Int)) (s26' : Int) (o5' : List (Int × (Int × Int × Int × Int) × Int × Int)) : Prop := loopT f40_live2 (codeA tab eD1 (subC [1, 1, 1, 0, 1, 0, 0] (bodyOf Try.f40)) f40_live2) (f40_head2 ys o5 s26' o5') (f40_q2 R)
def f40_rhs2 (R : AV → List Ob → Prop) (ys : List TL.den) (o5 : List (Int × Int × Int × Int)) (J1 : St → Prop) (s26' : Int) (o5' : List (Int × (Int × Int × Int × Int) × Int × Int)) : Prop := bif decide (s26' < (↑ys.length : Int)) then 0 ≤ s26' ∧ s26' < (↑ys.length : Int) ∧ (o5'.length + 1) * 56 ≤ 140737488355328 ∧ J1 (f40_head2 ys o5 (IntKind.i64.wrap (s26' + 1)) (o5' ++ [((ys.getD s26'.toNat (0, (0, 0, 0, 0), 0, 0)).fst, ((ys.getD s26'.toNat (0, (0, 0, 0, 0), 0, 0)).snd.fst.fst, (ys.getD s26'.toNat (0, (0, 0, 0, 0), 0, 0)).snd.fst.snd.fst, (ys.getD s26'.toNat (0, (0, 0, 0, 0), 0, 0)).snd.fst.snd.snd.fst, (ys.getD s26'.toNat (0, (0, 0, 0, 0), 0, 0)).snd.fst.snd.snd.snd), (ys.getD s26'.toNat (0, (0, 0, 0, 0), 0, 0)).snd.snd.fst, (ys.getD s26'.toNat (0, (0, 0, 0, 0), 0, 0)).snd.snd.snd)])) else R ((AV.row 0).cons ((AV.row 1).cons AV.nl)).agg [Ob.row 47 ((Ty.int IntKind.i64).pair ((Ty.int IntKind.i64).pair ((Ty.int IntKind.i64).pair (Ty.int IntKind.i64)))) o5, Ob.row 106 ((Ty.int IntKind.i64).pair (((Ty.int IntKind.i64).pair ((Ty.int IntKind.i64).pair ((Ty.int IntKind.i64).pair (Ty.int IntKind.i64)))).pair ((Ty.int IntKind.i64).pair (Ty.int IntKind.i64)))) o5']
theorem f40_eq2 (R : AV → List Ob → Prop) (ys : List TL.den) (o5 : List (Int × Int × Int × Int)) (J1 : St → Prop) (s26' : Int) (o5' : List (Int × (Int × Int × Int × Int) × Int × Int)) : codeA tab eD1 (subC [1, 1, 1, 0, 1, 0, 0] (bodyOf Try.f40)) f40_live2 (f40_head2 ys o5 s26' o5') (thenA (fun s => J1 (St.tidy f40_live2 s)) (f40_q2 R)) = f40_rhs2 R ys o5 J1 s26' o5' := by kernel_rfl
theorem f40_rule2 (R : AV → List Ob → Prop) (ys : List TL.den) (o5 : List (Int × Int × Int × Int)) (I : Nat → (Int) → (List (Int × (Int × Int × Int × Int) × Int × Int)) → Prop) (n : Nat) (s26' : Int) (o5' : List (Int × (Int × Int × Int × Int) × Int × Int)) (h0 : I n s26' o5') (h : ∀ n, ∀ (s26' : Int) (o5' : List (Int × (Int × Int × Int × Int) × Int × Int)), I n s26' o5' → f40_rhs2 R ys o5 (fun t => ∃ m, m < n ∧ ∃ (s26' : Int) (o5' : List (Int × (Int × Int × Int × Int) × Int × Int)), t = f40_head2 ys o5 s26' o5' ∧ I m s26' o5') s26' o5') : f40_loop2 R ys o5 s26' o5' :=
  loop_intro (fun n t => ∃ (s26' : Int) (o5' : List (Int × (Int × Int × Int × Int) × Int × Int)), t = f40_head2 ys o5 s26' o5' ∧ I n s26' o5') n ⟨s26', o5', rfl, h0⟩ (fun n t ht => by obtain ⟨s26', o5', rfl, hI⟩ := ht; exact Eq.mpr (f40_eq2 R ys o5 (fun t => ∃ m, m < n ∧ ∃ (s26' : Int) (o5' : List (Int × (Int × Int × Int × Int) × Int × Int)), t = f40_head2 ys o5 s26' o5' ∧ I m s26' o5') s26' o5') (h n s26' o5' hI))
def f40_rhs1 (R : AV → List Ob → Prop) (xs : List T4.den) (ys : List TL.den) (J : St → Prop) (s11 : Int) (o5 : List (Int × Int × Int × Int)) : Prop := bif decide (s11 < (↑xs.length : Int)) then 0 ≤ s11 ∧ s11 < (↑xs.length : Int) ∧ (o5.length + 1) * 32 ≤ 140737488355328 ∧ J (f40_head1 xs ys (IntKind.i64.wrap (s11 + 1)) (o5 ++ [((xs.getD s11.toNat (0, 0, 0, 0)).fst, (xs.getD s11.toNat (0, 0, 0, 0)).snd.fst, (xs.getD s11.toNat (0, 0, 0, 0)).snd.snd.fst, (xs.getD s11.toNat (0, 0, 0, 0)).snd.snd.snd)])) else f40_loop2 R ys o5 0 []
theorem f40_eq1 (R : AV → List Ob → Prop) (xs : List T4.den) (ys : List TL.den) (J : St → Prop) (s11 : Int) (o5 : List (Int × Int × Int × Int)) : codeA tab eD1 (subC [1, 1, 0, 1, 0, 0] (bodyOf Try.f40)) f40_live1 (f40_head1 xs ys s11 o5) (thenA (fun s => J (St.tidy f40_live1 s)) (f40_q1 R)) = f40_rhs1 R xs ys J s11 o5 := by kernel_rfl
theorem f40_rule1 (R : AV → List Ob → Prop) (xs : List T4.den) (ys : List TL.den) (I : Nat → (Int) → (List (Int × Int × Int × Int)) → Prop) (n : Nat) (s11 : Int) (o5 : List (Int × Int × Int × Int)) (h0 : I n s11 o5) (h : ∀ n, ∀ (s11 : Int) (o5 : List (Int × Int × Int × Int)), I n s11 o5 → f40_rhs1 R xs ys (fun t => ∃ m, m < n ∧ ∃ (s11 : Int) (o5 : List (Int × Int × Int × Int)), t = f40_head1 xs ys s11 o5 ∧ I m s11 o5) s11 o5) : f40_loop1 R xs ys s11 o5 :=
  loop_intro (fun n t => ∃ (s11 : Int) (o5 : List (Int × Int × Int × Int)), t = f40_head1 xs ys s11 o5 ∧ I n s11 o5) n ⟨s11, o5, rfl, h0⟩ (fun n t ht => by obtain ⟨s11, o5, rfl, hI⟩ := ht; exact Eq.mpr (f40_eq1 R xs ys (fun t => ∃ m, m < n ∧ ∃ (s11 : Int) (o5 : List (Int × Int × Int × Int)), t = f40_head1 xs ys s11 o5 ∧ I m s11 o5) s11 o5) (h n s11 o5 hI))
theorem f40_run (R : AV → List Ob → Prop) (xs : List T4.den) (ys : List TL.den) : fnA tab eD1 Try.f40 (bodyOf Try.f40) [.agg (.cons (.list 45 T4 xs) (.cons (.list 111 TL ys) .nl))] R = (f40_loop1 R xs ys 0 []) := by kernel_rfl
theorem ok40 : ConOk Try.prog (40, con40) := by
  intro args t h hp
  simp only [con40] at h
  split at h
  · rename_i xs ys
    change List T4.den at xs
    change List TL.den at ys
    cases h
    refine fn_ok envD1 tab_ok mixed Try.func40 (by kernel_rfl) (by kernel_rfl) ?_
    rw [f40_run]
    dsimp only
    have hx := hp (xs.length ≤ 4096) (by simp)
    have hy := hp (ys.length ≤ 4096) (by simp)
    refine f40_rule1 _ xs ys (fun n i o => ∃ k : Nat, k ≤ xs.length ∧ n = xs.length - k ∧ i = k ∧ o = xs.take k) xs.length 0 [] ⟨0, by omega, by simp, rfl, by simp⟩ ?_
    rintro n i o ⟨k, hk, rfl, rfl, rfl⟩
    unfold f40_rhs1
    refine dec_split (fun hlt => ⟨by omega, hlt, ?_, ?_⟩) (fun hlt => ?_)
    · simp only [List.length_take]; omega
    · have hlt' : k < xs.length := by omega
      exact ⟨xs.length - (k + 1), by omega, _, _, rfl, k + 1, by omega, rfl, wrap_next k _ hlt' (by simp only [maxLen]; omega), step4 xs k hlt'⟩
    · rw [take_all xs k (by omega)]
      refine f40_rule2 _ ys xs (fun n i o => ∃ k : Nat, k ≤ ys.length ∧ n = ys.length - k ∧ i = k ∧ o = ys.take k) ys.length 0 [] ⟨0, by omega, by simp, rfl, by simp⟩ ?_
      rintro n i o ⟨j, hj, rfl, rfl, rfl⟩
      unfold f40_rhs2
      refine dec_split (fun hlt => ⟨by omega, hlt, ?_, ?_⟩) (fun hlt => ?_)
      · simp only [List.length_take]; omega
      · have hlt' : j < ys.length := by omega
        exact ⟨ys.length - (j + 1), by omega, _, _, rfl, j + 1, by omega, rfl, wrap_next j _ hlt' (by simp only [maxLen]; omega), stepL ys j hlt'⟩
      · rw [take_all ys j (by omega)]
        exact ⟨rfl, rfl⟩
  · cases h
def near (n : Int) : Bool := decide (-288230376151711744 ≤ n) && decide (n ≤ 288230376151711744)
def nearR (r : Rc4) : Bool := near r.1 && near r.2.1 && near r.2.2.1 && near r.2.2.2
theorem far_of (a b c d : Int) (h : ¬ ((-288230376151711744 ≤ a ∧ a ≤ 288230376151711744) ∧ (-288230376151711744 ≤ b ∧ b ≤ 288230376151711744) ∧ (-288230376151711744 ≤ c ∧ c ≤ 288230376151711744) ∧ (-288230376151711744 ≤ d ∧ d ≤ 288230376151711744))) : nearR (a, b, c, d) = false := by
  rw [Bool.eq_false_iff]
  intro hn
  simp [nearR, near] at hn
  omega
theorem near_of (a b c d : Int) (h : (-288230376151711744 ≤ a ∧ a ≤ 288230376151711744) ∧ (-288230376151711744 ≤ b ∧ b ≤ 288230376151711744) ∧ (-288230376151711744 ≤ c ∧ c ≤ 288230376151711744) ∧ (-288230376151711744 ≤ d ∧ d ≤ 288230376151711744)) : nearR (a, b, c, d) = true := by
  simp [nearR, near]
  omega
def small (xs : List Rc4) (ls : List Ln) : Bool := decide (xs.length ≤ 60) && decide (ls.length ≤ 60) && (xs ++ ls.map fun n => n.2.1).all nearR
def con38 : List AV → Option Tells
  | [.agg (.cons (.list 45 (.pair (.int .i64) (.pair (.int .i64) (.pair (.int .i64) (.int .i64)))) xs) (.cons (.list 111 (.pair (.int .i64) (.pair (.pair (.int .i64) (.pair (.int .i64) (.pair (.int .i64) (.int .i64)))) (.pair (.int .i64) (.int .i64)))) ys) .nl))] => some ⟨[xs.length ≤ maxLen, ys.length ≤ maxLen], .bool (small xs ys), []⟩
  | _ => none
def f38_live1 : List Nat := [27, 26, 25, 27, 3, 27, 3, 2]
def f38_head1 (ys : List TL.den) (s27 : Int) (o0 : List (Int × Int × Int × Int)) : St := { slots := [AV.undef, AV.undef, AV.bool false, AV.row 0] ++ List.replicate 21 AV.undef ++ [AV.list 111 ((Ty.int IntKind.i64).pair (((Ty.int IntKind.i64).pair ((Ty.int IntKind.i64).pair ((Ty.int IntKind.i64).pair (Ty.int IntKind.i64)))).pair ((Ty.int IntKind.i64).pair (Ty.int IntKind.i64)))) ys, AV.int IntKind.i64 (↑ys.length : Int), AV.int IntKind.i64 s27] ++ List.replicate 27 AV.undef, obs := [Ob.row 45 ((Ty.int IntKind.i64).pair ((Ty.int IntKind.i64).pair ((Ty.int IntKind.i64).pair (Ty.int IntKind.i64)))) o0] }
def f38_q1 (R : AV → List Ob → Prop) : Ex → St → Prop := blockA 0 (seqQ tab eD1 (subC [1, 1, 1, 1] (bodyOf Try.f38)) [2] (endA tab Try.f38 R))
def f38_loop1 (R : AV → List Ob → Prop) (ys : List TL.den) (s27 : Int) (o0 : List (Int × Int × Int × Int)) : Prop := loopT f38_live1 (codeA tab eD1 (subC [1, 1, 1, 0, 1, 0, 0] (bodyOf Try.f38)) f38_live1) (f38_head1 ys s27 o0) (f38_q1 R)
def f38_live2 : List Nat := [39, 38, 37, 39, 39, 2]
def f38_head2 (o0 : List (Int × Int × Int × Int)) (s39' : Int) : St := { slots := [AV.undef, AV.undef, AV.bool false] ++ List.replicate 34 AV.undef ++ [AV.row 0, AV.int IntKind.i64 (↑o0.length : Int), AV.int IntKind.i64 s39'] ++ List.replicate 15 AV.undef, obs := [Ob.row 45 ((Ty.int IntKind.i64).pair ((Ty.int IntKind.i64).pair ((Ty.int IntKind.i64).pair (Ty.int IntKind.i64)))) o0] }
def f38_q2 (R : AV → List Ob → Prop) : Ex → St → Prop := blockA 2 (seqQ tab eD1 (subC [1, 1, 1, 1, 1] (bodyOf Try.f38)) [2] (endA tab Try.f38 R))
def f38_loop2 (R : AV → List Ob → Prop) (o0 : List (Int × Int × Int × Int)) (s39' : Int) : Prop := loopT f38_live2 (codeA tab eD1 (subC [1, 1, 1, 1, 0, 1, 0, 0] (bodyOf Try.f38)) f38_live2) (f38_head2 o0 s39') (f38_q2 R)
def f38_live3 : List Nat := [44, 43, 44, 44, 39, 39, 38, 37, 39, 39, 2]
def f38_head3 (o0 : List (Int × Int × Int × Int)) (s39' : Int) : St := { slots := [AV.undef, AV.undef, AV.bool false] ++ List.replicate 34 AV.undef ++ [AV.row 0, AV.int IntKind.i64 (↑o0.length : Int), AV.int IntKind.i64 s39', AV.undef, AV.undef, AV.undef, ((AV.int IntKind.i64 (o0.getD s39'.toNat (0, 0, 0, 0)).fst).cons ((AV.int IntKind.i64 (o0.getD s39'.toNat (0, 0, 0, 0)).snd.fst).cons ((AV.int IntKind.i64 (o0.getD s39'.toNat (0, 0, 0, 0)).snd.snd.fst).cons ((AV.int IntKind.i64 (o0.getD s39'.toNat (0, 0, 0, 0)).snd.snd.snd).cons AV.nl)))).agg, AV.int IntKind.i64 0] ++ List.replicate 10 AV.undef, obs := [Ob.row 45 ((Ty.int IntKind.i64).pair ((Ty.int IntKind.i64).pair ((Ty.int IntKind.i64).pair (Ty.int IntKind.i64)))) o0] }
def f38_q3 (R : AV → List Ob → Prop) (J1 : St → Prop) : Ex → St → Prop := blockA 4 (blockA 3 (seqQ tab eD1 (subC [1, 1, 1, 1, 0, 1, 0, 0, 1, 1, 1] (bodyOf Try.f38)) [39, 38, 37, 39, 39, 2] (thenA (fun s => J1 (St.tidy f38_live2 s)) (blockA 2 (seqQ tab eD1 (subC [1, 1, 1, 1, 1] (bodyOf Try.f38)) [2] (endA tab Try.f38 R))))))
def f38_loop3 (R : AV → List Ob → Prop) (o0 : List (Int × Int × Int × Int)) (s39' : Int) (J1 : St → Prop) : Prop := loopT f38_live3 (codeA tab eD1 (subC [1, 1, 1, 1, 0, 1, 0, 0, 1, 1, 0, 0, 1, 1, 0, 0] (bodyOf Try.f38)) f38_live3) (f38_head3 o0 s39') (f38_q3 R J1)
theorem f38_eq3 (R : AV → List Ob → Prop) (o0 : List (Int × Int × Int × Int)) (s39' : Int) (J1 : St → Prop) : loopU f38_live3 (codeA tab eD1 (subC [1, 1, 1, 1, 0, 1, 0, 0, 1, 1, 0, 0, 1, 1, 0, 0] (bodyOf Try.f38)) f38_live3) 40 (f38_head3 o0 s39') (f38_q3 R J1) = (bif !decide ((o0.getD s39'.toNat (0, 0, 0, 0)).fst > 288230376151711744) then bif decide ((o0.getD s39'.toNat (0, 0, 0, 0)).fst < -288230376151711744) then R (AV.bool false) [] else bif !decide ((o0.getD s39'.toNat (0, 0, 0, 0)).snd.fst > 288230376151711744) then bif decide ((o0.getD s39'.toNat (0, 0, 0, 0)).snd.fst < -288230376151711744) then R (AV.bool false) [] else bif !decide ((o0.getD s39'.toNat (0, 0, 0, 0)).snd.snd.fst > 288230376151711744) then bif decide ((o0.getD s39'.toNat (0, 0, 0, 0)).snd.snd.fst < -288230376151711744) then R (AV.bool false) [] else bif !decide ((o0.getD s39'.toNat (0, 0, 0, 0)).snd.snd.snd > 288230376151711744) then bif decide ((o0.getD s39'.toNat (0, 0, 0, 0)).snd.snd.snd < -288230376151711744) then R (AV.bool false) [] else J1 (f38_head2 o0 (IntKind.i64.wrap (s39' + 1))) else R (AV.bool false) [] else R (AV.bool false) [] else R (AV.bool false) [] else R (AV.bool false) []) := by kernel_rfl
theorem f38_rule3 (R : AV → List Ob → Prop) (o0 : List (Int × Int × Int × Int)) (s39' : Int) (J1 : St → Prop) (h : bif !decide ((o0.getD s39'.toNat (0, 0, 0, 0)).fst > 288230376151711744) then bif decide ((o0.getD s39'.toNat (0, 0, 0, 0)).fst < -288230376151711744) then R (AV.bool false) [] else bif !decide ((o0.getD s39'.toNat (0, 0, 0, 0)).snd.fst > 288230376151711744) then bif decide ((o0.getD s39'.toNat (0, 0, 0, 0)).snd.fst < -288230376151711744) then R (AV.bool false) [] else bif !decide ((o0.getD s39'.toNat (0, 0, 0, 0)).snd.snd.fst > 288230376151711744) then bif decide ((o0.getD s39'.toNat (0, 0, 0, 0)).snd.snd.fst < -288230376151711744) then R (AV.bool false) [] else bif !decide ((o0.getD s39'.toNat (0, 0, 0, 0)).snd.snd.snd > 288230376151711744) then bif decide ((o0.getD s39'.toNat (0, 0, 0, 0)).snd.snd.snd < -288230376151711744) then R (AV.bool false) [] else J1 (f38_head2 o0 (IntKind.i64.wrap (s39' + 1))) else R (AV.bool false) [] else R (AV.bool false) [] else R (AV.bool false) [] else R (AV.bool false) []) : f38_loop3 R o0 s39' J1 := loop_rounds 40 (Eq.mpr (f38_eq3 R o0 s39' J1) h)
def f38_rhs2 (R : AV → List Ob → Prop) (o0 : List (Int × Int × Int × Int)) (J1 : St → Prop) (s39' : Int) : Prop := bif decide (s39' < (↑o0.length : Int)) then 0 ≤ s39' ∧ s39' < (↑o0.length : Int) ∧ f38_loop3 R o0 s39' J1 else R (AV.bool true) []
theorem f38_eq2 (R : AV → List Ob → Prop) (o0 : List (Int × Int × Int × Int)) (J1 : St → Prop) (s39' : Int) : codeA tab eD1 (subC [1, 1, 1, 1, 0, 1, 0, 0] (bodyOf Try.f38)) f38_live2 (f38_head2 o0 s39') (thenA (fun s => J1 (St.tidy f38_live2 s)) (f38_q2 R)) = f38_rhs2 R o0 J1 s39' := by kernel_rfl
theorem f38_rule2 (R : AV → List Ob → Prop) (o0 : List (Int × Int × Int × Int)) (I : Nat → (Int) → Prop) (n : Nat) (s39' : Int) (h0 : I n s39') (h : ∀ n, ∀ (s39' : Int), I n s39' → f38_rhs2 R o0 (fun t => ∃ m, m < n ∧ ∃ (s39' : Int), t = f38_head2 o0 s39' ∧ I m s39') s39') : f38_loop2 R o0 s39' :=
  loop_intro (fun n t => ∃ (s39' : Int), t = f38_head2 o0 s39' ∧ I n s39') n ⟨s39', rfl, h0⟩ (fun n t ht => by obtain ⟨s39', rfl, hI⟩ := ht; exact Eq.mpr (f38_eq2 R o0 (fun t => ∃ m, m < n ∧ ∃ (s39' : Int), t = f38_head2 o0 s39' ∧ I m s39') s39') (h n s39' hI))
def f38_rhs1 (R : AV → List Ob → Prop) (ys : List TL.den) (J : St → Prop) (s27 : Int) (o0 : List (Int × Int × Int × Int)) : Prop := bif decide (s27 < (↑ys.length : Int)) then 0 ≤ s27 ∧ s27 < (↑ys.length : Int) ∧ (o0.length + 1) * 32 ≤ 140737488355328 ∧ J (f38_head1 ys (IntKind.i64.wrap (s27 + 1)) (o0 ++ [((ys.getD s27.toNat (0, (0, 0, 0, 0), 0, 0)).snd.fst.fst, (ys.getD s27.toNat (0, (0, 0, 0, 0), 0, 0)).snd.fst.snd.fst, (ys.getD s27.toNat (0, (0, 0, 0, 0), 0, 0)).snd.fst.snd.snd.fst, (ys.getD s27.toNat (0, (0, 0, 0, 0), 0, 0)).snd.fst.snd.snd.snd)])) else f38_loop2 R o0 0
theorem f38_eq1 (R : AV → List Ob → Prop) (ys : List TL.den) (J : St → Prop) (s27 : Int) (o0 : List (Int × Int × Int × Int)) : codeA tab eD1 (subC [1, 1, 1, 0, 1, 0, 0] (bodyOf Try.f38)) f38_live1 (f38_head1 ys s27 o0) (thenA (fun s => J (St.tidy f38_live1 s)) (f38_q1 R)) = f38_rhs1 R ys J s27 o0 := by kernel_rfl
theorem f38_rule1 (R : AV → List Ob → Prop) (ys : List TL.den) (I : Nat → (Int) → (List (Int × Int × Int × Int)) → Prop) (n : Nat) (s27 : Int) (o0 : List (Int × Int × Int × Int)) (h0 : I n s27 o0) (h : ∀ n, ∀ (s27 : Int) (o0 : List (Int × Int × Int × Int)), I n s27 o0 → f38_rhs1 R ys (fun t => ∃ m, m < n ∧ ∃ (s27 : Int) (o0 : List (Int × Int × Int × Int)), t = f38_head1 ys s27 o0 ∧ I m s27 o0) s27 o0) : f38_loop1 R ys s27 o0 :=
  loop_intro (fun n t => ∃ (s27 : Int) (o0 : List (Int × Int × Int × Int)), t = f38_head1 ys s27 o0 ∧ I n s27 o0) n ⟨s27, o0, rfl, h0⟩ (fun n t ht => by obtain ⟨s27, o0, rfl, hI⟩ := ht; exact Eq.mpr (f38_eq1 R ys (fun t => ∃ m, m < n ∧ ∃ (s27 : Int) (o0 : List (Int × Int × Int × Int)), t = f38_head1 ys s27 o0 ∧ I m s27 o0) s27 o0) (h n s27 o0 hI))
theorem f38_run (R : AV → List Ob → Prop) (xs : List T4.den) (ys : List TL.den) : fnA tab eD1 Try.f38 (bodyOf Try.f38) [.agg (.cons (.list 45 T4 xs) (.cons (.list 111 TL ys) .nl))] R = (bif !decide ((↑xs.length : Int) > 60) then bif decide ((↑ys.length : Int) > 60) then R (AV.bool false) [] else (0 + xs.length) * 32 ≤ 140737488355328 ∧ f38_loop1 R ys 0 xs else R (AV.bool false) []) := by kernel_rfl
theorem ok38 : ConOk Try.prog (38, con38) := by
  intro args t h hp
  simp only [con38] at h
  split at h
  · rename_i xs ys
    change List T4.den at xs
    change List TL.den at ys
    cases h
    refine fn_ok envD1 tab_ok mixed Try.func38 (by kernel_rfl) (by kernel_rfl) ?_
    rw [f38_run]
    dsimp only
    have hx := hp (xs.length ≤ maxLen) (by simp)
    have hy := hp (ys.length ≤ maxLen) (by simp)
    refine ndec_split (fun h1 => ?_) (fun h1 => ⟨by simp [small]; intros; omega, rfl⟩)
    refine dec_split (fun h2 => ⟨by simp [small]; intros; omega, rfl⟩) (fun h2 => ⟨by omega, ?_⟩)
    refine f38_rule1 _ ys (fun n i o => ∃ k : Nat, k ≤ ys.length ∧ n = ys.length - k ∧ i = k ∧ o = xs ++ (ys.take k).map fun n => n.2.1) ys.length 0 xs ⟨0, by omega, by simp, rfl, by simp⟩ ?_
    rintro n i o ⟨k, hk, rfl, rfl, rfl⟩
    unfold f38_rhs1
    refine dec_split (fun hlt => ⟨by omega, hlt, ?_, ?_⟩) (fun hlt => ?_)
    · simp only [List.length_append, List.length_map, List.length_take]; omega
    · have hlt' : k < ys.length := by omega
      exact ⟨ys.length - (k + 1), by omega, _, _, rfl, k + 1, by omega, rfl, wrap_next k _ hlt' hy, stepB xs ys k hlt'⟩
    · rw [take_all ys k (by omega)]
      have hS : small xs ys = (xs ++ ys.map fun n => n.2.1).all nearR := by simp [small]; intros; omega
      have hlen : (xs ++ ys.map fun n => n.2.1).length ≤ maxLen := by simp only [List.length_append, List.length_map, maxLen]; omega
      rw [hS]
      generalize (xs ++ ys.map fun n => n.2.1 : List Rc4) = l at hlen
      refine f38_rule2 _ l (fun n i => ∃ k : Nat, k ≤ l.length ∧ n = l.length - k ∧ i = k ∧ (l.take k).all nearR = true) l.length 0 ⟨0, by omega, by simp, rfl, by simp⟩ ?_
      rintro n i ⟨j, hj, rfl, rfl, hall⟩
      unfold f38_rhs2
      refine dec_split (fun hlt => ⟨by omega, hlt, ?_⟩) (fun hlt => ?_)
      · have hlt' : j < l.length := by omega
        refine f38_rule3 _ l _ _ ?_
        rw [getD_nat l (0, 0, 0, 0) j hlt', wrap_next j _ hlt' hlen]
        have hnext : nearR l[j] = true → (l.take (j + 1)).all nearR = true := fun h => by rw [take_next l j hlt', List.all_append, hall]; simp [h]
        have hno : nearR l[j] = false → l.all nearR = false := fun h => by
          rw [List.all_eq_false]
          exact ⟨l[j], List.getElem_mem _, by simp [h]⟩
        generalize l[j] = r at hnext hno
        obtain ⟨a, b, c, d⟩ := r
        have far := fun h => hno (far_of a b c d h)
        refine ndec_split (fun h1 => dec_split (fun h2 => ⟨by rw [far (by simp only at *; omega)], rfl⟩) (fun h2 => ?_)) (fun h1 => ⟨by rw [far (by simp only at *; omega)], rfl⟩)
        refine ndec_split (fun h3 => dec_split (fun h4 => ⟨by rw [far (by simp only at *; omega)], rfl⟩) (fun h4 => ?_)) (fun h3 => ⟨by rw [far (by simp only at *; omega)], rfl⟩)
        refine ndec_split (fun h5 => dec_split (fun h6 => ⟨by rw [far (by simp only at *; omega)], rfl⟩) (fun h6 => ?_)) (fun h5 => ⟨by rw [far (by simp only at *; omega)], rfl⟩)
        refine ndec_split (fun h7 => dec_split (fun h8 => ⟨by rw [far (by simp only at *; omega)], rfl⟩) (fun h8 => ?_)) (fun h7 => ⟨by rw [far (by simp only at *; omega)], rfl⟩)
        exact ⟨l.length - (j + 1), by omega, _, rfl, j + 1, by omega, rfl, rfl, hnext (near_of a b c d (by simp only at *; omega))⟩
      · rw [take_all l j (by omega)] at hall
        exact ⟨by rw [hall], rfl⟩
  · cases h
def con65 : List AV → Option Tells
  | [.list 47 (.pair (.int .i64) (.pair (.int .i64) (.pair (.int .i64) (.int .i64)))) xs] => some ⟨[xs.length ≤ 4096], .row 0, [.row 47 T4 xs]⟩
  | _ => none
theorem f65_run (R : AV → List Ob → Prop) (xs : List T4.den) : fnA tab eD1 Try.f65 (bodyOf Try.f65) [.list 47 T4 xs] R = ((xs = [] → R (AV.row 0) [Ob.row 47 ((Ty.int IntKind.i64).pair ((Ty.int IntKind.i64).pair ((Ty.int IntKind.i64).pair (Ty.int IntKind.i64)))) []]) ∧ (0 + xs.length) * 32 ≤ 140737488355328 ∧ R (AV.row 0) [Ob.row 47 ((Ty.int IntKind.i64).pair ((Ty.int IntKind.i64).pair ((Ty.int IntKind.i64).pair (Ty.int IntKind.i64)))) xs]) := by kernel_rfl
theorem ok65 : ConOk Try.prog (65, con65) := by
  intro args t h hp
  simp only [con65] at h
  split at h
  · rename_i xs
    change List T4.den at xs
    cases h
    refine fn_ok envD1 tab_ok mixed Try.func65 (by kernel_rfl) (by kernel_rfl) ?_
    rw [f65_run]
    dsimp only
    have hm := hp (xs.length ≤ 4096) (by simp)
    refine ⟨fun h => ⟨rfl, ?_⟩, by omega, rfl, rfl⟩
    rw [h]
  · cases h
def consD2 : Cons := (37, con37) :: (38, con38) :: (40, con40) :: (65, con65) :: consD1
def twosD2 : Cons2 := twosD1
def pansD2 : Cons3 := pansD1
def itersD2 : Cons4 := itersD1
abbrev eD2 : Env := envOf4 consD2 twosD2 pansD2 itersD2
theorem allconsD2 : ∀ c ∈ consD2, ConOk Try.prog c := all_cons ok37 (all_cons ok38 (all_cons ok40 (all_cons ok65 allconsD1)))
theorem alltwosD2 : ∀ c ∈ twosD2, ConOk2 Try.prog c := alltwosD1
theorem allpansD2 : ∀ c ∈ pansD2, ConOk3 Try.prog c := allpansD1
theorem allitersD2 : ∀ c ∈ itersD2, ConOk4 Try.prog c := allitersD1
theorem envD2 : EnvOk Try.prog eD2 := envOf4_ok _ _ _ _ allconsD2 alltwosD2 allpansD2 allitersD2
def con78 : List AV → Option Tells
  | [.agg (.cons (.list 47 (.pair (.int .i64) (.pair (.int .i64) (.pair (.int .i64) (.int .i64)))) xs) (.cons (.list 106 (.pair (.int .i64) (.pair (.pair (.int .i64) (.pair (.int .i64) (.pair (.int .i64) (.int .i64)))) (.pair (.int .i64) (.int .i64)))) ls) .nl))] => some ⟨[xs.length ≤ 4096, ls.length ≤ 4096], .row 0, [.row 47 T4 (xs ++ ls.map fun n => n.2.1)]⟩
  | _ => none
def f78_live1 : List Nat := [12, 11, 10, 12, 3, 12, 3, 2]
def f78_head1 (ls : List TL.den) (s12 : Int) (o1 : List (Int × Int × Int × Int)) : St := { slots := [AV.undef, AV.undef, AV.row 0, AV.row 1] ++ List.replicate 6 AV.undef ++ [AV.list 106 ((Ty.int IntKind.i64).pair (((Ty.int IntKind.i64).pair ((Ty.int IntKind.i64).pair ((Ty.int IntKind.i64).pair (Ty.int IntKind.i64)))).pair ((Ty.int IntKind.i64).pair (Ty.int IntKind.i64)))) ls, AV.int IntKind.i64 (↑ls.length : Int), AV.int IntKind.i64 s12] ++ List.replicate 10 AV.undef, obs := [Ob.row 47 ((Ty.int IntKind.i64).pair ((Ty.int IntKind.i64).pair ((Ty.int IntKind.i64).pair (Ty.int IntKind.i64)))) [], Ob.row 47 ((Ty.int IntKind.i64).pair ((Ty.int IntKind.i64).pair ((Ty.int IntKind.i64).pair (Ty.int IntKind.i64)))) o1] }
def f78_q1 (R : AV → List Ob → Prop) : Ex → St → Prop := blockA 0 (seqQ tab eD2 (subC [1, 1, 1] (bodyOf Try.f78)) [2] (endA tab Try.f78 R))
def f78_loop1 (R : AV → List Ob → Prop) (ls : List TL.den) (s12 : Int) (o1 : List (Int × Int × Int × Int)) : Prop := loopT f78_live1 (codeA tab eD2 (subC [1, 1, 0, 1, 0, 0] (bodyOf Try.f78)) f78_live1) (f78_head1 ls s12 o1) (f78_q1 R)
def f78_rhs1 (R : AV → List Ob → Prop) (ls : List TL.den) (J : St → Prop) (s12 : Int) (o1 : List (Int × Int × Int × Int)) : Prop := bif decide (s12 < (↑ls.length : Int)) then 0 ≤ s12 ∧ s12 < (↑ls.length : Int) ∧ (o1.length + 1) * 32 ≤ 140737488355328 ∧ J (f78_head1 ls (IntKind.i64.wrap (s12 + 1)) (o1 ++ [((ls.getD s12.toNat (0, (0, 0, 0, 0), 0, 0)).snd.fst.fst, (ls.getD s12.toNat (0, (0, 0, 0, 0), 0, 0)).snd.fst.snd.fst, (ls.getD s12.toNat (0, (0, 0, 0, 0), 0, 0)).snd.fst.snd.snd.fst, (ls.getD s12.toNat (0, (0, 0, 0, 0), 0, 0)).snd.fst.snd.snd.snd)])) else R (AV.row 0) [Ob.row 47 ((Ty.int IntKind.i64).pair ((Ty.int IntKind.i64).pair ((Ty.int IntKind.i64).pair (Ty.int IntKind.i64)))) o1]
theorem f78_eq1 (R : AV → List Ob → Prop) (ls : List TL.den) (J : St → Prop) (s12 : Int) (o1 : List (Int × Int × Int × Int)) : codeA tab eD2 (subC [1, 1, 0, 1, 0, 0] (bodyOf Try.f78)) f78_live1 (f78_head1 ls s12 o1) (thenA (fun s => J (St.tidy f78_live1 s)) (f78_q1 R)) = f78_rhs1 R ls J s12 o1 := by kernel_rfl
theorem f78_rule1 (R : AV → List Ob → Prop) (ls : List TL.den) (I : Nat → (Int) → (List (Int × Int × Int × Int)) → Prop) (n : Nat) (s12 : Int) (o1 : List (Int × Int × Int × Int)) (h0 : I n s12 o1) (h : ∀ n, ∀ (s12 : Int) (o1 : List (Int × Int × Int × Int)), I n s12 o1 → f78_rhs1 R ls (fun t => ∃ m, m < n ∧ ∃ (s12 : Int) (o1 : List (Int × Int × Int × Int)), t = f78_head1 ls s12 o1 ∧ I m s12 o1) s12 o1) : f78_loop1 R ls s12 o1 :=
  loop_intro (fun n t => ∃ (s12 : Int) (o1 : List (Int × Int × Int × Int)), t = f78_head1 ls s12 o1 ∧ I n s12 o1) n ⟨s12, o1, rfl, h0⟩ (fun n t ht => by obtain ⟨s12, o1, rfl, hI⟩ := ht; exact Eq.mpr (f78_eq1 R ls (fun t => ∃ m, m < n ∧ ∃ (s12 : Int) (o1 : List (Int × Int × Int × Int)), t = f78_head1 ls s12 o1 ∧ I m s12 o1) s12 o1) (h n s12 o1 hI))
theorem f78_run (R : AV → List Ob → Prop) (xs : List T4.den) (ls : List TL.den) : fnA tab eD2 Try.f78 (bodyOf Try.f78) [.agg (.cons (.list 47 T4 xs) (.cons (.list 106 TL ls) .nl))] R = (xs.length ≤ 4096 ∧ f78_loop1 R ls 0 xs) := by kernel_rfl
theorem ok78 : ConOk Try.prog (78, con78) := by
  intro args t h hp
  simp only [con78] at h
  split at h
  · rename_i xs ls
    change List T4.den at xs
    change List TL.den at ls
    cases h
    refine fn_ok envD2 tab_ok mixed Try.func78 (by kernel_rfl) (by kernel_rfl) ?_
    rw [f78_run]
    dsimp only
    have hx := hp (xs.length ≤ 4096) (by simp)
    have hy := hp (ls.length ≤ 4096) (by simp)
    refine ⟨hx, ?_⟩
    refine f78_rule1 _ ls (fun n i o => ∃ k : Nat, k ≤ ls.length ∧ n = ls.length - k ∧ i = k ∧ o = xs ++ (ls.take k).map fun n => n.2.1) ls.length 0 xs ⟨0, by omega, by simp, rfl, by simp⟩ ?_
    rintro n i o ⟨k, hk, rfl, rfl, rfl⟩
    unfold f78_rhs1
    refine dec_split (fun hlt => ⟨by omega, hlt, ?_, ?_⟩) (fun hlt => ?_)
    · simp only [List.length_append, List.length_map, List.length_take]; omega
    · have hlt' : k < ls.length := by omega
      exact ⟨ls.length - (k + 1), by omega, _, _, rfl, k + 1, by omega, rfl, wrap_next k _ hlt' (by simp only [maxLen]; omega), stepB xs ls k hlt'⟩
    · rw [take_all ls k (by omega)]
      exact ⟨rfl, rfl⟩
  · cases h
def sh (d e : Int) (r : Rc4) : Rc4 := (IntKind.wrap .i64 (r.1 + d), IntKind.wrap .i64 (r.2.1 + e), IntKind.wrap .i64 (r.2.2.1 + d), IntKind.wrap .i64 (r.2.2.2 + e))
def eqR (r s : Rc4) : Bool := r.1 == s.1 && r.2.1 == s.2.1 && r.2.2.1 == s.2.2.1 && r.2.2.2 == s.2.2.2
def con75 : List AV → List Ob → Option Tells2
  | [.agg (.cons (.int .i64 a1) (.cons (.int .i64 a2) (.cons (.int .i64 a3) (.cons (.int .i64 a4) .nl)))), .agg (.cons (.int .i64 b1) (.cons (.int .i64 b2) (.cons (.int .i64 b3) (.cons (.int .i64 b4) .nl)))), .ptr 0 0, .ptr 1 0], [.cells 3 [.int .i64 d], .cells 3 [.int .i64 e]] => some ⟨[], .bool (eqR (sh d e (a1, a2, a3, a4)) (b1, b2, b3, b4)), [none, none], []⟩
  | _, _ => none
theorem f75_run (R : AV → List Ob → Prop) (a1 a2 a3 a4 b1 b2 b3 b4 d e : Int) : fnB tab eD2 Try.f75 (bodyOf Try.f75) [.agg (.cons (.int .i64 a1) (.cons (.int .i64 a2) (.cons (.int .i64 a3) (.cons (.int .i64 a4) .nl)))), .agg (.cons (.int .i64 b1) (.cons (.int .i64 b2) (.cons (.int .i64 b3) (.cons (.int .i64 b4) .nl)))), .ptr 0 0, .ptr 1 0] [.cells 3 [.int .i64 d], .cells 3 [.int .i64 e]] R = (R (AV.bool (IntKind.i64.wrap (a1 + d) == b1 && (IntKind.i64.wrap (a2 + e) == b2 && (IntKind.i64.wrap (a3 + d) == b3 && (IntKind.i64.wrap (a4 + e) == b4 && true))))) [Ob.cells 3 [AV.int IntKind.i64 d], Ob.cells 3 [AV.int IntKind.i64 e]]) := by kernel_rfl
theorem ok75 : ConOk2 Try.prog (75, con75) := by
  intro args obs t h hp
  simp only [con75] at h
  split at h
  · rename_i a1 a2 a3 a4 b1 b2 b3 b4 d e
    cases h
    refine fn_ok2 envD2 tab_ok mixed Try.func75 (by kernel_rfl) (by kernel_rfl) ?_
    rw [f75_run]
    dsimp only
    exact ⟨by simp [eqR, sh, Bool.and_assoc], rfl⟩
  · cases h
theorem eqR_iff (r s : Rc4) : eqR r s = true ↔ r = s := by
  obtain ⟨a, b, c, d⟩ := r
  obtain ⟨a', b', c', d'⟩ := s
  simp [eqR, and_assoc]
def diffsTo (xs ys : List Rc4) : Nat → List (Int × Rc4 × Rc4)
  | 0 => []
  | k + 1 => diffsTo xs ys k ++ bif eqR (xs.getD k (0, 0, 0, 0)) (ys.getD k (0, 0, 0, 0)) then [] else [((k : Int), xs.getD k (0, 0, 0, 0), ys.getD k (0, 0, 0, 0))]
def errO (xs ys : List Rc4) : Int := bif decide (xs.length = ys.length) then 0 else 1
def diffO (xs ys : List Rc4) : List (Int × Rc4 × Rc4) := bif decide (xs.length = ys.length) then diffsTo xs ys xs.length else []
def con55 : List AV → Option Tells
  | [.agg (.cons (.list 47 (.pair (.int .i64) (.pair (.int .i64) (.pair (.int .i64) (.int .i64)))) xs) (.cons (.list 106 (.pair (.int .i64) (.pair (.pair (.int .i64) (.pair (.int .i64) (.pair (.int .i64) (.int .i64)))) (.pair (.int .i64) (.int .i64)))) ls) .nl)), .agg (.cons (.list 47 (.pair (.int .i64) (.pair (.int .i64) (.pair (.int .i64) (.int .i64)))) ys) (.cons (.list 106 (.pair (.int .i64) (.pair (.pair (.int .i64) (.pair (.int .i64) (.pair (.int .i64) (.int .i64)))) (.pair (.int .i64) (.int .i64)))) ms) .nl))] => some ⟨[xs.length ≤ 4096], .tuple (.cons (.row 0) (.cons (.int .i64 (errO xs ys)) .nl)), [.row 101 TC (diffO xs ys)]⟩
  | _ => none
def f55_live1 : List Nat := [19, 18, 19, 17, 19, 3, 6, 3, 19, 6, 4, 5]
def f55_head1 (xs : List T4.den) (ys : List T4.den) (ms : List TL.den) (s19 : Int) (o2 : List (Int × (Int × Int × Int × Int) × Int × Int × Int × Int)) : St := { slots := [AV.undef, AV.undef, AV.undef, AV.ptr 0 0, AV.row 1, AV.int IntKind.i64 0, AV.row 2] ++ List.replicate 10 AV.undef ++ [AV.list 47 ((Ty.int IntKind.i64).pair ((Ty.int IntKind.i64).pair ((Ty.int IntKind.i64).pair (Ty.int IntKind.i64)))) xs, AV.int IntKind.i64 (↑xs.length : Int), AV.int IntKind.i64 s19] ++ List.replicate 24 AV.undef, obs := [Ob.cells 40 [AV.list 47 ((Ty.int IntKind.i64).pair ((Ty.int IntKind.i64).pair ((Ty.int IntKind.i64).pair (Ty.int IntKind.i64)))) ys, AV.list 106 ((Ty.int IntKind.i64).pair (((Ty.int IntKind.i64).pair ((Ty.int IntKind.i64).pair ((Ty.int IntKind.i64).pair (Ty.int IntKind.i64)))).pair ((Ty.int IntKind.i64).pair (Ty.int IntKind.i64)))) ms], Ob.row 101 ((Ty.int IntKind.i64).pair (((Ty.int IntKind.i64).pair ((Ty.int IntKind.i64).pair ((Ty.int IntKind.i64).pair (Ty.int IntKind.i64)))).pair ((Ty.int IntKind.i64).pair ((Ty.int IntKind.i64).pair ((Ty.int IntKind.i64).pair (Ty.int IntKind.i64)))))) [], Ob.row 101 ((Ty.int IntKind.i64).pair (((Ty.int IntKind.i64).pair ((Ty.int IntKind.i64).pair ((Ty.int IntKind.i64).pair (Ty.int IntKind.i64)))).pair ((Ty.int IntKind.i64).pair ((Ty.int IntKind.i64).pair ((Ty.int IntKind.i64).pair (Ty.int IntKind.i64)))))) o2] }
def f55_q1 (R : AV → List Ob → Prop) : Ex → St → Prop := blockA 0 (seqQ tab eD2 (subC [1, 1, 1, 1] (bodyOf Try.f55)) [4, 5] (endA tab Try.f55 R))
def f55_loop1 (R : AV → List Ob → Prop) (xs : List T4.den) (ys : List T4.den) (ms : List TL.den) (s19 : Int) (o2 : List (Int × (Int × Int × Int × Int) × Int × Int × Int × Int)) : Prop := loopT f55_live1 (codeA tab eD2 (subC [1, 1, 1, 0, 1, 0, 0] (bodyOf Try.f55)) f55_live1) (f55_head1 xs ys ms s19 o2) (f55_q1 R)
def f55_rhs1 (R : AV → List Ob → Prop) (xs : List T4.den) (ys : List T4.den) (ms : List TL.den) (J : St → Prop) (s19 : Int) (o2 : List (Int × (Int × Int × Int × Int) × Int × Int × Int × Int)) : Prop := bif decide (s19 < (↑xs.length : Int)) then 0 ≤ s19 ∧ s19 < (↑xs.length : Int) ∧ 0 ≤ s19 ∧ s19 < (↑ys.length : Int) ∧ bif !((xs.getD s19.toNat (0, 0, 0, 0)).fst == (ys.getD s19.toNat (0, 0, 0, 0)).fst && ((xs.getD s19.toNat (0, 0, 0, 0)).snd.fst == (ys.getD s19.toNat (0, 0, 0, 0)).snd.fst && ((xs.getD s19.toNat (0, 0, 0, 0)).snd.snd.fst == (ys.getD s19.toNat (0, 0, 0, 0)).snd.snd.fst && ((xs.getD s19.toNat (0, 0, 0, 0)).snd.snd.snd == (ys.getD s19.toNat (0, 0, 0, 0)).snd.snd.snd && true)))) then 0 ≤ s19 ∧ s19 < (↑ys.length : Int) ∧ (o2.length + 1) * 72 ≤ 140737488355328 ∧ J (f55_head1 xs ys ms (IntKind.i64.wrap (s19 + 1)) (o2 ++ [(s19, ((xs.getD s19.toNat (0, 0, 0, 0)).fst, (xs.getD s19.toNat (0, 0, 0, 0)).snd.fst, (xs.getD s19.toNat (0, 0, 0, 0)).snd.snd.fst, (xs.getD s19.toNat (0, 0, 0, 0)).snd.snd.snd), (ys.getD s19.toNat (0, 0, 0, 0)).fst, (ys.getD s19.toNat (0, 0, 0, 0)).snd.fst, (ys.getD s19.toNat (0, 0, 0, 0)).snd.snd.fst, (ys.getD s19.toNat (0, 0, 0, 0)).snd.snd.snd)])) else J (f55_head1 xs ys ms (IntKind.i64.wrap (s19 + 1)) o2) else R ((AV.row 0).cons ((AV.int IntKind.i64 0).cons AV.nl)).tuple [Ob.row 101 ((Ty.int IntKind.i64).pair (((Ty.int IntKind.i64).pair ((Ty.int IntKind.i64).pair ((Ty.int IntKind.i64).pair (Ty.int IntKind.i64)))).pair ((Ty.int IntKind.i64).pair ((Ty.int IntKind.i64).pair ((Ty.int IntKind.i64).pair (Ty.int IntKind.i64)))))) o2]
theorem f55_eq1 (R : AV → List Ob → Prop) (xs : List T4.den) (ys : List T4.den) (ms : List TL.den) (J : St → Prop) (s19 : Int) (o2 : List (Int × (Int × Int × Int × Int) × Int × Int × Int × Int)) : codeA tab eD2 (subC [1, 1, 1, 0, 1, 0, 0] (bodyOf Try.f55)) f55_live1 (f55_head1 xs ys ms s19 o2) (thenA (fun s => J (St.tidy f55_live1 s)) (f55_q1 R)) = f55_rhs1 R xs ys ms J s19 o2 := by kernel_rfl
theorem f55_rule1 (R : AV → List Ob → Prop) (xs : List T4.den) (ys : List T4.den) (ms : List TL.den) (I : Nat → (Int) → (List (Int × (Int × Int × Int × Int) × Int × Int × Int × Int)) → Prop) (n : Nat) (s19 : Int) (o2 : List (Int × (Int × Int × Int × Int) × Int × Int × Int × Int)) (h0 : I n s19 o2) (h : ∀ n, ∀ (s19 : Int) (o2 : List (Int × (Int × Int × Int × Int) × Int × Int × Int × Int)), I n s19 o2 → f55_rhs1 R xs ys ms (fun t => ∃ m, m < n ∧ ∃ (s19 : Int) (o2 : List (Int × (Int × Int × Int × Int) × Int × Int × Int × Int)), t = f55_head1 xs ys ms s19 o2 ∧ I m s19 o2) s19 o2) : f55_loop1 R xs ys ms s19 o2 :=
  loop_intro (fun n t => ∃ (s19 : Int) (o2 : List (Int × (Int × Int × Int × Int) × Int × Int × Int × Int)), t = f55_head1 xs ys ms s19 o2 ∧ I n s19 o2) n ⟨s19, o2, rfl, h0⟩ (fun n t ht => by obtain ⟨s19, o2, rfl, hI⟩ := ht; exact Eq.mpr (f55_eq1 R xs ys ms (fun t => ∃ m, m < n ∧ ∃ (s19 : Int) (o2 : List (Int × (Int × Int × Int × Int) × Int × Int × Int × Int)), t = f55_head1 xs ys ms s19 o2 ∧ I m s19 o2) s19 o2) (h n s19 o2 hI))
theorem f55_run (R : AV → List Ob → Prop) (xs : List T4.den) (ls : List TL.den) (ys : List T4.den) (ms : List TL.den) : fnA tab eD2 Try.f55 (bodyOf Try.f55) [.agg (.cons (.list 47 T4 xs) (.cons (.list 106 TL ls) .nl)), .agg (.cons (.list 47 T4 ys) (.cons (.list 106 TL ms) .nl))] R = (bif (↑xs.length : Int) != (↑ys.length : Int) then R ((AV.row 0).cons ((AV.int IntKind.i64 1).cons AV.nl)).tuple [Ob.row 101 ((Ty.int IntKind.i64).pair (((Ty.int IntKind.i64).pair ((Ty.int IntKind.i64).pair ((Ty.int IntKind.i64).pair (Ty.int IntKind.i64)))).pair ((Ty.int IntKind.i64).pair ((Ty.int IntKind.i64).pair ((Ty.int IntKind.i64).pair (Ty.int IntKind.i64)))))) []] else f55_loop1 R xs ys ms 0 []) := by kernel_rfl
theorem ok55 : ConOk Try.prog (55, con55) := by
  intro args t h hp
  simp only [con55] at h
  split at h
  · rename_i xs ls ys ms
    change List T4.den at xs
    change List TL.den at ls
    change List T4.den at ys
    change List TL.den at ms
    cases h
    refine fn_ok envD2 tab_ok mixed Try.func55 (by kernel_rfl) (by kernel_rfl) ?_
    rw [f55_run]
    dsimp only
    have hx := hp (xs.length ≤ 4096) (by simp)
    refine cond_split (fun h => ?_) (fun h => ?_)
    · have hne : xs.length ≠ ys.length := by simp at h; omega
      rw [show errO xs ys = 1 by simp [errO, hne], show diffO xs ys = [] by simp [diffO, hne]]
      exact ⟨rfl, rfl⟩
    · have heq : xs.length = ys.length := by simp at h; omega
      rw [show errO xs ys = 0 by simp [errO, heq], show diffO xs ys = diffsTo xs ys xs.length by simp [diffO, heq]]
      refine f55_rule1 _ xs ys ms (fun n i o => ∃ k : Nat, k ≤ xs.length ∧ n = xs.length - k ∧ i = k ∧ o = diffsTo xs ys k ∧ o.length ≤ k) xs.length 0 [] ⟨0, by omega, by simp, rfl, rfl, by simp⟩ ?_
      rintro n i o ⟨k, hk, rfl, rfl, rfl, hol⟩
      unfold f55_rhs1
      refine dec_split (fun hlt => ⟨by omega, hlt, by omega, by omega, ?_⟩) (fun hlt => ?_)
      · have hlt' : k < xs.length := by omega
        have hl2 : k < ys.length := by omega
        rw [getD_nat xs _ k hlt', getD_nat ys _ k hl2, wrap_next k _ hlt' (by simp only [maxLen]; omega)]
        have hd : diffsTo xs ys (k + 1) = diffsTo xs ys k ++ bif eqR xs[k] ys[k] then [] else [((k : Int), xs[k], ys[k])] := by
          rw [diffsTo, getD_nat' xs _ k hlt', getD_nat' ys _ k hl2]
        refine cond_split (fun h => ⟨by omega, by omega, by omega, ?_⟩) (fun h => ?_)
        · have he : eqR xs[k] ys[k] = false := by
            rw [Bool.eq_false_iff]
            intro hh
            rw [(eqR_iff _ _).1 hh] at h
            simp at h
          rw [he, cond_false] at hd
          exact ⟨xs.length - (k + 1), by omega, _, _, rfl, k + 1, by omega, rfl, rfl, hd.symm, by simp; omega⟩
        · have he : eqR xs[k] ys[k] = true := by simp only [eqR]; simpa [Bool.and_assoc] using h
          rw [he, cond_true, List.append_nil] at hd
          exact ⟨xs.length - (k + 1), by omega, _, _, rfl, k + 1, by omega, rfl, rfl, hd.symm, by omega⟩
      · have he : k = xs.length := by omega
        rw [he]
        exact ⟨rfl, rfl⟩
  · cases h
def shAll (d e : Int) (xs ys : List Rc4) : Bool := decide (xs.map (sh d e) = ys)
def consD3 : Cons := (78, con78) :: (55, con55) :: consD2
def twosD3 : Cons2 := (75, con75) :: twosD2
def pansD3 : Cons3 := pansD2
def itersD3 : Cons4 := itersD2
abbrev eD3 : Env := envOf4 consD3 twosD3 pansD3 itersD3
theorem allconsD3 : ∀ c ∈ consD3, ConOk Try.prog c := all_cons ok78 (all_cons ok55 allconsD2)
theorem alltwosD3 : ∀ c ∈ twosD3, ConOk2 Try.prog c := all_cons ok75 alltwosD2
theorem allpansD3 : ∀ c ∈ pansD3, ConOk3 Try.prog c := allpansD2
theorem allitersD3 : ∀ c ∈ itersD3, ConOk4 Try.prog c := allitersD2
theorem envD3 : EnvOk Try.prog eD3 := envOf4_ok _ _ _ _ allconsD3 alltwosD3 allpansD3 allitersD3
def con77 : List AV → List Ob → Option Tells2
  | [.list 47 (.pair (.int .i64) (.pair (.int .i64) (.pair (.int .i64) (.int .i64)))) xs, .list 47 (.pair (.int .i64) (.pair (.int .i64) (.pair (.int .i64) (.int .i64)))) ys, .fn (.func 75) .nl (.cons (.ptr 0 0) (.cons (.ptr 1 0) .nl))], [.cells 3 [.int .i64 d], .cells 3 [.int .i64 e]] => some ⟨[xs.length ≤ maxLen], .bool (shAll d e xs ys), [none, none], []⟩
  | _, _ => none
def f77_live1 : List Nat := [17, 16, 17, 15, 17, 1, 2, 17, 6]
def f77_head1 (xs : List T4.den) (ys : List T4.den) (d : Int) (e : Int) (s17 : Int) : St := { slots := [AV.undef, AV.list 47 ((Ty.int IntKind.i64).pair ((Ty.int IntKind.i64).pair ((Ty.int IntKind.i64).pair (Ty.int IntKind.i64)))) ys, AV.fn (Fn.func 75) AV.nl ((AV.ptr 0 0).cons ((AV.ptr 1 0).cons AV.nl)), AV.undef, AV.undef, AV.undef, AV.bool false] ++ List.replicate 8 AV.undef ++ [AV.list 47 ((Ty.int IntKind.i64).pair ((Ty.int IntKind.i64).pair ((Ty.int IntKind.i64).pair (Ty.int IntKind.i64)))) xs, AV.int IntKind.i64 (↑xs.length : Int), AV.int IntKind.i64 s17] ++ List.replicate 14 AV.undef, obs := [Ob.cells 3 [AV.int IntKind.i64 d], Ob.cells 3 [AV.int IntKind.i64 e]], n := 2 }
def f77_q1 (R : AV → List Ob → Prop) : Ex → St → Prop := blockA 0 (seqQ tab eD3 (subC [1, 1, 1] (bodyOf Try.f77)) [6] (endA tab Try.f77 R))
def f77_loop1 (R : AV → List Ob → Prop) (xs : List T4.den) (ys : List T4.den) (d : Int) (e : Int) (s17 : Int) : Prop := loopT f77_live1 (codeA tab eD3 (subC [1, 1, 0, 1, 0, 0] (bodyOf Try.f77)) f77_live1) (f77_head1 xs ys d e s17) (f77_q1 R)
def f77_rhs1 (R : AV → List Ob → Prop) (xs : List T4.den) (ys : List T4.den) (d : Int) (e : Int) (J : St → Prop) (s17 : Int) : Prop := bif decide (s17 < (↑xs.length : Int)) then 0 ≤ s17 ∧ s17 < (↑xs.length : Int) ∧ 0 ≤ s17 ∧ s17 < (↑ys.length : Int) ∧ bif !eqR (sh d e ((xs.getD s17.toNat (0, 0, 0, 0)).fst, (xs.getD s17.toNat (0, 0, 0, 0)).snd.fst, (xs.getD s17.toNat (0, 0, 0, 0)).snd.snd.fst, (xs.getD s17.toNat (0, 0, 0, 0)).snd.snd.snd)) ((ys.getD s17.toNat (0, 0, 0, 0)).fst, (ys.getD s17.toNat (0, 0, 0, 0)).snd.fst, (ys.getD s17.toNat (0, 0, 0, 0)).snd.snd.fst, (ys.getD s17.toNat (0, 0, 0, 0)).snd.snd.snd) then R (AV.bool false) [Ob.cells 3 [AV.int IntKind.i64 d], Ob.cells 3 [AV.int IntKind.i64 e]] else J (f77_head1 xs ys d e (IntKind.i64.wrap (s17 + 1))) else R (AV.bool true) [Ob.cells 3 [AV.int IntKind.i64 d], Ob.cells 3 [AV.int IntKind.i64 e]]
theorem f77_eq1 (R : AV → List Ob → Prop) (xs : List T4.den) (ys : List T4.den) (d : Int) (e : Int) (J : St → Prop) (s17 : Int) : codeA tab eD3 (subC [1, 1, 0, 1, 0, 0] (bodyOf Try.f77)) f77_live1 (f77_head1 xs ys d e s17) (thenA (fun s => J (St.tidy f77_live1 s)) (f77_q1 R)) = f77_rhs1 R xs ys d e J s17 := by kernel_rfl
theorem f77_rule1 (R : AV → List Ob → Prop) (xs : List T4.den) (ys : List T4.den) (d : Int) (e : Int) (I : Nat → (Int) → Prop) (n : Nat) (s17 : Int) (h0 : I n s17) (h : ∀ n, ∀ (s17 : Int), I n s17 → f77_rhs1 R xs ys d e (fun t => ∃ m, m < n ∧ ∃ (s17 : Int), t = f77_head1 xs ys d e s17 ∧ I m s17) s17) : f77_loop1 R xs ys d e s17 :=
  loop_intro (fun n t => ∃ (s17 : Int), t = f77_head1 xs ys d e s17 ∧ I n s17) n ⟨s17, rfl, h0⟩ (fun n t ht => by obtain ⟨s17, rfl, hI⟩ := ht; exact Eq.mpr (f77_eq1 R xs ys d e (fun t => ∃ m, m < n ∧ ∃ (s17 : Int), t = f77_head1 xs ys d e s17 ∧ I m s17) s17) (h n s17 hI))
theorem f77_run (R : AV → List Ob → Prop) (xs ys : List T4.den) (d e : Int) : fnB tab eD3 Try.f77 (bodyOf Try.f77) [.list 47 T4 xs, .list 47 T4 ys, .fn (.func 75) .nl (.cons (.ptr 0 0) (.cons (.ptr 1 0) .nl))] [.cells 3 [.int .i64 d], .cells 3 [.int .i64 e]] R = (bif (↑xs.length : Int) != (↑ys.length : Int) then R (AV.bool false) [Ob.cells 3 [AV.int IntKind.i64 d], Ob.cells 3 [AV.int IntKind.i64 e]] else f77_loop1 R xs ys d e 0) := by kernel_rfl
theorem ok77 : ConOk2 Try.prog (77, con77) := by
  intro args obs t h hp
  simp only [con77] at h
  split at h
  · rename_i xs ys d e
    change List T4.den at xs
    change List T4.den at ys
    cases h
    refine fn_ok2 envD3 tab_ok mixed Try.func77 (by kernel_rfl) (by kernel_rfl) ?_
    rw [f77_run]
    dsimp only
    have hx := hp (xs.length ≤ maxLen) (by simp)
    refine cond_split (fun h => ?_) (fun h => ?_)
    · have hne : xs.length ≠ ys.length := by simp at h; omega
      have hno : shAll d e xs ys = false := decide_eq_false fun hh => hne (by rw [← hh, List.length_map])
      exact ⟨by rw [hno], rfl⟩
    · have heq : xs.length = ys.length := by simp at h; omega
      refine f77_rule1 _ xs ys d e (fun n i => ∃ k : Nat, k ≤ xs.length ∧ n = xs.length - k ∧ i = k ∧ (xs.take k).map (sh d e) = ys.take k) xs.length 0 ⟨0, by omega, by simp, rfl, by simp⟩ ?_
      rintro n i ⟨k, hk, rfl, rfl, hm⟩
      unfold f77_rhs1
      refine dec_split (fun hlt => ⟨by omega, hlt, by omega, by omega, ?_⟩) (fun hlt => ?_)
      · have hlt' : k < xs.length := by omega
        have hl2 : k < ys.length := by omega
        rw [getD_nat xs _ k hlt', getD_nat ys _ k hl2, wrap_next k _ hlt' hx]
        refine cond_split (fun h => ?_) (fun h => ?_)
        · have hno : shAll d e xs ys = false := decide_eq_false fun hh => by
            have : sh d e xs[k] = ys[k] := by simp only [← hh, List.getElem_map]
            have := (eqR_iff _ _).2 this
            simp only [Bool.not_eq_true'] at h
            exact absurd (h.symm.trans this) (by simp)
          exact ⟨by rw [hno], rfl⟩
        · refine ⟨xs.length - (k + 1), by omega, _, rfl, k + 1, by omega, rfl, rfl, ?_⟩
          have : sh d e xs[k] = ys[k] := (eqR_iff _ _).1 (by simpa using h)
          rw [take_next xs k hlt', take_next ys k hl2, List.map_append, hm, List.map_cons, List.map_nil, this]
      · rw [take_all xs k (by omega), take_all ys k (by omega)] at hm
        exact ⟨by rw [show shAll d e xs ys = true from decide_eq_true hm], rfl⟩
  · cases h
def moved (xs : List Rc4) (ls : List Ln) (ys : List Rc4) (ms : List Ln) : Int × Int × Bool :=
  bif decide (xs.length = 0) || decide (xs.length ≠ ys.length) || decide (ls.length ≠ ms.length) then (0, 0, false) else
  let d := IntKind.wrap .i64 ((ys.getD 0 (0, 0, 0, 0)).1 - (xs.getD 0 (0, 0, 0, 0)).1)
  let e := IntKind.wrap .i64 ((ys.getD 0 (0, 0, 0, 0)).2.1 - (xs.getD 0 (0, 0, 0, 0)).2.1)
  bif shAll d e (xs ++ ls.map fun n => n.2.1) (ys ++ ms.map fun n => n.2.1) then (d, e, true) else (0, 0, false)
abbrev dx (xs ys : List Rc4) : Int := IntKind.wrap .i64 ((ys.getD 0 (0, 0, 0, 0)).1 - (xs.getD 0 (0, 0, 0, 0)).1)
abbrev dy (xs ys : List Rc4) : Int := IntKind.wrap .i64 ((ys.getD 0 (0, 0, 0, 0)).2.1 - (xs.getD 0 (0, 0, 0, 0)).2.1)
theorem moved_no (xs : List Rc4) (ls : List Ln) (ys : List Rc4) (ms : List Ln) (h : xs.length = 0 ∨ xs.length ≠ ys.length ∨ ls.length ≠ ms.length) : moved xs ls ys ms = (0, 0, false) := by
  have : (decide (xs.length = 0) || decide (xs.length ≠ ys.length) || decide (ls.length ≠ ms.length)) = true := by
    rcases h with h | h | h
    · rw [decide_eq_true h]; rfl
    · rw [decide_eq_true h]; simp
    · rw [decide_eq_true h]; simp
  unfold moved
  rw [this]
  rfl
theorem moved_yes (xs : List Rc4) (ls : List Ln) (ys : List Rc4) (ms : List Ln) (e1 : xs.length ≠ 0) (e2 : xs.length = ys.length) (e3 : ls.length = ms.length) : moved xs ls ys ms = bif shAll (dx xs ys) (dy xs ys) (xs ++ ls.map fun n => n.2.1) (ys ++ ms.map fun n => n.2.1) then (dx xs ys, dy xs ys, true) else (0, 0, false) := by
  unfold moved
  rw [decide_eq_false e1, decide_eq_false (show ¬ xs.length ≠ ys.length by omega), decide_eq_false (show ¬ ls.length ≠ ms.length by omega)]
  rfl
theorem shAll_no1 (d e : Int) (xs ys l m : List Rc4) (k : Nat) (h1 : k < xs.length) (h2 : k < ys.length) (h : sh d e xs[k] ≠ ys[k]) : shAll d e (xs ++ l) (ys ++ m) = false := decide_eq_false fun hh => h (by
  have := congrArg (fun z => z[k]?) hh
  simp only [List.map_append] at this
  rw [List.getElem?_append_left (by simpa using h1), List.getElem?_append_left h2, List.getElem?_map, List.getElem?_eq_getElem h1, List.getElem?_eq_getElem h2] at this
  simpa using this)
theorem shAll_no2 (d e : Int) (xs ys l m : List Rc4) (hl : xs.length = ys.length) (k : Nat) (h1 : k < l.length) (h2 : k < m.length) (h : sh d e l[k] ≠ m[k]) : shAll d e (xs ++ l) (ys ++ m) = false := decide_eq_false fun hh => h (by
  rw [List.map_append] at hh
  have := (List.append_inj hh (by simpa using hl)).2
  have := congrArg (fun z => z[k]?) this
  simp only [List.getElem?_map, List.getElem?_eq_getElem h1, List.getElem?_eq_getElem h2] at this
  simpa using this)
theorem shAll_yes (d e : Int) (xs ys l m : List Rc4) (h1 : xs.map (sh d e) = ys) (h2 : l.map (sh d e) = m) : shAll d e (xs ++ l) (ys ++ m) = true := decide_eq_true (by rw [List.map_append, h1, h2])
def consD4 : Cons := consD3
def twosD4 : Cons2 := (77, con77) :: twosD3
def pansD4 : Cons3 := pansD3
def itersD4 : Cons4 := itersD3
abbrev eD4 : Env := envOf4 consD4 twosD4 pansD4 itersD4
theorem allconsD4 : ∀ c ∈ consD4, ConOk Try.prog c := allconsD3
theorem alltwosD4 : ∀ c ∈ twosD4, ConOk2 Try.prog c := all_cons ok77 alltwosD3
theorem allpansD4 : ∀ c ∈ pansD4, ConOk3 Try.prog c := allpansD3
theorem allitersD4 : ∀ c ∈ itersD4, ConOk4 Try.prog c := allitersD3
theorem envD4 : EnvOk Try.prog eD4 := envOf4_ok _ _ _ _ allconsD4 alltwosD4 allpansD4 allitersD4
def con56 : List AV → Option Tells
  | [.agg (.cons (.list 47 (.pair (.int .i64) (.pair (.int .i64) (.pair (.int .i64) (.int .i64)))) xs) (.cons (.list 106 (.pair (.int .i64) (.pair (.pair (.int .i64) (.pair (.int .i64) (.pair (.int .i64) (.int .i64)))) (.pair (.int .i64) (.int .i64)))) ls) .nl)), .agg (.cons (.list 47 (.pair (.int .i64) (.pair (.int .i64) (.pair (.int .i64) (.int .i64)))) ys) (.cons (.list 106 (.pair (.int .i64) (.pair (.pair (.int .i64) (.pair (.int .i64) (.pair (.int .i64) (.int .i64)))) (.pair (.int .i64) (.int .i64)))) ms) .nl))] => some ⟨[xs.length ≤ 4096, ls.length ≤ 4096, ys.length ≤ 4096, ms.length ≤ 4096], .tuple (.cons (.int .i64 (moved xs ls ys ms).1) (.cons (.int .i64 (moved xs ls ys ms).2.1) (.cons (.bool (moved xs ls ys ms).2.2) .nl))), []⟩
  | _ => none
theorem f56_run (R : AV → List Ob → Prop) (xs : List T4.den) (ls : List TL.den) (ys : List T4.den) (ms : List TL.den) : fnA tab eD4 Try.f56 (bodyOf Try.f56) [.agg (.cons (.list 47 T4 xs) (.cons (.list 106 TL ls) .nl)), .agg (.cons (.list 47 T4 ys) (.cons (.list 106 TL ms) .nl))] R = (bif !(↑xs.length : Int) == 0 then bif !(↑xs.length : Int) != (↑ys.length : Int) then bif (↑ls.length : Int) != (↑ms.length : Int) then R ((AV.int IntKind.i64 0).cons ((AV.int IntKind.i64 0).cons ((AV.bool false).cons AV.nl))).tuple [] else (0 : Int) ≤ 0 ∧ 0 < (↑ys.length : Int) ∧ (0 : Int) ≤ 0 ∧ 0 < (↑xs.length : Int) ∧ (0 : Int) ≤ 0 ∧ 0 < (↑ys.length : Int) ∧ (0 : Int) ≤ 0 ∧ 0 < (↑xs.length : Int) ∧ xs.length ≤ 4096 ∧ ls.length ≤ 4096 ∧ ys.length ≤ 4096 ∧ ms.length ≤ 4096 ∧ (xs ++ List.map (fun n => n.snd.fst) ls).length ≤ 9223372036854775807 ∧ bif !shAll (IntKind.i64.wrap ((ys.getD 0 (0, 0, 0, 0)).fst - (xs.getD 0 (0, 0, 0, 0)).fst)) (IntKind.i64.wrap ((ys.getD 0 (0, 0, 0, 0)).snd.fst - (xs.getD 0 (0, 0, 0, 0)).snd.fst)) (xs ++ List.map (fun n => n.snd.fst) ls) (ys ++ List.map (fun n => n.snd.fst) ms) then R ((AV.int IntKind.i64 0).cons ((AV.int IntKind.i64 0).cons ((AV.bool false).cons AV.nl))).tuple [] else R ((AV.int IntKind.i64 (IntKind.i64.wrap ((ys.getD 0 (0, 0, 0, 0)).fst - (xs.getD 0 (0, 0, 0, 0)).fst))).cons ((AV.int IntKind.i64 (IntKind.i64.wrap ((ys.getD 0 (0, 0, 0, 0)).snd.fst - (xs.getD 0 (0, 0, 0, 0)).snd.fst))).cons ((AV.bool true).cons AV.nl))).tuple [] else R ((AV.int IntKind.i64 0).cons ((AV.int IntKind.i64 0).cons ((AV.bool false).cons AV.nl))).tuple [] else R ((AV.int IntKind.i64 0).cons ((AV.int IntKind.i64 0).cons ((AV.bool false).cons AV.nl))).tuple []) := by kernel_rfl
theorem ok56 : ConOk Try.prog (56, con56) := by
  intro args t h hp
  simp only [con56] at h
  split at h
  · rename_i xs ls ys ms
    change List T4.den at xs
    change List TL.den at ls
    change List T4.den at ys
    change List TL.den at ms
    cases h
    refine fn_ok envD4 tab_ok mixed Try.func56 (by kernel_rfl) (by kernel_rfl) ?_
    rw [f56_run]
    dsimp only
    have h1 := hp (xs.length ≤ 4096) (by simp)
    have h2 := hp (ls.length ≤ 4096) (by simp)
    have h3 := hp (ys.length ≤ 4096) (by simp)
    have h4 := hp (ms.length ≤ 4096) (by simp)
    refine cond_split (fun g1 => cond_split (fun g2 => cond_split (fun g3 => ?_) (fun g3 => ?_)) (fun g2 => ?_)) (fun g1 => ?_)
    · rw [moved_no xs ls ys ms (.inr (.inr (by simp at g3; omega)))]; exact ⟨rfl, rfl⟩
    · have e1 : xs.length ≠ 0 := by simp at g1 ⊢; omega
      have e2 : xs.length = ys.length := by simp at g2; omega
      have e3 : ls.length = ms.length := by simp at g3; omega
      refine ⟨by omega, by omega, by omega, by omega, by omega, by omega, by omega, by omega, h1, h2, h3, h4, by simp only [List.length_append, List.length_map]; omega, ?_⟩
      rw [moved_yes xs ls ys ms e1 e2 e3]
      refine cond_split (fun g => ?_) (fun g => ?_)
      · simp only [Bool.not_eq_true'] at g
        rw [g]; exact ⟨rfl, rfl⟩
      · simp only [Bool.not_eq_false'] at g
        rw [g]; exact ⟨rfl, rfl⟩
    · rw [moved_no xs ls ys ms (.inr (.inl (by simp at g2; omega)))]; exact ⟨rfl, rfl⟩
    · rw [moved_no xs ls ys ms (.inl (by simp at g1; simp [g1]))]; exact ⟨rfl, rfl⟩
  · cases h
def con57 : List AV → Option Tells
  | [.agg (.cons (.list 45 (.pair (.int .i64) (.pair (.int .i64) (.pair (.int .i64) (.int .i64)))) xs) (.cons (.list 111 (.pair (.int .i64) (.pair (.pair (.int .i64) (.pair (.int .i64) (.pair (.int .i64) (.int .i64)))) (.pair (.int .i64) (.int .i64)))) ls) .nl)), .agg (.cons (.list 45 (.pair (.int .i64) (.pair (.int .i64) (.pair (.int .i64) (.int .i64)))) ys) (.cons (.list 111 (.pair (.int .i64) (.pair (.pair (.int .i64) (.pair (.int .i64) (.pair (.int .i64) (.int .i64)))) (.pair (.int .i64) (.int .i64)))) ms) .nl))] => some ⟨[xs.length ≤ 4096, ls.length ≤ 4096, ys.length ≤ 4096, ms.length ≤ 4096], .tuple (.cons (.int .i64 (moved xs ls ys ms).1) (.cons (.int .i64 (moved xs ls ys ms).2.1) (.cons (.bool (moved xs ls ys ms).2.2) .nl))), []⟩
  | _ => none
def f57_live1 : List Nat := [9, 2, 2, 9, 7, 8, 3, 9, 9, 2, 2, 7, 8, 3, 7, 8, 4, 5, 6]
def f57_head1 (xs : List T4.den) (ls : List TL.den) (ys : List T4.den) (ms : List TL.den) (s9 : Int) : St := { slots := [AV.undef, AV.undef, AV.ptr 0 0, AV.ptr 1 0, AV.int IntKind.i64 0, AV.int IntKind.i64 0, AV.bool false, AV.int IntKind.i64 (IntKind.i64.wrap ((ys.getD 0 (0, 0, 0, 0)).fst - (xs.getD 0 (0, 0, 0, 0)).fst)), AV.int IntKind.i64 (IntKind.i64.wrap ((ys.getD 0 (0, 0, 0, 0)).snd.fst - (xs.getD 0 (0, 0, 0, 0)).snd.fst)), AV.int IntKind.i64 s9] ++ List.replicate 91 AV.undef, obs := [Ob.cells 64 [AV.list 45 ((Ty.int IntKind.i64).pair ((Ty.int IntKind.i64).pair ((Ty.int IntKind.i64).pair (Ty.int IntKind.i64)))) xs, AV.list 111 ((Ty.int IntKind.i64).pair (((Ty.int IntKind.i64).pair ((Ty.int IntKind.i64).pair ((Ty.int IntKind.i64).pair (Ty.int IntKind.i64)))).pair ((Ty.int IntKind.i64).pair (Ty.int IntKind.i64)))) ls], Ob.cells 64 [AV.list 45 ((Ty.int IntKind.i64).pair ((Ty.int IntKind.i64).pair ((Ty.int IntKind.i64).pair (Ty.int IntKind.i64)))) ys, AV.list 111 ((Ty.int IntKind.i64).pair (((Ty.int IntKind.i64).pair ((Ty.int IntKind.i64).pair ((Ty.int IntKind.i64).pair (Ty.int IntKind.i64)))).pair ((Ty.int IntKind.i64).pair (Ty.int IntKind.i64)))) ms]] }
def f57_q1 (R : AV → List Ob → Prop) : Ex → St → Prop := blockA 0 (seqQ tab eD4 (subC [1, 1, 1, 1] (bodyOf Try.f57)) [4, 5, 6] (endA tab Try.f57 R))
def f57_loop1 (R : AV → List Ob → Prop) (xs : List T4.den) (ls : List TL.den) (ys : List T4.den) (ms : List TL.den) (s9 : Int) : Prop := loopT f57_live1 (codeA tab eD4 (subC [1, 1, 1, 0, 1, 0, 0] (bodyOf Try.f57)) f57_live1) (f57_head1 xs ls ys ms s9) (f57_q1 R)
def f57_live2 : List Nat := [10, 2, 2, 10, 7, 8, 3, 10, 10, 7, 8, 4, 5, 6]
def f57_head2 (xs : List T4.den) (ls : List TL.den) (ys : List T4.den) (ms : List TL.den) (s10' : Int) : St := { slots := [AV.undef, AV.undef, AV.ptr 0 0, AV.ptr 1 0, AV.int IntKind.i64 0, AV.int IntKind.i64 0, AV.bool false, AV.int IntKind.i64 (IntKind.i64.wrap ((ys.getD 0 (0, 0, 0, 0)).fst - (xs.getD 0 (0, 0, 0, 0)).fst)), AV.int IntKind.i64 (IntKind.i64.wrap ((ys.getD 0 (0, 0, 0, 0)).snd.fst - (xs.getD 0 (0, 0, 0, 0)).snd.fst)), AV.undef, AV.int IntKind.i64 s10'] ++ List.replicate 90 AV.undef, obs := [Ob.cells 64 [AV.list 45 ((Ty.int IntKind.i64).pair ((Ty.int IntKind.i64).pair ((Ty.int IntKind.i64).pair (Ty.int IntKind.i64)))) xs, AV.list 111 ((Ty.int IntKind.i64).pair (((Ty.int IntKind.i64).pair ((Ty.int IntKind.i64).pair ((Ty.int IntKind.i64).pair (Ty.int IntKind.i64)))).pair ((Ty.int IntKind.i64).pair (Ty.int IntKind.i64)))) ls], Ob.cells 64 [AV.list 45 ((Ty.int IntKind.i64).pair ((Ty.int IntKind.i64).pair ((Ty.int IntKind.i64).pair (Ty.int IntKind.i64)))) ys, AV.list 111 ((Ty.int IntKind.i64).pair (((Ty.int IntKind.i64).pair ((Ty.int IntKind.i64).pair ((Ty.int IntKind.i64).pair (Ty.int IntKind.i64)))).pair ((Ty.int IntKind.i64).pair (Ty.int IntKind.i64)))) ms]] }
def f57_q2 (R : AV → List Ob → Prop) : Ex → St → Prop := blockA 2 (seqQ tab eD4 (subC [1, 1, 1, 1, 1] (bodyOf Try.f57)) [4, 5, 6] (endA tab Try.f57 R))
def f57_loop2 (R : AV → List Ob → Prop) (xs : List T4.den) (ls : List TL.den) (ys : List T4.den) (ms : List TL.den) (s10' : Int) : Prop := loopT f57_live2 (codeA tab eD4 (subC [1, 1, 1, 1, 0, 1, 0, 0] (bodyOf Try.f57)) f57_live2) (f57_head2 xs ls ys ms s10') (f57_q2 R)
def f57_rhs2 (R : AV → List Ob → Prop) (xs : List T4.den) (ls : List TL.den) (ys : List T4.den) (ms : List TL.den) (J1 : St → Prop) (s10' : Int) : Prop := bif decide (s10' < (↑ls.length : Int)) then 0 ≤ s10' ∧ s10' < (↑ls.length : Int) ∧ 0 ≤ s10' ∧ s10' < (↑ms.length : Int) ∧ bif !(IntKind.i64.wrap ((ls.getD s10'.toNat (0, (0, 0, 0, 0), 0, 0)).snd.fst.fst + IntKind.i64.wrap ((ys.getD 0 (0, 0, 0, 0)).fst - (xs.getD 0 (0, 0, 0, 0)).fst)) == (ms.getD s10'.toNat (0, (0, 0, 0, 0), 0, 0)).snd.fst.fst && (IntKind.i64.wrap ((ls.getD s10'.toNat (0, (0, 0, 0, 0), 0, 0)).snd.fst.snd.fst + IntKind.i64.wrap ((ys.getD 0 (0, 0, 0, 0)).snd.fst - (xs.getD 0 (0, 0, 0, 0)).snd.fst)) == (ms.getD s10'.toNat (0, (0, 0, 0, 0), 0, 0)).snd.fst.snd.fst && (IntKind.i64.wrap ((ls.getD s10'.toNat (0, (0, 0, 0, 0), 0, 0)).snd.fst.snd.snd.fst + IntKind.i64.wrap ((ys.getD 0 (0, 0, 0, 0)).fst - (xs.getD 0 (0, 0, 0, 0)).fst)) == (ms.getD s10'.toNat (0, (0, 0, 0, 0), 0, 0)).snd.fst.snd.snd.fst && (IntKind.i64.wrap ((ls.getD s10'.toNat (0, (0, 0, 0, 0), 0, 0)).snd.fst.snd.snd.snd + IntKind.i64.wrap ((ys.getD 0 (0, 0, 0, 0)).snd.fst - (xs.getD 0 (0, 0, 0, 0)).snd.fst)) == (ms.getD s10'.toNat (0, (0, 0, 0, 0), 0, 0)).snd.fst.snd.snd.snd && true)))) then R ((AV.int IntKind.i64 0).cons ((AV.int IntKind.i64 0).cons ((AV.bool false).cons AV.nl))).tuple [] else J1 (f57_head2 xs ls ys ms (IntKind.i64.wrap (s10' + 1))) else R ((AV.int IntKind.i64 (IntKind.i64.wrap ((ys.getD 0 (0, 0, 0, 0)).fst - (xs.getD 0 (0, 0, 0, 0)).fst))).cons ((AV.int IntKind.i64 (IntKind.i64.wrap ((ys.getD 0 (0, 0, 0, 0)).snd.fst - (xs.getD 0 (0, 0, 0, 0)).snd.fst))).cons ((AV.bool true).cons AV.nl))).tuple []
theorem f57_eq2 (R : AV → List Ob → Prop) (xs : List T4.den) (ls : List TL.den) (ys : List T4.den) (ms : List TL.den) (J1 : St → Prop) (s10' : Int) : codeA tab eD4 (subC [1, 1, 1, 1, 0, 1, 0, 0] (bodyOf Try.f57)) f57_live2 (f57_head2 xs ls ys ms s10') (thenA (fun s => J1 (St.tidy f57_live2 s)) (f57_q2 R)) = f57_rhs2 R xs ls ys ms J1 s10' := by kernel_rfl
theorem f57_rule2 (R : AV → List Ob → Prop) (xs : List T4.den) (ls : List TL.den) (ys : List T4.den) (ms : List TL.den) (I : Nat → (Int) → Prop) (n : Nat) (s10' : Int) (h0 : I n s10') (h : ∀ n, ∀ (s10' : Int), I n s10' → f57_rhs2 R xs ls ys ms (fun t => ∃ m, m < n ∧ ∃ (s10' : Int), t = f57_head2 xs ls ys ms s10' ∧ I m s10') s10') : f57_loop2 R xs ls ys ms s10' :=
  loop_intro (fun n t => ∃ (s10' : Int), t = f57_head2 xs ls ys ms s10' ∧ I n s10') n ⟨s10', rfl, h0⟩ (fun n t ht => by obtain ⟨s10', rfl, hI⟩ := ht; exact Eq.mpr (f57_eq2 R xs ls ys ms (fun t => ∃ m, m < n ∧ ∃ (s10' : Int), t = f57_head2 xs ls ys ms s10' ∧ I m s10') s10') (h n s10' hI))
def f57_rhs1 (R : AV → List Ob → Prop) (xs : List T4.den) (ls : List TL.den) (ys : List T4.den) (ms : List TL.den) (J : St → Prop) (s9 : Int) : Prop := bif decide (s9 < (↑xs.length : Int)) then 0 ≤ s9 ∧ s9 < (↑xs.length : Int) ∧ 0 ≤ s9 ∧ s9 < (↑ys.length : Int) ∧ bif !(IntKind.i64.wrap ((xs.getD s9.toNat (0, 0, 0, 0)).fst + IntKind.i64.wrap ((ys.getD 0 (0, 0, 0, 0)).fst - (xs.getD 0 (0, 0, 0, 0)).fst)) == (ys.getD s9.toNat (0, 0, 0, 0)).fst && (IntKind.i64.wrap ((xs.getD s9.toNat (0, 0, 0, 0)).snd.fst + IntKind.i64.wrap ((ys.getD 0 (0, 0, 0, 0)).snd.fst - (xs.getD 0 (0, 0, 0, 0)).snd.fst)) == (ys.getD s9.toNat (0, 0, 0, 0)).snd.fst && (IntKind.i64.wrap ((xs.getD s9.toNat (0, 0, 0, 0)).snd.snd.fst + IntKind.i64.wrap ((ys.getD 0 (0, 0, 0, 0)).fst - (xs.getD 0 (0, 0, 0, 0)).fst)) == (ys.getD s9.toNat (0, 0, 0, 0)).snd.snd.fst && (IntKind.i64.wrap ((xs.getD s9.toNat (0, 0, 0, 0)).snd.snd.snd + IntKind.i64.wrap ((ys.getD 0 (0, 0, 0, 0)).snd.fst - (xs.getD 0 (0, 0, 0, 0)).snd.fst)) == (ys.getD s9.toNat (0, 0, 0, 0)).snd.snd.snd && true)))) then R ((AV.int IntKind.i64 0).cons ((AV.int IntKind.i64 0).cons ((AV.bool false).cons AV.nl))).tuple [] else J (f57_head1 xs ls ys ms (IntKind.i64.wrap (s9 + 1))) else f57_loop2 R xs ls ys ms 0
theorem f57_eq1 (R : AV → List Ob → Prop) (xs : List T4.den) (ls : List TL.den) (ys : List T4.den) (ms : List TL.den) (J : St → Prop) (s9 : Int) : codeA tab eD4 (subC [1, 1, 1, 0, 1, 0, 0] (bodyOf Try.f57)) f57_live1 (f57_head1 xs ls ys ms s9) (thenA (fun s => J (St.tidy f57_live1 s)) (f57_q1 R)) = f57_rhs1 R xs ls ys ms J s9 := by kernel_rfl
theorem f57_rule1 (R : AV → List Ob → Prop) (xs : List T4.den) (ls : List TL.den) (ys : List T4.den) (ms : List TL.den) (I : Nat → (Int) → Prop) (n : Nat) (s9 : Int) (h0 : I n s9) (h : ∀ n, ∀ (s9 : Int), I n s9 → f57_rhs1 R xs ls ys ms (fun t => ∃ m, m < n ∧ ∃ (s9 : Int), t = f57_head1 xs ls ys ms s9 ∧ I m s9) s9) : f57_loop1 R xs ls ys ms s9 :=
  loop_intro (fun n t => ∃ (s9 : Int), t = f57_head1 xs ls ys ms s9 ∧ I n s9) n ⟨s9, rfl, h0⟩ (fun n t ht => by obtain ⟨s9, rfl, hI⟩ := ht; exact Eq.mpr (f57_eq1 R xs ls ys ms (fun t => ∃ m, m < n ∧ ∃ (s9 : Int), t = f57_head1 xs ls ys ms s9 ∧ I m s9) s9) (h n s9 hI))
theorem f57_run (R : AV → List Ob → Prop) (xs : List T4.den) (ls : List TL.den) (ys : List T4.den) (ms : List TL.den) : fnA tab eD4 Try.f57 (bodyOf Try.f57) [.agg (.cons (.list 45 T4 xs) (.cons (.list 111 TL ls) .nl)), .agg (.cons (.list 45 T4 ys) (.cons (.list 111 TL ms) .nl))] R = (bif !(↑xs.length : Int) == 0 then bif !(↑xs.length : Int) != (↑ys.length : Int) then bif (↑ls.length : Int) != (↑ms.length : Int) then R ((AV.int IntKind.i64 0).cons ((AV.int IntKind.i64 0).cons ((AV.bool false).cons AV.nl))).tuple [] else (0 : Int) ≤ 0 ∧ 0 < (↑ys.length : Int) ∧ (0 : Int) ≤ 0 ∧ (0 : Int) < 4 ∧ (0 : Int) ≤ 0 ∧ 0 < (↑xs.length : Int) ∧ (0 : Int) ≤ 0 ∧ (0 : Int) < 4 ∧ (0 : Int) ≤ 0 ∧ 0 < (↑ys.length : Int) ∧ (0 : Int) ≤ 1 ∧ (1 : Int) < 4 ∧ (0 : Int) ≤ 0 ∧ 0 < (↑xs.length : Int) ∧ (0 : Int) ≤ 1 ∧ (1 : Int) < 4 ∧ f57_loop1 R xs ls ys ms 0 else R ((AV.int IntKind.i64 0).cons ((AV.int IntKind.i64 0).cons ((AV.bool false).cons AV.nl))).tuple [] else R ((AV.int IntKind.i64 0).cons ((AV.int IntKind.i64 0).cons ((AV.bool false).cons AV.nl))).tuple []) := by kernel_rfl
theorem ok57 : ConOk Try.prog (57, con57) := by
  intro args t h hp
  simp only [con57] at h
  split at h
  · rename_i xs ls ys ms
    change List T4.den at xs
    change List TL.den at ls
    change List T4.den at ys
    change List TL.den at ms
    cases h
    refine fn_ok envD4 tab_ok mixed Try.func57 (by kernel_rfl) (by kernel_rfl) ?_
    rw [f57_run]
    dsimp only
    have h1 := hp (xs.length ≤ 4096) (by simp)
    have h2 := hp (ls.length ≤ 4096) (by simp)
    have h3 := hp (ys.length ≤ 4096) (by simp)
    have h4 := hp (ms.length ≤ 4096) (by simp)
    refine cond_split (fun g1 => cond_split (fun g2 => cond_split (fun g3 => ?_) (fun g3 => ?_)) (fun g2 => ?_)) (fun g1 => ?_)
    · rw [moved_no xs ls ys ms (.inr (.inr (by simp at g3; omega)))]; exact ⟨rfl, rfl⟩
    · have e1 : xs.length ≠ 0 := by simp at g1 ⊢; omega
      have e2 : xs.length = ys.length := by simp at g2; omega
      have e3 : ls.length = ms.length := by simp at g3; omega
      refine ⟨by omega, by omega, by omega, by omega, by omega, by omega, by omega, by omega, by omega, by omega, by omega, by omega, by omega, by omega, by omega, by omega, ?_⟩
      rw [moved_yes xs ls ys ms e1 e2 e3]
      refine f57_rule1 _ xs ls ys ms (fun n i => ∃ k : Nat, k ≤ xs.length ∧ n = xs.length - k ∧ i = k ∧ (xs.take k).map (sh (dx xs ys) (dy xs ys)) = ys.take k) xs.length 0 ⟨0, by omega, by simp, rfl, by simp⟩ ?_
      rintro n i ⟨k, hk, rfl, rfl, hm⟩
      unfold f57_rhs1
      refine dec_split (fun hlt => ⟨by omega, hlt, by omega, by omega, ?_⟩) (fun hlt => ?_)
      · have hlt' : k < xs.length := by omega
        have hl2 : k < ys.length := by omega
        rw [getD_nat xs _ k hlt', getD_nat ys _ k hl2, wrap_next k _ hlt' (by simp only [maxLen]; omega)]
        refine cond_split (fun h => ?_) (fun h => ?_)
        · have hne : sh (dx xs ys) (dy xs ys) xs[k] ≠ ys[k] := fun hh => by
            rw [← hh] at h
            simp [sh, dx, dy] at h
          rw [shAll_no1 _ _ xs ys _ _ k hlt' hl2 hne]
          exact ⟨rfl, rfl⟩
        · refine ⟨xs.length - (k + 1), by omega, _, rfl, k + 1, by omega, rfl, rfl, ?_⟩
          have : sh (dx xs ys) (dy xs ys) xs[k] = ys[k] := (eqR_iff _ _).1 (by simp only [eqR, sh, dx, dy]; simpa [Bool.and_assoc] using h)
          rw [take_next xs k hlt', take_next ys k hl2, List.map_append, hm, List.map_cons, List.map_nil, this]
      · rw [take_all xs k (by omega), take_all ys k (by omega)] at hm
        refine f57_rule2 _ xs ls ys ms (fun n i => ∃ k : Nat, k ≤ ls.length ∧ n = ls.length - k ∧ i = k ∧ ((ls.map fun n => n.2.1).take k).map (sh (dx xs ys) (dy xs ys)) = (ms.map fun n => n.2.1).take k) ls.length 0 ⟨0, by omega, by simp, rfl, by simp⟩ ?_
        rintro n i ⟨j, hj, rfl, rfl, hm2⟩
        unfold f57_rhs2
        refine dec_split (fun hlt => ⟨by omega, hlt, by omega, by omega, ?_⟩) (fun hlt => ?_)
        · have hlt' : j < ls.length := by omega
          have hl2 : j < ms.length := by omega
          have hb1 : j < (ls.map fun n => n.2.1).length := by simp only [List.length_map]; omega
          have hb2 : j < (ms.map fun n => n.2.1).length := by simp only [List.length_map]; omega
          rw [getD_nat ls _ j hlt', getD_nat ms _ j hl2, wrap_next j _ hlt' (by simp only [maxLen]; omega)]
          refine cond_split (fun h => ?_) (fun h => ?_)
          · have hne : sh (dx xs ys) (dy xs ys) (ls.map fun n => n.2.1)[j] ≠ (ms.map fun n => n.2.1)[j] := fun hh => by
              simp only [List.getElem_map] at hh
              rw [← hh] at h
              simp [sh, dx, dy] at h
            rw [shAll_no2 _ _ xs ys _ _ e2 j hb1 hb2 hne]
            exact ⟨rfl, rfl⟩
          · refine ⟨ls.length - (j + 1), by omega, _, rfl, j + 1, by omega, rfl, rfl, ?_⟩
            have : sh (dx xs ys) (dy xs ys) (ls.map fun n => n.2.1)[j] = (ms.map fun n => n.2.1)[j] := (eqR_iff _ _).1 (by simp only [eqR, sh, dx, dy, List.getElem_map]; simpa [Bool.and_assoc] using h)
            rw [take_next _ j hb1, take_next _ j hb2, List.map_append, hm2, List.map_cons, List.map_nil, this]
        · rw [take_all _ j (by simp only [List.length_map]; omega), take_all _ j (by simp only [List.length_map]; omega)] at hm2
          rw [shAll_yes _ _ xs ys _ _ hm hm2]
          exact ⟨rfl, rfl⟩
    · rw [moved_no xs ls ys ms (.inr (.inl (by simp at g2; omega)))]; exact ⟨rfl, rfl⟩
    · rw [moved_no xs ls ys ms (.inl (by simp at g1; simp [g1]))]; exact ⟨rfl, rfl⟩
  · cases h
def consD5 : Cons := (56, con56) :: (57, con57) :: consD4
def twosD5 : Cons2 := twosD4
def pansD5 : Cons3 := pansD4
def itersD5 : Cons4 := itersD4
abbrev eD5 : Env := envOf4 consD5 twosD5 pansD5 itersD5
theorem allconsD5 : ∀ c ∈ consD5, ConOk Try.prog c := all_cons ok56 (all_cons ok57 allconsD4)
theorem alltwosD5 : ∀ c ∈ twosD5, ConOk2 Try.prog c := alltwosD4
theorem allpansD5 : ∀ c ∈ pansD5, ConOk3 Try.prog c := allpansD4
theorem allitersD5 : ∀ c ∈ itersD5, ConOk4 Try.prog c := allitersD4
theorem envD5 : EnvOk Try.prog eD5 := envOf4_ok _ _ _ _ allconsD5 alltwosD5 allpansD5 allitersD5

end Go.Proofs.Ytjhhkfjabaojhaa.W
