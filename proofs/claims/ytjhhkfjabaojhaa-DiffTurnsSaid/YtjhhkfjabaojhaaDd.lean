/- The functions that DiffTurns reaches: mirrors, boxes, rectangles that meet. -/
import Derived.Test.YtjhhkfjabaojhaaWa
import Derived.Test.YtjhhkfjabaojhaaDa
import Derived.Test.YtjhhkfjabaojhaaAwZ
import Derived.KernelRfl
set_option linter.unusedVariables false
set_option linter.unusedSimpArgs false
namespace Go.Proofs.Ytjhhkfjabaojhaa.W
open Go Go.Proofs Go.Proofs.Ytjhhkfjabaojhaa.Aw
def con44 : List AV → Option Tells
  | [.agg (.cons (.int .i64 a1) (.cons (.int .i64 a2) (.cons (.int .i64 a3) (.cons (.int .i64 a4) (.cons (.int .i64 a5) (.cons (.int .i64 a6) (.cons (.int .i64 a7) (.cons (.int .i64 a8) (.cons (.int .i64 a9) (.cons (.int .i64 a10) (.cons (.int .i64 a11) (.cons (.int .i64 a12) (.cons (.int .i64 a13) (.cons (.int .i64 a14) .nl))))))))))))))] => some ⟨[], ((AV.int IntKind.i64 a1).cons ((AV.int IntKind.i64 a2).cons ((AV.int IntKind.i64 a3).cons ((AV.int IntKind.i64 a4).cons ((AV.int IntKind.i64 a5).cons ((AV.int IntKind.i64 a6).cons ((AV.int IntKind.i64 a7).cons ((AV.int IntKind.i64 a8).cons ((AV.int IntKind.i64 a9).cons ((AV.int IntKind.i64 a10).cons ((AV.int IntKind.i64 a11).cons ((AV.int IntKind.i64 a12).cons ((AV.int IntKind.i64 a13).cons ((AV.int IntKind.i64 a14).cons AV.nl)))))))))))))).agg, []⟩
  | _ => none
theorem f44_run (R : AV → List Ob → Prop) (a1 a2 a3 a4 a5 a6 a7 a8 a9 a10 a11 a12 a13 a14 : Int) : fnA tab eD0 Try.f44 (bodyOf Try.f44) [.agg (.cons (.int .i64 a1) (.cons (.int .i64 a2) (.cons (.int .i64 a3) (.cons (.int .i64 a4) (.cons (.int .i64 a5) (.cons (.int .i64 a6) (.cons (.int .i64 a7) (.cons (.int .i64 a8) (.cons (.int .i64 a9) (.cons (.int .i64 a10) (.cons (.int .i64 a11) (.cons (.int .i64 a12) (.cons (.int .i64 a13) (.cons (.int .i64 a14) .nl))))))))))))))] R = (R ((AV.int IntKind.i64 a1).cons ((AV.int IntKind.i64 a2).cons ((AV.int IntKind.i64 a3).cons ((AV.int IntKind.i64 a4).cons ((AV.int IntKind.i64 a5).cons ((AV.int IntKind.i64 a6).cons ((AV.int IntKind.i64 a7).cons ((AV.int IntKind.i64 a8).cons ((AV.int IntKind.i64 a9).cons ((AV.int IntKind.i64 a10).cons ((AV.int IntKind.i64 a11).cons ((AV.int IntKind.i64 a12).cons ((AV.int IntKind.i64 a13).cons ((AV.int IntKind.i64 a14).cons AV.nl)))))))))))))).agg []) := by kernel_rfl
theorem ok44 : ConOk Try.prog (44, con44) := by
  intro args t h hp
  simp only [con44] at h
  split at h
  · cases h
    refine fn_ok envD0 tab_ok mixed Try.func44 (by kernel_rfl) (by kernel_rfl) ?_
    rw [f44_run]
    exact ⟨rfl, rfl⟩
  · cases h
def con42 : List AV → Option Tells
  | [.agg (.cons (.int .i64 a1) (.cons (.int .i64 a2) (.cons (.int .i64 a3) (.cons (.int .i64 a4) (.cons (.int .i64 a5) (.cons (.int .i64 a6) (.cons (.int .i64 a7) (.cons (.int .i64 a8) (.cons (.int .i64 a9) (.cons (.int .i64 a10) (.cons (.int .i64 a11) (.cons (.int .i64 a12) (.cons (.int .i64 a13) (.cons (.int .i64 a14) .nl))))))))))))))] => some ⟨[], ((AV.int IntKind.i64 a1).cons ((AV.int IntKind.i64 a2).cons ((AV.int IntKind.i64 a3).cons ((AV.int IntKind.i64 a4).cons ((AV.int IntKind.i64 a5).cons ((AV.int IntKind.i64 a6).cons ((AV.int IntKind.i64 a7).cons ((AV.int IntKind.i64 a8).cons ((AV.int IntKind.i64 a9).cons ((AV.int IntKind.i64 a10).cons ((AV.int IntKind.i64 a11).cons ((AV.int IntKind.i64 a12).cons ((AV.int IntKind.i64 a13).cons ((AV.int IntKind.i64 a14).cons AV.nl)))))))))))))).agg, []⟩
  | _ => none
theorem f42_run (R : AV → List Ob → Prop) (a1 a2 a3 a4 a5 a6 a7 a8 a9 a10 a11 a12 a13 a14 : Int) : fnA tab eD0 Try.f42 (bodyOf Try.f42) [.agg (.cons (.int .i64 a1) (.cons (.int .i64 a2) (.cons (.int .i64 a3) (.cons (.int .i64 a4) (.cons (.int .i64 a5) (.cons (.int .i64 a6) (.cons (.int .i64 a7) (.cons (.int .i64 a8) (.cons (.int .i64 a9) (.cons (.int .i64 a10) (.cons (.int .i64 a11) (.cons (.int .i64 a12) (.cons (.int .i64 a13) (.cons (.int .i64 a14) .nl))))))))))))))] R = (R ((AV.int IntKind.i64 a1).cons ((AV.int IntKind.i64 a2).cons ((AV.int IntKind.i64 a3).cons ((AV.int IntKind.i64 a4).cons ((AV.int IntKind.i64 a5).cons ((AV.int IntKind.i64 a6).cons ((AV.int IntKind.i64 a7).cons ((AV.int IntKind.i64 a8).cons ((AV.int IntKind.i64 a9).cons ((AV.int IntKind.i64 a10).cons ((AV.int IntKind.i64 a11).cons ((AV.int IntKind.i64 a12).cons ((AV.int IntKind.i64 a13).cons ((AV.int IntKind.i64 a14).cons AV.nl)))))))))))))).agg []) := by kernel_rfl
theorem ok42 : ConOk Try.prog (42, con42) := by
  intro args t h hp
  simp only [con42] at h
  split at h
  · cases h
    refine fn_ok envD0 tab_ok mixed Try.func42 (by kernel_rfl) (by kernel_rfl) ?_
    rw [f42_run]
    exact ⟨rfl, rfl⟩
  · cases h
def bigB (n : Int) : Bool := decide (n > 268435456) || decide (n < -268435456)
def c17 (a1 : Int) : Int := if a1 < 0 ∨ 256 < a1 then 11 else 0
def c16 (a1 a2 a14 : Int) : Int := if a14 < 0 ∨ a2 = 5 ∧ a14 ≠ 0 then 9 else c17 a1
def c15 (a1 a2 a13 a14 : Int) : Int := if a13 < 0 ∨ a2 = 5 ∧ a13 ≠ 0 then 9 else c16 a1 a2 a14
def c14 (a1 a2 a12 a13 a14 : Int) : Int := if a12 < 0 ∨ a2 = 5 ∧ a12 ≠ 0 then 9 else c15 a1 a2 a13 a14
def c12 (a1 a2 a11 a12 a13 a14 : Int) : Int := if a11 < 0 ∨ a2 = 5 ∧ a11 ≠ 0 then 9 else c14 a1 a2 a12 a13 a14
def c11 (a1 a2 a10 a11 a12 a13 a14 : Int) : Int := if a2 = 5 ∧ a10 ≠ 0 then 8 else c12 a1 a2 a11 a12 a13 a14
def c10 (a1 a2 a9 a10 a11 a12 a13 a14 : Int) : Int := if a2 = 5 ∧ a9 ≠ 0 then 8 else c11 a1 a2 a10 a11 a12 a13 a14
def c9 (a1 a2 a8 a9 a10 a11 a12 a13 a14 : Int) : Int := if a2 = 5 ∧ a8 ≠ 0 then 8 else c10 a1 a2 a9 a10 a11 a12 a13 a14
def c7 (a1 a2 a7 a8 a9 a10 a11 a12 a13 a14 : Int) : Int := if a2 = 5 ∧ a7 ≠ 0 then 8 else c9 a1 a2 a8 a9 a10 a11 a12 a13 a14
def c5 (a1 a2 a5 a6 a7 a8 a9 a10 a11 a12 a13 a14 : Int) : Int := if a5 < -1 ∨ a6 < -1 ∨ a5 = -1 ∧ (a2 = 2 ∨ a2 = 5) ∨ a6 = -1 ∧ a2 = 5 then 7 else c7 a1 a2 a7 a8 a9 a10 a11 a12 a13 a14
def c3 (a1 a2 a4 a5 a6 a7 a8 a9 a10 a11 a12 a13 a14 : Int) : Int := if a4 < 0 ∨ 3 < a4 ∨ a2 = 5 ∧ a4 ≠ 0 then 6 else c5 a1 a2 a5 a6 a7 a8 a9 a10 a11 a12 a13 a14
def c2 (a1 a2 a3 a4 a5 a6 a7 a8 a9 a10 a11 a12 a13 a14 : Int) : Int := if a2 = 2 ∧ a3 ≠ 1 ∧ a3 ≠ 2 ∨ a2 ≠ 2 ∧ a3 ≠ 0 then 5 else c3 a1 a2 a4 a5 a6 a7 a8 a9 a10 a11 a12 a13 a14
def bigs (a5 a6 a7 a8 a9 a10 a11 a12 a13 a14 : Int) : Bool := bigB a5 || bigB a6 || bigB a7 || bigB a11 || bigB a8 || bigB a12 || bigB a9 || bigB a13 || bigB a10 || bigB a14
def checkR (a1 a2 a3 a4 a5 a6 a7 a8 a9 a10 a11 a12 a13 a14 : Int) : Int := if a2 < 1 ∨ 5 < a2 then 4 else if bigs a5 a6 a7 a8 a9 a10 a11 a12 a13 a14 = true then 10 else c2 a1 a2 a3 a4 a5 a6 a7 a8 a9 a10 a11 a12 a13 a14
theorem toR {R : AV → List Ob → Prop} {m n : Int} (h : R (.int .i64 m) []) (e : m = n) : R (.int .i64 n) [] := e ▸ h
def con68 : List AV → Option Tells
  | [.int .i64 n] => some ⟨[], .bool (bigB n), []⟩
  | _ => none
theorem f68_run (R : AV → List Ob → Prop) (n : Int) : fnA tab eD0 Try.f68 (bodyOf Try.f68) [.int .i64 n] R = (bif !decide (n > 268435456) then R (AV.bool (decide (n < -268435456))) [] else R (AV.bool true) []) := by kernel_rfl
theorem ok68 : ConOk Try.prog (68, con68) := by
  intro args t h hp
  simp only [con68] at h
  split at h
  · rename_i n
    cases h
    refine fn_ok envD0 tab_ok mixed Try.func68 (by kernel_rfl) (by kernel_rfl) ?_
    rw [f68_run]
    try dsimp only
    refine ndec_split (fun h => ⟨by simp only [bigB]; rw [decide_eq_false h, Bool.false_or], rfl⟩) (fun h => ⟨by simp only [bigB]; rw [decide_eq_true h, Bool.true_or], rfl⟩)
  · cases h
def con71 : List AV → Option Tells
  | [.int .i64 a, .int .i64 b] => some ⟨[], AV.int IntKind.i64 (bif decide (a > b) then a else b), []⟩
  | _ => none
theorem f71_run (R : AV → List Ob → Prop) (a b : Int) : fnA tab eD0 Try.f71 (bodyOf Try.f71) [.int .i64 a, .int .i64 b] R = (bif decide (a > b) then R (AV.int IntKind.i64 a) [] else R (AV.int IntKind.i64 b) []) := by kernel_rfl
theorem ok71 : ConOk Try.prog (71, con71) := by
  intro args t h hp
  simp only [con71] at h
  split at h
  · cases h
    refine fn_ok envD0 tab_ok mixed Try.func71 (by kernel_rfl) (by kernel_rfl) ?_
    rw [f71_run]
    exact cond_split (fun h0 => ⟨by simp only [h0, cond_true, cond_false], by first | rfl | simp only [h0, cond_true, cond_false]⟩) (fun h0 => ⟨by simp only [h0, cond_true, cond_false], by first | rfl | simp only [h0, cond_true, cond_false]⟩)
  · cases h
def con72 : List AV → Option Tells
  | [.agg (.cons (.int .i64 a) (.cons (.int .i64 b) (.cons (.int .i64 c) (.cons (.int .i64 d) .nl)))), .int .i64 x, .int .i64 y] => some ⟨[], AV.bool (bif decide (x ≥ a) then bif decide (x < c) then bif decide (y ≥ b) then decide (y < d) else false else false else false), []⟩
  | _ => none
theorem f72_run (R : AV → List Ob → Prop) (a b c d x y : Int) : fnA tab eD0 Try.f72 (bodyOf Try.f72) [.agg (.cons (.int .i64 a) (.cons (.int .i64 b) (.cons (.int .i64 c) (.cons (.int .i64 d) .nl)))), .int .i64 x, .int .i64 y] R = ((0 : Int) ≤ 0 ∧ (0 : Int) < 4 ∧ bif decide (x ≥ a) then (0 : Int) ≤ 2 ∧ (2 : Int) < 4 ∧ bif decide (x < c) then (0 : Int) ≤ 1 ∧ (1 : Int) < 4 ∧ bif decide (y ≥ b) then (0 : Int) ≤ 3 ∧ (3 : Int) < 4 ∧ R (AV.bool (decide (y < d))) [] else R (AV.bool false) [] else R (AV.bool false) [] else R (AV.bool false) []) := by kernel_rfl
theorem ok72 : ConOk Try.prog (72, con72) := by
  intro args t h hp
  simp only [con72] at h
  split at h
  · cases h
    refine fn_ok envD0 tab_ok mixed Try.func72 (by kernel_rfl) (by kernel_rfl) ?_
    rw [f72_run]
    exact ⟨of_decide_eq_true rfl, ⟨of_decide_eq_true rfl, cond_split (fun h0 => ⟨of_decide_eq_true rfl, ⟨of_decide_eq_true rfl, cond_split (fun h1 => ⟨of_decide_eq_true rfl, ⟨of_decide_eq_true rfl, cond_split (fun h2 => ⟨of_decide_eq_true rfl, ⟨of_decide_eq_true rfl, ⟨by simp only [h0, h1, h2, cond_true, cond_false], by first | rfl | simp only [h0, h1, h2, cond_true, cond_false]⟩⟩⟩) (fun h2 => ⟨by simp only [h0, h1, h2, cond_true, cond_false], by first | rfl | simp only [h0, h1, h2, cond_true, cond_false]⟩)⟩⟩) (fun h1 => ⟨by simp only [h0, h1, cond_true, cond_false], by first | rfl | simp only [h0, h1, cond_true, cond_false]⟩)⟩⟩) (fun h0 => ⟨by simp only [h0, cond_true, cond_false], by first | rfl | simp only [h0, cond_true, cond_false]⟩)⟩⟩
  · cases h
def con82 : List AV → Option Tells
  | [.agg (.cons (.int .i64 a) (.cons (.int .i64 b) (.cons (.int .i64 c) (.cons (.int .i64 d) .nl))))] => some ⟨[], ((AV.int IntKind.i64 a).cons ((AV.int IntKind.i64 c).cons AV.nl)).agg, []⟩
  | _ => none
theorem f82_run (R : AV → List Ob → Prop) (a b c d : Int) : fnA tab eD0 Try.f82 (bodyOf Try.f82) [.agg (.cons (.int .i64 a) (.cons (.int .i64 b) (.cons (.int .i64 c) (.cons (.int .i64 d) .nl))))] R = (R ((AV.int IntKind.i64 a).cons ((AV.int IntKind.i64 c).cons AV.nl)).agg []) := by kernel_rfl
theorem ok82 : ConOk Try.prog (82, con82) := by
  intro args t h hp
  simp only [con82] at h
  split at h
  · cases h
    refine fn_ok envD0 tab_ok mixed Try.func82 (by kernel_rfl) (by kernel_rfl) ?_
    rw [f82_run]
    exact ⟨rfl, rfl⟩
  · cases h
def con84 : List AV → Option Tells
  | [.agg (.cons (.int .i64 a) (.cons (.int .i64 b) (.cons (.int .i64 c) (.cons (.int .i64 d) .nl))))] => some ⟨[], ((AV.int IntKind.i64 b).cons ((AV.int IntKind.i64 d).cons AV.nl)).agg, []⟩
  | _ => none
theorem f84_run (R : AV → List Ob → Prop) (a b c d : Int) : fnA tab eD0 Try.f84 (bodyOf Try.f84) [.agg (.cons (.int .i64 a) (.cons (.int .i64 b) (.cons (.int .i64 c) (.cons (.int .i64 d) .nl))))] R = (R ((AV.int IntKind.i64 b).cons ((AV.int IntKind.i64 d).cons AV.nl)).agg []) := by kernel_rfl
theorem ok84 : ConOk Try.prog (84, con84) := by
  intro args t h hp
  simp only [con84] at h
  split at h
  · cases h
    refine fn_ok envD0 tab_ok mixed Try.func84 (by kernel_rfl) (by kernel_rfl) ?_
    rw [f84_run]
    exact ⟨rfl, rfl⟩
  · cases h
def con85 : List AV → Option Tells
  | [.agg (.cons (.int .i64 a) (.cons (.int .i64 b) .nl))] => some ⟨[], AV.int IntKind.i64 (IntKind.i64.wrap (b - a)), []⟩
  | _ => none
theorem f85_run (R : AV → List Ob → Prop) (a b : Int) : fnA tab eD0 Try.f85 (bodyOf Try.f85) [.agg (.cons (.int .i64 a) (.cons (.int .i64 b) .nl))] R = (R (AV.int IntKind.i64 (IntKind.i64.wrap (b - a))) []) := by kernel_rfl
theorem ok85 : ConOk Try.prog (85, con85) := by
  intro args t h hp
  simp only [con85] at h
  split at h
  · cases h
    refine fn_ok envD0 tab_ok mixed Try.func85 (by kernel_rfl) (by kernel_rfl) ?_
    rw [f85_run]
    exact ⟨rfl, rfl⟩
  · cases h
def con87 : List AV → Option Tells
  | [.agg (.cons (.int .i64 a) (.cons (.int .i64 b) .nl)), .agg (.cons (.int .i64 c) (.cons (.int .i64 d) .nl))] => some ⟨[], ((AV.int IntKind.i64 (if c > a then c else a)).cons ((AV.int IntKind.i64 (if d < b then d else b)).cons AV.nl)).agg, []⟩
  | _ => none
theorem f87_run (R : AV → List Ob → Prop) (a b c d : Int) : fnA tab eD0 Try.f87 (bodyOf Try.f87) [.agg (.cons (.int .i64 a) (.cons (.int .i64 b) .nl)), .agg (.cons (.int .i64 c) (.cons (.int .i64 d) .nl))] R = (R ((AV.int IntKind.i64 (if c > a then c else a)).cons ((AV.int IntKind.i64 (if d < b then d else b)).cons AV.nl)).agg []) := by kernel_rfl
theorem ok87 : ConOk Try.prog (87, con87) := by
  intro args t h hp
  simp only [con87] at h
  split at h
  · cases h
    refine fn_ok envD0 tab_ok mixed Try.func87 (by kernel_rfl) (by kernel_rfl) ?_
    rw [f87_run]
    exact ⟨rfl, rfl⟩
  · cases h
def con90 : List AV → Option Tells
  | [.agg (.cons (.int .i64 a) (.cons (.int .i64 b) .nl)), .agg (.cons (.int .i64 c) (.cons (.int .i64 d) .nl))] => some ⟨[], ((AV.int IntKind.i64 a).cons ((AV.int IntKind.i64 c).cons ((AV.int IntKind.i64 b).cons ((AV.int IntKind.i64 d).cons AV.nl)))).agg, []⟩
  | _ => none
theorem f90_run (R : AV → List Ob → Prop) (a b c d : Int) : fnA tab eD0 Try.f90 (bodyOf Try.f90) [.agg (.cons (.int .i64 a) (.cons (.int .i64 b) .nl)), .agg (.cons (.int .i64 c) (.cons (.int .i64 d) .nl))] R = (R ((AV.int IntKind.i64 a).cons ((AV.int IntKind.i64 c).cons ((AV.int IntKind.i64 b).cons ((AV.int IntKind.i64 d).cons AV.nl)))).agg []) := by kernel_rfl
theorem ok90 : ConOk Try.prog (90, con90) := by
  intro args t h hp
  simp only [con90] at h
  split at h
  · cases h
    refine fn_ok envD0 tab_ok mixed Try.func90 (by kernel_rfl) (by kernel_rfl) ?_
    rw [f90_run]
    exact ⟨rfl, rfl⟩
  · cases h
def mir (x : Int) (r : Rc4) : Rc4 := (IntKind.wrap .i64 (x - r.2.2.1), r.2.1, IntKind.wrap .i64 (x - r.1), r.2.2.2)
def mirL (x : Int) (n : Ln) : Ln := (n.1, mir x n.2.1, n.2.2)
def con67 : List AV → List Ob → Option Tells2
  | [.rptr 0 i 0, .ptr 1 0], [.row 47 (.pair (.int .i64) (.pair (.int .i64) (.pair (.int .i64) (.int .i64)))) xs, .cells 3 [.int .i64 x]] => some ⟨[0 ≤ i, i < (xs.length : Int)], .tuple .nl, [some (.row 47 T4 (xs.set i.toNat (mir x (xs.getD i.toNat (0, 0, 0, 0))))), none], []⟩
  | _, _ => none
theorem f67_run (R : AV → List Ob → Prop) (i : Int) (xs : List T4.den) (x : Int) : fnB tab eD0 Try.f67 (bodyOf Try.f67) [.rptr 0 i 0, .ptr 1 0] [.row 47 T4 xs, .cells 3 [.int .i64 x]] R = (R AV.nl.tuple [Ob.row 47 ((Ty.int IntKind.i64).pair ((Ty.int IntKind.i64).pair ((Ty.int IntKind.i64).pair (Ty.int IntKind.i64)))) ((xs.set i.toNat (IntKind.i64.wrap (x - (xs.getD i.toNat (0, 0, 0, 0)).snd.snd.fst), (xs.getD i.toNat (0, 0, 0, 0)).snd.fst, (xs.getD i.toNat (0, 0, 0, 0)).snd.snd.fst, (xs.getD i.toNat (0, 0, 0, 0)).snd.snd.snd)).set i.toNat (((xs.set i.toNat (IntKind.i64.wrap (x - (xs.getD i.toNat (0, 0, 0, 0)).snd.snd.fst), (xs.getD i.toNat (0, 0, 0, 0)).snd.fst, (xs.getD i.toNat (0, 0, 0, 0)).snd.snd.fst, (xs.getD i.toNat (0, 0, 0, 0)).snd.snd.snd)).getD i.toNat (0, 0, 0, 0)).fst, ((xs.set i.toNat (IntKind.i64.wrap (x - (xs.getD i.toNat (0, 0, 0, 0)).snd.snd.fst), (xs.getD i.toNat (0, 0, 0, 0)).snd.fst, (xs.getD i.toNat (0, 0, 0, 0)).snd.snd.fst, (xs.getD i.toNat (0, 0, 0, 0)).snd.snd.snd)).getD i.toNat (0, 0, 0, 0)).snd.fst, IntKind.i64.wrap (x - (xs.getD i.toNat (0, 0, 0, 0)).fst), ((xs.set i.toNat (IntKind.i64.wrap (x - (xs.getD i.toNat (0, 0, 0, 0)).snd.snd.fst), (xs.getD i.toNat (0, 0, 0, 0)).snd.fst, (xs.getD i.toNat (0, 0, 0, 0)).snd.snd.fst, (xs.getD i.toNat (0, 0, 0, 0)).snd.snd.snd)).getD i.toNat (0, 0, 0, 0)).snd.snd.snd)), Ob.cells 3 [AV.int IntKind.i64 x]]) := by kernel_rfl
theorem ok67 : ConOk2 Try.prog (67, con67) := by
  intro args obs t h hp
  simp only [con67] at h
  split at h
  · rename_i i xs x
    change List T4.den at xs
    cases h
    refine fn_ok2 envD0 tab_ok mixed Try.func67 (by kernel_rfl) (by kernel_rfl) ?_
    rw [f67_run]
    try dsimp only
    have h1 := hp (0 ≤ i) (by simp)
    have h2 := hp (i < (xs.length : Int)) (by simp)
    have hlt : i.toNat < xs.length := by omega
    refine ⟨rfl, ?_⟩
    rw [List.set_set, getD_nat' (xs.set i.toNat _) _ _ (by rw [List.length_set]; exact hlt), List.getElem_set_self]
    rfl
  · cases h
def con67b : List AV → List Ob → Option Tells2
  | [.rptr 0 i 1, .ptr 1 0], [.row 106 (.pair (.int .i64) (.pair (.pair (.int .i64) (.pair (.int .i64) (.pair (.int .i64) (.int .i64)))) (.pair (.int .i64) (.int .i64)))) xs, .cells 3 [.int .i64 x]] => some ⟨[0 ≤ i, i < (xs.length : Int)], .tuple .nl, [some (.row 106 TL (xs.set i.toNat (mirL x (xs.getD i.toNat (0, (0, 0, 0, 0), 0, 0))))), none], []⟩
  | _, _ => none
theorem f67b_run (R : AV → List Ob → Prop) (i : Int) (xs : List TL.den) (x : Int) : fnB tab eD0 Try.f67 (bodyOf Try.f67) [.rptr 0 i 1, .ptr 1 0] [.row 106 TL xs, .cells 3 [.int .i64 x]] R = (R AV.nl.tuple [Ob.row 106 ((Ty.int IntKind.i64).pair (((Ty.int IntKind.i64).pair ((Ty.int IntKind.i64).pair ((Ty.int IntKind.i64).pair (Ty.int IntKind.i64)))).pair ((Ty.int IntKind.i64).pair (Ty.int IntKind.i64)))) ((xs.set i.toNat ((xs.getD i.toNat (0, (0, 0, 0, 0), 0, 0)).fst, (IntKind.i64.wrap (x - (xs.getD i.toNat (0, (0, 0, 0, 0), 0, 0)).snd.fst.snd.snd.fst), (xs.getD i.toNat (0, (0, 0, 0, 0), 0, 0)).snd.fst.snd.fst, (xs.getD i.toNat (0, (0, 0, 0, 0), 0, 0)).snd.fst.snd.snd.fst, (xs.getD i.toNat (0, (0, 0, 0, 0), 0, 0)).snd.fst.snd.snd.snd), (xs.getD i.toNat (0, (0, 0, 0, 0), 0, 0)).snd.snd.fst, (xs.getD i.toNat (0, (0, 0, 0, 0), 0, 0)).snd.snd.snd)).set i.toNat (((xs.set i.toNat ((xs.getD i.toNat (0, (0, 0, 0, 0), 0, 0)).fst, (IntKind.i64.wrap (x - (xs.getD i.toNat (0, (0, 0, 0, 0), 0, 0)).snd.fst.snd.snd.fst), (xs.getD i.toNat (0, (0, 0, 0, 0), 0, 0)).snd.fst.snd.fst, (xs.getD i.toNat (0, (0, 0, 0, 0), 0, 0)).snd.fst.snd.snd.fst, (xs.getD i.toNat (0, (0, 0, 0, 0), 0, 0)).snd.fst.snd.snd.snd), (xs.getD i.toNat (0, (0, 0, 0, 0), 0, 0)).snd.snd.fst, (xs.getD i.toNat (0, (0, 0, 0, 0), 0, 0)).snd.snd.snd)).getD i.toNat (0, (0, 0, 0, 0), 0, 0)).fst, (((xs.set i.toNat ((xs.getD i.toNat (0, (0, 0, 0, 0), 0, 0)).fst, (IntKind.i64.wrap (x - (xs.getD i.toNat (0, (0, 0, 0, 0), 0, 0)).snd.fst.snd.snd.fst), (xs.getD i.toNat (0, (0, 0, 0, 0), 0, 0)).snd.fst.snd.fst, (xs.getD i.toNat (0, (0, 0, 0, 0), 0, 0)).snd.fst.snd.snd.fst, (xs.getD i.toNat (0, (0, 0, 0, 0), 0, 0)).snd.fst.snd.snd.snd), (xs.getD i.toNat (0, (0, 0, 0, 0), 0, 0)).snd.snd.fst, (xs.getD i.toNat (0, (0, 0, 0, 0), 0, 0)).snd.snd.snd)).getD i.toNat (0, (0, 0, 0, 0), 0, 0)).snd.fst.fst, ((xs.set i.toNat ((xs.getD i.toNat (0, (0, 0, 0, 0), 0, 0)).fst, (IntKind.i64.wrap (x - (xs.getD i.toNat (0, (0, 0, 0, 0), 0, 0)).snd.fst.snd.snd.fst), (xs.getD i.toNat (0, (0, 0, 0, 0), 0, 0)).snd.fst.snd.fst, (xs.getD i.toNat (0, (0, 0, 0, 0), 0, 0)).snd.fst.snd.snd.fst, (xs.getD i.toNat (0, (0, 0, 0, 0), 0, 0)).snd.fst.snd.snd.snd), (xs.getD i.toNat (0, (0, 0, 0, 0), 0, 0)).snd.snd.fst, (xs.getD i.toNat (0, (0, 0, 0, 0), 0, 0)).snd.snd.snd)).getD i.toNat (0, (0, 0, 0, 0), 0, 0)).snd.fst.snd.fst, IntKind.i64.wrap (x - (xs.getD i.toNat (0, (0, 0, 0, 0), 0, 0)).snd.fst.fst), ((xs.set i.toNat ((xs.getD i.toNat (0, (0, 0, 0, 0), 0, 0)).fst, (IntKind.i64.wrap (x - (xs.getD i.toNat (0, (0, 0, 0, 0), 0, 0)).snd.fst.snd.snd.fst), (xs.getD i.toNat (0, (0, 0, 0, 0), 0, 0)).snd.fst.snd.fst, (xs.getD i.toNat (0, (0, 0, 0, 0), 0, 0)).snd.fst.snd.snd.fst, (xs.getD i.toNat (0, (0, 0, 0, 0), 0, 0)).snd.fst.snd.snd.snd), (xs.getD i.toNat (0, (0, 0, 0, 0), 0, 0)).snd.snd.fst, (xs.getD i.toNat (0, (0, 0, 0, 0), 0, 0)).snd.snd.snd)).getD i.toNat (0, (0, 0, 0, 0), 0, 0)).snd.fst.snd.snd.snd), ((xs.set i.toNat ((xs.getD i.toNat (0, (0, 0, 0, 0), 0, 0)).fst, (IntKind.i64.wrap (x - (xs.getD i.toNat (0, (0, 0, 0, 0), 0, 0)).snd.fst.snd.snd.fst), (xs.getD i.toNat (0, (0, 0, 0, 0), 0, 0)).snd.fst.snd.fst, (xs.getD i.toNat (0, (0, 0, 0, 0), 0, 0)).snd.fst.snd.snd.fst, (xs.getD i.toNat (0, (0, 0, 0, 0), 0, 0)).snd.fst.snd.snd.snd), (xs.getD i.toNat (0, (0, 0, 0, 0), 0, 0)).snd.snd.fst, (xs.getD i.toNat (0, (0, 0, 0, 0), 0, 0)).snd.snd.snd)).getD i.toNat (0, (0, 0, 0, 0), 0, 0)).snd.snd.fst, ((xs.set i.toNat ((xs.getD i.toNat (0, (0, 0, 0, 0), 0, 0)).fst, (IntKind.i64.wrap (x - (xs.getD i.toNat (0, (0, 0, 0, 0), 0, 0)).snd.fst.snd.snd.fst), (xs.getD i.toNat (0, (0, 0, 0, 0), 0, 0)).snd.fst.snd.fst, (xs.getD i.toNat (0, (0, 0, 0, 0), 0, 0)).snd.fst.snd.snd.fst, (xs.getD i.toNat (0, (0, 0, 0, 0), 0, 0)).snd.fst.snd.snd.snd), (xs.getD i.toNat (0, (0, 0, 0, 0), 0, 0)).snd.snd.fst, (xs.getD i.toNat (0, (0, 0, 0, 0), 0, 0)).snd.snd.snd)).getD i.toNat (0, (0, 0, 0, 0), 0, 0)).snd.snd.snd)), Ob.cells 3 [AV.int IntKind.i64 x]]) := by kernel_rfl
theorem ok67b : ConOk2 Try.prog (67, con67b) := by
  intro args obs t h hp
  simp only [con67b] at h
  split at h
  · rename_i i xs x
    change List TL.den at xs
    cases h
    refine fn_ok2 envD0 tab_ok mixed Try.func67 (by kernel_rfl) (by kernel_rfl) ?_
    rw [f67b_run]
    try dsimp only
    have h1 := hp (0 ≤ i) (by simp)
    have h2 := hp (i < (xs.length : Int)) (by simp)
    have hlt : i.toNat < xs.length := by omega
    refine ⟨rfl, ?_⟩
    rw [List.set_set, getD_nat' (xs.set i.toNat _) _ _ (by rw [List.length_set]; exact hlt), List.getElem_set_self]
    rfl
  · cases h
def con66 : List AV → Option Tells
  | [.list 106 (.pair (.int .i64) (.pair (.pair (.int .i64) (.pair (.int .i64) (.pair (.int .i64) (.int .i64)))) (.pair (.int .i64) (.int .i64)))) xs] => some ⟨[xs.length ≤ 4096], .row 0, [.row 106 TL xs]⟩
  | _ => none
theorem f66_run (R : AV → List Ob → Prop) (xs : List TL.den) : fnA tab eD0 Try.f66 (bodyOf Try.f66) [.list 106 TL xs] R = ((xs = [] → R (AV.row 0) [Ob.row 106 ((Ty.int IntKind.i64).pair (((Ty.int IntKind.i64).pair ((Ty.int IntKind.i64).pair ((Ty.int IntKind.i64).pair (Ty.int IntKind.i64)))).pair ((Ty.int IntKind.i64).pair (Ty.int IntKind.i64)))) []]) ∧ (0 + xs.length) * 56 ≤ 140737488355328 ∧ R (AV.row 0) [Ob.row 106 ((Ty.int IntKind.i64).pair (((Ty.int IntKind.i64).pair ((Ty.int IntKind.i64).pair ((Ty.int IntKind.i64).pair (Ty.int IntKind.i64)))).pair ((Ty.int IntKind.i64).pair (Ty.int IntKind.i64)))) xs]) := by kernel_rfl
theorem ok66 : ConOk Try.prog (66, con66) := by
  intro args t h hp
  simp only [con66] at h
  split at h
  · rename_i xs
    change List TL.den at xs
    cases h
    refine fn_ok envD0 tab_ok mixed Try.func66 (by kernel_rfl) (by kernel_rfl) ?_
    rw [f66_run]
    try dsimp only
    have hm := hp (xs.length ≤ 4096) (by simp)
    refine ⟨fun h => ⟨rfl, ?_⟩, by omega, rfl, rfl⟩
    rw [h]
  · cases h
def consM1 : Cons := (68, con68) :: (71, con71) :: (72, con72) :: (82, con82) :: (84, con84) :: (85, con85) :: (87, con87) :: (90, con90) :: consD2
def twosM1 : Cons2 := twosD2
def pansM1 : Cons3 := pansD2
def itersM1 : Cons4 := itersD2
abbrev eM1 : Env := envOf4 consM1 twosM1 pansM1 itersM1
theorem allconsM1 : ∀ c ∈ consM1, ConOk Try.prog c := all_cons ok68 (all_cons ok71 (all_cons ok72 (all_cons ok82 (all_cons ok84 (all_cons ok85 (all_cons ok87 (all_cons ok90 allconsD2)))))))
theorem alltwosM1 : ∀ c ∈ twosM1, ConOk2 Try.prog c := alltwosD2
theorem allpansM1 : ∀ c ∈ pansM1, ConOk3 Try.prog c := allpansD2
theorem allitersM1 : ∀ c ∈ itersM1, ConOk4 Try.prog c := allitersD2
theorem envM1 : EnvOk Try.prog eM1 := envOf4_ok _ _ _ _ allconsM1 alltwosM1 allpansM1 allitersM1
def con41 : List AV → Option Tells
  | [.agg (.cons (.int .i64 a1) (.cons (.int .i64 a2) (.cons (.int .i64 a3) (.cons (.int .i64 a4) (.cons (.int .i64 a5) (.cons (.int .i64 a6) (.cons (.int .i64 a7) (.cons (.int .i64 a8) (.cons (.int .i64 a9) (.cons (.int .i64 a10) (.cons (.int .i64 a11) (.cons (.int .i64 a12) (.cons (.int .i64 a13) (.cons (.int .i64 a14) .nl))))))))))))))] => some ⟨[], .int .i64 (checkR a1 a2 a3 a4 a5 a6 a7 a8 a9 a10 a11 a12 a13 a14), []⟩
  | _ => none
def f41_cuts : List Nat := [12, 13, 14, 15, 16, 17, 19, 24]
def f41_live1 : List Nat := [3, 3, 1, 3, 1, 3, 1, 1, 1, 1, 1, 1, 1, 1, 1, 1, 1, 1, 1, 1, 1, 1, 1, 1, 1, 1, 1, 1, 1, 2]
def f41_head1 (a1 : Int) (a2 : Int) (a3 : Int) (a4 : Int) (a5 : Int) (a6 : Int) (a7 : Int) (a8 : Int) (a9 : Int) (a10 : Int) (a11 : Int) (a12 : Int) (a13 : Int) (a14 : Int) : St := { slots := [AV.undef, AV.ptr 0 0, AV.int IntKind.i64 0, AV.int IntKind.i64 0] ++ List.replicate 151 AV.undef, obs := [Ob.cells 66 [AV.int IntKind.i64 a1, AV.int IntKind.i64 a2, AV.int IntKind.i64 a3, AV.int IntKind.i64 a4, AV.int IntKind.i64 a5, AV.int IntKind.i64 a6, AV.int IntKind.i64 a7, AV.int IntKind.i64 a8, AV.int IntKind.i64 a9, AV.int IntKind.i64 a10, AV.int IntKind.i64 a11, AV.int IntKind.i64 a12, AV.int IntKind.i64 a13, AV.int IntKind.i64 a14]] }
def f41_q1 (R : AV → List Ob → Prop) : Ex → St → Prop := blockA 0 (seqQ tab (eM1.cut f41_cuts) (subC [1, 1, 1, 1] (bodyOf Try.f41)) [2] (endA tab Try.f41 R))
def f41_loop1 (R : AV → List Ob → Prop) (a1 : Int) (a2 : Int) (a3 : Int) (a4 : Int) (a5 : Int) (a6 : Int) (a7 : Int) (a8 : Int) (a9 : Int) (a10 : Int) (a11 : Int) (a12 : Int) (a13 : Int) (a14 : Int) : Prop := loopT f41_live1 (codeA tab (eM1.cut f41_cuts) (subC [1, 1, 1, 0, 1, 0, 0] (bodyOf Try.f41)) f41_live1) (f41_head1 a1 a2 a3 a4 a5 a6 a7 a8 a9 a10 a11 a12 a13 a14) (f41_q1 R)
def f41_j2 (R : AV → List Ob → Prop) (a1 : Int) (a2 : Int) (a3 : Int) (a4 : Int) (a5 : Int) (a6 : Int) (a7 : Int) (a8 : Int) (a9 : Int) (a10 : Int) (a11 : Int) (a12 : Int) (a13 : Int) (a14 : Int)  : Prop := Meet (fun s => codeA tab (eM1.cut f41_cuts) (subC [1, 1, 1, 1, 0, 1] (bodyOf Try.f41)) [1, 1, 1, 1, 1, 1, 1, 1, 1, 1, 1, 1, 1, 1, 1, 1, 1, 1, 2] s (seqQ tab (eM1.cut f41_cuts) (subC [1, 1, 1, 1, 1] (bodyOf Try.f41)) [2] (endA tab Try.f41 R))) { slots := [AV.undef, AV.ptr 0 0, AV.int IntKind.i64 0] ++ List.replicate 57 AV.undef ++ [AV.bool (a3 != 0)] ++ List.replicate 94 AV.undef, obs := [Ob.cells 66 [AV.int IntKind.i64 a1, AV.int IntKind.i64 a2, AV.int IntKind.i64 a3, AV.int IntKind.i64 a4, AV.int IntKind.i64 a5, AV.int IntKind.i64 a6, AV.int IntKind.i64 a7, AV.int IntKind.i64 a8, AV.int IntKind.i64 a9, AV.int IntKind.i64 a10, AV.int IntKind.i64 a11, AV.int IntKind.i64 a12, AV.int IntKind.i64 a13, AV.int IntKind.i64 a14]] }
def f41_j3 (R : AV → List Ob → Prop) (a1 : Int) (a2 : Int) (a3 : Int) (a4 : Int) (a5 : Int) (a6 : Int) (a7 : Int) (a8 : Int) (a9 : Int) (a10 : Int) (a11 : Int) (a12 : Int) (a13 : Int) (a14 : Int)  : Prop := Meet (fun s => codeA tab (eM1.cut f41_cuts) (subC [1, 1, 1, 1, 1] (bodyOf Try.f41)) [2] s (endA tab Try.f41 R)) { slots := [AV.undef, AV.ptr 0 0, AV.int IntKind.i64 0] ++ List.replicate 152 AV.undef, obs := [Ob.cells 66 [AV.int IntKind.i64 a1, AV.int IntKind.i64 a2, AV.int IntKind.i64 a3, AV.int IntKind.i64 a4, AV.int IntKind.i64 a5, AV.int IntKind.i64 a6, AV.int IntKind.i64 a7, AV.int IntKind.i64 a8, AV.int IntKind.i64 a9, AV.int IntKind.i64 a10, AV.int IntKind.i64 a11, AV.int IntKind.i64 a12, AV.int IntKind.i64 a13, AV.int IntKind.i64 a14]] }
def f41_j4 (R : AV → List Ob → Prop) (a1 : Int) (a2 : Int) (a3 : Int) (a4 : Int) (a5 : Int) (a6 : Int) (a7 : Int) (a8 : Int) (a9 : Int) (a10 : Int) (a11 : Int) (a12 : Int) (a13 : Int) (a14 : Int)  : Prop := Meet (fun s => codeA tab (eM1.cut f41_cuts) (subC [1, 1, 1, 1, 1, 0, 1] (bodyOf Try.f41)) [1, 1, 1, 1, 1, 1, 1, 1, 1, 1, 1, 1, 1, 1, 2] s (seqQ tab (eM1.cut f41_cuts) (subC [1, 1, 1, 1, 1, 1] (bodyOf Try.f41)) [2] (endA tab Try.f41 R))) { slots := [AV.undef, AV.ptr 0 0, AV.int IntKind.i64 0] ++ List.replicate 75 AV.undef ++ [AV.bool (a4 != 0)] ++ List.replicate 76 AV.undef, obs := [Ob.cells 66 [AV.int IntKind.i64 a1, AV.int IntKind.i64 a2, AV.int IntKind.i64 a3, AV.int IntKind.i64 a4, AV.int IntKind.i64 a5, AV.int IntKind.i64 a6, AV.int IntKind.i64 a7, AV.int IntKind.i64 a8, AV.int IntKind.i64 a9, AV.int IntKind.i64 a10, AV.int IntKind.i64 a11, AV.int IntKind.i64 a12, AV.int IntKind.i64 a13, AV.int IntKind.i64 a14]] }
def f41_j5 (R : AV → List Ob → Prop) (a1 : Int) (a2 : Int) (a3 : Int) (a4 : Int) (a5 : Int) (a6 : Int) (a7 : Int) (a8 : Int) (a9 : Int) (a10 : Int) (a11 : Int) (a12 : Int) (a13 : Int) (a14 : Int)  : Prop := Meet (fun s => codeA tab (eM1.cut f41_cuts) (subC [1, 1, 1, 1, 1, 1] (bodyOf Try.f41)) [2] s (endA tab Try.f41 R)) { slots := [AV.undef, AV.ptr 0 0, AV.int IntKind.i64 0] ++ List.replicate 152 AV.undef, obs := [Ob.cells 66 [AV.int IntKind.i64 a1, AV.int IntKind.i64 a2, AV.int IntKind.i64 a3, AV.int IntKind.i64 a4, AV.int IntKind.i64 a5, AV.int IntKind.i64 a6, AV.int IntKind.i64 a7, AV.int IntKind.i64 a8, AV.int IntKind.i64 a9, AV.int IntKind.i64 a10, AV.int IntKind.i64 a11, AV.int IntKind.i64 a12, AV.int IntKind.i64 a13, AV.int IntKind.i64 a14]] }
def f41_j6 (R : AV → List Ob → Prop) (a1 : Int) (a2 : Int) (a3 : Int) (a4 : Int) (a5 : Int) (a6 : Int) (a7 : Int) (a8 : Int) (a9 : Int) (a10 : Int) (a11 : Int) (a12 : Int) (a13 : Int) (a14 : Int)  : Prop := Meet (fun s => codeA tab (eM1.cut f41_cuts) (subC [1, 1, 1, 1, 1, 1, 0, 1] (bodyOf Try.f41)) [1, 1, 1, 1, 1, 1, 1, 2] s (seqQ tab (eM1.cut f41_cuts) (subC [1, 1, 1, 1, 1, 1, 1] (bodyOf Try.f41)) [2] (endA tab Try.f41 R))) { slots := [AV.undef, AV.ptr 0 0, AV.int IntKind.i64 0] ++ List.replicate 108 AV.undef ++ [AV.bool (a2 == 5)] ++ List.replicate 43 AV.undef, obs := [Ob.cells 66 [AV.int IntKind.i64 a1, AV.int IntKind.i64 a2, AV.int IntKind.i64 a3, AV.int IntKind.i64 a4, AV.int IntKind.i64 a5, AV.int IntKind.i64 a6, AV.int IntKind.i64 a7, AV.int IntKind.i64 a8, AV.int IntKind.i64 a9, AV.int IntKind.i64 a10, AV.int IntKind.i64 a11, AV.int IntKind.i64 a12, AV.int IntKind.i64 a13, AV.int IntKind.i64 a14]] }
def f41_j7 (R : AV → List Ob → Prop) (a1 : Int) (a2 : Int) (a3 : Int) (a4 : Int) (a5 : Int) (a6 : Int) (a7 : Int) (a8 : Int) (a9 : Int) (a10 : Int) (a11 : Int) (a12 : Int) (a13 : Int) (a14 : Int)  : Prop := Meet (fun s => codeA tab (eM1.cut f41_cuts) (subC [1, 1, 1, 1, 1, 1, 1] (bodyOf Try.f41)) [2] s (endA tab Try.f41 R)) { slots := [AV.undef, AV.ptr 0 0, AV.int IntKind.i64 0] ++ List.replicate 152 AV.undef, obs := [Ob.cells 66 [AV.int IntKind.i64 a1, AV.int IntKind.i64 a2, AV.int IntKind.i64 a3, AV.int IntKind.i64 a4, AV.int IntKind.i64 a5, AV.int IntKind.i64 a6, AV.int IntKind.i64 a7, AV.int IntKind.i64 a8, AV.int IntKind.i64 a9, AV.int IntKind.i64 a10, AV.int IntKind.i64 a11, AV.int IntKind.i64 a12, AV.int IntKind.i64 a13, AV.int IntKind.i64 a14]] }
def f41_live8 : List Nat := [4, 1, 4, 1, 4, 1, 1, 1, 1, 1, 2]
def f41_head8 (a1 : Int) (a2 : Int) (a3 : Int) (a4 : Int) (a5 : Int) (a6 : Int) (a7 : Int) (a8 : Int) (a9 : Int) (a10 : Int) (a11 : Int) (a12 : Int) (a13 : Int) (a14 : Int) : St := { slots := [AV.undef, AV.ptr 0 0, AV.int IntKind.i64 0, AV.undef, AV.int IntKind.i64 0] ++ List.replicate 150 AV.undef, obs := [Ob.cells 66 [AV.int IntKind.i64 a1, AV.int IntKind.i64 a2, AV.int IntKind.i64 a3, AV.int IntKind.i64 a4, AV.int IntKind.i64 a5, AV.int IntKind.i64 a6, AV.int IntKind.i64 a7, AV.int IntKind.i64 a8, AV.int IntKind.i64 a9, AV.int IntKind.i64 a10, AV.int IntKind.i64 a11, AV.int IntKind.i64 a12, AV.int IntKind.i64 a13, AV.int IntKind.i64 a14]] }
def f41_q8 (R : AV → List Ob → Prop) : Ex → St → Prop := blockA 2 (seqQ tab (eM1.cut f41_cuts) (subC [1, 1, 1, 1, 1, 1, 1, 1] (bodyOf Try.f41)) [2] (endA tab Try.f41 R))
def f41_loop8 (R : AV → List Ob → Prop) (a1 : Int) (a2 : Int) (a3 : Int) (a4 : Int) (a5 : Int) (a6 : Int) (a7 : Int) (a8 : Int) (a9 : Int) (a10 : Int) (a11 : Int) (a12 : Int) (a13 : Int) (a14 : Int) : Prop := loopT f41_live8 (codeA tab (eM1.cut f41_cuts) (subC [1, 1, 1, 1, 1, 1, 1, 0, 1, 0, 0] (bodyOf Try.f41)) f41_live8) (f41_head8 a1 a2 a3 a4 a5 a6 a7 a8 a9 a10 a11 a12 a13 a14) (f41_q8 R)
def f41_j9 (R : AV → List Ob → Prop) (a1 : Int) (a2 : Int) (a3 : Int) (a4 : Int) (a5 : Int) (a6 : Int) (a7 : Int) (a8 : Int) (a9 : Int) (a10 : Int) (a11 : Int) (a12 : Int) (a13 : Int) (a14 : Int)  : Prop := Meet (fun s => codeA tab (eM1.cut f41_cuts) (subC [1, 1, 1, 1, 1, 1, 1, 0, 1, 0, 0, 1, 1] (bodyOf Try.f41)) [4, 1, 4, 1, 4, 1, 1, 1, 1, 1, 2] s (thenA (fun s => loopU f41_live8 (codeA tab (eM1.cut f41_cuts) (subC [1, 1, 1, 1, 1, 1, 1, 0, 1, 0, 0] (bodyOf Try.f41)) f41_live8) 39 (St.tidy f41_live8 s) (blockA 2 (seqQ tab (eM1.cut f41_cuts) (subC [1, 1, 1, 1, 1, 1, 1, 1] (bodyOf Try.f41)) [2] (endA tab Try.f41 R)))) (blockA 2 (seqQ tab (eM1.cut f41_cuts) (subC [1, 1, 1, 1, 1, 1, 1, 1] (bodyOf Try.f41)) [2] (endA tab Try.f41 R))))) { slots := [AV.undef, AV.ptr 0 0, AV.int IntKind.i64 0, AV.undef, AV.int IntKind.i64 0] ++ List.replicate 150 AV.undef, obs := [Ob.cells 66 [AV.int IntKind.i64 a1, AV.int IntKind.i64 a2, AV.int IntKind.i64 a3, AV.int IntKind.i64 a4, AV.int IntKind.i64 a5, AV.int IntKind.i64 a6, AV.int IntKind.i64 a7, AV.int IntKind.i64 a8, AV.int IntKind.i64 a9, AV.int IntKind.i64 a10, AV.int IntKind.i64 a11, AV.int IntKind.i64 a12, AV.int IntKind.i64 a13, AV.int IntKind.i64 a14]] }
def f41_j10 (R : AV → List Ob → Prop) (a1 : Int) (a2 : Int) (a3 : Int) (a4 : Int) (a5 : Int) (a6 : Int) (a7 : Int) (a8 : Int) (a9 : Int) (a10 : Int) (a11 : Int) (a12 : Int) (a13 : Int) (a14 : Int)  : Prop := Meet (fun s => codeA tab (eM1.cut f41_cuts) (subC [1, 1, 1, 1, 1, 1, 1, 0, 1, 0, 0, 1, 1] (bodyOf Try.f41)) [4, 1, 4, 1, 4, 1, 1, 1, 1, 1, 2] s (thenA (fun s => loopU f41_live8 (codeA tab (eM1.cut f41_cuts) (subC [1, 1, 1, 1, 1, 1, 1, 0, 1, 0, 0] (bodyOf Try.f41)) f41_live8) 38 (St.tidy f41_live8 s) (blockA 2 (seqQ tab (eM1.cut f41_cuts) (subC [1, 1, 1, 1, 1, 1, 1, 1] (bodyOf Try.f41)) [2] (endA tab Try.f41 R)))) (blockA 2 (seqQ tab (eM1.cut f41_cuts) (subC [1, 1, 1, 1, 1, 1, 1, 1] (bodyOf Try.f41)) [2] (endA tab Try.f41 R))))) { slots := [AV.undef, AV.ptr 0 0, AV.int IntKind.i64 0, AV.undef, AV.int IntKind.i64 1] ++ List.replicate 150 AV.undef, obs := [Ob.cells 66 [AV.int IntKind.i64 a1, AV.int IntKind.i64 a2, AV.int IntKind.i64 a3, AV.int IntKind.i64 a4, AV.int IntKind.i64 a5, AV.int IntKind.i64 a6, AV.int IntKind.i64 a7, AV.int IntKind.i64 a8, AV.int IntKind.i64 a9, AV.int IntKind.i64 a10, AV.int IntKind.i64 a11, AV.int IntKind.i64 a12, AV.int IntKind.i64 a13, AV.int IntKind.i64 a14]] }
def f41_j11 (R : AV → List Ob → Prop) (a1 : Int) (a2 : Int) (a3 : Int) (a4 : Int) (a5 : Int) (a6 : Int) (a7 : Int) (a8 : Int) (a9 : Int) (a10 : Int) (a11 : Int) (a12 : Int) (a13 : Int) (a14 : Int)  : Prop := Meet (fun s => codeA tab (eM1.cut f41_cuts) (subC [1, 1, 1, 1, 1, 1, 1, 0, 1, 0, 0, 1, 1] (bodyOf Try.f41)) [4, 1, 4, 1, 4, 1, 1, 1, 1, 1, 2] s (thenA (fun s => loopU f41_live8 (codeA tab (eM1.cut f41_cuts) (subC [1, 1, 1, 1, 1, 1, 1, 0, 1, 0, 0] (bodyOf Try.f41)) f41_live8) 37 (St.tidy f41_live8 s) (blockA 2 (seqQ tab (eM1.cut f41_cuts) (subC [1, 1, 1, 1, 1, 1, 1, 1] (bodyOf Try.f41)) [2] (endA tab Try.f41 R)))) (blockA 2 (seqQ tab (eM1.cut f41_cuts) (subC [1, 1, 1, 1, 1, 1, 1, 1] (bodyOf Try.f41)) [2] (endA tab Try.f41 R))))) { slots := [AV.undef, AV.ptr 0 0, AV.int IntKind.i64 0, AV.undef, AV.int IntKind.i64 2] ++ List.replicate 150 AV.undef, obs := [Ob.cells 66 [AV.int IntKind.i64 a1, AV.int IntKind.i64 a2, AV.int IntKind.i64 a3, AV.int IntKind.i64 a4, AV.int IntKind.i64 a5, AV.int IntKind.i64 a6, AV.int IntKind.i64 a7, AV.int IntKind.i64 a8, AV.int IntKind.i64 a9, AV.int IntKind.i64 a10, AV.int IntKind.i64 a11, AV.int IntKind.i64 a12, AV.int IntKind.i64 a13, AV.int IntKind.i64 a14]] }
def f41_j12 (R : AV → List Ob → Prop) (a1 : Int) (a2 : Int) (a3 : Int) (a4 : Int) (a5 : Int) (a6 : Int) (a7 : Int) (a8 : Int) (a9 : Int) (a10 : Int) (a11 : Int) (a12 : Int) (a13 : Int) (a14 : Int)  : Prop := Meet (fun s => codeA tab (eM1.cut f41_cuts) (subC [1, 1, 1, 1, 1, 1, 1, 0, 1, 0, 0, 1, 1] (bodyOf Try.f41)) [4, 1, 4, 1, 4, 1, 1, 1, 1, 1, 2] s (thenA (fun s => loopU f41_live8 (codeA tab (eM1.cut f41_cuts) (subC [1, 1, 1, 1, 1, 1, 1, 0, 1, 0, 0] (bodyOf Try.f41)) f41_live8) 36 (St.tidy f41_live8 s) (blockA 2 (seqQ tab (eM1.cut f41_cuts) (subC [1, 1, 1, 1, 1, 1, 1, 1] (bodyOf Try.f41)) [2] (endA tab Try.f41 R)))) (blockA 2 (seqQ tab (eM1.cut f41_cuts) (subC [1, 1, 1, 1, 1, 1, 1, 1] (bodyOf Try.f41)) [2] (endA tab Try.f41 R))))) { slots := [AV.undef, AV.ptr 0 0, AV.int IntKind.i64 0, AV.undef, AV.int IntKind.i64 3] ++ List.replicate 150 AV.undef, obs := [Ob.cells 66 [AV.int IntKind.i64 a1, AV.int IntKind.i64 a2, AV.int IntKind.i64 a3, AV.int IntKind.i64 a4, AV.int IntKind.i64 a5, AV.int IntKind.i64 a6, AV.int IntKind.i64 a7, AV.int IntKind.i64 a8, AV.int IntKind.i64 a9, AV.int IntKind.i64 a10, AV.int IntKind.i64 a11, AV.int IntKind.i64 a12, AV.int IntKind.i64 a13, AV.int IntKind.i64 a14]] }
def f41_live13 : List Nat := [5, 5, 1, 1, 5, 1, 5, 1, 1, 2]
def f41_head13 (a1 : Int) (a2 : Int) (a3 : Int) (a4 : Int) (a5 : Int) (a6 : Int) (a7 : Int) (a8 : Int) (a9 : Int) (a10 : Int) (a11 : Int) (a12 : Int) (a13 : Int) (a14 : Int) : St := { slots := [AV.undef, AV.ptr 0 0, AV.int IntKind.i64 0, AV.undef, AV.undef, AV.int IntKind.i64 0] ++ List.replicate 149 AV.undef, obs := [Ob.cells 66 [AV.int IntKind.i64 a1, AV.int IntKind.i64 a2, AV.int IntKind.i64 a3, AV.int IntKind.i64 a4, AV.int IntKind.i64 a5, AV.int IntKind.i64 a6, AV.int IntKind.i64 a7, AV.int IntKind.i64 a8, AV.int IntKind.i64 a9, AV.int IntKind.i64 a10, AV.int IntKind.i64 a11, AV.int IntKind.i64 a12, AV.int IntKind.i64 a13, AV.int IntKind.i64 a14]] }
def f41_q13 (R : AV → List Ob → Prop) : Ex → St → Prop := blockA 4 (seqQ tab (eM1.cut f41_cuts) (subC [1, 1, 1, 1, 1, 1, 1, 1, 1] (bodyOf Try.f41)) [2] (endA tab Try.f41 R))
def f41_loop13 (R : AV → List Ob → Prop) (a1 : Int) (a2 : Int) (a3 : Int) (a4 : Int) (a5 : Int) (a6 : Int) (a7 : Int) (a8 : Int) (a9 : Int) (a10 : Int) (a11 : Int) (a12 : Int) (a13 : Int) (a14 : Int) : Prop := loopT f41_live13 (codeA tab (eM1.cut f41_cuts) (subC [1, 1, 1, 1, 1, 1, 1, 1, 0, 1, 0, 0] (bodyOf Try.f41)) f41_live13) (f41_head13 a1 a2 a3 a4 a5 a6 a7 a8 a9 a10 a11 a12 a13 a14) (f41_q13 R)
def f41_j14 (R : AV → List Ob → Prop) (a1 : Int) (a2 : Int) (a3 : Int) (a4 : Int) (a5 : Int) (a6 : Int) (a7 : Int) (a8 : Int) (a9 : Int) (a10 : Int) (a11 : Int) (a12 : Int) (a13 : Int) (a14 : Int)  : Prop := Meet (fun s => codeA tab (eM1.cut f41_cuts) (subC [1, 1, 1, 1, 1, 1, 1, 1, 0, 1, 0, 0, 1, 1] (bodyOf Try.f41)) [5, 5, 1, 1, 5, 1, 5, 1, 1, 2] s (thenA (fun s => loopU f41_live13 (codeA tab (eM1.cut f41_cuts) (subC [1, 1, 1, 1, 1, 1, 1, 1, 0, 1, 0, 0] (bodyOf Try.f41)) f41_live13) 39 (St.tidy f41_live13 s) (blockA 4 (seqQ tab (eM1.cut f41_cuts) (subC [1, 1, 1, 1, 1, 1, 1, 1, 1] (bodyOf Try.f41)) [2] (endA tab Try.f41 R)))) (blockA 4 (seqQ tab (eM1.cut f41_cuts) (subC [1, 1, 1, 1, 1, 1, 1, 1, 1] (bodyOf Try.f41)) [2] (endA tab Try.f41 R))))) { slots := [AV.undef, AV.ptr 0 0, AV.int IntKind.i64 0, AV.undef, AV.undef, AV.int IntKind.i64 0] ++ List.replicate 149 AV.undef, obs := [Ob.cells 66 [AV.int IntKind.i64 a1, AV.int IntKind.i64 a2, AV.int IntKind.i64 a3, AV.int IntKind.i64 a4, AV.int IntKind.i64 a5, AV.int IntKind.i64 a6, AV.int IntKind.i64 a7, AV.int IntKind.i64 a8, AV.int IntKind.i64 a9, AV.int IntKind.i64 a10, AV.int IntKind.i64 a11, AV.int IntKind.i64 a12, AV.int IntKind.i64 a13, AV.int IntKind.i64 a14]] }
def f41_j15 (R : AV → List Ob → Prop) (a1 : Int) (a2 : Int) (a3 : Int) (a4 : Int) (a5 : Int) (a6 : Int) (a7 : Int) (a8 : Int) (a9 : Int) (a10 : Int) (a11 : Int) (a12 : Int) (a13 : Int) (a14 : Int)  : Prop := Meet (fun s => codeA tab (eM1.cut f41_cuts) (subC [1, 1, 1, 1, 1, 1, 1, 1, 0, 1, 0, 0, 1, 1] (bodyOf Try.f41)) [5, 5, 1, 1, 5, 1, 5, 1, 1, 2] s (thenA (fun s => loopU f41_live13 (codeA tab (eM1.cut f41_cuts) (subC [1, 1, 1, 1, 1, 1, 1, 1, 0, 1, 0, 0] (bodyOf Try.f41)) f41_live13) 38 (St.tidy f41_live13 s) (blockA 4 (seqQ tab (eM1.cut f41_cuts) (subC [1, 1, 1, 1, 1, 1, 1, 1, 1] (bodyOf Try.f41)) [2] (endA tab Try.f41 R)))) (blockA 4 (seqQ tab (eM1.cut f41_cuts) (subC [1, 1, 1, 1, 1, 1, 1, 1, 1] (bodyOf Try.f41)) [2] (endA tab Try.f41 R))))) { slots := [AV.undef, AV.ptr 0 0, AV.int IntKind.i64 0, AV.undef, AV.undef, AV.int IntKind.i64 1] ++ List.replicate 149 AV.undef, obs := [Ob.cells 66 [AV.int IntKind.i64 a1, AV.int IntKind.i64 a2, AV.int IntKind.i64 a3, AV.int IntKind.i64 a4, AV.int IntKind.i64 a5, AV.int IntKind.i64 a6, AV.int IntKind.i64 a7, AV.int IntKind.i64 a8, AV.int IntKind.i64 a9, AV.int IntKind.i64 a10, AV.int IntKind.i64 a11, AV.int IntKind.i64 a12, AV.int IntKind.i64 a13, AV.int IntKind.i64 a14]] }
def f41_j16 (R : AV → List Ob → Prop) (a1 : Int) (a2 : Int) (a3 : Int) (a4 : Int) (a5 : Int) (a6 : Int) (a7 : Int) (a8 : Int) (a9 : Int) (a10 : Int) (a11 : Int) (a12 : Int) (a13 : Int) (a14 : Int)  : Prop := Meet (fun s => codeA tab (eM1.cut f41_cuts) (subC [1, 1, 1, 1, 1, 1, 1, 1, 0, 1, 0, 0, 1, 1] (bodyOf Try.f41)) [5, 5, 1, 1, 5, 1, 5, 1, 1, 2] s (thenA (fun s => loopU f41_live13 (codeA tab (eM1.cut f41_cuts) (subC [1, 1, 1, 1, 1, 1, 1, 1, 0, 1, 0, 0] (bodyOf Try.f41)) f41_live13) 37 (St.tidy f41_live13 s) (blockA 4 (seqQ tab (eM1.cut f41_cuts) (subC [1, 1, 1, 1, 1, 1, 1, 1, 1] (bodyOf Try.f41)) [2] (endA tab Try.f41 R)))) (blockA 4 (seqQ tab (eM1.cut f41_cuts) (subC [1, 1, 1, 1, 1, 1, 1, 1, 1] (bodyOf Try.f41)) [2] (endA tab Try.f41 R))))) { slots := [AV.undef, AV.ptr 0 0, AV.int IntKind.i64 0, AV.undef, AV.undef, AV.int IntKind.i64 2] ++ List.replicate 149 AV.undef, obs := [Ob.cells 66 [AV.int IntKind.i64 a1, AV.int IntKind.i64 a2, AV.int IntKind.i64 a3, AV.int IntKind.i64 a4, AV.int IntKind.i64 a5, AV.int IntKind.i64 a6, AV.int IntKind.i64 a7, AV.int IntKind.i64 a8, AV.int IntKind.i64 a9, AV.int IntKind.i64 a10, AV.int IntKind.i64 a11, AV.int IntKind.i64 a12, AV.int IntKind.i64 a13, AV.int IntKind.i64 a14]] }
def f41_j17 (R : AV → List Ob → Prop) (a1 : Int) (a2 : Int) (a3 : Int) (a4 : Int) (a5 : Int) (a6 : Int) (a7 : Int) (a8 : Int) (a9 : Int) (a10 : Int) (a11 : Int) (a12 : Int) (a13 : Int) (a14 : Int)  : Prop := Meet (fun s => codeA tab (eM1.cut f41_cuts) (subC [1, 1, 1, 1, 1, 1, 1, 1, 0, 1, 0, 0, 1, 1] (bodyOf Try.f41)) [5, 5, 1, 1, 5, 1, 5, 1, 1, 2] s (thenA (fun s => loopU f41_live13 (codeA tab (eM1.cut f41_cuts) (subC [1, 1, 1, 1, 1, 1, 1, 1, 0, 1, 0, 0] (bodyOf Try.f41)) f41_live13) 36 (St.tidy f41_live13 s) (blockA 4 (seqQ tab (eM1.cut f41_cuts) (subC [1, 1, 1, 1, 1, 1, 1, 1, 1] (bodyOf Try.f41)) [2] (endA tab Try.f41 R)))) (blockA 4 (seqQ tab (eM1.cut f41_cuts) (subC [1, 1, 1, 1, 1, 1, 1, 1, 1] (bodyOf Try.f41)) [2] (endA tab Try.f41 R))))) { slots := [AV.undef, AV.ptr 0 0, AV.int IntKind.i64 0, AV.undef, AV.undef, AV.int IntKind.i64 3] ++ List.replicate 149 AV.undef, obs := [Ob.cells 66 [AV.int IntKind.i64 a1, AV.int IntKind.i64 a2, AV.int IntKind.i64 a3, AV.int IntKind.i64 a4, AV.int IntKind.i64 a5, AV.int IntKind.i64 a6, AV.int IntKind.i64 a7, AV.int IntKind.i64 a8, AV.int IntKind.i64 a9, AV.int IntKind.i64 a10, AV.int IntKind.i64 a11, AV.int IntKind.i64 a12, AV.int IntKind.i64 a13, AV.int IntKind.i64 a14]] }
theorem f41_jeq17 (R : AV → List Ob → Prop) (a1 : Int) (a2 : Int) (a3 : Int) (a4 : Int) (a5 : Int) (a6 : Int) (a7 : Int) (a8 : Int) (a9 : Int) (a10 : Int) (a11 : Int) (a12 : Int) (a13 : Int) (a14 : Int)  : f41_j17 R a1 a2 a3 a4 a5 a6 a7 a8 a9 a10 a11 a12 a13 a14  = (bif !decide (a1 < 0) then bif decide (a1 > 256) then R (AV.int IntKind.i64 11) [] else R (AV.int IntKind.i64 0) [] else R (AV.int IntKind.i64 11) []) := (meet_eq _ _).trans (by kernel_rfl)
theorem f41_jeq16 (R : AV → List Ob → Prop) (a1 : Int) (a2 : Int) (a3 : Int) (a4 : Int) (a5 : Int) (a6 : Int) (a7 : Int) (a8 : Int) (a9 : Int) (a10 : Int) (a11 : Int) (a12 : Int) (a13 : Int) (a14 : Int)  : f41_j16 R a1 a2 a3 a4 a5 a6 a7 a8 a9 a10 a11 a12 a13 a14  = ((0 : Int) ≤ 3 ∧ (3 : Int) < 4 ∧ bif !decide (a14 < 0) then bif a2 == 5 then (0 : Int) ≤ 3 ∧ (3 : Int) < 4 ∧ bif a14 != 0 then R (AV.int IntKind.i64 9) [] else f41_j17 R a1 a2 a3 a4 a5 a6 a7 a8 a9 a10 a11 a12 a13 a14 else f41_j17 R a1 a2 a3 a4 a5 a6 a7 a8 a9 a10 a11 a12 a13 a14 else R (AV.int IntKind.i64 9) []) := (meet_eq _ _).trans (by kernel_rfl)
theorem f41_jeq15 (R : AV → List Ob → Prop) (a1 : Int) (a2 : Int) (a3 : Int) (a4 : Int) (a5 : Int) (a6 : Int) (a7 : Int) (a8 : Int) (a9 : Int) (a10 : Int) (a11 : Int) (a12 : Int) (a13 : Int) (a14 : Int)  : f41_j15 R a1 a2 a3 a4 a5 a6 a7 a8 a9 a10 a11 a12 a13 a14  = ((0 : Int) ≤ 2 ∧ (2 : Int) < 4 ∧ bif !decide (a13 < 0) then bif a2 == 5 then (0 : Int) ≤ 2 ∧ (2 : Int) < 4 ∧ bif a13 != 0 then R (AV.int IntKind.i64 9) [] else f41_j16 R a1 a2 a3 a4 a5 a6 a7 a8 a9 a10 a11 a12 a13 a14 else f41_j16 R a1 a2 a3 a4 a5 a6 a7 a8 a9 a10 a11 a12 a13 a14 else R (AV.int IntKind.i64 9) []) := (meet_eq _ _).trans (by kernel_rfl)
theorem f41_jeq14 (R : AV → List Ob → Prop) (a1 : Int) (a2 : Int) (a3 : Int) (a4 : Int) (a5 : Int) (a6 : Int) (a7 : Int) (a8 : Int) (a9 : Int) (a10 : Int) (a11 : Int) (a12 : Int) (a13 : Int) (a14 : Int)  : f41_j14 R a1 a2 a3 a4 a5 a6 a7 a8 a9 a10 a11 a12 a13 a14  = ((0 : Int) ≤ 1 ∧ (1 : Int) < 4 ∧ bif !decide (a12 < 0) then bif a2 == 5 then (0 : Int) ≤ 1 ∧ (1 : Int) < 4 ∧ bif a12 != 0 then R (AV.int IntKind.i64 9) [] else f41_j15 R a1 a2 a3 a4 a5 a6 a7 a8 a9 a10 a11 a12 a13 a14 else f41_j15 R a1 a2 a3 a4 a5 a6 a7 a8 a9 a10 a11 a12 a13 a14 else R (AV.int IntKind.i64 9) []) := (meet_eq _ _).trans (by kernel_rfl)
theorem f41_eq13 (R : AV → List Ob → Prop) (a1 : Int) (a2 : Int) (a3 : Int) (a4 : Int) (a5 : Int) (a6 : Int) (a7 : Int) (a8 : Int) (a9 : Int) (a10 : Int) (a11 : Int) (a12 : Int) (a13 : Int) (a14 : Int) : loopU f41_live13 (codeA tab (eM1.cut f41_cuts) (subC [1, 1, 1, 1, 1, 1, 1, 1, 0, 1, 0, 0] (bodyOf Try.f41)) f41_live13) 40 (f41_head13 a1 a2 a3 a4 a5 a6 a7 a8 a9 a10 a11 a12 a13 a14) (f41_q13 R) = ((0 : Int) ≤ 0 ∧ (0 : Int) < 4 ∧ bif !decide (a11 < 0) then bif a2 == 5 then (0 : Int) ≤ 0 ∧ (0 : Int) < 4 ∧ bif a11 != 0 then R (AV.int IntKind.i64 9) [] else f41_j14 R a1 a2 a3 a4 a5 a6 a7 a8 a9 a10 a11 a12 a13 a14 else f41_j14 R a1 a2 a3 a4 a5 a6 a7 a8 a9 a10 a11 a12 a13 a14 else R (AV.int IntKind.i64 9) []) := by kernel_rfl
theorem f41_rule13 (R : AV → List Ob → Prop) (a1 : Int) (a2 : Int) (a3 : Int) (a4 : Int) (a5 : Int) (a6 : Int) (a7 : Int) (a8 : Int) (a9 : Int) (a10 : Int) (a11 : Int) (a12 : Int) (a13 : Int) (a14 : Int) (h : (0 : Int) ≤ 0 ∧ (0 : Int) < 4 ∧ bif !decide (a11 < 0) then bif a2 == 5 then (0 : Int) ≤ 0 ∧ (0 : Int) < 4 ∧ bif a11 != 0 then R (AV.int IntKind.i64 9) [] else f41_j14 R a1 a2 a3 a4 a5 a6 a7 a8 a9 a10 a11 a12 a13 a14 else f41_j14 R a1 a2 a3 a4 a5 a6 a7 a8 a9 a10 a11 a12 a13 a14 else R (AV.int IntKind.i64 9) []) : f41_loop13 R a1 a2 a3 a4 a5 a6 a7 a8 a9 a10 a11 a12 a13 a14 := loop_rounds 40 (Eq.mpr (f41_eq13 R a1 a2 a3 a4 a5 a6 a7 a8 a9 a10 a11 a12 a13 a14) h)
theorem f41_jeq12 (R : AV → List Ob → Prop) (a1 : Int) (a2 : Int) (a3 : Int) (a4 : Int) (a5 : Int) (a6 : Int) (a7 : Int) (a8 : Int) (a9 : Int) (a10 : Int) (a11 : Int) (a12 : Int) (a13 : Int) (a14 : Int)  : f41_j12 R a1 a2 a3 a4 a5 a6 a7 a8 a9 a10 a11 a12 a13 a14  = (f41_loop13 R a1 a2 a3 a4 a5 a6 a7 a8 a9 a10 a11 a12 a13 a14) := (meet_eq _ _).trans (by kernel_rfl)
theorem f41_jeq11 (R : AV → List Ob → Prop) (a1 : Int) (a2 : Int) (a3 : Int) (a4 : Int) (a5 : Int) (a6 : Int) (a7 : Int) (a8 : Int) (a9 : Int) (a10 : Int) (a11 : Int) (a12 : Int) (a13 : Int) (a14 : Int)  : f41_j11 R a1 a2 a3 a4 a5 a6 a7 a8 a9 a10 a11 a12 a13 a14  = (bif a2 == 5 then (0 : Int) ≤ 3 ∧ (3 : Int) < 4 ∧ bif a10 != 0 then R (AV.int IntKind.i64 8) [] else f41_j12 R a1 a2 a3 a4 a5 a6 a7 a8 a9 a10 a11 a12 a13 a14 else f41_j12 R a1 a2 a3 a4 a5 a6 a7 a8 a9 a10 a11 a12 a13 a14) := (meet_eq _ _).trans (by kernel_rfl)
theorem f41_jeq10 (R : AV → List Ob → Prop) (a1 : Int) (a2 : Int) (a3 : Int) (a4 : Int) (a5 : Int) (a6 : Int) (a7 : Int) (a8 : Int) (a9 : Int) (a10 : Int) (a11 : Int) (a12 : Int) (a13 : Int) (a14 : Int)  : f41_j10 R a1 a2 a3 a4 a5 a6 a7 a8 a9 a10 a11 a12 a13 a14  = (bif a2 == 5 then (0 : Int) ≤ 2 ∧ (2 : Int) < 4 ∧ bif a9 != 0 then R (AV.int IntKind.i64 8) [] else f41_j11 R a1 a2 a3 a4 a5 a6 a7 a8 a9 a10 a11 a12 a13 a14 else f41_j11 R a1 a2 a3 a4 a5 a6 a7 a8 a9 a10 a11 a12 a13 a14) := (meet_eq _ _).trans (by kernel_rfl)
theorem f41_jeq9 (R : AV → List Ob → Prop) (a1 : Int) (a2 : Int) (a3 : Int) (a4 : Int) (a5 : Int) (a6 : Int) (a7 : Int) (a8 : Int) (a9 : Int) (a10 : Int) (a11 : Int) (a12 : Int) (a13 : Int) (a14 : Int)  : f41_j9 R a1 a2 a3 a4 a5 a6 a7 a8 a9 a10 a11 a12 a13 a14  = (bif a2 == 5 then (0 : Int) ≤ 1 ∧ (1 : Int) < 4 ∧ bif a8 != 0 then R (AV.int IntKind.i64 8) [] else f41_j10 R a1 a2 a3 a4 a5 a6 a7 a8 a9 a10 a11 a12 a13 a14 else f41_j10 R a1 a2 a3 a4 a5 a6 a7 a8 a9 a10 a11 a12 a13 a14) := (meet_eq _ _).trans (by kernel_rfl)
theorem f41_eq8 (R : AV → List Ob → Prop) (a1 : Int) (a2 : Int) (a3 : Int) (a4 : Int) (a5 : Int) (a6 : Int) (a7 : Int) (a8 : Int) (a9 : Int) (a10 : Int) (a11 : Int) (a12 : Int) (a13 : Int) (a14 : Int) : loopU f41_live8 (codeA tab (eM1.cut f41_cuts) (subC [1, 1, 1, 1, 1, 1, 1, 0, 1, 0, 0] (bodyOf Try.f41)) f41_live8) 40 (f41_head8 a1 a2 a3 a4 a5 a6 a7 a8 a9 a10 a11 a12 a13 a14) (f41_q8 R) = (bif a2 == 5 then (0 : Int) ≤ 0 ∧ (0 : Int) < 4 ∧ bif a7 != 0 then R (AV.int IntKind.i64 8) [] else f41_j9 R a1 a2 a3 a4 a5 a6 a7 a8 a9 a10 a11 a12 a13 a14 else f41_j9 R a1 a2 a3 a4 a5 a6 a7 a8 a9 a10 a11 a12 a13 a14) := by kernel_rfl
theorem f41_rule8 (R : AV → List Ob → Prop) (a1 : Int) (a2 : Int) (a3 : Int) (a4 : Int) (a5 : Int) (a6 : Int) (a7 : Int) (a8 : Int) (a9 : Int) (a10 : Int) (a11 : Int) (a12 : Int) (a13 : Int) (a14 : Int) (h : bif a2 == 5 then (0 : Int) ≤ 0 ∧ (0 : Int) < 4 ∧ bif a7 != 0 then R (AV.int IntKind.i64 8) [] else f41_j9 R a1 a2 a3 a4 a5 a6 a7 a8 a9 a10 a11 a12 a13 a14 else f41_j9 R a1 a2 a3 a4 a5 a6 a7 a8 a9 a10 a11 a12 a13 a14) : f41_loop8 R a1 a2 a3 a4 a5 a6 a7 a8 a9 a10 a11 a12 a13 a14 := loop_rounds 40 (Eq.mpr (f41_eq8 R a1 a2 a3 a4 a5 a6 a7 a8 a9 a10 a11 a12 a13 a14) h)
theorem f41_jeq7 (R : AV → List Ob → Prop) (a1 : Int) (a2 : Int) (a3 : Int) (a4 : Int) (a5 : Int) (a6 : Int) (a7 : Int) (a8 : Int) (a9 : Int) (a10 : Int) (a11 : Int) (a12 : Int) (a13 : Int) (a14 : Int)  : f41_j7 R a1 a2 a3 a4 a5 a6 a7 a8 a9 a10 a11 a12 a13 a14  = (f41_loop8 R a1 a2 a3 a4 a5 a6 a7 a8 a9 a10 a11 a12 a13 a14) := (meet_eq _ _).trans (by kernel_rfl)
theorem f41_jeq6 (R : AV → List Ob → Prop) (a1 : Int) (a2 : Int) (a3 : Int) (a4 : Int) (a5 : Int) (a6 : Int) (a7 : Int) (a8 : Int) (a9 : Int) (a10 : Int) (a11 : Int) (a12 : Int) (a13 : Int) (a14 : Int)  : f41_j6 R a1 a2 a3 a4 a5 a6 a7 a8 a9 a10 a11 a12 a13 a14  = (bif a2 == 5 then R (AV.int IntKind.i64 7) [] else f41_j7 R a1 a2 a3 a4 a5 a6 a7 a8 a9 a10 a11 a12 a13 a14) := (meet_eq _ _).trans (by kernel_rfl)
def f41_j18 (R : AV → List Ob → Prop) (a1 : Int) (a2 : Int) (a3 : Int) (a4 : Int) (a5 : Int) (a6 : Int) (a7 : Int) (a8 : Int) (a9 : Int) (a10 : Int) (a11 : Int) (a12 : Int) (a13 : Int) (a14 : Int)  : Prop := Meet (fun s => codeA tab (eM1.cut f41_cuts) (subC [1, 1, 1, 1, 1, 1, 0, 1] (bodyOf Try.f41)) [1, 1, 1, 1, 1, 1, 1, 2] s (seqQ tab (eM1.cut f41_cuts) (subC [1, 1, 1, 1, 1, 1, 1] (bodyOf Try.f41)) [2] (endA tab Try.f41 R))) { slots := [AV.undef, AV.ptr 0 0, AV.int IntKind.i64 0] ++ List.replicate 108 AV.undef ++ [AV.bool false] ++ List.replicate 43 AV.undef, obs := [Ob.cells 66 [AV.int IntKind.i64 a1, AV.int IntKind.i64 a2, AV.int IntKind.i64 a3, AV.int IntKind.i64 a4, AV.int IntKind.i64 a5, AV.int IntKind.i64 a6, AV.int IntKind.i64 a7, AV.int IntKind.i64 a8, AV.int IntKind.i64 a9, AV.int IntKind.i64 a10, AV.int IntKind.i64 a11, AV.int IntKind.i64 a12, AV.int IntKind.i64 a13, AV.int IntKind.i64 a14]] }
theorem f41_jeq18 (R : AV → List Ob → Prop) (a1 : Int) (a2 : Int) (a3 : Int) (a4 : Int) (a5 : Int) (a6 : Int) (a7 : Int) (a8 : Int) (a9 : Int) (a10 : Int) (a11 : Int) (a12 : Int) (a13 : Int) (a14 : Int)  : f41_j18 R a1 a2 a3 a4 a5 a6 a7 a8 a9 a10 a11 a12 a13 a14  = (f41_j7 R a1 a2 a3 a4 a5 a6 a7 a8 a9 a10 a11 a12 a13 a14) := (meet_eq _ _).trans (by kernel_rfl)
def f41_j19 (R : AV → List Ob → Prop) (a1 : Int) (a2 : Int) (a3 : Int) (a4 : Int) (a5 : Int) (a6 : Int) (a7 : Int) (a8 : Int) (a9 : Int) (a10 : Int) (a11 : Int) (a12 : Int) (a13 : Int) (a14 : Int)  : Prop := Meet (fun s => codeA tab (eM1.cut f41_cuts) (subC [1, 1, 1, 1, 1, 1, 0, 1] (bodyOf Try.f41)) [1, 1, 1, 1, 1, 1, 1, 2] s (seqQ tab (eM1.cut f41_cuts) (subC [1, 1, 1, 1, 1, 1, 1] (bodyOf Try.f41)) [2] (endA tab Try.f41 R))) { slots := [AV.undef, AV.ptr 0 0, AV.int IntKind.i64 0] ++ List.replicate 108 AV.undef ++ [AV.bool true] ++ List.replicate 43 AV.undef, obs := [Ob.cells 66 [AV.int IntKind.i64 a1, AV.int IntKind.i64 a2, AV.int IntKind.i64 a3, AV.int IntKind.i64 a4, AV.int IntKind.i64 a5, AV.int IntKind.i64 a6, AV.int IntKind.i64 a7, AV.int IntKind.i64 a8, AV.int IntKind.i64 a9, AV.int IntKind.i64 a10, AV.int IntKind.i64 a11, AV.int IntKind.i64 a12, AV.int IntKind.i64 a13, AV.int IntKind.i64 a14]] }
theorem f41_jeq19 (R : AV → List Ob → Prop) (a1 : Int) (a2 : Int) (a3 : Int) (a4 : Int) (a5 : Int) (a6 : Int) (a7 : Int) (a8 : Int) (a9 : Int) (a10 : Int) (a11 : Int) (a12 : Int) (a13 : Int) (a14 : Int)  : f41_j19 R a1 a2 a3 a4 a5 a6 a7 a8 a9 a10 a11 a12 a13 a14  = (R (AV.int IntKind.i64 7) []) := (meet_eq _ _).trans (by kernel_rfl)
theorem f41_jeq5 (R : AV → List Ob → Prop) (a1 : Int) (a2 : Int) (a3 : Int) (a4 : Int) (a5 : Int) (a6 : Int) (a7 : Int) (a8 : Int) (a9 : Int) (a10 : Int) (a11 : Int) (a12 : Int) (a13 : Int) (a14 : Int)  : f41_j5 R a1 a2 a3 a4 a5 a6 a7 a8 a9 a10 a11 a12 a13 a14  = (bif !decide (a5 < -1) then bif !decide (a6 < -1) then bif a5 == -1 then bif !a2 == 2 then bif !a2 == 5 then bif a6 == -1 then f41_j6 R a1 a2 a3 a4 a5 a6 a7 a8 a9 a10 a11 a12 a13 a14 else f41_j18 R a1 a2 a3 a4 a5 a6 a7 a8 a9 a10 a11 a12 a13 a14 else f41_j19 R a1 a2 a3 a4 a5 a6 a7 a8 a9 a10 a11 a12 a13 a14 else f41_j19 R a1 a2 a3 a4 a5 a6 a7 a8 a9 a10 a11 a12 a13 a14 else bif a6 == -1 then f41_j6 R a1 a2 a3 a4 a5 a6 a7 a8 a9 a10 a11 a12 a13 a14 else f41_j18 R a1 a2 a3 a4 a5 a6 a7 a8 a9 a10 a11 a12 a13 a14 else f41_j19 R a1 a2 a3 a4 a5 a6 a7 a8 a9 a10 a11 a12 a13 a14 else f41_j19 R a1 a2 a3 a4 a5 a6 a7 a8 a9 a10 a11 a12 a13 a14) := (meet_eq _ _).trans (by kernel_rfl)
theorem f41_jeq4 (R : AV → List Ob → Prop) (a1 : Int) (a2 : Int) (a3 : Int) (a4 : Int) (a5 : Int) (a6 : Int) (a7 : Int) (a8 : Int) (a9 : Int) (a10 : Int) (a11 : Int) (a12 : Int) (a13 : Int) (a14 : Int)  : f41_j4 R a1 a2 a3 a4 a5 a6 a7 a8 a9 a10 a11 a12 a13 a14  = (bif a4 != 0 then R (AV.int IntKind.i64 6) [] else f41_j5 R a1 a2 a3 a4 a5 a6 a7 a8 a9 a10 a11 a12 a13 a14) := (meet_eq _ _).trans (by kernel_rfl)
def f41_j20 (R : AV → List Ob → Prop) (a1 : Int) (a2 : Int) (a3 : Int) (a4 : Int) (a5 : Int) (a6 : Int) (a7 : Int) (a8 : Int) (a9 : Int) (a10 : Int) (a11 : Int) (a12 : Int) (a13 : Int) (a14 : Int)  : Prop := Meet (fun s => codeA tab (eM1.cut f41_cuts) (subC [1, 1, 1, 1, 1, 0, 1] (bodyOf Try.f41)) [1, 1, 1, 1, 1, 1, 1, 1, 1, 1, 1, 1, 1, 1, 2] s (seqQ tab (eM1.cut f41_cuts) (subC [1, 1, 1, 1, 1, 1] (bodyOf Try.f41)) [2] (endA tab Try.f41 R))) { slots := [AV.undef, AV.ptr 0 0, AV.int IntKind.i64 0] ++ List.replicate 75 AV.undef ++ [AV.bool false] ++ List.replicate 76 AV.undef, obs := [Ob.cells 66 [AV.int IntKind.i64 a1, AV.int IntKind.i64 a2, AV.int IntKind.i64 a3, AV.int IntKind.i64 a4, AV.int IntKind.i64 a5, AV.int IntKind.i64 a6, AV.int IntKind.i64 a7, AV.int IntKind.i64 a8, AV.int IntKind.i64 a9, AV.int IntKind.i64 a10, AV.int IntKind.i64 a11, AV.int IntKind.i64 a12, AV.int IntKind.i64 a13, AV.int IntKind.i64 a14]] }
theorem f41_jeq20 (R : AV → List Ob → Prop) (a1 : Int) (a2 : Int) (a3 : Int) (a4 : Int) (a5 : Int) (a6 : Int) (a7 : Int) (a8 : Int) (a9 : Int) (a10 : Int) (a11 : Int) (a12 : Int) (a13 : Int) (a14 : Int)  : f41_j20 R a1 a2 a3 a4 a5 a6 a7 a8 a9 a10 a11 a12 a13 a14  = (f41_j5 R a1 a2 a3 a4 a5 a6 a7 a8 a9 a10 a11 a12 a13 a14) := (meet_eq _ _).trans (by kernel_rfl)
def f41_j21 (R : AV → List Ob → Prop) (a1 : Int) (a2 : Int) (a3 : Int) (a4 : Int) (a5 : Int) (a6 : Int) (a7 : Int) (a8 : Int) (a9 : Int) (a10 : Int) (a11 : Int) (a12 : Int) (a13 : Int) (a14 : Int)  : Prop := Meet (fun s => codeA tab (eM1.cut f41_cuts) (subC [1, 1, 1, 1, 1, 0, 1] (bodyOf Try.f41)) [1, 1, 1, 1, 1, 1, 1, 1, 1, 1, 1, 1, 1, 1, 2] s (seqQ tab (eM1.cut f41_cuts) (subC [1, 1, 1, 1, 1, 1] (bodyOf Try.f41)) [2] (endA tab Try.f41 R))) { slots := [AV.undef, AV.ptr 0 0, AV.int IntKind.i64 0] ++ List.replicate 75 AV.undef ++ [AV.bool true] ++ List.replicate 76 AV.undef, obs := [Ob.cells 66 [AV.int IntKind.i64 a1, AV.int IntKind.i64 a2, AV.int IntKind.i64 a3, AV.int IntKind.i64 a4, AV.int IntKind.i64 a5, AV.int IntKind.i64 a6, AV.int IntKind.i64 a7, AV.int IntKind.i64 a8, AV.int IntKind.i64 a9, AV.int IntKind.i64 a10, AV.int IntKind.i64 a11, AV.int IntKind.i64 a12, AV.int IntKind.i64 a13, AV.int IntKind.i64 a14]] }
theorem f41_jeq21 (R : AV → List Ob → Prop) (a1 : Int) (a2 : Int) (a3 : Int) (a4 : Int) (a5 : Int) (a6 : Int) (a7 : Int) (a8 : Int) (a9 : Int) (a10 : Int) (a11 : Int) (a12 : Int) (a13 : Int) (a14 : Int)  : f41_j21 R a1 a2 a3 a4 a5 a6 a7 a8 a9 a10 a11 a12 a13 a14  = (R (AV.int IntKind.i64 6) []) := (meet_eq _ _).trans (by kernel_rfl)
theorem f41_jeq3 (R : AV → List Ob → Prop) (a1 : Int) (a2 : Int) (a3 : Int) (a4 : Int) (a5 : Int) (a6 : Int) (a7 : Int) (a8 : Int) (a9 : Int) (a10 : Int) (a11 : Int) (a12 : Int) (a13 : Int) (a14 : Int)  : f41_j3 R a1 a2 a3 a4 a5 a6 a7 a8 a9 a10 a11 a12 a13 a14  = (bif !decide (a4 < 0) then bif !decide (a4 > 3) then bif a2 == 5 then f41_j4 R a1 a2 a3 a4 a5 a6 a7 a8 a9 a10 a11 a12 a13 a14 else f41_j20 R a1 a2 a3 a4 a5 a6 a7 a8 a9 a10 a11 a12 a13 a14 else f41_j21 R a1 a2 a3 a4 a5 a6 a7 a8 a9 a10 a11 a12 a13 a14 else f41_j21 R a1 a2 a3 a4 a5 a6 a7 a8 a9 a10 a11 a12 a13 a14) := (meet_eq _ _).trans (by kernel_rfl)
theorem f41_jeq2 (R : AV → List Ob → Prop) (a1 : Int) (a2 : Int) (a3 : Int) (a4 : Int) (a5 : Int) (a6 : Int) (a7 : Int) (a8 : Int) (a9 : Int) (a10 : Int) (a11 : Int) (a12 : Int) (a13 : Int) (a14 : Int)  : f41_j2 R a1 a2 a3 a4 a5 a6 a7 a8 a9 a10 a11 a12 a13 a14  = (bif a3 != 0 then R (AV.int IntKind.i64 5) [] else f41_j3 R a1 a2 a3 a4 a5 a6 a7 a8 a9 a10 a11 a12 a13 a14) := (meet_eq _ _).trans (by kernel_rfl)
def f41_j22 (R : AV → List Ob → Prop) (a1 : Int) (a2 : Int) (a3 : Int) (a4 : Int) (a5 : Int) (a6 : Int) (a7 : Int) (a8 : Int) (a9 : Int) (a10 : Int) (a11 : Int) (a12 : Int) (a13 : Int) (a14 : Int)  : Prop := Meet (fun s => codeA tab (eM1.cut f41_cuts) (subC [1, 1, 1, 1, 0, 1] (bodyOf Try.f41)) [1, 1, 1, 1, 1, 1, 1, 1, 1, 1, 1, 1, 1, 1, 1, 1, 1, 1, 2] s (seqQ tab (eM1.cut f41_cuts) (subC [1, 1, 1, 1, 1] (bodyOf Try.f41)) [2] (endA tab Try.f41 R))) { slots := [AV.undef, AV.ptr 0 0, AV.int IntKind.i64 0] ++ List.replicate 57 AV.undef ++ [AV.bool false] ++ List.replicate 94 AV.undef, obs := [Ob.cells 66 [AV.int IntKind.i64 a1, AV.int IntKind.i64 a2, AV.int IntKind.i64 a3, AV.int IntKind.i64 a4, AV.int IntKind.i64 a5, AV.int IntKind.i64 a6, AV.int IntKind.i64 a7, AV.int IntKind.i64 a8, AV.int IntKind.i64 a9, AV.int IntKind.i64 a10, AV.int IntKind.i64 a11, AV.int IntKind.i64 a12, AV.int IntKind.i64 a13, AV.int IntKind.i64 a14]] }
theorem f41_jeq22 (R : AV → List Ob → Prop) (a1 : Int) (a2 : Int) (a3 : Int) (a4 : Int) (a5 : Int) (a6 : Int) (a7 : Int) (a8 : Int) (a9 : Int) (a10 : Int) (a11 : Int) (a12 : Int) (a13 : Int) (a14 : Int)  : f41_j22 R a1 a2 a3 a4 a5 a6 a7 a8 a9 a10 a11 a12 a13 a14  = (f41_j3 R a1 a2 a3 a4 a5 a6 a7 a8 a9 a10 a11 a12 a13 a14) := (meet_eq _ _).trans (by kernel_rfl)
def f41_j23 (R : AV → List Ob → Prop) (a1 : Int) (a2 : Int) (a3 : Int) (a4 : Int) (a5 : Int) (a6 : Int) (a7 : Int) (a8 : Int) (a9 : Int) (a10 : Int) (a11 : Int) (a12 : Int) (a13 : Int) (a14 : Int)  : Prop := Meet (fun s => codeA tab (eM1.cut f41_cuts) (subC [1, 1, 1, 1, 0, 1] (bodyOf Try.f41)) [1, 1, 1, 1, 1, 1, 1, 1, 1, 1, 1, 1, 1, 1, 1, 1, 1, 1, 2] s (seqQ tab (eM1.cut f41_cuts) (subC [1, 1, 1, 1, 1] (bodyOf Try.f41)) [2] (endA tab Try.f41 R))) { slots := [AV.undef, AV.ptr 0 0, AV.int IntKind.i64 0] ++ List.replicate 57 AV.undef ++ [AV.bool true] ++ List.replicate 94 AV.undef, obs := [Ob.cells 66 [AV.int IntKind.i64 a1, AV.int IntKind.i64 a2, AV.int IntKind.i64 a3, AV.int IntKind.i64 a4, AV.int IntKind.i64 a5, AV.int IntKind.i64 a6, AV.int IntKind.i64 a7, AV.int IntKind.i64 a8, AV.int IntKind.i64 a9, AV.int IntKind.i64 a10, AV.int IntKind.i64 a11, AV.int IntKind.i64 a12, AV.int IntKind.i64 a13, AV.int IntKind.i64 a14]] }
theorem f41_jeq23 (R : AV → List Ob → Prop) (a1 : Int) (a2 : Int) (a3 : Int) (a4 : Int) (a5 : Int) (a6 : Int) (a7 : Int) (a8 : Int) (a9 : Int) (a10 : Int) (a11 : Int) (a12 : Int) (a13 : Int) (a14 : Int)  : f41_j23 R a1 a2 a3 a4 a5 a6 a7 a8 a9 a10 a11 a12 a13 a14  = (R (AV.int IntKind.i64 5) []) := (meet_eq _ _).trans (by kernel_rfl)
theorem f41_eq1 (R : AV → List Ob → Prop) (a1 : Int) (a2 : Int) (a3 : Int) (a4 : Int) (a5 : Int) (a6 : Int) (a7 : Int) (a8 : Int) (a9 : Int) (a10 : Int) (a11 : Int) (a12 : Int) (a13 : Int) (a14 : Int) : loopU f41_live1 (codeA tab (eM1.cut f41_cuts) (subC [1, 1, 1, 0, 1, 0, 0] (bodyOf Try.f41)) f41_live1) 40 (f41_head1 a1 a2 a3 a4 a5 a6 a7 a8 a9 a10 a11 a12 a13 a14) (f41_q1 R) = ((0 : Int) ≤ 0 ∧ (0 : Int) < 4 ∧ bif !bigB a7 then (0 : Int) ≤ 0 ∧ (0 : Int) < 4 ∧ bif bigB a11 then R (AV.int IntKind.i64 10) [] else (0 : Int) ≤ 1 ∧ (1 : Int) < 4 ∧ bif !bigB a8 then (0 : Int) ≤ 1 ∧ (1 : Int) < 4 ∧ bif bigB a12 then R (AV.int IntKind.i64 10) [] else (0 : Int) ≤ 2 ∧ (2 : Int) < 4 ∧ bif !bigB a9 then (0 : Int) ≤ 2 ∧ (2 : Int) < 4 ∧ bif bigB a13 then R (AV.int IntKind.i64 10) [] else (0 : Int) ≤ 3 ∧ (3 : Int) < 4 ∧ bif !bigB a10 then (0 : Int) ≤ 3 ∧ (3 : Int) < 4 ∧ bif bigB a14 then R (AV.int IntKind.i64 10) [] else bif a2 == 2 then bif a3 != 1 then bif !a3 != 2 then bif a2 != 2 then f41_j2 R a1 a2 a3 a4 a5 a6 a7 a8 a9 a10 a11 a12 a13 a14 else f41_j22 R a1 a2 a3 a4 a5 a6 a7 a8 a9 a10 a11 a12 a13 a14 else f41_j23 R a1 a2 a3 a4 a5 a6 a7 a8 a9 a10 a11 a12 a13 a14 else bif a2 != 2 then f41_j2 R a1 a2 a3 a4 a5 a6 a7 a8 a9 a10 a11 a12 a13 a14 else f41_j22 R a1 a2 a3 a4 a5 a6 a7 a8 a9 a10 a11 a12 a13 a14 else bif a2 != 2 then f41_j2 R a1 a2 a3 a4 a5 a6 a7 a8 a9 a10 a11 a12 a13 a14 else f41_j22 R a1 a2 a3 a4 a5 a6 a7 a8 a9 a10 a11 a12 a13 a14 else R (AV.int IntKind.i64 10) [] else R (AV.int IntKind.i64 10) [] else R (AV.int IntKind.i64 10) [] else R (AV.int IntKind.i64 10) []) := by kernel_rfl
theorem f41_rule1 (R : AV → List Ob → Prop) (a1 : Int) (a2 : Int) (a3 : Int) (a4 : Int) (a5 : Int) (a6 : Int) (a7 : Int) (a8 : Int) (a9 : Int) (a10 : Int) (a11 : Int) (a12 : Int) (a13 : Int) (a14 : Int) (h : (0 : Int) ≤ 0 ∧ (0 : Int) < 4 ∧ bif !bigB a7 then (0 : Int) ≤ 0 ∧ (0 : Int) < 4 ∧ bif bigB a11 then R (AV.int IntKind.i64 10) [] else (0 : Int) ≤ 1 ∧ (1 : Int) < 4 ∧ bif !bigB a8 then (0 : Int) ≤ 1 ∧ (1 : Int) < 4 ∧ bif bigB a12 then R (AV.int IntKind.i64 10) [] else (0 : Int) ≤ 2 ∧ (2 : Int) < 4 ∧ bif !bigB a9 then (0 : Int) ≤ 2 ∧ (2 : Int) < 4 ∧ bif bigB a13 then R (AV.int IntKind.i64 10) [] else (0 : Int) ≤ 3 ∧ (3 : Int) < 4 ∧ bif !bigB a10 then (0 : Int) ≤ 3 ∧ (3 : Int) < 4 ∧ bif bigB a14 then R (AV.int IntKind.i64 10) [] else bif a2 == 2 then bif a3 != 1 then bif !a3 != 2 then bif a2 != 2 then f41_j2 R a1 a2 a3 a4 a5 a6 a7 a8 a9 a10 a11 a12 a13 a14 else f41_j22 R a1 a2 a3 a4 a5 a6 a7 a8 a9 a10 a11 a12 a13 a14 else f41_j23 R a1 a2 a3 a4 a5 a6 a7 a8 a9 a10 a11 a12 a13 a14 else bif a2 != 2 then f41_j2 R a1 a2 a3 a4 a5 a6 a7 a8 a9 a10 a11 a12 a13 a14 else f41_j22 R a1 a2 a3 a4 a5 a6 a7 a8 a9 a10 a11 a12 a13 a14 else bif a2 != 2 then f41_j2 R a1 a2 a3 a4 a5 a6 a7 a8 a9 a10 a11 a12 a13 a14 else f41_j22 R a1 a2 a3 a4 a5 a6 a7 a8 a9 a10 a11 a12 a13 a14 else R (AV.int IntKind.i64 10) [] else R (AV.int IntKind.i64 10) [] else R (AV.int IntKind.i64 10) [] else R (AV.int IntKind.i64 10) []) : f41_loop1 R a1 a2 a3 a4 a5 a6 a7 a8 a9 a10 a11 a12 a13 a14 := loop_rounds 40 (Eq.mpr (f41_eq1 R a1 a2 a3 a4 a5 a6 a7 a8 a9 a10 a11 a12 a13 a14) h)
theorem f41_run (R : AV → List Ob → Prop) (a1 a2 a3 a4 a5 a6 a7 a8 a9 a10 a11 a12 a13 a14 : Int) : fnA tab (eM1.cut f41_cuts) Try.f41 (bodyOf Try.f41) [.agg (.cons (.int .i64 a1) (.cons (.int .i64 a2) (.cons (.int .i64 a3) (.cons (.int .i64 a4) (.cons (.int .i64 a5) (.cons (.int .i64 a6) (.cons (.int .i64 a7) (.cons (.int .i64 a8) (.cons (.int .i64 a9) (.cons (.int .i64 a10) (.cons (.int .i64 a11) (.cons (.int .i64 a12) (.cons (.int .i64 a13) (.cons (.int .i64 a14) .nl))))))))))))))] R = (bif !decide (a2 < 1) then bif decide (a2 > 5) then R (AV.int IntKind.i64 4) [] else bif !bigB a5 then bif bigB a6 then R (AV.int IntKind.i64 10) [] else f41_loop1 R a1 a2 a3 a4 a5 a6 a7 a8 a9 a10 a11 a12 a13 a14 else R (AV.int IntKind.i64 10) [] else R (AV.int IntKind.i64 4) []) := by kernel_rfl
theorem ok41 : ConOk Try.prog (41, con41) := by
  intro args t h hp
  simp only [con41] at h
  split at h
  · rename_i a1 a2 a3 a4 a5 a6 a7 a8 a9 a10 a11 a12 a13 a14
    cases h
    refine fn_ok (envM1.cut f41_cuts) tab_ok mixed Try.func41 (by kernel_rfl) (by kernel_rfl) ?_
    rw [f41_run]
    try dsimp only
    have j17 : ∀ R : AV → List Ob → Prop, R (.int .i64 (c17 a1)) [] → f41_j17 R a1 a2 a3 a4 a5 a6 a7 a8 a9 a10 a11 a12 a13 a14 := fun R h => by
      rw [f41_jeq17]
      repeat' first | refine dec_and rfl ?_ | refine cond_split (fun _ => ?_) (fun _ => ?_)
      all_goals first | exact toR h (by first | rfl | (unfold c17; first | exact if_pos (by simp at * <;> omega) | exact if_neg (by simp at * <;> omega) | (split <;> split <;> first | rfl | (exfalso; simp at * <;> omega))))
    have j16 : ∀ R : AV → List Ob → Prop, R (.int .i64 (c16 a1 a2 a14)) [] → f41_j16 R a1 a2 a3 a4 a5 a6 a7 a8 a9 a10 a11 a12 a13 a14 := fun R h => by
      rw [f41_jeq16]
      repeat' first | refine dec_and rfl ?_ | refine cond_split (fun _ => ?_) (fun _ => ?_)
      all_goals first | exact toR h (by first | rfl | (unfold c16; first | exact if_pos (by simp at * <;> omega) | exact if_neg (by simp at * <;> omega) | (split <;> split <;> first | rfl | (exfalso; simp at * <;> omega)))) | exact j17 R (toR h (by first | rfl | (unfold c16; first | exact if_pos (by simp at * <;> omega) | exact if_neg (by simp at * <;> omega) | (split <;> split <;> first | rfl | (exfalso; simp at * <;> omega)))))
    have j15 : ∀ R : AV → List Ob → Prop, R (.int .i64 (c15 a1 a2 a13 a14)) [] → f41_j15 R a1 a2 a3 a4 a5 a6 a7 a8 a9 a10 a11 a12 a13 a14 := fun R h => by
      rw [f41_jeq15]
      repeat' first | refine dec_and rfl ?_ | refine cond_split (fun _ => ?_) (fun _ => ?_)
      all_goals first | exact toR h (by first | rfl | (unfold c15; first | exact if_pos (by simp at * <;> omega) | exact if_neg (by simp at * <;> omega) | (split <;> split <;> first | rfl | (exfalso; simp at * <;> omega)))) | exact j16 R (toR h (by first | rfl | (unfold c15; first | exact if_pos (by simp at * <;> omega) | exact if_neg (by simp at * <;> omega) | (split <;> split <;> first | rfl | (exfalso; simp at * <;> omega)))))
    have j14 : ∀ R : AV → List Ob → Prop, R (.int .i64 (c14 a1 a2 a12 a13 a14)) [] → f41_j14 R a1 a2 a3 a4 a5 a6 a7 a8 a9 a10 a11 a12 a13 a14 := fun R h => by
      rw [f41_jeq14]
      repeat' first | refine dec_and rfl ?_ | refine cond_split (fun _ => ?_) (fun _ => ?_)
      all_goals first | exact toR h (by first | rfl | (unfold c14; first | exact if_pos (by simp at * <;> omega) | exact if_neg (by simp at * <;> omega) | (split <;> split <;> first | rfl | (exfalso; simp at * <;> omega)))) | exact j15 R (toR h (by first | rfl | (unfold c14; first | exact if_pos (by simp at * <;> omega) | exact if_neg (by simp at * <;> omega) | (split <;> split <;> first | rfl | (exfalso; simp at * <;> omega)))))
    have j12 : ∀ R : AV → List Ob → Prop, R (.int .i64 (c12 a1 a2 a11 a12 a13 a14)) [] → f41_j12 R a1 a2 a3 a4 a5 a6 a7 a8 a9 a10 a11 a12 a13 a14 := fun R h => by
      rw [f41_jeq12]; refine f41_rule13 R a1 a2 a3 a4 a5 a6 a7 a8 a9 a10 a11 a12 a13 a14 ?_
      repeat' first | refine dec_and rfl ?_ | refine cond_split (fun _ => ?_) (fun _ => ?_)
      all_goals first | exact toR h (by first | rfl | (unfold c12; first | exact if_pos (by simp at * <;> omega) | exact if_neg (by simp at * <;> omega) | (split <;> split <;> first | rfl | (exfalso; simp at * <;> omega)))) | exact j14 R (toR h (by first | rfl | (unfold c12; first | exact if_pos (by simp at * <;> omega) | exact if_neg (by simp at * <;> omega) | (split <;> split <;> first | rfl | (exfalso; simp at * <;> omega)))))
    have j11 : ∀ R : AV → List Ob → Prop, R (.int .i64 (c11 a1 a2 a10 a11 a12 a13 a14)) [] → f41_j11 R a1 a2 a3 a4 a5 a6 a7 a8 a9 a10 a11 a12 a13 a14 := fun R h => by
      rw [f41_jeq11]
      repeat' first | refine dec_and rfl ?_ | refine cond_split (fun _ => ?_) (fun _ => ?_)
      all_goals first | exact toR h (by first | rfl | (unfold c11; first | exact if_pos (by simp at * <;> omega) | exact if_neg (by simp at * <;> omega) | (split <;> split <;> first | rfl | (exfalso; simp at * <;> omega)))) | exact j12 R (toR h (by first | rfl | (unfold c11; first | exact if_pos (by simp at * <;> omega) | exact if_neg (by simp at * <;> omega) | (split <;> split <;> first | rfl | (exfalso; simp at * <;> omega)))))
    have j10 : ∀ R : AV → List Ob → Prop, R (.int .i64 (c10 a1 a2 a9 a10 a11 a12 a13 a14)) [] → f41_j10 R a1 a2 a3 a4 a5 a6 a7 a8 a9 a10 a11 a12 a13 a14 := fun R h => by
      rw [f41_jeq10]
      repeat' first | refine dec_and rfl ?_ | refine cond_split (fun _ => ?_) (fun _ => ?_)
      all_goals first | exact toR h (by first | rfl | (unfold c10; first | exact if_pos (by simp at * <;> omega) | exact if_neg (by simp at * <;> omega) | (split <;> split <;> first | rfl | (exfalso; simp at * <;> omega)))) | exact j11 R (toR h (by first | rfl | (unfold c10; first | exact if_pos (by simp at * <;> omega) | exact if_neg (by simp at * <;> omega) | (split <;> split <;> first | rfl | (exfalso; simp at * <;> omega)))))
    have j9 : ∀ R : AV → List Ob → Prop, R (.int .i64 (c9 a1 a2 a8 a9 a10 a11 a12 a13 a14)) [] → f41_j9 R a1 a2 a3 a4 a5 a6 a7 a8 a9 a10 a11 a12 a13 a14 := fun R h => by
      rw [f41_jeq9]
      repeat' first | refine dec_and rfl ?_ | refine cond_split (fun _ => ?_) (fun _ => ?_)
      all_goals first | exact toR h (by first | rfl | (unfold c9; first | exact if_pos (by simp at * <;> omega) | exact if_neg (by simp at * <;> omega) | (split <;> split <;> first | rfl | (exfalso; simp at * <;> omega)))) | exact j10 R (toR h (by first | rfl | (unfold c9; first | exact if_pos (by simp at * <;> omega) | exact if_neg (by simp at * <;> omega) | (split <;> split <;> first | rfl | (exfalso; simp at * <;> omega)))))
    have j7 : ∀ R : AV → List Ob → Prop, R (.int .i64 (c7 a1 a2 a7 a8 a9 a10 a11 a12 a13 a14)) [] → f41_j7 R a1 a2 a3 a4 a5 a6 a7 a8 a9 a10 a11 a12 a13 a14 := fun R h => by
      rw [f41_jeq7]; refine f41_rule8 R a1 a2 a3 a4 a5 a6 a7 a8 a9 a10 a11 a12 a13 a14 ?_
      repeat' first | refine dec_and rfl ?_ | refine cond_split (fun _ => ?_) (fun _ => ?_)
      all_goals first | exact toR h (by first | rfl | (unfold c7; first | exact if_pos (by simp at * <;> omega) | exact if_neg (by simp at * <;> omega) | (split <;> split <;> first | rfl | (exfalso; simp at * <;> omega)))) | exact j9 R (toR h (by first | rfl | (unfold c7; first | exact if_pos (by simp at * <;> omega) | exact if_neg (by simp at * <;> omega) | (split <;> split <;> first | rfl | (exfalso; simp at * <;> omega)))))
    have j6 : ∀ R : AV → List Ob → Prop, R (.int .i64 (if a2 = 5 then 7 else c7 a1 a2 a7 a8 a9 a10 a11 a12 a13 a14)) [] → f41_j6 R a1 a2 a3 a4 a5 a6 a7 a8 a9 a10 a11 a12 a13 a14 := fun R h => by
      rw [f41_jeq6]
      repeat' first | refine dec_and rfl ?_ | refine cond_split (fun _ => ?_) (fun _ => ?_)
      all_goals first | exact toR h (by first | rfl | (first | exact if_pos (by simp at * <;> omega) | exact if_neg (by simp at * <;> omega) | (split <;> split <;> first | rfl | (exfalso; simp at * <;> omega)))) | exact j7 R (toR h (by first | rfl | (first | exact if_pos (by simp at * <;> omega) | exact if_neg (by simp at * <;> omega) | (split <;> split <;> first | rfl | (exfalso; simp at * <;> omega)))))
    have j18 : ∀ R : AV → List Ob → Prop, R (.int .i64 (c7 a1 a2 a7 a8 a9 a10 a11 a12 a13 a14)) [] → f41_j18 R a1 a2 a3 a4 a5 a6 a7 a8 a9 a10 a11 a12 a13 a14 := fun R h => by
      rw [f41_jeq18]
      repeat' first | refine dec_and rfl ?_ | refine cond_split (fun _ => ?_) (fun _ => ?_)
      all_goals first | exact toR h (by first | rfl | (unfold c7; first | exact if_pos (by simp at * <;> omega) | exact if_neg (by simp at * <;> omega) | (split <;> split <;> first | rfl | (exfalso; simp at * <;> omega)))) | exact j7 R (toR h (by first | rfl | (unfold c7; first | exact if_pos (by simp at * <;> omega) | exact if_neg (by simp at * <;> omega) | (split <;> split <;> first | rfl | (exfalso; simp at * <;> omega)))))
    have j19 : ∀ R : AV → List Ob → Prop, R (.int .i64 (7)) [] → f41_j19 R a1 a2 a3 a4 a5 a6 a7 a8 a9 a10 a11 a12 a13 a14 := fun R h => by
      rw [f41_jeq19]
      repeat' first | refine dec_and rfl ?_ | refine cond_split (fun _ => ?_) (fun _ => ?_)
      all_goals first | exact toR h (by first | rfl | (first | exact if_pos (by simp at * <;> omega) | exact if_neg (by simp at * <;> omega) | (split <;> split <;> first | rfl | (exfalso; simp at * <;> omega))))
    have j5 : ∀ R : AV → List Ob → Prop, R (.int .i64 (c5 a1 a2 a5 a6 a7 a8 a9 a10 a11 a12 a13 a14)) [] → f41_j5 R a1 a2 a3 a4 a5 a6 a7 a8 a9 a10 a11 a12 a13 a14 := fun R h => by
      rw [f41_jeq5]
      repeat' first | refine dec_and rfl ?_ | refine cond_split (fun _ => ?_) (fun _ => ?_)
      all_goals first | exact toR h (by first | rfl | (unfold c5; first | exact if_pos (by simp at * <;> omega) | exact if_neg (by simp at * <;> omega) | (split <;> split <;> first | rfl | (exfalso; simp at * <;> omega)))) | exact j6 R (toR h (by first | rfl | (unfold c5; first | exact if_pos (by simp at * <;> omega) | exact if_neg (by simp at * <;> omega) | (split <;> split <;> first | rfl | (exfalso; simp at * <;> omega))))) | exact j18 R (toR h (by first | rfl | (unfold c5; first | exact if_pos (by simp at * <;> omega) | exact if_neg (by simp at * <;> omega) | (split <;> split <;> first | rfl | (exfalso; simp at * <;> omega))))) | exact j19 R (toR h (by first | rfl | (unfold c5; first | exact if_pos (by simp at * <;> omega) | exact if_neg (by simp at * <;> omega) | (split <;> split <;> first | rfl | (exfalso; simp at * <;> omega)))))
    have j4 : ∀ R : AV → List Ob → Prop, R (.int .i64 (if a4 ≠ 0 then 6 else c5 a1 a2 a5 a6 a7 a8 a9 a10 a11 a12 a13 a14)) [] → f41_j4 R a1 a2 a3 a4 a5 a6 a7 a8 a9 a10 a11 a12 a13 a14 := fun R h => by
      rw [f41_jeq4]
      repeat' first | refine dec_and rfl ?_ | refine cond_split (fun _ => ?_) (fun _ => ?_)
      all_goals first | exact toR h (by first | rfl | (first | exact if_pos (by simp at * <;> omega) | exact if_neg (by simp at * <;> omega) | (split <;> split <;> first | rfl | (exfalso; simp at * <;> omega)))) | exact j5 R (toR h (by first | rfl | (first | exact if_pos (by simp at * <;> omega) | exact if_neg (by simp at * <;> omega) | (split <;> split <;> first | rfl | (exfalso; simp at * <;> omega)))))
    have j20 : ∀ R : AV → List Ob → Prop, R (.int .i64 (c5 a1 a2 a5 a6 a7 a8 a9 a10 a11 a12 a13 a14)) [] → f41_j20 R a1 a2 a3 a4 a5 a6 a7 a8 a9 a10 a11 a12 a13 a14 := fun R h => by
      rw [f41_jeq20]
      repeat' first | refine dec_and rfl ?_ | refine cond_split (fun _ => ?_) (fun _ => ?_)
      all_goals first | exact toR h (by first | rfl | (unfold c5; first | exact if_pos (by simp at * <;> omega) | exact if_neg (by simp at * <;> omega) | (split <;> split <;> first | rfl | (exfalso; simp at * <;> omega)))) | exact j5 R (toR h (by first | rfl | (unfold c5; first | exact if_pos (by simp at * <;> omega) | exact if_neg (by simp at * <;> omega) | (split <;> split <;> first | rfl | (exfalso; simp at * <;> omega)))))
    have j21 : ∀ R : AV → List Ob → Prop, R (.int .i64 (6)) [] → f41_j21 R a1 a2 a3 a4 a5 a6 a7 a8 a9 a10 a11 a12 a13 a14 := fun R h => by
      rw [f41_jeq21]
      repeat' first | refine dec_and rfl ?_ | refine cond_split (fun _ => ?_) (fun _ => ?_)
      all_goals first | exact toR h (by first | rfl | (first | exact if_pos (by simp at * <;> omega) | exact if_neg (by simp at * <;> omega) | (split <;> split <;> first | rfl | (exfalso; simp at * <;> omega))))
    have j3 : ∀ R : AV → List Ob → Prop, R (.int .i64 (c3 a1 a2 a4 a5 a6 a7 a8 a9 a10 a11 a12 a13 a14)) [] → f41_j3 R a1 a2 a3 a4 a5 a6 a7 a8 a9 a10 a11 a12 a13 a14 := fun R h => by
      rw [f41_jeq3]
      repeat' first | refine dec_and rfl ?_ | refine cond_split (fun _ => ?_) (fun _ => ?_)
      all_goals first | exact toR h (by first | rfl | (unfold c3; first | exact if_pos (by simp at * <;> omega) | exact if_neg (by simp at * <;> omega) | (split <;> split <;> first | rfl | (exfalso; simp at * <;> omega)))) | exact j4 R (toR h (by first | rfl | (unfold c3; first | exact if_pos (by simp at * <;> omega) | exact if_neg (by simp at * <;> omega) | (split <;> split <;> first | rfl | (exfalso; simp at * <;> omega))))) | exact j20 R (toR h (by first | rfl | (unfold c3; first | exact if_pos (by simp at * <;> omega) | exact if_neg (by simp at * <;> omega) | (split <;> split <;> first | rfl | (exfalso; simp at * <;> omega))))) | exact j21 R (toR h (by first | rfl | (unfold c3; first | exact if_pos (by simp at * <;> omega) | exact if_neg (by simp at * <;> omega) | (split <;> split <;> first | rfl | (exfalso; simp at * <;> omega)))))
    have j2 : ∀ R : AV → List Ob → Prop, R (.int .i64 (if a3 ≠ 0 then 5 else c3 a1 a2 a4 a5 a6 a7 a8 a9 a10 a11 a12 a13 a14)) [] → f41_j2 R a1 a2 a3 a4 a5 a6 a7 a8 a9 a10 a11 a12 a13 a14 := fun R h => by
      rw [f41_jeq2]
      repeat' first | refine dec_and rfl ?_ | refine cond_split (fun _ => ?_) (fun _ => ?_)
      all_goals first | exact toR h (by first | rfl | (first | exact if_pos (by simp at * <;> omega) | exact if_neg (by simp at * <;> omega) | (split <;> split <;> first | rfl | (exfalso; simp at * <;> omega)))) | exact j3 R (toR h (by first | rfl | (first | exact if_pos (by simp at * <;> omega) | exact if_neg (by simp at * <;> omega) | (split <;> split <;> first | rfl | (exfalso; simp at * <;> omega)))))
    have j22 : ∀ R : AV → List Ob → Prop, R (.int .i64 (c3 a1 a2 a4 a5 a6 a7 a8 a9 a10 a11 a12 a13 a14)) [] → f41_j22 R a1 a2 a3 a4 a5 a6 a7 a8 a9 a10 a11 a12 a13 a14 := fun R h => by
      rw [f41_jeq22]
      repeat' first | refine dec_and rfl ?_ | refine cond_split (fun _ => ?_) (fun _ => ?_)
      all_goals first | exact toR h (by first | rfl | (unfold c3; first | exact if_pos (by simp at * <;> omega) | exact if_neg (by simp at * <;> omega) | (split <;> split <;> first | rfl | (exfalso; simp at * <;> omega)))) | exact j3 R (toR h (by first | rfl | (unfold c3; first | exact if_pos (by simp at * <;> omega) | exact if_neg (by simp at * <;> omega) | (split <;> split <;> first | rfl | (exfalso; simp at * <;> omega)))))
    have j23 : ∀ R : AV → List Ob → Prop, R (.int .i64 (5)) [] → f41_j23 R a1 a2 a3 a4 a5 a6 a7 a8 a9 a10 a11 a12 a13 a14 := fun R h => by
      rw [f41_jeq23]
      repeat' first | refine dec_and rfl ?_ | refine cond_split (fun _ => ?_) (fun _ => ?_)
      all_goals first | exact toR h (by first | rfl | (first | exact if_pos (by simp at * <;> omega) | exact if_neg (by simp at * <;> omega) | (split <;> split <;> first | rfl | (exfalso; simp at * <;> omega))))
    have j1 : ∀ R : AV → List Ob → Prop, R (.int .i64 (c2 a1 a2 a3 a4 a5 a6 a7 a8 a9 a10 a11 a12 a13 a14)) [] → (bif a2 == 2 then bif a3 != 1 then bif !a3 != 2 then bif a2 != 2 then f41_j2 R a1 a2 a3 a4 a5 a6 a7 a8 a9 a10 a11 a12 a13 a14 else f41_j22 R a1 a2 a3 a4 a5 a6 a7 a8 a9 a10 a11 a12 a13 a14 else f41_j23 R a1 a2 a3 a4 a5 a6 a7 a8 a9 a10 a11 a12 a13 a14 else bif a2 != 2 then f41_j2 R a1 a2 a3 a4 a5 a6 a7 a8 a9 a10 a11 a12 a13 a14 else f41_j22 R a1 a2 a3 a4 a5 a6 a7 a8 a9 a10 a11 a12 a13 a14 else bif a2 != 2 then f41_j2 R a1 a2 a3 a4 a5 a6 a7 a8 a9 a10 a11 a12 a13 a14 else f41_j22 R a1 a2 a3 a4 a5 a6 a7 a8 a9 a10 a11 a12 a13 a14) := fun R h => by
      repeat' first | refine cond_split (fun _ => ?_) (fun _ => ?_)
      all_goals first | exact j2 R (toR h (by first | rfl | (unfold c2; first | exact if_pos (by simp at * <;> omega) | exact if_neg (by simp at * <;> omega) | (split <;> split <;> first | rfl | (exfalso; simp at * <;> omega))))) | exact j22 R (toR h (by first | rfl | (unfold c2; first | exact if_pos (by simp at * <;> omega) | exact if_neg (by simp at * <;> omega) | (split <;> split <;> first | rfl | (exfalso; simp at * <;> omega))))) | exact j23 R (toR h (by first | rfl | (unfold c2; first | exact if_pos (by simp at * <;> omega) | exact if_neg (by simp at * <;> omega) | (split <;> split <;> first | rfl | (exfalso; simp at * <;> omega)))))
    refine ndec_split (fun g1 => dec_split (fun g2 => ⟨by rw [checkR, if_pos (by omega)], rfl⟩) (fun g2 => ?_)) (fun g1 => ⟨by rw [checkR, if_pos (by omega)], rfl⟩)
    rw [checkR, if_neg (by omega)]
    have hten : bigs a5 a6 a7 a8 a9 a10 a11 a12 a13 a14 = true → (AV.int IntKind.i64 10 = AV.int IntKind.i64 (if bigs a5 a6 a7 a8 a9 a10 a11 a12 a13 a14 = true then 10 else c2 a1 a2 a3 a4 a5 a6 a7 a8 a9 a10 a11 a12 a13 a14) ∧ ([] : List Ob) = []) := fun h => ⟨by rw [if_pos h], rfl⟩
    unfold bigs at hten ⊢
    refine cond_split (fun b5 => cond_split (fun b6 => hten (by simp [b6])) (fun b6 => ?_)) (fun b5 => hten (by rw [Bool.not_eq_false'] at b5; simp [b5]))
    rw [Bool.not_eq_true'] at b5
    refine f41_rule1 _ a1 a2 a3 a4 a5 a6 a7 a8 a9 a10 a11 a12 a13 a14 ?_
    refine dec_and rfl (dec_and rfl (cond_split (fun b7 => dec_and rfl (dec_and rfl (cond_split (fun b11 => hten (by simp [b11])) (fun b11 => ?_)))) (fun b7 => hten (by rw [Bool.not_eq_false'] at b7; simp [b7]))))
    rw [Bool.not_eq_true'] at b7
    refine dec_and rfl (dec_and rfl (cond_split (fun b8 => dec_and rfl (dec_and rfl (cond_split (fun b12 => hten (by simp [b12])) (fun b12 => ?_)))) (fun b8 => hten (by rw [Bool.not_eq_false'] at b8; simp [b8]))))
    rw [Bool.not_eq_true'] at b8
    refine dec_and rfl (dec_and rfl (cond_split (fun b9 => dec_and rfl (dec_and rfl (cond_split (fun b13 => hten (by simp [b13])) (fun b13 => ?_)))) (fun b9 => hten (by rw [Bool.not_eq_false'] at b9; simp [b9]))))
    rw [Bool.not_eq_true'] at b9
    refine dec_and rfl (dec_and rfl (cond_split (fun b10 => dec_and rfl (dec_and rfl (cond_split (fun b14 => hten (by simp [b14])) (fun b14 => ?_)))) (fun b10 => hten (by rw [Bool.not_eq_false'] at b10; simp [b10]))))
    rw [Bool.not_eq_true'] at b10
    exact j1 _ ⟨by rw [if_neg (by simp [b5, b6, b7, b8, b9, b10, b11, b12, b13, b14])], rfl⟩
  · cases h
def con69 : List AV → Option Tells
  | [.agg (.cons (.int .i64 a) (.cons (.int .i64 b) (.cons (.int .i64 c) (.cons (.int .i64 d) .nl))))] => some ⟨[], AV.bool (bif decide (IntKind.i64.wrap (c - a) > 0) then decide (IntKind.i64.wrap (d - b) > 0) else false), []⟩
  | _ => none
theorem f69_run (R : AV → List Ob → Prop) (a b c d : Int) : fnA tab eM1 Try.f69 (bodyOf Try.f69) [.agg (.cons (.int .i64 a) (.cons (.int .i64 b) (.cons (.int .i64 c) (.cons (.int .i64 d) .nl))))] R = (bif decide (IntKind.i64.wrap (c - a) > 0) then R (AV.bool (decide (IntKind.i64.wrap (d - b) > 0))) [] else R (AV.bool false) []) := by kernel_rfl
theorem ok69 : ConOk Try.prog (69, con69) := by
  intro args t h hp
  simp only [con69] at h
  split at h
  · cases h
    refine fn_ok envM1 tab_ok mixed Try.func69 (by kernel_rfl) (by kernel_rfl) ?_
    rw [f69_run]
    exact cond_split (fun h0 => ⟨by simp only [h0, cond_true, cond_false], by first | rfl | simp only [h0, cond_true, cond_false]⟩) (fun h0 => ⟨by simp only [h0, cond_true, cond_false], by first | rfl | simp only [h0, cond_true, cond_false]⟩)
  · cases h
def con86 : List AV → Option Tells
  | [.fn (.func 87) .nl .nl, .agg (.cons (.int .i64 a) (.cons (.int .i64 b) (.cons (.int .i64 c) (.cons (.int .i64 d) .nl)))), .agg (.cons (.int .i64 e) (.cons (.int .i64 f) (.cons (.int .i64 g) (.cons (.int .i64 h) .nl))))] => some ⟨[], ((AV.int IntKind.i64 (if e > a then e else a)).cons ((AV.int IntKind.i64 (if f > b then f else b)).cons ((AV.int IntKind.i64 (if g < c then g else c)).cons ((AV.int IntKind.i64 (if h < d then h else d)).cons AV.nl)))).agg, []⟩
  | _ => none
theorem f86_run (R : AV → List Ob → Prop) (a b c d e f g h : Int) : fnA tab eM1 Try.f86 (bodyOf Try.f86) [.fn (.func 87) .nl .nl, .agg (.cons (.int .i64 a) (.cons (.int .i64 b) (.cons (.int .i64 c) (.cons (.int .i64 d) .nl)))), .agg (.cons (.int .i64 e) (.cons (.int .i64 f) (.cons (.int .i64 g) (.cons (.int .i64 h) .nl))))] R = (R ((AV.int IntKind.i64 (if e > a then e else a)).cons ((AV.int IntKind.i64 (if f > b then f else b)).cons ((AV.int IntKind.i64 (if g < c then g else c)).cons ((AV.int IntKind.i64 (if h < d then h else d)).cons AV.nl)))).agg []) := by kernel_rfl
theorem ok86 : ConOk Try.prog (86, con86) := by
  intro args t h hp
  simp only [con86] at h
  split at h
  · cases h
    refine fn_ok envM1 tab_ok mixed Try.func86 (by kernel_rfl) (by kernel_rfl) ?_
    rw [f86_run]
    exact ⟨rfl, rfl⟩
  · cases h
def meetR (r s : Rc4) : Bool := decide (max r.1 s.1 < min r.2.2.1 s.2.2.1 ∧ max r.2.1 s.2.1 < min r.2.2.2 s.2.2.2)
def meetP (r s : Rc4) : Bool := decide (0 < IntKind.wrap .i64 (min r.2.2.1 s.2.2.1 - max r.1 s.1) ∧ 0 < IntKind.wrap .i64 (min r.2.2.2 s.2.2.2 - max r.2.1 s.2.1))
theorem max_of (a b : Int) : (bif decide (a > b) then a else b) = max a b := by
  by_cases h : a > b
  · rw [decide_eq_true h, cond_true]; omega
  · rw [decide_eq_false h, cond_false]; omega
theorem max_if (a b : Int) : (if b > a then b else a) = max a b := by split <;> omega
theorem min_if (a b : Int) : (if b < a then b else a) = min a b := by split <;> omega
theorem and_dec (p q : Prop) [Decidable p] [Decidable q] : (bif decide p then decide q else false) = decide (p ∧ q) := by
  by_cases h : p <;> by_cases h2 : q <;> simp [h, h2]
theorem meetR_of (a b c d e f g h : Int) : meetR (a, b, c, d) (e, f, g, h) = (bif bif decide (max a e ≥ a) then bif decide (max a e < c) then bif decide (max b f ≥ b) then decide (max b f < d) else false else false else false then bif decide (max a e ≥ e) then bif decide (max a e < g) then bif decide (max b f ≥ f) then decide (max b f < h) else false else false else false else false) := by
  rw [decide_eq_true (show max a e ≥ a by omega), decide_eq_true (show max b f ≥ b by omega), decide_eq_true (show max a e ≥ e by omega), decide_eq_true (show max b f ≥ f by omega)]
  simp only [cond_true, meetR]
  by_cases h1 : max a e < c <;> by_cases h2 : max b f < d <;> by_cases h3 : max a e < g <;> by_cases h4 : max b f < h <;> simp only [h1, h2, h3, h4, decide_true, decide_false, cond_true, cond_false] <;> first | (rw [decide_eq_true_eq]; omega) | (rw [decide_eq_false_iff_not]; omega)
def con46 : List AV → Option Tells
  | [.agg (.cons (.int .i64 a) (.cons (.int .i64 b) (.cons (.int .i64 c) (.cons (.int .i64 d) .nl)))), .agg (.cons (.int .i64 e) (.cons (.int .i64 f) (.cons (.int .i64 g) (.cons (.int .i64 h) .nl))))] => some ⟨[], .bool (meetR (a, b, c, d) (e, f, g, h)), []⟩
  | _ => none
theorem f46_run (R : AV → List Ob → Prop) (a b c d e f g h : Int) : fnA tab eM1 Try.f46 (bodyOf Try.f46) [.agg (.cons (.int .i64 a) (.cons (.int .i64 b) (.cons (.int .i64 c) (.cons (.int .i64 d) .nl)))), .agg (.cons (.int .i64 e) (.cons (.int .i64 f) (.cons (.int .i64 g) (.cons (.int .i64 h) .nl))))] R = ((0 : Int) ≤ 0 ∧ (0 : Int) < 4 ∧ (0 : Int) ≤ 0 ∧ (0 : Int) < 4 ∧ (0 : Int) ≤ 1 ∧ (1 : Int) < 4 ∧ (0 : Int) ≤ 1 ∧ (1 : Int) < 4 ∧ bif bif decide ((bif decide (a > e) then a else e) ≥ a) then bif decide ((bif decide (a > e) then a else e) < c) then bif decide ((bif decide (b > f) then b else f) ≥ b) then decide ((bif decide (b > f) then b else f) < d) else false else false else false then R (AV.bool (bif decide ((bif decide (a > e) then a else e) ≥ e) then bif decide ((bif decide (a > e) then a else e) < g) then bif decide ((bif decide (b > f) then b else f) ≥ f) then decide ((bif decide (b > f) then b else f) < h) else false else false else false)) [] else R (AV.bool false) []) := by kernel_rfl
theorem ok46 : ConOk Try.prog (46, con46) := by
  intro args t h hp
  simp only [con46] at h
  split at h
  · rename_i a b c d e f g h
    cases h
    refine fn_ok envM1 tab_ok mixed Try.func46 (by kernel_rfl) (by kernel_rfl) ?_
    rw [f46_run]
    try dsimp only
    refine dec_and rfl (dec_and rfl (dec_and rfl (dec_and rfl (dec_and rfl (dec_and rfl (dec_and rfl (dec_and rfl ?_)))))))
    simp only [max_of]
    refine cond_split (fun hc => ⟨?_, trivial⟩) (fun hc => ⟨?_, trivial⟩)
    · rw [meetR_of, hc, cond_true]
    · rw [meetR_of, hc, cond_false]
  · cases h
def consM2 : Cons := (69, con69) :: (86, con86) :: consM1
def twosM2 : Cons2 := twosM1
def pansM2 : Cons3 := pansM1
def itersM2 : Cons4 := itersM1
abbrev eM2 : Env := envOf4 consM2 twosM2 pansM2 itersM2
theorem allconsM2 : ∀ c ∈ consM2, ConOk Try.prog c := all_cons ok69 (all_cons ok86 allconsM1)
theorem alltwosM2 : ∀ c ∈ twosM2, ConOk2 Try.prog c := alltwosM1
theorem allpansM2 : ∀ c ∈ pansM2, ConOk3 Try.prog c := allpansM1
theorem allitersM2 : ∀ c ∈ itersM2, ConOk4 Try.prog c := allitersM1
theorem envM2 : EnvOk Try.prog eM2 := envOf4_ok _ _ _ _ allconsM2 alltwosM2 allpansM2 allitersM2
def con70 : List AV → Option Tells
  | [.agg (.cons (.int .i64 a) (.cons (.int .i64 b) (.cons (.int .i64 c) (.cons (.int .i64 d) .nl)))), .agg (.cons (.int .i64 e) (.cons (.int .i64 f) (.cons (.int .i64 g) (.cons (.int .i64 h) .nl))))] => some ⟨[], ((AV.int IntKind.i64 (if e > a then e else a)).cons ((AV.int IntKind.i64 (if f > b then f else b)).cons ((AV.int IntKind.i64 (if g < c then g else c)).cons ((AV.int IntKind.i64 (if h < d then h else d)).cons AV.nl)))).agg, []⟩
  | _ => none
theorem f70_run (R : AV → List Ob → Prop) (a b c d e f g h : Int) : fnA tab eM2 Try.f70 (bodyOf Try.f70) [.agg (.cons (.int .i64 a) (.cons (.int .i64 b) (.cons (.int .i64 c) (.cons (.int .i64 d) .nl)))), .agg (.cons (.int .i64 e) (.cons (.int .i64 f) (.cons (.int .i64 g) (.cons (.int .i64 h) .nl))))] R = (R ((AV.int IntKind.i64 (if e > a then e else a)).cons ((AV.int IntKind.i64 (if f > b then f else b)).cons ((AV.int IntKind.i64 (if g < c then g else c)).cons ((AV.int IntKind.i64 (if h < d then h else d)).cons AV.nl)))).agg []) := by kernel_rfl
theorem ok70 : ConOk Try.prog (70, con70) := by
  intro args t h hp
  simp only [con70] at h
  split at h
  · cases h
    refine fn_ok envM2 tab_ok mixed Try.func70 (by kernel_rfl) (by kernel_rfl) ?_
    rw [f70_run]
    exact ⟨rfl, rfl⟩
  · cases h
def consM3 : Cons := (70, con70) :: consM2
def twosM3 : Cons2 := twosM2
def pansM3 : Cons3 := pansM2
def itersM3 : Cons4 := itersM2
abbrev eM3 : Env := envOf4 consM3 twosM3 pansM3 itersM3
theorem allconsM3 : ∀ c ∈ consM3, ConOk Try.prog c := all_cons ok70 allconsM2
theorem alltwosM3 : ∀ c ∈ twosM3, ConOk2 Try.prog c := alltwosM2
theorem allpansM3 : ∀ c ∈ pansM3, ConOk3 Try.prog c := allpansM2
theorem allitersM3 : ∀ c ∈ itersM3, ConOk4 Try.prog c := allitersM2
theorem envM3 : EnvOk Try.prog eM3 := envOf4_ok _ _ _ _ allconsM3 alltwosM3 allpansM3 allitersM3
def con45 : List AV → Option Tells
  | [.agg (.cons (.int .i64 a) (.cons (.int .i64 b) (.cons (.int .i64 c) (.cons (.int .i64 d) .nl)))), .agg (.cons (.int .i64 e) (.cons (.int .i64 f) (.cons (.int .i64 g) (.cons (.int .i64 h) .nl))))] => some ⟨[], .bool (meetP (a, b, c, d) (e, f, g, h)), []⟩
  | _ => none
theorem f45_run (R : AV → List Ob → Prop) (a b c d e f g h : Int) : fnA tab eM3 Try.f45 (bodyOf Try.f45) [.agg (.cons (.int .i64 a) (.cons (.int .i64 b) (.cons (.int .i64 c) (.cons (.int .i64 d) .nl)))), .agg (.cons (.int .i64 e) (.cons (.int .i64 f) (.cons (.int .i64 g) (.cons (.int .i64 h) .nl))))] R = (R (AV.bool (bif decide (IntKind.i64.wrap ((if g < c then g else c) - if e > a then e else a) > 0) then decide (IntKind.i64.wrap ((if h < d then h else d) - if f > b then f else b) > 0) else false)) []) := by kernel_rfl
theorem ok45 : ConOk Try.prog (45, con45) := by
  intro args t h hp
  simp only [con45] at h
  split at h
  · rename_i a b c d e f g h
    cases h
    refine fn_ok envM3 tab_ok mixed Try.func45 (by kernel_rfl) (by kernel_rfl) ?_
    rw [f45_run]
    try dsimp only
    refine ⟨?_, rfl⟩
    rw [and_dec]
    simp only [max_if, min_if]
    rfl
  · cases h
def consM4 : Cons := (45, con45) :: (46, con46) :: (41, con41) :: (42, con42) :: (43, con43) :: (44, con44) :: (65, con65) :: (66, con66) :: (37, con37) :: (38, con38) :: (40, con40) :: consM3
def twosM4 : Cons2 := (67, con67) :: (67, con67b) :: twosM3
def pansM4 : Cons3 := pansM3
def itersM4 : Cons4 := itersM3
abbrev eM4 : Env := envOf4 consM4 twosM4 pansM4 itersM4
theorem allconsM4 : ∀ c ∈ consM4, ConOk Try.prog c := all_cons ok45 (all_cons ok46 (all_cons ok41 (all_cons ok42 (all_cons ok43 (all_cons ok44 (all_cons ok65 (all_cons ok66 (all_cons ok37 (all_cons ok38 (all_cons ok40 allconsM3))))))))))
theorem alltwosM4 : ∀ c ∈ twosM4, ConOk2 Try.prog c := all_cons ok67 (all_cons ok67b alltwosM3)
theorem allpansM4 : ∀ c ∈ pansM4, ConOk3 Try.prog c := allpansM3
theorem allitersM4 : ∀ c ∈ itersM4, ConOk4 Try.prog c := allitersM3
theorem envM4 : EnvOk Try.prog eM4 := envOf4_ok _ _ _ _ allconsM4 alltwosM4 allpansM4 allitersM4
theorem stepMap {α : Type} (f : α → α) (xs : List α) (d : α) (k : Nat) (h : k < xs.length) : ((xs.take k).map f ++ xs.drop k).getD k d = xs[k] ∧ ((xs.take k).map f ++ xs.drop k).set k (f xs[k]) = (xs.take (k + 1)).map f ++ xs.drop (k + 1) := by
  have hl : ((xs.take k).map f).length = k := by simp; omega
  constructor
  · rw [List.getD, List.getElem?_append_right (by omega), hl, Nat.sub_self, List.getElem?_drop]
    simp [h]
  · rw [List.set_append_right _ _ (by omega), hl, Nat.sub_self, take_next xs k h, List.drop_eq_getElem_cons h, List.set_cons_zero, List.map_append, List.append_assoc]
    rfl
def con39 : List AV → Option Tells
  | [.agg (.cons (.list 47 (.pair (.int .i64) (.pair (.int .i64) (.pair (.int .i64) (.int .i64)))) xs) (.cons (.list 106 (.pair (.int .i64) (.pair (.pair (.int .i64) (.pair (.int .i64) (.pair (.int .i64) (.int .i64)))) (.pair (.int .i64) (.int .i64)))) ys) .nl))] => some ⟨[xs.length ≤ 4096, ys.length ≤ 4096, 0 < xs.length], .agg (.cons (.row 0) (.cons (.row 1) .nl)), [.row 47 T4 (xs.map (mir (IntKind.wrap .i64 ((xs.getD 0 (0, 0, 0, 0)).1 + (xs.getD 0 (0, 0, 0, 0)).2.2.1)))), .row 106 TL (ys.map (mirL (IntKind.wrap .i64 ((xs.getD 0 (0, 0, 0, 0)).1 + (xs.getD 0 (0, 0, 0, 0)).2.2.1))))]⟩
  | _ => none
def f39_live1 : List Nat := [35, 34, 35, 5, 3, 35, 3, 5, 3, 3, 2, 2]
def f39_head1 (xs : List T4.den) (ys : List TL.den) (s35 : Int) (o5 : List (Int × Int × Int × Int)) : St := { slots := [AV.undef, AV.undef, AV.ptr 0 0, AV.ptr 1 0, AV.undef, AV.fn (Fn.func 67) AV.nl ((AV.ptr 2 0).cons AV.nl)] ++ List.replicate 28 AV.undef ++ [AV.int IntKind.i64 (↑xs.length : Int), AV.int IntKind.i64 s35] ++ List.replicate 24 AV.undef, obs := [Ob.cells 40 [AV.row 3, AV.row 4], Ob.cells 40 [AV.row 5, AV.row 6], Ob.cells 3 [AV.int IntKind.i64 (IntKind.i64.wrap ((xs.getD 0 (0, 0, 0, 0)).fst + (xs.getD 0 (0, 0, 0, 0)).snd.snd.fst))], Ob.row 47 ((Ty.int IntKind.i64).pair ((Ty.int IntKind.i64).pair ((Ty.int IntKind.i64).pair (Ty.int IntKind.i64)))) [], Ob.row 106 ((Ty.int IntKind.i64).pair (((Ty.int IntKind.i64).pair ((Ty.int IntKind.i64).pair ((Ty.int IntKind.i64).pair (Ty.int IntKind.i64)))).pair ((Ty.int IntKind.i64).pair (Ty.int IntKind.i64)))) [], Ob.row 47 ((Ty.int IntKind.i64).pair ((Ty.int IntKind.i64).pair ((Ty.int IntKind.i64).pair (Ty.int IntKind.i64)))) o5, Ob.row 106 ((Ty.int IntKind.i64).pair (((Ty.int IntKind.i64).pair ((Ty.int IntKind.i64).pair ((Ty.int IntKind.i64).pair (Ty.int IntKind.i64)))).pair ((Ty.int IntKind.i64).pair (Ty.int IntKind.i64)))) ys] }
def f39_q1 (R : AV → List Ob → Prop) : Ex → St → Prop := blockA 0 (seqQ tab eM4 (subC [1, 1, 1, 1, 1, 1] (bodyOf Try.f39)) [2] (endA tab Try.f39 R))
def f39_loop1 (R : AV → List Ob → Prop) (xs : List T4.den) (ys : List TL.den) (s35 : Int) (o5 : List (Int × Int × Int × Int)) : Prop := loopT f39_live1 (codeA tab eM4 (subC [1, 1, 1, 1, 1, 0, 1, 0, 0] (bodyOf Try.f39)) f39_live1) (f39_head1 xs ys s35 o5) (f39_q1 R)
def f39_live2 : List Nat := [48, 47, 48, 5, 3, 48, 3, 2, 2]
def f39_head2 (xs : List T4.den) (ys : List TL.den) (o5 : List (Int × Int × Int × Int)) (s48' : Int) (o6' : List (Int × (Int × Int × Int × Int) × Int × Int)) : St := { slots := [AV.undef, AV.undef, AV.ptr 0 0, AV.ptr 1 0, AV.undef, AV.fn (Fn.func 67) AV.nl ((AV.ptr 2 0).cons AV.nl)] ++ List.replicate 41 AV.undef ++ [AV.int IntKind.i64 (↑ys.length : Int), AV.int IntKind.i64 s48'] ++ List.replicate 11 AV.undef, obs := [Ob.cells 40 [AV.row 3, AV.row 4], Ob.cells 40 [AV.row 5, AV.row 6], Ob.cells 3 [AV.int IntKind.i64 (IntKind.i64.wrap ((xs.getD 0 (0, 0, 0, 0)).fst + (xs.getD 0 (0, 0, 0, 0)).snd.snd.fst))], Ob.row 47 ((Ty.int IntKind.i64).pair ((Ty.int IntKind.i64).pair ((Ty.int IntKind.i64).pair (Ty.int IntKind.i64)))) [], Ob.row 106 ((Ty.int IntKind.i64).pair (((Ty.int IntKind.i64).pair ((Ty.int IntKind.i64).pair ((Ty.int IntKind.i64).pair (Ty.int IntKind.i64)))).pair ((Ty.int IntKind.i64).pair (Ty.int IntKind.i64)))) [], Ob.row 47 ((Ty.int IntKind.i64).pair ((Ty.int IntKind.i64).pair ((Ty.int IntKind.i64).pair (Ty.int IntKind.i64)))) o5, Ob.row 106 ((Ty.int IntKind.i64).pair (((Ty.int IntKind.i64).pair ((Ty.int IntKind.i64).pair ((Ty.int IntKind.i64).pair (Ty.int IntKind.i64)))).pair ((Ty.int IntKind.i64).pair (Ty.int IntKind.i64)))) o6'] }
def f39_q2 (R : AV → List Ob → Prop) : Ex → St → Prop := blockA 2 (seqQ tab eM4 (subC [1, 1, 1, 1, 1, 1, 1] (bodyOf Try.f39)) [2] (endA tab Try.f39 R))
def f39_loop2 (R : AV → List Ob → Prop) (xs : List T4.den) (ys : List TL.den) (o5 : List (Int × Int × Int × Int)) (s48' : Int) (o6' : List (Int × (Int × Int × Int × Int) × Int × Int)) : Prop := loopT f39_live2 (codeA tab eM4 (subC [1, 1, 1, 1, 1, 1, 0, 1, 0, 0] (bodyOf Try.f39)) f39_live2) (f39_head2 xs ys o5 s48' o6') (f39_q2 R)
def f39_rhs2 (R : AV → List Ob → Prop) (xs : List T4.den) (ys : List TL.den) (o5 : List (Int × Int × Int × Int)) (J1 : St → Prop) (s48' : Int) (o6' : List (Int × (Int × Int × Int × Int) × Int × Int)) : Prop := bif decide (s48' < (↑ys.length : Int)) then 0 ≤ s48' ∧ s48' < (↑o6'.length : Int) ∧ 0 ≤ s48' ∧ s48' < (↑o6'.length : Int) ∧ (o6'.set s48'.toNat (mirL (IntKind.i64.wrap ((xs.getD 0 (0, 0, 0, 0)).fst + (xs.getD 0 (0, 0, 0, 0)).snd.snd.fst)) (o6'.getD s48'.toNat (0, (0, 0, 0, 0), 0, 0)))).length = o6'.length ∧ J1 (f39_head2 xs ys o5 (IntKind.i64.wrap (s48' + 1)) (o6'.set s48'.toNat (mirL (IntKind.i64.wrap ((xs.getD 0 (0, 0, 0, 0)).fst + (xs.getD 0 (0, 0, 0, 0)).snd.snd.fst)) (o6'.getD s48'.toNat (0, (0, 0, 0, 0), 0, 0))))) else R ((AV.row 0).cons ((AV.row 1).cons AV.nl)).agg [Ob.row 47 ((Ty.int IntKind.i64).pair ((Ty.int IntKind.i64).pair ((Ty.int IntKind.i64).pair (Ty.int IntKind.i64)))) o5, Ob.row 106 ((Ty.int IntKind.i64).pair (((Ty.int IntKind.i64).pair ((Ty.int IntKind.i64).pair ((Ty.int IntKind.i64).pair (Ty.int IntKind.i64)))).pair ((Ty.int IntKind.i64).pair (Ty.int IntKind.i64)))) o6']
theorem f39_eq2 (R : AV → List Ob → Prop) (xs : List T4.den) (ys : List TL.den) (o5 : List (Int × Int × Int × Int)) (J1 : St → Prop) (s48' : Int) (o6' : List (Int × (Int × Int × Int × Int) × Int × Int)) : codeA tab eM4 (subC [1, 1, 1, 1, 1, 1, 0, 1, 0, 0] (bodyOf Try.f39)) f39_live2 (f39_head2 xs ys o5 s48' o6') (thenA (fun s => J1 (St.tidy f39_live2 s)) (f39_q2 R)) = f39_rhs2 R xs ys o5 J1 s48' o6' := by kernel_rfl
theorem f39_rule2 (R : AV → List Ob → Prop) (xs : List T4.den) (ys : List TL.den) (o5 : List (Int × Int × Int × Int)) (I : Nat → (Int) → (List (Int × (Int × Int × Int × Int) × Int × Int)) → Prop) (n : Nat) (s48' : Int) (o6' : List (Int × (Int × Int × Int × Int) × Int × Int)) (h0 : I n s48' o6') (h : ∀ n, ∀ (s48' : Int) (o6' : List (Int × (Int × Int × Int × Int) × Int × Int)), I n s48' o6' → f39_rhs2 R xs ys o5 (fun t => ∃ m, m < n ∧ ∃ (s48' : Int) (o6' : List (Int × (Int × Int × Int × Int) × Int × Int)), t = f39_head2 xs ys o5 s48' o6' ∧ I m s48' o6') s48' o6') : f39_loop2 R xs ys o5 s48' o6' :=
  loop_intro (fun n t => ∃ (s48' : Int) (o6' : List (Int × (Int × Int × Int × Int) × Int × Int)), t = f39_head2 xs ys o5 s48' o6' ∧ I n s48' o6') n ⟨s48', o6', rfl, h0⟩ (fun n t ht => by obtain ⟨s48', o6', rfl, hI⟩ := ht; exact Eq.mpr (f39_eq2 R xs ys o5 (fun t => ∃ m, m < n ∧ ∃ (s48' : Int) (o6' : List (Int × (Int × Int × Int × Int) × Int × Int)), t = f39_head2 xs ys o5 s48' o6' ∧ I m s48' o6') s48' o6') (h n s48' o6' hI))
def f39_rhs1 (R : AV → List Ob → Prop) (xs : List T4.den) (ys : List TL.den) (J : St → Prop) (s35 : Int) (o5 : List (Int × Int × Int × Int)) : Prop := bif decide (s35 < (↑xs.length : Int)) then 0 ≤ s35 ∧ s35 < (↑o5.length : Int) ∧ 0 ≤ s35 ∧ s35 < (↑o5.length : Int) ∧ (o5.set s35.toNat (mir (IntKind.i64.wrap ((xs.getD 0 (0, 0, 0, 0)).fst + (xs.getD 0 (0, 0, 0, 0)).snd.snd.fst)) (o5.getD s35.toNat (0, 0, 0, 0)))).length = o5.length ∧ J (f39_head1 xs ys (IntKind.i64.wrap (s35 + 1)) (o5.set s35.toNat (mir (IntKind.i64.wrap ((xs.getD 0 (0, 0, 0, 0)).fst + (xs.getD 0 (0, 0, 0, 0)).snd.snd.fst)) (o5.getD s35.toNat (0, 0, 0, 0))))) else f39_loop2 R xs ys o5 0 ys
theorem f39_eq1 (R : AV → List Ob → Prop) (xs : List T4.den) (ys : List TL.den) (J : St → Prop) (s35 : Int) (o5 : List (Int × Int × Int × Int)) : codeA tab eM4 (subC [1, 1, 1, 1, 1, 0, 1, 0, 0] (bodyOf Try.f39)) f39_live1 (f39_head1 xs ys s35 o5) (thenA (fun s => J (St.tidy f39_live1 s)) (f39_q1 R)) = f39_rhs1 R xs ys J s35 o5 := by kernel_rfl
theorem f39_rule1 (R : AV → List Ob → Prop) (xs : List T4.den) (ys : List TL.den) (I : Nat → (Int) → (List (Int × Int × Int × Int)) → Prop) (n : Nat) (s35 : Int) (o5 : List (Int × Int × Int × Int)) (h0 : I n s35 o5) (h : ∀ n, ∀ (s35 : Int) (o5 : List (Int × Int × Int × Int)), I n s35 o5 → f39_rhs1 R xs ys (fun t => ∃ m, m < n ∧ ∃ (s35 : Int) (o5 : List (Int × Int × Int × Int)), t = f39_head1 xs ys s35 o5 ∧ I m s35 o5) s35 o5) : f39_loop1 R xs ys s35 o5 :=
  loop_intro (fun n t => ∃ (s35 : Int) (o5 : List (Int × Int × Int × Int)), t = f39_head1 xs ys s35 o5 ∧ I n s35 o5) n ⟨s35, o5, rfl, h0⟩ (fun n t ht => by obtain ⟨s35, o5, rfl, hI⟩ := ht; exact Eq.mpr (f39_eq1 R xs ys (fun t => ∃ m, m < n ∧ ∃ (s35 : Int) (o5 : List (Int × Int × Int × Int)), t = f39_head1 xs ys s35 o5 ∧ I m s35 o5) s35 o5) (h n s35 o5 hI))
theorem f39_run (R : AV → List Ob → Prop) (xs : List T4.den) (ys : List TL.den) : fnA tab eM4 Try.f39 (bodyOf Try.f39) [.agg (.cons (.list 47 T4 xs) (.cons (.list 106 TL ys) .nl))] R = (xs.length ≤ 4096 ∧ ys.length ≤ 4096 ∧ bif (↑xs.length : Int) == 0 then R ((AV.row 0).cons ((AV.row 1).cons AV.nl)).agg [Ob.row 47 ((Ty.int IntKind.i64).pair ((Ty.int IntKind.i64).pair ((Ty.int IntKind.i64).pair (Ty.int IntKind.i64)))) xs, Ob.row 106 ((Ty.int IntKind.i64).pair (((Ty.int IntKind.i64).pair ((Ty.int IntKind.i64).pair ((Ty.int IntKind.i64).pair (Ty.int IntKind.i64)))).pair ((Ty.int IntKind.i64).pair (Ty.int IntKind.i64)))) ys] else (0 : Int) ≤ 0 ∧ 0 < (↑xs.length : Int) ∧ (0 : Int) ≤ 0 ∧ 0 < (↑xs.length : Int) ∧ f39_loop1 R xs ys 0 xs) := by kernel_rfl
theorem ok39 : ConOk Try.prog (39, con39) := by
  intro args t h hp
  simp only [con39] at h
  split at h
  · rename_i xs ys
    change List T4.den at xs
    change List TL.den at ys
    cases h
    refine fn_ok envM4 tab_ok mixed Try.func39 (by kernel_rfl) (by kernel_rfl) ?_
    rw [f39_run]
    try dsimp only
    have hx := hp (xs.length ≤ 4096) (by simp)
    have hy := hp (ys.length ≤ 4096) (by simp)
    have h0 := hp (0 < xs.length) (by simp)
    refine ⟨hx, hy, cond_no (by simp; intro e; rw [e] at h0; simp at h0) ⟨by omega, by omega, by omega, by omega, ?_⟩⟩
    refine f39_rule1 _ xs ys (fun n i o => ∃ k : Nat, k ≤ xs.length ∧ n = xs.length - k ∧ i = k ∧ o = (xs.take k).map (mir (IntKind.wrap .i64 ((xs.getD 0 (0, 0, 0, 0)).1 + (xs.getD 0 (0, 0, 0, 0)).2.2.1))) ++ xs.drop k) xs.length 0 xs ⟨0, by omega, by simp, rfl, by simp⟩ ?_
    rintro n i o ⟨k, hk, rfl, rfl, rfl⟩
    unfold f39_rhs1
    have hl : ((xs.take k).map (mir (IntKind.wrap .i64 ((xs.getD 0 (0, 0, 0, 0)).1 + (xs.getD 0 (0, 0, 0, 0)).2.2.1))) ++ xs.drop k).length = xs.length := by simp; omega
    rw [List.length_set, hl]
    refine dec_split (fun hlt => ?_) (fun hlt => ?_)
    · have hlt' : k < xs.length := by omega
      obtain ⟨e1, e2⟩ := stepMap (mir (IntKind.wrap .i64 ((xs.getD 0 (0, 0, 0, 0)).1 + (xs.getD 0 (0, 0, 0, 0)).2.2.1))) xs (0, 0, 0, 0) k hlt'
      exact ⟨by omega, hlt, by omega, hlt, rfl, xs.length - (k + 1), by omega, _, _, rfl, k + 1, by omega, rfl, wrap_next k _ hlt' (by simp only [maxLen]; omega), by rw [Int.toNat_natCast, e1, e2]⟩
    rw [take_all xs k (by omega), List.drop_of_length_le (by omega), List.append_nil]
    refine f39_rule2 _ xs ys _ (fun n i o => ∃ k : Nat, k ≤ ys.length ∧ n = ys.length - k ∧ i = k ∧ o = (ys.take k).map (mirL (IntKind.wrap .i64 ((xs.getD 0 (0, 0, 0, 0)).1 + (xs.getD 0 (0, 0, 0, 0)).2.2.1))) ++ ys.drop k) ys.length 0 ys ⟨0, by omega, by simp, rfl, by simp⟩ ?_
    rintro n i o ⟨j, hj, rfl, rfl, rfl⟩
    unfold f39_rhs2
    have hl2 : ((ys.take j).map (mirL (IntKind.wrap .i64 ((xs.getD 0 (0, 0, 0, 0)).1 + (xs.getD 0 (0, 0, 0, 0)).2.2.1))) ++ ys.drop j).length = ys.length := by simp; omega
    rw [List.length_set, hl2]
    refine dec_split (fun hlt2 => ?_) (fun hlt2 => ?_)
    · have hlt' : j < ys.length := by omega
      obtain ⟨e1, e2⟩ := stepMap (mirL (IntKind.wrap .i64 ((xs.getD 0 (0, 0, 0, 0)).1 + (xs.getD 0 (0, 0, 0, 0)).2.2.1))) ys (0, (0, 0, 0, 0), 0, 0) j hlt'
      exact ⟨by omega, hlt2, by omega, hlt2, rfl, ys.length - (j + 1), by omega, _, _, rfl, j + 1, by omega, rfl, wrap_next j _ hlt' (by simp only [maxLen]; omega), by rw [Int.toNat_natCast, e1, e2]⟩
    rw [take_all ys j (by omega), List.drop_of_length_le (by omega), List.append_nil]
    exact ⟨rfl, rfl⟩
  · cases h

end Go.Proofs.Ytjhhkfjabaojhaa.W
