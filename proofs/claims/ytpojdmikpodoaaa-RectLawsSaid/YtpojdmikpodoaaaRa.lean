/- The functions of layer 2 (rect) and of its reference, and what they come to. -/
import Derived.Test.YtpojdmikpodoaaaWa
import Derived.Test.YtpojdmikpodoaaaAwZ
import Derived.KernelRfl
namespace Go.Proofs.Ytpojdmikpodoaaa.W
open Go Go.Proofs Go.Proofs.Ytpojdmikpodoaaa.Aw
def consR0 : Cons := []
theorem allR0 : ∀ c ∈ consR0, ConOk Try.prog c := all_nil
theorem envR0 : EnvOk Try.prog (envOf consR0) := envOf_ok _ allR0
def hasB (a b c d x y : Int) : Bool := decide (a ≤ x) && (decide (x < c) && (decide (b ≤ y) && decide (y < d)))
def fullB (a b c d : Int) : Bool := decide (a < c) && decide (b < d)
def fullW (a b c d : Int) : Bool := decide (0 < IntKind.wrap .i64 (c - a)) && decide (0 < IntKind.wrap .i64 (d - b))
def con56 : List AV → Option Tells
  | [.agg (.cons (.int .i64 a) (.cons (.int .i64 b) .nl))] => some ⟨[], AV.int IntKind.i64 (IntKind.i64.wrap (b - a)), []⟩
  | _ => none
theorem f56_run (R : AV → List Ob → Prop) (a b : Int) : fnA tab (envOf consR0) Try.f56 (bodyOf Try.f56) [.agg (.cons (.int .i64 a) (.cons (.int .i64 b) .nl))] R = (R (AV.int IntKind.i64 (IntKind.i64.wrap (b - a))) []) := by kernel_rfl
theorem ok56 : ConOk Try.prog (56, con56) := by
  intro args t h hp
  simp only [con56] at h
  split at h
  · cases h
    refine fn_ok envR0 tab_ok mixed Try.func56 (by kernel_rfl) (by kernel_rfl) ?_
    rw [f56_run]
    exact ⟨rfl, rfl⟩
  · cases h
def con57 : List AV → Option Tells
  | [.int .i64 a, .int .i64 b] => some ⟨[], .int .i64 (max a b), []⟩
  | _ => none
theorem f57_run (R : AV → List Ob → Prop) (a b : Int) : fnA tab (envOf consR0) Try.f57 (bodyOf Try.f57) [.int .i64 a, .int .i64 b] R = (bif decide (a > b) then R (AV.int IntKind.i64 a) [] else R (AV.int IntKind.i64 b) []) := by kernel_rfl
theorem ok57 : ConOk Try.prog (57, con57) := by
  intro args t h hp
  simp only [con57] at h
  split at h
  · rename_i a b
    cases h
    refine fn_ok envR0 tab_ok mixed Try.func57 (by kernel_rfl) (by kernel_rfl) ?_
    rw [f57_run]
    dsimp only
    (repeat' first | refine dec_split (fun _ => ?_) (fun _ => ?_) | refine ndec_split (fun _ => ?_) (fun _ => ?_) | refine cond_split (fun _ => ?_) (fun _ => ?_) | refine dec_and rfl ?_) <;> exact ⟨by congr 1; omega, rfl⟩
  · cases h
def con61 : List AV → Option Tells
  | [.int .i64 a, .int .i64 b] => some ⟨[], .int .i64 (min a b), []⟩
  | _ => none
theorem f61_run (R : AV → List Ob → Prop) (a b : Int) : fnA tab (envOf consR0) Try.f61 (bodyOf Try.f61) [.int .i64 a, .int .i64 b] R = (bif decide (a < b) then R (AV.int IntKind.i64 a) [] else R (AV.int IntKind.i64 b) []) := by kernel_rfl
theorem ok61 : ConOk Try.prog (61, con61) := by
  intro args t h hp
  simp only [con61] at h
  split at h
  · rename_i a b
    cases h
    refine fn_ok envR0 tab_ok mixed Try.func61 (by kernel_rfl) (by kernel_rfl) ?_
    rw [f61_run]
    dsimp only
    (repeat' first | refine dec_split (fun _ => ?_) (fun _ => ?_) | refine ndec_split (fun _ => ?_) (fun _ => ?_) | refine cond_split (fun _ => ?_) (fun _ => ?_) | refine dec_and rfl ?_) <;> exact ⟨by congr 1; omega, rfl⟩
  · cases h
def con60 : List AV → Option Tells
  | [.agg (.cons (.int .i64 a) (.cons (.int .i64 b) .nl)), .agg (.cons (.int .i64 c) (.cons (.int .i64 d) .nl))] => some ⟨[], .agg (.cons (.int .i64 (max a c)) (.cons (.int .i64 (min b d)) .nl)), []⟩
  | _ => none
theorem f60_run (R : AV → List Ob → Prop) (a b c d : Int) : fnA tab (envOf consR0) Try.f60 (bodyOf Try.f60) [.agg (.cons (.int .i64 a) (.cons (.int .i64 b) .nl)), .agg (.cons (.int .i64 c) (.cons (.int .i64 d) .nl))] R = (R ((AV.int IntKind.i64 (if c > a then c else a)).cons ((AV.int IntKind.i64 (if d < b then d else b)).cons AV.nl)).agg []) := by kernel_rfl
theorem ok60 : ConOk Try.prog (60, con60) := by
  intro args t h hp
  simp only [con60] at h
  split at h
  · rename_i a b c d
    cases h
    refine fn_ok envR0 tab_ok mixed Try.func60 (by kernel_rfl) (by kernel_rfl) ?_
    rw [f60_run]
    dsimp only
    rw [show (if c > a then c else a) = max a c by omega, show (if d < b then d else b) = min b d by omega]
    exact ⟨rfl, rfl⟩
  · cases h
def con41 : List AV → Option Tells
  | [.agg (.cons (.int .i64 a) (.cons (.int .i64 b) (.cons (.int .i64 c) (.cons (.int .i64 d) .nl))))] => some ⟨[], ((AV.int IntKind.i64 a).cons ((AV.int IntKind.i64 c).cons AV.nl)).agg, []⟩
  | _ => none
theorem f41_run (R : AV → List Ob → Prop) (a b c d : Int) : fnA tab (envOf consR0) Try.f41 (bodyOf Try.f41) [.agg (.cons (.int .i64 a) (.cons (.int .i64 b) (.cons (.int .i64 c) (.cons (.int .i64 d) .nl))))] R = (R ((AV.int IntKind.i64 a).cons ((AV.int IntKind.i64 c).cons AV.nl)).agg []) := by kernel_rfl
theorem ok41 : ConOk Try.prog (41, con41) := by
  intro args t h hp
  simp only [con41] at h
  split at h
  · cases h
    refine fn_ok envR0 tab_ok mixed Try.func41 (by kernel_rfl) (by kernel_rfl) ?_
    rw [f41_run]
    exact ⟨rfl, rfl⟩
  · cases h
def con42 : List AV → Option Tells
  | [.agg (.cons (.int .i64 a) (.cons (.int .i64 b) (.cons (.int .i64 c) (.cons (.int .i64 d) .nl))))] => some ⟨[], ((AV.int IntKind.i64 b).cons ((AV.int IntKind.i64 d).cons AV.nl)).agg, []⟩
  | _ => none
theorem f42_run (R : AV → List Ob → Prop) (a b c d : Int) : fnA tab (envOf consR0) Try.f42 (bodyOf Try.f42) [.agg (.cons (.int .i64 a) (.cons (.int .i64 b) (.cons (.int .i64 c) (.cons (.int .i64 d) .nl))))] R = (R ((AV.int IntKind.i64 b).cons ((AV.int IntKind.i64 d).cons AV.nl)).agg []) := by kernel_rfl
theorem ok42 : ConOk Try.prog (42, con42) := by
  intro args t h hp
  simp only [con42] at h
  split at h
  · cases h
    refine fn_ok envR0 tab_ok mixed Try.func42 (by kernel_rfl) (by kernel_rfl) ?_
    rw [f42_run]
    exact ⟨rfl, rfl⟩
  · cases h
def con40 : List AV → Option Tells
  | [.agg (.cons (.int .i64 a) (.cons (.int .i64 b) .nl)), .agg (.cons (.int .i64 c) (.cons (.int .i64 d) .nl))] => some ⟨[], ((AV.int IntKind.i64 a).cons ((AV.int IntKind.i64 c).cons ((AV.int IntKind.i64 b).cons ((AV.int IntKind.i64 d).cons AV.nl)))).agg, []⟩
  | _ => none
theorem f40_run (R : AV → List Ob → Prop) (a b c d : Int) : fnA tab (envOf consR0) Try.f40 (bodyOf Try.f40) [.agg (.cons (.int .i64 a) (.cons (.int .i64 b) .nl)), .agg (.cons (.int .i64 c) (.cons (.int .i64 d) .nl))] R = (R ((AV.int IntKind.i64 a).cons ((AV.int IntKind.i64 c).cons ((AV.int IntKind.i64 b).cons ((AV.int IntKind.i64 d).cons AV.nl)))).agg []) := by kernel_rfl
theorem ok40 : ConOk Try.prog (40, con40) := by
  intro args t h hp
  simp only [con40] at h
  split at h
  · cases h
    refine fn_ok envR0 tab_ok mixed Try.func40 (by kernel_rfl) (by kernel_rfl) ?_
    rw [f40_run]
    exact ⟨rfl, rfl⟩
  · cases h
def con58 : List AV → Option Tells
  | [.agg (.cons (.int .i64 a) (.cons (.int .i64 b) (.cons (.int .i64 c) (.cons (.int .i64 d) .nl)))), .int .i64 x, .int .i64 y] => some ⟨[], .bool (hasB a b c d x y), []⟩
  | _ => none
theorem f58_run (R : AV → List Ob → Prop) (a b c d x y : Int) : fnA tab (envOf consR0) Try.f58 (bodyOf Try.f58) [.agg (.cons (.int .i64 a) (.cons (.int .i64 b) (.cons (.int .i64 c) (.cons (.int .i64 d) .nl)))), .int .i64 x, .int .i64 y] R = ((0 : Int) ≤ 0 ∧ (0 : Int) < 4 ∧ bif decide (x ≥ a) then (0 : Int) ≤ 2 ∧ (2 : Int) < 4 ∧ bif decide (x < c) then (0 : Int) ≤ 1 ∧ (1 : Int) < 4 ∧ bif decide (y ≥ b) then (0 : Int) ≤ 3 ∧ (3 : Int) < 4 ∧ R (AV.bool (decide (y < d))) [] else R (AV.bool false) [] else R (AV.bool false) [] else R (AV.bool false) []) := by kernel_rfl
theorem ok58 : ConOk Try.prog (58, con58) := by
  intro args t h hp
  simp only [con58] at h
  split at h
  · rename_i a b c d x y
    cases h
    refine fn_ok envR0 tab_ok mixed Try.func58 (by kernel_rfl) (by kernel_rfl) ?_
    rw [f58_run]
    dsimp only
    (repeat' first | refine dec_split (fun _ => ?_) (fun _ => ?_) | refine ndec_split (fun _ => ?_) (fun _ => ?_) | refine cond_split (fun _ => ?_) (fun _ => ?_) | refine dec_and rfl ?_) <;> exact ⟨by congr 1; (simp_all [hasB] <;> intros <;> omega), rfl⟩
  · cases h
def con36 : List AV → Option Tells
  | [.agg (.cons (.int .i64 a) (.cons (.int .i64 b) (.cons (.int .i64 c) (.cons (.int .i64 d) .nl)))), .int .i64 x, .int .i64 y] => some ⟨[], ((AV.int IntKind.i64 (IntKind.i64.wrap (a + x))).cons ((AV.int IntKind.i64 (IntKind.i64.wrap (b + y))).cons ((AV.int IntKind.i64 (IntKind.i64.wrap (c + x))).cons ((AV.int IntKind.i64 (IntKind.i64.wrap (d + y))).cons AV.nl)))).agg, []⟩
  | _ => none
theorem f36_run (R : AV → List Ob → Prop) (a b c d x y : Int) : fnA tab (envOf consR0) Try.f36 (bodyOf Try.f36) [.agg (.cons (.int .i64 a) (.cons (.int .i64 b) (.cons (.int .i64 c) (.cons (.int .i64 d) .nl)))), .int .i64 x, .int .i64 y] R = (R ((AV.int IntKind.i64 (IntKind.i64.wrap (a + x))).cons ((AV.int IntKind.i64 (IntKind.i64.wrap (b + y))).cons ((AV.int IntKind.i64 (IntKind.i64.wrap (c + x))).cons ((AV.int IntKind.i64 (IntKind.i64.wrap (d + y))).cons AV.nl)))).agg []) := by kernel_rfl
theorem ok36 : ConOk Try.prog (36, con36) := by
  intro args t h hp
  simp only [con36] at h
  split at h
  · cases h
    refine fn_ok envR0 tab_ok mixed Try.func36 (by kernel_rfl) (by kernel_rfl) ?_
    rw [f36_run]
    exact ⟨rfl, rfl⟩
  · cases h
def con37 : List AV → Option Tells
  | [.agg (.cons (.int .i64 a) (.cons (.int .i64 b) (.cons (.int .i64 c) (.cons (.int .i64 d) .nl)))), .int .i64 x, .int .i64 y] => some ⟨[], ((AV.int IntKind.i64 (IntKind.i64.wrap (a + x))).cons ((AV.int IntKind.i64 (IntKind.i64.wrap (b + y))).cons ((AV.int IntKind.i64 (IntKind.i64.wrap (c + x))).cons ((AV.int IntKind.i64 (IntKind.i64.wrap (d + y))).cons AV.nl)))).agg, []⟩
  | _ => none
theorem f37_run (R : AV → List Ob → Prop) (a b c d x y : Int) : fnA tab (envOf consR0) Try.f37 (bodyOf Try.f37) [.agg (.cons (.int .i64 a) (.cons (.int .i64 b) (.cons (.int .i64 c) (.cons (.int .i64 d) .nl)))), .int .i64 x, .int .i64 y] R = ((0 : Int) ≤ 0 ∧ (0 : Int) < 4 ∧ (0 : Int) ≤ 1 ∧ (1 : Int) < 4 ∧ (0 : Int) ≤ 2 ∧ (2 : Int) < 4 ∧ (0 : Int) ≤ 3 ∧ (3 : Int) < 4 ∧ R ((AV.int IntKind.i64 (IntKind.i64.wrap (a + x))).cons ((AV.int IntKind.i64 (IntKind.i64.wrap (b + y))).cons ((AV.int IntKind.i64 (IntKind.i64.wrap (c + x))).cons ((AV.int IntKind.i64 (IntKind.i64.wrap (d + y))).cons AV.nl)))).agg []) := by kernel_rfl
theorem ok37 : ConOk Try.prog (37, con37) := by
  intro args t h hp
  simp only [con37] at h
  split at h
  · cases h
    refine fn_ok envR0 tab_ok mixed Try.func37 (by kernel_rfl) (by kernel_rfl) ?_
    rw [f37_run]
    exact ⟨by decide, ⟨by decide, ⟨by decide, ⟨by decide, ⟨by decide, ⟨by decide, ⟨by decide, ⟨by decide, ⟨rfl, rfl⟩⟩⟩⟩⟩⟩⟩⟩⟩
  · cases h
def con38 : List AV → Option Tells
  | [.agg (.cons (.int .i64 a) (.cons (.int .i64 b) (.cons (.int .i64 c) (.cons (.int .i64 d) .nl)))), .agg (.cons (.int .i64 x) (.cons (.int .i64 y) (.cons (.int .i64 z) (.cons (.int .i64 t) .nl))))] => some ⟨[], ((AV.int IntKind.i64 (IntKind.i64.wrap (a - t))).cons ((AV.int IntKind.i64 (IntKind.i64.wrap (b - x))).cons ((AV.int IntKind.i64 (IntKind.i64.wrap (c + y))).cons ((AV.int IntKind.i64 (IntKind.i64.wrap (d + z))).cons AV.nl)))).agg, []⟩
  | _ => none
theorem f38_run (R : AV → List Ob → Prop) (a b c d x y z t : Int) : fnA tab (envOf consR0) Try.f38 (bodyOf Try.f38) [.agg (.cons (.int .i64 a) (.cons (.int .i64 b) (.cons (.int .i64 c) (.cons (.int .i64 d) .nl)))), .agg (.cons (.int .i64 x) (.cons (.int .i64 y) (.cons (.int .i64 z) (.cons (.int .i64 t) .nl))))] R = ((0 : Int) ≤ 3 ∧ (3 : Int) < 4 ∧ (0 : Int) ≤ 0 ∧ (0 : Int) < 4 ∧ (0 : Int) ≤ 1 ∧ (1 : Int) < 4 ∧ (0 : Int) ≤ 2 ∧ (2 : Int) < 4 ∧ R ((AV.int IntKind.i64 (IntKind.i64.wrap (a - t))).cons ((AV.int IntKind.i64 (IntKind.i64.wrap (b - x))).cons ((AV.int IntKind.i64 (IntKind.i64.wrap (c + y))).cons ((AV.int IntKind.i64 (IntKind.i64.wrap (d + z))).cons AV.nl)))).agg []) := by kernel_rfl
theorem ok38 : ConOk Try.prog (38, con38) := by
  intro args t h hp
  simp only [con38] at h
  split at h
  · cases h
    refine fn_ok envR0 tab_ok mixed Try.func38 (by kernel_rfl) (by kernel_rfl) ?_
    rw [f38_run]
    exact ⟨by decide, ⟨by decide, ⟨by decide, ⟨by decide, ⟨by decide, ⟨by decide, ⟨by decide, ⟨by decide, ⟨rfl, rfl⟩⟩⟩⟩⟩⟩⟩⟩⟩
  · cases h
def con39 : List AV → Option Tells
  | [.agg (.cons (.int .i64 a) (.cons (.int .i64 b) (.cons (.int .i64 c) (.cons (.int .i64 d) .nl)))), .agg (.cons (.int .i64 x) (.cons (.int .i64 y) (.cons (.int .i64 z) (.cons (.int .i64 t) .nl))))] => some ⟨[], ((AV.int IntKind.i64 (IntKind.i64.wrap (a - t))).cons ((AV.int IntKind.i64 (IntKind.i64.wrap (b - x))).cons ((AV.int IntKind.i64 (IntKind.i64.wrap (c + y))).cons ((AV.int IntKind.i64 (IntKind.i64.wrap (d + z))).cons AV.nl)))).agg, []⟩
  | _ => none
theorem f39_run (R : AV → List Ob → Prop) (a b c d x y z t : Int) : fnA tab (envOf consR0) Try.f39 (bodyOf Try.f39) [.agg (.cons (.int .i64 a) (.cons (.int .i64 b) (.cons (.int .i64 c) (.cons (.int .i64 d) .nl)))), .agg (.cons (.int .i64 x) (.cons (.int .i64 y) (.cons (.int .i64 z) (.cons (.int .i64 t) .nl))))] R = ((0 : Int) ≤ 0 ∧ (0 : Int) < 4 ∧ (0 : Int) ≤ 3 ∧ (3 : Int) < 4 ∧ (0 : Int) ≤ 1 ∧ (1 : Int) < 4 ∧ (0 : Int) ≤ 0 ∧ (0 : Int) < 4 ∧ (0 : Int) ≤ 2 ∧ (2 : Int) < 4 ∧ (0 : Int) ≤ 1 ∧ (1 : Int) < 4 ∧ (0 : Int) ≤ 3 ∧ (3 : Int) < 4 ∧ (0 : Int) ≤ 2 ∧ (2 : Int) < 4 ∧ R ((AV.int IntKind.i64 (IntKind.i64.wrap (a - t))).cons ((AV.int IntKind.i64 (IntKind.i64.wrap (b - x))).cons ((AV.int IntKind.i64 (IntKind.i64.wrap (c + y))).cons ((AV.int IntKind.i64 (IntKind.i64.wrap (d + z))).cons AV.nl)))).agg []) := by kernel_rfl
theorem ok39 : ConOk Try.prog (39, con39) := by
  intro args t h hp
  simp only [con39] at h
  split at h
  · cases h
    refine fn_ok envR0 tab_ok mixed Try.func39 (by kernel_rfl) (by kernel_rfl) ?_
    rw [f39_run]
    exact ⟨by decide, ⟨by decide, ⟨by decide, ⟨by decide, ⟨by decide, ⟨by decide, ⟨by decide, ⟨by decide, ⟨by decide, ⟨by decide, ⟨by decide, ⟨by decide, ⟨by decide, ⟨by decide, ⟨by decide, ⟨by decide, ⟨rfl, rfl⟩⟩⟩⟩⟩⟩⟩⟩⟩⟩⟩⟩⟩⟩⟩⟩⟩
  · cases h
def con29 : List AV → Option Tells
  | [.agg (.cons (.int .i64 a) (.cons (.int .i64 b) (.cons (.int .i64 c) (.cons (.int .i64 d) .nl))))] => some ⟨[], ((AV.int IntKind.i64 a).cons ((AV.int IntKind.i64 b).cons ((AV.int IntKind.i64 c).cons ((AV.int IntKind.i64 d).cons AV.nl)))).agg, []⟩
  | _ => none
theorem f29_run (R : AV → List Ob → Prop) (a b c d : Int) : fnA tab (envOf consR0) Try.f29 (bodyOf Try.f29) [.agg (.cons (.int .i64 a) (.cons (.int .i64 b) (.cons (.int .i64 c) (.cons (.int .i64 d) .nl))))] R = ((0 : Int) ≤ 0 ∧ (0 : Int) < 4 ∧ (0 : Int) ≤ 1 ∧ (1 : Int) < 4 ∧ (0 : Int) ≤ 2 ∧ (2 : Int) < 4 ∧ (0 : Int) ≤ 3 ∧ (3 : Int) < 4 ∧ R ((AV.int IntKind.i64 a).cons ((AV.int IntKind.i64 b).cons ((AV.int IntKind.i64 c).cons ((AV.int IntKind.i64 d).cons AV.nl)))).agg []) := by kernel_rfl
theorem ok29 : ConOk Try.prog (29, con29) := by
  intro args t h hp
  simp only [con29] at h
  split at h
  · cases h
    refine fn_ok envR0 tab_ok mixed Try.func29 (by kernel_rfl) (by kernel_rfl) ?_
    rw [f29_run]
    exact ⟨by decide, ⟨by decide, ⟨by decide, ⟨by decide, ⟨by decide, ⟨by decide, ⟨by decide, ⟨by decide, ⟨rfl, rfl⟩⟩⟩⟩⟩⟩⟩⟩⟩
  · cases h
def con31 : List AV → Option Tells
  | [.agg (.cons (.int .i64 a) (.cons (.int .i64 b) (.cons (.int .i64 c) (.cons (.int .i64 d) .nl))))] => some ⟨[], .bool (fullB a b c d), []⟩
  | _ => none
theorem f31_run (R : AV → List Ob → Prop) (a b c d : Int) : fnA tab (envOf consR0) Try.f31 (bodyOf Try.f31) [.agg (.cons (.int .i64 a) (.cons (.int .i64 b) (.cons (.int .i64 c) (.cons (.int .i64 d) .nl))))] R = ((0 : Int) ≤ 2 ∧ (2 : Int) < 4 ∧ (0 : Int) ≤ 0 ∧ (0 : Int) < 4 ∧ bif decide (c > a) then (0 : Int) ≤ 3 ∧ (3 : Int) < 4 ∧ (0 : Int) ≤ 1 ∧ (1 : Int) < 4 ∧ R (AV.bool (decide (d > b))) [] else R (AV.bool false) []) := by kernel_rfl
theorem ok31 : ConOk Try.prog (31, con31) := by
  intro args t h hp
  simp only [con31] at h
  split at h
  · rename_i a b c d
    cases h
    refine fn_ok envR0 tab_ok mixed Try.func31 (by kernel_rfl) (by kernel_rfl) ?_
    rw [f31_run]
    dsimp only
    (repeat' first | refine dec_split (fun _ => ?_) (fun _ => ?_) | refine ndec_split (fun _ => ?_) (fun _ => ?_) | refine cond_split (fun _ => ?_) (fun _ => ?_) | refine dec_and rfl ?_) <;> exact ⟨by congr 1; (simp_all [fullB] <;> intros <;> omega), rfl⟩
  · cases h
def small (xs : List Int) : Bool := xs.all fun x => decide (-1152921504606846976 ≤ x) && decide (x ≤ 1152921504606846976)
def con16 : List AV → Option Tells
  | [.list 3 (.int .i64) xs] => some ⟨[xs.length ≤ maxLen], .bool (small xs), []⟩
  | _ => none
def f16_live1 : List Nat := [3, 0, 0, 3, 0, 3, 3, 2]
def f16_head1 (xs : List Int) (s3 : Int) : St := { slots := [AV.list 3 (Ty.int IntKind.i64) xs, AV.undef, AV.bool false, AV.int IntKind.i64 s3] ++ List.replicate 18 AV.undef, obs := [] }
def f16_q1 (R : AV → List Ob → Prop) : Ex → St → Prop := blockA 0 (seqQ tab (envOf consR0) (subC [1, 1] (bodyOf Try.f16)) [2] (endA tab Try.f16 R))
def f16_loop1 (R : AV → List Ob → Prop) (xs : List Int) (s3 : Int) : Prop := loopT f16_live1 (codeA tab (envOf consR0) (subC [1, 0, 1, 0, 0] (bodyOf Try.f16)) f16_live1) (f16_head1 xs s3) (f16_q1 R)
def f16_rhs1 (R : AV → List Ob → Prop) (xs : List Int) (J : St → Prop) (s3 : Int) : Prop := bif decide (s3 < (↑xs.length : Int)) then 0 ≤ s3 ∧ s3 < (↑xs.length : Int) ∧ bif !decide (xs.getD s3.toNat (Ty.int IntKind.i64).zero < -1152921504606846976) then 0 ≤ s3 ∧ s3 < (↑xs.length : Int) ∧ bif decide (xs.getD s3.toNat (Ty.int IntKind.i64).zero > 1152921504606846976) then R (AV.bool false) [] else J (f16_head1 xs (IntKind.i64.wrap (s3 + 1))) else R (AV.bool false) [] else R (AV.bool true) []
theorem f16_eq1 (R : AV → List Ob → Prop) (xs : List Int) (J : St → Prop) (s3 : Int) : codeA tab (envOf consR0) (subC [1, 0, 1, 0, 0] (bodyOf Try.f16)) f16_live1 (f16_head1 xs s3) (thenA (fun s => J (St.tidy f16_live1 s)) (f16_q1 R)) = f16_rhs1 R xs J s3 := by kernel_rfl
theorem f16_rule1 (R : AV → List Ob → Prop) (xs : List Int) (I : Nat → (Int) → Prop) (n : Nat) (s3 : Int) (h0 : I n s3) (h : ∀ n, ∀ (s3 : Int), I n s3 → f16_rhs1 R xs (fun t => ∃ m, m < n ∧ ∃ (s3 : Int), t = f16_head1 xs s3 ∧ I m s3) s3) : f16_loop1 R xs s3 :=
  loop_intro (fun n t => ∃ (s3 : Int), t = f16_head1 xs s3 ∧ I n s3) n ⟨s3, rfl, h0⟩ (fun n t ht => by obtain ⟨s3, rfl, hI⟩ := ht; exact Eq.mpr (f16_eq1 R xs (fun t => ∃ m, m < n ∧ ∃ (s3 : Int), t = f16_head1 xs s3 ∧ I m s3) s3) (h n s3 hI))
theorem f16_run (R : AV → List Ob → Prop) (xs : List Int) : fnA tab (envOf consR0) Try.f16 (bodyOf Try.f16) [.list 3 (.int .i64) xs] R = (f16_loop1 R xs 0) := by kernel_rfl
theorem ok16 : ConOk Try.prog (16, con16) := by
  intro args t h hp
  simp only [con16] at h
  split at h
  · rename_i xs
    change List Int at xs
    cases h
    refine fn_ok envR0 tab_ok mixed Try.func16 (by kernel_rfl) (by kernel_rfl) ?_
    rw [f16_run]
    dsimp only
    have hm := hp (xs.length ≤ maxLen) (by simp)
    refine f16_rule1 _ xs (fun n i => ∃ k : Nat, k ≤ xs.length ∧ n = xs.length - k ∧ i = k ∧ small (xs.take k) = true) xs.length 0 ⟨0, by omega, by simp, rfl, by simp [small]⟩ ?_
    rintro n i ⟨k, hk, rfl, rfl, hs⟩
    unfold f16_rhs1
    refine dec_split (fun hlt => ⟨by omega, hlt, ?_⟩) (fun hlt => ?_)
    · have hlt' : k < xs.length := by omega
      have hbad : (xs[k] < -1152921504606846976 ∨ xs[k] > 1152921504606846976) → small xs = false := by
        intro h
        rw [Bool.eq_false_iff]
        intro h2
        have := List.all_eq_true.1 h2 xs[k] (List.getElem_mem hlt')
        simp at this
        omega
      rw [getD_nat xs _ k hlt']
      refine ndec_split (fun h1 => ⟨by omega, hlt, dec_split (fun h2 => ⟨by rw [hbad (.inr h2)], rfl⟩) (fun h2 => ?_)⟩) (fun h1 => ⟨by rw [hbad (.inl h1)], rfl⟩)
      rw [wrap_next k _ hlt' hm]
      refine ⟨xs.length - (k + 1), by omega, _, rfl, k + 1, by omega, rfl, rfl, ?_⟩
      rw [take_next xs k hlt', small, List.all_append, Bool.and_eq_true]
      refine ⟨hs, ?_⟩
      simp
      omega
    · rw [take_all xs k (by omega)] at hs
      exact ⟨by rw [hs], rfl⟩
  · cases h
def consR1 : Cons := (56, con56) :: (57, con57) :: (61, con61) :: (60, con60) :: (41, con41) :: (42, con42) :: (40, con40) :: (58, con58) :: (36, con36) :: (37, con37) :: (38, con38) :: (39, con39) :: (29, con29) :: (31, con31) :: (16, con16) :: []
theorem allR1 : ∀ c ∈ consR1, ConOk Try.prog c := all_cons ok56 (all_cons ok57 (all_cons ok61 (all_cons ok60 (all_cons ok41 (all_cons ok42 (all_cons ok40 (all_cons ok58 (all_cons ok36 (all_cons ok37 (all_cons ok38 (all_cons ok39 (all_cons ok29 (all_cons ok31 (all_cons ok16 all_nil))))))))))))))
theorem envR1 : EnvOk Try.prog (envOf consR1) := envOf_ok _ allR1
def con59 : List AV → Option Tells
  | [.fn (.func 60) .nl .nl, .agg (.cons (.int .i64 a) (.cons (.int .i64 b) (.cons (.int .i64 c) (.cons (.int .i64 d) .nl)))), .agg (.cons (.int .i64 x) (.cons (.int .i64 y) (.cons (.int .i64 z) (.cons (.int .i64 t) .nl))))] => some ⟨[], ((AV.int IntKind.i64 (max a x)).cons ((AV.int IntKind.i64 (max b y)).cons ((AV.int IntKind.i64 (min c z)).cons ((AV.int IntKind.i64 (min d t)).cons AV.nl)))).agg, []⟩
  | _ => none
theorem f59_run (R : AV → List Ob → Prop) (a b c d x y z t : Int) : fnA tab (envOf consR1) Try.f59 (bodyOf Try.f59) [.fn (.func 60) .nl .nl, .agg (.cons (.int .i64 a) (.cons (.int .i64 b) (.cons (.int .i64 c) (.cons (.int .i64 d) .nl)))), .agg (.cons (.int .i64 x) (.cons (.int .i64 y) (.cons (.int .i64 z) (.cons (.int .i64 t) .nl))))] R = (R ((AV.int IntKind.i64 (max a x)).cons ((AV.int IntKind.i64 (max b y)).cons ((AV.int IntKind.i64 (min c z)).cons ((AV.int IntKind.i64 (min d t)).cons AV.nl)))).agg []) := by kernel_rfl
theorem ok59 : ConOk Try.prog (59, con59) := by
  intro args t h hp
  simp only [con59] at h
  split at h
  · cases h
    refine fn_ok envR1 tab_ok mixed Try.func59 (by kernel_rfl) (by kernel_rfl) ?_
    rw [f59_run]
    exact ⟨rfl, rfl⟩
  · cases h
def con30 : List AV → Option Tells
  | [.agg (.cons (.int .i64 a) (.cons (.int .i64 b) (.cons (.int .i64 c) (.cons (.int .i64 d) .nl))))] => some ⟨[], .bool (fullW a b c d), []⟩
  | _ => none
theorem f30_run (R : AV → List Ob → Prop) (a b c d : Int) : fnA tab (envOf consR1) Try.f30 (bodyOf Try.f30) [.agg (.cons (.int .i64 a) (.cons (.int .i64 b) (.cons (.int .i64 c) (.cons (.int .i64 d) .nl))))] R = (bif decide (IntKind.i64.wrap (c - a) > 0) then R (AV.bool (decide (IntKind.i64.wrap (d - b) > 0))) [] else R (AV.bool false) []) := by kernel_rfl
theorem ok30 : ConOk Try.prog (30, con30) := by
  intro args t h hp
  simp only [con30] at h
  split at h
  · rename_i a b c d
    cases h
    refine fn_ok envR1 tab_ok mixed Try.func30 (by kernel_rfl) (by kernel_rfl) ?_
    rw [f30_run]
    dsimp only
    (repeat' first | refine dec_split (fun _ => ?_) (fun _ => ?_) | refine ndec_split (fun _ => ?_) (fun _ => ?_) | refine cond_split (fun _ => ?_) (fun _ => ?_) | refine dec_and rfl ?_) <;> exact ⟨by congr 1; (simp_all [fullW] <;> intros <;> omega), rfl⟩
  · cases h
def con33 : List AV → Option Tells
  | [.agg (.cons (.int .i64 a) (.cons (.int .i64 b) (.cons (.int .i64 c) (.cons (.int .i64 d) .nl)))), .agg (.cons (.int .i64 x) (.cons (.int .i64 y) (.cons (.int .i64 z) (.cons (.int .i64 t) .nl))))] => some ⟨[], .bool (hasB a b c d (max a x) (max b y) && hasB x y z t (max a x) (max b y)), []⟩
  | _ => none
theorem f33_run (R : AV → List Ob → Prop) (a b c d x y z t : Int) : fnA tab (envOf consR1) Try.f33 (bodyOf Try.f33) [.agg (.cons (.int .i64 a) (.cons (.int .i64 b) (.cons (.int .i64 c) (.cons (.int .i64 d) .nl)))), .agg (.cons (.int .i64 x) (.cons (.int .i64 y) (.cons (.int .i64 z) (.cons (.int .i64 t) .nl))))] R = ((0 : Int) ≤ 0 ∧ (0 : Int) < 4 ∧ (0 : Int) ≤ 0 ∧ (0 : Int) < 4 ∧ (0 : Int) ≤ 1 ∧ (1 : Int) < 4 ∧ (0 : Int) ≤ 1 ∧ (1 : Int) < 4 ∧ bif hasB a b c d (max a x) (max b y) then R (AV.bool (hasB x y z t (max a x) (max b y))) [] else R (AV.bool false) []) := by kernel_rfl
theorem ok33 : ConOk Try.prog (33, con33) := by
  intro args t h hp
  simp only [con33] at h
  split at h
  · rename_i a b c d x y z t
    cases h
    refine fn_ok envR1 tab_ok mixed Try.func33 (by kernel_rfl) (by kernel_rfl) ?_
    rw [f33_run]
    dsimp only
    (repeat' first | refine dec_split (fun _ => ?_) (fun _ => ?_) | refine ndec_split (fun _ => ?_) (fun _ => ?_) | refine cond_split (fun _ => ?_) (fun _ => ?_) | refine dec_and rfl ?_) <;> exact ⟨by congr 1; simp_all, rfl⟩
  · cases h
def con35 : List AV → Option Tells
  | [.agg (.cons (.int .i64 a) (.cons (.int .i64 b) (.cons (.int .i64 c) (.cons (.int .i64 d) .nl)))), .agg (.cons (.int .i64 x) (.cons (.int .i64 y) (.cons (.int .i64 z) (.cons (.int .i64 t) .nl))))] => some ⟨[], ((AV.int IntKind.i64 (max a x)).cons ((AV.int IntKind.i64 (max b y)).cons ((AV.int IntKind.i64 (min c z)).cons ((AV.int IntKind.i64 (min d t)).cons AV.nl)))).agg, []⟩
  | _ => none
theorem f35_run (R : AV → List Ob → Prop) (a b c d x y z t : Int) : fnA tab (envOf consR1) Try.f35 (bodyOf Try.f35) [.agg (.cons (.int .i64 a) (.cons (.int .i64 b) (.cons (.int .i64 c) (.cons (.int .i64 d) .nl)))), .agg (.cons (.int .i64 x) (.cons (.int .i64 y) (.cons (.int .i64 z) (.cons (.int .i64 t) .nl))))] R = ((0 : Int) ≤ 0 ∧ (0 : Int) < 4 ∧ (0 : Int) ≤ 0 ∧ (0 : Int) < 4 ∧ (0 : Int) ≤ 1 ∧ (1 : Int) < 4 ∧ (0 : Int) ≤ 1 ∧ (1 : Int) < 4 ∧ (0 : Int) ≤ 2 ∧ (2 : Int) < 4 ∧ (0 : Int) ≤ 2 ∧ (2 : Int) < 4 ∧ (0 : Int) ≤ 3 ∧ (3 : Int) < 4 ∧ (0 : Int) ≤ 3 ∧ (3 : Int) < 4 ∧ R ((AV.int IntKind.i64 (max a x)).cons ((AV.int IntKind.i64 (max b y)).cons ((AV.int IntKind.i64 (min c z)).cons ((AV.int IntKind.i64 (min d t)).cons AV.nl)))).agg []) := by kernel_rfl
theorem ok35 : ConOk Try.prog (35, con35) := by
  intro args t h hp
  simp only [con35] at h
  split at h
  · cases h
    refine fn_ok envR1 tab_ok mixed Try.func35 (by kernel_rfl) (by kernel_rfl) ?_
    rw [f35_run]
    exact ⟨by decide, ⟨by decide, ⟨by decide, ⟨by decide, ⟨by decide, ⟨by decide, ⟨by decide, ⟨by decide, ⟨by decide, ⟨by decide, ⟨by decide, ⟨by decide, ⟨by decide, ⟨by decide, ⟨by decide, ⟨by decide, ⟨rfl, rfl⟩⟩⟩⟩⟩⟩⟩⟩⟩⟩⟩⟩⟩⟩⟩⟩⟩
  · cases h
def consR2 : Cons := (59, con59) :: (30, con30) :: (33, con33) :: (35, con35) :: consR1
theorem allR2 : ∀ c ∈ consR2, ConOk Try.prog c := all_cons ok59 (all_cons ok30 (all_cons ok33 (all_cons ok35 allR1)))
theorem envR2 : EnvOk Try.prog (envOf consR2) := envOf_ok _ allR2
def con34 : List AV → Option Tells
  | [.agg (.cons (.int .i64 a) (.cons (.int .i64 b) (.cons (.int .i64 c) (.cons (.int .i64 d) .nl)))), .agg (.cons (.int .i64 x) (.cons (.int .i64 y) (.cons (.int .i64 z) (.cons (.int .i64 t) .nl))))] => some ⟨[], ((AV.int IntKind.i64 (max a x)).cons ((AV.int IntKind.i64 (max b y)).cons ((AV.int IntKind.i64 (min c z)).cons ((AV.int IntKind.i64 (min d t)).cons AV.nl)))).agg, []⟩
  | _ => none
theorem f34_run (R : AV → List Ob → Prop) (a b c d x y z t : Int) : fnA tab (envOf consR2) Try.f34 (bodyOf Try.f34) [.agg (.cons (.int .i64 a) (.cons (.int .i64 b) (.cons (.int .i64 c) (.cons (.int .i64 d) .nl)))), .agg (.cons (.int .i64 x) (.cons (.int .i64 y) (.cons (.int .i64 z) (.cons (.int .i64 t) .nl))))] R = (R ((AV.int IntKind.i64 (max a x)).cons ((AV.int IntKind.i64 (max b y)).cons ((AV.int IntKind.i64 (min c z)).cons ((AV.int IntKind.i64 (min d t)).cons AV.nl)))).agg []) := by kernel_rfl
theorem ok34 : ConOk Try.prog (34, con34) := by
  intro args t h hp
  simp only [con34] at h
  split at h
  · cases h
    refine fn_ok envR2 tab_ok mixed Try.func34 (by kernel_rfl) (by kernel_rfl) ?_
    rw [f34_run]
    exact ⟨rfl, rfl⟩
  · cases h
def consR3 : Cons := (34, con34) :: consR2
theorem allR3 : ∀ c ∈ consR3, ConOk Try.prog c := all_cons ok34 allR2
theorem envR3 : EnvOk Try.prog (envOf consR3) := envOf_ok _ allR3
def con32 : List AV → Option Tells
  | [.agg (.cons (.int .i64 a) (.cons (.int .i64 b) (.cons (.int .i64 c) (.cons (.int .i64 d) .nl)))), .agg (.cons (.int .i64 x) (.cons (.int .i64 y) (.cons (.int .i64 z) (.cons (.int .i64 t) .nl))))] => some ⟨[], AV.bool (fullW (max a x) (max b y) (min c z) (min d t)), []⟩
  | _ => none
theorem f32_run (R : AV → List Ob → Prop) (a b c d x y z t : Int) : fnA tab (envOf consR3) Try.f32 (bodyOf Try.f32) [.agg (.cons (.int .i64 a) (.cons (.int .i64 b) (.cons (.int .i64 c) (.cons (.int .i64 d) .nl)))), .agg (.cons (.int .i64 x) (.cons (.int .i64 y) (.cons (.int .i64 z) (.cons (.int .i64 t) .nl))))] R = (R (AV.bool (fullW (max a x) (max b y) (min c z) (min d t))) []) := by kernel_rfl
theorem ok32 : ConOk Try.prog (32, con32) := by
  intro args t h hp
  simp only [con32] at h
  split at h
  · cases h
    refine fn_ok envR3 tab_ok mixed Try.func32 (by kernel_rfl) (by kernel_rfl) ?_
    rw [f32_run]
    exact ⟨rfl, rfl⟩
  · cases h
def consR4 : Cons := (32, con32) :: consR3
theorem allR4 : ∀ c ∈ consR4, ConOk Try.prog c := all_cons ok32 allR3
theorem envR4 : EnvOk Try.prog (envOf consR4) := envOf_ok _ allR4
def con28 : List AV → Option Tells
  | [] => some ⟨[], AV.bool true, []⟩
  | _ => none
theorem f28_run (R : AV → List Ob → Prop)  : fnA tab (envOf consR4) Try.f28 (bodyOf Try.f28) [] R = (R (AV.bool true) []) := by kernel_rfl
theorem ok28 : ConOk Try.prog (28, con28) := by
  intro args t h hp
  simp only [con28] at h
  split at h
  · cases h
    refine fn_ok envR4 tab_ok mixed Try.func28 (by kernel_rfl) (by kernel_rfl) ?_
    rw [f28_run]
    exact ⟨rfl, rfl⟩
  · cases h
def consR5 : Cons := (28, con28) :: consR4
theorem allR5 : ∀ c ∈ consR5, ConOk Try.prog c := all_cons ok28 allR4
theorem envR5 : EnvOk Try.prog (envOf consR5) := envOf_ok _ allR5

end Go.Proofs.Ytpojdmikpodoaaa.W
