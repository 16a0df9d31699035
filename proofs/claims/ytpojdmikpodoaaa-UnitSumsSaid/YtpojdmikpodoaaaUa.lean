/- The functions of layer 1 (unit) and of its reference, and what they come to. -/
import Derived.Test.YtpojdmikpodoaaaWa
import Derived.Test.YtpojdmikpodoaaaAwZ
import Derived.KernelRfl
namespace Go.Proofs.Ytpojdmikpodoaaa.W
open Go Go.Proofs Go.Proofs.Ytpojdmikpodoaaa.Aw
def may (n : Int) : Bool := decide (-281474976710656 < n) && decide (n < 281474976710656)
def addO (a b : Int) : Option Int := bif may a && may b && may (a + b) then some (a + b) else none
def subO (a b : Int) : Option Int := bif may a && may b && may (a - b) then some (a - b) else none
def sumO (xs : List Int) : Option Int := xs.foldlM addO 0
abbrev optA (o : Option Int) : AV := .tuple (.cons (.int .i64 (o.getD 0)) (.cons (.bool o.isSome) .nl))
def con65 : List AV → Option Tells
  | [.int .i64 n] => some ⟨[], .bool (may n), []⟩
  | _ => none
def con62 : List AV → Option Tells
  | [.int .i64 n] => some ⟨[], .bool (may n), []⟩
  | _ => none
def consU0 : Cons := []
theorem envU0 : EnvOk Try.prog (envOf consU0) := envOk_nil
theorem f65_run (R : AV → List Ob → Prop) (n : Int) : fnA tab (envOf consU0) Try.f65 (bodyOf Try.f65) [.int .i64 n] R = (bif decide (n > -281474976710656) then R (AV.bool (decide (n < 281474976710656))) [] else R (AV.bool false) []) := by kernel_rfl
theorem f62_run (R : AV → List Ob → Prop) (n : Int) : fnA tab (envOf consU0) Try.f62 (bodyOf Try.f62) [.int .i64 n] R = (bif decide (n ≥ -281474976710655) then R (AV.bool (decide (n ≤ 281474976710655))) [] else R (AV.bool false) []) := by kernel_rfl
theorem may_iff (n : Int) : may n = true ↔ -281474976710656 < n ∧ n < 281474976710656 := by simp [may]
theorem ok65 : ConOk Try.prog (65, con65) := by
  intro args t h hp
  simp only [con65] at h
  split at h
  · rename_i n
    cases h
    refine fn_ok envU0 tab_ok mixed Try.func65 (by kernel_rfl) (by kernel_rfl) ?_
    rw [f65_run]
    refine dec_split (fun h => ⟨?_, rfl⟩) (fun h => ⟨?_, rfl⟩) <;> simp [may]
    · intro _; omega
    · intro _; omega
  · cases h
theorem ok62 : ConOk Try.prog (62, con62) := by
  intro args t h hp
  simp only [con62] at h
  split at h
  · rename_i n
    cases h
    refine fn_ok envU0 tab_ok mixed Try.func62 (by kernel_rfl) (by kernel_rfl) ?_
    rw [f62_run]
    refine dec_split (fun h => ⟨?_, rfl⟩) (fun h => ⟨?_, rfl⟩)
    · show AV.bool _ = AV.bool (may n)
      congr 1
      rw [Bool.eq_iff_iff, may_iff]
      simp
      omega
    · show AV.bool _ = AV.bool (may n)
      congr 1
      rw [Bool.eq_iff_iff, may_iff]
      simp
      omega
  · cases h
def con54 : List AV → Option Tells
  | [.int .i64 a, .int .i64 b] => some ⟨[], AV.int IntKind.i64 (IntKind.i64.wrap (a + b)), []⟩
  | _ => none
theorem f54_run (R : AV → List Ob → Prop) (a b : Int) : fnA tab (envOf consU0) Try.f54 (bodyOf Try.f54) [.int .i64 a, .int .i64 b] R = (R (AV.int IntKind.i64 (IntKind.i64.wrap (a + b))) []) := by kernel_rfl
theorem ok54 : ConOk Try.prog (54, con54) := by
  intro args t h hp
  simp only [con54] at h
  split at h
  · cases h
    refine fn_ok envU0 tab_ok mixed Try.func54 (by kernel_rfl) (by kernel_rfl) ?_
    rw [f54_run]
    exact ⟨rfl, rfl⟩
  · cases h
def con55 : List AV → Option Tells
  | [.int .i64 a, .int .i64 b] => some ⟨[], AV.int IntKind.i64 (IntKind.i64.wrap (a - b)), []⟩
  | _ => none
theorem f55_run (R : AV → List Ob → Prop) (a b : Int) : fnA tab (envOf consU0) Try.f55 (bodyOf Try.f55) [.int .i64 a, .int .i64 b] R = (R (AV.int IntKind.i64 (IntKind.i64.wrap (a - b))) []) := by kernel_rfl
theorem ok55 : ConOk Try.prog (55, con55) := by
  intro args t h hp
  simp only [con55] at h
  split at h
  · cases h
    refine fn_ok envU0 tab_ok mixed Try.func55 (by kernel_rfl) (by kernel_rfl) ?_
    rw [f55_run]
    exact ⟨rfl, rfl⟩
  · cases h
def consU1 : Cons := [(65, con65), (62, con62), (54, con54), (55, con55)]
theorem allU1 : ∀ c ∈ consU1, ConOk Try.prog c := all_cons ok65 (all_cons ok62 (all_cons ok54 (all_cons ok55 all_nil)))
theorem envU1 : EnvOk Try.prog (envOf consU1) := envOf_ok _ allU1
def con53 : List AV → Option Tells
  | [.int .i64 a, .int .i64 b, .fn (.func 54) .nl .nl] => some ⟨[], optA (addO a b), []⟩
  | [.int .i64 a, .int .i64 b, .fn (.func 55) .nl .nl] => some ⟨[], optA (subO a b), []⟩
  | _ => none
def con44 : List AV → Option Tells
  | [.int .i64 a, .int .i64 b] => some ⟨[], optA (addO a b), []⟩
  | _ => none
def con45 : List AV → Option Tells
  | [.int .i64 a, .int .i64 b] => some ⟨[], optA (subO a b), []⟩
  | _ => none
theorem f53a_run (R : AV → List Ob → Prop) (a b : Int) : fnA tab (envOf consU1) Try.f53 (bodyOf Try.f53) [.int .i64 a, .int .i64 b, .fn (.func 54) .nl .nl] R = (bif !!may a then
  bif !may b then R ((AV.int IntKind.i64 0).cons ((AV.bool false).cons AV.nl)).tuple []
  else
    bif may (IntKind.i64.wrap (a + b)) then
      R ((AV.int IntKind.i64 (IntKind.i64.wrap (a + b))).cons ((AV.bool true).cons AV.nl)).tuple []
    else R ((AV.int IntKind.i64 0).cons ((AV.bool false).cons AV.nl)).tuple []
else R ((AV.int IntKind.i64 0).cons ((AV.bool false).cons AV.nl)).tuple []) := by kernel_rfl
theorem f53b_run (R : AV → List Ob → Prop) (a b : Int) : fnA tab (envOf consU1) Try.f53 (bodyOf Try.f53) [.int .i64 a, .int .i64 b, .fn (.func 55) .nl .nl] R = (bif !!may a then
  bif !may b then R ((AV.int IntKind.i64 0).cons ((AV.bool false).cons AV.nl)).tuple []
  else
    bif may (IntKind.i64.wrap (a - b)) then
      R ((AV.int IntKind.i64 (IntKind.i64.wrap (a - b))).cons ((AV.bool true).cons AV.nl)).tuple []
    else R ((AV.int IntKind.i64 0).cons ((AV.bool false).cons AV.nl)).tuple []
else R ((AV.int IntKind.i64 0).cons ((AV.bool false).cons AV.nl)).tuple []) := by kernel_rfl
theorem f44_run (R : AV → List Ob → Prop) (a b : Int) : fnA tab (envOf consU1) Try.f44 (bodyOf Try.f44) [.int .i64 a, .int .i64 b] R = (bif may a then
  bif may b then
    bif may (IntKind.i64.wrap (a + b)) then
      R ((AV.int IntKind.i64 (IntKind.i64.wrap (a + b))).cons ((AV.bool true).cons AV.nl)).tuple []
    else R ((AV.int IntKind.i64 0).cons ((AV.bool false).cons AV.nl)).tuple []
  else R ((AV.int IntKind.i64 0).cons ((AV.bool false).cons AV.nl)).tuple []
else R ((AV.int IntKind.i64 0).cons ((AV.bool false).cons AV.nl)).tuple []) := by kernel_rfl
theorem f45_run (R : AV → List Ob → Prop) (a b : Int) : fnA tab (envOf consU1) Try.f45 (bodyOf Try.f45) [.int .i64 a, .int .i64 b] R = (bif may a then
  bif may b then
    bif may (IntKind.i64.wrap (a - b)) then
      R ((AV.int IntKind.i64 (IntKind.i64.wrap (a - b))).cons ((AV.bool true).cons AV.nl)).tuple []
    else R ((AV.int IntKind.i64 0).cons ((AV.bool false).cons AV.nl)).tuple []
  else R ((AV.int IntKind.i64 0).cons ((AV.bool false).cons AV.nl)).tuple []
else R ((AV.int IntKind.i64 0).cons ((AV.bool false).cons AV.nl)).tuple []) := by kernel_rfl
def consU2 : Cons := (53, con53) :: (44, con44) :: (45, con45) :: consU1
theorem may_wrap_add {a b : Int} (ha : may a = true) (hb : may b = true) : IntKind.wrap .i64 (a + b) = a + b := by
  rw [may_iff] at ha hb
  exact wrap_id _ (by omega)
theorem may_wrap_sub {a b : Int} (ha : may a = true) (hb : may b = true) : IntKind.wrap .i64 (a - b) = a - b := by
  rw [may_iff] at ha hb
  exact wrap_id _ (by omega)
theorem ok53 : ConOk Try.prog (53, con53) := by
  intro args t h hp
  simp only [con53] at h
  split at h
  · rename_i a b
    cases h
    refine fn_ok envU1 tab_ok mixed Try.func53 (by kernel_rfl) (by kernel_rfl) ?_
    rw [f53a_run]
    cases ha : may a with
    | false => exact ⟨by simp [addO, ha], rfl⟩
    | true =>
      cases hb : may b with
      | false => exact ⟨by simp [addO, ha, hb], rfl⟩
      | true =>
        rw [may_wrap_add ha hb]
        cases hs : may (a + b) with
        | false => exact ⟨by simp [addO, ha, hb, hs], rfl⟩
        | true => exact ⟨by simp [addO, ha, hb, hs], rfl⟩
  · rename_i a b
    cases h
    refine fn_ok envU1 tab_ok mixed Try.func53 (by kernel_rfl) (by kernel_rfl) ?_
    rw [f53b_run]
    cases ha : may a with
    | false => exact ⟨by simp [subO, ha], rfl⟩
    | true =>
      cases hb : may b with
      | false => exact ⟨by simp [subO, ha, hb], rfl⟩
      | true =>
        rw [may_wrap_sub ha hb]
        cases hs : may (a - b) with
        | false => exact ⟨by simp [subO, ha, hb, hs], rfl⟩
        | true => exact ⟨by simp [subO, ha, hb, hs], rfl⟩
  · cases h
theorem ok44 : ConOk Try.prog (44, con44) := by
  intro args t h hp
  simp only [con44] at h
  split at h
  · rename_i a b
    cases h
    refine fn_ok envU1 tab_ok mixed Try.func44 (by kernel_rfl) (by kernel_rfl) ?_
    rw [f44_run]
    cases ha : may a with
    | false => exact ⟨by simp [addO, ha], rfl⟩
    | true =>
      cases hb : may b with
      | false => exact ⟨by simp [addO, ha, hb], rfl⟩
      | true =>
        rw [may_wrap_add ha hb]
        cases hs : may (a + b) with
        | false => exact ⟨by simp [addO, ha, hb, hs], rfl⟩
        | true => exact ⟨by simp [addO, ha, hb, hs], rfl⟩
  · cases h
theorem ok45 : ConOk Try.prog (45, con45) := by
  intro args t h hp
  simp only [con45] at h
  split at h
  · rename_i a b
    cases h
    refine fn_ok envU1 tab_ok mixed Try.func45 (by kernel_rfl) (by kernel_rfl) ?_
    rw [f45_run]
    cases ha : may a with
    | false => exact ⟨by simp [subO, ha], rfl⟩
    | true =>
      cases hb : may b with
      | false => exact ⟨by simp [subO, ha, hb], rfl⟩
      | true =>
        rw [may_wrap_sub ha hb]
        cases hs : may (a - b) with
        | false => exact ⟨by simp [subO, ha, hb, hs], rfl⟩
        | true => exact ⟨by simp [subO, ha, hb, hs], rfl⟩
  · cases h
theorem allU2 : ∀ c ∈ consU2, ConOk Try.prog c := all_cons ok53 (all_cons ok44 (all_cons ok45 allU1))
theorem envU2 : EnvOk Try.prog (envOf consU2) := envOf_ok _ allU2
def con26 : List AV → Option Tells
  | [.int .i64 a, .int .i64 b] => some ⟨[], ((AV.int IntKind.i64 ((addO a b).getD 0)).cons ((AV.bool (addO a b).isSome).cons AV.nl)).tuple, []⟩
  | _ => none
theorem f26_run (R : AV → List Ob → Prop) (a b : Int) : fnA tab (envOf consU2) Try.f26 (bodyOf Try.f26) [.int .i64 a, .int .i64 b] R = (R ((AV.int IntKind.i64 ((addO a b).getD 0)).cons ((AV.bool (addO a b).isSome).cons AV.nl)).tuple []) := by kernel_rfl
theorem ok26 : ConOk Try.prog (26, con26) := by
  intro args t h hp
  simp only [con26] at h
  split at h
  · cases h
    refine fn_ok envU2 tab_ok mixed Try.func26 (by kernel_rfl) (by kernel_rfl) ?_
    rw [f26_run]
    exact ⟨rfl, rfl⟩
  · cases h
def con27 : List AV → Option Tells
  | [.int .i64 a, .int .i64 b] => some ⟨[], ((AV.int IntKind.i64 ((subO a b).getD 0)).cons ((AV.bool (subO a b).isSome).cons AV.nl)).tuple, []⟩
  | _ => none
theorem f27_run (R : AV → List Ob → Prop) (a b : Int) : fnA tab (envOf consU2) Try.f27 (bodyOf Try.f27) [.int .i64 a, .int .i64 b] R = (R ((AV.int IntKind.i64 ((subO a b).getD 0)).cons ((AV.bool (subO a b).isSome).cons AV.nl)).tuple []) := by kernel_rfl
theorem ok27 : ConOk Try.prog (27, con27) := by
  intro args t h hp
  simp only [con27] at h
  split at h
  · cases h
    refine fn_ok envU2 tab_ok mixed Try.func27 (by kernel_rfl) (by kernel_rfl) ?_
    rw [f27_run]
    exact ⟨rfl, rfl⟩
  · cases h
def con43 : List AV → Option Tells
  | [.list 3 (.int .i64) xs] => some ⟨[xs.length ≤ maxLen], optA (sumO xs), []⟩
  | _ => none
def con46 : List AV → Option Tells
  | [.list 3 (.int .i64) xs] => some ⟨[xs.length ≤ maxLen], optA (sumO xs), []⟩
  | _ => none
def consU3 : Cons := (26, con26) :: (27, con27) :: consU2
theorem allU3 : ∀ c ∈ consU3, ConOk Try.prog c := all_cons ok26 (all_cons ok27 allU2)
theorem envU3 : EnvOk Try.prog (envOf consU3) := envOf_ok _ allU3
def f43_live1 : List Nat := [10, 9, 8, 10, 4, 10, 4, 2, 3]
def f43_head1 (xs : List Int) (s4 : Int) (s10 : Int) : St := {
  slots :=
    [AV.undef, AV.undef, AV.int IntKind.i64 0, AV.bool false, AV.int IntKind.i64 s4, AV.undef, AV.undef, AV.undef,
        AV.list 3 (Ty.int IntKind.i64) xs, AV.int IntKind.i64 (↑xs.length : Int), AV.int IntKind.i64 s10] ++
      List.replicate 13 AV.undef,
  obs := [] }
def f43_q1 (R : AV → List Ob → Prop) : Ex → St → Prop := blockA 0 (seqQ tab (envOf consU3) (subC [1, 1, 1] (bodyOf Try.f43)) [2, 3] (endA tab Try.f43 R))
def f43_loop1 (R : AV → List Ob → Prop) (xs : List Int) (s4 : Int) (s10 : Int) : Prop := loopT f43_live1 (codeA tab (envOf consU3) (subC [1, 1, 0, 1, 0, 0] (bodyOf Try.f43)) f43_live1) (f43_head1 xs s4 s10)
  (f43_q1 R)
def f43_rhs1 (R : AV → List Ob → Prop) (xs : List Int) (J : St → Prop) (s4 : Int) (s10 : Int) : Prop := bif decide (s10 < (↑xs.length : Int)) then
  0 ≤ s10 ∧
    s10 < (↑xs.length : Int) ∧
      bif !(addO s4 (xs.getD s10.toNat 0)).isSome then
        R ((AV.int IntKind.i64 0).cons ((AV.bool false).cons AV.nl)).tuple []
      else J (f43_head1 xs ((addO s4 (xs.getD s10.toNat 0)).getD 0) (IntKind.i64.wrap (s10 + 1)))
else R ((AV.int IntKind.i64 s4).cons ((AV.bool true).cons AV.nl)).tuple []
theorem f43_eq1 (R : AV → List Ob → Prop) (xs : List Int) (J : St → Prop) (s4 : Int) (s10 : Int) : codeA tab (envOf consU3) (subC [1, 1, 0, 1, 0, 0] (bodyOf Try.f43)) f43_live1 (f43_head1 xs s4 s10)
  (thenA (fun s => J (St.tidy f43_live1 s)) (f43_q1 R)) = f43_rhs1 R xs J s4 s10 := by kernel_rfl
theorem f43_rule1 (R : AV → List Ob → Prop) (xs : List Int) (I : Nat → (Int) → (Int) → Prop) (n : Nat) (s4 : Int) (s10 : Int) (h0 : I n s4 s10) (h : ∀ n, ∀ (s4 : Int) (s10 : Int), I n s4 s10 → f43_rhs1 R xs (fun t => ∃ m, m < n ∧ ∃ (s4 : Int) (s10 : Int), t = f43_head1 xs s4 s10 ∧ I m s4 s10) s4 s10) : f43_loop1 R xs s4 s10 :=
  loop_intro (fun n t => ∃ (s4 : Int) (s10 : Int), t = f43_head1 xs s4 s10 ∧ I n s4 s10) n ⟨s4, s10, rfl, h0⟩ (fun n t ht => by obtain ⟨s4, s10, rfl, hI⟩ := ht; exact Eq.mpr (f43_eq1 R xs (fun t => ∃ m, m < n ∧ ∃ (s4 : Int) (s10 : Int), t = f43_head1 xs s4 s10 ∧ I m s4 s10) s4 s10) (h n s4 s10 hI))
theorem f43_run (R : AV → List Ob → Prop) (xs : List Int) : fnA tab (envOf consU3) Try.f43 (bodyOf Try.f43) [.list 3 (.int .i64) xs] R = (f43_loop1 R xs 0 0) := by kernel_rfl
def f46_live1 : List Nat := [5, 0, 4, 0, 5, 5, 4, 2, 3]
def f46_head1 (xs : List Int) (s4 : Int) (s5 : Int) : St := {
  slots :=
    [AV.list 3 (Ty.int IntKind.i64) xs, AV.undef, AV.int IntKind.i64 0, AV.bool false, AV.int IntKind.i64 s4,
        AV.int IntKind.i64 s5] ++
      List.replicate 21 AV.undef,
  obs := [] }
def f46_q1 (R : AV → List Ob → Prop) : Ex → St → Prop := blockA 0 (seqQ tab (envOf consU3) (subC [1, 1, 1] (bodyOf Try.f46)) [2, 3] (endA tab Try.f46 R))
def f46_loop1 (R : AV → List Ob → Prop) (xs : List Int) (s4 : Int) (s5 : Int) : Prop := loopT f46_live1 (codeA tab (envOf consU3) (subC [1, 1, 0, 1, 0, 0] (bodyOf Try.f46)) f46_live1) (f46_head1 xs s4 s5)
  (f46_q1 R)
def f46_rhs1 (R : AV → List Ob → Prop) (xs : List Int) (J : St → Prop) (s4 : Int) (s5 : Int) : Prop := bif decide (s5 < (↑xs.length : Int)) then
  0 ≤ s5 ∧
    s5 < (↑xs.length : Int) ∧
      bif !(addO s4 (xs.getD s5.toNat 0)).isSome then
        R ((AV.int IntKind.i64 0).cons ((AV.bool false).cons AV.nl)).tuple []
      else J (f46_head1 xs ((addO s4 (xs.getD s5.toNat 0)).getD 0) (IntKind.i64.wrap (s5 + 1)))
else R ((AV.int IntKind.i64 s4).cons ((AV.bool true).cons AV.nl)).tuple []
theorem f46_eq1 (R : AV → List Ob → Prop) (xs : List Int) (J : St → Prop) (s4 : Int) (s5 : Int) : codeA tab (envOf consU3) (subC [1, 1, 0, 1, 0, 0] (bodyOf Try.f46)) f46_live1 (f46_head1 xs s4 s5)
  (thenA (fun s => J (St.tidy f46_live1 s)) (f46_q1 R)) = f46_rhs1 R xs J s4 s5 := by kernel_rfl
theorem f46_rule1 (R : AV → List Ob → Prop) (xs : List Int) (I : Nat → (Int) → (Int) → Prop) (n : Nat) (s4 : Int) (s5 : Int) (h0 : I n s4 s5) (h : ∀ n, ∀ (s4 : Int) (s5 : Int), I n s4 s5 → f46_rhs1 R xs (fun t => ∃ m, m < n ∧ ∃ (s4 : Int) (s5 : Int), t = f46_head1 xs s4 s5 ∧ I m s4 s5) s4 s5) : f46_loop1 R xs s4 s5 :=
  loop_intro (fun n t => ∃ (s4 : Int) (s5 : Int), t = f46_head1 xs s4 s5 ∧ I n s4 s5) n ⟨s4, s5, rfl, h0⟩ (fun n t ht => by obtain ⟨s4, s5, rfl, hI⟩ := ht; exact Eq.mpr (f46_eq1 R xs (fun t => ∃ m, m < n ∧ ∃ (s4 : Int) (s5 : Int), t = f46_head1 xs s4 s5 ∧ I m s4 s5) s4 s5) (h n s4 s5 hI))
theorem f46_run (R : AV → List Ob → Prop) (xs : List Int) : fnA tab (envOf consU3) Try.f46 (bodyOf Try.f46) [.list 3 (.int .i64) xs] R = (f46_loop1 R xs 0 0) := by kernel_rfl
def con25 : List AV → Option Tells
  | [] => some ⟨[], AV.bool true, []⟩
  | _ => none
theorem f25_run (R : AV → List Ob → Prop)  : fnA tab (envOf consU3) Try.f25 (bodyOf Try.f25) [] R = (R (AV.bool true) []) := by kernel_rfl
theorem ok25 : ConOk Try.prog (25, con25) := by
  intro args t h hp
  simp only [con25] at h
  split at h
  · cases h
    refine fn_ok envU3 tab_ok mixed Try.func25 (by kernel_rfl) (by kernel_rfl) ?_
    rw [f25_run]
    exact ⟨rfl, rfl⟩
  · cases h
theorem sumO_next (xs : List Int) (k : Nat) (h : k < xs.length) : sumO (xs.take (k + 1)) = (sumO (xs.take k)).bind fun s => addO s xs[k] := by
  unfold sumO
  rw [take_next xs k h, List.foldlM_append]
  cases List.foldlM addO 0 (List.take k xs) <;> simp
theorem sumO_cut (xs : List Int) (k : Nat) (h : sumO (xs.take k) = none) : sumO xs = none := by
  unfold sumO at h ⊢
  rw [← List.take_append_drop k xs, List.foldlM_append, h]
  rfl
theorem ok43 : ConOk Try.prog (43, con43) := by
  intro args t h hp
  simp only [con43] at h
  split at h
  · rename_i xs
    change List Int at xs
    cases h
    have hm := hp (xs.length ≤ maxLen) (by simp)
    refine fn_ok envU3 tab_ok mixed Try.func43 (by kernel_rfl) (by kernel_rfl) ?_
    rw [f43_run]
    refine f43_rule1 _ xs (fun n s i => ∃ k : Nat, k ≤ xs.length ∧ n = xs.length - k ∧ i = k ∧ sumO (xs.take k) = some s) xs.length 0 0 ⟨0, by omega, by simp, rfl, by simp [sumO]⟩ ?_
    rintro n s i ⟨k, hk, rfl, rfl, hs⟩
    unfold f43_rhs1
    refine dec_split (fun hlt => ⟨by omega, hlt, ?_⟩) (fun hlt => ?_)
    · have hlt' : k < xs.length := by omega
      have hn := sumO_next xs k hlt'
      rw [hs, Option.bind_some] at hn
      rw [getD_nat xs 0 k hlt', wrap_next k _ hlt' hm]
      cases ha : addO s xs[k] with
      | none =>
        rw [ha] at hn
        have hx := sumO_cut xs (k + 1) hn
        exact ⟨by simp [hx], rfl⟩
      | some m =>
        rw [ha] at hn
        exact ⟨xs.length - (k + 1), by omega, m, _, rfl, k + 1, by omega, rfl, rfl, hn⟩
    · rw [take_all xs k (by omega)] at hs
      exact ⟨by simp [hs], rfl⟩
  · cases h
theorem ok46 : ConOk Try.prog (46, con46) := by
  intro args t h hp
  simp only [con46] at h
  split at h
  · rename_i xs
    change List Int at xs
    cases h
    have hm := hp (xs.length ≤ maxLen) (by simp)
    refine fn_ok envU3 tab_ok mixed Try.func46 (by kernel_rfl) (by kernel_rfl) ?_
    rw [f46_run]
    refine f46_rule1 _ xs (fun n s i => ∃ k : Nat, k ≤ xs.length ∧ n = xs.length - k ∧ i = k ∧ sumO (xs.take k) = some s) xs.length 0 0 ⟨0, by omega, by simp, rfl, by simp [sumO]⟩ ?_
    rintro n s i ⟨k, hk, rfl, rfl, hs⟩
    unfold f46_rhs1
    refine dec_split (fun hlt => ⟨by omega, hlt, ?_⟩) (fun hlt => ?_)
    · have hlt' : k < xs.length := by omega
      have hn := sumO_next xs k hlt'
      rw [hs, Option.bind_some] at hn
      rw [getD_nat xs 0 k hlt', wrap_next k _ hlt' hm]
      cases ha : addO s xs[k] with
      | none =>
        rw [ha] at hn
        have hx := sumO_cut xs (k + 1) hn
        exact ⟨by simp [hx], rfl⟩
      | some m =>
        rw [ha] at hn
        exact ⟨xs.length - (k + 1), by omega, m, _, rfl, k + 1, by omega, rfl, rfl, hn⟩
    · rw [take_all xs k (by omega)] at hs
      exact ⟨by simp [hs], rfl⟩
  · cases h
def consU4 : Cons := (43, con43) :: (46, con46) :: (25, con25) :: consU3
theorem allU4 : ∀ c ∈ consU4, ConOk Try.prog c := all_cons ok43 (all_cons ok46 (all_cons ok25 allU3))
theorem envU4 : EnvOk Try.prog (envOf consU4) := envOf_ok _ allU4

end Go.Proofs.Ytpojdmikpodoaaa.W
