/- The laws UnitLaws, UnitReckons and UnitSums of layer 1: their bodies' normal forms, printed by a program of ours and checked by the kernel; they answer true. -/
import Derived.Test.YtpojdmikpodoaaaUa
import Derived.Test.YtpojdmikpodoaaaAwZ
import Derived.KernelRfl
namespace Go.Proofs.Ytpojdmikpodoaaa.W
open Go Go.Proofs Go.Proofs.Ytpojdmikpodoaaa.Aw
theorem f8_run (R : AV → List Ob → Prop) (a b : Int) : fnA tab (envOf consU4) Try.f8 (bodyOf Try.f8) [.int .i64 a, .int .i64 b] R = (bif !(addO a b).getD 0 != (addO b a).getD 0 then
  bif !(addO a b).isSome == (addO b a).isSome then R (AV.bool false) []
  else
    bif (addO a b).isSome then
      bif !!(subO ((addO a b).getD 0) b).isSome then
        bif !(subO ((addO a b).getD 0) b).getD 0 != a then
          bif (addO a b).getD 0 != IntKind.i64.wrap (a + b) then R (AV.bool false) []
          else
            (70368744177664 : Int) ≠ 0 ∧
              (70368744177664 : Int) ≠ 0 ∧
                bif (addO (a.tmod 70368744177664) (b.tmod 70368744177664)).isSome then
                  bif (subO (a.tmod 70368744177664) (b.tmod 70368744177664)).isSome then
                    bif
                        (addO (a.tmod 70368744177664) (b.tmod 70368744177664)).getD 0 ==
                          IntKind.i64.wrap (a.tmod 70368744177664 + b.tmod 70368744177664) then
                      R
                        (AV.bool
                          ((subO (a.tmod 70368744177664) (b.tmod 70368744177664)).getD 0 ==
                            IntKind.i64.wrap (a.tmod 70368744177664 - b.tmod 70368744177664)))
                        []
                    else R (AV.bool false) []
                  else R (AV.bool false) []
                else R (AV.bool false) []
        else R (AV.bool false) []
      else R (AV.bool false) []
    else
      (70368744177664 : Int) ≠ 0 ∧
        (70368744177664 : Int) ≠ 0 ∧
          bif (addO (a.tmod 70368744177664) (b.tmod 70368744177664)).isSome then
            bif (subO (a.tmod 70368744177664) (b.tmod 70368744177664)).isSome then
              bif
                  (addO (a.tmod 70368744177664) (b.tmod 70368744177664)).getD 0 ==
                    IntKind.i64.wrap (a.tmod 70368744177664 + b.tmod 70368744177664) then
                R
                  (AV.bool
                    ((subO (a.tmod 70368744177664) (b.tmod 70368744177664)).getD 0 ==
                      IntKind.i64.wrap (a.tmod 70368744177664 - b.tmod 70368744177664)))
                  []
              else R (AV.bool false) []
            else R (AV.bool false) []
          else R (AV.bool false) []
else R (AV.bool false) []) := by kernel_rfl
theorem f12_run (R : AV → List Ob → Prop) (a b : Int) (xs : List Int) : fnA tab (envOf consU4) Try.f12 (bodyOf Try.f12) [.int .i64 a, .int .i64 b, .list 3 (.int .i64) xs] R = (bif decide ((↑xs.length : Int) > 60) then R (AV.bool true) []
else
  bif !(addO a b).getD 0 != (addO a b).getD 0 then
    bif !(addO a b).isSome == (addO a b).isSome then R (AV.bool false) []
    else
      bif !(subO a b).getD 0 != (subO a b).getD 0 then
        bif !(subO a b).isSome == (subO a b).isSome then R (AV.bool false) []
        else
          xs.length ≤ 9223372036854775807 ∧
            xs.length ≤ 9223372036854775807 ∧
              bif (sumO xs).getD 0 == (sumO xs).getD 0 then R (AV.bool ((sumO xs).isSome == (sumO xs).isSome)) []
              else R (AV.bool false) []
      else R (AV.bool false) []
  else R (AV.bool false) []) := by kernel_rfl
def f11_live1 : List Nat := [28, 27, 26, 28, 7, 8, 9, 28, 7, 8, 9, 9, 1, 7, 2, 2, 7, 2, 7, 6]
def f11_head1 (xs : List Int) (cut : Int) (great : Int) (s9 : Int) (s28 : Int) (o0 : List Int) (o1 : List Int) : St := {
  slots :=
    [AV.undef, AV.int IntKind.u8 cut, AV.int IntKind.i64 great, AV.undef, AV.undef, AV.undef, AV.bool false, AV.row 0,
            AV.row 1, AV.int IntKind.i64 s9] ++
          List.replicate 16 AV.undef ++
        [AV.list 21 (Ty.int IntKind.i32) xs, AV.int IntKind.i64 (↑xs.length : Int), AV.int IntKind.i64 s28] ++
      List.replicate 78 AV.undef,
  obs := [Ob.row 3 (Ty.int IntKind.i64) o0, Ob.row 3 (Ty.int IntKind.i64) o1] }
def f11_q1 (R : AV → List Ob → Prop) : Ex → St → Prop := blockA 0 (seqQ tab (envOf consU4) (subC [1, 1, 1, 1, 1] (bodyOf Try.f11)) [6] (endA tab Try.f11 R))
def f11_loop1 (R : AV → List Ob → Prop) (xs : List Int) (cut : Int) (great : Int) (s9 : Int) (s28 : Int) (o0 : List Int) (o1 : List Int) : Prop := loopT f11_live1 (codeA tab (envOf consU4) (subC [1, 1, 1, 1, 0, 1, 0, 0] (bodyOf Try.f11)) f11_live1)
  (f11_head1 xs cut great s9 s28 o0 o1) (f11_q1 R)
def f11_rhs1 (R : AV → List Ob → Prop) (xs : List Int) (cut : Int) (great : Int) (J : St → Prop) (s9 : Int) (s28 : Int) (o0 : List Int) (o1 : List Int) : Prop := bif decide (s28 < (↑xs.length : Int)) then
  0 ≤ s28 ∧
    s28 < (↑xs.length : Int) ∧
      (o0.length + [IntKind.i64.wrap (xs.getD s28.toNat 0)].length) * 8 ≤ 140737488355328 ∧
        ([IntKind.i64.wrap (xs.getD s28.toNat 0)].length + o1.length) * 8 ≤ 140737488355328 ∧
          J
            (f11_head1 xs cut great (IntKind.i64.wrap (s9 + IntKind.i64.wrap (xs.getD s28.toNat 0)))
              (IntKind.i64.wrap (s28 + 1)) (o0 ++ [IntKind.i64.wrap (xs.getD s28.toNat 0)])
              ([IntKind.i64.wrap (xs.getD s28.toNat 0)] ++ o1))
else
  o0.length ≤ 9223372036854775807 ∧
    o1.length ≤ 9223372036854775807 ∧
      bif !!(sumO o0).isSome then
        bif !!(sumO o1).isSome then
          bif !(sumO o0).getD 0 != s9 then
            bif (sumO o1).getD 0 != s9 then R (AV.bool false) []
            else
              IntKind.i64.wrap ((↑o0.length : Int) + 1) ≠ 0 ∧
                bif decide (great > -281474976710656) then
                  bif decide (great < 281474976710656) then R (AV.bool true) []
                  else
                    (0 : Int) ≤ 0 ∧
                      0 ≤ (IntKind.i64.wrap cut).tmod (IntKind.i64.wrap ((↑o0.length : Int) + 1)) ∧
                        (IntKind.i64.wrap cut).tmod (IntKind.i64.wrap ((↑o0.length : Int) + 1)) ≤ (↑o0.length : Int) ∧
                          (0 +
                                  (List.take
                                      ((IntKind.i64.wrap cut).tmod (IntKind.i64.wrap ((↑o0.length : Int) + 1)) -
                                          0).toNat
                                      (List.drop 0 o0)).length) *
                                8 ≤
                              140737488355328 ∧
                            (([] ++
                                        List.take
                                          ((IntKind.i64.wrap cut).tmod (IntKind.i64.wrap ((↑o0.length : Int) + 1)) -
                                              0).toNat
                                          (List.drop 0 o0)).length +
                                    [great].length) *
                                  8 ≤
                                140737488355328 ∧
                              0 ≤ (IntKind.i64.wrap cut).tmod (IntKind.i64.wrap ((↑o0.length : Int) + 1)) ∧
                                (IntKind.i64.wrap cut).tmod (IntKind.i64.wrap ((↑o0.length : Int) + 1)) ≤
                                    (↑o0.length : Int) ∧
                                  (↑o0.length : Int) ≤ (↑o0.length : Int) ∧
                                    (([] ++
                                                  List.take
                                                    ((IntKind.i64.wrap cut).tmod
                                                          (IntKind.i64.wrap ((↑o0.length : Int) + 1)) -
                                                        0).toNat
                                                    (List.drop 0 o0) ++
                                                [great]).length +
                                            (List.take
                                                ((↑o0.length : Int) -
                                                    (IntKind.i64.wrap cut).tmod
                                                      (IntKind.i64.wrap ((↑o0.length : Int) + 1))).toNat
                                                (List.drop
                                                  ((IntKind.i64.wrap cut).tmod
                                                      (IntKind.i64.wrap ((↑o0.length : Int) + 1))).toNat
                                                  o0)).length) *
                                          8 ≤
                                        140737488355328 ∧
                                      ([] ++
                                                  List.take
                                                    ((IntKind.i64.wrap cut).tmod
                                                          (IntKind.i64.wrap ((↑o0.length : Int) + 1)) -
                                                        0).toNat
                                                    (List.drop 0 o0) ++
                                                [great] ++
                                              List.take
                                                ((↑o0.length : Int) -
                                                    (IntKind.i64.wrap cut).tmod
                                                      (IntKind.i64.wrap ((↑o0.length : Int) + 1))).toNat
                                                (List.drop
                                                  ((IntKind.i64.wrap cut).tmod
                                                      (IntKind.i64.wrap ((↑o0.length : Int) + 1))).toNat
                                                  o0)).length ≤
                                          9223372036854775807 ∧
                                        bif
                                            (sumO
                                                    ([] ++
                                                          List.take
                                                            ((IntKind.i64.wrap cut).tmod
                                                                  (IntKind.i64.wrap ((↑o0.length : Int) + 1)) -
                                                                0).toNat
                                                            (List.drop 0 o0) ++
                                                        [great] ++
                                                      List.take
                                                        ((↑o0.length : Int) -
                                                            (IntKind.i64.wrap cut).tmod
                                                              (IntKind.i64.wrap ((↑o0.length : Int) + 1))).toNat
                                                        (List.drop
                                                          ((IntKind.i64.wrap cut).tmod
                                                              (IntKind.i64.wrap ((↑o0.length : Int) + 1))).toNat
                                                          o0))).getD
                                                0 ==
                                              0 then
                                          R
                                            (AV.bool
                                              !(sumO
                                                    ([] ++
                                                          List.take
                                                            ((IntKind.i64.wrap cut).tmod
                                                                  (IntKind.i64.wrap ((↑o0.length : Int) + 1)) -
                                                                0).toNat
                                                            (List.drop 0 o0) ++
                                                        [great] ++
                                                      List.take
                                                        ((↑o0.length : Int) -
                                                            (IntKind.i64.wrap cut).tmod
                                                              (IntKind.i64.wrap ((↑o0.length : Int) + 1))).toNat
                                                        (List.drop
                                                          ((IntKind.i64.wrap cut).tmod
                                                              (IntKind.i64.wrap ((↑o0.length : Int) + 1))).toNat
                                                          o0))).isSome)
                                            []
                                        else R (AV.bool false) []
                else
                  (0 : Int) ≤ 0 ∧
                    0 ≤ (IntKind.i64.wrap cut).tmod (IntKind.i64.wrap ((↑o0.length : Int) + 1)) ∧
                      (IntKind.i64.wrap cut).tmod (IntKind.i64.wrap ((↑o0.length : Int) + 1)) ≤ (↑o0.length : Int) ∧
                        (0 +
                                (List.take
                                    ((IntKind.i64.wrap cut).tmod (IntKind.i64.wrap ((↑o0.length : Int) + 1)) - 0).toNat
                                    (List.drop 0 o0)).length) *
                              8 ≤
                            140737488355328 ∧
                          (([] ++
                                      List.take
                                        ((IntKind.i64.wrap cut).tmod (IntKind.i64.wrap ((↑o0.length : Int) + 1)) -
                                            0).toNat
                                        (List.drop 0 o0)).length +
                                  [great].length) *
                                8 ≤
                              140737488355328 ∧
                            0 ≤ (IntKind.i64.wrap cut).tmod (IntKind.i64.wrap ((↑o0.length : Int) + 1)) ∧
                              (IntKind.i64.wrap cut).tmod (IntKind.i64.wrap ((↑o0.length : Int) + 1)) ≤
                                  (↑o0.length : Int) ∧
                                (↑o0.length : Int) ≤ (↑o0.length : Int) ∧
                                  (([] ++
                                                List.take
                                                  ((IntKind.i64.wrap cut).tmod
                                                        (IntKind.i64.wrap ((↑o0.length : Int) + 1)) -
                                                      0).toNat
                                                  (List.drop 0 o0) ++
                                              [great]).length +
                                          (List.take
                                              ((↑o0.length : Int) -
                                                  (IntKind.i64.wrap cut).tmod
                                                    (IntKind.i64.wrap ((↑o0.length : Int) + 1))).toNat
                                              (List.drop
                                                ((IntKind.i64.wrap cut).tmod
                                                    (IntKind.i64.wrap ((↑o0.length : Int) + 1))).toNat
                                                o0)).length) *
                                        8 ≤
                                      140737488355328 ∧
                                    ([] ++
                                                List.take
                                                  ((IntKind.i64.wrap cut).tmod
                                                        (IntKind.i64.wrap ((↑o0.length : Int) + 1)) -
                                                      0).toNat
                                                  (List.drop 0 o0) ++
                                              [great] ++
                                            List.take
                                              ((↑o0.length : Int) -
                                                  (IntKind.i64.wrap cut).tmod
                                                    (IntKind.i64.wrap ((↑o0.length : Int) + 1))).toNat
                                              (List.drop
                                                ((IntKind.i64.wrap cut).tmod
                                                    (IntKind.i64.wrap ((↑o0.length : Int) + 1))).toNat
                                                o0)).length ≤
                                        9223372036854775807 ∧
                                      bif
                                          (sumO
                                                  ([] ++
                                                        List.take
                                                          ((IntKind.i64.wrap cut).tmod
                                                                (IntKind.i64.wrap ((↑o0.length : Int) + 1)) -
                                                              0).toNat
                                                          (List.drop 0 o0) ++
                                                      [great] ++
                                                    List.take
                                                      ((↑o0.length : Int) -
                                                          (IntKind.i64.wrap cut).tmod
                                                            (IntKind.i64.wrap ((↑o0.length : Int) + 1))).toNat
                                                      (List.drop
                                                        ((IntKind.i64.wrap cut).tmod
                                                            (IntKind.i64.wrap ((↑o0.length : Int) + 1))).toNat
                                                        o0))).getD
                                              0 ==
                                            0 then
                                        R
                                          (AV.bool
                                            !(sumO
                                                  ([] ++
                                                        List.take
                                                          ((IntKind.i64.wrap cut).tmod
                                                                (IntKind.i64.wrap ((↑o0.length : Int) + 1)) -
                                                              0).toNat
                                                          (List.drop 0 o0) ++
                                                      [great] ++
                                                    List.take
                                                      ((↑o0.length : Int) -
                                                          (IntKind.i64.wrap cut).tmod
                                                            (IntKind.i64.wrap ((↑o0.length : Int) + 1))).toNat
                                                      (List.drop
                                                        ((IntKind.i64.wrap cut).tmod
                                                            (IntKind.i64.wrap ((↑o0.length : Int) + 1))).toNat
                                                        o0))).isSome)
                                          []
                                      else R (AV.bool false) []
          else R (AV.bool false) []
        else R (AV.bool false) []
      else R (AV.bool false) []
theorem f11_eq1 (R : AV → List Ob → Prop) (xs : List Int) (cut : Int) (great : Int) (J : St → Prop) (s9 : Int) (s28 : Int) (o0 : List Int) (o1 : List Int) : codeA tab (envOf consU4) (subC [1, 1, 1, 1, 0, 1, 0, 0] (bodyOf Try.f11)) f11_live1
  (f11_head1 xs cut great s9 s28 o0 o1) (thenA (fun s => J (St.tidy f11_live1 s)) (f11_q1 R)) = f11_rhs1 R xs cut great J s9 s28 o0 o1 := by kernel_rfl
theorem f11_rule1 (R : AV → List Ob → Prop) (xs : List Int) (cut : Int) (great : Int) (I : Nat → (Int) → (Int) → (List Int) → (List Int) → Prop) (n : Nat) (s9 : Int) (s28 : Int) (o0 : List Int) (o1 : List Int) (h0 : I n s9 s28 o0 o1) (h : ∀ n, ∀ (s9 : Int) (s28 : Int) (o0 : List Int) (o1 : List Int), I n s9 s28 o0 o1 → f11_rhs1 R xs cut great (fun t => ∃ m, m < n ∧ ∃ (s9 : Int) (s28 : Int) (o0 : List Int) (o1 : List Int), t = f11_head1 xs cut great s9 s28 o0 o1 ∧ I m s9 s28 o0 o1) s9 s28 o0 o1) : f11_loop1 R xs cut great s9 s28 o0 o1 :=
  loop_intro (fun n t => ∃ (s9 : Int) (s28 : Int) (o0 : List Int) (o1 : List Int), t = f11_head1 xs cut great s9 s28 o0 o1 ∧ I n s9 s28 o0 o1) n ⟨s9, s28, o0, o1, rfl, h0⟩ (fun n t ht => by obtain ⟨s9, s28, o0, o1, rfl, hI⟩ := ht; exact Eq.mpr (f11_eq1 R xs cut great (fun t => ∃ m, m < n ∧ ∃ (s9 : Int) (s28 : Int) (o0 : List Int) (o1 : List Int), t = f11_head1 xs cut great s9 s28 o0 o1 ∧ I m s9 s28 o0 o1) s9 s28 o0 o1) (h n s9 s28 o0 o1 hI))
theorem f11_run (R : AV → List Ob → Prop) (xs : List Int) (cut great : Int) : fnA tab (envOf consU4) Try.f11 (bodyOf Try.f11) [.list 21 (.int .i32) xs, .int .u8 cut, .int .i64 great] R = (bif decide ((↑xs.length : Int) > 60) then R (AV.bool true) [] else f11_loop1 R xs cut great 0 0 [] []) := by kernel_rfl
theorem addO_comm (a b : Int) : addO a b = addO b a := by
  unfold addO
  rw [Int.add_comm a b, Bool.and_comm (may a) (may b)]
theorem addO_some {a b n : Int} (h : addO a b = some n) : n = a + b ∧ may a = true ∧ may b = true ∧ may n = true := by
  unfold addO at h
  cases hc : (may a && may b && may (a + b)) with
  | false => rw [hc] at h; cases h
  | true =>
    rw [hc] at h
    simp only [cond_true, Option.some.injEq] at h
    simp only [Bool.and_eq_true] at hc
    subst h
    exact ⟨rfl, hc.1.1, hc.1.2, hc.2⟩
theorem addO_is {a b : Int} (h1 : may a = true) (h2 : may b = true) (h3 : may (a + b) = true) : addO a b = some (a + b) := by
  simp [addO, h1, h2, h3]
theorem subO_is {a b : Int} (h1 : may a = true) (h2 : may b = true) (h3 : may (a - b) = true) : subO a b = some (a - b) := by
  simp [subO, h1, h2, h3]
abbrev yes : AV → List Ob → Prop := fun v' news' => v' = .bool true ∧ news' = []
theorem law8_end (a b : Int) : (70368744177664 : Int) ≠ 0 ∧ (70368744177664 : Int) ≠ 0 ∧
          bif (addO (a.tmod 70368744177664) (b.tmod 70368744177664)).isSome then
            bif (subO (a.tmod 70368744177664) (b.tmod 70368744177664)).isSome then
              bif
                  (addO (a.tmod 70368744177664) (b.tmod 70368744177664)).getD 0 ==
                    IntKind.i64.wrap (a.tmod 70368744177664 + b.tmod 70368744177664) then
                yes (AV.bool ((subO (a.tmod 70368744177664) (b.tmod 70368744177664)).getD 0 == IntKind.i64.wrap (a.tmod 70368744177664 - b.tmod 70368744177664))) []
              else yes (AV.bool false) []
            else yes (AV.bool false) []
          else yes (AV.bool false) [] := by
  have ha := Int.tmod_lt_of_pos a (b := 70368744177664) (by omega)
  have ha' := Int.lt_tmod_of_pos a (b := 70368744177664) (by omega)
  have hb := Int.tmod_lt_of_pos b (b := 70368744177664) (by omega)
  have hb' := Int.lt_tmod_of_pos b (b := 70368744177664) (by omega)
  generalize a.tmod 70368744177664 = x at ha ha' ⊢
  generalize b.tmod 70368744177664 = y at hb hb' ⊢
  have e1 : addO x y = some (x + y) := addO_is ((may_iff _).2 (by omega)) ((may_iff _).2 (by omega)) ((may_iff _).2 (by omega))
  have e2 : subO x y = some (x - y) := subO_is ((may_iff _).2 (by omega)) ((may_iff _).2 (by omega)) ((may_iff _).2 (by omega))
  rw [e1, e2, wrap_id (x + y) (by omega), wrap_id (x - y) (by omega)]
  exact ⟨by omega, by omega, by simp [yes]⟩
theorem law8' (a b : Int) : ACalls Try.prog 8 [.int .i64 a, .int .i64 b] (.bool true) [] := by
  refine fn_ok envU4 tab_ok mixed Try.func8 (by kernel_rfl) (by kernel_rfl) ?_
  rw [f8_run, ← addO_comm a b]
  refine cond_of (by simp) (cond_no (by simp) ?_)
  cases h : addO a b with
  | none => exact law8_end a b
  | some n =>
    obtain ⟨rfl, h1, h2, h3⟩ := addO_some h
    have e : subO (a + b) b = some a := by
      have := subO_is h3 h2 (show may (a + b - b) = true by rw [Int.add_sub_cancel]; exact h1)
      rwa [Int.add_sub_cancel] at this
    refine cond_of rfl (cond_of ?_ (cond_of ?_ (cond_no ?_ (law8_end a b))))
    · rw [Option.getD_some, e]; rfl
    · rw [Option.getD_some, e]; simp
    · rw [may_wrap_add h1 h2]; simp
theorem law8 (x : ArgsDen [(false, .int .i64), (false, .int .i64)]) (_h : OkArgs [(false, .int .i64), (false, .int .i64)] x) : ACalls Try.prog 8 (argsA [(false, .int .i64), (false, .int .i64)] x) (.bool true) [] := law8' x.1 x.2.1
theorem law12' (a b : Int) (xs : List Int) : ACalls Try.prog 12 [.int .i64 a, .int .i64 b, .list 3 (.int .i64) xs] (.bool true) [] := by
  refine fn_ok envU4 tab_ok mixed Try.func12 (by kernel_rfl) (by kernel_rfl) ?_
  rw [f12_run]
  refine dec_split (fun _ => ⟨rfl, rfl⟩) (fun hl => ?_)
  refine cond_of (by simp) (cond_no (by simp) (cond_of (by simp) (cond_no (by simp) ⟨by omega, by omega, cond_of (by simp) ⟨by simp, rfl⟩⟩)))
theorem law12 (x : ArgsDen [(false, .int .i64), (false, .int .i64), (false, .list 3 (.int .i64))]) (_h : OkArgs [(false, .int .i64), (false, .int .i64), (false, .list 3 (.int .i64))] x) : ACalls Try.prog 12 (argsA [(false, .int .i64), (false, .int .i64), (false, .list 3 (.int .i64))] x) (.bool true) [] := law12' x.1 x.2.1 x.2.2.1
theorem sumO_ok (xs : List Int) : ∀ (s : Int), (∀ x ∈ xs, -2147483648 ≤ x ∧ x ≤ 2147483647) → -(281474976710655 - 2147483648 * (xs.length : Int)) ≤ s → s ≤ 281474976710655 - 2147483648 * (xs.length : Int) → xs.foldlM addO s = some (s + xs.sum) := by
  induction xs with
  | nil => intro s _ _ _; simp
  | cons x xs ih =>
    intro s h h1 h2
    have hx := h x (by simp)
    have hl : ((x :: xs).length : Int) = xs.length + 1 := by simp
    rw [hl] at h1 h2
    have e : addO s x = some (s + x) := addO_is ((may_iff _).2 (by omega)) ((may_iff _).2 (by omega)) ((may_iff _).2 (by omega))
    have ih' := ih (s + x) (fun y hy => h y (by simp [hy])) (by omega) (by omega)
    rw [List.foldlM_cons, e, List.sum_cons, ← Int.add_assoc]
    exact ih'
theorem sumO_great (l m : List Int) (g : Int) (hg : may g = false) : sumO (l ++ [g] ++ m) = none := by
  unfold sumO
  rw [List.append_assoc, List.foldlM_append]
  cases List.foldlM addO 0 l with
  | none => rfl
  | some s => simp [addO, hg]
theorem sum_rev : ∀ xs : List Int, xs.reverse.sum = xs.sum
  | [] => rfl
  | x :: xs => by rw [List.reverse_cons, List.sum_append, sum_rev xs]; simp [Int.add_comm]
theorem sum_bd : ∀ xs : List Int, (∀ x ∈ xs, -2147483648 ≤ x ∧ x ≤ 2147483647) → -(2147483648 * (xs.length : Int)) ≤ xs.sum ∧ xs.sum ≤ 2147483648 * (xs.length : Int)
  | [], _ => by simp
  | x :: xs, h => by
    have hx := h x (by simp)
    have ih := sum_bd xs fun y hy => h y (by simp [hy])
    have hl : ((x :: xs).length : Int) = xs.length + 1 := by simp
    rw [hl, List.sum_cons]
    omega
theorem law11' (xs : List Int) (cut great : Int) (hx : ∀ x ∈ xs, -2147483648 ≤ x ∧ x ≤ 2147483647) (hc : 0 ≤ cut ∧ cut ≤ 255) : ACalls Try.prog 11 [.list 21 (.int .i32) xs, .int .u8 cut, .int .i64 great] (.bool true) [] := by
  refine fn_ok envU4 tab_ok mixed Try.func11 (by kernel_rfl) (by kernel_rfl) ?_
  rw [f11_run]
  refine dec_split (fun _ => ⟨rfl, rfl⟩) (fun hl => ?_)
  refine f11_rule1 yes xs cut great (fun n s i o0 o1 => ∃ k : Nat, k ≤ xs.length ∧ n = xs.length - k ∧ s = (xs.take k).sum ∧ i = k ∧ o0 = xs.take k ∧ o1 = (xs.take k).reverse) xs.length 0 0 [] [] ⟨0, by omega, by simp, rfl, rfl, rfl, rfl⟩ ?_
  rintro n s i o0 o1 ⟨k, hk, rfl, rfl, rfl, rfl, rfl⟩
  unfold f11_rhs1
  refine dec_split (fun hlt => ?_) (fun hlt => ?_)
  · have hlt' : k < xs.length := by omega
    have hxk := hx xs[k] (List.getElem_mem hlt')
    have hw : IntKind.wrap .i64 (xs.getD ((k : Int)).toNat 0) = xs[k] := by rw [getD_nat xs 0 k hlt', wrap_id _ (by omega)]
    have hb := sum_bd (xs.take k) fun x h => hx x (List.mem_of_mem_take h)
    have hll : (xs.take k).length = k := by simp; omega
    rw [hll] at hb
    rw [hw, wrap_next k xs.length hlt' (by simp only [maxLen]; omega)]
    refine ⟨by omega, hlt, by simp; omega, by simp; omega, xs.length - (k + 1), by omega, _, _, _, _, rfl, k + 1, by omega, rfl, ?_, rfl, ?_, ?_⟩
    · rw [take_next xs k hlt', List.sum_append, wrap_id _ (by omega)]; simp
    · rw [take_next xs k hlt']
    · rw [take_next xs k hlt', List.reverse_append]; rfl
  · rw [take_all xs k (by omega)]
    have s1 : sumO xs = some xs.sum := by have := sumO_ok xs 0 hx (by omega) (by omega); rwa [Int.zero_add] at this
    have s2 : sumO xs.reverse = some xs.sum := by
      have := sumO_ok xs.reverse 0 (fun x h => hx x (by simpa using h)) (by simp; omega) (by simp; omega)
      rw [sum_rev, Int.zero_add] at this
      exact this
    rw [s1, s2]
    have hw1 : IntKind.wrap .i64 ((xs.length : Int) + 1) = xs.length + 1 := wrap_id _ (by omega)
    rw [hw1, wrap_id cut (by omega)]
    have t0 : 0 ≤ cut.tmod ((xs.length : Int) + 1) := Int.tmod_nonneg _ hc.1
    have t1 : cut.tmod ((xs.length : Int) + 1) < (xs.length : Int) + 1 := Int.tmod_lt_of_pos _ (by omega)
    generalize cut.tmod ((xs.length : Int) + 1) = K at t0 t1 ⊢
    have fin : may great = false → ((0 : Int) ≤ 0 ∧ 0 ≤ K ∧ K ≤ (xs.length : Int) ∧ (0 + (List.take (K - 0).toNat (List.drop 0 xs)).length) * 8 ≤ 140737488355328 ∧ (([] ++ List.take (K - 0).toNat (List.drop 0 xs)).length + [great].length) * 8 ≤ 140737488355328 ∧ 0 ≤ K ∧ K ≤ (xs.length : Int) ∧ (xs.length : Int) ≤ (xs.length : Int) ∧
        (([] ++ List.take (K - 0).toNat (List.drop 0 xs) ++ [great]).length + (List.take ((xs.length : Int) - K).toNat (List.drop K.toNat xs)).length) * 8 ≤ 140737488355328 ∧ ([] ++ List.take (K - 0).toNat (List.drop 0 xs) ++ [great] ++ List.take ((xs.length : Int) - K).toNat (List.drop K.toNat xs)).length ≤ 9223372036854775807 ∧
        bif (sumO ([] ++ List.take (K - 0).toNat (List.drop 0 xs) ++ [great] ++ List.take ((xs.length : Int) - K).toNat (List.drop K.toNat xs))).getD 0 == 0 then yes (AV.bool !(sumO ([] ++ List.take (K - 0).toNat (List.drop 0 xs) ++ [great] ++ List.take ((xs.length : Int) - K).toNat (List.drop K.toNat xs))).isSome) [] else yes (AV.bool false) []) := by
      intro hg
      refine ⟨by omega, t0, by omega, by simp; omega, by simp; omega, t0, by omega, by omega, by simp; omega, by simp; omega, ?_⟩
      rw [sumO_great _ _ great hg]
      exact ⟨rfl, rfl⟩
    refine ⟨by omega, by simp; omega, cond_of (by simp) (cond_of (by simp) (cond_of (by simp) (cond_no (by simp) ⟨by omega, ?_⟩)))⟩
    refine dec_split (fun h1 => dec_split (fun h2 => ⟨rfl, rfl⟩) (fun h2 => fin ?_)) (fun h1 => fin ?_)
    · simp [may]; omega
    · simp [may]; omega
theorem law11 (x : ArgsDen [(false, .list 21 (.int .i32)), (false, .int .u8), (false, .int .i64)]) (h : OkArgs [(false, .list 21 (.int .i32)), (false, .int .u8), (false, .int .i64)] x) : ACalls Try.prog 11 (argsA [(false, .list 21 (.int .i32)), (false, .int .u8), (false, .int .i64)] x) (.bool true) [] :=
  law11' x.1 x.2.1 x.2.2.1 (fun y hy => i32_of y (h.1.2 y hy)) (u8_of _ h.2.1)

end Go.Proofs.Ytpojdmikpodoaaa.W
