/- The law StrutJoins: its body's normal form, printed by a program of ours and checked by the kernel; it answers true. -/
import Derived.Test.YtpojdmikpodoaaaWc
namespace Go.Proofs.Ytpojdmikpodoaaa.W
open Go Go.Proofs Go.Proofs.Ytpojdmikpodoaaa.Aw
def live4 : List Nat := [94, 93, 94, 11, 0, 0, 11, 94, 11, 8, 6]
def head4 (xs : List Int) (M L i m l : Int) : St := ⟨[.list 3 (.int .i64) xs] ++ List.replicate 5 .undef ++ [.bool false, .undef, .ptr 0 0, .undef, .undef, .ptr 1 0] ++ List.replicate 81 .undef ++ [.int .i64 xs.length, .int .i64 i] ++ List.replicate 16 .undef, [.cells 26 [.int .i64 M, .int .i64 L], .cells 26 [.int .i64 m, .int .i64 l]]⟩
theorem f4_run (R : AV → List Ob → Prop) (xs : List Int) (cut again : Int) : fnA tab (envOf cons4) Try.f4 (bodyOf Try.f4) [.list 3 (.int .i64) xs, .int .u8 cut, .int .u8 again] R = (bif !decide ((↑xs.length : Int) > 60) then
  xs.length ≤ 9223372036854775807 ∧
    bif !small xs then R (AV.bool true) []
    else
      IntKind.i64.wrap ((↑xs.length : Int) + 1) ≠ 0 ∧
        xs.length ≤ 9223372036854775807 ∧
          0 ≤ (IntKind.i64.wrap cut).tmod (IntKind.i64.wrap ((↑xs.length : Int) + 1)) ∧
            (IntKind.i64.wrap cut).tmod (IntKind.i64.wrap ((↑xs.length : Int) + 1)) ≤ (↑xs.length : Int) ∧
              (List.take ((IntKind.i64.wrap cut).tmod (IntKind.i64.wrap ((↑xs.length : Int) + 1))).toNat xs).length ≤
                  9223372036854775807 ∧
                0 ≤ (IntKind.i64.wrap cut).tmod (IntKind.i64.wrap ((↑xs.length : Int) + 1)) ∧
                  (IntKind.i64.wrap cut).tmod (IntKind.i64.wrap ((↑xs.length : Int) + 1)) ≤ (↑xs.length : Int) ∧
                    (List.drop ((IntKind.i64.wrap cut).tmod (IntKind.i64.wrap ((↑xs.length : Int) + 1))).toNat
                            xs).length ≤
                        9223372036854775807 ∧
                      bif
                          !!(max
                                    (most
                                      (List.take
                                        ((IntKind.i64.wrap cut).tmod (IntKind.i64.wrap ((↑xs.length : Int) + 1))).toNat
                                        xs))
                                    (most
                                      (List.drop
                                        ((IntKind.i64.wrap cut).tmod (IntKind.i64.wrap ((↑xs.length : Int) + 1))).toNat
                                        xs)) ==
                                  most xs &&
                                (min
                                      (least
                                        (List.take
                                          ((IntKind.i64.wrap cut).tmod
                                              (IntKind.i64.wrap ((↑xs.length : Int) + 1))).toNat
                                          xs))
                                      (least
                                        (List.drop
                                          ((IntKind.i64.wrap cut).tmod
                                              (IntKind.i64.wrap ((↑xs.length : Int) + 1))).toNat
                                          xs)) ==
                                    least xs &&
                                  true)) then
                        bif
                            !!(max
                                      (most
                                        (List.drop
                                          ((IntKind.i64.wrap cut).tmod
                                              (IntKind.i64.wrap ((↑xs.length : Int) + 1))).toNat
                                          xs))
                                      (most
                                        (List.take
                                          ((IntKind.i64.wrap cut).tmod
                                              (IntKind.i64.wrap ((↑xs.length : Int) + 1))).toNat
                                          xs)) ==
                                    most xs &&
                                  (min
                                        (least
                                          (List.drop
                                            ((IntKind.i64.wrap cut).tmod
                                                (IntKind.i64.wrap ((↑xs.length : Int) + 1))).toNat
                                            xs))
                                        (least
                                          (List.take
                                            ((IntKind.i64.wrap cut).tmod
                                                (IntKind.i64.wrap ((↑xs.length : Int) + 1))).toNat
                                            xs)) ==
                                      least xs &&
                                    true)) then
                          bif
                              !!(max (most xs) (most xs) == most xs &&
                                    (min (least xs) (least xs) == least xs && true)) then
                            bif !!(max (most xs) 0 == most xs && (min (least xs) 0 == least xs && true)) then
                              bif !(max (most xs) 0 == most xs && (min (least xs) 0 == least xs && true)) then
                                R (AV.bool false) []
                              else
                                bif decide ((↑xs.length : Int) > 0) then
                                  (↑xs.length : Int) ≠ 0 ∧
                                    0 ≤ (IntKind.i64.wrap again).tmod (↑xs.length : Int) ∧
                                      (IntKind.i64.wrap again).tmod (↑xs.length : Int) < (↑xs.length : Int) ∧
                                        bif
                                            !(max (most xs)
                                                    (xs.getD ((IntKind.i64.wrap again).tmod (↑xs.length : Int)).toNat
                                                      0) ==
                                                  most xs &&
                                                (min (least xs)
                                                      (xs.getD ((IntKind.i64.wrap again).tmod (↑xs.length : Int)).toNat
                                                        0) ==
                                                    least xs &&
                                                  true)) then
                                          R (AV.bool false) []
                                        else
                                          loopT [94, 93, 94, 11, 0, 0, 11, 94, 11, 8, 6]
                                            (codeA tab (envOf cons4)
                                              (subC [1, 1, 1, 1, 1, 1, 1, 0, 1, 0, 0] (bodyOf Try.f4))
                                              [94, 93, 94, 11, 0, 0, 11, 94, 11, 8, 6])
                                            {
                                              slots :=
                                                [AV.list 3 (Ty.int IntKind.i64) xs, AV.undef, AV.undef, AV.undef,
                                                  AV.undef, AV.undef, AV.bool false, AV.undef, AV.ptr 0 0, AV.undef,
                                                  AV.undef, AV.ptr 1 0, AV.undef, AV.undef, AV.undef, AV.undef,
                                                  AV.undef, AV.undef, AV.undef, AV.undef, AV.undef, AV.undef, AV.undef,
                                                  AV.undef, AV.undef, AV.undef, AV.undef, AV.undef, AV.undef, AV.undef,
                                                  AV.undef, AV.undef, AV.undef, AV.undef, AV.undef, AV.undef, AV.undef,
                                                  AV.undef, AV.undef, AV.undef, AV.undef, AV.undef, AV.undef, AV.undef,
                                                  AV.undef, AV.undef, AV.undef, AV.undef, AV.undef, AV.undef, AV.undef,
                                                  AV.undef, AV.undef, AV.undef, AV.undef, AV.undef, AV.undef, AV.undef,
                                                  AV.undef, AV.undef, AV.undef, AV.undef, AV.undef, AV.undef, AV.undef,
                                                  AV.undef, AV.undef, AV.undef, AV.undef, AV.undef, AV.undef, AV.undef,
                                                  AV.undef, AV.undef, AV.undef, AV.undef, AV.undef, AV.undef, AV.undef,
                                                  AV.undef, AV.undef, AV.undef, AV.undef, AV.undef, AV.undef, AV.undef,
                                                  AV.undef, AV.undef, AV.undef, AV.undef, AV.undef, AV.undef, AV.undef,
                                                  AV.int IntKind.i64 (↑xs.length : Int), AV.int IntKind.i64 0, AV.undef,
                                                  AV.undef, AV.undef, AV.undef, AV.undef, AV.undef, AV.undef, AV.undef,
                                                  AV.undef, AV.undef, AV.undef, AV.undef, AV.undef, AV.undef, AV.undef,
                                                  AV.undef],
                                              obs :=
                                                [Ob.cells 26
                                                    [AV.int IntKind.i64 (most xs), AV.int IntKind.i64 (least xs)],
                                                  Ob.cells 26 [AV.int IntKind.i64 0, AV.int IntKind.i64 0]] }
                                            (blockA 0
                                              (seqQ tab (envOf cons4) (subC [1, 1, 1, 1, 1, 1, 1, 1] (bodyOf Try.f4))
                                                [6] (endA tab Try.f4 R)))
                                else
                                  loopT [94, 93, 94, 11, 0, 0, 11, 94, 11, 8, 6]
                                    (codeA tab (envOf cons4) (subC [1, 1, 1, 1, 1, 1, 1, 0, 1, 0, 0] (bodyOf Try.f4))
                                      [94, 93, 94, 11, 0, 0, 11, 94, 11, 8, 6])
                                    {
                                      slots :=
                                        [AV.list 3 (Ty.int IntKind.i64) xs, AV.undef, AV.undef, AV.undef, AV.undef,
                                          AV.undef, AV.bool false, AV.undef, AV.ptr 0 0, AV.undef, AV.undef, AV.ptr 1 0,
                                          AV.undef, AV.undef, AV.undef, AV.undef, AV.undef, AV.undef, AV.undef,
                                          AV.undef, AV.undef, AV.undef, AV.undef, AV.undef, AV.undef, AV.undef,
                                          AV.undef, AV.undef, AV.undef, AV.undef, AV.undef, AV.undef, AV.undef,
                                          AV.undef, AV.undef, AV.undef, AV.undef, AV.undef, AV.undef, AV.undef,
                                          AV.undef, AV.undef, AV.undef, AV.undef, AV.undef, AV.undef, AV.undef,
                                          AV.undef, AV.undef, AV.undef, AV.undef, AV.undef, AV.undef, AV.undef,
                                          AV.undef, AV.undef, AV.undef, AV.undef, AV.undef, AV.undef, AV.undef,
                                          AV.undef, AV.undef, AV.undef, AV.undef, AV.undef, AV.undef, AV.undef,
                                          AV.undef, AV.undef, AV.undef, AV.undef, AV.undef, AV.undef, AV.undef,
                                          AV.undef, AV.undef, AV.undef, AV.undef, AV.undef, AV.undef, AV.undef,
                                          AV.undef, AV.undef, AV.undef, AV.undef, AV.undef, AV.undef, AV.undef,
                                          AV.undef, AV.undef, AV.undef, AV.undef, AV.int IntKind.i64 (↑xs.length : Int),
                                          AV.int IntKind.i64 0, AV.undef, AV.undef, AV.undef, AV.undef, AV.undef,
                                          AV.undef, AV.undef, AV.undef, AV.undef, AV.undef, AV.undef, AV.undef,
                                          AV.undef, AV.undef, AV.undef, AV.undef],
                                      obs :=
                                        [Ob.cells 26 [AV.int IntKind.i64 (most xs), AV.int IntKind.i64 (least xs)],
                                          Ob.cells 26 [AV.int IntKind.i64 0, AV.int IntKind.i64 0]] }
                                    (blockA 0
                                      (seqQ tab (envOf cons4) (subC [1, 1, 1, 1, 1, 1, 1, 1] (bodyOf Try.f4)) [6]
                                        (endA tab Try.f4 R)))
                            else R (AV.bool false) []
                          else R (AV.bool false) []
                        else R (AV.bool false) []
                      else R (AV.bool false) []
else R (AV.bool true) []) := by kernel_rfl
theorem f4_body (R : AV → List Ob → Prop) (J : St → Prop) (xs : List Int) (M L i m l : Int) : codeA tab (envOf cons4) (subC [1, 1, 1, 1, 1, 1, 1, 0, 1, 0, 0] (bodyOf Try.f4)) live4 (head4 xs M L i m l) (thenA (fun s => J (s.tidy live4)) (blockA 0 (seqQ tab (envOf cons4) (subC [1, 1, 1, 1, 1, 1, 1, 1] (bodyOf Try.f4)) [6] (endA tab Try.f4 R)))) = (bif decide (i < (↑xs.length : Int)) then
  0 ≤ IntKind.i64.wrap (IntKind.i64.wrap ((↑xs.length : Int) - 1) - i) ∧
    IntKind.i64.wrap (IntKind.i64.wrap ((↑xs.length : Int) - 1) - i) < (↑xs.length : Int) ∧
      J
        {
          slots :=
            [AV.list 3 (Ty.int IntKind.i64) xs, AV.undef, AV.undef, AV.undef, AV.undef, AV.undef, AV.bool false,
              AV.undef, AV.ptr 0 0, AV.undef, AV.undef, AV.ptr 1 0, AV.undef, AV.undef, AV.undef, AV.undef, AV.undef,
              AV.undef, AV.undef, AV.undef, AV.undef, AV.undef, AV.undef, AV.undef, AV.undef, AV.undef, AV.undef,
              AV.undef, AV.undef, AV.undef, AV.undef, AV.undef, AV.undef, AV.undef, AV.undef, AV.undef, AV.undef,
              AV.undef, AV.undef, AV.undef, AV.undef, AV.undef, AV.undef, AV.undef, AV.undef, AV.undef, AV.undef,
              AV.undef, AV.undef, AV.undef, AV.undef, AV.undef, AV.undef, AV.undef, AV.undef, AV.undef, AV.undef,
              AV.undef, AV.undef, AV.undef, AV.undef, AV.undef, AV.undef, AV.undef, AV.undef, AV.undef, AV.undef,
              AV.undef, AV.undef, AV.undef, AV.undef, AV.undef, AV.undef, AV.undef, AV.undef, AV.undef, AV.undef,
              AV.undef, AV.undef, AV.undef, AV.undef, AV.undef, AV.undef, AV.undef, AV.undef, AV.undef, AV.undef,
              AV.undef, AV.undef, AV.undef, AV.undef, AV.undef, AV.undef, AV.int IntKind.i64 (↑xs.length : Int),
              AV.int IntKind.i64 (IntKind.i64.wrap (i + 1)), AV.undef, AV.undef, AV.undef, AV.undef, AV.undef, AV.undef,
              AV.undef, AV.undef, AV.undef, AV.undef, AV.undef, AV.undef, AV.undef, AV.undef, AV.undef, AV.undef],
          obs :=
            [Ob.cells 26 [AV.int IntKind.i64 M, AV.int IntKind.i64 L],
              Ob.cells 26
                [AV.int IntKind.i64
                    (max m (xs.getD (IntKind.i64.wrap (IntKind.i64.wrap ((↑xs.length : Int) - 1) - i)).toNat 0)),
                  AV.int IntKind.i64
                    (min l (xs.getD (IntKind.i64.wrap (IntKind.i64.wrap ((↑xs.length : Int) - 1) - i)).toNat 0))]] }
else R (AV.bool (m == M && (l == L && true))) []) := by kernel_rfl
theorem fold_max (ys : List Int) : ∀ a : Int, 0 ≤ a → ys.foldl max a = max a (most ys) := by
  unfold most
  induction ys with
  | nil => intro a h; simp; omega
  | cons y ys ih =>
    intro a h
    simp only [List.foldl_cons]
    rw [ih (max a y) (by omega), ih (max 0 y) (by omega)]
    omega
theorem fold_min (ys : List Int) : ∀ a : Int, a ≤ 0 → ys.foldl min a = min a (least ys) := by
  unfold least
  induction ys with
  | nil => intro a h; simp; omega
  | cons y ys ih =>
    intro a h
    simp only [List.foldl_cons]
    rw [ih (min a y) (by omega), ih (min 0 y) (by omega)]
    omega
theorem most_cons (x : Int) (xs : List Int) : most (x :: xs) = max (max 0 x) (most xs) := fold_max xs (max 0 x) (by omega)
theorem least_cons (x : Int) (xs : List Int) : least (x :: xs) = min (min 0 x) (least xs) := fold_min xs (min 0 x) (by omega)
theorem most_nonneg : ∀ xs : List Int, 0 ≤ most xs
  | [] => by simp [most]
  | x :: xs => by rw [most_cons]; omega
theorem least_nonpos : ∀ xs : List Int, least xs ≤ 0
  | [] => by simp [least]
  | x :: xs => by rw [least_cons]; omega
theorem most_append (xs ys : List Int) : most (xs ++ ys) = max (most xs) (most ys) := by
  conv => lhs; unfold most
  rw [List.foldl_append]
  exact fold_max ys _ (most_nonneg xs)
theorem least_append (xs ys : List Int) : least (xs ++ ys) = min (least xs) (least ys) := by
  conv => lhs; unfold least
  rw [List.foldl_append]
  exact fold_min ys _ (least_nonpos xs)
theorem most_cut (xs : List Int) (k : Nat) : max (most (xs.take k)) (most (xs.drop k)) = most xs := by
  rw [← most_append, List.take_append_drop]
theorem least_cut (xs : List Int) (k : Nat) : min (least (xs.take k)) (least (xs.drop k)) = least xs := by
  rw [← least_append, List.take_append_drop]
theorem most_mem (xs : List Int) (x : Int) (h : x ∈ xs) : x ≤ most xs := by
  induction xs with
  | nil => cases h
  | cons y ys ih =>
    rw [most_cons]
    rcases List.mem_cons.1 h with rfl | h
    · omega
    · have := ih h; omega
theorem least_mem (xs : List Int) (x : Int) (h : x ∈ xs) : least xs ≤ x := by
  induction xs with
  | nil => cases h
  | cons y ys ih =>
    rw [least_cons]
    rcases List.mem_cons.1 h with rfl | h
    · omega
    · have := ih h; omega
def inv4 (xs : List Int) (n : Nat) (s : St) : Prop := ∃ i : Nat, i ≤ xs.length ∧ n = xs.length - i ∧ s = head4 xs (most xs) (least xs) i (most (xs.drop (xs.length - i))) (least (xs.drop (xs.length - i)))
abbrev yes : AV → List Ob → Prop := fun v' news' => v' = .bool true ∧ news' = []
theorem loop4 (xs : List Int) (hl : xs.length ≤ 60) : loopT live4 (codeA tab (envOf cons4) (subC [1, 1, 1, 1, 1, 1, 1, 0, 1, 0, 0] (bodyOf Try.f4)) live4) (head4 xs (most xs) (least xs) 0 0 0) (blockA 0 (seqQ tab (envOf cons4) (subC [1, 1, 1, 1, 1, 1, 1, 1] (bodyOf Try.f4)) [6] (endA tab Try.f4 yes))) := by
  refine loop_intro (inv4 xs) xs.length ⟨0, Nat.zero_le _, by simp, ?_⟩ ?_
  · have e : xs.drop (xs.length - 0) = [] := by simp
    rw [e]
    rfl
  · rintro n s ⟨i, hi, rfl, rfl⟩
    refine Eq.mpr (f4_body yes (fun t => ∃ m, m < xs.length - i ∧ inv4 xs m t) xs (most xs) (least xs) i _ _) ?_
    by_cases hlt : i < xs.length
    · have h1 : decide ((i : Int) < (xs.length : Int)) = true := by simpa using hlt
      rw [h1, cond_true]
      have e1 : IntKind.wrap .i64 (IntKind.wrap .i64 ((xs.length : Int) - 1) - i) = ((xs.length - 1 - i : Nat) : Int) := by
        rw [wrap_id ((xs.length : Int) - 1) (by omega), wrap_id _ (by omega)]
        omega
      rw [e1]
      have hj : xs.length - 1 - i < xs.length := by omega
      refine ⟨by omega, by omega, xs.length - (i + 1), by omega, i + 1, by omega, rfl, ?_⟩
      rw [getD_nat xs _ hj, wrap_next i xs.length hlt (by simp only [maxLen]; omega)]
      have e2 : xs.drop (xs.length - (i + 1)) = xs[xs.length - 1 - i] :: xs.drop (xs.length - i) := by
        rw [show xs.length - (i + 1) = xs.length - 1 - i by omega, List.drop_eq_getElem_cons hj, show xs.length - 1 - i + 1 = xs.length - i by omega]
      rw [e2, most_cons, least_cons]
      have e3 : max (most (xs.drop (xs.length - i))) xs[xs.length - 1 - i] = max (max 0 xs[xs.length - 1 - i]) (most (xs.drop (xs.length - i))) := by
        have := most_nonneg (xs.drop (xs.length - i)); omega
      have e4 : min (least (xs.drop (xs.length - i))) xs[xs.length - 1 - i] = min (min 0 xs[xs.length - 1 - i]) (least (xs.drop (xs.length - i))) := by
        have := least_nonpos (xs.drop (xs.length - i)); omega
      rw [e3, e4]
      rfl
    · have h1 : decide ((i : Int) < (xs.length : Int)) = false := by simpa using hlt
      rw [h1, cond_false]
      have e : xs.drop (xs.length - i) = xs := by
        rw [show xs.length - i = 0 by omega, List.drop_zero]
      rw [e]
      simp only [beq_self_eq_true, Bool.and_true]
      exact ⟨rfl, rfl⟩
theorem law4' (xs : List Int) (cut again : Int) (hc : 0 ≤ cut ∧ cut ≤ 255) (ha : 0 ≤ again ∧ again ≤ 255) : ACalls Try.prog 4 [.list 3 (.int .i64) xs, .int .u8 cut, .int .u8 again] (.bool true) [] := by
  refine fn_ok env4_ok tab_ok mixed Try.func4 (by kernel_rfl) (by kernel_rfl) ?_
  rw [f4_run]
  by_cases hl : (xs.length : Int) > 60
  · rw [show decide ((xs.length : Int) > 60) = true by simpa using hl]
    exact ⟨rfl, rfl⟩
  · rw [show decide ((xs.length : Int) > 60) = false by simpa using hl]
    simp only [Bool.not_false, cond_true]
    refine ⟨by omega, ?_⟩
    cases hs : small xs with
    | false => simp
    | true =>
      have w1 : IntKind.wrap .i64 ((xs.length : Int) + 1) = (xs.length : Int) + 1 := wrap_id _ (by omega)
      rw [w1, wrap_id cut (by omega), wrap_id again (by omega)]
      have k0 : 0 ≤ cut.tmod ((xs.length : Int) + 1) := Int.tmod_nonneg _ hc.1
      have k1 : cut.tmod ((xs.length : Int) + 1) < (xs.length : Int) + 1 := Int.tmod_lt_of_pos _ (by omega)
      generalize cut.tmod ((xs.length : Int) + 1) = k at k0 k1 ⊢
      simp only [most_cut, least_cut, Int.max_comm (most (xs.drop _)), Int.min_comm (least (xs.drop _))]
      have m0 := most_nonneg xs
      have l0 := least_nonpos xs
      have q1 : max (most xs) (most xs) = most xs := by omega
      have q2 : min (least xs) (least xs) = least xs := by omega
      have q3 : max (most xs) 0 = most xs := by omega
      have q4 : min (least xs) 0 = least xs := by omega
      simp only [q1, q2, q3, q4, beq_self_eq_true, Bool.and_true, Bool.not_true, Bool.not_false, cond_true, cond_false]
      refine ⟨by omega, by omega, by omega, by omega, by simp; omega, by omega, by omega, by simp; omega, ?_⟩
      have hloop := loop4 xs (by omega)
      by_cases hp : (xs.length : Int) > 0
      · rw [show decide ((xs.length : Int) > 0) = true by simpa using hp, cond_true]
        have j0 : 0 ≤ again.tmod (xs.length : Int) := Int.tmod_nonneg _ ha.1
        have j1 : again.tmod (xs.length : Int) < (xs.length : Int) := Int.tmod_lt_of_pos _ hp
        refine ⟨by omega, j0, j1, ?_⟩
        have hj : (again.tmod (xs.length : Int)).toNat < xs.length := by omega
        have hg : xs.getD (again.tmod (xs.length : Int)).toNat 0 = xs[(again.tmod (xs.length : Int)).toNat] := by
          simp [List.getD, hj]
        rw [hg]
        have hm := most_mem xs _ (List.getElem_mem hj)
        have hn := least_mem xs _ (List.getElem_mem hj)
        generalize xs[(again.tmod (xs.length : Int)).toNat] = y at hm hn ⊢
        have q5 : max (most xs) y = most xs := by omega
        have q6 : min (least xs) y = least xs := by omega
        simp only [q5, q6, beq_self_eq_true, Bool.and_true, Bool.not_true, cond_false]
        exact hloop
      · rw [show decide ((xs.length : Int) > 0) = false by simpa using hp, cond_false]
        exact hloop
theorem u8_of (n : Int) (h : (Lit.int .u8 n).wf = true) : 0 ≤ n ∧ n ≤ 255 := by
  simp [Lit.wf, IntKind.min, IntKind.max, IntKind.signed, IntKind.bits] at h
  omega
theorem law4 (x : ArgsDen [(false, .list 3 (.int .i64)), (false, .int .u8), (false, .int .u8)]) (h : OkArgs [(false, .list 3 (.int .i64)), (false, .int .u8), (false, .int .u8)] x) : ACalls Try.prog 4 (argsA [(false, .list 3 (.int .i64)), (false, .int .u8), (false, .int .u8)] x) (.bool true) [] :=
  law4' x.1 x.2.1 x.2.2.1 (u8_of _ h.2.1) (u8_of _ h.2.2.1)
end Go.Proofs.Ytpojdmikpodoaaa.W
