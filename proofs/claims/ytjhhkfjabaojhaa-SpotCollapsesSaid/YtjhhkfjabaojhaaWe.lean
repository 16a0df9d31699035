/- The law SpotCollapses: its body's normal form and its loops' rules, printed by a program of ours and checked by the kernel; it answers true. -/
import Derived.Test.YtjhhkfjabaojhaaWd
namespace Go.Proofs.Ytjhhkfjabaojhaa.W
open Go Go.Proofs Go.Proofs.Ytjhhkfjabaojhaa.Aw
def f7_live1 : List Nat := [54, 53, 54, 52, 54, 7, 7, 9, 8, 8, 8, 0, 54, 7, 0, 1, 7, 7, 8, 0, 9, 1, 8, 1, 9, 8, 1, 9, 8, 8, 8, 8, 8, 0, 1, 9, 1, 6]
def f7_head1 (y : Int) (xs : List Int) (cut : Int) (s54 : Int) (o0_1 : Int) (o0_2 : Int) (o1_1 : Int) (o1_2 : Int) : St := {
  slots :=
    [AV.int IntKind.i64 y, AV.list 3 (Ty.int IntKind.i64) xs] ++ List.replicate 4 AV.undef ++
            [AV.bool false, AV.ptr 0 0, AV.ptr 1 0,
              AV.int IntKind.i64 (IntKind.i64.wrap (1 + (IntKind.i64.wrap cut).tmod (↑xs.length : Int)))] ++
          List.replicate 42 AV.undef ++
        [AV.list 3 (Ty.int IntKind.i64) (List.drop 1 xs), AV.int IntKind.i64 (↑(List.drop 1 xs).length : Int),
          AV.int IntKind.i64 s54] ++
      List.replicate 86 AV.undef,
  obs :=
    [Ob.cells 28 [AV.int IntKind.i64 y, AV.int IntKind.i64 o0_1, AV.int IntKind.i64 o0_2, AV.bool false, AV.bool false],
      Ob.cells 28
        [AV.int IntKind.i64 y, AV.int IntKind.i64 o1_1, AV.int IntKind.i64 o1_2, AV.bool false, AV.bool true]] }
def f7_q1 (R : AV → List Ob → Prop) : Ex → St → Prop := blockA 0 (seqQ tab (envOf consS4) (subC [1, 1, 1, 1, 1] (bodyOf Try.f7)) [6] (endA tab Try.f7 R))
def f7_loop1 (R : AV → List Ob → Prop) (y : Int) (xs : List Int) (cut : Int) (s54 : Int) (o0_1 : Int) (o0_2 : Int) (o1_1 : Int) (o1_2 : Int) : Prop := loopT f7_live1 (codeA tab (envOf consS4) (subC [1, 1, 1, 1, 0, 1, 0, 0] (bodyOf Try.f7)) f7_live1)
  (f7_head1 y xs cut s54 o0_1 o0_2 o1_1 o1_2) (f7_q1 R)
def f7_live2 : List Nat := [112, 111, 110, 112, 8, 8, 112, 8, 8, 8, 0, 1, 9, 1, 6]
def f7_head2 (y : Int) (xs : List Int) (cut : Int) (o1_1 : Int) (o1_2 : Int) (s112' : Int) (o0_1' : Int) (o0_2' : Int) : St := {
  slots :=
    [AV.int IntKind.i64 y, AV.list 3 (Ty.int IntKind.i64) xs] ++ List.replicate 4 AV.undef ++
            [AV.bool false, AV.undef, AV.ptr 0 0,
              AV.int IntKind.i64 (IntKind.i64.wrap (1 + (IntKind.i64.wrap cut).tmod (↑xs.length : Int)))] ++
          List.replicate 100 AV.undef ++
        [AV.list 3 (Ty.int IntKind.i64)
            (List.drop
              (IntKind.i64.wrap (IntKind.i64.wrap (1 + (IntKind.i64.wrap cut).tmod (↑xs.length : Int)) + 1)).toNat xs),
          AV.int IntKind.i64
            (↑(List.drop
                    (IntKind.i64.wrap (IntKind.i64.wrap (1 + (IntKind.i64.wrap cut).tmod (↑xs.length : Int)) + 1)).toNat
                    xs).length :
              Int),
          AV.int IntKind.i64 s112'] ++
      List.replicate 28 AV.undef,
  obs :=
    [Ob.cells 28
        [AV.int IntKind.i64 (IntKind.i64.wrap (y - IntKind.i64.wrap (o1_1 + o1_2))), AV.int IntKind.i64 o0_1',
          AV.int IntKind.i64 o0_2', AV.bool true, AV.bool false]] }
def f7_q2 (R : AV → List Ob → Prop) : Ex → St → Prop := blockA 2 (seqQ tab (envOf consS4) (subC [1, 1, 1, 1, 1, 1, 1, 1, 1] (bodyOf Try.f7)) [6] (endA tab Try.f7 R))
def f7_loop2 (R : AV → List Ob → Prop) (y : Int) (xs : List Int) (cut : Int) (o1_1 : Int) (o1_2 : Int) (s112' : Int) (o0_1' : Int) (o0_2' : Int) : Prop := loopT f7_live2 (codeA tab (envOf consS4) (subC [1, 1, 1, 1, 1, 1, 1, 1, 0, 1, 0, 0] (bodyOf Try.f7)) f7_live2)
  (f7_head2 y xs cut o1_1 o1_2 s112' o0_1' o0_2') (f7_q2 R)
def f7_rhs2 (R : AV → List Ob → Prop) (y : Int) (xs : List Int) (cut : Int) (o1_1 : Int) (o1_2 : Int) (J1 : St → Prop) (s112' : Int) (o0_1' : Int) (o0_2' : Int) : Prop := bif
    decide
      (s112' <
        (↑(List.drop
                (IntKind.i64.wrap (IntKind.i64.wrap (1 + (IntKind.i64.wrap cut).tmod (↑xs.length : Int)) + 1)).toNat
                xs).length :
          Int)) then
  0 ≤ s112' ∧
    s112' <
        (↑(List.drop
                (IntKind.i64.wrap (IntKind.i64.wrap (1 + (IntKind.i64.wrap cut).tmod (↑xs.length : Int)) + 1)).toNat
                xs).length :
          Int) ∧
      J1
        (f7_head2 y xs cut o1_1 o1_2 (IntKind.i64.wrap (s112' + 1))
          (max o0_1'
            ((List.drop
                  (IntKind.i64.wrap (IntKind.i64.wrap (1 + (IntKind.i64.wrap cut).tmod (↑xs.length : Int)) + 1)).toNat
                  xs).getD
              s112'.toNat 0))
          (min o0_2'
            ((List.drop
                  (IntKind.i64.wrap (IntKind.i64.wrap (1 + (IntKind.i64.wrap cut).tmod (↑xs.length : Int)) + 1)).toNat
                  xs).getD
              s112'.toNat 0)))
else
  0 ≤ IntKind.i64.wrap (1 + (IntKind.i64.wrap cut).tmod (↑xs.length : Int)) ∧
    IntKind.i64.wrap (1 + (IntKind.i64.wrap cut).tmod (↑xs.length : Int)) ≤ (↑xs.length : Int) ∧
      (List.take (IntKind.i64.wrap (1 + (IntKind.i64.wrap cut).tmod (↑xs.length : Int))).toNat xs).length ≤
          9223372036854775807 ∧
        xs.length ≤ 9223372036854775807 ∧
          R
            (AV.bool
              (atOf (IntKind.i64.wrap (y - IntKind.i64.wrap (o1_1 + o1_2))) o0_1' o0_2' false ==
                IntKind.i64.wrap
                  (IntKind.i64.wrap
                      (y -
                        IntKind.i64.wrap
                          (most
                              (List.take (IntKind.i64.wrap (1 + (IntKind.i64.wrap cut).tmod (↑xs.length : Int))).toNat
                                xs) +
                            least
                              (List.take (IntKind.i64.wrap (1 + (IntKind.i64.wrap cut).tmod (↑xs.length : Int))).toNat
                                xs))) +
                    IntKind.i64.wrap (most xs + least xs))))
            []
theorem f7_eq2 (R : AV → List Ob → Prop) (y : Int) (xs : List Int) (cut : Int) (o1_1 : Int) (o1_2 : Int) (J1 : St → Prop) (s112' : Int) (o0_1' : Int) (o0_2' : Int) : codeA tab (envOf consS4) (subC [1, 1, 1, 1, 1, 1, 1, 1, 0, 1, 0, 0] (bodyOf Try.f7)) f7_live2
  (f7_head2 y xs cut o1_1 o1_2 s112' o0_1' o0_2') (thenA (fun s => J1 (St.tidy f7_live2 s)) (f7_q2 R)) = f7_rhs2 R y xs cut o1_1 o1_2 J1 s112' o0_1' o0_2' := by kernel_rfl
theorem f7_rule2 (R : AV → List Ob → Prop) (y : Int) (xs : List Int) (cut : Int) (o1_1 : Int) (o1_2 : Int) (I : Nat → (Int) → (Int) → (Int) → Prop) (n : Nat) (s112' : Int) (o0_1' : Int) (o0_2' : Int) (h0 : I n s112' o0_1' o0_2') (h : ∀ n, ∀ (s112' : Int) (o0_1' : Int) (o0_2' : Int), I n s112' o0_1' o0_2' → f7_rhs2 R y xs cut o1_1 o1_2 (fun t => ∃ m, m < n ∧ ∃ (s112' : Int) (o0_1' : Int) (o0_2' : Int), t = f7_head2 y xs cut o1_1 o1_2 s112' o0_1' o0_2' ∧ I m s112' o0_1' o0_2') s112' o0_1' o0_2') : f7_loop2 R y xs cut o1_1 o1_2 s112' o0_1' o0_2' :=
  loop_intro (fun n t => ∃ (s112' : Int) (o0_1' : Int) (o0_2' : Int), t = f7_head2 y xs cut o1_1 o1_2 s112' o0_1' o0_2' ∧ I n s112' o0_1' o0_2') n ⟨s112', o0_1', o0_2', rfl, h0⟩ (fun n t ht => by obtain ⟨s112', o0_1', o0_2', rfl, hI⟩ := ht; exact Eq.mpr (f7_eq2 R y xs cut o1_1 o1_2 (fun t => ∃ m, m < n ∧ ∃ (s112' : Int) (o0_1' : Int) (o0_2' : Int), t = f7_head2 y xs cut o1_1 o1_2 s112' o0_1' o0_2' ∧ I m s112' o0_1' o0_2') s112' o0_1' o0_2') (h n s112' o0_1' o0_2' hI))
def f7_rhs1 (R : AV → List Ob → Prop) (y : Int) (xs : List Int) (cut : Int) (J : St → Prop) (s54 : Int) (o0_1 : Int) (o0_2 : Int) (o1_1 : Int) (o1_2 : Int) : Prop := bif decide (s54 < (↑(List.drop 1 xs).length : Int)) then
  0 ≤ s54 ∧
    s54 < (↑(List.drop 1 xs).length : Int) ∧
      bif
          decide
            (IntKind.i64.wrap (s54 + 1) < IntKind.i64.wrap (1 + (IntKind.i64.wrap cut).tmod (↑xs.length : Int))) then
        bif
            atOf y (max o1_1 ((List.drop 1 xs).getD s54.toNat 0)) (min o1_2 ((List.drop 1 xs).getD s54.toNat 0)) true !=
              y then
          R (AV.bool false) []
        else
          J
            (f7_head1 y xs cut (IntKind.i64.wrap (s54 + 1)) (max o0_1 ((List.drop 1 xs).getD s54.toNat 0))
              (min o0_2 ((List.drop 1 xs).getD s54.toNat 0)) (max o1_1 ((List.drop 1 xs).getD s54.toNat 0))
              (min o1_2 ((List.drop 1 xs).getD s54.toNat 0)))
      else
        J
          (f7_head1 y xs cut (IntKind.i64.wrap (s54 + 1)) (max o0_1 ((List.drop 1 xs).getD s54.toNat 0))
            (min o0_2 ((List.drop 1 xs).getD s54.toNat 0)) o1_1 o1_2)
else
  xs.length ≤ 9223372036854775807 ∧
    bif !atOf y o0_1 o0_2 false != IntKind.i64.wrap (y + IntKind.i64.wrap (most xs + least xs)) then
      bif
          !!(IntKind.i64.wrap (atOf y o0_1 o0_2 false + 3) == IntKind.i64.wrap (atOf y o0_1 o0_2 false + 3) &&
                true) then
        bif !(IntKind.i64.wrap (atOf y o1_1 o1_2 true + 0) == y && true) then R (AV.bool false) []
        else
          bif IntKind.i64.wrap (1 + (IntKind.i64.wrap cut).tmod (↑xs.length : Int)) == (↑xs.length : Int) then
            R (AV.bool true) []
          else
            0 ≤ IntKind.i64.wrap (1 + (IntKind.i64.wrap cut).tmod (↑xs.length : Int)) ∧
              IntKind.i64.wrap (1 + (IntKind.i64.wrap cut).tmod (↑xs.length : Int)) < (↑xs.length : Int) ∧
                0 ≤ IntKind.i64.wrap (IntKind.i64.wrap (1 + (IntKind.i64.wrap cut).tmod (↑xs.length : Int)) + 1) ∧
                  IntKind.i64.wrap (IntKind.i64.wrap (1 + (IntKind.i64.wrap cut).tmod (↑xs.length : Int)) + 1) ≤
                      (↑xs.length : Int) ∧
                    f7_loop2 R y xs cut o1_1 o1_2 0
                      (max o1_1
                        (xs.getD (IntKind.i64.wrap (1 + (IntKind.i64.wrap cut).tmod (↑xs.length : Int))).toNat 0))
                      (min o1_2
                        (xs.getD (IntKind.i64.wrap (1 + (IntKind.i64.wrap cut).tmod (↑xs.length : Int))).toNat 0))
      else R (AV.bool false) []
    else R (AV.bool false) []
theorem f7_eq1 (R : AV → List Ob → Prop) (y : Int) (xs : List Int) (cut : Int) (J : St → Prop) (s54 : Int) (o0_1 : Int) (o0_2 : Int) (o1_1 : Int) (o1_2 : Int) : codeA tab (envOf consS4) (subC [1, 1, 1, 1, 0, 1, 0, 0] (bodyOf Try.f7)) f7_live1
  (f7_head1 y xs cut s54 o0_1 o0_2 o1_1 o1_2) (thenA (fun s => J (St.tidy f7_live1 s)) (f7_q1 R)) = f7_rhs1 R y xs cut J s54 o0_1 o0_2 o1_1 o1_2 := by kernel_rfl
theorem f7_rule1 (R : AV → List Ob → Prop) (y : Int) (xs : List Int) (cut : Int) (I : Nat → (Int) → (Int) → (Int) → (Int) → (Int) → Prop) (n : Nat) (s54 : Int) (o0_1 : Int) (o0_2 : Int) (o1_1 : Int) (o1_2 : Int) (h0 : I n s54 o0_1 o0_2 o1_1 o1_2) (h : ∀ n, ∀ (s54 : Int) (o0_1 : Int) (o0_2 : Int) (o1_1 : Int) (o1_2 : Int), I n s54 o0_1 o0_2 o1_1 o1_2 → f7_rhs1 R y xs cut (fun t => ∃ m, m < n ∧ ∃ (s54 : Int) (o0_1 : Int) (o0_2 : Int) (o1_1 : Int) (o1_2 : Int), t = f7_head1 y xs cut s54 o0_1 o0_2 o1_1 o1_2 ∧ I m s54 o0_1 o0_2 o1_1 o1_2) s54 o0_1 o0_2 o1_1 o1_2) : f7_loop1 R y xs cut s54 o0_1 o0_2 o1_1 o1_2 :=
  loop_intro (fun n t => ∃ (s54 : Int) (o0_1 : Int) (o0_2 : Int) (o1_1 : Int) (o1_2 : Int), t = f7_head1 y xs cut s54 o0_1 o0_2 o1_1 o1_2 ∧ I n s54 o0_1 o0_2 o1_1 o1_2) n ⟨s54, o0_1, o0_2, o1_1, o1_2, rfl, h0⟩ (fun n t ht => by obtain ⟨s54, o0_1, o0_2, o1_1, o1_2, rfl, hI⟩ := ht; exact Eq.mpr (f7_eq1 R y xs cut (fun t => ∃ m, m < n ∧ ∃ (s54 : Int) (o0_1 : Int) (o0_2 : Int) (o1_1 : Int) (o1_2 : Int), t = f7_head1 y xs cut s54 o0_1 o0_2 o1_1 o1_2 ∧ I m s54 o0_1 o0_2 o1_1 o1_2) s54 o0_1 o0_2 o1_1 o1_2) (h n s54 o0_1 o0_2 o1_1 o1_2 hI))
theorem f7_run (R : AV → List Ob → Prop) (y : Int) (xs : List Int) (cut : Int) : fnA tab (envOf consS4) Try.f7 (bodyOf Try.f7) [.int .i64 y, .list 3 (.int .i64) xs, .int .u8 cut] R = (bif !decide ((↑xs.length : Int) > 40) then
  bif !(↑xs.length : Int) == 0 then
    ([y].length + xs.length) * 8 ≤ 140737488355328 ∧
      ([y] ++ xs).length ≤ 9223372036854775807 ∧
        bif !small ([y] ++ xs) then R (AV.bool true) []
        else
          (0 : Int) ≤ 0 ∧
            0 < (↑xs.length : Int) ∧
              (0 : Int) ≤ 0 ∧
                0 < (↑xs.length : Int) ∧
                  (↑xs.length : Int) ≠ 0 ∧
                    (0 : Int) ≤ 1 ∧
                      1 ≤ (↑xs.length : Int) ∧
                        f7_loop1 R y xs cut 0 (max 0 (xs.getD 0 0)) (min 0 (xs.getD 0 0)) (max 0 (xs.getD 0 0))
                          (min 0 (xs.getD 0 0))
  else R (AV.bool true) []
else R (AV.bool true) []) := by kernel_rfl
theorem getD_drop (xs : List Int) (d i : Nat) (h : d + i < xs.length) : (xs.drop d).getD ((i : Int).toNat) 0 = xs[d + i] := by
  simp [List.getD, h]
theorem law7' (y : Int) (xs : List Int) (cut : Int) (hc : 0 ≤ cut ∧ cut ≤ 255) : ACalls Try.prog 7 [.int .i64 y, .list 3 (.int .i64) xs, .int .u8 cut] (.bool true) [] := by
  refine fn_ok envS4_ok tab_ok mixed Try.func7 (by kernel_rfl) (by kernel_rfl) ?_
  rw [f7_run]
  by_cases hl : (xs.length : Int) > 40
  · exact cond_no (by simp; omega) ⟨rfl, rfl⟩
  refine cond_of (by simp; omega) ?_
  by_cases hl0 : xs.length = 0
  · exact cond_no (by simp [hl0]) ⟨rfl, rfl⟩
  refine cond_of (by simp; intro h; simp [h] at hl0) ⟨by simp; omega, by simp; omega, ?_⟩
  cases hs : small ([y] ++ xs) with
  | false => exact ⟨rfl, rfl⟩
  | true =>
    have hall := small_all _ hs
    have hy := hall y (by simp)
    have hx : ∀ x ∈ xs, -1125899906842624 ≤ x ∧ x ≤ 1125899906842624 := fun x h => hall x (by simp [h])
    have t0 : 0 ≤ cut.tmod (xs.length : Int) := Int.tmod_nonneg _ hc.1
    have t1 : cut.tmod (xs.length : Int) < (xs.length : Int) := Int.tmod_lt_of_pos _ (by omega)
    obtain ⟨K, hK⟩ : ∃ K : Nat, (K : Int) = 1 + cut.tmod (xs.length : Int) := ⟨(1 + cut.tmod (xs.length : Int)).toNat, by omega⟩
    have hk1 : IntKind.wrap .i64 (1 + (IntKind.wrap .i64 cut).tmod (xs.length : Int)) = (K : Int) := by
      rw [wrap_id cut (by omega), ← hK, wrap_id _ (by omega)]
    have hk2 : IntKind.wrap .i64 ((K : Int) + 1) = ((K + 1 : Nat) : Int) := by rw [wrap_id _ (by omega)]; omega
    have hK1 : 1 ≤ K := by omega
    have hK2 : K ≤ xs.length := by omega
    have hmb : ∀ n, 0 ≤ most (xs.take n) ∧ most (xs.take n) ≤ 1125899906842624 := fun n => most_bd _ fun x h => hx x (List.mem_of_mem_take h)
    have hlb : ∀ n, -1125899906842624 ≤ least (xs.take n) ∧ least (xs.take n) ≤ 0 := fun n => least_bd _ fun x h => hx x (List.mem_of_mem_take h)
    simp only [Bool.not_true, cond_false]
    refine ⟨by omega, by omega, by omega, by omega, by omega, by omega, by omega, ?_⟩
    have h00 : xs.getD 0 0 = xs[0]'(by omega) := getD_nat xs 0 (by omega)
    have hm1 : max 0 (xs.getD 0 0) = most (xs.take 1) := by
      rw [h00, most_next xs 0 (by omega)]; simp [most]
    have hl1 : min 0 (xs.getD 0 0) = least (xs.take 1) := by
      rw [h00, least_next xs 0 (by omega)]; simp [least]
    rw [hm1, hl1]
    refine f7_rule1 yes y xs cut (fun n i m l m1 l1 => ∃ k : Nat, k < xs.length ∧ n = xs.length - k ∧ i = k ∧ m = most (xs.take (k + 1)) ∧ l = least (xs.take (k + 1)) ∧ m1 = most (xs.take (min (k + 1) K)) ∧ l1 = least (xs.take (min (k + 1) K))) xs.length 0 _ _ _ _ ⟨0, by omega, by simp, rfl, rfl, rfl, by rw [show min (0 + 1) K = 1 by omega], by rw [show min (0 + 1) K = 1 by omega]⟩ ?_
    rintro n i m l m1 l1 ⟨k, hk, rfl, rfl, rfl, rfl, rfl, rfl⟩
    unfold f7_rhs1
    have hd : (xs.drop 1).length = xs.length - 1 := by simp
    rw [hk1, hk2]
    by_cases hlt : k + 1 < xs.length
    · have hw := wrap_next k xs.length hk (by simp only [maxLen]; omega)
      have hg := getD_drop xs 1 k (by omega)
      have e1 : 1 + k = k + 1 := by omega
      simp only [e1] at hg
      refine dec_yes (by rw [hd]; omega) ⟨by omega, by rw [hd]; omega, ?_⟩
      rw [hw, hg]
      by_cases hkk : k + 1 < K
      · refine dec_yes (by omega) (cond_no (by simp [atOf]) ?_)
        refine ⟨xs.length - (k + 1), by omega, _, _, _, _, _, rfl, k + 1, hlt, rfl, rfl, ?_, ?_, ?_, ?_⟩
        · rw [most_next xs (k + 1) hlt]
        · rw [least_next xs (k + 1) hlt]
        · rw [show min (k + 1 + 1) K = k + 1 + 1 by omega, show min (k + 1) K = k + 1 by omega, most_next xs (k + 1) hlt]
        · rw [show min (k + 1 + 1) K = k + 1 + 1 by omega, show min (k + 1) K = k + 1 by omega, least_next xs (k + 1) hlt]
      · refine dec_no (by omega) ?_
        refine ⟨xs.length - (k + 1), by omega, _, _, _, _, _, rfl, k + 1, hlt, rfl, rfl, ?_, ?_, ?_, ?_⟩
        · rw [most_next xs (k + 1) hlt]
        · rw [least_next xs (k + 1) hlt]
        · rw [show min (k + 1 + 1) K = K by omega, show min (k + 1) K = K by omega]
        · rw [show min (k + 1 + 1) K = K by omega, show min (k + 1) K = K by omega]
    · refine dec_no (by rw [hd]; omega) ⟨by omega, ?_⟩
      have e : xs.take (k + 1) = xs := List.take_of_length_le (by omega)
      have e2 : min (k + 1) K = K := by omega
      rw [e, e2]
      refine cond_of (by simp [atOf]) (cond_of (by simp) (cond_no ?_ ?_))
      · have : IntKind.wrap .i64 (atOf y (most (xs.take K)) (least (xs.take K)) true + 0) = y := by
          show IntKind.wrap .i64 (y + 0) = y
          rw [wrap_id _ (by omega)]; omega
        rw [this]; simp
      by_cases hKl : K = xs.length
      · exact cond_of (by simp [hKl]) ⟨rfl, rfl⟩
      refine cond_no (by simp; omega) ⟨by omega, by omega, by omega, by omega, ?_⟩
      have hg0 : xs.getD ((K : Int)).toNat 0 = xs[K]'(by omega) := getD_nat xs K (by omega)
      rw [hg0, ← most_next xs K (by omega), ← least_next xs K (by omega)]
      refine f7_rule2 yes y xs cut _ _ (fun n i m l => ∃ j : Nat, j + K + 1 ≤ xs.length ∧ n = xs.length - j ∧ i = j ∧ m = most (xs.take (K + 1 + j)) ∧ l = least (xs.take (K + 1 + j))) xs.length 0 _ _ ⟨0, by omega, by simp, rfl, rfl, rfl⟩ ?_
      rintro n i m l ⟨j, hj, rfl, rfl, rfl, rfl⟩
      unfold f7_rhs2
      rw [hk1, hk2]
      have hdl : (List.drop ((K + 1 : Nat) : Int).toNat xs).length = xs.length - (K + 1) := by simp
      have etn : ((K + 1 : Nat) : Int).toNat = K + 1 := by omega
      have hdl2 : (xs.drop (K + 1)).length = xs.length - (K + 1) := by simp
      rw [etn]
      by_cases hlt2 : K + 1 + j < xs.length
      · have hw := wrap_next j xs.length (by omega) (by simp only [maxLen]; omega)
        have hg := getD_drop xs (K + 1) j (by omega)
        refine dec_yes (by rw [hdl2]; omega) ⟨by omega, by rw [hdl2]; omega, ?_⟩
        rw [hw, hg]
        refine ⟨xs.length - (j + 1), by omega, _, _, _, rfl, j + 1, by omega, rfl, rfl, ?_, ?_⟩
        · rw [show K + 1 + (j + 1) = K + 1 + j + 1 by omega, most_next xs (K + 1 + j) hlt2]
        · rw [show K + 1 + (j + 1) = K + 1 + j + 1 by omega, least_next xs (K + 1 + j) hlt2]
      · refine dec_no (by rw [hdl2]; omega) ⟨by omega, by omega, by simp; omega, by omega, ?_⟩
        have e3 : xs.take (K + 1 + j) = xs := List.take_of_length_le (by omega)
        rw [e3]
        refine ⟨?_, rfl⟩
        simp [atOf]
theorem law7 (x : ArgsDen [(false, .int .i64), (false, .list 3 (.int .i64)), (false, .int .u8)]) (h : OkArgs [(false, .int .i64), (false, .list 3 (.int .i64)), (false, .int .u8)] x) : ACalls Try.prog 7 (argsA [(false, .int .i64), (false, .list 3 (.int .i64)), (false, .int .u8)] x) (.bool true) [] :=
  law7' x.1 x.2.1 x.2.2.1 (u8_of _ h.2.2.1)
end Go.Proofs.Ytjhhkfjabaojhaa.W
