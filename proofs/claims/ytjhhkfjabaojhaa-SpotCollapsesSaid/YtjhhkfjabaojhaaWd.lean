/- The law SpotFixes: its body's normal form and its loops' rules, printed by a program of ours and checked by the kernel; it answers true. -/
import Derived.Test.YtjhhkfjabaojhaaWc
namespace Go.Proofs.Ytjhhkfjabaojhaa.W
open Go Go.Proofs Go.Proofs.Ytjhhkfjabaojhaa.Aw
def f4_live1 : List Nat := [44, 43, 42, 44, 9, 9, 44, 9, 3, 9, 3, 2, 9, 3, 2, 9, 3, 8]
def f4_head1 (y : Int) (xs : List Int) (zs : List Int) (edge : Int) (s44 : Int) (o0_1 : Int) (o0_2 : Int) : St := {
  slots :=
    [AV.undef, AV.undef, AV.list 3 (Ty.int IntKind.i64) zs, AV.int IntKind.i64 edge] ++ List.replicate 4 AV.undef ++
            [AV.bool false, AV.ptr 0 0] ++
          List.replicate 32 AV.undef ++
        [AV.list 3 (Ty.int IntKind.i64) xs, AV.int IntKind.i64 (↑xs.length : Int), AV.int IntKind.i64 s44] ++
      List.replicate 75 AV.undef,
  obs :=
    [Ob.cells 28
        [AV.int IntKind.i64 y, AV.int IntKind.i64 o0_1, AV.int IntKind.i64 o0_2, AV.bool false, AV.bool false]] }
def f4_q1 (R : AV → List Ob → Prop) : Ex → St → Prop := blockA 0 (seqQ tab (envOf consS4) (subC [1, 1, 1, 1] (bodyOf Try.f4)) [8] (endA tab Try.f4 R))
def f4_loop1 (R : AV → List Ob → Prop) (y : Int) (xs : List Int) (zs : List Int) (edge : Int) (s44 : Int) (o0_1 : Int) (o0_2 : Int) : Prop := loopT f4_live1 (codeA tab (envOf consS4) (subC [1, 1, 1, 0, 1, 0, 0] (bodyOf Try.f4)) f4_live1)
  (f4_head1 y xs zs edge s44 o0_1 o0_2) (f4_q1 R)
def f4_live2 : List Nat := [86, 85, 84, 86, 13, 13, 86, 13, 9, 3, 2, 13, 13, 9, 3, 12, 8]
def f4_head2 (y : Int) (zs : List Int) (edge : Int) (o0_1 : Int) (o0_2 : Int) (s86' : Int) (o2_1' : Int) (o2_2' : Int) : St := {
  slots :=
    [AV.undef, AV.undef, AV.list 3 (Ty.int IntKind.i64) zs, AV.int IntKind.i64 edge] ++ List.replicate 4 AV.undef ++
            [AV.bool false, AV.ptr 0 0, AV.undef, AV.undef, AV.ptr 1 0, AV.ptr 2 0] ++
          List.replicate 70 AV.undef ++
        [AV.list 3 (Ty.int IntKind.i64) zs, AV.int IntKind.i64 (↑zs.length : Int), AV.int IntKind.i64 s86'] ++
      List.replicate 33 AV.undef,
  obs :=
    [Ob.cells 28 [AV.int IntKind.i64 y, AV.int IntKind.i64 o0_1, AV.int IntKind.i64 o0_2, AV.bool false, AV.bool false],
      Ob.cells 28
        [AV.int IntKind.i64 (IntKind.i64.wrap (atOf y o0_1 o0_2 false + edge)), AV.int IntKind.i64 0,
          AV.int IntKind.i64 0, AV.bool false, AV.bool false],
      Ob.cells 28
        [AV.int IntKind.i64 (IntKind.i64.wrap (atOf y o0_1 o0_2 false + edge)), AV.int IntKind.i64 o2_1',
          AV.int IntKind.i64 o2_2', AV.bool false, AV.bool false]] }
def f4_q2 (R : AV → List Ob → Prop) : Ex → St → Prop := blockA 2 (seqQ tab (envOf consS4) (subC [1, 1, 1, 1, 1, 1, 1, 1] (bodyOf Try.f4)) [8] (endA tab Try.f4 R))
def f4_loop2 (R : AV → List Ob → Prop) (y : Int) (zs : List Int) (edge : Int) (o0_1 : Int) (o0_2 : Int) (s86' : Int) (o2_1' : Int) (o2_2' : Int) : Prop := loopT f4_live2 (codeA tab (envOf consS4) (subC [1, 1, 1, 1, 1, 1, 1, 0, 1, 0, 0] (bodyOf Try.f4)) f4_live2)
  (f4_head2 y zs edge o0_1 o0_2 s86' o2_1' o2_2') (f4_q2 R)
def f4_rhs2 (R : AV → List Ob → Prop) (y : Int) (zs : List Int) (edge : Int) (o0_1 : Int) (o0_2 : Int) (J1 : St → Prop) (s86' : Int) (o2_1' : Int) (o2_2' : Int) : Prop := bif decide (s86' < (↑zs.length : Int)) then
  0 ≤ s86' ∧
    s86' < (↑zs.length : Int) ∧
      J1
        (f4_head2 y zs edge o0_1 o0_2 (IntKind.i64.wrap (s86' + 1)) (max o2_1' (zs.getD s86'.toNat 0))
          (min o2_2' (zs.getD s86'.toNat 0)))
else
  zs.length ≤ 9223372036854775807 ∧
    bif
        atOf (IntKind.i64.wrap (atOf y o0_1 o0_2 false + edge)) o2_1' o2_2' false ==
          IntKind.i64.wrap
            (IntKind.i64.wrap (atOf y o0_1 o0_2 false + edge) + IntKind.i64.wrap (most zs + least zs)) then
      bif
          atOf (IntKind.i64.wrap (atOf y o0_1 o0_2 false + edge)) (max o2_1' 0) (min o2_2' 0) false ==
            atOf (IntKind.i64.wrap (atOf y o0_1 o0_2 false + edge)) o2_1' o2_2' false then
        R
          (AV.bool
            (IntKind.i64.wrap (atOf (IntKind.i64.wrap (atOf y o0_1 o0_2 false + 0)) 0 0 false + edge) ==
                IntKind.i64.wrap (atOf y o0_1 o0_2 false + edge) &&
              true))
          []
      else R (AV.bool false) []
    else R (AV.bool false) []
theorem f4_eq2 (R : AV → List Ob → Prop) (y : Int) (zs : List Int) (edge : Int) (o0_1 : Int) (o0_2 : Int) (J1 : St → Prop) (s86' : Int) (o2_1' : Int) (o2_2' : Int) : codeA tab (envOf consS4) (subC [1, 1, 1, 1, 1, 1, 1, 0, 1, 0, 0] (bodyOf Try.f4)) f4_live2
  (f4_head2 y zs edge o0_1 o0_2 s86' o2_1' o2_2') (thenA (fun s => J1 (St.tidy f4_live2 s)) (f4_q2 R)) = f4_rhs2 R y zs edge o0_1 o0_2 J1 s86' o2_1' o2_2' := by kernel_rfl
theorem f4_rule2 (R : AV → List Ob → Prop) (y : Int) (zs : List Int) (edge : Int) (o0_1 : Int) (o0_2 : Int) (I : Nat → (Int) → (Int) → (Int) → Prop) (n : Nat) (s86' : Int) (o2_1' : Int) (o2_2' : Int) (h0 : I n s86' o2_1' o2_2') (h : ∀ n, ∀ (s86' : Int) (o2_1' : Int) (o2_2' : Int), I n s86' o2_1' o2_2' → f4_rhs2 R y zs edge o0_1 o0_2 (fun t => ∃ m, m < n ∧ ∃ (s86' : Int) (o2_1' : Int) (o2_2' : Int), t = f4_head2 y zs edge o0_1 o0_2 s86' o2_1' o2_2' ∧ I m s86' o2_1' o2_2') s86' o2_1' o2_2') : f4_loop2 R y zs edge o0_1 o0_2 s86' o2_1' o2_2' :=
  loop_intro (fun n t => ∃ (s86' : Int) (o2_1' : Int) (o2_2' : Int), t = f4_head2 y zs edge o0_1 o0_2 s86' o2_1' o2_2' ∧ I n s86' o2_1' o2_2') n ⟨s86', o2_1', o2_2', rfl, h0⟩ (fun n t ht => by obtain ⟨s86', o2_1', o2_2', rfl, hI⟩ := ht; exact Eq.mpr (f4_eq2 R y zs edge o0_1 o0_2 (fun t => ∃ m, m < n ∧ ∃ (s86' : Int) (o2_1' : Int) (o2_2' : Int), t = f4_head2 y zs edge o0_1 o0_2 s86' o2_1' o2_2' ∧ I m s86' o2_1' o2_2') s86' o2_1' o2_2') (h n s86' o2_1' o2_2' hI))
def f4_rhs1 (R : AV → List Ob → Prop) (y : Int) (xs : List Int) (zs : List Int) (edge : Int) (J : St → Prop) (s44 : Int) (o0_1 : Int) (o0_2 : Int) : Prop := bif decide (s44 < (↑xs.length : Int)) then
  0 ≤ s44 ∧
    s44 < (↑xs.length : Int) ∧
      J
        (f4_head1 y xs zs edge (IntKind.i64.wrap (s44 + 1)) (max o0_1 (xs.getD s44.toNat 0))
          (min o0_2 (xs.getD s44.toNat 0)))
else
  bif !IntKind.i64.wrap (atOf y o0_1 o0_2 false + edge) != IntKind.i64.wrap (atOf y o0_1 o0_2 false + edge) then
    bif
        !atOf (IntKind.i64.wrap (atOf y o0_1 o0_2 false + edge)) 0 0 false !=
            IntKind.i64.wrap (atOf y o0_1 o0_2 false + edge) then
      f4_loop2 R y zs edge o0_1 o0_2 0 0 0
    else R (AV.bool false) []
  else R (AV.bool false) []
theorem f4_eq1 (R : AV → List Ob → Prop) (y : Int) (xs : List Int) (zs : List Int) (edge : Int) (J : St → Prop) (s44 : Int) (o0_1 : Int) (o0_2 : Int) : codeA tab (envOf consS4) (subC [1, 1, 1, 0, 1, 0, 0] (bodyOf Try.f4)) f4_live1 (f4_head1 y xs zs edge s44 o0_1 o0_2)
  (thenA (fun s => J (St.tidy f4_live1 s)) (f4_q1 R)) = f4_rhs1 R y xs zs edge J s44 o0_1 o0_2 := by kernel_rfl
theorem f4_rule1 (R : AV → List Ob → Prop) (y : Int) (xs : List Int) (zs : List Int) (edge : Int) (I : Nat → (Int) → (Int) → (Int) → Prop) (n : Nat) (s44 : Int) (o0_1 : Int) (o0_2 : Int) (h0 : I n s44 o0_1 o0_2) (h : ∀ n, ∀ (s44 : Int) (o0_1 : Int) (o0_2 : Int), I n s44 o0_1 o0_2 → f4_rhs1 R y xs zs edge (fun t => ∃ m, m < n ∧ ∃ (s44 : Int) (o0_1 : Int) (o0_2 : Int), t = f4_head1 y xs zs edge s44 o0_1 o0_2 ∧ I m s44 o0_1 o0_2) s44 o0_1 o0_2) : f4_loop1 R y xs zs edge s44 o0_1 o0_2 :=
  loop_intro (fun n t => ∃ (s44 : Int) (o0_1 : Int) (o0_2 : Int), t = f4_head1 y xs zs edge s44 o0_1 o0_2 ∧ I n s44 o0_1 o0_2) n ⟨s44, o0_1, o0_2, rfl, h0⟩ (fun n t ht => by obtain ⟨s44, o0_1, o0_2, rfl, hI⟩ := ht; exact Eq.mpr (f4_eq1 R y xs zs edge (fun t => ∃ m, m < n ∧ ∃ (s44 : Int) (o0_1 : Int) (o0_2 : Int), t = f4_head1 y xs zs edge s44 o0_1 o0_2 ∧ I m s44 o0_1 o0_2) s44 o0_1 o0_2) (h n s44 o0_1 o0_2 hI))
theorem f4_run (R : AV → List Ob → Prop) (y : Int) (xs zs : List Int) (edge : Int) : fnA tab (envOf consS4) Try.f4 (bodyOf Try.f4) [.int .i64 y, .list 3 (.int .i64) xs, .list 3 (.int .i64) zs, .int .i64 edge] R = (bif !decide ((↑xs.length : Int) > 20) then
  bif !decide ((↑zs.length : Int) > 20) then
    ([y, edge].length + xs.length) * 8 ≤ 140737488355328 ∧
      (([y, edge] ++ xs).length + zs.length) * 8 ≤ 140737488355328 ∧
        ([y, edge] ++ xs ++ zs).length ≤ 9223372036854775807 ∧
          bif !small ([y, edge] ++ xs ++ zs) then R (AV.bool true) [] else f4_loop1 R y xs zs edge 0 0 0
  else R (AV.bool true) []
else R (AV.bool true) []) := by kernel_rfl
theorem atOf_is (y m l : Int) (hy : -9007199254740992 ≤ y ∧ y ≤ 9007199254740992) (hm : 0 ≤ m ∧ m ≤ 1125899906842624) (hl : -1125899906842624 ≤ l ∧ l ≤ 0) : atOf y m l false = y + (m + l) := by
  show IntKind.wrap .i64 (y + IntKind.wrap .i64 (m + l)) = _
  rw [wrap_id (m + l) (by omega), wrap_id _ (by omega)]
theorem most_bd (xs : List Int) (h : ∀ x ∈ xs, -1125899906842624 ≤ x ∧ x ≤ 1125899906842624) : 0 ≤ most xs ∧ most xs ≤ 1125899906842624 := ⟨most_nonneg xs, most_le xs _ (by omega) fun x hx => (h x hx).2⟩
theorem least_bd (xs : List Int) (h : ∀ x ∈ xs, -1125899906842624 ≤ x ∧ x ≤ 1125899906842624) : -1125899906842624 ≤ least xs ∧ least xs ≤ 0 := ⟨least_ge xs _ (by omega) fun x hx => (h x hx).1, least_nonpos xs⟩
theorem small_all (xs : List Int) (h : small xs = true) : ∀ x ∈ xs, -1125899906842624 ≤ x ∧ x ≤ 1125899906842624 := by
  simp [small] at h
  exact h
theorem cond_no {c : Bool} {X Y : Prop} (h : c = false) (hy : Y) : bif c then X else Y := by rw [h]; exact hy
theorem dec_yes {p : Prop} [Decidable p] {X Y : Prop} (h : p) (hx : X) : bif decide p then X else Y := by rw [decide_eq_true h]; exact hx
theorem dec_no {p : Prop} [Decidable p] {X Y : Prop} (h : ¬ p) (hy : Y) : bif decide p then X else Y := by rw [decide_eq_false h]; exact hy
theorem law4' (y : Int) (xs zs : List Int) (edge : Int) : ACalls Try.prog 4 [.int .i64 y, .list 3 (.int .i64) xs, .list 3 (.int .i64) zs, .int .i64 edge] (.bool true) [] := by
  refine fn_ok envS4_ok tab_ok mixed Try.func4 (by kernel_rfl) (by kernel_rfl) ?_
  rw [f4_run]
  by_cases hl : (xs.length : Int) > 20
  · exact cond_no (by simp; omega) ⟨rfl, rfl⟩
  refine cond_of (by simp; omega) ?_
  by_cases hl2 : (zs.length : Int) > 20
  · exact cond_no (by simp; omega) ⟨rfl, rfl⟩
  refine cond_of (by simp; omega) ⟨by simp; omega, by simp; omega, by simp; omega, ?_⟩
  cases hs : small ([y, edge] ++ xs ++ zs) with
  | false => exact ⟨rfl, rfl⟩
  | true =>
    have hall := small_all _ hs
    have hy := hall y (by simp)
    have he := hall edge (by simp)
    have hx : ∀ x ∈ xs, -1125899906842624 ≤ x ∧ x ≤ 1125899906842624 := fun x h => hall x (by simp [h])
    have hz : ∀ x ∈ zs, -1125899906842624 ≤ x ∧ x ≤ 1125899906842624 := fun x h => hall x (by simp [h])
    have m1 := most_bd xs hx
    have l1 := least_bd xs hx
    have m2 := most_bd zs hz
    have l2 := least_bd zs hz
    simp only [Bool.not_true, cond_false]
    refine f4_rule1 yes y xs zs edge (fun n i m l => ∃ k : Nat, k ≤ xs.length ∧ n = xs.length - k ∧ i = k ∧ m = most (xs.take k) ∧ l = least (xs.take k)) xs.length 0 0 0 ⟨0, by omega, by simp, rfl, rfl, rfl⟩ ?_
    rintro n i m l ⟨k, hk, rfl, rfl, rfl, rfl⟩
    unfold f4_rhs1
    by_cases hlt : k < xs.length
    · refine dec_yes (by omega) ⟨by omega, by omega, xs.length - (k + 1), by omega, _, _, _, rfl, k + 1, by omega, rfl, wrap_next k xs.length hlt (by simp only [maxLen]; omega), ?_, ?_⟩
      · rw [getD_nat xs k hlt, most_next xs k hlt]
      · rw [getD_nat xs k hlt, least_next xs k hlt]
    · refine dec_no (by omega) ?_
      have e : xs.take k = xs := List.take_of_length_le (by omega)
      rw [e]
      have a1 : atOf y (most xs) (least xs) false = y + (most xs + least xs) := atOf_is _ _ _ (by omega) m1 l1
      have a2 : IntKind.wrap .i64 (y + (most xs + least xs) + edge) = y + (most xs + least xs) + edge := wrap_id _ (by omega)
      have a3 : ∀ z : Int, -9007199254740992 ≤ z ∧ z ≤ 9007199254740992 → atOf z 0 0 false = z := by
        intro z hz
        show IntKind.wrap .i64 (z + IntKind.wrap .i64 (0 + 0)) = z
        rw [wrap_id (0 + 0) (by omega), wrap_id _ (by omega)]
        omega
      simp only [a1, a2, a3 (y + (most xs + least xs) + edge) (by omega)]
      simp only [bne_self_eq_false, Bool.not_false, cond_true]

      refine f4_rule2 yes y zs edge (most xs) (least xs) (fun n i m l => ∃ k : Nat, k ≤ zs.length ∧ n = zs.length - k ∧ i = k ∧ m = most (zs.take k) ∧ l = least (zs.take k)) zs.length 0 0 0 ⟨0, by omega, by simp, rfl, rfl, rfl⟩ ?_
      rintro n i m l ⟨j, hj, rfl, rfl, rfl, rfl⟩
      unfold f4_rhs2
      by_cases hlt2 : j < zs.length
      · refine dec_yes (by omega) ⟨by omega, by omega, zs.length - (j + 1), by omega, _, _, _, rfl, j + 1, by omega, rfl, wrap_next j zs.length hlt2 (by simp only [maxLen]; omega), ?_, ?_⟩
        · rw [getD_nat zs j hlt2, most_next zs j hlt2]
        · rw [getD_nat zs j hlt2, least_next zs j hlt2]
      · refine dec_no (by omega) ⟨by omega, ?_⟩
        have e2 : zs.take j = zs := List.take_of_length_le (by omega)
        rw [e2, a1, a2]
        have e3 : max (most zs) 0 = most zs := by omega
        have e4 : min (least zs) 0 = least zs := by omega
        rw [e3, e4]
        refine cond_of ?_ (cond_of (by simp) ?_)
        · rw [atOf_is _ _ _ (by omega) m2 l2, wrap_id (most zs + least zs) (by omega), wrap_id _ (by omega)]
          simp
        · have e5 : IntKind.wrap .i64 (y + (most xs + least xs) + 0) = y + (most xs + least xs) := by rw [wrap_id _ (by omega)]; omega
          rw [e5, a3 _ (by omega), a2]
          simp [yes]
theorem law4 (x : ArgsDen [(false, .int .i64), (false, .list 3 (.int .i64)), (false, .list 3 (.int .i64)), (false, .int .i64)]) (_h : OkArgs [(false, .int .i64), (false, .list 3 (.int .i64)), (false, .list 3 (.int .i64)), (false, .int .i64)] x) : ACalls Try.prog 4 (argsA [(false, .int .i64), (false, .list 3 (.int .i64)), (false, .list 3 (.int .i64)), (false, .int .i64)] x) (.bool true) [] :=
  law4' x.1 x.2.1 x.2.2.1 x.2.2.2.1
end Go.Proofs.Ytjhhkfjabaojhaa.W
