/- The law SpotZero: its body's normal form, printed by a program of ours and checked by the kernel; it answers true. -/
import Derived.Test.YtjhhkfjabaojhaaWb
namespace Go.Proofs.Ytjhhkfjabaojhaa.W
open Go Go.Proofs Go.Proofs.Ytjhhkfjabaojhaa.Aw
def live3 : List Nat := [32, 31, 32, 7, 1, 7, 8, 1, 1, 8, 32, 1, 8, 1, 2, 1, 8, 7, 8, 7, 8, 0, 0, 0, 0, 6]
def head3 (y : Int) (xs : List Int) (again i m1 l1 m2 l2 : Int) : St := ⟨[.int .i64 y, .list 3 (.int .i64) xs, .int .u8 again, .undef, .undef, .undef, .bool false, .ptr 0 0, .ptr 1 0] ++ List.replicate 22 .undef ++ [.int .i64 xs.length, .int .i64 i] ++ List.replicate 58 .undef, [.cells 28 [.int .i64 y, .int .i64 m1, .int .i64 l1, .bool false, .bool false], .cells 28 [.int .i64 y, .int .i64 m2, .int .i64 l2, .bool false, .bool false]]⟩
theorem f3_run (R : AV → List Ob → Prop) (y : Int) (xs : List Int) (again : Int) : fnA tab (envOf consS4) Try.f3 (bodyOf Try.f3) [.int .i64 y, .list 3 (.int .i64) xs, .int .u8 again] R = (bif !decide ((↑xs.length : Int) > 20) then
  ([y].length + xs.length) * 8 ≤ 140737488355328 ∧
    ([y] ++ xs).length ≤ 9223372036854775807 ∧
      bif !small ([y] ++ xs) then R (AV.bool true) []
      else
        loopT [32, 31, 32, 7, 1, 7, 8, 1, 1, 8, 32, 1, 8, 1, 2, 1, 8, 7, 8, 7, 8, 0, 0, 0, 0, 6]
          (codeA tab (envOf consS4) (subC [1, 1, 1, 0, 1, 0, 0] (bodyOf Try.f3))
            [32, 31, 32, 7, 1, 7, 8, 1, 1, 8, 32, 1, 8, 1, 2, 1, 8, 7, 8, 7, 8, 0, 0, 0, 0, 6])
          {
            slots :=
              [AV.int IntKind.i64 y, AV.list 3 (Ty.int IntKind.i64) xs, AV.int IntKind.u8 again, AV.undef, AV.undef,
                      AV.undef, AV.bool false, AV.ptr 0 0, AV.ptr 1 0] ++
                    List.replicate 22 AV.undef ++
                  [AV.int IntKind.i64 (↑xs.length : Int), AV.int IntKind.i64 0] ++
                List.replicate 58 AV.undef,
            obs :=
              [Ob.cells 28
                  [AV.int IntKind.i64 y, AV.int IntKind.i64 0, AV.int IntKind.i64 0, AV.bool false, AV.bool false],
                Ob.cells 28
                  [AV.int IntKind.i64 y, AV.int IntKind.i64 0, AV.int IntKind.i64 0, AV.bool false, AV.bool false]] }
          (blockA 0 (seqQ tab (envOf consS4) (subC [1, 1, 1, 1] (bodyOf Try.f3)) [6] (endA tab Try.f3 R)))
else R (AV.bool true) []) := by kernel_rfl
theorem f3_body (R : AV → List Ob → Prop) (J : St → Prop) (y : Int) (xs : List Int) (again i m1 l1 m2 l2 : Int) : codeA tab (envOf consS4) (subC [1, 1, 1, 0, 1, 0, 0] (bodyOf Try.f3)) live3 (head3 y xs again i m1 l1 m2 l2) (thenA (fun s => J (s.tidy live3)) (blockA 0 (seqQ tab (envOf consS4) (subC [1, 1, 1, 1] (bodyOf Try.f3)) [6] (endA tab Try.f3 R)))) = (bif decide (i < (↑xs.length : Int)) then
  0 ≤ i ∧
    i < (↑xs.length : Int) ∧
      0 ≤ IntKind.i64.wrap (IntKind.i64.wrap ((↑xs.length : Int) - 1) - i) ∧
        IntKind.i64.wrap (IntKind.i64.wrap ((↑xs.length : Int) - 1) - i) < (↑xs.length : Int) ∧
          J
            {
              slots :=
                [AV.int IntKind.i64 y, AV.list 3 (Ty.int IntKind.i64) xs, AV.int IntKind.u8 again, AV.undef, AV.undef,
                        AV.undef, AV.bool false, AV.ptr 0 0, AV.ptr 1 0] ++
                      List.replicate 22 AV.undef ++
                    [AV.int IntKind.i64 (↑xs.length : Int), AV.int IntKind.i64 (IntKind.i64.wrap (i + 1))] ++
                  List.replicate 58 AV.undef,
              obs :=
                [Ob.cells 28
                    [AV.int IntKind.i64 y, AV.int IntKind.i64 (max m1 (xs.getD i.toNat 0)),
                      AV.int IntKind.i64 (min l1 (xs.getD i.toNat 0)), AV.bool false, AV.bool false],
                  Ob.cells 28
                    [AV.int IntKind.i64 y,
                      AV.int IntKind.i64
                        (max
                          (max m2 (xs.getD (IntKind.i64.wrap (IntKind.i64.wrap ((↑xs.length : Int) - 1) - i)).toNat 0))
                          0),
                      AV.int IntKind.i64
                        (min
                          (min l2 (xs.getD (IntKind.i64.wrap (IntKind.i64.wrap ((↑xs.length : Int) - 1) - i)).toNat 0))
                          0),
                      AV.bool false, AV.bool false]] }
else
  bif decide ((↑xs.length : Int) > 0) then
    (↑xs.length : Int) ≠ 0 ∧
      0 ≤ (IntKind.i64.wrap again).tmod (↑xs.length : Int) ∧
        (IntKind.i64.wrap again).tmod (↑xs.length : Int) < (↑xs.length : Int) ∧
          bif
              y == y &&
                (m1 == max m2 (xs.getD ((IntKind.i64.wrap again).tmod (↑xs.length : Int)).toNat 0) &&
                    (l1 == min l2 (xs.getD ((IntKind.i64.wrap again).tmod (↑xs.length : Int)).toNat 0) && true) &&
                  true) then
            bif
                atOf y m1 l1 false ==
                  atOf y (max m2 (xs.getD ((IntKind.i64.wrap again).tmod (↑xs.length : Int)).toNat 0))
                    (min l2 (xs.getD ((IntKind.i64.wrap again).tmod (↑xs.length : Int)).toNat 0)) false then
              bif y == y && true then R (AV.bool (IntKind.i64.wrap (atOf y 0 0 true + 0) == y && true)) []
              else R (AV.bool false) []
            else R (AV.bool false) []
          else R (AV.bool false) []
  else
    bif y == y && (m1 == m2 && (l1 == l2 && true) && true) then
      bif atOf y m1 l1 false == atOf y m2 l2 false then
        bif y == y && true then R (AV.bool (IntKind.i64.wrap (atOf y 0 0 true + 0) == y && true)) []
        else R (AV.bool false) []
      else R (AV.bool false) []
    else R (AV.bool false) []) := by kernel_rfl
theorem cond_of {c : Bool} {X Y : Prop} (h : c = true) (hx : X) : bif c then X else Y := by rw [h]; exact hx
theorem wrap_id (x : Int) (h : -9223372036854775808 ≤ x ∧ x ≤ 9223372036854775807) : IntKind.wrap .i64 x = x := by
  simp [IntKind.wrap, IntKind.signed, IntKind.bits]
  omega
theorem fold_max (ys : List Int) : ∀ a : Int, 0 ≤ a → ys.foldl max a = max a (most ys) := by
  unfold most
  induction ys with
  | nil => intro a h; simp; omega
  | cons y ys ih =>
    intro a h
    simp only [List.foldl_cons]
    rw [ih (max a y) (by omega), ih (max 0 y) (by omega)]
    omega
theorem fold_min (ys : List Int) : ∀ a : Int, a ≤ 0 → ys.foldl min a = min a (least ys) := by
  unfold least
  induction ys with
  | nil => intro a h; simp; omega
  | cons y ys ih =>
    intro a h
    simp only [List.foldl_cons]
    rw [ih (min a y) (by omega), ih (min 0 y) (by omega)]
    omega
theorem most_cons (x : Int) (xs : List Int) : most (x :: xs) = max (max 0 x) (most xs) := fold_max xs (max 0 x) (by omega)
theorem least_cons (x : Int) (xs : List Int) : least (x :: xs) = min (min 0 x) (least xs) := fold_min xs (min 0 x) (by omega)
theorem most_nonneg : ∀ xs : List Int, 0 ≤ most xs
  | [] => by simp [most]
  | x :: xs => by rw [most_cons]; omega
theorem least_nonpos : ∀ xs : List Int, least xs ≤ 0
  | [] => by simp [least]
  | x :: xs => by rw [least_cons]; omega
theorem most_append (xs ys : List Int) : most (xs ++ ys) = max (most xs) (most ys) := by
  conv => lhs; unfold most
  rw [List.foldl_append]
  exact fold_max ys _ (most_nonneg xs)
theorem least_append (xs ys : List Int) : least (xs ++ ys) = min (least xs) (least ys) := by
  conv => lhs; unfold least
  rw [List.foldl_append]
  exact fold_min ys _ (least_nonpos xs)
theorem most_cut (xs : List Int) (k : Nat) : max (most (xs.take k)) (most (xs.drop k)) = most xs := by
  rw [← most_append, List.take_append_drop]
theorem least_cut (xs : List Int) (k : Nat) : min (least (xs.take k)) (least (xs.drop k)) = least xs := by
  rw [← least_append, List.take_append_drop]
theorem most_mem (xs : List Int) (x : Int) (h : x ∈ xs) : x ≤ most xs := by
  induction xs with
  | nil => cases h
  | cons y ys ih =>
    rw [most_cons]
    rcases List.mem_cons.1 h with rfl | h
    · omega
    · have := ih h; omega
theorem least_mem (xs : List Int) (x : Int) (h : x ∈ xs) : least xs ≤ x := by
  induction xs with
  | nil => cases h
  | cons y ys ih =>
    rw [least_cons]
    rcases List.mem_cons.1 h with rfl | h
    · omega
    · have := ih h; omega
def inv3 (y : Int) (xs : List Int) (again : Int) (n : Nat) (s : St) : Prop := ∃ i : Nat, i ≤ xs.length ∧ n = xs.length - i ∧ s = head3 y xs again i (most (xs.take i)) (least (xs.take i)) (most (xs.drop (xs.length - i))) (least (xs.drop (xs.length - i)))
abbrev yes : AV → List Ob → Prop := fun v' news' => v' = .bool true ∧ news' = []
theorem small_cons (y : Int) (xs : List Int) (h : small ([y] ++ xs) = true) : (-1125899906842624 ≤ y ∧ y ≤ 1125899906842624) ∧ ∀ x ∈ xs, -1125899906842624 ≤ x ∧ x ≤ 1125899906842624 := by
  simp [small] at h
  exact ⟨h.1, h.2⟩
theorem most_le (xs : List Int) (b : Int) (hb : 0 ≤ b) (h : ∀ x ∈ xs, x ≤ b) : most xs ≤ b := by
  induction xs with
  | nil => simpa [most] using hb
  | cons y ys ih =>
    rw [most_cons]
    have := h y (by simp)
    have := ih (fun x hx => h x (by simp [hx]))
    omega
theorem least_ge (xs : List Int) (b : Int) (hb : b ≤ 0) (h : ∀ x ∈ xs, b ≤ x) : b ≤ least xs := by
  induction xs with
  | nil => simpa [least] using hb
  | cons y ys ih =>
    rw [least_cons]
    have := h y (by simp)
    have := ih (fun x hx => h x (by simp [hx]))
    omega
theorem law3' (y : Int) (xs : List Int) (again : Int) (ha : 0 ≤ again ∧ again ≤ 255) : ACalls Try.prog 3 [.int .i64 y, .list 3 (.int .i64) xs, .int .u8 again] (.bool true) [] := by
  refine fn_ok envS4_ok tab_ok mixed Try.func3 (by kernel_rfl) (by kernel_rfl) ?_
  rw [f3_run]
  by_cases hl : (xs.length : Int) > 20
  · rw [show decide ((xs.length : Int) > 20) = true by simpa using hl]
    exact ⟨rfl, rfl⟩
  · rw [show decide ((xs.length : Int) > 20) = false by simpa using hl]
    simp only [Bool.not_false, cond_true]
    refine ⟨by simp; omega, by simp; omega, ?_⟩
    cases hs : small ([y] ++ xs) with
    | false => simp
    | true =>
      obtain ⟨hy, hx⟩ := small_cons y xs hs
      simp only [Bool.not_true, cond_false]
      refine loop_intro (inv3 y xs again) xs.length ⟨0, Nat.zero_le _, by simp, ?_⟩ ?_
      · have e : xs.drop (xs.length - 0) = [] := by simp
        rw [e]
        rfl
      · rintro n s ⟨i, hi, rfl, rfl⟩
        refine Eq.mpr (f3_body yes (fun t => ∃ m, m < xs.length - i ∧ inv3 y xs again m t) y xs again i _ _ _ _) ?_
        by_cases hlt : i < xs.length
        · have h1 : decide ((i : Int) < (xs.length : Int)) = true := by simpa using hlt
          rw [h1, cond_true]
          have e1 : IntKind.wrap .i64 (IntKind.wrap .i64 ((xs.length : Int) - 1) - i) = ((xs.length - 1 - i : Nat) : Int) := by
            rw [wrap_id ((xs.length : Int) - 1) (by omega), wrap_id _ (by omega)]
            omega
          rw [e1]
          have hj : xs.length - 1 - i < xs.length := by omega
          refine ⟨by omega, by omega, by omega, by omega, xs.length - (i + 1), by omega, i + 1, by omega, rfl, ?_⟩
          rw [getD_nat xs _ hj, getD_nat xs _ hlt, wrap_next i xs.length hlt (by simp only [maxLen]; omega)]
          have e2 : xs.drop (xs.length - (i + 1)) = xs[xs.length - 1 - i] :: xs.drop (xs.length - i) := by
            rw [show xs.length - (i + 1) = xs.length - 1 - i by omega, List.drop_eq_getElem_cons hj, show xs.length - 1 - i + 1 = xs.length - i by omega]
          rw [e2, most_cons, least_cons, most_next xs i hlt, least_next xs i hlt]
          have e3 : max (max (most (xs.drop (xs.length - i))) xs[xs.length - 1 - i]) 0 = max (max 0 xs[xs.length - 1 - i]) (most (xs.drop (xs.length - i))) := by
            have := most_nonneg (xs.drop (xs.length - i)); omega
          have e4 : min (min (least (xs.drop (xs.length - i))) xs[xs.length - 1 - i]) 0 = min (min 0 xs[xs.length - 1 - i]) (least (xs.drop (xs.length - i))) := by
            have := least_nonpos (xs.drop (xs.length - i)); omega
          rw [e3, e4]
          rfl
        · have h1 : decide ((i : Int) < (xs.length : Int)) = false := by simpa using hlt
          rw [h1, cond_false]
          have e : xs.drop (xs.length - i) = xs := by
            rw [show xs.length - i = 0 by omega, List.drop_zero]
          have e' : xs.take i = xs := List.take_of_length_le (by omega)
          rw [e, e', wrap_id again (by omega)]
          have ey : IntKind.wrap .i64 (atOf y 0 0 true + 0) = y := by
            show IntKind.wrap .i64 (y + 0) = y
            rw [wrap_id _ (by omega)]; omega
          by_cases hp : (xs.length : Int) > 0
          · rw [show decide ((xs.length : Int) > 0) = true by simpa using hp, cond_true]
            have j0 : 0 ≤ again.tmod (xs.length : Int) := Int.tmod_nonneg _ ha.1
            have j1 : again.tmod (xs.length : Int) < (xs.length : Int) := Int.tmod_lt_of_pos _ hp
            refine ⟨by omega, j0, j1, ?_⟩
            have hj : (again.tmod (xs.length : Int)).toNat < xs.length := by omega
            have hg : xs.getD (again.tmod (xs.length : Int)).toNat 0 = xs[(again.tmod (xs.length : Int)).toNat] := by
              simp [List.getD, hj]
            rw [hg]
            have hm := most_mem xs _ (List.getElem_mem hj)
            have hn := least_mem xs _ (List.getElem_mem hj)
            generalize xs[(again.tmod (xs.length : Int)).toNat] = z at hm hn ⊢
            rw [show max (most xs) z = most xs by omega, show min (least xs) z = least xs by omega, ey]
            simp [yes]
          · rw [show decide ((xs.length : Int) > 0) = false by simpa using hp, cond_false, ey]
            simp [yes]
theorem u8_of (n : Int) (h : (Lit.int .u8 n).wf = true) : 0 ≤ n ∧ n ≤ 255 := by
  simp [Lit.wf, IntKind.min, IntKind.max, IntKind.signed, IntKind.bits] at h
  omega
theorem law3 (x : ArgsDen [(false, .int .i64), (false, .list 3 (.int .i64)), (false, .int .u8)]) (h : OkArgs [(false, .int .i64), (false, .list 3 (.int .i64)), (false, .int .u8)] x) : ACalls Try.prog 3 (argsA [(false, .int .i64), (false, .list 3 (.int .i64)), (false, .int .u8)] x) (.bool true) [] :=
  law3' x.1 x.2.1 x.2.2.1 (u8_of _ h.2.2.1)
end Go.Proofs.Ytjhhkfjabaojhaa.W
