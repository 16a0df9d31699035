/- What a box of the document must be is what the program wants of it. -/
import Derived.Test.YtkpjcmiijlpcaaaFe
set_option linter.unusedVariables false
set_option linter.unusedSimpArgs false
namespace Go.Proofs.Ytkpjcmiijlpcaaa.W
open Go Go.Proofs Go.Proofs.Ytkpjcmiijlpcaaa.Aw
theorem bigR_no (n : Int) (h : bigR n = false) : -268435456 ≤ n ∧ n ≤ 268435456 := by
  have h : (bif !decide (n > 268435456) then decide (n < -268435456) else true) = false := h
  by_cases h1 : n > 268435456
  · rw [decide_eq_true h1] at h; cases h
  · rw [decide_eq_false h1] at h
    have : ¬ n < -268435456 := of_decide_eq_false h
    omega
theorem z33_j17 (a1 a2 a3 a4 a5 a6 a7 a8 a9 a10 a11 a12 a13 a14 : Int) (h : c33_j17 a1 a2 a3 a4 a5 a6 a7 a8 a9 a10 a11 a12 a13 a14 = 0) : (0 ≤ a1 ∧ a1 ≤ 256) := by
  unfold c33_j17 at h
  try simp only [Bool.cond_eq_ite, Bool.not_eq_true', decide_eq_true_eq, decide_eq_false_iff_not, beq_iff_eq, bne_iff_ne, ne_eq, beq_eq_false_iff_ne, bne_eq_false_iff_eq] at h
  repeat' split at h
  all_goals first | omega | (simp_all; done) | (simp_all; omega)
theorem z33_j16 (a1 a2 a3 a4 a5 a6 a7 a8 a9 a10 a11 a12 a13 a14 : Int) (h : c33_j16 a1 a2 a3 a4 a5 a6 a7 a8 a9 a10 a11 a12 a13 a14 = 0) : (0 ≤ a14 ∧ (a2 = 5 → a14 = 0)) ∧ c33_j17 a1 a2 a3 a4 a5 a6 a7 a8 a9 a10 a11 a12 a13 a14 = 0 := by
  unfold c33_j16 at h
  generalize c33_j17 a1 a2 a3 a4 a5 a6 a7 a8 a9 a10 a11 a12 a13 a14 = x_j17 at *
  try simp only [Bool.cond_eq_ite, Bool.not_eq_true', decide_eq_true_eq, decide_eq_false_iff_not, beq_iff_eq, bne_iff_ne, ne_eq, beq_eq_false_iff_ne, bne_eq_false_iff_eq] at h
  repeat' split at h
  all_goals first | omega | (simp_all; done) | (simp_all; omega)
theorem z33_j15 (a1 a2 a3 a4 a5 a6 a7 a8 a9 a10 a11 a12 a13 a14 : Int) (h : c33_j15 a1 a2 a3 a4 a5 a6 a7 a8 a9 a10 a11 a12 a13 a14 = 0) : (0 ≤ a13 ∧ (a2 = 5 → a13 = 0)) ∧ c33_j16 a1 a2 a3 a4 a5 a6 a7 a8 a9 a10 a11 a12 a13 a14 = 0 := by
  unfold c33_j15 at h
  generalize c33_j16 a1 a2 a3 a4 a5 a6 a7 a8 a9 a10 a11 a12 a13 a14 = x_j16 at *
  try simp only [Bool.cond_eq_ite, Bool.not_eq_true', decide_eq_true_eq, decide_eq_false_iff_not, beq_iff_eq, bne_iff_ne, ne_eq, beq_eq_false_iff_ne, bne_eq_false_iff_eq] at h
  repeat' split at h
  all_goals first | omega | (simp_all; done) | (simp_all; omega)
theorem z33_j14 (a1 a2 a3 a4 a5 a6 a7 a8 a9 a10 a11 a12 a13 a14 : Int) (h : c33_j14 a1 a2 a3 a4 a5 a6 a7 a8 a9 a10 a11 a12 a13 a14 = 0) : (0 ≤ a12 ∧ (a2 = 5 → a12 = 0)) ∧ c33_j15 a1 a2 a3 a4 a5 a6 a7 a8 a9 a10 a11 a12 a13 a14 = 0 := by
  unfold c33_j14 at h
  generalize c33_j15 a1 a2 a3 a4 a5 a6 a7 a8 a9 a10 a11 a12 a13 a14 = x_j15 at *
  try simp only [Bool.cond_eq_ite, Bool.not_eq_true', decide_eq_true_eq, decide_eq_false_iff_not, beq_iff_eq, bne_iff_ne, ne_eq, beq_eq_false_iff_ne, bne_eq_false_iff_eq] at h
  repeat' split at h
  all_goals first | omega | (simp_all; done) | (simp_all; omega)
theorem z33_loop13 (a1 a2 a3 a4 a5 a6 a7 a8 a9 a10 a11 a12 a13 a14 : Int) (h : c33_loop13 a1 a2 a3 a4 a5 a6 a7 a8 a9 a10 a11 a12 a13 a14 = 0) : (0 ≤ a11 ∧ (a2 = 5 → a11 = 0)) ∧ c33_j14 a1 a2 a3 a4 a5 a6 a7 a8 a9 a10 a11 a12 a13 a14 = 0 := by
  unfold c33_loop13 at h
  generalize c33_j14 a1 a2 a3 a4 a5 a6 a7 a8 a9 a10 a11 a12 a13 a14 = x_j14 at *
  try simp only [Bool.cond_eq_ite, Bool.not_eq_true', decide_eq_true_eq, decide_eq_false_iff_not, beq_iff_eq, bne_iff_ne, ne_eq, beq_eq_false_iff_ne, bne_eq_false_iff_eq] at h
  repeat' split at h
  all_goals first | omega | (simp_all; done) | (simp_all; omega)
theorem z33_j12 (a1 a2 a3 a4 a5 a6 a7 a8 a9 a10 a11 a12 a13 a14 : Int) (h : c33_j12 a1 a2 a3 a4 a5 a6 a7 a8 a9 a10 a11 a12 a13 a14 = 0) : (True) ∧ c33_loop13 a1 a2 a3 a4 a5 a6 a7 a8 a9 a10 a11 a12 a13 a14 = 0 := by
  unfold c33_j12 at h
  generalize c33_loop13 a1 a2 a3 a4 a5 a6 a7 a8 a9 a10 a11 a12 a13 a14 = x_loop13 at *
  try simp only [Bool.cond_eq_ite, Bool.not_eq_true', decide_eq_true_eq, decide_eq_false_iff_not, beq_iff_eq, bne_iff_ne, ne_eq, beq_eq_false_iff_ne, bne_eq_false_iff_eq] at h
  repeat' split at h
  all_goals first | omega | (simp_all; done) | (simp_all; omega)
theorem z33_j11 (a1 a2 a3 a4 a5 a6 a7 a8 a9 a10 a11 a12 a13 a14 : Int) (h : c33_j11 a1 a2 a3 a4 a5 a6 a7 a8 a9 a10 a11 a12 a13 a14 = 0) : ((a2 = 5 → a10 = 0)) ∧ c33_j12 a1 a2 a3 a4 a5 a6 a7 a8 a9 a10 a11 a12 a13 a14 = 0 := by
  unfold c33_j11 at h
  generalize c33_j12 a1 a2 a3 a4 a5 a6 a7 a8 a9 a10 a11 a12 a13 a14 = x_j12 at *
  try simp only [Bool.cond_eq_ite, Bool.not_eq_true', decide_eq_true_eq, decide_eq_false_iff_not, beq_iff_eq, bne_iff_ne, ne_eq, beq_eq_false_iff_ne, bne_eq_false_iff_eq] at h
  repeat' split at h
  all_goals first | omega | (simp_all; done) | (simp_all; omega)
theorem z33_j10 (a1 a2 a3 a4 a5 a6 a7 a8 a9 a10 a11 a12 a13 a14 : Int) (h : c33_j10 a1 a2 a3 a4 a5 a6 a7 a8 a9 a10 a11 a12 a13 a14 = 0) : ((a2 = 5 → a9 = 0)) ∧ c33_j11 a1 a2 a3 a4 a5 a6 a7 a8 a9 a10 a11 a12 a13 a14 = 0 := by
  unfold c33_j10 at h
  generalize c33_j11 a1 a2 a3 a4 a5 a6 a7 a8 a9 a10 a11 a12 a13 a14 = x_j11 at *
  try simp only [Bool.cond_eq_ite, Bool.not_eq_true', decide_eq_true_eq, decide_eq_false_iff_not, beq_iff_eq, bne_iff_ne, ne_eq, beq_eq_false_iff_ne, bne_eq_false_iff_eq] at h
  repeat' split at h
  all_goals first | omega | (simp_all; done) | (simp_all; omega)
theorem z33_j9 (a1 a2 a3 a4 a5 a6 a7 a8 a9 a10 a11 a12 a13 a14 : Int) (h : c33_j9 a1 a2 a3 a4 a5 a6 a7 a8 a9 a10 a11 a12 a13 a14 = 0) : ((a2 = 5 → a8 = 0)) ∧ c33_j10 a1 a2 a3 a4 a5 a6 a7 a8 a9 a10 a11 a12 a13 a14 = 0 := by
  unfold c33_j9 at h
  generalize c33_j10 a1 a2 a3 a4 a5 a6 a7 a8 a9 a10 a11 a12 a13 a14 = x_j10 at *
  try simp only [Bool.cond_eq_ite, Bool.not_eq_true', decide_eq_true_eq, decide_eq_false_iff_not, beq_iff_eq, bne_iff_ne, ne_eq, beq_eq_false_iff_ne, bne_eq_false_iff_eq] at h
  repeat' split at h
  all_goals first | omega | (simp_all; done) | (simp_all; omega)
theorem z33_loop8 (a1 a2 a3 a4 a5 a6 a7 a8 a9 a10 a11 a12 a13 a14 : Int) (h : c33_loop8 a1 a2 a3 a4 a5 a6 a7 a8 a9 a10 a11 a12 a13 a14 = 0) : ((a2 = 5 → a7 = 0)) ∧ c33_j9 a1 a2 a3 a4 a5 a6 a7 a8 a9 a10 a11 a12 a13 a14 = 0 := by
  unfold c33_loop8 at h
  generalize c33_j9 a1 a2 a3 a4 a5 a6 a7 a8 a9 a10 a11 a12 a13 a14 = x_j9 at *
  try simp only [Bool.cond_eq_ite, Bool.not_eq_true', decide_eq_true_eq, decide_eq_false_iff_not, beq_iff_eq, bne_iff_ne, ne_eq, beq_eq_false_iff_ne, bne_eq_false_iff_eq] at h
  repeat' split at h
  all_goals first | omega | (simp_all; done) | (simp_all; omega)
theorem z33_j7 (a1 a2 a3 a4 a5 a6 a7 a8 a9 a10 a11 a12 a13 a14 : Int) (h : c33_j7 a1 a2 a3 a4 a5 a6 a7 a8 a9 a10 a11 a12 a13 a14 = 0) : (True) ∧ c33_loop8 a1 a2 a3 a4 a5 a6 a7 a8 a9 a10 a11 a12 a13 a14 = 0 := by
  unfold c33_j7 at h
  generalize c33_loop8 a1 a2 a3 a4 a5 a6 a7 a8 a9 a10 a11 a12 a13 a14 = x_loop8 at *
  try simp only [Bool.cond_eq_ite, Bool.not_eq_true', decide_eq_true_eq, decide_eq_false_iff_not, beq_iff_eq, bne_iff_ne, ne_eq, beq_eq_false_iff_ne, bne_eq_false_iff_eq] at h
  repeat' split at h
  all_goals first | omega | (simp_all; done) | (simp_all; omega)
theorem z33_j6 (a1 a2 a3 a4 a5 a6 a7 a8 a9 a10 a11 a12 a13 a14 : Int) (h : c33_j6 a1 a2 a3 a4 a5 a6 a7 a8 a9 a10 a11 a12 a13 a14 = 0) : (a2 ≠ 5) ∧ c33_j7 a1 a2 a3 a4 a5 a6 a7 a8 a9 a10 a11 a12 a13 a14 = 0 := by
  unfold c33_j6 at h
  generalize c33_j7 a1 a2 a3 a4 a5 a6 a7 a8 a9 a10 a11 a12 a13 a14 = x_j7 at *
  try simp only [Bool.cond_eq_ite, Bool.not_eq_true', decide_eq_true_eq, decide_eq_false_iff_not, beq_iff_eq, bne_iff_ne, ne_eq, beq_eq_false_iff_ne, bne_eq_false_iff_eq] at h
  repeat' split at h
  all_goals first | omega | (simp_all; done) | (simp_all; omega)
theorem z33_j18 (a1 a2 a3 a4 a5 a6 a7 a8 a9 a10 a11 a12 a13 a14 : Int) (h : c33_j18 a1 a2 a3 a4 a5 a6 a7 a8 a9 a10 a11 a12 a13 a14 = 0) : (True) ∧ c33_j7 a1 a2 a3 a4 a5 a6 a7 a8 a9 a10 a11 a12 a13 a14 = 0 := by
  unfold c33_j18 at h
  generalize c33_j7 a1 a2 a3 a4 a5 a6 a7 a8 a9 a10 a11 a12 a13 a14 = x_j7 at *
  try simp only [Bool.cond_eq_ite, Bool.not_eq_true', decide_eq_true_eq, decide_eq_false_iff_not, beq_iff_eq, bne_iff_ne, ne_eq, beq_eq_false_iff_ne, bne_eq_false_iff_eq] at h
  repeat' split at h
  all_goals first | omega | (simp_all; done) | (simp_all; omega)
theorem z33_j5 (a1 a2 a3 a4 a5 a6 a7 a8 a9 a10 a11 a12 a13 a14 : Int) (h : c33_j5 a1 a2 a3 a4 a5 a6 a7 a8 a9 a10 a11 a12 a13 a14 = 0) : (-1 ≤ a5 ∧ -1 ≤ a6 ∧ (a5 = -1 → a2 ≠ 2 ∧ a2 ≠ 5) ∧ (a6 = -1 → a2 ≠ 5)) ∧ c33_j7 a1 a2 a3 a4 a5 a6 a7 a8 a9 a10 a11 a12 a13 a14 = 0 := by
  unfold c33_j5 at h
  have q_j18 := z33_j18 a1 a2 a3 a4 a5 a6 a7 a8 a9 a10 a11 a12 a13 a14
  unfold c33_j19 at h
  have q_j6 := z33_j6 a1 a2 a3 a4 a5 a6 a7 a8 a9 a10 a11 a12 a13 a14
  generalize c33_j18 a1 a2 a3 a4 a5 a6 a7 a8 a9 a10 a11 a12 a13 a14 = x_j18 at *
  generalize c33_j6 a1 a2 a3 a4 a5 a6 a7 a8 a9 a10 a11 a12 a13 a14 = x_j6 at *
  try simp only [Bool.cond_eq_ite, Bool.not_eq_true', decide_eq_true_eq, decide_eq_false_iff_not, beq_iff_eq, bne_iff_ne, ne_eq, beq_eq_false_iff_ne, bne_eq_false_iff_eq] at h
  repeat' split at h
  all_goals first | omega | (simp_all; done) | (simp_all; omega)
theorem z33_j4 (a1 a2 a3 a4 a5 a6 a7 a8 a9 a10 a11 a12 a13 a14 : Int) (h : c33_j4 a1 a2 a3 a4 a5 a6 a7 a8 a9 a10 a11 a12 a13 a14 = 0) : (a4 = 0) ∧ c33_j5 a1 a2 a3 a4 a5 a6 a7 a8 a9 a10 a11 a12 a13 a14 = 0 := by
  unfold c33_j4 at h
  generalize c33_j5 a1 a2 a3 a4 a5 a6 a7 a8 a9 a10 a11 a12 a13 a14 = x_j5 at *
  try simp only [Bool.cond_eq_ite, Bool.not_eq_true', decide_eq_true_eq, decide_eq_false_iff_not, beq_iff_eq, bne_iff_ne, ne_eq, beq_eq_false_iff_ne, bne_eq_false_iff_eq] at h
  repeat' split at h
  all_goals first | omega | (simp_all; done) | (simp_all; omega)
theorem z33_j20 (a1 a2 a3 a4 a5 a6 a7 a8 a9 a10 a11 a12 a13 a14 : Int) (h : c33_j20 a1 a2 a3 a4 a5 a6 a7 a8 a9 a10 a11 a12 a13 a14 = 0) : (True) ∧ c33_j5 a1 a2 a3 a4 a5 a6 a7 a8 a9 a10 a11 a12 a13 a14 = 0 := by
  unfold c33_j20 at h
  generalize c33_j5 a1 a2 a3 a4 a5 a6 a7 a8 a9 a10 a11 a12 a13 a14 = x_j5 at *
  try simp only [Bool.cond_eq_ite, Bool.not_eq_true', decide_eq_true_eq, decide_eq_false_iff_not, beq_iff_eq, bne_iff_ne, ne_eq, beq_eq_false_iff_ne, bne_eq_false_iff_eq] at h
  repeat' split at h
  all_goals first | omega | (simp_all; done) | (simp_all; omega)
theorem z33_j3 (a1 a2 a3 a4 a5 a6 a7 a8 a9 a10 a11 a12 a13 a14 : Int) (h : c33_j3 a1 a2 a3 a4 a5 a6 a7 a8 a9 a10 a11 a12 a13 a14 = 0) : (0 ≤ a4 ∧ a4 ≤ 3 ∧ (a2 = 5 → a4 = 0)) ∧ c33_j5 a1 a2 a3 a4 a5 a6 a7 a8 a9 a10 a11 a12 a13 a14 = 0 := by
  unfold c33_j3 at h
  have q_j20 := z33_j20 a1 a2 a3 a4 a5 a6 a7 a8 a9 a10 a11 a12 a13 a14
  unfold c33_j21 at h
  have q_j4 := z33_j4 a1 a2 a3 a4 a5 a6 a7 a8 a9 a10 a11 a12 a13 a14
  generalize c33_j20 a1 a2 a3 a4 a5 a6 a7 a8 a9 a10 a11 a12 a13 a14 = x_j20 at *
  generalize c33_j4 a1 a2 a3 a4 a5 a6 a7 a8 a9 a10 a11 a12 a13 a14 = x_j4 at *
  try simp only [Bool.cond_eq_ite, Bool.not_eq_true', decide_eq_true_eq, decide_eq_false_iff_not, beq_iff_eq, bne_iff_ne, ne_eq, beq_eq_false_iff_ne, bne_eq_false_iff_eq] at h
  repeat' split at h
  all_goals first | omega | (simp_all; done) | (simp_all; omega)
theorem z33_j2 (a1 a2 a3 a4 a5 a6 a7 a8 a9 a10 a11 a12 a13 a14 : Int) (h : c33_j2 a1 a2 a3 a4 a5 a6 a7 a8 a9 a10 a11 a12 a13 a14 = 0) : (a3 = 0) ∧ c33_j3 a1 a2 a3 a4 a5 a6 a7 a8 a9 a10 a11 a12 a13 a14 = 0 := by
  unfold c33_j2 at h
  generalize c33_j3 a1 a2 a3 a4 a5 a6 a7 a8 a9 a10 a11 a12 a13 a14 = x_j3 at *
  try simp only [Bool.cond_eq_ite, Bool.not_eq_true', decide_eq_true_eq, decide_eq_false_iff_not, beq_iff_eq, bne_iff_ne, ne_eq, beq_eq_false_iff_ne, bne_eq_false_iff_eq] at h
  repeat' split at h
  all_goals first | omega | (simp_all; done) | (simp_all; omega)
theorem z33_j22 (a1 a2 a3 a4 a5 a6 a7 a8 a9 a10 a11 a12 a13 a14 : Int) (h : c33_j22 a1 a2 a3 a4 a5 a6 a7 a8 a9 a10 a11 a12 a13 a14 = 0) : (True) ∧ c33_j3 a1 a2 a3 a4 a5 a6 a7 a8 a9 a10 a11 a12 a13 a14 = 0 := by
  unfold c33_j22 at h
  generalize c33_j3 a1 a2 a3 a4 a5 a6 a7 a8 a9 a10 a11 a12 a13 a14 = x_j3 at *
  try simp only [Bool.cond_eq_ite, Bool.not_eq_true', decide_eq_true_eq, decide_eq_false_iff_not, beq_iff_eq, bne_iff_ne, ne_eq, beq_eq_false_iff_ne, bne_eq_false_iff_eq] at h
  repeat' split at h
  all_goals first | omega | (simp_all; done) | (simp_all; omega)
structure OkBx (a1 a2 a3 a4 a5 a6 a7 a8 a9 a10 a11 a12 a13 a14 : Int) : Prop where
  k : 1 ≤ a2 ∧ a2 ≤ 5
  big : ∀ x ∈ [a5, a6, a7, a8, a9, a10, a11, a12, a13, a14], -268435456 ≤ x ∧ x ≤ 268435456
  side : (a2 = 2 → a3 = 1 ∨ a3 = 2) ∧ (a2 ≠ 2 → a3 = 0)
  clear : 0 ≤ a4 ∧ a4 ≤ 3 ∧ (a2 = 5 → a4 = 0)
  size : -1 ≤ a5 ∧ -1 ≤ a6 ∧ (a5 = -1 → a2 ≠ 2 ∧ a2 ≠ 5) ∧ (a6 = -1 → a2 ≠ 5)
  margin : a2 = 5 → a7 = 0 ∧ a8 = 0 ∧ a9 = 0 ∧ a10 = 0
  edge : 0 ≤ a11 ∧ 0 ≤ a12 ∧ 0 ≤ a13 ∧ 0 ≤ a14 ∧ (a2 = 5 → a11 = 0 ∧ a12 = 0 ∧ a13 = 0 ∧ a14 = 0)
  depth : 0 ≤ a1 ∧ a1 ≤ 256
theorem bif_fst {c : Bool} {x : Int} (y : Int) (hy : y ≠ 0) (h : (bif !c then x else y) = 0) : c = false ∧ x = 0 := by
  cases c with
  | false => exact ⟨rfl, h⟩
  | true => exact absurd h hy
theorem bif_snd {c : Bool} {x : Int} (y : Int) (hy : y ≠ 0) (h : (bif c then y else x) = 0) : c = false ∧ x = 0 := by
  cases c with
  | false => exact ⟨rfl, h⟩
  | true => exact absurd h hy
theorem z33 (a1 a2 a3 a4 a5 a6 a7 a8 a9 a10 a11 a12 a13 a14 : Int) (h : c33 a1 a2 a3 a4 a5 a6 a7 a8 a9 a10 a11 a12 a13 a14 = 0) : OkBx a1 a2 a3 a4 a5 a6 a7 a8 a9 a10 a11 a12 a13 a14 := by
  unfold c33 at h
  obtain ⟨h1, h⟩ := bif_fst 4 (by decide) h
  obtain ⟨h2, h⟩ := bif_snd 4 (by decide) h
  obtain ⟨b5, h⟩ := bif_fst 10 (by decide) h
  obtain ⟨b6, h⟩ := bif_snd 10 (by decide) h
  unfold c33_loop1 at h
  obtain ⟨b7, h⟩ := bif_fst 10 (by decide) h
  obtain ⟨b11, h⟩ := bif_snd 10 (by decide) h
  obtain ⟨b8, h⟩ := bif_fst 10 (by decide) h
  obtain ⟨b12, h⟩ := bif_snd 10 (by decide) h
  obtain ⟨b9, h⟩ := bif_fst 10 (by decide) h
  obtain ⟨b13, h⟩ := bif_snd 10 (by decide) h
  obtain ⟨b10, h⟩ := bif_fst 10 (by decide) h
  obtain ⟨b14, h⟩ := bif_snd 10 (by decide) h
  rw [blk_eq] at b5 b6 b7 b8 b9 b10 b11 b12 b13 b14
  have q2 := z33_j2 a1 a2 a3 a4 a5 a6 a7 a8 a9 a10 a11 a12 a13 a14
  have q22 := z33_j22 a1 a2 a3 a4 a5 a6 a7 a8 a9 a10 a11 a12 a13 a14
  unfold c33_j23 at h
  have hs : ((a2 = 2 → a3 = 1 ∨ a3 = 2) ∧ (a2 ≠ 2 → a3 = 0)) ∧ c33_j3 a1 a2 a3 a4 a5 a6 a7 a8 a9 a10 a11 a12 a13 a14 = 0 := by
    generalize c33_j2 a1 a2 a3 a4 a5 a6 a7 a8 a9 a10 a11 a12 a13 a14 = x2 at *
    generalize c33_j22 a1 a2 a3 a4 a5 a6 a7 a8 a9 a10 a11 a12 a13 a14 = x22 at *
    generalize c33_j3 a1 a2 a3 a4 a5 a6 a7 a8 a9 a10 a11 a12 a13 a14 = x3 at *
    clear b5 b6 b7 b8 b9 b10 b11 b12 b13 b14
    simp only [Bool.cond_eq_ite, Bool.not_eq_true', decide_eq_true_eq, decide_eq_false_iff_not, beq_iff_eq, bne_iff_ne, ne_eq, beq_eq_false_iff_ne, bne_eq_false_iff_eq] at h
    repeat' split at h
    all_goals first | omega | (simp_all; done) | (simp_all; omega)
  have h3 := z33_j3 _ _ _ _ _ _ _ _ _ _ _ _ _ _ hs.2
  have h5 := z33_j5 _ _ _ _ _ _ _ _ _ _ _ _ _ _ h3.2
  have h7 := z33_j7 _ _ _ _ _ _ _ _ _ _ _ _ _ _ h5.2
  have h8 := z33_loop8 _ _ _ _ _ _ _ _ _ _ _ _ _ _ h7.2
  have h9 := z33_j9 _ _ _ _ _ _ _ _ _ _ _ _ _ _ h8.2
  have h10 := z33_j10 _ _ _ _ _ _ _ _ _ _ _ _ _ _ h9.2
  have h11 := z33_j11 _ _ _ _ _ _ _ _ _ _ _ _ _ _ h10.2
  have h12 := z33_j12 _ _ _ _ _ _ _ _ _ _ _ _ _ _ h11.2
  have h13 := z33_loop13 _ _ _ _ _ _ _ _ _ _ _ _ _ _ h12.2
  have h14 := z33_j14 _ _ _ _ _ _ _ _ _ _ _ _ _ _ h13.2
  have h15 := z33_j15 _ _ _ _ _ _ _ _ _ _ _ _ _ _ h14.2
  have h16 := z33_j16 _ _ _ _ _ _ _ _ _ _ _ _ _ _ h15.2
  have h17 := z33_j17 _ _ _ _ _ _ _ _ _ _ _ _ _ _ h16.2
  have g1 := of_decide_eq_false h1
  have g2 := of_decide_eq_false h2
  refine ⟨by omega, fun x hx => ?_, hs.1, h3.1, h5.1, fun e => ⟨h8.1 e, h9.1 e, h10.1 e, h11.1 e⟩, ⟨h13.1.1, h14.1.1, h15.1.1, h16.1.1, fun e => ⟨h13.1.2 e, h14.1.2 e, h15.1.2 e, h16.1.2 e⟩⟩, h17⟩
  simp only [List.mem_cons, List.not_mem_nil, or_false] at hx
  rcases hx with rfl | rfl | rfl | rfl | rfl | rfl | rfl | rfl | rfl | rfl <;> exact bigR_no _ (by assumption)
theorem idx_none (p : Int → Bool) : ∀ (l : List Int) (i : Int), (∀ x ∈ l, p x = false) → idxFrom p l i = -1
  | [], _, _ => rfl
  | x :: l, i, h => by
    simp only [idxFrom]
    rw [h x (by simp), cond_false]
    exact idx_none p l (i + 1) fun y hy => h y (by simp [hy])
theorem min_pos : ∀ (l : List Int) (m : Int), 0 ≤ m → (∀ x ∈ l, 0 ≤ x) → 0 ≤ l.foldl min m
  | [], _, h, _ => h
  | x :: l, m, h, hl => by
    rw [List.foldl_cons]
    exact min_pos l _ (by have := hl x (by simp); omega) fun y hy => hl y (by simp [hy])
theorem chkB_ok {a1 a2 a3 a4 a5 a6 a7 a8 a9 a10 a11 a12 a13 a14 : Int} (h : OkBx a1 a2 a3 a4 a5 a6 a7 a8 a9 a10 a11 a12 a13 a14) : chkB a1 a2 a3 a4 a5 a6 a7 a8 a9 a10 a11 a12 a13 a14 = 0 := by
  obtain ⟨hk, hb, hs, hc, hz, hm, he, hd⟩ := h
  have w1 : wrB1 a1 a2 a3 a4 a5 a6 a7 a8 a9 a10 a11 a12 a13 a14 = false := by
    unfold wrB1
    rw [decide_eq_false (by omega : ¬ a2 < 1), decide_eq_false (by omega : ¬ a2 > 5)]; rfl
  have w2 : wrB2 a1 a2 a3 a4 a5 a6 a7 a8 a9 a10 a11 a12 a13 a14 = false := by
    unfold wrB2
    rw [blk_eq, idx_none bigB _ _ (fun x hx => ?_)]
    · rfl
    · have hx' : x ∈ [a5, a6, a7, a8, a9, a10, a11, a12, a13, a14] := hx
      have := hb x hx'
      unfold bigB
      rw [decide_eq_false (by omega : ¬ x < -268435456), decide_eq_false (by omega : ¬ x > 268435456)]; rfl
  have w3 : wrB3 a1 a2 a3 a4 a5 a6 a7 a8 a9 a10 a11 a12 a13 a14 = false := by
    unfold wrB3
    by_cases e : a2 = 2
    · rw [beq_iff_eq.2 e, cond_true]
      have := hs.1 e
      rw [decide_eq_false (by omega : ¬ a3 < 1), decide_eq_false (by omega : ¬ a3 > 2)]; rfl
    · rw [beq_eq_false_iff_ne.2 e, cond_false]
      rw [bne_eq_false_iff_eq]; exact hs.2 e
  have w4 : wrB4 a1 a2 a3 a4 a5 a6 a7 a8 a9 a10 a11 a12 a13 a14 = false := by
    unfold wrB4
    rw [decide_eq_false (by omega : ¬ a4 < 0), decide_eq_false (by omega : ¬ a4 > 3)]
    by_cases e : a2 = 5
    · rw [beq_iff_eq.2 e, hc.2.2 e]; rfl
    · rw [beq_eq_false_iff_ne.2 e]; rfl
  have w5 : wrB5 a1 a2 a3 a4 a5 a6 a7 a8 a9 a10 a11 a12 a13 a14 = false := by
    unfold wrB5
    by_cases e : a2 = 2
    · rw [beq_iff_eq.2 e, cond_true]
      rw [decide_eq_false (by omega : ¬ a5 < 0), decide_eq_false (by omega : ¬ a6 < -1)]; rfl
    · rw [beq_eq_false_iff_ne.2 e, cond_false]
      by_cases e2 : a2 = 5
      · rw [beq_iff_eq.2 e2, cond_true, decide_eq_false (by omega : ¬ a5 < 0), decide_eq_false (by omega : ¬ a6 < 0)]; rfl
      · rw [beq_eq_false_iff_ne.2 e2, cond_false, decide_eq_false (by omega : ¬ a5 < -1), decide_eq_false (by omega : ¬ a6 < -1)]; rfl
  have w6 : wrB6 a1 a2 a3 a4 a5 a6 a7 a8 a9 a10 a11 a12 a13 a14 = false := by
    unfold wrB6
    by_cases e : a2 = 5
    · obtain ⟨q1, q2, q3, q4⟩ := hm e
      rw [beq_iff_eq.2 e, q1, q2, q3, q4]; rfl
    · rw [beq_eq_false_iff_ne.2 e]; rfl
  have w7 : wrB7 a1 a2 a3 a4 a5 a6 a7 a8 a9 a10 a11 a12 a13 a14 = false := by
    unfold wrB7
    have hmin : ¬ minF [a11, a12, a13, a14] < 0 := by
      have := min_pos [a12, a13, a14] a11 he.1 (by simp only [List.mem_cons, List.not_mem_nil, or_false]; rintro x (rfl | rfl | rfl) <;> omega)
      show ¬ [a12, a13, a14].foldl min a11 < 0
      omega
    rw [blk_eq, decide_eq_false hmin]
    by_cases e : a2 = 5
    · obtain ⟨q1, q2, q3, q4⟩ := he.2.2.2.2 e
      rw [beq_iff_eq.2 e, q1, q2, q3, q4]; rfl
    · rw [beq_eq_false_iff_ne.2 e]; rfl
  have w8 : wrB8 a1 a2 a3 a4 a5 a6 a7 a8 a9 a10 a11 a12 a13 a14 = false := by
    unfold wrB8
    rw [decide_eq_false (by omega : ¬ a1 < 0), decide_eq_false (by omega : ¬ a1 > 256)]; rfl
  unfold chkB
  rw [w1, w2, w3, w4, w5, w6, w7, w8]
  rfl
theorem fits_eq (k c : Int) (hk : 1 ≤ k ∧ k ≤ 5) (hc : 1 ≤ c ∧ c ≤ 5) : fitsB k c = fits4 k c := by
  have h1 : k = 1 ∨ k = 2 ∨ k = 3 ∨ k = 4 ∨ k = 5 := by omega
  have h2 : c = 1 ∨ c = 2 ∨ c = 3 ∨ c = 4 ∨ c = 5 := by omega
  rcases h1 with rfl | rfl | rfl | rfl | rfl <;> rcases h2 with rfl | rfl | rfl | rfl | rfl <;> decide
end Go.Proofs.Ytkpjcmiijlpcaaa.W
