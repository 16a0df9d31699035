/- An abstract program logic over the model, twenty-sixth part: small lemmas for the proofs over bodies' normal forms: tests, numbers, lists gone through. -/
import Derived.Test.YtkpjcmiijlpcaaaAwW
namespace Go.Proofs.Ytkpjcmiijlpcaaa.Aw
open Go

theorem cond_of {c : Bool} {X Y : Prop} (h : c = true) (hx : X) : bif c then X else Y := by rw [h]; exact hx
theorem cond_no {c : Bool} {X Y : Prop} (h : c = false) (hy : Y) : bif c then X else Y := by rw [h]; exact hy
theorem cond_split {c : Bool} {X Y : Prop} (hx : c = true → X) (hy : c = false → Y) : bif c then X else Y := by
  cases c with
  | true => exact hx rfl
  | false => exact hy rfl
theorem dec_yes {p : Prop} [Decidable p] {X Y : Prop} (h : p) (hx : X) : bif decide p then X else Y := by rw [decide_eq_true h]; exact hx
theorem dec_no {p : Prop} [Decidable p] {X Y : Prop} (h : ¬ p) (hy : Y) : bif decide p then X else Y := by rw [decide_eq_false h]; exact hy
theorem dec_split {p : Prop} [Decidable p] {X Y : Prop} (hx : p → X) (hy : ¬ p → Y) : bif decide p then X else Y := by
  by_cases h : p
  · exact dec_yes h (hx h)
  · exact dec_no h (hy h)
theorem ndec_split {p : Prop} [Decidable p] {X Y : Prop} (hx : ¬ p → X) (hy : p → Y) : bif !decide p then X else Y := by
  by_cases h : p
  · rw [decide_eq_true h]; exact hy h
  · rw [decide_eq_false h]; exact hx h
theorem dec_and {p q : Prop} [Decidable p] (h : decide p = true) (hq : q) : p ∧ q := ⟨of_decide_eq_true h, hq⟩
theorem wrap_id (x : Int) (h : -9223372036854775808 ≤ x ∧ x ≤ 9223372036854775807) : IntKind.wrap .i64 x = x := by
  simp [IntKind.wrap, IntKind.signed, IntKind.bits]
  omega
theorem wrap_next (i : Nat) (n : Nat) (h : i < n) (hn : n ≤ maxLen) : IntKind.wrap .i64 ((i : Int) + 1) = ((i + 1 : Nat) : Int) := by
  simp only [maxLen] at hn
  rw [wrap_id _ (by omega)]
  omega
theorem wrap_bd (x : Int) : -9223372036854775808 ≤ IntKind.wrap .i64 x ∧ IntKind.wrap .i64 x ≤ 9223372036854775807 := by
  simp [IntKind.wrap, IntKind.signed, IntKind.bits]
  omega
theorem getD_nat {α : Type} (xs : List α) (d : α) (i : Nat) (h : i < xs.length) : xs.getD ((i : Int).toNat) d = xs[i] := by
  simp [List.getD, h]
theorem getD_nat' {α : Type} (xs : List α) (d : α) (i : Nat) (h : i < xs.length) : xs.getD i d = xs[i] := by
  simp [List.getD, h]
theorem take_next {α : Type} (xs : List α) (i : Nat) (h : i < xs.length) : xs.take (i + 1) = xs.take i ++ [xs[i]] := List.take_succ_eq_append_getElem h
theorem take_all {α : Type} (xs : List α) (i : Nat) (h : ¬ i < xs.length) : xs.take i = xs := List.take_of_length_le (by omega)
theorem i64_of (n : Int) (h : (Lit.int .i64 n).wf = true) : -9223372036854775808 ≤ n ∧ n ≤ 9223372036854775807 := by
  simp [Lit.wf, IntKind.min, IntKind.max, IntKind.signed, IntKind.bits] at h
  omega
theorem i32_of (n : Int) (h : (Lit.int .i32 n).wf = true) : -2147483648 ≤ n ∧ n ≤ 2147483647 := by
  simp [Lit.wf, IntKind.min, IntKind.max, IntKind.signed, IntKind.bits] at h
  omega
theorem i16_of (n : Int) (h : (Lit.int .i16 n).wf = true) : -32768 ≤ n ∧ n ≤ 32767 := by
  simp [Lit.wf, IntKind.min, IntKind.max, IntKind.signed, IntKind.bits] at h
  omega
theorem u8_of (n : Int) (h : (Lit.int .u8 n).wf = true) : 0 ≤ n ∧ n ≤ 255 := by
  simp [Lit.wf, IntKind.min, IntKind.max, IntKind.signed, IntKind.bits] at h
  omega
end Go.Proofs.Ytkpjcmiijlpcaaa.Aw
