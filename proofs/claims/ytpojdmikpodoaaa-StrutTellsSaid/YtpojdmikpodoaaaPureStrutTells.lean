/- StrutTells: for every list of margins the law answers true: the strut that the program makes of margins is the greatest above 0 and the least below 0, what they come to is their sum, and the strut is right. No condition. -/
import Derived.Test.YtpojdmikpodoaaaPStrutTellsx3
import Derived.Test.YtpojdmikpodoaaaAid
namespace Go.Proofs.Ytpojdmikpodoaaa.Pure
open Go.RowKit Go.Proofs.Ytpojdmikpodoaaa.PStrutTells Go.Proofs.YtpojdmikpodoaaaW.PrintWords Go.Proofs.YtpojdmikpodoaaaW.PrintLast Go.Proofs.YtpojdmikpodoaaaW.PrintMore Go.Proofs.Ytpojdmikpodoaaa.Aid

theorem of_from (l : List Int) (hn : l.length ≤ 9223372036854775807) (d : Nat) : ∀ (k i : Nat) (a b : Int), i + d = l.length → d < k →
    strut_Of.l0 k l (l.length : Int) (i : Int) a b = some ((l.drop i).foldl mx a, (l.drop i).foldl mn b) := by
  induction d with
  | zero =>
    intro k i a b hi hk
    obtain ⟨k, rfl⟩ : ∃ m, k = m + 1 := ⟨k - 1, by omega⟩
    simp only [strut_Of.l0]
    rw [if_neg (by omega), List.drop_of_length_le (by omega)]
    rfl
  | succ d ih =>
    intro k i a b hi hk
    obtain ⟨k, rfl⟩ : ∃ m, k = m + 1 := ⟨k - 1, by omega⟩
    simp only [strut_Of.l0, strut_Strut_With.f, strut_Strut_Join.f]
    rw [if_pos (by omega), if_pos (by omega), if_pos (by omega)]
    simp only [Option.bind_some]
    rw [wrap_up (by omega) (by omega : (i : Int) < l.length) hn, show ((i : Int) + 1) = ((i + 1 : Nat) : Int) by omega, ih k (i + 1) _ _ (by omega) (by omega), drop_rd l i (by omega)]
    rfl
theorem of_tells (l : List Int) (hn : l.length ≤ 9223372036854775807) (k : Nat) (hk : l.length < k) : strut_Of.f k l = some (l.foldl mx 0, l.foldl mn 0) := by
  unfold strut_Of.f
  have h := of_from l hn l.length k 0 0 0 (by omega) hk
  rw [List.drop_zero] at h
  exact h

theorem most_from (l : List Int) (hn : l.length ≤ 9223372036854775807) (d : Nat) : ∀ (k i : Nat) (a : Int), i + d = l.length → d < k →
    runaroundref03_Most.l0 k l a (i : Int) = some ((l.drop i).foldl mx a) := by
  induction d with
  | zero =>
    intro k i a hi hk
    obtain ⟨k, rfl⟩ : ∃ m, k = m + 1 := ⟨k - 1, by omega⟩
    simp only [runaroundref03_Most.l0]
    rw [if_neg (by omega), List.drop_of_length_le (by omega)]
    rfl
  | succ d ih =>
    intro k i a hi hk
    obtain ⟨k, rfl⟩ : ∃ m, k = m + 1 := ⟨k - 1, by omega⟩
    simp only [runaroundref03_Most.l0]
    rw [if_pos (by omega), if_pos (by omega), wrap_up (by omega) (by omega : (i : Int) < l.length) hn, show ((i : Int) + 1) = ((i + 1 : Nat) : Int) by omega, ih k (i + 1) _ (by omega) (by omega), ih k (i + 1) _ (by omega) (by omega), drop_rd l i (by omega), List.foldl_cons]
    unfold mx
    split <;> rfl
theorem least_from (l : List Int) (hn : l.length ≤ 9223372036854775807) (d : Nat) : ∀ (k i : Nat) (a : Int), i + d = l.length → d < k →
    runaroundref03_Least.l0 k l a (i : Int) = some ((l.drop i).foldl mn a) := by
  induction d with
  | zero =>
    intro k i a hi hk
    obtain ⟨k, rfl⟩ : ∃ m, k = m + 1 := ⟨k - 1, by omega⟩
    simp only [runaroundref03_Least.l0]
    rw [if_neg (by omega), List.drop_of_length_le (by omega)]
    rfl
  | succ d ih =>
    intro k i a hi hk
    obtain ⟨k, rfl⟩ : ∃ m, k = m + 1 := ⟨k - 1, by omega⟩
    simp only [runaroundref03_Least.l0]
    rw [if_pos (by omega), if_pos (by omega), wrap_up (by omega) (by omega : (i : Int) < l.length) hn, show ((i : Int) + 1) = ((i + 1 : Nat) : Int) by omega, ih k (i + 1) _ (by omega) (by omega), ih k (i + 1) _ (by omega) (by omega), drop_rd l i (by omega), List.foldl_cons]
    unfold mn
    split <;> rfl
theorem most_tells (l : List Int) (hn : l.length ≤ 9223372036854775807) (k : Nat) (hk : l.length < k) : runaroundref03_Most.f k l = some (l.foldl mx 0) := by
  unfold runaroundref03_Most.f
  have h := most_from l hn l.length k 0 0 (by omega) hk
  rw [List.drop_zero] at h
  exact h
theorem least_tells (l : List Int) (hn : l.length ≤ 9223372036854775807) (k : Nat) (hk : l.length < k) : runaroundref03_Least.f k l = some (l.foldl mn 0) := by
  unfold runaroundref03_Least.f
  have h := least_from l hn l.length k 0 0 (by omega) hk
  rw [List.drop_zero] at h
  exact h
theorem small_some (l : List Int) (hn : l.length ≤ 9223372036854775807) (d : Nat) : ∀ (k i : Nat), i + d = l.length → d < k → ∃ b, runaroundref02_Small.l0 k l (i : Int) = some b := by
  induction d with
  | zero =>
    intro k i hi hk
    obtain ⟨k, rfl⟩ : ∃ m, k = m + 1 := ⟨k - 1, by omega⟩
    simp only [runaroundref02_Small.l0]
    rw [if_neg (by omega)]
    exact ⟨_, rfl⟩
  | succ d ih =>
    intro k i hi hk
    obtain ⟨k, rfl⟩ : ∃ m, k = m + 1 := ⟨k - 1, by omega⟩
    obtain ⟨b, hb⟩ := ih k (i + 1) (by omega) (by omega)
    simp only [runaroundref02_Small.l0]
    rw [if_pos (by omega), if_pos (by omega), wrap_up (by omega) (by omega : (i : Int) < l.length) hn, show ((i : Int) + 1) = ((i + 1 : Nat) : Int) by omega, hb]
    split
    · exact ⟨_, rfl⟩
    · split <;> exact ⟨_, rfl⟩
theorem speaks_four : runaroundlaw03_speaks.f 4 = some true := by decide +kernel
theorem speaks_tells (k : Nat) (hk : 4 ≤ k) : runaroundlaw03_speaks.f k = some true := at_rounds runaroundlaw03_speaks.mono hk speaks_four

theorem tells_true (l : List Int) (k : Nat) (hk : 4 ≤ k) : runaroundlaw03_StrutTells.j0 (k + 1) l true = some true := by
  simp only [runaroundlaw03_StrutTells.j0, if_true]
  rw [speaks_tells k hk]
  rfl
theorem tells_false (l : List Int) (hn : l.length ≤ 9223372036854775807) (k : Nat) (hk : l.length < k) : runaroundlaw03_StrutTells.j0 (k + 1) l false = some true := by
  simp only [runaroundlaw03_StrutTells.j0]
  rw [if_neg (by simp), of_tells l hn k hk, most_tells l hn k hk, least_tells l hn k hk]
  simp only [Option.bind_some, runaroundref03_Sum.f, strut_Strut_Sum.f, strut_Strut_Right.f]
  rw [most_tells l hn k hk, least_tells l hn k hk]
  simp only [Option.bind_some]
  have h1 := up_le l 0
  have h2 := dn_le l 0
  simp [h1, h2]

theorem StrutTells : runaroundlaw03_StrutTells.Pure := by
  intro l hm _ _
  have hn : l.length ≤ 9223372036854775807 := hm
  refine ⟨l.length + 5 + 1, ?_⟩
  unfold runaroundlaw03_StrutTells.f
  rw [speaks_tells _ (by omega)]
  simp only [Option.bind_some, if_true]
  by_cases h : (l.length : Int) > 60
  · rw [if_pos h]
    exact tells_true l _ (by omega)
  · rw [if_neg h]
    obtain ⟨b, hb⟩ := small_some l hn l.length (l.length + 5 + 1) 0 (by omega) (by omega)
    have hb' : runaroundref02_Small.f (l.length + 5 + 1) l = some b := hb
    rw [hb']
    simp only [Option.bind_some]
    cases b with
    | true => exact tells_false l hn _ (by omega)
    | false => exact tells_true l _ (by omega)

end Go.Proofs.Ytpojdmikpodoaaa.Pure
