/- StrutBounds: for every list of margins the law answers true: they come to no more than the greatest, or 0, and no less than the least, or 0; those of one sign come to the farthest; turned round they come to as much, turned round. No condition. -/
import Derived.Test.YtpojdmikpodoaaaPStrutBoundsx2
import Derived.Test.YtpojdmikpodoaaaAid
namespace Go.Proofs.Ytpojdmikpodoaaa.Pure
open Go.RowKit Go.Proofs.Ytpojdmikpodoaaa.PStrutBounds Go.Proofs.YtpojdmikpodoaaaW.PrintWords Go.Proofs.YtpojdmikpodoaaaW.PrintLast Go.Proofs.YtpojdmikpodoaaaW.PrintMore Go.Proofs.Ytpojdmikpodoaaa.Aid

theorem of_from (l : List Int) (hn : l.length ≤ 9223372036854775807) (d : Nat) : ∀ (k i : Nat) (a b : Int), i + d = l.length → d < k →
    strut_Of.l0 k l (l.length : Int) (i : Int) a b = some ((l.drop i).foldl mx a, (l.drop i).foldl mn b) := by
  induction d with
  | zero =>
    intro k i a b hi hk
    obtain ⟨k, rfl⟩ : ∃ m, k = m + 1 := ⟨k - 1, by omega⟩
    simp only [strut_Of.l0]
    rw [if_neg (by omega), List.drop_of_length_le (by omega)]
    rfl
  | succ d ih =>
    intro k i a b hi hk
    obtain ⟨k, rfl⟩ : ∃ m, k = m + 1 := ⟨k - 1, by omega⟩
    simp only [strut_Of.l0, strut_Strut_With.f, strut_Strut_Join.f]
    rw [if_pos (by omega), if_pos (by omega), if_pos (by omega)]
    simp only [Option.bind_some]
    rw [wrap_up (by omega) (by omega : (i : Int) < l.length) hn, show ((i : Int) + 1) = ((i + 1 : Nat) : Int) by omega, ih k (i + 1) _ _ (by omega) (by omega), drop_rd l i (by omega)]
    rfl
theorem of_tells (l : List Int) (hn : l.length ≤ 9223372036854775807) (k : Nat) (hk : l.length < k) : strut_Of.f k l = some (l.foldl mx 0, l.foldl mn 0) := by
  unfold strut_Of.f
  have h := of_from l hn l.length k 0 0 0 (by omega) hk
  rw [List.drop_zero] at h
  exact h
theorem small_some (l : List Int) (hn : l.length ≤ 9223372036854775807) (d : Nat) : ∀ (k i : Nat), i + d = l.length → d < k →
    ∃ b, runaroundref02_Small.l0 k l (i : Int) = some b ∧ (b = true → ∀ x ∈ l.drop i, -1152921504606846976 ≤ x ∧ x ≤ 1152921504606846976) := by
  induction d with
  | zero =>
    intro k i hi hk
    obtain ⟨k, rfl⟩ : ∃ m, k = m + 1 := ⟨k - 1, by omega⟩
    simp only [runaroundref02_Small.l0]
    rw [if_neg (by omega)]
    exact ⟨_, rfl, fun _ x hx => by rw [List.drop_of_length_le (by omega)] at hx; simp at hx⟩
  | succ d ih =>
    intro k i hi hk
    obtain ⟨k, rfl⟩ : ∃ m, k = m + 1 := ⟨k - 1, by omega⟩
    obtain ⟨b, hb, hb2⟩ := ih k (i + 1) (by omega) (by omega)
    simp only [runaroundref02_Small.l0]
    rw [if_pos (by omega), if_pos (by omega), wrap_up (by omega) (by omega : (i : Int) < l.length) hn, show ((i : Int) + 1) = ((i + 1 : Nat) : Int) by omega, hb]
    split
    · exact ⟨_, rfl, fun h => by cases h⟩
    · split
      · exact ⟨_, rfl, fun h => by cases h⟩
      · refine ⟨_, rfl, fun h x hx => ?_⟩
        rw [drop_rd l i (by omega)] at hx
        rcases List.mem_cons.1 hx with rfl | hx
        · omega
        · exact hb2 h x hx
theorem speaks_four : runaroundlaw03_speaks.f 4 = some true := by decide +kernel
theorem speaks_tells (k : Nat) (hk : 4 ≤ k) : runaroundlaw03_speaks.f k = some true := at_rounds runaroundlaw03_speaks.mono hk speaks_four

theorem turned_from (l : List Int) (n : Int) (hl : l.length ≤ 60) (hb : ∀ x ∈ l, -1152921504606846976 ≤ x ∧ x ≤ 1152921504606846976) (d : Nat) : ∀ (k i : Nat) (t : List Int), i + d = l.length → d + 70 < k → t = (l.take i).map (fun x => -x) →
    runaroundlaw03_StrutBounds.l1 k n t l (l.length : Int) (i : Int) = some (wrap64 ((l.map (fun x => -x)).foldl mx 0 + (l.map (fun x => -x)).foldl mn 0) == wrap64 (-n)) := by
  induction d with
  | zero =>
    intro k i t hi hk ht
    obtain ⟨k, rfl⟩ : ∃ m, k = m + 1 := ⟨k - 1, by omega⟩
    simp only [runaroundlaw03_StrutBounds.l1]
    rw [List.take_of_length_le (by omega)] at ht
    rw [if_neg (by omega), of_tells t (by rw [ht, List.length_map]; omega) k (by rw [ht, List.length_map]; omega)]
    simp only [Option.bind_some, strut_Strut_Sum.f]
    rw [ht]
  | succ d ih =>
    intro k i t hi hk ht
    obtain ⟨k, rfl⟩ : ∃ m, k = m + 1 := ⟨k - 1, by omega⟩
    have h1 : rd l (i : Int) = l[i] := by simp [rd, List.getD, show i < l.length by omega]
    have h2 := hb l[i] (List.getElem_mem _)
    simp only [runaroundlaw03_StrutBounds.l1]
    rw [if_pos (by omega), if_pos (by omega), if_pos (by omega), if_pos (by rw [ht, List.length_map, List.length_take]; omega), wrap_up (by omega) (by omega : (i : Int) < l.length) (by omega), show ((i : Int) + 1) = ((i + 1 : Nat) : Int) by omega, h1, wrap_id (by omega) (by omega)]
    exact ih k (i + 1) _ (by omega) (by omega) (by rw [ht, List.take_succ_eq_append_getElem (by omega), List.map_append]; rfl)

theorem last_true (l : List Int) (n up dn : Int) (hl : l.length ≤ 60) (hb : ∀ x ∈ l, -1152921504606846976 ≤ x ∧ x ≤ 1152921504606846976) (hu : up = l.foldl mx 0) (hd : dn = l.foldl mn 0) (hn : n = up + dn) (k : Nat) (hk : l.length + 80 < k) :
    runaroundlaw03_StrutBounds.j3 k l n false = some true := by
  obtain ⟨k, rfl⟩ : ∃ m, k = m + 1 := ⟨k - 1, by omega⟩
  have u1 := up_in l 1152921504606846976 (fun x hx => (hb x hx).2) 0 (by omega)
  have d1 := dn_in l (-1152921504606846976) (fun x hx => (hb x hx).1) 0 (by omega)
  have u2 := up_le l 0
  have d2 := dn_le l 0
  have e1 := up_neg l 0
  have e2 := dn_neg l 0
  rw [Int.neg_zero] at e1 e2
  simp only [runaroundlaw03_StrutBounds.j3]
  have h := turned_from l n hl hb l.length k 0 [] (by omega) (by omega) (by simp)
  rw [if_neg (by simp)]
  refine h.trans ?_
  rw [e1, e2]
  simp only [Option.some.injEq, beq_iff_eq]
  congr 1
  omega

theorem bounds_two (l : List Int) (n up dn : Int) (hl : l.length ≤ 60) (hb : ∀ x ∈ l, -1152921504606846976 ≤ x ∧ x ≤ 1152921504606846976) (hu : up = l.foldl mx 0) (hd : dn = l.foldl mn 0) (hn : n = up + dn) (k : Nat) (hk : l.length + 82 < k) :
    runaroundlaw03_StrutBounds.j2 k l n up dn false = some true := by
  obtain ⟨k, rfl⟩ : ∃ m, k = m + 1 := ⟨k - 1, by omega⟩
  have h := last_true l n up dn hl hb hu hd hn k (by omega)
  simp only [runaroundlaw03_StrutBounds.j2]
  rw [if_neg (by simp)]
  by_cases h0 : dn = 0
  · rw [if_pos h0, if_pos (by omega)]
    by_cases h1 : up = 0
    · rw [if_pos h1, show (n != dn) = false by simp; omega]
      exact h
    · rw [if_neg h1]
      exact h
  · rw [if_neg h0]
    by_cases h1 : up = 0
    · rw [if_pos h1, show (n != dn) = false by simp; omega]
      exact h
    · rw [if_neg h1]
      exact h

theorem bounds_from (l : List Int) (n : Int) (hl : l.length ≤ 60) (hb : ∀ x ∈ l, -1152921504606846976 ≤ x ∧ x ≤ 1152921504606846976) (hn : n = l.foldl mx 0 + l.foldl mn 0) (d : Nat) : ∀ (k i : Nat) (up dn : Int), i + d = l.length → d + 150 < k → (l.drop i).foldl mx up = l.foldl mx 0 → (l.drop i).foldl mn dn = l.foldl mn 0 →
    runaroundlaw03_StrutBounds.l0 k l n up dn l (l.length : Int) (i : Int) = some true := by
  induction d with
  | zero =>
    intro k i up dn hi hk hu hd
    obtain ⟨k, rfl⟩ : ∃ m, k = m + 1 := ⟨k - 1, by omega⟩
    rw [List.drop_of_length_le (by omega), List.foldl_nil] at hu hd
    have u2 := up_le l 0
    have d2 := dn_le l 0
    simp only [runaroundlaw03_StrutBounds.l0]
    rw [if_neg (by omega), if_neg (by omega), show decide (n < dn) = false by simp; omega]
    exact bounds_two l n up dn hl hb hu hd (by omega) k (by omega)
  | succ d ih =>
    intro k i up dn hi hk hu hd
    obtain ⟨k, rfl⟩ : ∃ m, k = m + 1 := ⟨k - 1, by omega⟩
    rw [drop_rd l i (by omega), List.foldl_cons] at hu hd
    simp only [runaroundlaw03_StrutBounds.l0]
    rw [if_pos (by omega), if_pos (by omega), if_pos (by omega), wrap_up (by omega) (by omega : (i : Int) < l.length) (by omega), show ((i : Int) + 1) = ((i + 1 : Nat) : Int) by omega]
    exact ih k (i + 1) _ _ (by omega) (by omega) hu hd

theorem bounds_true (l : List Int) (k : Nat) (hk : 4 ≤ k) : runaroundlaw03_StrutBounds.j0 (k + 1) l true = some true := by
  simp only [runaroundlaw03_StrutBounds.j0, if_true]
  rw [speaks_tells k hk]
  rfl
theorem bounds_false (l : List Int) (hl : l.length ≤ 60) (hb : ∀ x ∈ l, -1152921504606846976 ≤ x ∧ x ≤ 1152921504606846976) (k : Nat) (hk : l.length + 200 < k) : runaroundlaw03_StrutBounds.j0 (k + 1) l false = some true := by
  have u1 := up_in l 1152921504606846976 (fun x hx => (hb x hx).2) 0 (by omega)
  have d1 := dn_in l (-1152921504606846976) (fun x hx => (hb x hx).1) 0 (by omega)
  have u2 := up_le l 0
  have d2 := dn_le l 0
  simp only [runaroundlaw03_StrutBounds.j0]
  rw [if_neg (by simp), of_tells l (by omega) k (by omega)]
  simp only [Option.bind_some, strut_Strut_Sum.f]
  rw [wrap_id (by omega) (by omega)]
  exact bounds_from l _ hl hb rfl l.length k 0 0 0 (by omega) (by omega) rfl rfl

theorem StrutBounds : runaroundlaw03_StrutBounds.Pure := by
  intro l hm _ _
  have hn : l.length ≤ 9223372036854775807 := hm
  refine ⟨l.length + 300 + 1, ?_⟩
  unfold runaroundlaw03_StrutBounds.f
  rw [speaks_tells _ (by omega)]
  simp only [Option.bind_some, if_true]
  by_cases h : (l.length : Int) > 60
  · rw [if_pos h]
    exact bounds_true l _ (by omega)
  · rw [if_neg h]
    obtain ⟨b, hb, hb2⟩ := small_some l hn l.length (l.length + 300 + 1) 0 (by omega) (by omega)
    have hb' : runaroundref02_Small.f (l.length + 300 + 1) l = some b := hb
    rw [hb']
    simp only [Option.bind_some]
    cases b with
    | true => exact bounds_false l (by omega) (hb2 rfl) _ (by omega)
    | false => exact bounds_true l _ (by omega)

end Go.Proofs.Ytpojdmikpodoaaa.Pure
