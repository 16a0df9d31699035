/- Boxes that may be a tree, as the document says, are built. -/
import Derived.Test.YtkpjcmiijlpcaaaFl
set_option linter.unusedVariables false
set_option linter.unusedSimpArgs false
namespace Go.Proofs.Ytkpjcmiijlpcaaa.W
open Go Go.Proofs Go.Proofs.Ytkpjcmiijlpcaaa.Aw
theorem chkFrom_ok (l : List Bx) : ∀ f i, (chkFrom l f i).2 = 0 → ∀ j, i ≤ j → j < i + f → ck6 l j = 0
  | 0, i, _, j, h1, h2 => by omega
  | f + 1, i, h, j, h1, h2 => by
    simp only [chkFrom] at h
    cases hc : (ck6 l i != 0) with
    | true => rw [hc, cond_true] at h; change ck6 l i = 0 at h; rw [h] at hc; cases hc
    | false =>
      rw [hc, cond_false] at h
      by_cases e : j = i
      · rw [e]; exact bne_zero hc
      · exact chkFrom_ok l f (i + 1) h j (by omega) (by omega)
theorem chk6_ok {l : List Bx} (h : (chk6 l).2 = 0) : 0 < l.length ∧ ∀ j, j < l.length → ck6 l j = 0 := by
  unfold chk6 at h
  cases hc : ((l.length : Int) == 0) with
  | true => rw [hc] at h; cases h
  | false =>
    rw [hc, cond_false] at h
    have : l.length ≠ 0 := by simpa using hc
    exact ⟨by omega, fun j hj => chkFrom_ok l l.length 0 h j (by omega) (by omega)⟩
structure BldI (l : List Bx) (k : Nat) (s : List Nd × List Int) : Prop where
  t : TreeN k s
  box : ∀ j, j < k → (s.1.getD j zNd).1 = l.getD j zBx
  len : (k = 0 → s.2.length = 0) ∧ (0 < k → (s.2.length : Int) = (l.getD (k - 1) zBx).1 + 1)
  path : ∀ t, t < s.2.length → s.2.getD t 0 = parFrom l t k
theorem bif_and {c x : Bool} (h : (bif !c then x else true) = false) : c = false ∧ x = false := by
  cases c with
  | true => cases h
  | false => exact ⟨rfl, h⟩
theorem rootB_of {b : Bx} (h : rootX b = false) : rootB b.1 b.2.1 b.2.2.2.1 b.2.2.2.2.1 b.2.2.2.2.2.2.1.1 b.2.2.2.2.2.2.1.2.1 b.2.2.2.2.2.2.1.2.2.1 b.2.2.2.2.2.2.1.2.2.2 = true := by
  unfold rootX at h
  obtain ⟨h1, h⟩ := bif_and h
  obtain ⟨h2, h⟩ := bif_and h
  obtain ⟨h3, h⟩ := bif_and h
  obtain ⟨h4, h⟩ := bif_and h
  have g1 := bne_zero h1
  have g2 : b.2.1 = 3 := by simpa using h2
  have g3 : b.2.2.2.2.1 ≥ 0 := by have := of_decide_eq_false h3; omega
  have g4 := bne_zero h4
  rw [Bool.not_eq_false'] at h
  unfold rootB
  rw [h, g1, g2, g4, decide_eq_true g3]
  rfl
theorem bld_chk {l : List Bx} {k : Nat} {s : List Nd × List Int} (h : BldI l k s) (hc : ∀ j, j < k + 1 → ck6 l j = 0) : chkN s.1 (l.getD k zBx) (parN s.2 (l.getD k zBx).1) = 0 := by
  obtain ⟨c1, c2, c3, c4⟩ := ck6_zero (hc k (by omega))
  have hlen := h.t.len
  have hd := ck_depth (hc k (by omega)) (fun e => (ck6_zero (hc (k - 1) (by omega))).2.1)
  unfold chkN chkT
  rw [hlen, chkB_ok (c33b_ok c2)]
  rw [show ((k : Int) == 65536) = false from beq_eq_false_iff_ne.2 (by omega), cond_false]
  rw [show ((0 : Int) != 0) = false from rfl, cond_false]
  rcases Nat.eq_zero_or_pos k with hk | hk
  · rw [show ((k : Int) == 0) = true by simp [hk], cond_true, rootB_of (c3 hk)]
    rfl
  · rw [show ((k : Int) == 0) = false from beq_eq_false_iff_ne.2 (by omega), cond_false]
    obtain ⟨d1, d2⟩ := hd.2.2.2 hk
    have hl := h.len.2 hk
    obtain ⟨n1, n2⟩ := c4 hk
    obtain ⟨p1, m, p2, p3, p4⟩ := par_pos (fun j hj => hc j (by omega)) hk n1 c2
    rw [p1, p3, Int.toNat_natCast] at n2
    have hpar : parN s.2 (l.getD k zBx).1 = (m : Int) := by
      unfold parN
      rw [decide_eq_true (by omega : (l.getD k zBx).1 ≥ 1), cond_true, decide_eq_true (by omega : (l.getD k zBx).1 ≤ (s.2.length : Int)), cond_true, h.path _ (by omega), ← p3]
      congr 1
      omega
    rw [hpar, decide_eq_true (by omega : (m : Int) ≥ 0), cond_true, Int.toNat_natCast, h.box m p2]
    have k1 := (c33b_ok (ck6_zero (hc m (by omega))).2.1).k
    have k2 := (c33b_ok c2).k
    rw [fits_eq _ _ k1 k2, n2]
    rfl
theorem bld_step {l : List Bx} {k : Nat} {s : List Nd × List Int} (h : BldI l k s) (hc : ∀ j, j < k + 1 → ck6 l j = 0) : BldI l (k + 1) (stepN s (l.getD k zBx) k) := by
  have hchk := bld_chk h hc
  have hd := ck_depth (hc k (by omega)) (fun e => (ck6_zero (hc (k - 1) (by omega))).2.1)
  have hplt : parN s.2 (l.getD k zBx).1 < k := by
    by_cases hp : 0 ≤ parN s.2 (l.getD k zBx).1
    · obtain ⟨q1, q2, q3⟩ := parN_get (path := s.2) hp (fun t ht => (h.t.el t ht).1)
      have := h.t.el ((l.getD k zBx).1 - 1).toNat (by omega); omega
    · omega
  have hdl : (l.getD k zBx).1.toNat ≤ s.2.length := by
    rcases Nat.eq_zero_or_pos k with hk | hk
    · have := hd.2.2.1 hk; omega
    · have := hd.2.2.2 hk
      have := h.len.2 hk
      omega
  have hl2 : (stepN s (l.getD k zBx) k).2.length = (l.getD k zBx).1.toNat + 1 := by
    simp only [stepN, List.length_append, List.length_take, List.length_singleton]; omega
  refine ⟨tree_step h.t hchk, fun j hj => ?_, ⟨fun e => by omega, fun _ => ?_⟩, fun t ht => ?_⟩
  · rcases Nat.lt_or_ge j k with hjk | hjk
    · rw [(step_old (s := s) h.t.len _ j hjk).1]; exact h.box j hjk
    · have : j = k := by omega
      subst this
      exact (step_new (s := s) h.t.len _ hplt).1
  · rw [hl2, Nat.add_sub_cancel]; omega
  · rw [hl2] at ht
    simp only [parFrom]
    by_cases e : t < (l.getD k zBx).1.toNat
    · rw [show ((l.getD k zBx).1 == (t : Int)) = false from beq_eq_false_iff_ne.2 (by omega), cond_false]
      simp only [stepN]
      rw [getD_app _ _ _ _ (by rw [List.length_take]; omega), getD_take _ _ _ e]
      exact h.path t (by omega)
    · have e2 : t = (l.getD k zBx).1.toNat := by omega
      rw [show ((l.getD k zBx).1 == (t : Int)) = true from beq_iff_eq.2 (by omega), cond_true]
      simp only [stepN]
      have hlt : (s.2.take (l.getD k zBx).1.toNat).length = t := by rw [List.length_take]; omega
      rw [← hlt, getD_last]
theorem bld_all {l : List Bx} (hc : ∀ j, j < l.length → ck6 l j = 0) : ∀ (f k : Nat) (s : List Nd × List Int), l.length - k = f → k ≤ l.length → BldI l k s → (buildN (l.drop k) k s).isSome = true
  | 0, k, s, hf, hk, _ => by
    rw [List.drop_of_length_le (by omega)]; rfl
  | f + 1, k, s, hf, hk, h => by
    have hlt : k < l.length := by omega
    rw [List.drop_eq_getElem_cons hlt]
    simp only [buildN]
    have hg : l[k] = l.getD k zBx := (getD_nat' l zBx k hlt).symm
    rw [hg, bld_chk h (fun j hj => hc j (by omega))]
    exact bld_all hc f (k + 1) _ (by omega) (by omega) (bld_step h (fun j hj => hc j (by omega)))
theorem build_some {l : List Bx} (h : (chk6 l).2 = 0) : 0 < l.length ∧ (buildN l 0 ([], [])).isSome = true := by
  obtain ⟨h1, h2⟩ := chk6_ok h
  refine ⟨h1, ?_⟩
  have := bld_all h2 l.length 0 ([], []) (by omega) (by omega) ⟨tree_nil, fun j hj => by omega, ⟨fun _ => rfl, fun e => by omega⟩, fun t ht => by simp at ht⟩
  rwa [List.drop_zero] at this
end Go.Proofs.Ytkpjcmiijlpcaaa.W
