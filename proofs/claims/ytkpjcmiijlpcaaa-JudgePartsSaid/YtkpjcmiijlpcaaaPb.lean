/- A tree that was built is as it should be; a context's members. -/
import Derived.Test.YtkpjcmiijlpcaaaFi
import Derived.Test.YtkpjcmiijlpcaaaPa
set_option linter.unusedVariables false
set_option linter.unusedSimpArgs false
namespace Go.Proofs.Ytkpjcmiijlpcaaa.W
open Go Go.Proofs Go.Proofs.Ytkpjcmiijlpcaaa.Aw
abbrev parF (xs : List Nd) (i : Int) : Int := (ndAt xs i).2.1
abbrev opF (xs : List Nd) (i : Int) : Bool := openB (ndAt xs i).1.2.1
abbrev ctF (xs : List Nd) (i : Int) : Int := (ndAt xs i).2.2.2.1
abbrev ksF (xs : List Nd) (i : Int) : List Int := (ndAt xs i).2.2.2.2
abbrev TreeX (xs : List Nd) : Prop := TreeI xs.length (parF xs) (opF xs) (ctF xs) (ksF xs)
theorem ndAt_in {xs : List Nd} {i : Int} (h0 : 0 ≤ i) (h1 : i < (xs.length : Int)) : ndAt xs i = xs.getD i.toNat zNd := by
  unfold ndAt
  rw [decide_eq_false (by omega : ¬ i < 0), decide_eq_false (by change ¬ i ≥ (xs.length : Int); omega)]
  rfl
theorem ndAt_out {xs : List Nd} {i : Int} (h : ¬ (0 ≤ i ∧ i < (xs.length : Int))) : ndAt xs i = (zBx, -1, -1, -1, []) := by
  unfold ndAt
  by_cases h0 : i < 0
  · rw [decide_eq_true h0]; rfl
  · rw [decide_eq_false h0, decide_eq_true (by change i ≥ (xs.length : Int); omega)]
    rfl
theorem op_in {xs : List Nd} {c : Int} (h : opF xs c = true) : 0 ≤ c ∧ c < (xs.length : Int) := by
  by_cases hc : 0 ≤ c ∧ c < (xs.length : Int)
  · exact hc
  · unfold opF at h
    rw [ndAt_out hc] at h
    exact absurd h (by decide)
theorem memQ_map (ys : List Nd) (q : List Int) : ∀ k, memQ ys q k = entW ((List.range k).map (evQ ys q))
  | 0 => rfl
  | k + 1 => by
    rw [List.range_succ, List.map_append, List.map_singleton]
    have e : entW ((List.range k).map (evQ ys q) ++ [evQ ys q k]) = entW ((List.range k).map (evQ ys q)) ++ entW [evQ ys q k] := List.filterMap_append
    rw [e, ← memQ_map ys q k]
    simp only [memQ]
    cases h : (evQ ys q k).2 with
    | true => simp [entW, h]
    | false => simp [entW, h]
theorem range_map (es : List Ev) (g : Nat → Ev) (h : ∀ y, y < es.length → g y = es.getD y (0, false)) : (List.range es.length).map g = es := by
  apply List.ext_getElem
  · simp
  · intro i h1 h2
    rw [List.getElem_map, List.getElem_range, h i h2, getD_nat' es _ i h2]
theorem ctx_walk {xs : List Nd} (t : TreeX xs) (hn : xs.length ≤ 8192) (c : Int) : endQ xs (topQ xs c) ∧ memL xs c = bif opF xs c then memI xs.length (ctF xs) c else [] := by
  cases ho : opF xs c with
  | false =>
    have e : topQ xs c = [] := by
      unfold topQ
      rw [show openB (ndAt xs c).1.2.1 = false from ho]; rfl
    unfold memL endQ cntQ
    rw [e]
    exact ⟨rfl, rfl⟩
  | true =>
    obtain ⟨h0, h1⟩ := op_in ho
    have e : topQ xs c = ksF xs c := by
      unfold topQ
      rw [show openB (ndAt xs c).1.2.1 = true from ho]; rfl
    obtain ⟨es, g1, g2, g3, g4⟩ := walk_all t c h0 h1 ho 16384 (by omega)
    have hc : cntQ xs (ksF xs c) = es.length := g2
    refine ⟨?_, ?_⟩
    · unfold endQ
      rw [e, hc]
      exact g3
    · unfold memL
      rw [e, hc, memQ_map, range_map es (evQ xs (ksF xs c)) g4, g1]
      rfl
theorem trOk {xs : List Nd} (t : TreeX xs) (hn : xs.length ≤ 8192) : TrOk xs := by
  have hml : ∀ c, ∀ i ∈ memL xs c, 0 ≤ i ∧ i < (xs.length : Int) := by
    intro c i hi
    rw [(ctx_walk t hn c).2] at hi
    cases ho : opF xs c with
    | false => rw [ho] at hi; simp at hi
    | true =>
      rw [ho, cond_true] at hi
      have := (memI_mem _ _ _ _).1 hi
      omega
  refine ⟨by omega, fun x hx => ?_, fun c => (ctx_walk t hn c).1, fun c => ?_, hml, fun i h0 h1 => ⟨t.par_0 i h0 h1, t.par_lt i (by omega) h1⟩⟩
  · obtain ⟨j, hj, rfl⟩ := List.getElem_of_mem hx
    have hnd : ndAt xs (j : Int) = xs[j] := by rw [ndAt_in (by omega) (by omega), Int.toNat_natCast, getD_nat' xs _ j hj]
    have h2 := sorted_len (ksF xs j) 0 xs.length (fun y hy => by have := (t.mem j y (by omega) (by omega)).1 hy; omega) (t.sorted j (by omega) (by omega))
    unfold ksF at h2
    rw [hnd] at h2
    omega
  · have hs : (memL xs c).Pairwise (· < ·) := by
      rw [(ctx_walk t hn c).2]
      cases opF xs c with
      | false => simp
      | true => exact memI_sorted _ _ _
    have := sorted_len (memL xs c) 0 xs.length (fun y hy => hml c y hy) hs
    omega
theorem trOk_of {l : List Bx} {xs : List Nd} (h : buildN l 0 ([], []) = some xs) (hl : 0 < l.length) (hn : l.length ≤ 8192) : TrOk xs := by
  obtain ⟨h1, _, t⟩ := tree_of h hl
  exact trOk t (by omega)
end Go.Proofs.Ytkpjcmiijlpcaaa.W
