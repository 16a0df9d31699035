/- An abstract program logic over the model: a function that is handed one row, which stays, . -/
import Derived.Test.YtkpjcmiijlpcaaaAwAE
namespace Go.Proofs.Ytkpjcmiijlpcaaa.Aw
open Go
theorem fn_ok2F {P : Program} {T : Tab} {env : Env} (he : EnvOk P env) (hT : TabOk P T) (hm : P.follows .mixedOrders = true) {g : FuncId} {fn : Func} (hf : P.funcs[g]? = some fn) (hname : (fn.name == "runtime.NumGoroutine") = false) (hb : fn.body.isSome = true) {args : List AV} {e0 : TypeId} {t : Ty} {xs : List t.den} {v : AV} (hv0 : v.refs = [])
    (h : fnB T env fn (bodyOf fn) args [.row e0 t xs] fun v' o' => newsH o' 0 = .row e0 t xs ∧ Frz (newsH (o'.set 0 .dead)) v' v) (hy : env.ycnt = 0 ∧ env.isIt = false := by exact ⟨rfl, rfl⟩) : ACalls2 P g args [.row e0 t xs] v [.row e0 t xs] := by
  obtain ⟨c, hc⟩ := Option.isSome_iff_exists.1 hb
  have e : bodyOf fn = c := by unfold bodyOf; rw [hc]; rfl
  rw [e] at h
  refine ⟨⟨fn, hf, hname, by rw [hc]; rfl⟩, fun S β w vs hrel hvs => ?_⟩
  refine (callsIn_wide (n := 0)).1 (callsIn_of_wp_marks (F := Wd none) hf hc trivial ?_)
  have hi := start_inv (π := ⟨1, β, newsH [.row e0 t xs], false⟩) (fn := fn) (n := 1) (vs := vs) hrel hvs (fun k _ => ObExt.refl _ _)
  refine code_sound hT hm c env he none (baseB _ _ _) ⟨1, β, newsH [.row e0 t xs], false⟩ (YieldOk.none hy) recs_none (fun h => by cases h) (fun h => by cases h) _ _ _ _ S β _ w ⟨_, _, _, ⟨rfl, rfl, rfl⟩, hi⟩ rfl h (fun e s S' β' a' w' h1 h2 h3 => end_sound (RP := fun _ _ => False) hT (fun v' news' S' β' w' u h1 h2 hp h3 => ?_) (fun _ _ _ _ _ _ _ h => h.elim) e s S' β' a' w' h1 h2 (endP_of h3))
  obtain ⟨q1, q2⟩ := h3
  have hne : 0 < news'.length := by
    rcases Nat.eq_zero_or_pos news'.length with h | h
    · have : newsH news' 0 = .none := by simp only [newsH, List.getD]; rw [List.getElem?_eq_none (by omega)]; rfl
      rw [this] at q1; cases q1
    · exact h
  have h0 : newsH (news'.set 0 .dead) 0 = .dead := by simp [newsH, List.getD, hne]
  have hk : ∀ k, k ≠ 0 → newsH (news'.set 0 .dead) k = newsH news' k := fun k hk => by
    simp only [newsH, List.getD, List.getElem?_set_ne (fun e => hk e.symm)]
  have hH : ∀ k, newsH (news'.set 0 .dead) k = newsH news' k ∨ newsH (news'.set 0 .dead) k = .dead := fun k => by
    by_cases e : k = 0
    · exact .inr (by rw [e]; exact h0)
    · exact .inl (hk k e)
  obtain ⟨hr2, hx2⟩ := h1.drop _ hH
  have hβ : β' 0 = β 0 := by
    have := hp 0 (show 0 < 1 by decide)
    change ObExt (β 0) (.row e0 t xs) (β' 0) (newsH news' 0) at this
    rw [q1] at this
    rcases this with h | ⟨h, _⟩
    · cases h
    · exact h
  have hM : ∀ b, Mof β [.row e0 t xs] b → (β' 0).has b := by
    rintro b ⟨i, hl, hg⟩
    cases i with
    | zero => rw [hβ]; exact hg
    | succ i => simp [newsH] at hl; cases hl
  have hl0 : (newsH news' 0).live = true := by rw [q1]; rfl
  have hown : ∀ b, ownB β' (newsH (news'.set 0 .dead)) b → (∃ k, k ≠ 0 ∧ (newsH news' k).live = true ∧ (β' k).has b) ∧ w.heap.size ≤ b ∧ b < w'.heap.size := by
    rintro b ⟨k, hl, hg⟩
    have hk0 : k ≠ 0 := fun e => by rw [e, h0] at hl; cases hl
    rw [hk k hk0] at hl
    obtain ⟨g1, g2, _⟩ := h1.own k b hl hg
    refine ⟨⟨k, hk0, hl, hg⟩, ?_, g2⟩
    rcases g1 with g1 | g1
    · exact absurd (h1.dis k 0 b hl hl0 hg (hM b g1)) hk0
    · exact g1
  let S2 : Nat → Prop := fun b => S' b ∨ ownB β' (newsH (news'.set 0 .dead)) b
  have hz := q2.of hr2 (S1 := S2) (fun b hb => .inl hb) (fun k g h1 h2 => .inr ⟨k, h1, h2⟩) _ (VL.ext hx2 _ _ h2)
  have hz2 : VLs S2 w' β' (newsH [.row e0 t xs]) [v] [u] := VLs.any [v] [u] (by simp [hv0]) ⟨u, [], rfl, hz, rfl⟩
  obtain ⟨u', r', eu, hzu, _⟩ := hz2
  cases eu
  have hnew : ∀ k, k ≠ 0 → newsH [.row e0 t xs] k = .none := fun k hk => by
    cases k with
    | zero => exact absurd rfl hk
    | succ k => simp [newsH]
  refine ⟨u, rfl, S2, β', ⟨h1.fr, fun b hb => .inl (h1.s0 b hb), fun b hb => ?_, fun k b hl hg => ?_, fun k k' b hl hl' hg hg' => ?_, fun k => ?_⟩, hzu, fun i hi => ?_⟩
  · rcases hb with hb | hb
    · exact h1.sS b hb
    · obtain ⟨_, g1, g2⟩ := hown b hb
      exact ⟨g2, .inr g1⟩
  · have hk0 : k = 0 := by
      by_cases e : k = 0
      · exact e
      · rw [hnew k e] at hl; cases hl
    subst hk0
    obtain ⟨g1, g2, g3⟩ := h1.own 0 b hl0 hg
    refine ⟨g1, g2, fun hb => ?_⟩
    rcases hb with hb | hb
    · exact g3 hb
    · obtain ⟨⟨k, e1, e2, e3⟩, _⟩ := hown b hb
      exact e1 (h1.dis k 0 b e2 hl0 e3 hg)
  · have e1 : k = 0 := by
      by_cases e : k = 0
      · exact e
      · rw [hnew k e] at hl; cases hl
    have e2 : k' = 0 := by
      by_cases e : k' = 0
      · exact e
      · rw [hnew k' e] at hl'; cases hl'
    rw [e1, e2]
  · by_cases e : k = 0
    · subst e
      have hob := h1.ob 0
      rw [q1] at hob
      show ObR S2 w' β' (newsH [.row e0 t xs]) (β' 0) (.row e0 t xs)
      rcases hob with hob | ⟨g, cur, r1, r2, r3, r4, r5, r6⟩
      · exact .inl hob
      · exact .inr ⟨g, cur, r1, r2, r3, r4, r5, Cat.dr_mono (fun b hb => ⟨.inl hb, rfl⟩) r6⟩
    · rw [hnew k e]; trivial
  · have e : i = 0 := by simp at hi; omega
    subst e
    have := hp 0 (show 0 < 1 by decide)
    rwa [q1] at this
end Go.Proofs.Ytkpjcmiijlpcaaa.Aw
