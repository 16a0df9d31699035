/- An abstract program logic over the model: functions that are handed objects and give empty. -/
import Derived.Test.YtkpjcmiijlpcaaaAwW
import Derived.Test.YtkpjcmiijlpcaaaAwAA
namespace Go.Proofs.Ytkpjcmiijlpcaaa.Aw
open Go
inductive FrzE (H : Nat → Ob) : AV → AV → Prop
  | refl (a : AV) : FrzE H a a
  | row (k : Nat) (e : TypeId) (t : Ty) (h : H k = .row e t []) : FrzE H (.row k) (.list e t [])
  | nils (e : TypeId) (t : Ty) : FrzE H (.nils e t) (.list e t [])
  | nil0 (e : TypeId) (t : Ty) : FrzE H .nil0 (.list e t [])
  | agg (c c' : AV) (h : FrzE H c c') : FrzE H (.agg c) (.agg c')
  | tuple (c c' : AV) (h : FrzE H c c') : FrzE H (.tuple c) (.tuple c')
  | cons (a a' b b' : AV) (h1 : FrzE H a a') (h2 : FrzE H b b') : FrzE H (.cons a b) (.cons a' b')
theorem FrzE.of {S : Nat → Prop} {w : World} {β : Nat → Cr} {H : Nat → Ob} {v v' : AV} (hf : FrzE H v' v) : ∀ vs, VL S w β H v' vs → VL S w β H v vs := by
  induction hf with
  | refl a => exact fun _ h => h
  | row k e t h =>
    rintro vs ⟨u, e1, hl⟩
    refine ⟨u, e1, ?_⟩
    simp only [leaf, h] at hl
    show DR S w (.list e t) [] [u]
    cases hg : (β k).g with
    | none => exact ⟨none, 0, 0, [], by rw [hl]; simp [rowV, hg], rfl, Nat.le_refl _, rfl, fun j u hj => by simp at hj, fun _ => rfl⟩
    | some g => exact ⟨some ⟨g, 0, none⟩, 0, (β k).cap, [], by rw [hl]; simp [rowV, hg], rfl, Nat.zero_le _, rfl, fun j u hj => (by simp at hj), fun h => (by cases h)⟩
  | nils e t => rintro vs ⟨v, e1, hv⟩; exact ⟨v, e1, nils_list hv⟩
  | nil0 e t => rintro vs ⟨v, e1, hv⟩; exact ⟨v, e1, nils_list (e := e) (t := t) (w := w) (S := S) (β := β) (H := H) hv⟩
  | agg c c' _ ih => exact fun _ ⟨cs, e, h⟩ => ⟨cs, e, ih _ h⟩
  | tuple c c' _ ih => exact fun _ ⟨cs, e, h⟩ => ⟨cs, e, ih _ h⟩
  | cons a a' b b' _ _ ih1 ih2 => exact fun _ ⟨v, r, e, h1, h2⟩ => ⟨v, r, e, ih1 _ h1, ih2 _ h2⟩
theorem Rel.more {M S0 S : Nat → Prop} {w0 w : World} {β : Nat → Cr} {obs ext : List Ob} (hr : Rel M S0 w0 S β (newsH obs) w) (hx : ∀ o ∈ ext, ∃ e t, o = .row e t []) :
    ∃ β2, Rel M S0 w0 S β2 (newsH (obs ++ ext)) w ∧ Ext S w β (newsH obs) S w β2 (newsH (obs ++ ext)) ∧ ∀ k, k < obs.length → β2 k = β k ∧ newsH (obs ++ ext) k = newsH obs k := by
  let β2 : Nat → Cr := fun k => if k < obs.length then β k else ⟨none, 0, []⟩
  have hnew : ∀ k, ¬ k < obs.length → newsH obs k = .none := fun k hk => by
    simp only [newsH, List.getD]
    rw [List.getElem?_eq_none (by omega)]
    rfl
  have hold : ∀ k, k < obs.length → newsH (obs ++ ext) k = newsH obs k := fun k hk => by
    simp only [newsH, List.getD]
    rw [List.getElem?_append_left hk]
  have hext : ∀ k, ¬ k < obs.length → newsH (obs ++ ext) k = .none ∨ ∃ e t, newsH (obs ++ ext) k = .row e t [] := fun k hk => by
    simp only [newsH, List.getD]
    rw [List.getElem?_append_right (by omega)]
    cases ho : ext[k - obs.length]? with
    | none => exact .inl rfl
    | some o => obtain ⟨e, t, rfl⟩ := hx o (List.mem_of_getElem? ho); exact .inr ⟨e, t, rfl⟩
  have hE : Ext S w β (newsH obs) S w β2 (newsH (obs ++ ext)) := by
    refine ⟨fun b hb => ⟨hb, rfl⟩, fun k => ?_⟩
    by_cases hk : k < obs.length
    · simp only [β2, if_pos hk, hold k hk]; exact ObExt.refl _ _
    · rw [hnew k hk]; trivial
  have hgo : ∀ k g, (newsH (obs ++ ext) k).live = true → (β2 k).has g → (newsH obs k).live = true ∧ (β k).has g := by
    intro k g hl hg
    by_cases hk : k < obs.length
    · simp only [β2, if_pos hk] at hg
      rw [hold k hk] at hl
      exact ⟨hl, hg⟩
    · simp only [β2, if_neg hk] at hg
      exact absurd hg has_nil
  refine ⟨β2, ⟨hr.fr, hr.s0, hr.sS, fun k g hl hg => hr.own k g (hgo k g hl hg).1 (hgo k g hl hg).2, fun k k' g hl hl' hg hg' => hr.dis k k' g (hgo k g hl hg).1 (hgo k' g hl' hg').1 (hgo k g hl hg).2 (hgo k' g hl' hg').2, fun k => ?_⟩, hE, fun k hk => ⟨by simp only [β2, if_pos hk], hold k hk⟩⟩
  by_cases hk : k < obs.length
  · simp only [β2, if_pos hk]
    rw [hold k hk]
    exact ObR.ext hE _ _ (fun _ _ => rfl) (hr.ob k)
  · simp only [β2, if_neg hk]
    rcases hext k hk with h1 | ⟨e, t, h1⟩
    · rw [h1]; trivial
    · rw [h1]; exact .inl ⟨rfl, rfl⟩
def GivesE (n : Nat) (v : AV) (obs' : List Ob) (v' : AV) (o' : List Ob) : Prop := n ≤ o'.length ∧ ∃ ext : List Ob, obs' = o' ++ ext ∧ (∀ o ∈ ext, ∃ e t, o = .row e t []) ∧ FrzE (newsH o') v' v
theorem fn_ok2Z {P : Program} {T : Tab} {env : Env} (he : EnvOk P env) (hT : TabOk P T) (hm : P.follows .mixedOrders = true) {g : FuncId} {fn : Func} (hf : P.funcs[g]? = some fn) (hname : (fn.name == "runtime.NumGoroutine") = false) (hb : fn.body.isSome = true) {args : List AV} {obs : List Ob} {v : AV} {obs' : List Ob}
    (h : fnB T env fn (bodyOf fn) args obs fun v' o' => GivesE obs.length v obs' v' o') (hy : env.ycnt = 0 ∧ env.isIt = false := by exact ⟨rfl, rfl⟩) : ACalls2 P g args obs v obs' := by
  obtain ⟨c, hc⟩ := Option.isSome_iff_exists.1 hb
  have e : bodyOf fn = c := by unfold bodyOf; rw [hc]; rfl
  rw [e] at h
  refine ⟨⟨fn, hf, hname, by rw [hc]; rfl⟩, fun S β w vs hrel hvs => ?_⟩
  refine (callsIn_wide (n := 0)).1 (callsIn_of_wp_marks (F := Wd none) hf hc trivial ?_)
  have hi := start_inv (π := ⟨obs.length, β, newsH obs, false⟩) (fn := fn) (n := obs.length) (vs := vs) hrel hvs (fun k _ => ObExt.refl _ _)
  refine code_sound hT hm c env he none (baseB _ _ _) ⟨obs.length, β, newsH obs, false⟩ (YieldOk.none hy) recs_none (fun h => by cases h) (fun h => by cases h) _ _ _ _ S β _ w ⟨_, _, _, ⟨rfl, rfl, rfl⟩, hi⟩ rfl h (fun e s S' β' a' w' h1 h2 h3 => end_sound (RP := fun _ _ => False) hT (fun v' news' S' β' w' u h1 h2 hp h3 => ?_) (fun _ _ _ _ _ _ _ h => h.elim) e s S' β' a' w' h1 h2 (endP_of h3))
  obtain ⟨hn, ext, rfl, hx, hz⟩ := h3
  obtain ⟨β2, hr2, hE, hk⟩ := h1.more hx
  refine ⟨u, rfl, S', β2, hr2, VL.ext hE _ _ (hz.of _ h2), fun i hi => ?_⟩
  obtain ⟨q1, q2⟩ := hk i (Nat.lt_of_lt_of_le hi hn)
  rw [q1, q2]
  exact hp i hi
end Go.Proofs.Ytkpjcmiijlpcaaa.Aw
