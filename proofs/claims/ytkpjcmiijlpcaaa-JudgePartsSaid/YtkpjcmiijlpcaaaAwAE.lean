/- An abstract program logic over the model: what a function made is given away as data that . -/
import Derived.Test.YtkpjcmiijlpcaaaAwW
import Derived.Test.YtkpjcmiijlpcaaaAwAA
namespace Go.Proofs.Ytkpjcmiijlpcaaa.Aw
open Go
def fr : Ty → Ty
  | .int k => .int k
  | .bool => .bool
  | .str => .str
  | .list e t => .list e t
  | .pair a b => .pair (fr a) (fr b)
  | .unit => .unit
  | .ol e t => .list e t
def frx : (t : Ty) → t.den → (fr t).den
  | .int _, x => x
  | .bool, x => x
  | .str, x => x
  | .list _ _, x => x
  | .pair a b, x => (frx a x.1, frx b x.2)
  | .unit, x => x
  | .ol _ _, x => x
inductive Frz (H : Nat → Ob) : AV → AV → Prop
  | keep (a : AV) (h : a.rowRefs = []) (hp : a.lend H = a) : Frz H a a
  | nils (e : TypeId) (t : Ty) : Frz H (.nils e t) (.list e t [])
  | nil0 (e : TypeId) (t : Ty) : Frz H .nil0 (.list e t [])
  | row (k : Nat) (e : TypeId) (t : Ty) (xs : List t.den) (h : H k = .row e t xs) : Frz H (.row k) (.list e t xs)
  | orow (k : Nat) (e : TypeId) (t : Ty) (xs : List t.den) (ys : List (fr t).den) (h : H k = .orow e t xs) (hy : xs.map (frx t) = ys) : Frz H (.row k) (.list e (fr t) ys)
  | ptr (k off : Nat) (e e' : TypeId) (cs cs' : List AV) (t : Ty) (x : t.den) (h : H k = .cells e cs) (hc : Frz H (AV.ofList cs) (AV.ofList cs')) (hd : dec1 t cs' = some x) : Frz H (.ptr k off) (.lptr e' t [x] 0 off)
  | agg (c c' : AV) (h : Frz H c c') : Frz H (.agg c) (.agg c')
  | tuple (c c' : AV) (h : Frz H c c') : Frz H (.tuple c) (.tuple c')
  | iface (t : TypeId) (c c' : AV) (h : Frz H c c') : Frz H (.iface t c) (.iface t c')
  | fn (f : Fn) (a a' b b' : AV) (h1 : Frz H a a') (h2 : Frz H b b') : Frz H (.fn f a b) (.fn f a' b')
  | nl : Frz H .nl .nl
  | cons (a a' b b' : AV) (h1 : Frz H a a') (h2 : Frz H b b') : Frz H (.cons a b) (.cons a' b')
section
variable {S S1 : Nat → Prop} {w : World} {β : Nat → Cr} {H : Nat → Ob} {M S0 : Nat → Prop} {w0 : World}
theorem VL_toVLs {S : Nat → Prop} {w : World} {β : Nat → Cr} {H : Nat → Ob} : ∀ (l : List AV) (vs : List Value), VL S w β H (AV.ofList l) vs → VLs S w β H l vs
  | [], _, h => h
  | _ :: l, _, ⟨v, r, e, h1, h2⟩ => ⟨v, r, e, h1, VL_toVLs l r h2⟩
theorem DRo.frozen (h : ∀ b, S b → S1 b) : ∀ (t : Ty) (x : t.den) (cs : List Value) (F : List Nat), (∀ b ∈ F, S1 b) → DRo S w t x cs F → DR S1 w (fr t) (frx t x) cs
  | .ol e t, xs, cs, F, hF, hd => by
    rcases hd with ⟨rfl, e2, rfl⟩ | ⟨g, cap, cur, e1, e2, e3, e4, e5, e6, e7⟩
    · cases e2
      exact ⟨none, 0, 0, [], rfl, rfl, Nat.le_refl _, rfl, fun j u hj => by simp at hj, fun _ => rfl⟩
    · refine ⟨some ⟨g, 0, none⟩, xs.length, cap, _, e1, rfl, e4, Cat.dr_mono (fun b hb => ⟨h b hb, rfl⟩) e7, fun j u hj => ⟨_, rfl, ?_, ?_⟩, fun h => by cases h⟩
      · exact hF g (by rw [e2]; simp)
      · rw [add_lit, cell_of_row w g _ _ _ _ e3]
        rw [List.getElem?_take] at hj
        split at hj
        · simpa using hj
        · cases hj
  | .pair a b, x, cs, F, hF, ⟨c1, c2, F1, F2, e1, e2, h1, h2⟩ => ⟨c1, c2, e1, DRo.frozen h a x.1 c1 F1 (fun b hb => hF b (by rw [e2]; simp [hb])) h1, DRo.frozen h b x.2 c2 F2 (fun b hb => hF b (by rw [e2]; simp [hb])) h2⟩
  | .int k, x, cs, F, _, hd => DR.mono (fun b hb => ⟨h b hb, rfl⟩) (.int k) x cs hd.1
  | .bool, x, cs, F, _, hd => DR.mono (fun b hb => ⟨h b hb, rfl⟩) .bool x cs hd.1
  | .str, x, cs, F, _, hd => DR.mono (fun b hb => ⟨h b hb, rfl⟩) .str x cs hd.1
  | .list e t, x, cs, F, _, hd => DR.mono (fun b hb => ⟨h b hb, rfl⟩) (.list e t) x cs hd.1
  | .unit, x, cs, F, _, hd => DR.mono (fun b hb => ⟨h b hb, rfl⟩) .unit x cs hd.1
theorem CatO.frozen (h : ∀ b, S b → S1 b) {t : Ty} : ∀ (xs : List t.den) (cs : List Value) (F : List Nat), (∀ b ∈ F, S1 b) → CatO S w t xs cs F → Cat (DR S1 w (fr t)) (xs.map (frx t)) cs
  | [], _, _, _, h1 => h1.1
  | x :: xs, cs, F, hF, ⟨c1, c2, F1, F2, e1, e2, h1, h2⟩ => ⟨c1, c2, e1, h1.frozen h t x c1 F1 (fun b hb => hF b (by rw [e2]; simp [hb])), h2.frozen h xs c2 F2 (fun b hb => hF b (by rw [e2]; simp [hb]))⟩
theorem Frz.of (hr : Rel M S0 w0 S β H w) (h : ∀ b, S b → S1 b) (hl : ∀ k g, (H k).live = true → (β k).has g → S1 g) {a a' : AV} (hf : Frz H a a') : ∀ vs, VL S w β H a vs → VL S1 w cr0 ob0 a' vs := by
  induction hf with
  | keep a h1 hp =>
    intro vs hv
    have := lend_of hr h a vs (fun k hk => by rw [h1] at hk; cases hk) hv
    rwa [hp] at this
  | nils e t => rintro vs ⟨v, e1, hv⟩; exact ⟨v, e1, nils_list hv⟩
  | nil0 e t => rintro vs ⟨v, e1, hv⟩; exact ⟨v, e1, nils_list (e := e) (t := t) (w := w) (S := S) (β := β) (H := H) hv⟩
  | row k e t xs hk => rintro vs ⟨v, e1, hv⟩; exact ⟨v, e1, row_list hr h hk (fun g hg => hl k g (by rw [hk]; rfl) (.inl hg)) hv⟩
  | orow k e t xs ys hk hy =>
    rintro vs ⟨v, e1, hv⟩
    subst hy
    refine ⟨v, e1, ?_⟩
    simp only [leaf, hk] at hv
    have hob := hr.ob k
    have hS := hl k
    rw [hk] at hob hS
    rcases hob with ⟨e2, e3, _⟩ | ⟨g, cur, e2, e3, e4, e5, e6, e7, _⟩
    · subst e3
      refine ⟨none, 0, 0, [], ?_, rfl, Nat.le_refl _, rfl, fun j u hj => by simp at hj, fun _ => rfl⟩
      rw [hv]; unfold rowV; rw [e2]
    · refine ⟨some ⟨g, 0, none⟩, xs.length, (β k).cap, _, by rw [hv, rowV_some e2], by rw [List.length_map], e4, e7.frozen h xs _ _ (fun b hb => hS b rfl (.inr hb)), fun j u hj => ⟨_, rfl, ?_, ?_⟩, fun h => by cases h⟩
      · exact hS g rfl (.inl e2)
      · rw [add_lit, cell_of_row w g _ _ _ _ e3]
        rw [List.getElem?_take] at hj
        split at hj
        · simpa using hj
        · cases hj
  | ptr k off e e' cs cs' t x hk hc hd ih =>
    rintro vs ⟨v, e1, hv⟩
    refine ⟨v, e1, Int.le_refl _, by simp, ?_⟩
    simp only [leaf, hk] at hv
    obtain ⟨g, e2, e3⟩ := hv
    have hob := hr.ob k
    have hS := hl k
    rw [hk] at hob hS
    obtain ⟨g', us, e4, e5, e6⟩ := hob
    have eg : g' = g := by rw [e4] at e2; exact Option.some.inj e2
    subst eg
    have hd1 := dec1_of (VL_toVLs _ _ (ih us (VLs.of_list _ _ e6))) hd
    refine ⟨⟨g', 0, none⟩, us, ⟨us, [], by simp, hd1, rfl⟩, fun j u hj => ⟨_, rfl, hS g' rfl (.inl e2), ?_⟩, ?_⟩
    · rw [add_lit, cell_of_row w g' _ _ _ _ e5]
      simpa using hj
    · rw [e3]
      simp [add_lit]
  | agg c c' _ ih => exact fun _ ⟨cs, e, h⟩ => ⟨cs, e, ih _ h⟩
  | tuple c c' _ ih => exact fun _ ⟨cs, e, h⟩ => ⟨cs, e, ih _ h⟩
  | iface t c c' _ ih => exact fun _ ⟨v, e, h⟩ => ⟨v, e, ih _ h⟩
  | fn f a a' b b' _ _ ih1 ih2 => exact fun _ ⟨x, y, e, h1, h2⟩ => ⟨x, y, e, ih1 _ h1, ih2 _ h2⟩
  | nl => exact fun _ h => h
  | cons a a' b b' _ _ ih1 ih2 => exact fun _ ⟨v, r, e, h1, h2⟩ => ⟨v, r, e, ih1 _ h1, ih2 _ h2⟩
theorem Rel.frozen (hr : Rel (fun _ => False) S0 w0 S β H w) : Rel (fun _ => False) S0 w0 (fun b => S b ∨ ownB β H b) cr0 ob0 w :=
  ⟨hr.fr, fun b hb => .inl (hr.s0 b hb), fun b hb => by
    rcases hb with hb | ⟨k, h1, h2⟩
    · exact hr.sS b hb
    · obtain ⟨q1, q2, q3⟩ := hr.own k b h1 h2
      exact ⟨q2, .inr (q1.resolve_left id)⟩, fun k g hk => (by cases hk), fun k k' g hk => (by cases hk), fun k => trivial⟩
end
theorem fn_okF {P : Program} {T : Tab} {env : Env} (he : EnvOk P env) (hT : TabOk P T) (hm : P.follows .mixedOrders = true) {g : FuncId} {fn : Func} (hf : P.funcs[g]? = some fn) (hname : (fn.name == "runtime.NumGoroutine") = false) (hb : fn.body.isSome = true) {args : List AV} {v : AV}
    (h : fnA T env fn (bodyOf fn) args fun v' news' => Frz (newsH news') v' v) (hy : env.ycnt = 0 ∧ env.isIt = false := by exact ⟨rfl, rfl⟩) : ACalls P g args v [] := by
  obtain ⟨c, hc⟩ := Option.isSome_iff_exists.1 hb
  have e : bodyOf fn = c := by unfold bodyOf; rw [hc]; rfl
  rw [e] at h
  refine ⟨⟨fn, hf, hname, by rw [hc]; rfl⟩, fun S w vs hS hvs => Calls.mono (fn_callsR he hy hT hm hf hc h S w vs hS hvs) ?_⟩
  rintro e w' ⟨v', news', u, hz, rfl, S', β', hr, hv⟩
  exact ⟨u, rfl, _, cr0, hr.frozen, hz.of hr (fun b hb => .inl hb) (fun k g h1 h2 => .inr ⟨k, h1, h2⟩) _ hv⟩
end Go.Proofs.Ytkpjcmiijlpcaaa.Aw
