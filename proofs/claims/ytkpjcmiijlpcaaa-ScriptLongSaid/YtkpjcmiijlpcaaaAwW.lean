/- An abstract program logic over the model, twenty-third part: what is known of functions, put together; loops. -/
import Derived.Test.YtkpjcmiijlpcaaaAwV
namespace Go.Proofs.Ytkpjcmiijlpcaaa.Aw
open Go

/-- What is known of functions, by their numbers. -/
abbrev Cons := List (FuncId × (List AV → Option Tells))
abbrev Cons2 := List (FuncId × (List AV → List Ob → Option Tells2))
def oneOf_ : Cons → FuncId → List AV → Option Tells
  | [], _, _ => none
  | (g, f) :: l, g', args => bif Nat.beq g g' then (match f args with
    | some t => some t
    | none => oneOf_ l g' args) else oneOf_ l g' args
def twoOf_ : Cons2 → FuncId → List AV → List Ob → Option Tells2
  | [], _, _, _ => none
  | (g, f) :: l, g', args, obs => bif Nat.beq g g' then (match f args obs with
    | some t => some t
    | none => twoOf_ l g' args obs) else twoOf_ l g' args obs
abbrev Cons3 := List (FuncId × (List AV → List Ob → Option TellsP))
abbrev Cons4 := List (FuncId × (List AV → List AV → List Ob → Option TellsI))
def panOf_ : Cons3 → FuncId → Option (List AV → List Ob → Option TellsP)
  | [], _ => none
  | (g, f) :: l, g' => bif Nat.beq g g' then some f else panOf_ l g'
def iterOf_ : Cons4 → FuncId → List AV → List AV → List Ob → Option TellsI
  | [], _, _, _, _ => none
  | (g, f) :: l, g', args, caps, obs => bif Nat.beq g g' then (match f args caps obs with
    | some t => some t
    | none => iterOf_ l g' args caps obs) else iterOf_ l g' args caps obs
def envOf4 (l : Cons) (m : Cons2) (p : Cons3) (i : Cons4) : Env := ⟨oneOf_ l, twoOf_ m, panOf_ p, iterOf_ i, false, 0, 0, fun _ => [], [], [], []⟩
def envOf2 (l : Cons) (m : Cons2) : Env := ⟨oneOf_ l, twoOf_ m, fun _ => none, fun _ _ _ _ => none, false, 0, 0, fun _ => [], [], [], []⟩
def envOf (l : Cons) : Env := ⟨oneOf_ l, fun _ _ _ => none, fun _ => none, fun _ _ _ _ => none, false, 0, 0, fun _ => [], [], [], []⟩
def ConOk (P : Program) (c : FuncId × (List AV → Option Tells)) : Prop := ∀ args t, c.2 args = some t → (∀ p ∈ t.pre, p) → ACalls P c.1 args t.v t.news
def ConOk2 (P : Program) (c : FuncId × (List AV → List Ob → Option Tells2)) : Prop := ∀ args obs t, c.2 args obs = some t → (∀ p ∈ t.pre, p) → ACalls2 P c.1 args obs t.v (finObs obs t.olds t.news)
def ConOk3 (P : Program) (c : FuncId × (List AV → List Ob → Option TellsP)) : Prop := ∀ args obs t, c.2 args obs = some t → (∀ p ∈ t.pre, p) → (t.b = false → ACalls2 P c.1 args obs t.v (finObs obs t.olds t.news)) ∧ (t.b = true → ACalls2 P c.1 args obs .undef (finObs obs t.olds t.news) (some t.x))
def ConOk4 (P : Program) (c : FuncId × (List AV → List AV → List Ob → Option TellsI)) : Prop := ∀ args caps obs t, c.2 args caps obs = some t → (∀ p ∈ t.pre, p) → AIter P c.1 args caps obs t.cnt t.arg
theorem panOf_ok {P : Program} : ∀ l : Cons3, (∀ c ∈ l, ConOk3 P c) → ∀ g f args obs t, panOf_ l g = some f → f args obs = some t → (∀ p ∈ t.pre, p) → (t.b = false → ACalls2 P g args obs t.v (finObs obs t.olds t.news)) ∧ (t.b = true → ACalls2 P g args obs .undef (finObs obs t.olds t.news) (some t.x))
  | [], _ => fun g f args obs t h _ _ => by cases h
  | (g, f) :: l, hl => fun g' f' args obs t h ht hp => by
    simp only [panOf_] at h
    cases e : Nat.beq g g' with
    | true =>
      rw [e] at h
      have e' : g = g' := Nat.eq_of_beq_eq_true e
      subst e'
      cases h
      exact hl (g, f) (by simp) args obs t ht hp
    | false =>
      rw [e] at h
      exact panOf_ok l (fun c hc => hl c (by simp [hc])) g' f' args obs t h ht hp
theorem iterOf_ok {P : Program} : ∀ l : Cons4, (∀ c ∈ l, ConOk4 P c) → ∀ g args caps obs t, iterOf_ l g args caps obs = some t → (∀ p ∈ t.pre, p) → AIter P g args caps obs t.cnt t.arg
  | [], _ => fun g args caps obs t h _ => by cases h
  | (g, f) :: l, hl => fun g' args caps obs t h hp => by
    simp only [iterOf_] at h
    cases e : Nat.beq g g' with
    | true =>
      rw [e] at h
      have e' : g = g' := Nat.eq_of_beq_eq_true e
      subst e'
      simp only [cond_true] at h
      split at h
      · rename_i t' ht
        cases h
        exact hl (g, f) (by simp) args caps obs t ht hp
      · exact iterOf_ok l (fun c hc => hl c (by simp [hc])) g args caps obs t h hp
    | false =>
      rw [e] at h
      exact iterOf_ok l (fun c hc => hl c (by simp [hc])) g' args caps obs t h hp
theorem oneOf_ok {P : Program} : ∀ l : Cons, (∀ c ∈ l, ConOk P c) → ∀ g args t, oneOf_ l g args = some t → (∀ p ∈ t.pre, p) → ACalls P g args t.v t.news
  | [], _ => fun g args t h _ => by cases h
  | (g, f) :: l, hl => fun g' args t h hp => by
    simp only [oneOf_] at h
    cases e : Nat.beq g g' with
    | true =>
      rw [e] at h
      have e' : g = g' := Nat.eq_of_beq_eq_true e
      subst e'
      simp only [cond_true] at h
      split at h
      · rename_i t' ht
        cases h
        exact hl (g, f) (by simp) args t ht hp
      · exact oneOf_ok l (fun c hc => hl c (by simp [hc])) g args t h hp
    | false =>
      rw [e] at h
      exact oneOf_ok l (fun c hc => hl c (by simp [hc])) g' args t h hp
theorem twoOf_ok {P : Program} : ∀ l : Cons2, (∀ c ∈ l, ConOk2 P c) → ∀ g args obs t, twoOf_ l g args obs = some t → (∀ p ∈ t.pre, p) → ACalls2 P g args obs t.v (finObs obs t.olds t.news)
  | [], _ => fun g args obs t h _ => by cases h
  | (g, f) :: l, hl => fun g' args obs t h hp => by
    simp only [twoOf_] at h
    cases e : Nat.beq g g' with
    | true =>
      rw [e] at h
      have e' : g = g' := Nat.eq_of_beq_eq_true e
      subst e'
      simp only [cond_true] at h
      split at h
      · rename_i t' ht
        cases h
        exact hl (g, f) (by simp) args obs t ht hp
      · exact twoOf_ok l (fun c hc => hl c (by simp [hc])) g args obs t h hp
    | false =>
      rw [e] at h
      exact twoOf_ok l (fun c hc => hl c (by simp [hc])) g' args obs t h hp
theorem envOf_ok {P : Program} (l : Cons) (hl : ∀ c ∈ l, ConOk P c) : EnvOk P (envOf l) := ⟨oneOf_ok l hl, fun g args obs t h _ => (by cases h), fun g f args obs t h _ _ => (by cases h), fun g args caps obs t h _ => (by cases h)⟩
theorem envOf2_ok {P : Program} (l : Cons) (m : Cons2) (hl : ∀ c ∈ l, ConOk P c) (hm : ∀ c ∈ m, ConOk2 P c) : EnvOk P (envOf2 l m) := ⟨oneOf_ok l hl, twoOf_ok m hm, fun g f args obs t h _ _ => (by cases h), fun g args caps obs t h _ => (by cases h)⟩
theorem envOf4_ok {P : Program} (l : Cons) (m : Cons2) (p : Cons3) (i : Cons4) (hl : ∀ c ∈ l, ConOk P c) (hm : ∀ c ∈ m, ConOk2 P c) (hp : ∀ c ∈ p, ConOk3 P c) (hi : ∀ c ∈ i, ConOk4 P c) : EnvOk P (envOf4 l m p i) := ⟨oneOf_ok l hl, twoOf_ok m hm, panOf_ok p hp, iterOf_ok i hi⟩
theorem envOk_nil {P : Program} : EnvOk P (envOf []) := envOf_ok [] (by simp)
/-- All of a list's contracts hold: one more. -/
theorem all_nil {α : Type} {p : α → Prop} : ∀ c ∈ ([] : List α), p c := by simp
theorem all_cons {α : Type} {p : α → Prop} {c : α} {l : List α} (hc : p c) (hl : ∀ c ∈ l, p c) : ∀ d ∈ c :: l, p d := by
  intro d hd
  rcases List.mem_cons.1 hd with rfl | hd
  · exact hc
  · exact hl d hd
theorem all_append {α : Type} {p : α → Prop} {l m : List α} (hl : ∀ c ∈ l, p c) (hm : ∀ c ∈ m, p c) : ∀ d ∈ l ++ m, p d := by
  intro d hd
  rcases List.mem_append.1 hd with hd | hd
  · exact hl d hd
  · exact hm d hd
/-- A loop, with what holds at each of its beginnings. -/
theorem loop_intro {live : List Nat} {body : St → (Ex → St → Prop) → Prop} {s : St} {Q : Ex → St → Prop} (I : Nat → St → Prop) (n : Nat) (h0 : I n s)
    (h : ∀ n s, I n s → body s (thenA (fun s' => (fun t => ∃ m, m < n ∧ I m t) (s'.tidy live)) Q)) : loopT live body s Q := ⟨I, n, h0, h⟩
/-- A range over a function, with what holds ahead of each round. -/
theorem range_intro {live : List Nat} {run : Nat → St → (Ex → St → Prop) → Prop} {cnt : Nat} {s : St} {Q : Ex → St → Prop} (I : Nat → St → Prop) (h0 : I 0 s)
    (h1 : ∀ i t, i < cnt → I i t → run i t (roundK live I Q i t)) (h2 : ∀ t, I cnt t → Q .normal t) : rangeT live run cnt s Q := ⟨I, h0, h1, h2⟩
/-- A call, from its body's normal form. -/
theorem fn_ok {P : Program} {T : Tab} {env : Env} (he : EnvOk P env) (hT : TabOk P T) (hm : P.follows .mixedOrders = true) {g : FuncId} {fn : Func} (hf : P.funcs[g]? = some fn) (hname : (fn.name == "runtime.NumGoroutine") = false) (hb : fn.body.isSome = true) {args : List AV} {v : AV} {news : List Ob}
    (h : fnA T env fn (bodyOf fn) args fun v' news' => v' = v ∧ news' = news) (hy : env.ycnt = 0 ∧ env.isIt = false := by exact ⟨rfl, rfl⟩) : ACalls P g args v news := by
  obtain ⟨c, hc⟩ := Option.isSome_iff_exists.1 hb
  have e : bodyOf fn = c := by unfold bodyOf; rw [hc]; rfl
  rw [e] at h
  exact fn_calls he hy hT hm hf hname hc h
/-- The same, where nil stands for a list without places. -/
theorem fn_okN {P : Program} {T : Tab} {env : Env} (he : EnvOk P env) (hT : TabOk P T) (hm : P.follows .mixedOrders = true) {g : FuncId} {fn : Func} (hf : P.funcs[g]? = some fn) (hname : (fn.name == "runtime.NumGoroutine") = false) (hb : fn.body.isSome = true) {args : List AV} {v : AV} {news : List Ob}
    (h : fnA T env fn (bodyOf fn) args fun v' news' => (v' = v ∧ news' = news) ∨ (v' = .nil0 ∧ news' = [] ∧ v = .row 0 ∧ ∃ e t, news = [.row e t []])) (hy : env.ycnt = 0 ∧ env.isIt = false := by exact ⟨rfl, rfl⟩) : ACalls P g args v news := by
  obtain ⟨c, hc⟩ := Option.isSome_iff_exists.1 hb
  have e : bodyOf fn = c := by unfold bodyOf; rw [hc]; rfl
  rw [e] at h
  refine ⟨⟨fn, hf, hname, by rw [hc]; rfl⟩, fun S w vs hS hvs => Calls.mono (fn_callsR he hy hT hm hf hc h S w vs hS hvs) ?_⟩
  rintro e w' ⟨v', news', u, (⟨rfl, rfl⟩ | ⟨rfl, rfl, rfl, e', t, rfl⟩), rfl, S', β', hr, hv⟩
  · exact ⟨u, rfl, S', β', hr, hv⟩
  · refine ⟨u, rfl, S', fun _ => ⟨none, 0, []⟩, ⟨hr.fr, hr.s0, hr.sS, fun k g _ hg => (absurd hg has_nil), fun k k' g _ _ hg => (absurd hg has_nil), fun k => ?_⟩, ?_⟩
    · cases k with
      | zero => exact .inl ⟨rfl, rfl⟩
      | succ k => cases k <;> exact trivial
    · obtain ⟨v, e1, hl⟩ := hv
      exact ⟨v, e1, hl⟩
/-- A value with rows for what is none yet. -/
inductive Fits (H : Nat → Ob) : AV → AV → Prop
  | refl (a : AV) : Fits H a a
  | row (k : Nat) (e : TypeId) (t : Ty) (h : H k = .row e t []) : Fits H (.row k) (.nils e t)
  | row0 (k : Nat) (e : TypeId) (t : Ty) (h : H k = .row e t []) : Fits H (.row k) .nil0
  | agg (c c' : AV) (h : Fits H c c') : Fits H (.agg c) (.agg c')
  | tuple (c c' : AV) (h : Fits H c c') : Fits H (.tuple c) (.tuple c')
  | cons (a a' b b' : AV) (h1 : Fits H a a') (h2 : Fits H b b') : Fits H (.cons a b) (.cons a' b')
/-- What a function gives, its empty rows put in. -/
def GivesN (v : AV) (news : List Ob) (v' : AV) (news' : List Ob) : Prop := ∃ ext : List Ob, news = news' ++ ext ∧ (∀ o ∈ ext, ∃ e t, o = .row e t []) ∧ Fits (fun k => if k < news'.length then .none else newsH news k) v v'
theorem GivesN.refl (v : AV) (news : List Ob) : GivesN v news v news := ⟨[], by simp, by simp, .refl _⟩
theorem Fits.of {S : Nat → Prop} {w : World} {β : Nat → Cr} {H H0 : Nat → Ob} (h0 : ∀ k e t, H0 k = .row e t [] → H k = .row e t [] ∧ (β k).g = none) {v v' : AV} (hf : Fits H0 v v') : ∀ vs, VL S w β H v' vs → VL S w β H v vs := by
  induction hf with
  | refl a => exact fun _ h => h
  | row k e t h =>
    rintro vs ⟨u, e1, hl⟩
    obtain ⟨q1, q2⟩ := h0 k e t h
    refine ⟨u, e1, ?_⟩
    simp only [leaf, q1, rowV, q2]
    exact hl
  | row0 k e t h =>
    rintro vs ⟨u, e1, hl⟩
    obtain ⟨q1, q2⟩ := h0 k e t h
    refine ⟨u, e1, ?_⟩
    simp only [leaf, q1, rowV, q2]
    exact hl
  | agg c c' _ ih => exact fun _ ⟨cs, e, h⟩ => ⟨cs, e, ih _ h⟩
  | tuple c c' _ ih => exact fun _ ⟨cs, e, h⟩ => ⟨cs, e, ih _ h⟩
  | cons a a' b b' _ _ ih1 ih2 => exact fun _ ⟨v, r, e, h1, h2⟩ => ⟨v, r, e, ih1 _ h1, ih2 _ h2⟩
/-- A function's end, where some rows may be none yet. -/
theorem fn_okG {P : Program} {T : Tab} {env : Env} (he : EnvOk P env) (hT : TabOk P T) (hm : P.follows .mixedOrders = true) {g : FuncId} {fn : Func} (hf : P.funcs[g]? = some fn) (hname : (fn.name == "runtime.NumGoroutine") = false) (hb : fn.body.isSome = true) {args : List AV} {v : AV} {news : List Ob}
    (h : fnA T env fn (bodyOf fn) args fun v' news' => GivesN v news v' news') (hy : env.ycnt = 0 ∧ env.isIt = false := by exact ⟨rfl, rfl⟩) : ACalls P g args v news := by
  obtain ⟨c, hc⟩ := Option.isSome_iff_exists.1 hb
  have e : bodyOf fn = c := by unfold bodyOf; rw [hc]; rfl
  rw [e] at h
  refine ⟨⟨fn, hf, hname, by rw [hc]; rfl⟩, fun S w vs hS hvs => Calls.mono (fn_callsR he hy hT hm hf hc h S w vs hS hvs) ?_⟩
  rintro e w' ⟨v', news', u, ⟨ext, rfl, hx, hf⟩, rfl, S', β', hr, hv⟩
  let β2 : Nat → Cr := fun k => if k < news'.length then β' k else ⟨none, 0, []⟩
  have hnew : ∀ k, ¬ k < news'.length → newsH news' k = .none := fun k hk => by
    simp only [newsH, List.getD]
    rw [List.getElem?_eq_none (by omega)]
    rfl
  have hold : ∀ k, k < news'.length → newsH (news' ++ ext) k = newsH news' k := fun k hk => by
    simp only [newsH, List.getD]
    rw [List.getElem?_append_left hk]
  have hext : ∀ k, ¬ k < news'.length → newsH (news' ++ ext) k = .none ∨ ∃ e t, newsH (news' ++ ext) k = .row e t [] := fun k hk => by
    simp only [newsH, List.getD]
    rw [List.getElem?_append_right (by omega)]
    cases ho : ext[k - news'.length]? with
    | none => exact .inl rfl
    | some o => obtain ⟨e, t, rfl⟩ := hx o (List.mem_of_getElem? ho); exact .inr ⟨e, t, rfl⟩
  have hE : Ext S' w' β' (newsH news') S' w' β2 (newsH (news' ++ ext)) := by
    refine ⟨fun b hb => ⟨hb, rfl⟩, fun k => ?_⟩
    by_cases hk : k < news'.length
    · simp only [β2, if_pos hk, hold k hk]; exact ObExt.refl _ _
    · rw [hnew k hk]; trivial
  have hgo : ∀ k g, (newsH (news' ++ ext) k).live = true → (β2 k).has g → (newsH news' k).live = true ∧ (β' k).has g := by
    intro k g hl hg
    by_cases hk : k < news'.length
    · simp only [β2, if_pos hk] at hg
      rw [hold k hk] at hl
      exact ⟨hl, hg⟩
    · simp only [β2, if_neg hk] at hg
      exact absurd hg has_nil
  refine ⟨u, rfl, S', β2, ⟨hr.fr, hr.s0, hr.sS, fun k g hl hg => hr.own k g (hgo k g hl hg).1 (hgo k g hl hg).2, fun k k' g hl hl' hg hg' => hr.dis k k' g (hgo k g hl hg).1 (hgo k' g hl' hg').1 (hgo k g hl hg).2 (hgo k' g hl' hg').2, fun k => ?_⟩, ?_⟩
  · by_cases hk : k < news'.length
    · simp only [β2, if_pos hk]
      rw [hold k hk]
      exact ObR.ext hE _ _ (fun _ _ => rfl) (hr.ob k)
    · simp only [β2, if_neg hk]
      rcases hext k hk with h1 | ⟨e, t, h1⟩
      · rw [h1]; trivial
      · rw [h1]; exact .inl ⟨rfl, rfl⟩
  · refine Fits.of (H0 := fun k => if k < news'.length then .none else newsH (news' ++ ext) k) (fun k e t h => ?_) hf _ (VL.ext hE _ _ hv)
    by_cases hk : k < news'.length
    · simp only [if_pos hk] at h; cases h
    · simp only [if_neg hk] at h
      exact ⟨h, by simp only [β2, if_neg hk]⟩
/-- The same, of a call that is handed objects. -/
theorem fn_ok2 {P : Program} {T : Tab} {env : Env} (he : EnvOk P env) (hT : TabOk P T) (hm : P.follows .mixedOrders = true) {g : FuncId} {fn : Func} (hf : P.funcs[g]? = some fn) (hname : (fn.name == "runtime.NumGoroutine") = false) (hb : fn.body.isSome = true) {args : List AV} {obs : List Ob} {v : AV} {obs' : List Ob}
    (h : fnB T env fn (bodyOf fn) args obs fun v' o' => v' = v ∧ o' = obs') (hy : env.ycnt = 0 ∧ env.isIt = false := by exact ⟨rfl, rfl⟩) : ACalls2 P g args obs v obs' := by
  obtain ⟨c, hc⟩ := Option.isSome_iff_exists.1 hb
  have e : bodyOf fn = c := by unfold bodyOf; rw [hc]; rfl
  rw [e] at h
  exact fn_calls2B he hy hT hm hf hname hc h
/-- A loop walked round by round. -/
def loopU (live : List Nat) (body : St → (Ex → St → Prop) → Prop) : Nat → St → (Ex → St → Prop) → Prop
  | 0, _, _ => False
  | n + 1, s, Q => body s (thenA (fun s' => loopU live body n (s'.tidy live) Q) Q)
theorem loop_unroll {live : List Nat} {body : St → (Ex → St → Prop) → Prop} {Q : Ex → St → Prop} (hm : ∀ s (K K' : Ex → St → Prop), (∀ e s, K e s → K' e s) → body s K → body s K') (n : Nat) {s : St} (h : loopU live body n s Q) : loopT live body s Q := by
  refine ⟨fun n s => loopU live body n s Q, n, h, fun n s h => ?_⟩
  cases n with
  | zero => exact h.elim
  | succ n =>
    refine hm s _ _ (fun e s hh => ?_) h
    cases e with
    | normal => exact ⟨n, Nat.lt_succ_self n, hh⟩
    | exit i => exact hh
    | ret => exact hh
    | panic x => exact hh
theorem guardA_mono : ∀ (gs : List Prop) {k k' : Prop}, (k → k') → guardA gs k → guardA gs k'
  | [], _, _, h, hk => h hk
  | _ :: gs, _, _, h, hk => ⟨hk.1, guardA_mono gs h hk.2⟩
theorem opsA_mono {T : Tab} {env : Env} {ops : Array Oper} : ∀ (l : List Nat) (s : St) (tr : List Rc) (k k' : St → List Rc → Prop), (∀ s tr, k s tr → k' s tr) → opsA T env ops l s tr k → opsA T env ops l s tr k'
  | [], s, tr, k, k', hk, h => hk s tr h
  | i :: l, s, tr, k, k', hk, h => by
    simp only [opsA] at h ⊢
    split at h
    · cases h
    · split at h
      · cases h
      · rename_i b _
        cases b with
        | false => exact opsA_mono l _ _ k k' hk h
        | true =>
          simp only [cond_true] at h ⊢
          unfold opA at h ⊢
          split at h
          rotate_left
          · cases h
          rename_i r _
          cases hok : okUpd (fixG ops _ true s).obs.length r.upd with
          | false => rw [hok] at h; exact h.elim
          | true =>
            rw [hok] at h
            simp only [cond_true] at h ⊢
            exact guardA_mono _ (fun hh => opsA_mono l _ _ k k' hk hh) h
theorem opO1_mono {T : Tab} {env : Env} {o : Oper} {j : Nat} {s : St} {k k' : St → Prop} {kp kp' : Value → St → Prop} (hk : ∀ s, k s → k' s) (hp : ∀ x s, kp x s → kp' x s) (h : opO1 T env o j s k kp) : opO1 T env o j s k' kp' := by
  unfold opO1 at h ⊢
  split at h
  · unfold opA at h ⊢
    split at h
    rotate_left
    · cases h
    rename_i r _
    cases hok : okUpd s.obs.length r.upd with
    | false => rw [hok] at h; exact h.elim
    | true =>
      rw [hok] at h
      simp only [cond_true] at h ⊢
      exact guardA_mono _ (fun hh => hk _ hh) h
  · exact ⟨fun hh => hk _ (h.1 hh), hk _ h.2⟩
  · rename_i b x r _
    cases hok : okUpd s.obs.length r.upd with
    | false => rw [hok] at h; exact h.elim
    | true =>
      rw [hok] at h
      simp only [cond_true] at h ⊢
      refine guardA_mono _ (fun hh => ?_) h
      cases b with
      | true => exact hp _ _ hh
      | false => exact hk _ hh
  · rename_i l as _
    cases he : (as.flatMap AV.refs).isEmpty with
    | false => rw [he] at h; exact h.elim
    | true =>
      rw [he] at h
      simp only [cond_true] at h ⊢
      exact ⟨h.1, h.2.1, h.2.2.1, h.2.2.2.1, hk _ h.2.2.2.2.1, hk _ h.2.2.2.2.2⟩
theorem opO_mono {T : Tab} {env : Env} {o : Oper} {j : Nat} {s : St} {k k' : St → Prop} {kp kp' : Value → St → Prop} (hk : ∀ s, k s → k' s) (hp : ∀ x s, kp x s → kp' x s) (h : opO T env o j s k kp) : opO T env o j s k' kp' := by
  unfold opO at h ⊢
  split at h
  · obtain ⟨h1, h2, h3, h4⟩ := h
    exact ⟨h1, h2, h3, guardA_mono _ (fun ⟨q0, q1, q2, q3, q4⟩ => ⟨q0, q1, q2, hk _ q3, fun y => hk _ (q4 y)⟩) h4⟩
  split at h
  · exact opO1_mono hk hp h
  · exact ⟨h.1, fun i h1 h2 => hk _ (h.2.1 i h1 h2), fun hh => hk _ (h.2.2 hh)⟩
theorem opsO_mono {T : Tab} {env : Env} {ops : Array Oper} {kp kp' : Value → St → Prop} (hp : ∀ x s, kp x s → kp' x s) : ∀ (l : List Nat) (s : St) (k k' : St → Prop), (∀ s, k s → k' s) → opsO T env ops l s k kp → opsO T env ops l s k' kp'
  | [], s, k, k', hk, h => hk s h
  | i :: l, s, k, k', hk, h => by
    simp only [opsO] at h ⊢
    split at h
    · cases h
    · split at h
      · cases h
      · rename_i b _
        cases b with
        | false => exact opsO_mono hp l _ k k' hk h
        | true => exact opO_mono (fun s hh => opsO_mono hp l s k k' hk hh) hp h
theorem regionA_mono {T : Tab} {env : Env} {ops : Array Oper} {draw : Bool} {s : St} {k k' : St → Prop} {kp kp' : Value → St → Prop} (hk : ∀ s, k s → k' s) (hp : ∀ x s, kp x s → kp' x s) (h : regionA T env ops draw s k kp) : regionA T env ops draw s k' kp' := by
  unfold regionA at h ⊢
  cases draw with
  | false => exact opsO_mono hp _ _ _ _ hk h
  | true =>
    simp only [cond_true] at h ⊢
    cases hord : okOrd ops (orderOf ops) with
    | false => rw [hord] at h; exact h.elim
    | true =>
      rw [hord] at h
      simp only [cond_true] at h ⊢
      refine opsA_mono _ _ _ _ _ (fun s tr hh => ?_) h
      cases hi : indepAll (softOk tr) ops (ancGo ops (orderOf ops) []) tr with
      | false => rw [hi] at hh; exact hh.elim
      | true => rw [hi] at hh; exact hk s hh
theorem codeA_mono {T : Tab} : ∀ (c : Code) (env : Env) (L : List Nat) (s : St) (K K' : Ex → St → Prop), (∀ e s, K e s → K' e s) → codeA T env c L s K → codeA T env c L s K'
  | .skip, _, _, s, K, K', hk, h => hk _ _ h
  | .region _ ops draw, _, _, s, K, K', hk, h => regionA_mono (fun s hh => hk _ s hh) (fun x s hh => hk _ s hh) h
  | .seq a b, env, L, s, K, K', hk, h => by
    refine codeA_mono a env _ s _ _ (fun e s hh => ?_) h
    cases e with
    | normal =>
      simp only [thenA] at hh ⊢
      rw [goOn_eq] at hh ⊢
      exact codeA_mono b env L _ K K' hk hh
    | exit i => exact hk _ _ hh
    | ret => exact hk _ _ hh
    | panic x => exact hk _ _ hh
  | .cond c a b, env, L, s, K, K', hk, h => by
    simp only [codeA, codeG] at h ⊢
    split at h
    · rename_i b' hb
      cases b' with
      | true => exact codeA_mono a env L _ K K' hk h
      | false => exact codeA_mono b env L _ K K' hk h
    · cases h
  | .block id c, env, L, s, K, K', hk, h => by
    refine codeA_mono c env L s _ _ (fun e s hh => ?_) h
    cases e with
    | normal => exact hk _ _ hh
    | exit j =>
      simp only [blockA] at hh ⊢
      cases e : j == id with
      | true => rw [e] at hh; exact hk _ _ hh
      | false => rw [e] at hh; exact hk _ _ hh
    | ret => exact hk _ _ hh
    | panic x => exact hk _ _ hh
  | .exit id, _, _, s, K, K', hk, h => hk _ _ h
  | .ret, _, _, s, K, K', hk, h => hk _ _ h
  | .loop c, env, L, s, K, K', hk, h => by
    obtain ⟨I, n, h1, h2⟩ := h
    refine ⟨I, n, h1, fun n s hI => codeA_mono c env _ s _ _ (fun e s hh => ?_) (h2 n s hI)⟩
    cases e with
    | normal => exact hh
    | exit i => exact hk _ _ hh
    | ret => exact hk _ _ hh
    | panic x => exact hk _ _ hh
  | .rangeFunc f ps x y, env, L, s, K, K', hk, h => by
    simp only [codeA, codeG] at h ⊢
    split at h
    · exact h.elim
    · cases hi : env.isIt with
      | true => rw [hi] at h; exact h.elim
      | false =>
        rw [hi] at h
        simp only [cond_false] at h ⊢
        refine guardA_mono _ (fun hh => ?_) h
        obtain ⟨I, h0, h1, h2⟩ := hh
        refine ⟨I, h0, fun i t hlt hI => ⟨(h1 i t hlt hI).1, codeA_mono x env.noY _ _ _ _ (fun e s hh => ?_) (h1 i t hlt hI).2⟩, fun t hI => hk _ _ (h2 t hI)⟩
        cases e with
        | normal =>
          refine codeA_mono y env.noY _ _ _ _ (fun e s hh => ?_) hh
          cases e with
          | normal => exact hh
          | exit i => exact hk _ _ hh
          | ret => exact hk _ _ hh
          | panic x => exact hh
        | exit i => exact hh
        | ret => exact hh
        | panic x => exact hh
  | .scope _, _, _, _, _, _, _, h => h.elim
  | .label _, _, _, _, _, _, _, h => h.elim
  | .goto _, _, _, _, _, _, _, h => h.elim
  | .refuse _, _, _, _, _, _, _, h => h.elim
theorem endA_mono {T : Tab} {fn : Func} {R R' : AV → List Ob → Prop} (h : ∀ v o, R v o → R' v o) {e : Ex} {s : St} (hh : endA T fn R e s) : endA T fn R' e s := by
  cases e with
  | exit i => exact hh
  | panic x => exact hh
  | normal =>
    simp only [endA] at hh ⊢
    split at hh
    · exact h _ _ hh
    · exact hh
  | ret =>
    simp only [endA] at hh ⊢
    split at hh
    · exact h _ _ hh
    · exact hh
/-- The same, where it may panic. -/
theorem fn_okP {P : Program} {T : Tab} {env : Env} (he : EnvOk P env) (hT : TabOk P T) (hm : P.follows .mixedOrders = true) {g : FuncId} {fn : Func} (hf : P.funcs[g]? = some fn) (hname : (fn.name == "runtime.NumGoroutine") = false) (hb : fn.body.isSome = true) {args : List AV} {obs : List Ob} {b : Bool} {x : Value} {v : AV} {obs' : List Ob}
    (h : fnP T env fn (bodyOf fn) args obs (fun v' o' => b = false ∧ v' = v ∧ o' = obs') (fun x' o' => b = true ∧ x' = x ∧ o' = obs')) (hy : env.ycnt = 0 ∧ env.isIt = false := by exact ⟨rfl, rfl⟩) : (b = false → ACalls2 P g args obs v obs') ∧ (b = true → ACalls2 P g args obs .undef obs' (some x)) := by
  obtain ⟨c, hc⟩ := Option.isSome_iff_exists.1 hb
  have e : bodyOf fn = c := by unfold bodyOf; rw [hc]; rfl
  rw [e] at h
  refine ⟨fun hb' => ?_, fun hb' => ?_⟩
  · subst hb'
    refine fn_calls2B he hy hT hm hf hname hc (codeA_mono c env _ _ _ _ (fun e s hh => ?_) h)
    cases e with
    | exit i => exact hh
    | panic x => exact absurd hh.1 (by simp)
    | normal => exact endA_mono (R := fun v' o' => false = false ∧ v' = v ∧ o' = obs') (e := .normal) (fun v o h => h.2) hh
    | ret => exact endA_mono (R := fun v' o' => false = false ∧ v' = v ∧ o' = obs') (e := .ret) (fun v o h => h.2) hh
  · subst hb'
    refine fn_calls2 he hy hT hm hf hname hc (codeA_mono c env _ _ _ _ (fun e s hh => ?_) h)
    cases e with
    | exit i => exact hh
    | panic x => exact ⟨by rw [hh.2.1], rfl, hh.2.2⟩
    | normal => exact endA_mono (R := fun v' o' => true = false ∧ v' = v ∧ o' = obs') (R' := fun v' o' => some x = none ∧ v' = .undef ∧ o' = obs') (e := .normal) (fun v o h => by simp at h) hh
    | ret => exact endA_mono (R := fun v' o' => true = false ∧ v' = v ∧ o' = obs') (R' := fun v' o' => some x = none ∧ v' = .undef ∧ o' = obs') (e := .ret) (fun v o h => by simp at h) hh
/-- An iterator. -/
theorem fn_okI {P : Program} {T : Tab} {env : Env} (he : EnvOk P env) (hT : TabOk P T) (hm : P.follows .mixedOrders = true) {g : FuncId} {fn : Func} (hf : P.funcs[g]? = some fn) (hname : (fn.name == "runtime.NumGoroutine") = false) (hb : fn.body.isSome = true) {args caps : List AV} {obs : List Ob} {cnt : Nat} {arg : Nat → List AV}
    (h : ∀ l, fnI T env fn (bodyOf fn) args caps obs l cnt arg) : AIter P g args caps obs cnt arg := by
  obtain ⟨c, hc⟩ := Option.isSome_iff_exists.1 hb
  have e : bodyOf fn = c := by unfold bodyOf; rw [hc]; rfl
  rw [e] at h
  exact fn_iter he hT hm hf hname hc h
/-- A loop whose rounds are few is walked round by round. -/
theorem loop_rounds {T : Tab} {env : Env} {c : Code} {live L : List Nat} {s : St} {Q : Ex → St → Prop} (n : Nat) (h : loopU live (codeA T env c L) n s Q) : loopT live (codeA T env c L) s Q :=
  loop_unroll (fun s K K' hk hh => codeA_mono c env L s K K' hk hh) n h
end Go.Proofs.Ytkpjcmiijlpcaaa.Aw
