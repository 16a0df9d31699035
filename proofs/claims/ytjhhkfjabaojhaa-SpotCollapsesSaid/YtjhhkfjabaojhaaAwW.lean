/- An abstract program logic over the model, twenty-third part: what is known of functions, put together; loops. -/
import Derived.Test.YtjhhkfjabaojhaaAwV
namespace Go.Proofs.Ytjhhkfjabaojhaa.Aw
open Go

/-- What is known of functions, by their numbers. -/
abbrev Cons := List (FuncId × (List AV → Option Tells))
def envOf : Cons → Env
  | [], _, _ => none
  | (g, f) :: l, g', args => bif Nat.beq g g' then f args else envOf l g' args
def ConOk (P : Program) (c : FuncId × (List AV → Option Tells)) : Prop := ∀ args t, c.2 args = some t → (∀ p ∈ t.pre, p) → ACalls P c.1 args t.v t.news
theorem envOf_ok {P : Program} : ∀ l : Cons, (∀ c ∈ l, ConOk P c) → EnvOk P (envOf l)
  | [], _ => fun g args t h _ => by cases h
  | (g, f) :: l, hl => fun g' args t h hp => by
    simp only [envOf] at h
    cases e : Nat.beq g g' with
    | true =>
      rw [e] at h
      have e' : g = g' := Nat.eq_of_beq_eq_true e
      subst e'
      exact hl (g, f) (by simp) args t h hp
    | false =>
      rw [e] at h
      exact envOf_ok l (fun c hc => hl c (by simp [hc])) g' args t h hp
theorem envOk_nil {P : Program} : EnvOk P (envOf []) := fun g args t h _ => by cases h
theorem envOk_cons {P : Program} {c : FuncId × (List AV → Option Tells)} {l : Cons} (hc : ConOk P c) (hl : EnvOk P (envOf l)) : EnvOk P (envOf (c :: l)) := by
  obtain ⟨g, f⟩ := c
  intro g' args t h hp
  simp only [envOf] at h
  cases e : Nat.beq g g' with
  | true =>
    rw [e] at h
    have e' : g = g' := Nat.eq_of_beq_eq_true e
    subst e'
    exact hc args t h hp
  | false =>
    rw [e] at h
    exact hl g' args t h hp
/-- A loop, with what holds at each of its beginnings. -/
theorem loop_intro {live : List Nat} {body : St → (Ex → St → Prop) → Prop} {s : St} {Q : Ex → St → Prop} (I : Nat → St → Prop) (n : Nat) (h0 : I n s)
    (h : ∀ n s, I n s → body s (thenA (fun s' => (fun t => ∃ m, m < n ∧ I m t) (s'.tidy live)) Q)) : loopT live body s Q := ⟨I, n, h0, h⟩
/-- A call, from its body's normal form. -/
theorem fn_ok {P : Program} {T : Tab} {env : Env} (he : EnvOk P env) (hT : TabOk P T) (hm : P.follows .mixedOrders = true) {g : FuncId} {fn : Func} (hf : P.funcs[g]? = some fn) (hname : (fn.name == "runtime.NumGoroutine") = false) (hb : fn.body.isSome = true) {args : List AV} {v : AV} {news : List Ob}
    (h : fnA T env fn (bodyOf fn) args fun v' news' => v' = v ∧ news' = news) : ACalls P g args v news := by
  obtain ⟨c, hc⟩ := Option.isSome_iff_exists.1 hb
  have e : bodyOf fn = c := by unfold bodyOf; rw [hc]; rfl
  rw [e] at h
  exact fn_calls he hT hm hf hname hc h
end Go.Proofs.Ytjhhkfjabaojhaa.Aw
