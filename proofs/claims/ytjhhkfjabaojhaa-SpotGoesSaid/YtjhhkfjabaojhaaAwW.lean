/- An abstract program logic over the model, twenty-third part: what is known of functions, put together; loops. -/
import Derived.Test.YtjhhkfjabaojhaaAwV
namespace Go.Proofs.Ytjhhkfjabaojhaa.Aw
open Go

/-- What is known of functions, by their numbers. -/
abbrev Cons := List (FuncId × (List AV → Option Tells))
abbrev Cons2 := List (FuncId × (List AV → List Ob → Option Tells2))
def oneOf_ : Cons → FuncId → List AV → Option Tells
  | [], _, _ => none
  | (g, f) :: l, g', args => bif Nat.beq g g' then (match f args with
    | some t => some t
    | none => oneOf_ l g' args) else oneOf_ l g' args
def twoOf_ : Cons2 → FuncId → List AV → List Ob → Option Tells2
  | [], _, _, _ => none
  | (g, f) :: l, g', args, obs => bif Nat.beq g g' then (match f args obs with
    | some t => some t
    | none => twoOf_ l g' args obs) else twoOf_ l g' args obs
def envOf2 (l : Cons) (m : Cons2) : Env := ⟨oneOf_ l, twoOf_ m⟩
def envOf (l : Cons) : Env := ⟨oneOf_ l, fun _ _ _ => none⟩
def ConOk (P : Program) (c : FuncId × (List AV → Option Tells)) : Prop := ∀ args t, c.2 args = some t → (∀ p ∈ t.pre, p) → ACalls P c.1 args t.v t.news
def ConOk2 (P : Program) (c : FuncId × (List AV → List Ob → Option Tells2)) : Prop := ∀ args obs t, c.2 args obs = some t → (∀ p ∈ t.pre, p) → ACalls2 P c.1 args obs t.v (finObs obs t.olds t.news)
theorem oneOf_ok {P : Program} : ∀ l : Cons, (∀ c ∈ l, ConOk P c) → ∀ g args t, oneOf_ l g args = some t → (∀ p ∈ t.pre, p) → ACalls P g args t.v t.news
  | [], _ => fun g args t h _ => by cases h
  | (g, f) :: l, hl => fun g' args t h hp => by
    simp only [oneOf_] at h
    cases e : Nat.beq g g' with
    | true =>
      rw [e] at h
      have e' : g = g' := Nat.eq_of_beq_eq_true e
      subst e'
      simp only [cond_true] at h
      split at h
      · rename_i t' ht
        cases h
        exact hl (g, f) (by simp) args t ht hp
      · exact oneOf_ok l (fun c hc => hl c (by simp [hc])) g args t h hp
    | false =>
      rw [e] at h
      exact oneOf_ok l (fun c hc => hl c (by simp [hc])) g' args t h hp
theorem twoOf_ok {P : Program} : ∀ l : Cons2, (∀ c ∈ l, ConOk2 P c) → ∀ g args obs t, twoOf_ l g args obs = some t → (∀ p ∈ t.pre, p) → ACalls2 P g args obs t.v (finObs obs t.olds t.news)
  | [], _ => fun g args obs t h _ => by cases h
  | (g, f) :: l, hl => fun g' args obs t h hp => by
    simp only [twoOf_] at h
    cases e : Nat.beq g g' with
    | true =>
      rw [e] at h
      have e' : g = g' := Nat.eq_of_beq_eq_true e
      subst e'
      simp only [cond_true] at h
      split at h
      · rename_i t' ht
        cases h
        exact hl (g, f) (by simp) args obs t ht hp
      · exact twoOf_ok l (fun c hc => hl c (by simp [hc])) g args obs t h hp
    | false =>
      rw [e] at h
      exact twoOf_ok l (fun c hc => hl c (by simp [hc])) g' args obs t h hp
theorem envOf_ok {P : Program} (l : Cons) (hl : ∀ c ∈ l, ConOk P c) : EnvOk P (envOf l) := ⟨oneOf_ok l hl, fun g args obs t h _ => by cases h⟩
theorem envOf2_ok {P : Program} (l : Cons) (m : Cons2) (hl : ∀ c ∈ l, ConOk P c) (hm : ∀ c ∈ m, ConOk2 P c) : EnvOk P (envOf2 l m) := ⟨oneOf_ok l hl, twoOf_ok m hm⟩
theorem envOk_nil {P : Program} : EnvOk P (envOf []) := envOf_ok [] (by simp)
/-- All of a list's contracts hold: one more. -/
theorem all_nil {α : Type} {p : α → Prop} : ∀ c ∈ ([] : List α), p c := by simp
theorem all_cons {α : Type} {p : α → Prop} {c : α} {l : List α} (hc : p c) (hl : ∀ c ∈ l, p c) : ∀ d ∈ c :: l, p d := by
  intro d hd
  rcases List.mem_cons.1 hd with rfl | hd
  · exact hc
  · exact hl d hd
theorem all_append {α : Type} {p : α → Prop} {l m : List α} (hl : ∀ c ∈ l, p c) (hm : ∀ c ∈ m, p c) : ∀ d ∈ l ++ m, p d := by
  intro d hd
  rcases List.mem_append.1 hd with hd | hd
  · exact hl d hd
  · exact hm d hd
theorem envOk_cons {P : Program} {c : FuncId × (List AV → Option Tells)} {l : Cons} (hc : ConOk P c) (hl : EnvOk P (envOf l)) : EnvOk P (envOf (c :: l)) := by
  obtain ⟨g, f⟩ := c
  refine ⟨fun g' args t h hp => ?_, fun g args obs t h _ => by cases h⟩
  simp only [envOf, oneOf_] at h
  cases e : Nat.beq g g' with
  | true =>
    rw [e] at h
    have e' : g = g' := Nat.eq_of_beq_eq_true e
    subst e'
    simp only [cond_true] at h
    split at h
    · rename_i t' ht
      cases h
      exact hc args t ht hp
    · exact hl.one g args t h hp
  | false =>
    rw [e] at h
    exact hl.one g' args t h hp
/-- A loop, with what holds at each of its beginnings. -/
theorem loop_intro {live : List Nat} {body : St → (Ex → St → Prop) → Prop} {s : St} {Q : Ex → St → Prop} (I : Nat → St → Prop) (n : Nat) (h0 : I n s)
    (h : ∀ n s, I n s → body s (thenA (fun s' => (fun t => ∃ m, m < n ∧ I m t) (s'.tidy live)) Q)) : loopT live body s Q := ⟨I, n, h0, h⟩
/-- A call, from its body's normal form. -/
theorem fn_ok {P : Program} {T : Tab} {env : Env} (he : EnvOk P env) (hT : TabOk P T) (hm : P.follows .mixedOrders = true) {g : FuncId} {fn : Func} (hf : P.funcs[g]? = some fn) (hname : (fn.name == "runtime.NumGoroutine") = false) (hb : fn.body.isSome = true) {args : List AV} {v : AV} {news : List Ob}
    (h : fnA T env fn (bodyOf fn) args fun v' news' => v' = v ∧ news' = news) : ACalls P g args v news := by
  obtain ⟨c, hc⟩ := Option.isSome_iff_exists.1 hb
  have e : bodyOf fn = c := by unfold bodyOf; rw [hc]; rfl
  rw [e] at h
  exact fn_calls he hT hm hf hname hc h
/-- The same, of a call that is handed objects. -/
theorem fn_ok2 {P : Program} {T : Tab} {env : Env} (he : EnvOk P env) (hT : TabOk P T) (hm : P.follows .mixedOrders = true) {g : FuncId} {fn : Func} (hf : P.funcs[g]? = some fn) (hname : (fn.name == "runtime.NumGoroutine") = false) (hb : fn.body.isSome = true) {args : List AV} {obs : List Ob} {v : AV} {obs' : List Ob}
    (h : fnB T env fn (bodyOf fn) args obs fun v' o' => v' = v ∧ o' = obs') : ACalls2 P g args obs v obs' := by
  obtain ⟨c, hc⟩ := Option.isSome_iff_exists.1 hb
  have e : bodyOf fn = c := by unfold bodyOf; rw [hc]; rfl
  rw [e] at h
  exact fn_calls2 he hT hm hf hname hc h
/-- A loop walked round by round. -/
def loopU (live : List Nat) (body : St → (Ex → St → Prop) → Prop) : Nat → St → (Ex → St → Prop) → Prop
  | 0, _, _ => False
  | n + 1, s, Q => body s (thenA (fun s' => loopU live body n (s'.tidy live) Q) Q)
theorem loop_unroll {live : List Nat} {body : St → (Ex → St → Prop) → Prop} {Q : Ex → St → Prop} (hm : ∀ s (K K' : Ex → St → Prop), (∀ e s, K e s → K' e s) → body s K → body s K') (n : Nat) {s : St} (h : loopU live body n s Q) : loopT live body s Q := by
  refine ⟨fun n s => loopU live body n s Q, n, h, fun n s h => ?_⟩
  cases n with
  | zero => exact h.elim
  | succ n =>
    refine hm s _ _ (fun e s hh => ?_) h
    cases e with
    | normal => exact ⟨n, Nat.lt_succ_self n, hh⟩
    | exit i => exact hh
    | ret => exact hh
theorem guardA_mono : ∀ (gs : List Prop) {k k' : Prop}, (k → k') → guardA gs k → guardA gs k'
  | [], _, _, h, hk => h hk
  | _ :: gs, _, _, h, hk => ⟨hk.1, guardA_mono gs h hk.2⟩
theorem opsA_mono {T : Tab} {env : Env} {ops : Array Oper} : ∀ (l : List Nat) (s : St) (tr : List Rc) (k k' : St → List Rc → Prop), (∀ s tr, k s tr → k' s tr) → opsA T env ops l s tr k → opsA T env ops l s tr k'
  | [], s, tr, k, k', hk, h => hk s tr h
  | i :: l, s, tr, k, k', hk, h => by
    simp only [opsA] at h ⊢
    split at h
    · cases h
    · split at h
      · cases h
      · rename_i b _
        cases b with
        | false => exact opsA_mono l _ _ k k' hk h
        | true =>
          simp only [cond_true] at h ⊢
          unfold opA at h ⊢
          split at h
          rotate_left
          · cases h
          rename_i r _
          cases hok : okUpd (fixG ops _ true s).obs.length r.upd with
          | false => rw [hok] at h; exact h.elim
          | true =>
            rw [hok] at h
            simp only [cond_true] at h ⊢
            exact guardA_mono _ (fun hh => opsA_mono l _ _ k k' hk hh) h
theorem regionA_mono {T : Tab} {env : Env} {ops : Array Oper} {draw : Bool} {s : St} {k k' : St → Prop} (hk : ∀ s, k s → k' s) (h : regionA T env ops draw s k) : regionA T env ops draw s k' := by
  unfold regionA at h ⊢
  cases draw with
  | false => exact opsA_mono _ _ _ _ _ (fun s _ hh => hk s hh) h
  | true =>
    simp only [cond_true] at h ⊢
    cases hord : okOrd ops (orderOf ops) with
    | false => rw [hord] at h; exact h.elim
    | true =>
      rw [hord] at h
      simp only [cond_true] at h ⊢
      refine opsA_mono _ _ _ _ _ (fun s tr hh => ?_) h
      cases hi : indepAll ops (ancGo ops (orderOf ops) []) tr with
      | false => rw [hi] at hh; exact hh.elim
      | true => rw [hi] at hh; exact hk s hh
theorem codeA_mono {T : Tab} {env : Env} : ∀ (c : Code) (L : List Nat) (s : St) (K K' : Ex → St → Prop), (∀ e s, K e s → K' e s) → codeA T env c L s K → codeA T env c L s K'
  | .skip, _, s, K, K', hk, h => hk _ _ h
  | .region _ ops draw, _, s, K, K', hk, h => regionA_mono (fun s hh => hk _ s hh) h
  | .seq a b, L, s, K, K', hk, h => by
    refine codeA_mono a _ s _ _ (fun e s hh => ?_) h
    cases e with
    | normal => exact codeA_mono b L s K K' hk hh
    | exit i => exact hk _ _ hh
    | ret => exact hk _ _ hh
  | .cond c a b, L, s, K, K', hk, h => by
    simp only [codeA, codeG] at h ⊢
    split at h
    · rename_i b' hb
      cases b' with
      | true => exact codeA_mono a L _ K K' hk h
      | false => exact codeA_mono b L _ K K' hk h
    · cases h
  | .block id c, L, s, K, K', hk, h => by
    refine codeA_mono c L s _ _ (fun e s hh => ?_) h
    cases e with
    | normal => exact hk _ _ hh
    | exit j =>
      simp only [blockA] at hh ⊢
      cases e : j == id with
      | true => rw [e] at hh; exact hk _ _ hh
      | false => rw [e] at hh; exact hk _ _ hh
    | ret => exact hk _ _ hh
  | .exit id, _, s, K, K', hk, h => hk _ _ h
  | .ret, _, s, K, K', hk, h => hk _ _ h
  | .loop c, L, s, K, K', hk, h => by
    obtain ⟨I, n, h1, h2⟩ := h
    refine ⟨I, n, h1, fun n s hI => codeA_mono c _ s _ _ (fun e s hh => ?_) (h2 n s hI)⟩
    cases e with
    | normal => exact hh
    | exit i => exact hk _ _ hh
    | ret => exact hk _ _ hh
  | .rangeFunc _ _ _ _, _, _, _, _, _, h => h.elim
  | .scope _, _, _, _, _, _, h => h.elim
  | .label _, _, _, _, _, _, h => h.elim
  | .goto _, _, _, _, _, _, h => h.elim
  | .refuse _, _, _, _, _, _, h => h.elim
/-- A loop whose rounds are few is walked round by round. -/
theorem loop_rounds {T : Tab} {env : Env} {c : Code} {live L : List Nat} {s : St} {Q : Ex → St → Prop} (n : Nat) (h : loopU live (codeA T env c L) n s Q) : loopT live (codeA T env c L) s Q :=
  loop_unroll (fun s K K' hk hh => codeA_mono c L s K K' hk hh) n h
end Go.Proofs.Ytjhhkfjabaojhaa.Aw
