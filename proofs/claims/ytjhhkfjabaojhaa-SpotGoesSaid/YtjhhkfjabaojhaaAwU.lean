/- An abstract program logic over the model, twenty-first part: functions; a table of types, made out of the program. -/
import Derived.Test.YtjhhkfjabaojhaaAwT
namespace Go.Proofs.Ytjhhkfjabaojhaa.Aw
open Go

/-! ### Functions -/
def resA (T : Tab) (s : St) : List ResultVar → Option (List AV)
  | [] => some []
  | .tmp t :: l => (resA T s l).map fun vs => s.slots.getD t .undef :: vs
  | .cell x t :: l => match s.slots.getD x .undef with
    | .ptr k off => match s.H k with
      | .cells _ cs => match aggOf (T.at_ t) (cut cs off (T.at_ t).size) with
        | some v => (resA T s l).map fun vs => v :: vs
        | none => none
      | _ => none
    | _ => none
def resTmps (fn : Func) : List Nat := fn.results.toList.map fun
  | .tmp t => t
  | .cell x _ => x
def oneOf : List AV → AV
  | [v] => v
  | vs => .tuple (AV.ofList vs)
def endA (T : Tab) (fn : Func) (R : AV → List Ob → Prop) : Ex → St → Prop
  | .exit _, _ => False
  | .normal, s => match resA T s fn.results.toList with
    | some vs => R (oneOf ((St.mk vs s.obs s.n).tidy (List.range vs.length)).slots) ((St.mk vs s.obs s.n).tidy (List.range vs.length)).obs
    | none => False
  | .ret, s => match resA T s fn.results.toList with
    | some vs => R (oneOf ((St.mk vs s.obs s.n).tidy (List.range vs.length)).slots) ((St.mk vs s.obs s.n).tidy (List.range vs.length)).obs
    | none => False
def startA (fn : Func) (args : List AV) : St := ⟨args ++ List.replicate (fn.ntmps - args.length) .undef, [], 0⟩
def startB (fn : Func) (args : List AV) (obs : List Ob) : St := ⟨args ++ List.replicate (fn.ntmps - args.length) .undef, obs, obs.length⟩
/-- A function's body, of what it is given. -/
def fnA (T : Tab) (env : Env) (fn : Func) (c : Code) (args : List AV) (R : AV → List Ob → Prop) : Prop :=
  codeA T env c (resTmps fn) (startA fn args) (endA T fn R)
/-- The same, of objects that are handed in. -/
def fnB (T : Tab) (env : Env) (fn : Func) (c : Code) (args : List AV) (obs : List Ob) (R : AV → List Ob → Prop) : Prop :=
  codeA T env c (resTmps fn) (startB fn args obs) (endA T fn R)
section
variable {P : Program} {T : Tab} {env : Env} {M S0 : Nat → Prop} {w0 : World} {π : Pin} {S : Nat → Prop} {β : Nat → Cr} {H : Nat → Ob} {w : World} {a : Act} {sl : List AV}
def resOf (tmps : Array Value) : ResultVar → Sem Value
  | .tmp t => pure (tmps.getD t undef)
  | .cell x t => do loadVar t (← asAddr (tmps.getD x undef))
theorem results_eq (fn : Func) (tmps : Array Value) : results fn tmps = (do
    let vs ← fn.results.mapM (resOf tmps)
    pure (if h : vs.size = 1 then vs[0] else .tuple vs)) := by
  unfold results
  congr 2
theorem res_of (hT : TabOk P T) {s : St} (h : Inv M S0 w0 π s.slots s.H S β a w) : ∀ (l : List ResultVar) (vs : List AV), resA T s l = some vs → ∃ us : List Value, (l.mapM (resOf a.tmps)).run P w = .ok us w ∧ VLs S w β s.H vs us
  | [], vs, hr => by
    simp only [resA, Option.some.injEq] at hr
    subst hr
    exact ⟨[], rfl, rfl⟩
  | .tmp t :: l, vs, hr => by
    simp only [resA] at hr
    obtain ⟨ws, h1, h2⟩ := Option.map_eq_some_iff.1 hr
    obtain ⟨us, h3, h4⟩ := res_of hT h l ws h1
    subst h2
    refine ⟨a.tmps.getD t undef :: us, ?_, _, _, rfl, h.sl t, h4⟩
    simp only [List.mapM_cons, resOf, pure_bind, Sem.run_bind, h3, Result.andThen_ok, Sem.run_pure]
  | .cell x t :: l, vs, hr => by
    simp only [resA] at hr
    split at hr
    rotate_left
    · cases hr
    rename_i k off hx
    split at hr
    rotate_left
    · cases hr
    rename_i e cs hk
    split at hr
    rotate_left
    · cases hr
    rename_i v hv
    obtain ⟨ws, h1, h2⟩ := Option.map_eq_some_iff.1 hr
    obtain ⟨us, h3, h4⟩ := res_of hT h l ws h1
    subst h2
    have hp := h.sl x
    rw [hx] at hp
    obtain ⟨u0, q1, q2⟩ := hp
    simp only [leaf, hk] at q2
    obtain ⟨g, hg, hu⟩ := q2
    have hob := h.rel.ob k
    rw [hk] at hob
    obtain ⟨g', vs', r1, r2, r3⟩ := hob
    rw [hg] at r1
    cases r1
    obtain ⟨u, hu1, hu2⟩ := load_of (ad := ⟨g, off, none⟩) hT (VLs.take (T.at_ t).size _ _ (VLs.drop off _ _ r3)) hv (by
      intro j u hj
      rw [add_lit, cell_of_row w g (off + j) _ _ _ r2]
      rw [List.getElem?_take] at hj
      split at hj
      · simpa using hj
      · cases hj)
    refine ⟨u :: us, ?_, _, _, rfl, hu2, h4⟩
    have hu : a.tmps.getD x undef = .pointer (some ⟨g, off, none⟩) := by
      have q1 := List.cons.inj q1
      exact q1.1.trans hu
    simp only [List.mapM_cons, resOf, hu, asAddr, Sem.run_bind, Sem.run_pure, Result.andThen_ok, pure_bind, hu1, h3]
theorem oneOf_of {vs : List AV} {us : List Value} (h : VLs S w β H vs us) : VL S w β H (oneOf vs) [if h : us.toArray.size = 1 then us.toArray[0] else .tuple us.toArray] := by
  have hl := VLs.length _ _ h
  match vs, us, h, hl with
  | [], [], _, _ => exact ⟨[], rfl, rfl⟩
  | [v], [u], h, _ => obtain ⟨u', r, e, h1, _⟩ := h; cases e; exact h1
  | v :: v' :: l, u :: u' :: l', h, _ =>
    refine ⟨u :: u' :: l', ?_, VLs.of_list _ _ h⟩
    simp
theorem vls_of : ∀ (vs : List AV) (us : List Value), vs.length = us.length → (∀ t, VL S w β H (vs.getD t .undef) [us.toArray.getD t undef]) → VLs S w β H vs us
  | [], [], _, _ => rfl
  | v :: vs, u :: us, hl, h => by
    refine ⟨u, us, rfl, by simpa using h 0, vls_of vs us (by simpa using hl) fun t => ?_⟩
    have := h (t + 1)
    simpa using this
theorem end_sound (hT : TabOk P T) {fn : Func} {R : AV → List Ob → Prop} {R' : Ending → World → Prop}
    (hR : ∀ v news S β w u, Rel M S0 w0 S β (newsH news) w → VL S w β (newsH news) v [u] → (∀ k, k < π.n → ObExt (π.β k) (π.H k) (β k) (newsH news k)) → R v news → R' (.returned u) w) : Lifts M S0 w0 π (endA T fn R) (bodyPost P fn R') := by
  have key : ∀ (s : St) (S : Nat → Prop) (β : Nat → Cr) (a : Act) (w : World), Inv M S0 w0 π s.slots s.H S β a w → s.n = π.n → endA T fn R .ret s → a.defers = [] ∧ ∃ v, (results fn a.tmps).run P w = .ok v w ∧ R' (.returned v) w := by
    intro s S β a w hi hn h
    refine ⟨hi.nod, ?_⟩
    simp only [endA] at h
    split at h
    rotate_left
    · cases h
    rename_i vs hvs
    obtain ⟨us, h1, h2⟩ := res_of hT hi fn.results.toList vs hvs
    have hi2 : Inv M S0 w0 π (St.mk vs s.obs s.n).slots (St.mk vs s.obs s.n).H S β ⟨us.toArray, []⟩ w := by
      refine ⟨hi.rel, ?_, fun t => ?_, rfl, hi.pin⟩
      · rw [List.size_toArray, VLs.length _ _ h2]
        exact Nat.le_refl _
      · show VL S w β s.H (vs.getD t .undef) _
        cases e : vs[t]? with
        | none =>
          rw [List.getD, e]
          exact ⟨_, rfl, trivial⟩
        | some v =>
          obtain ⟨u, g1, g2⟩ := VLs.get _ _ h2 t v e
          rw [List.getD, e]
          have : us.toArray.getD t undef = u := by
            simp [g1]
          rw [this]
          exact g2
    obtain ⟨β', hi3⟩ := tidy_sound (s := St.mk vs s.obs s.n) (List.range vs.length) hn hi2
    have hlen := tidy_length (List.range vs.length) (St.mk vs s.obs s.n)
    generalize (St.mk vs s.obs s.n).tidy (List.range vs.length) = s' at h hi3 hlen
    have hv := oneOf_of (vls_of _ _ (hlen.trans (VLs.length _ _ h2).symm) hi3.sl)
    refine ⟨_, ?_, hR _ _ S β' w _ hi3.rel hv hi3.pin h⟩
    rw [results_eq, Array.mapM_eq_mapM_toList]
    simp only [map_eq_pure_bind, bind_assoc, pure_bind, Sem.run_bind, h1, Result.andThen_ok, Sem.run_pure]
  intro e s S β a w hi hn h
  cases e with
  | exit i => exact h.elim
  | normal => exact key s S β a w hi hn h
  | ret => exact key s S β a w hi hn h
theorem start_inv {fn : Func} {args : List AV} {obs : List Ob} {vs : List Value} {n : Nat} (hrel : Rel M S0 w0 S β (newsH obs) w) (hvs : VLs S w β (newsH obs) args vs) (hpin : ∀ k, k < π.n → ObExt (π.β k) (π.H k) (β k) (newsH obs k)) :
    Inv M S0 w0 π (St.mk (args ++ List.replicate (fn.ntmps - args.length) .undef) obs n).slots (St.mk (args ++ List.replicate (fn.ntmps - args.length) .undef) obs n).H S β { tmps := vs.toArray ++ Array.replicate (fn.ntmps - vs.toArray.size) undef, defers := [] } w := by
  have hl := VLs.length _ _ hvs
  refine ⟨hrel, ?_, fun t => ?_, rfl, hpin⟩
  · simp only [List.length_append, List.length_replicate, Array.size_append, List.size_toArray, Array.size_replicate, hl]
    exact Nat.le_refl _
  · by_cases ht : t < args.length
    · obtain ⟨u, g1, g2⟩ := VLs.get _ _ hvs t args[t] (List.getElem?_eq_getElem ht)
      have e1 : (args ++ List.replicate (fn.ntmps - args.length) AV.undef).getD t .undef = args[t] := by
        simp only [List.getD]
        rw [List.getElem?_append_left ht, List.getElem?_eq_getElem ht]
        rfl
      have e2 : (vs.toArray ++ Array.replicate (fn.ntmps - vs.toArray.size) undef).getD t undef = u := by
        have : t < vs.length := by omega
        rw [List.getElem?_eq_getElem this] at g1
        cases g1
        rw [Array.getD_eq_getD_getElem?, Array.getElem?_append_left (show t < vs.length from this)]
        simp [this]
      show VL S w β (newsH obs) ((args ++ List.replicate (fn.ntmps - args.length) AV.undef).getD t .undef) [(vs.toArray ++ Array.replicate (fn.ntmps - vs.toArray.size) undef).getD t undef]
      rw [e1, e2]
      exact g2
    · have e1 : (args ++ List.replicate (fn.ntmps - args.length) AV.undef).getD t .undef = .undef := by
        simp only [List.getD]
        rw [List.getElem?_append_right (by omega), List.getElem?_replicate]
        split <;> rfl
      show VL S w β (newsH obs) ((args ++ List.replicate (fn.ntmps - args.length) AV.undef).getD t .undef) [(vs.toArray ++ Array.replicate (fn.ntmps - vs.toArray.size) undef).getD t undef]
      rw [e1]
      exact ⟨_, rfl, trivial⟩
/-- WHAT A FUNCTION'S BODY COMES TO IS WHAT A CALL OF IT COMES TO. -/
theorem fn_calls (he : EnvOk P env) (hT : TabOk P T) (hm : P.follows .mixedOrders = true) {g : FuncId} {fn : Func} {c : Code} (hf : P.funcs[g]? = some fn) (hname : (fn.name == "runtime.NumGoroutine") = false) (hb : fn.body = some c) {args : List AV} {v : AV} {news : List Ob}
    (h : fnA T env fn c args fun v' news' => v' = v ∧ news' = news) : ACalls P g args v news := by
  refine ⟨⟨fn, hf, hname, by rw [hb]; rfl⟩, fun S w vs hS hvs => ?_⟩
  refine calls_of_wp hf hb ?_
  have hrel : Rel (fun _ => False) S w S cr0 (newsH []) w := ⟨Fr.refl _ _, fun _ h => h, fun b hb => ⟨hS b hb, .inl hb⟩, fun k g hk => (by cases hk), fun k k' g hk => (by cases hk), fun k => trivial⟩
  have hi := start_inv (π := ⟨0, cr0, ob0⟩) (fn := fn) (n := 0) (vs := vs) hrel hvs (fun k hk => absurd hk (Nat.not_lt_zero k))
  exact code_sound he hT hm c _ _ _ _ S cr0 _ w hi rfl h (end_sound hT fun v' news' S' β' w' u h1 h2 _ h3 => ⟨u, rfl, S', β', by rw [← h3.2]; exact h1, by rw [← h3.2, ← h3.1]; exact h2⟩)
/-- The same, of a call that is handed objects. -/
theorem fn_calls2 (he : EnvOk P env) (hT : TabOk P T) (hm : P.follows .mixedOrders = true) {g : FuncId} {fn : Func} {c : Code} (hf : P.funcs[g]? = some fn) (hname : (fn.name == "runtime.NumGoroutine") = false) (hb : fn.body = some c) {args : List AV} {obs : List Ob} {v : AV} {obs' : List Ob}
    (h : fnB T env fn c args obs fun v' o' => v' = v ∧ o' = obs') : ACalls2 P g args obs v obs' := by
  refine ⟨⟨fn, hf, hname, by rw [hb]; rfl⟩, fun S β w vs hrel hvs => ?_⟩
  refine calls_of_wp hf hb ?_
  have hi := start_inv (π := ⟨obs.length, β, newsH obs⟩) (fn := fn) (n := obs.length) (vs := vs) hrel hvs (fun k _ => ObExt.refl _ _)
  exact code_sound he hT hm c _ _ _ _ S β _ w hi rfl h (end_sound hT fun v' news' S' β' w' u h1 h2 hp h3 => ⟨u, rfl, S', β', by rw [← h3.2]; exact h1, by rw [← h3.2, ← h3.1]; exact h2, by rw [← h3.2]; exact hp⟩)
end
end Go.Proofs.Ytjhhkfjabaojhaa.Aw
