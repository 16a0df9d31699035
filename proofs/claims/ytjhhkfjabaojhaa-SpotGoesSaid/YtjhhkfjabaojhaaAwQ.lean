/- An abstract program logic over the model, seventeenth part: states, regions, bodies: what they do; a region whose order is given. -/
import Derived.Test.YtjhhkfjabaojhaaAwP
namespace Go.Proofs.Ytjhhkfjabaojhaa.Aw
open Go

/-! ### States, regions, bodies -/
structure St where
  slots : List AV
  obs : List Ob
  n : Nat := 0
def St.H (s : St) (k : Nat) : Ob := s.obs.getD k .none
def putObs : List Ob → List (Nat × Ob) → List Ob
  | l, [] => l
  | l, (k, o) :: r => putObs (bif k.blt l.length then l.set k o else l ++ [o]) r
/-- The objects that an operation writes: old ones, and the next ones; each once. -/
def okUpd : Nat → List (Nat × Ob) → Bool
  | _, [] => true
  | n, (k, _) :: r => !(r.any fun p => p.1 == k) && bif k.blt n then okUpd n r else k == n && okUpd (n + 1) r
def putSlot (l : List AV) (d : Option Tmp) (v : AV) : List AV := match d with
  | some t => l.set t v
  | none => l
def St.put (s : St) (d : Option Tmp) (v : AV) (upd : List (Nat × Ob)) : St := ⟨putSlot s.slots d v, putObs s.obs upd, s.n⟩
def guardA : List Prop → Prop → Prop
  | [], k => k
  | g :: gs, k => g ∧ guardA gs k
/-- One operation's mark: what it looked at, what it wrote. -/
structure Rc where
  i : Nat
  reads : List Nat
  keys : List Nat
def opA (T : Tab) (env : Env) (o : Oper) (i : Nat) (s : St) (tr : List Rc) (k : St → List Rc → Prop) : Prop :=
  match semOp T env (evA s.slots) s.H s.obs.length o with
  | some r => bif okUpd s.obs.length r.upd then guardA r.gs (k (s.put o.dst r.v r.upd) (⟨i, readsOf (evA s.slots) s.H o, r.upd.map (·.1)⟩ :: tr)) else False
  | none => False
/-- Whether an operation with a guard is done. -/
def wantedA (ops : Array Oper) (sl : List AV) (o : Oper) : Option Bool := match o.guard with
  | none => some true
  | some (j, want) => match (ops[j]?).bind (·.dst) with
    | some t => match sl.getD t .undef with
      | .bool b => some (bif want then b else !b)
      | _ => none
    | none => none
/-- A test that has come out is known from then on. -/
def fixG (ops : Array Oper) (o : Oper) (b : Bool) (s : St) : St := match o.guard with
  | none => s
  | some (j, want) => match (ops[j]?).bind (·.dst) with
    | some t => ⟨s.slots.set t (.bool (bif b then want else !want)), s.obs, s.n⟩
    | none => s
def opsA (T : Tab) (env : Env) (ops : Array Oper) : List Nat → St → List Rc → (St → List Rc → Prop) → Prop
  | [], s, tr, k => k s tr
  | i :: l, s, tr, k => match ops[i]? with
    | none => False
    | some o => match wantedA ops s.slots o with
      | none => False
      | some b => bif b then opA T env o i (fixG ops o true s) tr fun s' tr' => opsA T env ops l s' tr' k
          else opsA T env ops l ((fixG ops o false s).put o.dst .undef []) (⟨i, [], []⟩ :: tr) k
inductive Ex where
  | normal
  | exit (id : Nat)
  | ret
def thenA (next : St → Prop) (Q : Ex → St → Prop) : Ex → St → Prop
  | .normal, s => next s
  | .exit i, s => Q (.exit i) s
  | .ret, s => Q .ret s
def blockA (id : Nat) (Q : Ex → St → Prop) : Ex → St → Prop
  | .exit j, s => bif j == id then Q .normal s else Q (.exit j) s
  | .normal, s => Q .normal s
  | .ret, s => Q .ret s
def loopA (body : St → (Ex → St → Prop) → Prop) (s : St) (Q : Ex → St → Prop) : Prop :=
  ∃ (I : Nat → St → Prop) (n : Nat), I n s ∧ ∀ n s, I n s → body s (thenA (fun s' => ∃ m, m < n ∧ I m s') Q)

/-! ### One operation, a region in its order -/
theorem putObs_get : ∀ (upd : List (Nat × Ob)) (l : List Ob) (k : Nat), okUpd l.length upd = true → (putObs l upd).getD k .none = (upd.lookup k).getD (l.getD k .none)
  | [], _, _, _ => rfl
  | (j, o) :: r, l, k, h => by
    simp only [okUpd, Bool.and_eq_true, Bool.not_eq_true'] at h
    obtain ⟨h1, h2⟩ := h
    simp only [putObs, List.lookup]
    have hno : ∀ q ∈ r, q.1 ≠ j := by
      intro q hq e
      have := List.any_eq_false.1 h1 q hq
      simp [e] at this
    by_cases hj : j.blt l.length = true
    · rw [hj] at h2 ⊢
      simp only [cond_true] at h2 ⊢
      rw [putObs_get r (l.set j o) k (by rwa [List.length_set])]
      by_cases hk : k = j
      · subst hk
        have hl : r.lookup k = none := by
          rw [List.lookup_eq_none_iff]
          intro q hq
          simpa using fun e : k = q.1 => hno q hq e.symm
        rw [hl]
        have : k < l.length := by simpa using hj
        simp [List.getD, this]
      · have e : (k == j) = false := by simpa using hk
        rw [e]
        simp only [List.getD, List.getElem?_set_ne (fun e => hk e.symm)]
    · have hj' : j.blt l.length = false := Bool.eq_false_iff.2 hj
      rw [hj'] at h2 ⊢
      simp only [cond_false, Bool.and_eq_true, beq_iff_eq] at h2 ⊢
      obtain ⟨rfl, h2⟩ := h2
      rw [putObs_get r (l ++ [o]) k (by simpa using h2)]
      by_cases hk : k = l.length
      · subst hk
        have hl : r.lookup l.length = none := by
          rw [List.lookup_eq_none_iff]
          intro q hq
          simpa using fun e : l.length = q.1 => hno q hq e.symm
        rw [hl]
        simp [List.getD]
      · have e : (k == l.length) = false := by simpa using hk
        rw [e]
        simp only [List.getD]
        rw [List.getElem?_append]
        split
        · rfl
        · rw [List.getElem?_eq_none (l := [o]) (by simp; omega), List.getElem?_eq_none (l := l) (by omega)]
theorem putObs_H (s : St) (d : Option Tmp) (v : AV) (upd : List (Nat × Ob)) (h : okUpd s.obs.length upd = true) : (s.put d v upd).H = updH s.H upd := by
  funext k
  exact putObs_get upd s.obs k h
theorem okUpd_new : ∀ (upd : List (Nat × Ob)) (n : Nat) (p : Nat × Ob), okUpd n upd = true → p ∈ upd → p.1 < n + upd.length
  | [], _, _, _, hp => by cases hp
  | (j, o) :: r, n, p, h, hp => by
    simp only [okUpd, Bool.and_eq_true, Bool.not_eq_true'] at h
    obtain ⟨h1, h2⟩ := h
    rw [List.length_cons]
    by_cases hj : j.blt n = true
    · rw [hj] at h2
      have hlt : j < n := by simpa using hj
      rcases List.mem_cons.1 hp with rfl | hp
      · show j < _
        omega
      · have := okUpd_new r n p h2 hp
        omega
    · have hj' : j.blt n = false := Bool.eq_false_iff.2 hj
      rw [hj'] at h2
      simp only [cond_false, Bool.and_eq_true, beq_iff_eq] at h2
      rcases List.mem_cons.1 hp with rfl | hp
      · show j < _
        omega
      · have := okUpd_new r (n + 1) p h2.2 hp
        omega
theorem guardA_spec : ∀ (gs : List Prop) (k : Prop), guardA gs k → (∀ g ∈ gs, g) ∧ k
  | [], _, h => ⟨by simp, h⟩
  | g :: gs, k, h => by
    obtain ⟨h1, h2⟩ := guardA_spec gs k h.2
    refine ⟨fun x hx => ?_, h2⟩
    rcases List.mem_cons.1 hx with rfl | hx
    · exact h.1
    · exact h1 x hx
theorem putSlot_get (l : List AV) (d : Option Tmp) (v : AV) (t : Nat) : (putSlot l d v).getD t .undef = if d = some t ∧ t < l.length then v else l.getD t .undef := by
  cases d with
  | none => simp [putSlot]
  | some d =>
    simp only [putSlot, List.getD, Option.some.injEq]
    by_cases h : d = t
    · subst h
      rw [List.getElem?_set_self']
      by_cases h2 : d < l.length
      · rw [if_pos ⟨rfl, h2⟩, List.getElem?_eq_getElem h2]; rfl
      · rw [if_neg (fun h => h2 h.2), List.getElem?_eq_none (Nat.not_lt.1 h2)]; rfl
    · rw [List.getElem?_set_ne h, if_neg (fun h2 => h h2.1)]
theorem putSlot_length (l : List AV) (d : Option Tmp) (v : AV) : (putSlot l d v).length = l.length := by
  cases d <;> simp [putSlot]
/-- The objects that were handed in: how many, and as what. -/
structure Pin where
  n : Nat
  β : Nat → Cr
  H : Nat → Ob
structure Inv (M S0 : Nat → Prop) (w0 : World) (π : Pin) (sl : List AV) (H : Nat → Ob) (S : Nat → Prop) (β : Nat → Cr) (a : Act) (w : World) : Prop where
  rel : Rel M S0 w0 S β H w
  len : sl.length ≤ a.tmps.size
  sl : ∀ t, VL S w β H (sl.getD t .undef) [a.tmps.getD t undef]
  nod : a.defers = []
  pin : ∀ k, k < π.n → ObExt (π.β k) (π.H k) (β k) (H k)
section
variable {P : Program} {T : Tab} {env : Env} {M S0 : Nat → Prop} {w0 : World} {π : Pin} {S : Nat → Prop} {β : Nat → Cr} {H : Nat → Ob} {w : World} {o : Oper} {a : Act} {sl : List AV} {nid : Nat} {r : Res}
theorem ev_of (hsl : ∀ t, VL S w β H (sl.getD t .undef) [a.tmps.getD t undef]) (x : Operand) : VL S w β H (evA sl x) [a.eval x] := by
  unfold evA
  split <;> first
    | exact hsl _
    | exact ⟨_, rfl, rfl⟩
    | exact ⟨[], [], rfl, rfl, rfl⟩
    | exact ⟨_, rfl, trivial⟩
theorem put_sl {d : Option Tmp} {v : AV} {u : Value} (hl : sl.length ≤ a.tmps.size) (hsl : ∀ t, VL S w β H (sl.getD t .undef) [a.tmps.getD t undef]) (hv : VL S w β H v [u]) :
    (putSlot sl d v).length ≤ (a.put d u).tmps.size ∧ ∀ t, VL S w β H ((putSlot sl d v).getD t .undef) [(a.put d u).tmps.getD t undef] := by
  refine ⟨by rw [putSlot_length]; cases d <;> simp [Act.put, hl], fun t => ?_⟩
  rw [putSlot_get]
  cases d with
  | none => rw [if_neg (by simp)]; exact hsl t
  | some d =>
    simp only [Option.some.injEq, Act.put]
    by_cases h : d = t ∧ t < sl.length
    · rw [if_pos h]
      obtain ⟨rfl, h2⟩ := h
      have : (a.tmps.setIfInBounds d u).getD d undef = u := by
        have : d < a.tmps.size := Nat.lt_of_lt_of_le h2 hl
        simp [Array.getD, this]
      rw [this]
      exact hv
    · rw [if_neg h]
      by_cases h2 : d = t
      · subst h2
        rw [List.getD, List.getElem?_eq_none (Nat.not_lt.1 (fun h2 => h ⟨rfl, h2⟩))]
        exact ⟨_, rfl, trivial⟩
      · have : (a.tmps.setIfInBounds d u).getD t undef = a.tmps.getD t undef := by
          simp [Array.getElem?_setIfInBounds_ne h2]
        rw [this]
        exact hsl t
theorem op_sound (he : EnvOk P env) (hT : TabOk P T) (i : Inv M S0 w0 π sl H S β a w) (hs : semOp T env (evA sl) H nid o = some r) (hg : ∀ g ∈ r.gs, g) (hn : ∀ p ∈ r.upd, nid ≤ p.1 → H p.1 = .none)
    {K : Act → World → Prop} {Q : Exit → Act → World → Prop} (hk : ∀ S' β' a' w', Inv M S0 w0 π (putSlot sl o.dst r.v) (updH H r.upd) S' β' a' w' → K a' w') : o.wp P a w K Q := by
  refine semOp_sound he ⟨hT, i.rel, ev_of i.sl, hn, hg⟩ hs K Q (fun v w' S' β' h1 h2 h3 => hk S' β' _ w' ?_)
  obtain ⟨q1, q2⟩ := put_sl (d := o.dst) i.len (fun t => VL.ext h3 _ _ (i.sl t)) h2
  exact ⟨h1, q1, q2, by cases o.dst <;> exact i.nod, fun k hk => (i.pin k hk).trans (h3.hO k)⟩
theorem skip_sound (i : Inv M S0 w0 π sl H S β a w) (d : Option Tmp) : Inv M S0 w0 π (putSlot sl d .undef) H S β (a.put d undef) w := by
  obtain ⟨q1, q2⟩ := put_sl (d := d) (v := .undef) (u := undef) i.len i.sl ⟨_, rfl, trivial⟩
  exact ⟨i.rel, q1, q2, by cases d <;> exact i.nod, i.pin⟩
theorem wanted_of {ops : Array Oper} {b : Bool} (i : Inv M S0 w0 π sl H S β a w) (h : wantedA ops sl o = some b) : Region.wanted o (yielded ops a.tmps) = b := by
  unfold wantedA at h
  unfold Region.wanted
  split at h
  · rename_i hg
    rw [hg]
    cases h
    rfl
  · rename_i j want hg
    rw [hg]
    split at h
    · rename_i t ht
      split at h
      · rename_i b' hb
        cases h
        have hv := i.sl t
        rw [hb] at hv
        have hv := VL.bool hv
        have e : yielded ops a.tmps j = some b' := by
          unfold yielded
          rw [ht]
          simp only [Option.bind_some]
          have hlt : t < a.tmps.size := by
            rcases Nat.lt_or_ge t a.tmps.size with h | h
            · exact h
            · have := i.len
              rw [List.getD, List.getElem?_eq_none (Nat.le_trans this h)] at hb
              cases hb
          rw [Array.getElem?_eq_getElem hlt]
          have : a.tmps[t] = .bool b' := by simpa [Array.getD, hlt] using hv
          rw [this]
        show (yielded ops a.tmps j == some want) = (bif want then b' else !b')
        rw [e]
        cases b' <;> cases want <;> rfl
      · cases h
    · cases h
theorem fixG_eq {ops : Array Oper} {s : St} {b : Bool} (h : wantedA ops s.slots o = some b) : fixG ops o b s = s := by
  unfold wantedA at h
  unfold fixG
  cases hg : o.guard with
  | none => rfl
  | some q =>
    obtain ⟨j, want⟩ := q
    rw [hg] at h
    simp only at h ⊢
    cases ht : (ops[j]?).bind (·.dst) with
    | none => rfl
    | some t =>
      rw [ht] at h
      simp only at h ⊢
      split at h
      · rename_i b' hb
        have e : (bif b then want else !want) = b' := by
          cases b <;> cases want <;> cases b' <;> simp at h ⊢
        rw [e, ← hb]
        have : s.slots.set t (s.slots.getD t .undef) = s.slots := by
          apply List.ext_getElem?
          intro i
          rw [List.getElem?_set]
          split
          · rename_i hi
            subst hi
            split
            · rename_i hl
              simp only [List.getD, List.getElem?_eq_getElem hl, Option.getD_some]
            · rename_i hl
              rw [List.getElem?_eq_none (Nat.not_lt.1 hl)]
          · rfl
        rw [this]
      · cases h
theorem ops_sound (he : EnvOk P env) (hT : TabOk P T) {ops : Array Oper} {Q : Exit → Act → World → Prop} {k : St → List Rc → Prop} : ∀ (l : List Nat) (s : St) (tr : List Rc) (S : Nat → Prop) (β : Nat → Cr) (a : Act) (w : World), Inv M S0 w0 π s.slots s.H S β a w → opsA T env ops l s tr k →
    (∀ s' tr' S' β' a' w', Inv M S0 w0 π s'.slots s'.H S' β' a' w' → s'.n = s.n → k s' tr' → Q .normal a' w') → wpOps P ops Q l a w
  | [], s, tr, S, β, a, w, hi, h, hk => hk s tr S β a w hi rfl h
  | i :: l, s, tr, S, β, a, w, hi, h, hk => by
    simp only [opsA] at h
    split at h
    · cases h
    rename_i o ho
    split at h
    · cases h
    rename_i b hb
    have hw := wanted_of hi hb
    simp only [wpOps, ho, hw]
    cases b with
    | false =>
      simp only [cond_false, fixG_eq hb] at h
      simp only [Bool.false_eq_true, if_false]
      refine ops_sound he hT l _ _ S β _ w ?_ h hk
      have := skip_sound hi o.dst
      exact this
    | true =>
      simp only [cond_true, fixG_eq hb] at h
      simp only [if_true]
      unfold opA at h
      split at h
      rotate_left
      · cases h
      rename_i r hr
      cases hok : okUpd s.obs.length r.upd with
      | false => rw [hok] at h; exact h.elim
      | true =>
        rw [hok] at h
        simp only [cond_true] at h
        obtain ⟨h1, h2⟩ := guardA_spec _ _ h
        refine .inl (op_sound he hT hi hr h1 ?_ (fun S' β' a' w' hi' => ops_sound he hT l _ _ S' β' a' w' ?_ h2 hk))
        · intro p hp hle
          simp only [St.H, List.getD]
          rw [List.getElem?_eq_none hle]
          rfl
        · rw [putObs_H _ _ _ _ hok]
          exact hi'
end
end Go.Proofs.Ytjhhkfjabaojhaa.Aw
