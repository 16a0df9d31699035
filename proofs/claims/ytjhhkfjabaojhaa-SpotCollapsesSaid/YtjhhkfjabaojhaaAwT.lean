/- An abstract program logic over the model, twentieth part: a state put in order where a loop begins; bodies. -/
import Derived.Test.YtjhhkfjabaojhaaAwS
namespace Go.Proofs.Ytjhhkfjabaojhaa.Aw
open Go

/-! ### A state put in order -/
def keepL (live : List Nat) : List AV → Nat → List AV
  | [], _ => []
  | a :: l, i => (bif live.contains i then a else .undef) :: keepL live l (i + 1)
def promo : List AV → Nat → List AV × List Ob
  | [], _ => ([], [])
  | .nils e t :: l, n => ((.row n) :: (promo l (n + 1)).1, (.row e t []) :: (promo l (n + 1)).2)
  | a :: l, n => (a :: (promo l n).1, (promo l n).2)
def posOf : List Nat → Nat → Nat → Option Nat
  | [], _, _ => none
  | x :: l, k, p => bif x == k then some p else posOf l k (p + 1)
def AV.ren (perm : List Nat) : AV → AV
  | .ptr k off => match posOf perm k 0 with
    | some p => .ptr p off
    | none => .undef
  | .row k => match posOf perm k 0 with
    | some p => .row p
    | none => .undef
  | .rptr k i off => match posOf perm k 0 with
    | some p => .rptr p i off
    | none => .undef
  | .agg c => .agg (c.ren perm)
  | .tuple c => .tuple (c.ren perm)
  | .fn f a c => .fn f (a.ren perm) (c.ren perm)
  | .iface t v => .iface t (v.ren perm)
  | .cons a b => .cons (a.ren perm) (b.ren perm)
  | a => a
def Ob.ren (perm : List Nat) : Ob → Ob
  | .cells e cs => .cells e (cs.map (AV.ren perm))
  | o => o
def Ob.refs : Ob → List Nat
  | .cells _ cs => cs.flatMap AV.refs
  | _ => []
def nodupB : List Nat → Bool
  | [] => true
  | x :: l => !l.contains x && nodupB l
def addNew : List Nat → List Nat → List Nat
  | acc, [] => acc
  | acc, x :: l => addNew (bif acc.contains x then acc else acc ++ [x]) l
/-- The objects that can be reached; those that are gone are left out. -/
def reach (obs : List Ob) : Nat → List Nat → List Nat → List Nat
  | 0, _, acc => acc
  | f + 1, l, acc => match l with
    | [] => acc
    | _ => reach obs f (l.flatMap fun k => (obs.getD k .none).refs) (addNew acc (l.filter fun k => (obs.getD k .none).live))
def St.tidy (live : List Nat) (s : St) : St :=
  let p := promo (keepL live s.slots 0) s.obs.length
  let obs := s.obs ++ p.2
  let perm := reach obs 4 (p.1.flatMap AV.refs) []
  bif nodupB perm then ⟨p.1.map (AV.ren perm), perm.map fun k => (obs.getD k .none).ren perm⟩ else s
section
variable {P : Program} {M S0 : Nat → Prop} {w0 : World} {S : Nat → Prop} {β : Nat → Cr} {H : Nat → Ob} {w : World} {a : Act} {sl sl' : List AV} {perm : List Nat}
theorem keepL_get (live : List Nat) : ∀ (l : List AV) (i t : Nat), (keepL live l i).getD t .undef = l.getD t .undef ∨ (keepL live l i).getD t .undef = .undef
  | [], _, _ => .inl rfl
  | x :: l, i, 0 => by
    simp only [keepL]
    cases live.contains i
    · exact .inr rfl
    · exact .inl rfl
  | x :: l, i, t + 1 => keepL_get live l (i + 1) t
theorem keepL_length (live : List Nat) : ∀ (l : List AV) (i : Nat), (keepL live l i).length = l.length
  | [], _ => rfl
  | _ :: l, i => by simp [keepL, keepL_length live l (i + 1)]
theorem keep_sound {live : List Nat} {i : Nat} (h : Inv M S0 w0 sl H S β a w) : Inv M S0 w0 (keepL live sl i) H S β a w :=
  ⟨h.rel, by rw [keepL_length]; exact h.len, fun t => by
    rcases keepL_get live sl i t with e | e
    · rw [e]; exact h.sl t
    · rw [e]; exact ⟨_, rfl, trivial⟩, h.nod⟩
theorem promo_length : ∀ (l : List AV) (n : Nat), (promo l n).1.length = l.length
  | [], _ => rfl
  | x :: l, n => by cases x <;> simp [promo, promo_length l]
/-- Rows that are no rows yet. -/
theorem promo_get : ∀ (l : List AV) (n t : Nat), (promo l n).1.getD t .undef = l.getD t .undef ∨ ∃ e ty j, l.getD t .undef = .nils e ty ∧ (promo l n).1.getD t .undef = .row (n + j) ∧ (promo l n).2[j]? = some (.row e ty [])
  | [], _, _ => .inl rfl
  | x :: l, n, 0 => by
    cases x <;> first
      | exact .inl rfl
      | exact .inr ⟨_, _, 0, rfl, rfl, rfl⟩
  | x :: l, n, t + 1 => by
    cases x <;> first
      | exact promo_get l n t
      | (rcases promo_get l (n + 1) t with h | ⟨e, ty, j, h1, h2, h3⟩
         · exact .inl h
         · exact .inr ⟨e, ty, j + 1, h1, by rw [show n + (j + 1) = n + 1 + j by omega]; exact h2, h3⟩)
theorem promo_rows : ∀ (l : List AV) (n j : Nat) (o : Ob), (promo l n).2[j]? = some o → ∃ e t, o = .row e t []
  | [], _, _, _, h => by simp [promo] at h
  | x :: l, n, j, o, h => by
    cases x <;> first
      | exact promo_rows l n j o h
      | (cases j with
         | zero => simp [promo] at h; exact ⟨_, _, h.symm⟩
         | succ j => exact promo_rows l (n + 1) j o h)
theorem promo_sound {s : St} {l : List AV} (h : Inv M S0 w0 l s.H S β a w) : ∃ β', Inv M S0 w0 (promo l s.obs.length).1 (fun k => (s.obs ++ (promo l s.obs.length).2).getD k .none) S β' a w := by
  let β' : Nat → Cr := fun k => if k < s.obs.length then β k else ⟨none, 0⟩
  have hH : ∀ k, (k < s.obs.length ∧ (s.obs ++ (promo l s.obs.length).2).getD k .none = s.H k) ∨ (s.obs.length ≤ k ∧ s.H k = .none ∧ ((s.obs ++ (promo l s.obs.length).2).getD k .none = .none ∨ ∃ e t, (s.obs ++ (promo l s.obs.length).2).getD k .none = .row e t [])) := by
    intro k
    by_cases hk : k < s.obs.length
    · refine .inl ⟨hk, ?_⟩
      simp only [St.H, List.getD]
      rw [List.getElem?_append_left hk]
    · refine .inr ⟨by omega, ?_, ?_⟩
      · simp only [St.H, List.getD]
        rw [List.getElem?_eq_none (by omega)]
        rfl
      · simp only [List.getD]
        rw [List.getElem?_append_right (by omega)]
        cases ho : (promo l s.obs.length).2[k - s.obs.length]? with
        | none => exact .inl rfl
        | some o => obtain ⟨e, t, rfl⟩ := promo_rows _ _ _ _ ho; exact .inr ⟨e, t, rfl⟩
  generalize hG : (fun k => (s.obs ++ (promo l s.obs.length).2).getD k .none) = H' at *
  have hG' : ∀ k, (s.obs ++ (promo l s.obs.length).2).getD k .none = H' k := fun k => by rw [← hG]
  simp only [hG'] at hH
  have hx : Ext S w β s.H S w β' H' := by
    refine ⟨fun b hb => ⟨hb, rfl⟩, fun k => ?_⟩
    rcases hH k with ⟨h1, h2⟩ | ⟨h1, h2, _⟩
    · rw [h2]
      simp only [β', if_pos h1]
      exact ObExt.refl _ _
    · rw [h2]; trivial
  have hold : ∀ k g, (H' k).live = true → (β' k).g = some g → (s.H k).live = true ∧ (β k).g = some g := by
    intro k g hl hg
    rcases hH k with ⟨h1, h2⟩ | ⟨h1, h2, _⟩
    · simp only [β', if_pos h1] at hg
      rw [h2] at hl
      exact ⟨hl, hg⟩
    · simp only [β', if_neg (Nat.not_lt.2 h1)] at hg
      cases hg
  refine ⟨β', ⟨h.rel.fr, h.rel.s0, h.rel.sS, fun k g hl hg => h.rel.own k g (hold k g hl hg).1 (hold k g hl hg).2, fun k k' g hl hl' hg hg' => h.rel.dis k k' g (hold k g hl hg).1 (hold k' g hl' hg').1 (hold k g hl hg).2 (hold k' g hl' hg').2, fun k => ?_⟩, by rw [promo_length]; exact h.len, fun t => ?_, h.nod⟩
  · rcases hH k with ⟨h1, h2⟩ | ⟨h1, h2, h3⟩
    · rw [h2]
      simp only [β', if_pos h1]
      exact ObR.ext hx _ _ (fun _ _ => rfl) (h.rel.ob k)
    · simp only [β', if_neg (Nat.not_lt.2 h1)]
      rcases h3 with h3 | ⟨e, t, h3⟩
      · rw [h3]; trivial
      · rw [h3]; exact .inl ⟨rfl, rfl⟩
  · rcases promo_get l s.obs.length t with e | ⟨e, ty, j, h1, h2, h3⟩
    · rw [e]; exact VL.ext hx _ _ (h.sl t)
    · have hv := h.sl t
      rw [h1] at hv
      obtain ⟨v, q1, q2⟩ := hv
      rw [h2]
      refine ⟨v, q1, ?_⟩
      have hk : H' (s.obs.length + j) = .row e ty [] := by
        rw [← hG']
        simp only [List.getD]
        rw [List.getElem?_append_right (by omega), Nat.add_sub_cancel_left, h3]
        rfl
      simp only [leaf, hk, β', if_neg (show ¬ s.obs.length + j < s.obs.length by omega)]
      exact q2
theorem posOf_get : ∀ (l : List Nat) (k p q : Nat), posOf l k p = some q → ∃ j, q = p + j ∧ l[j]? = some k
  | [], _, _, _, h => by simp [posOf] at h
  | x :: l, k, p, q, h => by
    simp only [posOf] at h
    cases e : x == k with
    | true => rw [e] at h; cases h; exact ⟨0, rfl, by simpa using e⟩
    | false =>
      rw [e] at h
      obtain ⟨j, h1, h2⟩ := posOf_get l k (p + 1) q h
      exact ⟨j + 1, by omega, by simpa using h2⟩
theorem nodup_of : ∀ l : List Nat, nodupB l = true → l.Nodup
  | [], _ => .nil
  | x :: l, h => by
    simp only [nodupB, Bool.and_eq_true, Bool.not_eq_true'] at h
    exact List.nodup_cons.2 ⟨by simpa using h.1, nodup_of l h.2⟩
def renH (H : Nat → Ob) (perm : List Nat) (p : Nat) : Ob := match perm[p]? with
  | some k => (H k).ren perm
  | none => .none
def renC (β : Nat → Cr) (perm : List Nat) (p : Nat) : Cr := match perm[p]? with
  | some k => β k
  | none => ⟨none, 0⟩
theorem pos_H {k p : Nat} (h : posOf perm k 0 = some p) : renH H perm p = (H k).ren perm ∧ renC β perm p = β k := by
  obtain ⟨j, rfl, h2⟩ := posOf_get _ _ _ _ h
  rw [Nat.zero_add]
  simp only [renH, renC, h2]
  exact ⟨trivial, trivial⟩
theorem VL.ren : ∀ (x : AV) (vs : List Value), VL S w β H x vs → VL S w (renC β perm) (renH H perm) (x.ren perm) vs
  | .ptr k off, vs, ⟨v, e, hv⟩ => by
    simp only [AV.ren]
    cases hp : posOf perm k 0 with
    | none => exact ⟨v, e, trivial⟩
    | some p =>
      refine ⟨v, e, ?_⟩
      obtain ⟨h1, h2⟩ := pos_H (H := H) (β := β) hp
      show leaf _ _ _ _ (.ptr p off) v
      simp only [leaf, h1, h2] at hv ⊢
      cases hk : H k <;> rw [hk] at hv <;> exact hv
  | .row k, vs, ⟨v, e, hv⟩ => by
    simp only [AV.ren]
    cases hp : posOf perm k 0 with
    | none => exact ⟨v, e, trivial⟩
    | some p =>
      refine ⟨v, e, ?_⟩
      obtain ⟨h1, h2⟩ := pos_H (H := H) (β := β) hp
      show leaf _ _ _ _ (.row p) v
      simp only [leaf, h1, h2] at hv ⊢
      cases hk : H k <;> rw [hk] at hv <;> exact hv
  | .rptr k i off, vs, ⟨v, e, hv⟩ => by
    simp only [AV.ren]
    cases hp : posOf perm k 0 with
    | none => exact ⟨v, e, trivial⟩
    | some p =>
      refine ⟨v, e, ?_⟩
      obtain ⟨h1, h2⟩ := pos_H (H := H) (β := β) hp
      show leaf _ _ _ _ (.rptr p i off) v
      simp only [leaf, h1, h2] at hv ⊢
      cases hk : H k <;> rw [hk] at hv <;> exact hv
  | .agg c, vs, ⟨cs, e, hc⟩ => ⟨cs, e, VL.ren c cs hc⟩
  | .tuple c, vs, ⟨cs, e, hc⟩ => ⟨cs, e, VL.ren c cs hc⟩
  | .fn f x y, vs, ⟨p, q, e, h1, h2⟩ => ⟨p, q, e, VL.ren x p h1, VL.ren y q h2⟩
  | .iface t x, vs, ⟨v, e, h1⟩ => ⟨v, e, VL.ren x [v] h1⟩
  | .cons x y, vs, ⟨v, r, e, h1, h2⟩ => ⟨v, r, e, VL.ren x [v] h1, VL.ren y r h2⟩
  | .undef, vs, ⟨v, e, hv⟩ => ⟨v, e, hv⟩
  | .int k n, vs, ⟨v, e, hv⟩ => ⟨v, e, hv⟩
  | .bool b, vs, ⟨v, e, hv⟩ => ⟨v, e, hv⟩
  | .str b, vs, ⟨v, e, hv⟩ => ⟨v, e, hv⟩
  | .nilp, vs, ⟨v, e, hv⟩ => ⟨v, e, hv⟩
  | .nilf, vs, ⟨v, e, hv⟩ => ⟨v, e, hv⟩
  | .nili, vs, ⟨v, e, hv⟩ => ⟨v, e, hv⟩
  | .nil0, vs, ⟨v, e, hv⟩ => ⟨v, e, hv⟩
  | .nils _ _, vs, ⟨v, e, hv⟩ => ⟨v, e, hv⟩
  | .list _ _ _, vs, ⟨v, e, hv⟩ => ⟨v, e, hv⟩
  | .lptr _ _ _ _ _, vs, ⟨v, e, hv⟩ => ⟨v, e, hv⟩
  | .nl, vs, hv => hv
theorem VLs.ren : ∀ (l : List AV) (vs : List Value), VLs S w β H l vs → VLs S w (renC β perm) (renH H perm) (l.map (AV.ren perm)) vs
  | [], _, hv => hv
  | x :: l, _, ⟨v, r, e, h1, h2⟩ => ⟨v, r, e, VL.ren x [v] h1, VLs.ren l r h2⟩
theorem Rel.ren (h : Rel M S0 w0 S β H w) (hn : perm.Nodup) : Rel M S0 w0 S (renC β perm) (renH H perm) w := by
  have lv : ∀ o : Ob, (o.ren perm).live = o.live := fun o => by cases o <;> rfl
  have hold : ∀ p g, (renH H perm p).live = true → (renC β perm p).g = some g → ∃ k, perm[p]? = some k ∧ (H k).live = true ∧ (β k).g = some g := by
    intro p g hl hg
    unfold renH at hl
    unfold renC at hg
    cases e : perm[p]? with
    | none => rw [e] at hl; cases hl
    | some k => rw [e] at hl hg; simp only [lv] at hl; exact ⟨k, rfl, hl, hg⟩
  refine ⟨h.fr, h.s0, h.sS, fun p g hl hg => ?_, fun p p' g hl hl' hg hg' => ?_, fun p => ?_⟩
  · obtain ⟨k, _, h1, h2⟩ := hold p g hl hg
    exact h.own k g h1 h2
  · obtain ⟨k, e, h1, h2⟩ := hold p g hl hg
    obtain ⟨k', e', h1', h2'⟩ := hold p' g hl' hg'
    have := h.dis k k' g h1 h1' h2 h2'
    subst this
    obtain ⟨l1, e1⟩ := List.getElem?_eq_some_iff.1 e

    exact (List.getElem?_inj l1 hn).1 (e.trans e'.symm)
  · unfold renH renC
    cases e : perm[p]? with
    | none => trivial
    | some k =>
      simp only
      have hob := h.ob k
      cases ho : H k with
      | none => trivial
      | dead => trivial
      | cells el cs =>
        rw [ho] at hob
        obtain ⟨g, vs, q1, q2, q3⟩ := hob
        exact ⟨g, vs, q1, q2, VLs.ren cs vs q3⟩
      | row el t xs => rw [ho] at hob; exact hob
theorem tidy_sound {s : St} (live : List Nat) (h : Inv M S0 w0 s.slots s.H S β a w) : ∃ β', Inv M S0 w0 (s.tidy live).slots (s.tidy live).H S β' a w := by
  unfold St.tidy
  simp only
  obtain ⟨β1, h1⟩ := promo_sound (keep_sound (live := live) (i := 0) h)
  generalize promo (keepL live s.slots 0) s.obs.length = p at h1
  generalize reach (s.obs ++ p.2) 4 (p.1.flatMap AV.refs) [] = perm
  cases hn : nodupB perm with
  | false => exact ⟨β, h⟩
  | true =>
    refine ⟨renC β1 perm, ?_⟩
    simp only [cond_true]
    have hr := h1.rel.ren (nodup_of _ hn)
    have e : (⟨p.1.map (AV.ren perm), perm.map fun k => ((s.obs ++ p.2).getD k .none).ren perm⟩ : St).H = renH (fun k => (s.obs ++ p.2).getD k .none) perm := by
      funext q
      simp only [St.H, renH, List.getD, List.getElem?_map]
      cases perm[q]? <;> rfl
    rw [e]
    refine ⟨hr, by simpa using h1.len, fun t => ?_, h1.nod⟩
    have hv := VL.ren (perm := perm) _ _ (h1.sl t)
    have e2 : (p.1.map (AV.ren perm)).getD t .undef = (p.1.getD t .undef).ren perm := by
      simp only [List.getD, List.getElem?_map]
      cases p.1[t]? <;> rfl
    rw [e2]
    exact hv
theorem tidy_length (live : List Nat) (s : St) : (s.tidy live).slots.length = s.slots.length := by
  unfold St.tidy
  simp only
  generalize hp : promo (keepL live s.slots 0) s.obs.length = p
  generalize reach (s.obs ++ p.2) 4 (p.1.flatMap AV.refs) [] = perm
  cases nodupB perm with
  | false => rfl
  | true => rw [cond_true, List.length_map, ← hp, promo_length, keepL_length]
end

/-! ### Bodies -/
def expoOps (ops : Array Oper) : List Oper → List Nat → List Nat
  | [], _ => []
  | o :: l, d => (o.looksAt ops).filter (fun t => !d.contains t) ++ expoOps ops l (o.dst.toList ++ d)
/-- The variables that are read before they are set, and those that are set. -/
def expo : Code → List Nat × List Nat
  | .region _ ops _ => (expoOps ops ops.toList [], ops.toList.filterMap (·.dst))
  | .seq a b => ((expo a).1 ++ (expo b).1.filter (fun t => !(expo a).2.contains t), (expo a).2 ++ (expo b).2)
  | .cond c a b => ((match c with | .tmp t => [t] | _ => []) ++ (expo a).1 ++ (expo b).1, [])
  | .block _ c => ((expo c).1, [])
  | .loop c => ((expo c).1, [])
  | _ => ([], [])
/-- A loop, from a state in order. -/
def loopT (live : List Nat) (body : St → (Ex → St → Prop) → Prop) (s : St) (Q : Ex → St → Prop) : Prop :=
  ∃ (I : Nat → St → Prop) (n : Nat), I n s ∧ ∀ n s, I n s → body s (thenA (fun s' => ∃ m, m < n ∧ I m (s'.tidy live)) Q)
def loopB (live : List Nat) (body : St → (Ex → St → Prop) → Prop) (s : St) (Q : Ex → St → Prop) : Prop := loopT live body (s.tidy live) Q
def condSt (c : Operand) (b : Bool) (s : St) : St := match c with
  | .tmp t => ⟨s.slots.set t (.bool b), s.obs⟩
  | _ => s
/-- What a body does; a loop is left to what is given for it. -/
def codeG (lp : List Nat → (St → (Ex → St → Prop) → Prop) → St → (Ex → St → Prop) → Prop) (T : Tab) (env : Env) : Code → List Nat → St → (Ex → St → Prop) → Prop
  | .skip, _, s, Q => Q .normal s
  | .region _ ops draw, _, s, Q => regionA T env ops draw s (Q .normal)
  | .seq a b, L, s, Q => codeG lp T env a ((expo b).1 ++ L) s (thenA (fun s' => codeG lp T env b L s' Q) Q)
  | .cond c a b, L, s, Q => match evA s.slots c with
    | .bool b' => bif b' then codeG lp T env a L (condSt c true s) Q else codeG lp T env b L (condSt c false s) Q
    | _ => False
  | .block id c, L, s, Q => codeG lp T env c L s (blockA id Q)
  | .exit id, _, s, Q => Q (.exit id) s
  | .ret, _, s, Q => Q .ret s
  | .loop c, L, s, Q => lp ((expo c).1 ++ L) (codeG lp T env c ((expo c).1 ++ L)) s Q
  | _, _, _, _ => False
abbrev codeA : Tab → Env → Code → List Nat → St → (Ex → St → Prop) → Prop := codeG loopB
/-- What comes behind. -/
def seqQ (T : Tab) (env : Env) (c : Code) (L : List Nat) (Q : Ex → St → Prop) : Ex → St → Prop := thenA (fun s => codeA T env c L s Q) Q
/-- A part of a body. -/
def subC : List Nat → Code → Code
  | [], c => c
  | 0 :: p, .seq a _ => subC p a
  | _ :: p, .seq _ b => subC p b
  | 0 :: p, .cond _ a _ => subC p a
  | _ :: p, .cond _ _ b => subC p b
  | _ :: p, .block _ c => subC p c
  | _ :: p, .loop c => subC p c
  | _, c => c
def bodyOf (f : Func) : Code := f.body.getD .skip
def exOf : Ex → Exit
  | .normal => .normal
  | .exit i => .exit i
  | .ret => .ret
section
variable {P : Program} {T : Tab} {env : Env} {M S0 : Nat → Prop} {w0 : World}
/-- What holds of the model where our state is as told. -/
def Lifts (M S0 : Nat → Prop) (w0 : World) (Q : Ex → St → Prop) (Q' : Exit → Act → World → Prop) : Prop :=
  ∀ e s S β a w, Inv M S0 w0 s.slots s.H S β a w → Q e s → Q' (exOf e) a w
theorem cond_inv {c : Operand} {b : Bool} {s : St} {S : Nat → Prop} {β : Nat → Cr} {a : Act} {w : World} (h : Inv M S0 w0 s.slots s.H S β a w) (hc : evA s.slots c = .bool b) : Inv M S0 w0 (condSt c b s).slots (condSt c b s).H S β a w := by
  cases c with
  | tmp t =>
    simp only [evA] at hc
    refine ⟨h.rel, by simp only [condSt, List.length_set]; exact h.len, fun u => ?_, h.nod⟩
    simp only [condSt]
    have := putSlot_get s.slots (some t) (.bool b) u
    simp only [putSlot] at this
    rw [this]
    split
    · rename_i hu
      have e : t = u := by simpa using hu.1
      subst e
      have := h.sl t
      rw [hc] at this
      exact this
    · exact h.sl u
  | _ => exact h
theorem code_sound (he : EnvOk P env) (hT : TabOk P T) (hm : P.follows .mixedOrders = true) : ∀ (c : Code) (L : List Nat) (s : St) (Q : Ex → St → Prop) (Q' : Exit → Act → World → Prop) (S : Nat → Prop) (β : Nat → Cr) (a : Act) (w : World),
    Inv M S0 w0 s.slots s.H S β a w → codeA T env c L s Q → Lifts M S0 w0 Q Q' → c.wp P Q' a w
  | .skip, _, s, Q, Q', S, β, a, w, hi, h, hq => wp_skip (hq .normal s S β a w hi h)
  | .region _ ops draw, _, s, Q, Q', S, β, a, w, hi, h, hq => region_sound he hT hm hi h fun s' S' β' a' w' h1 h2 => hq .normal s' S' β' a' w' h1 h2
  | .seq x y, L, s, Q, Q', S, β, a, w, hi, h, hq => by
    refine wp_seq (code_sound he hT hm x _ s _ _ S β a w hi h ?_)
    intro e s' S' β' a' w' hi' hh
    cases e with
    | normal => exact code_sound he hT hm y L s' Q Q' S' β' a' w' hi' hh hq
    | exit i => exact hq (.exit i) s' S' β' a' w' hi' hh
    | ret => exact hq .ret s' S' β' a' w' hi' hh
  | .cond c x y, L, s, Q, Q', S, β, a, w, hi, h, hq => by
    simp only [codeA, codeG] at h
    split at h
    · rename_i b hb
      have hv := ev_of hi.sl c
      rw [hb] at hv
      have hv := VL.bool hv
      have hi' := cond_inv hi hb
      cases b with
      | true => exact wp_cond_true hv (code_sound he hT hm x L _ Q Q' S β a w hi' h hq)
      | false => exact wp_cond_false hv (code_sound he hT hm y L _ Q Q' S β a w hi' h hq)
    · cases h
  | .block id c, L, s, Q, Q', S, β, a, w, hi, h, hq => by
    refine wp_block (code_sound he hT hm c L s _ _ S β a w hi h ?_)
    intro e s' S' β' a' w' hi' hh
    cases e with
    | normal => exact hq .normal s' S' β' a' w' hi' hh
    | exit j =>
      simp only [blockA] at hh
      show Exit.inBlock id Q' (.exit j) a' w'
      simp only [Exit.inBlock]
      cases e : j == id with
      | true =>
        rw [e] at hh
        rw [if_pos (by simpa using e)]
        exact hq .normal s' S' β' a' w' hi' hh
      | false =>
        rw [e] at hh
        rw [if_neg (by simpa using e)]
        exact hq (.exit j) s' S' β' a' w' hi' hh
    | ret => exact hq .ret s' S' β' a' w' hi' hh
  | .exit id, _, s, Q, Q', S, β, a, w, hi, h, hq => wp_exit (hq (.exit id) s S β a w hi h)
  | .ret, _, s, Q, Q', S, β, a, w, hi, h, hq => wp_ret (hq .ret s S β a w hi h)
  | .loop c, L, s, Q, Q', S, β, a, w, hi, h, hq => by
    obtain ⟨I, n, h1, h2⟩ := h
    have hex : ∀ a w, (∃ n s S β, I n s ∧ Inv M S0 w0 s.slots s.H S β a w) → ∃ n, ∃ s S β, I n s ∧ Inv M S0 w0 s.slots s.H S β a w := fun a w h => h
    -- the measure: the least number that fits
    let J : Nat → Act → World → Prop := fun n a w => ∃ s S β, I n s ∧ Inv M S0 w0 s.slots s.H S β a w
    have hleast : ∀ a w, (∃ n, J n a w) → ∃ n, J n a w ∧ ∀ m, J m a w → n ≤ m := by
      intro a w ⟨n, hn⟩
      induction n using Nat.strongRecOn with
      | _ n ih =>
        by_cases hh : ∃ m, m < n ∧ J m a w
        · obtain ⟨m, hm, hj⟩ := hh; exact ih m hm hj
        · exact ⟨n, hn, fun m hj => Nat.not_lt.1 fun hlt => hh ⟨m, hlt, hj⟩⟩
    classical
    let μ : Act → World → Nat := fun a w => if h : ∃ n, J n a w then (hleast a w h).choose else 0
    have hμ : ∀ a w, (∃ n, J n a w) → J (μ a w) a w ∧ ∀ m, J m a w → μ a w ≤ m := by
      intro a w h
      simp only [μ, dif_pos h]
      exact (hleast a w h).choose_spec
    obtain ⟨β1, hi1⟩ := tidy_sound ((expo c).1 ++ L) hi
    refine wp_loop (fun a w => ∃ n, J n a w) μ ⟨n, _, S, β1, h1, hi1⟩ ?_
    intro a' w' hex'
    obtain ⟨⟨s', S', β', g1, g2⟩, g3⟩ := hμ a' w' hex'
    refine code_sound he hT hm c ((expo c).1 ++ L) s' _ _ S' β' a' w' g2 (h2 _ s' g1) ?_
    intro e s2 S2 β2 a2 w2 hi2 hh
    cases e with
    | normal =>
      obtain ⟨m, hlt, hI⟩ := hh
      obtain ⟨β3, hi3⟩ := tidy_sound ((expo c).1 ++ L) hi2
      have hJ : J m a2 w2 := ⟨_, S2, β3, hI, hi3⟩
      refine ⟨⟨m, hJ⟩, ?_⟩
      have := (hμ a2 w2 ⟨m, hJ⟩).2 m hJ
      omega
    | exit i => exact hq (.exit i) s2 S2 β2 a2 w2 hi2 hh
    | ret => exact hq .ret s2 S2 β2 a2 w2 hi2 hh
  | .rangeFunc _ _ _ _, _, _, _, _, _, _, _, _, _, h, _ => h.elim
  | .scope _, _, _, _, _, _, _, _, _, _, h, _ => h.elim
  | .label _, _, _, _, _, _, _, _, _, _, h, _ => h.elim
  | .goto _, _, _, _, _, _, _, _, _, _, h, _ => h.elim
  | .refuse _, _, _, _, _, _, _, _, _, _, h, _ => h.elim
end
end Go.Proofs.Ytjhhkfjabaojhaa.Aw
