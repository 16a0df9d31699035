/- An abstract program logic over the model, fourth part: states and memory, and the four ways in which an operation moves memory on. -/
import Derived.Test.YtkpjcmiijlpcaaaAwC
namespace Go.Proofs.Ytkpjcmiijlpcaaa.Aw
open Go

theorem ask_drawn {α : Type} : ∀ (x : Ask α) (w : World), w.drawn ≤ (w.ask x).2.drawn
  | .done _, _ => Nat.le_refl _
  | .ask what range k, w => by
    unfold World.ask
    simp only
    split
    · exact ask_drawn (k 0) w
    · exact Nat.le_trans (Nat.le_succ _) (ask_drawn (k _) { w with drawn := w.drawn + 1 })
theorem sys_drawn (w : World) (c : Sys) : w.drawn ≤ (w.sys c).2.drawn := by
  have h := ask_drawn (Kernel.perform c w.os) w
  unfold World.sys
  split
  · exact Nat.le_refl _
  · rename_i r os w2 hq
    rw [hq] at h
    exact h
theorem far_drawn {p : Program} {w w1 : World} {a : Addr} {v : Value} {m : Bool} {l : List Addr} (h : w.farStore p a v m = .ok (w1, l)) : w.drawn ≤ w1.drawn := by
  unfold World.farStore at h
  split at h
  · split at h
    · rename_i r hr
      cases h
      unfold World.viewStore at hr
      simp only [bind, Except.bind, pure, Except.pure, throw, throwThe, MonadExceptOf.throw] at hr
      repeat' split at hr
      all_goals first | (cases hr; exact Nat.le_refl _) | (cases hr; done)
    · cases h
  · cases h
theorem run_drawn {α : Type} (P : Program) : ∀ (s : Sem α) (w : World) (v : α) (w' : World), s.run P w = .ok v w' → w.drawn ≤ w'.drawn := by
  intro s
  induction s with
  | pure a => intro w v w' h; cases h; exact Nat.le_refl _
  | load m a k ih =>
    intro w v w' h
    simp only [Sem.run] at h
    split at h
    · exact ih _ w v w' h
    · split at h
      · exact ih _ w v w' h
      · cases h
  | store m a x k ih =>
    intro w v w' h
    have fin : ∀ y, (match w.cell? a with
        | some _ => if w.frozen? a then Result.halt (.unsupported (.unsafePointer "a write to bytes that a string shares")) w else k.run P (w.setCell a y)
        | none => match w.farStore P a y (m == Mode.atomic) with
          | .ok (w, _) => k.run P w
          | .error h => .halt h w) = .ok v w' → w.drawn ≤ w'.drawn := by
      intro y h
      split at h
      · split at h
        · cases h
        · exact ih (w.setCell a y) v w' h
      · split at h
        · rename_i w1 l hf
          exact Nat.le_trans (far_drawn hf) (ih w1 v w' h)
        · cases h
    cases x <;> first | exact fin _ h | cases h
  | new o k ih => intro w v w' h; exact ih _ { w with heap := w.heap.push o } v w' h
  | shape r k ih => intro w v w' h; exact ih _ w v w' h
  | freeze a n k ih =>
    intro w v w' h
    have := ih (w.freeze a n) v w' h
    have e : (w.freeze a n).drawn = w.drawn := by unfold World.freeze; split <;> rfl
    rwa [e] at this
  | frozen a k ih => intro w v w' h; exact ih _ w v w' h
  | getObj r k ih =>
    intro w v w' h
    simp only [Sem.run] at h
    split at h
    · cases h
    · exact ih _ w v w' h
    · cases h
  | setObj r o k ih =>
    intro w v w' h
    simp only [Sem.run] at h
    split at h
    · cases h
    · exact ih { w with heap := w.heap.setIfInBounds r o } v w' h
    · cases h
  | choose q k ih =>
    intro w v w' h
    simp only [Sem.run] at h
    split at h
    · exact ih _ w v w' h
    · exact Nat.le_trans (Nat.le_succ _) (ih _ { w with drawn := w.drawn + 1 } v w' h)
  | sys c k ih => intro w v w' h; exact Nat.le_trans (sys_drawn w c) (ih _ (w.sys c).2 v w' h)
  | program k ih => intro w v w' h; exact ih _ w v w' h
  | mark m k ih => intro w v w' h; exact ih w v w' h
  | halt x => intro w v w' h; cases h
structure Fr (M : Nat → Prop) (w0 w : World) : Prop where
  os : w.os = w0.os
  tape : w.tape = w0.tape
  output : w.output = w0.output
  size : w0.heap.size ≤ w.heap.size
  block : ∀ b, b < w0.heap.size → ¬ M b → w.heap[b]? = w0.heap[b]?
  drawn : w0.drawn ≤ w.drawn
theorem Fr.refl (M : Nat → Prop) (w : World) : Fr M w w := ⟨rfl, rfl, rfl, Nat.le_refl _, fun _ _ _ => rfl, Nat.le_refl _⟩
/-- M: blocks of the first world that may be written; S0: blocks that were read-only then. -/
structure Rel (M S0 : Nat → Prop) (w0 : World) (S : Nat → Prop) (β : Nat → Cr) (H : Nat → Ob) (w : World) : Prop where
  fr : Fr M w0 w
  s0 : ∀ b, S0 b → S b
  sS : ∀ b, S b → b < w.heap.size ∧ (S0 b ∨ w0.heap.size ≤ b)
  own : ∀ k g, (H k).live = true → (β k).has g → (M g ∨ w0.heap.size ≤ g) ∧ g < w.heap.size ∧ ¬ S g
  dis : ∀ k k' g, (H k).live = true → (H k').live = true → (β k).has g → (β k').has g → k = k'
  ob : ∀ k, ObR S w β H (β k) (H k)
def updH (H : Nat → Ob) (u : List (Nat × Ob)) : Nat → Ob := fun k => (u.lookup k).getD (H k)
theorem updH_nil (H : Nat → Ob) : updH H [] = H := rfl
theorem updH_one (H : Nat → Ob) (k : Nat) (o : Ob) : updH H [(k, o)] k = o := by simp [updH, List.lookup]
theorem updH_other (H : Nat → Ob) (k j : Nat) (o : Ob) (h : j ≠ k) : updH H [(k, o)] j = H j := by
  have : (j == k) = false := by simpa using h
  simp [updH, List.lookup, this]
def setC (β : Nat → Cr) (k : Nat) (c : Cr) : Nat → Cr := fun j => if j = k then c else β j
theorem setC_one (β : Nat → Cr) (k : Nat) (c : Cr) : setC β k c k = c := by simp [setC]
theorem setC_other (β : Nat → Cr) (k j : Nat) (c : Cr) (h : j ≠ k) : setC β k c j = β j := by simp [setC, h]
theorem Cat.dr_mono {S S' : Nat → Prop} {w w' : World} (h : ∀ b, S b → S' b ∧ w'.heap[b]? = w.heap[b]?) {t : Ty} {xs : List t.den} {cs : List Value} (hc : Cat (DR S w t) xs cs) : Cat (DR S' w' t) xs cs :=
  Cat.mono (DR.mono h t) _ _ hc
theorem ObR.idle {S : Nat → Prop} {w : World} {β : Nat → Cr} {H : Nat → Ob} {c : Cr} {o : Ob} (h : o.live = false) : ObR S w β H c o := by
  cases o <;> first | trivial | cases h
theorem has_one {a cap b : Nat} : (Cr.mk (some a) cap []).has b ↔ b = a := by
  unfold Cr.has
  simp [eq_comm]
theorem has_nil {cap b : Nat} : ¬ (Cr.mk none cap []).has b := by
  unfold Cr.has
  simp
theorem ObR.ext {S S' : Nat → Prop} {w w' : World} {β β' : Nat → Cr} {H H' : Nat → Ob} (h : Ext S w β H S' w' β' H') (c : Cr) (o : Ob) (hb : ∀ g, c.has g → w'.heap[g]? = w.heap[g]?) (ho : ObR S w β H c o) : ObR S' w' β' H' c o := by
  cases o with
  | none => trivial
  | dead => trivial
  | cells e cs =>
    obtain ⟨g, vs, e1, e2, e3⟩ := ho
    exact ⟨g, vs, e1, (hb g (.inl e1)).trans e2, VLs.ext h _ _ e3⟩
  | row e t xs =>
    rcases ho with ⟨e1, e2⟩ | ⟨g, cur, e1, e2, e3, e4, e5, e6⟩
    · exact .inl ⟨e1, e2⟩
    · exact .inr ⟨g, cur, e1, (hb g (.inl e1)).trans e2, e3, e4, e5, Cat.dr_mono h.hS e6⟩
  | prow e xs =>
    rcases ho with ⟨e1, e2⟩ | ⟨g, cur, e1, e2, e3, e4, e5, e6⟩
    · exact .inl ⟨e1, e2⟩
    · exact .inr ⟨g, cur, e1, (hb g (.inl e1)).trans e2, e3, e4, e5, VLs.ext h _ _ e6⟩
  | map ag t es =>
    obtain ⟨g, l, e1, e2, e3, e4⟩ := ho
    exact ⟨g, l, e1, (hb g (.inl e1)).trans e2, e3, fun i p hp => by obtain ⟨cs, q1, q2⟩ := e4 i p hp; exact ⟨cs, DR.mono h.hS _ _ _ q1, q2⟩⟩
  | mit m n seen cur =>
    obtain ⟨g, gm, st, e1, e2, e3, e4⟩ := ho
    refine ⟨g, gm, st, e1, (hb g (.inl e1)).trans e2, e3, ?_⟩
    have hm := h.hO m
    cases hq : H m with
    | map ag t es =>
      rw [hq] at e4 hm
      rcases hm with e5 | ⟨e5, es', e6⟩
      · rw [e5]; trivial
      · rw [e6]; exact e5.trans e4
    | dead => rw [hq] at hm; rw [show H' m = .dead from hm]; trivial
    | _ => rw [hq] at e4; exact e4.elim
  | orow e t xs =>
    rcases ho with ⟨e1, e2, e3⟩ | ⟨g, cur, e1, e2, e3, e4, e5, e6, e7⟩
    · exact .inl ⟨e1, e2, e3⟩
    · exact .inr ⟨g, cur, e1, (hb g (.inl e1)).trans e2, e3, e4, e5, CatO.mono h.hS _ _ _ (fun b hm => hb b (.inr hm)) e6, e7⟩
  | hrow e t xs i off =>
    obtain ⟨g, cur, e1, e2, e3, e4, e5, e6, e7, e8, e9, e10⟩ := ho
    exact ⟨g, cur, e1, (hb g (.inl e1)).trans e2, e3, e4, e5, e6, e7, e8, CatO.mono h.hS _ _ _ (fun b hm => hb b (.inr hm)) e9, e10⟩
theorem heap_lt {w : World} {g : Nat} {o : Obj} (h : w.heap[g]? = some o) : g < w.heap.size := (Array.getElem?_eq_some_iff.1 h).1
theorem heap_alloc_at (w : World) (o : Obj) : (w.alloc o).heap[w.heap.size]? = some o := by
  show (w.heap.push o)[w.heap.size]? = _
  simp
theorem heap_alloc_lt (w : World) (o : Obj) (b : Nat) (h : b < w.heap.size) : (w.alloc o).heap[b]? = w.heap[b]? := by
  show (w.heap.push o)[b]? = _
  rw [Array.getElem?_push, if_neg (by omega)]
theorem size_alloc (w : World) (o : Obj) : (w.alloc o).heap.size = w.heap.size + 1 := by
  show (w.heap.push o).size = _
  simp
section
variable {M S0 : Nat → Prop} {w0 : World} {S : Nat → Prop} {β : Nat → Cr} {H : Nat → Ob} {w : World}
/-- Memory moves on, nothing of ours is written: blocks that are there stay (a call that makes memory; a draw). -/
theorem Rel.grow (h : Rel M S0 w0 S β H w) {w' : World} (ho : w'.os = w.os) (ht : w'.tape = w.tape) (hu : w'.output = w.output) (hz : w.heap.size ≤ w'.heap.size) (hb : ∀ b, b < w.heap.size → w'.heap[b]? = w.heap[b]?) (hd : w.drawn ≤ w'.drawn := by first | exact Nat.le_refl _ | exact Nat.le_succ _ | assumption) :
    Rel M S0 w0 S β H w' ∧ Ext S w β H S w' β H := by
  have hx : Ext S w β H S w' β H := ⟨fun b hs => ⟨hs, hb b (h.sS b hs).1⟩, fun k => ObExt.refl _ _⟩
  refine ⟨⟨⟨ho.trans h.fr.os, ht.trans h.fr.tape, hu.trans h.fr.output, Nat.le_trans h.fr.size hz, fun b hlt hm => (hb b (Nat.lt_of_lt_of_le hlt h.fr.size)).trans (h.fr.block b hlt hm), Nat.le_trans h.fr.drawn hd⟩, h.s0, fun b hs => ⟨Nat.lt_of_lt_of_le (h.sS b hs).1 hz, (h.sS b hs).2⟩, fun k g hl hg => ⟨(h.own k g hl hg).1, Nat.lt_of_lt_of_le (h.own k g hl hg).2.1 hz, (h.own k g hl hg).2.2⟩, h.dis, fun k => ?_⟩, hx⟩
  by_cases hl : (H k).live = true
  · exact ObR.ext hx _ _ (fun g hg => hb g (h.own k g hl hg).2.1) (h.ob k)
  · exact ObR.idle (by simpa using hl)
/-- A new object in a new block. -/
theorem Rel.new (h : Rel M S0 w0 S β H w) (nid : Nat) (hn : H nid = .none) (cs : Array Value) (e : TypeId) (cap : Nat) (o : Ob)
    (hob : ∀ β' H' w', Ext S w β H S w' β' H' → w'.heap[w.heap.size]? = some (.cells cs e (0, 0)) → ObR S w' β' H' ⟨some w.heap.size, cap, []⟩ o) :
    Rel M S0 w0 S (setC β nid ⟨some w.heap.size, cap, []⟩) (updH H [(nid, o)]) (w.alloc (.cells cs e)) ∧ Ext S w β H S (w.alloc (.cells cs e)) (setC β nid ⟨some w.heap.size, cap, []⟩) (updH H [(nid, o)]) := by
  have hx : Ext S w β H S (w.alloc (.cells cs e)) (setC β nid ⟨some w.heap.size, cap, []⟩) (updH H [(nid, o)]) := by
    refine ⟨fun b hs => ⟨hs, heap_alloc_lt w _ b (h.sS b hs).1⟩, fun k => ?_⟩
    by_cases hk : k = nid
    · subst hk; rw [hn]; trivial
    · rw [setC_other _ _ _ _ hk, updH_other _ _ _ _ hk]; exact ObExt.refl _ _
  have hsz := size_alloc w (.cells cs e)
  refine ⟨⟨⟨h.fr.os, h.fr.tape, h.fr.output, by have := h.fr.size; omega, fun b hlt hm => (heap_alloc_lt w _ b (Nat.lt_of_lt_of_le hlt h.fr.size)).trans (h.fr.block b hlt hm), h.fr.drawn⟩, h.s0, fun b hs => ⟨by have := (h.sS b hs).1; omega, (h.sS b hs).2⟩, ?_, ?_, ?_⟩, hx⟩
  · intro k g hl hg
    by_cases hk : k = nid
    · subst hk
      rw [setC_one, has_one] at hg
      subst hg
      exact ⟨.inr h.fr.size, by omega, fun hs => by have := (h.sS _ hs).1; omega⟩
    · rw [setC_other _ _ _ _ hk] at hg
      rw [updH_other _ _ _ _ hk] at hl
      have := h.own k g hl hg
      exact ⟨this.1, by omega, this.2.2⟩
  · intro k k' g hl hl' hg hg'
    by_cases hk : k = nid
    · by_cases hk' : k' = nid
      · rw [hk, hk']
      · subst hk
        rw [setC_one, has_one] at hg
        subst hg
        rw [setC_other _ _ _ _ hk'] at hg'
        rw [updH_other _ _ _ _ hk'] at hl'
        have := (h.own k' _ hl' hg').2.1
        omega
    · by_cases hk' : k' = nid
      · subst hk'
        rw [setC_one, has_one] at hg'
        subst hg'
        rw [setC_other _ _ _ _ hk] at hg
        rw [updH_other _ _ _ _ hk] at hl
        have := (h.own k _ hl hg).2.1
        omega
      · rw [setC_other _ _ _ _ hk] at hg
        rw [updH_other _ _ _ _ hk] at hl
        rw [setC_other _ _ _ _ hk'] at hg'
        rw [updH_other _ _ _ _ hk'] at hl'
        exact h.dis k k' g hl hl' hg hg'
  · intro k
    by_cases hk : k = nid
    · subst hk
      rw [setC_one, updH_one]
      exact hob _ _ _ hx (heap_alloc_at w _)
    · rw [setC_other _ _ _ _ hk, updH_other _ _ _ _ hk]
      by_cases hl : (H k).live = true
      · exact ObR.ext hx _ _ (fun g hg => heap_alloc_lt w _ g (h.own k g hl hg).2.1) (h.ob k)
      · exact ObR.idle (by simpa using hl)
/-- An object is written in its own block. -/
theorem Rel.write (h : Rel M S0 w0 S β H w) (k g : Nat) (hl : (H k).live = true) (hg : (β k).g = some g) (o : Ob) (hoe : ObExt (β k) (H k) (β k) o) {w' : World}
    (e1 : w'.os = w.os) (e2 : w'.tape = w.tape) (e3 : w'.output = w.output) (hz : w'.heap.size = w.heap.size) (hb : ∀ b, b ≠ g → w'.heap[b]? = w.heap[b]?)
    (hob : Ext S w β H S w' β (updH H [(k, o)]) → ObR S w' β (updH H [(k, o)]) (β k) o)
    (hd : w.drawn ≤ w'.drawn := by first | exact Nat.le_refl _ | exact Nat.le_succ _ | assumption) :
    Rel M S0 w0 S β (updH H [(k, o)]) w' ∧ Ext S w β H S w' β (updH H [(k, o)]) := by
  have hng : ¬ S g := (h.own k g hl (.inl hg)).2.2
  have hx : Ext S w β H S w' β (updH H [(k, o)]) := by
    refine ⟨fun b hs => ⟨hs, hb b (fun e => hng (e ▸ hs))⟩, fun j => ?_⟩
    by_cases hj : j = k
    · subst hj; rw [updH_one]; exact hoe
    · rw [updH_other _ _ _ _ hj]; exact ObExt.refl _ _
  have hlive : ∀ j, (updH H [(k, o)] j).live = true → (H j).live = true := by
    intro j hj
    by_cases he : j = k
    · rw [he]; exact hl
    · rw [updH_other _ _ _ _ he] at hj; exact hj
  refine ⟨⟨⟨e1.trans h.fr.os, e2.trans h.fr.tape, e3.trans h.fr.output, by rw [hz]; exact h.fr.size, fun b hlt hm => ?_, Nat.le_trans h.fr.drawn hd⟩, h.s0, fun b hs => by rw [hz]; exact h.sS b hs, fun j g' hj hg' => by rw [hz]; exact h.own j g' (hlive j hj) hg', fun j j' g' hj hj' => h.dis j j' g' (hlive j hj) (hlive j' hj'), fun j => ?_⟩, hx⟩
  · have hne : b ≠ g := by
      intro e
      subst e
      rcases (h.own k b hl (.inl hg)).1 with hm' | hm'
      · exact hm hm'
      · omega
    exact (hb b hne).trans (h.fr.block b hlt hm)
  · by_cases hj : j = k
    · subst hj; rw [updH_one]; exact hob hx
    · rw [updH_other _ _ _ _ hj]
      by_cases hl' : (H j).live = true
      · refine ObR.ext hx _ _ (fun g' hg' => hb g' (fun e => ?_)) (h.ob j)
        subst e
        exact hj (h.dis j k g' hl' hl hg' (.inl hg))
      · exact ObR.idle (by simpa using hl')
/-- An object goes, and another takes its place: in its block, or in a new one (append). -/
theorem Rel.move (h : Rel M S0 w0 S β H w) (k nid : Nat) (hk : (H k).live = true) (hn : H nid = .none) (c : Cr) (o : Ob) (hcm : c.more = []) {w' : World}
    (hgr : w.grownBy w' (β k).g) (hc : ∀ g, c.g = some g → (some g = (β k).g ∨ w.heap.size ≤ g) ∧ g < w'.heap.size)
    (hob : ∀ β' H', Ext S w β H S w' β' H' → ObR S w' β' H' c o)
    (hd : w.drawn ≤ w'.drawn := by first | exact Nat.le_refl _ | exact Nat.le_succ _ | assumption) :
    Rel M S0 w0 S (setC β nid c) (updH H [(k, .dead), (nid, o)]) w' ∧ Ext S w β H S w' (setC β nid c) (updH H [(k, .dead), (nid, o)]) := by
  have hkn : k ≠ nid := by intro e; rw [e, hn] at hk; cases hk
  have u1 : updH H [(k, .dead), (nid, o)] k = .dead := by simp [updH, List.lookup]
  have u2 : updH H [(k, .dead), (nid, o)] nid = o := by
    have : (nid == k) = false := by simpa using fun e : nid = k => hkn e.symm
    simp [updH, List.lookup, this]
  have u3 : ∀ j, j ≠ k → j ≠ nid → updH H [(k, .dead), (nid, o)] j = H j := by
    intro j h1 h2
    have e1 : (j == k) = false := by simpa using h1
    have e2 : (j == nid) = false := by simpa using h2
    simp [updH, List.lookup, e1, e2]
  have hx : Ext S w β H S w' (setC β nid c) (updH H [(k, .dead), (nid, o)]) := by
    refine ⟨fun b hs => ⟨hs, hgr.block b (h.sS b hs).1 (fun e => (h.own k b hk (.inl e.symm)).2.2 hs)⟩, fun j => ?_⟩
    by_cases h1 : j = k
    · subst h1
      rw [u1]
      cases ho : H j with
      | none => trivial
      | dead => rfl
      | cells e cs => exact .inl rfl
      | row e t xs => exact .inl rfl
      | prow e xs => exact .inl rfl
      | map ag t es => exact .inl rfl
      | mit m n seen cur => exact .inl rfl
      | orow e t xs => exact .inl rfl
      | hrow e t xs i off => exact .inl rfl
    · by_cases h2 : j = nid
      · subst h2; rw [hn]; trivial
      · rw [u3 j h1 h2, setC_other _ _ _ _ h2]; exact ObExt.refl _ _
  have old : ∀ j, (updH H [(k, .dead), (nid, o)] j).live = true → j ≠ nid → j ≠ k ∧ (H j).live = true ∧ setC β nid c j = β j := by
    intro j hl hj
    have hjk : j ≠ k := by intro e; rw [e, u1] at hl; cases hl
    rw [u3 j hjk hj] at hl
    exact ⟨hjk, hl, setC_other _ _ _ _ hj⟩
  have hcg : ∀ g, c.has g → c.g = some g := by
    intro g hg
    rcases hg with hg | hg
    · exact hg
    · rw [hcm] at hg; cases hg
  have far : ∀ j g, j ≠ k → (H j).live = true → (β j).has g → ¬ c.has g := by
    intro j g hjk hl hg e
    rcases (hc g (hcg g e)).1 with h1 | h1
    · exact hjk (h.dis j k g hl hk hg (.inl h1.symm))
    · have := (h.own j g hl hg).2.1; omega
  refine ⟨⟨⟨hgr.os.trans h.fr.os, hgr.tape.trans h.fr.tape, hgr.output.trans h.fr.output, Nat.le_trans h.fr.size hgr.size, fun b hlt hm => ?_, Nat.le_trans h.fr.drawn hd⟩, h.s0, fun b hs => ⟨Nat.lt_of_lt_of_le (h.sS b hs).1 hgr.size, (h.sS b hs).2⟩, ?_, ?_, ?_⟩, hx⟩
  · have hne : some b ≠ (β k).g := by
      intro e
      rcases (h.own k b hk (.inl e.symm)).1 with hm' | hm'
      · exact hm hm'
      · omega
    exact (hgr.block b (Nat.lt_of_lt_of_le hlt h.fr.size) hne).trans (h.fr.block b hlt hm)
  · intro j g hl hg
    by_cases hj : j = nid
    · subst hj
      rw [setC_one] at hg
      obtain ⟨h1, h2⟩ := hc g (hcg g hg)
      rcases h1 with h1 | h1
      · have := h.own k g hk (.inl h1.symm)
        exact ⟨this.1, h2, this.2.2⟩
      · exact ⟨.inr (Nat.le_trans h.fr.size h1), h2, fun hs => by have := (h.sS g hs).1; omega⟩
    · obtain ⟨hjk, hl', e⟩ := old j hl hj
      rw [e] at hg
      have := h.own j g hl' hg
      exact ⟨this.1, Nat.lt_of_lt_of_le this.2.1 hgr.size, this.2.2⟩
  · intro j j' g hl hl' hg hg'
    by_cases hj : j = nid
    · by_cases hj' : j' = nid
      · rw [hj, hj']
      · obtain ⟨hjk, hl2, e⟩ := old j' hl' hj'
        rw [e] at hg'
        rw [hj, setC_one] at hg
        exact absurd hg (far j' g hjk hl2 hg')
    · obtain ⟨hjk, hl1, e⟩ := old j hl hj
      rw [e] at hg
      by_cases hj' : j' = nid
      · rw [hj', setC_one] at hg'
        exact absurd hg' (far j g hjk hl1 hg)
      · obtain ⟨hjk', hl2, e'⟩ := old j' hl' hj'
        rw [e'] at hg'
        exact h.dis j j' g hl1 hl2 hg hg'
  · intro j
    by_cases hj : j = nid
    · subst hj; rw [setC_one, u2]; exact hob _ _ hx
    · by_cases hjk : j = k
      · subst hjk; rw [u1]; trivial
      · rw [u3 j hjk hj, setC_other _ _ _ _ hj]
        by_cases hl' : (H j).live = true
        · exact ObR.ext hx _ _ (fun g hg => hgr.block g (h.own j g hl' hg).2.1 (fun e => hjk (h.dis j k g hl' hk hg (.inl e.symm)))) (h.ob j)
        · exact ObR.idle (by simpa using hl')
/-- A step of any make: W, the blocks that are written. -/
theorem Rel.step (h : Rel M S0 w0 S β H w) {β' : Nat → Cr} {H' : Nat → Ob} {w' : World} (W : Nat → Prop)
    (e1 : w'.os = w.os) (e2 : w'.tape = w.tape) (e3 : w'.output = w.output) (hz : w.heap.size ≤ w'.heap.size)
    (hW : ∀ b, W b → ∃ k, (H k).live = true ∧ (β k).has b) (hb : ∀ b, b < w.heap.size → ¬ W b → w'.heap[b]? = w.heap[b]?)
    (hO : ∀ k, ObExt (β k) (H k) (β' k) (H' k))
    (hown : ∀ k b, (H' k).live = true → (β' k).has b → (∃ j, (H j).live = true ∧ (β j).has b) ∨ (w.heap.size ≤ b ∧ b < w'.heap.size))
    (hdis : ∀ k k' b, (H' k).live = true → (H' k').live = true → (β' k).has b → (β' k').has b → k = k')
    (hob : Ext S w β H S w' β' H' → ∀ k, (H' k).live = true → (H' k = H k ∧ β' k = β k ∧ ∀ b, (β k).has b → ¬ W b) ∨ ObR S w' β' H' (β' k) (H' k))
    (hd : w.drawn ≤ w'.drawn := by first | exact Nat.le_refl _ | exact Nat.le_succ _ | assumption) :
    Rel M S0 w0 S β' H' w' ∧ Ext S w β H S w' β' H' := by
  have hx : Ext S w β H S w' β' H' := ⟨fun b hs => ⟨hs, hb b (h.sS b hs).1 fun hw => by obtain ⟨k, hl, hg⟩ := hW b hw; exact (h.own k b hl hg).2.2 hs⟩, hO⟩
  refine ⟨⟨⟨e1.trans h.fr.os, e2.trans h.fr.tape, e3.trans h.fr.output, Nat.le_trans h.fr.size hz, fun b hlt hm => ?_, Nat.le_trans h.fr.drawn hd⟩, h.s0, fun b hs => ⟨Nat.lt_of_lt_of_le (h.sS b hs).1 hz, (h.sS b hs).2⟩, fun k b hl hg => ?_, hdis, fun k => ?_⟩, hx⟩
  · refine (hb b (Nat.lt_of_lt_of_le hlt h.fr.size) fun hw => ?_).trans (h.fr.block b hlt hm)
    obtain ⟨k, hl, hg⟩ := hW b hw
    rcases (h.own k b hl hg).1 with hm' | hm'
    · exact hm hm'
    · omega
  · rcases hown k b hl hg with ⟨j, hl', hg'⟩ | ⟨q1, q2⟩
    · have := h.own j b hl' hg'
      exact ⟨this.1, Nat.lt_of_lt_of_le this.2.1 hz, this.2.2⟩
    · exact ⟨.inr (Nat.le_trans h.fr.size q1), q2, fun hs => by have := (h.sS b hs).1; omega⟩
  · by_cases hl : (H' k).live = true
    · rcases hob hx k hl with ⟨q1, q2, q3⟩ | q
      · rw [q1, q2]
        rw [q1] at hl
        exact ObR.ext hx _ _ (fun b hg => hb b (h.own k b hl hg).2.1 (q3 b hg)) (h.ob k)
      · exact q
    · exact ObR.idle (by simpa using hl)
end
end Go.Proofs.Ytkpjcmiijlpcaaa.Aw
