/- Plain lemmas on maps as lists of keys and values, and on what is gone through in an unknown order. -/
import Derived.Test.YtkpjcmiijlpcaaaAwZ
import Derived.Test.YtkpjcmiijlpcaaaAwAC
namespace Go.Proofs.Ytkpjcmiijlpcaaa.Aw

section
variable {α : Type}
theorem mIdx_lt {k : Int} : ∀ {m : List (Int × α)}, mIdx k m < m.length ↔ k ∈ m.map (·.1)
  | [] => by simp [mIdx]
  | p :: l => by
    have ih := mIdx_lt (k := k) (m := l)
    simp only [mIdx, List.length_cons, List.map_cons, List.mem_cons]
    cases hk : (k == p.1)
    · have hne : k ≠ p.1 := by simpa using hk
      simp only [cond_false, Nat.add_lt_add_iff_right, ih]
      exact ⟨.inr, fun h => h.resolve_left hne⟩
    · have he : k = p.1 := by simpa using hk
      simp [he]
theorem mPut_keys (k : Int) (x : α) (m : List (Int × α)) : (mPut k x m).map (·.1) = if k ∈ m.map (·.1) then m.map (·.1) else m.map (·.1) ++ [k] := by
  by_cases h : mIdx k m < m.length
  · rw [mPut_yes h, if_pos (mIdx_lt.1 h)]
    apply List.ext_getElem?
    intro i
    rw [List.getElem?_map, List.getElem?_map]
    by_cases hi : i = mIdx k m
    · subst hi
      rw [List.getElem?_set_self h, List.getElem?_eq_getElem h]
      have := mIdx_key (key := k) m _ (List.getElem?_eq_getElem h)
      simp [this]
    · rw [List.getElem?_set_ne (Ne.symm hi)]
  · rw [mPut_no h, if_neg (fun hc => h (mIdx_lt.2 hc)), List.map_append]
    rfl
theorem mPut_nodup {k : Int} {x : α} {m : List (Int × α)} (h : (m.map (·.1)).Nodup) : ((mPut k x m).map (·.1)).Nodup := by
  rw [mPut_keys]
  split
  · exact h
  · rename_i hk
    rw [List.nodup_append]
    refine ⟨h, by simp, ?_⟩
    intro a ha b hb
    simp only [List.mem_singleton] at hb
    subst hb
    intro e
    subst e
    exact hk ha
theorem mPut_mem {k k' : Int} {x : α} {m : List (Int × α)} : k' ∈ (mPut k x m).map (·.1) ↔ k' = k ∨ k' ∈ m.map (·.1) := by
  rw [mPut_keys]
  split
  · rename_i h
    exact ⟨.inr, fun hh => hh.elim (fun e => e ▸ h) id⟩
  · simp [or_comm]
theorem mIdx_put {k k' : Int} {x : α} : ∀ {m : List (Int × α)}, mIdx k' m < m.length → mIdx k' (mPut k x m) = mIdx k' m := by
  intro m h
  have key : ∀ (l l' : List (Int × α)), l.map (·.1) = l'.map (·.1) → mIdx k' l = mIdx k' l' := by
    intro l
    induction l with
    | nil => intro l' h; cases l' with | nil => rfl | cons p l' => simp at h
    | cons p l ih =>
      intro l' h
      cases l' with
      | nil => simp at h
      | cons q l' =>
        simp only [List.map_cons, List.cons.injEq] at h
        simp only [mIdx, h.1, ih l' h.2]
  have app : ∀ (l l' : List (Int × α)), mIdx k' l < l.length → mIdx k' (l ++ l') = mIdx k' l := by
    intro l l'
    induction l with
    | nil => intro h; simp at h
    | cons p l ih =>
      intro h
      simp only [List.cons_append, mIdx] at h ⊢
      cases hk : (k' == p.1)
      · rw [hk] at h
        simp only [cond_false, List.length_cons, Nat.add_lt_add_iff_right] at h ⊢
        rw [ih h]
      · rfl
  by_cases hk : mIdx k m < m.length
  · refine key _ _ ?_
    rw [mPut_keys, if_pos (mIdx_lt.1 hk)]
  · rw [mPut_no hk]
    exact app _ _ h
theorem mGet_none {k : Int} {z : α} {m : List (Int × α)} (h : ¬ k ∈ m.map (·.1)) : mGet k z m = z := by
  unfold mGet
  rw [List.getElem?_eq_none (Nat.le_of_not_lt fun hc => h (mIdx_lt.1 hc))]
  rfl
theorem mGet_put (k k' : Int) (x z : α) (m : List (Int × α)) : mGet k' z (mPut k x m) = if k' = k then x else mGet k' z m := by
  have app : ∀ (l : List (Int × α)) (p : Int × α), ¬ mIdx k' l < l.length → mGet k' z (l ++ [p]) = if k' = p.1 then p.2 else z := by
    intro l p
    induction l with
    | nil =>
      intro _
      simp only [List.nil_append, mGet, mIdx]
      cases hk : (k' == p.1)
      · rw [if_neg (by simpa using hk)]; rfl
      · rw [if_pos (by simpa using hk)]; rfl
    | cons q l ih =>
      intro h
      simp only [mIdx, List.length_cons] at h
      cases hk : (k' == q.1)
      · rw [hk] at h
        simp only [cond_false, Nat.add_lt_add_iff_right] at h
        have := ih h
        simp only [mGet, List.cons_append, mIdx, hk, cond_false, List.getElem?_cons_succ] at this ⊢
        exact this
      · rw [hk] at h
        simp at h
  by_cases hk : mIdx k m < m.length
  · by_cases he : k' = k
    · subst he
      rw [if_pos rfl]
      unfold mGet
      rw [mIdx_put hk, mPut_yes hk, List.getElem?_set_self hk]
      rfl
    · rw [if_neg he]
      by_cases hk' : mIdx k' m < m.length
      · unfold mGet
        rw [mIdx_put hk', mPut_yes hk, List.getElem?_set_ne]
        intro e
        have h1 := mIdx_key (key := k) m _ (List.getElem?_eq_getElem hk)
        have h2 := mIdx_key (key := k') m _ (List.getElem?_eq_getElem hk')
        have : m[mIdx k m] = m[mIdx k' m] := by simp only [e]
        rw [← h1, ← h2, this] at he
        exact he rfl
      · rw [mGet_none (m := m) fun hc => hk' (mIdx_lt.2 hc), mGet_none]
        rw [mPut_mem]
        exact fun hc => hc.elim he fun h => hk' (mIdx_lt.2 h)
  · rw [mPut_no hk]
    by_cases hk' : mIdx k' m < m.length
    · have he : k' ≠ k := fun e => hk (e ▸ hk')
      rw [if_neg he]
      have := mIdx_put (k := k) (x := x) hk'
      rw [mPut_no hk] at this
      unfold mGet
      rw [this, List.getElem?_append_left hk']
    · rw [app m (k, x) hk', mGet_none (m := m) fun hc => hk' (mIdx_lt.2 hc)]
/-- An entry is found under its key. -/
theorem mGet_at {m : List (Int × α)} (h : (m.map (·.1)).Nodup) (z : α) {j : Nat} {p : Int × α} (hp : m[j]? = some p) : mGet p.1 z m = p.2 := by
  have hj := (List.getElem?_eq_some_iff.1 hp).1
  have hmem : p.1 ∈ m.map (·.1) := List.mem_map.2 ⟨p, List.mem_of_getElem? hp, rfl⟩
  have hlt := mIdx_lt.2 hmem
  have h1 := mIdx_key (key := p.1) m _ (List.getElem?_eq_getElem hlt)
  have hidx : mIdx p.1 m = j := by
    have e : (m.map (·.1))[mIdx p.1 m]? = (m.map (·.1))[j]? := by
      rw [List.getElem?_map, List.getElem?_map, hp, List.getElem?_eq_getElem hlt, Option.map_some, Option.map_some, h1]
    exact (List.getElem?_inj (by rw [List.length_map]; exact hlt) h).1 e
  unfold mGet
  rw [hidx, hp]
  rfl
end
/-- What is left of an unknown order. -/
def restL (n : Nat) (seen : List Nat) : List Nat := (List.range n).filter fun i => !seen.contains i
theorem filter_next {p : Nat → Bool} {v : Nat → Int} {j : Nat} : ∀ {l : List Nat}, l.Nodup → j ∈ l → p j = true → ((l.filter p).map v).sum = v j + ((l.filter fun i => p i && !(i == j)).map v).sum ∧ (l.filter p).length = (l.filter fun i => p i && !(i == j)).length + 1
  | [], _, h, _ => by simp at h
  | x :: l, hn, hm, hp => by
    obtain ⟨h1, h2⟩ := List.nodup_cons.1 hn
    by_cases hx : x = j
    · subst hx
      have e : l.filter (fun i => p i && !(i == x)) = l.filter p := List.filter_congr fun i hi => by
        have : i ≠ x := fun e => h1 (e ▸ hi)
        simp [this]
      simp [hp, e]
    · have hm' : j ∈ l := (List.mem_cons.1 hm).resolve_left (Ne.symm hx)
      obtain ⟨i1, i2⟩ := filter_next (v := v) h2 hm' hp
      cases hpx : p x
      · simp [List.filter_cons, hpx, i1, i2]
      · simp only [List.filter_cons, hpx, Bool.true_and, if_true, show (!(x == j)) = true by simpa using hx, List.map_cons, List.sum_cons, List.length_cons, i1, i2]
        exact ⟨by omega, trivial⟩
theorem restL_next {n j : Nat} {seen : List Nat} (hj : j < n) (hs : j ∉ seen) (v : Nat → Int) : ((restL n seen).map v).sum = v j + ((restL n (seen ++ [j])).map v).sum ∧ (restL n seen).length = (restL n (seen ++ [j])).length + 1 := by
  have h := filter_next (p := fun i => !seen.contains i) (v := v) (j := j) (List.nodup_range (n := n)) (List.mem_range.2 hj) (by simpa using hs)
  have e : (List.range n).filter (fun i => (!seen.contains i) && !(i == j)) = restL n (seen ++ [j]) := List.filter_congr fun i _ => by
    rw [← Bool.not_or]
    congr 1
    rw [Bool.eq_iff_iff]
    simp
  rw [e] at h
  exact h
theorem restL_end {n : Nat} {seen : List Nat} (h : ∀ j, j < n → j ∈ seen) : restL n seen = [] := by
  unfold restL
  rw [List.filter_eq_nil_iff]
  intro i hi
  simp [h i (List.mem_range.1 hi)]
theorem restL_start (n : Nat) : restL n [] = List.range n := by
  unfold restL
  rw [List.filter_eq_self]
  simp
theorem sum_range {α : Type} (m : List α) (f : α → Int) (d : α) : ((List.range m.length).map fun i => f (m.getD i d)).sum = (m.map f).sum := by
  congr 1
  apply List.ext_getElem
  · simp
  · intro i h1 h2
    simp only [List.length_map] at h2
    simp [h2]
theorem sub_length {α : Type} [DecidableEq α] : ∀ {l m : List α}, l.Nodup → (∀ x ∈ l, x ∈ m) → l.length ≤ m.length
  | [], _, _, _ => Nat.zero_le _
  | x :: l, m, hn, h => by
    obtain ⟨h1, h2⟩ := List.nodup_cons.1 hn
    have hx : x ∈ m := h x (by simp)
    have := sub_length (m := m.erase x) h2 fun y hy => by
      refine (List.mem_erase_of_ne ?_).2 (h y (by simp [hy]))
      intro e
      exact h1 (e ▸ hy)
    rw [List.length_erase_of_mem hx] at this
    have := List.length_pos_of_mem hx
    simp only [List.length_cons]
    omega
end Go.Proofs.Ytkpjcmiijlpcaaa.Aw
