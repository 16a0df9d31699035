/- An abstract program logic over the model: a table of types where some struct is told other. -/
import Derived.Test.YtkpjcmiijlpcaaaAwY
namespace Go.Proofs.Ytkpjcmiijlpcaaa.Aw
open Go
def TI.agg (i : TI) : Bool := match i.d with
  | .struct _ => true
  | .array _ _ => true
  | _ => false
def Tab.tell (T : Tab) (t : TypeId) (x : Ty) : Tab := bif (T.at_ t).agg then (t, { T.at_ t with t := some x }) :: T else T
theorem TabOk.tell {P : Program} {T : Tab} (h : TabOk P T) (t : TypeId) (x : Ty) : TabOk P (T.tell t x) := by
  unfold Tab.tell
  cases ha : (T.at_ t).agg with
  | false => exact h
  | true =>
    intro t' hk
    unfold Tab.at_ at hk ⊢
    rw [cond_true, List.lookup_cons] at hk ⊢
    cases e : t' == t with
    | false => rw [e] at hk; exact h t' hk
    | true =>
      have e : t' = t := by simpa using e
      subst e
      have hd : (T.at_ t').d ≠ .unk := by
        intro hc; rw [TI.agg, hc] at ha; cases ha
      obtain ⟨h1, h2, h3, h4⟩ := h t' hd
      have key : DescOk P t' { T.at_ t' with t := some x } := by
        unfold DescOk at h3 ⊢
        unfold TI.agg at ha
        cases hc : (T.at_ t').d with
        | struct fs => rw [hc] at h3; simp only; exact h3
        | array n e => rw [hc] at h3; simp only; exact h3
        | unk => rw [hc] at ha; cases ha
        | scalar => rw [hc] at ha; cases ha
        | slice e => rw [hc] at ha; cases ha
        | map k e => rw [hc] at ha; cases ha
      exact ⟨h1, h2, key, h4⟩
def retell (e : TypeId) (x : Ty) : AV → AV
  | .nils e1 t1 => .nils e1 (bif e1 == e then x else t1)
  | a => a
def Tab.tellZ (T : Tab) (t e : TypeId) (x : Ty) : Tab := (t, { T.at_ t with zero := (T.at_ t).zero.map (retell e x) }) :: T
theorem VLs.retell {S : Nat → Prop} {w : World} {β : Nat → Cr} {H : Nat → Ob} (e : TypeId) (x : Ty) : ∀ (l : List AV) (vs : List Value), VLs S w β H l vs → VLs S w β H (l.map (Aw.retell e x)) vs
  | [], _, h => h
  | a :: l, _, ⟨v, r, e1, h1, h2⟩ => ⟨v, r, e1, by
      cases a <;> first | exact h1 | (obtain ⟨u, e2, h3⟩ := h1; exact ⟨u, e2, h3⟩), VLs.retell e x l r h2⟩
theorem DescOk.retell {P : Program} {t' e : TypeId} {x : Ty} {i : TI} (h3 : DescOk P t' i) : DescOk P t' { i with zero := i.zero.map (Aw.retell e x) } := by
  unfold DescOk at h3 ⊢
  cases hc : i.d with
  | scalar =>
    rw [hc] at h3
    simp only
    obtain ⟨d, r1, r2, r3, r4, r5, r6⟩ := h3
    refine ⟨d, r1, r2, r3, r4, r5, fun hz => r6 ?_⟩
    generalize i.zero = zs at hz ⊢
    match zs, hz with
    | [a], hz =>
      simp only [List.map_cons, List.map_nil, List.cons.injEq, and_true] at hz
      cases a <;> simp [Aw.retell] at hz ⊢
    | [], hz => simp at hz
    | _ :: _ :: _, hz => simp at hz
  | struct fs => rw [hc] at h3; exact h3
  | array n e => rw [hc] at h3; exact h3
  | unk => rw [hc] at h3; exact h3
  | slice e => rw [hc] at h3; exact h3
  | map k e => rw [hc] at h3; exact h3
theorem TabOk.tellZ {P : Program} {T : Tab} (h : TabOk P T) (t e : TypeId) (x : Ty) : TabOk P (T.tellZ t e x) := by
  unfold Tab.tellZ
  intro t' hk
  unfold Tab.at_ at hk ⊢
  rw [List.lookup_cons] at hk ⊢
  cases e' : t' == t with
  | false => rw [e'] at hk; exact h t' hk
  | true =>
    have e'' : t' = t := by simpa using e'
    subst e''
    rw [e'] at hk
    obtain ⟨⟨f, q1, q2, q3, z, q4, q5⟩, h2, h3, h4⟩ := h t' hk
    exact ⟨⟨f, q1, q2, q3, z, q4, fun S w β H => VLs.retell e x _ _ (q5 S w β H)⟩, (List.length_map ..).trans h2, DescOk.retell h3, h4⟩
end Go.Proofs.Ytkpjcmiijlpcaaa.Aw
