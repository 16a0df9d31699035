/- An abstract program logic over the model, fifteenth part: calls. -/
import Derived.Test.YtjhhkfjabaojhaaAwN
namespace Go.Proofs.Ytjhhkfjabaojhaa.Aw
open Go

abbrev cr0 : Nat → Cr := fun _ => ⟨none, 0⟩
abbrev ob0 : Nat → Ob := fun _ => .none
abbrev newsH (news : List Ob) : Nat → Ob := fun k => news.getD k .none
/-- What a function does, of whatever memory. -/
structure ACalls (P : Program) (g : FuncId) (args : List AV) (v : AV) (news : List Ob) : Prop where
  known : ∃ fn, P.funcs[g]? = some fn ∧ (fn.name == "runtime.NumGoroutine") = false ∧ fn.body.isNone = false
  run : ∀ (S : Nat → Prop) (w : World) (vs : List Value), (∀ b, S b → b < w.heap.size) → VLs S w cr0 ob0 args vs →
    Calls P g vs.toArray w fun e w' => ∃ u, e = .returned u ∧ ∃ S' β', Rel (fun _ => False) S w S' β' (newsH news) w' ∧ VL S' w' β' (newsH news) v [u]
def EnvOk (P : Program) (env : Env) : Prop := ∀ g args t, env g args = some t → (∀ p ∈ t.pre, p) → ACalls P g args t.v t.news
section
variable {P : Program} {T : Tab} {env : Env} {M S0 : Nat → Prop} {w0 : World} {S S1 : Nat → Prop} {β : Nat → Cr} {H : Nat → Ob} {w : World} {o : Oper} {a : Act} {ev : Operand → AV} {nid : Nat} {r : Res}
/-- To be read by more. -/
theorem Ext.wide (h : ∀ b, S b → S1 b) : Ext S w β H S1 w β H := ⟨fun b hb => ⟨h b hb, rfl⟩, fun _ => ObExt.refl _ _⟩
theorem lend_of (hr : Rel M S0 w0 S β H w) (h : ∀ b, S b → S1 b) : ∀ (a : AV) (vs : List Value), (a.hasRow = true → ∀ k e t xs g, H k = .row e t xs → (β k).g = some g → S1 g) → VL S w β H a vs → VL S1 w cr0 ob0 (a.lend H) vs
  | .row k, vs, hl, ⟨v, e, hv⟩ => by
    simp only [AV.lend]
    simp only [leaf] at hv
    split
    · rename_i e' t xs hk
      rw [hk] at hv
      refine ⟨v, e, ?_⟩
      have hob := hr.ob k
      rw [hk] at hob
      rcases hob with ⟨e2, e3⟩ | ⟨g, cur, e2, e3, e4, e5, e6, e7⟩
      · subst e3
        refine ⟨none, 0, 0, [], ?_, rfl, Nat.le_refl _, rfl, fun j u hj => by simp at hj⟩
        rw [hv]; unfold rowV; rw [e2]
      · refine ⟨some ⟨g, 0, none⟩, xs.length, (β k).cap, _, by rw [hv, rowV_some e2], rfl, e4, Cat.dr_mono (fun b hb => ⟨h b hb, rfl⟩) e7, fun j u hj => ⟨_, rfl, ?_, ?_⟩⟩
        · exact hl rfl k e' t xs g hk e2
        · rw [add_lit, cell_of_row w g _ _ _ _ e3]
          rw [List.getElem?_take] at hj
          split at hj
          · simpa using hj
          · cases hj
    · exact ⟨v, e, trivial⟩
  | .nils e t, _, hl, ⟨v, e1, hv⟩ => ⟨v, e1, none, 0, 0, [], by rw [show v = _ from hv], rfl, Nat.le_refl _, rfl, fun j u hj => by simp at hj⟩
  | .ptr k off, _, hl, ⟨v, e, hv⟩ => ⟨v, e, trivial⟩
  | .rptr k i off, vs, hl, ⟨v, e, hv⟩ => ⟨v, e, trivial⟩
  | .agg c, vs, hl, ⟨cs, e, hc⟩ => ⟨cs, e, lend_of hr h c cs hl hc⟩
  | .tuple c, vs, hl, ⟨cs, e, hc⟩ => ⟨cs, e, lend_of hr h c cs hl hc⟩
  | .fn f x y, vs, hl, ⟨p, q, e, h1, h2⟩ => ⟨p, q, e, lend_of hr h x p (fun he => hl (by simp only [AV.hasRow, he, Bool.true_or])) h1, lend_of hr h y q (fun he => hl (by simp only [AV.hasRow, he, Bool.or_true])) h2⟩
  | .iface t x, vs, hl, ⟨v, e, h1⟩ => ⟨v, e, lend_of hr h x [v] hl h1⟩
  | .cons x y, vs, hl, ⟨v, r, e, h1, h2⟩ => ⟨v, r, e, lend_of hr h x [v] (fun he => hl (by simp only [AV.hasRow, he, Bool.true_or])) h1, lend_of hr h y r (fun he => hl (by simp only [AV.hasRow, he, Bool.or_true])) h2⟩
  | .list e t xs, vs, hl, ⟨v, e1, hv⟩ => ⟨v, e1, DR.mono (fun b hb => ⟨h b hb, rfl⟩) (.list e t) xs [v] hv⟩
  | .lptr e t xs i off, vs, hl, ⟨v, e1, h0, hi, ad, es, hc, hrd, hv⟩ => ⟨v, e1, h0, hi, ad, es, Cat.dr_mono (fun b hb => ⟨h b hb, rfl⟩) hc, hrd.mono (fun b hb => ⟨h b hb, rfl⟩), hv⟩
  | .undef, vs, hl, ⟨v, e, hv⟩ => ⟨v, e, trivial⟩
  | .int k n, vs, hl, ⟨v, e, hv⟩ => ⟨v, e, hv⟩
  | .bool b, vs, hl, ⟨v, e, hv⟩ => ⟨v, e, hv⟩
  | .str b, vs, hl, ⟨v, e, hv⟩ => ⟨v, e, hv⟩
  | .nilp, vs, hl, ⟨v, e, hv⟩ => ⟨v, e, hv⟩
  | .nilf, vs, hl, ⟨v, e, hv⟩ => ⟨v, e, hv⟩
  | .nili, vs, hl, ⟨v, e, hv⟩ => ⟨v, e, hv⟩
  | .nil0, vs, hl, ⟨v, e, hv⟩ => ⟨v, e, hv⟩
  | .nl, vs, hl, hv => hv
theorem lends_of (hr : Rel M S0 w0 S β H w) (h : ∀ b, S b → S1 b) : ∀ (l : List AV) (vs : List Value), (l.any AV.hasRow = true → ∀ k e t xs g, H k = .row e t xs → (β k).g = some g → S1 g) → VLs S w β H l vs → VLs S1 w cr0 ob0 (l.map (AV.lend H)) vs
  | [], vs, _, hv => hv
  | x :: l, vs, hl, ⟨v, r, e, h1, h2⟩ => ⟨v, r, e, lend_of hr h x [v] (fun he => hl (by simp only [List.any_cons, he, Bool.true_or])) h1, lends_of hr h l r (fun he => hl (by simp only [List.any_cons, he, Bool.or_true])) h2⟩
section
variable {d : Nat} {β2 : Nat → Cr} {H2 : Nat → Ob} (hs : ∀ k, H k ≠ .none → H2 (k + d) = (H k).shift d ∧ β2 (k + d) = β k)
include hs
theorem leaf_shift_ptr (k off : Nat) (v : Value) (h : leaf S w β H (.ptr k off) v) : leaf S w β2 H2 (.ptr (k + d) off) v := by
  simp only [leaf] at h ⊢
  cases hk : H k with
  | none => rw [hk] at h; exact h.elim
  | _ =>
    obtain ⟨h1, h2⟩ := hs k (by rw [hk]; simp)
    rw [hk] at h h1
    rw [h1, h2]
    exact h
theorem VL.shift : ∀ (x : AV) (vs : List Value), VL S w β H x vs → VL S w β2 H2 (x.shift d) vs
  | .ptr k off, vs, ⟨v, e, hv⟩ => ⟨v, e, leaf_shift_ptr hs k off v hv⟩
  | .row k, vs, ⟨v, e, hv⟩ => by
    refine ⟨v, e, ?_⟩
    show leaf S w β2 H2 (.row (k + d)) v
    simp only [leaf] at hv ⊢
    cases hk : H k with
    | none => rw [hk] at hv; exact hv.elim
    | _ =>
      obtain ⟨h1, h2⟩ := hs k (by rw [hk]; simp)
      rw [hk] at hv h1
      rw [h1, h2]
      exact hv
  | .rptr k i off, vs, ⟨v, e, hv⟩ => by
    refine ⟨v, e, ?_⟩
    show leaf S w β2 H2 (.rptr (k + d) i off) v
    simp only [leaf] at hv ⊢
    cases hk : H k with
    | none => rw [hk] at hv; exact hv.elim
    | _ =>
      obtain ⟨h1, h2⟩ := hs k (by rw [hk]; simp)
      rw [hk] at hv h1
      rw [h1, h2]
      exact hv
  | .agg c, vs, ⟨cs, e, hc⟩ => ⟨cs, e, VL.shift c cs hc⟩
  | .tuple c, vs, ⟨cs, e, hc⟩ => ⟨cs, e, VL.shift c cs hc⟩
  | .fn f x y, vs, ⟨p, q, e, h1, h2⟩ => ⟨p, q, e, VL.shift x p h1, VL.shift y q h2⟩
  | .iface t x, vs, ⟨v, e, h1⟩ => ⟨v, e, VL.shift x [v] h1⟩
  | .cons x y, vs, ⟨v, r, e, h1, h2⟩ => ⟨v, r, e, VL.shift x [v] h1, VL.shift y r h2⟩
  | .undef, vs, ⟨v, e, hv⟩ => ⟨v, e, hv⟩
  | .int k n, vs, ⟨v, e, hv⟩ => ⟨v, e, hv⟩
  | .bool b, vs, ⟨v, e, hv⟩ => ⟨v, e, hv⟩
  | .str b, vs, ⟨v, e, hv⟩ => ⟨v, e, hv⟩
  | .nilp, vs, ⟨v, e, hv⟩ => ⟨v, e, hv⟩
  | .nilf, vs, ⟨v, e, hv⟩ => ⟨v, e, hv⟩
  | .nili, vs, ⟨v, e, hv⟩ => ⟨v, e, hv⟩
  | .nil0, vs, ⟨v, e, hv⟩ => ⟨v, e, hv⟩
  | .nils _ _, vs, ⟨v, e, hv⟩ => ⟨v, e, hv⟩
  | .list _ _ _, vs, ⟨v, e, hv⟩ => ⟨v, e, hv⟩
  | .lptr _ _ _ _ _, vs, ⟨v, e, hv⟩ => ⟨v, e, hv⟩
  | .nl, vs, hv => hv
theorem VLs.shift : ∀ (l : List AV) (vs : List Value), VLs S w β H l vs → VLs S w β2 H2 (l.map (AV.shift d)) vs
  | [], _, hv => hv
  | x :: l, _, ⟨v, r, e, h1, h2⟩ => ⟨v, r, e, VL.shift hs x [v] h1, VLs.shift l r h2⟩
theorem ObR.shift (c : Cr) (ob : Ob) (h : ObR S w β H c ob) : ObR S w β2 H2 c (ob.shift d) := by
  cases ob with
  | none => trivial
  | dead => trivial
  | cells e cs => obtain ⟨g, vs, e1, e2, e3⟩ := h; exact ⟨g, vs, e1, e2, VLs.shift hs cs vs e3⟩
  | row e t xs => exact h
end
theorem DR.flat : ∀ (t : Ty) (x : t.den) (cs : List Value), t.flat = true → DR S w t x cs → DR S1 w t x cs
  | .int _, _, _, _, h => h
  | .bool, _, _, _, h => h
  | .str, _, _, _, h => h
  | .list _ _, _, _, hf, _ => by simp [Ty.flat] at hf
  | .pair a b, x, cs, hf, ⟨c1, c2, e, h1, h2⟩ => by
    simp only [Ty.flat, Bool.and_eq_true] at hf
    exact ⟨c1, c2, e, DR.flat a _ _ hf.1 h1, DR.flat b _ _ hf.2 h2⟩
  | .unit, _, _, _, h => h
theorem VL.free : ∀ (x : AV) (vs : List Value), x.noList = true → VL S w β H x vs → VL S1 w β H x vs
  | .list _ _ _, _, hf, _ => by simp [AV.noList] at hf
  | .lptr _ _ _ _ _, _, hf, _ => by simp [AV.noList] at hf
  | .agg c, vs, hf, ⟨cs, e, hc⟩ => ⟨cs, e, VL.free c cs hf hc⟩
  | .tuple c, vs, hf, ⟨cs, e, hc⟩ => ⟨cs, e, VL.free c cs hf hc⟩
  | .fn f x y, vs, hf, ⟨p, q, e, h1, h2⟩ => by
    simp only [AV.noList, Bool.and_eq_true] at hf
    exact ⟨p, q, e, VL.free x p hf.1 h1, VL.free y q hf.2 h2⟩
  | .iface t x, vs, hf, ⟨v, e, h1⟩ => ⟨v, e, VL.free x [v] hf h1⟩
  | .cons x y, vs, hf, ⟨v, r, e, h1, h2⟩ => by
    simp only [AV.noList, Bool.and_eq_true] at hf
    exact ⟨v, r, e, VL.free x [v] hf.1 h1, VL.free y r hf.2 h2⟩
  | .ptr _ _, vs, _, ⟨v, e, hv⟩ => ⟨v, e, hv⟩
  | .row _, vs, _, ⟨v, e, hv⟩ => ⟨v, e, hv⟩
  | .rptr _ _ _, vs, _, ⟨v, e, hv⟩ => ⟨v, e, hv⟩
  | .undef, vs, _, ⟨v, e, hv⟩ => ⟨v, e, hv⟩
  | .int k n, vs, _, ⟨v, e, hv⟩ => ⟨v, e, hv⟩
  | .bool b, vs, _, ⟨v, e, hv⟩ => ⟨v, e, hv⟩
  | .str b, vs, _, ⟨v, e, hv⟩ => ⟨v, e, hv⟩
  | .nilp, vs, _, ⟨v, e, hv⟩ => ⟨v, e, hv⟩
  | .nilf, vs, _, ⟨v, e, hv⟩ => ⟨v, e, hv⟩
  | .nili, vs, _, ⟨v, e, hv⟩ => ⟨v, e, hv⟩
  | .nil0, vs, _, ⟨v, e, hv⟩ => ⟨v, e, hv⟩
  | .nils _ _, vs, _, ⟨v, e, hv⟩ => ⟨v, e, hv⟩
  | .nl, vs, _, hv => hv
theorem VLs.free : ∀ (l : List AV) (vs : List Value), l.all AV.noList = true → VLs S w β H l vs → VLs S1 w β H l vs
  | [], vs, _, hv => hv
  | x :: l, vs, hf, ⟨v, r, e, h1, h2⟩ => by
    simp only [List.all_cons, Bool.and_eq_true] at hf
    exact ⟨v, r, e, VL.free x [v] hf.1 h1, VLs.free l r hf.2 h2⟩
theorem ObR.free (c : Cr) (ob : Ob) (hf : ob.noList = true) (h : ObR S w β H c ob) : ObR S1 w β H c ob := by
  cases ob with
  | none => trivial
  | dead => trivial
  | cells e cs => obtain ⟨g, vs, e1, e2, e3⟩ := h; exact ⟨g, vs, e1, e2, VLs.free cs vs hf e3⟩
  | row e t xs =>
    rcases h with h | ⟨g, cur, e1, e2, e3, e4, e5, e6⟩
    · exact .inl h
    · exact .inr ⟨g, cur, e1, e2, e3, e4, e5, Cat.mono (fun x cs hx => DR.flat t x cs hf hx) _ _ e6⟩
theorem lookup_news : ∀ (news : List Ob) (n k : Nat), ((news.zipIdx n).map fun p => (p.2, p.1.shift nid)).lookup k = if n ≤ k ∧ k < n + news.length then some ((news.getD (k - n) .none).shift nid) else none
  | [], n, k => by
    simp only [List.zipIdx_nil, List.map_nil, List.lookup_nil, List.length_nil]
    rw [if_neg (by omega)]
  | x :: l, n, k => by
    simp only [List.zipIdx_cons, List.map_cons, List.lookup]
    by_cases h : k = n
    · subst h
      simp
    · have e : (k == n) = false := by simpa using h
      simp only [e]
      rw [lookup_news l (n + 1) k]
      by_cases h2 : n + 1 ≤ k ∧ k < n + 1 + l.length
      · rw [if_pos h2, if_pos (by simp only [List.length_cons]; omega)]
        congr 2
        rw [show k - n = (k - (n + 1)) + 1 by omega]
        simp
      · rw [if_neg h2, if_neg (by simp only [List.length_cons]; omega)]
end
end Go.Proofs.Ytjhhkfjabaojhaa.Aw
