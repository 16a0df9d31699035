/- An abstract program logic over the model, fourteenth part: an operation hangs only on the objects that it names. -/
import Derived.Test.YtjhhkfjabaojhaaAwM
namespace Go.Proofs.Ytjhhkfjabaojhaa.Aw
open Go

section
variable {T : Tab} {env : Env} {ev : Operand → AV} {H H' : Nat → Ob} {nid : Nat}
theorem lend_local : ∀ a : AV, (∀ k ∈ a.refs, H' k = H k) → a.lend H' = a.lend H
  | .row k, h => by simp only [AV.lend, h k (by simp [AV.refs])]
  | .agg c, h => by simp only [AV.lend]; rw [lend_local c h]
  | .tuple c, h => by simp only [AV.lend]; rw [lend_local c h]
  | .fn f a c, h => by
    simp only [AV.lend]
    rw [lend_local a fun k hk => h k (by simp only [AV.refs, List.mem_append]; exact .inl hk), lend_local c fun k hk => h k (by simp only [AV.refs, List.mem_append]; exact .inr hk)]
  | .iface t v, h => by simp only [AV.lend]; rw [lend_local v h]
  | .cons a b, h => by
    simp only [AV.lend]
    rw [lend_local a fun k hk => h k (by simp only [AV.refs, List.mem_append]; exact .inl hk), lend_local b fun k hk => h k (by simp only [AV.refs, List.mem_append]; exact .inr hk)]
  | .undef, _ => rfl
  | .int _ _, _ => rfl
  | .bool _, _ => rfl
  | .str _, _ => rfl
  | .nilp, _ => rfl
  | .nilf, _ => rfl
  | .nili, _ => rfl
  | .nil0, _ => rfl
  | .nils _ _, _ => rfl
  | .ptr _ _, _ => rfl
  | .rptr _ _ _, _ => rfl
  | .list _ _ _, _ => rfl
  | .lptr _ _ _ _ _, _ => rfl
  | .nl, _ => rfl
theorem elems_local (a : AV) (h : ∀ k ∈ a.refs, H' k = H k) : elems H' a = elems H a := by
  cases a <;> simp only [elems]
  case row k => rw [h k (by simp [AV.refs])]
theorem typed_refs (t : TypeId) (a : AV) : (typed T t a).refs = a.refs := by
  cases a <;> simp only [typed]
  split
  · split <;> rfl
  · rfl
theorem toList_refs : ∀ (a : AV), ∀ x ∈ a.toList, ∀ k ∈ x.refs, k ∈ a.refs
  | .cons a b, x, hx, k, hk => by
    simp only [AV.toList, List.mem_cons] at hx
    simp only [AV.refs, List.mem_append]
    rcases hx with rfl | hx
    · exact .inl hk
    · exact .inr (toList_refs b x hx k hk)
  | .nl, x, hx, _, _ => by simp [AV.toList] at hx
  | .undef, x, hx, _, _ => by simp [AV.toList] at hx
  | .int _ _, x, hx, _, _ => by simp [AV.toList] at hx
  | .bool _, x, hx, _, _ => by simp [AV.toList] at hx
  | .str _, x, hx, _, _ => by simp [AV.toList] at hx
  | .nilp, x, hx, _, _ => by simp [AV.toList] at hx
  | .nilf, x, hx, _, _ => by simp [AV.toList] at hx
  | .nili, x, hx, _, _ => by simp [AV.toList] at hx
  | .nil0, x, hx, _, _ => by simp [AV.toList] at hx
  | .nils _ _, x, hx, _, _ => by simp [AV.toList] at hx
  | .ptr _ _, x, hx, _, _ => by simp [AV.toList] at hx
  | .row _, x, hx, _, _ => by simp [AV.toList] at hx
  | .rptr _ _ _, x, hx, _, _ => by simp [AV.toList] at hx
  | .list _ _ _, x, hx, _, _ => by simp [AV.toList] at hx
  | .lptr _ _ _ _ _, x, hx, _, _ => by simp [AV.toList] at hx
  | .agg _, x, hx, _, _ => by simp [AV.toList] at hx
  | .tuple _, x, hx, _, _ => by simp [AV.toList] at hx
  | .fn _ _ _, x, hx, _, _ => by simp [AV.toList] at hx
  | .iface _ _, x, hx, _, _ => by simp [AV.toList] at hx
theorem call_local (types : List TypeId) (f : AV) (xs : List AV) (h : ∀ k ∈ f.refs ++ xs.flatMap AV.refs, H' k = H k) : semCall T env H' nid types f xs = semCall T env H nid types f xs := by
  have h1 : ∀ k ∈ f.refs, H' k = H k := fun k hk => h k (by simp only [List.mem_append]; exact .inl hk)
  have h2 : ∀ x ∈ xs, ∀ k ∈ x.refs, H' k = H k := fun x hx k hk => h k (by simp only [List.mem_append, List.mem_flatMap]; exact .inr ⟨x, hx, hk⟩)
  cases f <;> simp only [semCall]
  rename_i g a c
  cases g <;> simp only
  have e : (a.toList ++ (xs.zipIdx.map fun p => typed T (types.getD p.2 0) p.1) ++ c.toList).map (AV.lend H') = (a.toList ++ (xs.zipIdx.map fun p => typed T (types.getD p.2 0) p.1) ++ c.toList).map (AV.lend H) := by
    apply List.map_congr_left
    intro x hx
    apply lend_local
    intro k hk
    simp only [List.mem_append] at hx
    rcases hx with (hx | hx) | hx
    · exact h1 k (by simp only [AV.refs, List.mem_append]; exact .inl (toList_refs a x hx k hk))
    · obtain ⟨p, hp, rfl⟩ := List.mem_map.1 hx
      rw [typed_refs] at hk
      exact h2 p.1 (List.fst_mem_of_mem_zipIdx hp) k hk
    · exact h1 k (by simp only [AV.refs, List.mem_append]; exact .inr (toList_refs c x hx k hk))
  rw [e]
theorem semOp_local (o : Oper) (h : ∀ k ∈ readsOf ev o, H' k = H k) : semOp T env ev H' nid o = semOp T env ev H nid o := by
  unfold readsOf at h
  unfold semOp
  cases ho : o.op <;> simp only [ho] at h ⊢
  case load t x => cases hx : ev x <;> simp only [hx, AV.refs, List.mem_singleton, forall_eq] at h ⊢ <;> rw [h]
  case store t x y => cases hx : ev x <;> simp only [hx, AV.refs, List.mem_singleton, forall_eq] at h ⊢ <;> rw [h]
  case nilCheck x => cases hx : ev x <;> simp only [hx, AV.refs, List.mem_singleton, forall_eq] at h ⊢ <;> rw [h]
  case fieldAddr t x f =>
    generalize partOf T (T.at_ t) f = pp
    generalize (T.at_ t).d = dd
    cases hx : ev x <;> simp only [hx, AV.refs, List.mem_singleton, forall_eq] at h ⊢ <;> first | rw [h] | (cases dd <;> first | rfl | (cases pp <;> first | rfl | simp only [h]))
  case indexAddr t x i => cases hx : ev x <;> simp only [hx, AV.refs, List.mem_singleton, forall_eq] at h ⊢ <;> rw [h]
  case slice t x lo hi mx => cases mx <;> rfl
  case call c =>
    cases hc : c.callee <;> simp only [hc] at h ⊢
    case builtin b =>
      simp only [semBuiltin]
      split
      · rename_i x hx
        split
        · rename_i t ht
          split
          · have e : elems H' (typed T t x) = elems H (typed T t x) := by
              apply elems_local
              intro k hk
              rw [typed_refs] at hk
              apply h
              obtain ⟨y, hy⟩ : ∃ y, c.args.toList = [y] ∧ ev y = x := by
                match hl : c.args.toList, hx with
                | [y], hx => simp at hx; exact ⟨y, rfl, hx⟩
              rw [hy.1]
              simp only [List.flatMap_cons, List.flatMap_nil, List.append_nil, hy.2]
              exact hk
            cases hy : typed T t x <;> simp only [hy] at e ⊢ <;> rw [e]
          · rfl
          · rfl
        · rfl
      · rename_i s x hx
        split
        · obtain ⟨y, z, hy⟩ : ∃ y z, c.args.toList = [y, z] ∧ ev y = s ∧ ev z = x := by
            match hl : c.args.toList, hx with
            | [y, z], hx => simp at hx; exact ⟨y, z, rfl, hx⟩
          rw [hy.1] at h
          simp only [List.flatMap_cons, List.flatMap_nil, List.append_nil, hy.2.1, hy.2.2, List.mem_append] at h
          generalize c.argTypes.toList.getD 0 0 = t
          have e1 : elems H' (typed T t x) = elems H (typed T t x) := elems_local _ fun k hk => h k (.inr (by rwa [typed_refs] at hk))
          have e2 : ∀ k ∈ (typed T t s).refs, H' k = H k := fun k hk => h k (.inl (by rwa [typed_refs] at hk))
          unfold semAppend
          rw [e1]
          cases hd : (T.at_ t).d <;> simp only
          split
          · split
            · cases hs : typed T t s <;> simp only [hs, AV.refs, List.mem_singleton, forall_eq] at e2 ⊢
              rw [e2]
            · rfl
          · rfl
        · rfl
      · rfl
      · rfl
      · rfl
    case value f =>
      apply call_local
      intro k hk
      apply h
      simp only [List.mem_append, List.mem_flatMap, List.mem_map] at hk ⊢
      rcases hk with hk | ⟨x, ⟨y, hy, rfl⟩, hk⟩
      · exact .inl hk
      · exact .inr ⟨y, hy, hk⟩
end
end Go.Proofs.Ytjhhkfjabaojhaa.Aw
