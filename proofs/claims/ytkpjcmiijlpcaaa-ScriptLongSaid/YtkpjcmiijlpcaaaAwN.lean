/- An abstract program logic over the model, fourteenth part: an operation hangs only on the objects that it names. -/
import Derived.Test.YtkpjcmiijlpcaaaAwAC
namespace Go.Proofs.Ytkpjcmiijlpcaaa.Aw
open Go

section
variable {T : Tab} {env : Env} {ev : Operand → AV} {H H' : Nat → Ob} {nid : Nat}
theorem lend_local : ∀ a : AV, (∀ k ∈ a.refs, H' k = H k) → a.lend H' = a.lend H
  | .row k, h => by simp only [AV.lend, h k (by simp [AV.refs])]
  | .view k lo n e t, h => by simp only [AV.lend, viewOf, h k (by simp [AV.refs])]
  | .emp _ _, _ => rfl
  | .prow _, _ => rfl
  | .pptr _ _, _ => rfl
  | .mp _, _ => rfl
  | .itr _, _ => rfl
  | .agg c, h => by simp only [AV.lend]; rw [lend_local c h]
  | .tuple c, h => by simp only [AV.lend]; rw [lend_local c h]
  | .fn f a c, h => by
    simp only [AV.lend]
    rw [lend_local a fun k hk => h k (by simp only [AV.refs, List.mem_append]; exact .inl hk), lend_local c fun k hk => h k (by simp only [AV.refs, List.mem_append]; exact .inr hk)]
  | .iface t v, h => by simp only [AV.lend]; rw [lend_local v h]
  | .cons a b, h => by
    simp only [AV.lend]
    rw [lend_local a fun k hk => h k (by simp only [AV.refs, List.mem_append]; exact .inl hk), lend_local b fun k hk => h k (by simp only [AV.refs, List.mem_append]; exact .inr hk)]
  | .undef, _ => rfl
  | .int _ _, _ => rfl
  | .bool _, _ => rfl
  | .str _, _ => rfl
  | .nilp, _ => rfl
  | .nilf, _ => rfl
  | .nili, _ => rfl
  | .nil0, _ => rfl
  | .nils _ _, _ => rfl
  | .ptr _ _, _ => rfl
  | .rptr _ _ _, _ => rfl
  | .list _ _ _, _ => rfl
  | .tl _ _ _, _ => rfl
  | .lptr _ _ _ _ _, _ => rfl
  | .nl, _ => rfl
theorem lendR_local : ∀ a : AV, (∀ k ∈ a.refs, H' k = H k) → a.lendR H' = a.lendR H
  | .row k, h => by simp only [AV.lendR, h k (by simp [AV.refs])]
  | .view k lo n e t, h => by simp only [AV.lendR, viewOf, h k (by simp [AV.refs])]
  | .agg c, h => by simp only [AV.lendR]; rw [lendR_local c h]
  | .tuple c, h => by simp only [AV.lendR]; rw [lendR_local c h]
  | .fn f a c, h => by
    simp only [AV.lendR]
    rw [lendR_local a fun k hk => h k (by simp only [AV.refs, List.mem_append]; exact .inl hk), lendR_local c fun k hk => h k (by simp only [AV.refs, List.mem_append]; exact .inr hk)]
  | .iface t v, h => by simp only [AV.lendR]; rw [lendR_local v h]
  | .cons a b, h => by
    simp only [AV.lendR]
    rw [lendR_local a fun k hk => h k (by simp only [AV.refs, List.mem_append]; exact .inl hk), lendR_local b fun k hk => h k (by simp only [AV.refs, List.mem_append]; exact .inr hk)]
  | .undef, _ => rfl
  | .int _ _, _ => rfl
  | .bool _, _ => rfl
  | .str _, _ => rfl
  | .nilp, _ => rfl
  | .nilf, _ => rfl
  | .nili, _ => rfl
  | .nil0, _ => rfl
  | .nils _ _, _ => rfl
  | .ptr _ _, _ => rfl
  | .rptr _ _ _, _ => rfl
  | .list _ _ _, _ => rfl
  | .tl _ _ _, _ => rfl
  | .lptr _ _ _ _ _, _ => rfl
  | .emp _ _, _ => rfl
  | .prow _, _ => rfl
  | .pptr _ _, _ => rfl
  | .mp _, _ => rfl
  | .itr _, _ => rfl
  | .nl, _ => rfl
theorem lendR_refs : ∀ a : AV, ∀ k ∈ (a.lendR H).refs, k ∈ a.refs
  | .row k, j, h => by
    simp only [AV.lendR] at h
    split at h <;> simp [AV.refs] at h
  | .view k lo n e t, j, h => by
    simp only [AV.lendR] at h
    split at h <;> simp [AV.refs] at h
  | .agg c, j, h => lendR_refs c j h
  | .tuple c, j, h => lendR_refs c j h
  | .fn f a c, j, h => by
    simp only [AV.lendR, AV.refs, List.mem_append] at h ⊢
    exact h.imp (lendR_refs a j) (lendR_refs c j)
  | .iface t v, j, h => lendR_refs v j h
  | .cons a b, j, h => by
    simp only [AV.lendR, AV.refs, List.mem_append] at h ⊢
    exact h.imp (lendR_refs a j) (lendR_refs b j)
  | .undef, _, h => h
  | .int _ _, _, h => h
  | .bool _, _, h => h
  | .str _, _, h => h
  | .nilp, _, h => h
  | .nilf, _, h => h
  | .nili, _, h => h
  | .nil0, _, h => h
  | .nils _ _, _, h => h
  | .ptr _ _, _, h => h
  | .rptr _ _ _, _, h => h
  | .list _ _ _, _, h => h
  | .tl _ _ _, _, h => h
  | .lptr _ _ _ _ _, _, h => h
  | .emp _ _, _, h => h
  | .prow _, _, h => h
  | .pptr _ _, _, h => h
  | .mp _, _, h => h
  | .itr _, _, h => h
  | .nl, _, h => h
theorem clo_self : ∀ (f : Nat) (l : List Nat), ∀ k ∈ l, k ∈ clo H (f + 1) l
  | f, [], k, h => by cases h
  | f, x :: l, k, h => by simp only [clo, List.mem_append]; exact .inl h
theorem clo_mono : ∀ (f : Nat) (l m : List Nat), (∀ k ∈ l, k ∈ m) → ∀ k ∈ clo H f l, k ∈ clo H f m
  | 0, _, _, _, k, h => by cases h
  | f + 1, [], m, _, k, h => by cases h
  | f + 1, x :: l, m, hm, k, h => by
    match m, hm with
    | [], hm => exact absurd (hm x (by simp)) (by simp)
    | y :: m, hm =>
      simp only [clo, List.mem_append] at h ⊢
      rcases h with h | h
      · exact .inl (hm k h)
      · refine .inr (clo_mono f _ _ (fun j hj => ?_) k h)
        obtain ⟨q, hq, hj⟩ := List.mem_flatMap.1 hj
        exact List.mem_flatMap.2 ⟨q, hm q hq, hj⟩
theorem reachH_local : ∀ (f : Nat) (l acc : List Nat), (∀ k ∈ clo H f l, H' k = H k) → reachH H' f l acc = reachH H f l acc
  | 0, _, _, _ => rfl
  | f + 1, [], _, _ => rfl
  | f + 1, x :: l, acc, h => by
    simp only [clo, List.mem_append] at h
    have h1 : ∀ k ∈ x :: l, H' k = H k := fun k hk => h k (.inl hk)
    have e1 : ((x :: l).flatMap fun k => (H' k).refs) = (x :: l).flatMap fun k => (H k).refs := by
      rw [List.flatMap_def, List.flatMap_def]
      congr 1
      exact List.map_congr_left fun k hk => by rw [h1 k hk]
    have e2 : ((x :: l).filter fun k => (H' k).live) = (x :: l).filter fun k => (H k).live := List.filter_congr fun k hk => by rw [h1 k hk]
    simp only [reachH]
    rw [e1, e2, reachH_local f _ _ fun k hk => h k (.inr hk)]
theorem addNew_mem : ∀ (l acc : List Nat), ∀ k ∈ addNew acc l, k ∈ acc ∨ k ∈ l
  | [], acc, k, h => .inl h
  | x :: l, acc, k, h => by
    rcases addNew_mem l _ k h with h | h
    · cases hc : acc.contains x with
      | true => rw [hc] at h; exact .inl h
      | false =>
        rw [hc, cond_false, List.mem_append] at h
        rcases h with h | h
        · exact .inl h
        · simp at h; exact .inr (by simp [h])
    · exact .inr (by simp [h])
theorem reachH_mem : ∀ (f : Nat) (l acc : List Nat), ∀ k ∈ reachH H f l acc, k ∈ acc ∨ k ∈ clo H f l
  | 0, _, acc, k, h => .inl h
  | f + 1, [], acc, k, h => .inl h
  | f + 1, x :: l, acc, k, h => by
    rcases reachH_mem f _ _ k h with h | h
    · rcases addNew_mem _ _ k h with h | h
      · exact .inl h
      · refine .inr ?_
        simp only [clo, List.mem_append]
        exact .inl (List.mem_filter.1 h).1
    · refine .inr ?_
      simp only [clo, List.mem_append]
      exact .inr h
theorem clo_more : ∀ (f : Nat) (l : List Nat), ∀ k ∈ clo H f l, k ∈ clo H (f + 1) l
  | 0, _, k, h => by cases h
  | f + 1, [], k, h => by cases h
  | f + 1, x :: l, k, h => by
    rw [clo] at h ⊢
    · simp only [List.mem_append] at h ⊢
      exact h.imp id (clo_more f _ k)
    all_goals simp
theorem call2_local (g : FuncId) (args : List AV) (lends : Bool) (h : ∀ k ∈ clo H 9 (args.flatMap AV.refs), H' k = H k) : semCall2 env H' nid g args lends = semCall2 env H nid g args lends := by
  have h0 : ∀ a ∈ args, ∀ k ∈ a.refs, H' k = H k := fun a ha k hk => h k (clo_self 8 _ k (List.mem_flatMap.2 ⟨a, ha, hk⟩))
  have e1 : (bif lends then args.map (AV.lendR H') else args) = bif lends then args.map (AV.lendR H) else args := by
    cases lends with
    | false => rfl
    | true => exact List.map_congr_left fun a ha => lendR_local a (h0 a ha)
  have hsub : ∀ k ∈ (bif lends then args.map (AV.lendR H) else args).flatMap AV.refs, k ∈ args.flatMap AV.refs := by
    intro k hk
    cases lends with
    | false => exact hk
    | true =>
      obtain ⟨b, hb, hk⟩ := List.mem_flatMap.1 hk
      obtain ⟨a, ha, rfl⟩ := List.mem_map.1 hb
      exact List.mem_flatMap.2 ⟨a, ha, lendR_refs a k hk⟩
  unfold semCall2
  rw [e1]
  generalize (bif lends then args.map (AV.lendR H) else args) = as1 at hsub ⊢
  have h8 : ∀ k ∈ clo H 8 (as1.flatMap AV.refs), H' k = H k := by
    intro k hk
    refine h k ?_
    have := clo_mono 8 _ _ hsub k hk
    exact clo_more 8 _ k this
  have e2 := reachH_local 8 (as1.flatMap AV.refs) [] h8
  simp only [e2]
  have e3 : ((reachH H 8 (as1.flatMap AV.refs) []).map fun k => (H' k).ren (reachH H 8 (as1.flatMap AV.refs) [])) = (reachH H 8 (as1.flatMap AV.refs) []).map fun k => (H k).ren (reachH H 8 (as1.flatMap AV.refs) []) := by
    refine List.map_congr_left fun k hk => ?_
    rcases reachH_mem 8 _ _ k hk with hk | hk
    · cases hk
    · rw [h8 k hk]
  have e4 : ∀ (P l : List Nat) (m : List (Option Ob)), (∀ k ∈ l, H' k = H k) → oldsIn H' P l m = oldsIn H P l m := by
    intro P l
    induction l with
    | nil => intro m _; cases m <;> rfl
    | cons k l ih =>
      intro m hl
      match m with
      | [] => rfl
      | none :: m => simp only [oldsIn]; rw [hl k (by simp), ih m fun j hj => hl j (by simp [hj])]
      | some o :: m => simp only [oldsIn]; exact ih m fun j hj => hl j (by simp [hj])
  have e5 : ∀ m, oldsIn H' (reachH H 8 (as1.flatMap AV.refs) []) (reachH H 8 (as1.flatMap AV.refs) []) m = oldsIn H (reachH H 8 (as1.flatMap AV.refs) []) (reachH H 8 (as1.flatMap AV.refs) []) m := fun m => e4 _ _ m fun k hk => by
    rcases reachH_mem 8 _ _ k hk with hk | hk
    · cases hk
    · exact h8 k hk
  have e6 : (reachH H 8 (as1.flatMap AV.refs) []).all (fun k => (H' k).noIt) = (reachH H 8 (as1.flatMap AV.refs) []).all fun k => (H k).noIt := by
    rw [Bool.eq_iff_iff, List.all_eq_true, List.all_eq_true]
    have h9 : ∀ k ∈ reachH H 8 (as1.flatMap AV.refs) [], H' k = H k := fun k hk => by
      rcases reachH_mem 8 _ _ k hk with hk | hk
      · cases hk
      · exact h8 k hk
    exact ⟨fun hh k hk => by rw [← h9 k hk]; exact hh k hk, fun hh k hk => by rw [h9 k hk]; exact hh k hk⟩
  rw [e3, e6]
  simp only [e5]
theorem elems_local (a : AV) (h : ∀ k ∈ a.refs, H' k = H k) : elems H' a = elems H a := by
  cases a <;> simp only [elems]
  case row k => rw [h k (by simp [AV.refs])]
  case view k lo n e t => simp only [viewOf, h k (by simp [AV.refs])]
theorem typed_refs (t : TypeId) (a : AV) : (typed T t a).refs = a.refs := by
  cases a <;> simp only [typed]
  split
  · split <;> rfl
  · rfl
theorem toList_refs : ∀ (a : AV), ∀ x ∈ a.toList, ∀ k ∈ x.refs, k ∈ a.refs
  | .cons a b, x, hx, k, hk => by
    simp only [AV.toList, List.mem_cons] at hx
    simp only [AV.refs, List.mem_append]
    rcases hx with rfl | hx
    · exact .inl hk
    · exact .inr (toList_refs b x hx k hk)
  | .nl, x, hx, _, _ => by simp [AV.toList] at hx
  | .undef, x, hx, _, _ => by simp [AV.toList] at hx
  | .int _ _, x, hx, _, _ => by simp [AV.toList] at hx
  | .bool _, x, hx, _, _ => by simp [AV.toList] at hx
  | .str _, x, hx, _, _ => by simp [AV.toList] at hx
  | .nilp, x, hx, _, _ => by simp [AV.toList] at hx
  | .nilf, x, hx, _, _ => by simp [AV.toList] at hx
  | .nili, x, hx, _, _ => by simp [AV.toList] at hx
  | .nil0, x, hx, _, _ => by simp [AV.toList] at hx
  | .nils _ _, x, hx, _, _ => by simp [AV.toList] at hx
  | .ptr _ _, x, hx, _, _ => by simp [AV.toList] at hx
  | .row _, x, hx, _, _ => by simp [AV.toList] at hx
  | .rptr _ _ _, x, hx, _, _ => by simp [AV.toList] at hx
  | .list _ _ _, x, hx, _, _ => by simp [AV.toList] at hx
  | .tl _ _ _, x, hx, _, _ => by simp [AV.toList] at hx
  | .lptr _ _ _ _ _, x, hx, _, _ => by simp [AV.toList] at hx
  | .emp _ _, x, hx, _, _ => by simp [AV.toList] at hx
  | .view _ _ _ _ _, x, hx, _, _ => by simp [AV.toList] at hx
  | .prow _, x, hx, _, _ => by simp [AV.toList] at hx
  | .pptr _ _, x, hx, _, _ => by simp [AV.toList] at hx
  | .mp _, x, hx, _, _ => by simp [AV.toList] at hx
  | .itr _, x, hx, _, _ => by simp [AV.toList] at hx
  | .agg _, x, hx, _, _ => by simp [AV.toList] at hx
  | .tuple _, x, hx, _, _ => by simp [AV.toList] at hx
  | .fn _ _ _, x, hx, _, _ => by simp [AV.toList] at hx
  | .iface _ _, x, hx, _, _ => by simp [AV.toList] at hx
theorem isNil_local (a : AV) (h : ∀ k ∈ a.refs, H' k = H k) : isNil H' a = isNil H a := by
  unfold isNil
  split <;> try rfl
  rename_i k
  rw [h k (by simp [AV.refs])]
theorem call_local (types : List TypeId) (f : AV) (xs : List AV) (h : ∀ k ∈ clo H 9 (f.refs ++ xs.flatMap AV.refs), H' k = H k) : semCall T env H' nid types f xs = semCall T env H nid types f xs := by
  have h1 : ∀ k ∈ f.refs, H' k = H k := fun k hk => h k (clo_self 8 _ k (by simp only [List.mem_append]; exact .inl hk))
  have h2 : ∀ x ∈ xs, ∀ k ∈ x.refs, H' k = H k := fun x hx k hk => h k (clo_self 8 _ k (by simp only [List.mem_append, List.mem_flatMap]; exact .inr ⟨x, hx, hk⟩))
  cases f <;> simp only [semCall]
  rename_i g a c
  cases g <;> simp only
  rename_i g
  have hmem : ∀ x ∈ a.toList ++ (xs.zipIdx.map fun p => typed T (types.getD p.2 0) p.1) ++ c.toList, ∀ k ∈ x.refs, k ∈ (AV.fn (.func g) a c).refs ++ xs.flatMap AV.refs := by
    intro x hx k hk
    simp only [List.mem_append] at hx ⊢
    rcases hx with (hx | hx) | hx
    · exact .inl (by simp only [AV.refs, List.mem_append]; exact .inl (toList_refs a x hx k hk))
    · obtain ⟨p, hp, rfl⟩ := List.mem_map.1 hx
      rw [typed_refs] at hk
      exact .inr (List.mem_flatMap.2 ⟨p.1, List.fst_mem_of_mem_zipIdx hp, hk⟩)
    · exact .inl (by simp only [AV.refs, List.mem_append]; exact .inr (toList_refs c x hx k hk))
  have e : (a.toList ++ (xs.zipIdx.map fun p => typed T (types.getD p.2 0) p.1) ++ c.toList).map (AV.lend H') = (a.toList ++ (xs.zipIdx.map fun p => typed T (types.getD p.2 0) p.1) ++ c.toList).map (AV.lend H) := by
    apply List.map_congr_left
    intro x hx
    apply lend_local
    intro k hk
    exact h k (clo_self 8 _ k (hmem x hx k hk))
  have e2 : ∀ b, semCall2 env H' nid g (a.toList ++ (xs.zipIdx.map fun p => typed T (types.getD p.2 0) p.1) ++ c.toList) b = semCall2 env H nid g (a.toList ++ (xs.zipIdx.map fun p => typed T (types.getD p.2 0) p.1) ++ c.toList) b := by
    intro b
    refine call2_local _ _ b fun k hk => h k (clo_mono 9 _ _ ?_ k hk)
    intro j hj
    obtain ⟨x, hx, hj⟩ := List.mem_flatMap.1 hj
    exact hmem x hx j hj
  rw [e, e2, e2]
theorem slice_local (d : TD) (x : AV) (lo hi : Option AV) (h : ∀ k ∈ x.refs, H' k = H k) : semSlice T H' d x lo hi = semSlice T H d x lo hi := by
  unfold semSlice
  cases d <;> cases x <;> try rfl
  all_goals
    simp only [AV.refs, List.mem_singleton, forall_eq] at h
    simp only [h]
theorem cut_local (d : TD) (x : AV) (lo hi : Option AV) (h : ∀ k ∈ x.refs, H' k = H k) : semCut T H' nid d x lo hi = semCut T H nid d x lo hi := by
  cases x <;> cases d <;> try rfl
  simp only [AV.refs, List.mem_singleton, forall_eq] at h
  cases lo <;> try rfl
  cases hi with
  | none => rfl
  | some y =>
    cases y <;> try rfl
    simp only [semCut]
    rw [h]
theorem semOp_local (o : Oper) (h : ∀ k ∈ readsOf ev H o, H' k = H k) : semOp T env ev H' nid o = semOp T env ev H nid o := by
  unfold readsOf at h
  unfold semOp
  cases ho : o.op <;> simp only [ho] at h ⊢
  case load t x => cases hx : ev x <;> simp only [hx, AV.refs, List.mem_singleton, forall_eq] at h ⊢ <;> rw [h]
  case store t x y =>
    cases hx : ev x <;> simp only [hx] at h ⊢
    case rptr k i off =>
      rw [h k (by simp)]
      cases hk : H k <;> simp only
      case hrow e ty xs i0 off0 =>
        cases hy : ev y <;> simp only
        rename_i j
        rw [h j (by simp [hy, AV.refs])]
    all_goals (simp only [AV.refs, List.mem_singleton, forall_eq] at h; rw [h])
  case lookup t x i b =>
    cases b with
    | true => rfl
    | false => cases hx : ev x <;> simp only [hx, AV.refs, List.mem_singleton, forall_eq] at h ⊢ <;> rw [h]
  case mapUpdate t x i y => cases hx : ev x <;> simp only [hx, AV.refs, List.mem_singleton, forall_eq] at h ⊢ <;> rw [h]
  case mapEntry t x i => cases hx : ev x <;> simp only [hx, AV.refs, List.mem_singleton, forall_eq] at h ⊢ <;> rw [h]
  case entryStore t x i y => cases hx : ev x <;> simp only [hx, AV.refs, List.mem_singleton, forall_eq] at h ⊢ <;> rw [h]
  case range t x => cases hx : ev x <;> simp only [hx, AV.refs, List.mem_singleton, forall_eq] at h ⊢ <;> rw [h]
  case entry x =>
    cases hx : ev x <;> simp only [hx] at h ⊢
    rename_i k
    have h1 := h k (by simp)
    rw [h1]
    cases hk : H k <;> simp only
    rename_i m n seen cur
    rw [h m (by simp [hk, Ob.refs])]
  case indexAddr t x i => cases hx : ev x <;> simp only [hx, AV.refs, List.mem_singleton, forall_eq] at h ⊢ <;> rw [h]
  case slice t x lo hi mx =>
    cases mx with
    | some m => cases lo <;> cases hi <;> rfl
    | none =>
      have e : (bif env.eats.contains (o.dst.getD 0) then semCut T H' nid (T.at_ t).d (ev x) (lo.map ev) (hi.map ev) else semSlice T H' (T.at_ t).d (ev x) (lo.map ev) (hi.map ev)) = bif env.eats.contains (o.dst.getD 0) then semCut T H nid (T.at_ t).d (ev x) (lo.map ev) (hi.map ev) else semSlice T H (T.at_ t).d (ev x) (lo.map ev) (hi.map ev) := by
        rw [slice_local _ _ _ _ h, cut_local _ _ _ _ h]
      cases lo <;> cases hi <;> exact e
  case binOp op t x y t' =>
    rw [isNil_local (ev x) h]
  case call c =>
    cases hc : c.callee <;> simp only [hc] at h ⊢
    case builtin b =>
      simp only [semBuiltin]
      split
      · rename_i x hx
        split
        · rename_i t ht
          split
          · have e : elems H' (typed T t x) = elems H (typed T t x) := by
              apply elems_local
              intro k hk
              rw [typed_refs] at hk
              apply h
              obtain ⟨y, hy⟩ : ∃ y, c.args.toList = [y] ∧ ev y = x := by
                match hl : c.args.toList, hx with
                | [y], hx => simp at hx; exact ⟨y, rfl, hx⟩
              rw [hy.1]
              simp only [List.flatMap_cons, List.flatMap_nil, List.append_nil, hy.2]
              exact hk
            have e3 : ∀ k ∈ (typed T t x).refs, H' k = H k := by
              intro k hk
              rw [typed_refs] at hk
              apply h
              obtain ⟨y, hy⟩ : ∃ y, c.args.toList = [y] ∧ ev y = x := by
                match hl : c.args.toList, hx with
                | [y], hx => simp at hx; exact ⟨y, rfl, hx⟩
              rw [hy.1]
              simp only [List.flatMap_cons, List.flatMap_nil, List.append_nil, hy.2]
              exact hk
            cases hy : typed T t x <;> simp only [hy] at e e3 ⊢ <;> first
              | rw [e3 _ (by simp [AV.refs]), e]
              | rw [e]
              | rw [e3 _ (by simp [AV.refs])]
          · rfl
          · have e3 : ∀ k ∈ x.refs, H' k = H k := by
              intro k hk
              apply h
              obtain ⟨y, hy⟩ : ∃ y, c.args.toList = [y] ∧ ev y = x := by
                match hl : c.args.toList, hx with
                | [y], hx => simp at hx; exact ⟨y, rfl, hx⟩
              rw [hy.1]
              simp only [List.flatMap_cons, List.flatMap_nil, List.append_nil, hy.2]
              exact hk
            cases hy : x <;> simp only [hy, AV.refs, List.mem_singleton, forall_eq] at e3 ⊢
            rw [e3]
          · rfl
        · rfl
      · rename_i s x hx
        split
        · obtain ⟨y, z, hy⟩ : ∃ y z, c.args.toList = [y, z] ∧ ev y = s ∧ ev z = x := by
            match hl : c.args.toList, hx with
            | [y, z], hx => simp at hx; exact ⟨y, z, rfl, hx⟩
          rw [hy.1] at h
          simp only [List.flatMap_cons, List.flatMap_nil, List.append_nil, hy.2.1, hy.2.2, List.mem_append] at h
          generalize c.argTypes.toList.getD 0 0 = t
          have e1 : elems H' (typed T t x) = elems H (typed T t x) := elems_local _ fun k hk => h k (.inr (by rwa [typed_refs] at hk))
          have e2 : ∀ k ∈ (typed T t s).refs, H' k = H k := fun k hk => h k (.inl (by rwa [typed_refs] at hk))
          have e3 : ∀ k ∈ s.refs, H' k = H k := fun k hk => h k (.inl hk)
          have e4 : ∀ k ∈ x.refs, H' k = H k := fun k hk => h k (.inr hk)
          have eA : semAppend T H' nid t s (typed T t x) = semAppend T H nid t s (typed T t x) := by
            unfold semAppend
            rw [e1]
            cases hd : (T.at_ t).d <;> simp only
            split
            · split
              · cases hs : typed T t s <;> simp only [hs, AV.refs, List.mem_singleton, forall_eq] at e2 ⊢
                · rw [e2]
                · simp only [viewOf, e2]
              · rfl
            · rfl
          split
          · unfold semAppendP
            rw [e3 _ (by simp [AV.refs]), e4 _ (by simp [AV.refs])]
          · rw [eA]
            unfold semAppendO
            rw [e3 _ (by simp [AV.refs]), e4 _ (by simp [AV.refs])]
          · exact eA
        · rfl
      · rfl
      · rfl
      · rename_i x hx
        split
        · have e3 : ∀ k ∈ x.refs, H' k = H k := by
            intro k hk
            apply h
            obtain ⟨y, hy⟩ : ∃ y, c.args.toList = [y] ∧ ev y = x := by
              match hl : c.args.toList, hx with
              | [y], hx => simp at hx; exact ⟨y, rfl, hx⟩
            rw [hy.1]
            simp only [List.flatMap_cons, List.flatMap_nil, List.append_nil, hy.2]
            exact hk
          unfold semClear
          cases hy : x <;> simp only [hy, AV.refs, List.mem_singleton, forall_eq] at e3 ⊢ <;> first
            | (cases (T.at_ _).d <;> first | rfl | (simp only [e3]))
        · rfl
      · rfl
    case value f =>
      apply call_local
      intro k hk
      apply h
      rw [List.flatMap_map] at hk
      exact hk
end
end Go.Proofs.Ytkpjcmiijlpcaaa.Aw
