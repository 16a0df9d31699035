/- An abstract program logic over the model, twelfth part: the operations over slices; the least and the greatest. -/
import Derived.Test.YtkpjcmiijlpcaaaAwK
namespace Go.Proofs.Ytkpjcmiijlpcaaa.Aw
open Go

section
variable {P : Program} {T : Tab} {env : Env} {M S0 : Nat → Prop} {w0 : World} {S : Nat → Prop} {β : Nat → Cr} {H : Nat → Ob} {w : World} {o : Oper} {a : Act} {ev : Operand → AV} {nid : Nat} {r : Res}
theorem run_slice_desc {t e : TypeId} (hT : TabOk P T) (hd : (T.at_ t).d = .slice e) : P.underlying t = some (.slice e) := by
  have h := (hT t (by rw [hd]; simp)).desc
  unfold DescOk at h
  rw [hd] at h
  exact h
theorem own_apart (h : Rel M S0 w0 S β H w) {k : Nat} (hk : (H k).live = true) : ∀ b, S b → b < w.heap.size ∧ some b ≠ (β k).g := fun b hb =>
  ⟨(h.sS b hb).1, fun e => (h.own k b hk e.symm).2.2 hb⟩
theorem s_append {c0 : Call} {s x : Operand} {t : TypeId} (ho : o.op = .call c0) (hcal : c0.callee = .builtin .append) (hargs : c0.args.toList = [s, x]) (hty : c0.argTypes.toList = [t, t]) (c : Cx P T M S0 w0 S β H w a ev nid r) (hs : semAppend T H nid t (ev s) (typed T t (ev x)) = some r) : Goes P M S0 w0 S β H w o a r := by
  have key : ∀ {v : Value} {w' : World}, (Builtin.append_ #[t, t] o.type #[a.eval s, a.eval x]).run P w = .ok v w' → ∀ (next : Act → World → Prop) (Q : Exit → Act → World → Prop), next (a.put o.dst v) w' → o.wp P a w next Q := by
    intro v w' hr next Q hn
    have e1 : c0.args = #[s, x] := by apply Array.toList_inj.1; rw [hargs]
    have e2 : c0.argTypes = #[t, t] := by apply Array.toList_inj.1; rw [hty]
    unfold Oper.wp execOp
    simp only [ho, hcal, resolve, invoke, builtin, Sem.run_bind, Sem.run_pure, Result.andThen_ok, e1, e2, List.map_toArray, List.map_cons, List.map_nil, hr]
    exact hn
  unfold semAppend at hs
  split at hs
  rotate_left
  · cases hs
  rename_i e hd
  split at hs
  rotate_left
  · cases hs
  rename_i ty e' t' ys hte hel
  split at hs
  rotate_left
  · cases hs
  rename_i hc
  obtain ⟨rfl, rfl, hsz, hpos, hk, hb⟩ := hc
  obtain ⟨ao, n, cc, news, x1, x2, x3, x4, x5⟩ := elems_of c.rel (VL.typed (c.hev x)) hel
  simp only at hs
  split at hs
  · rename_i k hts
    split at hs
    rotate_left
    · cases hs
    rename_i e1 t1 xs hHk
    split at hs
    rotate_left
    · cases hs
    rename_i h1
    obtain ⟨rfl, rfl⟩ := h1
    simp only [Option.some.injEq] at hs
    have hg := c.hgs ((xs.length + ys.length) * (T.at_ e1).bytes ≤ 140737488355328) (by rw [← hs]; simp)
    have hlive : (H k).live = true := by rw [hHk]; rfl
    obtain ⟨cs, o1, o2, o3⟩ := owned_of c.rel hHk
    have hv := VL.typed (T := T) (ty := t) (c.hev s)
    rw [hts] at hv
    obtain ⟨u, e2, hv⟩ := hv
    cases e2
    simp only [leaf, hHk] at hv
    obtain ⟨v', w', r1, r2, r3, cs', r4, r5⟩ := append_of (ty := o.type) c.hT hd hsz hpos hk hb o2 o1 x1 x2 x4 x5 hg (by rw [o3]; exact own_apart c.rel hlive)
    obtain ⟨cr, q1, q2, q3⟩ := row_of (β' := β) (H' := H) r4 r5
    have hnn : H nid = .none := c.fresh (by rw [← hs]; simp)
    rw [o3] at r2 r3
    obtain ⟨hr, hx⟩ := c.rel.move k nid hlive hnn cr (.row e1 t1 (xs ++ ys)) r2 (by
      intro g hgc
      rw [q3] at hgc
      rcases r3 with h3 | ⟨g', h3, h4, h5⟩
      · rw [hgc] at h3
        exact ⟨.inl h3, Nat.lt_of_lt_of_le (c.rel.own k g hlive h3.symm).2.1 r2.size⟩
      · rw [hgc] at h3
        cases h3
        exact ⟨.inr h4, h5⟩) (by
      intro β' H' hx
      exact q2)
    intro next Q hn
    rw [hv] at key
    refine key r1 next Q (hn v' w' S (setC β nid cr) ?_ ?_ ?_)
    · rw [← hs]; exact hr
    · rw [← hs]
      refine ⟨_, rfl, ?_⟩
      have hne : (nid == k) = false := by
        simp only [beq_eq_false_iff_ne, ne_eq]
        intro e
        rw [← e, hnn] at hlive
        cases hlive
      have hu : updH H [(k, .dead), (nid, .row e1 t1 (xs ++ ys))] nid = .row e1 t1 (xs ++ ys) := by simp [updH, List.lookup, hne]
      simp only [leaf, hu, setC_one]
      exact q1
    · rw [← hs]; exact hx
  · rename_i e1 t1 hts
    split at hs
    rotate_left
    · cases hs
    rename_i h1
    obtain ⟨rfl, rfl⟩ := h1
    simp only [Option.some.injEq] at hs
    have hg := c.hgs (ys.length * (T.at_ e1).bytes ≤ 140737488355328) (by rw [← hs]; simp)
    have hv := VL.typed (T := T) (ty := t) (c.hev s)
    rw [hts] at hv
    obtain ⟨u, e2, hv⟩ := hv
    cases e2
    simp only [leaf] at hv
    obtain ⟨v', w', r1, r2, r3, cs', r4, r5⟩ := append_of (ty := o.type) (v := .slice none 0 0) (xs := []) (cs := []) c.hT hd hsz hpos hk hb (World.ownsRow_nil _ _ _ _) rfl x1 x2 x4 x5 (by simpa using hg) (fun b hb => ⟨(c.rel.sS b hb).1, by simp [Value.ownBlock]⟩)
    rw [List.nil_append] at r4 r5
    obtain ⟨cr, q1, q2, q3⟩ := row_of (β' := β) (H' := H) r4 r5
    have hnn : H nid = .none := c.fresh (by rw [← hs]; simp)
    obtain ⟨hr, hx⟩ := c.rel.born nid hnn cr (.row e1 t1 ys) r2 (by
      intro g hgc
      rw [q3] at hgc
      rcases r3 with h3 | ⟨g', h3, h4, h5⟩
      · rw [hgc] at h3
        cases h3
      · rw [hgc] at h3
        cases h3
        exact ⟨h4, h5⟩) (by
      intro β' H' hx
      exact q2)
    intro next Q hn
    rw [hv] at key
    refine key r1 next Q (hn v' w' S (setC β nid cr) ?_ ?_ ?_)
    · rw [← hs]; exact hr
    · rw [← hs]
      refine ⟨_, rfl, ?_⟩
      simp only [leaf, updH_one, setC_one]
      exact q1
    · rw [← hs]; exact hx
  · cases hs
theorem s_appendP {c0 : Call} {s x : Operand} {t : TypeId} {k j : Nat} (ho : o.op = .call c0) (hcal : c0.callee = .builtin .append) (hargs : c0.args.toList = [s, x]) (hty : c0.argTypes.toList = [t, t]) (c : Cx P T M S0 w0 S β H w a ev nid r) (es : ev s = .prow k) (ex : ev x = .prow j) (hs : semAppendP T H nid t k j = some r) : Goes P M S0 w0 S β H w o a r := by
  have key : ∀ {v : Value} {w' : World}, (Builtin.append_ #[t, t] o.type #[a.eval s, a.eval x]).run P w = .ok v w' → ∀ (next : Act → World → Prop) (Q : Exit → Act → World → Prop), next (a.put o.dst v) w' → o.wp P a w next Q := by
    intro v w' hr next Q hn
    have e1 : c0.args = #[s, x] := by apply Array.toList_inj.1; rw [hargs]
    have e2 : c0.argTypes = #[t, t] := by apply Array.toList_inj.1; rw [hty]
    unfold Oper.wp execOp
    simp only [ho, hcal, resolve, invoke, builtin, Sem.run_bind, Sem.run_pure, Result.andThen_ok, e1, e2, List.map_toArray, List.map_cons, List.map_nil, hr]
    exact hn
  unfold semAppendP at hs
  split at hs
  rotate_left
  · cases hs
  rename_i e e1 xs e2 ys hd hHk hHj
  split at hs
  rotate_left
  · cases hs
  rename_i hc
  obtain ⟨rfl, rfl, hsz, hk, hb, a1, a2⟩ := hc
  simp only [Option.some.injEq] at hs
  have hg := c.hgs ((xs.length + ys.length) * (T.at_ e2).bytes ≤ 140737488355328) (by rw [← hs]; simp)
  have hlive : (H k).live = true := by rw [hHk]; rfl
  obtain ⟨cs, o1, o2, o3, _⟩ := ownedP_of c.rel hHk
  obtain ⟨ds, p1, p2, p3, ao, cc, p4, p5⟩ := ownedP_of c.rel hHj
  have hv := c.hev s
  rw [es] at hv
  obtain ⟨u, e3, hv⟩ := hv
  cases e3
  simp only [leaf, hHk] at hv
  have hx := c.hev x
  rw [ex] at hx
  obtain ⟨u, e3, hx⟩ := hx
  cases e3
  simp only [leaf, hHj] at hx
  obtain ⟨v', w', r1, r2, r3, r4⟩ := appendP_of (ty := o.type) c.hT hd hsz hk hb o2 (hx.trans p4) (VLs.length _ _ p1).symm (VLs.ones _ _ a2 p1) p5 hg
  have hnn : H nid = .none := c.fresh (by rw [← hs]; simp)
  rw [o3] at r2 r3
  have hne : nid ≠ k := by intro e; rw [← e, hnn] at hlive; cases hlive
  obtain ⟨cr, hcr⟩ : ∃ cr : Cr, v' = rowV cr (xs ++ ys).length ∧ cr.g = v'.ownBlock ∧ ((cr.g = none ∧ xs ++ ys = []) ∨ ∃ g cur, cr.g = some g ∧ w'.heap[g]? = some (.cells cur e2 (0, 0)) ∧ (xs ++ ys).length ≤ cr.cap ∧ cr.cap ≤ maxLen ∧ cur.size = cr.cap ∧ cur.toList.take (xs ++ ys).length = cs ++ ds) := by
    have r4' := r4
    rw [← List.length_append] at r4'
    rcases r4'.2 with ⟨e1, e2⟩ | ⟨g, cap, cur, e1, _, e3, e4, e5, e6, e7⟩
    · exact ⟨⟨none, 0⟩, by rw [e1]; rfl, by rw [e1]; rfl, .inl ⟨rfl, List.eq_nil_of_length_eq_zero e2⟩⟩
    · subst e1
      exact ⟨⟨some g, cap⟩, rfl, rfl, .inr ⟨g, cur, rfl, e3, e4, e5, by rw [e6, Nat.mul_one], by rw [Nat.mul_one] at e7; exact e7⟩⟩
  obtain ⟨q1, q3, q2⟩ := hcr
  obtain ⟨hr, hx⟩ := c.rel.move k nid hlive hnn cr (.prow e2 (xs ++ ys)) r2 (by
    intro g hgc
    rw [q3] at hgc
    rcases r3 with h3 | ⟨g', h3, h4, h5⟩
    · rw [hgc] at h3
      exact ⟨.inl h3, Nat.lt_of_lt_of_le (c.rel.own k g hlive h3.symm).2.1 r2.size⟩
    · rw [hgc] at h3
      cases h3
      exact ⟨.inr h4, h5⟩) (by
    intro β' H' hx
    rcases q2 with q2 | ⟨g, cur, g1, g2, g3, g4, g5, g6⟩
    · exact .inl q2
    · exact .inr ⟨g, cur, g1, g2, g3, g4, g5, by rw [g6]; exact VLs.append _ _ _ _ (VLs.ext hx _ _ o1) (VLs.ext hx _ _ p1)⟩)
  intro next Q hn
  rw [hv] at key
  refine key r1 next Q (hn v' w' S (setC β nid cr) ?_ ?_ ?_)
  · rw [← hs]; exact hr
  · rw [← hs]
    refine ⟨_, rfl, ?_⟩
    have hne : (nid == k) = false := by simpa using hne
    have hu : updH H [(k, .dead), (nid, .prow e2 (xs ++ ys))] nid = .prow e2 (xs ++ ys) := by simp [updH, List.lookup, hne]
    simp only [leaf, hu, setC_one]
    exact q1
  · rw [← hs]; exact hx
theorem s_builtin {c0 : Call} {b : Builtin} (ho : o.op = .call c0) (hcal : c0.callee = .builtin b) (c : Cx P T M S0 w0 S β H w a ev nid r) (hs : semOp T env ev H nid o = some r) : Goes P M S0 w0 S β H w o a r := by
  simp only [semOp, ho, hcal] at hs
  have key : ∀ {s : Sem Value} {u : Value} {v : AV}, (∀ consts, builtin b c0.argTypes o.type consts (c0.args.map a.eval) = (do pure (Next.value (← s)))) → s.run P w = .ok u w → VL S w β H v [u] → r = ⟨[], v, []⟩ → Goes P M S0 w0 S β H w o a r := by
    intro s u v h1 h2 h3 h4
    subst h4
    intro next Q hn
    unfold Oper.wp execOp
    simp only [ho, hcal, resolve, invoke, Sem.run_bind, Sem.run_pure, Result.andThen_ok, h1, h2]
    exact hn u w S β (by rw [updH_nil]; exact c.rel) (by rw [updH_nil]; exact h3) (by rw [updH_nil]; exact Ext.refl _ _ _ _)
  have two : ∀ {x y : AV}, c0.args.toList.map ev = [x, y] → ∃ x' y', c0.args.toList = [x', y'] ∧ ev x' = x ∧ ev y' = y := by
    intro x y h
    match hl : c0.args.toList, h with
    | [x', y'], h => simp at h; exact ⟨x', y', rfl, h.1, h.2⟩
  unfold semBuiltin at hs
  split at hs
  · rename_i xx hxx
    obtain ⟨x', hargs, hx'⟩ : ∃ x', c0.args.toList = [x'] ∧ ev x' = xx := by
      match hl : c0.args.toList, hxx with
      | [x'], h => simp at h; exact ⟨x', rfl, h⟩
    have ea : c0.args = #[x'] := by apply Array.toList_inj.1; rw [hargs]
    split at hs
    rotate_left
    · cases hs
    rename_i t hty
    have et : c0.argTypes = #[t] := by apply Array.toList_inj.1; rw [hty]
    split at hs
    · rename_i e hd
      split at hs
      · cases hs
      · rename_i k hy
        split at hs
        · rename_i e' cs hk
          simp only [ok, Option.some.injEq] at hs
          have hv := VL.typed (T := T) (ty := t) (c.hev x')
          rw [hx', hy] at hv
          obtain ⟨u, e1, hl⟩ := hv
          simp only [List.cons.injEq, and_true] at e1
          simp only [leaf, hk] at hl
          have ht := run_slice_desc c.hT hd
          obtain ⟨_, _, _, _, ao, cc, q1, _⟩ := ownedP_of c.rel hk
          refine key (s := Builtin.len_ c0.argTypes o.type (c0.args.map a.eval)) (u := .int .i64 cs.length) (v := .int .i64 cs.length) (fun _ => rfl) ?_ ⟨_, rfl, rfl⟩ hs.symm
          rw [ea, et]
          simp [Builtin.len_, run_underlying ht, e1, hl, q1, goInt]
        · cases hs
      · rename_i y hy _
        split at hs
        · rename_i l hel
          simp only [ok, Option.some.injEq] at hs
          have hv := VL.typed (T := T) (ty := t) (c.hev x')
          rw [hx'] at hv
          obtain ⟨ao, n, cc, news, q1, q2, _, _, _⟩ := elems_of c.rel hv hel
          have ht := run_slice_desc c.hT hd
          refine key (s := Builtin.len_ c0.argTypes o.type (c0.args.map a.eval)) (u := .int .i64 n) (fun _ => rfl) ?_ ?_ hs.symm
          · rw [ea, et]
            simp [Builtin.len_, run_underlying ht, q1, goInt]
          · exact ⟨_, rfl, by rw [q2]; exact rfl⟩
        · cases hs
    · rename_i n e hd
      simp only [ok, Option.some.injEq] at hs
      have h := (c.hT t (by rw [hd]; simp)).desc
      unfold DescOk at h
      rw [hd] at h
      refine key (s := Builtin.len_ c0.argTypes o.type (c0.args.map a.eval)) (u := .int .i64 n) (v := .int .i64 n) (fun _ => rfl) ?_ ⟨_, rfl, rfl⟩ hs.symm
      rw [ea, et]
      simp [Builtin.len_, run_underlying h.1, goInt]
    · rename_i kt0 et0 hd
      split at hs
      · rename_i k
        split at hs
        · rename_i ag ty es hk
          simp only [ok, Option.some.injEq] at hs
          have hv := c.hev x'
          rw [hx'] at hv
          obtain ⟨u, e1, hl⟩ := hv
          simp only [List.cons.injEq, and_true] at e1
          simp only [leaf, hk] at hl
          obtain ⟨g, hg, hu⟩ := hl
          have hob := c.rel.ob k
          rw [hk] at hob
          obtain ⟨g', l, q1, q2, q3, _⟩ := hob
          rw [hg] at q1
          cases q1
          have h := (c.hT t (by rw [hd]; simp)).desc
          unfold DescOk at h
          rw [hd] at h
          refine key (s := Builtin.len_ c0.argTypes o.type (c0.args.map a.eval)) (u := .int .i64 es.length) (v := .int .i64 es.length) (fun _ => rfl) ?_ ⟨_, rfl, rfl⟩ hs.symm
          rw [ea, et]
          simp [Builtin.len_, run_underlying h.1, goInt, e1, hu, MapKept.run_getObj_map q2, q3]
        · cases hs
      · cases hs
    · cases hs
  · rename_i s x hxx
    obtain ⟨s', x', hargs, e1, e2⟩ := two hxx
    split at hs
    · rename_i hty
      subst e1
      subst e2
      split at hs
      · rename_i hk hj
        exact s_appendP ho hcal hargs hty c hk hj hs
      · exact s_append ho hcal hargs hty c hs
    · cases hs
  · rename_i x y hxx
    obtain ⟨x', y', hargs, e1, e2⟩ := two hxx
    have ea : c0.args = #[x', y'] := by apply Array.toList_inj.1; rw [hargs]
    split at hs
    · rename_i vx vy hx hy
      obtain ⟨z, h1, h2⟩ := Option.bind_eq_some_iff.1 hs
      simp only [ok, Option.some.injEq] at h2
      obtain ⟨u, e, hu⟩ := ofSem_of (S := S) (w := w) (β := β) (H := H) h1
      refine key (s := Builtin.max_ c0.argTypes o.type #[vx, vy]) ?_ ?_ hu h2.symm
      · intro _
        rw [ea]
        have hvx := toV_of (c.hev x') (by rw [e1]; exact hx)
        have hvy := toV_of (c.hev y') (by rw [e2]; exact hy)
        simp only [List.map_toArray, List.map_cons, List.map_nil, hvx, hvy]
        rfl
      · rw [Array.toArray_toList] at e
        rw [e]; rfl
    · cases hs
  · rename_i x y hxx
    obtain ⟨x', y', hargs, e1, e2⟩ := two hxx
    have ea : c0.args = #[x', y'] := by apply Array.toList_inj.1; rw [hargs]
    split at hs
    · rename_i vx vy hx hy
      obtain ⟨z, h1, h2⟩ := Option.bind_eq_some_iff.1 hs
      simp only [ok, Option.some.injEq] at h2
      obtain ⟨u, e, hu⟩ := ofSem_of (S := S) (w := w) (β := β) (H := H) h1
      refine key (s := Builtin.min_ c0.argTypes o.type #[vx, vy]) ?_ ?_ hu h2.symm
      · intro _
        rw [ea]
        have hvx := toV_of (c.hev x') (by rw [e1]; exact hx)
        have hvy := toV_of (c.hev y') (by rw [e2]; exact hy)
        simp only [List.map_toArray, List.map_cons, List.map_nil, hvx, hvy]
        rfl
      · rw [Array.toArray_toList] at e
        rw [e]; rfl
    · cases hs
  · cases hs
end
end Go.Proofs.Ytkpjcmiijlpcaaa.Aw
