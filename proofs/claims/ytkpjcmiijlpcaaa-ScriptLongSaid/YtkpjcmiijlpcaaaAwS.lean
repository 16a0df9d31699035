/- An abstract program logic over the model, nineteenth part: every order of a region comes to the same. -/
import Derived.Test.YtkpjcmiijlpcaaaAwR
namespace Go.Proofs.Ytkpjcmiijlpcaaa.Aw
open Go

structure Apart (ok : Bool) (ops : Array Oper) (x y : RR) : Prop where
  a1 : ∀ d, x.o.dst = some d → d ∉ y.o.looksAt ops
  a2 : ∀ d, x.o.dst = some d → y.o.dst ≠ some d
  a3 : ∀ d, y.o.dst = some d → d ∉ x.o.looksAt ops
  b1 : ∀ k ∈ x.c.keys, k ∉ effR ok y.c
  b2 : ∀ k ∈ x.c.keys, k ∉ y.c.keys
  b3 : ∀ k ∈ y.c.keys, k ∉ effR ok x.c
theorem disj_spec {l m : List Nat} (h : disj l m = true) : ∀ k ∈ l, k ∉ m := by
  intro k hk hm
  have := List.all_eq_true.1 h k hk
  simp [hm] at this
theorem apartRc_spec {ok : Bool} {ops : Array Oper} {x y : RR} (hx : ops[x.c.i]? = some x.o) (hy : ops[y.c.i]? = some y.o) (h : apartRc ok ops x.c y.c = true) : Apart ok ops x y := by
  unfold apartRc dstOf looksOf at h
  simp only [hx, hy, Bool.and_eq_true] at h
  obtain ⟨⟨⟨⟨g1, g2⟩, g3⟩, h2⟩, h3⟩ := h
  refine ⟨fun d hd => bit_apart g1 d (by simp [hd]), fun d hd e => bit_apart g2 d (by simp [hd]) (by simp [e]), fun d hd => bit_apart g3 d (by simp [hd]), fun k hk hm => disj_spec h2 k hk (by simp [hm]), fun k hk hm => disj_spec h2 k hk (by simp [hm]), disj_spec h3⟩
theorem indep_pairs {ok : Bool} {ops : Array Oper} {tab : List (Nat × Nat)} : ∀ l : List Rc, indepAll ok ops tab l = true → l.Pairwise fun y x => (looked tab y.i).testBit x.i = true ∨ apartRc ok ops x y = true
  | [], _ => .nil
  | y :: l, h => by
    simp only [indepAll, Bool.and_eq_true, List.all_eq_true, Bool.or_eq_true] at h
    exact .cons (fun x hx => h.1 x hx) (indep_pairs l h.2)
def Closed (ops : Array Oper) (D : Nat → Bool) : Prop := ∀ i, D i = true → ∀ p ∈ predsOf ops i, D p = true
theorem anc_closed {ops : Array Oper} {D : Nat → Bool} (hD : Closed ops D) : ∀ (l : List Nat) (tab : List (Nat × Nat)), (∀ i, D i = true → ∀ x, (looked tab i).testBit x = true → D x = true) → ∀ i, D i = true → ∀ x, (looked (ancGo ops l tab) i).testBit x = true → D x = true
  | [], _, h => h
  | j :: l, tab, h => anc_closed hD l _ (by
    intro i hi x hx
    unfold looked at hx
    simp only [List.lookup] at hx
    by_cases e : i = j
    · subst e
      simp only [beq_self_eq_true, Option.getD_some] at hx
      change (maskOf (predsOf ops i) ||| orAll tab (predsOf ops i)).testBit x = true at hx
      rw [Nat.testBit_or, Bool.or_eq_true] at hx
      rcases hx with hx | hx
      · exact hD i hi x ((bit_mask _ _).1 hx)
      · obtain ⟨p, hp, hx⟩ := bit_all tab _ _ hx
        exact h p (hD i hi p hp) x hx
    · have e' : (i == j) = false := by simpa using e
      rw [e'] at hx
      exact h i hi x hx)
theorem bef_spec {ops : Array Oper} : ∀ (pre : List Nat) (i : Nat) (post d : List Nat), befGo ops (pre ++ i :: post) d = true → (∀ p ∈ predsOf ops i, p ∈ pre ∨ p ∈ d) ∧ i ∉ pre ∧ i ∉ d
  | [], i, post, d, h => by
    simp only [List.nil_append, befGo, Bool.and_eq_true, List.all_eq_true, Bool.not_eq_true'] at h
    refine ⟨fun p hp => .inr (by simpa using h.1.1 p hp), by simp, by simpa using h.1.2⟩
  | j :: pre, i, post, d, h => by
    simp only [List.cons_append, befGo, Bool.and_eq_true] at h
    obtain ⟨h1, h2, h3⟩ := bef_spec pre i post (j :: d) h.2
    refine ⟨fun p hp => ?_, ?_, ?_⟩
    · rcases h1 p hp with e | e
      · exact .inl (by simp [e])
      · rcases List.mem_cons.1 e with rfl | e
        · exact .inl (by simp)
        · exact .inr e
    · intro e
      rcases List.mem_cons.1 e with rfl | e
      · exact h3 (by simp)
      · exact h2 e
    · exact fun e => h3 (by simp [e])
section
variable {P : Program} {T : Tab} {env : Env} {M S0 : Nat → Prop} {w0 : World} {π : Pin} {S : Nat → Prop} {β : Nat → Cr} {H H' : Nat → Ob} {w : World} {a : Act} {sl sl' : List AV} {ρ : Option Nat}
theorem evA_const (s s' : List AV) (v : Value) : evA s (.const v) = evA s' (.const v) := by
  unfold evA
  split <;> simp_all
theorem Inv.congr (h : Inv M S0 w0 π sl H S β a w) (h1 : sl'.length = sl.length) (h2 : ∀ t, sl'.getD t .undef = sl.getD t .undef) (h3 : ∀ k, H' k = H k) : Inv M S0 w0 π sl' H' S β a w := by
  have e : H' = H := funext h3
  subst e
  exact ⟨h.rel, by rw [h1]; exact h.len, fun t => by rw [h2 t]; exact h.sl t, h.nod, h.pin⟩
/-- One operation more, whatever has been done. -/
theorem step_any (he : EnvOk P env) (hT : TabOk P T) {ops : Array Oper} {Q : Exit → Act → World → Prop} {K : Act → World → Prop} {pre post : List RR} {r : RR} {D : Nat → Bool} {ok : Bool}
    (hsoft : ok = true → ∀ k ∈ r.c.soft, ∀ q ∈ pre ++ post, ∀ p ∈ q.upd, p.1 = k → p.2.shape = (H k).shape)
    (hc : StepA T env ops (slotsF sl pre) (HF H pre) r) (hD : D r.c.i = false)
    (hpre : ∀ q ∈ pre, D q.c.i = false → Apart ok ops q r) (hpost : ∀ q ∈ post, D q.c.i = true → Apart ok ops r q) (hkeys : ∀ q ∈ pre ++ post, q.c.keys = q.upd.map (·.1)) (hni : ∀ q ∈ pre ++ post, q.c.i ≠ r.c.i)
    (hi : Inv M S0 w0 π (slotsF sl ((pre ++ r :: post).filter fun q => D q.c.i)) (HF H ((pre ++ r :: post).filter fun q => D q.c.i)) S β a w)
    (hk : ∀ S' β' a' w', Inv M S0 w0 π (slotsF sl ((pre ++ r :: post).filter fun q => D q.c.i || q.c.i == r.c.i)) (HF H ((pre ++ r :: post).filter fun q => D q.c.i || q.c.i == r.c.i)) S' β' a' w' → K a' w') :
    wpOpIn (Wd ρ) 0 P ops Q r.c.i K a w := by
  obtain ⟨ho, hrk, hcase⟩ := hc
  have f1 : (pre ++ r :: post).filter (fun q => D q.c.i) = pre.filter (fun q => D q.c.i) ++ post.filter (fun q => D q.c.i) := by
    rw [List.filter_append, List.filter_cons_of_neg (by rw [hD]; simp)]
  have g1 : ∀ l : List RR, (∀ q ∈ l, q.c.i ≠ r.c.i) → l.filter (fun q => D q.c.i || q.c.i == r.c.i) = l.filter (fun q => D q.c.i) := by
    intro l hl
    apply List.filter_congr
    intro q hq
    have : (q.c.i == r.c.i) = false := by simpa using hl q hq
    rw [this, Bool.or_false]
  have f2 : (pre ++ r :: post).filter (fun q => D q.c.i || q.c.i == r.c.i) = pre.filter (fun q => D q.c.i) ++ r :: post.filter (fun q => D q.c.i) := by
    rw [List.filter_append, List.filter_cons_of_pos (by simp), g1 pre (fun q hq => hni q (by simp [hq])), g1 post (fun q hq => hni q (by simp [hq]))]
  rw [f1] at hi
  rw [f2] at hk
  have hpp : ∀ q ∈ post.filter (fun q => D q.c.i), q ∈ post ∧ D q.c.i = true := fun q hq => List.mem_filter.1 hq
  have es : ∀ t, (∀ q ∈ pre, D q.c.i = false → q.o.dst ≠ some t) → (∀ q ∈ post, D q.c.i = true → q.o.dst ≠ some t) → (slotsF sl (pre.filter (fun q => D q.c.i) ++ post.filter (fun q => D q.c.i))).getD t .undef = (slotsF sl pre).getD t .undef := by
    intro t h1 h2
    unfold slotsF
    rw [List.foldl_append]
    refine (slots_skip _ _ fun q hq => h2 q (hpp q hq).1 (hpp q hq).2).trans ?_
    exact slots_filter pre sl sl rfl rfl h1
  have eh : ∀ k, (∀ q ∈ pre, D q.c.i = false → k ∉ q.c.keys) → (∀ q ∈ post, D q.c.i = true → k ∉ q.c.keys) → HF H (pre.filter (fun q => D q.c.i) ++ post.filter (fun q => D q.c.i)) k = HF H pre k := by
    intro k h1 h2
    unfold HF
    rw [List.foldl_append]
    refine (H_skip _ _ fun q hq => ?_).trans ?_
    · rw [← hkeys q (by simp [(hpp q hq).1])]
      exact h2 q (hpp q hq).1 (hpp q hq).2
    · exact H_filter pre H H rfl (fun q hq hd => by rw [← hkeys q (by simp [hq])]; exact h1 q hq hd)
  have elook : ∀ t, t ∈ r.o.looksAt ops → (slotsF sl (pre.filter (fun q => D q.c.i) ++ post.filter (fun q => D q.c.i))).getD t .undef = (slotsF sl pre).getD t .undef := fun t ht =>
    es t (fun q hq hd e => (hpre q hq hd).a1 t e ht) (fun q hq hd e => (hpost q hq hd).a3 t e ht)
  have eev : ∀ x ∈ r.o.op.operands, evA (slotsF sl (pre.filter (fun q => D q.c.i) ++ post.filter (fun q => D q.c.i))) x = evA (slotsF sl pre) x := by
    intro x hx
    cases x with
    | tmp t => exact elook t (List.mem_append_left _ (List.mem_filterMap.2 ⟨.tmp t, by simpa using hx, rfl⟩))
    | const v => exact evA_const _ _ v
    | global g => rfl
    | func f => rfl
  have ew : wantedA ops (slotsF sl (pre.filter (fun q => D q.c.i) ++ post.filter (fun q => D q.c.i))) r.o = wantedA ops (slotsF sl pre) r.o := by
    unfold wantedA
    cases hg : r.o.guard with
    | none => rfl
    | some gw =>
      obtain ⟨g, want⟩ := gw
      cases ht : (ops[g]?).bind (·.dst) with
      | none => simp only [ht]
      | some t =>
        simp only [ht]
        rw [elook t (by simp [Oper.looksAt, hg, ht])]
  -- the state that comes
  have hnext : ∀ S' β' a' w', Inv M S0 w0 π (putSlot (slotsF sl (pre.filter (fun q => D q.c.i) ++ post.filter (fun q => D q.c.i))) r.o.dst r.v) (updH (HF H (pre.filter (fun q => D q.c.i) ++ post.filter (fun q => D q.c.i))) r.upd) S' β' a' w' → K a' w' := by
    intro S' β' a' w' h
    refine hk S' β' a' w' (h.congr ?_ (fun t => ?_) (fun k => ?_))
    · rw [putSlot_length, slotsF_length, slotsF_length]
    · rw [putSlot_get]
      unfold slotsF
      rw [List.foldl_append, List.foldl_append, List.foldl_cons]
      have := slots_put (d := r.o.dst) (v := r.v) (t := t) (post.filter (fun q => D q.c.i)) (slotsF sl (pre.filter (fun q => D q.c.i))) (putSlot (slotsF sl (pre.filter (fun q => D q.c.i))) r.o.dst r.v) (putSlot_length _ _ _) (putSlot_get _ _ _ _) (fun q hq e hd => (hpost q (hpp q hq).1 (hpp q hq).2).a2 e hd)
      refine this.trans ?_
      have hl : (List.foldl (fun sl r => putSlot sl r.o.dst r.v) (List.foldl (fun sl r => putSlot sl r.o.dst r.v) sl (pre.filter (fun q => D q.c.i))) (post.filter (fun q => D q.c.i))).length = (slotsF sl (pre.filter (fun q => D q.c.i))).length := slotsF_length _ _
      rw [hl]
      rfl
    · unfold HF
      rw [List.foldl_append, List.foldl_append, List.foldl_cons]
      exact H_put (post.filter (fun q => D q.c.i)) (HF H (pre.filter (fun q => D q.c.i))) _ rfl (fun q hq hk1 hk2 => by
        have := (hpost q (hpp q hq).1 (hpp q hq).2).b2 k (by rw [hrk]; exact hk1)
        rw [hkeys q (by simp [(hpp q hq).1])] at this
        exact this hk2)
  unfold wpOpIn
  simp only [ho]
  rcases hcase with ⟨hw, res, h1, h2, h3, h4, h5, h5s, _, h6⟩ | ⟨hw, h1, h2⟩
  · rw [wanted_of hi (ew.trans hw)]
    simp only [if_true]
    have hsem : semOp T env (evA (slotsF sl (pre.filter (fun q => D q.c.i) ++ post.filter (fun q => D q.c.i)))) (HF H (pre.filter (fun q => D q.c.i) ++ post.filter (fun q => D q.c.i))) r.nid r.o = some res := by
      obtain ⟨q1, q2⟩ := semOp_congr (T := T) (env := env) (H := HF H (pre.filter (fun q => D q.c.i) ++ post.filter (fun q => D q.c.i))) (nid := r.nid) r.o eev
      rw [q1, semOp_soft r.o (H := HF H pre) (fun k hk => ?_), h1]
      rw [← h5] at hk
      by_cases hks : ok = true ∧ k ∈ r.c.soft
      · right
        refine ⟨by rw [← h5s]; exact hks.2, ?_⟩
        have hq := hsoft hks.1 k hks.2
        rw [shape_HF (c := (H k).shape) _ H (fun q hm => hq q (by
          rcases List.mem_append.1 hm with hm | hm
          · exact List.mem_append_left _ (List.mem_filter.1 hm).1
          · exact List.mem_append_right _ (List.mem_filter.1 hm).1)) rfl, shape_HF (c := (H k).shape) _ H (fun q hm => hq q (List.mem_append_left _ hm)) rfl]
      · left
        have hef : k ∈ effR ok r.c := by
          unfold effR
          cases ok with
          | false => exact hk
          | true =>
            simp only [cond_true]
            refine List.mem_filter.2 ⟨hk, ?_⟩
            have : k ∉ r.c.soft := fun hh => hks ⟨rfl, hh⟩
            simpa using this
        exact eh k (fun q hq hd e => (hpre q hq hd).b1 k e hef) (fun q hq hd e => (hpost q hq hd).b3 k e hef)
    refine op_sound he hT hi hsem h2 ?_ ?_
    · intro p hp hle
      have hkey : p.1 ∈ r.c.keys := by rw [hrk, h4]; exact List.mem_map.2 ⟨p, hp, rfl⟩
      rw [eh p.1 (fun q hq hd e => (hpre q hq hd).b2 _ e hkey) (fun q hq hd e => (hpost q hq hd).b2 _ hkey e)]
      exact h6 p hp hle
    · rw [← h3, ← h4]
      exact hnext
  · rw [wanted_of hi (ew.trans hw)]
    simp only [Bool.false_eq_true, if_false]
    refine ⟨fun _ _ => trivial, hnext S β _ w ?_⟩
    rw [h1, h2, updH_nil]
    exact skip_sound hi r.o.dst
theorem all_orders (he : EnvOk P env) (hT : TabOk P T) {ops : Array Oper} {Q : Exit → Act → World → Prop} {rs : List RR} (hch : Chain T env ops sl H rs) (hord : okOrd ops (rs.map (·.c.i)) = true)
    {ok : Bool} (hokk : ok = true → softOk ((rs.map (·.c)).reverse) = true) (hind : indepAll ok ops (ancGo ops (rs.map (·.c.i)) []) ((rs.map (·.c)).reverse) = true)
    (hQ : ∀ S' β' a' w', Inv M S0 w0 π (slotsF sl rs) (HF H rs) S' β' a' w' → Q .normal a' w') :
    ∀ (fuel : Nat) (todo : List Nat) (listed : Array Bool) (S : Nat → Prop) (β : Nat → Cr) (a : Act) (w : World), listed.size = ops.size → todo.length ≤ fuel → (∀ i, i < ops.size → listed.getD i false = false → i ∈ todo) → Closed ops (fun i => listed.getD i false) →
      Inv M S0 w0 π (slotsF sl (rs.filter fun q => listed.getD q.c.i false)) (HF H (rs.filter fun q => listed.getD q.c.i false)) S β a w → wpAnyIn (Wd ρ) 0 P .any ops Q fuel listed a w := by
  simp only [okOrd, Bool.and_eq_true, List.all_eq_true] at hord
  obtain ⟨hall, hbef⟩ := hord
  have hops : ∀ q ∈ rs, ops[q.c.i]? = some q.o ∧ q.c.keys = q.upd.map (·.1) := by
    intro q hq
    obtain ⟨l, m, rfl⟩ := List.append_of_mem hq
    exact ⟨(hch.split l q m).1, (hch.split l q m).2.1⟩
  have hpair := indep_pairs _ hind
  rw [List.pairwise_reverse, List.pairwise_map] at hpair
  -- all are done: that is the end
  have done : ∀ (listed : Array Bool) (S : Nat → Prop) (β : Nat → Cr) (a : Act) (w : World), (∀ i, i < ops.size → listed.getD i false = true) → Inv M S0 w0 π (slotsF sl (rs.filter fun q => listed.getD q.c.i false)) (HF H (rs.filter fun q => listed.getD q.c.i false)) S β a w → Q .normal a w := by
    intro listed S β a w h hi
    have e : rs.filter (fun q => listed.getD q.c.i false) = rs := by
      rw [List.filter_eq_self]
      intro q hq
      exact h q.c.i (Array.getElem?_eq_some_iff.1 (hops q hq).1).1
    rw [e] at hi
    exact hQ S β a w hi
  have findR : ∀ i, i < ops.size → ∃ pre r post, rs = pre ++ r :: post ∧ r.c.i = i := by
    intro i hi
    have h1 := hall i (List.mem_range.2 hi)
    have h2 : i ∈ rs.map (·.c.i) := by simpa using h1
    obtain ⟨r, hr, e⟩ := List.mem_map.1 h2
    obtain ⟨pre, post, e2⟩ := List.append_of_mem hr
    exact ⟨pre, r, post, e2, e⟩
  intro fuel
  induction fuel with
  | zero =>
    intro todo listed S β a w hsz htodo hun hcl hi
    have hnil : todo = [] := List.eq_nil_of_length_eq_zero (by omega)
    have hfull : ∀ i, i < ops.size → listed.getD i false = true := by
      intro i hlt
      cases h : listed.getD i false with
      | true => rfl
      | false => have := hun i hlt h; rw [hnil] at this; cases this
    refine ⟨?_, done listed S β a w hfull hi⟩
    rw [List.eq_nil_iff_forall_not_mem]
    intro j hj
    obtain ⟨h0, o, ho, _⟩ := mem_ready.1 hj
    have hlt : j < ops.size := (Array.getElem?_eq_some_iff.1 ho).1
    have := hfull j hlt
    simp only [Array.getD_eq_getD_getElem?] at h0 this
    rw [Array.getElem?_eq_getElem (by omega)] at h0 this
    simp at h0 this
    rw [h0] at this
    cases this
  | succ fuel ih =>
    intro todo listed S β a w hsz htodo hun hcl hi
    refine ⟨fun hr => ?_, fun i hir => ?_⟩
    · -- nothing is ready: all are done
      refine done listed S β a w (fun i hlt => ?_) hi
      have key : ∀ (pre : List RR) (r : RR) (post : List RR), rs = pre ++ r :: post → listed.getD r.c.i false = true := by
        intro pre
        induction hn : pre.length using Nat.strongRecOn generalizing pre with
        | _ n ihn =>
          intro r post e
          cases hl : listed.getD r.c.i false with
          | true => rfl
          | false =>
            exfalso
            have hro := (hops r (by rw [e]; simp)).1
            have hrlt : r.c.i < ops.size := (Array.getElem?_eq_some_iff.1 hro).1
            have hmem : r.c.i ∈ Region.ready .any ops listed := by
              rw [mem_ready]
              refine ⟨?_, r.o, hro, fun ed hed hb => ?_⟩
              · simp only [Array.getD_eq_getD_getElem?] at hl ⊢
                rw [Array.getElem?_eq_getElem (by omega)] at hl ⊢
                exact hl
              · have hp : ed.on ∈ predsOf ops r.c.i := by
                  unfold predsOf
                  rw [hro]
                  exact List.mem_map.2 ⟨ed, List.mem_filter.2 ⟨Array.mem_toList_iff.2 hed, hb⟩, rfl⟩
                have hb2 := (bef_spec (pre.map (·.c.i)) r.c.i (post.map (·.c.i)) [] (by rw [e] at hbef; simpa using hbef)).1 _ hp
                rcases hb2 with hb2 | hb2
                · obtain ⟨q, hq, e2⟩ := List.mem_map.1 hb2
                  obtain ⟨l, m, e3⟩ := List.append_of_mem hq
                  rw [← e2]
                  refine ihn l.length ?_ l rfl q (m ++ r :: post) (by rw [e, e3]; simp)
                  rw [← hn, e3]
                  simp
                · cases hb2
            rw [hr] at hmem
            cases hmem
      obtain ⟨pre, r, post, e1, e2⟩ := findR i hlt
      rw [← e2]
      exact key pre r post e1
    · obtain ⟨h0, o, ho, hafter⟩ := mem_ready.1 hir
      have hlt : i < ops.size := (Array.getElem?_eq_some_iff.1 ho).1
      obtain ⟨pre, r, post, e1, rfl⟩ := findR i hlt
      have hD : listed.getD r.c.i false = false := by
        simp only [Array.getD_eq_getD_getElem?] at h0 ⊢
        rw [Array.getElem?_eq_getElem (by omega)] at h0 ⊢
        exact h0
      have hpr : ∀ p ∈ predsOf ops r.c.i, listed.getD p false = true := by
        intro p hp
        unfold predsOf at hp
        rw [ho] at hp
        obtain ⟨ed, hed, rfl⟩ := List.mem_map.1 hp
        obtain ⟨h1, h2⟩ := List.mem_filter.1 hed
        exact hafter ed (Array.mem_toList_iff.1 h1) h2
      have hset : ∀ j, (listed.setIfInBounds r.c.i true).getD j false = (listed.getD j false || j == r.c.i) := by
        intro j
        by_cases e : j = r.c.i
        · subst e
          have : r.c.i < listed.size := by omega
          simp [this]
        · rw [getD_set_ne false (fun h => e h.symm)]
          have : (j == r.c.i) = false := by simpa using e
          rw [this, Bool.or_false]
      have hcl2 : Closed ops (fun j => listed.getD j false || j == r.c.i) := by
        intro j hj p hp
        simp only [Bool.or_eq_true, beq_iff_eq] at hj ⊢
        rcases hj with hj | rfl
        · exact .inl (hcl j hj p hp)
        · exact .inl (hpr p hp)
      have hnod := bef_spec (pre.map (·.c.i)) r.c.i (post.map (·.c.i)) [] (by rw [e1] at hbef; simpa using hbef)
      have hni : ∀ q ∈ pre ++ post, q.c.i ≠ r.c.i := by
        intro q hq e
        rcases List.mem_append.1 hq with hq | hq
        · exact hnod.2.1 (List.mem_map.2 ⟨q, hq, e⟩)
        · obtain ⟨l, m, e3⟩ := List.append_of_mem hq
          have := bef_spec (pre.map (·.c.i) ++ r.c.i :: l.map (·.c.i)) q.c.i (m.map (·.c.i)) [] (by rw [e1, e3] at hbef; simpa using hbef)
          exact this.2.1 (by rw [e]; simp)
      have hst := (by rw [e1] at hch; exact hch : Chain T env ops sl H (pre ++ r :: post)).split pre r post
      rw [e1] at hpair
      obtain ⟨_, hp2, hp3⟩ := List.pairwise_append.1 hpair
      obtain ⟨hp4, _⟩ := List.pairwise_cons.1 hp2
      have hsoft : ok = true → ∀ k ∈ r.c.soft, ∀ q ∈ pre ++ post, ∀ p ∈ q.upd, p.1 = k → p.2.shape = (H k).shape := by
        intro hokt k hk q hq p hp hpk
        have hdis := disj_spec (hokk hokt)
        have hkh : ∀ q ∈ rs, k ∉ q.c.hard := by
          intro q hq hh
          refine hdis k (List.mem_flatMap.2 ⟨r.c, ?_, hk⟩) (List.mem_flatMap.2 ⟨q.c, ?_, hh⟩)
          · rw [List.mem_reverse]; exact List.mem_map.2 ⟨r, by rw [e1]; simp, rfl⟩
          · rw [List.mem_reverse]; exact List.mem_map.2 ⟨q, hq, rfl⟩
        exact chain_soft rs sl H hch hkh q (by rw [e1]; rcases List.mem_append.1 hq with h | h <;> simp [h]) p hp hpk
      refine step_any (sl := sl) (H := H) (pre := pre) (post := post) (D := fun j => listed.getD j false) he hT hsoft hst hD ?_ ?_ ?_ hni (by rw [← e1]; exact hi) ?_
      · intro q hq hd
        rcases hp3 q hq r (by simp) with hc | hc
        · exfalso
          have := anc_closed hcl2 ((pre ++ r :: post).map (·.c.i)) [] (fun i _ x hx => by simp [looked] at hx) r.c.i (by simp) q.c.i hc
          simp only [Bool.or_eq_true, beq_iff_eq] at this
          rcases this with this | this
          · rw [hd] at this; cases this
          · exact hni q (by simp [hq]) this
        · exact apartRc_spec (hops q (by rw [e1]; simp [hq])).1 (hops r (by rw [e1]; simp)).1 hc
      · intro q hq hd
        rcases hp4 q hq with hc | hc
        · exfalso
          have := anc_closed hcl ((pre ++ r :: post).map (·.c.i)) [] (fun i _ x hx => by simp [looked] at hx) q.c.i hd r.c.i hc
          rw [hD] at this
          cases this
        · exact apartRc_spec (hops r (by rw [e1]; simp)).1 (hops q (by rw [e1]; simp [hq])).1 hc
      · intro q hq
        exact (hops q (by rw [e1]; rcases List.mem_append.1 hq with h | h <;> simp [h])).2
      · intro S' β' a' w' hi'
        refine ih (todo.erase r.c.i) (listed.setIfInBounds r.c.i true) S' β' a' w' (by rw [Array.size_setIfInBounds]; exact hsz) ?_ ?_ ?_ ?_
        · have := List.length_erase_of_mem (hun r.c.i hlt hD)
          omega
        · intro j hj hl
          rw [hset j, Bool.or_eq_false_iff] at hl
          exact (List.mem_erase_of_ne (by simpa using hl.2)).2 (hun j hj hl.1)
        · have e : (fun j => (listed.setIfInBounds r.c.i true).getD j false) = fun j => listed.getD j false || j == r.c.i := funext hset
          rw [e]
          exact hcl2
        · have e : (fun q : RR => (listed.setIfInBounds r.c.i true).getD q.c.i false) = fun q : RR => listed.getD q.c.i false || q.c.i == r.c.i := funext fun q => hset q.c.i
          rw [e, e1]
          exact hi'
/-- A REGION. -/
theorem region_sound (he : EnvOk P env) (hT : TabOk P T) (hm : P.follows .mixedOrders = true) {B : Bs} (hY : YieldOk P env B π) {id : Nat} {ops : Array Oper} {draw : Bool} {Q : Exit → Act → World → Prop} {k : St → Prop} {kp : Value → St → Prop} {s : St} (hi : InvB B π s S β a w) (h : regionA T env ops draw s k kp)
    (hk : ∀ s' S' β' a' w', InvB B π s' S' β' a' w' → s'.n = s.n → k s' → Q .normal a' w')
    (hp : ∀ x s' S' β' a' w', InvB B π s' S' β' a' w' → s'.n = s.n → kp x s' → Q (.panic [{ v := x, recovered := false }]) a' w') : (Code.region id ops draw).wpIn (Wd ρ) 0 P Q a w := by
  unfold regionA at h
  cases draw with
  | false => exact wpIn_region (opsO_sound he hT hY _ s S β a w hi h hk hp)
  | true =>
    simp only [cond_true] at h
    cases hord : okOrd ops (orderOf ops) with
    | false => rw [hord] at h; exact h.elim
    | true =>
      rw [hord] at h
      simp only [cond_true] at h
      obtain ⟨rs, s', h1, h2, h3, h4, h6, h5⟩ := ops_chain _ _ _ h
      rw [List.append_nil] at h5
      cases hind : indepAll (softOk ((rs.map (·.c)).reverse)) ops (ancGo ops (orderOf ops) []) ((rs.map (·.c)).reverse) with
      | false => rw [hind] at h5; exact h5.elim
      | true =>
        rw [hind] at h5
        simp only [cond_true] at h5
        obtain ⟨M, S0, w0, hb, hi⟩ := hi
        refine wpIn_region_any hm ?_
        have hgrow := hi.rel.grow (w' := { w with drawn := w.drawn + 1 }) rfl rfl rfl (Nat.le_refl _) (fun _ _ => rfl)
        have hi' : Inv M S0 w0 π s.slots s.H S β a { w with drawn := w.drawn + 1 } := ⟨hgrow.1, hi.len, fun t => VL.ext hgrow.2 _ _ (hi.sl t), hi.nod.mono hgrow.2.hS, fun k hk => (hi.pin k hk).trans (hgrow.2.hO k)⟩
        refine all_orders (sl := s.slots) (H := s.H) he hT (rs := rs) h1 (by rw [h2]; exact hord) (ok := softOk ((rs.map (fun x => x.c)).reverse)) (fun h => h) (by rw [h2]; exact hind) (fun S' β' a' w' hh => hk s' S' β' a' w' ⟨M, S0, w0, by rw [h6.2.1, h6.2.2]; exact hb, by rw [h3, h4]; exact hh⟩ h6.1 h5) ops.size (List.range ops.size) (Array.replicate ops.size false) S β a _ (by simp) (by simp) (fun i hlt _ => List.mem_range.2 hlt) (fun i hd => ?_) ?_
        · simp only [Array.getD_eq_getD_getElem?, Array.getElem?_replicate] at hd
          split at hd <;> cases hd
        · have e : rs.filter (fun q => (Array.replicate ops.size false).getD q.c.i false) = [] := by
            rw [List.filter_eq_nil_iff]
            intro q _
            simp only [Array.getD_eq_getD_getElem?, Array.getElem?_replicate]
            split <;> simp
          rw [e]
          exact hi'
end
end Go.Proofs.Ytkpjcmiijlpcaaa.Aw
