/- An abstract program logic over the model, eighth part: elements, values that are built, new variables, stores. -/
import Derived.Test.YtkpjcmiijlpcaaaAwG
import Derived.Laws.CopyRow
namespace Go.Proofs.Ytkpjcmiijlpcaaa.Aw
open Go

theorem foldl_set (us : List Value) : ∀ (k off : Nat) (cs : Array Value), off + k + us.length ≤ cs.size →
    ((us.zipIdx k).foldl (fun cs p => cs.setIfInBounds (off + p.2) p.1) cs).toList = cs.toList.take (off + k) ++ us ++ cs.toList.drop (off + k + us.length) := by
  induction us with
  | nil => intro k off cs _; simp
  | cons u us ih =>
    intro k off cs h
    simp only [List.zipIdx_cons, List.foldl_cons]
    simp only [List.length_cons] at h
    rw [ih (k + 1) off (cs.setIfInBounds (off + k) u) (by simp; omega)]
    have hlo : off + k < cs.toList.length := by simp; omega
    rw [Array.toList_setIfInBounds, show off + (k + 1) = off + k + 1 by omega, List.take_succ_eq_append_getElem (by simpa using hlo), List.take_set_of_le (Nat.le_refl _), List.drop_set_of_lt (by omega)]
    simp [Nat.add_assoc, Nat.add_comm 1]
section
variable {P : Program} {T : Tab} {env : Env} {M S0 : Nat → Prop} {w0 : World} {S : Nat → Prop} {β : Nat → Cr} {H : Nat → Ob} {w : World} {o : Oper} {a : Act} {ev : Operand → AV} {nid : Nat} {r : Res}
/-- Parts put in their places. -/
theorem fill_of {i : TI} {place : Nat → Option (Nat × Nat)} (hp : ∀ f q, partOf T i f = some q → place f = some q) (hev : ∀ x, VL S w β H (ev x) [a.eval x]) :
    ∀ (ps : List (Nat × Operand)) (l l' : List AV) (cs : Array Value), VLs S w β H l cs.toList → fillL T i l (ps.map fun p => (p.1, ev p.2)) = some l' →
      ∃ cs', Instr.fill place cs (ps.map fun p => (p.1, a.eval p.2)) = some cs' ∧ VLs S w β H l' cs'.toList
  | [], l, l', cs, hv, h => by simp only [List.map_nil, fillL] at h; cases h; exact ⟨cs, rfl, hv⟩
  | (f, x) :: ps, l, l', cs, hv, h => by
    simp only [List.map_cons, fillL] at h
    split at h
    · rename_i off n hq
      split at h
      · rename_i us hc
        split at h
        · rename_i hl
          obtain ⟨hu, _⟩ := VL.cells_of hc (hev x)
          have hlen := VLs.length _ _ hu
          have hlen2 := VLs.length _ _ hv
          have h1 := VLs.putL l cs.toList off us _ hv hu (by rw [hlen, hlen2, hl.1]; exact hl.2)
          have hs : (a.eval x).cells.size = n := by rw [← Array.length_toList, hlen]; exact hl.1
          have e : ((a.eval x).cells.zipIdx.foldl (fun cs p => cs.setIfInBounds (off + p.2) p.1) cs).toList = cs.toList.take off ++ (a.eval x).cells.toList ++ cs.toList.drop (off + (a.eval x).cells.toList.length) := by
            rw [← Array.foldl_toList, Array.toList_zipIdx]
            have := foldl_set (a.eval x).cells.toList 0 off cs (by rw [hlen, ← Array.length_toList, hlen2, Nat.add_zero, hl.1]; exact hl.2)
            simpa using this
          rw [← e] at h1
          obtain ⟨cs', g1, g2⟩ := fill_of hp hev ps _ l' _ h1 h
          refine ⟨cs', ?_, g2⟩
          simp only [List.map_cons, Instr.fill, hp f _ hq]
          have hcs : cs.size = l.length := by rw [← Array.length_toList, hlen2]
          rw [if_neg (by simp only [hs, hcs, ne_eq, not_true_eq_false, decide_false, Bool.false_or, decide_eq_true_eq]; omega)]
          exact g1
        · cases h
      · cases h
    · cases h
theorem places_of {fields : List Field} (h : ∀ f ∈ fields, (P.info? f.type).isSome = true) : ∃ places, fields.mapM (fun f => (P.info? f.type).map fun i => (f.offset, i.size)) = some places ∧ ∀ (j : Nat) (f : Field) i, fields[j]? = some f → P.info? f.type = some i → places[j]? = some (f.offset, i.size) := by
  induction fields with
  | nil => exact ⟨[], by simp, fun j f i hj => by simp at hj⟩
  | cons f fs ih =>
    obtain ⟨i, hi⟩ := Option.isSome_iff_exists.1 (h f (by simp))
    obtain ⟨ps, h1, h2⟩ := ih (fun g hg => h g (by simp [hg]))
    refine ⟨(f.offset, i.size) :: ps, by simp [List.mapM_cons, hi, h1], fun j g k hj hk => ?_⟩
    cases j with
    | zero => simp at hj; subst hj; rw [hi] at hk; cases hk; rfl
    | succ j => simp at hj ⊢; exact h2 j g k hj hk
theorem zero_of (hT : TabOk P T) {t : TypeId} (hd : (T.at_ t).d ≠ .unk) : ∃ f z, P.info? t = some f ∧ f.zero = some z ∧ f.size = (T.at_ t).size ∧ ∀ S w β H, VLs S w β H (T.at_ t).zero z.cells.toList := by
  obtain ⟨f, h1, h2, _, z, h3, h4⟩ := (hT t hd).info
  exact ⟨f, z, h1, h3, h2, h4⟩
theorem built_of (hT : TabOk P T) (hev : ∀ x, VL S w β H (ev x) [a.eval x]) {t : TypeId} {ps : List (Nat × Operand)} {l' : List AV} (h : fillL T (T.at_ t) (T.at_ t).zero (ps.map fun p => (p.1, ev p.2)) = some l') (hd : (∃ fs, (T.at_ t).d = .struct fs) ∨ ∃ n e, (T.at_ t).d = .array n e) :
    ∃ cs', P.built t (ps.map fun p => (p.1, a.eval p.2)) = some cs' ∧ VLs S w β H l' cs'.toList := by
  rcases hd with ⟨fs, hd⟩ | ⟨n, e, hd⟩
  · obtain ⟨f, z, h1, h3, h2, h4⟩ := zero_of hT (t := t) (by rw [hd]; simp)
    have hdesc := (hT t (by rw [hd]; simp)).desc
    unfold DescOk at hdesc
    rw [hd] at hdesc
    obtain ⟨fields, g1, g2, g3⟩ := hdesc
    obtain ⟨places, k1, k2⟩ := places_of g3
    have hp : ∀ f q, partOf T (T.at_ t) f = some q → places.toArray[f]? = some q := by
      intro f q hq
      obtain ⟨off, n⟩ := q
      obtain ⟨t', m1, m2, m3⟩ := partOf_struct hd hq
      have m4 : (fields.toList.map (fun f => (f.offset, f.type)))[f]? = some (off, t') := by rw [g2]; exact m1
      rw [List.getElem?_map] at m4
      obtain ⟨fl, m5, m6⟩ := Option.map_eq_some_iff.1 m4
      simp only [Prod.mk.injEq] at m6
      obtain ⟨i, n1, n2, _⟩ := (hT t' m3).info
      have := k2 f fl i m5 (by rw [m6.2]; exact n1)
      rw [m6.1, n2, m2] at this
      simpa using this
    obtain ⟨cs', q1, q2⟩ := fill_of (T := T) hp hev ps _ l' z.cells (h4 _ _ _ _) h
    refine ⟨cs', ?_, q2⟩
    simp only [Program.built, h1, g1, h3, k1]
    exact q1
  · obtain ⟨f, z, h1, h3, h2, h4⟩ := zero_of hT (t := t) (by rw [hd]; simp)
    have hdesc := (hT t (by rw [hd]; simp)).desc
    unfold DescOk at hdesc
    rw [hd] at hdesc
    obtain ⟨hu, hi⟩ := hdesc
    obtain ⟨ie, n1⟩ := Option.isSome_iff_exists.1 hi
    have hp : ∀ f q, partOf T (T.at_ t) f = some q → (some (f * ie.size, ie.size) : Option (Nat × Nat)) = some q := by
      intro f q hq
      simp only [partOf, hd] at hq
      split at hq
      · cases hq
      · rename_i hk
        obtain ⟨ie', m1, m2, _⟩ := (hT e (fun h => hk h)).info
        rw [n1] at m1
        cases m1
        split at hq
        · cases hq; rw [m2]
        · cases hq
    obtain ⟨cs', q1, q2⟩ := fill_of (T := T) (place := fun i => some (i * ie.size, ie.size)) hp hev ps _ l' z.cells (h4 _ _ _ _) h
    refine ⟨cs', ?_, q2⟩
    simp only [Program.built, h1, hu, h3, n1]
    exact q1
theorem s_build {t : TypeId} {ps : Array (Nat × Operand)} (ho : o.op = .build t ps) (c : Cx P T M S0 w0 S β H w a ev nid r) (hs : semOp T env ev H nid o = some r) : Goes P M S0 w0 S β H w o a r := by
  simp only [semOp, ho] at hs
  split at hs
  · rename_i hg
    split at hs
    · rename_i cs hf
      simp only [ok, Option.some.injEq] at hs
      have hd : (∃ fs, (T.at_ t).d = .struct fs) ∨ ∃ n e, (T.at_ t).d = .array n e := by
        cases hd : (T.at_ t).d <;> rw [hd] at hg <;> simp [TD.isAgg] at hg
        · exact .inl ⟨_, rfl⟩
        · exact .inr ⟨_, _, rfl⟩
      obtain ⟨cs', g1, g2⟩ := built_of c.hT c.hev (ps := ps.toList) hf hd
      subst hs
      refine goes_same (u := .agg cs') c rfl (s := Instr.build t (ps.map fun p => (p.1, a.eval p.2))) (by simp only [execOp, ho]) (run_build w t _ cs' ?_) ?_
      · rw [Array.toList_map]; exact g1
      · exact ⟨cs'.toList, by simp, VLs.of_list _ _ g2⟩
    · cases hs
  · cases hs
theorem s_alloc {t : TypeId} (ho : o.op = .alloc t) (c : Cx P T M S0 w0 S β H w a ev nid r) (hs : semOp T env ev H nid o = some r) : Goes P M S0 w0 S β H w o a r := by
  simp only [semOp, ho] at hs
  have main : (T.at_ t).d ≠ .unk → some (⟨[], .ptr nid 0, [(nid, .cells t (T.at_ t).zero)]⟩ : Res) = some r → Goes P M S0 w0 S β H w o a r := by
    intro hd hs
    simp only [Option.some.injEq] at hs
    subst hs
    obtain ⟨f, z, h1, h3, h2, h4⟩ := zero_of c.hT hd
    have hn : H nid = .none := c.fresh (by simp)
    obtain ⟨hr, hx⟩ := c.rel.new nid hn z.cells t 0 (.cells t (T.at_ t).zero) (fun β' H' w' _ hh => ⟨_, z.cells.toList, rfl, by simpa using hh, h4 _ _ _ _⟩)
    intro next Q hnx
    refine wp_val (v := .pointer (some ⟨w.heap.size, 0, none⟩)) (s := Instr.alloc t true (.tuple #[])) (by simp only [execOp, ho]) ?_ (hnx _ _ _ _ hr ⟨_, rfl, ?_⟩ hx)
    · simp only [Instr.alloc, zeroValue, typeInfo, newVar, newRow, newObj]
      simp [h1, h3, Sem.run, program]
    · simp only [leaf, updH_one]
      exact ⟨_, by rw [setC_one], rfl⟩
  split at hs
  · cases hs
  · rename_i hd
    exact main (fun h => hd h) hs
theorem s_box {t : TypeId} {x : Operand} (ho : o.op = .box t x) (c : Cx P T M S0 w0 S β H w a ev nid r) (hs : semOp T env ev H nid o = some r) : Goes P M S0 w0 S β H w o a r := by
  simp only [semOp, ho] at hs
  split at hs
  · rename_i l hc
    simp only [Option.some.injEq] at hs
    subst hs
    obtain ⟨hv, _⟩ := VL.cells_of hc (c.hev x)
    have hn : H nid = .none := c.fresh (by simp)
    obtain ⟨hr, hx⟩ := c.rel.new nid hn (a.eval x).cells t 0 (.cells t l) (fun β' H' w' he hh => ⟨_, (a.eval x).cells.toList, rfl, by simpa using hh, VLs.ext he _ _ hv⟩)
    intro next Q hnx
    refine wp_val (v := .pointer (some ⟨w.heap.size, 0, none⟩)) (s := Instr.box t (a.eval x)) (by simp only [execOp, ho]) ?_ (hnx _ _ _ _ hr ⟨_, rfl, ?_⟩ hx)
    · simp only [Instr.box, newVar, newRow, newObj]
      simp [Sem.run]
    · simp only [leaf, updH_one]
      exact ⟨_, by rw [setC_one], rfl⟩
  · cases hs
end
end Go.Proofs.Ytkpjcmiijlpcaaa.Aw
