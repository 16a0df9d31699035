/- An abstract program logic over the model, sixteenth part: a call within a body; each operation there is. -/
import Derived.Test.YtjhhkfjabaojhaaAwO
namespace Go.Proofs.Ytjhhkfjabaojhaa.Aw
open Go

section
variable {P : Program} {T : Tab} {env : Env} {M S0 : Nat → Prop} {w0 : World} {S S1 : Nat → Prop} {β : Nat → Cr} {H : Nat → Ob} {w : World} {o : Oper} {a : Act} {ev : Operand → AV} {nid : Nat} {r : Res}
/-- What a call leaves, put to what was there. -/
theorem Rel.call (h : Rel M S0 w0 S β H w) {S' : Nat → Prop} {β' : Nat → Cr} {news : List Ob} {w' : World} {v : AV} {u : Value}
    (hc : Rel (fun _ => False) S1 w S' β' (newsH news) w') (hv : VL S' w' β' (newsH news) v [u]) (hn : ∀ k, nid ≤ k → k < nid + news.length → H k = .none)
    (hcase : (v.noList = true ∧ news.all Ob.noList = true) ∨ ∀ b, S1 b → S b) :
    ∃ S2 β2, Rel M S0 w0 S2 β2 (updH H ((news.zipIdx nid).map fun p => (p.2, p.1.shift nid))) w' ∧
      VL S2 w' β2 (updH H ((news.zipIdx nid).map fun p => (p.2, p.1.shift nid))) (v.shift nid) [u] ∧
      Ext S w β H S2 w' β2 (updH H ((news.zipIdx nid).map fun p => (p.2, p.1.shift nid))) := by
  let S2 : Nat → Prop := fun b => S b ∨ (S' b ∧ w.heap.size ≤ b)
  let β2 : Nat → Cr := fun k => if nid ≤ k ∧ k < nid + news.length then β' (k - nid) else β k
  have hH : ∀ k, updH H ((news.zipIdx nid).map fun p => (p.2, p.1.shift nid)) k = if nid ≤ k ∧ k < nid + news.length then (news.getD (k - nid) .none).shift nid else H k := by
    intro k
    unfold updH
    rw [lookup_news]
    split <;> rfl
  generalize updH H ((news.zipIdx nid).map fun p => (p.2, p.1.shift nid)) = H2 at hH
  have hblk : ∀ b, b < w.heap.size → w'.heap[b]? = w.heap[b]? := fun b hb => hc.fr.block b hb (fun e => e)
  have hx : Ext S w β H S2 w' β2 H2 := by
    refine ⟨fun b hb => ⟨.inl hb, hblk b (h.sS b hb).1⟩, fun k => ?_⟩
    rw [hH k]
    by_cases hk : nid ≤ k ∧ k < nid + news.length
    · rw [hn k hk.1 hk.2]; trivial
    · simp only [β2, if_neg hk]; exact ObExt.refl _ _
  have hsh : ∀ k, newsH news k ≠ .none → H2 (k + nid) = (newsH news k).shift nid ∧ β2 (k + nid) = β' k := by
    intro k hk
    have hlt : k < news.length := by
      rcases Nat.lt_or_ge k news.length with h | h
      · exact h
      · exact absurd (by simp [newsH, List.getElem?_eq_none h]) hk
    have hc : nid ≤ k + nid ∧ k + nid < nid + news.length := by omega
    refine ⟨?_, ?_⟩
    · rw [hH, if_pos hc, Nat.add_sub_cancel]
    · simp only [β2, if_pos hc, Nat.add_sub_cancel]
  have hSS : (∀ b, S1 b → S b) → ∀ b, S' b → S2 b := fun hh b hb => (hc.sS b hb).2.elim (fun e => .inl (hh b e)) (fun e => .inr ⟨hb, e⟩)
  have hvl : VL S2 w' β' (newsH news) v [u] := by
    rcases hcase with hcase | hcase
    · exact VL.free v [u] hcase.1 hv
    · exact VL.ext (Ext.wide (hSS hcase)) _ _ hv
  have hob : ∀ k, k < news.length → ObR S2 w' β' (newsH news) (β' k) (newsH news k) := by
    intro k hk
    rcases hcase with hcase | hcase
    · refine ObR.free _ _ ?_ (hc.ob k)
      rw [List.all_eq_true] at hcase
      refine hcase.2 _ ?_
      simp only [newsH, List.getD, List.getElem?_eq_getElem hk, Option.getD_some]
      exact List.getElem_mem hk
    · exact ObR.ext (Ext.wide (hSS hcase)) _ _ (fun g _ => rfl) (hc.ob k)
  have lv : ∀ ob : Ob, (ob.shift nid).live = ob.live := fun ob => by cases ob <;> rfl
  refine ⟨S2, β2, ⟨⟨hc.fr.os.trans h.fr.os, hc.fr.tape.trans h.fr.tape, hc.fr.output.trans h.fr.output, Nat.le_trans h.fr.size hc.fr.size, fun b hb hm => (hblk b (Nat.lt_of_lt_of_le hb h.fr.size)).trans (h.fr.block b hb hm)⟩, fun b hb => .inl (h.s0 b hb), ?_, ?_, ?_, ?_⟩, VL.shift hsh v [u] hvl, hx⟩
  · intro b hb
    rcases hb with hb | ⟨hb, hb2⟩
    · exact ⟨Nat.lt_of_lt_of_le (h.sS b hb).1 hc.fr.size, (h.sS b hb).2⟩
    · exact ⟨(hc.sS b hb).1, .inr (Nat.le_trans h.fr.size hb2)⟩
  · intro k g hl hg
    rw [hH] at hl
    by_cases hk : nid ≤ k ∧ k < nid + news.length
    · rw [if_pos hk, lv] at hl
      simp only [β2, if_pos hk] at hg
      obtain ⟨q1, q2, q3⟩ := hc.own (k - nid) g hl hg
      have q1 := q1.resolve_left (fun e => e)
      refine ⟨.inr (Nat.le_trans h.fr.size q1), q2, ?_⟩
      rintro (e | ⟨e, _⟩)
      · have := (h.sS g e).1; omega
      · exact q3 e
    · rw [if_neg hk] at hl
      simp only [β2, if_neg hk] at hg
      obtain ⟨q1, q2, q3⟩ := h.own k g hl hg
      refine ⟨q1, Nat.lt_of_lt_of_le q2 hc.fr.size, ?_⟩
      rintro (e | ⟨_, e⟩)
      · exact q3 e
      · omega
  · intro k k' g hl hl' hg hg'
    rw [hH] at hl hl'
    by_cases hk : nid ≤ k ∧ k < nid + news.length
    · rw [if_pos hk, lv] at hl
      simp only [β2, if_pos hk] at hg
      by_cases hk' : nid ≤ k' ∧ k' < nid + news.length
      · rw [if_pos hk', lv] at hl'
        simp only [β2, if_pos hk'] at hg'
        have := hc.dis _ _ g hl hl' hg hg'
        omega
      · rw [if_neg hk'] at hl'
        simp only [β2, if_neg hk'] at hg'
        have q1 := (hc.own _ g hl hg).1.resolve_left (fun e => e)
        have q2 := (h.own k' g hl' hg').2.1
        omega
    · rw [if_neg hk] at hl
      simp only [β2, if_neg hk] at hg
      by_cases hk' : nid ≤ k' ∧ k' < nid + news.length
      · rw [if_pos hk', lv] at hl'
        simp only [β2, if_pos hk'] at hg'
        have q1 := (hc.own _ g hl' hg').1.resolve_left (fun e => e)
        have q2 := (h.own k g hl hg).2.1
        omega
      · rw [if_neg hk'] at hl'
        simp only [β2, if_neg hk'] at hg'
        exact h.dis k k' g hl hl' hg hg'
  · intro k
    rw [hH]
    by_cases hk : nid ≤ k ∧ k < nid + news.length
    · rw [if_pos hk]
      simp only [β2, if_pos hk]
      exact ObR.shift hsh _ _ (hob (k - nid) (by omega))
    · rw [if_neg hk]
      simp only [β2, if_neg hk]
      by_cases hl : (H k).live = true
      · exact ObR.ext hx _ _ (fun g hg => hblk g (h.own k g hl hg).2.1) (h.ob k)
      · cases ho : H k with
        | none => trivial
        | dead => trivial
        | cells e cs => rw [ho] at hl; exact absurd rfl hl
        | row e t xs => rw [ho] at hl; exact absurd rfl hl
theorem run_enter {g : FuncId} {fn : Func} (hf : P.funcs[g]? = some fn) (hname : (fn.name == "runtime.NumGoroutine") = false) (hb : fn.body.isNone = false) (args : Array Value) : (callFunc g args).run P w = .ok (.enter g args) w := by
  have h1 : fn.name ≠ "runtime.NumGoroutine" := by simpa using hname
  have h2 : ¬ fn.body = none := by
    intro e
    rw [e] at hb
    cases hb
  simp [callFunc, hf, h1, h2]
theorem s_call {c0 : Call} {f : Operand} (he : EnvOk P env) (ho : o.op = .call c0) (hcal : c0.callee = .value f) (c : Cx P T M S0 w0 S β H w a ev nid r) (hs : semOp T env ev H nid o = some r) : Goes P M S0 w0 S β H w o a r := by
  simp only [semOp, ho, hcal] at hs
  have hf := c.hev f
  unfold semCall at hs
  split at hs
  rotate_left
  · cases hs
  rename_i g x y hfv
  rw [hfv] at hf
  split at hs
  rotate_left
  · cases hs
  rename_i hch
  simp only [Bool.and_eq_true] at hch
  simp only at hs
  split at hs
  rotate_left
  · cases hs
  rename_i told henv
  split at hs
  rotate_left
  · cases hs
  rename_i hcase
  simp only [Option.some.injEq] at hs
  obtain ⟨p, q, e1, h1, h2⟩ := hf
  simp only [List.cons.injEq, and_true] at e1
  have v1 := VL.list_of x p hch.1 h1
  have v2 := VL.list_of y q hch.2 h2
  have vm : ∀ (l : List Operand) (n : Nat), VLs S w β H (((l.map ev).zipIdx n).map fun p => typed T (c0.argTypes.toList.getD p.2 0) p.1) (l.map a.eval) := by
    intro l
    induction l with
    | nil => intro n; exact rfl
    | cons z l ih => intro n; exact ⟨_, _, rfl, VL.typed (c.hev z), ih (n + 1)⟩
  have va := VLs.append _ _ _ _ (VLs.append _ _ _ _ v1 (vm c0.args.toList 0)) v2
  have hpre : ∀ p ∈ told.pre, p := fun p hp => c.hgs p (by rw [← hs]; exact hp)
  obtain ⟨⟨fn, k1, k2, k3⟩, hrun⟩ := he g _ _ henv hpre
  let S1 : Nat → Prop := fun b => S b ∨ ((x.toList ++ ((c0.args.toList.map ev).zipIdx.map fun p => typed T (c0.argTypes.toList.getD p.2 0) p.1) ++ y.toList).any AV.hasRow = true ∧ ∃ k e t xs, H k = .row e t xs ∧ (β k).g = some b)
  have hl := lends_of (S1 := S1) c.rel (fun b hb => .inl hb) _ _ (fun hh k e t xs g hk hg => .inr ⟨hh, k, e, t, xs, hk, hg⟩) va
  have hcalls := hrun S1 w _ (by
    intro b hb
    rcases hb with hb | ⟨_, k, e, t, xs, hk, hg⟩
    · exact (c.rel.sS b hb).1
    · exact (c.rel.own k b (by rw [hk]; rfl) hg).2.1) hl
  intro next Q hn
  unfold Oper.wp execOp
  have eargs : p.toArray ++ c0.args.map a.eval ++ q.toArray = (p ++ c0.args.toList.map a.eval ++ q).toArray := by
    apply Array.toList_inj.1
    simp
  simp only [ho, hcal, resolve, invoke, e1, Deferred.ofValue, Sem.run_bind, Sem.run_pure, Result.andThen_ok, eargs, run_enter k1 k2 k3]
  rw [Oper.upon_enter]
  refine Calls.mono hcalls ?_
  rintro e w' ⟨u, rfl, S', β', hrel, hv⟩
  simp only [Bool.or_eq_true, Bool.and_eq_true, Bool.not_eq_true'] at hcase
  obtain ⟨S2, β2, g1, g2, g3⟩ := c.rel.call (nid := nid) (S1 := S1) hrel hv (by
    intro k hk1 hk2
    obtain ⟨j, hj⟩ : ∃ j, k = nid + j := ⟨k - nid, by omega⟩
    have hmem : (k, (told.news.getD j .none).shift nid) ∈ r.upd := by
      rw [← hs]
      simp only [List.mem_map]
      refine ⟨(told.news.getD j .none, k), ?_, rfl⟩
      rw [List.mk_mem_zipIdx_iff_le_and_getElem?_sub]
      refine ⟨hk1, ?_⟩
      rw [hj, Nat.add_sub_cancel_left]
      simp only [List.getD]
      rw [List.getElem?_eq_getElem (by omega)]
      rfl
    exact c.hnid _ hmem hk1) (by
    rcases hcase with hcase | hcase
    · exact .inl hcase
    · refine .inr fun b hb => ?_
      rcases hb with hb | ⟨hb, _⟩
      · exact hb
      · rw [hcase] at hb; cases hb)
  subst hs
  exact hn u w' S2 β2 g1 g2 g3
/-- WHAT IS TOLD OF AN OPERATION IS SO. -/
theorem semOp_sound (he : EnvOk P env) (c : Cx P T M S0 w0 S β H w a ev nid r) (hs : semOp T env ev H nid o = some r) : Goes P M S0 w0 S β H w o a r := by
  cases ho : o.op
  case move x => exact s_move ho c hs
  case assign x => exact s_assign ho c hs
  case pick x y z => exact s_pick ho c hs
  case alloc t => exact s_alloc ho c hs
  case box t x => exact s_box ho c hs
  case build t ps => exact s_build ho c hs
  case buildSlice t n ps => exact s_buildSlice ho c hs
  case load t x => exact s_load ho c hs
  case store t x y => exact s_store ho c hs
  case nilCheck x => exact s_nilCheck ho c hs
  case binOp op t x y t' => exact s_bin ho c hs
  case unOp op t x => exact s_un ho c hs
  case convert s d x => exact s_convert ho c hs
  case fieldAddr s x f => exact s_fieldAddr ho c hs
  case field s x f => exact s_field ho c hs
  case indexAddr t x i => exact s_indexAddr ho c hs
  case index t x i => exact s_index ho c hs
  case extract x i => exact s_extract ho c hs
  case makeFunc f x y => exact s_makeFunc ho c hs
  case slice t x lo hi mx =>
    cases mx with
    | none => exact s_slice ho c hs
    | some m => unfold semOp at hs; rw [ho] at hs; cases hs
  case call c0 =>
    cases hc : c0.callee
    case builtin b => exact s_builtin ho hc c hs
    case value f => exact s_call he ho hc c hs
    case invoke x n => unfold semOp at hs; rw [ho] at hs; simp only [hc] at hs; cases hs
  all_goals (unfold semOp at hs; rw [ho] at hs; cases hs)
end
end Go.Proofs.Ytjhhkfjabaojhaa.Aw
