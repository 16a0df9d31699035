/- An abstract program logic over the model: functions of which one row that is handed in is . -/
import Derived.Test.YtkpjcmiijlpcaaaAwW
import Derived.Test.YtkpjcmiijlpcaaaAwAA
namespace Go.Proofs.Ytkpjcmiijlpcaaa.Aw
open Go
def mvF (k N j : Nat) : Nat := bif Nat.beq j k then N else j
def mvL (obs : List Ob) (k : Nat) : List Ob := (obs.map (Ob.reN (mvF k obs.length))).set k .dead ++ [(newsH obs k).reN (mvF k obs.length)]
def startM (fn : Func) (args : List AV) (obs : List Ob) (k : Nat) : St := ⟨args.map (AV.reN (mvF k obs.length)) ++ List.replicate (fn.ntmps - (args.map (AV.reN (mvF k obs.length))).length) .undef, mvL obs k, obs.length, 0, false⟩
def fnM (T : Tab) (env : Env) (fn : Func) (c : Code) (args : List AV) (obs : List Ob) (k : Nat) (R : AV → List Ob → Prop) : Prop :=
  codeA T env c (resTmps fn) (startM fn args obs k) (endA T fn R)
theorem mvF_eq (k N : Nat) : mvF k N k = N := by simp [mvF]
theorem mvF_ne {k N j : Nat} (h : j ≠ k) : mvF k N j = j := by
  have : Nat.beq j k = false := by
    cases e : Nat.beq j k with
    | false => rfl
    | true => exact absurd (Nat.eq_of_beq_eq_true e) h
  simp [mvF, this]
theorem newsH_out {obs : List Ob} {j : Nat} (h : obs.length ≤ j) : newsH obs j = .none := by
  simp only [newsH, List.getD]
  rw [List.getElem?_eq_none h]
  rfl
theorem mvL_N {obs : List Ob} {k : Nat} : newsH (mvL obs k) obs.length = (newsH obs k).reN (mvF k obs.length) := by
  simp only [mvL, newsH, List.getD]
  rw [List.getElem?_append_right (by simp)]
  simp
theorem mvL_k {obs : List Ob} {k : Nat} (hk : k < obs.length) : newsH (mvL obs k) k = .dead := by
  simp only [mvL, newsH, List.getD]
  rw [List.getElem?_append_left (by simpa using hk), List.getElem?_set_self (by simpa using hk)]
  rfl
theorem mvL_j {obs : List Ob} {k j : Nat} (h : j < obs.length) (hj : j ≠ k) : newsH (mvL obs k) j = (newsH obs j).reN (mvF k obs.length) := by
  simp only [mvL, newsH, List.getD]
  rw [List.getElem?_append_left (by simpa using h), List.getElem?_set_ne (fun e => hj e.symm), List.getElem?_map, List.getElem?_eq_getElem h]
  rfl
theorem mvL_out {obs : List Ob} {k j : Nat} (h : obs.length < j) : newsH (mvL obs k) j = .none := newsH_out (by simp [mvL]; omega)
theorem reN_live (f : Nat → Nat) (o : Ob) : (o.reN f).live = o.live := by cases o <;> rfl
theorem ObExt.reN' (c : Cr) (o : Ob) (f : Nat → Nat) : ObExt c o c (o.reN f) := by
  cases o with
  | none => trivial
  | dead => rfl
  | cells e cs => exact .inr ⟨rfl, _, rfl⟩
  | prow e cs => exact .inr ⟨rfl, _, rfl, by simp⟩
  | mit m n seen cur => exact .inr ⟨rfl, _, _, _, _, rfl⟩
  | row e t xs => exact ObExt.refl _ _
  | map ag t es => exact ObExt.refl _ _
  | orow e t xs => exact ObExt.refl _ _
  | hrow e t xs i off => exact ObExt.refl _ _
def mvC (β : Nat → Cr) (k N j : Nat) : Cr := if j = N then β k else β j
section
variable {M S0 : Nat → Prop} {w0 : World} {S : Nat → Prop} {β : Nat → Cr} {w : World}
theorem mv_hs {obs : List Ob} {k : Nat} (j : Nat) (hj : newsH obs j ≠ .none) : newsH (mvL obs k) (mvF k obs.length j) = (newsH obs j).reN (mvF k obs.length) ∧ mvC β k obs.length (mvF k obs.length j) = β j := by
  have hlt : j < obs.length := by
    rcases Nat.lt_or_ge j obs.length with h | h
    · exact h
    · exact absurd (newsH_out h) hj
  by_cases e : j = k
  · subst e
    rw [mvF_eq]
    exact ⟨mvL_N, by simp [mvC]⟩
  · rw [mvF_ne e]
    exact ⟨mvL_j hlt e, by simp [mvC]; intro h; omega⟩
theorem mv_back {obs : List Ob} {k : Nat} (hk : k < obs.length) (j : Nat) (hl : (newsH (mvL obs k) j).live = true) : ∃ i, j = mvF k obs.length i ∧ (newsH obs i).live = true ∧ mvC β k obs.length j = β i ∧ newsH (mvL obs k) j = (newsH obs i).reN (mvF k obs.length) := by
  rcases Nat.lt_trichotomy j obs.length with h | h | h
  · by_cases e : j = k
    · subst e; rw [mvL_k hk] at hl; cases hl
    · rw [mvL_j h e, reN_live] at hl
      exact ⟨j, (mvF_ne e).symm, hl, by simp [mvC]; intro h'; omega, mvL_j h e⟩
  · subst h
    rw [mvL_N, reN_live] at hl
    exact ⟨k, (mvF_eq k _).symm, hl, by simp [mvC], mvL_N⟩
  · rw [mvL_out h] at hl; cases hl
theorem Rel.moved {obs : List Ob} {k : Nat} (h : Rel M S0 w0 S β (newsH obs) w) (hk : k < obs.length) : Rel M S0 w0 S (mvC β k obs.length) (newsH (mvL obs k)) w := by
  refine ⟨h.fr, h.s0, h.sS, fun j g hl hg => ?_, fun j j' g hl hl' hg hg' => ?_, fun j => ?_⟩
  · obtain ⟨i, _, h2, h3, _⟩ := mv_back (β := β) hk j hl
    rw [h3] at hg
    exact h.own i g h2 hg
  · obtain ⟨i, h1, h2, h3, _⟩ := mv_back (β := β) hk j hl
    obtain ⟨i', h1', h2', h3', _⟩ := mv_back (β := β) hk j' hl'
    rw [h3] at hg
    rw [h3'] at hg'
    have := h.dis i i' g h2 h2' hg hg'
    rw [h1, h1', this]
  · cases hl : (newsH (mvL obs k) j).live with
    | false => exact ObR.idle hl
    | true =>
      obtain ⟨i, h1, h2, h3, h4⟩ := mv_back (β := β) hk j hl
      rw [h3, h4]
      exact ObR.reN (fun j hj => mv_hs j hj) _ _ (h.ob i)
end
theorem fn_ok2M {P : Program} {T : Tab} {env : Env} (he : EnvOk P env) (hT : TabOk P T) (hm : P.follows .mixedOrders = true) {g : FuncId} {fn : Func} (hf : P.funcs[g]? = some fn) (hname : (fn.name == "runtime.NumGoroutine") = false) (hb : fn.body.isSome = true) {args : List AV} {obs : List Ob} {v : AV} {obs' : List Ob} (k : Nat) (hk : k < obs.length)
    (h : fnM T env fn (bodyOf fn) args obs k fun v' o' => v' = v ∧ o' = obs') (hy : env.ycnt = 0 ∧ env.isIt = false := by exact ⟨rfl, rfl⟩) : ACalls2 P g args obs v obs' := by
  obtain ⟨c, hc⟩ := Option.isSome_iff_exists.1 hb
  have e : bodyOf fn = c := by unfold bodyOf; rw [hc]; rfl
  rw [e] at h
  refine ⟨⟨fn, hf, hname, by rw [hc]; rfl⟩, fun S β w vs hrel hvs => ?_⟩
  refine (callsIn_wide (n := 0)).1 (callsIn_of_wp_marks (F := Wd none) hf hc trivial ?_)
  have hrel2 := hrel.moved hk
  have hvs2 := VLs.reN (fun j hj => mv_hs (β := β) (k := k) j hj) args vs hvs
  have hi := start_inv (π := ⟨obs.length, β, newsH obs, false⟩) (fn := fn) (n := obs.length) (vs := vs) hrel2 hvs2 (fun j hj => by
    by_cases e : j = k
    · subst e; show ObExt _ _ _ (newsH (mvL obs j) j); rw [mvL_k hj]; exact ObExt.dead' _ _ _
    · have hj : j < obs.length := hj
      have e2 : mvC β k obs.length j = β j := by simp [mvC]; intro h'; omega
      show ObExt (β j) (newsH obs j) (mvC β k obs.length j) (newsH (mvL obs k) j)
      rw [mvL_j hj e, e2]
      exact ObExt.reN' _ _ _)
  exact code_sound hT hm c env he none (baseB _ _ _) ⟨obs.length, β, newsH obs, false⟩ (YieldOk.none hy) recs_none (fun h => by cases h) (fun h => by cases h) _ _ _ _ S (mvC β k obs.length) _ w ⟨_, _, _, ⟨rfl, rfl, rfl⟩, hi⟩ rfl h (fun e s S' β' a' w' h1 h2 h3 => end_sound (RP := fun _ _ => False) hT (fun v' news' S' β' w' u h1 h2 hp h3 => ⟨u, rfl, S', β', by rw [← h3.2]; exact h1, by rw [← h3.2, ← h3.1]; exact h2, by rw [← h3.2]; exact hp⟩) (fun _ _ _ _ _ _ _ h => h.elim) e s S' β' a' w' h1 h2 (endP_of h3))
def fnIM (T : Tab) (env : Env) (fn : Func) (c : Code) (args caps : List AV) (obs : List Ob) (k : Nat) (l cnt : Nat) (arg : Nat → List AV) : Prop :=
  codeA T (env.it l cnt arg) c (resTmps fn) (startM fn (args ++ [.fn (.yield l) .nl .nl] ++ caps) obs k) (endI T fn cnt)
theorem mv_pin {β : Nat → Cr} {obs : List Ob} {k : Nat} (hk : k < obs.length) (j : Nat) (hj : j < obs.length) : ObExt (β j) (newsH obs j) (mvC β k obs.length j) (newsH (mvL obs k) j) := by
  by_cases e : j = k
  · subst e; rw [mvL_k hj]; exact ObExt.dead' _ _ _
  · have e2 : mvC β k obs.length j = β j := by simp [mvC]; intro h'; omega
    rw [mvL_j hj e, e2]
    exact ObExt.reN' _ _ _
section
variable {P : Program} {T : Tab} {env : Env} {M S0 : Nat → Prop} {w0 : World} {π : Pin} {S : Nat → Prop} {β : Nat → Cr} {H : Nat → Ob} {w : World} {a : Act} {sl : List AV}
theorem fn_iterM (he : EnvOk P env) (hT : TabOk P T) (hm : P.follows .mixedOrders = true) {g : FuncId} {fn : Func} {c : Code} (hf : P.funcs[g]? = some fn) (hname : (fn.name == "runtime.NumGoroutine") = false) (hb : fn.body = some c) {args caps : List AV} {obs : List Ob} {cnt : Nat} {arg : Nat → List AV} (k : Nat) (hk : k < obs.length)
    (h : ∀ l, fnIM T env fn c args caps obs k l cnt arg) : AIter P g args caps obs cnt arg := by
  refine ⟨⟨fn, hf, hname, by rw [hb]; rfl⟩, fun S β w vs cs l J X W hrel hvs hcs hJs hJr hJ0 hX hW => ?_⟩
  refine (callsIn_wide (n := 0)).1 (callsIn_of_wp_marks (F := Wd none) hf hb trivial ?_)
  have hva : VLs S w β (newsH obs) (args ++ [.fn (.yield l) .nl .nl] ++ caps) (vs ++ [Value.func (.yield l) #[] #[]] ++ cs) := VLs.append _ _ _ _ (VLs.append _ _ _ _ hvs ⟨_, _, rfl, ⟨[], [], rfl, rfl, rfl⟩, rfl⟩) hcs
  have hi := start_inv (π := ⟨obs.length, β, newsH obs, true⟩) (fn := fn) (n := obs.length) (hrel.moved hk) (VLs.reN (fun j hj => mv_hs (β := β) (k := k) j hj) _ _ hva) (mv_pin hk)
  let B : Bs := fun i st M0 S0 w0 => ∃ X' W', J i st X' W' w0 ∧ (∀ b, X' b → b < w0.heap.size ∧ ¬ M0 b) ∧ (∀ b, W' b → X' b ∧ ¬ S0 b) ∧ (∀ b, W' b → W b ∨ w.heap.size ≤ b) ∧ Fr (fun b => W b ∨ Mof β obs b) w w0 ∧ (∀ b, M0 b → Mof β obs b ∨ w.heap.size ≤ b) ∧ (∀ b, S0 b → S b ∨ w.heap.size ≤ b)
  have he' : EnvOk P (env.it l cnt arg) := ⟨he.one, he.two, he.pan, he.iter⟩
  have hY1 : Yield1 P (env.it l cnt arg) B ⟨obs.length, β, newsH obs, true⟩ := by
    rintro y M0 S0 w0 sl H S1 β1 a w1 us ⟨X', W', j1, j2, j3, j4, j5, j6, j7⟩ hi hlt hus hrefs
    have hj := hJs _ _ _ _ _ w1 j1 hi.rel.fr.os hi.rel.fr.tape hi.rel.fr.output hi.rel.fr.size (fun g hg => hi.rel.fr.block g (j2 g hg).1 (j2 g hg).2)
    have hz := hi.rel.fr.size
    have hzw := j5.size
    have hSW : ∀ b, S1 b → b < w1.heap.size ∧ ¬ W' b ∧ (S b ∨ w.heap.size ≤ b) := by
      intro b hb
      refine ⟨(hi.rel.sS b hb).1, fun hw => ?_, ?_⟩
      · rcases (hi.rel.sS b hb).2 with h | h
        · exact (j3 b hw).2 h
        · have := (j2 b (j3 b hw).1).1; omega
      · rcases (hi.rel.sS b hb).2 with h | h
        · exact j7 b h
        · exact .inr (by omega)
    obtain ⟨f, tmps, asg, bod, y1, y2⟩ := hJr y X' W' S1 w1 us hlt hj (by omega) (VLs.any _ _ hrefs hus) hSW
    refine ⟨f, tmps, asg, bod, y1, y2.mono ?_⟩
    rintro e w2 ⟨b, X2, W2, rfl, g1, g2, g3, g4⟩
    have hz2 := g2.size
    have hno : ∀ b, ownB β1 H b → ¬ X' b := by
      rintro b ⟨k, hl, hg⟩ hx
      rcases (hi.rel.own k b hl hg).1 with h | h
      · exact (j2 b hx).2 h
      · have := (j2 b hx).1; omega
    obtain ⟨r1, r2⟩ := hi.rel.rebase (w' := w2) hz2 (fun b hb => g2.block b (hSW b hb).1 (hSW b hb).2.1) (fun b hb => g2.block b (by obtain ⟨k, hl, hg⟩ := hb; exact (hi.rel.own k b hl hg).2.1) (fun hw => hno b hb (j3 b hw).1))
    refine ⟨b, rfl, ownB β1 H, S1, w2, ⟨X2, W2, g1, fun g hg => ⟨(g4 g hg).2, fun ho => ?_⟩, fun g hg => ⟨(g3 g hg).1, fun hs => ?_⟩, fun g hg => ?_, ?_, fun g hg => ?_, fun g hg => (hSW g hg).2.2⟩, ⟨r1, hi.len, fun t => VL.ext r2 _ _ (hi.sl t), ⟨hi.nod.1, by rw [hi.nod.1 rfl]; trivial⟩, hi.pin⟩⟩
    · rcases (g4 g hg).1 with h | h | h
      · exact hno g ho h
      · obtain ⟨k, hl, hg⟩ := ho
        exact (hi.rel.own k g hl hg).2.2 h
      · obtain ⟨k, hl, hg⟩ := ho
        have := (hi.rel.own k g hl hg).2.1; omega
    · rcases (g3 g hg).2 with h | h
      · exact (hSW g hs).2.1 h
      · have := (hSW g hs).1; omega
    · rcases (g3 g hg).2 with h | h
      · exact j4 g h
      · exact .inr (by omega)
    · refine ⟨g2.os.trans (hi.rel.fr.os.trans j5.os), g2.tape.trans (hi.rel.fr.tape.trans j5.tape), g2.output.trans (hi.rel.fr.output.trans j5.output), by omega, fun b hb hn => ?_⟩
      rw [g2.block b (by omega) (fun hw => ?_), hi.rel.fr.block b (by omega) (fun hm => ?_), j5.block b hb hn]
      · rcases j6 b hm with h | h
        · exact hn (.inr h)
        · omega
      · rcases j4 b hw with h | h
        · exact hn (.inl h)
        · omega
    · obtain ⟨k, hl, hg'⟩ := hg
      rcases (hi.rel.own k g hl hg').1 with h | h
      · exact j6 g h
      · exact .inr (by omega)
  have hY : YieldOk P (env.it l cnt arg) B ⟨obs.length, β, newsH obs, true⟩ := ⟨hY1, iter_dlg (S := S) (w := w) hJs hJr rfl⟩
  refine code_sound hT hm c (env.it l cnt arg) he' none B ⟨obs.length, β, newsH obs, true⟩ hY recs_none (fun _ => .inr rfl) (fun h => by cases h) _ _ _ _ S (mvC β k obs.length) _ w ⟨_, _, _, ⟨X, W, hJ0, hX, hW, fun b hb => .inl hb, Fr.refl _ _, fun b hb => .inl hb, fun b hb => .inl hb⟩, hi⟩ rfl (h l) ?_
  have key : ∀ (s : St) (S1 : Nat → Prop) (β1 : Nat → Cr) (a : Act) (w1 : World), InvB B ⟨obs.length, β, newsH obs, true⟩ s S1 β1 a w1 → (resA T s fn.results.toList).isSome = true ∧ (s.stop = true ∨ s.y = cnt) → LeavesInM (Wd none) 0 P fn a.tmps (fun e w' => ∃ u i st X' W', e = .returned u ∧ J i st X' W' w' ∧ (st = true ∨ i = cnt) ∧ Fr (fun b => W b ∨ Mof β obs b) w w') a.defers .returning w1 := by
    rintro s S1 β1 a w1 ⟨M0, S0, w0, ⟨X', W', j1, j2, j3, j4, j5, j6, j7⟩, hi⟩ ⟨hr, hst⟩
    rw [hi.nod.1 rfl]
    obtain ⟨vs', hvs'⟩ := Option.isSome_iff_exists.1 hr
    obtain ⟨us, h1, h2⟩ := res_of hT hi fn.results.toList vs' hvs'
    obtain ⟨u, hu⟩ : ∃ u, (results fn a.tmps).run P w1 = .ok u w1 := ⟨if h : us.toArray.size = 1 then us.toArray[0] else .tuple us.toArray, by
      rw [results_eq, Array.mapM_eq_mapM_toList]
      simp only [map_eq_pure_bind, bind_assoc, pure_bind, Sem.run_bind, h1, Result.andThen_ok, Sem.run_pure]⟩
    refine ⟨u, hu, u, s.y, s.stop, X', W', rfl, hJs _ _ _ _ _ w1 j1 hi.rel.fr.os hi.rel.fr.tape hi.rel.fr.output hi.rel.fr.size (fun g hg => hi.rel.fr.block g (j2 g hg).1 (j2 g hg).2), hst, ?_⟩
    · have hz := hi.rel.fr.size
      have hzw := j5.size
      refine ⟨hi.rel.fr.os.trans j5.os, hi.rel.fr.tape.trans j5.tape, hi.rel.fr.output.trans j5.output, by omega, fun b hb hn => ?_⟩
      rw [hi.rel.fr.block b (by omega) (fun hm => ?_), j5.block b hb hn]
      rcases j6 b hm with h | h
      · exact hn (.inr h)
      · omega
  rintro e s S1 β1 a w1 hi hn hh
  cases e with
  | exit i => exact hh.elim
  | panic x => exact hh.elim
  | normal => exact key s S1 β1 a w1 hi hh
  | ret => exact key s S1 β1 a w1 hi hh
end
theorem fn_okIM {P : Program} {T : Tab} {env : Env} (he : EnvOk P env) (hT : TabOk P T) (hm : P.follows .mixedOrders = true) {g : FuncId} {fn : Func} (hf : P.funcs[g]? = some fn) (hname : (fn.name == "runtime.NumGoroutine") = false) (hb : fn.body.isSome = true) {args caps : List AV} {obs : List Ob} {cnt : Nat} {arg : Nat → List AV} (k : Nat) (hk : k < obs.length)
    (h : ∀ l, fnIM T env fn (bodyOf fn) args caps obs k l cnt arg) : AIter P g args caps obs cnt arg := by
  obtain ⟨c, hc⟩ := Option.isSome_iff_exists.1 hb
  have e : bodyOf fn = c := by unfold bodyOf; rw [hc]; rfl
  rw [e] at h
  exact fn_iterM he hT hm hf hname hc k hk h
end Go.Proofs.Ytkpjcmiijlpcaaa.Aw
