/- An abstract program logic over the model, seventh part: addresses, parts, new variables, stores. -/
import Derived.Test.YtkpjcmiijlpcaaaAwF
namespace Go.Proofs.Ytkpjcmiijlpcaaa.Aw
open Go

section
variable {P : Program} {T : Tab} {env : Env} {M S0 : Nat → Prop} {w0 : World} {S : Nat → Prop} {β : Nat → Cr} {H : Nat → Ob} {w : World} {o : Oper} {a : Act} {ev : Operand → AV} {nid : Nat} {r : Res}
theorem VL.agg {x : AV} {u : Value} (h : VL S w β H (.agg x) [u]) : ∃ cs, u = .agg cs.toArray ∧ VL S w β H x cs := by
  obtain ⟨cs, e, h1⟩ := h
  cases e
  exact ⟨cs, rfl, h1⟩
theorem run_field {s : TypeId} {fs : List (Nat × TypeId)} {f : Nat} {off : Nat} {t : TypeId} (hT : TabOk P T) (hd : (T.at_ s).d = .struct fs) (hf : fs[f]? = some (off, t)) :
    ∃ (fields : Array Field) (fl : Field), P.underlying s = some (.struct fields) ∧ fields[f]? = some fl ∧ fl.offset = off ∧ fl.type = t := by
  have h := (hT s (by rw [hd]; simp)).desc
  unfold DescOk at h
  rw [hd] at h
  obtain ⟨fields, h1, h2, _⟩ := h
  have h3 : (fields.toList.map (fun f => (f.offset, f.type)))[f]? = some (off, t) := by rw [h2]; exact hf
  rw [List.getElem?_map] at h3
  obtain ⟨fl, h4, h5⟩ := Option.map_eq_some_iff.1 h3
  simp only [Prod.mk.injEq] at h5
  exact ⟨fields, fl, h1, by simpa using h4, h5.1, h5.2⟩
theorem partOf_struct {i : TI} {fs : List (Nat × TypeId)} {f off n : Nat} (hd : i.d = .struct fs) (h : partOf T i f = some (off, n)) : ∃ t, fs[f]? = some (off, t) ∧ (T.at_ t).size = n ∧ (T.at_ t).d ≠ .unk := by
  unfold partOf at h
  rw [hd] at h
  simp only at h
  split at h
  · rename_i o t hf
    split at h
    · cases h
    · rename_i hk
      cases h
      exact ⟨t, hf, rfl, fun e => hk e⟩
  · cases h
theorem s_fieldAddr {s : TypeId} {x : Operand} {f : Nat} (ho : o.op = .fieldAddr s x f) (c : Cx P T M S0 w0 S β H w a ev nid r) (hs : semOp T env ev H nid o = some r) : Goes P M S0 w0 S β H w o a r := by
  simp only [semOp, ho] at hs
  have hx := c.hev x
  split at hs
  · rename_i fs hd
    have key : ∀ (off n : Nat) (v : AV) (ad : Addr), partOf T (T.at_ s) f = some (off, n) → 0 < n → a.eval x = .pointer (some ad) → VL S w β H v [.pointer (some (ad.add off))] → r = ⟨[], v, []⟩ → Goes P M S0 w0 S β H w o a r := by
      intro off n v ad hp hn e1 hv e2
      obtain ⟨t, h1, h2, h3⟩ := partOf_struct hd hp
      obtain ⟨fields, fl, g1, g2, g3, g4⟩ := run_field c.hT hd h1
      subst e2
      refine goes_same (u := .pointer (some (ad.add off))) c rfl (s := Instr.fieldAt s (a.eval x) f) (by simp only [execOp, ho]) ?_ hv
      have hsz := run_sizeOf c.hT h3 w
      rw [e1]
      simp only [Instr.fieldAt, Instr.sureAddr, Sem.run_bind, run_underlying g1, Result.andThen_ok, g2, Sem.run_pure, fieldPlace, g4, hsz, g3]
      rw [if_neg (by omega)]
      rfl
    split at hs
    · rename_i o' n k off hp e
      split at hs
      · rename_i hn
        rw [e] at hx
        obtain ⟨u, e1, hl⟩ := hx
        cases e1
        simp only [leaf] at hl
        simp only [ok, Option.some.injEq] at hs
        split at hl
        · rename_i hk
          obtain ⟨g, hg, hv⟩ := hl
          refine key o' n (.ptr k (off + o')) _ hp hn hv ⟨_, rfl, ?_⟩ hs.symm
          simp only [leaf]
          rw [hk]
          exact ⟨g, hg, by rw [add_lit]⟩
        · rename_i hk
          obtain ⟨ad, hv⟩ := hl
          refine key o' n (.ptr k (off + o')) _ hp hn hv ⟨_, rfl, ?_⟩ hs.symm
          simp only [leaf]
          rw [hk]
          exact ⟨_, rfl⟩
        · exact hl.elim
      · cases hs
    · rename_i o' n k i off hp e
      split at hs
      · rename_i hn
        rw [e] at hx
        obtain ⟨u, e1, hl⟩ := hx
        cases e1
        simp only [leaf] at hl
        simp only [ok, Option.some.injEq] at hs
        split at hl
        · rename_i hk
          obtain ⟨g, hg, h0, h1, hv⟩ := hl
          refine key o' n (.rptr k i (off + o')) _ hp hn hv ⟨_, rfl, ?_⟩ hs.symm
          simp only [leaf]
          rw [hk]
          exact ⟨g, hg, h0, h1, by rw [add_add, Nat.add_assoc]⟩
        · rename_i hk
          obtain ⟨g, hg, h0, h1, hv⟩ := hl
          refine key o' n (.rptr k i (off + o')) _ hp hn hv ⟨_, rfl, ?_⟩ hs.symm
          simp only [leaf]
          rw [hk]
          exact ⟨g, hg, h0, h1, by rw [add_add, Nat.add_assoc]⟩
        · rename_i hk
          obtain ⟨g, hg, h0, h1, hv⟩ := hl
          refine key o' n (.rptr k i (off + o')) _ hp hn hv ⟨_, rfl, ?_⟩ hs.symm
          simp only [leaf]
          rw [hk]
          exact ⟨g, hg, h0, h1, by rw [add_add, Nat.add_assoc]⟩
        · rename_i hk
          obtain ⟨ad, hv⟩ := hl
          refine key o' n (.rptr k i (off + o')) _ hp hn hv ⟨_, rfl, ?_⟩ hs.symm
          simp only [leaf]
          rw [hk]
          exact ⟨_, rfl⟩
        · exact hl.elim
      · cases hs
    · rename_i o' n e' t' xs i off hp e
      split at hs
      · rename_i hn
        simp only [ok, Option.some.injEq] at hs
        rw [e] at hx
        obtain ⟨u, e1, hl⟩ := hx
        cases e1
        obtain ⟨h0, hi, ad, es, hcat, hrd, hv⟩ := hl
        exact key o' n (.lptr e' t' xs i (off + o')) _ hp hn hv ⟨_, rfl, h0, hi, ad, es, hcat, hrd, by rw [add_add, Nat.add_assoc]⟩ hs.symm
      · cases hs
    · cases hs
  · cases hs
theorem s_nilCheck {x : Operand} (ho : o.op = .nilCheck x) (c : Cx P T M S0 w0 S β H w a ev nid r) (hs : semOp T env ev H nid o = some r) : Goes P M S0 w0 S β H w o a r := by
  simp only [semOp, ho] at hs
  have hx := c.hev x
  have key : ∀ (v : AV) (ad : Addr), a.eval x = .pointer (some ad) → VL S w β H v [.pointer (some ad)] → r = ⟨[], v, []⟩ → Goes P M S0 w0 S β H w o a r := by
    intro v ad e1 hv e2
    subst e2
    refine goes_same (u := .pointer (some ad)) c rfl (s := pure (.pointer (some ad))) ?_ rfl hv
    simp only [execOp, ho, e1]
    rfl
  split at hs
  · rename_i k off e
    simp only [ok, Option.some.injEq] at hs
    rw [e] at hx
    have hx' := hx
    obtain ⟨u, e1, hl⟩ := hx
    cases e1
    simp only [leaf] at hl
    split at hl
    · obtain ⟨g, hg, hv⟩ := hl
      rw [hv] at hx'
      exact key _ _ hv hx' hs.symm
    · obtain ⟨ad, hv⟩ := hl
      rw [hv] at hx'
      exact key _ _ hv hx' hs.symm
    · exact hl.elim
  · rename_i k i off e
    simp only [ok, Option.some.injEq] at hs
    rw [e] at hx
    have hx' := hx
    obtain ⟨u, e1, hl⟩ := hx
    cases e1
    simp only [leaf] at hl
    split at hl
    · obtain ⟨g, hg, _, _, hv⟩ := hl
      rw [hv] at hx'
      exact key _ _ hv hx' hs.symm
    · obtain ⟨g, hg, _, _, hv⟩ := hl
      rw [hv] at hx'
      exact key _ _ hv hx' hs.symm
    · obtain ⟨g, hg, _, _, hv⟩ := hl
      rw [hv] at hx'
      exact key _ _ hv hx' hs.symm
    · obtain ⟨ad, hv⟩ := hl
      rw [hv] at hx'
      exact key _ _ hv hx' hs.symm
    · exact hl.elim
  · rename_i el ty xs i off e
    simp only [ok, Option.some.injEq] at hs
    rw [e] at hx
    have hx' := hx
    obtain ⟨u, e1, hl⟩ := hx
    cases e1
    obtain ⟨_, _, ad, es, _, _, hv⟩ := hl
    rw [hv] at hx'
    exact key _ _ hv hx' hs.symm
  · cases hs
theorem s_field {s : TypeId} {x : Operand} {f : Nat} (ho : o.op = .field s x f) (c : Cx P T M S0 w0 S β H w a ev nid r) (hs : semOp T env ev H nid o = some r) : Goes P M S0 w0 S β H w o a r := by
  simp only [semOp, ho] at hs
  have hx := c.hev x
  split at hs
  · rename_i fs hd
    split at hs
    · rename_i o' n off t cc hp hf e
      split at hs
      · rename_i hc
        obtain ⟨v, h1, h2⟩ := Option.bind_eq_some_iff.1 hs
        simp only [ok, Option.some.injEq] at h2
        obtain ⟨t', g0, g1, g2⟩ := partOf_struct hd hp
        rw [hf] at g0
        cases g0
        obtain ⟨fields, fl, k1, k2, k3, k4⟩ := run_field c.hT hd hf
        rw [e] at hx
        obtain ⟨cs, e1, hcs⟩ := VL.agg hx
        have hv := VL.list_of cc cs hc.1 hcs
        rw [← g1] at h1
        obtain ⟨u, hu, hvu⟩ := part_of c.hT (cs := cs.toArray) (by simpa using hv) h1
        subst h2
        refine goes_same (u := u) c rfl (s := Instr.field s (a.eval x) f) (by simp only [execOp, ho]) ?_ hvu
        rw [e1]
        simp only [Instr.field, Sem.run_bind, run_underlying k1, Result.andThen_ok, k2, k3, k4, asAgg, Sem.run_pure]
        exact hu
      · cases hs
    · cases hs
  · cases hs
theorem s_extract {x : Operand} {i : Nat} (ho : o.op = .extract x i) (c : Cx P T M S0 w0 S β H w a ev nid r) (hs : semOp T env ev H nid o = some r) : Goes P M S0 w0 S β H w o a r := by
  simp only [semOp, ho] at hs
  have hx := c.hev x
  split at hs
  · rename_i cc e
    split at hs
    · rename_i v hv
      simp only [ok, Option.some.injEq] at hs
      rw [e] at hx
      obtain ⟨cs, e1, hcs⟩ := hx
      cases hc : cc.chain with
      | false => rw [hc] at hv; simp at hv
      | true =>
        rw [hc] at hv
        simp only [if_true] at hv
        obtain ⟨u, hu, hvu⟩ := VLs.get _ _ (VL.list_of cc cs hc hcs) i v hv
        subst hs
        have e2 : a.eval x = .tuple cs.toArray := by simpa using e1
        refine goes_same (u := u) c rfl (s := Instr.extract (a.eval x) i) (by simp only [execOp, ho]) ?_ hvu
        rw [e2]
        simp only [Instr.extract]
        rw [show cs.toArray[i]? = some u by simpa using hu]
        rfl
    · cases hs
  · cases hs
theorem VLs.of_eval (hev : ∀ x, VL S w β H (ev x) [a.eval x]) : ∀ l : List Operand, VLs S w β H (l.map ev) (l.map a.eval)
  | [] => rfl
  | x :: l => ⟨_, _, rfl, hev x, VLs.of_eval hev l⟩
theorem s_makeFunc {f : Fn} {x y : Array Operand} (ho : o.op = .makeFunc f x y) (c : Cx P T M S0 w0 S β H w a ev nid r) (hs : semOp T env ev H nid o = some r) : Goes P M S0 w0 S β H w o a r := by
  simp only [semOp, ho, ok, Option.some.injEq] at hs
  subst hs
  refine goes_same (u := .func f (x.map a.eval) (y.map a.eval)) c rfl (s := Instr.makeFunc f (x.map a.eval) (y.map a.eval)) (by simp only [execOp, ho]) rfl ?_
  refine ⟨x.toList.map a.eval, y.toList.map a.eval, ?_, VLs.of_list _ _ (VLs.of_eval c.hev _), VLs.of_list _ _ (VLs.of_eval c.hev _)⟩
  congr 2
  · apply Array.toList_inj.1; simp
  · apply Array.toList_inj.1; simp
theorem s_convert {s d : TypeId} {x : Operand} (ho : o.op = .convert s d x) (c : Cx P T M S0 w0 S β H w a ev nid r) (hs : semOp T env ev H nid o = some r) : Goes P M S0 w0 S β H w o a r := by
  simp only [semOp, ho] at hs
  have hx := c.hev x
  split at hs
  · rename_i k0 n k e hd1 hd2 ht
    simp only [ok, Option.some.injEq] at hs
    subst hs
    rw [e] at hx
    have hx := VL.int hx
    have h1 := (c.hT s (by rw [hd1]; simp)).desc
    have h2 := (c.hT d (by rw [hd2]; simp)).desc
    unfold DescOk at h1 h2
    rw [hd1] at h1
    rw [hd2] at h2
    obtain ⟨d1, g1, _⟩ := h1
    obtain ⟨d2, g2, _, g3, _⟩ := h2
    have g3 := g3 k ht
    subst g3
    refine goes_same (u := .int k (k.wrap n)) c rfl (s := convert s d (a.eval x)) (by simp only [execOp, ho]) ?_ ⟨_, rfl, rfl⟩
    rw [hx]
    have hk : P.intKind d = k := by simp [Program.intKind, g2]
    have := run_convert_int (P := P) w s d k0 n (by rw [g1]; rfl) (by rw [hk]; exact g2)
    rw [hk] at this
    exact this
  · cases hs
theorem s_makeInterface {t : TypeId} {x : Operand} (ho : o.op = .makeInterface t x) (c : Cx P T M S0 w0 S β H w a ev nid r) (hs : semOp T env ev H nid o = some r) : Goes P M S0 w0 S β H w o a r := by
  simp only [semOp, ho] at hs
  have hx := c.hev x
  have fin : r = ⟨[], .iface t (ev x), []⟩ → (∃ d, P.underlying t = some d ∧ ∀ m, d ≠ .interface m) → Goes P M S0 w0 S β H w o a r := by
    rintro rfl ⟨d, hd, hn⟩
    refine goes_same (u := .iface t (a.eval x)) c rfl (s := Instr.makeInterface t (a.eval x)) (by simp only [execOp, ho]) ?_ ⟨_, rfl, hx⟩
    unfold Instr.makeInterface
    rw [Sem.run_bind, run_underlying hd]
    cases d <;> first
      | rfl
      | exact absurd rfl (hn _)
  have hdesc : (T.at_ t).d ≠ .unk → DescOk P t (T.at_ t) := fun h => (c.hT t h).desc
  split at hs
  · rename_i hd
    simp only [ok, Option.some.injEq] at hs
    have h := hdesc (by rw [hd]; simp)
    unfold DescOk at h
    rw [hd] at h
    obtain ⟨f, h1, _⟩ := h
    exact fin hs.symm ⟨_, h1, fun m => by simp⟩
  · rename_i hd
    simp only [ok, Option.some.injEq] at hs
    have h := hdesc (by rw [hd]; simp)
    unfold DescOk at h
    rw [hd] at h
    exact fin hs.symm ⟨_, h.1, fun m => by simp⟩
  · rename_i hd
    simp only [ok, Option.some.injEq] at hs
    have h := hdesc (by rw [hd]; simp)
    unfold DescOk at h
    rw [hd] at h
    exact fin hs.symm ⟨_, h, fun m => by simp⟩
  · rename_i k hd ht
    simp only [ok, Option.some.injEq] at hs
    have h := hdesc (by rw [hd]; simp)
    unfold DescOk at h
    rw [hd] at h
    obtain ⟨d, h1, _, h3, _, _⟩ := h
    exact fin hs.symm ⟨_, h1, fun m => by rw [h3 k ht]; simp⟩
  · rename_i hd ht
    simp only [ok, Option.some.injEq] at hs
    have h := hdesc (by rw [hd]; simp)
    unfold DescOk at h
    rw [hd] at h
    obtain ⟨d, h1, _, _, h4, _⟩ := h
    exact fin hs.symm ⟨_, h1, fun m => by rw [h4 ht]; simp⟩
  · rename_i hd ht
    simp only [ok, Option.some.injEq] at hs
    have h := hdesc (by rw [hd]; simp)
    unfold DescOk at h
    rw [hd] at h
    obtain ⟨d, h1, _, _, _, h5, _⟩ := h
    exact fin hs.symm ⟨_, h1, fun m => by rw [h5 ht]; simp⟩
  · cases hs
end
end Go.Proofs.Ytkpjcmiijlpcaaa.Aw
