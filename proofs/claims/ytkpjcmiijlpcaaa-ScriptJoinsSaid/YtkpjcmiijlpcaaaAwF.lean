/- An abstract program logic over the model, sixth part: what each operation does, the model's and ours. -/
import Derived.Test.YtkpjcmiijlpcaaaAwE
import Derived.Laws.Slices
namespace Go.Proofs.Ytkpjcmiijlpcaaa.Aw
open Go

theorem add_add (a : Addr) (m n : Nat) : (a.add m).add n = a.add (m + n) := by
  by_cases hm : m = 0
  · subst hm; simp [Addr.add]
  · by_cases hn : n = 0
    · subst hn; simp [Addr.add]
    · simp [Addr.add, hm, hn, Nat.add_assoc]
theorem add_lit (g o n : Nat) : (⟨g, o, none⟩ : Addr).add n = ⟨g, o + n, none⟩ := by unfold Addr.add; split <;> simp_all
theorem wp_val {P : Program} {o : Oper} {a : Act} {w w' : World} {v : Value} {s : Sem Value} {next : Act → World → Prop} {Q : Exit → Act → World → Prop} (he : execOp a.eval o = (do pure (Next.value (← s)))) (hr : s.run P w = .ok v w') (h : next (a.put o.dst v) w') : o.wp P a w next Q := by
  unfold Oper.wp
  rw [he]
  simp only [Sem.run_bind, hr, Result.andThen_ok, Sem.run_pure]
  exact h
theorem wp_unit {P : Program} {o : Oper} {a : Act} {w w' : World} {s : Sem Unit} {next : Act → World → Prop} {Q : Exit → Act → World → Prop} (he : execOp a.eval o = (do s; pure Next.skip)) (hr : s.run P w = .ok () w') (h : next (a.put o.dst undef) w') : o.wp P a w next Q := by
  unfold Oper.wp
  rw [he]
  simp only [Sem.run_bind, hr, Result.andThen_ok, Sem.run_pure]
  exact h
/-- What is at hand where an operation is to be carried out. -/
structure Cx (P : Program) (T : Tab) (M S0 : Nat → Prop) (w0 : World) (S : Nat → Prop) (β : Nat → Cr) (H : Nat → Ob) (w : World) (a : Act) (ev : Operand → AV) (nid : Nat) (r : Res) : Prop where
  hT : TabOk P T
  rel : Rel M S0 w0 S β H w
  hev : ∀ x, VL S w β H (ev x) [a.eval x]
  hnid : ∀ p ∈ r.upd, nid ≤ p.1 → H p.1 = .none
  hgs : ∀ g ∈ r.gs, g
/-- The operation goes through, and comes to what was told. -/
def Goes (P : Program) (M S0 : Nat → Prop) (w0 : World) (S : Nat → Prop) (β : Nat → Cr) (H : Nat → Ob) (w : World) (o : Oper) (a : Act) (r : Res) : Prop :=
  ∀ (next : Act → World → Prop) (Q : Exit → Act → World → Prop), (∀ v w' S' β', Rel M S0 w0 S' β' (updH H r.upd) w' → VL S' w' β' (updH H r.upd) r.v [v] → Ext S w β H S' w' β' (updH H r.upd) → next (a.put o.dst v) w') → o.wp P a w next Q
section
variable {P : Program} {T : Tab} {env : Env} {M S0 : Nat → Prop} {w0 : World} {S : Nat → Prop} {β : Nat → Cr} {H : Nat → Ob} {w : World} {o : Oper} {a : Act} {ev : Operand → AV} {nid : Nat} {r : Res}
theorem Cx.fresh (c : Cx P T M S0 w0 S β H w a ev nid r) (h : nid ∈ r.upd.map (·.1)) : H nid = .none := by
  obtain ⟨p, hp, e⟩ := List.mem_map.1 h
  have := c.hnid p hp (by omega)
  rwa [e] at this
theorem goes_same (c : Cx P T M S0 w0 S β H w a ev nid r) (hu : r.upd = []) {s : Sem Value} {u : Value} (he : execOp a.eval o = (do pure (Next.value (← s)))) (hr : s.run P w = .ok u w) (hv : VL S w β H r.v [u]) : Goes P M S0 w0 S β H w o a r := by
  intro next Q hn
  refine wp_val he hr (hn u w S β ?_ ?_ ?_)
  · rw [hu, updH_nil]; exact c.rel
  · rw [hu, updH_nil]; exact hv
  · rw [hu, updH_nil]; exact Ext.refl _ _ _ _
theorem leaf_of {b : AV} {u : Value} (hb : ∀ vs, VL S w β H b vs → ∃ v, vs = [v] ∧ leaf S w β H b v) (h : VL S w β H b [u]) : leaf S w β H b u := VL.leafOf hb h
theorem VL.int {k : IntKind} {n : Int} {u : Value} (h : VL S w β H (.int k n) [u]) : u = .int k n := by obtain ⟨v, e, hl⟩ := h; cases e; exact hl
theorem VL.bool {b : Bool} {u : Value} (h : VL S w β H (.bool b) [u]) : u = .bool b := by obtain ⟨v, e, hl⟩ := h; cases e; exact hl
theorem VL.typed {x : AV} {ty : TypeId} {u : Value} (h : VL S w β H x [u]) : VL S w β H (typed T ty x) [u] := by
  cases x with
  | nil0 =>
    simp only [Aw.typed]
    split
    · split
      · exact h
      · exact h
    · exact h
  | _ => exact h
theorem toV_of {x : AV} {u v : Value} (h : VL S w β H x [u]) (ht : toV x = some v) : u = v := by
  cases x <;> simp only [toV] at ht <;> first | (cases ht; obtain ⟨v, e, hl⟩ := h; cases e; exact hl) | cases ht
theorem ofV_of {x : AV} {u : Value} (h : ofV u = some x) : VL S w β H x [u] := by
  unfold ofV at h
  split at h <;> first | (cases h; exact ⟨_, rfl, rfl⟩) | cases h
theorem ofSem_of {x : AV} {s : Sem Value} (h : ofSem s = some x) : ∃ u, s = .pure u ∧ VL S w β H x [u] := by
  unfold ofSem at h
  split at h
  · rename_i u
    exact ⟨u, rfl, ofV_of h⟩
  · cases h
theorem s_move {x : Operand} (ho : o.op = .move x) (c : Cx P T M S0 w0 S β H w a ev nid r) (hs : semOp T env ev H nid o = some r) : Goes P M S0 w0 S β H w o a r := by
  simp only [semOp, ho, ok, Option.some.injEq] at hs
  subst hs
  exact goes_same c rfl (s := pure (a.eval x)) (by simp only [execOp, ho]; rfl) rfl (VL.typed (c.hev x))
theorem s_assign {x : Operand} (ho : o.op = .assign x) (c : Cx P T M S0 w0 S β H w a ev nid r) (hs : semOp T env ev H nid o = some r) : Goes P M S0 w0 S β H w o a r := by
  simp only [semOp, ho, ok, Option.some.injEq] at hs
  subst hs
  exact goes_same c rfl (s := pure (a.eval x)) (by simp only [execOp, ho]; rfl) rfl (VL.typed (c.hev x))
theorem s_pick {x y z : Operand} (ho : o.op = .pick x y z) (c : Cx P T M S0 w0 S β H w a ev nid r) (hs : semOp T env ev H nid o = some r) : Goes P M S0 w0 S β H w o a r := by
  simp only [semOp, ho] at hs
  split at hs
  · rename_i s hx
    have h1 := c.hev x
    rw [hx] at h1
    have h1 := VL.bool h1
    have hy := c.hev y
    have hz := c.hev z
    refine goes_same (u := if s then a.eval y else a.eval z) c ?_ (s := do pure (if ← asBool (a.eval x) then a.eval y else a.eval z)) (by simp only [execOp, ho, bind_assoc, pure_bind]) ?_ ?_
    · split at hs <;> (simp only [ok, Option.some.injEq] at hs; rw [← hs])
    · rw [h1]; rfl
    · split at hs
      · rename_i b1 b2 e1 e2
        simp only [ok, Option.some.injEq] at hs
        rw [← hs]
        rw [e1] at hy
        rw [e2] at hz
        cases s
        · exact hz
        · exact hy
      · simp only [ok, Option.some.injEq] at hs
        rw [← hs]
        cases s
        · exact hz
        · exact hy
  · cases hs
theorem s_un {op : UnOp} {t : TypeId} {x : Operand} (ho : o.op = .unOp op t x) (c : Cx P T M S0 w0 S β H w a ev nid r) (hs : semOp T env ev H nid o = some r) : Goes P M S0 w0 S β H w o a r := by
  simp only [semOp, ho] at hs
  split at hs
  · rename_i vx hx
    obtain ⟨y, h1, h2⟩ := Option.bind_eq_some_iff.1 hs
    simp only [ok, Option.some.injEq] at h2
    obtain ⟨u, e, hu⟩ := ofSem_of (S := S) (w := w) (β := β) (H := H) h1
    have hv := toV_of (c.hev x) hx
    refine goes_same (u := u) c (by rw [← h2]) (s := Op.unary op (a.eval x)) (by simp only [execOp, ho]) ?_ (by rw [← h2]; exact hu)
    rw [hv, e]
    rfl
  · cases hs
theorem bin_bool {op : BinOp} {t : TypeId} {x y : Operand} {b1 b2 : Bool} (hop : op = .eql ∨ op = .neq) (hT : TabOk P T) (hd : (T.at_ t).d = .scalar) (ht : (T.at_ t).t = some .bool) :
    (do eqGuard op t x y (.bool b1) (.bool b2); binOp op t (.bool b1) (.bool b2) : Sem Value).run P w = .ok (.bool (if op matches .eql then b1 == b2 else !(b1 == b2))) w := by
  have h := (hT t (by rw [hd]; simp)).desc
  unfold DescOk at h
  rw [hd] at h
  obtain ⟨d, h1, _, _, h3, _⟩ := h
  have h3 := h3 ht
  subst h3
  have he : (Op.equal t (.bool b1) (.bool b2)).run P w = .ok (b1 == b2) w := by
    have e : Op.equal t (.bool b1) (.bool b2) = Op.equalIn (9999 + 1) t (.bool b1) (.bool b2) := rfl
    rw [e]
    unfold Op.equalIn
    rw [Sem.run_bind, run_underlying h1]
    rfl
  rcases hop with rfl | rfl
  · simp only [eqGuard, binOp]
    simp [he]
  · simp only [eqGuard, binOp]
    simp [he]
theorem agg_eq (hT : TabOk P T) {t : TypeId} {c1 c2 : AV} {b : Bool} {u v : Value} (h : eqAgg T t c1 c2 = some b) (h1 : VL S w β H (.agg c1) [u]) (h2 : VL S w β H (.agg c2) [v]) :
    ∃ xs ys, u = .agg xs ∧ v = .agg ys ∧ P.eqGuardType P.depth t = false ∧ (Op.equalIn 10000 t (.agg xs) (.agg ys)).run P w = .ok b w := by
  unfold eqAgg at h
  split at h
  · rename_i hc
    obtain ⟨k1, k2, k3, k4⟩ := hc
    obtain ⟨cs, e1, g1⟩ := h1
    obtain ⟨ds, e2, g2⟩ := h2
    cases e1
    cases e2
    have hd : (T.at_ t).d ≠ .unk := by intro hd; rw [hd] at k2; cases k2
    obtain ⟨q1, q2⟩ := (hT t hd).eq k1
    have sh : ∀ (c : AV) (cs : List Value), c.chain = true → VL S w β H c cs → Shape T S w β H t c.toList (.agg cs.toArray) := by
      intro c cs hc hv
      have := VL.list_of c cs hc hv
      unfold Shape
      cases hdd : (T.at_ t).d with
      | struct fs => exact ⟨cs.toArray, rfl, by simpa using this⟩
      | array n e => exact ⟨cs.toArray, rfl, by simpa using this⟩
      | _ => rw [hdd] at k2; cases k2
    exact ⟨cs.toArray, ds.toArray, rfl, rfl, q2, eqA_sound hT 12 12 t _ _ _ _ b 9988 h q1 (sh c1 cs k3 g1) (sh c2 ds k4 g2)⟩
  · cases h
theorem nil_of (hr : Rel M S0 w0 S β H w) {x : AV} {u : Value} {b : Bool} (hv : VL S w β H x [u]) (h : isNil H x = some b) : ∃ ao n c, u = .slice ao n c ∧ ao.isNone = b := by
  unfold isNil at h
  split at h
  · cases h; obtain ⟨v, e, hl⟩ := hv; cases e; exact ⟨_, _, _, hl, rfl⟩
  · cases h; obtain ⟨v, e, hl⟩ := hv; cases e; exact ⟨_, _, _, hl, rfl⟩
  · cases h; obtain ⟨v, e, hl⟩ := hv; cases e; obtain ⟨ad, c, rfl⟩ := hl; exact ⟨_, _, _, rfl, rfl⟩
  · cases h
    obtain ⟨v, e, hl⟩ := hv
    cases e
    obtain ⟨ao, n, c, es, e1, e2, e3, _, _, e4⟩ := hl
    cases e1
    refine ⟨_, _, _, rfl, ?_⟩
    cases ao with
    | some ad => rfl
    | none => have := e4 rfl; simp at e2; omega
  · rename_i k
    split at h
    · rename_i e t y ys hk
      cases h
      obtain ⟨v, e1, hl⟩ := hv
      cases e1
      simp only [leaf, hk] at hl
      have hob := hr.ob k
      rw [hk] at hob
      rcases hob with ⟨_, e3⟩ | ⟨g, cur, e2, _⟩
      · cases e3
      · exact ⟨some ⟨g, 0, none⟩, _, _, by rw [hl]; unfold rowV; rw [e2], rfl⟩
    · cases h
  · cases h
theorem bin_nil {op : BinOp} {t e : TypeId} {x y : Operand} {ao : Option Addr} {n c' : Nat} (hop : op = .eql ∨ op = .neq) (hT : TabOk P T) (hd : (T.at_ t).d = .slice e) :
    (do eqGuard op t x y (.slice ao n c') (.slice none 0 0); binOp op t (.slice ao n c') (.slice none 0 0) : Sem Value).run P w = .ok (.bool (if op matches .eql then ao.isNone else !ao.isNone)) w := by
  have h := (hT t (by rw [hd]; simp)).desc
  unfold DescOk at h
  rw [hd] at h
  have he : (Op.equal t (.slice ao n c') (.slice none 0 0)).run P w = .ok ao.isNone w := by
    have e : Op.equal t (.slice ao n c') (.slice none 0 0) = Op.equalIn (9999 + 1) t (.slice ao n c') (.slice none 0 0) := rfl
    rw [e]
    unfold Op.equalIn
    rw [Sem.run_bind, run_underlying h]
    cases ao <;> rfl
  rcases hop with rfl | rfl
  · simp only [eqGuard, binOp]
    simp [he]
  · simp only [eqGuard, binOp]
    simp [he]
theorem s_bin {op : BinOp} {t t' : TypeId} {x y : Operand} (ho : o.op = .binOp op t x y t') (c : Cx P T M S0 w0 S β H w a ev nid r) (hs : semOp T env ev H nid o = some r) : Goes P M S0 w0 S β H w o a r := by
  simp only [semOp, ho, semBin] at hs
  split at hs
  · rename_i b1 b2 e1 e2
    split at hs
    · rename_i hd ht
      simp only [ok, Option.some.injEq] at hs
      subst hs
      have h1 := c.hev x
      have h2 := c.hev y
      rw [e1] at h1
      rw [e2] at h2
      refine goes_same (u := .bool (b1 == b2)) c rfl (s := do eqGuard .eql t x y (a.eval x) (a.eval y); binOp .eql t (a.eval x) (a.eval y)) (by simp only [execOp, ho]) ?_ ⟨_, rfl, rfl⟩
      rw [VL.bool h1, VL.bool h2]
      exact bin_bool (.inl rfl) c.hT hd ht
    · cases hs
  · rename_i b1 b2 e1 e2
    split at hs
    · rename_i hd ht
      simp only [ok, Option.some.injEq] at hs
      subst hs
      have h1 := c.hev x
      have h2 := c.hev y
      rw [e1] at h1
      rw [e2] at h2
      refine goes_same (u := .bool (!(b1 == b2))) c rfl (s := do eqGuard .neq t x y (a.eval x) (a.eval y); binOp .neq t (a.eval x) (a.eval y)) (by simp only [execOp, ho]) ?_ ⟨_, rfl, rfl⟩
      rw [VL.bool h1, VL.bool h2]
      exact bin_bool (.inr rfl) c.hT hd ht
    · cases hs
  · rename_i e2
    split at hs
    rotate_left
    · cases hs
    rename_i e hd
    obtain ⟨b, h1, h2⟩ := Option.bind_eq_some_iff.1 hs
    simp only [ok, Option.some.injEq] at h2
    subst h2
    have g2 := c.hev y
    rw [e2] at g2
    obtain ⟨ao, n, cc, q1, q2⟩ := nil_of c.rel (c.hev x) h1
    obtain ⟨v2, e3, e4⟩ := g2
    simp only [List.cons.injEq, and_true] at e3
    have e4 : v2 = .slice none 0 0 := e4
    refine goes_same (u := .bool b) c rfl (s := do eqGuard .eql t x y (a.eval x) (a.eval y); binOp .eql t (a.eval x) (a.eval y)) (by simp only [execOp, ho]) ?_ ⟨_, rfl, rfl⟩
    rw [q1, e3, e4, ← q2]
    exact bin_nil (.inl rfl) c.hT hd
  · rename_i e2
    split at hs
    rotate_left
    · cases hs
    rename_i e hd
    obtain ⟨b, h1, h2⟩ := Option.bind_eq_some_iff.1 hs
    simp only [ok, Option.some.injEq] at h2
    subst h2
    have g2 := c.hev y
    rw [e2] at g2
    obtain ⟨ao, n, cc, q1, q2⟩ := nil_of c.rel (c.hev x) h1
    obtain ⟨v2, e3, e4⟩ := g2
    simp only [List.cons.injEq, and_true] at e3
    have e4 : v2 = .slice none 0 0 := e4
    refine goes_same (u := .bool (!b)) c rfl (s := do eqGuard .neq t x y (a.eval x) (a.eval y); binOp .neq t (a.eval x) (a.eval y)) (by simp only [execOp, ho]) ?_ ⟨_, rfl, rfl⟩
    rw [q1, e3, e4, ← q2]
    exact bin_nil (.inr rfl) c.hT hd
  · rename_i k1 n1 k2 n2 e1 e2
    split at hs
    rotate_left
    · cases hs
    rename_i hk
    subst hk
    simp only [okIf, Option.some.injEq] at hs
    have hg := c.hgs (n2 ≠ 0) (by rw [← hs]; simp)
    subst hs
    have g1 := c.hev x
    have g2 := c.hev y
    rw [e1] at g1
    rw [e2] at g2
    refine goes_same (u := .int k1 (k1.wrap (n1.tdiv n2))) c rfl (s := do eqGuard .quo t x y (a.eval x) (a.eval y); binOp .quo t (a.eval x) (a.eval y)) (by simp only [execOp, ho]) ?_ ⟨_, rfl, rfl⟩
    rw [VL.int g1, VL.int g2]
    simp [eqGuard, binOp, Op.intDiv, hg]
  · rename_i k1 n1 k2 n2 e1 e2
    split at hs
    rotate_left
    · cases hs
    rename_i hk
    subst hk
    simp only [okIf, Option.some.injEq] at hs
    have hg := c.hgs (n2 ≠ 0) (by rw [← hs]; simp)
    subst hs
    have g1 := c.hev x
    have g2 := c.hev y
    rw [e1] at g1
    rw [e2] at g2
    refine goes_same (u := .int k1 (n1.tmod n2)) c rfl (s := do eqGuard .rem t x y (a.eval x) (a.eval y); binOp .rem t (a.eval x) (a.eval y)) (by simp only [execOp, ho]) ?_ ⟨_, rfl, rfl⟩
    rw [VL.int g1, VL.int g2]
    simp [eqGuard, binOp, Op.intDiv, hg]
  · rename_i k1 n1 k2 n2 e1 e2
    simp only [okIf, Option.some.injEq] at hs
    have hg := c.hgs (0 ≤ n2) (by rw [← hs]; simp)
    subst hs
    have g1 := c.hev x
    have g2 := c.hev y
    rw [e1] at g1
    rw [e2] at g2
    refine goes_same (u := .int k1 (k1.wrap (n1 * 2 ^ (min n2.toNat k1.bits)))) c rfl (s := do eqGuard .shl t x y (a.eval x) (a.eval y); binOp .shl t (a.eval x) (a.eval y)) (by simp only [execOp, ho]) ?_ ⟨_, rfl, rfl⟩
    rw [VL.int g1, VL.int g2]
    simp [eqGuard, binOp, Op.shift, Int.not_lt.2 hg]
  · rename_i k1 n1 k2 n2 e1 e2
    simp only [okIf, Option.some.injEq] at hs
    have hg := c.hgs (0 ≤ n2) (by rw [← hs]; simp)
    subst hs
    have g1 := c.hev x
    have g2 := c.hev y
    rw [e1] at g1
    rw [e2] at g2
    refine goes_same (u := .int k1 (n1.fdiv (2 ^ (min n2.toNat k1.bits)))) c rfl (s := do eqGuard .shr t x y (a.eval x) (a.eval y); binOp .shr t (a.eval x) (a.eval y)) (by simp only [execOp, ho]) ?_ ⟨_, rfl, rfl⟩
    rw [VL.int g1, VL.int g2]
    simp [eqGuard, binOp, Op.shift, Int.not_lt.2 hg]
  · rename_i c1 c2 e1 e2
    obtain ⟨b, h1, h2⟩ := Option.bind_eq_some_iff.1 hs
    simp only [ok, Option.some.injEq] at h2
    subst h2
    have g1 := c.hev x
    have g2 := c.hev y
    rw [e1] at g1
    rw [e2] at g2
    obtain ⟨xs, ys, q1, q2, q3, q4⟩ := agg_eq c.hT h1 g1 g2
    refine goes_same (u := .bool b) c rfl (s := do eqGuard .eql t x y (a.eval x) (a.eval y); binOp .eql t (a.eval x) (a.eval y)) (by simp only [execOp, ho]) ?_ ⟨_, rfl, rfl⟩
    rw [q1, q2, Sem.run_bind, run_eqGuard_agg w .eql t x y xs ys q3, Result.andThen_ok, run_eql_struct, q4, Result.andThen_ok]
  · rename_i c1 c2 e1 e2
    obtain ⟨b, h1, h2⟩ := Option.bind_eq_some_iff.1 hs
    simp only [ok, Option.some.injEq] at h2
    subst h2
    have g1 := c.hev x
    have g2 := c.hev y
    rw [e1] at g1
    rw [e2] at g2
    obtain ⟨xs, ys, q1, q2, q3, q4⟩ := agg_eq c.hT h1 g1 g2
    refine goes_same (u := .bool (!b)) c rfl (s := do eqGuard .neq t x y (a.eval x) (a.eval y); binOp .neq t (a.eval x) (a.eval y)) (by simp only [execOp, ho]) ?_ ⟨_, rfl, rfl⟩
    rw [q1, q2, Sem.run_bind, run_eqGuard_agg w .neq t x y xs ys q3, Result.andThen_ok, run_neq_struct, q4, Result.andThen_ok]
  · split at hs
    · rename_i vx vy hx hy
      obtain ⟨z, h1, h2⟩ := Option.bind_eq_some_iff.1 hs
      simp only [ok, Option.some.injEq] at h2
      obtain ⟨u, e, hu⟩ := ofSem_of (S := S) (w := w) (β := β) (H := H) h1
      have hvx := toV_of (c.hev x) hx
      have hvy := toV_of (c.hev y) hy
      refine goes_same (u := u) c (by rw [← h2]) (s := _) (by simp only [execOp, ho]; rfl) ?_ (by rw [← h2]; exact hu)
      have hg : ∀ q, eqGuard q t x y vx vy = pure () := by
        intro q
        unfold toV at hx hy
        split at hx <;> cases hx <;> (split at hy <;> cases hy <;> (cases q <;> rfl))
      rw [hvx, hvy, hg, e]
      rfl
    · cases hs
theorem s_load {t : TypeId} {x : Operand} (ho : o.op = .load t x) (c : Cx P T M S0 w0 S β H w a ev nid r) (hs : semOp T env ev H nid o = some r) : Goes P M S0 w0 S β H w o a r := by
  simp only [semOp, ho] at hs
  have hx := c.hev x
  have key : ∀ (ad : Addr) (l : List AV) (cs : List Value) (v : AV), a.eval x = .pointer (some ad) → VLs S w β H l cs → aggOf (T.at_ t) l = some v → (∀ j u, cs[j]? = some u → w.cell? (ad.add j) = some u) → r = ⟨[], v, []⟩ → Goes P M S0 w0 S β H w o a r := by
    intro ad l cs v e1 h1 h2 h3 e2
    obtain ⟨u, hu, hv⟩ := load_of c.hT h1 h2 h3
    subst e2
    refine goes_same (u := u) c rfl (s := Instr.loadAt t (a.eval x)) (by simp only [execOp, ho]) ?_ hv
    rw [e1]
    simp only [Instr.loadAt, Instr.sureAddr, Sem.run_bind, Sem.run_pure, Result.andThen_ok, hu]
  split at hs
  · rename_i k off e
    rw [e] at hx
    obtain ⟨u, e1, hl⟩ := hx
    simp only [leaf] at hl
    split at hs
    · rename_i el cs hk
      rw [hk] at hl
      obtain ⟨g, hg, hv⟩ := hl
      obtain ⟨v, h1, h2⟩ := Option.bind_eq_some_iff.1 hs
      simp only [ok, Option.some.injEq] at h2
      have hob := c.rel.ob k
      rw [hk] at hob
      obtain ⟨g', vs, eg, eh, hvs⟩ := hob
      rw [hg] at eg
      cases eg
      cases e1
      refine key ⟨g, off, none⟩ _ ((vs.drop off).take (T.at_ t).size) v hv (VLs.take _ _ _ (VLs.drop _ _ _ hvs)) h1 ?_ h2.symm
      intro j u hj
      rw [add_lit, cell_of_row w g (off + j) _ _ _ eh]
      rw [List.getElem?_take] at hj
      split at hj
      · simpa using hj
      · cases hj
    · cases hs
  · rename_i k i off e
    rw [e] at hx
    obtain ⟨u, e1, hl⟩ := hx
    simp only [leaf] at hl
    split at hs
    · rename_i el ty xs hk
      rw [hk] at hl
      obtain ⟨g, hg, h0, hi, hv⟩ := hl
      obtain ⟨v, h1, h2⟩ := Option.bind_eq_some_iff.1 hs
      simp only [ok, Option.some.injEq] at h2
      have hob := c.rel.ob k
      rw [hk] at hob
      cases e1
      rcases hob with ⟨eg, exs⟩ | ⟨g', cur, eg, eh, hn, hm, hsz, hcat⟩
      · rw [hg] at eg; cases eg
      · rw [hg] at eg
        cases eg
        have hget : xs[i.toNat]? = some (xs.getD i.toNat ty.zero) := by
          simp only [List.getD]
          rw [List.getElem?_eq_getElem (by omega)]
          rfl
        obtain ⟨es, he, hcs⟩ := Cat.get (DR.length ty) xs _ i.toNat _ hcat hget
        have hve := enc_of (β := β) (H := H) ty _ es he
        refine key _ _ ((es.drop off).take (T.at_ t).size) v hv (VLs.take _ _ _ (VLs.drop _ _ _ hve)) h1 ?_ h2.symm
        intro j u hj
        rw [add_add, add_lit, cell_of_row w g _ _ _ _ eh]
        rw [List.getElem?_take] at hj
        split at hj
        · have hj' := hcs (off + j) u (by simpa using hj)
          rw [List.getElem?_take] at hj'
          split at hj'
          · rw [show 0 + (i.toNat * ty.size + off + j) = i.toNat * ty.size + (off + j) by omega]
            simpa using hj'
          · cases hj'
        · cases hj
    · cases hs
  · rename_i el ty xs i off e
    rw [e] at hx
    obtain ⟨u, e1, hl⟩ := hx
    obtain ⟨h0, hi, ad, es, hcat, hrd, hv⟩ := hl
    obtain ⟨v, h1, h2⟩ := Option.bind_eq_some_iff.1 hs
    simp only [ok, Option.some.injEq] at h2
    cases e1
    have hget : xs[i.toNat]? = some (xs.getD i.toNat ty.zero) := by
      simp only [List.getD]
      rw [List.getElem?_eq_getElem (by omega)]
      rfl
    obtain ⟨fs, he, hcs⟩ := Cat.get (DR.length ty) xs _ i.toNat _ hcat hget
    have hve := enc_of (β := β) (H := H) ty _ fs he
    refine key _ _ ((fs.drop off).take (T.at_ t).size) v hv (VLs.take _ _ _ (VLs.drop _ _ _ hve)) h1 ?_ h2.symm
    intro j u hj
    rw [List.getElem?_take] at hj
    split at hj
    · have hj' := hcs (off + j) u (by simpa using hj)
      obtain ⟨ad', e2, _, hc⟩ := hrd _ _ hj'
      cases e2
      rw [add_add, show i.toNat * ty.size + off + j = i.toNat * ty.size + (off + j) by omega]
      exact hc
    · cases hj
  · rename_i k i e
    rw [e] at hx
    obtain ⟨u, e1, hl⟩ := hx
    simp only [leaf] at hl
    split at hs
    · rename_i el cs hk
      rw [hk] at hl
      obtain ⟨g, hg, hi, hv⟩ := hl
      obtain ⟨v, h1, h2⟩ := Option.bind_eq_some_iff.1 hs
      simp only [ok, Option.some.injEq] at h2
      have hob := c.rel.ob k
      rw [hk] at hob
      cases e1
      rcases hob with ⟨eg, _⟩ | ⟨g', cur, eg, eh, hn, hm, hsz, hvs⟩
      · rw [hg] at eg; cases eg
      · rw [hg] at eg
        cases eg
        refine key ⟨g, i, none⟩ _ (((cur.toList.take cs.length).drop i).take (T.at_ t).size) v hv (VLs.take _ _ _ (VLs.drop _ _ _ hvs)) h1 ?_ h2.symm
        intro j u hj
        rw [add_lit, cell_of_row w g (i + j) _ _ _ eh]
        rw [List.getElem?_take] at hj
        split at hj
        · rw [List.getElem?_drop, List.getElem?_take] at hj
          split at hj
          · simpa using hj
          · cases hj
        · cases hj
    · cases hs
  · cases hs
end
end Go.Proofs.Ytkpjcmiijlpcaaa.Aw
