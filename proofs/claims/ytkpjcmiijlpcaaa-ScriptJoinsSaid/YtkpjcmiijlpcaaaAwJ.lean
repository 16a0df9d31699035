/- An abstract program logic over the model, tenth part: stores, slices, lengths, appends, the least and the greatest. -/
import Derived.Test.YtkpjcmiijlpcaaaAwI
namespace Go.Proofs.Ytkpjcmiijlpcaaa.Aw
open Go

section
variable {P : Program} {T : Tab} {env : Env} {M S0 : Nat → Prop} {w0 : World} {S : Nat → Prop} {β : Nat → Cr} {H : Nat → Ob} {w : World} {o : Oper} {a : Act} {ev : Operand → AV} {nid : Nat} {r : Res}
theorem s_index {t : TypeId} {x i : Operand} (ho : o.op = .index t x i) (c : Cx P T M S0 w0 S β H w a ev nid r) (hs : semOp T env ev H nid o = some r) : Goes P M S0 w0 S β H w o a r := by
  simp only [semOp, ho] at hs
  have hx := c.hev x
  have hi := c.hev i
  split at hs
  · rename_i n e cc k j hd ex ei
    split at hs
    · rename_i off m hp
      split at hs
      · rename_i hc
        obtain ⟨v, h1, h2⟩ := Option.bind_eq_some_iff.1 hs
        simp only [ok, Option.some.injEq] at h2
        rw [ex] at hx
        rw [ei] at hi
        have hi := VL.int hi
        obtain ⟨cs, e1, hcs⟩ := VL.agg hx
        have hv := VL.list_of cc cs hc.1 hcs
        simp only [partOf, hd] at hp
        split at hp
        · cases hp
        · rename_i hk
          split at hp
          · simp only [Option.some.injEq, Prod.mk.injEq] at hp
            obtain ⟨q1, q2⟩ := hp
            subst q1
            subst q2
            obtain ⟨u, hu, hvu⟩ := part_of c.hT (cs := cs.toArray) (by simpa using hv) h1
            subst h2
            refine goes_same (u := u) c rfl (s := Instr.index t (a.eval x) (a.eval i)) (by simp only [execOp, ho]) ?_ hvu
            have h := (c.hT t (by rw [hd]; simp)).desc
            unfold DescOk at h
            rw [hd] at h
            rw [e1, hi]
            simp only [Instr.index, asIntOf, Sem.run_bind, Sem.run_pure, Result.andThen_ok, run_underlying h.1]
            rw [if_pos ⟨hc.2.1, hc.2.2.1⟩]
            simp only [Sem.run_bind, run_sizeOf c.hT (fun h => hk h), Result.andThen_ok]
            exact hu
          · cases hp
      · cases hs
    · cases hs
  · cases hs
theorem store_of {t : TypeId} (hT : TabOk P T) {g off : Nat} {cur : Array Value} {e : TypeId} {v : Value} (hg : w.heap[g]? = some (.cells cur e (0, 0))) (hk : (T.at_ t).d ≠ .unk) (hl : v.cells.toList.length = (T.at_ t).size) (ho : off + v.cells.toList.length ≤ cur.size) (h1 : ∀ u ∈ v.cells.toList, u.oneCell' = true) :
    (storeVar t ⟨g, off, none⟩ v).run P w = .ok () (w.setRow g (cur.toList.take off ++ v.cells.toList ++ cur.toList.drop (off + v.cells.toList.length)).toArray) := by
  have hsz := run_sizeOf hT hk w
  have hst := run_storeCells_at P g off e v.cells.toList 0 cur w hg (by simpa using ho) h1
  simp only [storeVar, Sem.run_bind, hsz, Result.andThen_ok]
  rw [if_neg (by rw [← hl]; simp)]
  simpa using hst
theorem size_setRow (w : World) (g : Nat) (cs : Array Value) : (w.setRow g cs).heap.size = w.heap.size := by simp [World.setRow]
theorem Cat.set {α : Type} {R : α → List Value → Prop} {n : Nat} (hR : ∀ x cs, R x cs → cs.length = n) : ∀ (xs : List α) cs (i : Nat) (y : α) (us : List Value), Cat R xs cs → i < xs.length → R y us → Cat R (xs.set i y) (cs.take (i * n) ++ us ++ cs.drop (i * n + us.length))
  | [], _, i, _, _, _, hi, _ => by simp at hi
  | x :: xs, _, 0, y, us, ⟨c1, c2, e, h1, h2⟩, _, hy => by
    have l1 := hR _ _ h1
    have l2 := hR _ _ hy
    refine ⟨us, c2, ?_, hy, h2⟩
    subst e
    rw [Nat.zero_mul, List.take_zero, List.nil_append, Nat.zero_add, l2, ← l1, List.drop_left]
  | x :: xs, _, i + 1, y, us, ⟨c1, c2, e, h1, h2⟩, hi, hy => by
    have l1 := hR _ _ h1
    have ih := Cat.set hR xs c2 i y us h2 (by simpa using hi) hy
    refine ⟨c1, _, ?_, h1, ih⟩
    subst e
    have e1 : (i + 1) * n = c1.length + i * n := by rw [Nat.add_mul, l1]; omega
    rw [e1, List.take_append, List.drop_append]
    have t1 : c1.take (c1.length + i * n) = c1 := List.take_of_length_le (by omega)
    have t2 : c1.drop (c1.length + i * n + us.length) = [] := List.drop_of_length_le (by omega)
    rw [t1, t2, show c1.length + i * n - c1.length = i * n by omega, show c1.length + i * n + us.length - c1.length = i * n + us.length by omega]
    simp
theorem splice (cl us : List Value) (m s N off : Nat) (h1 : off + us.length ≤ s) (h2 : m + s ≤ N) (h3 : N ≤ cl.length) :
    (cl.take (m + off) ++ us ++ cl.drop (m + off + us.length)).take N = (cl.take N).take m ++ ((((cl.take N).drop m).take s).take off ++ us ++ (((cl.take N).drop m).take s).drop (off + us.length)) ++ (cl.take N).drop (m + s) := by
  apply List.ext_getElem?
  intro j
  simp only [List.getElem?_take, List.getElem?_append, List.length_take, List.length_append, List.getElem?_drop, List.length_drop]
  have e1 : min (m + off) cl.length = m + off := by omega
  have e2 : min N cl.length = N := by omega
  have e3 : min m N = m := by omega
  have e4 : min s (N - m) = s := by omega
  have e5 : min off s = off := by omega
  simp only [e1, e2, e3, e4, e5]
  by_cases c1 : j < N
  · by_cases c2 : j < m
    · grind
    · by_cases c3 : j < m + off
      · grind
      · by_cases c4 : j < m + off + us.length
        · grind
        · by_cases c5 : j < m + s
          · grind
          · grind
  · grind
theorem s_store {t : TypeId} {x y : Operand} (ho : o.op = .store t x y) (c : Cx P T M S0 w0 S β H w a ev nid r) (hs : semOp T env ev H nid o = some r) : Goes P M S0 w0 S β H w o a r := by
  simp only [semOp, ho] at hs
  have hx := c.hev x
  split at hs
  · rename_i k off ex
    rw [ex] at hx
    obtain ⟨u, e1, hl⟩ := hx
    cases e1
    split at hs
    · rename_i el cs hk
      split at hs
      · rename_i l hc
        split at hs
        · rename_i hsz
          simp only [Option.some.injEq] at hs
          subst hs
          simp only [leaf, hk] at hl
          obtain ⟨g, hg, hv⟩ := hl
          obtain ⟨hvl, h1⟩ := VL.cells_of hc (c.hev y)
          have hob := c.rel.ob k
          rw [hk] at hob
          obtain ⟨g', vs, eg, eh, hvs⟩ := hob
          rw [hg] at eg
          cases eg
          have n1 := VLs.length _ _ hvl
          have n2 := VLs.length _ _ hvs
          have hst := store_of c.hT (t := t) (off := off) (v := a.eval y) eh (known_d hsz.1) (by rw [n1]; exact hsz.2.1) (by rw [n1]; simp only [List.size_toArray, n2]; exact hsz.2.2) h1
          have hput := VLs.putL cs vs off l _ hvs hvl (by rw [n1, n2]; exact hsz.2.2)
          obtain ⟨hr, hxt⟩ := c.rel.write k g (by rw [hk]; rfl) hg (.cells el (putL cs off l)) (by rw [hk]; exact .inr ⟨rfl, _, rfl⟩) (w' := w.setRow g (vs.take off ++ (a.eval y).cells.toList ++ vs.drop (off + (a.eval y).cells.toList.length)).toArray) rfl rfl rfl (size_setRow _ _ _) (fun b hb => setRow_other w g b _ hb)
            (fun hxt => ⟨g, _, hg, setRow_heap w g _ _ _ _ eh, VLs.ext hxt _ _ hput⟩)
          intro next Q hn
          refine wp_unit (s := Instr.storeAt t (a.eval x) (a.eval y)) (by simp only [execOp, ho]) ?_ (hn undef _ _ _ hr ⟨_, rfl, trivial⟩ hxt)
          rw [hv]
          simp only [Instr.storeAt, Instr.sureAddr, Sem.run_bind, Sem.run_pure, Result.andThen_ok]
          exact hst
        · cases hs
      · cases hs
    · cases hs
  · rename_i k i off ex
    rw [ex] at hx
    obtain ⟨u, e1, hl⟩ := hx
    cases e1
    split at hs
    · rename_i el ty xs hk
      split at hs
      · rename_i l hc
        split at hs
        · rename_i hsz
          split at hs
          · rename_i z hz
            simp only [Option.some.injEq] at hs
            subst hs
            simp only [leaf, hk] at hl
            obtain ⟨g, hg, h0, hi, hv⟩ := hl
            obtain ⟨hvl, h1⟩ := VL.cells_of hc (c.hev y)
            have hob := c.rel.ob k
            rw [hk] at hob
            rcases hob with ⟨eg, _⟩ | ⟨g', cur, eg, eh, hnc, hcm, hcs, hcat⟩
            · rw [hg] at eg; cases eg
            · rw [hg] at eg
              cases eg
              have hlt : i.toNat < xs.length := by omega
              have hget : xs[i.toNat]? = some (xs.getD i.toNat ty.zero) := by
                simp only [List.getD]
                rw [List.getElem?_eq_getElem hlt]
                rfl
              obtain ⟨es, he, hes⟩ := Cat.get (DR.length ty) xs _ i.toNat _ hcat hget
              have hen := enc_of (β := β) (H := H) ty _ es he
              have n1 := VLs.length _ _ hvl
              have n3 := DR.length ty _ _ he
              have hput := VLs.putL _ es off l _ hen hvl (by rw [n1, n3]; exact hsz.2.2)
              have hdz := dec1_of hput hz
              have hcat2 := Cat.set (DR.length ty) xs _ i.toNat z _ hcat hlt hdz
              have hmul : i.toNat * ty.size + ty.size ≤ xs.length * ty.size := by rw [← Nat.succ_mul]; exact Nat.mul_le_mul_right _ hlt
              have hcap : xs.length * ty.size ≤ (β k).cap * ty.size := Nat.mul_le_mul_right _ hnc
              have hst := store_of c.hT (t := t) (off := i.toNat * ty.size + off) (v := a.eval y) eh (known_d hsz.1) (by rw [n1]; exact hsz.2.1) (by rw [n1, hcs]; have := hsz.2.2; omega) h1
              have hlen := Cat.length (DR.length ty) _ _ hcat
              have hes2 : es = ((cur.toList.take (xs.length * ty.size)).drop (i.toNat * ty.size)).take ty.size := by
                apply List.ext_getElem?
                intro j
                by_cases hj : j < es.length
                · rw [List.getElem?_eq_getElem hj]
                  have := hes j es[j] (List.getElem?_eq_getElem hj)
                  rw [List.getElem?_take, if_pos (by omega), List.getElem?_drop]
                  exact this.symm
                · rw [List.getElem?_eq_none (by omega), List.getElem?_eq_none (by rw [List.length_take]; omega)]
              have hce : (cur.toList.take (i.toNat * ty.size + off) ++ (a.eval y).cells.toList ++ cur.toList.drop (i.toNat * ty.size + off + (a.eval y).cells.toList.length)).take (xs.length * ty.size) = (cur.toList.take (xs.length * ty.size)).take (i.toNat * ty.size) ++ (es.take off ++ (a.eval y).cells.toList ++ es.drop (off + (a.eval y).cells.toList.length)) ++ (cur.toList.take (xs.length * ty.size)).drop (i.toNat * ty.size + (es.take off ++ (a.eval y).cells.toList ++ es.drop (off + (a.eval y).cells.toList.length)).length) := by
                have q1 : off + (a.eval y).cells.toList.length ≤ ty.size := by rw [n1]; exact hsz.2.2
                have q2 : xs.length * ty.size ≤ cur.toList.length := by
                  have e : cur.toList.length = cur.size := Array.length_toList
                  rw [e, hcs]; exact hcap
                have q3 : (es.take off ++ (a.eval y).cells.toList ++ es.drop (off + (a.eval y).cells.toList.length)).length = ty.size := by
                  rw [List.length_append, List.length_append, List.length_take, List.length_drop]; omega
                rw [q3, hes2]
                exact splice _ _ _ _ _ _ q1 hmul q2
              obtain ⟨hr, hxt⟩ := c.rel.write k g (by rw [hk]; rfl) hg (.row el ty (xs.set i.toNat z)) (by rw [hk]; exact .inr ⟨rfl, _, rfl, by simp⟩) (w' := w.setRow g (cur.toList.take (i.toNat * ty.size + off) ++ (a.eval y).cells.toList ++ cur.toList.drop (i.toNat * ty.size + off + (a.eval y).cells.toList.length)).toArray) rfl rfl rfl (size_setRow _ _ _) (fun b hb => setRow_other w g b _ hb)
                (fun hxt => .inr ⟨g, _, hg, setRow_heap w g _ _ _ _ eh, by simpa using hnc, hcm, by
                  rw [← hcs]
                  show (_ : List Value).length = _
                  have e : cur.toList.length = cur.size := Array.length_toList
                  rw [List.length_append, List.length_append, List.length_take, List.length_drop, n1]; have := hsz.2.2; omega, by
                  rw [List.length_set, hce]
                  exact Cat.dr_mono hxt.hS hcat2⟩)
              intro next Q hn
              refine wp_unit (s := Instr.storeAt t (a.eval x) (a.eval y)) (by simp only [execOp, ho]) ?_ (hn undef _ _ _ hr ⟨_, rfl, trivial⟩ hxt)
              rw [hv]
              simp only [Instr.storeAt, Instr.sureAddr, Sem.run_bind, Sem.run_pure, Result.andThen_ok]
              rw [add_lit, Nat.zero_add]
              exact hst
          · cases hs
        · cases hs
      · cases hs
    · cases hs
  · cases hs
end
end Go.Proofs.Ytkpjcmiijlpcaaa.Aw
