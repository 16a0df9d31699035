/- An abstract program logic over the model, ninth part: elements' addresses, slices, appends. -/
import Derived.Test.YtkpjcmiijlpcaaaAwH
namespace Go.Proofs.Ytkpjcmiijlpcaaa.Aw
open Go

section
variable {P : Program} {T : Tab} {env : Env} {M S0 : Nat → Prop} {w0 : World} {S : Nat → Prop} {β : Nat → Cr} {H : Nat → Ob} {w : World} {o : Oper} {a : Act} {ev : Operand → AV} {nid : Nat} {r : Res}
theorem known_d {i : TI} (h : i.known = true) : i.d ≠ .unk := by
  intro e
  simp [TI.known, e] at h
theorem rowV_some {c : Cr} {g n : Nat} (h : c.g = some g) : rowV c n = .slice (some ⟨g, 0, none⟩) n c.cap := by unfold rowV; rw [h]
theorem run_indexAddr_slice {t e : TypeId} (hT : TabOk P T) (hd : (T.at_ t).d = .slice e) (he : (T.at_ e).d ≠ .unk) (ad : Addr) (n cap : Nat) (k : IntKind) (j : Int) (h0 : 0 ≤ j) (h1 : j < (n : Int)) :
    (Instr.indexAt t (.slice (some ad) n cap) (.int k j)).run P w = .ok (.pointer (some (ad.add (j.toNat * (T.at_ e).size)))) w := by
  have h := (hT t (by rw [hd]; simp)).desc
  unfold DescOk at h
  rw [hd] at h
  have hel : P.elem t = e := by simp [Program.elem, h]
  rw [run_indexAt_slice (P := P) w t ad n cap k j (by rw [hel]; exact h), if_pos ⟨h0, h1⟩, hel, run_sizeOf hT he]
  rfl
theorem run_indexAddr_array {t e : TypeId} {n : Nat} (hT : TabOk P T) (hd : (T.at_ t).d = .array n e) (he : (T.at_ e).d ≠ .unk) (ad : Addr) (k : IntKind) (j : Int) (h0 : 0 ≤ j) (h1 : j < (n : Int)) :
    (Instr.indexAt t (.pointer (some ad)) (.int k j)).run P w = .ok (.pointer (some (ad.add (j.toNat * (T.at_ e).size)))) w := by
  have h := (hT t (by rw [hd]; simp)).desc
  unfold DescOk at h
  rw [hd] at h
  have hel : P.elem t = e := by simp [Program.elem, h.1]
  have hn : P.arrayLen t = n := by simp [Program.arrayLen, h.1]
  rw [run_indexAt_array (P := P) w t ad k j (by rw [hel, hn]; exact h.1), hn, if_pos ⟨h0, h1⟩, hel, run_sizeOf hT he]
  rfl
theorem DR.list_at {e : TypeId} {t : Ty} {xs : List t.den} {u : Value} (h : DR S w (.list e t) xs [u]) (hs : 0 < t.size) (hx : xs ≠ []) : ∃ ad n c es, u = .slice (some ad) n c ∧ n = xs.length ∧ n ≤ c ∧ Cat (DR S w t) xs es ∧ Rd S w (some ad) es := by
  obtain ⟨ao, n, c, es, e1, e2, e3, e4, e5, _⟩ := h
  cases e1
  have hl := Cat.length (DR.length t) _ _ e4
  have hpos : 0 < es.length := by
    rw [hl]
    exact Nat.mul_pos (List.length_pos_iff.2 hx) hs
  obtain ⟨ad, e6, _⟩ := e5 0 es[0] (List.getElem?_eq_getElem hpos)
  subst e6
  exact ⟨ad, n, c, es, rfl, e2, e3, e4, e5⟩
theorem s_indexAddr {t : TypeId} {x i : Operand} (ho : o.op = .indexAddr t x i) (c : Cx P T M S0 w0 S β H w a ev nid r) (hs : semOp T env ev H nid o = some r) : Goes P M S0 w0 S β H w o a r := by
  simp only [semOp, ho] at hs
  have hx := c.hev x
  have hi := c.hev i
  have key : ∀ (v : AV) (gs : List Prop) (u : Value), (Instr.indexAt t (a.eval x) (a.eval i)).run P w = .ok u w → VL S w β H v [u] → r = ⟨gs, v, []⟩ → Goes P M S0 w0 S β H w o a r := by
    intro v gs u hr hv e
    subst e
    exact goes_same (u := u) c rfl (s := Instr.indexAt t (a.eval x) (a.eval i)) (by simp only [execOp, ho]) hr hv
  split at hs
  · rename_i n e k j hd ei
    rw [ei] at hi
    have hi := VL.int hi
    split at hs
    rotate_left
    · cases hs
    · rename_i hsz
      have he : (T.at_ e).d ≠ .unk := known_d hsz
      split at hs
      · rename_i k' off ex
        rw [ex] at hx
        simp only [okIf, Option.some.injEq] at hs
        have g0 := c.hgs (0 ≤ j) (by rw [← hs]; simp)
        have g1 := c.hgs (j < (n : Int)) (by rw [← hs]; simp)
        obtain ⟨u, e1, hl⟩ := hx
        cases e1
        simp only [leaf] at hl
        split at hl
        · rename_i hk
          obtain ⟨g, hg, hv⟩ := hl
          refine key (.ptr k' (off + j.toNat * (T.at_ e).size)) _ (.pointer (some ((⟨g, off, none⟩ : Addr).add (j.toNat * (T.at_ e).size)))) ?_ ⟨_, rfl, ?_⟩ hs.symm
          · rw [hv, hi]; exact run_indexAddr_array c.hT hd he _ _ _ g0 g1
          · simp only [leaf, hk]
            exact ⟨g, hg, by rw [add_lit]⟩
        · rename_i hk
          obtain ⟨ad, hv⟩ := hl
          refine key (.ptr k' (off + j.toNat * (T.at_ e).size)) _ (.pointer (some (ad.add (j.toNat * (T.at_ e).size)))) ?_ ⟨_, rfl, ?_⟩ hs.symm
          · rw [hv, hi]; exact run_indexAddr_array c.hT hd he _ _ _ g0 g1
          · simp only [leaf, hk]
            exact ⟨_, rfl⟩
        · exact hl.elim
      · rename_i k' i' off ex
        rw [ex] at hx
        simp only [okIf, Option.some.injEq] at hs
        have g0 := c.hgs (0 ≤ j) (by rw [← hs]; simp)
        have g1 := c.hgs (j < (n : Int)) (by rw [← hs]; simp)
        obtain ⟨u, e1, hl⟩ := hx
        cases e1
        simp only [leaf] at hl
        split at hl
        · rename_i el ty xs hk
          obtain ⟨g, hg, q0, q1, hv⟩ := hl
          refine key (.rptr k' i' (off + j.toNat * (T.at_ e).size)) _ (.pointer (some (((⟨g, 0, none⟩ : Addr).add (i'.toNat * ty.size + off)).add (j.toNat * (T.at_ e).size)))) ?_ ⟨_, rfl, ?_⟩ hs.symm
          · rw [hv, hi]; exact run_indexAddr_array c.hT hd he _ _ _ g0 g1
          · simp only [leaf, hk]
            exact ⟨g, hg, q0, q1, by rw [add_add, Nat.add_assoc]⟩
        · rename_i el ty xs hk
          obtain ⟨g, hg, q0, q1, hv⟩ := hl
          refine key (.rptr k' i' (off + j.toNat * (T.at_ e).size)) _ (.pointer (some (((⟨g, 0, none⟩ : Addr).add (i'.toNat * ty.size + off)).add (j.toNat * (T.at_ e).size)))) ?_ ⟨_, rfl, ?_⟩ hs.symm
          · rw [hv, hi]; exact run_indexAddr_array c.hT hd he _ _ _ g0 g1
          · simp only [leaf, hk]
            exact ⟨g, hg, q0, q1, by rw [add_add, Nat.add_assoc]⟩
        · rename_i el ty xs _ _ hk
          obtain ⟨g, hg, q0, q1, hv⟩ := hl
          refine key (.rptr k' i' (off + j.toNat * (T.at_ e).size)) _ (.pointer (some (((⟨g, 0, none⟩ : Addr).add (i'.toNat * ty.size + off)).add (j.toNat * (T.at_ e).size)))) ?_ ⟨_, rfl, ?_⟩ hs.symm
          · rw [hv, hi]; exact run_indexAddr_array c.hT hd he _ _ _ g0 g1
          · simp only [leaf, hk]
            exact ⟨g, hg, q0, q1, by rw [add_add, Nat.add_assoc]⟩
        · rename_i hk
          obtain ⟨ad, hv⟩ := hl
          refine key (.rptr k' i' (off + j.toNat * (T.at_ e).size)) _ (.pointer (some (ad.add (j.toNat * (T.at_ e).size)))) ?_ ⟨_, rfl, ?_⟩ hs.symm
          · rw [hv, hi]; exact run_indexAddr_array c.hT hd he _ _ _ g0 g1
          · simp only [leaf, hk]
            exact ⟨_, rfl⟩
        · exact hl.elim
      · rename_i e' t' xs i' off ex
        rw [ex] at hx
        simp only [okIf, Option.some.injEq] at hs
        obtain ⟨u, e1, hl⟩ := hx
        cases e1
        obtain ⟨q0, q1, ad, es, hcat, hrd, hv⟩ := hl
        have g0 := c.hgs (0 ≤ j) (by rw [← hs]; simp)
        have g1 := c.hgs (j < (n : Int)) (by rw [← hs]; simp)
        refine key (.lptr e' t' xs i' (off + j.toNat * (T.at_ e).size)) _ (.pointer (some (ad.add (i'.toNat * t'.size + (off + j.toNat * (T.at_ e).size))))) ?_ ⟨_, rfl, q0, q1, ad, es, hcat, hrd, rfl⟩ hs.symm
        rw [hv, hi, run_indexAddr_array c.hT hd he _ _ _ g0 g1, add_add, Nat.add_assoc]
      · cases hs
  · rename_i e k j hd ei
    rw [ei] at hi
    have hi := VL.int hi
    split at hs
    · rename_i k' ex
      rw [ex] at hx
      split at hs
      · rename_i el ty xs hk
        split at hs
        · rename_i hsz
          have he : (T.at_ e).d ≠ .unk := known_d hsz.1
          simp only [okIf, Option.some.injEq] at hs
          obtain ⟨u, e1, hl⟩ := hx
          cases e1
          simp only [leaf, hk] at hl
          have g0 := c.hgs (0 ≤ j) (by rw [← hs]; simp)
          have g1 := c.hgs (j < (xs.length : Int)) (by rw [← hs]; simp)
          have hob := c.rel.ob k'
          rw [hk] at hob
          rcases hob with ⟨_, e2⟩ | ⟨g, cur, e2, _⟩
          · subst e2; simp at g1; omega
          · refine key (.rptr k' j 0) _ (.pointer (some ((⟨g, 0, none⟩ : Addr).add (j.toNat * (T.at_ e).size)))) ?_ ⟨_, rfl, ?_⟩ hs.symm
            · rw [hl, hi, rowV_some e2]; exact run_indexAddr_slice c.hT hd he _ _ _ _ _ g0 g1
            · simp only [leaf, hk]
              exact ⟨g, e2, g0, g1, by rw [hsz.2.1, Nat.add_zero]⟩
        · cases hs
      · rename_i el ty xs hk
        split at hs
        · rename_i hsz
          have he : (T.at_ e).d ≠ .unk := known_d hsz.1
          simp only [okIf, Option.some.injEq] at hs
          obtain ⟨u, e1, hl⟩ := hx
          cases e1
          simp only [leaf, hk] at hl
          have g0 := c.hgs (0 ≤ j) (by rw [← hs]; simp)
          have g1 := c.hgs (j < (xs.length : Int)) (by rw [← hs]; simp)
          have hob := c.rel.ob k'
          rw [hk] at hob
          rcases hob with ⟨_, e2, _⟩ | ⟨g, cur, e2, _⟩
          · subst e2; simp at g1; omega
          · refine key (.rptr k' j 0) _ (.pointer (some ((⟨g, 0, none⟩ : Addr).add (j.toNat * (T.at_ e).size)))) ?_ ⟨_, rfl, ?_⟩ hs.symm
            · rw [hl, hi, rowV_some e2]; exact run_indexAddr_slice c.hT hd he _ _ _ _ _ g0 g1
            · simp only [leaf, hk]
              exact ⟨g, e2, g0, g1, by rw [hsz.2.1, Nat.add_zero]⟩
        · cases hs
      · rename_i el ty xs _ _ hk
        split at hs
        · rename_i hsz
          have he : (T.at_ e).d ≠ .unk := known_d hsz.1
          simp only [okIf, Option.some.injEq] at hs
          obtain ⟨u, e1, hl⟩ := hx
          cases e1
          simp only [leaf, hk] at hl
          have g0 := c.hgs (0 ≤ j) (by rw [← hs]; simp)
          have g1 := c.hgs (j < (xs.length : Int)) (by rw [← hs]; simp)
          have hob := c.rel.ob k'
          rw [hk] at hob
          obtain ⟨g, cur, e2, _⟩ := hob
          refine key (.rptr k' j 0) _ (.pointer (some ((⟨g, 0, none⟩ : Addr).add (j.toNat * (T.at_ e).size)))) ?_ ⟨_, rfl, ?_⟩ hs.symm
          · rw [hl, hi, rowV_some e2]; exact run_indexAddr_slice c.hT hd he _ _ _ _ _ g0 g1
          · simp only [leaf, hk]
            exact ⟨g, e2, g0, g1, by rw [hsz.2.1, Nat.add_zero]⟩
        · cases hs
      · cases hs
    · rename_i e' ty xs ex
      rw [ex] at hx
      split at hs
      · rename_i hsz
        have he : (T.at_ e).d ≠ .unk := known_d hsz.1
        simp only [okIf, Option.some.injEq] at hs
        obtain ⟨u, e1, hl⟩ := hx
        cases e1
        have g0 := c.hgs (0 ≤ j) (by rw [← hs]; simp)
        have g1 := c.hgs (j < (xs.length : Int)) (by rw [← hs]; simp)
        obtain ⟨ad, n, cc, es, e2, e3, e4, e5, e6⟩ := DR.list_at (e := e') hl hsz.2.2 (by intro h; rw [h] at g1; simp at g1; omega)
        refine key (.lptr e' ty xs j 0) _ (.pointer (some (ad.add (j.toNat * ty.size + 0)))) ?_ ⟨_, rfl, g0, g1, ad, es, e5, e6, rfl⟩ hs.symm
        rw [e2, hi, run_indexAddr_slice c.hT hd he _ _ _ _ _ g0 (by rw [e3]; exact g1), hsz.2.1, Nat.add_zero]
      · cases hs
    · rename_i k' lo n e' ty ex
      rw [ex] at hx
      obtain ⟨u, e1, hl⟩ := hx
      cases e1
      split at hs
      · rename_i el ty' xs hk
        split at hs
        rotate_left
        · cases hs
        rename_i hsz
        obtain ⟨hk1, hk2, rfl, hk3⟩ := hsz
        have he : (T.at_ e).d ≠ .unk := known_d hk1
        simp only [okIf, Option.some.injEq] at hs
        simp only [leaf, hk] at hl
        obtain ⟨ao, cc, hv, h0, h1, h2, h3⟩ := hl
        have g0 := c.hgs (0 ≤ j) (by rw [← hs]; simp)
        have g1 := c.hgs (j < (n : Int)) (by rw [← hs]; simp)
        obtain ⟨g, q1, q2⟩ := h2 (by omega)
        refine key (.rptr k' (lo + j) 0) _ (.pointer (some ((⟨g, lo * ty'.size, none⟩ : Addr).add (j.toNat * (T.at_ e).size)))) ?_ ⟨_, rfl, ?_⟩ hs.symm
        · rw [hv, hi, q2]; exact run_indexAddr_slice c.hT hd he _ _ _ _ _ g0 g1
        · simp only [leaf, hk]
          refine ⟨g, q1, by omega, by omega, ?_⟩
          rw [add_lit, add_lit, hk2]
          have : ((lo : Int) + j).toNat = lo + j.toNat := by omega
          rw [this, Nat.add_mul]
          simp
      · rename_i el cs hk
        split at hs
        rotate_left
        · cases hs
        rename_i hsz
        have he : (T.at_ e).d ≠ .unk := known_d hsz.1
        simp only [okIf, Option.some.injEq] at hs
        simp only [leaf, hk] at hl
        obtain ⟨ao, cc, hv, h0, h2, h3⟩ := hl
        have g0 := c.hgs (0 ≤ j) (by rw [← hs]; simp)
        have g1 := c.hgs (j < (n : Int)) (by rw [← hs]; simp)
        obtain ⟨g, q1, q2⟩ := h2 (by omega)
        refine key (.ptr k' (lo + j.toNat * ty.size)) _ (.pointer (some ((⟨g, lo, none⟩ : Addr).add (j.toNat * (T.at_ e).size)))) ?_ ⟨_, rfl, ?_⟩ hs.symm
        · rw [hv, hi, q2]; exact run_indexAddr_slice c.hT hd he _ _ _ _ _ g0 g1
        · simp only [leaf, hk]
          exact ⟨g, q1, by rw [add_lit, hsz.2]⟩
      · cases hs
    · rename_i k' ex
      rw [ex] at hx
      obtain ⟨u, e1, hl⟩ := hx
      cases e1
      split at hs
      · rename_i el cs hk
        split at hs
        rotate_left
        · cases hs
        rename_i hsz
        have he : (T.at_ e).d ≠ .unk := known_d hsz.1
        simp only [okIf, Option.some.injEq] at hs
        simp only [leaf, hk] at hl
        have g0 := c.hgs (0 ≤ j) (by rw [← hs]; simp)
        have g1 := c.hgs (j < (cs.length : Int)) (by rw [← hs]; simp)
        have hob := c.rel.ob k'
        rw [hk] at hob
        rcases hob with ⟨_, e2⟩ | ⟨g, cur, e2, _⟩
        · subst e2; simp at g1; omega
        · refine key (.pptr k' j.toNat) _ (.pointer (some ((⟨g, 0, none⟩ : Addr).add (j.toNat * (T.at_ e).size)))) ?_ ⟨_, rfl, ?_⟩ hs.symm
          · rw [hl, hi, rowV_some e2]; exact run_indexAddr_slice c.hT hd he _ _ _ _ _ g0 g1
          · simp only [leaf, hk]
            exact ⟨g, e2, by omega, by rw [add_lit, hsz.2]; simp⟩
      · cases hs
    · cases hs
  · cases hs
end
end Go.Proofs.Ytkpjcmiijlpcaaa.Aw
